/-
  NARROWER THAN 'FOR EVERY INPUT', by the rows' own cells (each row's printed sentence says how): HardQuiet: laid · HardDead: laid · HardGates: laid · HardWakes: laid · HardResets: laid · HardKeeps: laid.
  DERIVED. THE GIVEN ROWS OF THIS SEAT. 6 by the template 'for every input the law returns true; each argument reads behind the call as it read before'; 0 by the template 'total and deterministic' (their statements: YtdmfgodajoojpaaGreatDoorTotals.lean).
  GIVEN WITH THE SEED: the statements are not yours to turn. If you find one false, say at which input.
  Laid BY PROGRAM, IN A SANDBOX (cutbox-rows.mjs): the forced cells as the released guide's own fill.sh prints them over the translation 30988ecd12070c1e… (all of the seat's roots in one cut). By AI agents, Wed Nov 11 2026. No macro, syntax, notation, axiom, sorry.
-/
import Derived.Test.YtdmfgodajoojpaaGreatDoorChecked
import GoSem.Claim
import GoSem.ClaimJoined
import GoSem.ClaimMapViews
import Derived.JoinedTies
import Derived.KernelRfl
namespace Go.Proofs.YtdmfgodajoojpaaGreatDoor
/- THE CELL 'sum', in the pinned program and in every row, IS THE sha256 OF THE DUMP (.gsa) THAT YtdmfgodajoojpaaGreatDoorProg.lean LOADS. Nothing in Lean hashes anything: it is a label: what it is worth is what the hold of that sum in a sandbox is worth. -/
noncomputable def Tryz.pinned : Pinned := { name := "ytdmfgodajoojpaagreatdoor", sum := "30988ecd12070c1ec33976bd81c4b9de81c05b18c7e16551e1d54de270d0cc61", checked := Tryz.checked }
namespace Rows
def none {H : Type} : Left H := { results := [], args := [] }

/- WHAT THE LISTED PACKAGE-LEVEL VARIABLES READ AS WHEN THE CALL BEGINS. Each datum BY PROGRAM (the guide's laid-datum.mjs) off the statement by which the dump's own 'gosem.cut.vars' lays the variable. In a bare row this is a premise. The card (YtdmfgodajoojpaaGreatDoorCards.lean) ties it to the program's text. -/
def laid_catnap_quiet_letters {H : Type} : DataW H := .agg [.lit (.int .u8 114), .lit (.int .u8 97), .lit (.int .u8 115), .lit (.int .u8 100)]

/-- 'catnaplaw12.HardQuiet': WHATEVER THE INPUT: true; the input reads as it did. -/
def hardQuietSpec : ChangeSpec := { name := "hardQuiet", fn := fun _ => fun
  | [d1, d2, d3, d4] => { results := [.lit (.bool true)], args := [d1, d2, d3, d4] }
  | _ => none }
def hardQuietRow : OpenClaim := { program := "ytdmfgodajoojpaagreatdoor", sum := "30988ecd12070c1ec33976bd81c4b9de81c05b18c7e16551e1d54de270d0cc61", func := "catnap/catnaplaw12.HardQuiet", spec := "hardQuiet", unfollowed := true, recurses := true, named := ["catnap/quiet.letters"], apart := false, laid := [("catnap/quiet.letters", laid_catnap_quiet_letters)] }
def HardQuietSaid : Prop := hardQuietRow.holds Tryz.pinned (OpenSpec.ofChange hardQuietSpec)

/-- ITS FALSE NEIGHBOUR: 'it returns false'. Refute it at one input. -/
def hardQuietWrong : ChangeSpec := { name := "hardQuiet", fn := fun _ => fun
  | [d1, d2, d3, d4] => { results := [.lit (.bool false)], args := [d1, d2, d3, d4] }
  | _ => none }
def HardQuietWrongFalsely : Prop := hardQuietRow.holds Tryz.pinned (OpenSpec.ofChange hardQuietWrong)

/-- 'catnaplaw12.HardDead': WHATEVER THE INPUT: true; the input reads as it did. -/
def hardDeadSpec : ChangeSpec := { name := "hardDead", fn := fun _ => fun
  | [d1, d2, d3] => { results := [.lit (.bool true)], args := [d1, d2, d3] }
  | _ => none }
def hardDeadRow : OpenClaim := { program := "ytdmfgodajoojpaagreatdoor", sum := "30988ecd12070c1ec33976bd81c4b9de81c05b18c7e16551e1d54de270d0cc61", func := "catnap/catnaplaw12.HardDead", spec := "hardDead", unfollowed := true, recurses := true, named := ["catnap/quiet.letters"], apart := false, laid := [("catnap/quiet.letters", laid_catnap_quiet_letters)] }
def HardDeadSaid : Prop := hardDeadRow.holds Tryz.pinned (OpenSpec.ofChange hardDeadSpec)

/-- ITS FALSE NEIGHBOUR: 'it returns false'. Refute it at one input. -/
def hardDeadWrong : ChangeSpec := { name := "hardDead", fn := fun _ => fun
  | [d1, d2, d3] => { results := [.lit (.bool false)], args := [d1, d2, d3] }
  | _ => none }
def HardDeadWrongFalsely : Prop := hardDeadRow.holds Tryz.pinned (OpenSpec.ofChange hardDeadWrong)

/-- 'catnaplaw12.HardGates': WHATEVER THE INPUT: true; the input reads as it did. -/
def hardGatesSpec : ChangeSpec := { name := "hardGates", fn := fun _ => fun
  | [d1, d2, d3] => { results := [.lit (.bool true)], args := [d1, d2, d3] }
  | _ => none }
def hardGatesRow : OpenClaim := { program := "ytdmfgodajoojpaagreatdoor", sum := "30988ecd12070c1ec33976bd81c4b9de81c05b18c7e16551e1d54de270d0cc61", func := "catnap/catnaplaw12.HardGates", spec := "hardGates", unfollowed := true, recurses := true, named := ["catnap/quiet.letters"], apart := false, laid := [("catnap/quiet.letters", laid_catnap_quiet_letters)] }
def HardGatesSaid : Prop := hardGatesRow.holds Tryz.pinned (OpenSpec.ofChange hardGatesSpec)

/-- ITS FALSE NEIGHBOUR: 'it returns false'. Refute it at one input. -/
def hardGatesWrong : ChangeSpec := { name := "hardGates", fn := fun _ => fun
  | [d1, d2, d3] => { results := [.lit (.bool false)], args := [d1, d2, d3] }
  | _ => none }
def HardGatesWrongFalsely : Prop := hardGatesRow.holds Tryz.pinned (OpenSpec.ofChange hardGatesWrong)

/-- 'catnaplaw12.HardWakes': WHATEVER THE INPUT: true; the input reads as it did. -/
def hardWakesSpec : ChangeSpec := { name := "hardWakes", fn := fun _ => fun
  | [d1, d2, d3, d4] => { results := [.lit (.bool true)], args := [d1, d2, d3, d4] }
  | _ => none }
def hardWakesRow : OpenClaim := { program := "ytdmfgodajoojpaagreatdoor", sum := "30988ecd12070c1ec33976bd81c4b9de81c05b18c7e16551e1d54de270d0cc61", func := "catnap/catnaplaw12.HardWakes", spec := "hardWakes", unfollowed := true, recurses := true, named := ["catnap/quiet.letters"], apart := false, laid := [("catnap/quiet.letters", laid_catnap_quiet_letters)] }
def HardWakesSaid : Prop := hardWakesRow.holds Tryz.pinned (OpenSpec.ofChange hardWakesSpec)

/-- ITS FALSE NEIGHBOUR: 'it returns false'. Refute it at one input. -/
def hardWakesWrong : ChangeSpec := { name := "hardWakes", fn := fun _ => fun
  | [d1, d2, d3, d4] => { results := [.lit (.bool false)], args := [d1, d2, d3, d4] }
  | _ => none }
def HardWakesWrongFalsely : Prop := hardWakesRow.holds Tryz.pinned (OpenSpec.ofChange hardWakesWrong)

/-- 'catnaplaw12.HardResets': WHATEVER THE INPUT: true; the input reads as it did. -/
def hardResetsSpec : ChangeSpec := { name := "hardResets", fn := fun _ => fun
  | [d1, d2, d3] => { results := [.lit (.bool true)], args := [d1, d2, d3] }
  | _ => none }
def hardResetsRow : OpenClaim := { program := "ytdmfgodajoojpaagreatdoor", sum := "30988ecd12070c1ec33976bd81c4b9de81c05b18c7e16551e1d54de270d0cc61", func := "catnap/catnaplaw12.HardResets", spec := "hardResets", unfollowed := true, recurses := true, named := ["catnap/quiet.letters"], apart := false, laid := [("catnap/quiet.letters", laid_catnap_quiet_letters)] }
def HardResetsSaid : Prop := hardResetsRow.holds Tryz.pinned (OpenSpec.ofChange hardResetsSpec)

/-- ITS FALSE NEIGHBOUR: 'it returns false'. Refute it at one input. -/
def hardResetsWrong : ChangeSpec := { name := "hardResets", fn := fun _ => fun
  | [d1, d2, d3] => { results := [.lit (.bool false)], args := [d1, d2, d3] }
  | _ => none }
def HardResetsWrongFalsely : Prop := hardResetsRow.holds Tryz.pinned (OpenSpec.ofChange hardResetsWrong)

/-- 'catnaplaw12.HardKeeps': WHATEVER THE INPUT: true; the input reads as it did. -/
def hardKeepsSpec : ChangeSpec := { name := "hardKeeps", fn := fun _ => fun
  | [d1, d2, d3, d4] => { results := [.lit (.bool true)], args := [d1, d2, d3, d4] }
  | _ => none }
def hardKeepsRow : OpenClaim := { program := "ytdmfgodajoojpaagreatdoor", sum := "30988ecd12070c1ec33976bd81c4b9de81c05b18c7e16551e1d54de270d0cc61", func := "catnap/catnaplaw12.HardKeeps", spec := "hardKeeps", unfollowed := true, recurses := true, named := ["catnap/quiet.letters"], apart := false, laid := [("catnap/quiet.letters", laid_catnap_quiet_letters)] }
def HardKeepsSaid : Prop := hardKeepsRow.holds Tryz.pinned (OpenSpec.ofChange hardKeepsSpec)

/-- ITS FALSE NEIGHBOUR: 'it returns false'. Refute it at one input. -/
def hardKeepsWrong : ChangeSpec := { name := "hardKeeps", fn := fun _ => fun
  | [d1, d2, d3, d4] => { results := [.lit (.bool false)], args := [d1, d2, d3, d4] }
  | _ => none }
def HardKeepsWrongFalsely : Prop := hardKeepsRow.holds Tryz.pinned (OpenSpec.ofChange hardKeepsWrong)

/- THE SECOND FORM. 'bulk': how many values and letters a reading holds, each counted each time it is reached (what is shared counts as often as it is met; a slice's spare places count too). A statement '..UptoSaid' is the law's where the arguments, and the package variables that the reading takes, are together of bulk at most 1048576: NARROWER than '..Said'. Prove '..Said' where nothing that the law and all that it calls make is longer than what came in: it says more and counts as full. Else prove '..UptoSaid'. A law counts once. -/
mutual
def uptoBulk {H : Type} : DataW H → Nat
  | .lit (.string bytes) => bytes.length + 1
  | .lit _ => 1
  | .nil => 1
  | .ptr d => uptoBulk d + 1
  | .slice elems spare => uptoBulkAll elems + uptoBulkAll spare + 1
  | .agg parts => uptoBulkAll parts + 1
  | .iface _ d => uptoBulk d + 1
  | .map entries => uptoBulkEntries entries + 1
  | .held _ => 1
def uptoBulkAll {H : Type} : List (DataW H) → Nat
  | [] => 0
  | d :: r => uptoBulk d + uptoBulkAll r
def uptoBulkEntries {H : Type} : List (Lit × DataW H) → Nat
  | [] => 0
  | x :: r => uptoBulkEntry x + uptoBulkEntries r
def uptoBulkEntry {H : Type} : Lit × DataW H → Nat
  | (.string bytes, d) => bytes.length + uptoBulk d + 1
  | (_, d) => uptoBulk d + 1
 end
def uptoSmall : (H : Type) → List (DataW H) → Bool := fun _ ds => decide (uptoBulkAll ds ≤ 1048576)
def OpenSpec.upto (s : _root_.Go.ChangeSpec) : _root_.Go.OpenSpec := { _root_.Go.OpenSpec.ofChange s with cond := some uptoSmall }

/-- 'catnaplaw12.HardQuiet', WHERE WHAT IT READS IS OF BULK AT MOST 1048576: true; the input reads as it did. -/
def hardQuietUptoRow : OpenClaim := { program := "ytdmfgodajoojpaagreatdoor", sum := "30988ecd12070c1ec33976bd81c4b9de81c05b18c7e16551e1d54de270d0cc61", func := "catnap/catnaplaw12.HardQuiet", spec := "hardQuiet", unfollowed := true, recurses := true, named := ["catnap/quiet.letters"], apart := false, laid := [("catnap/quiet.letters", laid_catnap_quiet_letters)], narrowed := true }
def HardQuietUptoSaid : Prop := hardQuietUptoRow.holds Tryz.pinned (OpenSpec.upto hardQuietSpec)

/-- 'catnaplaw12.HardDead', WHERE WHAT IT READS IS OF BULK AT MOST 1048576: true; the input reads as it did. -/
def hardDeadUptoRow : OpenClaim := { program := "ytdmfgodajoojpaagreatdoor", sum := "30988ecd12070c1ec33976bd81c4b9de81c05b18c7e16551e1d54de270d0cc61", func := "catnap/catnaplaw12.HardDead", spec := "hardDead", unfollowed := true, recurses := true, named := ["catnap/quiet.letters"], apart := false, laid := [("catnap/quiet.letters", laid_catnap_quiet_letters)], narrowed := true }
def HardDeadUptoSaid : Prop := hardDeadUptoRow.holds Tryz.pinned (OpenSpec.upto hardDeadSpec)

/-- 'catnaplaw12.HardGates', WHERE WHAT IT READS IS OF BULK AT MOST 1048576: true; the input reads as it did. -/
def hardGatesUptoRow : OpenClaim := { program := "ytdmfgodajoojpaagreatdoor", sum := "30988ecd12070c1ec33976bd81c4b9de81c05b18c7e16551e1d54de270d0cc61", func := "catnap/catnaplaw12.HardGates", spec := "hardGates", unfollowed := true, recurses := true, named := ["catnap/quiet.letters"], apart := false, laid := [("catnap/quiet.letters", laid_catnap_quiet_letters)], narrowed := true }
def HardGatesUptoSaid : Prop := hardGatesUptoRow.holds Tryz.pinned (OpenSpec.upto hardGatesSpec)

/-- 'catnaplaw12.HardWakes', WHERE WHAT IT READS IS OF BULK AT MOST 1048576: true; the input reads as it did. -/
def hardWakesUptoRow : OpenClaim := { program := "ytdmfgodajoojpaagreatdoor", sum := "30988ecd12070c1ec33976bd81c4b9de81c05b18c7e16551e1d54de270d0cc61", func := "catnap/catnaplaw12.HardWakes", spec := "hardWakes", unfollowed := true, recurses := true, named := ["catnap/quiet.letters"], apart := false, laid := [("catnap/quiet.letters", laid_catnap_quiet_letters)], narrowed := true }
def HardWakesUptoSaid : Prop := hardWakesUptoRow.holds Tryz.pinned (OpenSpec.upto hardWakesSpec)

/-- 'catnaplaw12.HardResets', WHERE WHAT IT READS IS OF BULK AT MOST 1048576: true; the input reads as it did. -/
def hardResetsUptoRow : OpenClaim := { program := "ytdmfgodajoojpaagreatdoor", sum := "30988ecd12070c1ec33976bd81c4b9de81c05b18c7e16551e1d54de270d0cc61", func := "catnap/catnaplaw12.HardResets", spec := "hardResets", unfollowed := true, recurses := true, named := ["catnap/quiet.letters"], apart := false, laid := [("catnap/quiet.letters", laid_catnap_quiet_letters)], narrowed := true }
def HardResetsUptoSaid : Prop := hardResetsUptoRow.holds Tryz.pinned (OpenSpec.upto hardResetsSpec)

/-- 'catnaplaw12.HardKeeps', WHERE WHAT IT READS IS OF BULK AT MOST 1048576: true; the input reads as it did. -/
def hardKeepsUptoRow : OpenClaim := { program := "ytdmfgodajoojpaagreatdoor", sum := "30988ecd12070c1ec33976bd81c4b9de81c05b18c7e16551e1d54de270d0cc61", func := "catnap/catnaplaw12.HardKeeps", spec := "hardKeeps", unfollowed := true, recurses := true, named := ["catnap/quiet.letters"], apart := false, laid := [("catnap/quiet.letters", laid_catnap_quiet_letters)], narrowed := true }
def HardKeepsUptoSaid : Prop := hardKeepsUptoRow.holds Tryz.pinned (OpenSpec.upto hardKeepsSpec)

end Rows
end Go.Proofs.YtdmfgodajoojpaaGreatDoor
