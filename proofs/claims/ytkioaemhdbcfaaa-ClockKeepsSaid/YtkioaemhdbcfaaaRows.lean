/-
  No cell of these rows narrows 'for every input' (looked for: loops, veiled, ifaces, maps, wideKeys, modest, calm, conditions, laid).
  DERIVED. THE GIVEN ROWS OF THIS SEAT. 7 by the template 'for every input the law returns true; each argument reads behind the call as it read before'; 0 by the template 'total and deterministic' (their statements: YtkioaemhdbcfaaaTotals.lean).
  GIVEN WITH THE SEED: the statements are not yours to turn. If you find one false, say at which input.
  Laid BY PROGRAM, IN A SANDBOX (cutbox-rows.mjs): the forced cells as the released guide's own fill.sh prints them over the translation ae962e62872a99da… (all of the seat's roots in one cut). By AI agents, Wed Nov 11 2026. No macro, syntax, notation, axiom, sorry.
-/
import Derived.Test.YtkioaemhdbcfaaaChecked
import GoSem.Claim
import GoSem.ClaimJoined
import GoSem.ClaimMapViews
import Derived.JoinedTies
import Derived.KernelRfl
namespace Go.Proofs.Ytkioaemhdbcfaaa
/- THE CELL 'sum', in the pinned program and in every row, IS THE sha256 OF THE DUMP (.gsa) THAT YtkioaemhdbcfaaaProg.lean LOADS. Nothing in Lean hashes anything: it is a label: what it is worth is what the hold of that sum in a sandbox is worth. -/
noncomputable def Try.pinned : Pinned := { name := "ytkioaemhdbcfaaa", sum := "ae962e62872a99daf0a8941724b5ca5e1ca2e3c1df45badfa61ada99bde60b9c", checked := Try.checked }
namespace Rows
def none {H : Type} : Left H := { results := [], args := [] }

/-- 'catnaplaw6.ClockErrs': WHATEVER THE INPUT: true; the input reads as it did. -/
def clockErrsSpec : ChangeSpec := { name := "clockErrs", fn := fun _ => fun
  | [d] => { results := [.lit (.bool true)], args := [d] }
  | _ => none }
def clockErrsRow : OpenClaim := { program := "ytkioaemhdbcfaaa", sum := "ae962e62872a99daf0a8941724b5ca5e1ca2e3c1df45badfa61ada99bde60b9c", func := "catnap/catnaplaw6.ClockErrs", spec := "clockErrs", unfollowed := true, recurses := true, apart := false }
def ClockErrsSaid : Prop := clockErrsRow.holds Try.pinned (OpenSpec.ofChange clockErrsSpec)

/-- ITS FALSE NEIGHBOUR: 'it returns false'. Refute it at one input. -/
def clockErrsWrong : ChangeSpec := { name := "clockErrs", fn := fun _ => fun
  | [d] => { results := [.lit (.bool false)], args := [d] }
  | _ => none }
def ClockErrsWrongFalsely : Prop := clockErrsRow.holds Try.pinned (OpenSpec.ofChange clockErrsWrong)

/-- 'catnaplaw6.ClockLost': WHATEVER THE INPUT: true; the input reads as it did. -/
def clockLostSpec : ChangeSpec := { name := "clockLost", fn := fun _ => fun
  | [d1, d2, d3] => { results := [.lit (.bool true)], args := [d1, d2, d3] }
  | _ => none }
def clockLostRow : OpenClaim := { program := "ytkioaemhdbcfaaa", sum := "ae962e62872a99daf0a8941724b5ca5e1ca2e3c1df45badfa61ada99bde60b9c", func := "catnap/catnaplaw6.ClockLost", spec := "clockLost", unfollowed := true, recurses := true, apart := false }
def ClockLostSaid : Prop := clockLostRow.holds Try.pinned (OpenSpec.ofChange clockLostSpec)

/-- ITS FALSE NEIGHBOUR: 'it returns false'. Refute it at one input. -/
def clockLostWrong : ChangeSpec := { name := "clockLost", fn := fun _ => fun
  | [d1, d2, d3] => { results := [.lit (.bool false)], args := [d1, d2, d3] }
  | _ => none }
def ClockLostWrongFalsely : Prop := clockLostRow.holds Try.pinned (OpenSpec.ofChange clockLostWrong)

/-- 'catnaplaw6.ClockOff': WHATEVER THE INPUT: true; the input reads as it did. -/
def clockOffSpec : ChangeSpec := { name := "clockOff", fn := fun _ => fun
  | [d1, d2] => { results := [.lit (.bool true)], args := [d1, d2] }
  | _ => none }
def clockOffRow : OpenClaim := { program := "ytkioaemhdbcfaaa", sum := "ae962e62872a99daf0a8941724b5ca5e1ca2e3c1df45badfa61ada99bde60b9c", func := "catnap/catnaplaw6.ClockOff", spec := "clockOff", unfollowed := true, recurses := true, apart := false }
def ClockOffSaid : Prop := clockOffRow.holds Try.pinned (OpenSpec.ofChange clockOffSpec)

/-- ITS FALSE NEIGHBOUR: 'it returns false'. Refute it at one input. -/
def clockOffWrong : ChangeSpec := { name := "clockOff", fn := fun _ => fun
  | [d1, d2] => { results := [.lit (.bool false)], args := [d1, d2] }
  | _ => none }
def ClockOffWrongFalsely : Prop := clockOffRow.holds Try.pinned (OpenSpec.ofChange clockOffWrong)

/-- 'catnaplaw6.ClockKeeps': WHATEVER THE INPUT: true; the input reads as it did. -/
def clockKeepsSpec : ChangeSpec := { name := "clockKeeps", fn := fun _ => fun
  | [d1, d2, d3] => { results := [.lit (.bool true)], args := [d1, d2, d3] }
  | _ => none }
def clockKeepsRow : OpenClaim := { program := "ytkioaemhdbcfaaa", sum := "ae962e62872a99daf0a8941724b5ca5e1ca2e3c1df45badfa61ada99bde60b9c", func := "catnap/catnaplaw6.ClockKeeps", spec := "clockKeeps", unfollowed := true, recurses := true, apart := false }
def ClockKeepsSaid : Prop := clockKeepsRow.holds Try.pinned (OpenSpec.ofChange clockKeepsSpec)

/-- ITS FALSE NEIGHBOUR: 'it returns false'. Refute it at one input. -/
def clockKeepsWrong : ChangeSpec := { name := "clockKeeps", fn := fun _ => fun
  | [d1, d2, d3] => { results := [.lit (.bool false)], args := [d1, d2, d3] }
  | _ => none }
def ClockKeepsWrongFalsely : Prop := clockKeepsRow.holds Try.pinned (OpenSpec.ofChange clockKeepsWrong)

/-- 'catnaplaw6.ClockLocks': WHATEVER THE INPUT: true; the input reads as it did. -/
def clockLocksSpec : ChangeSpec := { name := "clockLocks", fn := fun _ => fun
  | [d1, d2] => { results := [.lit (.bool true)], args := [d1, d2] }
  | _ => none }
def clockLocksRow : OpenClaim := { program := "ytkioaemhdbcfaaa", sum := "ae962e62872a99daf0a8941724b5ca5e1ca2e3c1df45badfa61ada99bde60b9c", func := "catnap/catnaplaw6.ClockLocks", spec := "clockLocks", unfollowed := true, recurses := true, apart := false }
def ClockLocksSaid : Prop := clockLocksRow.holds Try.pinned (OpenSpec.ofChange clockLocksSpec)

/-- ITS FALSE NEIGHBOUR: 'it returns false'. Refute it at one input. -/
def clockLocksWrong : ChangeSpec := { name := "clockLocks", fn := fun _ => fun
  | [d1, d2] => { results := [.lit (.bool false)], args := [d1, d2] }
  | _ => none }
def ClockLocksWrongFalsely : Prop := clockLocksRow.holds Try.pinned (OpenSpec.ofChange clockLocksWrong)

/-- 'catnaplaw6.ClockGlitches': WHATEVER THE INPUT: true; the input reads as it did. -/
def clockGlitchesSpec : ChangeSpec := { name := "clockGlitches", fn := fun _ => fun
  | [d1, d2] => { results := [.lit (.bool true)], args := [d1, d2] }
  | _ => none }
def clockGlitchesRow : OpenClaim := { program := "ytkioaemhdbcfaaa", sum := "ae962e62872a99daf0a8941724b5ca5e1ca2e3c1df45badfa61ada99bde60b9c", func := "catnap/catnaplaw6.ClockGlitches", spec := "clockGlitches", unfollowed := true, recurses := true, apart := false }
def ClockGlitchesSaid : Prop := clockGlitchesRow.holds Try.pinned (OpenSpec.ofChange clockGlitchesSpec)

/-- ITS FALSE NEIGHBOUR: 'it returns false'. Refute it at one input. -/
def clockGlitchesWrong : ChangeSpec := { name := "clockGlitches", fn := fun _ => fun
  | [d1, d2] => { results := [.lit (.bool false)], args := [d1, d2] }
  | _ => none }
def ClockGlitchesWrongFalsely : Prop := clockGlitchesRow.holds Try.pinned (OpenSpec.ofChange clockGlitchesWrong)

/-- 'catnaplaw6.ClockRates': WHATEVER THE INPUT: true; the input reads as it did. -/
def clockRatesSpec : ChangeSpec := { name := "clockRates", fn := fun _ => fun
  | [d1, d2] => { results := [.lit (.bool true)], args := [d1, d2] }
  | _ => none }
def clockRatesRow : OpenClaim := { program := "ytkioaemhdbcfaaa", sum := "ae962e62872a99daf0a8941724b5ca5e1ca2e3c1df45badfa61ada99bde60b9c", func := "catnap/catnaplaw6.ClockRates", spec := "clockRates", unfollowed := true, recurses := true, apart := false }
def ClockRatesSaid : Prop := clockRatesRow.holds Try.pinned (OpenSpec.ofChange clockRatesSpec)

/-- ITS FALSE NEIGHBOUR: 'it returns false'. Refute it at one input. -/
def clockRatesWrong : ChangeSpec := { name := "clockRates", fn := fun _ => fun
  | [d1, d2] => { results := [.lit (.bool false)], args := [d1, d2] }
  | _ => none }
def ClockRatesWrongFalsely : Prop := clockRatesRow.holds Try.pinned (OpenSpec.ofChange clockRatesWrong)

/- THE SECOND FORM. 'bulk': how many values and letters a reading holds, each counted each time it is reached (what is shared counts as often as it is met; a slice's spare places count too). A statement '..UptoSaid' is the law's where the arguments, and the package variables that the reading takes, are together of bulk at most 1048576: NARROWER than '..Said'. Prove '..Said' where nothing that the law and all that it calls make is longer than what came in: it says more and counts as full. Else prove '..UptoSaid'. A law counts once. -/
mutual
def uptoBulk {H : Type} : DataW H → Nat
  | .lit (.string bytes) => bytes.length + 1
  | .lit _ => 1
  | .nil => 1
  | .ptr d => uptoBulk d + 1
  | .slice elems spare => uptoBulkAll elems + uptoBulkAll spare + 1
  | .agg parts => uptoBulkAll parts + 1
  | .iface _ d => uptoBulk d + 1
  | .map entries => uptoBulkEntries entries + 1
  | .held _ => 1
def uptoBulkAll {H : Type} : List (DataW H) → Nat
  | [] => 0
  | d :: r => uptoBulk d + uptoBulkAll r
def uptoBulkEntries {H : Type} : List (Lit × DataW H) → Nat
  | [] => 0
  | x :: r => uptoBulkEntry x + uptoBulkEntries r
def uptoBulkEntry {H : Type} : Lit × DataW H → Nat
  | (.string bytes, d) => bytes.length + uptoBulk d + 1
  | (_, d) => uptoBulk d + 1
 end
def uptoSmall : (H : Type) → List (DataW H) → Bool := fun _ ds => decide (uptoBulkAll ds ≤ 1048576)
def OpenSpec.upto (s : _root_.Go.ChangeSpec) : _root_.Go.OpenSpec := { _root_.Go.OpenSpec.ofChange s with cond := some uptoSmall }

/-- 'catnaplaw6.ClockErrs', WHERE WHAT IT READS IS OF BULK AT MOST 1048576: true; the input reads as it did. -/
def clockErrsUptoRow : OpenClaim := { program := "ytkioaemhdbcfaaa", sum := "ae962e62872a99daf0a8941724b5ca5e1ca2e3c1df45badfa61ada99bde60b9c", func := "catnap/catnaplaw6.ClockErrs", spec := "clockErrs", unfollowed := true, recurses := true, apart := false, narrowed := true }
def ClockErrsUptoSaid : Prop := clockErrsUptoRow.holds Try.pinned (OpenSpec.upto clockErrsSpec)

/-- 'catnaplaw6.ClockLost', WHERE WHAT IT READS IS OF BULK AT MOST 1048576: true; the input reads as it did. -/
def clockLostUptoRow : OpenClaim := { program := "ytkioaemhdbcfaaa", sum := "ae962e62872a99daf0a8941724b5ca5e1ca2e3c1df45badfa61ada99bde60b9c", func := "catnap/catnaplaw6.ClockLost", spec := "clockLost", unfollowed := true, recurses := true, apart := false, narrowed := true }
def ClockLostUptoSaid : Prop := clockLostUptoRow.holds Try.pinned (OpenSpec.upto clockLostSpec)

/-- 'catnaplaw6.ClockOff', WHERE WHAT IT READS IS OF BULK AT MOST 1048576: true; the input reads as it did. -/
def clockOffUptoRow : OpenClaim := { program := "ytkioaemhdbcfaaa", sum := "ae962e62872a99daf0a8941724b5ca5e1ca2e3c1df45badfa61ada99bde60b9c", func := "catnap/catnaplaw6.ClockOff", spec := "clockOff", unfollowed := true, recurses := true, apart := false, narrowed := true }
def ClockOffUptoSaid : Prop := clockOffUptoRow.holds Try.pinned (OpenSpec.upto clockOffSpec)

/-- 'catnaplaw6.ClockKeeps', WHERE WHAT IT READS IS OF BULK AT MOST 1048576: true; the input reads as it did. -/
def clockKeepsUptoRow : OpenClaim := { program := "ytkioaemhdbcfaaa", sum := "ae962e62872a99daf0a8941724b5ca5e1ca2e3c1df45badfa61ada99bde60b9c", func := "catnap/catnaplaw6.ClockKeeps", spec := "clockKeeps", unfollowed := true, recurses := true, apart := false, narrowed := true }
def ClockKeepsUptoSaid : Prop := clockKeepsUptoRow.holds Try.pinned (OpenSpec.upto clockKeepsSpec)

/-- 'catnaplaw6.ClockLocks', WHERE WHAT IT READS IS OF BULK AT MOST 1048576: true; the input reads as it did. -/
def clockLocksUptoRow : OpenClaim := { program := "ytkioaemhdbcfaaa", sum := "ae962e62872a99daf0a8941724b5ca5e1ca2e3c1df45badfa61ada99bde60b9c", func := "catnap/catnaplaw6.ClockLocks", spec := "clockLocks", unfollowed := true, recurses := true, apart := false, narrowed := true }
def ClockLocksUptoSaid : Prop := clockLocksUptoRow.holds Try.pinned (OpenSpec.upto clockLocksSpec)

/-- 'catnaplaw6.ClockGlitches', WHERE WHAT IT READS IS OF BULK AT MOST 1048576: true; the input reads as it did. -/
def clockGlitchesUptoRow : OpenClaim := { program := "ytkioaemhdbcfaaa", sum := "ae962e62872a99daf0a8941724b5ca5e1ca2e3c1df45badfa61ada99bde60b9c", func := "catnap/catnaplaw6.ClockGlitches", spec := "clockGlitches", unfollowed := true, recurses := true, apart := false, narrowed := true }
def ClockGlitchesUptoSaid : Prop := clockGlitchesUptoRow.holds Try.pinned (OpenSpec.upto clockGlitchesSpec)

/-- 'catnaplaw6.ClockRates', WHERE WHAT IT READS IS OF BULK AT MOST 1048576: true; the input reads as it did. -/
def clockRatesUptoRow : OpenClaim := { program := "ytkioaemhdbcfaaa", sum := "ae962e62872a99daf0a8941724b5ca5e1ca2e3c1df45badfa61ada99bde60b9c", func := "catnap/catnaplaw6.ClockRates", spec := "clockRates", unfollowed := true, recurses := true, apart := false, narrowed := true }
def ClockRatesUptoSaid : Prop := clockRatesUptoRow.holds Try.pinned (OpenSpec.upto clockRatesSpec)

end Rows
end Go.Proofs.Ytkioaemhdbcfaaa
