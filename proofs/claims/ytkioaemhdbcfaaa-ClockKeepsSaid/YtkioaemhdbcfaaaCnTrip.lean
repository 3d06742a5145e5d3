/- Acts of three numbers. -/
import Derived.Test.YtkioaemhdbcfaaaCnLk
import Derived.Test.YtkioaemhdbcfaaaCnL2
import Derived.Test.YtkioaemhdbcfaaaCnPick
set_option linter.unusedSimpArgs false
set_option linter.unusedVariables false
namespace Go.Proofs.Ytkioaemhdbcfaaa.Cn
open Go Go.Proofs

abbrev shTrips : Sh := .slice (.strct (.cons (.int .i64) (.cons (.int .i64) (.cons (.int .i64) .unit))))
structure Trip where
  a : Int
  b : Int
  c : Int
def encTrip (p : Trip) : List AV := [.int .i64 p.a, .int .i64 p.b, .int .i64 p.c]
theorem argTrips {a : AV} (h : shTrips.Arg a) : ∃ l : List Trip, a = .isl 3 (l.flatMap encTrip) l.length ∧ (∀ x ∈ l, I64 x.a ∧ I64 x.b ∧ I64 x.c) ∧ l.length ≤ maxLen := by
  obtain ⟨l, h1, h2, h3⟩ := slice_arg encTrip (fun x => I64 x.a ∧ I64 x.b ∧ I64 x.c) (fun cs hc => by
    obtain ⟨x, y, rfl, ⟨n, rfl, hn⟩, ⟨z, w, rfl, ⟨m, rfl, hm⟩, ⟨u, v, rfl, ⟨q, rfl, hq⟩, rfl⟩⟩⟩ := hc
    exact ⟨⟨n, m, q⟩, rfl, wf_i64 hn, wf_i64 hm, wf_i64 hq⟩) h
  exact ⟨l, h1, h2, h3⟩
theorem trips_get (l : List Trip) {i : Nat} (h : i < l.length) : (l.flatMap encTrip)[i * 3]? = some (.int .i64 l[i].a) ∧ (l.flatMap encTrip)[i * 3 + 1]? = some (.int .i64 l[i].b) ∧ (l.flatMap encTrip)[i * 3 + 2]? = some (.int .i64 l[i].c) :=
  ⟨rows_get encTrip (w := 3) (fun _ => rfl) h (j := 0) (by omega), rows_get encTrip (w := 3) (fun _ => rfl) h (j := 1) (by omega), rows_get encTrip (w := 3) (fun _ => rfl) h (j := 2) (by omega)⟩
end Go.Proofs.Ytkioaemhdbcfaaa.Cn
