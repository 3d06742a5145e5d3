/- Clocks: ClockLocks, how long a chain takes to lock. -/
import Derived.Test.YtkioaemhdbcfaaaCnClock7
set_option linter.unusedSimpArgs false
set_option linter.unusedVariables false
set_option linter.unusedSectionVars false
namespace Go.Proofs.Ytkioaemhdbcfaaa.Cn
open Go Go.Proofs

def lfOf (ns : List Nd) (x : Nat) : Int := if h : x < ns.length then ns[x].left else 0
theorem lfOf_at {ns : List Nd} {x : Nat} (h : x < ns.length) : lfOf ns x = ns[x].left := by rw [lfOf, dif_pos h]
/-- What a chain has left together. -/
def pot (ns : List Nd) (x : Nat) : Int := ((chainN ns x).map (lfOf ns)).sum
theorem pot_eq {ns : List Nd} (hN : NsOk ns) {x : Nat} (hx : x < ns.length) : pot ns x = if ns[x].c.kind = 111 then ns[x].left else pot ns ns[x].source.toNat + ns[x].left := by
  rw [pot, chainN_eq hN hx]
  by_cases hk : ns[x].c.kind = 111
  · rw [if_pos hk, if_pos hk]; simp [lfOf_at hx]
  · rw [if_neg hk, if_neg hk, List.map_append, List.sum_append, pot]; simp [lfOf_at hx]
/-- All of a chain are on, and those behind one that stands lock from the beginning. -/
inductive Lks (ns : List Nd) : Nat → Prop
  | osc (x : Nat) (h : x < ns.length) (k : ns[x].c.kind = 111) (z : ns[x].left = 0) : Lks ns x
  | up (x y : Nat) (h : x < ns.length) (k : ns[x].c.kind ≠ 111) (s : ns[x].source = (y : Int)) (t : Lks ns y) (on : ns[x].c.kind = 112 ∨ ns[x].c.kind = 103 → ns[x].on = true) (l : ns[x].c.kind = 112 → run ns y = false → ns[x].left = ns[x].c.lock)
      (z : ns[x].c.kind ≠ 112 → ns[x].left = 0) (w : ns[x].want = ns[x].set) : Lks ns x
theorem Lks.alive {ns : List Nd} (hN : NsOk ns) {x : Nat} (h : Lks ns x) : 0 ≤ pot ns x ∧ (run ns x = true ↔ pot ns x = 0) := by
  induction h with
  | osc x h k z =>
    rw [pot_eq hN h, if_pos k, z, run_eq hN h, if_pos k]
    simp
  | up x y h k s t on l z w ih =>
    rw [pot_eq hN h, if_neg k, run_eq hN h, if_neg k, s, Int.toNat_natCast]
    have hl := (hN x h).left
    refine ⟨by omega, ?_⟩
    rw [Bool.and_eq_true, ih.2]
    have ho : ns[x].own = true ↔ ns[x].left = 0 := by
      unfold Nd.own
      by_cases k2 : ns[x].c.kind = 112
      · rw [if_pos k2, on (.inl k2)]; simp
      · rw [if_neg k2]
        by_cases k3 : ns[x].c.kind = 103
        · rw [if_pos k3, on (.inr k3)]; simp [z k2]
        · rw [if_neg k3]; simp [z k2]
    rw [ho]; omega
theorem tick_source {R : Nat → Bool} {n : Nd} (w : n.want = n.set) : (n.tick R).source = n.source ∧ (n.tick R).want = n.want ∧ (n.tick R).set = n.set ∧ (n.tick R).on = n.on := by
  unfold Nd.tick
  split
  · split
    · split
      · exact ⟨rfl, rfl, rfl, rfl⟩
      · split <;> exact ⟨rfl, rfl, rfl, rfl⟩
    · exact ⟨rfl, rfl, rfl, rfl⟩
  · rw [if_neg (fun e => e.2.1 w)]; exact ⟨rfl, rfl, rfl, rfl⟩
theorem Lks.after {ns : List Nd} (hN : NsOk ns) {x : Nat} (h : Lks ns x) : Lks (ctickL ns) x ∧ pot (ctickL ns) x = (if pot ns x = 0 then 0 else pot ns x - 1) := by
  have hN' := hN.tick
  have hl : (ctickL ns).length = ns.length := ctickL_len ns
  induction h with
  | osc x h k z =>
    have h' : x < (ctickL ns).length := by omega
    have e : (ctickL ns)[x] = ns[x] := by
      simp only [ctickL, List.getElem_map]
      unfold Nd.tick
      rw [if_neg (by rw [k]; decide), if_neg (by rw [k]; simp)]
    refine ⟨.osc x h' (by rw [e]; exact k) (by rw [e]; exact z), ?_⟩
    rw [pot_eq hN' h', e, if_pos k, z, pot_eq hN h, if_pos k, z]; rfl
  | up x y h k s t on l z w ih =>
    have h' : x < (ctickL ns).length := by omega
    have e : (ctickL ns)[x] = ns[x].tick (run ns) := by simp only [ctickL, List.getElem_map]
    obtain ⟨e1, e2, e3, e4⟩ := tick_source (R := run ns) w
    have ec := Nd.tick_c ns[x] (run ns)
    obtain ⟨i1, i2⟩ := ih
    have hy := t.alive hN
    have hy' := i1.alive hN'
    have hlf := (hN x h).left
    have px : pot ns x = pot ns y + ns[x].left := by rw [pot_eq hN h, if_neg k, s, Int.toNat_natCast]
    have px' : pot (ctickL ns) x = pot (ctickL ns) y + (ns[x].tick (run ns)).left := by
      rw [pot_eq hN' h', if_neg (by rw [e, ec]; exact k), e, e1, s, Int.toNat_natCast]
    have key : (ns[x].tick (run ns)).left = (if pot ns y = 0 ∧ ns[x].left ≠ 0 then ns[x].left - 1 else ns[x].left) ∧ (ns[x].c.kind = 112 → run (ctickL ns) y = false → (ns[x].tick (run ns)).left = ns[x].c.lock) := by
      unfold Nd.tick
      by_cases k2 : ns[x].c.kind = 112
      · rw [if_pos k2, if_pos (on (.inl k2)), s, Int.toNat_natCast]
        by_cases hr : run ns y = false
        · rw [if_pos hr]
          have hne : ¬ pot ns y = 0 := fun e0 => by rw [hy.2.mpr e0] at hr; cases hr
          exact ⟨by rw [if_neg (fun e0 => hne e0.1)]; exact (l k2 hr).symm, fun _ _ => rfl⟩
        · have hr' : run ns y = true := by simpa using hr
          have h0 := hy.2.mp hr'
          have hq : run (ctickL ns) y = true := hy'.2.mpr (by rw [i2, if_pos h0])
          rw [if_neg hr]
          refine ⟨?_, fun _ e0 => by rw [hq] at e0; cases e0⟩
          by_cases h1 : 0 < ns[x].left
          · rw [if_pos h1, if_pos ⟨h0, by omega⟩]
          · rw [if_neg h1, if_neg (fun e0 => by have := e0.2; omega)]
      · rw [if_neg k2, if_neg (fun e0 => e0.2.1 w)]
        exact ⟨by rw [if_neg (fun e0 => e0.2 (z k2))], fun e0 => absurd e0 k2⟩
    refine ⟨.up x y h' (by rw [e, ec]; exact k) (by rw [e, e1]; exact s) i1 (by rw [e, ec, e4]; exact on) (by rw [e, ec]; exact key.2) (fun e0 => ?_) (by rw [e, e2, e3]; exact w), ?_⟩
    · rw [e, ec] at e0
      rw [e, key.1, z e0]; simp
    · rw [px', px, i2, key.1]
      by_cases h0 : pot ns y = 0
      · rw [if_pos h0, h0]
        by_cases h1 : ns[x].left = 0
        · rw [if_neg (fun e0 => e0.2 h1), h1]; rfl
        · rw [if_pos ⟨rfl, h1⟩, if_neg (by omega)]; omega
      · rw [if_neg h0, if_neg (fun e0 => h0 e0.1), if_neg (by omega)]; omega
end Go.Proofs.Ytkioaemhdbcfaaa.Cn
