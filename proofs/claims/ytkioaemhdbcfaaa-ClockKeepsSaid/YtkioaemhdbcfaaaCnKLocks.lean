/- Clocks: ClockLocks, how long a chain takes to lock. -/
import Derived.Test.YtkioaemhdbcfaaaCnClock7
set_option linter.unusedSimpArgs false
set_option linter.unusedVariables false
set_option linter.unusedSectionVars false
namespace Go.Proofs.Ytkioaemhdbcfaaa.Cn
open Go Go.Proofs

def lfOf (ns : List Nd) (x : Nat) : Int := if h : x < ns.length then ns[x].left else 0
theorem lfOf_at {ns : List Nd} {x : Nat} (h : x < ns.length) : lfOf ns x = ns[x].left := by rw [lfOf, dif_pos h]
/-- What a chain has left together. -/
def pot (ns : List Nd) (x : Nat) : Int := ((chainN ns x).map (lfOf ns)).sum
theorem pot_eq {ns : List Nd} (hN : NsOk ns) {x : Nat} (hx : x < ns.length) : pot ns x = if ns[x].c.kind = 111 then ns[x].left else pot ns ns[x].source.toNat + ns[x].left := by
  rw [pot, chainN_eq hN hx]
  by_cases hk : ns[x].c.kind = 111
  · rw [if_pos hk, if_pos hk]; simp [lfOf_at hx]
  · rw [if_neg hk, if_neg hk, List.map_append, List.sum_append, pot]; simp [lfOf_at hx]
/-- All of a chain are on, and those behind one that stands lock from the beginning. -/
inductive Lks (ns : List Nd) : Nat → Prop
  | osc (x : Nat) (h : x < ns.length) (k : ns[x].c.kind = 111) (z : ns[x].left = 0) : Lks ns x
  | up (x y : Nat) (h : x < ns.length) (k : ns[x].c.kind ≠ 111) (s : ns[x].source = (y : Int)) (t : Lks ns y) (on : ns[x].c.kind = 112 ∨ ns[x].c.kind = 103 → ns[x].on = true) (l : ns[x].c.kind = 112 → run ns y = false → ns[x].left = ns[x].c.lock)
      (z : ns[x].c.kind ≠ 112 → ns[x].left = 0) (w : ns[x].want = ns[x].set) : Lks ns x
theorem Lks.alive {ns : List Nd} (hN : NsOk ns) {x : Nat} (h : Lks ns x) : 0 ≤ pot ns x ∧ (run ns x = true ↔ pot ns x = 0) := by
  induction h with
  | osc x h k z =>
    rw [pot_eq hN h, if_pos k, z, run_eq hN h, if_pos k]
    simp
  | up x y h k s t on l z w ih =>
    rw [pot_eq hN h, if_neg k, run_eq hN h, if_neg k, s, Int.toNat_natCast]
    have hl := (hN x h).left
    refine ⟨by omega, ?_⟩
    rw [Bool.and_eq_true, ih.2]
    have ho : ns[x].own = true ↔ ns[x].left = 0 := by
      unfold Nd.own
      by_cases k2 : ns[x].c.kind = 112
      · rw [if_pos k2, on (.inl k2)]; simp
      · rw [if_neg k2]
        by_cases k3 : ns[x].c.kind = 103
        · rw [if_pos k3, on (.inr k3)]; simp [z k2]
        · rw [if_neg k3]; simp [z k2]
    rw [ho]; omega
theorem tick_source {R : Nat → Bool} {n : Nd} (w : n.want = n.set) : (n.tick R).source = n.source ∧ (n.tick R).want = n.want ∧ (n.tick R).set = n.set ∧ (n.tick R).on = n.on := by
  unfold Nd.tick
  split
  · split
    · split
      · exact ⟨rfl, rfl, rfl, rfl⟩
      · split <;> exact ⟨rfl, rfl, rfl, rfl⟩
    · exact ⟨rfl, rfl, rfl, rfl⟩
  · rw [if_neg (fun e => e.2.1 w)]; exact ⟨rfl, rfl, rfl, rfl⟩
theorem Lks.after {ns : List Nd} (hN : NsOk ns) {x : Nat} (h : Lks ns x) : Lks (ctickL ns) x ∧ pot (ctickL ns) x = (if pot ns x = 0 then 0 else pot ns x - 1) := by
  have hN' := hN.tick
  have hl : (ctickL ns).length = ns.length := ctickL_len ns
  induction h with
  | osc x h k z =>
    have h' : x < (ctickL ns).length := by omega
    have e : (ctickL ns)[x] = ns[x] := by
      simp only [ctickL, List.getElem_map]
      unfold Nd.tick
      rw [if_neg (by rw [k]; decide), if_neg (by rw [k]; simp)]
    refine ⟨.osc x h' (by rw [e]; exact k) (by rw [e]; exact z), ?_⟩
    rw [pot_eq hN' h', e, if_pos k, z, pot_eq hN h, if_pos k, z]; rfl
  | up x y h k s t on l z w ih =>
    have h' : x < (ctickL ns).length := by omega
    have e : (ctickL ns)[x] = ns[x].tick (run ns) := by simp only [ctickL, List.getElem_map]
    obtain ⟨e1, e2, e3, e4⟩ := tick_source (R := run ns) w
    have ec := Nd.tick_c ns[x] (run ns)
    obtain ⟨i1, i2⟩ := ih
    have hy := t.alive hN
    have hy' := i1.alive hN'
    have hlf := (hN x h).left
    have px : pot ns x = pot ns y + ns[x].left := by rw [pot_eq hN h, if_neg k, s, Int.toNat_natCast]
    have px' : pot (ctickL ns) x = pot (ctickL ns) y + (ns[x].tick (run ns)).left := by
      rw [pot_eq hN' h', if_neg (by rw [e, ec]; exact k), e, e1, s, Int.toNat_natCast]
    have key : (ns[x].tick (run ns)).left = (if pot ns y = 0 ∧ ns[x].left ≠ 0 then ns[x].left - 1 else ns[x].left) ∧ (ns[x].c.kind = 112 → run (ctickL ns) y = false → (ns[x].tick (run ns)).left = ns[x].c.lock) := by
      unfold Nd.tick
      by_cases k2 : ns[x].c.kind = 112
      · rw [if_pos k2, if_pos (on (.inl k2)), s, Int.toNat_natCast]
        by_cases hr : run ns y = false
        · rw [if_pos hr]
          have hne : ¬ pot ns y = 0 := fun e0 => by rw [hy.2.mpr e0] at hr; cases hr
          exact ⟨by rw [if_neg (fun e0 => hne e0.1)]; exact (l k2 hr).symm, fun _ _ => rfl⟩
        · have hr' : run ns y = true := by simpa using hr
          have h0 := hy.2.mp hr'
          have hq : run (ctickL ns) y = true := hy'.2.mpr (by rw [i2, if_pos h0])
          rw [if_neg hr]
          refine ⟨?_, fun _ e0 => by rw [hq] at e0; cases e0⟩
          by_cases h1 : 0 < ns[x].left
          · rw [if_pos h1, if_pos ⟨h0, by omega⟩]
          · rw [if_neg h1, if_neg (fun e0 => by have := e0.2; omega)]
      · rw [if_neg k2, if_neg (fun e0 => e0.2.1 w)]
        exact ⟨by rw [if_neg (fun e0 => e0.2 (z k2))], fun e0 => absurd e0 k2⟩
    refine ⟨.up x y h' (by rw [e, ec]; exact k) (by rw [e, e1]; exact s) i1 (by rw [e, ec, e4]; exact on) (by rw [e, ec]; exact key.2) (fun e0 => ?_) (by rw [e, e2, e3]; exact w), ?_⟩
    · rw [e, ec] at e0
      rw [e, key.1, z e0]; simp
    · rw [px', px, i2, key.1]
      by_cases h0 : pot ns y = 0
      · rw [if_pos h0, h0]
        by_cases h1 : ns[x].left = 0
        · rw [if_neg (fun e0 => e0.2 h1), h1]; rfl
        · rw [if_pos ⟨rfl, h1⟩, if_neg (by omega)]; omega
      · rw [if_neg h0, if_neg (fun e0 => h0 e0.1), if_neg (by omega)]; omega
theorem chainN_lt {ns : List Nd} (hN : NsOk ns) : ∀ x : Nat, x < ns.length → ∀ y ∈ chainN ns x, y < ns.length := by
  intro x
  induction x using Nat.strongRecOn with
  | _ x ih =>
  intro hx y hy
  rw [chainN_eq hN hx] at hy
  by_cases hk : ns[x].c.kind = 111
  · rw [if_pos hk, List.mem_singleton] at hy; omega
  · obtain ⟨z, e1, e2, _⟩ := (hN x hx).low hk
    rw [if_neg hk, e1, Int.toNat_natCast, List.mem_append, List.mem_singleton] at hy
    rcases hy with hy | rfl
    · exact ih z e2 (by omega) y hy
    · exact hx
/-- Turned on, if that can be. -/
def Nd.lit (n : Nd) : Nd := if onE n = 0 then { n with on := true } else n
theorem Nd.lit_c (n : Nd) : n.lit.c = n.c ∧ n.lit.left = n.left ∧ n.lit.source = n.source ∧ n.lit.want = n.want ∧ n.lit.set = n.set := by unfold Nd.lit; split <;> exact ⟨rfl, rfl, rfl, rfl, rfl⟩
theorem Nd.turn_lit {n : Nd} (h : onE n = 0) : n.turn true = n.lit := by rw [Nd.turn, if_neg (by simp), Nd.lit, if_pos h]
theorem onE_c {n m : Nd} (h : n.c = m.c) : onE n = onE m := by unfold onE; rw [h]
theorem Nd.lit_lit (n : Nd) : n.lit.lit = n.lit := by
  have e : onE n.lit = onE n := onE_c n.lit_c.1
  rw [Nd.lit, e]
  by_cases h : onE n = 0
  · rw [if_pos h, Nd.lit, if_pos h]
  · rw [if_neg h]
/-- Those of a list are on, all others as they were. -/
structure LitOf (ns0 ns : List Nd) (c : List Nat) : Prop where
  len : ns.length = ns0.length
  at_ : ∀ x (h : x < ns.length) (h' : x < ns0.length), ns[x] = if x ∈ c then ns0[x].lit else ns0[x]
theorem LitOf.start (ns : List Nd) : LitOf ns ns [] := ⟨rfl, fun x h h' => by rw [if_neg List.not_mem_nil]⟩
theorem LitOf.more {ns0 ns : List Nd} {c : List Nat} {k : Nat} (h : LitOf ns0 ns c) (hk : k < ns.length) : LitOf ns0 (onL ns k hk true) (c ++ [k]) where
  len := by rw [onL_len, h.len]
  at_ := fun x hx hx' => by
    have hx0 : x < ns.length := by rw [onL_len] at hx; exact hx
    have hk0 : k < ns0.length := by rw [← h.len]; exact hk
    have hb := h.at_ x hx0 hx'
    have hbk := h.at_ k hk hk0
    have ec : onE ns[k] = onE ns0[k] := onE_c (by rw [hbk]; split; exact ns0[k].lit_c.1; rfl)
    have hm : (x ∈ c ++ [k]) ↔ x ∈ c ∨ x = k := by rw [List.mem_append, List.mem_singleton]
    by_cases e : x = k
    · subst e
      rw [if_pos (hm.mpr (.inr rfl))]
      unfold onL
      by_cases h0 : onE ns[x] = 0
      · simp only [if_pos h0]
        rw [List.getElem_set_self, Nd.turn_lit h0, hb]
        split
        · exact Nd.lit_lit _
        · rfl
      · simp only [if_neg h0]
        rw [hb]
        have h1 : ¬ onE ns0[x] = 0 := by rw [← ec]; exact h0
        split
        · rfl
        · rw [Nd.lit, if_neg h1]
    · have hm2 : (x ∈ c ++ [k]) ↔ x ∈ c := by rw [hm]; simp [e]
      have : (onL ns k hk true)[x] = ns[x] := by
        unfold onL
        by_cases h0 : onE ns[k] = 0
        · simp only [if_pos h0]; rw [List.getElem_set_ne (Ne.symm e)]
        · simp only [if_neg h0]
      rw [this, hb]; simp only [hm2]
theorem LitOf.same {ns0 ns : List Nd} {c : List Nat} (h : LitOf ns0 ns c) {x : Nat} (hx : x < ns.length) (hx' : x < ns0.length) : ns[x].c = ns0[x].c ∧ ns[x].left = ns0[x].left ∧ ns[x].source = ns0[x].source ∧ ns[x].want = ns0[x].want ∧ ns[x].set = ns0[x].set := by
  rw [h.at_ x hx hx']
  split
  · exact ns0[x].lit_c
  · exact ⟨rfl, rfl, rfl, rfl, rfl⟩
theorem LitOf.pot {ns0 ns : List Nd} {c : List Nat} (h : LitOf ns0 ns c) (h0 : NsOk ns0) (h1 : NsOk ns) : ∀ x : Nat, x < ns.length → pot ns x = pot ns0 x := by
  intro x
  induction x using Nat.strongRecOn with
  | _ x ih =>
  intro hx
  have hx0 : x < ns0.length := by rw [← h.len]; exact hx
  obtain ⟨a, b, d, _, _⟩ := h.same hx hx0
  rw [pot_eq h1 hx, pot_eq h0 hx0, a, b, d]
  by_cases hk : ns0[x].c.kind = 111
  · rw [if_pos hk, if_pos hk]
  · obtain ⟨z, e1, e2, _⟩ := (h0 x hx0).low hk
    rw [if_neg hk, if_neg hk, e1, Int.toNat_natCast, ih z e2 (by omega)]
theorem LitOf.lks {C : List Clk} {ns : List Nd} {c : List Nat} (hC : ∀ i (hi : i < C.length), ClkOk i C[i]) (h : LitOf (cfresh C) ns c) (h1 : NsOk ns) : ∀ x : Nat, x < ns.length → (∀ y ∈ chainN (cfresh C) x, y ∈ c) → Lks ns x := by
  have h0 := NsOk.fresh hC
  intro x
  induction x using Nat.strongRecOn with
  | _ x ih =>
  intro hx hm
  have hx0 : x < (cfresh C).length := by rw [← h.len]; exact hx
  have hxC : x < C.length := by rw [cfresh_len] at hx0; exact hx0
  obtain ⟨a, b, d, w1, w2⟩ := h.same hx hx0
  have hf : (cfresh C)[x] = Nd.fresh C[x] := by simp [cfresh]
  have hfl : (Nd.fresh C[x]).left = if C[x].kind = 112 then C[x].lock else 0 := rfl
  have hfc : (Nd.fresh C[x]).c = C[x] := rfl
  rw [hf] at a b d w1 w2
  rw [hfc] at a
  rw [hfl] at b
  have hxc : x ∈ c := by
    refine hm x ?_
    rw [chainN_eq h0 hx0]; split <;> simp
  have hat := h.at_ x hx hx0
  rw [if_pos hxc, hf] at hat
  by_cases hk : C[x].kind = 111
  · exact .osc x hx (by rw [a]; exact hk) (by rw [b, if_neg (by rw [hk]; decide)])
  · have hk' : (cfresh C)[x].c.kind ≠ 111 := by rw [hf, hfc]; exact hk
    obtain ⟨z, e1, e2, _⟩ := (h0 x hx0).low hk'
    rw [hf] at e1
    have hz : ∀ y ∈ chainN (cfresh C) z, y ∈ c := fun y hy => hm y (by
      rw [chainN_eq h0 hx0, if_neg hk', hf, e1, Int.toNat_natCast, List.mem_append]; exact .inl hy)
    refine .up x z hx (by rw [a]; exact hk) (by rw [d, e1]) (ih z e2 (by omega) hz) (fun e => ?_) (fun e _ => ?_) (fun e => ?_) (by rw [w1, w2]; rfl)
    · rw [hat, Nd.lit, if_pos]
      rw [a] at e
      unfold onE; rw [if_pos (by rw [hfc]; exact e)]
    · rw [a] at e
      rw [b, if_pos e, a]
    · rw [a] at e
      rw [b, if_neg e]
theorem ck_get {S : Soc} {k : Nat} (hk : k < S.clocks.length) : (S.clocks.flatMap Clk.cells)[k * 6]? = some (.int .u8 S.clocks[k].kind) :=
  rows_get Clk.cells (w := 6) (fun _ => rfl) hk (j := 0) (by omega)
end Go.Proofs.Ytkioaemhdbcfaaa.Cn
