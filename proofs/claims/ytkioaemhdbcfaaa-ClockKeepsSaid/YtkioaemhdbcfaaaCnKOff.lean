/- Clocks: ClockOff, what it is about. -/
import Derived.Test.YtkioaemhdbcfaaaCnKLocks
set_option linter.unusedSimpArgs false
set_option linter.unusedVariables false
set_option linter.unusedSectionVars false
namespace Go.Proofs.Ytkioaemhdbcfaaa.Cn
open Go Go.Proofs

theorem pot_few {C : List Clk} (hC : ∀ i (hi : i < C.length), ClkOk i C[i]) : ∀ x : Nat, x < (cfresh C).length → pot (cfresh C) x ≤ 3 * ((x : Int) + 1) := by
  have h0 := NsOk.fresh hC
  intro x
  induction x using Nat.strongRecOn with
  | _ x ih =>
  intro hx
  have hxC : x < C.length := by rw [cfresh_len] at hx; exact hx
  have hf : (cfresh C)[x] = Nd.fresh C[x] := by simp [cfresh]
  have hl : (cfresh C)[x].left ≤ 3 := by
    rw [hf]
    have := hC x hxC
    generalize C[x] = c at this
    cases this with
    | pll a m d l _ _ _ hl => simp [Nd.fresh]; omega
    | _ => simp [Nd.fresh]
  rw [pot_eq h0 hx]
  by_cases hk : (cfresh C)[x].c.kind = 111
  · rw [if_pos hk]; omega
  · obtain ⟨z, e1, e2, _⟩ := (h0 x hx).low hk
    rw [if_neg hk, e1, Int.toNat_natCast]
    have := ih z e2 (by omega)
    omega
theorem Lks.lit {ns : List Nd} {x : Nat} (h : Lks ns x) (hx : x < ns.length) : ns[x].lit = ns[x] := by
  unfold Nd.lit
  by_cases e : onE ns[x] = 0
  · rw [if_pos e]
    have hk : ns[x].c.kind = 112 ∨ ns[x].c.kind = 103 := by
      unfold onE at e; split at e
      · assumption
      · cases e
    cases h with
    | osc _ _ k => omega
    | up _ y _ k s t on => rw [← on hk]
  · rw [if_neg e]
theorem LitOf.none {ns0 ns : List Nd} {c : List Nat} (h : LitOf ns0 ns c) (hL : ∀ x, x < ns0.length → Lks ns0 x) : ns = ns0 := by
  refine List.ext_getElem h.len fun x hx hx0 => ?_
  rw [h.at_ x hx hx0]
  split
  · exact (hL x hx0).lit hx0
  · rfl
/-- All run. -/
def AllRun (ns : List Nd) : Prop := ∀ x, x < ns.length → run ns x = true
/-- One that was turned off. -/
def offN (ns : List Nd) (g : Nat) (hg : g < ns.length) : List Nd := ns.set g (ns[g].turn false)
theorem offN_src {ns : List Nd} {g : Nat} (hg : g < ns.length) {x : Nat} (hx : x < (offN ns g hg).length) : ((offN ns g hg)[x]).source = (ns[x]'(by simpa [offN] using hx)).source ∧ ((offN ns g hg)[x]).c = (ns[x]'(by simpa [offN] using hx)).c := by
  simp only [offN, List.getElem_set]
  split
  · rename_i e; subst e
    unfold Nd.turn; split <;> exact ⟨rfl, rfl⟩
  · exact ⟨rfl, rfl⟩
theorem chain_le {ns : List Nd} (hN : NsOk ns) : ∀ x : Nat, x < ns.length → ∀ y ∈ chainN ns x, y ≤ x := by
  intro x
  induction x using Nat.strongRecOn with
  | _ x ih =>
  intro hx y hy
  rw [chainN_eq hN hx] at hy
  by_cases hk : ns[x].c.kind = 111
  · rw [if_pos hk, List.mem_singleton] at hy; omega
  · obtain ⟨z, e1, e2, _⟩ := (hN x hx).low hk
    rw [if_neg hk, e1, Int.toNat_natCast, List.mem_append, List.mem_singleton] at hy
    rcases hy with hy | rfl
    · have := ih z e2 (by omega) y hy; omega
    · omega
theorem off_run {ns : List Nd} (hN : NsOk ns) (ha : AllRun ns) {g : Nat} (hg : g < ns.length) (he : onE ns[g] = 0) (hN' : NsOk (offN ns g hg)) :
    ∀ x : Nat, x < ns.length → run (offN ns g hg) x = !decide (g ∈ chainN (offN ns g hg) x) := by
  have hkg : ns[g].c.kind = 112 ∨ ns[g].c.kind = 103 := by
    unfold onE at he; split at he
    · assumption
    · cases he
  intro x
  induction x using Nat.strongRecOn with
  | _ x ih =>
  intro hx
  have hx' : x < (offN ns g hg).length := by simpa [offN] using hx
  obtain ⟨s1, s2⟩ := offN_src hg hx'
  rw [run_eq hN' hx', chainN_eq hN' hx', s1, s2]
  by_cases hk : ns[x].c.kind = 111
  · rw [if_pos hk, if_pos hk]
    have : g ≠ x := by rintro rfl; omega
    simp [this]
  · obtain ⟨z, e1, e2, _⟩ := (hN x hx).low hk
    rw [if_neg hk, if_neg hk, e1, Int.toNat_natCast, ih z e2 (by omega)]
    by_cases e : g = x
    · subst e
      have : ((offN ns g hg)[g]).own = false := by
        simp only [offN, List.getElem_set_self]
        have hc := Nd.turn_c ns[g] false
        have ho : (ns[g].turn false).on = false := by unfold Nd.turn; split <;> rfl
        unfold Nd.own; rw [hc, ho]
        rcases hkg with h | h <;> simp [h]
      rw [this]; simp
    · have h1 : ((offN ns g hg)[x]).own = true := by
        have : (offN ns g hg)[x] = ns[x] := by simp [offN, List.getElem_set, e]
        rw [this]
        have hr := ha x hx
        rw [run_eq hN hx, if_neg hk, Bool.and_eq_true] at hr
        exact hr.1
      rw [h1]; simp [e]
theorem run_below {ns ms : List Nd} (hN : NsOk ns) (hM : NsOk ms) (hl : ms.length = ns.length) {g : Nat} (hb : ∀ y (h : y < ns.length) (h' : y < ms.length), y < g → ms[y] = ns[y]) : ∀ x : Nat, x < ns.length → x < g → run ms x = run ns x := by
  intro x
  induction x using Nat.strongRecOn with
  | _ x ih =>
  intro hx hxg
  have hx' : x < ms.length := by omega
  rw [run_eq hM hx', run_eq hN hx, hb x hx hx' hxg]
  by_cases hk : ns[x].c.kind = 111
  · rw [if_pos hk, if_pos hk]
  · obtain ⟨z, e1, e2, _⟩ := (hN x hx).low hk
    rw [if_neg hk, if_neg hk, e1, Int.toNat_natCast, ih z e2 (by omega) (by omega)]
/-- Turned on again. -/
theorem again_run {ns : List Nd} (hN : NsOk ns) (ha : AllRun ns) {g : Nat} (hg : g < ns.length) (he : onE ns[g] = 0) {n : Nd} (hn : n = (ns[g].turn false).turn true) (hM : NsOk ((offN ns g hg).set g n)) :
    run ((offN ns g hg).set g n) g = (decide (ns[g].c.kind = 103) || decide (ns[g].c.lock = 0)) := by
  have hkg : ns[g].c.kind = 112 ∨ ns[g].c.kind = 103 := by
    unfold onE at he; split at he
    · assumption
    · cases he
  have hg2 : g < ((offN ns g hg).set g n).length := by simpa [offN] using hg
  have eg : ((offN ns g hg).set g n)[g] = n := by simp
  have hc : n.c = ns[g].c := by rw [hn, Nd.turn_c, Nd.turn_c]
  have hs : n.source = ns[g].source := by unfold Nd.source; rw [hc]; congr 1; rw [hn]; unfold Nd.turn; split <;> split <;> rfl
  have hk : ns[g].c.kind ≠ 111 := by omega
  obtain ⟨z, e1, e2, _⟩ := (hN g hg).low hk
  have hr := run_below hN hM (by simp [offN]) (g := g) (fun y h h' hy => by
    have : g ≠ y := by omega
    simp [offN, List.getElem_set, this]) z (by omega) e2
  rw [run_eq hM hg2, eg, hc, if_neg hk, hs, e1, Int.toNat_natCast, hr, ha z (by omega), Bool.and_true]
  have ho : n.on = true := by rw [hn]; unfold Nd.turn; rw [if_neg (by simp)]
  have hl : n.left = if ns[g].c.kind = 112 then ns[g].c.lock else ns[g].left := by
    rw [hn]
    have h1 : ((ns[g].turn false).turn true).left = (ns[g].turn false).left := by
      generalize ns[g].turn false = m
      unfold Nd.turn; rw [if_neg (by simp)]
    rw [h1]; unfold Nd.turn
    by_cases h : ns[g].c.kind = 112
    · rw [if_pos ⟨h, rfl⟩, if_pos h]
    · rw [if_neg (fun e => h e.1), if_neg h]
  unfold Nd.own
  rw [hc, ho, hl]
  rcases hkg with h | h
  · simp [h]
  · simp [h]
end Go.Proofs.Ytkioaemhdbcfaaa.Cn
