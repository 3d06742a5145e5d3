/- Clocks: ClockKeeps, ticks that change nothing. -/
import Derived.Test.YtkioaemhdbcfaaaCnKOff
import Derived.Test.YtkioaemhdbcfaaaCnKList
set_option linter.unusedSimpArgs false
set_option linter.unusedVariables false
set_option linter.unusedSectionVars false
namespace Go.Proofs.Ytkioaemhdbcfaaa.Cn
open Go Go.Proofs

theorem tick_same {m : Nat} {n : Nd} (h : NdOk m n) {R R' : Nat → Bool} (hR : ∀ y, y < m → R y = R' y) : n.tick R = n.tick R' := by
  unfold Nd.tick
  by_cases hk : n.c.kind = 112
  · obtain ⟨x, e1, e2, _⟩ := h.low (by omega)
    rw [if_pos hk, if_pos hk, e1, Int.toNat_natCast, hR x e2]
  · rw [if_neg hk, if_neg hk]
    by_cases hm : n.c.kind = 109
    · obtain ⟨w, z, x, y, ew, ez, _, _, gx, gy, hx, hy⟩ := h.mux hm
      rw [ew, ez, Int.toNat_natCast, Int.toNat_natCast, List.getD_eq_getElem?_getD, List.getD_eq_getElem?_getD, gx, gy]
      simp only [Option.getD_some, Int.toNat_natCast]
      simp only [hR x hx, hR y hy]
    · rw [if_neg (fun e => hm e.1), if_neg (fun e => hm e.1)]
/-- Behind three ticks a node of whose sources nothing changes stays. -/
theorem tick_three {n : Nd} (R : Nat → Bool) (hl : 0 ≤ n.left ∧ n.left ≤ 3) : (((n.tick R).tick R).tick R).tick R = ((n.tick R).tick R).tick R := by
  have hoff : ∀ n : Nd, n.c.kind = 112 → n.on = false → n.tick R = n := fun n hk ho => by
    unfold Nd.tick; rw [if_pos hk, if_neg (by rw [ho]; decide)]
  have hstand : ∀ n : Nd, n.c.kind = 112 → n.on = true → R n.source.toNat = false → (n.tick R) = { n with left := n.c.lock } := fun n hk ho hr => by
    unfold Nd.tick; rw [if_pos hk, if_pos ho, if_pos hr]
  have hrun : ∀ n : Nd, n.c.kind = 112 → n.on = true → R n.source.toNat = true → (n.tick R) = { n with left := if 0 < n.left then n.left - 1 else n.left } := fun n hk ho hr => by
    unfold Nd.tick; rw [if_pos hk, if_pos ho, if_neg (by rw [hr]; decide)]
    split
    · rename_i h; rfl
    · rfl
  have hnot : ∀ n : Nd, n.c.kind ≠ 112 → (n.want = n.set) → n.tick R = n := fun n hk hw => by
    unfold Nd.tick; rw [if_neg hk, if_neg (fun e => e.2.1 hw)]
  by_cases hk : n.c.kind = 112
  · by_cases ho : n.on = true
    · by_cases hr : R n.source.toNat = true
      · have step : ∀ l : Int, Nd.tick R { n with left := l } = { n with left := if 0 < l then l - 1 else l } := fun l => hrun { n with left := l } hk ho hr
        have e0 : n.tick R = { n with left := if 0 < n.left then n.left - 1 else n.left } := hrun n hk ho hr
        rw [e0, step, step, step]
        have : n.left = 0 ∨ n.left = 1 ∨ n.left = 2 ∨ n.left = 3 := by omega
        rcases this with h | h | h | h <;> simp [h]
      · have hr : R n.source.toNat = false := by simpa using hr
        rw [hstand n hk ho hr]
        rw [hstand { n with left := n.c.lock } hk ho hr, hstand { n with left := n.c.lock } hk ho hr, hstand { n with left := n.c.lock } hk ho hr]
    · have ho : n.on = false := by simpa using ho
      rw [hoff n hk ho, hoff n hk ho, hoff n hk ho, hoff n hk ho]
  · by_cases hw : n.want = n.set
    · rw [hnot n hk hw, hnot n hk hw, hnot n hk hw, hnot n hk hw]
    · by_cases hc : n.c.kind = 109 ∧ n.want ≠ n.set ∧ (R (n.c.src.getD n.want.toNat 0).toNat = true ∨ R (n.c.src.getD n.set.toNat 0).toNat = false)
      · have e : n.tick R = { n with set := n.want } := by unfold Nd.tick; rw [if_neg hk, if_pos hc]
        rw [e, hnot { n with set := n.want } hk rfl, hnot { n with set := n.want } hk rfl, hnot { n with set := n.want } hk rfl]
      · have e : n.tick R = n := by unfold Nd.tick; rw [if_neg hk, if_neg hc]
        rw [e, e, e, e]
/-- So many are as they stay. -/
def FixTo (ns : List Nd) (m : Nat) : Prop := ∀ x (h : x < ns.length), x < m → ns[x].tick (run ns) = ns[x]
def LowL (ns : List Nd) : Prop := ∀ x (h : x < ns.length), ns[x].left ≤ 3 ∧ ns[x].c.lock ≤ 3
theorem tickL_at {ns : List Nd} {x : Nat} (h : x < (ctickL ns).length) : (ctickL ns)[x] = (ns[x]'(by rw [ctickL_len] at h; exact h)).tick (run ns) := by simp only [ctickL, List.getElem_map]
theorem fix_run {ns : List Nd} (hN : NsOk ns) {m : Nat} (h : FixTo ns m) : ∀ y, y < m → y < ns.length → run (ctickL ns) y = run ns y := fun y hy hn =>
  run_below hN hN.tick (ctickL_len ns) (g := m) (fun x hx hx' hxm => by rw [tickL_at]; exact h x hx hxm) y hn hy
theorem FixTo.tick {ns : List Nd} (hN : NsOk ns) {m : Nat} (h : FixTo ns m) : FixTo (ctickL ns) m := fun x hx hxm => by
  have hx0 : x < ns.length := by rw [ctickL_len] at hx; exact hx
  rw [tickL_at, h x hx0 hxm, tick_same (hN x hx0) (R' := run ns) fun y hy => fix_run hN h y (by omega) (by omega)]
  exact h x hx0 hxm
theorem LowL.tick {ns : List Nd} (hL : LowL ns) : LowL (ctickL ns) := fun x hx => by
  have hx0 : x < ns.length := by rw [ctickL_len] at hx; exact hx
  have := hL x hx0
  rw [tickL_at, Nd.tick_c]
  refine ⟨?_, this.2⟩
  unfold Nd.tick
  split
  · split
    · split
      · exact this.2
      · split
        · show ns[x].left - 1 ≤ 3; omega
        · exact this.1
    · exact this.1
  · split <;> exact this.1
theorem FixTo.more {ns : List Nd} (hN : NsOk ns) (hL : LowL ns) {m : Nat} (h : FixTo ns m) : FixTo (ctickL (ctickL (ctickL ns))) (m + 1) := fun x hx hxm => by
  have hN1 := hN.tick
  have hN2 := hN1.tick
  have hN3 := hN2.tick
  have h1 := h.tick hN
  have h2 := h1.tick hN1
  have h3 := h2.tick hN2
  by_cases e : x < m
  · exact h3 x hx e
  have e : x = m := by omega
  subst e
  have l1 := ctickL_len ns
  have l2 := ctickL_len (ctickL ns)
  have l3 := ctickL_len (ctickL (ctickL ns))
  have r1 := fun y (hy : y < x) => fix_run hN h y hy (by omega)
  have r2 := fun y (hy : y < x) => fix_run hN1 h1 y hy (by omega)
  have r3 := fun y (hy : y < x) => fix_run hN2 h2 y hy (by omega)
  have hx0 : x < ns.length := by omega
  have q1 : (ctickL ns)[x]'(by omega) = ns[x].tick (run ns) := tickL_at _
  have q2 : (ctickL (ctickL ns))[x]'(by omega) = (ns[x].tick (run ns)).tick (run ns) := by
    rw [tickL_at, tick_same (hN1 x (by omega)) r1, q1]
  have q3 : (ctickL (ctickL (ctickL ns)))[x] = ((ns[x].tick (run ns)).tick (run ns)).tick (run ns) := by
    rw [tickL_at, tick_same (hN2 x (by omega)) (R' := run ns) fun y hy => by rw [r2 y hy, r1 y hy]]
    rw [q2]
  rw [tick_same (hN3 x hx) (R' := run ns) fun y hy => by rw [r3 y hy, r2 y hy, r1 y hy]]
  rw [q3]
  exact tick_three _ ⟨(hN x hx0).left.1, (hL x hx0).1⟩
def tickN : Nat → List Nd → List Nd
  | 0, ns => ns
  | k + 1, ns => ctickL (tickN k ns)
theorem tickN_len (ns : List Nd) : ∀ k, (tickN k ns).length = ns.length
  | 0 => rfl
  | k + 1 => by rw [tickN, ctickL_len, tickN_len ns k]
theorem tickN_ok {ns : List Nd} (hN : NsOk ns) : ∀ k, NsOk (tickN k ns)
  | 0 => hN
  | k + 1 => (tickN_ok hN k).tick
theorem tickN_low {ns : List Nd} (hN : LowL ns) : ∀ k, LowL (tickN k ns)
  | 0 => hN
  | k + 1 => (tickN_low hN k).tick
theorem tickN_fix {ns : List Nd} (hN : NsOk ns) (hL : LowL ns) : ∀ m, FixTo (tickN (3 * m) ns) m
  | 0 => fun x _ h => by omega
  | m + 1 => by
    rw [show 3 * (m + 1) = 3 * m + 1 + 1 + 1 by omega]
    exact (tickN_fix hN hL m).more (tickN_ok hN _) (tickN_low hL _)
theorem tickN_stay {ns : List Nd} (hN : NsOk ns) (hL : LowL ns) (h9 : ns.length ≤ 9) : ctickL (tickN 60 ns) = tickN 60 ns := by
  have h27 : ∀ k, FixTo (tickN (27 + k) ns) 9 := by
    intro k
    induction k with
    | zero => exact tickN_fix hN hL 9
    | succ k ih => exact ih.tick (tickN_ok hN _)
  have h60 := h27 33
  refine List.ext_getElem (ctickL_len _) fun x hx hx0 => ?_
  rw [tickL_at]
  exact h60 x hx0 (by rw [tickN_len] at hx0; omega)
theorem LowL.fresh {C : List Clk} (hC : ∀ i (hi : i < C.length), ClkOk i C[i]) : LowL (cfresh C) := fun x hx => by
  have hxC : x < C.length := by rw [cfresh_len] at hx; exact hx
  have hf : (cfresh C)[x] = Nd.fresh C[x] := by simp [cfresh]
  rw [hf]
  have := hC x hxC
  generalize C[x] = c at this
  cases this with
  | pll a m d l _ _ _ hl => simp [Nd.fresh]; omega
  | _ => simp [Nd.fresh]
theorem LowL.set {ns : List Nd} (h : LowL ns) {i : Nat} {n : Nd} (hn : n.left ≤ 3 ∧ n.c.lock ≤ 3) : LowL (ns.set i n) := fun x hx => by
  simp only [List.length_set] at hx
  rw [List.getElem_set]
  split
  · exact hn
  · exact h x hx
theorem LowL.on {ns : List Nd} (h : LowL ns) {i : Nat} (hi : i < ns.length) (b : Bool) : LowL (onL ns i hi b) := by
  have := h i hi
  unfold onL; split
  · refine h.set ?_
    rw [Nd.turn_c]
    refine ⟨?_, this.2⟩
    unfold Nd.turn; split
    · exact this.2
    · exact this.1
  · exact h
theorem LowL.sel {ns : List Nd} (h : LowL ns) {i : Nat} (hi : i < ns.length) (k : Int) : LowL (selL ns i hi k) := by
  have := h i hi
  unfold selL; split
  · exact h.set this
  · exact h
end Go.Proofs.Ytkioaemhdbcfaaa.Cn
