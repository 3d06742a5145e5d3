/- Clocks: ClockLocks, the walk. -/
import Derived.Test.YtkioaemhdbcfaaaCnKLocks
set_option linter.unusedSimpArgs false
set_option linter.unusedVariables false
set_option linter.unusedSectionVars false
namespace Go.Proofs.Ytkioaemhdbcfaaa.Cn
open Go Go.Proofs

theorem chainN_lt {ns : List Nd} (hN : NsOk ns) : ∀ x : Nat, x < ns.length → ∀ y ∈ chainN ns x, y < ns.length := by
  intro x
  induction x using Nat.strongRecOn with
  | _ x ih =>
  intro hx y hy
  rw [chainN_eq hN hx] at hy
  by_cases hk : ns[x].c.kind = 111
  · rw [if_pos hk, List.mem_singleton] at hy; omega
  · obtain ⟨z, e1, e2, _⟩ := (hN x hx).low hk
    rw [if_neg hk, e1, Int.toNat_natCast, List.mem_append, List.mem_singleton] at hy
    rcases hy with hy | rfl
    · exact ih z e2 (by omega) y hy
    · exact hx
/-- Turned on, if that can be. -/
def Nd.lit (n : Nd) : Nd := if onE n = 0 then { n with on := true } else n
theorem Nd.lit_c (n : Nd) : n.lit.c = n.c ∧ n.lit.left = n.left ∧ n.lit.source = n.source ∧ n.lit.want = n.want ∧ n.lit.set = n.set := by unfold Nd.lit; split <;> exact ⟨rfl, rfl, rfl, rfl, rfl⟩
theorem Nd.turn_lit {n : Nd} (h : onE n = 0) : n.turn true = n.lit := by rw [Nd.turn, if_neg (by simp), Nd.lit, if_pos h]
theorem onE_c {n m : Nd} (h : n.c = m.c) : onE n = onE m := by unfold onE; rw [h]
theorem Nd.lit_lit (n : Nd) : n.lit.lit = n.lit := by
  have e : onE n.lit = onE n := onE_c n.lit_c.1
  rw [Nd.lit, e]
  by_cases h : onE n = 0
  · rw [if_pos h, Nd.lit, if_pos h]
  · rw [if_neg h]
/-- Those of a list are on, all others as they were. -/
structure LitOf (ns0 ns : List Nd) (c : List Nat) : Prop where
  len : ns.length = ns0.length
  at_ : ∀ x (h : x < ns.length) (h' : x < ns0.length), ns[x] = if x ∈ c then ns0[x].lit else ns0[x]
theorem LitOf.start (ns : List Nd) : LitOf ns ns [] := ⟨rfl, fun x h h' => by rw [if_neg List.not_mem_nil]⟩
theorem LitOf.more {ns0 ns : List Nd} {c : List Nat} {k : Nat} (h : LitOf ns0 ns c) (hk : k < ns.length) : LitOf ns0 (onL ns k hk true) (c ++ [k]) where
  len := by rw [onL_len, h.len]
  at_ := fun x hx hx' => by
    have hx0 : x < ns.length := by rw [onL_len] at hx; exact hx
    have hk0 : k < ns0.length := by rw [← h.len]; exact hk
    have hb := h.at_ x hx0 hx'
    have hbk := h.at_ k hk hk0
    have ec : onE ns[k] = onE ns0[k] := onE_c (by rw [hbk]; split; exact ns0[k].lit_c.1; rfl)
    have hm : (x ∈ c ++ [k]) ↔ x ∈ c ∨ x = k := by rw [List.mem_append, List.mem_singleton]
    by_cases e : x = k
    · subst e
      rw [if_pos (hm.mpr (.inr rfl))]
      unfold onL
      by_cases h0 : onE ns[x] = 0
      · simp only [if_pos h0]
        rw [List.getElem_set_self, Nd.turn_lit h0, hb]
        split
        · exact Nd.lit_lit _
        · rfl
      · simp only [if_neg h0]
        rw [hb]
        have h1 : ¬ onE ns0[x] = 0 := by rw [← ec]; exact h0
        split
        · rfl
        · rw [Nd.lit, if_neg h1]
    · have hm2 : (x ∈ c ++ [k]) ↔ x ∈ c := by rw [hm]; simp [e]
      have : (onL ns k hk true)[x] = ns[x] := by
        unfold onL
        by_cases h0 : onE ns[k] = 0
        · simp only [if_pos h0]; rw [List.getElem_set_ne (Ne.symm e)]
        · simp only [if_neg h0]
      rw [this, hb]; simp only [hm2]
theorem LitOf.same {ns0 ns : List Nd} {c : List Nat} (h : LitOf ns0 ns c) {x : Nat} (hx : x < ns.length) (hx' : x < ns0.length) : ns[x].c = ns0[x].c ∧ ns[x].left = ns0[x].left ∧ ns[x].source = ns0[x].source ∧ ns[x].want = ns0[x].want ∧ ns[x].set = ns0[x].set := by
  rw [h.at_ x hx hx']
  split
  · exact ns0[x].lit_c
  · exact ⟨rfl, rfl, rfl, rfl, rfl⟩
theorem LitOf.pot {ns0 ns : List Nd} {c : List Nat} (h : LitOf ns0 ns c) (h0 : NsOk ns0) (h1 : NsOk ns) : ∀ x : Nat, x < ns.length → pot ns x = pot ns0 x := by
  intro x
  induction x using Nat.strongRecOn with
  | _ x ih =>
  intro hx
  have hx0 : x < ns0.length := by rw [← h.len]; exact hx
  obtain ⟨a, b, d, _, _⟩ := h.same hx hx0
  rw [pot_eq h1 hx, pot_eq h0 hx0, a, b, d]
  by_cases hk : ns0[x].c.kind = 111
  · rw [if_pos hk, if_pos hk]
  · obtain ⟨z, e1, e2, _⟩ := (h0 x hx0).low hk
    rw [if_neg hk, if_neg hk, e1, Int.toNat_natCast, ih z e2 (by omega)]
theorem LitOf.lks {C : List Clk} {ns : List Nd} {c : List Nat} (hC : ∀ i (hi : i < C.length), ClkOk i C[i]) (h : LitOf (cfresh C) ns c) (h1 : NsOk ns) : ∀ x : Nat, x < ns.length → (∀ y ∈ chainN (cfresh C) x, y ∈ c) → Lks ns x := by
  have h0 := NsOk.fresh hC
  intro x
  induction x using Nat.strongRecOn with
  | _ x ih =>
  intro hx hm
  have hx0 : x < (cfresh C).length := by rw [← h.len]; exact hx
  have hxC : x < C.length := by rw [cfresh_len] at hx0; exact hx0
  obtain ⟨a, b, d, w1, w2⟩ := h.same hx hx0
  have hf : (cfresh C)[x] = Nd.fresh C[x] := by simp [cfresh]
  have hfl : (Nd.fresh C[x]).left = if C[x].kind = 112 then C[x].lock else 0 := rfl
  have hfc : (Nd.fresh C[x]).c = C[x] := rfl
  rw [hf] at a b d w1 w2
  rw [hfc] at a
  rw [hfl] at b
  have hxc : x ∈ c := by
    refine hm x ?_
    rw [chainN_eq h0 hx0]; split <;> simp
  have hat := h.at_ x hx hx0
  rw [if_pos hxc, hf] at hat
  by_cases hk : C[x].kind = 111
  · exact .osc x hx (by rw [a]; exact hk) (by rw [b, if_neg (by rw [hk]; decide)])
  · have hk' : (cfresh C)[x].c.kind ≠ 111 := by rw [hf, hfc]; exact hk
    obtain ⟨z, e1, e2, _⟩ := (h0 x hx0).low hk'
    rw [hf] at e1
    have hz : ∀ y ∈ chainN (cfresh C) z, y ∈ c := fun y hy => hm y (by
      rw [chainN_eq h0 hx0, if_neg hk', hf, e1, Int.toNat_natCast, List.mem_append]; exact .inl hy)
    refine .up x z hx (by rw [a]; exact hk) (by rw [d, e1]) (ih z e2 (by omega) hz) (fun e => ?_) (fun e _ => ?_) (fun e => ?_) (by rw [w1, w2]; rfl)
    · rw [hat, Nd.lit, if_pos]
      rw [a] at e
      unfold onE; rw [if_pos (by rw [hfc]; exact e)]
    · rw [a] at e
      rw [b, if_pos e, a]
    · rw [a] at e
      rw [b, if_neg e]
theorem ck_get {S : Soc} {k : Nat} (hk : k < S.clocks.length) : (S.clocks.flatMap Clk.cells)[k * 6]? = some (.int .u8 S.clocks[k].kind) :=
  rows_get Clk.cells (w := 6) (fun _ => rfl) hk (j := 0) (by omega)
section
variable {st : ASt} {ib p ig : Nat} {S : Soc} (hS : S.like)
include hS
set_option maxHeartbeats 1000000 in
theorem kl_wait {s : ASt} {ns : List Nd} {i m : Nat} (h : KW st s ib p ig S ns) (hi : i < ns.length) (hL : Lks ns i) (hm : pot ns i = (m : Int)) (hm2 : m ≤ 1000) :
    awp Try.prog C.catnaplaw6_ClockLocks_c12 (Post [.slot 4] fun r s => r = .bool true ∧ st.le s) [(7, .ptr p 0), (9, .int .i64 i), (11, .int .i64 m)] s := by
  simp only [↓Bp, Bq, Bs, ↓aop.eq_28, ↓aop.eq_30, Nat.reduceEqDiff, Nat.reduceAdd, Nat.reduceMul, Nat.reduceSub, Nat.reduceLeDiff, Nat.reduceLT, Int.reduceLT, Int.reduceLE, Int.reduceEq, Int.reduceToNat, Int.reduceAdd, Int.reduceSub, Int.reduceNeg, ↓reduceIte, reduceCtorEq, ↓C.catnaplaw6_ClockLocks_W, C.catnaplaw6_ClockLocks_B, C.catnaplaw6_ClockLocks]
  refine awp_midB (fun _ : Unit => [(7, .ptr p 0), (9, .int .i64 i)]) (fun _ s' => ∃ ns, KW st s' ib p ig S ns ∧ i < ns.length ∧ Lks ns i ∧ pot ns i = 0) ?_ ?_
  rotate_left
  · clear h hi hL hm s
    rintro - s ⟨ns, h, hi, hL, hm⟩
    simp only [↓Bp, Bq, Bs, ↓aop.eq_28, ↓aop.eq_30, Nat.reduceEqDiff, Nat.reduceAdd, Nat.reduceMul, Nat.reduceSub, Nat.reduceLeDiff, Nat.reduceLT, Int.reduceLT, Int.reduceLE, Int.reduceEq, Int.reduceToNat, Int.reduceAdd, Int.reduceSub, Int.reduceNeg, ↓reduceIte, reduceCtorEq, ↓C.catnaplaw6_ClockLocks_W, C.catnaplaw6_ClockLocks_B, C.catnaplaw6_ClockLocks]
    refine (running_at h.t h.k.ok hi).mono ?_
    rintro r s1 ⟨rfl, rfl⟩
    rw [(hL.alive h.k.ok).2.mpr hm]
    simp only [↓Bp, Bq, Bs, ↓aop.eq_28, ↓aop.eq_30, Nat.reduceEqDiff, Nat.reduceAdd, Nat.reduceMul, Nat.reduceSub, Nat.reduceLeDiff, Nat.reduceLT, Int.reduceLT, Int.reduceLE, Int.reduceEq, Int.reduceToNat, Int.reduceAdd, Int.reduceSub, Int.reduceNeg, ↓reduceIte, reduceCtorEq, ↓C.catnaplaw6_ClockLocks_W, C.catnaplaw6_ClockLocks_B, C.catnaplaw6_ClockLocks]
    exact h.le
  refine awp_loopK (fun t : Nat => [(7, .ptr p 0), (9, .int .i64 i), (11, .int .i64 m), (15, .int .i64 t)]) (fun t s' => t ≤ m ∧ ∃ ns, KW st s' ib p ig S ns ∧ i < ns.length ∧ Lks ns i ∧ pot ns i = ((m - t : Nat) : Int)) (fun t => m - t) 0 rfl ⟨Nat.zero_le _, ns, h, hi, hL, hm⟩ ?_
  clear h hi hL hm s
  rintro t s ⟨ht, ns, h, hi, hL, hm⟩
  by_cases htl : t < m
  rotate_left
  · have htl' : ¬ (t : Int) < (m : Nat) := by omega
    rw [show m - t = 0 by omega] at hm
    simp only [↓Bp, Bq, Bs, ↓aop.eq_28, ↓aop.eq_30, Nat.reduceEqDiff, Nat.reduceAdd, Nat.reduceMul, Nat.reduceSub, Nat.reduceLeDiff, Nat.reduceLT, Int.reduceLT, Int.reduceLE, Int.reduceEq, Int.reduceToNat, Int.reduceAdd, Int.reduceSub, Int.reduceNeg, ↓reduceIte, reduceCtorEq, ↓C.catnaplaw6_ClockLocks_W, C.catnaplaw6_ClockLocks_B, C.catnaplaw6_ClockLocks, htl']
    exact ⟨(), ns, h, hi, hL, hm⟩
  have htl' : (t : Int) < (m : Nat) := by omega
  have hw : IntKind.i64.wrap ((t : Int) + 1) = ((t + 1 : Nat) : Int) := wsucc (n := 10000) (by omega) (by omega)
  have hr : run ns i = false := by
    cases e : run ns i
    · rfl
    · have := (hL.alive h.k.ok).2.mp e; omega
  simp only [↓Bp, Bq, Bs, ↓aop.eq_28, ↓aop.eq_30, Nat.reduceEqDiff, Nat.reduceAdd, Nat.reduceMul, Nat.reduceSub, Nat.reduceLeDiff, Nat.reduceLT, Int.reduceLT, Int.reduceLE, Int.reduceEq, Int.reduceToNat, Int.reduceAdd, Int.reduceSub, Int.reduceNeg, ↓reduceIte, reduceCtorEq, ↓C.catnaplaw6_ClockLocks_W, C.catnaplaw6_ClockLocks_B, C.catnaplaw6_ClockLocks, htl']
  refine (running_at h.t h.k.ok hi).mono ?_
  rintro r s1 ⟨rfl, rfl⟩
  rw [hr]
  simp only [↓Bp, Bq, Bs, ↓aop.eq_28, ↓aop.eq_30, Nat.reduceEqDiff, Nat.reduceAdd, Nat.reduceMul, Nat.reduceSub, Nat.reduceLeDiff, Nat.reduceLT, Int.reduceLT, Int.reduceLE, Int.reduceEq, Int.reduceToNat, Int.reduceAdd, Int.reduceSub, Int.reduceNeg, ↓reduceIte, reduceCtorEq, ↓C.catnaplaw6_ClockLocks_W, C.catnaplaw6_ClockLocks_B, C.catnaplaw6_ClockLocks]
  refine (ctick_spec h.t h.k.ok).mono ?_
  rintro r s2 rfl
  have h2 := h.set h.k.tick
  obtain ⟨hL2, hp2⟩ := hL.after h.k.ok
  simp only [↓Bp, Bq, Bs, ↓aop.eq_28, ↓aop.eq_30, Nat.reduceEqDiff, Nat.reduceAdd, Nat.reduceMul, Nat.reduceSub, Nat.reduceLeDiff, Nat.reduceLT, Int.reduceLT, Int.reduceLE, Int.reduceEq, Int.reduceToNat, Int.reduceAdd, Int.reduceSub, Int.reduceNeg, ↓reduceIte, reduceCtorEq, ↓C.catnaplaw6_ClockLocks_W, C.catnaplaw6_ClockLocks_B, C.catnaplaw6_ClockLocks, hw]
  exact ⟨t + 1, rfl, ⟨htl, _, h2, by rw [ctickL_len]; exact hi, hL2, by rw [hp2, if_neg (by omega)]; omega⟩, by omega⟩
set_option maxHeartbeats 2000000 in
theorem kl_on {s : ASt} {i : Nat} (h : KW st s ib p ig S (cfresh S.clocks)) (hi : i < S.clocks.length) :
    awp Try.prog C.catnaplaw6_ClockLocks_c26 (Post [.slot 4] fun r s => r = .bool true ∧ st.le s) [(6, .ptr ib 0), (7, .ptr p 0), (9, .int .i64 i), (10, row (nats (chainN (cfresh S.clocks) i)))] s := by
  have hnc := hS.nc
  have h0 := NsOk.fresh hS.clk
  have hl0 := cfresh_len S.clocks
  have hi0 : i < (cfresh S.clocks).length := by omega
  have hcl := chainN_len h0 i hi0
  have hclt := chainN_lt h0 i hi0
  have hsum : ∀ j, j ≤ (chainN (cfresh S.clocks) i).length → 0 ≤ (((chainN (cfresh S.clocks) i).take j).map (lfOf (cfresh S.clocks))).sum ∧ (((chainN (cfresh S.clocks) i).take j).map (lfOf (cfresh S.clocks))).sum ≤ 20 * (j : Int) := by
    intro j
    induction j with
    | zero => intro _; simp
    | succ j ih =>
      intro hj
      have := ih (by omega)
      rw [List.take_succ_eq_append_getElem (by omega), List.map_append, List.sum_append]
      have hlt := hclt _ (List.getElem_mem (show j < (chainN (cfresh S.clocks) i).length by omega))
      have hlf := (h0 _ hlt).left
      simp only [List.map_cons, List.map_nil, List.sum_cons, List.sum_nil, lfOf_at hlt]
      omega
  have hpot : ((chainN (cfresh S.clocks) i).map (lfOf (cfresh S.clocks))).sum = pot (cfresh S.clocks) i := rfl
  obtain ⟨c, hc⟩ : ∃ c, c = chainN (cfresh S.clocks) i := ⟨_, rfl⟩
  rw [← hc] at hcl hclt hsum hpot
  rw [← hc, row, nats_length]
  simp only [↓Bp, Bq, Bs, ↓aop.eq_28, ↓aop.eq_30, Nat.reduceEqDiff, Nat.reduceAdd, Nat.reduceMul, Nat.reduceSub, Nat.reduceLeDiff, Nat.reduceLT, Int.reduceLT, Int.reduceLE, Int.reduceEq, Int.reduceToNat, Int.reduceAdd, Int.reduceSub, Int.reduceNeg, ↓reduceIte, reduceCtorEq, ↓C.catnaplaw6_ClockLocks_W, C.catnaplaw6_ClockLocks_B, C.catnaplaw6_ClockLocks]
  refine awp_midB (fun _ : Unit => [(7, .ptr p 0), (9, .int .i64 i), (11, .int .i64 (pot (cfresh S.clocks) i))]) (fun _ s' => ∃ ns, KW st s' ib p ig S ns ∧ LitOf (cfresh S.clocks) ns c) ?_ ?_
  rotate_left
  · clear h s
    rintro - s ⟨ns, h, hL⟩
    have hin : i < ns.length := by rw [hL.len]; exact hi0
    have hk := hL.lks hS.clk h.k.ok i hin (fun y hy => by rw [hc]; exact hy)
    have hp := hL.pot h0 h.k.ok i hin
    have hb := hsum c.length (Nat.le_refl _)
    rw [List.take_length, hpot] at hb
    obtain ⟨m, hm⟩ : ∃ m : Nat, pot (cfresh S.clocks) i = m := ⟨(pot (cfresh S.clocks) i).toNat, by omega⟩
    rw [hm]
    exact kl_wait hS h hin hk (by rw [hp, hm]) (by omega)
  refine awp_loopK (fun j : Nat => [(6, .ptr ib 0), (7, .ptr p 0), (9, .int .i64 i), (10, .isl 1 (ints (nats c)) c.length), (11, .int .i64 (((c.take j).map (lfOf (cfresh S.clocks))).sum)), (12, .int .i64 j)]) (fun j s' => j ≤ c.length ∧ ∃ ns, KW st s' ib p ig S ns ∧ LitOf (cfresh S.clocks) ns (c.take j)) (fun j => c.length - j) 0 rfl ⟨Nat.zero_le _, _, h, LitOf.start _⟩ ?_
  clear h s
  rintro j s ⟨hj, ns, h, hL⟩
  by_cases hjl : j < c.length
  rotate_left
  · have hjl' : ¬ (j : Int) < (c.length : Nat) := by omega
    rw [show j = c.length by omega, List.take_length] at hL ⊢
    rw [hpot]
    have hjl2 : ¬ ((c.length : Nat) : Int) < (c.length : Nat) := by omega
    simp only [↓Bp, Bq, Bs, ↓aop.eq_28, ↓aop.eq_30, Nat.reduceEqDiff, Nat.reduceAdd, Nat.reduceMul, Nat.reduceSub, Nat.reduceLeDiff, Nat.reduceLT, Int.reduceLT, Int.reduceLE, Int.reduceEq, Int.reduceToNat, Int.reduceAdd, Int.reduceSub, Int.reduceNeg, ↓reduceIte, reduceCtorEq, ↓C.catnaplaw6_ClockLocks_W, C.catnaplaw6_ClockLocks_B, C.catnaplaw6_ClockLocks, hjl2]
    exact ⟨(), ns, h, hL⟩
  have hjl' : (j : Int) < (c.length : Nat) := by omega
  have hw := wsucc hjl (by omega)
  have hz : (0:Int) ≤ (j : Int) ∧ (j : Int) < (c.length : Nat) := by omega
  have hg : (ints (nats c))[j]? = some (.int .i64 (c[j] : Nat)) := by simp [ints, nats, hjl]
  have hk0 := hclt _ (List.getElem_mem hjl)
  obtain ⟨k, hkk⟩ : ∃ k, k = c[j] := ⟨_, rfl⟩
  have htk : c.take (j + 1) = c.take j ++ [k] := by rw [List.take_succ_eq_append_getElem hjl, hkk]
  rw [← hkk] at hg hk0
  have hk : k < ns.length := by rw [hL.len]; exact hk0
  have hkC : k < S.clocks.length := by omega
  have hzk : (0:Int) ≤ (k : Int) ∧ (k : Int) < (S.clocks.length : Nat) := by omega
  have hgk := ck_get hkC
  have hsame := h.k.same k hk hkC
  have hK2 := h.k.on hk true
  have h2 := h.set hK2
  have hL2 := hL.more hk
  rw [← htk] at hL2
  have hk2 : k < (onL ns k hk true).length := by rw [onL_len]; exact hk
  have hleft : ((onL ns k hk true)[k]).left = lfOf (cfresh S.clocks) k := by rw [lfOf_at hk0, (hL2.same hk2 hk0).2.1]
  have hs1 := hsum j (by omega)
  have hs2 := hsum (j + 1) (by omega)
  have hsu : ((c.take (j + 1)).map (lfOf (cfresh S.clocks))).sum = ((c.take j).map (lfOf (cfresh S.clocks))).sum + lfOf (cfresh S.clocks) k := by
    rw [htk, List.map_append, List.sum_append]; simp
  have w1 : IntKind.i64.wrap (((c.take j).map (lfOf (cfresh S.clocks))).sum + lfOf (cfresh S.clocks) k) = ((c.take (j + 1)).map (lfOf (cfresh S.clocks))).sum := by rw [hsu, wrap64] <;> omega
  simp only [↓Bp, Bq, Bs, ↓aop.eq_28, ↓aop.eq_30, Nat.reduceEqDiff, Nat.reduceAdd, Nat.reduceMul, Nat.reduceSub, Nat.reduceLeDiff, Nat.reduceLT, Int.reduceLT, Int.reduceLE, Int.reduceEq, Int.reduceToNat, Int.reduceAdd, Int.reduceSub, Int.reduceNeg, ↓reduceIte, reduceCtorEq, ↓C.catnaplaw6_ClockLocks_W, C.catnaplaw6_ClockLocks_B, C.catnaplaw6_ClockLocks, hjl', hz, hg, Int.toNat_natCast, Nat.mul_one]
  refine (on_spec h.t hk true).mono ?_
  rintro r s1 ⟨rfl, rfl⟩
  have hb2 := h2.hb
  generalize s.set ig (nsC (onL ns k hk true)) = s2 at h2 hb2
  unfold onE
  rw [hsame]
  by_cases k1 : S.clocks[k].kind = 112
  · rw [if_pos (.inl k1)]
    rw [k1] at hgk
    simp only [↓Bp, Bq, Bs, ↓aop.eq_28, ↓aop.eq_30, Nat.reduceEqDiff, Nat.reduceAdd, Nat.reduceMul, Nat.reduceSub, Nat.reduceLeDiff, Nat.reduceLT, Int.reduceLT, Int.reduceLE, Int.reduceEq, Int.reduceToNat, Int.reduceAdd, Int.reduceSub, Int.reduceNeg, ↓reduceIte, reduceCtorEq, ↓C.catnaplaw6_ClockLocks_W, C.catnaplaw6_ClockLocks_B, C.catnaplaw6_ClockLocks, hb2, Soc.cells, Soc.clkV, hz, hg, hzk, hgk, Int.toNat_natCast, Nat.mul_one]
    refine (cleft_at h2.t hk2).mono ?_
    rintro r s3 ⟨rfl, rfl⟩
    rw [hleft]
    simp only [↓Bp, Bq, Bs, ↓aop.eq_28, ↓aop.eq_30, Nat.reduceEqDiff, Nat.reduceAdd, Nat.reduceMul, Nat.reduceSub, Nat.reduceLeDiff, Nat.reduceLT, Int.reduceLT, Int.reduceLE, Int.reduceEq, Int.reduceToNat, Int.reduceAdd, Int.reduceSub, Int.reduceNeg, ↓reduceIte, reduceCtorEq, ↓C.catnaplaw6_ClockLocks_W, C.catnaplaw6_ClockLocks_B, C.catnaplaw6_ClockLocks, w1, hw]
    exact ⟨j + 1, rfl, ⟨hjl, _, h2, hL2⟩, by omega⟩
  by_cases k2 : S.clocks[k].kind = 103
  · rw [if_pos (.inr k2)]
    rw [k2] at hgk
    simp only [↓Bp, Bq, Bs, ↓aop.eq_28, ↓aop.eq_30, Nat.reduceEqDiff, Nat.reduceAdd, Nat.reduceMul, Nat.reduceSub, Nat.reduceLeDiff, Nat.reduceLT, Int.reduceLT, Int.reduceLE, Int.reduceEq, Int.reduceToNat, Int.reduceAdd, Int.reduceSub, Int.reduceNeg, ↓reduceIte, reduceCtorEq, ↓C.catnaplaw6_ClockLocks_W, C.catnaplaw6_ClockLocks_B, C.catnaplaw6_ClockLocks, hb2, Soc.cells, Soc.clkV, hz, hg, hzk, hgk, Int.toNat_natCast, Nat.mul_one]
    refine (cleft_at h2.t hk2).mono ?_
    rintro r s3 ⟨rfl, rfl⟩
    rw [hleft]
    simp only [↓Bp, Bq, Bs, ↓aop.eq_28, ↓aop.eq_30, Nat.reduceEqDiff, Nat.reduceAdd, Nat.reduceMul, Nat.reduceSub, Nat.reduceLeDiff, Nat.reduceLT, Int.reduceLT, Int.reduceLE, Int.reduceEq, Int.reduceToNat, Int.reduceAdd, Int.reduceSub, Int.reduceNeg, ↓reduceIte, reduceCtorEq, ↓C.catnaplaw6_ClockLocks_W, C.catnaplaw6_ClockLocks_B, C.catnaplaw6_ClockLocks, w1, hw]
    exact ⟨j + 1, rfl, ⟨hjl, _, h2, hL2⟩, by omega⟩
  · rw [if_neg (by simp [k1, k2])]
    have T1 := eq_false k1
    have T2 := eq_false k2
    simp only [↓Bp, Bq, Bs, ↓aop.eq_28, ↓aop.eq_30, Nat.reduceEqDiff, Nat.reduceAdd, Nat.reduceMul, Nat.reduceSub, Nat.reduceLeDiff, Nat.reduceLT, Int.reduceLT, Int.reduceLE, Int.reduceEq, Int.reduceToNat, Int.reduceAdd, Int.reduceSub, Int.reduceNeg, ↓reduceIte, reduceCtorEq, ↓C.catnaplaw6_ClockLocks_W, C.catnaplaw6_ClockLocks_B, C.catnaplaw6_ClockLocks, hb2, Soc.cells, Soc.clkV, hz, hg, hzk, hgk, T1, T2, Int.toNat_natCast, Nat.mul_one]
    refine (cleft_at h2.t hk2).mono ?_
    rintro r s3 ⟨rfl, rfl⟩
    rw [hleft]
    simp only [↓Bp, Bq, Bs, ↓aop.eq_28, ↓aop.eq_30, Nat.reduceEqDiff, Nat.reduceAdd, Nat.reduceMul, Nat.reduceSub, Nat.reduceLeDiff, Nat.reduceLT, Int.reduceLT, Int.reduceLE, Int.reduceEq, Int.reduceToNat, Int.reduceAdd, Int.reduceSub, Int.reduceNeg, ↓reduceIte, reduceCtorEq, ↓C.catnaplaw6_ClockLocks_W, C.catnaplaw6_ClockLocks_B, C.catnaplaw6_ClockLocks, w1, hw]
    exact ⟨j + 1, rfl, ⟨hjl, _, h2, hL2⟩, by omega⟩
end
theorem clocklocks_spec {st : ASt} {l : List Int} {x : Int} (hl : ∀ x ∈ l, -9223372036854775808 ≤ x ∧ x ≤ 9223372036854775807) (hll : l.length ≤ 9223372036854775807)
    (hx : -9223372036854775808 ≤ x ∧ x ≤ 9223372036854775807) :
    ACalls Try.prog F.catnaplaw6_ClockLocks [row l, .int .i64 x] st fun r s => r = .bool true ∧ s = st := by
  refine ACalls.gc (Q' := fun r s => r = .bool true ∧ st.le s) (calls_of_awp L.catnaplaw6_ClockLocks rfl ?_) (fun v s ⟨h, hl⟩ => ⟨st, hl, h, rfl⟩)
  simp only [↓Bp, Bq, Bs, ↓aop.eq_28, ↓aop.eq_30, Nat.reduceEqDiff, Nat.reduceAdd, Nat.reduceMul, Nat.reduceSub, Nat.reduceLeDiff, Nat.reduceLT, Int.reduceLT, Int.reduceLE, Int.reduceEq, Int.reduceToNat, Int.reduceAdd, Int.reduceSub, Int.reduceNeg, ↓reduceIte, reduceCtorEq, ↓C.catnaplaw6_ClockLocks_W, C.catnaplaw6_ClockLocks_B, C.catnaplaw6_ClockLocks]
  refine (kshown_spec st).mono ?_
  rintro r s ⟨rfl, rfl⟩
  simp only [↓Bp, Bq, Bs, ↓aop.eq_28, ↓aop.eq_30, Nat.reduceEqDiff, Nat.reduceAdd, Nat.reduceMul, Nat.reduceSub, Nat.reduceLeDiff, Nat.reduceLT, Int.reduceLT, Int.reduceLE, Int.reduceEq, Int.reduceToNat, Int.reduceAdd, Int.reduceSub, Int.reduceNeg, ↓reduceIte, reduceCtorEq, ↓C.catnaplaw6_ClockLocks_W, C.catnaplaw6_ClockLocks_B, C.catnaplaw6_ClockLocks]
  refine (chip_frz hl hll).mono ?_
  rintro r s ⟨rfl, rfl⟩
  have hS := chipS_like l
  generalize chipS l = S at hS
  have hnc := hS.nc
  have l4 : S.cells.length = 4 := rfl
  have e4 : AV.agg (List.take 4 S.cells) = .agg S.cells := rfl
  have f4 : allLeaf S.cells = true := rfl
  simp only [↓Bp, Bq, Bs, ↓aop.eq_28, ↓aop.eq_30, Nat.reduceEqDiff, Nat.reduceAdd, Nat.reduceMul, Nat.reduceSub, Nat.reduceLeDiff, Nat.reduceLT, Int.reduceLT, Int.reduceLE, Int.reduceEq, Int.reduceToNat, Int.reduceAdd, Int.reduceSub, Int.reduceNeg, ↓reduceIte, reduceCtorEq, ↓C.catnaplaw6_ClockLocks_r2_w, C.catnaplaw6_ClockLocks_r2_b, ↓C.catnaplaw6_ClockLocks_c33_w, ↓C.catnaplaw6_ClockLocks_r1_w, C.catnaplaw6_ClockLocks_r1_b, ↓C.catnaplaw6_ClockLocks_c34_w, ↓C.catnaplaw6_ClockLocks_r0_w, C.catnaplaw6_ClockLocks_r0_b, C.catnaplaw6_ClockLocks, l4, f4]
  rintro ib hib
  simp only [↓Bp, Bq, Bs, ↓aop.eq_28, ↓aop.eq_30, Nat.reduceEqDiff, Nat.reduceAdd, Nat.reduceMul, Nat.reduceSub, Nat.reduceLeDiff, Nat.reduceLT, Int.reduceLT, Int.reduceLE, Int.reduceEq, Int.reduceToNat, Int.reduceAdd, Int.reduceSub, Int.reduceNeg, ↓reduceIte, reduceCtorEq, ↓C.catnaplaw6_ClockLocks_r2_w, C.catnaplaw6_ClockLocks_r2_b, ↓C.catnaplaw6_ClockLocks_c33_w, ↓C.catnaplaw6_ClockLocks_r1_w, C.catnaplaw6_ClockLocks_r1_b, ↓C.catnaplaw6_ClockLocks_c34_w, ↓C.catnaplaw6_ClockLocks_r0_w, C.catnaplaw6_ClockLocks_r0_b, C.catnaplaw6_ClockLocks, hib, l4, f4]
  rw [ASt.new_set hib, show putN [AV.nils, AV.nils, AV.nils, AV.nils] 0 S.cells = S.cells from putN_all rfl]
  simp only [↓Bp, Bq, Bs, ↓aop.eq_28, ↓aop.eq_30, Nat.reduceEqDiff, Nat.reduceAdd, Nat.reduceMul, Nat.reduceSub, Nat.reduceLeDiff, Nat.reduceLT, Int.reduceLT, Int.reduceLE, Int.reduceEq, Int.reduceToNat, Int.reduceAdd, Int.reduceSub, Int.reduceNeg, ↓reduceIte, reduceCtorEq, ↓C.catnaplaw6_ClockLocks_W, C.catnaplaw6_ClockLocks_B, C.catnaplaw6_ClockLocks, hib, l4, e4]
  refine (kstart_spec hib hS).mono ?_
  rintro r s1 ⟨p, ig, rfl, h⟩
  have hb := h.hb
  simp only [↓Bp, Bq, Bs, ↓aop.eq_28, ↓aop.eq_30, Nat.reduceEqDiff, Nat.reduceAdd, Nat.reduceMul, Nat.reduceSub, Nat.reduceLeDiff, Nat.reduceLT, Int.reduceLT, Int.reduceLE, Int.reduceEq, Int.reduceToNat, Int.reduceAdd, Int.reduceSub, Int.reduceNeg, ↓reduceIte, reduceCtorEq, ↓C.catnaplaw6_ClockLocks_W, C.catnaplaw6_ClockLocks_B, C.catnaplaw6_ClockLocks, hb, Soc.cells, Soc.clkV]
  refine (pick_spec hx (n := S.clocks.length) (by omega)).mono ?_
  rintro r s1 ⟨rfl, rfl⟩
  have hd := pickI_lt x (n := S.clocks.length) (by omega)
  simp only [↓Bp, Bq, Bs, ↓aop.eq_28, ↓aop.eq_30, Nat.reduceEqDiff, Nat.reduceAdd, Nat.reduceMul, Nat.reduceSub, Nat.reduceLeDiff, Nat.reduceLT, Int.reduceLT, Int.reduceLE, Int.reduceEq, Int.reduceToNat, Int.reduceAdd, Int.reduceSub, Int.reduceNeg, ↓reduceIte, reduceCtorEq, ↓C.catnaplaw6_ClockLocks_W, C.catnaplaw6_ClockLocks_B, C.catnaplaw6_ClockLocks]
  refine (cchain_at h.t h.k.ok (by rw [cfresh_len]; exact hd)).mono ?_
  rintro r s1 ⟨rfl, rfl⟩
  simp only [↓Bp, Bq, Bs, ↓aop.eq_28, ↓aop.eq_30, Nat.reduceEqDiff, Nat.reduceAdd, Nat.reduceMul, Nat.reduceSub, Nat.reduceLeDiff, Nat.reduceLT, Int.reduceLT, Int.reduceLE, Int.reduceEq, Int.reduceToNat, Int.reduceAdd, Int.reduceSub, Int.reduceNeg, ↓reduceIte, reduceCtorEq, ↓C.catnaplaw6_ClockLocks_r7_w, C.catnaplaw6_ClockLocks_r7_b, ↓C.catnaplaw6_ClockLocks_c27_w, ↓C.catnaplaw6_ClockLocks_r6_w, C.catnaplaw6_ClockLocks_r6_b, ↓C.catnaplaw6_ClockLocks_c28_w, ↓C.catnaplaw6_ClockLocks_r5_w, C.catnaplaw6_ClockLocks_r5_b, ↓C.catnaplaw6_ClockLocks_c29_w, ↓C.catnaplaw6_ClockLocks_c30_w, ↓C.catnaplaw6_ClockLocks_r4_w, C.catnaplaw6_ClockLocks_r4_b, ↓C.catnaplaw6_ClockLocks_c31_w, ↓C.catnaplaw6_ClockLocks_r3_w, C.catnaplaw6_ClockLocks_r3_b, ↓C.catnaplaw6_ClockLocks_c32_w, ↓C.catnaplaw6_ClockLocks_r2_w, C.catnaplaw6_ClockLocks_r2_b, ↓C.catnaplaw6_ClockLocks_c33_w, ↓C.catnaplaw6_ClockLocks_r1_w, C.catnaplaw6_ClockLocks_r1_b, ↓C.catnaplaw6_ClockLocks_c34_w, ↓C.catnaplaw6_ClockLocks_r0_w, C.catnaplaw6_ClockLocks_r0_b, C.catnaplaw6_ClockLocks]
  rw [C.catnaplaw6_ClockLocks_c26_w, awp_keep]
  exact kl_on hS h hd
end Go.Proofs.Ytkioaemhdbcfaaa.Cn
