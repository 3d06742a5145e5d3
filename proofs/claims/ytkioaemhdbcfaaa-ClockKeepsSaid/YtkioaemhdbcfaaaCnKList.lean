/- Clocks: a list of numbers beside a tree. -/
import Derived.Test.YtkioaemhdbcfaaaCnClock7
import Derived.Test.YtkioaemhdbcfaaaCnTrip
set_option linter.unusedSimpArgs false
set_option linter.unusedVariables false
set_option linter.unusedSectionVars false
namespace Go.Proofs.Ytkioaemhdbcfaaa.Cn
open Go Go.Proofs

structure KX (st s : ASt) (ix : Nat) (D : List Int) (ib p ig : Nat) : Prop where
  hx : s.h ix = some (.cells (ints D))
  fx : st.h ix = none
  ng : ix ≠ ig
  np : ix ≠ p
  nb : ix ≠ ib
theorem KX.set {st s : ASt} {ix : Nat} {D : List Int} {ib p ig : Nat} (h : KX st s ix D ib p ig) (o : AObj) : KX st (s.set ig o) ix D ib p ig :=
  ⟨by rw [ASt.set_h, if_neg h.ng]; exact h.hx, h.fx, h.ng, h.np, h.nb⟩
theorem KX.put {st s : ASt} {ix : Nat} {D : List Int} {ib p ig : Nat} (h : KX st s ix D ib p ig) (D' : List Int) : KX st (s.set ix (.cells (ints D'))) ix D' ib p ig :=
  ⟨by rw [ASt.set_h, if_pos rfl, h.hx]; rfl, h.fx, h.ng, h.np, h.nb⟩
theorem KX.other {st s : ASt} {ix : Nat} {D : List Int} {ib p ig : Nat} (h : KX st s ix D ib p ig) {i : Nat} (hi : ix ≠ i) (o : AObj) : KX st (s.set i o) ix D ib p ig :=
  ⟨by rw [ASt.set_h, if_neg hi]; exact h.hx, h.fx, h.ng, h.np, h.nb⟩
theorem KX.step {st s t : ASt} {ix : Nat} {D : List Int} {ib p ig : Nat} (h : KX st s ix D ib p ig) (hl : s.le t) : KX st t ix D ib p ig :=
  ⟨hl _ _ h.hx, h.fx, h.ng, h.np, h.nb⟩
theorem KX.kw {st s : ASt} {ix : Nat} {D : List Int} {ib p ig : Nat} (h : KX st s ix D ib p ig) {S : Soc} {ns : List Nd} (hk : KW st s ib p ig S ns) (o : AObj) : KW st (s.set ix o) ib p ig S ns :=
  ⟨fun j x hj => by rw [ASt.set_h, if_neg (by rintro rfl; rw [h.fx] at hj; cases hj)]; exact hk.le _ _ hj, by rw [ASt.set_h, if_neg (Ne.symm h.nb)]; exact hk.hb,
   ⟨by rw [ASt.set_h, if_neg (Ne.symm h.np)]; exact hk.t.hp, by rw [ASt.set_h, if_neg (Ne.symm h.ng)]; exact hk.t.hg, hk.t.ne, hk.t.few⟩, hk.k, hk.fg, hk.ne⟩
theorem KW.list {st s : ASt} {ib p ig : Nat} {S : Soc} {ns : List Nd} (h : KW st s ib p ig S ns) {ix : Nat} (hx : s.h ix = none) (D : List Int) :
    KW st (s.new ix (.cells (ints D))) ib p ig S ns ∧ KX st (s.new ix (.cells (ints D))) ix D ib p ig :=
  ⟨h.step (ASt.le.new s ix _), ASt.new_self _ hx, fresh_of_le h.le hx, (by rintro rfl; rw [h.t.hg] at hx; cases hx), (by rintro rfl; rw [h.t.hp] at hx; cases hx), (by rintro rfl; rw [h.hb] at hx; cases hx)⟩
theorem kclk_get {S : Soc} {k : Nat} (hk : k < S.clocks.length) : (S.clocks.flatMap Clk.cells)[k * 6]? = some (.int .u8 S.clocks[k].kind) ∧ (S.clocks.flatMap Clk.cells)[k * 6 + 1]? = some (row S.clocks[k].src) ∧ (S.clocks.flatMap Clk.cells)[k * 6 + 2]? = some (.int .u64 S.clocks[k].rate) ∧
    (S.clocks.flatMap Clk.cells)[k * 6 + 3]? = some (.int .i64 S.clocks[k].mul) ∧ (S.clocks.flatMap Clk.cells)[k * 6 + 4]? = some (.int .i64 S.clocks[k].div) :=
  ⟨rows_get Clk.cells (w := 6) (fun _ => rfl) hk (j := 0) (by omega), rows_get Clk.cells (w := 6) (fun _ => rfl) hk (j := 1) (by omega), rows_get Clk.cells (w := 6) (fun _ => rfl) hk (j := 2) (by omega), rows_get Clk.cells (w := 6) (fun _ => rfl) hk (j := 3) (by omega), rows_get Clk.cells (w := 6) (fun _ => rfl) hk (j := 4) (by omega)⟩
theorem chainN_last {ns : List Nd} (hN : NsOk ns) {i : Nat} (hi : i < ns.length) : ∃ l, chainN ns i = l ++ [i] := by
  rw [chainN_eq hN hi]; split
  · exact ⟨[], rfl⟩
  · exact ⟨_, rfl⟩
/-- A chain of one that is no oscillator: its source stands last but one. -/
theorem chainN_two {ns : List Nd} (hN : NsOk ns) {i : Nat} (hi : i < ns.length) (hk : ns[i].c.kind ≠ 111) : ∃ (x : Nat) (l : List Nat), ns[i].source = (x : Int) ∧ x < i ∧ ns[i].c.src[ns[i].set.toNat]? = some (x : Int) ∧ chainN ns i = l ++ [x, i] := by
  obtain ⟨x, e1, e2, e3⟩ := (hN i hi).low hk
  obtain ⟨l, hl⟩ := chainN_last hN (i := x) (by omega)
  refine ⟨x, l, e1, e2, e3, ?_⟩
  rw [chainN_eq hN hi, if_neg hk, e1, Int.toNat_natCast, hl]; simp
theorem sub2 {n : Nat} (h : 2 ≤ n) (h2 : n ≤ 1000) : IntKind.i64.wrap ((n : Int) - 2) = ((n - 2 : Nat) : Int) := by rw [wrap64] <;> omega
/-- What a mux comes from, as it is set, and as it is wanted. -/
theorem NdOk.mux {i : Nat} {n : Nd} (h : NdOk i n) (hk : n.c.kind = 109) : ∃ w z x y : Nat, n.want = (w : Int) ∧ n.set = (z : Int) ∧ w < n.c.src.length ∧ z < n.c.src.length ∧ n.c.src[w]? = some (x : Int) ∧ n.c.src[z]? = some (y : Int) ∧ x < i ∧ y < i := by
  have h0 : n.c.src ≠ [] := fun e => by have := h.osc.mpr e; omega
  have a1 := h.want.1
  have a2 := h.want.2.1 h0
  have b1 := h.set.1
  have b2 := h.set.2.1 h0
  have hw : n.want.toNat < n.c.src.length := by omega
  have hz : n.set.toNat < n.c.src.length := by omega
  have m1 := h.less _ (List.getElem_mem hw)
  have m2 := h.less _ (List.getElem_mem hz)
  refine ⟨n.want.toNat, n.set.toNat, n.c.src[n.want.toNat].toNat, n.c.src[n.set.toNat].toNat, by omega, by omega, hw, hz, ?_, ?_, by omega, by omega⟩
  · rw [List.getElem?_eq_getElem hw]; congr 1; omega
  · rw [List.getElem?_eq_getElem hz]; congr 1; omega
end Go.Proofs.Ytkioaemhdbcfaaa.Cn
