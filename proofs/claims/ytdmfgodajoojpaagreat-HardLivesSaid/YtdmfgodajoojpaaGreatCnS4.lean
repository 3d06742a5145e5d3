/- YtdmfgodajoojpaaGreat: proofs of this seat, texts CnHard2, CnHard3, CnHard4, CnHard5, CnHard6, CnHard7, CnHard9, CnHard10, CnHardS, CnHardQ, CnHard8, CnHLives: what each shows stands at its theorems; no condition. -/
import Derived.Test.YtdmfgodajoojpaaGreatCnS3
import Derived.Test.YtdmfgodajoojpaaGreatCnL2
/- The chip: what its methods do that are of one part. -/
set_option linter.unusedSimpArgs false
set_option linter.unusedVariables false
set_option maxRecDepth 100000
namespace Go.Proofs.YtdmfgodajoojpaaGreat.Cn
open Go Go.Proofs

theorem LInv.assert {R : List Int} {ls : List Ln} (h : LInv R ls) (i : Int) : LInv R (assertL ls i) := by
  unfold assertL
  split
  · rename_i hi
    have hil : i.toNat < ls.length := by have := hi.1; have := hi.2; omega
    have hx : lnOf ls i = ls[i.toNat] := by
      have := lnOf_at hil
      rwa [show ((i.toNat : Nat) : Int) = i by have := hi.1; omega] at this
    refine ⟨by simpa using h.len, fun j hj hj' => ?_, fun x hx' => ?_, h.bd⟩
    · simp only [List.getElem_set]
      split
      · rename_i e; subst e
        simp only [hx]; exact h.least _ _ _
      · exact h.least _ _ _
    · rcases List.mem_or_eq_of_mem_set hx' with hm | rfl
      · exact h.left x hm
      · simp only [hx]
        have h1 := h.least i.toNat hil (by rw [← h.len]; exact hil)
        have := h.bd _ (List.getElem_mem (show i.toNat < R.length by rw [← h.len]; exact hil))
        rw [h1]; omega
  · exact h
theorem LInv.release {R : List Int} {ls : List Ln} (h : LInv R ls) (i : Int) : LInv R (releaseL ls i) := by
  unfold releaseL
  split
  · rename_i hi
    have hil : i.toNat < ls.length := by have := hi.1.1; have := hi.1.2; omega
    have hx : lnOf ls i = ls[i.toNat] := by
      have := lnOf_at hil
      rwa [show ((i.toNat : Nat) : Int) = i by have := hi.1.1; omega] at this
    refine ⟨by simpa using h.len, fun j hj hj' => ?_, fun x hx' => ?_, h.bd⟩
    · simp only [List.getElem_set]
      split
      · rename_i e; subst e
        simp only [hx]; exact h.least _ _ _
      · exact h.least _ _ _
    · rcases List.mem_or_eq_of_mem_set hx' with hm | rfl
      · exact h.left x hm
      · simp only [hx]
        exact h.left _ (List.getElem_mem hil)
  · exact h
theorem tick1_same (x : Ln) : (tick1 x).least = x.least := by
  unfold tick1; split
  · split
    · rfl
    · split <;> rfl
  · rfl
theorem LInv.tick {R : List Int} {ls : List Ln} (h : LInv R ls) : LInv R (tickL ls) := by
  refine ⟨by simpa [tickL] using h.len, fun j hj hj' => ?_, fun x hx' => ?_, h.bd⟩
  · simp only [tickL, List.getElem_map, tick1_same]; exact h.least _ _ _
  · obtain ⟨y, hy, rfl⟩ := List.mem_map.mp hx'
    have := h.left y hy
    unfold tick1; split
    · split
      · simp only; omega
      · split <;> exact this
    · exact this
theorem LInv.fresh {R : List Int} (h : ∀ x ∈ R, 0 ≤ x ∧ x ≤ 20) : LInv R (freshL R) := by
  refine ⟨by simp [freshL], fun j hj hj' => by simp [freshL], fun x hx' => ?_, h⟩
  obtain ⟨y, hy, rfl⟩ := List.mem_map.mp hx'
  simp
section
variable {st s s' : ASt} {ib : Nat} {a : HA} {T : Nat → Nat} {S : Soc} {v : HV}
theorem devC_eq {i : Nat} (hi : i < S.devs.length) : devC S a i = [.int .i64 S.devs[i].clock, .int .i64 S.devs[i].dom, .int .i64 S.devs[i].rst, .int .u32 S.devs[i].clamp, .ptr (a.fp i) 0, .ptr (a.pp i) 0] := by
  rw [devC, List.getElem?_eq_getElem hi]
theorem devsC_len (n : Nat) : (devsC S a n).length = n * 6 := by
  have := flatMap_len (f := devC S a) (k := 6) (devC_len S a) (List.range n)
  simpa [devsC] using this
theorem devsC_at {i : Nat} (hi : i < S.devs.length) : ((devsC S a S.devs.length).drop (i * 6)).take 6 = devC S a i := by
  have := flatMap_at (f := devC S a) (k := 6) (devC_len S a) (l := List.range S.devs.length) (i := i) (by simpa using hi)
  simpa [devsC] using this
theorem devsC_fit {i : Nat} (hi : i < S.devs.length) : i * 6 + 6 ≤ (devsC S a S.devs.length).length := by rw [devsC_len]; omega

theorem hmade (h : HH st s ib a T S v) : ACalls Tryz.prog F.q85 [.ptr a.hp 0] s fun r s' => r = .bool true ∧ s' = s := by
  refine calls_of_awp L.q85 rfl ?_
  simp only [↓Bp, Bq, Bs, ↓aop.eq_28, ↓aop.eq_30, simprocAttr, ↓C.q85_W, C.q85_B, C.q85, h.hh]
theorem hhas (h : HH st s ib a T S v) (i : Int) : ACalls Tryz.prog F.q84 [.ptr a.hp 0, .int .i64 i] s fun r s' => r = .bool (decide (0 ≤ i ∧ i < (S.devs.length : Int))) ∧ s' = s := by
  refine calls_of_awp L.q84 rfl ?_
  simp only [↓Bp, Bq, Bs, ↓aop.eq_28, ↓aop.eq_30, simprocAttr, ↓C.q84_W, C.q84_B, C.q84]
  refine (hmade h).mono ?_
  rintro r s' ⟨rfl, rfl⟩
  by_cases h0 : 0 ≤ i
  · by_cases h1 : i < (S.devs.length : Int)
    · simp only [↓Bp, Bq, Bs, ↓aop.eq_28, ↓aop.eq_30, simprocAttr, ↓C.q84_W, C.q84_B, C.q84, h.hh, h0, h1, ge_iff_le]
    · simp only [↓Bp, Bq, Bs, ↓aop.eq_28, ↓aop.eq_30, simprocAttr, ↓C.q84_W, C.q84_B, C.q84, h.hh, h0, h1, ge_iff_le]
  · simp only [↓Bp, Bq, Bs, ↓aop.eq_28, ↓aop.eq_30, simprocAttr, ↓C.q84_W, C.q84_B, C.q84, h.hh, h0, ge_iff_le]
theorem hgate_at (h : HH st s ib a T S v) {i : Nat} (hi : i < v.ns.length) (b : Bool) : ACalls Tryz.prog F.q76 [.ptr a.hp 0, .int .i64 i, .bool b] s fun r s' =>
    r = .int .i64 (onE v.ns[i]) ∧ HH st s' ib a T S { v with ns := onL v.ns i hi b } := by
  refine calls_of_awp L.q76 rfl ?_
  simp only [↓Bp, Bq, Bs, ↓aop.eq_28, ↓aop.eq_30, simprocAttr, ↓C.q76_W, C.q76_B, C.q76]
  refine (hmade h).mono ?_
  rintro r s' ⟨rfl, rfl⟩
  simp only [↓Bp, Bq, Bs, ↓aop.eq_28, ↓aop.eq_30, simprocAttr, ↓C.q76_W, C.q76_B, C.q76, h.hh]
  refine (on_spec h.c.tree hi b).mono ?_
  rintro r s2 ⟨rfl, rfl⟩
  simp only [↓Bp, Bq, Bs, ↓aop.eq_28, ↓aop.eq_30, simprocAttr, ↓C.q76_W, C.q76_B, C.q76]
  exact h.putTree (h.c.kof.on hi b)
theorem hgate_none (h : HH st s ib a T S v) {i : Int} (hi : ¬ isCk v.ns i) (b : Bool) : ACalls Tryz.prog F.q76 [.ptr a.hp 0, .int .i64 i, .bool b] s fun r s' => r = .int .i64 4 ∧ s' = s := by
  refine calls_of_awp L.q76 rfl ?_
  simp only [↓Bp, Bq, Bs, ↓aop.eq_28, ↓aop.eq_30, simprocAttr, ↓C.q76_W, C.q76_B, C.q76]
  refine (hmade h).mono ?_
  rintro r s' ⟨rfl, rfl⟩
  simp only [↓Bp, Bq, Bs, ↓aop.eq_28, ↓aop.eq_30, simprocAttr, ↓C.q76_W, C.q76_B, C.q76, h.hh]
  refine (on_none h.c.tree hi b).mono ?_
  rintro r s2 ⟨rfl, rfl⟩
  simp only [↓Bp, Bq, Bs, ↓aop.eq_28, ↓aop.eq_30, simprocAttr, ↓C.q76_W, C.q76_B, C.q76]
theorem hup_at (h : HH st s ib a T S v) {i : Nat} (hi : i < v.gs.length) : ACalls Tryz.prog F.q82 [.ptr a.hp 0, .int .i64 i] s fun r s' =>
    r = .int .i64 (upE v.gs i hi) ∧ HH st s' ib a T S { v with gs := upG v.gs i hi } := by
  refine calls_of_awp L.q82 rfl ?_
  simp only [↓Bp, Bq, Bs, ↓aop.eq_28, ↓aop.eq_30, simprocAttr, ↓C.q82_W, C.q82_B, C.q82]
  refine (hmade h).mono ?_
  rintro r s' ⟨rfl, rfl⟩
  simp only [↓Bp, Bq, Bs, ↓aop.eq_28, ↓aop.eq_30, simprocAttr, ↓C.q82_W, C.q82_B, C.q82, h.hh]
  refine (up_spec h.c.grid h.c.ginv.above hi).mono ?_
  rintro r s2 ⟨rfl, rfl⟩
  simp only [↓Bp, Bq, Bs, ↓aop.eq_28, ↓aop.eq_30, simprocAttr, ↓C.q82_W, C.q82_B, C.q82]
  exact h.putGrid (h.c.ginv.up hi)
theorem hup_none (h : HH st s ib a T S v) {i : Int} (hi : ¬ isGd v.gs i) : ACalls Tryz.prog F.q82 [.ptr a.hp 0, .int .i64 i] s fun r s' => r = .int .i64 4 ∧ s' = s := by
  refine calls_of_awp L.q82 rfl ?_
  simp only [↓Bp, Bq, Bs, ↓aop.eq_28, ↓aop.eq_30, simprocAttr, ↓C.q82_W, C.q82_B, C.q82]
  refine (hmade h).mono ?_
  rintro r s' ⟨rfl, rfl⟩
  simp only [↓Bp, Bq, Bs, ↓aop.eq_28, ↓aop.eq_30, simprocAttr, ↓C.q82_W, C.q82_B, C.q82, h.hh]
  refine (up_none h.c.grid hi).mono ?_
  rintro r s2 ⟨rfl, rfl⟩
  simp only [↓Bp, Bq, Bs, ↓aop.eq_28, ↓aop.eq_30, simprocAttr, ↓C.q82_W, C.q82_B, C.q82]
theorem hdown_at (h : HH st s ib a T S v) {i : Nat} (hi : i < v.gs.length) (k : Bool) : ACalls Tryz.prog F.q75 [.ptr a.hp 0, .int .i64 i, .bool k] s fun r s' =>
    r = .int .i64 (downE v.gs i hi k) ∧ HH st s' ib a T S { v with gs := downG v.gs i hi k } := by
  refine calls_of_awp L.q75 rfl ?_
  simp only [↓Bp, Bq, Bs, ↓aop.eq_28, ↓aop.eq_30, simprocAttr, ↓C.q75_W, C.q75_B, C.q75]
  refine (hmade h).mono ?_
  rintro r s' ⟨rfl, rfl⟩
  simp only [↓Bp, Bq, Bs, ↓aop.eq_28, ↓aop.eq_30, simprocAttr, ↓C.q75_W, C.q75_B, C.q75, h.hh]
  refine (down_spec h.c.grid hi k).mono ?_
  rintro r s2 ⟨rfl, rfl⟩
  simp only [↓Bp, Bq, Bs, ↓aop.eq_28, ↓aop.eq_30, simprocAttr, ↓C.q75_W, C.q75_B, C.q75]
  exact h.putGrid (h.c.ginv.down hi k)
theorem hdown_none (h : HH st s ib a T S v) {i : Int} (hi : ¬ isGd v.gs i) (k : Bool) : ACalls Tryz.prog F.q75 [.ptr a.hp 0, .int .i64 i, .bool k] s fun r s' => r = .int .i64 4 ∧ s' = s := by
  refine calls_of_awp L.q75 rfl ?_
  simp only [↓Bp, Bq, Bs, ↓aop.eq_28, ↓aop.eq_30, simprocAttr, ↓C.q75_W, C.q75_B, C.q75]
  refine (hmade h).mono ?_
  rintro r s' ⟨rfl, rfl⟩
  simp only [↓Bp, Bq, Bs, ↓aop.eq_28, ↓aop.eq_30, simprocAttr, ↓C.q75_W, C.q75_B, C.q75, h.hh]
  refine (down_none h.c.grid hi k).mono ?_
  rintro r s2 ⟨rfl, rfl⟩
  simp only [↓Bp, Bq, Bs, ↓aop.eq_28, ↓aop.eq_30, simprocAttr, ↓C.q75_W, C.q75_B, C.q75]
theorem hrelease (h : HH st s ib a T S v) (i : Int) : ACalls Tryz.prog F.q79 [.ptr a.hp 0, .int .i64 i] s fun r s' =>
    r = .int .i64 (releaseE v.ls i) ∧ HH st s' ib a T S { v with ls := releaseL v.ls i } := by
  refine calls_of_awp L.q79 rfl ?_
  simp only [↓Bp, Bq, Bs, ↓aop.eq_28, ↓aop.eq_30, simprocAttr, ↓C.q79_W, C.q79_B, C.q79]
  refine (hmade h).mono ?_
  rintro r s' ⟨rfl, rfl⟩
  simp only [↓Bp, Bq, Bs, ↓aop.eq_28, ↓aop.eq_30, simprocAttr, ↓C.q79_W, C.q79_B, C.q79, h.hh]
  refine (release_spec h.c.lines i).mono ?_
  rintro r s2 ⟨rfl, rfl⟩
  simp only [↓Bp, Bq, Bs, ↓aop.eq_28, ↓aop.eq_30, simprocAttr, ↓C.q79_W, C.q79_B, C.q79]
  exact h.putLines (h.c.linv.release i)
theorem hrunning (h : HH st s ib a T S v) (i : Int) : ACalls Tryz.prog F.q80 [.ptr a.hp 0, .int .i64 i] s fun r s' => r = .bool (runI v.ns i) ∧ s' = s := by
  refine calls_of_awp L.q80 rfl ?_
  simp only [↓Bp, Bq, Bs, ↓aop.eq_28, ↓aop.eq_30, simprocAttr, ↓C.q80_W, C.q80_B, C.q80]
  refine (hmade h).mono ?_
  rintro r s' ⟨rfl, rfl⟩
  simp only [↓Bp, Bq, Bs, ↓aop.eq_28, ↓aop.eq_30, simprocAttr, ↓C.q80_W, C.q80_B, C.q80, h.hh]
  refine (running_spec h.c.tree h.c.kof.ok i).mono ?_
  rintro r s2 ⟨rfl, rfl⟩
  simp only [↓Bp, Bq, Bs, ↓aop.eq_28, ↓aop.eq_30, simprocAttr, ↓C.q80_W, C.q80_B, C.q80]
def phI (gs : List Gd) (i : Int) : Int := if h : isGd gs i then (gs[i.toNat]'(by have := h.1; have := h.2; omega)).phase else 0
theorem hphase (h : HH st s ib a T S v) (i : Int) : ACalls Tryz.prog F.q78 [.ptr a.hp 0, .int .i64 i] s fun r s' => r = .int .u8 (phI v.gs i) ∧ s' = s := by
  refine calls_of_awp L.q78 rfl ?_
  simp only [↓Bp, Bq, Bs, ↓aop.eq_28, ↓aop.eq_30, simprocAttr, ↓C.q78_W, C.q78_B, C.q78]
  refine (hmade h).mono ?_
  rintro r s' ⟨rfl, rfl⟩
  simp only [↓Bp, Bq, Bs, ↓aop.eq_28, ↓aop.eq_30, simprocAttr, ↓C.q78_W, C.q78_B, C.q78, h.hh]
  refine (phase_spec h.c.grid i).mono ?_
  rintro r s2 ⟨rfl, rfl⟩
  simp only [↓Bp, Bq, Bs, ↓aop.eq_28, ↓aop.eq_30, simprocAttr, ↓C.q78_W, C.q78_B, C.q78]
  rfl
def heldI (ls : List Ln) (i : Int) : Bool := !decide (isLn ls i) || (lnOf ls i).held
theorem hheld (h : HH st s ib a T S v) (i : Int) : ACalls Tryz.prog F.q77 [.ptr a.hp 0, .int .i64 i] s fun r s' => r = .bool (heldI v.ls i) ∧ s' = s := by
  refine calls_of_awp L.q77 rfl ?_
  simp only [↓Bp, Bq, Bs, ↓aop.eq_28, ↓aop.eq_30, simprocAttr, ↓C.q77_W, C.q77_B, C.q77]
  refine (hmade h).mono ?_
  rintro r s' ⟨rfl, rfl⟩
  simp only [↓Bp, Bq, Bs, ↓aop.eq_28, ↓aop.eq_30, simprocAttr, ↓C.q77_W, C.q77_B, C.q77, h.hh]
  refine (held_spec h.c.lines i).mono ?_
  rintro r s2 ⟨rfl, rfl⟩
  simp only [↓Bp, Bq, Bs, ↓aop.eq_28, ↓aop.eq_30, simprocAttr, ↓C.q77_W, C.q77_B, C.q77]
  rfl
theorem hchain (h : HH st s ib a T S v) {i : Nat} (hi : i < v.ns.length) : ACalls Tryz.prog F.q74 [.ptr a.hp 0, .int .i64 i] s fun r s' => r = row (nats (chainN v.ns i)) ∧ s' = s := by
  refine calls_of_awp L.q74 rfl ?_
  simp only [↓Bp, Bq, Bs, ↓aop.eq_28, ↓aop.eq_30, simprocAttr, ↓C.q74_W, C.q74_B, C.q74]
  refine (hmade h).mono ?_
  rintro r s' ⟨rfl, rfl⟩
  simp only [↓Bp, Bq, Bs, ↓aop.eq_28, ↓aop.eq_30, simprocAttr, ↓C.q74_W, C.q74_B, C.q74, h.hh]
  refine (cchain_at h.c.tree h.c.kof.ok hi).mono ?_
  rintro r s2 ⟨rfl, rfl⟩
  simp only [↓Bp, Bq, Bs, ↓aop.eq_28, ↓aop.eq_30, simprocAttr, ↓C.q74_W, C.q74_B, C.q74]
def HV.alive (v : HV) (S : Soc) (i : Nat) : Bool := match S.devs[i]? with
  | some d => runI v.ns d.clock && (decide (phI v.gs d.dom = 49) && !heldI v.ls d.rst)
  | none => false
def HV.aliveI (v : HV) (S : Soc) (i : Int) : Bool := decide (0 ≤ i) && v.alive S i.toNat
theorem alive_at {i : Nat} (hi : i < S.devs.length) : v.alive S i = (runI v.ns S.devs[i].clock && (decide (phI v.gs S.devs[i].dom = 49) && !heldI v.ls S.devs[i].rst)) := by
  rw [HV.alive, List.getElem?_eq_getElem hi]
theorem halive (h : HH st s ib a T S v) (i : Int) : ACalls Tryz.prog F.q72 [.ptr a.hp 0, .int .i64 i] s fun r s' => r = .bool (v.aliveI S i) ∧ s' = s := by
  refine ACalls.gc (Q' := fun r s' => r = .bool (v.aliveI S i) ∧ s.le s') (calls_of_awp L.q72 rfl ?_) (fun v s' ⟨h, hl⟩ => ⟨s, hl, h, rfl⟩)
  simp only [↓Bp, Bq, Bs, ↓aop.eq_28, ↓aop.eq_30, simprocAttr, ↓C.q72_W, C.q72_B, C.q72]
  refine (hhas h i).mono ?_
  rintro r s' ⟨rfl, rfl⟩
  by_cases hi : 0 ≤ i ∧ i < (S.devs.length : Int)
  rotate_left
  · simp only [↓Bp, Bq, Bs, ↓aop.eq_28, ↓aop.eq_30, simprocAttr, ↓C.q72_W, C.q72_B, C.q72, hi]
    refine ⟨?_, ASt.le.refl _⟩
    rw [HV.aliveI]
    by_cases h0 : 0 ≤ i
    · have : S.devs[i.toNat]? = none := List.getElem?_eq_none (by omega)
      simp [HV.alive, this]
    · simp [h0]
  obtain ⟨n, rfl⟩ : ∃ n : Nat, i = (n : Int) := ⟨i.toNat, by omega⟩
  have hn : n < S.devs.length := by omega
  have hfit := devsC_fit (a := a) hn
  have hat := devsC_at (a := a) hn
  rw [devC_eq hn] at hat
  have hal : v.aliveI S (n : Int) = (runI v.ns S.devs[n].clock && (decide (phI v.gs S.devs[n].dom = 49) && !heldI v.ls S.devs[n].rst)) := by
    rw [HV.aliveI, Int.toNat_natCast, alive_at hn]; simp
  rw [hal]
  simp only [↓Bp, Bq, Bs, ↓aop.eq_28, ↓aop.eq_30, simprocAttr, ↓C.q72_r3_w, C.q72_r3_b, ↓C.q72_c2_w, ↓C.q72_r2_w, C.q72_r2_b, ↓C.q72_c3_w, ↓C.q72_c4_w, ↓C.q72_r1_w, C.q72_r1_b, ↓C.q72_c5_w, ↓C.q72_r0_w, C.q72_r0_b, C.q72, hi, h.hh, h.devs, Int.toNat_natCast, hfit, hat]
  intro ix hix
  have hx := ASt.new_self (.cells [.int .i64 S.devs[n].clock, .int .i64 S.devs[n].dom, .int .i64 S.devs[n].rst, .int .u32 S.devs[n].clamp, .ptr (a.fp n) 0, .ptr (a.pp n) 0]) hix
  have hle := ASt.le.new s' ix (.cells [.int .i64 S.devs[n].clock, .int .i64 S.devs[n].dom, .int .i64 S.devs[n].rst, .int .u32 S.devs[n].clamp, .ptr (a.fp n) 0, .ptr (a.pp n) 0])
  simp only [↓Bp, Bq, Bs, ↓aop.eq_28, ↓aop.eq_30, simprocAttr, ↓C.q72_r3_w, C.q72_r3_b, ↓C.q72_c2_w, ↓C.q72_r2_w, C.q72_r2_b, ↓C.q72_c3_w, ↓C.q72_c4_w, ↓C.q72_r1_w, C.q72_r1_b, ↓C.q72_c5_w, ↓C.q72_r0_w, C.q72_r0_b, C.q72, hix, allLeaf, AV.leaf]
  rw [ASt.new_set hix]
  generalize s'.new ix (.cells [.int .i64 S.devs[n].clock, .int .i64 S.devs[n].dom, .int .i64 S.devs[n].rst, .int .u32 S.devs[n].clamp, .ptr (a.fp n) 0, .ptr (a.pp n) 0]) = t at hx hle
  have h' := h.step hle
  simp only [↓Bp, Bq, Bs, ↓aop.eq_28, ↓aop.eq_30, simprocAttr, ↓C.q72_W, C.q72_B, C.q72, h'.hh, hx]
  refine (running_spec h'.c.tree h'.c.kof.ok S.devs[n].clock).mono ?_
  rintro r s2 ⟨rfl, rfl⟩
  cases hr : runI v.ns S.devs[n].clock
  · simp only [↓Bp, Bq, Bs, ↓aop.eq_28, ↓aop.eq_30, simprocAttr, ↓C.q72_W, C.q72_B, C.q72, h'.hh, hx]
    exact ⟨by simp, hle⟩
  simp only [↓Bp, Bq, Bs, ↓aop.eq_28, ↓aop.eq_30, simprocAttr, ↓C.q72_W, C.q72_B, C.q72, h'.hh, hx]
  refine (phase_spec h'.c.grid S.devs[n].dom).mono ?_
  rintro r s2 ⟨rfl, rfl⟩
  rw [show (if h : isGd v.gs S.devs[n].dom then (v.gs[S.devs[n].dom.toNat]'(by have := h.1; have := h.2; omega)).phase else 0) = phI v.gs S.devs[n].dom from rfl]
  by_cases hp : phI v.gs S.devs[n].dom = 49
  rotate_left
  · simp only [↓Bp, Bq, Bs, ↓aop.eq_28, ↓aop.eq_30, simprocAttr, ↓C.q72_W, C.q72_B, C.q72, h'.hh, hx, hp]
    exact ⟨by simp, hle⟩
  simp only [↓Bp, Bq, Bs, ↓aop.eq_28, ↓aop.eq_30, simprocAttr, ↓C.q72_W, C.q72_B, C.q72, h'.hh, hx, hp]
  refine (held_spec h'.c.lines S.devs[n].rst).mono ?_
  rintro r s2 ⟨rfl, rfl⟩
  rw [show (!decide (isLn v.ls S.devs[n].rst) || (lnOf v.ls S.devs[n].rst).held) = heldI v.ls S.devs[n].rst from rfl]
  simp only [↓Bp, Bq, Bs, ↓aop.eq_28, ↓aop.eq_30, simprocAttr, ↓C.q72_W, C.q72_B, C.q72]
  exact ⟨by simp [hp], hle⟩
end
end Go.Proofs.YtdmfgodajoojpaaGreat.Cn
/- The chip: what waits for its devices. -/
set_option linter.unusedSimpArgs false
set_option linter.unusedVariables false
set_option maxRecDepth 100000
namespace Go.Proofs.YtdmfgodajoojpaaGreat.Cn
open Go Go.Proofs

theorem qcells_len (q : List Txn) : (q.flatMap Txn.cells).length = q.length * 4 := flatMap_len (f := Txn.cells) (k := 4) (fun _ => rfl) q
section
variable {st s s' : ASt} {ib : Nat} {a : HA} {T : Nat → Nat} {S : Soc} {v : HV} {Q : Nat → List Txn} {posted : Int}
theorem bhas (h : BusAt s T a S Q posted) (i : Int) : ACalls Tryz.prog F.q2 [.ptr a.bp 0, .int .i64 i] s fun r s' => r = .bool (decide (0 ≤ i ∧ i < (S.devs.length : Int))) ∧ s' = s := by
  refine calls_of_awp L.q2 rfl ?_
  by_cases h0 : 0 ≤ i
  · by_cases h1 : i < (S.devs.length : Int)
    · simp only [↓Bp, Bq, Bs, ↓aop.eq_28, ↓aop.eq_30, simprocAttr, ↓C.q2_W, C.q2_B, C.q2, h.hp, h0, h1, ge_iff_le]
    · simp only [↓Bp, Bq, Bs, ↓aop.eq_28, ↓aop.eq_30, simprocAttr, ↓C.q2_W, C.q2_B, C.q2, h.hp, h0, h1, ge_iff_le]
  · simp only [↓Bp, Bq, Bs, ↓aop.eq_28, ↓aop.eq_30, simprocAttr, ↓C.q2_W, C.q2_B, C.q2, h.hp, h0, ge_iff_le]
theorem bwaiting (h : BusAt s T a S Q posted) {i : Nat} (hi : i < S.devs.length) : ACalls Tryz.prog F.q1 [.ptr a.bp 0, .int .i64 i] s fun r s' => r = .int .i64 ((Q i).length : Nat) ∧ s' = s := by
  obtain ⟨W, hw, hl, hq⟩ := h.hw
  have hiW : i < W.length := by omega
  have hd : (0:Int) ≤ (i : Int) ∧ (i : Int) < (S.devs.length : Int) := by omega
  refine calls_of_awp L.q1 rfl ?_
  simp only [↓Bp, Bq, Bs, ↓aop.eq_28, ↓aop.eq_30, simprocAttr, ↓C.q1_W, C.q1_B, C.q1]
  refine (bhas h i).mono ?_
  rintro r s' ⟨rfl, rfl⟩
  simp only [↓Bp, Bq, Bs, ↓aop.eq_28, ↓aop.eq_30, simprocAttr, ↓C.q1_W, C.q1_B, C.q1, hd, h.hp, hw, Int.toNat_natCast, Nat.mul_one, List.getElem?_eq_getElem hiW, (hq i hiW).len]
theorem HH.putBus (h : HH st s ib a T S v) {T' : Nat → Nat} (hT : ∀ j, s.h j ≠ none → T' j = T j) {Q' : Nat → List Txn} {posted' : Int} {s1 s2 s' : ASt} {d : Nat} (h1 : Keeps T' 5 s s1) (hk : Keeps T' (12 + 3 * d) s1 s2) (h2 : Keeps T' 5 s2 s') (hb : BusAt s' T' a S Q' posted') :
    HH st s' ib a T' S { v with Q := Q', posted := posted' } := by
  have c0 := h.c.retag hT
  have c1 := ((c0.keep h1 (by omega)).keep hk (.inr (.inr (.inr ⟨d, rfl⟩)))).keep h2 (by omega)
  have th : T' a.hp = 1 := by rw [hT a.hp (by rw [h.hh]; simp)]; exact h.Th
  have td : T' a.dv = 6 := by rw [hT a.dv (by rw [h.devs]; simp)]; exact h.Td
  exact ⟨{ le := c1.le, tag0 := c1.tag0, hb := c1.hb, Tb := c1.Tb, tree := c1.tree, Tt := c1.Tt, grid := c1.grid, Tg := c1.Tg, lines := c1.lines, Tl := c1.Tl, files := c1.files, ports := c1.ports, kof := c1.kof, ginv := c1.ginv, linv := c1.linv },
    h2.at_ (hk.at_ (h1.at_ h.hh th (by omega)) th (by omega)) th (by omega), th, hb, h2.at_ (hk.at_ (h1.at_ h.devs td (by omega)) td (by omega)) td (by omega), td⟩
theorem btake (h : HH st s ib a T S v) {i : Nat} (hi : i < S.devs.length) : ACalls Tryz.prog F.q0 [.ptr a.bp 0, .int .i64 i] s fun r s' =>
    (v.Q i = [] ∧ r = .tup [.agg [.int .i64 0, .bool false, .int .i64 0, .int .u32 0], .bool false] ∧ s' = s) ∨
    ∃ t q, v.Q i = t :: q ∧ r = .tup [.agg t.cells, .bool true] ∧ HH st s' ib a T S { v with Q := upF v.Q i q } := by
  have hz : (0:Int) ≤ (i : Int) ∧ (i : Int) < (S.devs.length : Int) := by omega
  cases hq0 : v.Q i with
  | nil =>
    refine (ACalls.gc (Q := fun r s' => r = .tup [.agg [.int .i64 0, .bool false, .int .i64 0, .int .u32 0], .bool false] ∧ s' = s) (Q' := fun r s' => r = .tup [.agg [.int .i64 0, .bool false, .int .i64 0, .int .u32 0], .bool false] ∧ s.le s') (calls_of_awp L.q0 rfl ?_) (fun v s' ⟨h, hl⟩ => ⟨s, hl, h, rfl⟩)).mono fun r s' x => .inl ⟨rfl, x⟩
    simp only [↓Bp, Bq, Bs, ↓aop.eq_28, ↓aop.eq_30, simprocAttr, ↓C.q0_r0_w, C.q0_r0_b, C.q0]
    intro ix hix
    have hle := ASt.le.new s ix (.cells [.int .i64 0, .bool false, .int .i64 0, .int .u32 0])
    have hx := ASt.new_self (.cells [.int .i64 0, .bool false, .int .i64 0, .int .u32 0]) hix
    have h' := h.step hle
    generalize s.new ix (.cells [.int .i64 0, .bool false, .int .i64 0, .int .u32 0]) = t at hle hx h'
    simp only [↓Bp, Bq, Bs, ↓aop.eq_28, ↓aop.eq_30, simprocAttr, ↓C.q0_W, C.q0_B, C.q0]
    refine (bhas h'.bus i).mono ?_
    rintro r t' ⟨rfl, rfl⟩
    obtain ⟨W, hw, hl, hq⟩ := h'.bus.hw
    have hiW : i < W.length := by omega
    have hql := (hq i hiW).len
    rw [hq0] at hql
    simp only [↓Bp, Bq, Bs, ↓aop.eq_28, ↓aop.eq_30, simprocAttr, ↓C.q0_W, C.q0_B, C.q0, hz, h'.bus.hp, hw, Int.toNat_natCast, Nat.mul_one, List.getElem?_eq_getElem hiW, hql, hx]
    refine ⟨rfl, fun j o hj => ?_⟩
    rw [ASt.set_h, if_neg (by rintro rfl; rw [hix] at hj; cases hj)]
    exact hle _ _ hj
  | cons t q =>
    refine calls_of_awp L.q0 rfl ?_
    simp only [↓Bp, Bq, Bs, ↓aop.eq_28, ↓aop.eq_30, simprocAttr, ↓C.q0_r0_w, C.q0_r0_b, C.q0]
    intro ix hix
    have hle := ASt.le.new s ix (.cells [.int .i64 0, .bool false, .int .i64 0, .int .u32 0])
    have hx := ASt.new_self (.cells [.int .i64 0, .bool false, .int .i64 0, .int .u32 0]) hix
    have h' := h.step hle
    generalize s.new ix (.cells [.int .i64 0, .bool false, .int .i64 0, .int .u32 0]) = u at hle hx h'
    simp only [↓Bp, Bq, Bs, ↓aop.eq_28, ↓aop.eq_30, simprocAttr, ↓C.q0_W, C.q0_B, C.q0]
    refine (bhas h'.bus i).mono ?_
    rintro r u' ⟨rfl, rfl⟩
    obtain ⟨W, hw0, hl, hq⟩ := h.bus.hw
    have hw := hle _ _ hw0
    have hiW : i < W.length := by omega
    have hqi := hq i hiW
    rw [hq0] at hqi
    have hql := hqi.len
    have hne : ¬ ((q.length + 1 : Nat) : Int) = 0 := by omega
    have hW' := List.getElem?_eq_getElem hiW
    generalize hwi : W[i] = w at hqi hql hW'
    cases hqi with
    | sl id off pre _ hid0 hp ht =>
    have hid := hle _ _ hid0
    have hz1 : (0 : Int) ≤ ((q.length + 1 : Nat) : Int) := by omega
    have hz2 : (0 : Int) < ((q.length + 1 : Nat) : Int) := by omega
    have h1l : 1 ≤ q.length + 1 := by omega
    have hidbw : ¬ id = a.bw := by
      rintro rfl
      have := h'.bus.t.2.2
      omega
    have hxbw : ¬ ix = a.bw := by rintro rfl; rw [hix] at hw0; cases hw0
    have hxid : ¬ ix = id := by rintro rfl; rw [hix] at hid0; cases hid0
    have hoff : off + 4 ≤ (pre ++ List.flatMap Txn.cells (t :: q)).length := by rw [List.length_append, qcells_len, hp]; simp; omega
    have htk : List.take 4 (List.drop off (pre ++ List.flatMap Txn.cells (t :: q))) = t.cells := by
      rw [List.drop_left' hp, List.flatMap_cons]; rfl
    have hlf : (if 1 = q.length + 1 then AV.emp else AV.sl 4 id (off + 4) q.length).leaf = true := by split <;> rfl
    have e4 : putN [AV.int IntKind.i64 0, AV.bool false, AV.int IntKind.i64 0, AV.int IntKind.u32 0] 0 t.cells = t.cells := putN_all rfl
    have l4 : t.cells.length = 4 := rfl
    have f4 : allLeaf t.cells = true := rfl
    have t4 : AV.agg (List.take 4 t.cells) = .agg t.cells := rfl
    simp only [↓Bp, Bq, Bs, ↓aop.eq_28, ↓aop.eq_30, simprocAttr, ↓C.q0_W, C.q0_B, C.q0, hz, h'.bus.hp, hw, Int.toNat_natCast, Nat.mul_one, hW', hql, hne, hiW, hz1, hz2, h1l, Nat.le_refl, hid, hidbw, hxbw, hxid, hoff, htk, hlf, Nat.add_sub_cancel, hx, e4, l4, f4, t4]
    have hlf' : (if q.length = 0 then AV.emp else AV.sl 4 id (off + 4) q.length).leaf = true := by split <;> rfl
    refine ⟨fun e => e, hlf', .inr ⟨t, q, rfl, rfl, ?_⟩⟩
    have hbw := h.bus.t.2.2
    have hK : Keeps T 5 s (s.set a.bw (.cells (W.set i (if q.length = 0 then AV.emp else AV.sl 4 id (off + 4) q.length)))) := Keeps.set hbw
    have hB : BusAt (s.set a.bw (.cells (W.set i (if q.length = 0 then AV.emp else AV.sl 4 id (off + 4) q.length)))) T a S (upF v.Q i q) v.posted := by
      refine ⟨?_, ?_, ⟨W.set i (if q.length = 0 then AV.emp else AV.sl 4 id (off + 4) q.length), by rw [ASt.set_h, if_pos rfl, hw0]; rfl, by simpa using hl, fun j hj => ?_⟩, h.bus.t, h.bus.n1, h.bus.n2, h.bus.n3⟩
      · rw [ASt.set_h, if_neg h.bus.n2]; exact h.bus.hp
      · rw [ASt.set_h, if_neg h.bus.n3]; exact h.bus.hr
      · simp only [List.length_set] at hj
        by_cases e : j = i
        · subst e
          rw [upF_at, List.getElem_set_self]
          by_cases e0 : q.length = 0
          · rw [if_pos e0, List.eq_nil_of_length_eq_zero e0]; exact .emp
          · rw [if_neg e0]
            refine .sl id (off + 4) (pre ++ t.cells) q ?_ (by rw [List.length_append, hp]; rfl) ht
            rw [ASt.set_h, if_neg hidbw, hid0, List.flatMap_cons, List.append_assoc]
        · rw [upF_ne e, List.getElem_set_ne (Ne.symm e)]
          exact (hq j hj).kept hK (by omega)
    have H1 := h.putBus (T' := T) (s1 := s.set a.bw (.cells (W.set i (if q.length = 0 then AV.emp else AV.sl 4 id (off + 4) q.length)))) (d := i) (fun _ _ => rfl) hK (Keeps.refl _ _ _) (Keeps.refl _ _ _) hB
    refine H1.step fun j o hj => ?_
    have hjx : j ≠ ix := by
      rintro rfl
      rw [ASt.set_h, if_neg hxbw, hix] at hj; cases hj
    rw [ASt.set_h, if_neg hjx]
    rw [ASt.set_h] at hj ⊢
    split
    · rename_i e
      rw [if_pos e] at hj
      subst e
      rw [hw0] at hj; rw [hw]; exact hj
    · rename_i e
      rw [if_neg e] at hj
      exact hle _ _ hj
theorem file_at (h : HH st s ib a T S v) {i : Nat} (hi : i < S.devs.length) : FileF s (a.fp i) (a.fn i) (a.fs i) S.devs[i].regs (v.F i).now (v.F i).saved (v.F i).kept := (h.c.files i hi hi).1
theorem port_at (h : HH st s ib a T S v) {i : Nat} (hi : i < S.devs.length) : PortAt s (a.pp i) (v.O i).1 (v.O i).2 := (h.c.ports i hi).1
end
end Go.Proofs.YtdmfgodajoojpaaGreat.Cn
/- The chip: what is answered. -/
set_option linter.unusedSimpArgs false
set_option linter.unusedVariables false
set_option maxRecDepth 100000
namespace Go.Proofs.YtdmfgodajoojpaaGreat.Cn
open Go Go.Proofs

structure Ans where
  id : Int
  dev : Nat
  dead : Bool
  value : Int
def Ans.cells (x : Ans) : List AV := [.int .i64 x.id, .int .i64 (x.dev : Nat), .bool x.dead, .int .u32 x.value]
def FSt.put (f : FSt) (t : Txn) : FSt := if t.write = true then { f with now := fun j => if j = t.reg.toNat then t.value else f.now j } else f
def clampOf (S : Soc) (i : Nat) : Int := ((S.devs[i]?).map Dev.clamp).getD 0
def HV.ansOf (v : HV) (S : Soc) (i : Nat) : Option Ans := match v.Q i with
  | [] => none
  | t :: _ => some (if v.alive S i = true then ⟨t.id, i, false, (v.F i).now t.reg.toNat⟩ else ⟨t.id, i, true, clampOf S i⟩)
def HV.wrF (v : HV) (S : Soc) (i : Nat) : FSt := match v.Q i with
  | [] => v.F i
  | t :: _ => if v.alive S i = true then (v.F i).put t else v.F i
def QOk (S : Soc) (Q : Nat → List Txn) : Prop := ∀ i (h : i < S.devs.length), ∀ t ∈ Q i, ∃ k : Nat, t.reg = (k : Int) ∧ k < S.devs[i].regs.length
section
variable {st s s' : ASt} {ib : Nat} {a : HA} {T : Nat → Nat} {S : Soc} {v : HV}
theorem clampOf_at {i : Nat} (hi : i < S.devs.length) : clampOf S i = S.devs[i].clamp := by simp [clampOf, hi]
theorem le_set_new {s0 s : ASt} {i : Nat} {o : AObj} (h : s0.le s) (hi : s0.h i = none) : s0.le (s.set i o) := fun j x hj => by
  rw [ASt.set_h, if_neg (by rintro rfl; rw [hi] at hj; cases hj)]; exact h _ _ hj
theorem HH.retag (h : HH st s ib a T S v) {T' : Nat → Nat} (hT : ∀ j, s.h j ≠ none → T' j = T j) : HH st s ib a T' S v := by
  obtain ⟨W, hw, hl, hq⟩ := h.bus.hw
  exact ⟨h.c.retag hT, h.hh, by rw [hT a.hp (by rw [h.hh]; simp)]; exact h.Th, ⟨h.bus.hp, h.bus.hr, ⟨W, hw, hl, fun i hi => (hq i hi).retag hT⟩,
    ⟨by rw [hT _ (by rw [h.bus.hp]; simp)]; exact h.bus.t.1, by rw [hT _ (by rw [h.bus.hr]; simp)]; exact h.bus.t.2.1, by rw [hT _ (by rw [hw]; simp)]; exact h.bus.t.2.2⟩, h.bus.n1, h.bus.n2, h.bus.n3⟩,
    h.devs, by rw [hT a.dv (by rw [h.devs]; simp)]; exact h.Td⟩
theorem HH.rebase (h : HH st s ib a T S v) {st1 : ASt} (hl : st1.le s) (ht : ∀ j, st1.h j ≠ none → T j = 0) : HH st1 s ib a T S v :=
  ⟨{ le := hl, tag0 := ht, hb := h.c.hb, Tb := h.c.Tb, tree := h.c.tree, Tt := h.c.Tt, grid := h.c.grid, Tg := h.c.Tg, lines := h.c.lines, Tl := h.c.Tl, files := h.c.files, ports := h.c.ports, kof := h.c.kof, ginv := h.c.ginv, linv := h.c.linv }, h.hh, h.Th, h.bus, h.devs, h.Td⟩
theorem HH.less (h : HH st s ib a T S v) {st1 : ASt} (hl : st1.le st) : HH st1 s ib a T S v :=
  h.rebase (hl.trans h.c.le) fun j hj => h.c.tag0 j (by
    cases e : st1.h j with
    | none => exact absurd e hj
    | some o => rw [hl _ _ e]; simp)
def HX (st s : ASt) (ib : Nat) (a : HA) (S : Soc) (v : HV) : Prop := ∃ T, HH st s ib a T S v
theorem HX.less (h : HX st s ib a S v) {st1 : ASt} (hl : st1.le st) : HX st1 s ib a S v := h.imp fun _ h => h.less hl
theorem HX.step (h : HX st s ib a S v) (hl : s.le s') : HX st s' ib a S v := h.imp fun _ h => h.step hl
theorem HX.le (h : HX st s ib a S v) : st.le s := h.elim fun _ h => h.c.le
theorem HX.loc (h : HX st s ib a S v) {ix : Nat} (hi : s.h ix = none) (o : AObj) : HX (st.new ix o) (s.new ix o) ib a S v := by
  obtain ⟨T, h⟩ := h
  have hT : ∀ j, s.h j ≠ none → (fun j => if j = ix then 0 else T j) j = T j := fun j hj => by
    simp only
    rw [if_neg (by rintro rfl; exact hj hi)]
  have hle := h.c.le
  refine ⟨fun j => if j = ix then 0 else T j, ((h.retag hT).step (ASt.le.new s ix o)).rebase (hle.newB hi o) fun j hj => ?_⟩
  by_cases e : j = ix
  · simp [e]
  · simp only [if_neg e]
    rw [ASt.new_ne _ e] at hj
    exact h.c.tag0 j hj
theorem ASt.le.setB {s0 s : ASt} (h : s0.le s) (i : Nat) (o : AObj) : (s0.set i o).le (s.set i o) := fun j x hj => by
  rw [ASt.set_h] at hj ⊢
  split
  · rename_i e; subst e
    rw [if_pos rfl] at hj
    cases e0 : s0.h j with
    | none => rw [e0] at hj; cases hj
    | some y => rw [e0] at hj; rw [h _ _ e0]; exact hj
  · rename_i e
    rw [if_neg e] at hj; exact h _ _ hj
theorem HX.locSet (h : HX st s ib a S v) {ix : Nat} (hi : st.h ix ≠ none) (o : AObj) : HX (st.set ix o) (s.set ix o) ib a S v := by
  obtain ⟨T, h⟩ := h
  have h0 := h.c.tag0 ix hi
  refine ⟨T, ?_⟩
  have hk : Keeps T 0 s (s.set ix o) := Keeps.set h0
  have hl0 : ∀ j, (st.set ix o).h j ≠ none → st.h j ≠ none := fun j hj => by
    rw [ASt.set_h] at hj
    split at hj
    · rename_i e; subst e; exact hi
    · exact hj
  refine ⟨{ le := h.c.le.setB ix o, tag0 := fun j hj => h.c.tag0 j (hl0 j hj), hb := hk.at_ h.c.hb h.c.Tb (by omega), Tb := h.c.Tb, tree := h.c.tree.kept h.c.Tt hk (by omega), Tt := h.c.Tt, grid := h.c.grid.kept h.c.Tg hk (by omega), Tg := h.c.Tg, lines := h.c.lines.kept h.c.Tl hk (by omega), Tl := h.c.Tl, files := (fun i hi hm => ⟨(h.c.files i hi hm).1.kept (h.c.files i hi hm).2 hk (by omega), (h.c.files i hi hm).2⟩), ports := (fun i hm => ⟨hk.at_ (h.c.ports i hm).1 (h.c.ports i hm).2.1 (by omega), (h.c.ports i hm).2⟩), kof := h.c.kof, ginv := h.c.ginv, linv := h.c.linv },
    hk.at_ h.hh h.Th (by omega), h.Th, h.bus.kept hk (by omega) (fun i => by omega), hk.at_ h.devs h.Td (by omega), h.Td⟩
theorem HX.box (h : HX st s ib a S v) {ix : Nat} (hi : s.h ix = none) (o : AObj) : HX (st.new ix o) (s.new ix o) ib a S v ∧ (st.new ix o).h ix = some o ∧ st.le (st.new ix o) :=
  ⟨h.loc hi o, ASt.new_self _ (fresh_of_le h.le hi), ASt.le.new _ _ _⟩
set_option maxHeartbeats 1000000 in
theorem hanswer (h : HX st s ib a S v) (hQ : QOk S v.Q) {i : Nat} (hi : i < S.devs.length) : ACalls Tryz.prog F.q83 [.ptr a.hp 0, .int .i64 i] s fun r s' =>
    (match v.ansOf S i with
      | none => r = .tup [.agg [.int .i64 0, .int .i64 0, .bool false, .int .u32 0], .bool false]
      | some x => r = .tup [.agg x.cells, .bool true]) ∧ HX st s' ib a S { v with Q := upF v.Q i (v.Q i).tail, F := upF v.F i (v.wrF S i) } := by
  have hz : (0:Int) ≤ (i : Int) ∧ (i : Int) < (S.devs.length : Int) := by omega
  have hvF : ∀ f : FSt, f = v.F i → upF v.F i f = v.F := fun f e => by
    funext j
    by_cases hj : j = i
    · subst hj; rw [upF_at, e]
    · rw [upF_ne hj]
  refine calls_of_awp L.q83 rfl ?_
  simp only [↓Bp, Bq, Bs, ↓aop.eq_28, ↓aop.eq_30, simprocAttr, ↓C.q83_r0_w, C.q83_r0_b, C.q83]
  intro ix hix
  obtain ⟨h1, hx, hle1⟩ := h.box hix (.cells [.int .i64 0, .int .i64 0, .bool false, .int .u32 0])
  generalize s.new ix (.cells [.int .i64 0, .int .i64 0, .bool false, .int .u32 0]) = u at h1
  generalize st.new ix (.cells [.int .i64 0, .int .i64 0, .bool false, .int .u32 0]) = st1 at h1 hx hle1
  obtain ⟨T, h2⟩ := h1
  have hixs : st.h ix = none := fresh_of_le h.le hix
  simp only [↓Bp, Bq, Bs, ↓aop.eq_28, ↓aop.eq_30, simprocAttr, ↓C.q83_r1_w, C.q83_r1_b, ↓C.q83_c12_w, ↓C.q83_r0_w, C.q83_r0_b, C.q83, h2.hh]
  refine (btake h2 hi).mono ?_
  rintro r u2 (⟨hq, rfl, rfl⟩ | ⟨t, q, hq, rfl, h3⟩)
  · have hxu := h2.c.le _ _ hx
    simp only [↓Bp, Bq, Bs, ↓aop.eq_28, ↓aop.eq_30, simprocAttr, ↓C.q83_r1_w, C.q83_r1_b, ↓C.q83_c12_w, ↓C.q83_r0_w, C.q83_r0_b, C.q83]
    intro i6 hi6
    have n6 : ¬ ix = i6 := by rintro rfl; rw [hxu] at hi6; cases hi6
    simp only [↓Bp, Bq, Bs, ↓aop.eq_28, ↓aop.eq_30, simprocAttr, ↓C.q83_W, C.q83_B, C.q83, hi6, n6, hxu]
    have e1 : v.ansOf S i = none := by rw [HV.ansOf, hq]
    have e2 : v.wrF S i = v.F i := by rw [HV.wrF, hq]
    rw [e1, e2, hq, hvF _ rfl]
    have e3 : upF v.Q i [] = v.Q := by
      funext j
      by_cases hj : j = i
      · subst hj; rw [upF_at, hq]
      · rw [upF_ne hj]
    simp only [List.tail_nil, e3]
    refine ⟨rfl, rfl, trivial, ?_⟩
    rw [ASt.new_set hi6]
    obtain ⟨h4, -, hle2⟩ := HX.box ⟨T, h2⟩ hi6 (.cells [.int .i64 0, .bool false, .int .i64 0, .int .u32 0])
    exact (h4.locSet (by rw [hle2 _ _ hx]; simp) _).less (le_set_new (hle1.trans hle2) hixs)
  · simp only [↓Bp, Bq, Bs, ↓aop.eq_28, ↓aop.eq_30, simprocAttr, ↓C.q83_r1_w, C.q83_r1_b, ↓C.q83_c12_w, ↓C.q83_r0_w, C.q83_r0_b, C.q83]
    intro i6 hi6
    have l4 : t.cells.length = 4 := rfl
    have f4 : allLeaf t.cells = true := rfl
    simp only [↓Bp, Bq, Bs, ↓aop.eq_28, ↓aop.eq_30, simprocAttr, ↓C.q83_r1_w, C.q83_r1_b, ↓C.q83_c12_w, ↓C.q83_r0_w, C.q83_r0_b, C.q83, hi6, l4, f4]
    rw [ASt.new_set hi6, putN_all (zs := [AV.int .i64 0, AV.bool false, AV.int .i64 0, AV.int .u32 0]) (vs := t.cells) rfl]
    obtain ⟨h4, hx6, hle2⟩ := HX.box ⟨T, h3⟩ hi6 (.cells t.cells)
    have hx2 := hle2 _ _ hx
    generalize u2.new i6 (.cells t.cells) = u3 at h4
    generalize st1.new i6 (.cells t.cells) = st2 at h4 hx6 hle2 hx2
    have hle3 := hle1.trans hle2
    clear h3 hle1 hle2 hx
    obtain ⟨T2, h5⟩ := h4
    have hfit := devsC_fit (a := a) hi
    have hat := devsC_at (a := a) hi
    rw [devC_eq hi] at hat
    simp only [↓Bp, Bq, Bs, ↓aop.eq_28, ↓aop.eq_30, simprocAttr, ↓C.q83_r4_w, C.q83_r4_b, ↓C.q83_c8_w, ↓C.q83_r3_w, C.q83_r3_b, ↓C.q83_c9_w, ↓C.q83_c10_w, ↓C.q83_r2_w, C.q83_r2_b, ↓C.q83_c11_w, ↓C.q83_r1_w, C.q83_r1_b, ↓C.q83_c12_w, ↓C.q83_r0_w, C.q83_r0_b, C.q83, h5.hh, h5.devs, hz, Int.toNat_natCast, hfit, hat]
    intro i8 hi8
    simp only [↓Bp, Bq, Bs, ↓aop.eq_28, ↓aop.eq_30, simprocAttr, ↓C.q83_r4_w, C.q83_r4_b, ↓C.q83_c8_w, ↓C.q83_r3_w, C.q83_r3_b, ↓C.q83_c9_w, ↓C.q83_c10_w, ↓C.q83_r2_w, C.q83_r2_b, ↓C.q83_c11_w, ↓C.q83_r1_w, C.q83_r1_b, ↓C.q83_c12_w, ↓C.q83_r0_w, C.q83_r0_b, C.q83, hi8, allLeaf, AV.leaf]
    rw [ASt.new_set hi8]
    obtain ⟨h6, hx8, hle4⟩ := HX.box ⟨T2, h5⟩ hi8 (.cells [.int .i64 S.devs[i].clock, .int .i64 S.devs[i].dom, .int .i64 S.devs[i].rst, .int .u32 S.devs[i].clamp, .ptr (a.fp i) 0, .ptr (a.pp i) 0])
    have hx3 := hle4 _ _ hx2
    have hx7 := hle4 _ _ hx6
    generalize u3.new i8 (.cells [.int .i64 S.devs[i].clock, .int .i64 S.devs[i].dom, .int .i64 S.devs[i].rst, .int .u32 S.devs[i].clamp, .ptr (a.fp i) 0, .ptr (a.pp i) 0]) = u4 at h6
    generalize st2.new i8 (.cells [.int .i64 S.devs[i].clock, .int .i64 S.devs[i].dom, .int .i64 S.devs[i].rst, .int .u32 S.devs[i].clamp, .ptr (a.fp i) 0, .ptr (a.pp i) 0]) = st3 at h6 hx8 hle4 hx3 hx7
    have hle5 := hle3.trans hle4
    clear h5 hle3 hle4 hx2 hx6
    obtain ⟨T3, h7⟩ := h6
    have y3 := h7.c.le _ _ hx3
    have y7 := h7.c.le _ _ hx7
    have y8 := h7.c.le _ _ hx8
    have hlive : st3.h ix ≠ none := by rw [hx3]; simp
    have y7' := y7
    rw [Txn.cells] at y7'
    simp only [↓Bp, Bq, Bs, ↓aop.eq_28, ↓aop.eq_30, simprocAttr, ↓C.q83_W, C.q83_B, C.q83]
    refine (halive h7 i).mono ?_
    rintro r u5 ⟨rfl, rfl⟩
    have hal : HV.aliveI { v with Q := upF v.Q i q } S (i : Int) = v.alive S i := by
      rw [HV.aliveI, Int.toNat_natCast]
      simp [HV.alive]
    rw [hal]
    have e1 : v.ansOf S i = some (if v.alive S i = true then ⟨t.id, i, false, (v.F i).now t.reg.toNat⟩ else ⟨t.id, i, true, clampOf S i⟩) := by rw [HV.ansOf, hq]
    have e2 : v.wrF S i = if v.alive S i = true then (v.F i).put t else v.F i := by rw [HV.wrF, hq]
    rw [e1, e2, hq]
    simp only [List.tail_cons]
    cases hal2 : v.alive S i
    · simp only [↓Bp, Bq, Bs, ↓aop.eq_28, ↓aop.eq_30, simprocAttr, ↓C.q83_W, C.q83_B, C.q83, y3, y7', y8, allLeaf, AV.leaf]
      refine ⟨by rw [clampOf_at hi]; rfl, ?_⟩
      rw [hvF _ rfl]
      exact (HX.locSet ⟨T3, h7⟩ hlive _).less (le_set_new hle5 hixs)
    · obtain ⟨k, hk, hkl⟩ := hQ i hi t (by rw [hq]; simp)
      have hcell := y7'
      rw [hk] at y7'
      simp only [↓Bp, Bq, Bs, ↓aop.eq_28, ↓aop.eq_30, simprocAttr, ↓C.q83_W, C.q83_B, C.q83, y3, y7', y8]
      refine (read_at (file_at h7 hi) hkl).mono ?_
      rintro r u6 ⟨rfl, rfl⟩
      have hkt : t.reg.toNat = k := by rw [hk]; rfl
      have fin : ∀ (f : FSt) (u7 : ASt), HX st3 u7 ib a S { v with Q := upF v.Q i q, F := upF v.F i f } → f = (v.F i).put t → awp Tryz.prog C.q83_c1
          (Post [IRes.cellN 4 4, IRes.slot 5] fun r s' => r = AV.tup [AV.agg (Ans.mk t.id i false ((v.F i).now t.reg.toNat)).cells, AV.bool true] ∧ HX st s' ib a S { v with Q := upF v.Q i (t :: q).tail, F := upF v.F i ((v.F i).put t) })
          [(1, .int .i64 i), (4, .ptr ix 0), (6, .ptr i6 0), (9, .int .u32 ((v.F i).now k))] u7 := by
        intro f u7 h8 hf
        have y3 := h8.le _ _ hx3
        have y7 := h8.le _ _ hx7
        rw [Txn.cells] at y7
        simp only [↓Bp, Bq, Bs, ↓aop.eq_28, ↓aop.eq_30, simprocAttr, ↓C.q83_W, C.q83_B, C.q83, y3, y7, allLeaf, AV.leaf]
        refine ⟨by rw [hkt]; rfl, ?_⟩
        rw [← hf]
        exact (h8.locSet hlive _).less (le_set_new hle5 hixs)
      simp only [↓Bp, Bq, Bs, ↓aop.eq_28, ↓aop.eq_30, simprocAttr, ↓C.q83_r9_w, C.q83_r9_b, ↓C.q83_c2_w, ↓C.q83_r8_w, C.q83_r8_b, ↓C.q83_c3_w, ↓C.q83_r7_w, C.q83_r7_b, ↓C.q83_c4_w, ↓C.q83_r6_w, C.q83_r6_b, ↓C.q83_c5_w, ↓C.q83_c6_w, ↓C.q83_r5_w, C.q83_r5_b, ↓C.q83_c7_w, ↓C.q83_r4_w, C.q83_r4_b, ↓C.q83_c8_w, ↓C.q83_r3_w, C.q83_r3_b, ↓C.q83_c9_w, ↓C.q83_c10_w, ↓C.q83_r2_w, C.q83_r2_b, ↓C.q83_c11_w, ↓C.q83_r1_w, C.q83_r1_b, ↓C.q83_c12_w, ↓C.q83_r0_w, C.q83_r0_b, C.q83, y3, y7', y8]
      by_cases htw : t.write = true
      · rw [if_pos htw]
        refine (write_at (file_at h7 hi) hkl t.value).mono ?_
        rintro r u7 ⟨rfl, g1, g2⟩
        have h8 := h7.putFile hi g2 (f := (v.F i).put t) (by rw [FSt.put, if_pos htw, hkt]; exact g1)
        have := fin _ u7 ⟨T3, h8⟩ rfl
        simp only [↓Bp, Bq, Bs, ↓aop.eq_28, ↓aop.eq_30, simprocAttr, ↓C.q83_r9_w, C.q83_r9_b, ↓C.q83_c2_w, ↓C.q83_r8_w, C.q83_r8_b, ↓C.q83_c3_w, ↓C.q83_r7_w, C.q83_r7_b, ↓C.q83_c4_w, ↓C.q83_r6_w, C.q83_r6_b, ↓C.q83_c5_w, ↓C.q83_c6_w, ↓C.q83_r5_w, C.q83_r5_b, ↓C.q83_c7_w, ↓C.q83_r4_w, C.q83_r4_b, ↓C.q83_c8_w, ↓C.q83_r3_w, C.q83_r3_b, ↓C.q83_c9_w, ↓C.q83_c10_w, ↓C.q83_r2_w, C.q83_r2_b, ↓C.q83_c11_w, ↓C.q83_r1_w, C.q83_r1_b, ↓C.q83_c12_w, ↓C.q83_r0_w, C.q83_r0_b, C.q83, y3, y7', y8]
        rw [C.q83_c1_w, awp_keep] at this ⊢
        exact this
      · rw [if_neg htw]
        have := fin (v.F i) u6 ⟨T3, by rw [hvF _ rfl]; exact h7⟩ (by rw [FSt.put, if_neg htw])
        rw [C.q83_c1_w, awp_keep] at this ⊢
        exact this
end
end Go.Proofs.YtdmfgodajoojpaaGreat.Cn
/- The chip: a tick, its first half: what is answered, the channels. -/
set_option linter.unusedSimpArgs false
set_option linter.unusedVariables false
set_option maxRecDepth 100000
namespace Go.Proofs.YtdmfgodajoojpaaGreat.Cn
open Go Go.Proofs

def HV.ansV (v : HV) (S : Soc) (n : Nat) : HV := { v with Q := fun i => if i < n then (v.Q i).tail else v.Q i, F := fun i => if i < n then v.wrF S i else v.F i }
def HV.told (v : HV) (S : Soc) (n : Nat) : List Ans := (List.range n).filterMap (v.ansOf S)
theorem ansV_zero (v : HV) (S : Soc) : v.ansV S 0 = v := by
  simp [HV.ansV]
theorem ansV_succ (v : HV) (S : Soc) (n : Nat) : { v.ansV S n with Q := upF (v.ansV S n).Q n ((v.ansV S n).Q n).tail, F := upF (v.ansV S n).F n ((v.ansV S n).wrF S n) } = v.ansV S (n + 1) := by
  have hq : (v.ansV S n).Q n = v.Q n := by simp [HV.ansV]
  have hf : (v.ansV S n).F n = v.F n := by simp [HV.ansV]
  have hw : (v.ansV S n).wrF S n = v.wrF S n := by
    unfold HV.wrF
    rw [hq, hf]; rfl
  have e1 : upF (v.ansV S n).Q n ((v.ansV S n).Q n).tail = (v.ansV S (n + 1)).Q := by
    funext i
    rw [hq]
    by_cases h : i = n
    · subst h; rw [upF_at]; simp [HV.ansV]
    · rw [upF_ne h]
      by_cases h2 : i < n
      · simp [HV.ansV, h2, show i < n + 1 by omega]
      · simp [HV.ansV, h2, show ¬ i < n + 1 by omega]
  have e2 : upF (v.ansV S n).F n ((v.ansV S n).wrF S n) = (v.ansV S (n + 1)).F := by
    funext i
    rw [hw]
    by_cases h : i = n
    · subst h; rw [upF_at]; simp [HV.ansV]
    · rw [upF_ne h]
      by_cases h2 : i < n
      · simp [HV.ansV, h2, show i < n + 1 by omega]
      · simp [HV.ansV, h2, show ¬ i < n + 1 by omega]
  rw [e1, e2]; rfl
theorem ansV_ansOf (v : HV) (S : Soc) (n : Nat) : (v.ansV S n).ansOf S n = v.ansOf S n := by
  have hq : (v.ansV S n).Q n = v.Q n := by simp [HV.ansV]
  have hf : (v.ansV S n).F n = v.F n := by simp [HV.ansV]
  unfold HV.ansOf
  rw [hq, hf]; rfl
theorem QOk.ansV {S : Soc} {v : HV} (h : QOk S v.Q) (n : Nat) : QOk S (v.ansV S n).Q := fun i hi t ht => by
  simp only [HV.ansV] at ht
  split at ht
  · exact h i hi t (List.mem_of_mem_tail ht)
  · exact h i hi t ht
theorem told_succ (v : HV) (S : Soc) (n : Nat) : v.told S (n + 1) = v.told S n ++ (v.ansOf S n).toList := by
  simp only [HV.told]
  rw [List.range_succ, List.filterMap_append]
  cases h : v.ansOf S n <;> simp [h]
theorem told_len (v : HV) (S : Soc) (n : Nat) : (v.told S n).length ≤ n := by
  have := List.length_filterMap_le (v.ansOf S) (List.range n)
  simpa [HV.told] using this
def denyB (deny : Int) (i : Nat) : Bool := decide (IntKind.u32.wrap (BitVec.ofInt 32 (deny.fdiv (2 ^ (min i 32))) &&& BitVec.ofInt 32 1).toNat = 1)
def HV.portV (w : HV) (deny : Int) (n : Nat) : HV := { w with O := fun i => if i < n then qtick (w.O i).1 (w.O i).2 (decide ((0 : Int) < ((w.Q i).length : Nat))) (denyB deny i) else w.O i }
theorem portV_zero (w : HV) (deny : Int) : w.portV deny 0 = w := by simp [HV.portV]
theorem portV_succ (w : HV) (deny : Int) (n : Nat) : { w.portV deny n with O := upF (w.portV deny n).O n (qtick (w.O n).1 (w.O n).2 (decide ((0 : Int) < ((w.Q n).length : Nat))) (denyB deny n)) } = w.portV deny (n + 1) := by
  have e1 : upF (w.portV deny n).O n (qtick (w.O n).1 (w.O n).2 (decide ((0 : Int) < ((w.Q n).length : Nat))) (denyB deny n)) = (w.portV deny (n + 1)).O := by
    funext i
    by_cases h : i = n
    · subst h; rw [upF_at]; simp [HV.portV]
    · rw [upF_ne h]
      by_cases h2 : i < n
      · simp [HV.portV, h2, show i < n + 1 by omega]
      · simp [HV.portV, h2, show ¬ i < n + 1 by omega]
  rw [e1]; rfl
theorem qtick_ok {x y : Int} {a d : Bool} (h : 0 ≤ x ∧ x ≤ 3) : 0 ≤ (qtick x y a d).1 ∧ (qtick x y a d).1 ≤ 3 := by
  unfold qtick
  split
  · split
    · simp
    · split <;> simp
  · exact h
section
variable {st s s' : ASt} {ib : Nat} {a : HA} {T : Nat → Nat} {S : Soc} {v : HV}
theorem HX.kill (h : HX st s ib a S v) {ix : Nat} (hi : st.h ix ≠ none) : HX (st.kill ix) (s.kill ix) ib a S v := by
  obtain ⟨T, h⟩ := h
  have h0 := h.c.tag0 ix hi
  have hk : Keeps T 0 s (s.kill ix) := fun j o hj hn => by
    rw [ASt.kill_h, if_neg (by rintro rfl; exact hn h0)]; exact hj
  have hle : (st.kill ix).le (s.kill ix) := fun j x hj => by
    rw [ASt.kill_h] at hj ⊢
    split
    · rename_i e; rw [if_pos e] at hj; cases hj
    · rename_i e; rw [if_neg e] at hj; exact h.c.le _ _ hj
  refine ⟨T, ⟨{ le := hle, tag0 := fun j hj => h.c.tag0 j (ASt.kill_live hj).2, hb := hk.at_ h.c.hb h.c.Tb (by omega), Tb := h.c.Tb, tree := h.c.tree.kept h.c.Tt hk (by omega), Tt := h.c.Tt, grid := h.c.grid.kept h.c.Tg hk (by omega), Tg := h.c.Tg, lines := h.c.lines.kept h.c.Tl hk (by omega), Tl := h.c.Tl, files := (fun i hi hm => ⟨(h.c.files i hi hm).1.kept (h.c.files i hi hm).2 hk (by omega), (h.c.files i hi hm).2⟩), ports := (fun i hm => ⟨hk.at_ (h.c.ports i hm).1 (h.c.ports i hm).2.1 (by omega), (h.c.ports i hm).2⟩), kof := h.c.kof, ginv := h.c.ginv, linv := h.c.linv },
    hk.at_ h.hh h.Th (by omega), h.Th, h.bus.kept hk (by omega) (fun i => by omega), hk.at_ h.devs h.Td (by omega), h.Td⟩⟩
theorem aop_append_hx {P : Program} {sz b : Nat} {zs : List AV} {parts : List (Nat × Nat × IArg)} {x y : IArg} {fr : AFr} {st1 t : ASt} {F : AV → AFr} {K : AV → AV → ASt → Prop} {tv : AV} {n : Nat} {cs new : List AV}
    (h : HX st1 t ib a S v) (hown : Over st st1 sz tv n cs) (hn : n + 1 ≤ 4294967296) (hnew : aput (zeros zs 1) (parts.map fun p => (p.1, p.2.1, fr.val p.2.2)) = .some new) (hlen : new.length = sz) (hleaf : allLeaf new = true)
    (hx : ∀ v1, (F v1).val x = tv) (hy : ∀ v1, (F v1).val y = v1)
    (hk : ∀ v1 v2 st2 t2, HX st2 t2 ib a S v → Over st st2 sz v2 (n + 1) (cs ++ new) → K v1 v2 t2) :
    aop P (.buildSlice sz 1 zs parts) fr t (fun v1 st1 => aop P (.append sz b x y) (F v1) st1 (K v1)) := by
  have hs : Shows t sz tv n cs := by
    obtain ⟨h1, h2⟩ := hown.1
    refine ⟨h1, h2.imp (fun x => x) fun ⟨i, e, hi⟩ => ⟨i, e, h.le _ _ hi⟩⟩
  refine aop_append_one hs hn hnew hlen hleaf hx hy fun v1 i2 t2 h1 h2 h3 => ?_
  have hkill : HX (st1.without tv) (t.without tv) ib a S v := by
    rcases hown.1.2 with ⟨_, rfl⟩ | ⟨i, rfl, hi⟩
    · exact h
    · exact h.kill (by rw [hi]; simp)
  have hle := hown.2.1.without hown.2.2
  have hf : (st1.without tv).h i2 = none := fresh_of_le hkill.le h1
  have hfs : st.h i2 = none := fresh_of_le hle hf
  obtain ⟨q1, q2⟩ := h3
  rcases q2 with ⟨q2, _⟩ | ⟨i, q2, q3⟩
  · omega
  cases q2
  refine hk v1 _ ((st1.without tv).new i2 (.cells (cs ++ new))) t2 ((hkill.loc h1 (.cells (cs ++ new))).step fun j o hj => ?_) ⟨⟨q1, .inr ⟨i2, rfl, ASt.new_self _ hf⟩⟩, hle.trans (ASt.le.new _ _ _), fun sz i off n e => ?_⟩
  · by_cases e : j = i2
    · subst e; rw [ASt.new_self _ h1] at hj; rw [q3]; exact hj
    · rw [ASt.new_ne _ e] at hj; exact h2 _ _ hj
  · cases e; exact hfs
def TickQ (st : ASt) (ib : Nat) (a : HA) (S : Soc) (vf : HV) (l : List Ans) (r : AV) (s' : ASt) : Prop :=
  ∃ st1, Over st st1 4 r l.length (l.flatMap Ans.cells) ∧ HX st1 s' ib a S vf
set_option maxHeartbeats 1000000 in
theorem tick_ports {st1 : ASt} {tv : AV} {l : List Ans} {w : HV} {deny : Int} {vf : HV} (hO : Over st st1 4 tv l.length (l.flatMap Ans.cells)) (h : HX st1 s ib a S w) (hd4 : S.devs.length ≤ 4)
    (hnext : ∀ t, HX st1 t ib a S (w.portV deny S.devs.length) → awp Tryz.prog C.q81_c24 (Post [.slot 4] (TickQ st ib a S vf l)) [(0, .ptr a.hp 0), (5, tv)] t) :
    awp Tryz.prog C.q81_c33 (Post [.slot 4] (TickQ st ib a S vf l)) [(0, .ptr a.hp 0), (1, .int .u32 deny), (5, tv)] s := by
  obtain ⟨T, h0⟩ := h
  simp only [↓Bp, Bq, Bs, ↓aop.eq_28, ↓aop.eq_30, simprocAttr, ↓C.q81_r15_w, C.q81_r15_b, ↓C.q81_c25_w, ↓C.q81_r14_w, C.q81_r14_b, ↓C.q81_c26_w, ↓C.q81_r13_w, C.q81_r13_b, ↓C.q81_b27_w, ↓C.q81_c28_w, ↓C.q81_c29_w, ↓C.q81_r12_w, C.q81_r12_b, ↓C.q81_b31_w, ↓C.q81_c32_w, ↓C.q81_r11_w, C.q81_r11_b, ↓C.q81_c33_w, h0.hh]
  refine awp_midB (fun _ : Unit => [(0, .ptr a.hp 0), (5, tv)]) (fun _ t => HX st1 t ib a S (w.portV deny S.devs.length)) ?_ ?_
  rotate_left
  · rintro - t ht
    have := hnext t ht
    rw [C.q81_c24_w, awp_keep] at this
    exact this
  refine awp_loopK (fun i : Nat => [(0, .ptr a.hp 0), (1, .int .u32 deny), (5, tv), (42, .sl 6 a.dv 0 S.devs.length), (43, .int .i64 S.devs.length), (44, .int .i64 i)]) (fun i t => i ≤ S.devs.length ∧ HX st1 t ib a S (w.portV deny i)) (fun i => S.devs.length - i) 0 rfl ⟨Nat.zero_le _, T, by rw [portV_zero]; exact h0⟩ ?_
  clear h0 hnext
  rintro i t ⟨hi, h⟩
  by_cases hil : i < S.devs.length
  rotate_left
  · have hie : i = S.devs.length := by omega
    subst hie
    have hil' : ¬ ((S.devs.length : Nat) : Int) < (S.devs.length : Nat) := by omega
    simp only [↓Bp, Bq, Bs, ↓aop.eq_28, ↓aop.eq_30, simprocAttr, ↓C.q81_W, C.q81_B, C.q81, hil']
    exact ⟨(), h⟩
  have hil' : (i : Int) < (S.devs.length : Nat) := by omega
  have hw := wsucc hil (by omega)
  have hz : (0:Int) ≤ (i : Int) ∧ (i : Int) < (S.devs.length : Int) := by omega
  have hfit := devsC_fit (a := a) hil
  have hat := devsC_at (a := a) hil
  rw [devC_eq hil] at hat
  obtain ⟨T, h2⟩ := h
  simp only [↓Bp, Bq, Bs, ↓aop.eq_28, ↓aop.eq_30, simprocAttr, ↓C.q81_r15_w, C.q81_r15_b, ↓C.q81_c25_w, ↓C.q81_r13_w, C.q81_r13_b, ↓C.q81_b27_w, ↓C.q81_c28_w, ↓C.q81_c29_w, ↓C.q81_r12_w, C.q81_r12_b, hil', hz, h2.devs, Int.toNat_natCast, hfit, hat]
  intro ix hix
  simp only [↓Bp, Bq, Bs, ↓aop.eq_28, ↓aop.eq_30, simprocAttr, ↓C.q81_r15_w, C.q81_r15_b, ↓C.q81_c25_w, ↓C.q81_r13_w, C.q81_r13_b, ↓C.q81_b27_w, ↓C.q81_c28_w, ↓C.q81_c29_w, ↓C.q81_r12_w, C.q81_r12_b, hix, allLeaf, AV.leaf]
  rw [ASt.new_set hix]
  obtain ⟨h3, hx, hle⟩ := HX.box ⟨T, h2⟩ hix (.cells [.int .i64 S.devs[i].clock, .int .i64 S.devs[i].dom, .int .i64 S.devs[i].rst, .int .u32 S.devs[i].clamp, .ptr (a.fp i) 0, .ptr (a.pp i) 0])
  generalize t.new ix (.cells [.int .i64 S.devs[i].clock, .int .i64 S.devs[i].dom, .int .i64 S.devs[i].rst, .int .u32 S.devs[i].clamp, .ptr (a.fp i) 0, .ptr (a.pp i) 0]) = u at h3
  generalize st1.new ix (.cells [.int .i64 S.devs[i].clock, .int .i64 S.devs[i].dom, .int .i64 S.devs[i].rst, .int .u32 S.devs[i].clamp, .ptr (a.fp i) 0, .ptr (a.pp i) 0]) = st2 at h3 hx hle
  obtain ⟨T2, h4⟩ := h3
  have hxu := h4.c.le _ _ hx
  have hi0 : (0 : Int) ≤ (i : Int) := by omega
  simp only [↓Bp, Bq, Bs, ↓aop.eq_28, ↓aop.eq_30, simprocAttr, ↓C.q81_W, C.q81_B, C.q81, hxu, h4.hh]
  refine (bwaiting h4.bus hil).mono ?_
  rintro r u2 ⟨rfl, rfl⟩
  simp only [↓Bp, Bq, Bs, ↓aop.eq_28, ↓aop.eq_30, simprocAttr, ↓C.q81_W, C.q81_B, C.q81, hxu, h4.hh, ashift_shr hi0, gt_iff_lt]
  refine (qtick_spec (port_at h4 hil) _ _).mono ?_
  rintro r u3 rfl
  simp only [↓Bp, Bq, Bs, ↓aop.eq_28, ↓aop.eq_30, simprocAttr, ↓C.q81_W, C.q81_B, C.q81, hw]
  refine ⟨i + 1, rfl, ⟨hil, ?_⟩, by omega⟩
  have h5 := HX.less ⟨T2, h4.putPort hil (qtick ((w.portV deny i).O i).1 ((w.portV deny i).O i).2 (decide ((0 : Int) < ((w.Q i).length : Nat))) (denyB deny i)).1 (qtick ((w.portV deny i).O i).1 ((w.portV deny i).O i).2 (decide ((0 : Int) < ((w.Q i).length : Nat))) (denyB deny i)).2 (qtick_ok (h4.c.ports i hil).2.2)⟩ hle
  have ho : (w.portV deny i).O i = w.O i := by simp [HV.portV]
  have := portV_succ w deny i
  rw [← ho] at this
  rw [← this]
  exact h5
end
end Go.Proofs.YtdmfgodajoojpaaGreat.Cn
/- The chip: a tick, its second half: clocks, domains and what becomes of registers, lines. -/
set_option linter.unusedSimpArgs false
set_option linter.unusedVariables false
set_option maxRecDepth 100000
namespace Go.Proofs.YtdmfgodajoojpaaGreat.Cn
open Go Go.Proofs

def FSt.save (R : List Reg) (f : FSt) : FSt := ⟨f.now, fun j => if retOf R j = true then f.now j else f.saved j, true⟩
def FSt.restore (R : List Reg) (f : FSt) : FSt := ⟨fun j => if (f.kept && retOf R j) = true then f.saved j else resets R j, f.saved, f.kept⟩
def FSt.clear (R : List Reg) (f : FSt) : FSt := ⟨resets R, f.saved, false⟩
def FSt.deed (R : List Reg) (k : Int) (f : FSt) : FSt := if k = 115 then f.save R else if k = 114 then f.restore R else if k = 108 ∨ k = 110 then f.clear R else f
def deedF (S : Soc) (e : Int × Nat) (F : Nat → FSt) : Nat → FSt := fun i => match S.devs[i]? with
  | some d => if d.dom = (e.2 : Int) then (F i).deed d.regs e.1 else F i
  | none => F i
def deedTo (S : Soc) (e : Int × Nat) (F : Nat → FSt) (j : Nat) : Nat → FSt := fun i => if i < j then deedF S e F i else F i
def deedsF (S : Soc) (E : List (Int × Nat)) (G : Nat → FSt) : Nat → FSt := E.foldl (fun G e => deedF S e G) G
theorem deedTo_zero (S : Soc) (e : Int × Nat) (F : Nat → FSt) : deedTo S e F 0 = F := by funext i; simp [deedTo]
theorem deedF_at {S : Soc} {e : Int × Nat} {F : Nat → FSt} {i : Nat} (h : i < S.devs.length) : deedF S e F i = if S.devs[i].dom = (e.2 : Int) then (F i).deed S.devs[i].regs e.1 else F i := by
  rw [deedF, List.getElem?_eq_getElem h]
theorem deedTo_all (S : Soc) (e : Int × Nat) (F : Nat → FSt) : deedTo S e F S.devs.length = deedF S e F := by
  funext i
  unfold deedTo
  split
  · rfl
  · rw [deedF, List.getElem?_eq_none (by omega)]
theorem deedTo_succ {S : Soc} {e : Int × Nat} {F : Nat → FSt} {j : Nat} (h : j < S.devs.length) : deedTo S e F (j + 1) = if S.devs[j].dom = (e.2 : Int) then upF (deedTo S e F j) j ((deedTo S e F j j).deed S.devs[j].regs e.1) else deedTo S e F j := by
  have hj : deedTo S e F j j = F j := by simp [deedTo]
  funext i
  by_cases hi : i = j
  · subst hi
    rw [show deedTo S e F (i + 1) i = deedF S e F i by simp [deedTo], deedF_at h]
    split
    · rw [upF_at, hj]
    · exact hj.symm
  · have e1 : deedTo S e F (j + 1) i = deedTo S e F j i := by
      unfold deedTo
      by_cases h2 : i < j
      · rw [if_pos h2, if_pos (by omega)]
      · rw [if_neg h2, if_neg (by omega)]
    rw [e1]
    split
    · rw [upF_ne hi]
    · rfl
theorem deed_none {R : List Reg} {f : FSt} {k : Int} (h1 : k ≠ 115) (h2 : k ≠ 114) (h3 : ¬ (k = 108 ∨ k = 110)) : f.deed R k = f := by
  rw [FSt.deed, if_neg h1, if_neg h2, if_neg h3]
theorem deedF_none {S : Soc} {e : Int × Nat} {F : Nat → FSt} (h1 : e.1 ≠ 115) (h2 : e.1 ≠ 114) (h3 : ¬ (e.1 = 108 ∨ e.1 = 110)) : deedF S e F = F := by
  funext i
  unfold deedF
  split
  · split
    · exact deed_none h1 h2 h3
    · rfl
  · rfl
theorem L_hasBody_Save : hasBody Tryz.prog F.q104 = true := by kernel_rfl
theorem L_hasBody_Restore : hasBody Tryz.prog F.q102 = true := by kernel_rfl
theorem L_hasBody_Clear : hasBody Tryz.prog F.q98 = true := by kernel_rfl
def deedN (k : Int) : Option Nat := if k = 115 then some F.q104 else if k = 114 then some F.q102 else if k = 108 ∨ k = 110 then some F.q98 else none
theorem deed_spec (st : ASt) (k : Int) : ACalls Tryz.prog F.q87 [.int .u8 k] st fun r s => r = (match deedN k with | some g => .fn g [] | none => .nilf) ∧ s = st := by
  refine calls_of_awp L.q87 rfl ?_
  unfold deedN
  by_cases h1 : k = 115
  · simp only [↓Bp, Bq, Bs, ↓aop.eq_28, ↓aop.eq_30, simprocAttr, ↓C.q87_W, C.q87_B, C.q87, h1]
  by_cases h2 : k = 114
  · simp only [↓Bp, Bq, Bs, ↓aop.eq_28, ↓aop.eq_30, simprocAttr, ↓C.q87_W, C.q87_B, C.q87, h1, h2]
  by_cases h3 : k = 108
  · simp only [↓Bp, Bq, Bs, ↓aop.eq_28, ↓aop.eq_30, simprocAttr, ↓C.q87_W, C.q87_B, C.q87, h1, h2, h3, true_or]
  by_cases h4 : k = 110
  · simp only [↓Bp, Bq, Bs, ↓aop.eq_28, ↓aop.eq_30, simprocAttr, ↓C.q87_W, C.q87_B, C.q87, h1, h2, h3, h4, or_true]
  · simp only [↓Bp, Bq, Bs, ↓aop.eq_28, ↓aop.eq_30, simprocAttr, ↓C.q87_W, C.q87_B, C.q87, h1, h2, h3, h4, or_self]
section
variable {st s s' : ASt} {ib : Nat} {a : HA} {T : Nat → Nat} {S : Soc} {v : HV}
theorem deed_call {k : Int} {g : Nat} (hg : deedN k = some g) {st1 t : ASt} {w : HV} {i : Nat} (hi : i < S.devs.length) (h : HX st1 t ib a S w) :
    hasBody Tryz.prog g = true ∧ ACalls Tryz.prog g [.ptr (a.fp i) 0] t fun _ t' => HX st1 t' ib a S { w with F := upF w.F i ((w.F i).deed S.devs[i].regs k) } := by
  obtain ⟨T, h⟩ := h
  unfold deedN at hg
  unfold FSt.deed
  by_cases h1 : k = 115
  · rw [if_pos h1] at hg; cases hg
    rw [if_pos h1]
    refine ⟨L_hasBody_Save, (save_f (file_at h hi)).mono ?_⟩
    rintro r t' ⟨q1, q2⟩
    exact ⟨T, h.putFile hi q2 q1⟩
  rw [if_neg h1] at hg ⊢
  by_cases h2 : k = 114
  · rw [if_pos h2] at hg; cases hg
    rw [if_pos h2]
    refine ⟨L_hasBody_Restore, (restore_f (file_at h hi)).mono ?_⟩
    rintro r t' ⟨q1, q2⟩
    exact ⟨T, h.putFile hi q2 q1⟩
  rw [if_neg h2] at hg ⊢
  by_cases h3 : k = 108 ∨ k = 110
  · rw [if_pos h3] at hg; cases hg
    rw [if_pos h3]
    refine ⟨L_hasBody_Clear, (clear_f (file_at h hi)).mono ?_⟩
    rintro r t' ⟨q1, q2⟩
    exact ⟨T, h.putFile hi q2 q1⟩
  · rw [if_neg h3] at hg; cases hg
set_option maxHeartbeats 1000000 in
theorem tick_deed {st1 : ASt} {tv ev n75 n76 : AV} {w : HV} {k : Int} {d g i12 : Nat} {Q : IExit → AFr → ASt → Prop} (h : HX st1 s ib a S w) (hx : st1.h i12 = some (.cells [.int .u8 k, .int .i64 (d : Nat)])) (hd4 : S.devs.length ≤ 4) (hg : deedN k = some g)
    (hnext : ∀ t, HX st1 t ib a S { w with F := deedF S (k, d) w.F } → ∀ fr : AFr, fr.keep [0, 5, 74, 75, 76] = [(0, .ptr a.hp 0), (5, tv), (74, ev), (75, n75), (76, n76)] → Q .normal fr t) :
    awp Tryz.prog C.q81_c13 Q [(0, .ptr a.hp 0), (5, tv), (12, .ptr i12 0), (13, .fn g []), (74, ev), (75, n75), (76, n76)] s := by
  obtain ⟨T, h0⟩ := h
  simp only [↓Bp, Bq, Bs, ↓aop.eq_28, ↓aop.eq_30, simprocAttr, ↓C.q81_r27_w, C.q81_r27_b, ↓C.q81_c4_w, ↓C.q81_r26_w, C.q81_r26_b, ↓C.q81_c5_w, ↓C.q81_r25_w, C.q81_r25_b, ↓C.q81_c6_w, ↓C.q81_r24_w, C.q81_r24_b, ↓C.q81_b7_w, ↓C.q81_c8_w, ↓C.q81_c9_w, ↓C.q81_r23_w, C.q81_r23_b, ↓C.q81_b11_w, ↓C.q81_c12_w, ↓C.q81_r22_w, C.q81_r22_b, ↓C.q81_c13_w, h0.hh]
  refine awp_mono _ (Q := IExit.inBlock 6 (IExit.then (fun fr' t => ∃ _ : Unit, fr'.keep [0, 5, 74, 75, 76] = [(0, .ptr a.hp 0), (5, tv), (74, ev), (75, n75), (76, n76)] ∧ HX st1 t ib a S { w with F := deedF S (k, d) w.F }) (fun _ _ _ => False))) (fun e fr t x => ?_) ?_
  · cases e with
    | normal => obtain ⟨_, h1, h2⟩ := x; exact hnext t h2 fr h1
    | ret => exact x.elim
    | exit i =>
      by_cases e : i = 6
      · subst e
        simp only [IExit.inBlock, if_true] at x ⊢
        obtain ⟨_, h1, h2⟩ := x; exact hnext t h2 fr h1
      · simp only [IExit.inBlock, if_neg e] at x
        exact x.elim
  refine awp_loopK (fun j : Nat => [(0, .ptr a.hp 0), (5, tv), (12, .ptr i12 0), (13, .fn g []), (74, ev), (75, n75), (76, n76), (88, .sl 6 a.dv 0 S.devs.length), (89, .int .i64 S.devs.length), (90, .int .i64 j)]) (fun j t => j ≤ S.devs.length ∧ HX st1 t ib a S { w with F := deedTo S (k, d) w.F j }) (fun j => S.devs.length - j) 0 rfl ⟨Nat.zero_le _, T, by rw [deedTo_zero]; exact h0⟩ ?_
  clear h0 hnext
  rintro j t ⟨hj, h⟩
  by_cases hil : j < S.devs.length
  rotate_left
  · have hie : j = S.devs.length := by omega
    subst hie
    have hil' : ¬ ((S.devs.length : Nat) : Int) < (S.devs.length : Nat) := by omega
    simp only [↓Bp, Bq, Bs, ↓aop.eq_28, ↓aop.eq_30, simprocAttr, ↓C.q81_W, C.q81_B, C.q81, hil']
    rw [deedTo_all] at h
    exact ⟨(), h⟩
  have hil' : (j : Int) < (S.devs.length : Nat) := by omega
  have hw := wsucc hil (by omega)
  have hz : (0:Int) ≤ (j : Int) ∧ (j : Int) < (S.devs.length : Int) := by omega
  have hfit := devsC_fit (a := a) hil
  have hat := devsC_at (a := a) hil
  rw [devC_eq hil] at hat
  obtain ⟨T, h2⟩ := h
  simp only [↓Bp, Bq, Bs, ↓aop.eq_28, ↓aop.eq_30, simprocAttr, ↓C.q81_r27_w, C.q81_r27_b, ↓C.q81_c4_w, ↓C.q81_r24_w, C.q81_r24_b, ↓C.q81_b7_w, ↓C.q81_c8_w, ↓C.q81_c9_w, ↓C.q81_r23_w, C.q81_r23_b, hil', hz, h2.devs, Int.toNat_natCast, hfit, hat]
  intro ix hix
  simp only [↓Bp, Bq, Bs, ↓aop.eq_28, ↓aop.eq_30, simprocAttr, ↓C.q81_r27_w, C.q81_r27_b, ↓C.q81_c4_w, ↓C.q81_r24_w, C.q81_r24_b, ↓C.q81_b7_w, ↓C.q81_c8_w, ↓C.q81_c9_w, ↓C.q81_r23_w, C.q81_r23_b, hix, allLeaf, AV.leaf]
  rw [ASt.new_set hix]
  obtain ⟨h3, hxx, hle⟩ := HX.box ⟨T, h2⟩ hix (.cells [.int .i64 S.devs[j].clock, .int .i64 S.devs[j].dom, .int .i64 S.devs[j].rst, .int .u32 S.devs[j].clamp, .ptr (a.fp j) 0, .ptr (a.pp j) 0])
  have hx2 := hle _ _ hx
  generalize t.new ix (.cells [.int .i64 S.devs[j].clock, .int .i64 S.devs[j].dom, .int .i64 S.devs[j].rst, .int .u32 S.devs[j].clamp, .ptr (a.fp j) 0, .ptr (a.pp j) 0]) = u at h3
  generalize st1.new ix (.cells [.int .i64 S.devs[j].clock, .int .i64 S.devs[j].dom, .int .i64 S.devs[j].rst, .int .u32 S.devs[j].clamp, .ptr (a.fp j) 0, .ptr (a.pp j) 0]) = st2 at h3 hxx hle hx2
  have hxu := h3.le _ _ hxx
  have hx3 := h3.le _ _ hx2
  have hsucc := deedTo_succ (e := (k, d)) (F := w.F) hil
  by_cases hdm : S.devs[j].dom = (d : Int)
  · rw [if_pos hdm] at hsucc
    obtain ⟨hb, hc⟩ := deed_call hg hil h3
    simp only [↓Bp, Bq, Bs, ↓aop.eq_28, ↓aop.eq_30, simprocAttr, ↓C.q81_W, C.q81_B, C.q81, hxu, hx3, hdm, hb]
    refine hc.mono ?_
    rintro r t' h4
    simp only [↓Bp, Bq, Bs, ↓aop.eq_28, ↓aop.eq_30, simprocAttr, ↓C.q81_W, C.q81_B, C.q81, hw]
    refine ⟨j + 1, rfl, ⟨hil, ?_⟩, by omega⟩
    rw [hsucc]
    exact h4.less hle
  · rw [if_neg hdm] at hsucc
    simp only [↓Bp, Bq, Bs, ↓aop.eq_28, ↓aop.eq_30, simprocAttr, ↓C.q81_W, C.q81_B, C.q81, hxu, hx3, hdm, hw]
    refine ⟨j + 1, rfl, ⟨hil, ?_⟩, by omega⟩
    rw [hsucc]
    exact h3.less hle
end
end Go.Proofs.YtdmfgodajoojpaaGreat.Cn
/- The chip: a tick, whole. -/
set_option linter.unusedSimpArgs false
set_option linter.unusedVariables false
set_option maxRecDepth 100000
namespace Go.Proofs.YtdmfgodajoojpaaGreat.Cn
open Go Go.Proofs

def HV.rest (w : HV) (S : Soc) : HV := { w with ns := ctickL w.ns, gs := gtickL w.gs, F := deedsF S (evs w.gs) w.F, ls := tickL w.ls }
theorem deedN_none {k : Int} (h : deedN k = none) : k ≠ 115 ∧ k ≠ 114 ∧ ¬ (k = 108 ∨ k = 110) := by
  unfold deedN at h
  refine ⟨fun e => ?_, fun e => ?_, fun e => ?_⟩
  · rw [if_pos e] at h; cases h
  · by_cases h1 : k = 115
    · rw [if_pos h1] at h; cases h
    · rw [if_neg h1, if_pos e] at h; cases h
  · by_cases h1 : k = 115
    · rw [if_pos h1] at h; cases h
    · by_cases h2 : k = 114
      · rw [if_neg h1, if_pos h2] at h; cases h
      · rw [if_neg h1, if_neg h2, if_pos e] at h; cases h
section
variable {st s s' : ASt} {ib : Nat} {a : HA} {T : Nat → Nat} {S : Soc} {v : HV}
set_option maxHeartbeats 1000000 in
theorem tick_rest {st1 : ASt} {tv : AV} {l : List Ans} {w : HV} (hO : Over st st1 4 tv l.length (l.flatMap Ans.cells)) (h : HX st1 s ib a S w) (hd4 : S.devs.length ≤ 4) (hr : S.rsts.length ≤ 1000) :
    awp Tryz.prog C.q81_c24 (Post [.slot 4] (TickQ st ib a S (w.rest S) l)) [(0, .ptr a.hp 0), (5, tv)] s := by
  obtain ⟨T, h0⟩ := h
  have hgl : w.gs.length ≤ 1000 := h0.c.grid.few
  have hnl := h0.c.linv.len
  simp only [↓Bp, Bq, Bs, ↓aop.eq_28, ↓aop.eq_30, simprocAttr, ↓C.q81_r16_w, C.q81_r16_b, ↓C.q81_c24_w, h0.hh]
  refine (ctick_spec h0.c.tree h0.c.kof.ok).mono ?_
  rintro r u1 rfl
  have h1 := h0.putTree h0.c.kof.tick
  generalize s.set a.tg (nsC (ctickL w.ns)) = u1 at h1
  simp only [↓Bp, Bq, Bs, ↓aop.eq_28, ↓aop.eq_30, simprocAttr, ↓C.q81_r30_w, C.q81_r30_b, ↓C.q81_c1_w, ↓C.q81_r29_w, C.q81_r29_b, ↓C.q81_c2_w, ↓C.q81_r17_w, C.q81_r17_b, ↓C.q81_c23_w, ↓C.q81_r16_w, C.q81_r16_b, ↓C.q81_c24_w, h1.hh]
  refine (gtick_spec h1.c.grid h1.c.ginv.low).mono ?_
  rintro r u2 ⟨rfl, rfl⟩
  have h2 := h1.putGrid h1.c.ginv.tick
  simp only at h2 ⊢
  generalize u1.set a.gg (gsC (gtickL w.gs)) = u2 at h2
  obtain ⟨E, hE⟩ : ∃ E, E = evs w.gs := ⟨_, rfl⟩
  have hEl : E.length ≤ 1000 := by rw [hE]; have := evTo_len w.gs w.gs.length; unfold evs; omega
  rw [← hE]
  have e1 : evsV E = .isl 2 (E.flatMap encEv) E.length := rfl
  simp only [↓Bp, Bq, Bs, ↓aop.eq_28, ↓aop.eq_30, simprocAttr, ↓C.q81_r30_w, C.q81_r30_b, ↓C.q81_c1_w, ↓C.q81_r29_w, C.q81_r29_b, ↓C.q81_c2_w, ↓C.q81_b21_w, ↓C.q81_c22_w, ↓C.q81_r17_w, C.q81_r17_b, ↓C.q81_c23_w, e1]
  refine awp_midB (fun _ : Unit => [(0, .ptr a.hp 0), (5, tv)]) (fun _ t => HX st1 t ib a S { w with ns := ctickL w.ns, gs := gtickL w.gs, F := deedsF S E w.F }) ?_ ?_
  rotate_left
  · rintro - t ⟨T2, h3⟩
    simp only [↓Bp, Bq, Bs, ↓aop.eq_28, ↓aop.eq_30, simprocAttr, ↓C.q81_W, C.q81_B, C.q81, h3.hh]
    have hlen : (w.ls.length : Nat) ≤ 1000 := by have := h3.c.linv.len; simp only at this ⊢; omega
    refine (tick_spec h3.c.lines (fun x hx => by have := h3.c.linv.left x hx; omega) hlen).mono ?_
    rintro r u3 ⟨rfl, rfl⟩
    simp only [↓Bp, Bq, Bs, ↓aop.eq_28, ↓aop.eq_30, simprocAttr, ↓C.q81_W, C.q81_B, C.q81]
    have h4 := h3.putLines h3.c.linv.tick
    exact ⟨st1, hO, T2, by rw [HV.rest, ← hE]; exact h4⟩
  refine awp_loopK (fun e : Nat => [(0, .ptr a.hp 0), (5, tv), (74, .isl 2 (E.flatMap encEv) E.length), (75, .int .i64 E.length), (76, .int .i64 e)]) (fun e t => e ≤ E.length ∧ HX st1 t ib a S { w with ns := ctickL w.ns, gs := gtickL w.gs, F := deedsF S (E.take e) w.F }) (fun e => E.length - e) 0 rfl ⟨Nat.zero_le _, T, by simpa [deedsF] using h2⟩ ?_
  clear h2 h1 h0
  rintro e t ⟨he, h⟩
  by_cases hil : e < E.length
  rotate_left
  · have hie : e = E.length := by omega
    subst hie
    have hil' : ¬ ((E.length : Nat) : Int) < (E.length : Nat) := by omega
    simp only [↓Bp, Bq, Bs, ↓aop.eq_28, ↓aop.eq_30, simprocAttr, ↓C.q81_W, C.q81_B, C.q81, hil']
    rw [List.take_length] at h
    exact ⟨(), h⟩
  have hil' : (e : Int) < (E.length : Nat) := by omega
  have hw := wsucc hil (by omega)
  have hz : (0:Int) ≤ (e : Int) ∧ (e : Int) < (E.length : Int) := by omega
  have hfit := flatMap_fits (f := encEv) (k := 2) (fun _ => rfl) (l := E) hil
  have hat := flatMap_at (f := encEv) (k := 2) (fun _ => rfl) (l := E) hil
  obtain ⟨kd, hkd⟩ : ∃ kd, kd = E[e] := ⟨_, rfl⟩
  rw [← hkd] at hat
  obtain ⟨k, d⟩ := kd
  rw [encEv] at hat
  simp only at hat
  have hsucc : deedsF S (E.take (e + 1)) w.F = deedF S (k, d) (deedsF S (E.take e) w.F) := by
    rw [List.take_succ_eq_append_getElem hil, deedsF, List.foldl_append, ← hkd]; rfl
  obtain ⟨T, h2⟩ := h
  simp only [↓Bp, Bq, Bs, ↓aop.eq_28, ↓aop.eq_30, simprocAttr, ↓C.q81_r28_w, C.q81_r28_b, ↓C.q81_c3_w, ↓C.q81_r19_w, C.q81_r19_b, ↓C.q81_b17_w, ↓C.q81_c18_w, ↓C.q81_c19_w, ↓C.q81_r18_w, C.q81_r18_b, hil', hz, Int.toNat_natCast, hfit, hat]
  intro ix hix
  simp only [↓Bp, Bq, Bs, ↓aop.eq_28, ↓aop.eq_30, simprocAttr, ↓C.q81_r28_w, C.q81_r28_b, ↓C.q81_c3_w, ↓C.q81_r19_w, C.q81_r19_b, ↓C.q81_b17_w, ↓C.q81_c18_w, ↓C.q81_c19_w, ↓C.q81_r18_w, C.q81_r18_b, hix, allLeaf, AV.leaf]
  rw [ASt.new_set hix]
  obtain ⟨h3, hxx, hle⟩ := HX.box ⟨T, h2⟩ hix (.cells [.int .u8 k, .int .i64 (d : Nat)])
  generalize t.new ix (.cells [.int .u8 k, .int .i64 (d : Nat)]) = u at h3
  generalize st1.new ix (.cells [.int .u8 k, .int .i64 (d : Nat)]) = st2 at h3 hxx hle
  have hxu := h3.le _ _ hxx
  simp only [↓Bp, Bq, Bs, ↓aop.eq_28, ↓aop.eq_30, simprocAttr, ↓C.q81_c14_w, ↓C.q81_r21_w, C.q81_r21_b, ↓C.q81_c15_w, ↓C.q81_r20_w, C.q81_r20_b, ↓C.q81_c16_w, hxu]
  refine (deed_spec u k).mono ?_
  rintro r u3 ⟨rfl, rfl⟩
  cases hg : deedN k with
  | none =>
    obtain ⟨n1, n2, n3⟩ := deedN_none hg
    simp only [↓Bp, Bq, Bs, ↓aop.eq_28, ↓aop.eq_30, simprocAttr, ↓C.q81_c14_w, ↓C.q81_r21_w, C.q81_r21_b, ↓C.q81_c15_w, ↓C.q81_r20_w, C.q81_r20_b, ↓C.q81_c16_w, hw]
    rw [C.q81_c3_w, awp_keep]
    simp only [↓Bp, Bq, Bs, ↓aop.eq_28, ↓aop.eq_30, simprocAttr, ↓C.q81_r28_w, C.q81_r28_b, ↓C.q81_c3_w, hw]
    refine ⟨e + 1, rfl, ⟨hil, ?_⟩, by omega⟩
    rw [hsucc, deedF_none n1 n2 n3]
    exact h3.less hle
  | some g =>
    simp only [↓Bp, Bq, Bs, ↓aop.eq_28, ↓aop.eq_30, simprocAttr, ↓C.q81_c14_w, ↓C.q81_r21_w, C.q81_r21_b, ↓C.q81_c15_w, ↓C.q81_r20_w, C.q81_r20_b, ↓C.q81_c16_w]
    refine tick_deed h3 hxx hd4 hg fun t' h4 fr hfr => ?_
    simp only [↓Bp, Bq, Bs, ↓aop.eq_28, ↓aop.eq_30, simprocAttr]
    rw [C.q81_c3_w, awp_keep, hfr]
    simp only [↓Bp, Bq, Bs, ↓aop.eq_28, ↓aop.eq_30, simprocAttr, ↓C.q81_r28_w, C.q81_r28_b, ↓C.q81_c3_w, hw]
    refine ⟨e + 1, rfl, ⟨hil, ?_⟩, by omega⟩
    rw [hsucc]
    exact h4.less hle
def HV.tick (v : HV) (S : Soc) (deny : Int) : HV := ((v.ansV S S.devs.length).portV deny S.devs.length).rest S
def ansL (l : List Ans) : AV := .isl 4 (l.flatMap Ans.cells) l.length
set_option maxHeartbeats 1000000 in
theorem htick0 (h : HX st s ib a S v) (hQ : QOk S v.Q) (hd4 : S.devs.length ≤ 4) (hr : S.rsts.length ≤ 1000) (deny : Int) :
    ACalls Tryz.prog F.q81 [.ptr a.hp 0, .int .u32 deny] s (TickQ st ib a S (v.tick S deny) (v.told S S.devs.length)) := by
  refine calls_of_awp L.q81 rfl ?_
  obtain ⟨T, h0⟩ := h
  simp only [↓Bp, Bq, Bs, ↓aop.eq_28, ↓aop.eq_30, simprocAttr, ↓C.q81_W, C.q81_B, C.q81]
  refine (hmade h0).mono ?_
  rintro r u ⟨rfl, rfl⟩
  simp only [↓Bp, Bq, Bs, ↓aop.eq_28, ↓aop.eq_30, simprocAttr, ↓C.q81_r10_w, C.q81_r10_b, ↓C.q81_c34_w, ↓C.q81_r9_w, C.q81_r9_b, ↓C.q81_c35_w, ↓C.q81_r8_w, C.q81_r8_b, ↓C.q81_c36_w, ↓C.q81_r7_w, C.q81_r7_b, ↓C.q81_c37_w, ↓C.q81_r6_w, C.q81_r6_b, ↓C.q81_b38_w, ↓C.q81_c39_w, ↓C.q81_c40_w, ↓C.q81_r5_w, C.q81_r5_b, ↓C.q81_b42_w, ↓C.q81_c43_w, ↓C.q81_r4_w, C.q81_r4_b, ↓C.q81_c44_w, ↓C.q81_r3_w, C.q81_r3_b, ↓C.q81_c45_w, ↓C.q81_r2_w, C.q81_r2_b, ↓C.q81_c46_w, ↓C.q81_c47_w, ↓C.q81_r1_w, C.q81_r1_b, ↓C.q81_c48_w, ↓C.q81_r0_w, C.q81_r0_b, C.q81, h0.hh]
  refine awp_midB (fun tv : AV => [(0, .ptr a.hp 0), (1, .int .u32 deny), (5, tv)]) (fun tv t => ∃ st1, Over st st1 4 tv (v.told S S.devs.length).length ((v.told S S.devs.length).flatMap Ans.cells) ∧ HX st1 t ib a S (v.ansV S S.devs.length)) ?_ ?_
  rotate_left
  · rintro tv t ⟨st1, hO, h1⟩
    have := tick_ports (deny := deny) (vf := v.tick S deny) hO h1 hd4 fun t h2 => tick_rest hO h2 hd4 hr
    rw [C.q81_c33_w, awp_keep] at this
    exact this
  refine awp_loopK (fun p : Nat × AV => [(0, .ptr a.hp 0), (1, .int .u32 deny), (5, p.2), (23, .int .i64 S.devs.length), (24, .int .i64 p.1)]) (fun p t => p.1 ≤ S.devs.length ∧ ∃ st1, Over st st1 4 p.2 (v.told S p.1).length ((v.told S p.1).flatMap Ans.cells) ∧ HX st1 t ib a S (v.ansV S p.1)) (fun p => S.devs.length - p.1) (0, .nils) rfl ⟨Nat.zero_le _, st, Over.nils (ASt.le.refl _) 4, T, by simp only [ansV_zero]; exact h0⟩ ?_
  clear h0
  rintro ⟨i, tv⟩ t ⟨hi, st1, hO, h⟩
  simp only at hi hO h
  by_cases hil : i < S.devs.length
  rotate_left
  · have hie : i = S.devs.length := by omega
    subst hie
    have hil' : ¬ ((S.devs.length : Nat) : Int) < (S.devs.length : Nat) := by omega
    simp only [↓Bp, Bq, Bs, ↓aop.eq_28, ↓aop.eq_30, simprocAttr, ↓C.q81_W, C.q81_B, C.q81, hil']
    exact ⟨tv, rfl, st1, hO, h⟩
  have hil' : (i : Int) < (S.devs.length : Nat) := by omega
  have hw := wsucc hil (by omega)
  have hsucc := told_succ v S i
  have hans := ansV_ansOf v S i
  have hnext := ansV_succ v S i
  simp only [↓Bp, Bq, Bs, ↓aop.eq_28, ↓aop.eq_30, simprocAttr, ↓C.q81_r10_w, C.q81_r10_b, ↓C.q81_c34_w, ↓C.q81_r6_w, C.q81_r6_b, ↓C.q81_b38_w, ↓C.q81_c39_w, ↓C.q81_c40_w, ↓C.q81_r5_w, C.q81_r5_b, hil']
  rw [C.q81_c37_w, awp_keep]
  simp only [↓Bp, Bq, Bs, ↓aop.eq_28, ↓aop.eq_30, simprocAttr, ↓C.q81_r7_w, C.q81_r7_b, ↓C.q81_c37_w]
  refine (hanswer h (hQ.ansV i) hil).mono ?_
  rintro r u2 ⟨hrr, h2⟩
  rw [hans] at hrr
  rw [hnext] at h2
  cases hx : v.ansOf S i with
  | none =>
    rw [hx] at hrr hsucc
    simp only at hrr
    subst hrr
    rw [Option.toList_none, List.append_nil] at hsucc
    simp only [↓Bp, Bq, Bs, ↓aop.eq_28, ↓aop.eq_30, simprocAttr, ↓C.q81_r7_w, C.q81_r7_b, ↓C.q81_c37_w]
    intro ix hix
    simp only [↓Bp, Bq, Bs, ↓aop.eq_28, ↓aop.eq_30, simprocAttr, ↓C.q81_W, C.q81_B, C.q81, hix, hw]
    rw [ASt.new_set hix]
    exact ⟨rfl, (i + 1, tv), rfl, ⟨hil, st1, by rw [hsucc]; exact hO, h2.step (ASt.le.new _ _ _)⟩, by simp only; omega⟩
  | some x =>
    rw [hx] at hrr hsucc
    simp only at hrr
    subst hrr
    have hxl : x.cells.length = 4 := rfl
    have hxf : allLeaf x.cells = true := rfl
    simp only [↓Bp, Bq, Bs, ↓aop.eq_28, ↓aop.eq_30, simprocAttr, ↓C.q81_r7_w, C.q81_r7_b, ↓C.q81_c37_w]
    intro ix hix
    simp only [↓Bp, Bq, Bs, ↓aop.eq_28, ↓aop.eq_30, simprocAttr, ↓C.q81_r7_w, C.q81_r7_b, ↓C.q81_c37_w, hix, hxl, hxf]
    rw [ASt.new_set hix, putN_all (zs := [AV.int .i64 0, AV.int .i64 0, AV.bool false, AV.int .u32 0]) (vs := x.cells) rfl]
    obtain ⟨h3, hx3, hle⟩ := h2.box hix (.cells x.cells)
    have hO3 : Over st (st1.new ix (.cells x.cells)) 4 tv (v.told S i).length ((v.told S i).flatMap Ans.cells) :=
      ⟨⟨hO.1.1, hO.1.2.imp (fun x => x) fun ⟨j, e, hj⟩ => ⟨j, e, hle _ _ hj⟩⟩, hO.2.1.trans hle, hO.2.2⟩
    have hxu := h3.le _ _ hx3
    generalize u2.new ix (.cells x.cells) = u3 at h3 hxu
    generalize st1.new ix (.cells x.cells) = st2 at h3 hO3
    have e4 : AV.agg (List.take 4 x.cells) = .agg x.cells := rfl
    have htl := told_len v S i
    simp only [↓Bp, Bq, Bs, simprocAttr, ↓C.q81_W, C.q81_B, C.q81, hxu, hxl, e4]
    refine aop_append_hx h3 hO3 (by omega) (aput_one rfl rfl) rfl rfl (fun _ => rfl) (fun _ => rfl) fun v1 v2 st3 t2 h5 hO5 => ?_
    simp only [↓Bp, Bq, Bs, ↓aop.eq_28, ↓aop.eq_30, simprocAttr, ↓C.q81_W, C.q81_B, C.q81, hw]
    refine ⟨(i + 1, v2), rfl, ⟨hil, st3, ?_, h5⟩, by simp only; omega⟩
    simp only
    rw [hsucc, List.length_append, List.flatMap_append]
    simpa using hO5
theorem HX.frzT {l : List Ans} {r : AV} {t : ASt} {vf : HV} (h : TickQ st ib a S vf l r t) : ∃ t', Ghost r t (ansL l) t' ∧ HX st t' ib a S vf := by
  obtain ⟨st1, hO, h⟩ := h
  obtain ⟨⟨h1, h2⟩, h3, h4⟩ := hO
  rcases h2 with ⟨e0, rfl⟩ | ⟨i, rfl, hi⟩
  · have : l = [] := List.eq_nil_of_length_eq_zero e0
    subst this
    exact ⟨t, Ghost.nils 4, h.less h3⟩
  · refine ⟨t.kill i, Ghost.freeze (h.le _ _ hi), (h.kill (by rw [hi]; simp)).less fun j o hj => ?_⟩
    rw [ASt.kill_h, if_neg (by rintro rfl; rw [h4 _ _ _ _ rfl] at hj; cases hj)]
    exact h3 _ _ hj
theorem htick (h : HX st s ib a S v) (hQ : QOk S v.Q) (hd4 : S.devs.length ≤ 4) (hr : S.rsts.length ≤ 1000) (deny : Int) :
    ACalls Tryz.prog F.q81 [.ptr a.hp 0, .int .u32 deny] s fun r s' => r = ansL (v.told S S.devs.length) ∧ HX st s' ib a S (v.tick S deny) :=
  (htick0 h hQ hd4 hr deny).ghost fun r s' hq => by
    obtain ⟨t', g, h'⟩ := HX.frzT hq
    exact ⟨_, _, g, rfl, h'⟩
end
end Go.Proofs.YtdmfgodajoojpaaGreat.Cn
/- The chip: a new bus. -/
set_option linter.unusedSimpArgs false
set_option linter.unusedVariables false
set_option maxRecDepth 100000
namespace Go.Proofs.YtdmfgodajoojpaaGreat.Cn
open Go Go.Proofs

def firstZ (l : List Int) (i : Nat) : List Int := l.take i ++ List.replicate (l.length - i) 0
theorem firstZ_len {l : List Int} {i : Nat} (h : i ≤ l.length) : (firstZ l i).length = l.length := by simp [firstZ]; omega
theorem firstZ_zero (l : List Int) : firstZ l 0 = List.replicate l.length 0 := by simp [firstZ]
theorem firstZ_all (l : List Int) : firstZ l l.length = l := by simp [firstZ]
theorem firstZ_set {l : List Int} {i : Nat} (h : i < l.length) : (firstZ l i).set i l[i] = firstZ l (i + 1) := by
  unfold firstZ
  rw [List.set_append_right _ _ (by simp; omega)]
  have e : i - (l.take i).length = 0 := by simp; omega
  rw [e, List.take_succ_eq_append_getElem h, show l.length - i = (l.length - (i + 1)) + 1 by omega, List.replicate_succ, List.set_cons_zero, List.append_assoc]
  rfl
structure NewBus (st s : ASt) (l : List Int) (bp br bw : Nat) : Prop where
  hp : s.h bp = some (.cells [.sl 1 br 0 l.length, .sl 1 bw 0 l.length, .int .i64 0])
  hr : s.h br = some (.cells (ints l))
  hw : s.h bw = some (.cells (List.replicate l.length .nils))
  fp : st.h bp = none
  fr : st.h br = none
  fw : st.h bw = none
  n1 : bp ≠ br
  n2 : bp ≠ bw
  n3 : br ≠ bw
  le : st.le s
theorem bnew_spec {st : ASt} {mm : Nat} {l : List Int} (hm : st.h mm = some (.cells (ints l))) (hn : l.length ≤ 6) (hl : ∀ x ∈ l, 0 ≤ x ∧ x ≤ 8) :
    ACalls Tryz.prog F.q3 [.sl 1 mm 0 l.length] st fun r s => ∃ bp br bw, r = .tup [.ptr bp 0, .int .i64 0] ∧ NewBus st s l bp br bw := by
  refine calls_of_awp L.q3 rfl ?_
  have h6 : ¬ (6 : Int) < ((l.length : Nat) : Int) := by omega
  have hz : (0 : Int) ≤ ((l.length : Nat) : Int) ∧ ((l.length : Nat) : Int) ≤ 4294967296 := by omega
  simp only [↓Bp, Bq, Bs, ↓aop.eq_28, ↓aop.eq_30, simprocAttr, ↓C.q3_r3_w, C.q3_r3_b, ↓C.q3_c14_w, ↓C.q3_r2_w, C.q3_r2_b, ↓C.q3_c15_w, ↓C.q3_c16_w, ↓C.q3_r1_w, C.q3_r1_b, ↓C.q3_c17_w, ↓C.q3_r0_w, C.q3_r0_b, C.q3, h6, hz, Int.toNat_natCast, zeros_i64, zeros_nils, gt_iff_lt]
  rintro br hbr bw ⟨hbw, n3⟩ bp ⟨⟨hbp, n2⟩, n1⟩
  have m1 : ¬ mm = br := by rintro rfl; rw [hm] at hbr; cases hbr
  have h2' : (st.new br (.cells (ints (List.replicate l.length 0)))).h bw = none := by rw [ASt.new_none]; exact ⟨hbw, n3⟩
  have h3' : ((st.new br (.cells (ints (List.replicate l.length 0)))).new bw (.cells (List.replicate l.length .nils))).h bp = none := by rw [ASt.new_none, ASt.new_none]; exact ⟨⟨hbp, n2⟩, n1⟩
  have hle := ((ASt.le.new st br (.cells (ints (List.replicate l.length 0)))).trans (ASt.le.new _ bw (.cells (List.replicate l.length .nils)))).trans (ASt.le.new _ bp (.cells [.sl 1 br 0 l.length, .sl 1 bw 0 l.length, .int .i64 0]))
  have hp0 := ASt.new_self (.cells [.sl 1 br 0 l.length, .sl 1 bw 0 l.length, .int .i64 0]) h3'
  have hw0 := ASt.new_old (id := bp) (o := .cells [.sl 1 br 0 l.length, .sl 1 bw 0 l.length, .int .i64 0]) (ASt.new_self (.cells (List.replicate l.length .nils)) h2')
  have hr0 := ASt.new_old (id := bp) (o := .cells [.sl 1 br 0 l.length, .sl 1 bw 0 l.length, .int .i64 0]) (ASt.new_old (id := bw) (o := .cells (List.replicate l.length .nils)) (ASt.new_self (.cells (ints (List.replicate l.length 0))) hbr))
  have hm0 := hle _ _ hm
  generalize ((st.new br (.cells (ints (List.replicate l.length 0)))).new bw (.cells (List.replicate l.length .nils))).new bp (.cells [.sl 1 br 0 l.length, .sl 1 bw 0 l.length, .int .i64 0]) = s0 at hle hp0 hw0 hr0 hm0
  simp only [↓Bp, Bq, Bs, ↓aop.eq_28, ↓aop.eq_30, simprocAttr, ↓C.q3_r10_w, C.q3_r10_b, ↓C.q3_c2_w, ↓C.q3_r9_w, C.q3_r9_b, ↓C.q3_c3_w, ↓C.q3_r8_w, C.q3_r8_b, ↓C.q3_c4_w, ↓C.q3_c5_w, ↓C.q3_r7_w, C.q3_r7_b, ↓C.q3_c6_w, ↓C.q3_r6_w, C.q3_r6_b, ↓C.q3_b7_w, ↓C.q3_c8_w, ↓C.q3_c9_w, ↓C.q3_r5_w, C.q3_r5_b, ↓C.q3_b11_w, ↓C.q3_c12_w, ↓C.q3_r4_w, C.q3_r4_b, ↓C.q3_c13_w, ↓C.q3_r3_w, C.q3_r3_b, ↓C.q3_c14_w, ↓C.q3_r2_w, C.q3_r2_b, ↓C.q3_c15_w, ↓C.q3_c16_w, ↓C.q3_r1_w, C.q3_r1_b, ↓C.q3_c17_w, ↓C.q3_r0_w, C.q3_r0_b, C.q3]
  have q1 : ¬ bp = br := n2
  have q2 : ¬ bw = br := n3
  refine awp_midB (fun _ : Unit => [(4, .ptr bp 0)]) (fun _ t => NewBus st t l bp br bw) ?_ ?_
  rotate_left
  · rintro - t ht
    simp only [↓Bp, Bq, Bs, ↓aop.eq_28, ↓aop.eq_30, simprocAttr, ↓C.q3_W, C.q3_B, C.q3]
    exact ⟨bp, br, bw, rfl, ht⟩
  refine awp_loopK (fun i : Nat => [(4, .ptr bp 0), (18, .sl 1 mm 0 l.length), (19, .int .i64 l.length), (20, .int .i64 i)]) (fun i t => i ≤ l.length ∧ st.le t ∧ t.h mm = some (.cells (ints l)) ∧ t.h bp = some (.cells [.sl 1 br 0 l.length, .sl 1 bw 0 l.length, .int .i64 0]) ∧ t.h br = some (.cells (ints (firstZ l i))) ∧ t.h bw = some (.cells (List.replicate l.length .nils))) (fun i => l.length - i) 0 rfl ⟨Nat.zero_le _, hle, hm0, hp0, by rw [firstZ_zero]; exact hr0, hw0⟩ ?_
  clear hle hm0 hp0 hr0 hw0
  rintro i t ⟨hi, hle, hm0, hp0, hr0, hw0⟩
  by_cases hil : i < l.length
  rotate_left
  · have hie : i = l.length := by omega
    have hil' : ¬ (i : Int) < ((l.length : Nat) : Int) := by omega
    rw [hie, firstZ_all] at hr0
    simp only [↓Bp, Bq, Bs, ↓aop.eq_28, ↓aop.eq_30, simprocAttr, ↓C.q3_W, C.q3_B, C.q3, hil']
    exact ⟨(), hp0, hr0, hw0, hbp, hbr, hbw, q1, n1, Ne.symm q2, hle⟩
  have hil' : (i : Int) < ((l.length : Nat) : Int) := by omega
  have hw := wsucc hil (by omega)
  have hzi : (0:Int) ≤ (i : Int) ∧ (i : Int) < ((l.length : Nat) : Int) := by omega
  have hlb := hl _ (List.getElem_mem hil)
  have h0 : ¬ l[i] < 0 := by omega
  have h8 : ¬ 8 < l[i] := by omega
  have hg := ints_get hil
  have hfl : i < (ints (firstZ l i)).length := by rw [ints_length, firstZ_len hi]; exact hil
  simp only [↓Bp, Bq, Bs, ↓aop.eq_28, ↓aop.eq_30, simprocAttr, ↓C.q3_W, C.q3_B, C.q3, hil', hzi, Int.toNat_natCast, Nat.mul_one, hm0, hg, h0, h8, hp0, hr0, hfl, ints_set, firstZ_set hil, hw, gt_iff_lt]
  refine ⟨i + 1, rfl, ⟨hil, fun j o hj => ?_, ?_, ?_, ?_, ?_⟩, by omega⟩
  · rw [ASt.set_h, if_neg (by rintro rfl; rw [hbr] at hj; cases hj)]; exact hle _ _ hj
  · rw [if_neg m1]
  · rw [if_neg q1]
  · trivial
  · rw [if_neg q2]; exact hw0
end Go.Proofs.YtdmfgodajoojpaaGreat.Cn
/- The chip: how it is put together. -/
set_option linter.unusedSimpArgs false
set_option linter.unusedVariables false
set_option maxRecDepth 100000
namespace Go.Proofs.YtdmfgodajoojpaaGreat.Cn
open Go Go.Proofs

structure Rides (R : ASt → ASt → Prop) : Prop where
  le : ∀ {st s}, R st s → st.le s
  kill : ∀ {st s i}, R st s → st.h i ≠ none → R (st.kill i) (s.kill i)
  loc : ∀ {st s i}, R st s → s.h i = none → ∀ o, R (st.new i o) (s.new i o)
  step : ∀ {st s s'}, R st s → s.le s' → R st s'
theorem aop_append_rides {R : ASt → ASt → Prop} (hR : Rides R) {P : Program} {sz b : Nat} {zs : List AV} {parts : List (Nat × Nat × IArg)} {x y : IArg} {fr : AFr} {st st1 t : ASt} {F : AV → AFr} {K : AV → AV → ASt → Prop} {tv : AV} {n : Nat} {cs new : List AV}
    (h : R st1 t) (hown : Over st st1 sz tv n cs) (hn : n + 1 ≤ 4294967296) (hnew : aput (zeros zs 1) (parts.map fun p => (p.1, p.2.1, fr.val p.2.2)) = .some new) (hlen : new.length = sz) (hleaf : allLeaf new = true)
    (hx : ∀ v1, (F v1).val x = tv) (hy : ∀ v1, (F v1).val y = v1)
    (hk : ∀ v1 v2 st2 t2, R st2 t2 → Over st st2 sz v2 (n + 1) (cs ++ new) → (∀ j o, st1.h j = some o → (∀ sz i off n, tv = .sl sz i off n → j ≠ i) → st2.h j = some o) → K v1 v2 t2) :
    aop P (.buildSlice sz 1 zs parts) fr t (fun v1 st1 => aop P (.append sz b x y) (F v1) st1 (K v1)) := by
  have hs : Shows t sz tv n cs := by
    obtain ⟨h1, h2⟩ := hown.1
    refine ⟨h1, h2.imp (fun x => x) fun ⟨i, e, hi⟩ => ⟨i, e, hR.le h _ _ hi⟩⟩
  refine aop_append_one hs hn hnew hlen hleaf hx hy fun v1 i2 t2 h1 h2 h3 => ?_
  have hkill : R (st1.without tv) (t.without tv) := by
    rcases hown.1.2 with ⟨_, rfl⟩ | ⟨i, rfl, hi⟩
    · exact h
    · exact hR.kill h (by rw [hi]; simp)
  have hle := hown.2.1.without hown.2.2
  have hf : (st1.without tv).h i2 = none := fresh_of_le (hR.le hkill) h1
  have hfs : st.h i2 = none := fresh_of_le hle hf
  obtain ⟨q1, q2⟩ := h3
  rcases q2 with ⟨q2, _⟩ | ⟨i, q2, q3⟩
  · omega
  cases q2
  refine hk v1 _ ((st1.without tv).new i2 (.cells (cs ++ new))) t2 (hR.step (hR.loc hkill h1 (.cells (cs ++ new))) fun j o hj => ?_) ⟨⟨q1, .inr ⟨i2, rfl, ASt.new_self _ hf⟩⟩, hle.trans (ASt.le.new _ _ _), fun sz i off n e => ?_⟩ fun j o hj hn => ASt.new_old ?_
  · by_cases e : j = i2
    · subst e; rw [ASt.new_self _ h1] at hj; rw [q3]; exact hj
    · rw [ASt.new_ne _ e] at hj; exact h2 _ _ hj
  · cases e; exact hfs
  · rcases hown.1.2 with ⟨_, rfl⟩ | ⟨i, rfl, hi⟩
    · exact hj
    · show (st1.kill i).h j = _
      rw [ASt.kill_h, if_neg (hn _ _ _ _ rfl)]; exact hj
section
variable {st st1 s s' : ASt} {ib m : Nat} {a : HA} {T : Nat → Nat} {S : Soc} {v : HV}
theorem HC.base0 (h : HC st s ib a T S v m) (hk : Keeps T 0 s s') (hl : st1.le s') (h0 : ∀ j, st1.h j ≠ none → T j = 0) : HC st1 s' ib a T S v m where
  le := hl
  tag0 := h0
  hb := hk.at_ h.hb h.Tb (by omega)
  Tb := h.Tb
  tree := h.tree.kept h.Tt hk (by omega)
  Tt := h.Tt
  grid := h.grid.kept h.Tg hk (by omega)
  Tg := h.Tg
  lines := h.lines.kept h.Tl hk (by omega)
  Tl := h.Tl
  files := fun i hi hm => ⟨(h.files i hi hm).1.kept (h.files i hi hm).2 hk (by omega), (h.files i hi hm).2⟩
  ports := fun i hm => ⟨hk.at_ (h.ports i hm).1 (h.ports i hm).2.1 (by omega), (h.ports i hm).2⟩
  kof := h.kof
  ginv := h.ginv
  linv := h.linv
theorem HC.step (h : HC st s ib a T S v m) (hl : s.le s') : HC st s' ib a T S v m := h.keep (k := 1) (Keeps.of_le hl) (.inl rfl)
theorem HC.move (h : HC st s ib a T S v m) {T' : Nat → Nat} (hT : ∀ j, s.h j ≠ none → T j ≠ 0 → T' j = T j) (hl : st1.le s) (h0 : ∀ j, st1.h j ≠ none → T' j = 0) : HC st1 s ib a T' S v m where
  le := hl
  tag0 := h0
  hb := h.hb
  Tb := by rw [hT ib (by rw [h.hb]; simp) (by rw [h.Tb]; omega)]; exact h.Tb
  tree := h.tree
  Tt := ⟨by rw [hT a.tp (by rw [h.tree.hp]; simp) (by rw [h.Tt.1]; omega)]; exact h.Tt.1, by rw [hT a.tg (by rw [h.tree.hg]; simp) (by rw [h.Tt.2]; omega)]; exact h.Tt.2⟩
  grid := h.grid
  Tg := ⟨by rw [hT a.gp (by rw [h.grid.hp]; simp) (by rw [h.Tg.1]; omega)]; exact h.Tg.1, by rw [hT a.gg (by rw [h.grid.hg]; simp) (by rw [h.Tg.2]; omega)]; exact h.Tg.2⟩
  lines := h.lines
  Tl := ⟨by rw [hT a.lp (by rw [h.lines.hp]; simp) (by rw [h.Tl.1]; omega)]; exact h.Tl.1, by rw [hT a.lm (by rw [h.lines.hm]; simp) (by rw [h.Tl.2]; omega)]; exact h.Tl.2⟩
  files := fun i hi hm => by
    obtain ⟨hf, t1, t2, t3⟩ := h.files i hi hm
    obtain ⟨⟨mm, h1, h2⟩, h3, h4, _⟩ := hf
    exact ⟨(h.files i hi hm).1, by rw [hT _ (by rw [h2]; simp) (by omega)]; exact t1, by rw [hT _ (by rw [h3]; simp) (by omega)]; exact t2, by rw [hT _ (by rw [h4]; simp) (by omega)]; exact t3⟩
  ports := fun i hm => ⟨(h.ports i hm).1, by rw [hT _ (by rw [(h.ports i hm).1]; simp) (by rw [(h.ports i hm).2.1]; omega)]; exact (h.ports i hm).2.1, (h.ports i hm).2.2⟩
  kof := h.kof
  ginv := h.ginv
  linv := h.linv
def HCX (ib : Nat) (a : HA) (S : Soc) (v : HV) (m : Nat) (st s : ASt) : Prop := ∃ T, HC st s ib a T S v m
theorem HCX.rides : Rides (HCX ib a S v m) where
  le := fun h => h.elim fun _ h => h.le
  kill := fun {st s i} h hi => by
    obtain ⟨T, h⟩ := h
    have h0 := h.tag0 i hi
    have hle : (st.kill i).le (s.kill i) := fun j x hj => by
      rw [ASt.kill_h] at hj ⊢
      split
      · rename_i e; rw [if_pos e] at hj; cases hj
      · rename_i e; rw [if_neg e] at hj; exact h.le _ _ hj
    exact ⟨T, h.base0 (fun j o hj hn => by rw [ASt.kill_h, if_neg (by rintro rfl; exact hn h0)]; exact hj) hle fun j hj => h.tag0 j (ASt.kill_live hj).2⟩
  loc := fun {st s i} h hi o => by
    obtain ⟨T, h⟩ := h
    have hle := h.le
    refine ⟨fun j => if j = i then 0 else T j, ((h.retag (fun j hj => ?_)).step (ASt.le.new s i o)).base0 (Keeps.refl _ _ _) (hle.newB hi o) fun j hj => ?_⟩
    · show (if j = i then 0 else T j) = T j
      rw [if_neg (by rintro rfl; exact hj hi)]
    · by_cases e : j = i
      · simp [e]
      · simp only [if_neg e]
        rw [ASt.new_ne _ e] at hj
        exact h.tag0 j hj
  step := fun h hl => h.imp fun _ h => h.step hl
theorem HCX.locSet (h : HCX ib a S v m st s) {ix : Nat} (hi : st.h ix ≠ none) (o : AObj) : HCX ib a S v m (st.set ix o) (s.set ix o) := by
  obtain ⟨T, h⟩ := h
  have h0 := h.tag0 ix hi
  refine ⟨T, h.base0 (Keeps.set h0) (h.le.setB ix o) fun j hj => h.tag0 j ?_⟩
  rw [ASt.set_h] at hj
  split at hj
  · rename_i e; subst e; exact hi
  · exact hj
structure HCF (ib : Nat) (a : HA) (S : Soc) (v : HV) (i id idn ids : Nat) (st s : ASt) : Prop where
  ex : ∃ T, HC st s ib a T S v i ∧ (∃ h : i < S.devs.length, FileF s id idn ids S.devs[i].regs (v.F i).now (v.F i).saved (v.F i).kept) ∧ T id = 10 + 3 * i ∧ T idn = 10 + 3 * i ∧ T ids = 10 + 3 * i
theorem HCX.file {i id idn ids : Nat} (h : HCX ib a S v i st s) (hl : s.le s') (hi : i < S.devs.length) (hf : FileF s' id idn ids S.devs[i].regs (v.F i).now (v.F i).saved (v.F i).kept) (f1 : s.h id = none) (f2 : s.h idn = none) (f3 : s.h ids = none) :
    HCF ib a S v i id idn ids st s' := by
  obtain ⟨T, h⟩ := h
  have hT : ∀ j, s.h j ≠ none → (fun j => if j = id ∨ j = idn ∨ j = ids then 10 + 3 * i else T j) j = T j := fun j hj => by
    simp only
    rw [if_neg]
    rintro (rfl | rfl | rfl)
    · exact hj f1
    · exact hj f2
    · exact hj f3
  exact ⟨_, (h.retag hT).step hl, ⟨hi, hf⟩, if_pos (.inl rfl), if_pos (.inr (.inl rfl)), if_pos (.inr (.inr rfl))⟩
theorem HCF.locSet {i id idn ids : Nat} (h : HCF ib a S v i id idn ids st s) {ix : Nat} (hi : st.h ix ≠ none) (o : AObj) : HCF ib a S v i id idn ids (st.set ix o) (s.set ix o) := by
  obtain ⟨T, h, ⟨hil, hf⟩, t⟩ := h
  have h0 := h.tag0 ix hi
  refine ⟨T, h.base0 (Keeps.set h0) (h.le.setB ix o) fun j hj => h.tag0 j ?_, ⟨hil, hf.kept t (Keeps.set h0) (by omega)⟩, t⟩
  rw [ASt.set_h] at hj
  split at hj
  · rename_i e; subst e; exact hi
  · exact hj
theorem HCF.le {i id idn ids : Nat} (h : HCF ib a S v i id idn ids st s) : st.le s := by
  obtain ⟨T, h, _⟩ := h; exact h.le
theorem HCF.fileAt {i id idn ids : Nat} (h : HCF ib a S v i id idn ids st s) : ∃ h : i < S.devs.length, FileF s id idn ids S.devs[i].regs (v.F i).now (v.F i).saved (v.F i).kept := by
  obtain ⟨T, h, hf, _⟩ := h; exact hf
theorem HCF.port {i id idn ids p : Nat} (h : HCF ib a S v i id idn ids st s) (hp : s.h p = none) (ho : v.O i = (0, 0)) :
    HCX ib { a with fp := upF a.fp i id, fn := upF a.fn i idn, fs := upF a.fs i ids, pp := upF a.pp i p } S v (i + 1) st (s.new p (.cells [.int .i64 0, .int .i64 0])) := by
  obtain ⟨T, h, ⟨hil, hf⟩, t1, t2, t3⟩ := h
  have hT : ∀ j, s.h j ≠ none → (fun j => if j = p then 11 + 3 * i else T j) j = T j := fun j hj => by
    simp only
    rw [if_neg (by rintro rfl; exact hj hp)]
  have hle := ASt.le.new s p (.cells [.int .i64 0, .int .i64 0])
  have h2 := (h.retag hT).step hle
  have hf2 := hf.le hle
  obtain ⟨⟨mm, f1, f2⟩, f3, f4, _⟩ := hf
  have k1 := hT id (by rw [f2]; simp)
  have k2 := hT idn (by rw [f3]; simp)
  have k3 := hT ids (by rw [f4]; simp)
  refine ⟨fun j => if j = p then 11 + 3 * i else T j, { le := h2.le, tag0 := h2.tag0, hb := h2.hb, Tb := h2.Tb, tree := h2.tree, Tt := h2.Tt, grid := h2.grid, Tg := h2.Tg, lines := h2.lines, Tl := h2.Tl, files := fun j hj hm => ?_, ports := fun j hm => ?_, kof := h2.kof, ginv := h2.ginv, linv := h2.linv }⟩
  · by_cases e : j = i
    · subst e
      show FileF _ (upF a.fp j id j) (upF a.fn j idn j) (upF a.fs j ids j) _ _ _ _ ∧ _
      simp only [upF_at]
      exact ⟨hf2, k1.trans t1, k2.trans t2, k3.trans t3⟩
    · show FileF _ (upF a.fp i id j) (upF a.fn i idn j) (upF a.fs i ids j) _ _ _ _ ∧ _
      simp only [upF_ne e]
      exact h2.files j hj (by omega)
  · by_cases e : j = i
    · subst e
      show ASt.h _ (upF a.pp j p j) = _ ∧ _
      simp only [upF_at, ho]
      exact ⟨ASt.new_self _ hp, by simp, by omega, by omega⟩
    · show ASt.h _ (upF a.pp i p j) = _ ∧ _
      simp only [upF_ne e]
      exact h2.ports j (by omega)
def HV.fresh (S : Soc) : HV := ⟨cfresh S.clocks, gfresh S.doms, freshL S.rsts, fun i => ⟨match S.devs[i]? with | some d => resets d.regs | none => fun _ => 0, fun _ => 0, false⟩, fun _ => (0, 0), fun _ => [], 0⟩
theorem fresh_F {i : Nat} (h : i < S.devs.length) : (HV.fresh S).F i = ⟨resets S.devs[i].regs, fun _ => 0, false⟩ := by
  simp only [HV.fresh, List.getElem?_eq_getElem h]
def manyL (S : Soc) : List Int := S.devs.map fun d => (d.regs.length : Int)
theorem devsC_congr {a' : HA} {n : Nat} (h : ∀ j, j < n → a'.fp j = a.fp j ∧ a'.pp j = a.pp j) : devsC S a' n = devsC S a n := by
  unfold devsC
  rw [List.flatMap_def, List.flatMap_def]
  congr 1
  apply List.map_congr_left
  intro j hj
  obtain ⟨h1, h2⟩ := h j (by simpa using hj)
  unfold devC
  rw [h1, h2]
theorem devsC_succ (n : Nat) : devsC S a (n + 1) = devsC S a n ++ devC S a n := by
  unfold devsC
  rw [List.range_succ, List.flatMap_append]; simp
def Made (st : ASt) (ib hp mm tp gp lp : Nat) (S : Soc) (i : Nat) (t : ASt) : Prop :=
  ∃ st1 a dvv, HCX ib a S (HV.fresh S) i st1 t ∧ Over st st1 6 dvv i (devsC S a i) ∧ a.hp = hp ∧ a.tp = tp ∧ a.gp = gp ∧ a.lp = lp ∧ st1.h hp = some (.cells [.ptr tp 0, .ptr gp 0, .ptr lp 0, .nilp, dvv]) ∧
    st1.h mm = some (.cells (ints (firstZ (manyL S) i)))
set_option maxHeartbeats 2000000 in
theorem hnew {st : ASt} {ib : Nat} (hib : st.h ib = none) (hk : S.like) : ACalls Tryz.prog F.q86 [.agg S.cells] (st.new ib (.cells S.cells)) fun r s' => ∃ a, r = .tup [.ptr a.hp 0, .int .i64 0] ∧ HX st s' ib a S (HV.fresh S) := by
  have hs := hk.sane
  have n1 := hk.nc; have n2 := hk.nd; have n3 := hk.nr; have n4 := hk.nv
  have lc : S.cells.length = 4 := rfl
  have e4 : AV.agg (List.take 4 S.cells) = .agg S.cells := rfl
  have hb0 := ASt.new_self (.cells S.cells) hib
  have hle0 := ASt.le.new st ib (.cells S.cells)
  refine calls_of_awp L.q86 rfl ?_
  generalize st.new ib (.cells S.cells) = s0 at hb0 hle0
  simp only [↓Bp, Bq, Bs, ↓aop.eq_28, ↓aop.eq_30, simprocAttr, ↓C.q86_r0_w, C.q86_r0_b, C.q86]
  intro i1 hi1
  have hle1 := ASt.le.new s0 i1 (.cells S.cells)
  have hx1 := ASt.new_self (.cells S.cells) hi1
  have hb1 := hle1 _ _ hb0
  generalize s0.new i1 (.cells S.cells) = s1 at hle1 hx1 hb1
  simp only [↓Bp, Bq, Bs, ↓aop.eq_28, ↓aop.eq_30, simprocAttr, ↓C.q86_W, C.q86_B, C.q86, hx1, lc, e4]
  refine (conf_check_spec hs.fine).mono ?_
  rintro r s1' ⟨rfl, rfl⟩
  simp only [↓Bp, Bq, Bs, ↓aop.eq_28, ↓aop.eq_30, simprocAttr, ↓C.q86_W, C.q86_B, C.q86, hk.right, hx1, lc, e4]
  refine (cnew_spec hs hs.fine hk.right (by omega) (by omega)).mono ?_
  rintro r s2 ⟨tp, tg, rfl, hT, htp, htg, hle2⟩
  have hx2 := hle2 _ _ hx1
  simp only [↓Bp, Bq, Bs, ↓aop.eq_28, ↓aop.eq_30, simprocAttr, ↓C.q86_W, C.q86_B, C.q86, hx2, lc, e4]
  refine (gnew_spec hs.fine hk.right (by omega) (by omega)).mono ?_
  rintro r s3 ⟨gp, gg, rfl, hG, hgp, hgg, hle3⟩
  have hx3 := hle3 _ _ hx2
  simp only [↓Bp, Bq, Bs, ↓aop.eq_28, ↓aop.eq_30, simprocAttr, ↓C.q86_W, C.q86_B, C.q86, hx3, lc, e4]
  refine (new_spec hs.fine (by omega)).mono ?_
  rintro r s4 (⟨e, _⟩ | ⟨_, lp, lm, rfl, hL, hlp, hlm, hle4⟩)
  · exact absurd hk.right e
  have hx4 := hle4 _ _ hx3
  simp only [↓Bp, Bq, Bs, ↓aop.eq_28, ↓aop.eq_30, simprocAttr, ↓C.q86_r13_w, C.q86_r13_b, ↓C.q86_c21_w, ↓C.q86_r12_w, C.q86_r12_b, ↓C.q86_c22_w, ↓C.q86_c23_w, ↓C.q86_r11_w, C.q86_r11_b, ↓C.q86_c24_w, ↓C.q86_r10_w, C.q86_r10_b, ↓C.q86_c25_w, ↓C.q86_r9_w, C.q86_r9_b, ↓C.q86_c26_w, ↓C.q86_c27_w, ↓C.q86_r8_w, C.q86_r8_b, ↓C.q86_c28_w, ↓C.q86_r7_w, C.q86_r7_b, ↓C.q86_c29_w, ↓C.q86_r6_w, C.q86_r6_b, ↓C.q86_c30_w, ↓C.q86_c31_w, ↓C.q86_r5_w, C.q86_r5_b, ↓C.q86_c32_w, ↓C.q86_r4_w, C.q86_r4_b, ↓C.q86_c33_w, ↓C.q86_r3_w, C.q86_r3_b, ↓C.q86_c34_w, ↓C.q86_c35_w, ↓C.q86_r2_w, C.q86_r2_b, ↓C.q86_c36_w, ↓C.q86_r1_w, C.q86_r1_b, ↓C.q86_c37_w, ↓C.q86_r0_w, C.q86_r0_b, C.q86]
  intro hp hhp
  have htpS : st.h tp = none := fresh_of_le (hle0.trans hle1) htp
  have htgS : st.h tg = none := fresh_of_le (hle0.trans hle1) htg
  have hgpS : st.h gp = none := fresh_of_le ((hle0.trans hle1).trans hle2) hgp
  have hggS : st.h gg = none := fresh_of_le ((hle0.trans hle1).trans hle2) hgg
  have hlpS : st.h lp = none := fresh_of_le (((hle0.trans hle1).trans hle2).trans hle3) hlp
  have hlmS : st.h lm = none := fresh_of_le (((hle0.trans hle1).trans hle2).trans hle3) hlm
  have hleS : st.le s4 := (((hle0.trans hle1).trans hle2).trans hle3).trans hle4
  have dj : ∀ {x y : Nat} {t : ASt} {o : AObj}, t.h x = some o → t.h y = none → y ≠ x := fun h1 h2 => by rintro rfl; rw [h1] at h2; cases h2
  have hb2 := hle2 _ _ hb1
  have hb3 := hle3 _ _ hb2
  have hC : HCX ib ⟨hp, tp, tg, gp, gg, lp, lm, 0, 0, 0, 0, fun _ => 0, fun _ => 0, fun _ => 0, fun _ => 0⟩ S (HV.fresh S) 0 st s4 := by
    refine ⟨fun j => if j = ib then 7 else if j = tp ∨ j = tg then 2 else if j = gp ∨ j = gg then 3 else if j = lp ∨ j = lm then 4 else 0, { le := hleS, tag0 := fun j hj => ?_, hb := hle4 _ _ hb3, Tb := if_pos rfl, tree := (hT.le hle3).le hle4, Tt := ?_, grid := hG.le hle4, Tg := ?_, lines := hL, Tl := ?_, files := fun i hi hm => absurd hm (by omega), ports := fun i hm => absurd hm (by omega), kof := KOf.fresh hk.clk, ginv := GInv.fresh hk.dom, linv := LInv.fresh fun x hx => ?_ }⟩
    · have ne : ∀ {x}, st.h x = none → j ≠ x := fun h => by rintro rfl; exact hj h
      simp [ne hib, ne htpS, ne htgS, ne hgpS, ne hggS, ne hlpS, ne hlmS]
    · exact ⟨by simp [dj hb1 htp], by simp [dj hb1 htg]⟩
    · have x1 := hT.hp
      have x2 := hT.hg
      exact ⟨by simp [dj hb2 hgp, dj x1 hgp, dj x2 hgp], by simp [dj hb2 hgg, dj x1 hgg, dj x2 hgg]⟩
    · have x1 := (hT.le hle3).hp
      have x2 := (hT.le hle3).hg
      have x3 := hG.hp
      have x4 := hG.hg
      exact ⟨by simp [dj hb3 hlp, dj x1 hlp, dj x2 hlp, dj x3 hlp, dj x4 hlp], by simp [dj hb3 hlm, dj x1 hlm, dj x2 hlm, dj x3 hlm, dj x4 hlm]⟩
    · obtain ⟨i, hi, rfl⟩ := List.getElem_of_mem hx
      have := hk.rst i hi
      omega
  have hhpS : st.h hp = none := fresh_of_le hleS hhp
  have hC1 := HCX.rides.loc hC hhp (.cells [.ptr tp 0, .ptr gp 0, .ptr lp 0, .nilp, .nils])
  have hP1 := ASt.new_self (.cells [.ptr tp 0, .ptr gp 0, .ptr lp 0, .nilp, .nils]) hhpS
  have hleP := ASt.le.new st hp (.cells [.ptr tp 0, .ptr gp 0, .ptr lp 0, .nilp, .nils])
  have hx5 := ASt.new_old (id := hp) (o := .cells [.ptr tp 0, .ptr gp 0, .ptr lp 0, .nilp, .nils]) hx4
  generalize s4.new hp (.cells [.ptr tp 0, .ptr gp 0, .ptr lp 0, .nilp, .nils]) = s5 at hC1 hx5
  generalize st.new hp (.cells [.ptr tp 0, .ptr gp 0, .ptr lp 0, .nilp, .nils]) = b1 at hC1 hP1 hleP
  have hz : (0 : Int) ≤ ((S.devs.length : Nat) : Int) ∧ ((S.devs.length : Nat) : Int) ≤ 4294967296 := by omega
  have hx5' := hx5
  rw [Soc.cells, Soc.clkV, Soc.domV, Soc.rstV, Soc.devV] at hx5'
  simp only [↓Bp, Bq, Bs, ↓aop.eq_28, ↓aop.eq_30, simprocAttr, ↓C.q86_r14_w, C.q86_r14_b, ↓C.q86_c20_w, ↓C.q86_r13_w, C.q86_r13_b, ↓C.q86_c21_w, ↓C.q86_r12_w, C.q86_r12_b, ↓C.q86_c22_w, ↓C.q86_c23_w, ↓C.q86_r11_w, C.q86_r11_b, ↓C.q86_c24_w, ↓C.q86_r10_w, C.q86_r10_b, ↓C.q86_c25_w, ↓C.q86_r9_w, C.q86_r9_b, ↓C.q86_c26_w, ↓C.q86_c27_w, ↓C.q86_r8_w, C.q86_r8_b, ↓C.q86_c28_w, ↓C.q86_r7_w, C.q86_r7_b, ↓C.q86_c29_w, ↓C.q86_r6_w, C.q86_r6_b, ↓C.q86_c30_w, ↓C.q86_c31_w, ↓C.q86_r5_w, C.q86_r5_b, ↓C.q86_c32_w, ↓C.q86_r4_w, C.q86_r4_b, ↓C.q86_c33_w, ↓C.q86_r3_w, C.q86_r3_b, ↓C.q86_c34_w, ↓C.q86_c35_w, ↓C.q86_r2_w, C.q86_r2_b, ↓C.q86_c36_w, ↓C.q86_r1_w, C.q86_r1_b, ↓C.q86_c37_w, ↓C.q86_r0_w, C.q86_r0_b, C.q86, hx5', hz, Int.toNat_natCast, zeros_i64]
  intro mm hmm
  have hmmB : b1.h mm = none := fresh_of_le (HCX.rides.le hC1) hmm
  have hC2 := HCX.rides.loc hC1 hmm (.cells (ints (List.replicate S.devs.length 0)))
  have hM2 := ASt.new_self (.cells (ints (List.replicate S.devs.length 0))) hmmB
  have hP2 := ASt.new_old (id := mm) (o := .cells (ints (List.replicate S.devs.length 0))) hP1
  have hle6 := hleP.trans (ASt.le.new b1 mm (.cells (ints (List.replicate S.devs.length 0))))
  have hx6 := ASt.new_old (id := mm) (o := .cells (ints (List.replicate S.devs.length 0))) hx5'
  have hmmS : st.h mm = none := fresh_of_le hleP hmmB
  have hpm : ¬ hp = mm := fun e => by rw [e, hmmB] at hP1; cases hP1
  generalize s5.new mm (.cells (ints (List.replicate S.devs.length 0))) = s6 at hC2 hx6
  generalize b1.new mm (.cells (ints (List.replicate S.devs.length 0))) = b2 at hC2 hM2 hP2 hle6
  have hml : (manyL S).length = S.devs.length := by simp [manyL]
  simp only [↓Bp, Bq, Bs, ↓aop.eq_28, ↓aop.eq_30, simprocAttr, ↓C.q86_r23_w, C.q86_r23_b, ↓C.q86_c6_w, ↓C.q86_r22_w, C.q86_r22_b, ↓C.q86_c7_w, ↓C.q86_r21_w, C.q86_r21_b, ↓C.q86_c8_w, ↓C.q86_r20_w, C.q86_r20_b, ↓C.q86_c9_w, ↓C.q86_c10_w, ↓C.q86_r19_w, C.q86_r19_b, ↓C.q86_c11_w, ↓C.q86_r18_w, C.q86_r18_b, ↓C.q86_c12_w, ↓C.q86_r17_w, C.q86_r17_b, ↓C.q86_b13_w, ↓C.q86_c14_w, ↓C.q86_c15_w, ↓C.q86_r16_w, C.q86_r16_b, ↓C.q86_b17_w, ↓C.q86_c18_w, ↓C.q86_r15_w, C.q86_r15_b, ↓C.q86_c19_w, ↓C.q86_r14_w, C.q86_r14_b, ↓C.q86_c20_w, ↓C.q86_r13_w, C.q86_r13_b, ↓C.q86_c21_w, ↓C.q86_r12_w, C.q86_r12_b, ↓C.q86_c22_w, ↓C.q86_c23_w, ↓C.q86_r11_w, C.q86_r11_b, ↓C.q86_c24_w, ↓C.q86_r10_w, C.q86_r10_b, ↓C.q86_c25_w, ↓C.q86_r9_w, C.q86_r9_b, ↓C.q86_c26_w, ↓C.q86_c27_w, ↓C.q86_r8_w, C.q86_r8_b, ↓C.q86_c28_w, ↓C.q86_r7_w, C.q86_r7_b, ↓C.q86_c29_w, ↓C.q86_r6_w, C.q86_r6_b, ↓C.q86_c30_w, ↓C.q86_c31_w, ↓C.q86_r5_w, C.q86_r5_b, ↓C.q86_c32_w, ↓C.q86_r4_w, C.q86_r4_b, ↓C.q86_c33_w, ↓C.q86_r3_w, C.q86_r3_b, ↓C.q86_c34_w, ↓C.q86_c35_w, ↓C.q86_r2_w, C.q86_r2_b, ↓C.q86_c36_w, ↓C.q86_r1_w, C.q86_r1_b, ↓C.q86_c37_w, ↓C.q86_r0_w, C.q86_r0_b, C.q86, hx6]
  refine awp_midB (fun _ : Unit => [(9, .ptr hp 0), (10, .sl 1 mm 0 S.devs.length)]) (fun _ t => Made st ib hp mm tp gp lp S S.devs.length t) ?_ ?_
  rotate_left
  · rintro - t ⟨st1, a, dvv, ⟨T, hC⟩, hO, ea, et, eg, el, hH, hM⟩
    rw [← hml, firstZ_all] at hM
    have hMt := hC.le _ _ hM
    have hHt := hC.le _ _ hH
    have hbn := bnew_spec hMt (by omega) (fun x hx => by
      simp only [manyL, List.mem_map] at hx
      obtain ⟨d, hd, rfl⟩ := hx
      obtain ⟨i, hi, rfl⟩ := List.getElem_of_mem hd
      have := (hk.dev i hi).regs
      omega)
    rw [hml] at hbn
    simp only [↓Bp, Bq, Bs, ↓aop.eq_28, ↓aop.eq_30, simprocAttr, ↓C.q86_W, C.q86_B, C.q86]
    refine hbn.mono ?_
    rintro r t2 ⟨bp, br, bw, rfl, hB⟩
    have hHt2 := hB.le _ _ hHt
    simp only [↓Bp, Bq, Bs, ↓aop.eq_28, ↓aop.eq_30, simprocAttr, ↓C.q86_W, C.q86_B, C.q86, hHt2]
    obtain ⟨dv, rfl, hdv⟩ : ∃ dv, dvv = .sl 6 dv 0 S.devs.length ∧ st1.h dv = some (.cells (devsC S a S.devs.length)) := by
      rcases hO.1.2 with ⟨e, _⟩ | h
      · omega
      · exact h
    have hdvS : st.h dv = none := hO.2.2 _ _ _ _ rfl
    have nhp : ¬ dv = hp := by
      rintro rfl
      rw [hdv] at hH
      have := congrArg (fun o : Option AObj => match o with | some (.cells cs) => cs.length | _ => 0) hH
      simp [devsC_len] at this
      omega
    have hdt := hC.le _ _ hdv
    have hdt2 := hB.le _ _ hdt
    have nbp : ¬ bp = hp := by rintro rfl; have := hB.fp; rw [hHt] at this; cases this
    have nbr : ¬ br = hp := by rintro rfl; have := hB.fr; rw [hHt] at this; cases this
    have nbw : ¬ bw = hp := by rintro rfl; have := hB.fw; rw [hHt] at this; cases this
    have mbp : ¬ bp = dv := by rintro rfl; have := hB.fp; rw [hdt] at this; cases this
    have mbr : ¬ br = dv := by rintro rfl; have := hB.fr; rw [hdt] at this; cases this
    have mbw : ¬ bw = dv := by rintro rfl; have := hB.fw; rw [hdt] at this; cases this
    obtain ⟨T', hT'⟩ : ∃ T' : Nat → Nat, T' = fun j => if j = hp then 1 else if j = dv then 6 else if j = bp ∨ j = br ∨ j = bw then 5 else T j := ⟨_, rfl⟩
    have thp : T' hp = 1 := by rw [hT']; simp
    have tdv : T' dv = 6 := by rw [hT']; simp [nhp]
    have tbp : T' bp = 5 := by rw [hT']; simp [nbp, mbp]
    have tbr : T' br = 5 := by rw [hT']; simp [nbr, mbr]
    have tbw : T' bw = 5 := by rw [hT']; simp [nbw, mbw]
    have hsl : st.le t := hO.2.1.trans hC.le
    have ne : ∀ {j x : Nat} {u : ASt}, u.h j ≠ none → u.h x = none → ¬ j = x := fun h1 h2 => by rintro rfl; exact h1 h2
    have hC2 : HC st t ib a T' S (HV.fresh S) S.devs.length := hC.move (fun j hj h0 => by
      have j1 : ¬ j = hp := fun e => h0 (by rw [e]; exact hC.tag0 _ (by rw [hH]; simp))
      have j2 : ¬ j = dv := fun e => h0 (by rw [e]; exact hC.tag0 _ (by rw [hdv]; simp))
      rw [hT']
      simp [j1, j2, ne hj hB.fp, ne hj hB.fr, ne hj hB.fw]) hsl (fun j hj => by
      have j1 : ¬ j = hp := ne hj hhpS
      have j2 : ¬ j = dv := ne hj hdvS
      have j3 : ¬ j = bp := ne hj (fresh_of_le hsl hB.fp)
      have j4 : ¬ j = br := ne hj (fresh_of_le hsl hB.fr)
      have j5 : ¬ j = bw := ne hj (fresh_of_le hsl hB.fw)
      have j6 : T j = 0 := hC.tag0 j (by
        cases e : st.h j with
        | none => exact absurd e hj
        | some o => rw [hO.2.1 _ _ e]; simp)
      rw [hT']
      simp [j1, j2, j3, j4, j5, j6])
    have hK : Keeps T' 1 t2 (t2.set hp (.cells [.ptr tp 0, .ptr gp 0, .ptr lp 0, .ptr bp 0, .sl 6 dv 0 S.devs.length])) := Keeps.set thp
    have hC3 := (hC2.step hB.le).keep hK (.inl rfl)
    have hl2 : (manyL S).length = S.devs.length := hml
    refine ⟨{ a with bp := bp, br := br, bw := bw, dv := dv }, by rw [← ea], T', ⟨{ le := hC3.le, tag0 := hC3.tag0, hb := hC3.hb, Tb := hC3.Tb, tree := hC3.tree, Tt := hC3.Tt, grid := hC3.grid, Tg := hC3.Tg, lines := hC3.lines, Tl := hC3.Tl, files := hC3.files, ports := hC3.ports, kof := hC3.kof, ginv := hC3.ginv, linv := hC3.linv }, ?_, ?_, ⟨?_, ?_, ⟨List.replicate S.devs.length .nils, ?_, by simp, fun i hi => ?_⟩, ⟨tbp, tbr, tbw⟩, hB.n1, hB.n2, hB.n3⟩, ?_, tdv⟩⟩
    · show ASt.h _ a.hp = some (.cells [.ptr a.tp 0, .ptr a.gp 0, .ptr a.lp 0, .ptr bp 0, .sl 6 dv 0 S.devs.length])
      rw [ea, et, eg, el, ASt.set_h, if_pos rfl, hHt2]; rfl
    · show T' a.hp = 1
      rw [ea]; exact thp
    · rw [ASt.set_h, if_neg nbp, hB.hp, hl2]; rfl
    · rw [ASt.set_h, if_neg nbr, hB.hr]; rfl
    · rw [ASt.set_h, if_neg nbw, hB.hw, hl2]
    · rw [List.getElem_replicate]; exact .nil
    · rw [ASt.set_h, if_neg nhp, hdt2]
      rw [show devsC S { a with bp := bp, br := br, bw := bw, dv := dv } S.devs.length = devsC S a S.devs.length from devsC_congr fun j _ => ⟨rfl, rfl⟩]
  refine awp_loopK (fun i : Nat => [(9, .ptr hp 0), (10, .sl 1 mm 0 S.devs.length), (54, .isl 6 (S.devs.flatMap Dev.cells) S.devs.length), (55, .int .i64 S.devs.length), (56, .int .i64 i)]) (fun i t => i ≤ S.devs.length ∧ Made st ib hp mm tp gp lp S i t) (fun i => S.devs.length - i) 0 rfl ⟨Nat.zero_le _, b2, _, .nils, hC2, Over.nils hle6 6, rfl, rfl, rfl, rfl, hP2, by rw [firstZ_zero, hml]; exact hM2⟩ ?_
  clear hC2 hM2 hP2 hle6 hx6 hx5' hx5 hC1 hP1 hleP hC hmm hmmB hhp hL hG hT hx4 hx3 hx2 hx1 hb1 hb0 hb2 hb3
  rintro i t ⟨hi, st1, a, dvv, hC, hO, ea, et, eg, el, hH, hM⟩
  by_cases hil : i < S.devs.length
  rotate_left
  · have hie : i = S.devs.length := by omega
    subst hie
    have hil' : ¬ ((S.devs.length : Nat) : Int) < (S.devs.length : Nat) := by omega
    simp only [↓Bp, Bq, Bs, ↓aop.eq_28, ↓aop.eq_30, simprocAttr, ↓C.q86_W, C.q86_B, C.q86, hil']
    exact ⟨(), st1, a, dvv, hC, hO, ea, et, eg, el, hH, hM⟩
  have hil' : (i : Int) < (S.devs.length : Nat) := by omega
  have hw := wsucc hil (by omega)
  have hzi : (0:Int) ≤ (i : Int) ∧ (i : Int) < (S.devs.length : Int) := by omega
  have hfit := flatMap_fits (f := Dev.cells) (k := 6) Dev.cells_len (l := S.devs) hil
  have hat := flatMap_at (f := Dev.cells) (k := 6) Dev.cells_len (l := S.devs) hil
  have dl : S.devs[i].cells.length = 6 := rfl
  have df : allLeaf S.devs[i].cells = true := rfl
  simp only [↓Bp, Bq, Bs, ↓aop.eq_28, ↓aop.eq_30, simprocAttr, ↓C.q86_r23_w, C.q86_r23_b, ↓C.q86_c6_w, ↓C.q86_r17_w, C.q86_r17_b, ↓C.q86_b13_w, ↓C.q86_c14_w, ↓C.q86_c15_w, ↓C.q86_r16_w, C.q86_r16_b, hil', hzi, Int.toNat_natCast, hfit, hat]
  intro ix hix
  simp only [↓Bp, Bq, Bs, ↓aop.eq_28, ↓aop.eq_30, simprocAttr, ↓C.q86_r23_w, C.q86_r23_b, ↓C.q86_c6_w, ↓C.q86_r17_w, C.q86_r17_b, ↓C.q86_b13_w, ↓C.q86_c14_w, ↓C.q86_c15_w, ↓C.q86_r16_w, C.q86_r16_b, hix, dl, df]
  rw [ASt.new_set hix, putN_all (zs := [AV.int .i64 0, AV.int .i64 0, AV.int .i64 0, AV.int .u32 0, AV.nils, AV.nils]) (vs := S.devs[i].cells) rfl]
  have hC3 := HCX.rides.loc hC hix (.cells S.devs[i].cells)
  have hX3 := ASt.new_self (.cells S.devs[i].cells) (fresh_of_le (HCX.rides.le hC) hix)
  have hH3 := ASt.new_old (id := ix) (o := .cells S.devs[i].cells) hH
  have hM3 := ASt.new_old (id := ix) (o := .cells S.devs[i].cells) hM
  have hle3 := ASt.le.new st1 ix (.cells S.devs[i].cells)
  have hO3 : Over st (st1.new ix (.cells S.devs[i].cells)) 6 dvv i (devsC S a i) := ⟨⟨hO.1.1, hO.1.2.imp (fun x => x) fun ⟨j, e, hj⟩ => ⟨j, e, hle3 _ _ hj⟩⟩, hO.2.1.trans hle3, hO.2.2⟩
  generalize t.new ix (.cells S.devs[i].cells) = t3 at hC3
  generalize st1.new ix (.cells S.devs[i].cells) = st3 at hC3 hX3 hH3 hM3 hO3
  clear hC hO hH hM hle3
  have hxt := HCX.rides.le hC3 _ _ hX3
  rw [Dev.cells] at hxt hX3
  simp only [↓Bp, Bq, Bs, ↓aop.eq_28, ↓aop.eq_30, simprocAttr, ↓C.q86_r18_w, C.q86_r18_b, ↓C.q86_c12_w, hxt]
  have hrl := (hk.dev i hil).regs
  refine (rgnew_spec (Readable.isl t3 (l := S.devs[i].regs) (by omega)) (by omega)).mono ?_
  rintro r t4 ⟨id, idn, ids, rfl, hf, hle4, f1, f2, f3⟩
  have hF4 := hC3.file hle4 hil (by rw [fresh_F hil]; exact hf) f1 f2 f3
  clear hf hC3 hxt hle4
  have hxt4 := hF4.le _ _ hX3
  have hMt := hF4.le _ _ hM3
  obtain ⟨hil2, hfile⟩ := hF4.fileAt
  have hml2 : i < (manyL S).length := by omega
  have hmg : (manyL S)[i] = (S.devs[i].regs.length : Int) := by simp [manyL]
  have hfl : i < (ints (firstZ (manyL S) i)).length := by rw [ints_length, firstZ_len (by omega)]; exact hml2
  have hset := firstZ_set hml2
  rw [hmg] at hset
  simp only [↓Bp, Bq, Bs, ↓aop.eq_28, ↓aop.eq_30, simprocAttr, ↓C.q86_r20_w, C.q86_r20_b, ↓C.q86_c9_w, ↓C.q86_c10_w, ↓C.q86_r19_w, C.q86_r19_b, ↓C.q86_c11_w, ↓C.q86_r18_w, C.q86_r18_b, ↓C.q86_c12_w]
  rw [C.q86_c8_w, awp_keep]
  simp only [↓Bp, Bq, Bs, ↓aop.eq_28, ↓aop.eq_30, simprocAttr, ↓C.q86_r21_w, C.q86_r21_b, ↓C.q86_c8_w]
  refine (many_spec hfile).mono ?_
  rintro r t5 ⟨rfl, rfl⟩
  simp only [↓Bp, Bq, Bs, ↓aop.eq_28, ↓aop.eq_30, simprocAttr, ↓C.q86_r21_w, C.q86_r21_b, ↓C.q86_c8_w, hzi, Int.toNat_natCast, Nat.mul_one, hMt, hfl, ints_set, hset]
  have hF5 := hF4.locSet (ix := mm) (by rw [hM3]; simp) (.cells (ints (firstZ (manyL S) (i + 1))))
  have nxm : ¬ ix = mm := fun e => by rw [e, hM3] at hX3; have := congrArg (fun o : Option AObj => match o with | some (.cells cs) => cs.length | _ => 0) hX3; simp [ints_length, firstZ_len (show i ≤ (manyL S).length by omega)] at this; omega
  have hX5 : (st3.set mm (.cells (ints (firstZ (manyL S) (i + 1))))).h ix = _ := (by rw [ASt.set_h, if_neg nxm] : _ = st3.h ix).trans hX3
  have hH5 : (st3.set mm (.cells (ints (firstZ (manyL S) (i + 1))))).h hp = _ := (by rw [ASt.set_h, if_neg hpm] : _ = st3.h hp).trans hH3
  have hM5 : (st3.set mm (.cells (ints (firstZ (manyL S) (i + 1))))).h mm = some (.cells (ints (firstZ (manyL S) (i + 1)))) := by rw [ASt.set_h, if_pos rfl, hM3]; rfl
  have hdv : ∀ sz j off n, dvv = .sl sz j off n → j ≠ hp ∧ j ≠ mm := fun sz j off n e => by
    have hlen : (devsC S a i).length = i * 6 := devsC_len i
    rcases hO3.1.2 with ⟨_, rfl⟩ | ⟨j', rfl, hj⟩
    · cases e
    · cases e
      refine ⟨?_, ?_⟩
      · rintro rfl
        rw [hj] at hH3
        have := congrArg (fun o : Option AObj => match o with | some (.cells cs) => cs.length | _ => 0) hH3
        simp [hlen] at this
        omega
      · rintro rfl
        rw [hj] at hM3
        have := congrArg (fun o : Option AObj => match o with | some (.cells cs) => cs.length | _ => 0) hM3
        simp [hlen, ints_length, firstZ_len (show i ≤ (manyL S).length by omega)] at this
        omega
  have hO5 : Over st (st3.set mm (.cells (ints (firstZ (manyL S) (i + 1))))) 6 dvv i (devsC S a i) := by
    have hsh : Shows (st3.set mm (.cells (ints (firstZ (manyL S) (i + 1))))) 6 dvv i (devsC S a i) := by
      refine ⟨hO3.1.1, ?_⟩
      rcases hO3.1.2 with h | ⟨j, e, hj⟩
      · exact .inl h
      · exact .inr ⟨j, e, by rw [ASt.set_h, if_neg (hdv _ _ _ _ e).2]; exact hj⟩
    exact ⟨hsh, le_set_new hO3.2.1 hmmS, hO3.2.2⟩
  generalize t5.set mm (.cells (ints (firstZ (manyL S) (i + 1)))) = t6 at hF5
  generalize st3.set mm (.cells (ints (firstZ (manyL S) (i + 1)))) = st5 at hF5 hX5 hH5 hM5 hO5
  clear hF4 hX3 hH3 hM3 hO3 hxt4 hMt hfile f1 f2 f3
  have hxt6 := hF5.le _ _ hX5
  have hHt6 := hF5.le _ _ hH5
  rw [C.q86_c7_w, awp_keep]
  simp only [↓Bp, Bq, Bs, simprocAttr, ↓C.q86_r22_w, C.q86_r22_b, ↓C.q86_c7_w, hHt6, hxt6]
  refine (qnew_spec t6).mono ?_
  rintro r t7 ⟨p, hpf, rfl, rfl⟩
  have hC7 := hF5.port hpf rfl
  have hle7 := ASt.le.new t6 p (.cells [.int .i64 0, .int .i64 0])
  have hxt7 := hle7 _ _ hxt6
  have hHt7 := hle7 _ _ hHt6
  generalize t6.new p (.cells [.int .i64 0, .int .i64 0]) = t7 at hC7 hxt7 hHt7
  simp only [↓Bp, Bq, Bs, simprocAttr, ↓C.q86_r22_w, C.q86_r22_b, ↓C.q86_c7_w, hHt7, hxt7]
  obtain ⟨a', ha'⟩ : ∃ a' : HA, a' = { a with fp := upF a.fp i id, fn := upF a.fn i idn, fs := upF a.fs i ids, pp := upF a.pp i p } := ⟨_, rfl⟩
  rw [← ha'] at hC7
  have hcg : devsC S a' i = devsC S a i := devsC_congr fun j hj => by
    rw [ha']; exact ⟨upF_ne (by omega), upF_ne (by omega)⟩
  have hnewc : devC S a' i = [.int .i64 S.devs[i].clock, .int .i64 S.devs[i].dom, .int .i64 S.devs[i].rst, .int .u32 S.devs[i].clamp, .ptr id 0, .ptr p 0] := by
    rw [devC_eq hil, ha']
    simp only [upF_at]
  refine aop_append_rides HCX.rides hC7 hO5 (by omega) (new := [.int .i64 S.devs[i].clock, .int .i64 S.devs[i].dom, .int .i64 S.devs[i].rst, .int .u32 S.devs[i].clamp, .ptr id 0, .ptr p 0]) (aput_one rfl rfl) rfl rfl (fun _ => rfl) (fun _ => rfl) fun v1 v2 st8 t8 hC8 hO8 hkeep => ?_
  have hH8 : st8.h hp = some (.cells [.ptr tp 0, .ptr gp 0, .ptr lp 0, .nilp, dvv]) := hkeep _ _ hH5 fun sz j off n e => (hdv sz j off n e).1.symm
  have hM8 : st8.h mm = some (.cells (ints (firstZ (manyL S) (i + 1)))) := hkeep _ _ hM5 fun sz j off n e => (hdv sz j off n e).2.symm
  have hHt8 := HCX.rides.le hC8 _ _ hH8
  have hlf : v2.leaf = true := by
    rcases hO8.1.2 with ⟨_, rfl⟩ | ⟨j, rfl, _⟩ <;> rfl
  simp only [↓Bp, Bq, Bs, ↓aop.eq_28, ↓aop.eq_30, simprocAttr, ↓C.q86_r22_w, C.q86_r22_b, ↓C.q86_c7_w, hHt8, hlf, hw]
  rw [C.q86_c6_w, awp_keep]
  simp only [↓Bp, Bq, Bs, ↓aop.eq_28, ↓aop.eq_30, simprocAttr, ↓C.q86_r23_w, C.q86_r23_b, ↓C.q86_c6_w, hw]
  have hC9 := hC8.locSet (ix := hp) (by rw [hH8]; simp) (.cells [.ptr tp 0, .ptr gp 0, .ptr lp 0, .nilp, v2])
  have hlen8 : (devsC S a i ++ [AV.int .i64 S.devs[i].clock, .int .i64 S.devs[i].dom, .int .i64 S.devs[i].rst, .int .u32 S.devs[i].clamp, .ptr id 0, .ptr p 0]).length = i * 6 + 6 := by rw [List.length_append, devsC_len]; rfl
  have hdv8 : ∀ sz j off n, v2 = .sl sz j off n → j ≠ hp := fun sz j off n e => by
    rcases hO8.1.2 with ⟨_, rfl⟩ | ⟨j', rfl, hj⟩
    · cases e
    · cases e
      rintro rfl
      rw [hj] at hH8
      have := congrArg (fun o : Option AObj => match o with | some (.cells cs) => cs.length | _ => 0) hH8
      simp only [hlen8] at this
      simp at this
  have hO9 : Over st (st8.set hp (.cells [.ptr tp 0, .ptr gp 0, .ptr lp 0, .nilp, v2])) 6 v2 (i + 1) (devsC S a' (i + 1)) := by
    rw [devsC_succ, hnewc, hcg]
    have hsh : Shows (st8.set hp (.cells [.ptr tp 0, .ptr gp 0, .ptr lp 0, .nilp, v2])) 6 v2 (i + 1) (devsC S a i ++ [AV.int .i64 S.devs[i].clock, .int .i64 S.devs[i].dom, .int .i64 S.devs[i].rst, .int .u32 S.devs[i].clamp, .ptr id 0, .ptr p 0]) := by
      refine ⟨hO8.1.1, ?_⟩
      rcases hO8.1.2 with h | ⟨j, e, hj⟩
      · exact .inl h
      · exact .inr ⟨j, e, by rw [ASt.set_h, if_neg (hdv8 _ _ _ _ e)]; exact hj⟩
    exact ⟨hsh, le_set_new hO8.2.1 hhpS, hO8.2.2⟩
  refine ⟨i + 1, rfl, ⟨hil, st8.set hp (.cells [.ptr tp 0, .ptr gp 0, .ptr lp 0, .nilp, v2]), a', v2, hC9, hO9, by rw [ha']; exact ea, by rw [ha']; exact et, by rw [ha']; exact eg, by rw [ha']; exact el, by rw [ASt.set_h, if_pos rfl, hH8]; rfl, by rw [ASt.set_h, if_neg (Ne.symm hpm)]; exact hM8⟩, by omega⟩
end
end Go.Proofs.YtdmfgodajoojpaaGreat.Cn
/- The chip: the example of the statements. -/
set_option linter.unusedSimpArgs false
set_option linter.unusedVariables false
set_option maxRecDepth 100000
namespace Go.Proofs.YtdmfgodajoojpaaGreat.Cn
open Go Go.Proofs

def soc12 : Soc := ⟨[⟨111, [], 1, 0, 0, 0⟩], [⟨-1, 0, false⟩], [0], [⟨0, 0, 0, 0, [⟨5, false⟩], []⟩]⟩
theorem soc12_like : soc12.like where
  nc := by decide
  nd := by decide
  nr := by decide
  nv := by decide
  clk := fun i h => by
    have : i = 0 := by simp [soc12] at h; omega
    subst this
    exact .osc 1 (by omega) rfl
  dom := fun i h => by
    have : i = 0 := by simp [soc12] at h; omega
    subst this
    exact ⟨.inl rfl, by simp [soc12]⟩
  rst := fun i h => by
    have : i = 0 := by simp [soc12] at h; omega
    subst this
    simp [soc12]
  dev := fun i h => by
    have : i = 0 := by simp [soc12] at h; omega
    subst this
    exact ⟨by simp [soc12], by simp [soc12], by simp [soc12], by simp [soc12], by simp [soc12], fun u hu => by cases hu⟩
theorem set_as_new {s : ASt} {i : Nat} (o : AObj) (h : s.h i ≠ none) : s.set i o = (s.kill i).new i o := ASt.ext' fun j => by
  rw [ASt.set_h, ASt.new_h, ASt.kill_h]
  by_cases e : j = i
  · subst e
    simp only [if_true]
    cases e0 : s.h j with
    | none => exact absurd e0 h
    | some x => rfl
  · simp only [if_neg e]
    cases s.h j <;> rfl
theorem hshown_spec (st : ASt) : ACalls Tryz.prog F.q7 [] st fun r s => r = .bool true ∧ s = st := by
  refine ACalls.gc (Q' := fun r s => r = .bool true ∧ st.le s) (calls_of_awp L.q7 rfl ?_) (fun v s ⟨h, hl⟩ => ⟨st, hl, h, rfl⟩)
  simp only [↓Bp, Bq, Bs, ↓aop.eq_28, ↓aop.eq_30, simprocAttr, ↓C.q7_r1_w, C.q7_r1_b, ↓C.q7_c7_w, ↓C.q7_r0_w, C.q7_r0_b, C.q7]
  rintro i0 h0 i1 ⟨h1, n10⟩ i2 ⟨⟨h2, n20⟩, n21⟩ i3 ⟨⟨⟨h3, n30⟩, n31⟩, n32⟩ i4 ⟨⟨⟨⟨h4, n40⟩, n41⟩, n42⟩, n43⟩ ib ⟨⟨⟨⟨⟨hb, nb0⟩, nb1⟩, nb2⟩, nb3⟩, nb4⟩
  simp only [↓Bp, Bq, Bs, ↓aop.eq_28, ↓aop.eq_30, simprocAttr, ↓C.q7_r1_w, C.q7_r1_b, ↓C.q7_c7_w, ↓C.q7_r0_w, C.q7_r0_b, C.q7, hb, nb0, nb1, nb2, nb3, nb4, allLeaf, AV.leaf]
  obtain ⟨o0, ho0⟩ : ∃ o, o = AObj.cells [AV.int .u8 111, .nils, .int .u64 1, .int .i64 0, .int .i64 0, .int .i64 0] := ⟨_, rfl⟩
  obtain ⟨o1, ho1⟩ : ∃ o, o = AObj.cells [AV.int .i64 (-1), .int .i64 0, .bool false] := ⟨_, rfl⟩
  obtain ⟨o2, ho2⟩ : ∃ o, o = AObj.cells [AV.int .i64 0] := ⟨_, rfl⟩
  obtain ⟨o3, ho3⟩ : ∃ o, o = AObj.cells [AV.int .u32 5, .bool false] := ⟨_, rfl⟩
  obtain ⟨o4, ho4⟩ : ∃ o, o = AObj.cells [AV.int .i64 0, .int .i64 0, .int .i64 0, .int .u32 0, .sl 2 i3 0 1, .nils] := ⟨_, rfl⟩
  rw [← ho0, ← ho1, ← ho2, ← ho3, ← ho4]
  obtain ⟨s5, hs5⟩ : ∃ s5, s5 = ((((st.new i0 o0).new i1 o1).new i2 o2).new i3 o3).new i4 o4 := ⟨_, rfl⟩
  rw [← hs5]
  have hle : st.le s5 := by rw [hs5]; exact ((((ASt.le.new _ _ _).trans (ASt.le.new _ _ _)).trans (ASt.le.new _ _ _)).trans (ASt.le.new _ _ _)).trans (ASt.le.new _ _ _)
  have hbn : s5.h ib = none := by rw [hs5]; simp [ASt.new_o, hb, nb0, nb1, nb2, nb3, nb4]
  have c0 : s5.h i0 = some o0 := by rw [hs5]; simp [ASt.new_o, h0]
  have c1 : s5.h i1 = some o1 := by rw [hs5]; simp [ASt.new_o, h1, n10]
  have c2 : s5.h i2 = some o2 := by rw [hs5]; simp [ASt.new_o, h2, n20, n21]
  have c3 : s5.h i3 = some o3 := by rw [hs5]; simp [ASt.new_o, h3, n30, n31, n32]
  have c4 : s5.h i4 = some o4 := by rw [hs5]; simp [ASt.new_o, h4, n40, n41, n42, n43]
  rw [ASt.new_set hbn]
  have hr : RepL s5 [.sl 6 i0 0 1, .sl 3 i1 0 1, .sl 1 i2 0 1, .sl 6 i4 0 1] soc12.cells (i0 :: ([] ++ (i1 :: ([] ++ (i2 :: ([] ++ (i4 :: ((i3 :: ([] ++ [])) ++ [])))))))) := by
    refine .sl (L1 := []) (by rw [c0, ho0]; rfl) (.one rfl (.nils 1 (RepL.scalars rfl _))) (by simp) ?_ (by simp) ?_
    · simp [Ne.symm n10, Ne.symm n20, Ne.symm n40, Ne.symm n30]
    refine .sl (L1 := []) (by rw [c1, ho1]; rfl) (RepL.scalars rfl _) (by simp) ?_ (by simp) ?_
    · simp [Ne.symm n21, Ne.symm n41, Ne.symm n31]
    refine .sl (L1 := []) (by rw [c2, ho2]; rfl) (RepL.scalars rfl _) (by simp) ?_ (by simp) ?_
    · simp [Ne.symm n42, Ne.symm n32]
    refine .sl (L1 := [i3]) (by rw [c4, ho4]; rfl) (.one rfl (.one rfl (.one rfl (.one rfl (.sl (L1 := []) (L2 := []) (by rw [c3, ho3]; rfl) (RepL.scalars rfl _) (by simp) (by simp) (by simp) (.nils 1 .nil)))))) ?_ (by simp) (by simp) .nil
    simp [n43]
  have hr2 := hr.le (ASt.le.new s5 ib (.cells [.sl 6 i0 0 1, .sl 3 i1 0 1, .sl 1 i2 0 1, .sl 6 i4 0 1]))
  have hle2 := hle.trans (ASt.le.new s5 ib (.cells [.sl 6 i0 0 1, .sl 3 i1 0 1, .sl 1 i2 0 1, .sl 6 i4 0 1]))
  have hbs := ASt.new_self (.cells [.sl 6 i0 0 1, .sl 3 i1 0 1, .sl 1 i2 0 1, .sl 6 i4 0 1]) hbn
  generalize s5.new ib (.cells [.sl 6 i0 0 1, .sl 3 i1 0 1, .sl 1 i2 0 1, .sl 6 i4 0 1]) = s6 at hr2 hle2 hbs
  have hbL : ib ∉ (i0 :: ([] ++ (i1 :: ([] ++ (i2 :: ([] ++ (i4 :: ((i3 :: ([] ++ [])) ++ [])))))))) := by simp [nb0, nb1, nb2, nb3, nb4]
  have hnL : ∀ j ∈ (i0 :: ([] ++ (i1 :: ([] ++ (i2 :: ([] ++ (i4 :: ((i3 :: ([] ++ [])) ++ [])))))))), st.h j = none := by
    intro j hj
    simp at hj
    rcases hj with rfl | rfl | rfl | rfl | rfl <;> assumption
  have hle3 : st.le (s6.killL (i0 :: ([] ++ (i1 :: ([] ++ (i2 :: ([] ++ (i4 :: ((i3 :: ([] ++ [])) ++ []))))))))) := hle2.killL hnL
  have hbs2 : (s6.killL (i0 :: ([] ++ (i1 :: ([] ++ (i2 :: ([] ++ (i4 :: ((i3 :: ([] ++ [])) ++ []))))))))).h ib ≠ none := by rw [ASt.killL_h, if_neg hbL, hbs]; simp
  simp only [↓Bp, Bq, Bs, ↓aop.eq_28, ↓aop.eq_30, simprocAttr, ↓C.q7_W, C.q7_B, C.q7, hbs]
  refine ACalls.frzBox hr2 hbs hbL ?_
  rw [set_as_new _ hbs2]
  have hle4 : st.le ((s6.killL (i0 :: ([] ++ (i1 :: ([] ++ (i2 :: ([] ++ (i4 :: ((i3 :: ([] ++ [])) ++ []))))))))).kill ib) := fun j o hj => by
    rw [ASt.kill_h, if_neg (by rintro rfl; rw [hb] at hj; cases hj)]; exact hle3 _ _ hj
  refine (hnew (by rw [ASt.kill_h, if_pos rfl]) soc12_like).mono ?_
  rintro r s7 ⟨a, rfl, h⟩
  have h' := h.less hle4
  simp only [↓Bp, Bq, Bs, ↓aop.eq_28, ↓aop.eq_30, simprocAttr, ↓C.q7_W, C.q7_B, C.q7]
  refine (htick h' (fun i hi t ht => by cases ht) (by decide) (by decide) 0).mono ?_
  rintro r s8 ⟨rfl, h8⟩
  simp only [↓Bp, Bq, Bs, ↓aop.eq_28, ↓aop.eq_30, simprocAttr, ↓C.q7_W, C.q7_B, C.q7]
  obtain ⟨T, h9⟩ := h8
  have ha : ((HV.fresh soc12).tick soc12 0).aliveI soc12 0 = false := rfl
  refine (halive h9 0).mono ?_
  rintro r s9 ⟨rfl, rfl⟩
  rw [ha]
  simp only [↓Bp, Bq, Bs, ↓aop.eq_28, ↓aop.eq_30, simprocAttr, ↓C.q7_W, C.q7_B, C.q7]
  have hg : 0 < ((HV.fresh soc12).tick soc12 0).gs.length := by decide
  have hu : upE ((HV.fresh soc12).tick soc12 0).gs 0 hg = 0 := rfl
  have hun := hup_at h9 hg
  rw [hu] at hun
  refine hun.mono ?_
  rintro r s10 ⟨rfl, h10⟩
  simp only [↓Bp, Bq, Bs, ↓aop.eq_28, ↓aop.eq_30, simprocAttr, ↓C.q7_W, C.q7_B, C.q7]
  refine (hrunning h10 0).mono ?_
  rintro r s11 ⟨rfl, rfl⟩
  have hrn : runI ((HV.fresh soc12).tick soc12 0).ns 0 = true := rfl
  simp only [↓Bp, Bq, Bs, ↓aop.eq_28, ↓aop.eq_30, simprocAttr, ↓C.q7_W, C.q7_B, C.q7, hrn]
  exact h10.c.le
end Go.Proofs.YtdmfgodajoojpaaGreat.Cn
/- Channels: the letter of a state (package variable 'letters'). -/
set_option linter.unusedSimpArgs false
set_option linter.unusedVariables false
set_option maxRecDepth 100000
namespace Go.Proofs.YtdmfgodajoojpaaGreat.Cn
open Go Go.Proofs
def letter (x : Int) : Int := if x = 0 then 114 else if x = 1 then 97 else if x = 2 then 115 else 100
end Go.Proofs.YtdmfgodajoojpaaGreat.Cn
/- The chip: a line is asserted; something is posted. -/
set_option linter.unusedSimpArgs false
set_option linter.unusedVariables false
set_option maxRecDepth 100000
namespace Go.Proofs.YtdmfgodajoojpaaGreat.Cn
open Go Go.Proofs

def clrTo (S : Soc) (i : Int) (F : Nat → FSt) (n : Nat) : Nat → FSt := fun j => if j < n then (match S.devs[j]? with | some d => if d.rst = i then (F j).clear d.regs else F j | none => F j) else F j
def clrF (S : Soc) (i : Int) (F : Nat → FSt) : Nat → FSt := clrTo S i F S.devs.length
theorem clrTo_zero (S : Soc) (i : Int) (F : Nat → FSt) : clrTo S i F 0 = F := by funext j; simp [clrTo]
theorem clrTo_succ {S : Soc} {i : Int} {F : Nat → FSt} {n : Nat} (h : n < S.devs.length) : clrTo S i F (n + 1) = if S.devs[n].rst = i then upF (clrTo S i F n) n ((clrTo S i F n n).clear S.devs[n].regs) else clrTo S i F n := by
  have hn : clrTo S i F n n = F n := by simp [clrTo]
  funext j
  by_cases hj : j = n
  · subst hj
    have : clrTo S i F (j + 1) j = if S.devs[j].rst = i then (F j).clear S.devs[j].regs else F j := by
      rw [clrTo, if_pos (by omega), List.getElem?_eq_getElem h]
    rw [this]
    split
    · rw [upF_at, hn]
    · exact hn.symm
  · have e1 : clrTo S i F (n + 1) j = clrTo S i F n j := by
      unfold clrTo
      by_cases h2 : j < n
      · rw [if_pos h2, if_pos (by omega)]
      · rw [if_neg h2, if_neg (by omega)]
    rw [e1]
    split
    · rw [upF_ne hj]
    · rfl
section
variable {st s s' : ASt} {ib : Nat} {a : HA} {T : Nat → Nat} {S : Soc} {v : HV}
theorem hassert_none (h : HX st s ib a S v) {i : Int} (hi : ¬ isLn v.ls i) : ACalls Tryz.prog F.q73 [.ptr a.hp 0, .int .i64 i] s fun r s' => r = .int .i64 4 ∧ s' = s := by
  obtain ⟨T, h⟩ := h
  have hself : s.set a.lm (lnsE v.ls) = s := ASt.set_same h.c.lines.hm
  have e0 : assertL v.ls i = v.ls := by unfold assertL; rw [if_neg hi]
  have e1 : assertE v.ls i = 4 := by unfold assertE; rw [if_neg hi]
  refine calls_of_awp L.q73 rfl ?_
  simp only [↓Bp, Bq, Bs, ↓aop.eq_28, ↓aop.eq_30, simprocAttr, ↓C.q73_W, C.q73_B, C.q73]
  refine (hmade h).mono ?_
  rintro r u ⟨rfl, rfl⟩
  simp only [↓Bp, Bq, Bs, ↓aop.eq_28, ↓aop.eq_30, simprocAttr, ↓C.q73_W, C.q73_B, C.q73, h.hh]
  refine (assert_spec h.c.lines i).mono ?_
  rintro r u ⟨rfl, rfl⟩
  rw [e0, e1, hself]
  simp only [↓Bp, Bq, Bs, ↓aop.eq_28, ↓aop.eq_30, simprocAttr, ↓C.q73_W, C.q73_B, C.q73]
set_option maxHeartbeats 1000000 in
theorem hassert (h : HX st s ib a S v) (hd4 : S.devs.length ≤ 4) {i : Int} (hi : isLn v.ls i) : ACalls Tryz.prog F.q73 [.ptr a.hp 0, .int .i64 i] s fun r s' => r = .int .i64 0 ∧ HX st s' ib a S { v with ls := assertL v.ls i, F := clrF S i v.F } := by
  obtain ⟨T, h⟩ := h
  have e1 : assertE v.ls i = 0 := by unfold assertE; rw [if_pos hi]
  refine calls_of_awp L.q73 rfl ?_
  simp only [↓Bp, Bq, Bs, ↓aop.eq_28, ↓aop.eq_30, simprocAttr, ↓C.q73_W, C.q73_B, C.q73]
  refine (hmade h).mono ?_
  rintro r u ⟨rfl, rfl⟩
  simp only [↓Bp, Bq, Bs, ↓aop.eq_28, ↓aop.eq_30, simprocAttr, ↓C.q73_r12_w, C.q73_r12_b, ↓C.q73_c1_w, ↓C.q73_r11_w, C.q73_r11_b, ↓C.q73_c2_w, ↓C.q73_r10_w, C.q73_r10_b, ↓C.q73_c3_w, ↓C.q73_r9_w, C.q73_r9_b, ↓C.q73_c4_w, ↓C.q73_r8_w, C.q73_r8_b, ↓C.q73_b5_w, ↓C.q73_c6_w, ↓C.q73_c7_w, ↓C.q73_r7_w, C.q73_r7_b, ↓C.q73_b9_w, ↓C.q73_c10_w, ↓C.q73_r6_w, C.q73_r6_b, ↓C.q73_c11_w, ↓C.q73_r3_w, C.q73_r3_b, ↓C.q73_c15_w, ↓C.q73_r2_w, C.q73_r2_b, ↓C.q73_c16_w, ↓C.q73_c17_w, ↓C.q73_r1_w, C.q73_r1_b, ↓C.q73_c18_w, ↓C.q73_r0_w, C.q73_r0_b, C.q73, h.hh]
  refine (assert_spec h.c.lines i).mono ?_
  rintro r u2 ⟨rfl, rfl⟩
  rw [e1]
  have h2 := h.putLines (h.c.linv.assert i)
  generalize u.set a.lm (lnsE (assertL v.ls i)) = u2 at h2
  simp only [↓Bp, Bq, Bs, ↓aop.eq_28, ↓aop.eq_30, simprocAttr, ↓C.q73_r11_w, C.q73_r11_b, ↓C.q73_c2_w, ↓C.q73_r10_w, C.q73_r10_b, ↓C.q73_c3_w, ↓C.q73_r9_w, C.q73_r9_b, ↓C.q73_c4_w, ↓C.q73_r8_w, C.q73_r8_b, ↓C.q73_b5_w, ↓C.q73_c6_w, ↓C.q73_c7_w, ↓C.q73_r7_w, C.q73_r7_b, ↓C.q73_b9_w, ↓C.q73_c10_w, ↓C.q73_r6_w, C.q73_r6_b, ↓C.q73_c11_w, ↓C.q73_r5_w, C.q73_r5_b, ↓C.q73_c12_w, ↓C.q73_c13_w, ↓C.q73_r4_w, C.q73_r4_b, ↓C.q73_c14_w, ↓C.q73_r3_w, C.q73_r3_b, ↓C.q73_c15_w, ↓C.q73_r2_w, C.q73_r2_b, ↓C.q73_c16_w, ↓C.q73_c17_w, ↓C.q73_r1_w, C.q73_r1_b, ↓C.q73_c18_w, ↓C.q73_r0_w, C.q73_r0_b, C.q73, h2.hh]
  refine awp_midB (fun _ : Unit => []) (fun _ t => HX st t ib a S { v with ls := assertL v.ls i, F := clrF S i v.F }) ?_ ?_
  rotate_left
  · rintro - t ht
    simp only [↓Bp, Bq, Bs, ↓aop.eq_28, ↓aop.eq_30, simprocAttr, ↓C.q73_W, C.q73_B, C.q73]
    exact ht
  refine awp_loopK (fun j : Nat => [(1, .int .i64 i), (23, .sl 6 a.dv 0 S.devs.length), (24, .int .i64 S.devs.length), (25, .int .i64 j)]) (fun j t => j ≤ S.devs.length ∧ HX st t ib a S { v with ls := assertL v.ls i, F := clrTo S i v.F j }) (fun j => S.devs.length - j) 0 rfl ⟨Nat.zero_le _, T, by rw [clrTo_zero]; exact h2⟩ ?_
  clear h2 h
  rintro j t ⟨hj, h⟩
  by_cases hil : j < S.devs.length
  rotate_left
  · have hie : j = S.devs.length := by omega
    subst hie
    have hil' : ¬ ((S.devs.length : Nat) : Int) < (S.devs.length : Nat) := by omega
    simp only [↓Bp, Bq, Bs, ↓aop.eq_28, ↓aop.eq_30, simprocAttr, ↓C.q73_W, C.q73_B, C.q73, hil']
    exact ⟨(), h⟩
  have hil' : (j : Int) < (S.devs.length : Nat) := by omega
  have hw := wsucc hil (by omega)
  have hz : (0:Int) ≤ (j : Int) ∧ (j : Int) < (S.devs.length : Int) := by omega
  have hfit := devsC_fit (a := a) hil
  have hat := devsC_at (a := a) hil
  rw [devC_eq hil] at hat
  obtain ⟨T, h2⟩ := h
  simp only [↓Bp, Bq, Bs, ↓aop.eq_28, ↓aop.eq_30, simprocAttr, ↓C.q73_r11_w, C.q73_r11_b, ↓C.q73_c2_w, ↓C.q73_r8_w, C.q73_r8_b, ↓C.q73_b5_w, ↓C.q73_c6_w, ↓C.q73_c7_w, ↓C.q73_r7_w, C.q73_r7_b, hil', hz, h2.devs, Int.toNat_natCast, hfit, hat]
  intro ix hix
  simp only [↓Bp, Bq, Bs, ↓aop.eq_28, ↓aop.eq_30, simprocAttr, ↓C.q73_r11_w, C.q73_r11_b, ↓C.q73_c2_w, ↓C.q73_r8_w, C.q73_r8_b, ↓C.q73_b5_w, ↓C.q73_c6_w, ↓C.q73_c7_w, ↓C.q73_r7_w, C.q73_r7_b, hix, allLeaf, AV.leaf]
  rw [ASt.new_set hix]
  obtain ⟨h3, hxx, hle⟩ := HX.box ⟨T, h2⟩ hix (.cells [.int .i64 S.devs[j].clock, .int .i64 S.devs[j].dom, .int .i64 S.devs[j].rst, .int .u32 S.devs[j].clamp, .ptr (a.fp j) 0, .ptr (a.pp j) 0])
  generalize t.new ix (.cells [.int .i64 S.devs[j].clock, .int .i64 S.devs[j].dom, .int .i64 S.devs[j].rst, .int .u32 S.devs[j].clamp, .ptr (a.fp j) 0, .ptr (a.pp j) 0]) = u at h3
  generalize st.new ix (.cells [.int .i64 S.devs[j].clock, .int .i64 S.devs[j].dom, .int .i64 S.devs[j].rst, .int .u32 S.devs[j].clamp, .ptr (a.fp j) 0, .ptr (a.pp j) 0]) = st2 at h3 hxx hle
  have hxu := h3.le _ _ hxx
  have hsucc := clrTo_succ (i := i) (F := v.F) hil
  by_cases hdm : S.devs[j].rst = i
  · rw [if_pos hdm] at hsucc
    obtain ⟨T3, h4⟩ := h3
    rw [hdm] at hxu
    simp only [↓Bp, Bq, Bs, ↓aop.eq_28, ↓aop.eq_30, simprocAttr, ↓C.q73_W, C.q73_B, C.q73, hxu]
    refine (clear_f (file_at h4 hil)).mono ?_
    rintro r t' ⟨q1, q2⟩
    simp only [↓Bp, Bq, Bs, ↓aop.eq_28, ↓aop.eq_30, simprocAttr, ↓C.q73_W, C.q73_B, C.q73, hw]
    refine ⟨j + 1, rfl, ⟨hil, ?_⟩, by omega⟩
    rw [hsucc]
    exact HX.less ⟨T3, h4.putFile hil (f := ((clrTo S i v.F j) j).clear S.devs[j].regs) q2 q1⟩ hle
  · rw [if_neg hdm] at hsucc
    simp only [↓Bp, Bq, Bs, ↓aop.eq_28, ↓aop.eq_30, simprocAttr, ↓C.q73_W, C.q73_B, C.q73, hxu, hdm, hw]
    refine ⟨j + 1, rfl, ⟨hil, ?_⟩, by omega⟩
    rw [hsucc]
    exact h3.less hle
end
end Go.Proofs.YtdmfgodajoojpaaGreat.Cn
/- The chip: HardLives. -/
set_option linter.unusedSimpArgs false
set_option linter.unusedVariables false
set_option maxRecDepth 100000
namespace Go.Proofs.YtdmfgodajoojpaaGreat.Cn
open Go Go.Proofs

abbrev shActs : Sh := .slice (.strct (.cons (.int .i64) (.cons (.int .i64) (.cons (.int .i64) (.cons (.int .u32) .unit)))))
structure HAct where
  op : Int
  i : Int
  k : Int
  v : Int
def encAct (p : HAct) : List AV := [.int .i64 p.op, .int .i64 p.i, .int .i64 p.k, .int .u32 p.v]
theorem argActs {a : AV} (h : shActs.Arg a) : ∃ l : List HAct, a = .isl 4 (l.flatMap encAct) l.length ∧ (∀ x ∈ l, I64 x.op ∧ I64 x.i ∧ I64 x.k) ∧ l.length ≤ maxLen := by
  obtain ⟨l, h1, h2, h3⟩ := slice_arg encAct (fun x => I64 x.op ∧ I64 x.i ∧ I64 x.k) (fun cs hc => by
    obtain ⟨x, y, rfl, ⟨n, rfl, hn⟩, ⟨z, w, rfl, ⟨m, rfl, hm⟩, ⟨u, v, rfl, ⟨q, rfl, hq⟩, ⟨r, s, rfl, ⟨p, rfl, hp⟩, rfl⟩⟩⟩⟩ := hc
    exact ⟨⟨n, m, q, p⟩, rfl, wf_i64 hn, wf_i64 hm, wf_i64 hq⟩) h
  exact ⟨l, h1, h2, h3⟩
theorem run_chain {ns : List Nd} (hN : NsOk ns) : ∀ x : Nat, x < ns.length → run ns x = true → ∀ y ∈ chainN ns x, run ns y = true ∧ y < ns.length := by
  intro x
  induction x using Nat.strongRecOn with
  | _ x ih =>
  intro hx hr y hy
  rw [chainN_eq hN hx] at hy
  by_cases hk : ns[x].c.kind = 111
  · rw [if_pos hk, List.mem_singleton] at hy
    rw [hy]; exact ⟨hr, hx⟩
  · obtain ⟨z, e1, e2, _⟩ := (hN x hx).low hk
    rw [if_neg hk, e1, Int.toNat_natCast, List.mem_append, List.mem_singleton] at hy
    rcases hy with hy | rfl
    · rw [run_eq hN hx, if_neg hk, e1, Int.toNat_natCast, Bool.and_eq_true] at hr
      exact ih z e2 (by omega) hr.2 y hy
    · exact ⟨hr, hx⟩
theorem awp_midBB {P : Program} {a c : ICode} {ks : List Nat} {i j : Nat} {Q1 Q2 : IExit → AFr → ASt → Prop} {fr : AFr} {st : ASt} {σ : Type} (F : σ → AFr) (I : σ → ASt → Prop)
    (h1 : awp P a (IExit.inBlock i (IExit.inBlock j (IExit.then (fun fr st => ∃ s, fr.keep ks = F s ∧ I s st) Q2))) fr st) (h2 : ∀ s st, I s st → awp P c Q1 (F s) st) :
    awp P a (IExit.inBlock i (IExit.inBlock j (IExit.then (awp P (.keep ks c) Q1) Q2))) fr st := by
  refine awp_mono a (fun e fr st h => ?_) h1
  have hn : ∀ fr st, (∃ s, fr.keep ks = F s ∧ I s st) → awp P (.keep ks c) Q1 fr st := by
    rintro fr st ⟨s, e1, e2⟩
    rw [awp_keep, e1]; exact h2 s st e2
  cases e with
  | normal => exact hn _ _ h
  | exit k =>
    simp only [IExit.inBlock] at h ⊢
    split
    · rename_i e; rw [if_pos e] at h; exact hn _ _ h
    · rename_i e
      rw [if_neg e] at h
      split
      · rename_i e; rw [if_pos e] at h; exact hn _ _ h
      · rename_i e; rw [if_neg e] at h; exact h
  | ret => exact h
section
variable {st s s' : ASt} {ib : Nat} {a : HA} {S : Soc} {v : HV}
def HV.idle (v : HV) : Prop := ∀ i, v.Q i = []
theorem HV.idle.ok (h : v.idle) : QOk S v.Q := fun i hi t ht => by rw [h i] at ht; cases ht
theorem HV.idle.tick (h : v.idle) (d : Int) : (v.tick S d).idle := fun i => by
  show (if i < S.devs.length then (v.Q i).tail else v.Q i) = []
  rw [h i]; split <;> rfl
def Live (st : ASt) (ib : Nat) (a : HA) (S : Soc) (t : ASt) : Prop := ∃ v, HX st t ib a S v ∧ v.idle
theorem lives_gate {i : Int} {b : Bool} (h : Live st ib a S s) : ACalls Tryz.prog F.q76 [.ptr a.hp 0, .int .i64 i, .bool b] s fun _ s' => Live st ib a S s' := by
  obtain ⟨v, ⟨T, h⟩, hq⟩ := h
  by_cases hi : isCk v.ns i
  · obtain ⟨n, rfl⟩ : ∃ n : Nat, i = (n : Int) := ⟨i.toNat, by have := hi.1; omega⟩
    refine (hgate_at h (i := n) (by have := hi.2; omega) b).mono fun r s' ⟨_, h2⟩ => ⟨_, ⟨T, h2⟩, hq⟩
  · exact (hgate_none h hi b).mono fun r s' ⟨_, e⟩ => ⟨v, ⟨T, by rw [e]; exact h⟩, hq⟩
theorem lives_up {i : Int} (h : Live st ib a S s) : ACalls Tryz.prog F.q82 [.ptr a.hp 0, .int .i64 i] s fun _ s' => Live st ib a S s' := by
  obtain ⟨v, ⟨T, h⟩, hq⟩ := h
  by_cases hi : isGd v.gs i
  · obtain ⟨n, rfl⟩ : ∃ n : Nat, i = (n : Int) := ⟨i.toNat, by have := hi.1; omega⟩
    refine (hup_at h (i := n) (by have := hi.2; omega)).mono fun r s' ⟨_, h2⟩ => ⟨_, ⟨T, h2⟩, hq⟩
  · exact (hup_none h hi).mono fun r s' ⟨_, e⟩ => ⟨v, ⟨T, by rw [e]; exact h⟩, hq⟩
theorem lives_down {i : Int} {b : Bool} (h : Live st ib a S s) : ACalls Tryz.prog F.q75 [.ptr a.hp 0, .int .i64 i, .bool b] s fun _ s' => Live st ib a S s' := by
  obtain ⟨v, ⟨T, h⟩, hq⟩ := h
  by_cases hi : isGd v.gs i
  · obtain ⟨n, rfl⟩ : ∃ n : Nat, i = (n : Int) := ⟨i.toNat, by have := hi.1; omega⟩
    refine (hdown_at h (i := n) (by have := hi.2; omega) b).mono fun r s' ⟨_, h2⟩ => ⟨_, ⟨T, h2⟩, hq⟩
  · exact (hdown_none h hi b).mono fun r s' ⟨_, e⟩ => ⟨v, ⟨T, by rw [e]; exact h⟩, hq⟩
theorem lives_assert {i : Int} (hd4 : S.devs.length ≤ 4) (h : Live st ib a S s) : ACalls Tryz.prog F.q73 [.ptr a.hp 0, .int .i64 i] s fun _ s' => Live st ib a S s' := by
  obtain ⟨v, h, hq⟩ := h
  by_cases hi : isLn v.ls i
  · exact (hassert h hd4 hi).mono fun r s' ⟨_, h2⟩ => ⟨_, h2, hq⟩
  · exact (hassert_none h hi).mono fun r s' ⟨_, e⟩ => ⟨v, by rw [e]; exact h, hq⟩
theorem lives_release {i : Int} (h : Live st ib a S s) : ACalls Tryz.prog F.q79 [.ptr a.hp 0, .int .i64 i] s fun _ s' => Live st ib a S s' := by
  obtain ⟨v, ⟨T, h⟩, hq⟩ := h
  exact (hrelease h i).mono fun r s' ⟨_, h2⟩ => ⟨_, ⟨T, h2⟩, hq⟩
theorem lives_tick {d : Int} (hd4 : S.devs.length ≤ 4) (hr : S.rsts.length ≤ 1000) (h : Live st ib a S s) : ACalls Tryz.prog F.q81 [.ptr a.hp 0, .int .u32 d] s fun _ s' => Live st ib a S s' := by
  obtain ⟨v, h, hq⟩ := h
  exact (htick h hq.ok hd4 hr d).mono fun r s' ⟨_, h2⟩ => ⟨_, h2, hq.tick d⟩
theorem Live.less {st1 : ASt} (h : Live st ib a S s) (hl : st1.le st) : Live st1 ib a S s := h.imp fun _ h => ⟨h.1.less hl, h.2⟩
end
set_option maxHeartbeats 1000000 in
theorem lives_c14 {st t : ASt} {ib iy d ck : Nat} {a : HA} {S : Soc} {v : HV} {x1 x9 : AV} {Q : IExit → AFr → ASt → Prop} (h : HX st t ib a S v) (hk : S.like) (hd : d < S.devs.length) (hy : st.h iy = some (.cells S.devs[d].cells)) (hck : S.devs[d].clock = (ck : Int))
    (hQ : ∀ fr : AFr, fr.keep [1, 6, 7, 9, 13] = [(1, x1), (6, .ptr ib 0), (7, .ptr a.hp 0), (9, x9), (13, .int .i64 d)] → Q .normal fr t) :
    awp Tryz.prog C.q4_c14 Q [(1, x1), (6, .ptr ib 0), (7, .ptr a.hp 0), (9, x9), (13, .int .i64 d), (14, .ptr iy 0)] t := by
  have hyt := h.le _ _ hy
  rw [Dev.cells, hck] at hyt
  obtain ⟨T, h⟩ := h
  have hN := h.c.kof.ok
  have hckl : ck < v.ns.length := by rw [h.c.kof.len]; have := (hk.dev d hd).clock; omega
  have hl := chainN_len hN ck hckl
  have hnl := h.c.kof.len
  have h9 := hk.nc
  simp only [↓Bp, Bq, Bs, ↓aop.eq_28, ↓aop.eq_30, simprocAttr, ↓C.q4_b11_w, ↓C.q4_c12_w, ↓C.q4_r30_w, C.q4_r30_b, ↓C.q4_c13_w, ↓C.q4_r29_w, C.q4_r29_b, ↓C.q4_c14_w, hyt]
  refine (hchain h hckl).mono ?_
  rintro r t2 ⟨rfl, rfl⟩
  obtain ⟨c, hc⟩ : ∃ c, c = chainN v.ns ck := ⟨_, rfl⟩
  rw [← hc] at hl ⊢
  simp only [↓Bp, Bq, Bs, ↓aop.eq_28, ↓aop.eq_30, simprocAttr, ↓C.q4_b11_w, ↓C.q4_c12_w, ↓C.q4_r30_w, C.q4_r30_b, ↓C.q4_c13_w, ↓C.q4_r29_w, C.q4_r29_b, ↓C.q4_c14_w]
  refine awp_mono _ (Q := IExit.inBlock 5 (IExit.then (fun fr' t' => ∃ _ : Unit, fr'.keep [1, 6, 7, 9, 13] = [(1, x1), (6, .ptr ib 0), (7, .ptr a.hp 0), (9, x9), (13, .int .i64 d)] ∧ t' = t2) (fun _ _ _ => False))) (fun e fr t x => ?_) ?_
  · cases e with
    | normal => obtain ⟨_, h1, h2⟩ := x; subst h2; exact hQ fr h1
    | ret => exact x.elim
    | exit i =>
      by_cases e : i = 5
      · subst e
        simp only [IExit.inBlock, if_true] at x ⊢
        obtain ⟨_, h1, h2⟩ := x; subst h2; exact hQ fr h1
      · simp only [IExit.inBlock, if_neg e] at x
        exact x.elim
  refine awp_loopK (fun j : Nat => [(1, x1), (6, .ptr ib 0), (7, .ptr a.hp 0), (9, x9), (13, .int .i64 d), (15, row (nats c)), (16, .int .i64 j)]) (fun j t => j ≤ c.length ∧ t = t2) (fun j => c.length - j) 0 rfl ⟨Nat.zero_le _, rfl⟩ ?_
  clear hQ
  rintro j t ⟨hj, rfl⟩
  have hrw : row (nats c) = .isl 1 (ints (nats c)) c.length := by rw [row, nats_length]
  by_cases hjl : j < c.length
  rotate_left
  · have hjl' : ¬ (j : Int) < ((c.length : Nat) : Int) := by omega
    simp only [↓Bp, Bq, Bs, ↓aop.eq_28, ↓aop.eq_30, simprocAttr, ↓C.q4_r32_w, C.q4_r32_b, ↓C.q4_c4_w, ↓C.q4_r34_w, C.q4_r34_b, ↓C.q4_c5_w, ↓C.q4_c6_w, ↓C.q4_r33_w, C.q4_r33_b, ↓C.q4_b7_w, ↓C.q4_c8_w, ↓C.q4_c9_w, ↓C.q4_r31_w, C.q4_r31_b, hrw, hjl']
    exact ⟨(), trivial⟩
  have hjl' : (j : Int) < ((c.length : Nat) : Int) := by omega
  have hw := wsucc hjl (by omega)
  have hz : (0:Int) ≤ (j : Int) ∧ (j : Int) < ((c.length : Nat) : Int) := by omega
  have hg : (ints (nats c))[j]? = some (.int .i64 (c[j] : Nat)) := by rw [ints_get (by rw [nats_length]; exact hjl)]; simp [nats]
  have hal : v.aliveI S (d : Int) = (runI v.ns S.devs[d].clock && (decide (phI v.gs S.devs[d].dom = 49) && !heldI v.ls S.devs[d].rst)) := by
    rw [HV.aliveI, Int.toNat_natCast, alive_at hd]; simp
  simp only [↓Bp, Bq, Bs, ↓aop.eq_28, ↓aop.eq_30, simprocAttr, ↓C.q4_r32_w, C.q4_r32_b, ↓C.q4_c4_w, ↓C.q4_r34_w, C.q4_r34_b, ↓C.q4_c5_w, ↓C.q4_c6_w, ↓C.q4_r33_w, C.q4_r33_b, ↓C.q4_b7_w, ↓C.q4_c8_w, ↓C.q4_c9_w, ↓C.q4_r31_w, C.q4_r31_b, hrw, hjl']
  refine (halive h d).mono ?_
  rintro r t3 ⟨rfl, rfl⟩
  cases hd2 : v.aliveI S (d : Int)
  · simp only [↓Bp, Bq, Bs, ↓aop.eq_28, ↓aop.eq_30, simprocAttr, ↓C.q4_r32_w, C.q4_r32_b, ↓C.q4_c4_w, ↓C.q4_r34_w, C.q4_r34_b, ↓C.q4_c5_w, ↓C.q4_c6_w, ↓C.q4_r33_w, C.q4_r33_b, ↓C.q4_b7_w, ↓C.q4_c8_w, ↓C.q4_c9_w, ↓C.q4_r31_w, C.q4_r31_b, hw]
    exact ⟨j + 1, rfl, hjl, by omega⟩
  · rw [hd2] at hal
    have hr : runI v.ns S.devs[d].clock = true := by
      have := hal.symm
      rw [Bool.and_eq_true] at this; exact this.1
    rw [hck, runI, if_pos (isCk_at hckl), Int.toNat_natCast] at hr
    have hm := run_chain hN ck hckl hr c[j] (by rw [← hc]; exact List.getElem_mem hjl)
    have hrc : runI v.ns ((c[j] : Nat) : Int) = true := by rw [runI, if_pos (isCk_at hm.2), Int.toNat_natCast]; exact hm.1
    simp only [↓Bp, Bq, Bs, ↓aop.eq_28, ↓aop.eq_30, simprocAttr, ↓C.q4_r32_w, C.q4_r32_b, ↓C.q4_c4_w, ↓C.q4_r34_w, C.q4_r34_b, ↓C.q4_c5_w, ↓C.q4_c6_w, ↓C.q4_r33_w, C.q4_r33_b, ↓C.q4_b7_w, ↓C.q4_c8_w, ↓C.q4_c9_w, ↓C.q4_r31_w, C.q4_r31_b, hrw, hz, Int.toNat_natCast, Nat.mul_one, hg]
    refine (hrunning h (c[j] : Nat)).mono ?_
    rintro r t4 ⟨rfl, rfl⟩
    rw [hrc]
    simp only [↓Bp, Bq, Bs, ↓aop.eq_28, ↓aop.eq_30, simprocAttr, ↓C.q4_r32_w, C.q4_r32_b, ↓C.q4_c4_w, ↓C.q4_r34_w, C.q4_r34_b, ↓C.q4_c5_w, ↓C.q4_c6_w, ↓C.q4_r33_w, C.q4_r33_b, ↓C.q4_b7_w, ↓C.q4_c8_w, ↓C.q4_c9_w, ↓C.q4_r31_w, C.q4_r31_b, hw]
    exact ⟨j + 1, rfl, hjl, by omega⟩
set_option maxHeartbeats 2000000 in
theorem hardlives_spec {st : ASt} {l : List Int} {A : List HAct} (hl : ∀ x ∈ l, -9223372036854775808 ≤ x ∧ x ≤ 9223372036854775807) (hll : l.length ≤ 9223372036854775807) (hA : ∀ x ∈ A, I64 x.op ∧ I64 x.i ∧ I64 x.k) (hAl : A.length ≤ 9223372036854775807) :
    ACalls Tryz.prog F.q4 [row l, .isl 4 (A.flatMap encAct) A.length] st fun r _ => r = .bool true := by
  refine calls_of_awp L.q4 rfl ?_
  simp only [↓Bp, Bq, Bs, ↓aop.eq_28, ↓aop.eq_30, simprocAttr, ↓C.q4_W, C.q4_B, C.q4]
  refine (hshown_spec st).mono ?_
  rintro r s ⟨rfl, rfl⟩
  simp only [↓Bp, Bq, Bs, ↓aop.eq_28, ↓aop.eq_30, simprocAttr, ↓C.q4_r2_w, C.q4_r2_b, ↓C.q4_c55_w, ↓C.q4_r1_w, C.q4_r1_b, ↓C.q4_c56_w, ↓C.q4_r0_w, C.q4_r0_b, C.q4]
  refine (chip_frz hl hll).mono ?_
  rintro r s2 ⟨rfl, rfl⟩
  have hk := chipS_like l
  generalize chipS l = S at hk
  have hs := hk.sane
  have n1 := hk.nc; have n2 := hk.nd; have n3 := hk.nr; have n4 := hk.nv
  have lc : S.cells.length = 4 := rfl
  have lf : allLeaf S.cells = true := rfl
  have e4 : AV.agg (List.take 4 S.cells) = .agg S.cells := rfl
  simp only [↓Bp, Bq, Bs, ↓aop.eq_28, ↓aop.eq_30, simprocAttr, ↓C.q4_r2_w, C.q4_r2_b, ↓C.q4_c55_w, ↓C.q4_r1_w, C.q4_r1_b, ↓C.q4_c56_w, ↓C.q4_r0_w, C.q4_r0_b, C.q4]
  rintro ib hib
  simp only [↓Bp, Bq, Bs, ↓aop.eq_28, ↓aop.eq_30, simprocAttr, ↓C.q4_r2_w, C.q4_r2_b, ↓C.q4_c55_w, ↓C.q4_r1_w, C.q4_r1_b, ↓C.q4_c56_w, ↓C.q4_r0_w, C.q4_r0_b, C.q4, hib, lc, lf]
  rw [ASt.new_set hib, show putN [AV.nils, AV.nils, AV.nils, AV.nils] 0 S.cells = S.cells from putN_all rfl]
  have hb := ASt.new_self (.cells S.cells) hib
  have hnw := hnew hib hk
  generalize s2.new ib (.cells S.cells) = u at hb hnw
  simp only [↓Bp, Bq, Bs, ↓aop.eq_28, ↓aop.eq_30, simprocAttr, ↓C.q4_r3_w, C.q4_r3_b, ↓C.q4_c54_w, ↓C.q4_r2_w, C.q4_r2_b, ↓C.q4_c55_w, ↓C.q4_r1_w, C.q4_r1_b, ↓C.q4_c56_w, ↓C.q4_r0_w, C.q4_r0_b, C.q4, hb, lc, e4]
  refine hnw.mono ?_
  rintro r s3 ⟨a, rfl, h3⟩
  by_cases hA120 : 120 < A.length
  · have h120 : (120 : Int) < (A.length : Nat) := by omega
    simp only [↓Bp, Bq, Bs, ↓aop.eq_28, ↓aop.eq_30, simprocAttr, ↓C.q4_W, C.q4_B, C.q4, h120, gt_iff_lt]
  have h120 : ¬ (120 : Int) < (A.length : Nat) := by omega
  simp only [↓Bp, Bq, Bs, ↓aop.eq_28, ↓aop.eq_30, simprocAttr, ↓C.q4_r5_w, C.q4_r5_b, ↓C.q4_c51_w, ↓C.q4_c52_w, ↓C.q4_r4_w, C.q4_r4_b, ↓C.q4_c53_w, ↓C.q4_r3_w, C.q4_r3_b, ↓C.q4_c54_w, ↓C.q4_r2_w, C.q4_r2_b, ↓C.q4_c55_w, ↓C.q4_r1_w, C.q4_r1_b, ↓C.q4_c56_w, ↓C.q4_r0_w, C.q4_r0_b, C.q4, h120, gt_iff_lt]
  rw [C.q4_c50_w, awp_keep]
  simp only [↓Bp, Bq, Bs, ↓aop.eq_28, ↓aop.eq_30, simprocAttr, ↓C.q4_r8_w, C.q4_r8_b, ↓C.q4_c2_w, ↓C.q4_r25_w, C.q4_r25_b, ↓C.q4_c3_w, ↓C.q4_r32_w, C.q4_r32_b, ↓C.q4_c4_w, ↓C.q4_r34_w, C.q4_r34_b, ↓C.q4_c5_w, ↓C.q4_c6_w, ↓C.q4_r33_w, C.q4_r33_b, ↓C.q4_b7_w, ↓C.q4_c8_w, ↓C.q4_c9_w, ↓C.q4_r31_w, C.q4_r31_b, ↓C.q4_b11_w, ↓C.q4_c12_w, ↓C.q4_r30_w, C.q4_r30_b, ↓C.q4_c13_w, ↓C.q4_r29_w, C.q4_r29_b, ↓C.q4_c14_w, ↓C.q4_r28_w, C.q4_r28_b, ↓C.q4_c15_w, ↓C.q4_c16_w, ↓C.q4_r27_w, C.q4_r27_b, ↓C.q4_c17_w, ↓C.q4_r26_w, C.q4_r26_b, ↓C.q4_b18_w, ↓C.q4_c19_w, ↓C.q4_c20_w, ↓C.q4_r24_w, C.q4_r24_b, ↓C.q4_b22_w, ↓C.q4_c23_w, ↓C.q4_r23_w, C.q4_r23_b, ↓C.q4_c24_w, ↓C.q4_r14_w, C.q4_r14_b, ↓C.q4_r16_w, C.q4_r16_b, ↓C.q4_r18_w, C.q4_r18_b, ↓C.q4_r20_w, C.q4_r20_b, ↓C.q4_r22_w, C.q4_r22_b, ↓C.q4_r12_w, C.q4_r12_b, ↓C.q4_c25_w, ↓C.q4_c26_w, ↓C.q4_c27_w, ↓C.q4_r21_w, C.q4_r21_b, ↓C.q4_c28_w, ↓C.q4_c29_w, ↓C.q4_c30_w, ↓C.q4_r19_w, C.q4_r19_b, ↓C.q4_c31_w, ↓C.q4_c32_w, ↓C.q4_c33_w, ↓C.q4_r17_w, C.q4_r17_b, ↓C.q4_c34_w, ↓C.q4_c35_w, ↓C.q4_c36_w, ↓C.q4_r15_w, C.q4_r15_b, ↓C.q4_c37_w, ↓C.q4_c38_w, ↓C.q4_c39_w, ↓C.q4_r13_w, C.q4_r13_b, ↓C.q4_b40_w, ↓C.q4_c41_w, ↓C.q4_r11_w, C.q4_r11_b, ↓C.q4_c42_w, ↓C.q4_r10_w, C.q4_r10_b, ↓C.q4_c43_w, ↓C.q4_r9_w, C.q4_r9_b, ↓C.q4_b44_w, ↓C.q4_c45_w, ↓C.q4_c46_w, ↓C.q4_r7_w, C.q4_r7_b, ↓C.q4_b48_w, ↓C.q4_c49_w, ↓C.q4_r6_w, C.q4_r6_b, ↓C.q4_c50_w]
  refine awp_midB (fun _ : Unit => [(6, .ptr ib 0), (7, .ptr a.hp 0)]) (fun _ t => Live s2 ib a S t) ?_ ?_
  rotate_left
  · rintro - t ⟨v, ⟨T, h⟩, hq⟩
    have hbt := h.c.hb
    rw [Soc.cells, Soc.clkV, Soc.domV, Soc.rstV, Soc.devV] at hbt
    simp only [↓Bp, Bq, Bs, ↓aop.eq_28, ↓aop.eq_30, simprocAttr, ↓C.q4_W, C.q4_B, C.q4]
    refine (halive h (-1)).mono ?_
    rintro r t2 ⟨rfl, rfl⟩
    have e1 : v.aliveI S (-1) = false := rfl
    rw [e1]
    simp only [↓Bp, Bq, Bs, ↓aop.eq_28, ↓aop.eq_30, simprocAttr, ↓C.q4_W, C.q4_B, C.q4, hbt]
    refine (halive h (S.devs.length : Nat)).mono ?_
    rintro r t2 ⟨rfl, rfl⟩
    have e2 : v.aliveI S ((S.devs.length : Nat) : Int) = false := by
      rw [HV.aliveI, Int.toNat_natCast, HV.alive, List.getElem?_eq_none (Nat.le_refl _)]; simp
    rw [e2]
    simp only [↓Bp, Bq, Bs, ↓aop.eq_28, ↓aop.eq_30, simprocAttr, ↓C.q4_W, C.q4_B, C.q4]
  refine awp_loopK (fun i : Nat => [(1, .isl 4 (A.flatMap encAct) A.length), (6, .ptr ib 0), (7, .ptr a.hp 0), (9, .int .i64 i)]) (fun i t => i ≤ A.length ∧ Live s2 ib a S t) (fun i => A.length - i) 0 rfl ⟨Nat.zero_le _, _, h3, fun i => rfl⟩ ?_
  clear h3 hnw hb
  rintro i t ⟨hi, h⟩
  by_cases hil : i < A.length
  rotate_left
  · have hie : i = A.length := by omega
    have hil' : ¬ (i : Int) < ((A.length : Nat) : Int) := by omega
    simp only [↓Bp, Bq, Bs, ↓aop.eq_28, ↓aop.eq_30, simprocAttr, ↓C.q4_W, C.q4_B, C.q4, hil']
    exact ⟨(), h⟩
  have hil' : (i : Int) < ((A.length : Nat) : Int) := by omega
  have hw := wsucc hil (by omega)
  have hz : (0:Int) ≤ (i : Int) ∧ (i : Int) < ((A.length : Nat) : Int) := by omega
  have hfit := flatMap_fits (f := encAct) (k := 4) (fun _ => rfl) (l := A) hil
  have hat := flatMap_at (f := encAct) (k := 4) (fun _ => rfl) (l := A) hil
  have hAb := hA _ (List.getElem_mem hil)
  obtain ⟨x, hx⟩ : ∃ x, x = A[i] := ⟨_, rfl⟩
  rw [← hx] at hat hAb
  rw [encAct] at hat
  obtain ⟨v0, h0, hq0⟩ := h
  simp only [↓Bp, Bq, Bs, ↓aop.eq_28, ↓aop.eq_30, simprocAttr, ↓C.q4_r8_w, C.q4_r8_b, ↓C.q4_c2_w, ↓C.q4_r9_w, C.q4_r9_b, ↓C.q4_b44_w, ↓C.q4_c45_w, ↓C.q4_c46_w, ↓C.q4_r7_w, C.q4_r7_b, hil', hz, Int.toNat_natCast, hfit, hat]
  intro ix hix
  simp only [↓Bp, Bq, Bs, ↓aop.eq_28, ↓aop.eq_30, simprocAttr, ↓C.q4_r8_w, C.q4_r8_b, ↓C.q4_c2_w, ↓C.q4_r9_w, C.q4_r9_b, ↓C.q4_b44_w, ↓C.q4_c45_w, ↓C.q4_c46_w, ↓C.q4_r7_w, C.q4_r7_b, hix, allLeaf, AV.leaf]
  rw [ASt.new_set hix]
  obtain ⟨h1, hxx, hle⟩ := h0.box hix (.cells [.int .i64 x.op, .int .i64 x.i, .int .i64 x.k, .int .u32 x.v])
  generalize t.new ix (.cells [.int .i64 x.op, .int .i64 x.i, .int .i64 x.k, .int .u32 x.v]) = u1 at h1
  generalize s2.new ix (.cells [.int .i64 x.op, .int .i64 x.i, .int .i64 x.k, .int .u32 x.v]) = st1 at h1 hxx hle
  have hL : Live st1 ib a S u1 := ⟨v0, h1, hq0⟩
  have hxu := h1.le _ _ hxx
  clear h0 h1
  simp only [↓Bp, Bq, Bs, ↓aop.eq_28, ↓aop.eq_30, simprocAttr, ↓C.q4_r25_w, C.q4_r25_b, ↓C.q4_c3_w, ↓C.q4_r32_w, C.q4_r32_b, ↓C.q4_c4_w, ↓C.q4_r34_w, C.q4_r34_b, ↓C.q4_c5_w, ↓C.q4_c6_w, ↓C.q4_r33_w, C.q4_r33_b, ↓C.q4_b7_w, ↓C.q4_c8_w, ↓C.q4_c9_w, ↓C.q4_r31_w, C.q4_r31_b, ↓C.q4_b11_w, ↓C.q4_c12_w, ↓C.q4_r30_w, C.q4_r30_b, ↓C.q4_c13_w, ↓C.q4_r29_w, C.q4_r29_b, ↓C.q4_c14_w, ↓C.q4_r28_w, C.q4_r28_b, ↓C.q4_c15_w, ↓C.q4_c16_w, ↓C.q4_r27_w, C.q4_r27_b, ↓C.q4_c17_w, ↓C.q4_r26_w, C.q4_r26_b, ↓C.q4_b18_w, ↓C.q4_c19_w, ↓C.q4_c20_w, ↓C.q4_r24_w, C.q4_r24_b, ↓C.q4_b22_w, ↓C.q4_c23_w, ↓C.q4_r23_w, C.q4_r23_b, ↓C.q4_c24_w, ↓C.q4_r11_w, C.q4_r11_b, ↓C.q4_c42_w, ↓C.q4_r10_w, C.q4_r10_b, ↓C.q4_c43_w, hxu]
  refine (pick_spec hAb.2.1 (n := 6) (by omega)).mono ?_
  rintro r u2 ⟨rfl, rfl⟩
  simp only [↓Bp, Bq, Bs, ↓aop.eq_28, ↓aop.eq_30, simprocAttr, ↓C.q4_r25_w, C.q4_r25_b, ↓C.q4_c3_w, ↓C.q4_r32_w, C.q4_r32_b, ↓C.q4_c4_w, ↓C.q4_r34_w, C.q4_r34_b, ↓C.q4_c5_w, ↓C.q4_c6_w, ↓C.q4_r33_w, C.q4_r33_b, ↓C.q4_b7_w, ↓C.q4_c8_w, ↓C.q4_c9_w, ↓C.q4_r31_w, C.q4_r31_b, ↓C.q4_b11_w, ↓C.q4_c12_w, ↓C.q4_r30_w, C.q4_r30_b, ↓C.q4_c13_w, ↓C.q4_r29_w, C.q4_r29_b, ↓C.q4_c14_w, ↓C.q4_r28_w, C.q4_r28_b, ↓C.q4_c15_w, ↓C.q4_c16_w, ↓C.q4_r27_w, C.q4_r27_b, ↓C.q4_c17_w, ↓C.q4_r26_w, C.q4_r26_b, ↓C.q4_b18_w, ↓C.q4_c19_w, ↓C.q4_c20_w, ↓C.q4_r24_w, C.q4_r24_b, ↓C.q4_b22_w, ↓C.q4_c23_w, ↓C.q4_r23_w, C.q4_r23_b, ↓C.q4_c24_w, ↓C.q4_r11_w, C.q4_r11_b, ↓C.q4_c42_w, ↓C.q4_r10_w, C.q4_r10_b, ↓C.q4_c43_w, hxu]
  refine (pick_spec hAb.1 (n := 20) (by omega)).mono ?_
  rintro r u2 ⟨rfl, rfl⟩
  have ho := pickI_lt x.op (n := 20) (by omega)
  generalize pickI x.op 20 = o at ho
  generalize pickI x.i 6 = n
  simp only [↓Bp, Bq, Bs, ↓aop.eq_28, ↓aop.eq_30, simprocAttr, ↓C.q4_r25_w, C.q4_r25_b, ↓C.q4_c3_w, ↓C.q4_r32_w, C.q4_r32_b, ↓C.q4_c4_w, ↓C.q4_r34_w, C.q4_r34_b, ↓C.q4_c5_w, ↓C.q4_c6_w, ↓C.q4_r33_w, C.q4_r33_b, ↓C.q4_b7_w, ↓C.q4_c8_w, ↓C.q4_c9_w, ↓C.q4_r31_w, C.q4_r31_b, ↓C.q4_b11_w, ↓C.q4_c12_w, ↓C.q4_r30_w, C.q4_r30_b, ↓C.q4_c13_w, ↓C.q4_r29_w, C.q4_r29_b, ↓C.q4_c14_w, ↓C.q4_r28_w, C.q4_r28_b, ↓C.q4_c15_w, ↓C.q4_c16_w, ↓C.q4_r27_w, C.q4_r27_b, ↓C.q4_c17_w, ↓C.q4_r26_w, C.q4_r26_b, ↓C.q4_b18_w, ↓C.q4_c19_w, ↓C.q4_c20_w, ↓C.q4_r24_w, C.q4_r24_b, ↓C.q4_b22_w, ↓C.q4_c23_w, ↓C.q4_r23_w, C.q4_r23_b, ↓C.q4_c24_w, ↓C.q4_r11_w, C.q4_r11_b, ↓C.q4_c42_w, ↓C.q4_r10_w, C.q4_r10_b, ↓C.q4_c43_w]
  rw [C.q4_c41_w, awp_keep, awp_block]
  refine awp_midB (fun _ : Unit => [(1, .isl 4 (A.flatMap encAct) A.length), (6, .ptr ib 0), (7, .ptr a.hp 0), (9, .int .i64 i)]) (fun _ t => Live s2 ib a S t) ?_ ?_
  · by_cases g1 : (o : Int) < 4
    · simp only [↓Bp, Bq, Bs, ↓aop.eq_28, ↓aop.eq_30, simprocAttr, ↓C.q4_r14_w, C.q4_r14_b, ↓C.q4_r16_w, C.q4_r16_b, ↓C.q4_r18_w, C.q4_r18_b, ↓C.q4_r20_w, C.q4_r20_b, ↓C.q4_r22_w, C.q4_r22_b, ↓C.q4_r12_w, C.q4_r12_b, ↓C.q4_c25_w, ↓C.q4_c26_w, ↓C.q4_c27_w, ↓C.q4_r21_w, C.q4_r21_b, ↓C.q4_c28_w, ↓C.q4_c29_w, ↓C.q4_c30_w, ↓C.q4_r19_w, C.q4_r19_b, ↓C.q4_c31_w, ↓C.q4_c32_w, ↓C.q4_c33_w, ↓C.q4_r17_w, C.q4_r17_b, ↓C.q4_c34_w, ↓C.q4_c35_w, ↓C.q4_c36_w, ↓C.q4_r15_w, C.q4_r15_b, ↓C.q4_c37_w, ↓C.q4_c38_w, ↓C.q4_c39_w, ↓C.q4_r13_w, C.q4_r13_b, ↓C.q4_b40_w, g1, hxu]
      refine (lives_gate hL).mono ?_
      rintro r u3 h2
      simp only [↓Bp, Bq, Bs, ↓aop.eq_28, ↓aop.eq_30, simprocAttr, ↓C.q4_r14_w, C.q4_r14_b, ↓C.q4_r16_w, C.q4_r16_b, ↓C.q4_r18_w, C.q4_r18_b, ↓C.q4_r20_w, C.q4_r20_b, ↓C.q4_r22_w, C.q4_r22_b, ↓C.q4_r12_w, C.q4_r12_b, ↓C.q4_c25_w, ↓C.q4_c26_w, ↓C.q4_c27_w, ↓C.q4_r21_w, C.q4_r21_b, ↓C.q4_c28_w, ↓C.q4_c29_w, ↓C.q4_c30_w, ↓C.q4_r19_w, C.q4_r19_b, ↓C.q4_c31_w, ↓C.q4_c32_w, ↓C.q4_c33_w, ↓C.q4_r17_w, C.q4_r17_b, ↓C.q4_c34_w, ↓C.q4_c35_w, ↓C.q4_c36_w, ↓C.q4_r15_w, C.q4_r15_b, ↓C.q4_c37_w, ↓C.q4_c38_w, ↓C.q4_c39_w, ↓C.q4_r13_w, C.q4_r13_b, ↓C.q4_b40_w]
      exact ⟨(), h2.less hle⟩
    by_cases g2 : (o : Int) < 8
    · simp only [↓Bp, Bq, Bs, ↓aop.eq_28, ↓aop.eq_30, simprocAttr, ↓C.q4_r14_w, C.q4_r14_b, ↓C.q4_r16_w, C.q4_r16_b, ↓C.q4_r18_w, C.q4_r18_b, ↓C.q4_r20_w, C.q4_r20_b, ↓C.q4_r22_w, C.q4_r22_b, ↓C.q4_r12_w, C.q4_r12_b, ↓C.q4_c25_w, ↓C.q4_c26_w, ↓C.q4_c27_w, ↓C.q4_r21_w, C.q4_r21_b, ↓C.q4_c28_w, ↓C.q4_c29_w, ↓C.q4_c30_w, ↓C.q4_r19_w, C.q4_r19_b, ↓C.q4_c31_w, ↓C.q4_c32_w, ↓C.q4_c33_w, ↓C.q4_r17_w, C.q4_r17_b, ↓C.q4_c34_w, ↓C.q4_c35_w, ↓C.q4_c36_w, ↓C.q4_r15_w, C.q4_r15_b, ↓C.q4_c37_w, ↓C.q4_c38_w, ↓C.q4_c39_w, ↓C.q4_r13_w, C.q4_r13_b, ↓C.q4_b40_w, g1, g2, hxu]
      refine (lives_up hL).mono ?_
      rintro r u3 h2
      simp only [↓Bp, Bq, Bs, ↓aop.eq_28, ↓aop.eq_30, simprocAttr, ↓C.q4_r14_w, C.q4_r14_b, ↓C.q4_r16_w, C.q4_r16_b, ↓C.q4_r18_w, C.q4_r18_b, ↓C.q4_r20_w, C.q4_r20_b, ↓C.q4_r22_w, C.q4_r22_b, ↓C.q4_r12_w, C.q4_r12_b, ↓C.q4_c25_w, ↓C.q4_c26_w, ↓C.q4_c27_w, ↓C.q4_r21_w, C.q4_r21_b, ↓C.q4_c28_w, ↓C.q4_c29_w, ↓C.q4_c30_w, ↓C.q4_r19_w, C.q4_r19_b, ↓C.q4_c31_w, ↓C.q4_c32_w, ↓C.q4_c33_w, ↓C.q4_r17_w, C.q4_r17_b, ↓C.q4_c34_w, ↓C.q4_c35_w, ↓C.q4_c36_w, ↓C.q4_r15_w, C.q4_r15_b, ↓C.q4_c37_w, ↓C.q4_c38_w, ↓C.q4_c39_w, ↓C.q4_r13_w, C.q4_r13_b, ↓C.q4_b40_w]
      exact ⟨(), h2.less hle⟩
    by_cases g3 : (o : Int) = 8
    · simp only [↓Bp, Bq, Bs, ↓aop.eq_28, ↓aop.eq_30, simprocAttr, ↓C.q4_r14_w, C.q4_r14_b, ↓C.q4_r16_w, C.q4_r16_b, ↓C.q4_r18_w, C.q4_r18_b, ↓C.q4_r20_w, C.q4_r20_b, ↓C.q4_r22_w, C.q4_r22_b, ↓C.q4_r12_w, C.q4_r12_b, ↓C.q4_c25_w, ↓C.q4_c26_w, ↓C.q4_c27_w, ↓C.q4_r21_w, C.q4_r21_b, ↓C.q4_c28_w, ↓C.q4_c29_w, ↓C.q4_c30_w, ↓C.q4_r19_w, C.q4_r19_b, ↓C.q4_c31_w, ↓C.q4_c32_w, ↓C.q4_c33_w, ↓C.q4_r17_w, C.q4_r17_b, ↓C.q4_c34_w, ↓C.q4_c35_w, ↓C.q4_c36_w, ↓C.q4_r15_w, C.q4_r15_b, ↓C.q4_c37_w, ↓C.q4_c38_w, ↓C.q4_c39_w, ↓C.q4_r13_w, C.q4_r13_b, ↓C.q4_b40_w, g1, g2, g3, hxu]
      refine (lives_down hL).mono ?_
      rintro r u3 h2
      simp only [↓Bp, Bq, Bs, ↓aop.eq_28, ↓aop.eq_30, simprocAttr, ↓C.q4_r14_w, C.q4_r14_b, ↓C.q4_r16_w, C.q4_r16_b, ↓C.q4_r18_w, C.q4_r18_b, ↓C.q4_r20_w, C.q4_r20_b, ↓C.q4_r22_w, C.q4_r22_b, ↓C.q4_r12_w, C.q4_r12_b, ↓C.q4_c25_w, ↓C.q4_c26_w, ↓C.q4_c27_w, ↓C.q4_r21_w, C.q4_r21_b, ↓C.q4_c28_w, ↓C.q4_c29_w, ↓C.q4_c30_w, ↓C.q4_r19_w, C.q4_r19_b, ↓C.q4_c31_w, ↓C.q4_c32_w, ↓C.q4_c33_w, ↓C.q4_r17_w, C.q4_r17_b, ↓C.q4_c34_w, ↓C.q4_c35_w, ↓C.q4_c36_w, ↓C.q4_r15_w, C.q4_r15_b, ↓C.q4_c37_w, ↓C.q4_c38_w, ↓C.q4_c39_w, ↓C.q4_r13_w, C.q4_r13_b, ↓C.q4_b40_w]
      exact ⟨(), h2.less hle⟩
    by_cases g4 : (o : Int) = 9
    · simp only [↓Bp, Bq, Bs, ↓aop.eq_28, ↓aop.eq_30, simprocAttr, ↓C.q4_r14_w, C.q4_r14_b, ↓C.q4_r16_w, C.q4_r16_b, ↓C.q4_r18_w, C.q4_r18_b, ↓C.q4_r20_w, C.q4_r20_b, ↓C.q4_r22_w, C.q4_r22_b, ↓C.q4_r12_w, C.q4_r12_b, ↓C.q4_c25_w, ↓C.q4_c26_w, ↓C.q4_c27_w, ↓C.q4_r21_w, C.q4_r21_b, ↓C.q4_c28_w, ↓C.q4_c29_w, ↓C.q4_c30_w, ↓C.q4_r19_w, C.q4_r19_b, ↓C.q4_c31_w, ↓C.q4_c32_w, ↓C.q4_c33_w, ↓C.q4_r17_w, C.q4_r17_b, ↓C.q4_c34_w, ↓C.q4_c35_w, ↓C.q4_c36_w, ↓C.q4_r15_w, C.q4_r15_b, ↓C.q4_c37_w, ↓C.q4_c38_w, ↓C.q4_c39_w, ↓C.q4_r13_w, C.q4_r13_b, ↓C.q4_b40_w, g1, g2, g3, g4, hxu]
      refine (lives_assert n4.2 hL).mono ?_
      rintro r u3 h2
      simp only [↓Bp, Bq, Bs, ↓aop.eq_28, ↓aop.eq_30, simprocAttr, ↓C.q4_r14_w, C.q4_r14_b, ↓C.q4_r16_w, C.q4_r16_b, ↓C.q4_r18_w, C.q4_r18_b, ↓C.q4_r20_w, C.q4_r20_b, ↓C.q4_r22_w, C.q4_r22_b, ↓C.q4_r12_w, C.q4_r12_b, ↓C.q4_c25_w, ↓C.q4_c26_w, ↓C.q4_c27_w, ↓C.q4_r21_w, C.q4_r21_b, ↓C.q4_c28_w, ↓C.q4_c29_w, ↓C.q4_c30_w, ↓C.q4_r19_w, C.q4_r19_b, ↓C.q4_c31_w, ↓C.q4_c32_w, ↓C.q4_c33_w, ↓C.q4_r17_w, C.q4_r17_b, ↓C.q4_c34_w, ↓C.q4_c35_w, ↓C.q4_c36_w, ↓C.q4_r15_w, C.q4_r15_b, ↓C.q4_c37_w, ↓C.q4_c38_w, ↓C.q4_c39_w, ↓C.q4_r13_w, C.q4_r13_b, ↓C.q4_b40_w]
      exact ⟨(), h2.less hle⟩
    by_cases g5 : (o : Int) < 13
    · simp only [↓Bp, Bq, Bs, ↓aop.eq_28, ↓aop.eq_30, simprocAttr, ↓C.q4_r14_w, C.q4_r14_b, ↓C.q4_r16_w, C.q4_r16_b, ↓C.q4_r18_w, C.q4_r18_b, ↓C.q4_r20_w, C.q4_r20_b, ↓C.q4_r22_w, C.q4_r22_b, ↓C.q4_r12_w, C.q4_r12_b, ↓C.q4_c25_w, ↓C.q4_c26_w, ↓C.q4_c27_w, ↓C.q4_r21_w, C.q4_r21_b, ↓C.q4_c28_w, ↓C.q4_c29_w, ↓C.q4_c30_w, ↓C.q4_r19_w, C.q4_r19_b, ↓C.q4_c31_w, ↓C.q4_c32_w, ↓C.q4_c33_w, ↓C.q4_r17_w, C.q4_r17_b, ↓C.q4_c34_w, ↓C.q4_c35_w, ↓C.q4_c36_w, ↓C.q4_r15_w, C.q4_r15_b, ↓C.q4_c37_w, ↓C.q4_c38_w, ↓C.q4_c39_w, ↓C.q4_r13_w, C.q4_r13_b, ↓C.q4_b40_w, g1, g2, g3, g4, g5, hxu]
      refine (lives_release hL).mono ?_
      rintro r u3 h2
      simp only [↓Bp, Bq, Bs, ↓aop.eq_28, ↓aop.eq_30, simprocAttr, ↓C.q4_r14_w, C.q4_r14_b, ↓C.q4_r16_w, C.q4_r16_b, ↓C.q4_r18_w, C.q4_r18_b, ↓C.q4_r20_w, C.q4_r20_b, ↓C.q4_r22_w, C.q4_r22_b, ↓C.q4_r12_w, C.q4_r12_b, ↓C.q4_c25_w, ↓C.q4_c26_w, ↓C.q4_c27_w, ↓C.q4_r21_w, C.q4_r21_b, ↓C.q4_c28_w, ↓C.q4_c29_w, ↓C.q4_c30_w, ↓C.q4_r19_w, C.q4_r19_b, ↓C.q4_c31_w, ↓C.q4_c32_w, ↓C.q4_c33_w, ↓C.q4_r17_w, C.q4_r17_b, ↓C.q4_c34_w, ↓C.q4_c35_w, ↓C.q4_c36_w, ↓C.q4_r15_w, C.q4_r15_b, ↓C.q4_c37_w, ↓C.q4_c38_w, ↓C.q4_c39_w, ↓C.q4_r13_w, C.q4_r13_b, ↓C.q4_b40_w]
      exact ⟨(), h2.less hle⟩
    · simp only [↓Bp, Bq, Bs, ↓aop.eq_28, ↓aop.eq_30, simprocAttr, ↓C.q4_r14_w, C.q4_r14_b, ↓C.q4_r16_w, C.q4_r16_b, ↓C.q4_r18_w, C.q4_r18_b, ↓C.q4_r20_w, C.q4_r20_b, ↓C.q4_r22_w, C.q4_r22_b, ↓C.q4_r12_w, C.q4_r12_b, ↓C.q4_c25_w, ↓C.q4_c26_w, ↓C.q4_c27_w, ↓C.q4_r21_w, C.q4_r21_b, ↓C.q4_c28_w, ↓C.q4_c29_w, ↓C.q4_c30_w, ↓C.q4_r19_w, C.q4_r19_b, ↓C.q4_c31_w, ↓C.q4_c32_w, ↓C.q4_c33_w, ↓C.q4_r17_w, C.q4_r17_b, ↓C.q4_c34_w, ↓C.q4_c35_w, ↓C.q4_c36_w, ↓C.q4_r15_w, C.q4_r15_b, ↓C.q4_c37_w, ↓C.q4_c38_w, ↓C.q4_c39_w, ↓C.q4_r13_w, C.q4_r13_b, ↓C.q4_b40_w, g1, g2, g3, g4, g5, hxu]
      refine (lives_tick n4.2 (by omega) hL).mono ?_
      rintro r u3 h2
      simp only [↓Bp, Bq, Bs, ↓aop.eq_28, ↓aop.eq_30, simprocAttr, ↓C.q4_r14_w, C.q4_r14_b, ↓C.q4_r16_w, C.q4_r16_b, ↓C.q4_r18_w, C.q4_r18_b, ↓C.q4_r20_w, C.q4_r20_b, ↓C.q4_r22_w, C.q4_r22_b, ↓C.q4_r12_w, C.q4_r12_b, ↓C.q4_c25_w, ↓C.q4_c26_w, ↓C.q4_c27_w, ↓C.q4_r21_w, C.q4_r21_b, ↓C.q4_c28_w, ↓C.q4_c29_w, ↓C.q4_c30_w, ↓C.q4_r19_w, C.q4_r19_b, ↓C.q4_c31_w, ↓C.q4_c32_w, ↓C.q4_c33_w, ↓C.q4_r17_w, C.q4_r17_b, ↓C.q4_c34_w, ↓C.q4_c35_w, ↓C.q4_c36_w, ↓C.q4_r15_w, C.q4_r15_b, ↓C.q4_c37_w, ↓C.q4_c38_w, ↓C.q4_c39_w, ↓C.q4_r13_w, C.q4_r13_b, ↓C.q4_b40_w]
      exact ⟨(), h2.less hle⟩
  clear hL hxu hxx hle
  rintro - u3 ⟨v, h, hq⟩
  simp only [↓Bp, Bq, Bs, ↓aop.eq_28, ↓aop.eq_30, simprocAttr, ↓C.q4_r25_w, C.q4_r25_b, ↓C.q4_c3_w, ↓C.q4_r32_w, C.q4_r32_b, ↓C.q4_c4_w, ↓C.q4_r34_w, C.q4_r34_b, ↓C.q4_c5_w, ↓C.q4_c6_w, ↓C.q4_r33_w, C.q4_r33_b, ↓C.q4_b7_w, ↓C.q4_c8_w, ↓C.q4_c9_w, ↓C.q4_r31_w, C.q4_r31_b, ↓C.q4_b11_w, ↓C.q4_c12_w, ↓C.q4_r30_w, C.q4_r30_b, ↓C.q4_c13_w, ↓C.q4_r29_w, C.q4_r29_b, ↓C.q4_c14_w, ↓C.q4_r28_w, C.q4_r28_b, ↓C.q4_c15_w, ↓C.q4_c16_w, ↓C.q4_r27_w, C.q4_r27_b, ↓C.q4_c17_w, ↓C.q4_r26_w, C.q4_r26_b, ↓C.q4_b18_w, ↓C.q4_c19_w, ↓C.q4_c20_w, ↓C.q4_r24_w, C.q4_r24_b, ↓C.q4_b22_w, ↓C.q4_c23_w, ↓C.q4_r23_w, C.q4_r23_b, ↓C.q4_c24_w]
  refine awp_midBB (fun _ : Unit => [(1, .isl 4 (A.flatMap encAct) A.length), (6, .ptr ib 0), (7, .ptr a.hp 0), (9, .int .i64 i)]) (fun _ t => HX s2 t ib a S v) ?_ ?_
  rotate_left
  · rintro - t2 h2
    simp only [↓Bp, Bq, Bs, ↓aop.eq_28, ↓aop.eq_30, simprocAttr, ↓C.q4_r8_w, C.q4_r8_b, ↓C.q4_c2_w, hw]
    exact ⟨i + 1, rfl, ⟨hil, v, h2, hq⟩, by omega⟩
  refine awp_loopK (fun d : Nat => [(1, .isl 4 (A.flatMap encAct) A.length), (6, .ptr ib 0), (7, .ptr a.hp 0), (9, .int .i64 i), (13, .int .i64 d)]) (fun d t => d ≤ S.devs.length ∧ HX s2 t ib a S v) (fun d => S.devs.length - d) 0 rfl ⟨Nat.zero_le _, h⟩ ?_
  clear h
  rintro d t2 ⟨hd, h⟩
  have hbt : t2.h ib = some (.cells S.cells) := h.elim fun _ h => h.c.hb
  have hbt' := hbt
  rw [Soc.cells, Soc.clkV, Soc.domV, Soc.rstV, Soc.devV] at hbt'
  by_cases hdl : d < S.devs.length
  rotate_left
  · have hie : d = S.devs.length := by omega
    have hdl' : ¬ (d : Int) < ((S.devs.length : Nat) : Int) := by omega
    simp only [↓Bp, Bq, Bs, ↓aop.eq_28, ↓aop.eq_30, simprocAttr, ↓C.q4_r25_w, C.q4_r25_b, ↓C.q4_c3_w, ↓C.q4_r32_w, C.q4_r32_b, ↓C.q4_c4_w, ↓C.q4_r34_w, C.q4_r34_b, ↓C.q4_c5_w, ↓C.q4_c6_w, ↓C.q4_r33_w, C.q4_r33_b, ↓C.q4_b7_w, ↓C.q4_c8_w, ↓C.q4_c9_w, ↓C.q4_r31_w, C.q4_r31_b, ↓C.q4_b11_w, ↓C.q4_c12_w, ↓C.q4_r30_w, C.q4_r30_b, ↓C.q4_c13_w, ↓C.q4_r29_w, C.q4_r29_b, ↓C.q4_c14_w, ↓C.q4_r28_w, C.q4_r28_b, ↓C.q4_c15_w, ↓C.q4_c16_w, ↓C.q4_r27_w, C.q4_r27_b, ↓C.q4_c17_w, ↓C.q4_r26_w, C.q4_r26_b, ↓C.q4_b18_w, ↓C.q4_c19_w, ↓C.q4_c20_w, ↓C.q4_r24_w, C.q4_r24_b, hbt', hdl']
    exact ⟨(), h⟩
  have hdl' : (d : Int) < ((S.devs.length : Nat) : Int) := by omega
  have hwd := wsucc hdl (by omega)
  have hzd : (0:Int) ≤ (d : Int) ∧ (d : Int) < ((S.devs.length : Nat) : Int) := by omega
  have hfitd := flatMap_fits (f := Dev.cells) (k := 6) Dev.cells_len (l := S.devs) hdl
  have hatd := flatMap_at (f := Dev.cells) (k := 6) Dev.cells_len (l := S.devs) hdl
  have hdv := hk.dev d hdl
  obtain ⟨D, hD⟩ : ∃ D, D = S.devs[d] := ⟨_, rfl⟩
  have hal : v.aliveI S (d : Int) = (runI v.ns D.clock && (decide (phI v.gs D.dom = 49) && !heldI v.ls D.rst)) := by
    rw [HV.aliveI, Int.toNat_natCast, alive_at hdl, hD]; simp
  rw [← hD] at hatd hdv
  have hDl : D.cells.length = 6 := rfl
  have hDf : allLeaf D.cells = true := rfl
  simp only [↓Bp, Bq, Bs, ↓aop.eq_28, ↓aop.eq_30, simprocAttr, ↓C.q4_r25_w, C.q4_r25_b, ↓C.q4_c3_w, ↓C.q4_r26_w, C.q4_r26_b, ↓C.q4_b18_w, ↓C.q4_c19_w, ↓C.q4_c20_w, ↓C.q4_r24_w, C.q4_r24_b, hbt', hdl', hzd, Int.toNat_natCast, hfitd, hatd]
  intro iy hiy
  simp only [↓Bp, Bq, Bs, ↓aop.eq_28, ↓aop.eq_30, simprocAttr, ↓C.q4_r25_w, C.q4_r25_b, ↓C.q4_c3_w, ↓C.q4_r26_w, C.q4_r26_b, ↓C.q4_b18_w, ↓C.q4_c19_w, ↓C.q4_c20_w, ↓C.q4_r24_w, C.q4_r24_b, hiy, hDl, hDf]
  rw [ASt.new_set hiy, putN_all (zs := [AV.int .i64 0, AV.int .i64 0, AV.int .i64 0, AV.int .u32 0, AV.nils, AV.nils]) (vs := D.cells) rfl]
  obtain ⟨h2, hyy, hle⟩ := h.box hiy (.cells D.cells)
  generalize t2.new iy (.cells D.cells) = t3 at h2
  generalize s2.new iy (.cells D.cells) = st2 at h2 hyy hle
  have hyt := h2.le _ _ hyy
  rw [Dev.cells] at hyt
  obtain ⟨T, h3⟩ := h2
  simp only [↓Bp, Bq, Bs, ↓aop.eq_28, ↓aop.eq_30, simprocAttr, ↓C.q4_r32_w, C.q4_r32_b, ↓C.q4_c4_w, ↓C.q4_r34_w, C.q4_r34_b, ↓C.q4_c5_w, ↓C.q4_c6_w, ↓C.q4_r33_w, C.q4_r33_b, ↓C.q4_b7_w, ↓C.q4_c8_w, ↓C.q4_c9_w, ↓C.q4_r31_w, C.q4_r31_b, ↓C.q4_b11_w, ↓C.q4_c12_w, ↓C.q4_r30_w, C.q4_r30_b, ↓C.q4_c13_w, ↓C.q4_r29_w, C.q4_r29_b, ↓C.q4_c14_w, ↓C.q4_r27_w, C.q4_r27_b, ↓C.q4_c17_w, hyt]
  refine (halive h3 d).mono ?_
  rintro r t4 ⟨rfl, rfl⟩
  rw [hal]
  simp only [↓Bp, Bq, Bs, ↓aop.eq_28, ↓aop.eq_30, simprocAttr, ↓C.q4_r32_w, C.q4_r32_b, ↓C.q4_c4_w, ↓C.q4_r34_w, C.q4_r34_b, ↓C.q4_c5_w, ↓C.q4_c6_w, ↓C.q4_r33_w, C.q4_r33_b, ↓C.q4_b7_w, ↓C.q4_c8_w, ↓C.q4_c9_w, ↓C.q4_r31_w, C.q4_r31_b, ↓C.q4_b11_w, ↓C.q4_c12_w, ↓C.q4_r30_w, C.q4_r30_b, ↓C.q4_c13_w, ↓C.q4_r29_w, C.q4_r29_b, ↓C.q4_c14_w, ↓C.q4_r27_w, C.q4_r27_b, ↓C.q4_c17_w, hyt]
  refine (hrunning h3 D.clock).mono ?_
  rintro r t4 ⟨rfl, rfl⟩
  obtain ⟨ck, hck⟩ : ∃ ck : Nat, D.clock = (ck : Int) := ⟨D.clock.toNat, by have := hdv.clock; omega⟩
  have fin := fun (Q : IExit → AFr → ASt → Prop) => lives_c14 (x1 := .isl 4 (A.flatMap encAct) A.length) (x9 := .int .i64 i) (Q := Q) (ck := ck) (iy := iy) ⟨T, h3⟩ hk hdl (by rw [← hD]; exact hyy) (by rw [← hD]; exact hck)
  have hfin : HX s2 t4 ib a S v := HX.less ⟨T, h3⟩ hle
  cases hr1 : runI v.ns D.clock
  · simp only [↓Bp, Bq, Bs, ↓aop.eq_28, ↓aop.eq_30, simprocAttr, ↓C.q4_r28_w, C.q4_r28_b, ↓C.q4_c15_w, ↓C.q4_c16_w, ↓C.q4_r27_w, C.q4_r27_b, ↓C.q4_c17_w, hyt]
    rw [if_neg (by simp)]
    refine (show awp Tryz.prog C.q4_c14 _ [(1, .isl 4 (A.flatMap encAct) A.length), (6, .ptr ib 0), (7, .ptr a.hp 0), (9, .int .i64 i), (13, .int .i64 d), (14, .ptr iy 0)] t4 → _ from fun this => by rw [C.q4_c14_w, awp_keep] at this ⊢; exact this) (fin _ fun fr hfr => ?_)
    simp only [↓Bp, Bq, Bs, ↓aop.eq_28, ↓aop.eq_30, simprocAttr]
    rw [C.q4_c3_w, awp_keep, hfr]
    simp only [↓Bp, Bq, Bs, ↓aop.eq_28, ↓aop.eq_30, simprocAttr, ↓C.q4_r25_w, C.q4_r25_b, ↓C.q4_c3_w, hwd]
    exact ⟨d + 1, rfl, ⟨hdl, hfin⟩, by omega⟩
  simp only [↓Bp, Bq, Bs, ↓aop.eq_28, ↓aop.eq_30, simprocAttr, ↓C.q4_r28_w, C.q4_r28_b, ↓C.q4_c15_w, ↓C.q4_c16_w, ↓C.q4_r27_w, C.q4_r27_b, ↓C.q4_c17_w, hyt]
  refine (hphase h3 D.dom).mono ?_
  rintro r t5 ⟨rfl, rfl⟩
  by_cases hp1 : phI v.gs D.dom = 49
  rotate_left
  · simp only [↓Bp, Bq, Bs, ↓aop.eq_28, ↓aop.eq_30, simprocAttr, ↓C.q4_r28_w, C.q4_r28_b, ↓C.q4_c15_w, ↓C.q4_c16_w, ↓C.q4_r27_w, C.q4_r27_b, ↓C.q4_c17_w, hyt, hp1]
    rw [if_neg (by simp)]
    refine (show awp Tryz.prog C.q4_c14 _ [(1, .isl 4 (A.flatMap encAct) A.length), (6, .ptr ib 0), (7, .ptr a.hp 0), (9, .int .i64 i), (13, .int .i64 d), (14, .ptr iy 0)] t5 → _ from fun this => by rw [C.q4_c14_w, awp_keep] at this ⊢; exact this) (fin _ fun fr hfr => ?_)
    simp only [↓Bp, Bq, Bs, ↓aop.eq_28, ↓aop.eq_30, simprocAttr]
    rw [C.q4_c3_w, awp_keep, hfr]
    simp only [↓Bp, Bq, Bs, ↓aop.eq_28, ↓aop.eq_30, simprocAttr, ↓C.q4_r25_w, C.q4_r25_b, ↓C.q4_c3_w, hwd]
    exact ⟨d + 1, rfl, ⟨hdl, hfin⟩, by omega⟩
  simp only [↓Bp, Bq, Bs, ↓aop.eq_28, ↓aop.eq_30, simprocAttr, ↓C.q4_r28_w, C.q4_r28_b, ↓C.q4_c15_w, ↓C.q4_c16_w, ↓C.q4_r27_w, C.q4_r27_b, ↓C.q4_c17_w, hyt, hp1]
  refine (hheld h3 D.rst).mono ?_
  rintro r t6 ⟨rfl, rfl⟩
  simp only [↓Bp, Bq, Bs, ↓aop.eq_28, ↓aop.eq_30, simprocAttr, ↓C.q4_r28_w, C.q4_r28_b, ↓C.q4_c15_w, ↓C.q4_c16_w, ↓C.q4_r27_w, C.q4_r27_b, ↓C.q4_c17_w, hyt]
  rw [if_neg (by simp [hp1])]
  refine (show awp Tryz.prog C.q4_c14 _ [(1, .isl 4 (A.flatMap encAct) A.length), (6, .ptr ib 0), (7, .ptr a.hp 0), (9, .int .i64 i), (13, .int .i64 d), (14, .ptr iy 0)] t6 → _ from fun this => by rw [C.q4_c14_w, awp_keep] at this ⊢; exact this) (fin _ fun fr hfr => ?_)
  simp only [↓Bp, Bq, Bs, ↓aop.eq_28, ↓aop.eq_30, simprocAttr]
  rw [C.q4_c3_w, awp_keep, hfr]
  simp only [↓Bp, Bq, Bs, ↓aop.eq_28, ↓aop.eq_30, simprocAttr, ↓C.q4_r25_w, C.q4_r25_b, ↓C.q4_c3_w, hwd]
  exact ⟨d + 1, rfl, ⟨hdl, hfin⟩, by omega⟩
end Go.Proofs.YtdmfgodajoojpaaGreat.Cn
