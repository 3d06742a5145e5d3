/- Clocks: ClockOff, the walk. -/
import Derived.Test.YtkioaemhdbcfaaaCnKOff
set_option linter.unusedSimpArgs false
set_option linter.unusedVariables false
set_option linter.unusedSectionVars false
namespace Go.Proofs.Ytkioaemhdbcfaaa.Cn
open Go Go.Proofs

section
variable {st : ASt} {ib p ig : Nat} {S : Soc} (hS : S.like)
include hS
/-- Turned on again. -/
theorem ko_last {s : ASt} {ns : List Nd} {g : Nat} (hg : g < ns.length) (hk0 : KOf S.clocks ns) (ha : AllRun ns) (he : onE ns[g] = 0) (h : KW st s ib p ig S (offN ns g hg)) :
    awp Try.prog C.catnaplaw6_ClockOff_c1 (Post [.slot 4] fun r s => r = .bool true ∧ st.le s) [(6, .ptr ib 0), (7, .ptr p 0), (11, .int .i64 g)] s := by
  have hnc := hS.nc
  have hg2 : g < (offN ns g hg).length := by simpa [offN] using hg
  have hgC : g < S.clocks.length := by rw [← hk0.len]; exact hg
  have hsame := hk0.same g hg hgC
  have hz : (0:Int) ≤ (g : Int) ∧ (g : Int) < (S.clocks.length : Nat) := by omega
  have hc0 : (offN ns g hg)[g].c = ns[g].c := (offN_src hg hg2).2
  have he2 : onE (offN ns g hg)[g] = 0 := by rw [onE_c hc0]; exact he
  have heq : onL (offN ns g hg) g hg2 true = (offN ns g hg).set g ((ns[g].turn false).turn true) := by
    unfold onL; rw [if_pos he2]; congr 1; simp [offN]
  have hK := h.k.on hg2 true
  have hr := again_run hk0.ok ha hg he rfl (by rw [← heq]; exact hK.ok)
  rw [← heq, hsame] at hr
  have g0 := rows_get Clk.cells (w := 6) (fun _ => rfl) hgC (j := 0) (by omega)
  have g5 := rows_get Clk.cells (w := 6) (fun _ => rfl) hgC (j := 5) (by omega)
  rw [show S.clocks[g].cells[0]? = some (.int .u8 S.clocks[g].kind) from rfl, Nat.add_zero] at g0
  rw [show S.clocks[g].cells[5]? = some (.int .i64 S.clocks[g].lock) from rfl] at g5
  simp only [↓Bp, Bq, Bs, ↓aop.eq_28, ↓aop.eq_30, Nat.reduceEqDiff, Nat.reduceAdd, Nat.reduceMul, Nat.reduceSub, Nat.reduceLeDiff, Nat.reduceLT, Int.reduceLT, Int.reduceLE, Int.reduceEq, Int.reduceToNat, Int.reduceAdd, Int.reduceSub, Int.reduceNeg, ↓reduceIte, reduceCtorEq, ↓C.catnaplaw6_ClockOff_W, C.catnaplaw6_ClockOff_B, C.catnaplaw6_ClockOff]
  refine (on_spec h.t hg2 true).mono ?_
  rintro r s1 ⟨rfl, rfl⟩
  rw [he2]
  have h2 := h.set hK
  generalize s.set ig (nsC (onL (offN ns g hg) g hg2 true)) = s1 at h2
  have hb := h2.hb
  have hg3 : g < (onL (offN ns g hg) g hg2 true).length := by rw [onL_len]; exact hg2
  by_cases k1 : S.clocks[g].kind = 103
  · rw [k1] at g0
    simp only [↓Bp, Bq, Bs, ↓aop.eq_28, ↓aop.eq_30, Nat.reduceEqDiff, Nat.reduceAdd, Nat.reduceMul, Nat.reduceSub, Nat.reduceLeDiff, Nat.reduceLT, Int.reduceLT, Int.reduceLE, Int.reduceEq, Int.reduceToNat, Int.reduceAdd, Int.reduceSub, Int.reduceNeg, ↓reduceIte, reduceCtorEq, ↓C.catnaplaw6_ClockOff_W, C.catnaplaw6_ClockOff_B, C.catnaplaw6_ClockOff, hb, Soc.cells, Soc.clkV, hz, g0, g5, Int.toNat_natCast]
    refine (running_at h2.t h2.k.ok hg3).mono ?_
    rintro r s2 ⟨rfl, rfl⟩
    rw [hr, k1]
    simp only [↓Bp, Bq, Bs, ↓aop.eq_28, ↓aop.eq_30, Nat.reduceEqDiff, Nat.reduceAdd, Nat.reduceMul, Nat.reduceSub, Nat.reduceLeDiff, Nat.reduceLT, Int.reduceLT, Int.reduceLE, Int.reduceEq, Int.reduceToNat, Int.reduceAdd, Int.reduceSub, Int.reduceNeg, ↓reduceIte, reduceCtorEq, ↓C.catnaplaw6_ClockOff_W, C.catnaplaw6_ClockOff_B, C.catnaplaw6_ClockOff, hb, Soc.cells, Soc.clkV, hz, g0, g5, Int.toNat_natCast]
    exact ⟨fun _ => trivial, by simp, h2.le⟩
  · have T := eq_false k1
    simp only [↓Bp, Bq, Bs, ↓aop.eq_28, ↓aop.eq_30, Nat.reduceEqDiff, Nat.reduceAdd, Nat.reduceMul, Nat.reduceSub, Nat.reduceLeDiff, Nat.reduceLT, Int.reduceLT, Int.reduceLE, Int.reduceEq, Int.reduceToNat, Int.reduceAdd, Int.reduceSub, Int.reduceNeg, ↓reduceIte, reduceCtorEq, ↓C.catnaplaw6_ClockOff_W, C.catnaplaw6_ClockOff_B, C.catnaplaw6_ClockOff, hb, Soc.cells, Soc.clkV, hz, g0, g5, T, Int.toNat_natCast]
    refine (running_at h2.t h2.k.ok hg3).mono ?_
    rintro r s2 ⟨rfl, rfl⟩
    rw [hr]
    simp only [↓Bp, Bq, Bs, ↓aop.eq_28, ↓aop.eq_30, Nat.reduceEqDiff, Nat.reduceAdd, Nat.reduceMul, Nat.reduceSub, Nat.reduceLeDiff, Nat.reduceLT, Int.reduceLT, Int.reduceLE, Int.reduceEq, Int.reduceToNat, Int.reduceAdd, Int.reduceSub, Int.reduceNeg, ↓reduceIte, reduceCtorEq, ↓C.catnaplaw6_ClockOff_W, C.catnaplaw6_ClockOff_B, C.catnaplaw6_ClockOff, hb, Soc.cells, Soc.clkV, hz, g0, g5, T, Int.toNat_natCast]
    exact ⟨fun _ => trivial, by simp, h2.le⟩
/-- What stands. -/
theorem ko_look {s : ASt} {ns : List Nd} {g : Nat} (hg : g < ns.length) (hk0 : KOf S.clocks ns) (ha : AllRun ns) (he : onE ns[g] = 0) (h : KW st s ib p ig S (offN ns g hg)) :
    awp Try.prog C.catnaplaw6_ClockOff_c21 (Post [.slot 4] fun r s => r = .bool true ∧ st.le s) [(6, .ptr ib 0), (7, .ptr p 0), (11, .int .i64 g)] s := by
  have hnc := hS.nc
  have hlen := hk0.len
  have hol : (offN ns g hg).length = ns.length := by simp [offN]
  have hN := h.k.ok
  have hor := off_run hk0.ok ha hg he hN
  simp only [↓Bp, Bq, Bs, ↓aop.eq_28, ↓aop.eq_30, Nat.reduceEqDiff, Nat.reduceAdd, Nat.reduceMul, Nat.reduceSub, Nat.reduceLeDiff, Nat.reduceLT, Int.reduceLT, Int.reduceLE, Int.reduceEq, Int.reduceToNat, Int.reduceAdd, Int.reduceSub, Int.reduceNeg, ↓reduceIte, reduceCtorEq, ↓C.catnaplaw6_ClockOff_W, C.catnaplaw6_ClockOff_B, C.catnaplaw6_ClockOff]
  refine awp_midB (fun _ : Unit => [(6, .ptr ib 0), (7, .ptr p 0), (11, .int .i64 g)]) (fun _ s' => KW st s' ib p ig S (offN ns g hg)) ?_ ?_
  rotate_left
  · rintro - s' h
    exact ko_last hS hg hk0 ha he h
  refine awp_loopK (fun i : Nat => [(6, .ptr ib 0), (7, .ptr p 0), (11, .int .i64 g), (13, .int .i64 i)]) (fun i s' => i ≤ S.clocks.length ∧ KW st s' ib p ig S (offN ns g hg)) (fun i => S.clocks.length - i) 0 rfl ⟨Nat.zero_le _, h⟩ ?_
  clear h s
  rintro i s ⟨hi, h⟩
  have hb := h.hb
  by_cases hil : i < S.clocks.length
  rotate_left
  · have hil' : ¬ (i : Int) < (S.clocks.length : Nat) := by omega
    simp only [↓Bp, Bq, Bs, ↓aop.eq_28, ↓aop.eq_30, Nat.reduceEqDiff, Nat.reduceAdd, Nat.reduceMul, Nat.reduceSub, Nat.reduceLeDiff, Nat.reduceLT, Int.reduceLT, Int.reduceLE, Int.reduceEq, Int.reduceToNat, Int.reduceAdd, Int.reduceSub, Int.reduceNeg, ↓reduceIte, reduceCtorEq, ↓C.catnaplaw6_ClockOff_W, C.catnaplaw6_ClockOff_B, C.catnaplaw6_ClockOff, hil', hb, Soc.cells, Soc.clkV]
    exact ⟨(), h⟩
  have hil' : (i : Int) < (S.clocks.length : Nat) := by omega
  have hw := wsucc hil (by omega)
  have hin : i < (offN ns g hg).length := by omega
  have hcl := chainN_len hN i hin
  have hr := hor i (by omega)
  simp only [↓Bp, Bq, Bs, ↓aop.eq_28, ↓aop.eq_30, Nat.reduceEqDiff, Nat.reduceAdd, Nat.reduceMul, Nat.reduceSub, Nat.reduceLeDiff, Nat.reduceLT, Int.reduceLT, Int.reduceLE, Int.reduceEq, Int.reduceToNat, Int.reduceAdd, Int.reduceSub, Int.reduceNeg, ↓reduceIte, reduceCtorEq, ↓C.catnaplaw6_ClockOff_W, C.catnaplaw6_ClockOff_B, C.catnaplaw6_ClockOff, hil', hb, Soc.cells, Soc.clkV]
  refine (cchain_at h.t hN hin).mono ?_
  rintro r s1 ⟨rfl, rfl⟩
  obtain ⟨c, hc⟩ : ∃ c, c = chainN (offN ns g hg) i := ⟨_, rfl⟩
  rw [← hc] at hcl hr
  rw [← hc, row, nats_length]
  simp only [↓Bp, Bq, Bs, ↓aop.eq_28, ↓aop.eq_30, Nat.reduceEqDiff, Nat.reduceAdd, Nat.reduceMul, Nat.reduceSub, Nat.reduceLeDiff, Nat.reduceLT, Int.reduceLT, Int.reduceLE, Int.reduceEq, Int.reduceToNat, Int.reduceAdd, Int.reduceSub, Int.reduceNeg, ↓reduceIte, reduceCtorEq, ↓C.catnaplaw6_ClockOff_W, C.catnaplaw6_ClockOff_B, C.catnaplaw6_ClockOff]
  refine awp_midB (fun _ : Unit => [(6, .ptr ib 0), (7, .ptr p 0), (11, .int .i64 g), (13, .int .i64 i), (15, .bool (decide (g ∈ c)))]) (fun _ s' => KW st s' ib p ig S (offN ns g hg)) ?_ ?_
  · refine awp_loopK (fun j : Nat => [(6, .ptr ib 0), (7, .ptr p 0), (11, .int .i64 g), (13, .int .i64 i), (14, .isl 1 (ints (nats c)) c.length), (15, .bool (decide (g ∈ c.take j))), (16, .int .i64 j)]) (fun j s' => j ≤ c.length ∧ KW st s' ib p ig S (offN ns g hg)) (fun j => c.length - j) 0 (by rw [List.take_zero]; simp; rfl) ⟨Nat.zero_le _, h⟩ ?_
    clear h hb s1
    rintro j s ⟨hj, h⟩
    by_cases hjl : j < c.length
    rotate_left
    · have hjl' : ¬ (j : Int) < (c.length : Nat) := by omega
      rw [List.take_of_length_le (by omega)]
      simp only [↓Bp, Bq, Bs, ↓aop.eq_28, ↓aop.eq_30, Nat.reduceEqDiff, Nat.reduceAdd, Nat.reduceMul, Nat.reduceSub, Nat.reduceLeDiff, Nat.reduceLT, Int.reduceLT, Int.reduceLE, Int.reduceEq, Int.reduceToNat, Int.reduceAdd, Int.reduceSub, Int.reduceNeg, ↓reduceIte, reduceCtorEq, ↓C.catnaplaw6_ClockOff_W, C.catnaplaw6_ClockOff_B, C.catnaplaw6_ClockOff, hjl']
      exact ⟨(), h⟩
    have hjl' : (j : Int) < (c.length : Nat) := by omega
    have hw := wsucc hjl (by omega)
    have hz : (0:Int) ≤ (j : Int) ∧ (j : Int) < (c.length : Nat) := by omega
    have hgj : (ints (nats c))[j]? = some (.int .i64 (c[j] : Nat)) := by simp [ints, nats, hjl]
    have htk : decide (g ∈ c.take (j + 1)) = (decide (g ∈ c.take j) || decide (c[j] = g)) := by
      have e : (g ∈ c.take j ++ [c[j]]) ↔ (g ∈ c.take j ∨ c[j] = g) := by rw [List.mem_append, List.mem_singleton, eq_comm (a := g)]
      rw [List.take_succ_eq_append_getElem hjl, decide_eq_decide.mpr e, Bool.decide_or]
    have hci : ((c[j] : Nat) : Int) = (g : Int) ↔ c[j] = g := by omega
    cases hd : decide (g ∈ c.take j)
    · rw [hd, Bool.false_or] at htk
      simp only [↓Bp, Bq, Bs, ↓aop.eq_28, ↓aop.eq_30, Nat.reduceEqDiff, Nat.reduceAdd, Nat.reduceMul, Nat.reduceSub, Nat.reduceLeDiff, Nat.reduceLT, Int.reduceLT, Int.reduceLE, Int.reduceEq, Int.reduceToNat, Int.reduceAdd, Int.reduceSub, Int.reduceNeg, ↓reduceIte, reduceCtorEq, ↓C.catnaplaw6_ClockOff_W, C.catnaplaw6_ClockOff_B, C.catnaplaw6_ClockOff, hjl', hz, hgj, hw, hci, Int.toNat_natCast, Nat.mul_one]
      refine ⟨j + 1, ?_, ⟨hjl, h⟩, by omega⟩
      rw [htk]
    · rw [hd, Bool.true_or] at htk
      simp only [↓Bp, Bq, Bs, ↓aop.eq_28, ↓aop.eq_30, Nat.reduceEqDiff, Nat.reduceAdd, Nat.reduceMul, Nat.reduceSub, Nat.reduceLeDiff, Nat.reduceLT, Int.reduceLT, Int.reduceLE, Int.reduceEq, Int.reduceToNat, Int.reduceAdd, Int.reduceSub, Int.reduceNeg, ↓reduceIte, reduceCtorEq, ↓C.catnaplaw6_ClockOff_W, C.catnaplaw6_ClockOff_B, C.catnaplaw6_ClockOff, hjl', hz, hgj, hw, hci, Int.toNat_natCast, Nat.mul_one]
      refine ⟨j + 1, ?_, ⟨hjl, h⟩, by omega⟩
      rw [htk]
  · clear h hb s1
    rintro - s h
    simp only [↓Bp, Bq, Bs, ↓aop.eq_28, ↓aop.eq_30, Nat.reduceEqDiff, Nat.reduceAdd, Nat.reduceMul, Nat.reduceSub, Nat.reduceLeDiff, Nat.reduceLT, Int.reduceLT, Int.reduceLE, Int.reduceEq, Int.reduceToNat, Int.reduceAdd, Int.reduceSub, Int.reduceNeg, ↓reduceIte, reduceCtorEq, ↓C.catnaplaw6_ClockOff_W, C.catnaplaw6_ClockOff_B, C.catnaplaw6_ClockOff]
    refine (running_at h.t hN hin).mono ?_
    rintro r s1 ⟨rfl, rfl⟩
    rw [hr]
    cases decide (g ∈ c)
    · simp only [↓Bp, Bq, Bs, ↓aop.eq_28, ↓aop.eq_30, Nat.reduceEqDiff, Nat.reduceAdd, Nat.reduceMul, Nat.reduceSub, Nat.reduceLeDiff, Nat.reduceLT, Int.reduceLT, Int.reduceLE, Int.reduceEq, Int.reduceToNat, Int.reduceAdd, Int.reduceSub, Int.reduceNeg, ↓reduceIte, reduceCtorEq, ↓C.catnaplaw6_ClockOff_W, C.catnaplaw6_ClockOff_B, C.catnaplaw6_ClockOff, hw]
      exact ⟨i + 1, rfl, ⟨hil, h⟩, by omega⟩
    · simp only [↓Bp, Bq, Bs, ↓aop.eq_28, ↓aop.eq_30, Nat.reduceEqDiff, Nat.reduceAdd, Nat.reduceMul, Nat.reduceSub, Nat.reduceLeDiff, Nat.reduceLT, Int.reduceLT, Int.reduceLE, Int.reduceEq, Int.reduceToNat, Int.reduceAdd, Int.reduceSub, Int.reduceNeg, ↓reduceIte, reduceCtorEq, ↓C.catnaplaw6_ClockOff_W, C.catnaplaw6_ClockOff_B, C.catnaplaw6_ClockOff, hw]
      exact ⟨i + 1, rfl, ⟨hil, h⟩, by omega⟩
/-- All run; one is turned off. -/
theorem ko_all {s : ASt} {ns : List Nd} {g : Nat} (hg : g < S.clocks.length) (ha : AllRun ns) (h : KW st s ib p ig S ns) :
    awp Try.prog C.catnaplaw6_ClockOff_c34 (Post [.slot 4] fun r s => r = .bool true ∧ st.le s) [(6, .ptr ib 0), (7, .ptr p 0), (11, .int .i64 g)] s := by
  have hnc := hS.nc
  have hlen := h.k.len
  have hN := h.k.ok
  simp only [↓Bp, Bq, Bs, ↓aop.eq_28, ↓aop.eq_30, Nat.reduceEqDiff, Nat.reduceAdd, Nat.reduceMul, Nat.reduceSub, Nat.reduceLeDiff, Nat.reduceLT, Int.reduceLT, Int.reduceLE, Int.reduceEq, Int.reduceToNat, Int.reduceAdd, Int.reduceSub, Int.reduceNeg, ↓reduceIte, reduceCtorEq, ↓C.catnaplaw6_ClockOff_W, C.catnaplaw6_ClockOff_B, C.catnaplaw6_ClockOff]
  refine awp_midB (fun _ : Unit => [(6, .ptr ib 0), (7, .ptr p 0), (11, .int .i64 g)]) (fun _ s' => KW st s' ib p ig S ns) ?_ ?_
  · refine awp_loopK (fun i : Nat => [(6, .ptr ib 0), (7, .ptr p 0), (11, .int .i64 g), (12, .int .i64 i)]) (fun i s' => i ≤ S.clocks.length ∧ KW st s' ib p ig S ns) (fun i => S.clocks.length - i) 0 rfl ⟨Nat.zero_le _, h⟩ ?_
    clear h s
    rintro i s ⟨hi, h⟩
    have hb := h.hb
    by_cases hil : i < S.clocks.length
    rotate_left
    · have hil' : ¬ (i : Int) < (S.clocks.length : Nat) := by omega
      simp only [↓Bp, Bq, Bs, ↓aop.eq_28, ↓aop.eq_30, Nat.reduceEqDiff, Nat.reduceAdd, Nat.reduceMul, Nat.reduceSub, Nat.reduceLeDiff, Nat.reduceLT, Int.reduceLT, Int.reduceLE, Int.reduceEq, Int.reduceToNat, Int.reduceAdd, Int.reduceSub, Int.reduceNeg, ↓reduceIte, reduceCtorEq, ↓C.catnaplaw6_ClockOff_W, C.catnaplaw6_ClockOff_B, C.catnaplaw6_ClockOff, hil', hb, Soc.cells, Soc.clkV]
      exact ⟨(), h⟩
    have hil' : (i : Int) < (S.clocks.length : Nat) := by omega
    have hw := wsucc hil (by omega)
    simp only [↓Bp, Bq, Bs, ↓aop.eq_28, ↓aop.eq_30, Nat.reduceEqDiff, Nat.reduceAdd, Nat.reduceMul, Nat.reduceSub, Nat.reduceLeDiff, Nat.reduceLT, Int.reduceLT, Int.reduceLE, Int.reduceEq, Int.reduceToNat, Int.reduceAdd, Int.reduceSub, Int.reduceNeg, ↓reduceIte, reduceCtorEq, ↓C.catnaplaw6_ClockOff_W, C.catnaplaw6_ClockOff_B, C.catnaplaw6_ClockOff, hil', hb, Soc.cells, Soc.clkV]
    refine (running_at h.t hN (i := i) (by omega)).mono ?_
    rintro r s1 ⟨rfl, rfl⟩
    rw [ha i (by omega)]
    simp only [↓Bp, Bq, Bs, ↓aop.eq_28, ↓aop.eq_30, Nat.reduceEqDiff, Nat.reduceAdd, Nat.reduceMul, Nat.reduceSub, Nat.reduceLeDiff, Nat.reduceLT, Int.reduceLT, Int.reduceLE, Int.reduceEq, Int.reduceToNat, Int.reduceAdd, Int.reduceSub, Int.reduceNeg, ↓reduceIte, reduceCtorEq, ↓C.catnaplaw6_ClockOff_W, C.catnaplaw6_ClockOff_B, C.catnaplaw6_ClockOff, hw]
    exact ⟨i + 1, rfl, ⟨hil, h⟩, by omega⟩
  · clear h s
    rintro - s h
    have hgn : g < ns.length := by omega
    have hsame := h.k.same g hgn hg
    simp only [↓Bp, Bq, Bs, ↓aop.eq_28, ↓aop.eq_30, Nat.reduceEqDiff, Nat.reduceAdd, Nat.reduceMul, Nat.reduceSub, Nat.reduceLeDiff, Nat.reduceLT, Int.reduceLT, Int.reduceLE, Int.reduceEq, Int.reduceToNat, Int.reduceAdd, Int.reduceSub, Int.reduceNeg, ↓reduceIte, reduceCtorEq, ↓C.catnaplaw6_ClockOff_W, C.catnaplaw6_ClockOff_B, C.catnaplaw6_ClockOff]
    refine (on_spec h.t hgn false).mono ?_
    rintro r s1 ⟨rfl, rfl⟩
    by_cases he : onE ns[g] = 0
    · have h2 := h.set (h.k.on hgn false)
      have heq : onL ns g hgn false = offN ns g hgn := by unfold onL offN; rw [if_pos he]
      rw [heq] at h2 ⊢
      rw [he]
      simp only [↓Bp, Bq, Bs, ↓aop.eq_28, ↓aop.eq_30, Nat.reduceEqDiff, Nat.reduceAdd, Nat.reduceMul, Nat.reduceSub, Nat.reduceLeDiff, Nat.reduceLT, Int.reduceLT, Int.reduceLE, Int.reduceEq, Int.reduceToNat, Int.reduceAdd, Int.reduceSub, Int.reduceNeg, ↓reduceIte, reduceCtorEq, ↓C.catnaplaw6_ClockOff_r21_w, C.catnaplaw6_ClockOff_r21_b, ↓C.catnaplaw6_ClockOff_c22_w, ↓C.catnaplaw6_ClockOff_c23_w, ↓C.catnaplaw6_ClockOff_r20_w, C.catnaplaw6_ClockOff_r20_b, ↓C.catnaplaw6_ClockOff_c24_w, ↓C.catnaplaw6_ClockOff_r17_w, C.catnaplaw6_ClockOff_r17_b, ↓C.catnaplaw6_ClockOff_c25_w, ↓C.catnaplaw6_ClockOff_r19_w, C.catnaplaw6_ClockOff_r19_b, ↓C.catnaplaw6_ClockOff_c26_w, ↓C.catnaplaw6_ClockOff_c27_w, ↓C.catnaplaw6_ClockOff_r18_w, C.catnaplaw6_ClockOff_r18_b, ↓C.catnaplaw6_ClockOff_b28_w, ↓C.catnaplaw6_ClockOff_c29_w, ↓C.catnaplaw6_ClockOff_c30_w, ↓C.catnaplaw6_ClockOff_r16_w, C.catnaplaw6_ClockOff_r16_b, ↓C.catnaplaw6_ClockOff_b32_w, ↓C.catnaplaw6_ClockOff_c33_w, ↓C.catnaplaw6_ClockOff_r15_w, C.catnaplaw6_ClockOff_r15_b, ↓C.catnaplaw6_ClockOff_c34_w, ↓C.catnaplaw6_ClockOff_r14_w, C.catnaplaw6_ClockOff_r14_b, ↓C.catnaplaw6_ClockOff_c35_w, ↓C.catnaplaw6_ClockOff_r8_w, C.catnaplaw6_ClockOff_r8_b, ↓C.catnaplaw6_ClockOff_c36_w, ↓C.catnaplaw6_ClockOff_r13_w, C.catnaplaw6_ClockOff_r13_b, ↓C.catnaplaw6_ClockOff_c37_w, ↓C.catnaplaw6_ClockOff_r11_w, C.catnaplaw6_ClockOff_r11_b, ↓C.catnaplaw6_ClockOff_c38_w, ↓C.catnaplaw6_ClockOff_r12_w, C.catnaplaw6_ClockOff_r12_b, ↓C.catnaplaw6_ClockOff_b39_w, ↓C.catnaplaw6_ClockOff_c40_w, ↓C.catnaplaw6_ClockOff_c41_w, ↓C.catnaplaw6_ClockOff_r10_w, C.catnaplaw6_ClockOff_r10_b, ↓C.catnaplaw6_ClockOff_b43_w, ↓C.catnaplaw6_ClockOff_c44_w, ↓C.catnaplaw6_ClockOff_r9_w, C.catnaplaw6_ClockOff_r9_b, ↓C.catnaplaw6_ClockOff_b45_w, ↓C.catnaplaw6_ClockOff_c46_w, ↓C.catnaplaw6_ClockOff_c47_w, ↓C.catnaplaw6_ClockOff_r7_w, C.catnaplaw6_ClockOff_r7_b, ↓C.catnaplaw6_ClockOff_b49_w, ↓C.catnaplaw6_ClockOff_c50_w, ↓C.catnaplaw6_ClockOff_r6_w, C.catnaplaw6_ClockOff_r6_b, ↓C.catnaplaw6_ClockOff_c51_w, ↓C.catnaplaw6_ClockOff_r5_w, C.catnaplaw6_ClockOff_r5_b, ↓C.catnaplaw6_ClockOff_c52_w, ↓C.catnaplaw6_ClockOff_c53_w, ↓C.catnaplaw6_ClockOff_r4_w, C.catnaplaw6_ClockOff_r4_b, ↓C.catnaplaw6_ClockOff_c54_w, ↓C.catnaplaw6_ClockOff_r3_w, C.catnaplaw6_ClockOff_r3_b, ↓C.catnaplaw6_ClockOff_c55_w, ↓C.catnaplaw6_ClockOff_r2_w, C.catnaplaw6_ClockOff_r2_b, ↓C.catnaplaw6_ClockOff_c56_w, ↓C.catnaplaw6_ClockOff_r1_w, C.catnaplaw6_ClockOff_r1_b, ↓C.catnaplaw6_ClockOff_c57_w, ↓C.catnaplaw6_ClockOff_r0_w, C.catnaplaw6_ClockOff_r0_b, C.catnaplaw6_ClockOff]
      rw [C.catnaplaw6_ClockOff_c21_w, awp_keep]
      exact ko_look hS hgn h.k ha he h2
    · have hk : ¬ (S.clocks[g].kind = 112 ∨ S.clocks[g].kind = 103) := fun e => he (by unfold onE; rw [hsame, if_pos e])
      have T := eq_false he
      have h2 := h.set (h.k.on hgn false)
      generalize s.set ig (nsC (onL ns g hgn false)) = s1 at h2
      have hb := h2.hb
      have g0 := ck_get hg
      have hz : (0:Int) ≤ (g : Int) ∧ (g : Int) < (S.clocks.length : Nat) := by omega
      have T1 := eq_false (fun e => hk (.inl e))
      have T2 := eq_false (fun e => hk (.inr e))
      simp only [↓Bp, Bq, Bs, ↓aop.eq_28, ↓aop.eq_30, Nat.reduceEqDiff, Nat.reduceAdd, Nat.reduceMul, Nat.reduceSub, Nat.reduceLeDiff, Nat.reduceLT, Int.reduceLT, Int.reduceLE, Int.reduceEq, Int.reduceToNat, Int.reduceAdd, Int.reduceSub, Int.reduceNeg, ↓reduceIte, reduceCtorEq, ↓C.catnaplaw6_ClockOff_W, C.catnaplaw6_ClockOff_B, C.catnaplaw6_ClockOff, T, hb, Soc.cells, Soc.clkV, hz, g0, T1, T2, Int.toNat_natCast]
      exact h2.le
omit hS in
theorem lit_all {ns0 ns : List Nd} {n : Nat} (hC : ∀ i (hi : i < S.clocks.length), ClkOk i S.clocks[i]) (hn9 : S.clocks.length ≤ 9) (h : LitOf ns0 ns (List.range n)) (hn : n = ns0.length) (h1 : NsOk ns) {t : Nat} (h0 : (t = 0 ∧ ns0 = cfresh S.clocks) ∨ ∀ x, x < ns0.length → Lks ns0 x ∧ pot ns0 x ≤ ((27 - t : Nat) : Int)) :
    ∀ x, x < ns.length → Lks ns x ∧ pot ns x ≤ ((27 - t : Nat) : Int) := by
  rcases h0 with ⟨rfl, rfl⟩ | h0
  · intro x hx
    have hf := NsOk.fresh hC
    have hx0 : x < (cfresh S.clocks).length := by rw [← h.len]; exact hx
    refine ⟨h.lks hC h1 x hx fun y hy => List.mem_range.mpr ?_, ?_⟩
    · have := chainN_lt hf x hx0 y hy; omega
    · rw [h.pot hf h1 x hx]
      have := pot_few hC x hx0
      rw [cfresh_len] at hx0
      omega
  · rw [h.none fun x hx => (h0 x hx).1]; exact h0
theorem ko_ticks {s : ASt} {x : Int} (hx : -9223372036854775808 ≤ x ∧ x ≤ 9223372036854775807) (h : KW st s ib p ig S (cfresh S.clocks)) :
    awp Try.prog C.catnaplaw6_ClockOff_c51 (Post [.slot 4] fun r s => r = .bool true ∧ st.le s) [(1, .int .i64 x), (6, .ptr ib 0), (7, .ptr p 0)] s := by
  have hnc := hS.nc
  simp only [↓Bp, Bq, Bs, ↓aop.eq_28, ↓aop.eq_30, Nat.reduceEqDiff, Nat.reduceAdd, Nat.reduceMul, Nat.reduceSub, Nat.reduceLeDiff, Nat.reduceLT, Int.reduceLT, Int.reduceLE, Int.reduceEq, Int.reduceToNat, Int.reduceAdd, Int.reduceSub, Int.reduceNeg, ↓reduceIte, reduceCtorEq, ↓C.catnaplaw6_ClockOff_W, C.catnaplaw6_ClockOff_B, C.catnaplaw6_ClockOff]
  refine awp_midB (fun _ : Unit => [(1, .int .i64 x), (6, .ptr ib 0), (7, .ptr p 0)]) (fun _ s' => ∃ ns, KW st s' ib p ig S ns ∧ AllRun ns) ?_ ?_
  rotate_left
  · clear h s
    rintro - s ⟨ns, h, ha⟩
    have hb := h.hb
    simp only [↓Bp, Bq, Bs, ↓aop.eq_28, ↓aop.eq_30, Nat.reduceEqDiff, Nat.reduceAdd, Nat.reduceMul, Nat.reduceSub, Nat.reduceLeDiff, Nat.reduceLT, Int.reduceLT, Int.reduceLE, Int.reduceEq, Int.reduceToNat, Int.reduceAdd, Int.reduceSub, Int.reduceNeg, ↓reduceIte, reduceCtorEq, ↓C.catnaplaw6_ClockOff_W, C.catnaplaw6_ClockOff_B, C.catnaplaw6_ClockOff, hb, Soc.cells, Soc.clkV]
    refine (pick_spec hx (n := S.clocks.length) (by omega)).mono ?_
    rintro r s1 ⟨rfl, rfl⟩
    have hg := pickI_lt x (n := S.clocks.length) (by omega)
    simp only [↓Bp, Bq, Bs, ↓aop.eq_28, ↓aop.eq_30, Nat.reduceEqDiff, Nat.reduceAdd, Nat.reduceMul, Nat.reduceSub, Nat.reduceLeDiff, Nat.reduceLT, Int.reduceLT, Int.reduceLE, Int.reduceEq, Int.reduceToNat, Int.reduceAdd, Int.reduceSub, Int.reduceNeg, ↓reduceIte, reduceCtorEq, ↓C.catnaplaw6_ClockOff_r14_w, C.catnaplaw6_ClockOff_r14_b, ↓C.catnaplaw6_ClockOff_c35_w, ↓C.catnaplaw6_ClockOff_r8_w, C.catnaplaw6_ClockOff_r8_b, ↓C.catnaplaw6_ClockOff_c36_w, ↓C.catnaplaw6_ClockOff_r13_w, C.catnaplaw6_ClockOff_r13_b, ↓C.catnaplaw6_ClockOff_c37_w, ↓C.catnaplaw6_ClockOff_r11_w, C.catnaplaw6_ClockOff_r11_b, ↓C.catnaplaw6_ClockOff_c38_w, ↓C.catnaplaw6_ClockOff_r12_w, C.catnaplaw6_ClockOff_r12_b, ↓C.catnaplaw6_ClockOff_b39_w, ↓C.catnaplaw6_ClockOff_c40_w, ↓C.catnaplaw6_ClockOff_c41_w, ↓C.catnaplaw6_ClockOff_r10_w, C.catnaplaw6_ClockOff_r10_b, ↓C.catnaplaw6_ClockOff_b43_w, ↓C.catnaplaw6_ClockOff_c44_w, ↓C.catnaplaw6_ClockOff_r9_w, C.catnaplaw6_ClockOff_r9_b, ↓C.catnaplaw6_ClockOff_b45_w, ↓C.catnaplaw6_ClockOff_c46_w, ↓C.catnaplaw6_ClockOff_c47_w, ↓C.catnaplaw6_ClockOff_r7_w, C.catnaplaw6_ClockOff_r7_b, ↓C.catnaplaw6_ClockOff_b49_w, ↓C.catnaplaw6_ClockOff_c50_w, ↓C.catnaplaw6_ClockOff_r6_w, C.catnaplaw6_ClockOff_r6_b, ↓C.catnaplaw6_ClockOff_c51_w, ↓C.catnaplaw6_ClockOff_r5_w, C.catnaplaw6_ClockOff_r5_b, ↓C.catnaplaw6_ClockOff_c52_w, ↓C.catnaplaw6_ClockOff_c53_w, ↓C.catnaplaw6_ClockOff_r4_w, C.catnaplaw6_ClockOff_r4_b, ↓C.catnaplaw6_ClockOff_c54_w, ↓C.catnaplaw6_ClockOff_r3_w, C.catnaplaw6_ClockOff_r3_b, ↓C.catnaplaw6_ClockOff_c55_w, ↓C.catnaplaw6_ClockOff_r2_w, C.catnaplaw6_ClockOff_r2_b, ↓C.catnaplaw6_ClockOff_c56_w, ↓C.catnaplaw6_ClockOff_r1_w, C.catnaplaw6_ClockOff_r1_b, ↓C.catnaplaw6_ClockOff_c57_w, ↓C.catnaplaw6_ClockOff_r0_w, C.catnaplaw6_ClockOff_r0_b, C.catnaplaw6_ClockOff]
    rw [C.catnaplaw6_ClockOff_c34_w, awp_keep]
    exact ko_all hS hg ha h
  refine awp_loopK (fun t : Nat => [(1, .int .i64 x), (6, .ptr ib 0), (7, .ptr p 0), (9, .int .i64 t)]) (fun t s' => t ≤ 60 ∧ ∃ ns, KW st s' ib p ig S ns ∧ ((t = 0 ∧ ns = cfresh S.clocks) ∨ ∀ x, x < ns.length → Lks ns x ∧ pot ns x ≤ ((27 - t : Nat) : Int))) (fun t => 60 - t) 0 rfl ⟨Nat.zero_le _, _, h, .inl ⟨rfl, rfl⟩⟩ ?_
  clear h s
  rintro t s ⟨ht, ns0, h, h0⟩
  by_cases htl : t < 60
  rotate_left
  · have htl' : ¬ (t : Int) < 60 := by omega
    simp only [↓Bp, Bq, Bs, ↓aop.eq_28, ↓aop.eq_30, Nat.reduceEqDiff, Nat.reduceAdd, Nat.reduceMul, Nat.reduceSub, Nat.reduceLeDiff, Nat.reduceLT, Int.reduceLT, Int.reduceLE, Int.reduceEq, Int.reduceToNat, Int.reduceAdd, Int.reduceSub, Int.reduceNeg, ↓reduceIte, reduceCtorEq, ↓C.catnaplaw6_ClockOff_W, C.catnaplaw6_ClockOff_B, C.catnaplaw6_ClockOff, htl']
    refine ⟨(), ns0, h, fun x hx => ?_⟩
    rcases h0 with ⟨h0, -⟩ | h0
    · omega
    · obtain ⟨a, b⟩ := h0 x hx
      have := a.alive h.k.ok
      exact this.2.mpr (by omega)
  have htl' : (t : Int) < 60 := by omega
  have hw := wsucc (k := t) (n := 60) (by omega) (by omega)
  have hlen0 := h.k.len
  simp only [↓Bp, Bq, Bs, ↓aop.eq_28, ↓aop.eq_30, Nat.reduceEqDiff, Nat.reduceAdd, Nat.reduceMul, Nat.reduceSub, Nat.reduceLeDiff, Nat.reduceLT, Int.reduceLT, Int.reduceLE, Int.reduceEq, Int.reduceToNat, Int.reduceAdd, Int.reduceSub, Int.reduceNeg, ↓reduceIte, reduceCtorEq, ↓C.catnaplaw6_ClockOff_W, C.catnaplaw6_ClockOff_B, C.catnaplaw6_ClockOff, htl']
  refine awp_midB (fun _ : Unit => [(1, .int .i64 x), (6, .ptr ib 0), (7, .ptr p 0), (9, .int .i64 t)]) (fun _ s' => ∃ ns, KW st s' ib p ig S ns ∧ LitOf ns0 ns (List.range S.clocks.length)) ?_ ?_
  rotate_left
  · clear h s
    rintro - s ⟨ns, h, hL⟩
    have hall := lit_all hS.clk hnc.2 hL (by omega) h.k.ok h0
    simp only [↓Bp, Bq, Bs, ↓aop.eq_28, ↓aop.eq_30, Nat.reduceEqDiff, Nat.reduceAdd, Nat.reduceMul, Nat.reduceSub, Nat.reduceLeDiff, Nat.reduceLT, Int.reduceLT, Int.reduceLE, Int.reduceEq, Int.reduceToNat, Int.reduceAdd, Int.reduceSub, Int.reduceNeg, ↓reduceIte, reduceCtorEq, ↓C.catnaplaw6_ClockOff_W, C.catnaplaw6_ClockOff_B, C.catnaplaw6_ClockOff]
    refine (ctick_spec h.t h.k.ok).mono ?_
    rintro r s1 rfl
    simp only [↓Bp, Bq, Bs, ↓aop.eq_28, ↓aop.eq_30, Nat.reduceEqDiff, Nat.reduceAdd, Nat.reduceMul, Nat.reduceSub, Nat.reduceLeDiff, Nat.reduceLT, Int.reduceLT, Int.reduceLE, Int.reduceEq, Int.reduceToNat, Int.reduceAdd, Int.reduceSub, Int.reduceNeg, ↓reduceIte, reduceCtorEq, ↓C.catnaplaw6_ClockOff_W, C.catnaplaw6_ClockOff_B, C.catnaplaw6_ClockOff, hw]
    refine ⟨t + 1, rfl, ⟨htl, _, h.set h.k.tick, .inr fun x hx => ?_⟩, by omega⟩
    rw [ctickL_len] at hx
    obtain ⟨a, b⟩ := hall x hx
    obtain ⟨c, d⟩ := a.after h.k.ok
    refine ⟨c, ?_⟩
    rw [d]; split <;> omega
  refine awp_loopK (fun j : Nat => [(1, .int .i64 x), (6, .ptr ib 0), (7, .ptr p 0), (9, .int .i64 t), (10, .int .i64 j)]) (fun j s' => j ≤ S.clocks.length ∧ ∃ ns, KW st s' ib p ig S ns ∧ LitOf ns0 ns (List.range j)) (fun j => S.clocks.length - j) 0 rfl ⟨Nat.zero_le _, ns0, h, LitOf.start _⟩ ?_
  clear h s
  rintro j s ⟨hj, ns, h, hL⟩
  have hb := h.hb
  by_cases hjl : j < S.clocks.length
  rotate_left
  · have hjl' : ¬ (j : Int) < (S.clocks.length : Nat) := by omega
    rw [show j = S.clocks.length by omega] at hL
    simp only [↓Bp, Bq, Bs, ↓aop.eq_28, ↓aop.eq_30, Nat.reduceEqDiff, Nat.reduceAdd, Nat.reduceMul, Nat.reduceSub, Nat.reduceLeDiff, Nat.reduceLT, Int.reduceLT, Int.reduceLE, Int.reduceEq, Int.reduceToNat, Int.reduceAdd, Int.reduceSub, Int.reduceNeg, ↓reduceIte, reduceCtorEq, ↓C.catnaplaw6_ClockOff_W, C.catnaplaw6_ClockOff_B, C.catnaplaw6_ClockOff, hjl', hb, Soc.cells, Soc.clkV]
    exact ⟨(), ns, h, hL⟩
  have hjl' : (j : Int) < (S.clocks.length : Nat) := by omega
  have hw2 := wsucc hjl (by omega)
  have hjn : j < ns.length := by rw [h.k.len]; exact hjl
  have hL2 := hL.more hjn
  rw [← List.range_succ] at hL2
  simp only [↓Bp, Bq, Bs, ↓aop.eq_28, ↓aop.eq_30, Nat.reduceEqDiff, Nat.reduceAdd, Nat.reduceMul, Nat.reduceSub, Nat.reduceLeDiff, Nat.reduceLT, Int.reduceLT, Int.reduceLE, Int.reduceEq, Int.reduceToNat, Int.reduceAdd, Int.reduceSub, Int.reduceNeg, ↓reduceIte, reduceCtorEq, ↓C.catnaplaw6_ClockOff_W, C.catnaplaw6_ClockOff_B, C.catnaplaw6_ClockOff, hjl', hb, Soc.cells, Soc.clkV]
  refine (on_spec h.t hjn true).mono ?_
  rintro r s1 ⟨rfl, rfl⟩
  simp only [↓Bp, Bq, Bs, ↓aop.eq_28, ↓aop.eq_30, Nat.reduceEqDiff, Nat.reduceAdd, Nat.reduceMul, Nat.reduceSub, Nat.reduceLeDiff, Nat.reduceLT, Int.reduceLT, Int.reduceLE, Int.reduceEq, Int.reduceToNat, Int.reduceAdd, Int.reduceSub, Int.reduceNeg, ↓reduceIte, reduceCtorEq, ↓C.catnaplaw6_ClockOff_W, C.catnaplaw6_ClockOff_B, C.catnaplaw6_ClockOff, hw2]
  exact ⟨j + 1, rfl, ⟨hjl, _, h.set (h.k.on hjn true), hL2⟩, by omega⟩
end
theorem clockoff_spec {st : ASt} {l : List Int} {x : Int} (hl : ∀ x ∈ l, -9223372036854775808 ≤ x ∧ x ≤ 9223372036854775807) (hll : l.length ≤ 9223372036854775807)
    (hx : -9223372036854775808 ≤ x ∧ x ≤ 9223372036854775807) :
    ACalls Try.prog F.catnaplaw6_ClockOff [row l, .int .i64 x] st fun r s => r = .bool true ∧ s = st := by
  refine ACalls.gc (Q' := fun r s => r = .bool true ∧ st.le s) (calls_of_awp L.catnaplaw6_ClockOff rfl ?_) (fun v s ⟨h, hl⟩ => ⟨st, hl, h, rfl⟩)
  simp only [↓Bp, Bq, Bs, ↓aop.eq_28, ↓aop.eq_30, Nat.reduceEqDiff, Nat.reduceAdd, Nat.reduceMul, Nat.reduceSub, Nat.reduceLeDiff, Nat.reduceLT, Int.reduceLT, Int.reduceLE, Int.reduceEq, Int.reduceToNat, Int.reduceAdd, Int.reduceSub, Int.reduceNeg, ↓reduceIte, reduceCtorEq, ↓C.catnaplaw6_ClockOff_W, C.catnaplaw6_ClockOff_B, C.catnaplaw6_ClockOff]
  refine (kshown_spec st).mono ?_
  rintro r s ⟨rfl, rfl⟩
  simp only [↓Bp, Bq, Bs, ↓aop.eq_28, ↓aop.eq_30, Nat.reduceEqDiff, Nat.reduceAdd, Nat.reduceMul, Nat.reduceSub, Nat.reduceLeDiff, Nat.reduceLT, Int.reduceLT, Int.reduceLE, Int.reduceEq, Int.reduceToNat, Int.reduceAdd, Int.reduceSub, Int.reduceNeg, ↓reduceIte, reduceCtorEq, ↓C.catnaplaw6_ClockOff_W, C.catnaplaw6_ClockOff_B, C.catnaplaw6_ClockOff]
  refine (chip_frz hl hll).mono ?_
  rintro r s ⟨rfl, rfl⟩
  have hS := chipS_like l
  generalize chipS l = S at hS
  have l4 : S.cells.length = 4 := rfl
  have e4 : AV.agg (List.take 4 S.cells) = .agg S.cells := rfl
  have f4 : allLeaf S.cells = true := rfl
  simp only [↓Bp, Bq, Bs, ↓aop.eq_28, ↓aop.eq_30, Nat.reduceEqDiff, Nat.reduceAdd, Nat.reduceMul, Nat.reduceSub, Nat.reduceLeDiff, Nat.reduceLT, Int.reduceLT, Int.reduceLE, Int.reduceEq, Int.reduceToNat, Int.reduceAdd, Int.reduceSub, Int.reduceNeg, ↓reduceIte, reduceCtorEq, ↓C.catnaplaw6_ClockOff_r2_w, C.catnaplaw6_ClockOff_r2_b, ↓C.catnaplaw6_ClockOff_c56_w, ↓C.catnaplaw6_ClockOff_r1_w, C.catnaplaw6_ClockOff_r1_b, ↓C.catnaplaw6_ClockOff_c57_w, ↓C.catnaplaw6_ClockOff_r0_w, C.catnaplaw6_ClockOff_r0_b, C.catnaplaw6_ClockOff, l4, f4]
  rintro ib hib
  simp only [↓Bp, Bq, Bs, ↓aop.eq_28, ↓aop.eq_30, Nat.reduceEqDiff, Nat.reduceAdd, Nat.reduceMul, Nat.reduceSub, Nat.reduceLeDiff, Nat.reduceLT, Int.reduceLT, Int.reduceLE, Int.reduceEq, Int.reduceToNat, Int.reduceAdd, Int.reduceSub, Int.reduceNeg, ↓reduceIte, reduceCtorEq, ↓C.catnaplaw6_ClockOff_r2_w, C.catnaplaw6_ClockOff_r2_b, ↓C.catnaplaw6_ClockOff_c56_w, ↓C.catnaplaw6_ClockOff_r1_w, C.catnaplaw6_ClockOff_r1_b, ↓C.catnaplaw6_ClockOff_c57_w, ↓C.catnaplaw6_ClockOff_r0_w, C.catnaplaw6_ClockOff_r0_b, C.catnaplaw6_ClockOff, hib, l4, f4]
  rw [ASt.new_set hib, show putN [AV.nils, AV.nils, AV.nils, AV.nils] 0 S.cells = S.cells from putN_all rfl]
  simp only [↓Bp, Bq, Bs, ↓aop.eq_28, ↓aop.eq_30, Nat.reduceEqDiff, Nat.reduceAdd, Nat.reduceMul, Nat.reduceSub, Nat.reduceLeDiff, Nat.reduceLT, Int.reduceLT, Int.reduceLE, Int.reduceEq, Int.reduceToNat, Int.reduceAdd, Int.reduceSub, Int.reduceNeg, ↓reduceIte, reduceCtorEq, ↓C.catnaplaw6_ClockOff_W, C.catnaplaw6_ClockOff_B, C.catnaplaw6_ClockOff, hib, l4, e4]
  refine (kstart_spec hib hS).mono ?_
  rintro r s1 ⟨p, ig, rfl, h⟩
  simp only [↓Bp, Bq, Bs, ↓aop.eq_28, ↓aop.eq_30, Nat.reduceEqDiff, Nat.reduceAdd, Nat.reduceMul, Nat.reduceSub, Nat.reduceLeDiff, Nat.reduceLT, Int.reduceLT, Int.reduceLE, Int.reduceEq, Int.reduceToNat, Int.reduceAdd, Int.reduceSub, Int.reduceNeg, ↓reduceIte, reduceCtorEq, ↓C.catnaplaw6_ClockOff_r5_w, C.catnaplaw6_ClockOff_r5_b, ↓C.catnaplaw6_ClockOff_c52_w, ↓C.catnaplaw6_ClockOff_c53_w, ↓C.catnaplaw6_ClockOff_r4_w, C.catnaplaw6_ClockOff_r4_b, ↓C.catnaplaw6_ClockOff_c54_w, ↓C.catnaplaw6_ClockOff_r3_w, C.catnaplaw6_ClockOff_r3_b, ↓C.catnaplaw6_ClockOff_c55_w, ↓C.catnaplaw6_ClockOff_r2_w, C.catnaplaw6_ClockOff_r2_b, ↓C.catnaplaw6_ClockOff_c56_w, ↓C.catnaplaw6_ClockOff_r1_w, C.catnaplaw6_ClockOff_r1_b, ↓C.catnaplaw6_ClockOff_c57_w, ↓C.catnaplaw6_ClockOff_r0_w, C.catnaplaw6_ClockOff_r0_b, C.catnaplaw6_ClockOff]
  rw [C.catnaplaw6_ClockOff_c51_w, awp_keep]
  exact ko_ticks hS hx h
end Go.Proofs.Ytkioaemhdbcfaaa.Cn
