/- Count: who is in use, as the document finds it: until nothing is new. -/
import Derived.Test.YtoblpialfhfdgaaCnRef16
set_option linter.unusedSimpArgs false
set_option linter.unusedVariables false
set_option linter.unusedSectionVars false
namespace Go.Proofs.Ytoblpialfhfdgaa.Cn
open Go Go.Proofs

/-- How many are not marked. -/
def nf (B : List Bool) : Nat := B.count false
theorem nf_set {B : List Bool} {u : Nat} (hu : u < B.length) (h : B[u] = false) : nf (B.set u true) + 1 = nf B := by
  unfold nf
  have hc := List.count_set (l := B) (i := u) (a := true) (b := false) hu
  rw [hc, h]
  have : 0 < B.count false := List.count_pos_iff.mpr (h ▸ List.getElem_mem hu)
  simp
  omega
/-- What is marked is in use; what was got is marked. -/
structure Mark (N : Gr) (f : Int → Int) (B : List Bool) : Prop where
  len : B.length = N.length
  sound : ∀ v (h : v < B.length), B[v] = true → useTo N f N.length v = true
  base : ∀ v (h : v < B.length), 0 < f (v : Int) → B[v] = true
theorem Mark.set {N : Gr} {f : Int → Int} {B : List Bool} (h : Mark N f B) {u : Nat} (hu : useTo N f N.length u = true) : Mark N f (B.set u true) where
  len := by simp [h.len]
  sound := fun v hv e => by
    simp only [List.length_set] at hv
    rw [List.getElem_set] at e
    split at e
    · rename_i e2; subst e2; exact hu
    · exact h.sound v hv e
  base := fun v hv e => by
    simp only [List.length_set] at hv
    rw [List.getElem_set]
    split
    · rfl
    · exact h.base v hv e
/-- What is closed, and is marked, is all that is in use. -/
theorem Mark.done {N : Gr} {f : Int → Int} {B : List Bool} (h : Mark N f B) (hR : Right N) (hc : ∀ i (hi : i < B.length), B[i] = true → ∀ u ∈ deps N i, ∀ hu : u < B.length, B[u] = true) : B = useL N f false := by
  refine List.ext_getElem (by rw [useL_len, h.len]) fun v h1 h2 => ?_
  rw [useL_get h2, Bool.eq_iff_iff]
  refine ⟨h.sound v h1, fun e => ?_⟩
  obtain ⟨d, hd, hf, hv⟩ := useTo_iff.mp e
  have hdl : d < B.length := by rw [h.len]; exact hd
  have hbd := h.base d hdl hf
  have key : ∀ {a b : Nat}, Up N a b → ∀ (ha : a < B.length) (hb : b < B.length), B[a] = true → B[b] = true := by
    intro a b hu
    induction hu with
    | one h' => intro ha hb e; exact hc _ ha e _ h' hb
    | more h' k ih =>
      intro ha hb e
      have hw : _ < N.length := (Up.lt hR.ok (.one h')).2
      exact ih (by rw [h.len]; exact hw) hb (hc _ ha e _ h' (by rw [h.len]; exact hw))
  rcases hv with rfl | hv
  · exact hbd
  · exact key hv hdl h1 hbd
section
variable {st : ASt} {q j : Nat} {N : Gr} {f : Int → Int} {sl : Bool}
/-- How far a pass has come: up to k of row i. -/
structure Pass (N : Gr) (f : Int → Int) (B0 B : List Bool) (more : Bool) (i k : Nat) : Prop where
  mark : Mark N f B
  quiet : more = false → B = B0 ∧ (∀ i' (h : i' < B.length), i' < i → B[i'] = true → ∀ u ∈ deps N i', ∀ hu : u < B.length, B[u] = true) ∧ (∀ (h : i < B.length), B[i] = true → ∀ u ∈ (deps N i).take k, ∀ hu : u < B.length, B[u] = true)
  grow : more = true → nf B < nf B0
set_option maxHeartbeats 2000000 in
theorem ract_row {s : ASt} {ix i : Nat} {B0 B : List Bool} {more : Bool} (h : RAt st q j N f sl) (hix : st.h ix = none) (hR : Right N) (hn : N.length ≤ 100) (hfew : N.few) (hi : i < N.length) (hP : Pass N f B0 B more i 0) (hs : s = st.new ix (.cells (tbools B))) {Q : IExit → AFr → ASt → Prop}
    (hQ : ∀ fr B' more', Pass N f B0 B' more' (i + 1) 0 → fr.keep [0, 3, 4, 6] = [(0, .ptr q 0), (3, .sl 1 ix 0 N.length), (4, .bool more'), (6, .int .i64 (i + 1 : Nat))] → Q .normal fr (st.new ix (.cells (tbools B')))) :
    awp Try.prog C.q7_c14 Q [(0, .ptr q 0), (3, .sl 1 ix 0 N.length), (4, .bool more), (6, .int .i64 i)] s := by
  subst hs
  have hq := h.hq
  rw [gval] at hq
  have hne : q ≠ ix := by rintro rfl; rw [h.hq] at hix; cases hix
  have hzi : (0:Int) ≤ (i : Int) ∧ (i : Int) < (N.length : Nat) := by omega
  have hrow : (N.map row)[i]? = some (.isl 1 (ints N[i]) N[i].length) := by simp [hi, row]
  have hwi := wsucc hi (by omega)
  have hns := fun a b => ASt.new_set hix a b
  have hrl : N[i].length ≤ 9223372036854775807 := hfew.2 _ (List.getElem_mem hi)
  have hdl : (deps N i).length = N[i].length := by rw [deps_at hi, List.length_map]
  simp only [↓Bp, Bq, Bs, ↓aop.eq_28, ↓aop.eq_30, Nat.reduceEqDiff, Nat.reduceAdd, Nat.reduceMul, Nat.reduceSub, Nat.reduceLeDiff, Nat.reduceLT, Int.reduceLT, Int.reduceLE, Int.reduceEq, Int.reduceToNat, Int.reduceAdd, Int.reduceSub, Int.reduceNeg, ↓reduceIte, reduceCtorEq, ↓C.q7_W, C.q7_B, C.q7]
  refine awp_loopK (fun w : Nat × Bool => [(0, .ptr q 0), (3, .sl 1 ix 0 N.length), (4, .bool w.2), (6, .int .i64 i), (7, .int .i64 w.1)]) (fun w s' => w.1 ≤ N[i].length ∧ ∃ B' : List Bool, s' = st.new ix (.cells (tbools B')) ∧ Pass N f B0 B' w.2 i w.1) (fun w => N[i].length - w.1) (0, more) rfl ⟨Nat.zero_le _, B, rfl, hP⟩ ?_
  rintro ⟨k, b⟩ s' ⟨hk, B', rfl, hP'⟩
  simp only at hk hP'
  by_cases hkl : k < N[i].length
  rotate_left
  · have hkl' : ¬ (k : Int) < (N[i].length : Nat) := by omega
    simp only [↓Bp, Bq, Bs, ↓aop.eq_28, ↓aop.eq_30, Nat.reduceEqDiff, Nat.reduceAdd, Nat.reduceMul, Nat.reduceSub, Nat.reduceLeDiff, Nat.reduceLT, Int.reduceLT, Int.reduceLE, Int.reduceEq, Int.reduceToNat, Int.reduceAdd, Int.reduceSub, Int.reduceNeg, ↓reduceIte, reduceCtorEq, ↓C.q7_W, C.q7_B, C.q7, hq, hix, hzi, hrow, hkl', hwi, Int.toNat_natCast, Nat.mul_one]
    refine hQ _ B' b ⟨hP'.mark, fun e => ?_, hP'.grow⟩ rfl
    obtain ⟨e1, e2, e3⟩ := hP'.quiet e
    refine ⟨e1, fun i' h1 h2 => ?_, fun h1 _ u hu => by simp at hu⟩
    by_cases e4 : i' = i
    · subst e4
      have := e3 h1
      rw [show k = N[i'].length by omega, ← hdl, List.take_length] at this
      exact this
    · exact e2 i' h1 (by omega)
  have hkl' : (k : Int) < (N[i].length : Nat) := by omega
  have hzk : (0:Int) ≤ (k : Int) ∧ (k : Int) < (N[i].length : Nat) := by omega
  have hw := wsucc hkl hrl
  have hok := hR.ok _ (List.getElem_mem hi) _ (List.getElem_mem hkl)
  obtain ⟨u, hu⟩ : ∃ u : Nat, N[i][k] = u := ⟨N[i][k].toNat, by omega⟩
  have hul : u < N.length := by omega
  have hgk : (ints N[i])[k]? = some (.int .i64 (u : Int)) := by rw [ints_get hkl, hu]
  have hkd : k < (deps N i).length := by rw [hdl]; exact hkl
  have hdk : (deps N i)[k] = u := by simp only [deps_at hi, List.getElem_map, hu, Int.toNat_natCast]
  have hmem : u ∈ deps N i := by rw [← hdk]; exact List.getElem_mem hkd
  have htk : ∀ x, x ∈ (deps N i).take (k + 1) ↔ x ∈ (deps N i).take k ∨ x = u := fun x => by rw [List.take_succ_eq_append_getElem hkd, List.mem_append, List.mem_singleton, hdk]
  have hBl := hP'.mark.len
  have hiB : i < B'.length := by omega
  have huB : u < B'.length := by omega
  have gi := tbools_get hiB
  have gu := tbools_get huB
  have hzu : (0:Int) ≤ (u : Int) ∧ (u : Int) < (N.length : Nat) := by omega
  have keepQ : (B'[i] = true → B'[u] = true) → Pass N f B0 B' b i (k + 1) := fun hc => ⟨hP'.mark, fun e => by
    obtain ⟨e1, e2, e3⟩ := hP'.quiet e
    refine ⟨e1, e2, fun h1 hb x hx hxl => ?_⟩
    rcases (htk x).mp hx with hx1 | rfl
    · exact e3 h1 hb x hx1 hxl
    · exact hc hb, hP'.grow⟩
  cases hbi : B'[i]
  · rw [hbi] at gi
    simp only [↓Bp, Bq, Bs, ↓aop.eq_28, ↓aop.eq_30, Nat.reduceEqDiff, Nat.reduceAdd, Nat.reduceMul, Nat.reduceSub, Nat.reduceLeDiff, Nat.reduceLT, Int.reduceLT, Int.reduceLE, Int.reduceEq, Int.reduceToNat, Int.reduceAdd, Int.reduceSub, Int.reduceNeg, ↓reduceIte, reduceCtorEq, ↓C.q7_W, C.q7_B, C.q7, hq, hix, hzi, hrow, hkl', hzk, hgk, gi, Int.toNat_natCast, Nat.mul_one, hw]
    exact ⟨(k + 1, b), rfl, ⟨hkl, B', rfl, keepQ (fun e => by rw [hbi] at e; cases e)⟩, by simp only; omega⟩
  rw [hbi] at gi
  cases hbu : B'[u]
  rotate_left
  · rw [hbu] at gu
    simp only [↓Bp, Bq, Bs, ↓aop.eq_28, ↓aop.eq_30, Nat.reduceEqDiff, Nat.reduceAdd, Nat.reduceMul, Nat.reduceSub, Nat.reduceLeDiff, Nat.reduceLT, Int.reduceLT, Int.reduceLE, Int.reduceEq, Int.reduceToNat, Int.reduceAdd, Int.reduceSub, Int.reduceNeg, ↓reduceIte, reduceCtorEq, ↓C.q7_W, C.q7_B, C.q7, hq, hix, hzi, hrow, hkl', hzk, hgk, gi, gu, hzu, Int.toNat_natCast, Nat.mul_one, hw]
    exact ⟨(k + 1, b), rfl, ⟨hkl, B', rfl, keepQ (fun _ => hbu)⟩, by simp only; omega⟩
  rw [hbu] at gu
  have hfx : u < (tbools B').length := by rw [tbools_len]; exact huB
  have hset := tbools_set B' u true
  simp only [↓Bp, Bq, Bs, ↓aop.eq_28, ↓aop.eq_30, Nat.reduceEqDiff, Nat.reduceAdd, Nat.reduceMul, Nat.reduceSub, Nat.reduceLeDiff, Nat.reduceLT, Int.reduceLT, Int.reduceLE, Int.reduceEq, Int.reduceToNat, Int.reduceAdd, Int.reduceSub, Int.reduceNeg, ↓reduceIte, reduceCtorEq, ↓C.q7_W, C.q7_B, C.q7, hq, hix, hzi, hrow, hkl', hzk, hgk, gi, gu, hzu, hfx, hset, hns, Int.toNat_natCast, Nat.mul_one, hw]
  have huse : useTo N f N.length u = true := (use_step hR hul).mpr (.inr ⟨i, hi, hmem, hP'.mark.sound i hiB hbi⟩)
  have hnf := nf_set huB hbu
  have hle : nf B' ≤ nf B0 := by
    cases hb : b
    · rw [(hP'.quiet hb).1]; exact Nat.le_refl _
    · have := hP'.grow hb; omega
  exact ⟨(k + 1, true), rfl, ⟨hkl, B'.set u true, rfl, hP'.mark.set huse, (fun e => by cases e), (fun _ => by omega)⟩, by simp only; omega⟩
set_option maxHeartbeats 2000000 in
theorem ract_spec (h : RAt st q j N f sl) (hN : grErr N = 0) (hfew : N.few) (hn : N.length ≤ 100) (hlim : Lim f) :
    ACalls Try.prog F.q7 [.ptr q 0] st fun r s => r = brow (useL N f sl) ∧ s = st := by
  refine ACalls.ghost (Q' := fun r s => Over st s 1 r (useL N f sl).length (tbools (useL N f sl))) (calls_of_awp L.q7 rfl ?_) (fun r s hO => ⟨_, _, hO.frz, rfl, rfl⟩)
  have hR := (grErr_zero.mp hN).2
  have hq := h.hq
  have hj := h.hj
  rw [gval] at hq
  have hzn : (0 : Int) ≤ (N.length : Nat) ∧ ((N.length : Nat) : Int) ≤ 4294967296 := by omega
  simp only [↓Bp, Bq, Bs, ↓aop.eq_28, ↓aop.eq_30, Nat.reduceEqDiff, Nat.reduceAdd, Nat.reduceMul, Nat.reduceSub, Nat.reduceLeDiff, Nat.reduceLT, Int.reduceLT, Int.reduceLE, Int.reduceEq, Int.reduceToNat, Int.reduceAdd, Int.reduceSub, Int.reduceNeg, ↓reduceIte, reduceCtorEq, ↓C.q7_r1_w, C.q7_r1_b, ↓C.q7_c35_w, ↓C.q7_r0_w, C.q7_r0_b, C.q7, hq, hzn, Int.toNat_natCast]
  rintro ix hix
  rw [zeros_tbool]
  have hns := fun a b => ASt.new_set hix a b
  have hself := fun o => ASt.new_self (st := st) (id := ix) o hix
  have over : ∀ B : List Bool, B = useL N f sl → Over st (st.new ix (.cells (tbools B))) 1 (.sl 1 ix 0 N.length) (useL N f sl).length (tbools (useL N f sl)) := fun B e => by
    subst e
    rw [useL_len]
    exact ⟨⟨by rw [tbools_len, useL_len, Nat.mul_one], .inr ⟨ix, rfl, hself _⟩⟩, ASt.le.new _ _ _, fun sz i off n e => by cases e; exact hix⟩
  -- the passes
  have passes : ∀ (B : List Bool) (b : Bool), (b = true → Mark N f B) → (b = false → B = useL N f sl) → (b = true → sl = false) →
      awp Try.prog C.q7_c25 (Post [.slot 2] fun r s => Over st s 1 r (useL N f sl).length (tbools (useL N f sl))) [(0, .ptr q 0), (3, .sl 1 ix 0 N.length), (4, .bool b)] (st.new ix (.cells (tbools B))) := by
    intro B b hm hd hsl
    simp only [↓Bp, Bq, Bs, ↓aop.eq_28, ↓aop.eq_30, Nat.reduceEqDiff, Nat.reduceAdd, Nat.reduceMul, Nat.reduceSub, Nat.reduceLeDiff, Nat.reduceLT, Int.reduceLT, Int.reduceLE, Int.reduceEq, Int.reduceToNat, Int.reduceAdd, Int.reduceSub, Int.reduceNeg, ↓reduceIte, reduceCtorEq, ↓C.q7_W, C.q7_B, C.q7]
    refine awp_midB (fun _ : Unit => [(3, .sl 1 ix 0 N.length)]) (fun _ s => s = st.new ix (.cells (tbools (useL N f sl)))) ?_ ?_
    rotate_left
    · rintro - s rfl
      simp only [↓Bp, Bq, Bs, ↓aop.eq_28, ↓aop.eq_30, Nat.reduceEqDiff, Nat.reduceAdd, Nat.reduceMul, Nat.reduceSub, Nat.reduceLeDiff, Nat.reduceLT, Int.reduceLT, Int.reduceLE, Int.reduceEq, Int.reduceToNat, Int.reduceAdd, Int.reduceSub, Int.reduceNeg, ↓reduceIte, reduceCtorEq, ↓C.q7_W, C.q7_B, C.q7]
      exact over _ rfl
    refine awp_loopK (fun w : Bool × List Bool => [(0, .ptr q 0), (3, .sl 1 ix 0 N.length), (4, .bool w.1)]) (fun w s => s = st.new ix (.cells (tbools w.2)) ∧ (w.1 = true → Mark N f w.2) ∧ (w.1 = false → w.2 = useL N f sl) ∧ (w.1 = true → sl = false)) (fun w => 2 * nf w.2 + (if w.1 = true then 1 else 0)) (b, B) rfl ⟨rfl, hm, hd, hsl⟩ ?_
    clear hm hd hsl B b
    rintro ⟨b, B⟩ s ⟨rfl, hm, hd, hsl⟩
    simp only at hm hd hsl
    cases b
    · simp only [↓Bp, Bq, Bs, ↓aop.eq_28, ↓aop.eq_30, Nat.reduceEqDiff, Nat.reduceAdd, Nat.reduceMul, Nat.reduceSub, Nat.reduceLeDiff, Nat.reduceLT, Int.reduceLT, Int.reduceLE, Int.reduceEq, Int.reduceToNat, Int.reduceAdd, Int.reduceSub, Int.reduceNeg, ↓reduceIte, reduceCtorEq, ↓C.q7_W, C.q7_B, C.q7]
      rw [hd rfl]
      exact ⟨(), rfl⟩
    have hs0 := hsl rfl
    subst hs0
    have hmk := hm rfl
    simp only [↓Bp, Bq, Bs, ↓aop.eq_28, ↓aop.eq_30, Nat.reduceEqDiff, Nat.reduceAdd, Nat.reduceMul, Nat.reduceSub, Nat.reduceLeDiff, Nat.reduceLT, Int.reduceLT, Int.reduceLE, Int.reduceEq, Int.reduceToNat, Int.reduceAdd, Int.reduceSub, Int.reduceNeg, ↓reduceIte, reduceCtorEq, ↓C.q7_W, C.q7_B, C.q7]
    refine awp_loopK (fun w : Nat × Bool => [(0, .ptr q 0), (3, .sl 1 ix 0 N.length), (4, .bool w.2), (6, .int .i64 w.1)]) (fun w s => w.1 ≤ N.length ∧ ∃ B' : List Bool, s = st.new ix (.cells (tbools B')) ∧ Pass N f B B' w.2 w.1 0) (fun w => N.length - w.1) (0, false) rfl
      ⟨Nat.zero_le _, B, rfl, hmk, fun _ => ⟨rfl, fun i' _ h2 => by simp only at h2; omega, fun h1 _ u hu => by simp at hu⟩, fun e => by cases e⟩ ?_
    rintro ⟨i, b'⟩ s ⟨hi, B', rfl, hP⟩
    simp only at hi hP
    by_cases hil : i < N.length
    rotate_left
    · have hil' : ¬ (i : Int) < (N.length : Nat) := by omega
      simp only [↓Bp, Bq, Bs, ↓aop.eq_28, ↓aop.eq_30, Nat.reduceEqDiff, Nat.reduceAdd, Nat.reduceMul, Nat.reduceSub, Nat.reduceLeDiff, Nat.reduceLT, Int.reduceLT, Int.reduceLE, Int.reduceEq, Int.reduceToNat, Int.reduceAdd, Int.reduceSub, Int.reduceNeg, ↓reduceIte, reduceCtorEq, ↓C.q7_W, C.q7_B, C.q7, hq, hix, hil']
      refine ⟨(b', B'), rfl, ⟨rfl, fun _ => hP.mark, fun e => ?_, fun _ => trivial⟩, ?_⟩
      · obtain ⟨e1, e2, e3⟩ := hP.quiet e
        exact hP.mark.done hR fun i' h1 h2 => e2 i' h1 (by have := hP.mark.len; omega) h2
      · simp only
        cases hb : b'
        · rw [(hP.quiet hb).1]; simp
        · have := hP.grow hb; simp; omega
    have hil' : (i : Int) < (N.length : Nat) := by omega
    simp only [↓Bp, Bq, Bs, ↓aop.eq_28, ↓aop.eq_30, Nat.reduceEqDiff, Nat.reduceAdd, Nat.reduceMul, Nat.reduceSub, Nat.reduceLeDiff, Nat.reduceLT, Int.reduceLT, Int.reduceLE, Int.reduceEq, Int.reduceToNat, Int.reduceAdd, Int.reduceSub, Int.reduceNeg, ↓reduceIte, reduceCtorEq, ↓C.q7_r18_w, C.q7_r18_b, ↓C.q7_c1_w, ↓C.q7_c15_w, ↓C.q7_r10_w, C.q7_r10_b, ↓C.q7_b17_w, ↓C.q7_c18_w, ↓C.q7_r9_w, C.q7_r9_b, ↓C.q7_c19_w, ↓C.q7_r8_w, C.q7_r8_b, ↓C.q7_b20_w, ↓C.q7_c21_w, ↓C.q7_c22_w, ↓C.q7_r7_w, C.q7_r7_b, ↓C.q7_b24_w, ↓C.q7_c25_w, ↓C.q7_r5_w, C.q7_r5_b, ↓C.q7_c26_w, ↓C.q7_r6_w, C.q7_r6_b, ↓C.q7_b27_w, ↓C.q7_c28_w, ↓C.q7_c29_w, ↓C.q7_r4_w, C.q7_r4_b, ↓C.q7_b31_w, ↓C.q7_c32_w, ↓C.q7_r3_w, C.q7_r3_b, ↓C.q7_c33_w, ↓C.q7_r2_w, C.q7_r2_b, ↓C.q7_c34_w, ↓C.q7_r1_w, C.q7_r1_b, ↓C.q7_c35_w, ↓C.q7_r0_w, C.q7_r0_b, C.q7, hq, hix, hil']
    rw [C.q7_c14_w, awp_keep]
    refine ract_row h hix hR hn hfew hil hP rfl fun fr B2 b2 hP2 e => ?_
    exact ⟨(i + 1, b2), e, ⟨hil, B2, rfl, hP2⟩, by simp only; omega⟩
  cases sl
  rotate_left
  · have e0 : List.replicate N.length false = useL N f true := by
      refine List.ext_getElem (by simp [useL]) fun i h1 h2 => ?_
      simp [useL]
    simp only [↓Bp, Bq, Bs, ↓aop.eq_28, ↓aop.eq_30, Nat.reduceEqDiff, Nat.reduceAdd, Nat.reduceMul, Nat.reduceSub, Nat.reduceLeDiff, Nat.reduceLT, Int.reduceLT, Int.reduceLE, Int.reduceEq, Int.reduceToNat, Int.reduceAdd, Int.reduceSub, Int.reduceNeg, ↓reduceIte, reduceCtorEq, ↓C.q7_W, C.q7_B, C.q7, hq, hix]
    refine awp_midB (fun _ : Unit => [(0, .ptr q 0), (3, .sl 1 ix 0 N.length), (4, .bool false)]) (fun _ s => s = st.new ix (.cells (tbools (List.replicate N.length false)))) ?_ ?_
    rotate_left
    · rintro - s rfl
      exact passes _ false (fun e => by cases e) (fun _ => e0) (fun e => by cases e)
    refine awp_loopK (fun _ : Unit => [(0, .ptr q 0), (3, .sl 1 ix 0 N.length), (4, .bool false), (5, .int .i64 0)]) (fun _ s => s = st.new ix (.cells (tbools (List.replicate N.length false)))) (fun _ => 0) () rfl rfl ?_
    rintro - s rfl
    by_cases h0 : (0 : Int) < (N.length : Nat)
    · have T := eq_true h0
      simp only [↓Bp, Bq, Bs, ↓aop.eq_28, ↓aop.eq_30, Nat.reduceEqDiff, Nat.reduceAdd, Nat.reduceMul, Nat.reduceSub, Nat.reduceLeDiff, Nat.reduceLT, Int.reduceLT, Int.reduceLE, Int.reduceEq, Int.reduceToNat, Int.reduceAdd, Int.reduceSub, Int.reduceNeg, ↓reduceIte, reduceCtorEq, ↓C.q7_W, C.q7_B, C.q7, hq, hix, T]
      exact ⟨(), trivial⟩
    · have T := eq_false h0
      simp only [↓Bp, Bq, Bs, ↓aop.eq_28, ↓aop.eq_30, Nat.reduceEqDiff, Nat.reduceAdd, Nat.reduceMul, Nat.reduceSub, Nat.reduceLeDiff, Nat.reduceLT, Int.reduceLT, Int.reduceLE, Int.reduceEq, Int.reduceToNat, Int.reduceAdd, Int.reduceSub, Int.reduceNeg, ↓reduceIte, reduceCtorEq, ↓C.q7_W, C.q7_B, C.q7, hq, hix, T]
      exact ⟨(), trivial⟩
  simp only [↓Bp, Bq, Bs, ↓aop.eq_28, ↓aop.eq_30, Nat.reduceEqDiff, Nat.reduceAdd, Nat.reduceMul, Nat.reduceSub, Nat.reduceLeDiff, Nat.reduceLT, Int.reduceLT, Int.reduceLE, Int.reduceEq, Int.reduceToNat, Int.reduceAdd, Int.reduceSub, Int.reduceNeg, ↓reduceIte, reduceCtorEq, ↓C.q7_W, C.q7_B, C.q7, hq, hix]
  refine awp_midB (fun _ : Unit => [(0, .ptr q 0), (3, .sl 1 ix 0 N.length), (4, .bool true)]) (fun _ s => ∃ B, s = st.new ix (.cells (tbools B)) ∧ Mark N f B) ?_ ?_
  rotate_left
  · rintro - s ⟨B, rfl, hm⟩
    exact passes B true (fun _ => hm) (fun e => by cases e) (fun _ => rfl)
  refine awp_loopK (fun i : Nat => [(0, .ptr q 0), (3, .sl 1 ix 0 N.length), (4, .bool true), (5, .int .i64 i)]) (fun i s => i ≤ N.length ∧ ∃ B : List Bool, s = st.new ix (.cells (tbools B)) ∧ B.length = N.length ∧ ∀ v (hv : v < B.length), B[v] = (decide (v < i) && decide (0 < f (v : Int)))) (fun i => N.length - i) 0 rfl ⟨Nat.zero_le _, _, rfl, by simp, fun v hv => by simp⟩ ?_
  rintro i s ⟨hi, B, rfl, hB, hBv⟩
  by_cases hil : i < N.length
  rotate_left
  · have hil' : ¬ (i : Int) < (N.length : Nat) := by omega
    simp only [↓Bp, Bq, Bs, ↓aop.eq_28, ↓aop.eq_30, Nat.reduceEqDiff, Nat.reduceAdd, Nat.reduceMul, Nat.reduceSub, Nat.reduceLeDiff, Nat.reduceLT, Int.reduceLT, Int.reduceLE, Int.reduceEq, Int.reduceToNat, Int.reduceAdd, Int.reduceSub, Int.reduceNeg, ↓reduceIte, reduceCtorEq, ↓C.q7_W, C.q7_B, C.q7, hq, hix, hil']
    refine ⟨(), B, rfl, hB, fun v hv e => ?_, fun v hv e => ?_⟩
    · rw [hBv v hv] at e
      simp at e
      exact useTo_iff.mpr ⟨v, by omega, e.2, .inl rfl⟩
    · rw [hBv v hv]; simp [e]; omega
  have hil' : (i : Int) < (N.length : Nat) := by omega
  have hw := wsucc hil (by omega)
  have hz : (0:Int) ≤ (i : Int) ∧ (i : Int) < (N.length : Nat) := by omega
  have hg := cntL_get (f := f) hil
  have hfx : i < (tbools B).length := by rw [tbools_len, hB]; exact hil
  have hset := tbools_set B i (decide (0 < f (i : Int)))
  simp only [↓Bp, Bq, Bs, ↓aop.eq_28, ↓aop.eq_30, Nat.reduceEqDiff, Nat.reduceAdd, Nat.reduceMul, Nat.reduceSub, Nat.reduceLeDiff, Nat.reduceLT, Int.reduceLT, Int.reduceLE, Int.reduceEq, Int.reduceToNat, Int.reduceAdd, Int.reduceSub, Int.reduceNeg, ↓reduceIte, reduceCtorEq, ↓C.q7_W, C.q7_B, C.q7, hq, hj, hix, hil', hz, hg, gt_iff_lt, hfx, hset, hns, Int.toNat_natCast, Nat.mul_one, hw]
  refine ⟨i + 1, rfl, ⟨hil, _, rfl, by simp [hB], fun v hv => ?_⟩, by omega⟩
  simp only [List.length_set] at hv
  rw [List.getElem_set]
  by_cases e : i = v
  · subst e; rw [if_pos rfl]; simp
  · rw [if_neg e, hBv v hv]
    have : decide (v < i + 1) = decide (v < i) := by simp; omega
    rw [this]
end
end Go.Proofs.Ytoblpialfhfdgaa.Cn
