/- Reset lines: the document's Tick and New. -/
import Derived.Test.YtkabdilikndhbaaCnRef8
set_option linter.unusedSimpArgs false
set_option linter.unusedVariables false
namespace Go.Proofs.Ytkabdilikndhbaa.Cn
open Go Go.Proofs

theorem refTick0 {st : ASt} {q il ir : Nat} {ls : List Ln} (hn : ls.length ≤ 1000) (hq : st.h q = some (.cells [.sl 1 il 0 ls.length, .sl 3 ir 0 ls.length])) (hir : st.h ir = some (.cells (ls.flatMap rl))) (hqr : ir ≠ q)
    (hb : ∀ x ∈ ls, 0 ≤ x.left ∧ x.left ≤ 1000) :
    ACalls Try.prog F.catnapref8_Lines_Tick [.ptr q 0] st fun r s => r = row (nats (toldL ls)) ∧ s = st.set ir (.cells ((tickL ls).flatMap rl)) := by
  refine ACalls.ghost (Q' := fun r s => Over (st.set ir (.cells ((tickL ls).flatMap rl))) s 1 r (toldL ls).length (ints (nats (toldL ls)))) (calls_of_awp L.catnapref8_Lines_Tick rfl ?_) (fun r s hO => ⟨_, _, hO.frz, by rw [row, nats_length], rfl⟩)
  simp only [↓Bp, Bq, Bs, ↓aop.eq_28, ↓aop.eq_30, Nat.reduceEqDiff, Nat.reduceAdd, Nat.reduceMul, Nat.reduceSub, Nat.reduceLeDiff, Nat.reduceLT, Int.reduceLT, Int.reduceLE, Int.reduceEq, Int.reduceToNat, Int.reduceAdd, Int.reduceSub, Int.reduceNeg, ↓reduceIte, reduceCtorEq, ↓C.catnapref8_Lines_Tick_W, C.catnapref8_Lines_Tick_B, C.catnapref8_Lines_Tick]
  refine awp_midB (fun v : AV => [(3, v)]) (fun v s => Over (st.set ir (.cells ((tickL ls).flatMap rl))) s 1 v (toldL ls).length (ints (nats (toldL ls)))) ?_ ?_
  rotate_left
  · intro v s hO
    simp only [↓Bp, Bq, Bs, ↓aop.eq_28, ↓aop.eq_30, Nat.reduceEqDiff, Nat.reduceAdd, Nat.reduceMul, Nat.reduceSub, Nat.reduceLeDiff, Nat.reduceLT, Int.reduceLT, Int.reduceLE, Int.reduceEq, Int.reduceToNat, Int.reduceAdd, Int.reduceSub, Int.reduceNeg, ↓reduceIte, reduceCtorEq, ↓C.catnapref8_Lines_Tick_W, C.catnapref8_Lines_Tick_B, C.catnapref8_Lines_Tick]
    exact hO
  have h0 : st.set ir (.cells ((tickTo ls 0).flatMap rl)) = st := by
    rw [show tickTo ls 0 = ls by simp [tickTo]]; exact ASt.set_same hir
  refine awp_loopK (fun w : Nat × AV => [(0, .ptr q 0), (3, w.2), (4, .int .i64 w.1)]) (fun w s => w.1 ≤ ls.length ∧ Over (st.set ir (.cells ((tickTo ls w.1).flatMap rl))) s 1 w.2 (toldTo ls w.1).length (ints (nats (toldTo ls w.1)))) (fun w => ls.length - w.1) (0, .nils) rfl
    ⟨Nat.zero_le _, by rw [h0]; exact Over.nils (ASt.le.refl _) 1⟩ ?_
  rintro ⟨i, v⟩ s ⟨hi, hO⟩
  simp only at hi hO
  have hqs : s.h q = some (.cells [.sl 1 il 0 ls.length, .sl 3 ir 0 ls.length]) := hO.2.1 _ _ (by rw [ASt.set_h, if_neg (Ne.symm hqr)]; exact hq)
  by_cases hil : i < ls.length
  rotate_left
  · have hie : i = ls.length := by omega
    have hil' : ¬ (i : Int) < (ls.length : Nat) := by omega
    simp only [↓Bp, Bq, Bs, ↓aop.eq_28, ↓aop.eq_30, Nat.reduceEqDiff, Nat.reduceAdd, Nat.reduceMul, Nat.reduceSub, Nat.reduceLeDiff, Nat.reduceLT, Int.reduceLT, Int.reduceLE, Int.reduceEq, Int.reduceToNat, Int.reduceAdd, Int.reduceSub, Int.reduceNeg, ↓reduceIte, reduceCtorEq, ↓C.catnapref8_Lines_Tick_W, C.catnapref8_Lines_Tick_B, C.catnapref8_Lines_Tick, hil', hqs]
    rw [hie, tickTo_all] at hO
    exact ⟨v, rfl, hO⟩
  have hil' : (i : Int) < (ls.length : Nat) := by omega
  have hw := wsucc hil (by omega)
  have hz : (0:Int) ≤ (i : Int) ∧ (i : Int) < (ls.length : Nat) := by omega
  obtain ⟨x, hx⟩ : ∃ x, x = ls[i] := ⟨_, rfl⟩
  have hxb : 0 ≤ x.left ∧ x.left ≤ 1000 := by rw [hx]; exact hb _ (List.getElem_mem hil)
  have htl : i < (tickTo ls i).length := by rw [tickTo_len]; exact hil
  have hat : (tickTo ls i)[i] = x := by rw [tickTo_at hil, hx]
  have hirs : s.h ir = some (.cells ((tickTo ls i).flatMap rl)) := hO.2.1 _ _ (by rw [ASt.set_h, if_pos rfl, hir]; rfl)
  have hf := flatMap_fits (f := rl) (k := 3) rl_len htl
  have ht := flatMap_at (f := rl) (k := 3) rl_len htl
  rw [hat] at ht
  have l3 : (rl x).length = 3 := rfl
  have f3 : allLeaf (rl x) = true := rfl
  simp only [↓Bp, Bq, Bs, ↓aop.eq_28, ↓aop.eq_30, Nat.reduceEqDiff, Nat.reduceAdd, Nat.reduceMul, Nat.reduceSub, Nat.reduceLeDiff, Nat.reduceLT, Int.reduceLT, Int.reduceLE, Int.reduceEq, Int.reduceToNat, Int.reduceAdd, Int.reduceSub, Int.reduceNeg, ↓reduceIte, reduceCtorEq, ↓C.catnapref8_Lines_Tick_r11_w, C.catnapref8_Lines_Tick_r11_b, ↓C.catnapref8_Lines_Tick_c1_w, ↓C.catnapref8_Lines_Tick_r4_w, C.catnapref8_Lines_Tick_r4_b, ↓C.catnapref8_Lines_Tick_c2_w, ↓C.catnapref8_Lines_Tick_r5_w, C.catnapref8_Lines_Tick_r5_b, ↓C.catnapref8_Lines_Tick_b10_w, ↓C.catnapref8_Lines_Tick_c11_w, ↓C.catnapref8_Lines_Tick_c12_w, ↓C.catnapref8_Lines_Tick_r3_w, C.catnapref8_Lines_Tick_r3_b, ↓C.catnapref8_Lines_Tick_b14_w, ↓C.catnapref8_Lines_Tick_c15_w, ↓C.catnapref8_Lines_Tick_r2_w, C.catnapref8_Lines_Tick_r2_b, ↓C.catnapref8_Lines_Tick_c16_w, ↓C.catnapref8_Lines_Tick_r1_w, C.catnapref8_Lines_Tick_r1_b, ↓C.catnapref8_Lines_Tick_c17_w, ↓C.catnapref8_Lines_Tick_r0_w, C.catnapref8_Lines_Tick_r0_b, C.catnapref8_Lines_Tick, hil', hqs, hirs, hz, Int.toNat_natCast, hf, ht]
  rintro i5 hi5
  simp only [↓Bp, Bq, Bs, ↓aop.eq_28, ↓aop.eq_30, Nat.reduceEqDiff, Nat.reduceAdd, Nat.reduceMul, Nat.reduceSub, Nat.reduceLeDiff, Nat.reduceLT, Int.reduceLT, Int.reduceLE, Int.reduceEq, Int.reduceToNat, Int.reduceAdd, Int.reduceSub, Int.reduceNeg, ↓reduceIte, reduceCtorEq, ↓C.catnapref8_Lines_Tick_r11_w, C.catnapref8_Lines_Tick_r11_b, ↓C.catnapref8_Lines_Tick_c1_w, ↓C.catnapref8_Lines_Tick_r4_w, C.catnapref8_Lines_Tick_r4_b, ↓C.catnapref8_Lines_Tick_c2_w, ↓C.catnapref8_Lines_Tick_r5_w, C.catnapref8_Lines_Tick_r5_b, ↓C.catnapref8_Lines_Tick_b10_w, ↓C.catnapref8_Lines_Tick_c11_w, ↓C.catnapref8_Lines_Tick_c12_w, ↓C.catnapref8_Lines_Tick_r3_w, C.catnapref8_Lines_Tick_r3_b, ↓C.catnapref8_Lines_Tick_b14_w, ↓C.catnapref8_Lines_Tick_c15_w, ↓C.catnapref8_Lines_Tick_r2_w, C.catnapref8_Lines_Tick_r2_b, ↓C.catnapref8_Lines_Tick_c16_w, ↓C.catnapref8_Lines_Tick_r1_w, C.catnapref8_Lines_Tick_r1_b, ↓C.catnapref8_Lines_Tick_c17_w, ↓C.catnapref8_Lines_Tick_r0_w, C.catnapref8_Lines_Tick_r0_b, C.catnapref8_Lines_Tick, hi5, l3, f3]
  rw [show putN [AV.bool false, AV.bool false, AV.int .i64 0] 0 (rl x) = rl x from putN_all rfl, ASt.new_set hi5]
  have hO5 : Over (st.set ir (.cells ((tickTo ls i).flatMap rl))) (s.new i5 (.cells (rl x))) 1 v (toldTo ls i).length (ints (nats (toldTo ls i))) :=
    ⟨hO.1.le (ASt.le.new _ _ _), hO.2.1.trans (ASt.le.new _ _ _), hO.2.2⟩
  have h5 := ASt.new_self (.cells (rl x)) hi5
  have hq5 := ASt.new_old (id := i5) (o := .cells (rl x)) hqs
  have hir5 := ASt.new_old (id := i5) (o := .cells (rl x)) hirs
  generalize s.new i5 (.cells (rl x)) = t at hO5 h5 hq5 hir5
  clear hqs hirs hO hi5
  rw [rl] at h5
  have hbm : (st.set ir (.cells ((tickTo ls i).flatMap rl))).h ir ≠ none := by rw [ASt.set_h, if_pos rfl, hir]; simp
  have base_i : ∀ (o : AObj), (st.set ir (.cells ((tickTo ls i).flatMap rl))).set ir o = st.set ir o := fun o => ASt.set_set _ _ _ _
  -- what a write of the line leaves
  have hOm : ∀ {t : ASt} {v : AV} {n : Nat} {cs : List AV}, Over (st.set ir (.cells ((tickTo ls i).flatMap rl))) t 1 v n cs → Over (st.set ir (.cells ((tickTo ls (i + 1)).flatMap rl))) (t.set ir (.cells (((tickTo ls i).set i (tick1 ls[i])).flatMap rl))) 1 v n cs := by
    intro t v n cs hO
    rw [tickTo_set hil]
    have := hO.rebase (base' := (st.set ir (.cells ((tickTo ls i).flatMap rl))).set ir (.cells ((tickTo ls (i + 1)).flatMap rl))) (st' := t.set ir (.cells ((tickTo ls (i + 1)).flatMap rl))) (keep_set hbm) (hO.2.1.set _ _)
    rw [base_i] at this
    exact this
  have hlen := toldTo_len ls i
  by_cases hh : x.held = true
  rotate_left
  · have hh' : x.held = false := by simpa using hh
    have ht1 : tick1 ls[i] = ls[i] := by rw [← hx, tick1, if_neg hh]
    have hg : goes ls[i] = false := by rw [← hx, goes, hh']; rfl
    rw [hh'] at h5
    simp only [↓Bp, Bq, Bs, ↓aop.eq_28, ↓aop.eq_30, Nat.reduceEqDiff, Nat.reduceAdd, Nat.reduceMul, Nat.reduceSub, Nat.reduceLeDiff, Nat.reduceLT, Int.reduceLT, Int.reduceLE, Int.reduceEq, Int.reduceToNat, Int.reduceAdd, Int.reduceSub, Int.reduceNeg, ↓reduceIte, reduceCtorEq, ↓C.catnapref8_Lines_Tick_W, C.catnapref8_Lines_Tick_B, C.catnapref8_Lines_Tick, h5, hw]
    refine ⟨(i + 1, v), rfl, ⟨hil, ?_⟩, by simp only; omega⟩
    simp only
    rw [tickTo_same hil ht1, toldTo_succ hil, if_neg (by rw [hg]; decide)]
    exact hO5
  rw [hh] at h5
  by_cases hl : 0 < x.left
  · have wl : IntKind.i64.wrap (x.left - 1) = x.left - 1 := by rw [wrap64] <;> omega
    have ht1 : tick1 ls[i] = { x with left := x.left - 1 } := by rw [← hx, tick1, if_pos hh, if_pos hl]
    have hg : goes ls[i] = false := by rw [← hx, goes]; simp [hl]
    have g2 : ((tickTo ls i).flatMap rl)[i * 3 + 2]? = some (.int .i64 x.left) := by
      have := rows_get rl (w := 3) (fun _ => rfl) htl (j := 2) (by omega)
      rw [hat] at this; exact this
    have hf2 : i * 3 + 2 < ((tickTo ls i).flatMap rl).length := by omega
    have hlT := eq_true hl
    simp only [↓Bp, Bq, Bs, ↓aop.eq_28, ↓aop.eq_30, Nat.reduceEqDiff, Nat.reduceAdd, Nat.reduceMul, Nat.reduceSub, Nat.reduceLeDiff, Nat.reduceLT, Int.reduceLT, Int.reduceLE, Int.reduceEq, Int.reduceToNat, Int.reduceAdd, Int.reduceSub, Int.reduceNeg, ↓reduceIte, reduceCtorEq, ↓C.catnapref8_Lines_Tick_W, C.catnapref8_Lines_Tick_B, C.catnapref8_Lines_Tick, h5, gt_iff_lt, hlT, hq5, hir5, hz, Int.toNat_natCast, g2, hf2, wl, hw]
    refine ⟨(i + 1, v), rfl, ⟨hil, ?_⟩, by simp only; omega⟩
    simp only
    rw [toldTo_succ hil, if_neg (by rw [hg]; decide), rl_put1 (j := 2) htl (by omega) (x := tick1 ls[i]) (by rw [hat, ht1]; rfl)]
    exact hOm hO5
  have hlT := eq_false hl
  by_cases hwt : x.wanted = true
  rotate_left
  · have hwt' : x.wanted = false := by simpa using hwt
    have ht1 : tick1 ls[i] = ls[i] := by rw [← hx, tick1, if_pos hh, if_neg hl, if_neg hwt]
    have hg : goes ls[i] = false := by rw [← hx, goes, hwt']; simp
    rw [hwt'] at h5
    simp only [↓Bp, Bq, Bs, ↓aop.eq_28, ↓aop.eq_30, Nat.reduceEqDiff, Nat.reduceAdd, Nat.reduceMul, Nat.reduceSub, Nat.reduceLeDiff, Nat.reduceLT, Int.reduceLT, Int.reduceLE, Int.reduceEq, Int.reduceToNat, Int.reduceAdd, Int.reduceSub, Int.reduceNeg, ↓reduceIte, reduceCtorEq, ↓C.catnapref8_Lines_Tick_W, C.catnapref8_Lines_Tick_B, C.catnapref8_Lines_Tick, h5, gt_iff_lt, hlT, hw]
    refine ⟨(i + 1, v), rfl, ⟨hil, ?_⟩, by simp only; omega⟩
    simp only
    rw [tickTo_same hil ht1, toldTo_succ hil, if_neg (by rw [hg]; decide)]
    exact hO5
  · have ht1 : tick1 ls[i] = { x with held := false, wanted := false } := by rw [← hx, tick1, if_pos hh, if_neg hl, if_pos hwt]
    have hg : goes ls[i] = true := by rw [← hx, goes, hh, hwt]; simp [hl]
    rw [hwt] at h5
    have hx0 : x.left = 0 := by omega
    have hp3 := rl_put3 htl (tick1 ls[i])
    rw [ht1] at hp3
    simp only at hp3
    rw [hx0] at hp3
    have hOm' := hOm hO5
    rw [ht1] at hOm'
    simp only [↓Bp, Bq, Bs, Nat.reduceEqDiff, Nat.reduceAdd, Nat.reduceMul, Nat.reduceSub, Nat.reduceLeDiff, Nat.reduceLT, Int.reduceLT, Int.reduceLE, Int.reduceEq, Int.reduceToNat, Int.reduceAdd, Int.reduceSub, Int.reduceNeg, ↓reduceIte, reduceCtorEq, ↓C.catnapref8_Lines_Tick_W, C.catnapref8_Lines_Tick_B, C.catnapref8_Lines_Tick, h5, gt_iff_lt, hlT, hq5, hir5, hz, Int.toNat_natCast, hf]
    rw [hp3]
    rw [hx0] at hOm'
    refine ⟨rfl, aop_append_over hOm' (by omega) (new := [.int .i64 (i : Int)]) rfl rfl rfl (fun _ => rfl) (fun _ => rfl) fun v1 v2 t3 hP => ?_⟩
    refine ⟨(i + 1, v2), by rw [hw], ⟨hil, ?_⟩, by simp only; omega⟩
    simp only
    rw [toldTo_succ hil, if_pos hg, nats_append, ints_append, List.length_append]
    exact hP
theorem refTick_spec {base st : ASt} {q : Nat} {v0 v1 : AV} {ls : List Ln} (h : RefAt base st q v0 v1 ls) (hn : ls.length ≤ 1000) (hb : ∀ x ∈ ls, 0 ≤ x.left ∧ x.left ≤ 1000) :
    ACalls Try.prog F.catnapref8_Lines_Tick [.ptr q 0] st fun r s => r = row (nats (toldL ls)) ∧ RefAt base s q v0 v1 (tickL ls) ∧ Kept base st s := by
  have hq := h.hq
  have hsl := h.s1.slen
  by_cases h0 : ls.length = 0
  · have : ls = [] := List.eq_nil_of_length_eq_zero h0
    subst this
    refine ACalls.ghost (Q' := fun r s => r = .nils ∧ s = st) (calls_of_awp L.catnapref8_Lines_Tick rfl ?_) (fun r s ⟨h1, h2⟩ => ⟨row [], st, by rw [h1, h2]; exact Ghost.nils 1, rfl, h, Kept.refl _ _⟩)
    have hsl' : v1.slen = some 0 := hsl
    simp only [↓Bp, Bq, Bs, ↓aop.eq_28, ↓aop.eq_30, Nat.reduceEqDiff, Nat.reduceAdd, Nat.reduceMul, Nat.reduceSub, Nat.reduceLeDiff, Nat.reduceLT, Int.reduceLT, Int.reduceLE, Int.reduceEq, Int.reduceToNat, Int.reduceAdd, Int.reduceSub, Int.reduceNeg, ↓reduceIte, reduceCtorEq, ↓C.catnapref8_Lines_Tick_W, C.catnapref8_Lines_Tick_B, C.catnapref8_Lines_Tick]
    refine awp_loopK (fun w : Unit => [(0, .ptr q 0), (3, .nils), (4, .int .i64 0)]) (fun w s => s = st) (fun w => 0) () rfl rfl ?_
    rintro - s rfl
    have c0 : ((0 : Nat) : Int) = 0 := rfl
    simp only [↓Bp, Bq, Bs, ↓aop.eq_28, ↓aop.eq_30, Nat.reduceEqDiff, Nat.reduceAdd, Nat.reduceMul, Nat.reduceSub, Nat.reduceLeDiff, Nat.reduceLT, Int.reduceLT, Int.reduceLE, Int.reduceEq, Int.reduceToNat, Int.reduceAdd, Int.reduceSub, Int.reduceNeg, ↓reduceIte, reduceCtorEq, ↓C.catnapref8_Lines_Tick_W, C.catnapref8_Lines_Tick_B, C.catnapref8_Lines_Tick, hq, hsl', c0]
  obtain ⟨il, ir, rfl, rfl, hil, hir⟩ := h.both h0
  refine (refTick0 hn hq hir (h.b1 ir rfl).1 hb).mono ?_
  rintro r s ⟨rfl, rfl⟩
  refine ⟨rfl, h.put hir (tickL ls) (tickL_len ls) ?_⟩
  simp only [tickL, List.map_map]
  refine List.map_congr_left fun x _ => ?_
  obtain ⟨n, l, b, w⟩ := x
  cases b
  · rfl
  · show (tick1 ⟨n, l, true, w⟩).least = n
    rw [tick1_mk]
    split
    · rfl
    · split <;> rfl
theorem RepL.same {st : ASt} {vs cs : List AV} {L : List Nat} (h : RepL st vs cs L) (hc : cs.all AV.scalar = true) : vs = cs := by
  induction h with
  | nil => rfl
  | one h t ih =>
    simp only [List.all_cons, Bool.and_eq_true] at hc
    rw [ih hc.2]
  | nils sz t ih => simp [AV.scalar] at hc
  | sl h r h1 h2 hd t ih1 ih2 => simp [AV.scalar] at hc
theorem RepL.pair {st : ASt} {vs a b : List AV} {na nb : Nat} {L : List Nat} (h : RepL st vs [.isl 1 a na, .isl 3 b nb] L) (ha : a.all AV.scalar = true) (hb : b.all AV.scalar = true) (hla : a.length = na * 1) (hlb : b.length = nb * 3) :
    ∃ v0 v1, vs = [v0, v1] ∧ Shows st 1 v0 na a ∧ Shows st 3 v1 nb b ∧ (∀ i, v0 = .sl 1 i 0 na → i ∈ L) ∧ (∀ i, v1 = .sl 3 i 0 nb → i ∈ L) ∧ ∀ i j, v0 = .sl 1 i 0 na → v1 = .sl 3 j 0 nb → i ≠ j := by
  cases h with
  | one h t => cases h
  | nils _ t =>
    cases t with
    | one h t => cases h
    | nils _ t =>
      cases t
      exact ⟨_, _, rfl, ⟨rfl, .inl ⟨rfl, rfl⟩⟩, ⟨rfl, .inl ⟨rfl, rfl⟩⟩, (fun i e => by cases e), (fun i e => by cases e), (fun i j e => by cases e)⟩
    | sl h r h1 h2 hd t =>
      cases t
      have := r.same hb
      subst this
      exact ⟨_, _, rfl, ⟨rfl, .inl ⟨rfl, rfl⟩⟩, ⟨hlb, .inr ⟨_, rfl, h⟩⟩, (fun i e => by cases e), (fun i e => by cases e; simp), (fun i j e => by cases e)⟩
  | sl h r h1 h2 hd t =>
    have := r.same ha
    subst this
    cases t with
    | one h t => cases h
    | nils _ t =>
      cases t
      exact ⟨_, _, rfl, ⟨hla, .inr ⟨_, rfl, h⟩⟩, ⟨rfl, .inl ⟨rfl, rfl⟩⟩, (fun i e => by cases e; simp), (fun i e => by cases e), (fun i j _ e => by cases e)⟩
    | sl g r' g1 g2 gd t =>
      cases t
      have := r'.same hb
      subst this
      exact ⟨_, _, rfl, ⟨hla, .inr ⟨_, rfl, h⟩⟩, ⟨hlb, .inr ⟨_, rfl, g⟩⟩, (fun i e => by cases e; simp), (fun i e => by cases e; simp), (fun i j e e' => by cases e; cases e'; rintro rfl; exact h2 (by simp))⟩
/-- What New answers of a right description. -/
def RefNewQ (st : ASt) (R : List Int) (r : AV) (s : ASt) : Prop := ∃ q v0 v1, r = .tup [.ptr q 0, .int .i64 0] ∧ RefAt st s q v0 v1 (freshL R) ∧ st.le s
theorem refNew_spec {st : ASt} {R : List Int} (hR : R.length ≤ 6) (hR2 : ∀ x ∈ R, 0 ≤ x ∧ x ≤ 20) : ACalls Try.prog F.catnapref8_New [.agg (rchip R).cells] st (RefNewQ st R) := by
  refine calls_of_awp L.catnapref8_New rfl ?_
  simp only [↓Bp, Bq, Bs, ↓aop.eq_28, ↓aop.eq_30, Nat.reduceEqDiff, Nat.reduceAdd, Nat.reduceMul, Nat.reduceSub, Nat.reduceLeDiff, Nat.reduceLT, Int.reduceLT, Int.reduceLE, Int.reduceEq, Int.reduceToNat, Int.reduceAdd, Int.reduceSub, Int.reduceNeg, ↓reduceIte, reduceCtorEq, ↓C.catnapref8_New_r0_w, C.catnapref8_New_r0_b, C.catnapref8_New]
  intro ib hib
  have hb := ASt.new_self (.cells (rchip R).cells) hib
  have hle := ASt.le.new st ib (.cells (rchip R).cells)
  generalize st.new ib (.cells (rchip R).cells) = s0 at hb hle
  have e4 : AV.agg (List.take 4 (rchip R).cells) = .agg (rchip R).cells := rfl
  have l4 : (rchip R).cells.length = 4 := rfl
  simp only [↓Bp, Bq, Bs, ↓aop.eq_28, ↓aop.eq_30, Nat.reduceEqDiff, Nat.reduceAdd, Nat.reduceMul, Nat.reduceSub, Nat.reduceLeDiff, Nat.reduceLT, Int.reduceLT, Int.reduceLE, Int.reduceEq, Int.reduceToNat, Int.reduceAdd, Int.reduceSub, Int.reduceNeg, ↓reduceIte, reduceCtorEq, ↓C.catnapref8_New_W, C.catnapref8_New_B, C.catnapref8_New, hb, e4, l4]
  refine (refConf_spec (Soc.okR.of (rchip_right hR hR2)) (fun c hc => by cases hc)).mono ?_
  rintro r s1 ⟨rfl, rfl⟩
  rw [rchip, Soc.cells, Soc.rstV] at hb
  simp only [↓Bp, Bq, Bs, ↓aop.eq_28, ↓aop.eq_30, Nat.reduceEqDiff, Nat.reduceAdd, Nat.reduceMul, Nat.reduceSub, Nat.reduceLeDiff, Nat.reduceLT, Int.reduceLT, Int.reduceLE, Int.reduceEq, Int.reduceToNat, Int.reduceAdd, Int.reduceSub, Int.reduceNeg, ↓reduceIte, reduceCtorEq, ↓C.catnapref8_New_r4_w, C.catnapref8_New_r4_b, ↓C.catnapref8_New_c11_w, ↓C.catnapref8_New_r3_w, C.catnapref8_New_r3_b, ↓C.catnapref8_New_c12_w, ↓C.catnapref8_New_c13_w, ↓C.catnapref8_New_r2_w, C.catnapref8_New_r2_b, ↓C.catnapref8_New_c14_w, ↓C.catnapref8_New_r1_w, C.catnapref8_New_r1_b, ↓C.catnapref8_New_c15_w, ↓C.catnapref8_New_r0_w, C.catnapref8_New_r0_b, C.catnapref8_New]
  rintro q hq
  have hX : Box s1 (s1.new q (.cells [.nils, .nils])) q [.isl 1 [] 0, .isl 3 [] 0] := Box.start hq (.nils 1 (.nils 3 .nil))
  generalize s1.new q (.cells [.nils, .nils]) = s2 at hX
  simp only [↓Bp, Bq, Bs, ↓aop.eq_28, ↓aop.eq_30, Nat.reduceEqDiff, Nat.reduceAdd, Nat.reduceMul, Nat.reduceSub, Nat.reduceLeDiff, Nat.reduceLT, Int.reduceLT, Int.reduceLE, Int.reduceEq, Int.reduceToNat, Int.reduceAdd, Int.reduceSub, Int.reduceNeg, ↓reduceIte, reduceCtorEq, ↓C.catnapref8_New_W, C.catnapref8_New_B, C.catnapref8_New]
  refine awp_midB (fun _ : Unit => [(5, .ptr q 0)]) (fun _ s => Box s1 s q [.isl 1 (ints R) R.length, .isl 3 ((freshL R).flatMap rl) R.length]) ?_ ?_
  · refine awp_loopK (fun i : Nat => [(1, .ptr ib 0), (5, .ptr q 0), (6, .int .i64 i)]) (fun i s => i ≤ R.length ∧ Box s1 s q [.isl 1 (ints (R.take i)) (R.take i).length, .isl 3 ((freshL (R.take i)).flatMap rl) (R.take i).length]) (fun i => R.length - i) 0 rfl ⟨Nat.zero_le _, hX⟩ ?_
    clear hX
    rintro i s ⟨hi, hX⟩
    by_cases hil : i < R.length
    rotate_left
    · have hil' : ¬ (i : Int) < (R.length : Nat) := by omega
      have hbs := hX.choose_spec.choose_spec.2.2.2.2.2 _ _ hb
      simp only [↓Bp, Bq, Bs, ↓aop.eq_28, ↓aop.eq_30, Nat.reduceEqDiff, Nat.reduceAdd, Nat.reduceMul, Nat.reduceSub, Nat.reduceLeDiff, Nat.reduceLT, Int.reduceLT, Int.reduceLE, Int.reduceEq, Int.reduceToNat, Int.reduceAdd, Int.reduceSub, Int.reduceNeg, ↓reduceIte, reduceCtorEq, ↓C.catnapref8_New_W, C.catnapref8_New_B, C.catnapref8_New, hil', hbs]
      rw [show i = R.length by omega, List.take_length] at hX
      exact ⟨(), hX⟩
    have hil' : (i : Int) < (R.length : Nat) := by omega
    have hz : (0:Int) ≤ (i : Int) ∧ (i : Int) < (R.length : Nat) := by omega
    have hw := wsucc hil (by omega)
    have hg := rst_get hil
    have htl : (R.take i).length = i := by simp; omega
    obtain ⟨xs, K, hXL⟩ := hX
    have hbs := hXL.2.2.2.2.2 _ _ hb
    have hxl : 2 = xs.length := hXL.2.1.len
    obtain ⟨v, v1, v2, hap⟩ := BoxL.append (b := q) (o := 0) (new := [.int .i64 R[i]]) (newc := [.int .i64 R[i]]) (Ln := []) hXL rfl (by rw [ints_length, Nat.mul_one]) (by omega) (RepL.scalars rfl _) rfl (by simp) (by simp) (by simp)
    have h0l : 0 < xs.length := by omega
    simp only [↓Bp, Bq, Bs, Nat.reduceEqDiff, Nat.reduceAdd, Nat.reduceMul, Nat.reduceSub, Nat.reduceLeDiff, Nat.reduceLT, Int.reduceLT, Int.reduceLE, Int.reduceEq, Int.reduceToNat, Int.reduceAdd, Int.reduceSub, Int.reduceNeg, ↓reduceIte, reduceCtorEq, ↓C.catnapref8_New_r10_w, C.catnapref8_New_r10_b, ↓C.catnapref8_New_c1_w, ↓C.catnapref8_New_r7_w, C.catnapref8_New_r7_b, ↓C.catnapref8_New_c2_w, ↓C.catnapref8_New_r8_w, C.catnapref8_New_r8_b, ↓C.catnapref8_New_b4_w, ↓C.catnapref8_New_c5_w, ↓C.catnapref8_New_c6_w, ↓C.catnapref8_New_r6_w, C.catnapref8_New_r6_b, ↓C.catnapref8_New_b8_w, ↓C.catnapref8_New_c9_w, ↓C.catnapref8_New_r5_w, C.catnapref8_New_r5_b, ↓C.catnapref8_New_c10_w, ↓C.catnapref8_New_r4_w, C.catnapref8_New_r4_b, ↓C.catnapref8_New_c11_w, ↓C.catnapref8_New_r3_w, C.catnapref8_New_r3_b, ↓C.catnapref8_New_c12_w, ↓C.catnapref8_New_c13_w, ↓C.catnapref8_New_r2_w, C.catnapref8_New_r2_b, ↓C.catnapref8_New_c14_w, ↓C.catnapref8_New_r1_w, C.catnapref8_New_r1_b, ↓C.catnapref8_New_c15_w, ↓C.catnapref8_New_r0_w, C.catnapref8_New_r0_b, C.catnapref8_New, hil', hbs, hXL.1, v1, hz, Int.toNat_natCast, Nat.mul_one, hg]
    refine hap rfl (fun _ => rfl) (fun _ => rfl) fun v1' j2 t2 hs2 hBx => ?_
    simp only [↓Bp, Bq, Bs, ↓aop.eq_28, ↓aop.eq_30, Nat.reduceEqDiff, Nat.reduceAdd, Nat.reduceMul, Nat.reduceSub, Nat.reduceLeDiff, Nat.reduceLT, Int.reduceLT, Int.reduceLE, Int.reduceEq, Int.reduceToNat, Int.reduceAdd, Int.reduceSub, Int.reduceNeg, ↓reduceIte, reduceCtorEq, ↓C.catnapref8_New_r10_w, C.catnapref8_New_r10_b, ↓C.catnapref8_New_c1_w, ↓C.catnapref8_New_r7_w, C.catnapref8_New_r7_b, ↓C.catnapref8_New_c2_w, ↓C.catnapref8_New_r8_w, C.catnapref8_New_r8_b, ↓C.catnapref8_New_b4_w, ↓C.catnapref8_New_c5_w, ↓C.catnapref8_New_c6_w, ↓C.catnapref8_New_r6_w, C.catnapref8_New_r6_b, ↓C.catnapref8_New_b8_w, ↓C.catnapref8_New_c9_w, ↓C.catnapref8_New_r5_w, C.catnapref8_New_r5_b, ↓C.catnapref8_New_c10_w, ↓C.catnapref8_New_r4_w, C.catnapref8_New_r4_b, ↓C.catnapref8_New_c11_w, ↓C.catnapref8_New_r3_w, C.catnapref8_New_r3_b, ↓C.catnapref8_New_c12_w, ↓C.catnapref8_New_c13_w, ↓C.catnapref8_New_r2_w, C.catnapref8_New_r2_b, ↓C.catnapref8_New_c14_w, ↓C.catnapref8_New_r1_w, C.catnapref8_New_r1_b, ↓C.catnapref8_New_c15_w, ↓C.catnapref8_New_r0_w, C.catnapref8_New_r0_b, C.catnapref8_New, hs2, h0l]
    clear hap v1 v2
    generalize t2.set q (.cells (xs.set 0 (.sl 1 j2 0 ((R.take i).length + 1)))) = t3 at hBx
    obtain ⟨ys, K2, hYL⟩ := hBx
    have hyl : 2 = ys.length := hYL.2.1.len
    obtain ⟨v, v1, v2, hap⟩ := BoxL.append (b := q) (o := 1) (new := rl ⟨R[i], 0, true, false⟩) (newc := rl ⟨R[i], 0, true, false⟩) (Ln := []) hYL rfl (by rw [flatMap_len rl_len, freshL_len]) (by omega) (RepL.scalars rfl _) rfl (by simp) (by simp) (by simp)
    have h1l : 1 < ys.length := by omega
    simp only [↓Bp, Bq, Bs, Nat.reduceEqDiff, Nat.reduceAdd, Nat.reduceMul, Nat.reduceSub, Nat.reduceLeDiff, Nat.reduceLT, Int.reduceLT, Int.reduceLE, Int.reduceEq, Int.reduceToNat, Int.reduceAdd, Int.reduceSub, Int.reduceNeg, ↓reduceIte, reduceCtorEq, ↓C.catnapref8_New_r10_w, C.catnapref8_New_r10_b, ↓C.catnapref8_New_c1_w, ↓C.catnapref8_New_r9_w, C.catnapref8_New_r9_b, ↓C.catnapref8_New_c3_w, ↓C.catnapref8_New_r8_w, C.catnapref8_New_r8_b, ↓C.catnapref8_New_b4_w, ↓C.catnapref8_New_c5_w, ↓C.catnapref8_New_c6_w, ↓C.catnapref8_New_r6_w, C.catnapref8_New_r6_b, ↓C.catnapref8_New_b8_w, ↓C.catnapref8_New_c9_w, ↓C.catnapref8_New_r5_w, C.catnapref8_New_r5_b, ↓C.catnapref8_New_c10_w, ↓C.catnapref8_New_r4_w, C.catnapref8_New_r4_b, ↓C.catnapref8_New_c11_w, ↓C.catnapref8_New_r3_w, C.catnapref8_New_r3_b, ↓C.catnapref8_New_c12_w, ↓C.catnapref8_New_c13_w, ↓C.catnapref8_New_r2_w, C.catnapref8_New_r2_b, ↓C.catnapref8_New_c14_w, ↓C.catnapref8_New_r1_w, C.catnapref8_New_r1_b, ↓C.catnapref8_New_c15_w, ↓C.catnapref8_New_r0_w, C.catnapref8_New_r0_b, C.catnapref8_New, hYL.1, v1]
    refine hap (aput_one rfl rfl) (fun _ => rfl) (fun _ => rfl) fun v1' j3 t4 hs4 hBz => ?_
    simp only [↓Bp, Bq, Bs, ↓aop.eq_28, ↓aop.eq_30, Nat.reduceEqDiff, Nat.reduceAdd, Nat.reduceMul, Nat.reduceSub, Nat.reduceLeDiff, Nat.reduceLT, Int.reduceLT, Int.reduceLE, Int.reduceEq, Int.reduceToNat, Int.reduceAdd, Int.reduceSub, Int.reduceNeg, ↓reduceIte, reduceCtorEq, ↓C.catnapref8_New_W, C.catnapref8_New_B, C.catnapref8_New, hs4, h1l, hw]
    refine ⟨i + 1, rfl, ⟨hil, ?_⟩, by omega⟩
    have e1 : (R.take (i + 1)).length = (R.take i).length + 1 := by simp; omega
    have e2 : ints (R.take (i + 1)) = ints (R.take i) ++ [.int .i64 R[i]] := by
      rw [List.take_succ_eq_append_getElem hil, ints_append]; rfl
    have e3 : (freshL (R.take (i + 1))).flatMap rl = (freshL (R.take i)).flatMap rl ++ rl ⟨R[i], 0, true, false⟩ := by
      rw [List.take_succ_eq_append_getElem hil, show freshL (R.take i ++ [R[i]]) = freshL (R.take i) ++ [⟨R[i], 0, true, false⟩] by simp only [freshL, List.map_append, List.map_cons, List.map_nil], List.flatMap_append]
      simp only [List.flatMap_cons, List.flatMap_nil, List.append_nil]
    rw [e1, e2, e3]
    exact hBz
  · rintro - s ⟨vs, L, hv, hR4, hqL, hfr, hqn, hl5⟩
    simp only [↓Bp, Bq, Bs, ↓aop.eq_28, ↓aop.eq_30, Nat.reduceEqDiff, Nat.reduceAdd, Nat.reduceMul, Nat.reduceSub, Nat.reduceLeDiff, Nat.reduceLT, Int.reduceLT, Int.reduceLE, Int.reduceEq, Int.reduceToNat, Int.reduceAdd, Int.reduceSub, Int.reduceNeg, ↓reduceIte, reduceCtorEq, ↓C.catnapref8_New_W, C.catnapref8_New_B, C.catnapref8_New]
    have hrs : ((freshL R).flatMap rl).all AV.scalar = true := by
      rw [List.all_eq_true]
      intro x hx
      obtain ⟨y, _, hy⟩ := List.mem_flatMap.mp hx
      simp only [rl, List.mem_cons, List.mem_nil_iff, or_false] at hy
      rcases hy with rfl | rfl | rfl <;> rfl
    obtain ⟨v0, v1, rfl, w0, w1, m0, m1, hne⟩ := hR4.pair (ints_scalar R) hrs (by rw [ints_length, Nat.mul_one]) (by rw [flatMap_len rl_len, freshL_len])
    have hfl := freshL_len R
    have hleast : (freshL R).map Ln.least = R := by simp only [freshL, List.map_map]; exact List.map_id _
    have hfs : ∀ j, s1.h j = none → st.h j = none := fun j hj => fresh_of_le hle hj
    refine ⟨q, v0, v1, rfl, ⟨hv, by rw [hfl, hleast]; exact w0, by rw [hfl]; exact w1, ?_, ?_, ?_, hfs _ hqn⟩, hle.trans hl5⟩
    · rw [hfl]; exact fun i e => ⟨fun e' => hqL (e' ▸ m0 i e), hfs _ (hfr i (m0 i e))⟩
    · rw [hfl]; exact fun i e => ⟨fun e' => hqL (e' ▸ m1 i e), hfs _ (hfr i (m1 i e))⟩
    · rw [hfl]; exact hne
end Go.Proofs.Ytkabdilikndhbaa.Cn
