/- Reset lines: a tick, and a new chip's lines. -/
import Derived.Test.YtkabdilikndhbaaCnReset1
set_option linter.unusedSimpArgs false
set_option linter.unusedVariables false
namespace Go.Proofs.Ytkabdilikndhbaa.Cn
open Go Go.Proofs

def tick1 (x : Ln) : Ln := if x.held = true then (if 0 < x.left then { x with left := x.left - 1 } else if x.wanted = true then { x with held := false, wanted := false } else x) else x
def goes (x : Ln) : Bool := x.held && (!decide (0 < x.left) && x.wanted)
def tickTo (ls : List Ln) (i : Nat) : List Ln := (ls.take i).map tick1 ++ ls.drop i
def toldTo (ls : List Ln) (i : Nat) : List Nat := (List.range i).filter fun j => goes (ls.getD j zeroLn)
def tickL (ls : List Ln) : List Ln := ls.map tick1
def toldL (ls : List Ln) : List Nat := toldTo ls ls.length
theorem tickTo_len (ls : List Ln) (i : Nat) : (tickTo ls i).length = ls.length := by simp [tickTo]; omega
theorem tickTo_at {ls : List Ln} {i : Nat} (h : i < ls.length) : (tickTo ls i)[i]'(by rw [tickTo_len]; exact h) = ls[i] := by
  simp only [tickTo]
  rw [List.getElem_append_right (by simp; omega)]
  simp [Nat.min_eq_left (Nat.le_of_lt h)]
theorem tickTo_set {ls : List Ln} {i : Nat} (h : i < ls.length) : (tickTo ls i).set i (tick1 ls[i]) = tickTo ls (i + 1) := by
  simp only [tickTo]
  rw [List.set_append_right _ _ (by simp; omega), List.take_succ_eq_append_getElem h, List.map_append]
  have : i - ((ls.take i).map tick1).length = 0 := by simp; omega
  rw [this, ← List.getElem_cons_drop (h := h), List.set_cons_zero]
  simp
theorem tickTo_same {ls : List Ln} {i : Nat} (h : i < ls.length) (e : tick1 ls[i] = ls[i]) : tickTo ls (i + 1) = tickTo ls i := by
  rw [← tickTo_set h, e, ← tickTo_at h, List.set_getElem_self]
theorem tickTo_all (ls : List Ln) : tickTo ls ls.length = tickL ls := by simp [tickTo, tickL]
theorem toldTo_succ {ls : List Ln} {i : Nat} (h : i < ls.length) : toldTo ls (i + 1) = if goes ls[i] = true then toldTo ls i ++ [i] else toldTo ls i := by
  simp only [toldTo, List.range_succ, List.filter_append]
  have e : (ls[i]?).getD zeroLn = ls[i] := by simp [h]
  by_cases hg : goes ls[i] = true
  · rw [if_pos hg]; simp [e, hg]
  · rw [if_neg hg]; simp [e, hg]
theorem toldTo_len (ls : List Ln) (i : Nat) : (toldTo ls i).length ≤ i := by
  have := List.length_filter_le (fun j => goes (ls.getD j zeroLn)) (List.range i)
  simpa [toldTo] using this

theorem tick_spec {st : ASt} {p m : Nat} {ls : List Ln} (h : LinesAt st p m ls) (hb : ∀ x ∈ ls, x.left ≤ 1000) (hn : ls.length ≤ 1000) :
    ACalls Try.prog F.reset_Lines_Tick [.ptr p 0] st fun r s => r = row (nats (toldL ls)) ∧ s = st.set m (lnsE (tickL ls)) := by
  refine ACalls.ghost (Q' := fun r s => Over (st.set m (lnsE (tickL ls))) s 1 r (toldL ls).length (ints (nats (toldL ls)))) (calls_of_awp L.reset_Lines_Tick rfl ?_) (fun r s hO => ⟨_, _, hO.frz, by rw [row, nats_length], rfl⟩)
  have hp := h.hp
  have hm := h.hm
  have hpm := h.ne
  have hmlen : ∀ l : List Ln, (ent (l.map lnAV)).length = l.length := fun l => by rw [ent, entFrom_len, List.length_map]
  rw [lnsE] at hm
  simp only [↓Bp, Bq, Bs, ↓aop.eq_28, ↓aop.eq_30, Nat.reduceEqDiff, Nat.reduceAdd, Nat.reduceMul, Nat.reduceSub, Nat.reduceLeDiff, Nat.reduceLT, Int.reduceLT, Int.reduceLE, Int.reduceEq, Int.reduceToNat, Int.reduceAdd, Int.reduceSub, Int.reduceNeg, ↓reduceIte, reduceCtorEq, ↓C.reset_Lines_Tick_W, C.reset_Lines_Tick_B, C.reset_Lines_Tick, hp, hm, hmlen, amlen]
  refine awp_midB (fun v : AV => [(3, v)]) (fun v s => Over (st.set m (lnsE (tickL ls))) s 1 v (toldL ls).length (ints (nats (toldL ls)))) ?_ ?_
  rotate_left
  · intro v s hO
    simp only [↓Bp, Bq, Bs, ↓aop.eq_28, ↓aop.eq_30, Nat.reduceEqDiff, Nat.reduceAdd, Nat.reduceMul, Nat.reduceSub, Nat.reduceLeDiff, Nat.reduceLT, Int.reduceLT, Int.reduceLE, Int.reduceEq, Int.reduceToNat, Int.reduceAdd, Int.reduceSub, Int.reduceNeg, ↓reduceIte, reduceCtorEq, ↓C.reset_Lines_Tick_W, C.reset_Lines_Tick_B, C.reset_Lines_Tick]
    exact hO
  have h0 : st.set m (lnsE (tickTo ls 0)) = st := by
    rw [show tickTo ls 0 = ls by simp [tickTo]]; exact ASt.set_same h.hm
  refine awp_loopK (fun q : Nat × AV => [(0, .ptr p 0), (3, q.2), (13, .int .i64 ls.length), (14, .int .i64 q.1)]) (fun q s => q.1 ≤ ls.length ∧ Over (st.set m (lnsE (tickTo ls q.1))) s 1 q.2 (toldTo ls q.1).length (ints (nats (toldTo ls q.1)))) (fun q => ls.length - q.1) (0, .nils) rfl
    ⟨Nat.zero_le _, by rw [h0]; exact Over.nils (ASt.le.refl _) 1⟩ ?_
  rintro ⟨i, v⟩ s ⟨hi, hO⟩
  simp only at hi hO
  by_cases hil : i < ls.length
  rotate_left
  · have hie : i = ls.length := by omega
    have hil' : ¬ (i : Int) < (ls.length : Nat) := by omega
    simp only [↓Bp, Bq, Bs, ↓aop.eq_28, ↓aop.eq_30, Nat.reduceEqDiff, Nat.reduceAdd, Nat.reduceMul, Nat.reduceSub, Nat.reduceLeDiff, Nat.reduceLT, Int.reduceLT, Int.reduceLE, Int.reduceEq, Int.reduceToNat, Int.reduceAdd, Int.reduceSub, Int.reduceNeg, ↓reduceIte, reduceCtorEq, ↓C.reset_Lines_Tick_W, C.reset_Lines_Tick_B, C.reset_Lines_Tick, hil']
    rw [hie, tickTo_all] at hO
    exact ⟨v, rfl, hO⟩
  have hil' : (i : Int) < (ls.length : Nat) := by omega
  have hw := wsucc hil (by omega)
  obtain ⟨x, hx⟩ : ∃ x, x = ls[i] := ⟨_, rfl⟩
  have hxb : x.left ≤ 1000 := by rw [hx]; exact hb _ (List.getElem_mem hil)
  have hps : s.h p = some (.cells [.map m]) := hO.2.1 _ _ (by rw [ASt.set_h, if_neg hpm]; exact hp)
  have hms : s.h m = some (.map (ent ((tickTo ls i).map lnAV))) := hO.2.1 _ _ (by rw [ASt.set_h, if_pos rfl, h.hm]; rfl)
  have hlk : look (ent ((tickTo ls i).map lnAV)) (i : Int) = some (.agg x.cells) := by
    rw [look_ln, if_pos ⟨by omega, by rw [tickTo_len]; exact hil'⟩, lnOf_at (by rw [tickTo_len]; exact hil), tickTo_at hil, hx]; rfl
  have l4 : x.cells.length = 4 := rfl
  have f4 : allLeaf x.cells = true := rfl
  have base_i : ∀ (o : AObj), (st.set m (lnsE (tickTo ls i))).set m o = st.set m o := fun o => ASt.set_set _ _ _ _
  have hbm : (st.set m (lnsE (tickTo ls i))).h m ≠ none := by rw [ASt.set_h, if_pos rfl, h.hm]; simp
  have hput : ∀ y : Ln, mput (ent ((tickTo ls i).map lnAV)) (i : Int) (lnAV y) = ent (((tickTo ls i).set i y).map lnAV) := fun y => by
    have := mput_ln (ls := tickTo ls i) (i := (i : Int)) ⟨by omega, by rw [tickTo_len]; exact hil'⟩ y
    simpa using this
  simp only [↓Bp, Bq, Bs, ↓aop.eq_28, ↓aop.eq_30, Nat.reduceEqDiff, Nat.reduceAdd, Nat.reduceMul, Nat.reduceSub, Nat.reduceLeDiff, Nat.reduceLT, Int.reduceLT, Int.reduceLE, Int.reduceEq, Int.reduceToNat, Int.reduceAdd, Int.reduceSub, Int.reduceNeg, ↓reduceIte, reduceCtorEq, ↓C.reset_Lines_Tick_r15_w, C.reset_Lines_Tick_r15_b, ↓C.reset_Lines_Tick_c2_w, ↓C.reset_Lines_Tick_r7_w, C.reset_Lines_Tick_r7_b, ↓C.reset_Lines_Tick_c12_w, ↓C.reset_Lines_Tick_r6_w, C.reset_Lines_Tick_r6_b, ↓C.reset_Lines_Tick_b13_w, ↓C.reset_Lines_Tick_c14_w, ↓C.reset_Lines_Tick_c15_w, ↓C.reset_Lines_Tick_r5_w, C.reset_Lines_Tick_r5_b, hil', hps, hms, hlk]
  rintro i5 hi5
  simp only [↓Bp, Bq, Bs, ↓aop.eq_28, ↓aop.eq_30, Nat.reduceEqDiff, Nat.reduceAdd, Nat.reduceMul, Nat.reduceSub, Nat.reduceLeDiff, Nat.reduceLT, Int.reduceLT, Int.reduceLE, Int.reduceEq, Int.reduceToNat, Int.reduceAdd, Int.reduceSub, Int.reduceNeg, ↓reduceIte, reduceCtorEq, ↓C.reset_Lines_Tick_r15_w, C.reset_Lines_Tick_r15_b, ↓C.reset_Lines_Tick_c2_w, ↓C.reset_Lines_Tick_r7_w, C.reset_Lines_Tick_r7_b, ↓C.reset_Lines_Tick_c12_w, ↓C.reset_Lines_Tick_r6_w, C.reset_Lines_Tick_r6_b, ↓C.reset_Lines_Tick_b13_w, ↓C.reset_Lines_Tick_c14_w, ↓C.reset_Lines_Tick_c15_w, ↓C.reset_Lines_Tick_r5_w, C.reset_Lines_Tick_r5_b, hi5, l4, f4]
  rw [show putN [AV.int .i64 0, AV.int .i64 0, AV.bool false, AV.bool false] 0 x.cells = x.cells from putN_all rfl, ASt.new_set hi5]
  have hm5 : m ≠ i5 := by rintro rfl; rw [hms] at hi5; cases hi5
  have hp5 : p ≠ i5 := by rintro rfl; rw [hps] at hi5; cases hi5
  -- over the heap that stays
  have hO5 : Over (st.set m (lnsE (tickTo ls i))) (s.new i5 (.cells x.cells)) 1 v (toldTo ls i).length (ints (nats (toldTo ls i))) :=
    ⟨hO.1.le (ASt.le.new _ _ _), hO.2.1.trans (ASt.le.new _ _ _), hO.2.2⟩
  have hm6 := ASt.new_old (id := i5) (o := .cells x.cells) hms
  have hp6 := ASt.new_old (id := i5) (o := .cells x.cells) hps
  have h5 := ASt.new_self (.cells x.cells) hi5
  have hb5 : (st.set m (lnsE (tickTo ls i))).h i5 = none := fresh_of_le hO.2.1 hi5
  generalize s.new i5 (.cells x.cells) = t at hO5 hm6 hp6 h5
  clear hps hms hO hi5
  rw [Ln.cells] at h5
  -- what a write of the line's own variable leaves
  have hOset : ∀ {t : ASt} {v : AV} {n : Nat} {cs : List AV} (o : AObj), Over (st.set m (lnsE (tickTo ls i))) t 1 v n cs → (∀ sz b off k, v = .sl sz b off k → b ≠ i5) → Over (st.set m (lnsE (tickTo ls i))) (t.set i5 o) 1 v n cs := by
    intro t v n cs o hO hv
    obtain ⟨⟨h1, h2⟩, h3, h4⟩ := hO
    refine ⟨⟨h1, ?_⟩, fun j ob hj => ?_, h4⟩
    · rcases h2 with h2 | ⟨b, rfl, hb⟩
      · exact .inl h2
      · exact .inr ⟨b, rfl, by rw [ASt.set_h, if_neg (hv _ _ _ _ rfl)]; exact hb⟩
    · rw [ASt.set_h, if_neg (by rintro rfl; rw [hb5] at hj; cases hj)]
      exact h3 _ _ hj
  have hOm : ∀ {t : ASt} {v : AV} {n : Nat} {cs : List AV} (y : Ln), tick1 ls[i] = y → Over (st.set m (lnsE (tickTo ls i))) t 1 v n cs → Over (st.set m (lnsE (tickTo ls (i + 1)))) (t.set m (.map (ent (((tickTo ls i).set i y).map lnAV)))) 1 v n cs := by
    intro t v n cs y hy hO
    rw [← hy, tickTo_set hil]
    have := hO.rebase (base' := (st.set m (lnsE (tickTo ls i))).set m (lnsE (tickTo ls (i + 1)))) (st' := t.set m (lnsE (tickTo ls (i + 1)))) (keep_set hbm) (hO.2.1.set _ _)
    rw [base_i] at this
    exact this
  have hv5 : ∀ sz b off k, v = .sl sz b off k → b ≠ i5 := by
    rintro sz b off k rfl rfl
    have := hO5.1.2
    rcases this with ⟨_, e⟩ | ⟨b', e, hb'⟩
    · cases e
    · cases e
      rw [h5] at hb'
      have hl := hO5.1.1
      have e2 : ints (nats (toldTo ls i)) = [AV.int .i64 x.least, AV.int .i64 x.left, AV.bool x.held, AV.bool x.wanted] := by injection hb' with e; injection e with e; exact e.symm
      have := congrArg (fun l => l[2]?) e2
      simp only [ints, List.getElem?_map] at this
      cases h' : (nats (toldTo ls i))[2]? <;> rw [h'] at this <;> simp at this
  by_cases hh : x.held = true
  rotate_left
  · have hh' : x.held = false := by simpa using hh
    have ht : tick1 ls[i] = ls[i] := by rw [← hx, tick1, if_neg hh]
    have hg : goes ls[i] = false := by rw [← hx, goes, hh']; rfl
    simp only [↓Bp, Bq, Bs, ↓aop.eq_28, ↓aop.eq_30, Nat.reduceEqDiff, Nat.reduceAdd, Nat.reduceMul, Nat.reduceSub, Nat.reduceLeDiff, Nat.reduceLT, Int.reduceLT, Int.reduceLE, Int.reduceEq, Int.reduceToNat, Int.reduceAdd, Int.reduceSub, Int.reduceNeg, ↓reduceIte, reduceCtorEq, ↓C.reset_Lines_Tick_W, C.reset_Lines_Tick_B, C.reset_Lines_Tick, h5, hh', hw]
    refine ⟨(i + 1, v), rfl, ⟨hil, ?_⟩, by simp only; omega⟩
    simp only
    rw [tickTo_same hil ht, toldTo_succ hil, if_neg (by rw [hg]; decide)]
    exact hO5
  rw [hh] at h5
  by_cases hl : 0 < x.left
  · have wl : IntKind.i64.wrap (x.left - 1) = x.left - 1 := by rw [wrap64] <;> omega
    have ht : tick1 ls[i] = { x with left := x.left - 1 } := by rw [← hx, tick1, if_pos hh, if_pos hl]
    have hg : goes ls[i] = false := by rw [← hx, goes]; simp [hl]
    simp only [↓Bp, Bq, Bs, ↓aop.eq_28, ↓aop.eq_30, Nat.reduceEqDiff, Nat.reduceAdd, Nat.reduceMul, Nat.reduceSub, Nat.reduceLeDiff, Nat.reduceLT, Int.reduceLT, Int.reduceLE, Int.reduceEq, Int.reduceToNat, Int.reduceAdd, Int.reduceSub, Int.reduceNeg, ↓reduceIte, reduceCtorEq, ↓C.reset_Lines_Tick_W, C.reset_Lines_Tick_B, C.reset_Lines_Tick, h5, gt_iff_lt, hl, wl, hp5, hp6, hm5, hm6, Ne.symm hm5, Ne.symm hp5, hw]
    rw [show AV.agg [AV.int .i64 x.least, AV.int .i64 (x.left - 1), AV.bool true, AV.bool x.wanted] = lnAV { x with left := x.left - 1 } by rw [← hh]; rfl, hput]
    refine ⟨(i + 1, v), rfl, ⟨hil, ?_⟩, by simp only; omega⟩
    simp only
    rw [toldTo_succ hil, if_neg (by rw [hg]; decide)]
    exact hOm _ ht (hOset _ hO5 hv5)
  by_cases hwt : x.wanted = true
  rotate_left
  · have hwt' : x.wanted = false := by simpa using hwt
    have ht : tick1 ls[i] = x := by rw [← hx, tick1, if_pos hh, if_neg hl, if_neg hwt]
    have hg : goes ls[i] = false := by rw [← hx, goes, hwt']; simp
    simp only [↓Bp, Bq, Bs, ↓aop.eq_28, ↓aop.eq_30, Nat.reduceEqDiff, Nat.reduceAdd, Nat.reduceMul, Nat.reduceSub, Nat.reduceLeDiff, Nat.reduceLT, Int.reduceLT, Int.reduceLE, Int.reduceEq, Int.reduceToNat, Int.reduceAdd, Int.reduceSub, Int.reduceNeg, ↓reduceIte, reduceCtorEq, ↓C.reset_Lines_Tick_W, C.reset_Lines_Tick_B, C.reset_Lines_Tick, h5, gt_iff_lt, hl, hwt', hp5, hp6, hm5, hm6, Ne.symm hm5, Ne.symm hp5, hw]
    rw [show AV.agg [AV.int .i64 x.least, AV.int .i64 x.left, AV.bool true, AV.bool false] = lnAV x by rw [← hh, ← hwt']; rfl, hput]
    refine ⟨(i + 1, v), rfl, ⟨hil, ?_⟩, by simp only; omega⟩
    simp only
    rw [toldTo_succ hil, if_neg (by rw [hg]; decide)]
    exact hOm _ ht hO5
  · have ht : tick1 ls[i] = { x with held := false, wanted := false } := by rw [← hx, tick1, if_pos hh, if_neg hl, if_pos hwt]
    have hg : goes ls[i] = true := by rw [← hx, goes, hh, hwt]; simp [hl]
    rw [hwt] at h5
    have hO7 := hOset (.cells [AV.int .i64 x.least, AV.int .i64 x.left, AV.bool false, AV.bool true]) hO5 hv5
    have hO8 := hOset (.cells [AV.int .i64 x.least, AV.int .i64 x.left, AV.bool false, AV.bool false]) hO7 hv5
    have hlen := toldTo_len ls i
    simp only [↓Bp, Bq, Bs, Nat.reduceEqDiff, Nat.reduceAdd, Nat.reduceMul, Nat.reduceSub, Nat.reduceLeDiff, Nat.reduceLT, Int.reduceLT, Int.reduceLE, Int.reduceEq, Int.reduceToNat, Int.reduceAdd, Int.reduceSub, Int.reduceNeg, ↓reduceIte, reduceCtorEq, ↓C.reset_Lines_Tick_r15_w, C.reset_Lines_Tick_r15_b, ↓C.reset_Lines_Tick_c2_w, ↓C.reset_Lines_Tick_r10_w, C.reset_Lines_Tick_r10_b, ↓C.reset_Lines_Tick_r13_w, C.reset_Lines_Tick_r13_b, ↓C.reset_Lines_Tick_c4_w, ↓C.reset_Lines_Tick_r12_w, C.reset_Lines_Tick_r12_b, ↓C.reset_Lines_Tick_c5_w, ↓C.reset_Lines_Tick_c6_w, ↓C.reset_Lines_Tick_r11_w, C.reset_Lines_Tick_r11_b, ↓C.reset_Lines_Tick_c7_w, ↓C.reset_Lines_Tick_c8_w, ↓C.reset_Lines_Tick_r9_w, C.reset_Lines_Tick_r9_b, ↓C.reset_Lines_Tick_c9_w, ↓C.reset_Lines_Tick_c10_w, ↓C.reset_Lines_Tick_r8_w, C.reset_Lines_Tick_r8_b, ↓C.reset_Lines_Tick_c11_w, ↓C.reset_Lines_Tick_r7_w, C.reset_Lines_Tick_r7_b, ↓C.reset_Lines_Tick_c12_w, ↓C.reset_Lines_Tick_r6_w, C.reset_Lines_Tick_r6_b, ↓C.reset_Lines_Tick_b13_w, ↓C.reset_Lines_Tick_c14_w, ↓C.reset_Lines_Tick_c15_w, ↓C.reset_Lines_Tick_r5_w, C.reset_Lines_Tick_r5_b, h5, gt_iff_lt, hl, hp5, hp6, hm5, hm6, Ne.symm hm5, Ne.symm hp5]
    obtain ⟨y, hy⟩ : ∃ y : Ln, y = { x with held := false, wanted := false } := ⟨_, rfl⟩
    have hyc : [AV.int .i64 x.least, AV.int .i64 x.left, AV.bool false, AV.bool false] = y.cells := by rw [hy]; rfl
    rw [hyc] at hO8 ⊢
    have h58 : ((t.set i5 (AObj.cells [AV.int .i64 x.least, AV.int .i64 x.left, AV.bool false, AV.bool true])).set i5 (.cells y.cells)).h i5 = some (.cells y.cells) := by
      simp only [ASt.set_h, if_true, h5, Option.map_some]
    generalize (t.set i5 (AObj.cells [AV.int .i64 x.least, AV.int .i64 x.left, AV.bool false, AV.bool true])).set i5 (.cells y.cells) = t2 at hO8 h58
    have hO9 : Over ((st.set m (lnsE (tickTo ls i))).new i5 (.cells y.cells)) t2 1 v (toldTo ls i).length (ints (nats (toldTo ls i))) := by
      refine ⟨hO8.1, fun j o hj => ?_, fun sz b off k e => ?_⟩
      · by_cases e : j = i5
        · subst e
          rw [ASt.new_self _ hb5] at hj; rw [h58]; exact hj
        · rw [ASt.new_ne _ e] at hj; exact hO8.2.1 _ _ hj
      · rw [ASt.new_none]; exact ⟨hO8.2.2 sz b off k e, hv5 sz b off k e⟩
    refine aop_append_over hO9 (by omega) (new := [.int .i64 (i : Int)]) rfl rfl rfl (fun _ => rfl) (fun _ => rfl) fun v1 v2 t3 hP => ?_
    have g5 := hP.2.1 _ _ (ASt.new_self _ hb5)
    have gm : t3.h m = some (.map (ent ((tickTo ls i).map lnAV))) := hP.2.1 _ _ (ASt.new_old (by rw [ASt.set_h, if_pos rfl, h.hm]; rfl))
    have gp : t3.h p = some (.cells [.map m]) := hP.2.1 _ _ (ASt.new_old (by rw [ASt.set_h, if_neg hpm]; exact hp))
    have hP0 : Over (st.set m (lnsE (tickTo ls i))) t3 1 v2 (toldTo ls i ++ [i]).length (ints (nats (toldTo ls i ++ [i]))) := by
      refine ⟨?_, (ASt.le.new _ _ _).trans hP.2.1, fun sz b off k e => ?_⟩
      · rw [nats_append, ints_append, List.length_append]; exact hP.1
      · have := hP.2.2 sz b off k e
        rw [ASt.new_none] at this; exact this.1
    have ly : y.cells.length = 4 := rfl
    have ey : AV.agg (List.take 4 y.cells) = lnAV y := rfl
    simp only [↓Bp, Bq, Bs, ↓aop.eq_28, ↓aop.eq_30, Nat.reduceEqDiff, Nat.reduceAdd, Nat.reduceMul, Nat.reduceSub, Nat.reduceLeDiff, Nat.reduceLT, Int.reduceLT, Int.reduceLE, Int.reduceEq, Int.reduceToNat, Int.reduceAdd, Int.reduceSub, Int.reduceNeg, ↓reduceIte, reduceCtorEq, ↓C.reset_Lines_Tick_W, C.reset_Lines_Tick_B, C.reset_Lines_Tick, g5, gm, gp, ly, ey, hput, hw]
    refine ⟨(i + 1, v2), rfl, ⟨hil, ?_⟩, by simp only; omega⟩
    simp only
    rw [toldTo_succ hil, if_pos hg]
    exact hOm _ (by rw [ht, hy]) hP0

def freshL (R : List Int) : List Ln := R.map fun n => ⟨n, 0, true, false⟩
/-- What a new chip's lines are handed back as. -/
def NewQ (st : ASt) (s : Soc) (r : AV) (s' : ASt) : Prop :=
  (confErr s ≠ 0 ∧ r = .tup [.nilp, .int .i64 (confErr s)] ∧ st.le s') ∨ (confErr s = 0 ∧ ∃ p m, r = .tup [.ptr p 0, .int .i64 0] ∧ LinesAt s' p m (freshL s.rsts) ∧ st.h p = none ∧ st.h m = none ∧ st.le s')
theorem new_spec {st : ASt} {s : Soc} (hs : s.fine) (hn : s.rsts.length ≤ 1000) : ACalls Try.prog F.reset_New [.agg s.cells] st (NewQ st s) := by
  refine calls_of_awp L.reset_New rfl ?_
  have l4 : s.cells.length = 4 := rfl
  have e4 : AV.agg (List.take 4 s.cells) = .agg s.cells := rfl
  simp only [↓Bp, Bq, Bs, ↓aop.eq_28, ↓aop.eq_30, Nat.reduceEqDiff, Nat.reduceAdd, Nat.reduceMul, Nat.reduceSub, Nat.reduceLeDiff, Nat.reduceLT, Int.reduceLT, Int.reduceLE, Int.reduceEq, Int.reduceToNat, Int.reduceAdd, Int.reduceSub, Int.reduceNeg, ↓reduceIte, reduceCtorEq, ↓C.reset_New_r0_w, C.reset_New_r0_b, C.reset_New]
  rintro ib hib
  have hle0 := ASt.le.new st ib (.cells s.cells)
  have hb := ASt.new_self (.cells s.cells) hib
  generalize st.new ib (.cells s.cells) = s0 at hle0 hb
  simp only [↓Bp, Bq, Bs, ↓aop.eq_28, ↓aop.eq_30, Nat.reduceEqDiff, Nat.reduceAdd, Nat.reduceMul, Nat.reduceSub, Nat.reduceLeDiff, Nat.reduceLT, Int.reduceLT, Int.reduceLE, Int.reduceEq, Int.reduceToNat, Int.reduceAdd, Int.reduceSub, Int.reduceNeg, ↓reduceIte, reduceCtorEq, ↓C.reset_New_W, C.reset_New_B, C.reset_New, hb, l4, e4]
  refine (conf_check_spec hs).mono ?_
  rintro r s1 ⟨rfl, rfl⟩
  by_cases he : confErr s = 0
  rotate_left
  · simp only [↓Bp, Bq, Bs, ↓aop.eq_28, ↓aop.eq_30, Nat.reduceEqDiff, Nat.reduceAdd, Nat.reduceMul, Nat.reduceSub, Nat.reduceLeDiff, Nat.reduceLT, Int.reduceLT, Int.reduceLE, Int.reduceEq, Int.reduceToNat, Int.reduceAdd, Int.reduceSub, Int.reduceNeg, ↓reduceIte, reduceCtorEq, ↓C.reset_New_W, C.reset_New_B, C.reset_New, he]
    exact .inl ⟨he, rfl, hle0⟩
  rw [Soc.cells, Soc.rstV] at hb
  simp only [↓Bp, Bq, Bs, ↓aop.eq_28, ↓aop.eq_30, Nat.reduceEqDiff, Nat.reduceAdd, Nat.reduceMul, Nat.reduceSub, Nat.reduceLeDiff, Nat.reduceLT, Int.reduceLT, Int.reduceLE, Int.reduceEq, Int.reduceToNat, Int.reduceAdd, Int.reduceSub, Int.reduceNeg, ↓reduceIte, reduceCtorEq, ↓C.reset_New_r4_w, C.reset_New_r4_b, ↓C.reset_New_c11_w, ↓C.reset_New_r3_w, C.reset_New_r3_b, ↓C.reset_New_c12_w, ↓C.reset_New_c13_w, ↓C.reset_New_r2_w, C.reset_New_r2_b, ↓C.reset_New_c14_w, ↓C.reset_New_r1_w, C.reset_New_r1_b, ↓C.reset_New_c15_w, ↓C.reset_New_r0_w, C.reset_New_r0_b, C.reset_New, he, hb]
  rintro m hm p ⟨hp, hpm⟩
  have hmp : ¬ m = p := fun e => hpm e.symm
  have hL0 : LinesAt ((s1.new m (.map [])).new p (.cells [.map m])) p m (freshL (s.rsts.take 0)) :=
    ⟨ASt.new_self _ (by rw [ASt.new_none]; exact ⟨hp, hpm⟩), ASt.new_old (ASt.new_self _ hm)⟩
  have hle1 := (ASt.le.new s1 m (.map [])).trans (ASt.le.new _ p (.cells [.map m]))
  have hb1 := hle1 _ _ hb
  have hps := fresh_of_le hle0 hp
  have hms := fresh_of_le hle0 hm
  have hle := hle0.trans hle1
  generalize (s1.new m (.map [])).new p (.cells [.map m]) = s2 at hL0 hb1 hle
  simp only [↓Bp, Bq, Bs, ↓aop.eq_28, ↓aop.eq_30, Nat.reduceEqDiff, Nat.reduceAdd, Nat.reduceMul, Nat.reduceSub, Nat.reduceLeDiff, Nat.reduceLT, Int.reduceLT, Int.reduceLE, Int.reduceEq, Int.reduceToNat, Int.reduceAdd, Int.reduceSub, Int.reduceNeg, ↓reduceIte, reduceCtorEq, ↓C.reset_New_W, C.reset_New_B, C.reset_New, hb1]
  refine awp_midB (fun _ : Unit => [(5, .ptr p 0)]) (fun _ t => LinesAt t p m (freshL s.rsts) ∧ st.le t) ?_ ?_
  rotate_left
  · rintro - t ⟨h1, h2⟩
    simp only [↓Bp, Bq, Bs, ↓aop.eq_28, ↓aop.eq_30, Nat.reduceEqDiff, Nat.reduceAdd, Nat.reduceMul, Nat.reduceSub, Nat.reduceLeDiff, Nat.reduceLT, Int.reduceLT, Int.reduceLE, Int.reduceEq, Int.reduceToNat, Int.reduceAdd, Int.reduceSub, Int.reduceNeg, ↓reduceIte, reduceCtorEq, ↓C.reset_New_W, C.reset_New_B, C.reset_New]
    exact .inr ⟨he, p, m, rfl, h1, hps, hms, h2⟩
  refine awp_loopK (fun i : Nat => [(5, .ptr p 0), (20, .isl 1 (s.rsts.flatMap rstCells) s.rsts.length), (21, .int .i64 s.rsts.length), (22, .int .i64 i)]) (fun i t => i ≤ s.rsts.length ∧ LinesAt t p m (freshL (s.rsts.take i)) ∧ st.le t) (fun i => s.rsts.length - i) 0 rfl ⟨Nat.zero_le _, hL0, hle⟩ ?_
  clear hL0 hle hb1 hb hle1 hm hp
  rintro i t ⟨hi, hL, hle⟩
  by_cases hil : i < s.rsts.length
  rotate_left
  · have hie : i = s.rsts.length := by omega
    have hil' : ¬ (i : Int) < (s.rsts.length : Nat) := by omega
    simp only [↓Bp, Bq, Bs, ↓aop.eq_28, ↓aop.eq_30, Nat.reduceEqDiff, Nat.reduceAdd, Nat.reduceMul, Nat.reduceSub, Nat.reduceLeDiff, Nat.reduceLT, Int.reduceLT, Int.reduceLE, Int.reduceEq, Int.reduceToNat, Int.reduceAdd, Int.reduceSub, Int.reduceNeg, ↓reduceIte, reduceCtorEq, ↓C.reset_New_W, C.reset_New_B, C.reset_New, hil']
    rw [hie, List.take_length] at hL
    exact ⟨(), hL, hle⟩
  have hil' : (i : Int) < (s.rsts.length : Nat) := by omega
  have hz : (0:Int) ≤ (i : Int) ∧ (i : Int) < (s.rsts.length : Nat) := by omega
  have hw := wsucc hil (by omega)
  have hq := flatMap_len rstCells_len s.rsts
  have hr : i + 1 ≤ (s.rsts.flatMap rstCells).length := by omega
  have hd := rows_drop rstCells rstCells_len (l := s.rsts) (i := i) hil
  rw [Nat.mul_one] at hd
  have hp := hL.hp
  have hm := hL.hm
  have hpm2 := hL.ne
  rw [lnsE] at hm
  simp only [↓Bp, Bq, Bs, ↓aop.eq_28, ↓aop.eq_30, Nat.reduceEqDiff, Nat.reduceAdd, Nat.reduceMul, Nat.reduceSub, Nat.reduceLeDiff, Nat.reduceLT, Int.reduceLT, Int.reduceLE, Int.reduceEq, Int.reduceToNat, Int.reduceAdd, Int.reduceSub, Int.reduceNeg, ↓reduceIte, reduceCtorEq, ↓C.reset_New_r10_w, C.reset_New_r10_b, ↓C.reset_New_c1_w, ↓C.reset_New_r9_w, C.reset_New_r9_b, ↓C.reset_New_c2_w, ↓C.reset_New_r7_w, C.reset_New_r7_b, ↓C.reset_New_b4_w, ↓C.reset_New_c5_w, ↓C.reset_New_c6_w, ↓C.reset_New_r6_w, C.reset_New_r6_b, ↓C.reset_New_b8_w, ↓C.reset_New_c9_w, ↓C.reset_New_r5_w, C.reset_New_r5_b, ↓C.reset_New_c10_w, ↓C.reset_New_r4_w, C.reset_New_r4_b, ↓C.reset_New_c11_w, ↓C.reset_New_r3_w, C.reset_New_r3_b, ↓C.reset_New_c12_w, ↓C.reset_New_c13_w, ↓C.reset_New_r2_w, C.reset_New_r2_b, ↓C.reset_New_c14_w, ↓C.reset_New_r1_w, C.reset_New_r1_b, ↓C.reset_New_c15_w, ↓C.reset_New_r0_w, C.reset_New_r0_b, C.reset_New, hil', hz, Int.toNat_natCast, Nat.mul_one, hr, hd, rstCells]
  rintro i7 hi7
  have hm7 : m ≠ i7 := by rintro rfl; rw [hm] at hi7; cases hi7
  have hp7 : p ≠ i7 := by rintro rfl; rw [hp] at hi7; cases hi7
  have hlen : ((freshL (s.rsts.take i)).map lnAV).length = i := by simp [freshL, Nat.min_eq_left hi]
  have hput : mput (ent ((freshL (s.rsts.take i)).map lnAV)) (i : Int) (AV.agg [AV.int .i64 s.rsts[i], AV.int .i64 0, AV.bool true, AV.bool false]) = ent ((freshL (s.rsts.take (i + 1))).map lnAV) := by
    have := mput_ent_new (l := (freshL (s.rsts.take i)).map lnAV) (AV.agg [AV.int .i64 s.rsts[i], AV.int .i64 0, AV.bool true, AV.bool false])
    rw [hlen] at this
    rw [this, List.take_succ_eq_append_getElem hil, show freshL (s.rsts.take i ++ [s.rsts[i]]) = freshL (s.rsts.take i) ++ [⟨s.rsts[i], 0, true, false⟩] by simp only [freshL, List.map_append, List.map_cons, List.map_nil], List.map_append]
    rfl
  simp only [↓Bp, Bq, Bs, ↓aop.eq_28, ↓aop.eq_30, Nat.reduceEqDiff, Nat.reduceAdd, Nat.reduceMul, Nat.reduceSub, Nat.reduceLeDiff, Nat.reduceLT, Int.reduceLT, Int.reduceLE, Int.reduceEq, Int.reduceToNat, Int.reduceAdd, Int.reduceSub, Int.reduceNeg, ↓reduceIte, reduceCtorEq, ↓C.reset_New_W, C.reset_New_B, C.reset_New, hi7, hp7, hm7, Ne.symm hp7, Ne.symm hm7, hp, hm, hput, hw]
  refine ⟨rfl, i + 1, rfl, ⟨hil, ⟨?_, ?_⟩, fun j o hj => ?_⟩, by omega⟩
  · simp only [ASt.set_h, if_neg hpm2, if_neg hp7, ASt.new_old hp]
  · simp only [ASt.set_h, if_true, if_neg hm7, ASt.new_old hm, Option.map_some]; rfl
  · have h1 : j ≠ m := by rintro rfl; rw [hms] at hj; cases hj
    have h2 : j ≠ i7 := by rintro rfl; rw [hle _ _ hj] at hi7; cases hi7
    simp only [ASt.set_h, if_neg h1, if_neg h2]
    exact ASt.new_old (hle _ _ hj)
end Go.Proofs.Ytkabdilikndhbaa.Cn
