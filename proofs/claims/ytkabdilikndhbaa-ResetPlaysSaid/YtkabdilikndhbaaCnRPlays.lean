/- Reset lines: ResetPlays. -/
import Derived.Test.YtkabdilikndhbaaCnRef8b
import Derived.Test.YtkabdilikndhbaaCnL2
set_option linter.unusedSimpArgs false
set_option linter.unusedVariables false
set_option linter.unusedSectionVars false
namespace Go.Proofs.Ytkabdilikndhbaa.Cn
open Go Go.Proofs

theorem pairs_get : ∀ (l : List Pair) {i : Nat} (h : i < l.length), (l.flatMap encPair)[i * 2]? = some (.int .i64 l[i].a) ∧ (l.flatMap encPair)[i * 2 + 1]? = some (.int .i64 l[i].b)
  | [], i, h => by simp at h
  | p :: l, 0, h => ⟨rfl, rfl⟩
  | p :: l, i + 1, h => by
    have := pairs_get l (i := i) (by simpa using h)
    rw [List.flatMap_cons, show (i + 1) * 2 = i * 2 + 1 + 1 by omega]
    exact this
def LOk (x : Ln) : Prop := (0 ≤ x.left ∧ x.left ≤ 20) ∧ (0 ≤ x.least ∧ x.least ≤ 20) ∧ (x.held = false → x.left = 0)
theorem LOk.fresh {R : List Int} (hR2 : ∀ x ∈ R, 0 ≤ x ∧ x ≤ 20) : ∀ x ∈ freshL R, LOk x := fun x hx => by
  obtain ⟨n, hn, rfl⟩ := List.mem_map.mp hx
  exact ⟨⟨Int.le_refl 0, by show (0 : Int) ≤ 20; omega⟩, hR2 n hn, fun e => by cases e⟩
theorem LOk.at {ls : List Ln} (h : ∀ x ∈ ls, LOk x) {i : Int} (hi : isLn ls i) : LOk (lnOf ls i) := by
  obtain ⟨k, rfl⟩ : ∃ k : Nat, i = k := ⟨i.toNat, by have := hi.1; omega⟩
  have hk : k < ls.length := by have := hi.2; omega
  rw [lnOf_at hk]; exact h _ (List.getElem_mem hk)
theorem LOk.assert {ls : List Ln} (h : ∀ x ∈ ls, LOk x) (i : Int) : ∀ x ∈ assertL ls i, LOk x := by
  unfold assertL
  split
  · rename_i hi
    intro x hx
    rcases List.mem_or_eq_of_mem_set hx with h1 | rfl
    · exact h x h1
    · have := LOk.at h hi
      exact ⟨this.2.1, this.2.1, fun e => by cases e⟩
  · exact h
theorem LOk.release {ls : List Ln} (h : ∀ x ∈ ls, LOk x) (i : Int) : ∀ x ∈ releaseL ls i, LOk x := by
  unfold releaseL
  split
  · rename_i hi
    intro x hx
    rcases List.mem_or_eq_of_mem_set hx with h1 | rfl
    · exact h x h1
    · exact LOk.at h hi.1
  · exact h
theorem LOk.tick {ls : List Ln} (h : ∀ x ∈ ls, LOk x) : ∀ x ∈ tickL ls, LOk x := by
  intro y hy
  obtain ⟨x, hx, rfl⟩ := List.mem_map.mp hy
  have := h x hx
  obtain ⟨n, l, b, w⟩ := x
  obtain ⟨h1, h2, h3⟩ := this
  simp only at h1 h2 h3
  cases b
  · exact ⟨h1, h2, h3⟩
  · rw [tick1_mk]
    split
    · exact ⟨⟨by show 0 ≤ l - 1; omega, by show l - 1 ≤ 20; omega⟩, h2, fun e => by cases e⟩
    · split
      · exact ⟨h1, h2, fun _ => by show l = 0; omega⟩
      · exact ⟨h1, h2, fun e => by cases e⟩
/-- Both lines, side by side. -/
structure PSt (st base s : ASt) (ib p m q : Nat) (v0 v1 : AV) (R : List Int) (ls : List Ln) : Prop where
  r : RSt st s ib p m R ls
  f : RefAt base s q v0 v1 ls
  hb : base.h ib ≠ none
  hp : base.h p ≠ none
  hm : base.h m ≠ none
  ble : st.le base
  ok : ∀ x ∈ ls, LOk x
  len : ls.length = R.length
theorem RefAt.other {base s s' : ASt} {q : Nat} {v0 v1 : AV} {ls : List Ln} (h : RefAt base s q v0 v1 ls) (hk : ∀ j, base.h j = none → s'.h j = s.h j) : RefAt base s' q v0 v1 ls := by
  refine ⟨by rw [hk _ h.bq]; exact h.hq, ⟨h.s0.1, ?_⟩, ⟨h.s1.1, ?_⟩, h.b0, h.b1, h.ne, h.bq⟩
  · rcases h.s0.2 with e | ⟨i, e1, e2⟩
    · exact .inl e
    · exact .inr ⟨i, e1, by rw [hk _ (h.b0 i e1).2]; exact e2⟩
  · rcases h.s1.2 with e | ⟨i, e1, e2⟩
    · exact .inl e
    · exact .inr ⟨i, e1, by rw [hk _ (h.b1 i e1).2]; exact e2⟩
theorem RSt.kept {st base s s' : ASt} {ib p m : Nat} {R : List Int} {ls : List Ln} (h : RSt st s ib p m R ls) (hk : Kept base s s') (hb : base.h ib ≠ none) (hp : base.h p ≠ none) (hm : base.h m ≠ none) (hl : st.le base) : RSt st s' ib p m R ls :=
  ⟨fun j o hj => by rw [hk j (by rw [hl _ _ hj]; simp)]; exact h.le _ _ hj, by rw [hk _ hb]; exact h.hb, ⟨by rw [hk _ hp]; exact h.ln.hp, by rw [hk _ hm]; exact h.ln.hm⟩, h.fm, h.ne⟩
section
variable {st base : ASt} {ib p m q : Nat} {v0 v1 : AV} {R : List Int} (hR : R.length ≤ 6)
include hR
/-- What is asked behind each act. -/
theorem plays_ask {s : ASt} {ls : List Ln} {va x8 x10 : AV} {i0 : Nat} {Q : IExit → AFr → ASt → Prop} (h : PSt st base s ib p m q v0 v1 R ls)
    (hQ : ∀ fr, fr.keep [1, 6, 7, 8, 9, 10, 11] = [(1, va), (6, .ptr ib 0), (7, .ptr p 0), (8, x8), (9, .ptr q 0), (10, x10), (11, .int .i64 i0)] → Q .normal fr s) :
    awp Try.prog C.catnaplaw8_ResetPlays_c12 Q [(1, va), (6, .ptr ib 0), (7, .ptr p 0), (8, x8), (9, .ptr q 0), (10, x10), (11, .int .i64 i0)] s := by
  simp only [↓Bp, Bq, Bs, ↓aop.eq_28, ↓aop.eq_30, Nat.reduceEqDiff, Nat.reduceAdd, Nat.reduceMul, Nat.reduceSub, Nat.reduceLeDiff, Nat.reduceLT, Int.reduceLT, Int.reduceLE, Int.reduceEq, Int.reduceToNat, Int.reduceAdd, Int.reduceSub, Int.reduceNeg, ↓reduceIte, reduceCtorEq, ↓C.catnaplaw8_ResetPlays_W, C.catnaplaw8_ResetPlays_B, C.catnaplaw8_ResetPlays]
  refine awp_loopK (fun t : Nat => [(1, va), (6, .ptr ib 0), (7, .ptr p 0), (8, x8), (9, .ptr q 0), (10, x10), (11, .int .i64 i0), (14, .int .i64 ((t : Int) - 1))]) (fun t s' => t ≤ R.length + 2 ∧ s' = s) (fun t => R.length + 2 - t) 0 rfl ⟨Nat.zero_le _, rfl⟩ ?_
  rintro t s' ⟨ht, rfl⟩
  have hb := h.r.hb
  by_cases htl : t < R.length + 2
  rotate_left
  · have htl' : ¬ ((t : Int) - 1) ≤ (R.length : Nat) := by omega
    simp only [↓Bp, Bq, Bs, ↓aop.eq_28, ↓aop.eq_30, Nat.reduceEqDiff, Nat.reduceAdd, Nat.reduceMul, Nat.reduceSub, Nat.reduceLeDiff, Nat.reduceLT, Int.reduceLT, Int.reduceLE, Int.reduceEq, Int.reduceToNat, Int.reduceAdd, Int.reduceSub, Int.reduceNeg, ↓reduceIte, reduceCtorEq, ↓C.catnaplaw8_ResetPlays_W, C.catnaplaw8_ResetPlays_B, C.catnaplaw8_ResetPlays, htl', hb, rchip, Soc.cells, Soc.rstV]
    exact hQ _ rfl
  have htl' : ((t : Int) - 1) ≤ (R.length : Nat) := by omega
  have hw : IntKind.i64.wrap ((t : Int) - 1 + 1) = ((t + 1 : Nat) : Int) - 1 := by rw [wrap64] <;> omega
  simp only [↓Bp, Bq, Bs, ↓aop.eq_28, ↓aop.eq_30, Nat.reduceEqDiff, Nat.reduceAdd, Nat.reduceMul, Nat.reduceSub, Nat.reduceLeDiff, Nat.reduceLT, Int.reduceLT, Int.reduceLE, Int.reduceEq, Int.reduceToNat, Int.reduceAdd, Int.reduceSub, Int.reduceNeg, ↓reduceIte, reduceCtorEq, ↓C.catnaplaw8_ResetPlays_W, C.catnaplaw8_ResetPlays_B, C.catnaplaw8_ResetPlays, htl', hb, rchip, Soc.cells, Soc.rstV]
  refine (held_spec h.r.ln _).mono ?_
  rintro r s1 ⟨rfl, rfl⟩
  simp only [↓Bp, Bq, Bs, ↓aop.eq_28, ↓aop.eq_30, Nat.reduceEqDiff, Nat.reduceAdd, Nat.reduceMul, Nat.reduceSub, Nat.reduceLeDiff, Nat.reduceLT, Int.reduceLT, Int.reduceLE, Int.reduceEq, Int.reduceToNat, Int.reduceAdd, Int.reduceSub, Int.reduceNeg, ↓reduceIte, reduceCtorEq, ↓C.catnaplaw8_ResetPlays_W, C.catnaplaw8_ResetPlays_B, C.catnaplaw8_ResetPlays]
  refine (refHeld_spec h.f _).mono ?_
  rintro r s2 ⟨rfl, rfl⟩
  simp only [↓Bp, Bq, Bs, ↓aop.eq_28, ↓aop.eq_30, Nat.reduceEqDiff, Nat.reduceAdd, Nat.reduceMul, Nat.reduceSub, Nat.reduceLeDiff, Nat.reduceLT, Int.reduceLT, Int.reduceLE, Int.reduceEq, Int.reduceToNat, Int.reduceAdd, Int.reduceSub, Int.reduceNeg, ↓reduceIte, reduceCtorEq, ↓C.catnaplaw8_ResetPlays_W, C.catnaplaw8_ResetPlays_B, C.catnaplaw8_ResetPlays]
  refine (left_spec h.r.ln _).mono ?_
  rintro r s3 ⟨rfl, rfl⟩
  simp only [↓Bp, Bq, Bs, ↓aop.eq_28, ↓aop.eq_30, Nat.reduceEqDiff, Nat.reduceAdd, Nat.reduceMul, Nat.reduceSub, Nat.reduceLeDiff, Nat.reduceLT, Int.reduceLT, Int.reduceLE, Int.reduceEq, Int.reduceToNat, Int.reduceAdd, Int.reduceSub, Int.reduceNeg, ↓reduceIte, reduceCtorEq, ↓C.catnaplaw8_ResetPlays_W, C.catnaplaw8_ResetPlays_B, C.catnaplaw8_ResetPlays]
  refine (refLeft_spec h.f (fun x hx => (h.ok x hx).2.2) _).mono ?_
  rintro r s4 ⟨rfl, rfl⟩
  simp only [↓Bp, Bq, Bs, ↓aop.eq_28, ↓aop.eq_30, Nat.reduceEqDiff, Nat.reduceAdd, Nat.reduceMul, Nat.reduceSub, Nat.reduceLeDiff, Nat.reduceLT, Int.reduceLT, Int.reduceLE, Int.reduceEq, Int.reduceToNat, Int.reduceAdd, Int.reduceSub, Int.reduceNeg, ↓reduceIte, reduceCtorEq, ↓C.catnaplaw8_ResetPlays_W, C.catnaplaw8_ResetPlays_B, C.catnaplaw8_ResetPlays, hw]
  exact ⟨t + 1, rfl, htl, by omega⟩
omit hR in
theorem PSt.move {s s' : ASt} {ls ls' : List Ln} (h : PSt st base s ib p m q v0 v1 R ls) (hf : RefAt base s' q v0 v1 ls') (hk : Kept base (s.set m (lnsE ls')) s') (ho : ∀ x ∈ ls', LOk x) (hl : ls'.length = ls.length) : PSt st base s' ib p m q v0 v1 R ls' :=
  ⟨(h.r.set ls').kept hk h.hb h.hp h.hm h.ble, hf, h.hb, h.hp, h.hm, h.ble, ho, hl.trans h.len⟩
omit hR in
theorem PSt.ref {s : ASt} {ls ls' : List Ln} (h : PSt st base s ib p m q v0 v1 R ls) : RefAt base (s.set m (lnsE ls')) q v0 v1 ls :=
  h.f.other fun j hj => by rw [ASt.set_h, if_neg (by rintro rfl; exact h.hm hj)]
theorem plays_loop {s : ASt} {acts : List Pair} (hac : ∀ x ∈ acts, I64 x.a ∧ I64 x.b) (hal : acts.length ≤ 150) {ls : List Ln} (h : PSt st base s ib p m q v0 v1 R ls) :
    awp Try.prog C.catnaplaw8_ResetPlays_c32 (Post [.slot 4] fun r s => r = .bool true ∧ st.le s)
      [(1, .isl 2 (acts.flatMap encPair) acts.length), (6, .ptr ib 0), (7, .ptr p 0), (8, .int .i64 0), (9, .ptr q 0), (10, .int .i64 0)] s := by
  simp only [↓Bp, Bq, Bs, ↓aop.eq_28, ↓aop.eq_30, Nat.reduceEqDiff, Nat.reduceAdd, Nat.reduceMul, Nat.reduceSub, Nat.reduceLeDiff, Nat.reduceLT, Int.reduceLT, Int.reduceLE, Int.reduceEq, Int.reduceToNat, Int.reduceAdd, Int.reduceSub, Int.reduceNeg, ↓reduceIte, reduceCtorEq, ↓C.catnaplaw8_ResetPlays_W, C.catnaplaw8_ResetPlays_B, C.catnaplaw8_ResetPlays]
  refine awp_midB (fun _ : Unit => [(8, .int .i64 0), (10, .int .i64 0)]) (fun _ s => st.le s) ?_ ?_
  rotate_left
  · rintro - s hs
    simp only [↓Bp, Bq, Bs, ↓aop.eq_28, ↓aop.eq_30, Nat.reduceEqDiff, Nat.reduceAdd, Nat.reduceMul, Nat.reduceSub, Nat.reduceLeDiff, Nat.reduceLT, Int.reduceLT, Int.reduceLE, Int.reduceEq, Int.reduceToNat, Int.reduceAdd, Int.reduceSub, Int.reduceNeg, ↓reduceIte, reduceCtorEq, ↓C.catnaplaw8_ResetPlays_W, C.catnaplaw8_ResetPlays_B, C.catnaplaw8_ResetPlays]
    exact hs
  refine awp_loopK (fun t : Nat => [(1, .isl 2 (acts.flatMap encPair) acts.length), (6, .ptr ib 0), (7, .ptr p 0), (8, .int .i64 0), (9, .ptr q 0), (10, .int .i64 0), (11, .int .i64 t)])
    (fun t s => t ≤ acts.length ∧ ∃ ls, PSt st base s ib p m q v0 v1 R ls) (fun t => acts.length - t) 0 rfl ⟨Nat.zero_le _, ls, h⟩ ?_
  clear h ls s
  rintro t s ⟨ht, ls, h⟩
  have hb := h.r.hb
  by_cases htl : t < acts.length
  rotate_left
  · have htl' : ¬ (t : Int) < (acts.length : Nat) := by omega
    simp only [↓Bp, Bq, Bs, ↓aop.eq_28, ↓aop.eq_30, Nat.reduceEqDiff, Nat.reduceAdd, Nat.reduceMul, Nat.reduceSub, Nat.reduceLeDiff, Nat.reduceLT, Int.reduceLT, Int.reduceLE, Int.reduceEq, Int.reduceToNat, Int.reduceAdd, Int.reduceSub, Int.reduceNeg, ↓reduceIte, reduceCtorEq, ↓C.catnaplaw8_ResetPlays_W, C.catnaplaw8_ResetPlays_B, C.catnaplaw8_ResetPlays, htl']
    exact ⟨(), h.r.le⟩
  have htl' : (t : Int) < (acts.length : Nat) := by omega
  have hw := wsucc htl (by omega)
  have hz2 : (0:Int) ≤ (t : Int) ∧ (t : Int) < (acts.length : Nat) := by omega
  have hg := pairs_get acts htl
  have hI := hac _ (List.getElem_mem htl)
  have w2 : IntKind.i64.wrap ((R.length : Int) + 2) = ((R.length + 2 : Nat) : Int) := by rw [wrap64] <;> omega
  simp only [↓Bp, Bq, Bs, ↓aop.eq_28, ↓aop.eq_30, Nat.reduceEqDiff, Nat.reduceAdd, Nat.reduceMul, Nat.reduceSub, Nat.reduceLeDiff, Nat.reduceLT, Int.reduceLT, Int.reduceLE, Int.reduceEq, Int.reduceToNat, Int.reduceAdd, Int.reduceSub, Int.reduceNeg, ↓reduceIte, reduceCtorEq, ↓C.catnaplaw8_ResetPlays_W, C.catnaplaw8_ResetPlays_B, C.catnaplaw8_ResetPlays, htl', hb, rchip, Soc.cells, Soc.rstV, hz2, Int.toNat_natCast, hg.1, hg.2, w2]
  refine (pick_spec hI.2 (n := R.length + 2) (by omega)).mono ?_
  rintro r s ⟨rfl, rfl⟩
  have hkl := pickI_lt acts[t].b (n := R.length + 2) (by omega)
  generalize pickI acts[t].b (R.length + 2) = k0 at hkl
  have w1 : IntKind.i64.wrap ((k0 : Int) - 1) = (k0 : Int) - 1 := by rw [wrap64] <;> omega
  simp only [↓Bp, Bq, Bs, ↓aop.eq_28, ↓aop.eq_30, Nat.reduceEqDiff, Nat.reduceAdd, Nat.reduceMul, Nat.reduceSub, Nat.reduceLeDiff, Nat.reduceLT, Int.reduceLT, Int.reduceLE, Int.reduceEq, Int.reduceToNat, Int.reduceAdd, Int.reduceSub, Int.reduceNeg, ↓reduceIte, reduceCtorEq, ↓C.catnaplaw8_ResetPlays_W, C.catnaplaw8_ResetPlays_B, C.catnaplaw8_ResetPlays, hz2, Int.toNat_natCast, hg.1, hg.2, w1]
  generalize (k0 : Int) - 1 = k
  refine (pick_spec hI.1 (n := 4) (by omega)).mono ?_
  rintro r s ⟨rfl, rfl⟩
  generalize pickI acts[t].a 4 = o
  have hlen := h.len
  -- behind the act
  have back : ∀ (s' : ASt) (ls' : List Ln) {Q : IExit → AFr → ASt → Prop}, PSt st base s' ib p m q v0 v1 R ls' → (∀ fr, fr.keep [1, 6, 7, 8, 9, 10, 11] = [(1, .isl 2 (acts.flatMap encPair) acts.length), (6, .ptr ib 0), (7, .ptr p 0), (8, .int .i64 0), (9, .ptr q 0), (10, .int .i64 0), (11, .int .i64 t)] → Q .normal fr s') →
      awp Try.prog C.catnaplaw8_ResetPlays_c15 Q [(1, .isl 2 (acts.flatMap encPair) acts.length), (6, .ptr ib 0), (7, .ptr p 0), (8, .int .i64 0), (9, .ptr q 0), (10, .int .i64 0), (11, .int .i64 t), (13, .bool true)] s' := by
    intro s' ls' Q hP hQ
    simp only [↓Bp, Bq, Bs, ↓aop.eq_28, ↓aop.eq_30, Nat.reduceEqDiff, Nat.reduceAdd, Nat.reduceMul, Nat.reduceSub, Nat.reduceLeDiff, Nat.reduceLT, Int.reduceLT, Int.reduceLE, Int.reduceEq, Int.reduceToNat, Int.reduceAdd, Int.reduceSub, Int.reduceNeg, ↓reduceIte, reduceCtorEq, ↓C.catnaplaw8_ResetPlays_r25_w, C.catnaplaw8_ResetPlays_r25_b, ↓C.catnaplaw8_ResetPlays_c1_w, ↓C.catnaplaw8_ResetPlays_r9_w, C.catnaplaw8_ResetPlays_r9_b, ↓C.catnaplaw8_ResetPlays_c2_w, ↓C.catnaplaw8_ResetPlays_r19_w, C.catnaplaw8_ResetPlays_r19_b, ↓C.catnaplaw8_ResetPlays_c13_w, ↓C.catnaplaw8_ResetPlays_c14_w, ↓C.catnaplaw8_ResetPlays_r18_w, C.catnaplaw8_ResetPlays_r18_b, ↓C.catnaplaw8_ResetPlays_c15_w, ↓C.catnaplaw8_ResetPlays_r15_w, C.catnaplaw8_ResetPlays_r15_b, ↓C.catnaplaw8_ResetPlays_r17_w, C.catnaplaw8_ResetPlays_r17_b, ↓C.catnaplaw8_ResetPlays_r13_w, C.catnaplaw8_ResetPlays_r13_b, ↓C.catnaplaw8_ResetPlays_c16_w, ↓C.catnaplaw8_ResetPlays_c17_w, ↓C.catnaplaw8_ResetPlays_c18_w, ↓C.catnaplaw8_ResetPlays_r16_w, C.catnaplaw8_ResetPlays_r16_b, ↓C.catnaplaw8_ResetPlays_c19_w, ↓C.catnaplaw8_ResetPlays_c20_w, ↓C.catnaplaw8_ResetPlays_c21_w, ↓C.catnaplaw8_ResetPlays_r14_w, C.catnaplaw8_ResetPlays_r14_b, ↓C.catnaplaw8_ResetPlays_b22_w, ↓C.catnaplaw8_ResetPlays_c23_w, ↓C.catnaplaw8_ResetPlays_r12_w, C.catnaplaw8_ResetPlays_r12_b, ↓C.catnaplaw8_ResetPlays_c24_w, ↓C.catnaplaw8_ResetPlays_r11_w, C.catnaplaw8_ResetPlays_r11_b, ↓C.catnaplaw8_ResetPlays_c25_w, ↓C.catnaplaw8_ResetPlays_r10_w, C.catnaplaw8_ResetPlays_r10_b, ↓C.catnaplaw8_ResetPlays_b26_w, ↓C.catnaplaw8_ResetPlays_c27_w, ↓C.catnaplaw8_ResetPlays_c28_w, ↓C.catnaplaw8_ResetPlays_r8_w, C.catnaplaw8_ResetPlays_r8_b, ↓C.catnaplaw8_ResetPlays_b30_w, ↓C.catnaplaw8_ResetPlays_c31_w, ↓C.catnaplaw8_ResetPlays_r7_w, C.catnaplaw8_ResetPlays_r7_b, ↓C.catnaplaw8_ResetPlays_c32_w, ↓C.catnaplaw8_ResetPlays_r6_w, C.catnaplaw8_ResetPlays_r6_b, ↓C.catnaplaw8_ResetPlays_c33_w, ↓C.catnaplaw8_ResetPlays_c34_w, ↓C.catnaplaw8_ResetPlays_r5_w, C.catnaplaw8_ResetPlays_r5_b, ↓C.catnaplaw8_ResetPlays_c35_w, ↓C.catnaplaw8_ResetPlays_r4_w, C.catnaplaw8_ResetPlays_r4_b, ↓C.catnaplaw8_ResetPlays_c36_w, ↓C.catnaplaw8_ResetPlays_r3_w, C.catnaplaw8_ResetPlays_r3_b, ↓C.catnaplaw8_ResetPlays_c37_w, ↓C.catnaplaw8_ResetPlays_r2_w, C.catnaplaw8_ResetPlays_r2_b, ↓C.catnaplaw8_ResetPlays_c38_w, ↓C.catnaplaw8_ResetPlays_r1_w, C.catnaplaw8_ResetPlays_r1_b, ↓C.catnaplaw8_ResetPlays_c39_w, ↓C.catnaplaw8_ResetPlays_r0_w, C.catnaplaw8_ResetPlays_r0_b, C.catnaplaw8_ResetPlays]
    rw [C.catnaplaw8_ResetPlays_c12_w, awp_keep]
    exact plays_ask hR hP hQ
  have fin : ∀ (s' : ASt) (ls' : List Ln) (fr : AFr), PSt st base s' ib p m q v0 v1 R ls' → fr.keep [1, 6, 7, 8, 9, 10, 11] = [(1, .isl 2 (acts.flatMap encPair) acts.length), (6, .ptr ib 0), (7, .ptr p 0), (8, .int .i64 0), (9, .ptr q 0), (10, .int .i64 0), (11, .int .i64 t)] →
      awp Try.prog C.catnaplaw8_ResetPlays_c2 (IExit.then (fun fr' st' => ∃ s', [(1, fr'.get 1), (6, fr'.get 6), (7, fr'.get 7), (8, fr'.get 8), (9, fr'.get 9), (10, fr'.get 10), (11, fr'.get 11)] = [(1, .isl 2 (acts.flatMap encPair) acts.length), (6, .ptr ib 0), (7, .ptr p 0), (8, .int .i64 0), (9, .ptr q 0), (10, .int .i64 0), (11, .int .i64 (s' : Nat))] ∧ (s' ≤ acts.length ∧ ∃ ls, PSt st base st' ib p m q v0 v1 R ls) ∧ acts.length - s' < acts.length - t)
        (IExit.inBlock 0 (IExit.then (fun fr st' => ∃ s : Unit, fr.keep [8, 10] = [(8, .int .i64 0), (10, .int .i64 0)] ∧ st.le st') (Post [.slot 4] fun r s => r = .bool true ∧ st.le s)))) fr s' := by
    intro s' ls' fr hP e
    rw [C.catnaplaw8_ResetPlays_c2_w, awp_keep, e]
    simp only [↓Bp, Bq, Bs, ↓aop.eq_28, ↓aop.eq_30, Nat.reduceEqDiff, Nat.reduceAdd, Nat.reduceMul, Nat.reduceSub, Nat.reduceLeDiff, Nat.reduceLT, Int.reduceLT, Int.reduceLE, Int.reduceEq, Int.reduceToNat, Int.reduceAdd, Int.reduceSub, Int.reduceNeg, ↓reduceIte, reduceCtorEq, ↓C.catnaplaw8_ResetPlays_W, C.catnaplaw8_ResetPlays_B, C.catnaplaw8_ResetPlays, hw]
    exact ⟨t + 1, rfl, ⟨htl, _, hP⟩, by omega⟩
  by_cases ho0 : o = 0
  · have eT : ((o : Int) = 0) = True := eq_true (by omega)
    simp only [↓Bp, Bq, Bs, ↓aop.eq_28, ↓aop.eq_30, Nat.reduceEqDiff, Nat.reduceAdd, Nat.reduceMul, Nat.reduceSub, Nat.reduceLeDiff, Nat.reduceLT, Int.reduceLT, Int.reduceLE, Int.reduceEq, Int.reduceToNat, Int.reduceAdd, Int.reduceSub, Int.reduceNeg, ↓reduceIte, reduceCtorEq, ↓C.catnaplaw8_ResetPlays_W, C.catnaplaw8_ResetPlays_B, C.catnaplaw8_ResetPlays, eT]
    refine (assert_spec h.r.ln k).mono ?_
    rintro r s' ⟨rfl, rfl⟩
    simp only [↓Bp, Bq, Bs, ↓aop.eq_28, ↓aop.eq_30, Nat.reduceEqDiff, Nat.reduceAdd, Nat.reduceMul, Nat.reduceSub, Nat.reduceLeDiff, Nat.reduceLT, Int.reduceLT, Int.reduceLE, Int.reduceEq, Int.reduceToNat, Int.reduceAdd, Int.reduceSub, Int.reduceNeg, ↓reduceIte, reduceCtorEq, ↓C.catnaplaw8_ResetPlays_W, C.catnaplaw8_ResetPlays_B, C.catnaplaw8_ResetPlays]
    refine (refAssert_spec h.ref k).mono ?_
    rintro r s2 ⟨rfl, hf, hk⟩
    have h2 := h.move hf hk (LOk.assert h.ok k) (assertL_len _ _)
    simp only [↓Bp, Bq, Bs, ↓aop.eq_28, ↓aop.eq_30, Nat.reduceEqDiff, Nat.reduceAdd, Nat.reduceMul, Nat.reduceSub, Nat.reduceLeDiff, Nat.reduceLT, Int.reduceLT, Int.reduceLE, Int.reduceEq, Int.reduceToNat, Int.reduceAdd, Int.reduceSub, Int.reduceNeg, ↓reduceIte, reduceCtorEq, ↓C.catnaplaw8_ResetPlays_r25_w, C.catnaplaw8_ResetPlays_r25_b, ↓C.catnaplaw8_ResetPlays_c1_w, ↓C.catnaplaw8_ResetPlays_r9_w, C.catnaplaw8_ResetPlays_r9_b, ↓C.catnaplaw8_ResetPlays_c2_w, ↓C.catnaplaw8_ResetPlays_r15_w, C.catnaplaw8_ResetPlays_r15_b, ↓C.catnaplaw8_ResetPlays_r17_w, C.catnaplaw8_ResetPlays_r17_b, ↓C.catnaplaw8_ResetPlays_r13_w, C.catnaplaw8_ResetPlays_r13_b, ↓C.catnaplaw8_ResetPlays_c16_w, ↓C.catnaplaw8_ResetPlays_c17_w, ↓C.catnaplaw8_ResetPlays_c18_w, ↓C.catnaplaw8_ResetPlays_r16_w, C.catnaplaw8_ResetPlays_r16_b, ↓C.catnaplaw8_ResetPlays_c19_w, ↓C.catnaplaw8_ResetPlays_c20_w, ↓C.catnaplaw8_ResetPlays_c21_w, ↓C.catnaplaw8_ResetPlays_r14_w, C.catnaplaw8_ResetPlays_r14_b, ↓C.catnaplaw8_ResetPlays_b22_w, ↓C.catnaplaw8_ResetPlays_c23_w, ↓C.catnaplaw8_ResetPlays_r12_w, C.catnaplaw8_ResetPlays_r12_b, ↓C.catnaplaw8_ResetPlays_c24_w, ↓C.catnaplaw8_ResetPlays_r11_w, C.catnaplaw8_ResetPlays_r11_b, ↓C.catnaplaw8_ResetPlays_c25_w, ↓C.catnaplaw8_ResetPlays_r10_w, C.catnaplaw8_ResetPlays_r10_b, ↓C.catnaplaw8_ResetPlays_b26_w, ↓C.catnaplaw8_ResetPlays_c27_w, ↓C.catnaplaw8_ResetPlays_c28_w, ↓C.catnaplaw8_ResetPlays_r8_w, C.catnaplaw8_ResetPlays_r8_b, ↓C.catnaplaw8_ResetPlays_b30_w, ↓C.catnaplaw8_ResetPlays_c31_w, ↓C.catnaplaw8_ResetPlays_r7_w, C.catnaplaw8_ResetPlays_r7_b, ↓C.catnaplaw8_ResetPlays_c32_w, ↓C.catnaplaw8_ResetPlays_r6_w, C.catnaplaw8_ResetPlays_r6_b, ↓C.catnaplaw8_ResetPlays_c33_w, ↓C.catnaplaw8_ResetPlays_c34_w, ↓C.catnaplaw8_ResetPlays_r5_w, C.catnaplaw8_ResetPlays_r5_b, ↓C.catnaplaw8_ResetPlays_c35_w, ↓C.catnaplaw8_ResetPlays_r4_w, C.catnaplaw8_ResetPlays_r4_b, ↓C.catnaplaw8_ResetPlays_c36_w, ↓C.catnaplaw8_ResetPlays_r3_w, C.catnaplaw8_ResetPlays_r3_b, ↓C.catnaplaw8_ResetPlays_c37_w, ↓C.catnaplaw8_ResetPlays_r2_w, C.catnaplaw8_ResetPlays_r2_b, ↓C.catnaplaw8_ResetPlays_c38_w, ↓C.catnaplaw8_ResetPlays_r1_w, C.catnaplaw8_ResetPlays_r1_b, ↓C.catnaplaw8_ResetPlays_c39_w, ↓C.catnaplaw8_ResetPlays_r0_w, C.catnaplaw8_ResetPlays_r0_b, C.catnaplaw8_ResetPlays]
    rw [C.catnaplaw8_ResetPlays_c15_w, awp_keep]
    exact back s2 _ h2 fun fr e => fin s2 _ fr h2 e
  by_cases ho1 : o = 1
  · have eT : ((o : Int) = 0) = False := eq_false (by omega)
    have eT1 : ((o : Int) = 1) = True := eq_true (by omega)
    simp only [↓Bp, Bq, Bs, ↓aop.eq_28, ↓aop.eq_30, Nat.reduceEqDiff, Nat.reduceAdd, Nat.reduceMul, Nat.reduceSub, Nat.reduceLeDiff, Nat.reduceLT, Int.reduceLT, Int.reduceLE, Int.reduceEq, Int.reduceToNat, Int.reduceAdd, Int.reduceSub, Int.reduceNeg, ↓reduceIte, reduceCtorEq, ↓C.catnaplaw8_ResetPlays_W, C.catnaplaw8_ResetPlays_B, C.catnaplaw8_ResetPlays, eT, eT1]
    refine (release_spec h.r.ln k).mono ?_
    rintro r s' ⟨rfl, rfl⟩
    simp only [↓Bp, Bq, Bs, ↓aop.eq_28, ↓aop.eq_30, Nat.reduceEqDiff, Nat.reduceAdd, Nat.reduceMul, Nat.reduceSub, Nat.reduceLeDiff, Nat.reduceLT, Int.reduceLT, Int.reduceLE, Int.reduceEq, Int.reduceToNat, Int.reduceAdd, Int.reduceSub, Int.reduceNeg, ↓reduceIte, reduceCtorEq, ↓C.catnaplaw8_ResetPlays_W, C.catnaplaw8_ResetPlays_B, C.catnaplaw8_ResetPlays]
    refine (refRelease_spec h.ref k).mono ?_
    rintro r s2 ⟨rfl, hf, hk⟩
    have h2 := h.move hf hk (LOk.release h.ok k) (releaseL_len _ _)
    simp only [↓Bp, Bq, Bs, ↓aop.eq_28, ↓aop.eq_30, Nat.reduceEqDiff, Nat.reduceAdd, Nat.reduceMul, Nat.reduceSub, Nat.reduceLeDiff, Nat.reduceLT, Int.reduceLT, Int.reduceLE, Int.reduceEq, Int.reduceToNat, Int.reduceAdd, Int.reduceSub, Int.reduceNeg, ↓reduceIte, reduceCtorEq, ↓C.catnaplaw8_ResetPlays_r25_w, C.catnaplaw8_ResetPlays_r25_b, ↓C.catnaplaw8_ResetPlays_c1_w, ↓C.catnaplaw8_ResetPlays_r9_w, C.catnaplaw8_ResetPlays_r9_b, ↓C.catnaplaw8_ResetPlays_c2_w, ↓C.catnaplaw8_ResetPlays_r15_w, C.catnaplaw8_ResetPlays_r15_b, ↓C.catnaplaw8_ResetPlays_r17_w, C.catnaplaw8_ResetPlays_r17_b, ↓C.catnaplaw8_ResetPlays_r13_w, C.catnaplaw8_ResetPlays_r13_b, ↓C.catnaplaw8_ResetPlays_c16_w, ↓C.catnaplaw8_ResetPlays_c17_w, ↓C.catnaplaw8_ResetPlays_c18_w, ↓C.catnaplaw8_ResetPlays_r16_w, C.catnaplaw8_ResetPlays_r16_b, ↓C.catnaplaw8_ResetPlays_c19_w, ↓C.catnaplaw8_ResetPlays_c20_w, ↓C.catnaplaw8_ResetPlays_c21_w, ↓C.catnaplaw8_ResetPlays_r14_w, C.catnaplaw8_ResetPlays_r14_b, ↓C.catnaplaw8_ResetPlays_b22_w, ↓C.catnaplaw8_ResetPlays_c23_w, ↓C.catnaplaw8_ResetPlays_r12_w, C.catnaplaw8_ResetPlays_r12_b, ↓C.catnaplaw8_ResetPlays_c24_w, ↓C.catnaplaw8_ResetPlays_r11_w, C.catnaplaw8_ResetPlays_r11_b, ↓C.catnaplaw8_ResetPlays_c25_w, ↓C.catnaplaw8_ResetPlays_r10_w, C.catnaplaw8_ResetPlays_r10_b, ↓C.catnaplaw8_ResetPlays_b26_w, ↓C.catnaplaw8_ResetPlays_c27_w, ↓C.catnaplaw8_ResetPlays_c28_w, ↓C.catnaplaw8_ResetPlays_r8_w, C.catnaplaw8_ResetPlays_r8_b, ↓C.catnaplaw8_ResetPlays_b30_w, ↓C.catnaplaw8_ResetPlays_c31_w, ↓C.catnaplaw8_ResetPlays_r7_w, C.catnaplaw8_ResetPlays_r7_b, ↓C.catnaplaw8_ResetPlays_c32_w, ↓C.catnaplaw8_ResetPlays_r6_w, C.catnaplaw8_ResetPlays_r6_b, ↓C.catnaplaw8_ResetPlays_c33_w, ↓C.catnaplaw8_ResetPlays_c34_w, ↓C.catnaplaw8_ResetPlays_r5_w, C.catnaplaw8_ResetPlays_r5_b, ↓C.catnaplaw8_ResetPlays_c35_w, ↓C.catnaplaw8_ResetPlays_r4_w, C.catnaplaw8_ResetPlays_r4_b, ↓C.catnaplaw8_ResetPlays_c36_w, ↓C.catnaplaw8_ResetPlays_r3_w, C.catnaplaw8_ResetPlays_r3_b, ↓C.catnaplaw8_ResetPlays_c37_w, ↓C.catnaplaw8_ResetPlays_r2_w, C.catnaplaw8_ResetPlays_r2_b, ↓C.catnaplaw8_ResetPlays_c38_w, ↓C.catnaplaw8_ResetPlays_r1_w, C.catnaplaw8_ResetPlays_r1_b, ↓C.catnaplaw8_ResetPlays_c39_w, ↓C.catnaplaw8_ResetPlays_r0_w, C.catnaplaw8_ResetPlays_r0_b, C.catnaplaw8_ResetPlays]
    rw [C.catnaplaw8_ResetPlays_c15_w, awp_keep]
    exact back s2 _ h2 fun fr e => fin s2 _ fr h2 e
  have eT : ((o : Int) = 0) = False := eq_false (by omega)
  have eT1 : ((o : Int) = 1) = False := eq_false (by omega)
  simp only [↓Bp, Bq, Bs, ↓aop.eq_28, ↓aop.eq_30, Nat.reduceEqDiff, Nat.reduceAdd, Nat.reduceMul, Nat.reduceSub, Nat.reduceLeDiff, Nat.reduceLT, Int.reduceLT, Int.reduceLE, Int.reduceEq, Int.reduceToNat, Int.reduceAdd, Int.reduceSub, Int.reduceNeg, ↓reduceIte, reduceCtorEq, ↓C.catnaplaw8_ResetPlays_W, C.catnaplaw8_ResetPlays_B, C.catnaplaw8_ResetPlays, eT, eT1]
  refine (tick_spec h.r.ln (fun x hx => by have := (h.ok x hx).1; omega) (by omega)).mono ?_
  rintro r s' ⟨rfl, rfl⟩
  simp only [↓Bp, Bq, Bs, ↓aop.eq_28, ↓aop.eq_30, Nat.reduceEqDiff, Nat.reduceAdd, Nat.reduceMul, Nat.reduceSub, Nat.reduceLeDiff, Nat.reduceLT, Int.reduceLT, Int.reduceLE, Int.reduceEq, Int.reduceToNat, Int.reduceAdd, Int.reduceSub, Int.reduceNeg, ↓reduceIte, reduceCtorEq, ↓C.catnaplaw8_ResetPlays_W, C.catnaplaw8_ResetPlays_B, C.catnaplaw8_ResetPlays]
  refine (refTick_spec h.ref (by omega) (fun x hx => by have := (h.ok x hx).1; omega)).mono ?_
  rintro r s2 ⟨rfl, hf, hk⟩
  have h2 := h.move hf hk (LOk.tick h.ok) (tickL_len _)
  simp only [↓Bp, Bq, Bs, ↓aop.eq_28, ↓aop.eq_30, Nat.reduceEqDiff, Nat.reduceAdd, Nat.reduceMul, Nat.reduceSub, Nat.reduceLeDiff, Nat.reduceLT, Int.reduceLT, Int.reduceLE, Int.reduceEq, Int.reduceToNat, Int.reduceAdd, Int.reduceSub, Int.reduceNeg, ↓reduceIte, reduceCtorEq, ↓C.catnaplaw8_ResetPlays_W, C.catnaplaw8_ResetPlays_B, C.catnaplaw8_ResetPlays]
  refine (same_view (view_row _) (view_row _) (by rw [nats_length]; have := toldTo_len ls ls.length; simp only [toldL]; omega)).mono ?_
  rintro r s3 ⟨rfl, rfl⟩
  rw [decide_eq_true rfl]
  simp only [↓Bp, Bq, Bs, ↓aop.eq_28, ↓aop.eq_30, Nat.reduceEqDiff, Nat.reduceAdd, Nat.reduceMul, Nat.reduceSub, Nat.reduceLeDiff, Nat.reduceLT, Int.reduceLT, Int.reduceLE, Int.reduceEq, Int.reduceToNat, Int.reduceAdd, Int.reduceSub, Int.reduceNeg, ↓reduceIte, reduceCtorEq, ↓C.catnaplaw8_ResetPlays_r25_w, C.catnaplaw8_ResetPlays_r25_b, ↓C.catnaplaw8_ResetPlays_c1_w, ↓C.catnaplaw8_ResetPlays_r9_w, C.catnaplaw8_ResetPlays_r9_b, ↓C.catnaplaw8_ResetPlays_c2_w, ↓C.catnaplaw8_ResetPlays_r15_w, C.catnaplaw8_ResetPlays_r15_b, ↓C.catnaplaw8_ResetPlays_r17_w, C.catnaplaw8_ResetPlays_r17_b, ↓C.catnaplaw8_ResetPlays_r13_w, C.catnaplaw8_ResetPlays_r13_b, ↓C.catnaplaw8_ResetPlays_c16_w, ↓C.catnaplaw8_ResetPlays_c17_w, ↓C.catnaplaw8_ResetPlays_c18_w, ↓C.catnaplaw8_ResetPlays_r16_w, C.catnaplaw8_ResetPlays_r16_b, ↓C.catnaplaw8_ResetPlays_c19_w, ↓C.catnaplaw8_ResetPlays_c20_w, ↓C.catnaplaw8_ResetPlays_c21_w, ↓C.catnaplaw8_ResetPlays_r14_w, C.catnaplaw8_ResetPlays_r14_b, ↓C.catnaplaw8_ResetPlays_b22_w, ↓C.catnaplaw8_ResetPlays_c23_w, ↓C.catnaplaw8_ResetPlays_r12_w, C.catnaplaw8_ResetPlays_r12_b, ↓C.catnaplaw8_ResetPlays_c24_w, ↓C.catnaplaw8_ResetPlays_r11_w, C.catnaplaw8_ResetPlays_r11_b, ↓C.catnaplaw8_ResetPlays_c25_w, ↓C.catnaplaw8_ResetPlays_r10_w, C.catnaplaw8_ResetPlays_r10_b, ↓C.catnaplaw8_ResetPlays_b26_w, ↓C.catnaplaw8_ResetPlays_c27_w, ↓C.catnaplaw8_ResetPlays_c28_w, ↓C.catnaplaw8_ResetPlays_r8_w, C.catnaplaw8_ResetPlays_r8_b, ↓C.catnaplaw8_ResetPlays_b30_w, ↓C.catnaplaw8_ResetPlays_c31_w, ↓C.catnaplaw8_ResetPlays_r7_w, C.catnaplaw8_ResetPlays_r7_b, ↓C.catnaplaw8_ResetPlays_c32_w, ↓C.catnaplaw8_ResetPlays_r6_w, C.catnaplaw8_ResetPlays_r6_b, ↓C.catnaplaw8_ResetPlays_c33_w, ↓C.catnaplaw8_ResetPlays_c34_w, ↓C.catnaplaw8_ResetPlays_r5_w, C.catnaplaw8_ResetPlays_r5_b, ↓C.catnaplaw8_ResetPlays_c35_w, ↓C.catnaplaw8_ResetPlays_r4_w, C.catnaplaw8_ResetPlays_r4_b, ↓C.catnaplaw8_ResetPlays_c36_w, ↓C.catnaplaw8_ResetPlays_r3_w, C.catnaplaw8_ResetPlays_r3_b, ↓C.catnaplaw8_ResetPlays_c37_w, ↓C.catnaplaw8_ResetPlays_r2_w, C.catnaplaw8_ResetPlays_r2_b, ↓C.catnaplaw8_ResetPlays_c38_w, ↓C.catnaplaw8_ResetPlays_r1_w, C.catnaplaw8_ResetPlays_r1_b, ↓C.catnaplaw8_ResetPlays_c39_w, ↓C.catnaplaw8_ResetPlays_r0_w, C.catnaplaw8_ResetPlays_r0_b, C.catnaplaw8_ResetPlays]
  rw [C.catnaplaw8_ResetPlays_c15_w, awp_keep]
  exact back s3 _ h2 fun fr e => fin s3 _ fr h2 e
end
theorem resetplays_spec {st : ASt} {l : List Int} {acts : List Pair} (hl : ∀ x ∈ l, -9223372036854775808 ≤ x ∧ x ≤ 9223372036854775807) (hll : l.length ≤ 9223372036854775807)
    (hac : ∀ x ∈ acts, I64 x.a ∧ I64 x.b) (hal : acts.length ≤ 9223372036854775807) :
    ACalls Try.prog F.catnaplaw8_ResetPlays [row l, .isl 2 (acts.flatMap encPair) acts.length] st fun r s => r = .bool true ∧ s = st := by
  refine ACalls.gc (Q' := fun r s => r = .bool true ∧ st.le s) (calls_of_awp L.catnaplaw8_ResetPlays rfl ?_) (fun v s ⟨h, hl⟩ => ⟨st, hl, h, rfl⟩)
  simp only [↓Bp, Bq, Bs, ↓aop.eq_28, ↓aop.eq_30, Nat.reduceEqDiff, Nat.reduceAdd, Nat.reduceMul, Nat.reduceSub, Nat.reduceLeDiff, Nat.reduceLT, Int.reduceLT, Int.reduceLE, Int.reduceEq, Int.reduceToNat, Int.reduceAdd, Int.reduceSub, Int.reduceNeg, ↓reduceIte, reduceCtorEq, ↓C.catnaplaw8_ResetPlays_W, C.catnaplaw8_ResetPlays_B, C.catnaplaw8_ResetPlays]
  refine (shown_spec st).mono ?_
  rintro r s ⟨rfl, rfl⟩
  simp only [↓Bp, Bq, Bs, ↓aop.eq_28, ↓aop.eq_30, Nat.reduceEqDiff, Nat.reduceAdd, Nat.reduceMul, Nat.reduceSub, Nat.reduceLeDiff, Nat.reduceLT, Int.reduceLT, Int.reduceLE, Int.reduceEq, Int.reduceToNat, Int.reduceAdd, Int.reduceSub, Int.reduceNeg, ↓reduceIte, reduceCtorEq, ↓C.catnaplaw8_ResetPlays_W, C.catnaplaw8_ResetPlays_B, C.catnaplaw8_ResetPlays]
  refine (rchip_spec hl hll).mono ?_
  rintro r s ⟨rfl, rfl⟩
  have hR := rOf_len l
  have hR2 := rOf_ok l
  generalize rOf l = R at hR hR2
  have l4 : (rchip R).cells.length = 4 := rfl
  have e4 : AV.agg (List.take 4 (rchip R).cells) = .agg (rchip R).cells := rfl
  have f4 : allLeaf (rchip R).cells = true := rfl
  simp only [↓Bp, Bq, Bs, ↓aop.eq_28, ↓aop.eq_30, Nat.reduceEqDiff, Nat.reduceAdd, Nat.reduceMul, Nat.reduceSub, Nat.reduceLeDiff, Nat.reduceLT, Int.reduceLT, Int.reduceLE, Int.reduceEq, Int.reduceToNat, Int.reduceAdd, Int.reduceSub, Int.reduceNeg, ↓reduceIte, reduceCtorEq, ↓C.catnaplaw8_ResetPlays_r2_w, C.catnaplaw8_ResetPlays_r2_b, ↓C.catnaplaw8_ResetPlays_c38_w, ↓C.catnaplaw8_ResetPlays_r1_w, C.catnaplaw8_ResetPlays_r1_b, ↓C.catnaplaw8_ResetPlays_c39_w, ↓C.catnaplaw8_ResetPlays_r0_w, C.catnaplaw8_ResetPlays_r0_b, C.catnaplaw8_ResetPlays, l4, f4]
  rintro ib hib
  simp only [↓Bp, Bq, Bs, ↓aop.eq_28, ↓aop.eq_30, Nat.reduceEqDiff, Nat.reduceAdd, Nat.reduceMul, Nat.reduceSub, Nat.reduceLeDiff, Nat.reduceLT, Int.reduceLT, Int.reduceLE, Int.reduceEq, Int.reduceToNat, Int.reduceAdd, Int.reduceSub, Int.reduceNeg, ↓reduceIte, reduceCtorEq, ↓C.catnaplaw8_ResetPlays_r2_w, C.catnaplaw8_ResetPlays_r2_b, ↓C.catnaplaw8_ResetPlays_c38_w, ↓C.catnaplaw8_ResetPlays_r1_w, C.catnaplaw8_ResetPlays_r1_b, ↓C.catnaplaw8_ResetPlays_c39_w, ↓C.catnaplaw8_ResetPlays_r0_w, C.catnaplaw8_ResetPlays_r0_b, C.catnaplaw8_ResetPlays, hib, l4, f4]
  rw [ASt.new_set hib, show putN [AV.nils, AV.nils, AV.nils, AV.nils] 0 (rchip R).cells = (rchip R).cells from putN_all rfl]
  simp only [↓Bp, Bq, Bs, ↓aop.eq_28, ↓aop.eq_30, Nat.reduceEqDiff, Nat.reduceAdd, Nat.reduceMul, Nat.reduceSub, Nat.reduceLeDiff, Nat.reduceLT, Int.reduceLT, Int.reduceLE, Int.reduceEq, Int.reduceToNat, Int.reduceAdd, Int.reduceSub, Int.reduceNeg, ↓reduceIte, reduceCtorEq, ↓C.catnaplaw8_ResetPlays_W, C.catnaplaw8_ResetPlays_B, C.catnaplaw8_ResetPlays, hib, l4, e4]
  refine (start_spec hib hR hR2).mono ?_
  rintro r s1 ⟨p, m, rfl, h⟩
  have hb := h.hb
  simp only [↓Bp, Bq, Bs, ↓aop.eq_28, ↓aop.eq_30, Nat.reduceEqDiff, Nat.reduceAdd, Nat.reduceMul, Nat.reduceSub, Nat.reduceLeDiff, Nat.reduceLT, Int.reduceLT, Int.reduceLE, Int.reduceEq, Int.reduceToNat, Int.reduceAdd, Int.reduceSub, Int.reduceNeg, ↓reduceIte, reduceCtorEq, ↓C.catnaplaw8_ResetPlays_W, C.catnaplaw8_ResetPlays_B, C.catnaplaw8_ResetPlays, hb, l4, e4]
  refine (refNew_spec hR hR2).mono ?_
  rintro r s2 ⟨q, v0, v1, rfl, hf, hle⟩
  have h2 := h.step hle
  by_cases hac0 : acts.length ≤ 150
  rotate_left
  · have hz0 : (150 : Int) < (acts.length : Nat) := by omega
    simp only [↓Bp, Bq, Bs, ↓aop.eq_28, ↓aop.eq_30, Nat.reduceEqDiff, Nat.reduceAdd, Nat.reduceMul, Nat.reduceSub, Nat.reduceLeDiff, Nat.reduceLT, Int.reduceLT, Int.reduceLE, Int.reduceEq, Int.reduceToNat, Int.reduceAdd, Int.reduceSub, Int.reduceNeg, ↓reduceIte, reduceCtorEq, ↓C.catnaplaw8_ResetPlays_W, C.catnaplaw8_ResetPlays_B, C.catnaplaw8_ResetPlays, hz0]
    exact h2.le
  have hz0 : ¬ (150 : Int) < (acts.length : Nat) := by omega
  have hP : PSt s s1 s2 ib p m q v0 v1 R (freshL R) := ⟨h2, hf, by rw [hb]; simp, by rw [h.ln.hp]; simp, by rw [h.ln.hm]; simp, h.le, LOk.fresh hR2, freshL_len R⟩
  simp only [↓Bp, Bq, Bs, ↓aop.eq_28, ↓aop.eq_30, Nat.reduceEqDiff, Nat.reduceAdd, Nat.reduceMul, Nat.reduceSub, Nat.reduceLeDiff, Nat.reduceLT, Int.reduceLT, Int.reduceLE, Int.reduceEq, Int.reduceToNat, Int.reduceAdd, Int.reduceSub, Int.reduceNeg, ↓reduceIte, reduceCtorEq, ↓C.catnaplaw8_ResetPlays_r6_w, C.catnaplaw8_ResetPlays_r6_b, ↓C.catnaplaw8_ResetPlays_c33_w, ↓C.catnaplaw8_ResetPlays_c34_w, ↓C.catnaplaw8_ResetPlays_r5_w, C.catnaplaw8_ResetPlays_r5_b, ↓C.catnaplaw8_ResetPlays_c35_w, ↓C.catnaplaw8_ResetPlays_r4_w, C.catnaplaw8_ResetPlays_r4_b, ↓C.catnaplaw8_ResetPlays_c36_w, ↓C.catnaplaw8_ResetPlays_r3_w, C.catnaplaw8_ResetPlays_r3_b, ↓C.catnaplaw8_ResetPlays_c37_w, ↓C.catnaplaw8_ResetPlays_r2_w, C.catnaplaw8_ResetPlays_r2_b, ↓C.catnaplaw8_ResetPlays_c38_w, ↓C.catnaplaw8_ResetPlays_r1_w, C.catnaplaw8_ResetPlays_r1_b, ↓C.catnaplaw8_ResetPlays_c39_w, ↓C.catnaplaw8_ResetPlays_r0_w, C.catnaplaw8_ResetPlays_r0_b, C.catnaplaw8_ResetPlays, hz0]
  rw [C.catnaplaw8_ResetPlays_c32_w, awp_keep]
  exact plays_loop hR hac hac0 hP
end Go.Proofs.Ytkabdilikndhbaa.Cn
