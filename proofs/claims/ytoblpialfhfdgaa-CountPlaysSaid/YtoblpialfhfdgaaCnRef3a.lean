/- Graphs: the document's Check alone. -/
import Derived.Test.YtoblpialfhfdgaaCnGraph5a
set_option linter.unusedSimpArgs false
set_option linter.unusedVariables false
namespace Go.Proofs.Ytoblpialfhfdgaa.Cn
open Go Go.Proofs

def bools (l : List Bool) : List AV := l.map AV.bool
theorem bools_length (l : List Bool) : (bools l).length = l.length := by simp [bools]
theorem bools_get {l : List Bool} {i : Nat} (h : i < l.length) : (bools l)[i]? = some (.bool l[i]) := by simp [bools, h]
theorem bools_set (l : List Bool) (i : Nat) (v : Bool) : (bools l).set i (.bool v) = bools (l.set i v) := by simp [bools, List.map_set]
theorem zeros_bool (n : Nat) : zeros [.bool false] n = bools (List.replicate n false) := by
  induction n with
  | zero => rfl
  | succ n ih => rw [zeros, ih]; rfl

/-- A row of bools tells of which numbers something holds. -/
def Tells (l : List Bool) (n : Nat) (p : Nat → Prop) : Prop := l.length = n ∧ ∀ i (h : i < l.length), l[i] = true ↔ p i
theorem Tells.none (n : Nat) : Tells (List.replicate n false) n fun _ => False := ⟨by simp, fun i h => by simp⟩
theorem Tells.set {l : List Bool} {n : Nat} {p : Nat → Prop} (h : Tells l n p) (i : Nat) : Tells (l.set i true) n fun j => p j ∨ j = i := by
  refine ⟨by simp [h.1], fun j hj => ?_⟩
  have hj' : j < l.length := by simpa using hj
  by_cases e : j = i
  · subst e; simp
  · rw [List.getElem_set_ne (Ne.symm e), h.2 j hj']; simp [e]
theorem Tells.congr {l : List Bool} {n : Nat} {p q : Nat → Prop} (h : Tells l n p) (hq : ∀ i, i < n → (p i ↔ q i)) : Tells l n q := ⟨h.1, fun i hi => by rw [h.2 i hi, hq i (by rw [← h.1]; exact hi)]⟩

section
variable {st : ASt} {g : Gr}

/-- What the heap is while an order is made. -/
def RefI (st : ASt) (idd : Nat) (D : Nat → Prop) (n : Nat) (v : AV) (out : List Nat) (s : ASt) : Prop :=
  ∃ base db, st.le base ∧ base.h idd = some (.cells (bools db)) ∧ Over base s 1 v out.length (ints (nats out)) ∧ Tells db n D

theorem refOrder0_spec (hg : g.few) (hok : g.ok) (hn : g.length ≤ 100) : ACalls Try.prog F.q16 [.isl 1 (g.map row) g.length] st fun r st' => r = row (nats (ord g)) ∧ st' = st := by
  have hz0 : (0 : Int) ≤ (g.length : Nat) ∧ ((g.length : Nat) : Int) ≤ 4294967296 := by omega
  refine ACalls.ghost (Q' := fun r s => Over st s 1 r (ord g).length (ints (nats (ord g)))) (calls_of_awp L.q16 rfl ?_) (fun r s h => ⟨_, st, h.frz, by rw [row, nats_length], rfl⟩)
  simp only [↓Bp, Bq, Bs, ↓aop.eq_28, ↓aop.eq_30, Nat.reduceEqDiff, Nat.reduceAdd, Nat.reduceMul, Nat.reduceSub, Nat.reduceLeDiff, Nat.reduceLT, Int.reduceLT, Int.reduceLE, Int.reduceEq, Int.reduceToNat, Int.reduceAdd, Int.reduceSub, Int.reduceNeg, ↓reduceIte, reduceCtorEq, ↓C.q16_W, C.q16_B, C.q16, hz0, Int.toNat_natCast, zeros_bool]
  intro idd hidd
  have hstart : RefI st idd (fun w => w ∈ ([] : List Nat)) g.length .nils [] (st.new idd (.cells (bools (List.replicate g.length false)))) :=
    ⟨_, List.replicate g.length false, ASt.le.new _ _ _, ASt.new_self _ hidd, Over.nils (ASt.le.refl _) 1, (Tells.none _).congr fun i _ => by simp⟩
  try simp only [↓Bp, Bq, Bs, ↓aop.eq_28, ↓aop.eq_30, Nat.reduceEqDiff, Nat.reduceAdd, Nat.reduceMul, Nat.reduceSub, Nat.reduceLeDiff, Nat.reduceLT, Int.reduceLT, Int.reduceLE, Int.reduceEq, Int.reduceToNat, Int.reduceAdd, Int.reduceSub, Int.reduceNeg, ↓reduceIte, reduceCtorEq, ↓C.q16_W, C.q16_B, C.q16]
  refine awp_loopK (fun p : AV × List Nat × Bool => [(0, .isl 1 (g.map row) g.length), (3, p.1), (4, .sl 1 idd 0 g.length), (5, .bool p.2.2)]) (fun p s => RefI st idd (fun w => w ∈ p.2.1) g.length p.1 p.2.1 s ∧ Topo g p.2.1 ∧ ord g = ordGo g (g.length - p.2.1.length) p.2.1 ∧ (p.2.2 = false → next g p.2.1 = none)) (fun p => 2 * (g.length - p.2.1.length) + p.2.2.toNat) (.nils, [], true) rfl
    ⟨hstart, .nil, rfl, fun e => by cases e⟩ ?_
  rintro ⟨v3, out, more⟩ s ⟨hI, ht, hord, hmore⟩
  simp only at hI ht hord hmore ⊢
  have hol := ht.len
  cases more
  · have hord2 : ord g = out := by
      cases hf : g.length - out.length with
      | zero => rw [hord, hf]; rfl
      | succ f => rw [hord, hf, ordGo, hmore rfl]
    simp only [↓Bp, Bq, Bs, ↓aop.eq_28, ↓aop.eq_30, Nat.reduceEqDiff, Nat.reduceAdd, Nat.reduceMul, Nat.reduceSub, Nat.reduceLeDiff, Nat.reduceLT, Int.reduceLT, Int.reduceLE, Int.reduceEq, Int.reduceToNat, Int.reduceAdd, Int.reduceSub, Int.reduceNeg, ↓reduceIte, reduceCtorEq, ↓C.q16_W, C.q16_B, C.q16]
    obtain ⟨base, db, b1, b2, b3, b4⟩ := hI
    rw [hord2]
    exact b3.rebase (fun b hb hs => ⟨rfl, by
      cases hx : st.h b with
      | none => rfl
      | some o => rw [b1 _ _ hx] at hb; cases hb⟩) (b1.trans b3.2.1)
  simp only [↓Bp, Bq, Bs, ↓aop.eq_28, ↓aop.eq_30, Nat.reduceEqDiff, Nat.reduceAdd, Nat.reduceMul, Nat.reduceSub, Nat.reduceLeDiff, Nat.reduceLT, Int.reduceLT, Int.reduceLE, Int.reduceEq, Int.reduceToNat, Int.reduceAdd, Int.reduceSub, Int.reduceNeg, ↓reduceIte, reduceCtorEq, ↓C.q16_W, C.q16_B, C.q16]
  refine awp_loopK (fun p : AV × List Nat × Bool × Nat => [(0, .isl 1 (g.map row) g.length), (3, p.1), (4, .sl 1 idd 0 g.length), (5, .bool p.2.2.1), (6, .int .i64 p.2.2.2)]) (fun p s => RefI st idd (fun w => w ∈ p.2.1) g.length p.1 p.2.1 s ∧ p.2.2.2 ≤ g.length ∧
      ((p.2.2.1 = false ∧ p.2.1 = out ∧ ∀ j, j < p.2.2.2 → ready g out j = false) ∨ (p.2.2.1 = true ∧ ∃ v, next g out = some v ∧ p.2.1 = out ++ [v]))) (fun p => g.length - p.2.2.2 + (!p.2.2.1).toNat) (v3, out, false, 0) rfl
    ⟨hI, Nat.zero_le _, .inl ⟨rfl, rfl, fun j hj => absurd hj (Nat.not_lt_zero _)⟩⟩ ?_
  clear hI hstart
  rintro ⟨v3, out2, more, v⟩ s ⟨hI, hv, hcase⟩
  simp only at hI hv hcase ⊢
  rcases hcase with ⟨rfl, rfl, hnr⟩ | ⟨rfl, w, hnext, rfl⟩
  rotate_left
  · -- one was found
    have hfin : ∃ s' : AV × List Nat × Bool, [(0, AV.isl 1 (g.map row) g.length), (3, v3), (4, AV.sl 1 idd 0 g.length), (5, AV.bool true)] = [(0, AV.isl 1 (g.map row) g.length), (3, s'.1), (4, AV.sl 1 idd 0 g.length), (5, AV.bool s'.2.2)] ∧
        (RefI st idd (fun w => w ∈ s'.2.1) g.length s'.1 s'.2.1 s ∧ Topo g s'.2.1 ∧ ord g = ordGo g (g.length - s'.2.1.length) s'.2.1 ∧ (s'.2.2 = false → next g s'.2.1 = none)) ∧ 2 * (g.length - s'.2.1.length) + s'.2.2.toNat < 2 * (g.length - out.length) + 1 := by
      have ht2 : Topo g (out ++ [w]) := .snoc ht hnext
      have hl2 := ht2.len
      simp only [List.length_append, List.length_cons, List.length_nil] at hl2
      refine ⟨(v3, out ++ [w], true), rfl, ⟨hI, ht2, ?_, fun e => by cases e⟩, ?_⟩
      · obtain ⟨f, hf⟩ : ∃ f, g.length - out.length = f + 1 := ⟨g.length - out.length - 1, by omega⟩
        rw [hord, hf, ordGo, hnext]
        simp only [List.length_append, List.length_cons, List.length_nil]
        congr 1; omega
      · simp only [List.length_append, List.length_cons, List.length_nil, Bool.toNat_true]; omega
    by_cases hvl : (v : Int) < (g.length : Nat)
    · simp only [↓Bp, Bq, Bs, ↓aop.eq_28, ↓aop.eq_30, Nat.reduceEqDiff, Nat.reduceAdd, Nat.reduceMul, Nat.reduceSub, Nat.reduceLeDiff, Nat.reduceLT, Int.reduceLT, Int.reduceLE, Int.reduceEq, Int.reduceToNat, Int.reduceAdd, Int.reduceSub, Int.reduceNeg, ↓reduceIte, reduceCtorEq, ↓C.q16_W, C.q16_B, C.q16, hvl]
      exact hfin
    · simp only [↓Bp, Bq, Bs, ↓aop.eq_28, ↓aop.eq_30, Nat.reduceEqDiff, Nat.reduceAdd, Nat.reduceMul, Nat.reduceSub, Nat.reduceLeDiff, Nat.reduceLT, Int.reduceLT, Int.reduceLE, Int.reduceEq, Int.reduceToNat, Int.reduceAdd, Int.reduceSub, Int.reduceNeg, ↓reduceIte, reduceCtorEq, ↓C.q16_W, C.q16_B, C.q16, hvl]
      exact hfin
  by_cases hvl : v < g.length
  rotate_left
  · have hvl' : ¬ (v : Int) < (g.length : Nat) := by omega
    simp only [↓Bp, Bq, Bs, ↓aop.eq_28, ↓aop.eq_30, Nat.reduceEqDiff, Nat.reduceAdd, Nat.reduceMul, Nat.reduceSub, Nat.reduceLeDiff, Nat.reduceLT, Int.reduceLT, Int.reduceLE, Int.reduceEq, Int.reduceToNat, Int.reduceAdd, Int.reduceSub, Int.reduceNeg, ↓reduceIte, reduceCtorEq, ↓C.q16_W, C.q16_B, C.q16, hvl']
    refine ⟨(v3, out2, false), rfl, ⟨hI, ht, hord, fun _ => next_none.mpr fun j hj => hnr j (by omega)⟩, ?_⟩
    simp only [Bool.toNat_false, Bool.toNat_true]; omega
  have hvl' : (v : Int) < (g.length : Nat) := by omega
  have hzv : (0:Int) ≤ (v : Int) ∧ (v : Int) < (g.length : Nat) := by omega
  have hw := wsucc hvl hg.1
  obtain ⟨base, db, b1, b2, b3, b4⟩ := hI
  have hvd : v < db.length := by rw [b4.1]; exact hvl
  have hsd := b3.2.1 _ _ b2
  simp only [↓Bp, Bq, Bs, ↓aop.eq_28, ↓aop.eq_30, Nat.reduceEqDiff, Nat.reduceAdd, Nat.reduceMul, Nat.reduceSub, Nat.reduceLeDiff, Nat.reduceLT, Int.reduceLT, Int.reduceLE, Int.reduceEq, Int.reduceToNat, Int.reduceAdd, Int.reduceSub, Int.reduceNeg, ↓reduceIte, reduceCtorEq, ↓C.q16_W, C.q16_B, C.q16, hvl', hzv, Int.toNat_natCast, Nat.mul_one, hsd, bools_get hvd]
  refine awp_midB (fun b : Bool => [(0, .isl 1 (g.map row) g.length), (3, v3), (4, .sl 1 idd 0 g.length), (5, .bool false), (6, .int .i64 v), (7, .bool b)]) (fun b s' => s' = s ∧ (b = true ↔ ready g out2 v = true)) ?_ ?_
  · refine awp_loopK (fun p : Bool × Nat => [(0, .isl 1 (g.map row) g.length), (3, v3), (4, .sl 1 idd 0 g.length), (5, .bool false), (6, .int .i64 v), (7, .bool p.1), (8, .int .i64 p.2)]) (fun p s' => s' = s ∧ p.2 ≤ g[v].length ∧ (p.1 = true ↔ v ∉ out2 ∧ ∀ u : Nat, (u : Int) ∈ g[v].take p.2 → u ∈ out2)) (fun p => g[v].length - p.2) (!db[v], 0) rfl
      ⟨rfl, Nat.zero_le _, ?_⟩ ?_
    · have : db[v] = true ↔ v ∈ out2 := b4.2 v hvd
      simp only [List.take_zero, List.not_mem_nil, false_implies, implies_true, and_true]
      rw [← this]; simp
    rintro ⟨b, j⟩ s ⟨rfl, hj, hb⟩
    simp only at hj hb ⊢
    by_cases hjl : j < g[v].length
    · have hjl' : (j : Int) < (g[v].length : Nat) := by omega
      have hzj : (0:Int) ≤ (j : Int) ∧ (j : Int) < (g[v].length : Nat) := by omega
      have hwj := wsucc hjl (hg.2 _ (List.getElem_mem hvl))
      obtain ⟨hx1, hx2⟩ := hok _ (List.getElem_mem hvl) _ (List.getElem_mem hjl)
      obtain ⟨x, hx⟩ : ∃ x : Nat, g[v][j] = x := ⟨_, (Int.toNat_of_nonneg hx1).symm⟩
      have hzx : (0:Int) ≤ (x : Int) ∧ (x : Int) < (g.length : Nat) := by omega
      have hxd : x < db.length := by rw [b4.1]; omega
      have hdx := b4.2 x hxd
      have htake : ∀ u : Nat, (u : Int) ∈ g[v].take (j + 1) ↔ (u : Int) ∈ g[v].take j ∨ u = x := fun u => by
        rw [List.take_succ_eq_append_getElem hjl, List.mem_append, List.mem_singleton, hx]
        have : (u : Int) = (x : Int) ↔ u = x := by omega
        rw [this]
      cases b
      · simp only [↓Bp, Bq, Bs, ↓aop.eq_28, ↓aop.eq_30, Nat.reduceEqDiff, Nat.reduceAdd, Nat.reduceMul, Nat.reduceSub, Nat.reduceLeDiff, Nat.reduceLT, Int.reduceLT, Int.reduceLE, Int.reduceEq, Int.reduceToNat, Int.reduceAdd, Int.reduceSub, Int.reduceNeg, ↓reduceIte, reduceCtorEq, ↓C.q16_W, C.q16_B, C.q16, hzv, hjl', Int.toNat_natCast, Nat.mul_one, rowsG hvl, hwj]
        refine ⟨(false, j + 1), rfl, ⟨hjl, ?_⟩, by simp only; omega⟩
        simp only
        refine ⟨(fun e => by cases e), fun h => hb.mpr ⟨h.1, fun u hu => h.2 u ((htake u).mpr (.inl hu))⟩⟩
      · simp only [↓Bp, Bq, Bs, ↓aop.eq_28, ↓aop.eq_30, Nat.reduceEqDiff, Nat.reduceAdd, Nat.reduceMul, Nat.reduceSub, Nat.reduceLeDiff, Nat.reduceLT, Int.reduceLT, Int.reduceLE, Int.reduceEq, Int.reduceToNat, Int.reduceAdd, Int.reduceSub, Int.reduceNeg, ↓reduceIte, reduceCtorEq, ↓C.q16_W, C.q16_B, C.q16, hzv, hjl', hzj, Int.toNat_natCast, Nat.mul_one, rowsG hvl, ints_get hjl, hx, hzx, hsd, bools_get hxd, hwj]
        refine ⟨(db[x], j + 1), rfl, ⟨hjl, ?_⟩, by simp only; omega⟩
        simp only
        have hb2 := hb.mp rfl
        rw [hdx]
        constructor
        · intro h
          refine ⟨hb2.1, fun u hu => ?_⟩
          rcases (htake u).mp hu with h3 | rfl
          · exact hb2.2 u h3
          · exact h
        · exact fun h => h.2 x ((htake x).mpr (.inr rfl))
    · have hje : j = g[v].length := by omega
      subst hje
      have hjl' : ¬ ((g[v].length : Nat) : Int) < (g[v].length : Nat) := by omega
      simp only [↓Bp, Bq, Bs, ↓aop.eq_28, ↓aop.eq_30, Nat.reduceEqDiff, Nat.reduceAdd, Nat.reduceMul, Nat.reduceSub, Nat.reduceLeDiff, Nat.reduceLT, Int.reduceLT, Int.reduceLE, Int.reduceEq, Int.reduceToNat, Int.reduceAdd, Int.reduceSub, Int.reduceNeg, ↓reduceIte, reduceCtorEq, ↓C.q16_W, C.q16_B, C.q16, hzv, hjl', Int.toNat_natCast, Nat.mul_one, rowsG hvl]
      refine ⟨b, rfl, ?_⟩
      rw [List.take_length] at hb
      rw [hb, ready_iff]
      constructor
      · rintro ⟨h1, h2⟩
        exact ⟨h1, fun u hu => h2 u ((mem_deps hok hvl).mp hu)⟩
      · rintro ⟨h1, h2⟩
        exact ⟨h1, fun u hu => h2 u ((mem_deps hok hvl).mpr hu)⟩
  rintro b s' ⟨rfl, hb⟩
  cases b
  · have hnr2 : ready g out2 v = false := by
      cases hr : ready g out2 v with
      | false => rfl
      | true => have := hb.mpr hr; cases this
    simp only [↓Bp, Bq, Bs, ↓aop.eq_28, ↓aop.eq_30, Nat.reduceEqDiff, Nat.reduceAdd, Nat.reduceMul, Nat.reduceSub, Nat.reduceLeDiff, Nat.reduceLT, Int.reduceLT, Int.reduceLE, Int.reduceEq, Int.reduceToNat, Int.reduceAdd, Int.reduceSub, Int.reduceNeg, ↓reduceIte, reduceCtorEq, ↓C.q16_W, C.q16_B, C.q16, hw]
    refine ⟨(v3, out2, false, v + 1), rfl, ⟨⟨base, db, b1, b2, b3, b4⟩, hvl, .inl ⟨rfl, rfl, fun j hj => ?_⟩⟩, by simp only [Bool.not_false, Bool.toNat_true]; omega⟩
    by_cases e : j = v
    · subst e; exact hnr2
    · exact hnr j (by simp only at hj; omega)
  · have hnext : next g out2 = some v := next_some.mpr ⟨hb.mp rfl, hvl, hnr⟩
    have b3' : Over (base.set idd (.cells (bools (db.set v true)))) (s'.set idd (.cells (bools (db.set v true)))) 1 v3 out2.length (ints (nats out2)) := b3.rebase (keep_set (by rw [b2]; simp)) (b3.2.1.set _ _)
    simp only [↓Bp, Bq, Bs, Nat.reduceEqDiff, Nat.reduceAdd, Nat.reduceMul, Nat.reduceSub, Nat.reduceLeDiff, Nat.reduceLT, Int.reduceLT, Int.reduceLE, Int.reduceEq, Int.reduceToNat, Int.reduceAdd, Int.reduceSub, Int.reduceNeg, ↓reduceIte, reduceCtorEq, ↓C.q16_W, C.q16_B, C.q16, hzv, Int.toNat_natCast, Nat.mul_one, hsd, bools_length, hvd, bools_set]
    refine aop_append_over b3' (by omega) (new := [.int .i64 v]) rfl rfl rfl (fun _ => rfl) (fun _ => rfl) ?_
    intro v1 v2 s3 hO
    simp only [↓Bp, Bq, Bs, ↓aop.eq_28, ↓aop.eq_30, Nat.reduceEqDiff, Nat.reduceAdd, Nat.reduceMul, Nat.reduceSub, Nat.reduceLeDiff, Nat.reduceLT, Int.reduceLT, Int.reduceLE, Int.reduceEq, Int.reduceToNat, Int.reduceAdd, Int.reduceSub, Int.reduceNeg, ↓reduceIte, reduceCtorEq, ↓C.q16_W, C.q16_B, C.q16, hw]
    refine ⟨(v2, out2 ++ [v], true, v + 1), rfl, ⟨⟨_, db.set v true, ?_, by rw [ASt.set_h, if_pos rfl, b2]; rfl, ?_, (b4.set v).congr fun i _ => by simp⟩, hvl, .inr ⟨rfl, v, hnext, rfl⟩⟩, by simp only [Bool.not_true, Bool.not_false, Bool.toNat_true, Bool.toNat_false]; omega⟩
    · intro i o ho
      have : i ≠ idd := by rintro rfl; rw [hidd] at ho; cases ho
      rw [ASt.set_h, if_neg this]; exact b1 _ _ ho
    · simp only
      rw [nats_append, ints_append, List.length_append]; exact hO

theorem refCheck_spec (hg : g.few) : ACalls Try.prog F.q15 [.isl 1 (g.map row) g.length] st fun v st' => v = .int .i64 (grErr g) ∧ st' = st := by
  refine calls_of_awp L.q15 rfl ?_
  by_cases h1 : 100 < g.length
  · have h1' : (100 : Int) < (g.length : Nat) := by omega
    simp only [↓Bp, Bq, Bs, ↓aop.eq_28, ↓aop.eq_30, Nat.reduceEqDiff, Nat.reduceAdd, Nat.reduceMul, Nat.reduceSub, Nat.reduceLeDiff, Nat.reduceLT, Int.reduceLT, Int.reduceLE, Int.reduceEq, Int.reduceToNat, Int.reduceAdd, Int.reduceSub, Int.reduceNeg, ↓reduceIte, reduceCtorEq, ↓C.q15_W, C.q15_B, C.q15, h1', grErr, h1]
  have h1' : ¬ (100 : Int) < (g.length : Nat) := by omega
  simp only [↓Bp, Bq, Bs, ↓aop.eq_28, ↓aop.eq_30, Nat.reduceEqDiff, Nat.reduceAdd, Nat.reduceMul, Nat.reduceSub, Nat.reduceLeDiff, Nat.reduceLT, Int.reduceLT, Int.reduceLE, Int.reduceEq, Int.reduceToNat, Int.reduceAdd, Int.reduceSub, Int.reduceNeg, ↓reduceIte, reduceCtorEq, ↓C.q15_W, C.q15_B, C.q15, h1', grErr, h1]
  refine awp_loopK (fun k : Nat => [(0, .isl 1 (g.map row) g.length), (3, .int .i64 k)]) (fun k s => k ≤ g.length ∧ s = st ∧ ∀ i (hi : i < g.length), i < k → ∀ u ∈ g[i], 0 ≤ u ∧ u < g.length) (fun k => g.length - k) 0 rfl ⟨Nat.zero_le _, rfl, fun i _ h => by omega⟩ ?_
  rintro k s ⟨hk, rfl, hok⟩
  by_cases hlt : k < g.length
  · have hlt' : (k : Int) < (g.length : Nat) := by omega
    have hz : (0:Int) ≤ (k : Int) ∧ (k : Int) < (g.length : Nat) := by omega
    have hw := wsucc hlt hg.1
    simp only [↓Bp, Bq, Bs, ↓aop.eq_28, ↓aop.eq_30, Nat.reduceEqDiff, Nat.reduceAdd, Nat.reduceMul, Nat.reduceSub, Nat.reduceLeDiff, Nat.reduceLT, Int.reduceLT, Int.reduceLE, Int.reduceEq, Int.reduceToNat, Int.reduceAdd, Int.reduceSub, Int.reduceNeg, ↓reduceIte, reduceCtorEq, ↓C.q15_W, C.q15_B, C.q15, hlt']
    refine awp_loopK (fun j : Nat => [(0, .isl 1 (g.map row) g.length), (3, .int .i64 k), (4, .int .i64 j)]) (fun j s' => j ≤ g[k].length ∧ s' = s ∧ ∀ i (hi : i < g[k].length), i < j → 0 ≤ g[k][i] ∧ g[k][i] < g.length) (fun j => g[k].length - j) 0 rfl ⟨Nat.zero_le _, rfl, fun i _ h => by omega⟩ ?_
    rintro j s ⟨hj, rfl, hok2⟩
    by_cases hjl : j < g[k].length
    · have hjl' : (j : Int) < (g[k].length : Nat) := by omega
      have hzj : (0:Int) ≤ (j : Int) ∧ (j : Int) < (g[k].length : Nat) := by omega
      have hwj := wsucc hjl (hg.2 _ (List.getElem_mem hlt))
      have bad : (g[k][j] < 0 ∨ (g.length : Int) ≤ g[k][j]) → ¬ g.ok := fun h hx => by have := hx _ (List.getElem_mem hlt) _ (List.getElem_mem hjl); omega
      by_cases hn : g[k][j] < 0
      · simp only [↓Bp, Bq, Bs, ↓aop.eq_28, ↓aop.eq_30, Nat.reduceEqDiff, Nat.reduceAdd, Nat.reduceMul, Nat.reduceSub, Nat.reduceLeDiff, Nat.reduceLT, Int.reduceLT, Int.reduceLE, Int.reduceEq, Int.reduceToNat, Int.reduceAdd, Int.reduceSub, Int.reduceNeg, ↓reduceIte, reduceCtorEq, ↓C.q15_W, C.q15_B, C.q15, hz, rowsG hlt, hjl', hzj, Int.toNat_natCast, Nat.mul_one, ints_get hjl, hn, bad (.inl hn)]
      · by_cases hn2 : (g.length : Int) ≤ g[k][j]
        · simp only [↓Bp, Bq, Bs, ↓aop.eq_28, ↓aop.eq_30, Nat.reduceEqDiff, Nat.reduceAdd, Nat.reduceMul, Nat.reduceSub, Nat.reduceLeDiff, Nat.reduceLT, Int.reduceLT, Int.reduceLE, Int.reduceEq, Int.reduceToNat, Int.reduceAdd, Int.reduceSub, Int.reduceNeg, ↓reduceIte, reduceCtorEq, ↓C.q15_W, C.q15_B, C.q15, hz, rowsG hlt, hjl', hzj, Int.toNat_natCast, Nat.mul_one, ints_get hjl, hn, hn2, bad (.inr hn2)]
        · simp only [↓Bp, Bq, Bs, ↓aop.eq_28, ↓aop.eq_30, Nat.reduceEqDiff, Nat.reduceAdd, Nat.reduceMul, Nat.reduceSub, Nat.reduceLeDiff, Nat.reduceLT, Int.reduceLT, Int.reduceLE, Int.reduceEq, Int.reduceToNat, Int.reduceAdd, Int.reduceSub, Int.reduceNeg, ↓reduceIte, reduceCtorEq, ↓C.q15_W, C.q15_B, C.q15, hz, rowsG hlt, hjl', hzj, Int.toNat_natCast, Nat.mul_one, ints_get hjl, hn, hn2, hwj]
          refine ⟨j + 1, rfl, ⟨hjl, fun i hi hij => ?_⟩, by omega⟩
          by_cases e : i = j
          · subst e; omega
          · exact hok2 i hi (by omega)
    · have hjl' : ¬ (j : Int) < (g[k].length : Nat) := by omega
      simp only [↓Bp, Bq, Bs, ↓aop.eq_28, ↓aop.eq_30, Nat.reduceEqDiff, Nat.reduceAdd, Nat.reduceMul, Nat.reduceSub, Nat.reduceLeDiff, Nat.reduceLT, Int.reduceLT, Int.reduceLE, Int.reduceEq, Int.reduceToNat, Int.reduceAdd, Int.reduceSub, Int.reduceNeg, ↓reduceIte, reduceCtorEq, ↓C.q15_W, C.q15_B, C.q15, hz, rowsG hlt, Int.toNat_natCast, Nat.mul_one, hjl', hw]
      refine ⟨k + 1, rfl, ⟨hlt, fun i hi hik => ?_⟩, by omega⟩
      by_cases e : i = k
      · subst e
        intro u hu
        obtain ⟨m, hm, rfl⟩ := List.getElem_of_mem hu
        exact hok2 m hm (by omega)
      · exact hok i hi (by omega)
  · have hlt' : ¬ (k : Int) < (g.length : Nat) := by omega
    have hgok : g.ok := fun r hr u hu => by
      obtain ⟨i, hi, rfl⟩ := List.getElem_of_mem hr
      exact hok i hi (by omega) u hu
    simp only [↓Bp, Bq, Bs, ↓aop.eq_28, ↓aop.eq_30, Nat.reduceEqDiff, Nat.reduceAdd, Nat.reduceMul, Nat.reduceSub, Nat.reduceLeDiff, Nat.reduceLT, Int.reduceLT, Int.reduceLE, Int.reduceEq, Int.reduceToNat, Int.reduceAdd, Int.reduceSub, Int.reduceNeg, ↓reduceIte, reduceCtorEq, ↓C.q15_W, C.q15_B, C.q15, hlt', hgok]
    refine (refOrder0_spec hg hgok (by omega)).mono ?_
    rintro r s' ⟨rfl, rfl⟩
    by_cases hl : (ord g).length < g.length
    · have hl' : ((nats (ord g)).length : Int) < (g.length : Nat) := by rw [nats_length]; omega
      simp only [↓Bp, Bq, Bs, ↓aop.eq_28, ↓aop.eq_30, Nat.reduceEqDiff, Nat.reduceAdd, Nat.reduceMul, Nat.reduceSub, Nat.reduceLeDiff, Nat.reduceLT, Int.reduceLT, Int.reduceLE, Int.reduceEq, Int.reduceToNat, Int.reduceAdd, Int.reduceSub, Int.reduceNeg, ↓reduceIte, reduceCtorEq, ↓C.q15_W, C.q15_B, C.q15, row, hl', hl]
    · have hl' : ¬ ((nats (ord g)).length : Int) < (g.length : Nat) := by rw [nats_length]; omega
      simp only [↓Bp, Bq, Bs, ↓aop.eq_28, ↓aop.eq_30, Nat.reduceEqDiff, Nat.reduceAdd, Nat.reduceMul, Nat.reduceSub, Nat.reduceLeDiff, Nat.reduceLT, Int.reduceLT, Int.reduceLE, Int.reduceEq, Int.reduceToNat, Int.reduceAdd, Int.reduceSub, Int.reduceNeg, ↓reduceIte, reduceCtorEq, ↓C.q15_W, C.q15_B, C.q15, row, hl', hl]

end
end Go.Proofs.Ytoblpialfhfdgaa.Cn
