/- Graphs: Above alone. -/
import Derived.Test.YtoblpialfhfdgaaCnGraph5a
set_option linter.unusedSimpArgs false
set_option linter.unusedVariables false
namespace Go.Proofs.Ytoblpialfhfdgaa.Cn
open Go Go.Proofs

section
variable {st : ASt} {g : Gr}
theorem ordered_spec (hg : g.few) (v : Int) : ACalls Try.prog F.q89 [.isl 1 (g.map row) g.length, .int .i64 v] st fun r st' =>
    r = .tup [row (nats (if nodeErr g v = 0 then ord g else [])), .int .i64 (nodeErr g v)] ∧ st' = st := by
  refine ACalls.ghost (Q' := fun r st' => (nodeErr g v = 0 ∧ r = .tup [row (nats (ord g)), .int .i64 0] ∧ st' = st) ∨ (nodeErr g v ≠ 0 ∧ r = .tup [.nils, .int .i64 (nodeErr g v)] ∧ st' = st)) (calls_of_awp L.q89 rfl ?_) ?_
  · simp only [↓Bp, Bq, Bs, ↓aop.eq_28, ↓aop.eq_30, Nat.reduceEqDiff, Nat.reduceAdd, Nat.reduceMul, Nat.reduceSub, Nat.reduceLeDiff, Nat.reduceLT, Int.reduceLT, Int.reduceLE, Int.reduceEq, Int.reduceToNat, Int.reduceAdd, Int.reduceSub, Int.reduceNeg, ↓reduceIte, reduceCtorEq, ↓C.q89_W, C.q89_B, C.q89]
    refine (order_spec hg).mono ?_
    rintro r st' ⟨rfl, rfl⟩
    by_cases h0 : grErr g = 0
    · by_cases h1 : v < 0
      · have e : nodeErr g v = 4 := by simp [nodeErr, h0, h1]
        simp only [↓Bp, Bq, Bs, ↓aop.eq_28, ↓aop.eq_30, Nat.reduceEqDiff, Nat.reduceAdd, Nat.reduceMul, Nat.reduceSub, Nat.reduceLeDiff, Nat.reduceLT, Int.reduceLT, Int.reduceLE, Int.reduceEq, Int.reduceToNat, Int.reduceAdd, Int.reduceSub, Int.reduceNeg, ↓reduceIte, reduceCtorEq, ↓C.q89_W, C.q89_B, C.q89, h0, h1, e]
        exact .inr (by decide)
      · by_cases h2 : (g.length : Int) ≤ v
        · have e : nodeErr g v = 4 := by simp [nodeErr, h0, h2]
          simp only [↓Bp, Bq, Bs, ↓aop.eq_28, ↓aop.eq_30, Nat.reduceEqDiff, Nat.reduceAdd, Nat.reduceMul, Nat.reduceSub, Nat.reduceLeDiff, Nat.reduceLT, Int.reduceLT, Int.reduceLE, Int.reduceEq, Int.reduceToNat, Int.reduceAdd, Int.reduceSub, Int.reduceNeg, ↓reduceIte, reduceCtorEq, ↓C.q89_W, C.q89_B, C.q89, h0, h1, h2, e]
          exact .inr (by decide)
        · have e : nodeErr g v = 0 := by simp [nodeErr, h0, h1, h2]
          simp only [↓Bp, Bq, Bs, ↓aop.eq_28, ↓aop.eq_30, Nat.reduceEqDiff, Nat.reduceAdd, Nat.reduceMul, Nat.reduceSub, Nat.reduceLeDiff, Nat.reduceLT, Int.reduceLT, Int.reduceLE, Int.reduceEq, Int.reduceToNat, Int.reduceAdd, Int.reduceSub, Int.reduceNeg, ↓reduceIte, reduceCtorEq, ↓C.q89_W, C.q89_B, C.q89, h0, h1, h2, e, ordL]
          exact .inl trivial
    · have e : nodeErr g v = grErr g := by simp [nodeErr, h0]
      simp only [↓Bp, Bq, Bs, ↓aop.eq_28, ↓aop.eq_30, Nat.reduceEqDiff, Nat.reduceAdd, Nat.reduceMul, Nat.reduceSub, Nat.reduceLeDiff, Nat.reduceLT, Int.reduceLT, Int.reduceLE, Int.reduceEq, Int.reduceToNat, Int.reduceAdd, Int.reduceSub, Int.reduceNeg, ↓reduceIte, reduceCtorEq, ↓C.q89_W, C.q89_B, C.q89, h0, e]
      exact .inr h0
  · rintro r st' (⟨h1, rfl, rfl⟩ | ⟨h1, rfl, rfl⟩)
    · exact ⟨_, _, Ghost.refl _ _, by rw [h1]; rfl, rfl⟩
    · exact ⟨_, _, Ghost.tupL (Ghost.nils 1) _, by rw [if_neg h1]; rfl, rfl⟩

/-- Those of a row that are met, but for one. -/
def pickL (l : List Nat) (ks : List Int) (v : Int) : List Nat := l.filter fun u => decide ((u : Int) ≠ v ∧ (u : Int) ∈ ks)

theorem others_spec {l : List Nat} (hl : l.length ≤ 100) {m : Nat} {ks : List Int} (hm : st.h m = some (.map (kmap ks))) (v : Int) : ACalls Try.prog F.q90 [row (nats l), .map m, .int .i64 v] st fun r st' =>
    Over st st' 1 r (pickL l ks v).length (ints (nats (pickL l ks v))) := by
  refine calls_of_awp L.q90 rfl ?_
  simp only [↓Bp, Bq, Bs, ↓aop.eq_28, ↓aop.eq_30, Nat.reduceEqDiff, Nat.reduceAdd, Nat.reduceMul, Nat.reduceSub, Nat.reduceLeDiff, Nat.reduceLT, Int.reduceLT, Int.reduceLE, Int.reduceEq, Int.reduceToNat, Int.reduceAdd, Int.reduceSub, Int.reduceNeg, ↓reduceIte, reduceCtorEq, ↓C.q90_W, C.q90_B, C.q90, row]
  refine awp_loopK (fun p : Nat × AV => [(1, .map m), (2, .int .i64 v), (7, p.2), (10, .isl 1 (ints (nats l)) (nats l).length), (11, .int .i64 (nats l).length), (12, .int .i64 p.1)]) (fun p s => p.1 ≤ l.length ∧ Over st s 1 p.2 (pickL (l.take p.1) ks v).length (ints (nats (pickL (l.take p.1) ks v)))) (fun p => l.length - p.1) (0, .nils) rfl
    ⟨Nat.zero_le _, by simpa [pickL, nats, ints] using Over.nils (ASt.le.refl st) 1⟩ ?_
  rintro ⟨k, x⟩ s ⟨hk, hO⟩
  simp only at hk hO ⊢
  by_cases hlt : k < l.length
  · have hlt' : (k : Int) < ((nats l).length : Nat) := by rw [nats_length]; omega
    have hz : (0:Int) ≤ (k : Int) ∧ (k : Int) < ((nats l).length : Nat) := by omega
    have hw := wsucc hlt (by omega)
    have hpick : pickL (l.take (k + 1)) ks v = pickL (l.take k) ks v ++ if (l[k] : Int) ≠ v ∧ (l[k] : Int) ∈ ks then [l[k]] else [] := by
      rw [pickL, List.take_succ_eq_append_getElem hlt, List.filter_append]
      congr 1
      by_cases h : (l[k] : Int) ≠ v ∧ (l[k] : Int) ∈ ks
      · rw [if_pos h]; simp [h]
      · rw [if_neg h]; simp [h]
    have hpl : (pickL (l.take k) ks v).length ≤ 100 := Nat.le_trans (List.length_filter_le _ _) (by simp; omega)
    have hsm := hO.2.1 _ _ hm
    by_cases hv : (l[k] : Int) = v
    · simp only [↓Bp, Bq, Bs, ↓aop.eq_28, ↓aop.eq_30, Nat.reduceEqDiff, Nat.reduceAdd, Nat.reduceMul, Nat.reduceSub, Nat.reduceLeDiff, Nat.reduceLT, Int.reduceLT, Int.reduceLE, Int.reduceEq, Int.reduceToNat, Int.reduceAdd, Int.reduceSub, Int.reduceNeg, ↓reduceIte, reduceCtorEq, ↓C.q90_W, C.q90_B, C.q90, hlt', hz, Int.toNat_natCast, Nat.mul_one, ints_nats_get hlt, hv, hw]
      refine ⟨(k + 1, x), rfl, ⟨hlt, ?_⟩, by simp only; omega⟩
      simp only
      rw [hpick, if_neg (fun h => h.1 hv), List.append_nil]
      exact hO
    · simp only [↓Bp, Bq, Bs, ↓aop.eq_28, ↓aop.eq_30, Nat.reduceEqDiff, Nat.reduceAdd, Nat.reduceMul, Nat.reduceSub, Nat.reduceLeDiff, Nat.reduceLT, Int.reduceLT, Int.reduceLE, Int.reduceEq, Int.reduceToNat, Int.reduceAdd, Int.reduceSub, Int.reduceNeg, ↓reduceIte, reduceCtorEq, ↓C.q90_W, C.q90_B, C.q90, hlt', hz, Int.toNat_natCast, Nat.mul_one, ints_nats_get hlt, hv]
      refine (has_spec hsm _).mono ?_
      rintro r s' ⟨rfl, rfl⟩
      by_cases hin : (l[k] : Int) ∈ ks
      · simp only [↓Bp, Bq, Bs, Nat.reduceEqDiff, Nat.reduceAdd, Nat.reduceMul, Nat.reduceSub, Nat.reduceLeDiff, Nat.reduceLT, Int.reduceLT, Int.reduceLE, Int.reduceEq, Int.reduceToNat, Int.reduceAdd, Int.reduceSub, Int.reduceNeg, ↓reduceIte, reduceCtorEq, ↓C.q90_W, C.q90_B, C.q90, hin]
        refine aop_append_over hO (by omega) (new := [.int .i64 l[k]]) rfl rfl rfl (fun _ => rfl) (fun _ => rfl) ?_
        intro v1 v2 s2 hO2
        simp only [↓Bp, Bq, Bs, ↓aop.eq_28, ↓aop.eq_30, Nat.reduceEqDiff, Nat.reduceAdd, Nat.reduceMul, Nat.reduceSub, Nat.reduceLeDiff, Nat.reduceLT, Int.reduceLT, Int.reduceLE, Int.reduceEq, Int.reduceToNat, Int.reduceAdd, Int.reduceSub, Int.reduceNeg, ↓reduceIte, reduceCtorEq, ↓C.q90_W, C.q90_B, C.q90, hw]
        refine ⟨(k + 1, v2), rfl, ⟨hlt, ?_⟩, by simp only; omega⟩
        simp only
        rw [hpick, if_pos ⟨hv, hin⟩, nats_append, ints_append, List.length_append]
        exact hO2
      · simp only [↓Bp, Bq, Bs, ↓aop.eq_28, ↓aop.eq_30, Nat.reduceEqDiff, Nat.reduceAdd, Nat.reduceMul, Nat.reduceSub, Nat.reduceLeDiff, Nat.reduceLT, Int.reduceLT, Int.reduceLE, Int.reduceEq, Int.reduceToNat, Int.reduceAdd, Int.reduceSub, Int.reduceNeg, ↓reduceIte, reduceCtorEq, ↓C.q90_W, C.q90_B, C.q90, hin, hw]
        refine ⟨(k + 1, x), rfl, ⟨hlt, ?_⟩, by simp only; omega⟩
        simp only
        rw [hpick, if_neg (fun h => hin h.2), List.append_nil]
        exact hO
  · have hke : k = l.length := by omega
    subst hke
    have hlt' : ¬ ((l.length : Nat) : Int) < ((nats l).length : Nat) := by rw [nats_length]; omega
    simp only [↓Bp, Bq, Bs, ↓aop.eq_28, ↓aop.eq_30, Nat.reduceEqDiff, Nat.reduceAdd, Nat.reduceMul, Nat.reduceSub, Nat.reduceLeDiff, Nat.reduceLT, Int.reduceLT, Int.reduceLE, Int.reduceEq, Int.reduceToNat, Int.reduceAdd, Int.reduceSub, Int.reduceNeg, ↓reduceIte, reduceCtorEq, ↓C.q90_W, C.q90_B, C.q90, hlt']
    rw [List.take_length] at hO
    exact hO

theorem dec_iff {p : Prop} {i : Decidable p} : (@decide p i = true) ↔ p := decide_eq_true_iff

theorem pickL_eq {l : List Nat} {ks : List Int} {v : Nat} {p : Nat → Bool} (h : ∀ w, w ∈ l → (p w = true ↔ w ≠ v ∧ (w : Int) ∈ ks)) : pickL l ks (v : Int) = l.filter p := by
  unfold pickL
  apply List.filter_congr
  intro w hw
  have h1 : ((w : Int) ≠ (v : Int)) ↔ w ≠ v := by omega
  rw [Bool.eq_iff_iff, decide_eq_true_eq, h w hw, h1]

/-- The heap with a map of nodes that are met. -/
def MetS (st : ASt) (m : Nat) (M : Nat → Prop) (s : ASt) : Prop := ∃ ks, s = st.new m (.map (kmap ks)) ∧ ∀ w : Nat, (w : Int) ∈ ks ↔ M w

theorem MetS.at {st s : ASt} {m : Nat} {M : Nat → Prop} (h : MetS st m M s) (hm : st.h m = none) : ∃ ks, s.h m = some (.map (kmap ks)) ∧ s = st.new m (.map (kmap ks)) ∧ ∀ w : Nat, (w : Int) ∈ ks ↔ M w := by
  obtain ⟨ks, rfl, h⟩ := h
  exact ⟨ks, ASt.new_self _ hm, rfl, h⟩

theorem metAdd {s : ASt} {m : Nat} {M : Nat → Prop} (h : MetS st m M s) (hm : st.h m = none) (v : Nat) : ACalls Try.prog F.q86 [.map m, .int .i64 v] s fun _ s' => MetS st m (fun w => M w ∨ w = v) s' := by
  obtain ⟨ks, h1, h2, h3⟩ := h.at hm
  refine (add_spec h1 v).mono ?_
  rintro _ s' ⟨ks', rfl, h4⟩
  refine ⟨ks', by rw [h2, ASt.new_set hm], fun w => ?_⟩
  have : (w : Int) = (v : Int) ↔ w = v := by omega
  rw [h4, h3, this]

theorem metHas {s : ASt} {m : Nat} {M : Nat → Prop} (h : MetS st m M s) (hm : st.h m = none) (v : Nat) : ACalls Try.prog F.q87 [.map m, .int .i64 v] s fun r s' => (∃ b, r = .bool b ∧ (b = true ↔ M v)) ∧ s' = s := by
  obtain ⟨ks, h1, h2, h3⟩ := h.at hm
  refine (has_spec h1 v).mono ?_
  rintro r s' ⟨rfl, rfl⟩
  exact ⟨⟨_, rfl, by rw [decide_eq_true_eq, h3]⟩, rfl⟩

theorem MetS.congr {s : ASt} {m : Nat} {M M' : Nat → Prop} (h : MetS st m M s) (hM : ∀ w, M w ↔ M' w) : MetS st m M' s := by
  obtain ⟨ks, h1, h2⟩ := h
  exact ⟨ks, h1, fun w => by rw [h2, hM]⟩

theorem Over.ofNew {m n : Nat} {o : AObj} {s : ASt} {x : AV} {cs : List AV} (hm : st.h m = none) (h : Over (st.new m o) s 1 x n cs) : Over st s 1 x n cs :=
  h.rebase (fun b hb _ => ⟨rfl, ((ASt.new_none _ _ _ _).mp hb).1⟩) ((ASt.le.new _ _ _).trans h.2.1)

theorem above_spec0 (hg : g.few) (v : Int) : ACalls Try.prog F.q82 [.isl 1 (g.map row) g.length, .int .i64 v] st fun r st' =>
    ∃ x, r = .tup [x, .int .i64 (nodeErr g v)] ∧ Over st st' 1 x (aboveR g v).length (ints (nats (aboveR g v))) := by
  refine calls_of_awp L.q82 rfl ?_
  simp only [↓Bp, Bq, Bs, ↓aop.eq_28, ↓aop.eq_30, Nat.reduceEqDiff, Nat.reduceAdd, Nat.reduceMul, Nat.reduceSub, Nat.reduceLeDiff, Nat.reduceLT, Int.reduceLT, Int.reduceLE, Int.reduceEq, Int.reduceToNat, Int.reduceAdd, Int.reduceSub, Int.reduceNeg, ↓reduceIte, reduceCtorEq, ↓C.q82_W, C.q82_B, C.q82]
  refine (ordered_spec hg v).mono ?_
  rintro r st' ⟨rfl, rfl⟩
  by_cases h0 : nodeErr g v = 0
  rotate_left
  · simp only [↓Bp, Bq, Bs, ↓aop.eq_28, ↓aop.eq_30, Nat.reduceEqDiff, Nat.reduceAdd, Nat.reduceMul, Nat.reduceSub, Nat.reduceLeDiff, Nat.reduceLT, Int.reduceLT, Int.reduceLE, Int.reduceEq, Int.reduceToNat, Int.reduceAdd, Int.reduceSub, Int.reduceNeg, ↓reduceIte, reduceCtorEq, ↓C.q82_W, C.q82_B, C.q82, h0]
    refine ⟨_, rfl, ?_⟩
    rw [aboveR, if_neg h0]
    exact Over.nils (ASt.le.refl _) 1
  obtain ⟨h1, h2, h3⟩ := nodeErr_zero.mp h0
  obtain ⟨hsm, hR⟩ := grErr_zero.mp h1
  have hol : (ord g).length = g.length := hR.full
  simp only [↓Bp, Bq, Bs, ↓aop.eq_28, ↓aop.eq_30, Nat.reduceEqDiff, Nat.reduceAdd, Nat.reduceMul, Nat.reduceSub, Nat.reduceLeDiff, Nat.reduceLT, Int.reduceLT, Int.reduceLE, Int.reduceEq, Int.reduceToNat, Int.reduceAdd, Int.reduceSub, Int.reduceNeg, ↓reduceIte, reduceCtorEq, ↓C.q82_W, C.q82_B, C.q82, h0]
  intro m hm
  obtain ⟨n, rfl⟩ : ∃ n : Nat, v = n := ⟨v.toNat, by omega⟩
  have hstart : MetS st' m (fun _ => False) (st'.new m (.map [])) := ⟨[], rfl, fun w => by simp⟩
  refine (metAdd hstart hm n).mono ?_
  rintro r s hs
  have hw0 : IntKind.i64.wrap (((nats (ord g)).length : Int) - 1) = ((g.length : Nat) : Int) - 1 := by rw [nats_length, hol, wrap64] <;> omega
  simp only [↓Bp, Bq, Bs, ↓aop.eq_28, ↓aop.eq_30, Nat.reduceEqDiff, Nat.reduceAdd, Nat.reduceMul, Nat.reduceSub, Nat.reduceLeDiff, Nat.reduceLT, Int.reduceLT, Int.reduceLE, Int.reduceEq, Int.reduceToNat, Int.reduceAdd, Int.reduceSub, Int.reduceNeg, ↓reduceIte, reduceCtorEq, ↓C.q82_W, C.q82_B, C.q82, row, hw0]
  refine awp_loopK (fun k : Nat => [(0, .isl 1 (g.map row) g.length), (1, .int .i64 n), (6, .isl 1 (ints (nats (ord g))) (nats (ord g)).length), (8, .map m), (9, .int .i64 ((k : Int) - 1))]) (fun k s => k ≤ g.length ∧ MetS st' m (MetA g n k) s) (fun k => k) g.length rfl
    ⟨Nat.le_refl _, hs.congr fun w => by rw [metA_start hR]; simp⟩ ?_
  clear hs
  rintro k s ⟨hk, hs⟩
  by_cases hk0 : 0 < k
  · obtain ⟨k, rfl⟩ : ∃ j, k = j + 1 := ⟨k - 1, by omega⟩
    have hko : k < (ord g).length := by omega
    have e1 : ((k + 1 : Nat) : Int) - 1 = (k : Int) := by omega
    have hlt' : (0 : Int) ≤ (k : Int) := by omega
    have hz : (0:Int) ≤ (k : Int) ∧ (k : Int) < ((nats (ord g)).length : Nat) := by rw [nats_length]; omega
    have hw : IntKind.i64.wrap ((k : Int) - 1) = (k : Int) - 1 := by rw [wrap64] <;> omega
    have hxl := ord_lt hR hko
    have hzx : (0:Int) ≤ ((ord g)[k] : Int) ∧ ((ord g)[k] : Int) < (g.length : Nat) := by omega
    simp only [↓Bp, Bq, Bs, ↓aop.eq_28, ↓aop.eq_30, Nat.reduceEqDiff, Nat.reduceAdd, Nat.reduceMul, Nat.reduceSub, Nat.reduceLeDiff, Nat.reduceLT, Int.reduceLT, Int.reduceLE, Int.reduceEq, Int.reduceToNat, Int.reduceAdd, Int.reduceSub, Int.reduceNeg, ↓reduceIte, reduceCtorEq, ↓C.q82_W, C.q82_B, C.q82, e1, hlt', hz, Int.toNat_natCast, Nat.mul_one, ints_nats_get hko]
    refine (metHas hs hm _).mono ?_
    rintro r s' ⟨⟨b, rfl, hb⟩, rfl⟩
    cases b
    · have hn : ¬ MetA g n (k + 1) (ord g)[k] := fun h => by have := hb.mpr h; cases this
      simp only [↓Bp, Bq, Bs, ↓aop.eq_28, ↓aop.eq_30, Nat.reduceEqDiff, Nat.reduceAdd, Nat.reduceMul, Nat.reduceSub, Nat.reduceLeDiff, Nat.reduceLT, Int.reduceLT, Int.reduceLE, Int.reduceEq, Int.reduceToNat, Int.reduceAdd, Int.reduceSub, Int.reduceNeg, ↓reduceIte, reduceCtorEq, ↓C.q82_W, C.q82_B, C.q82, hw]
      exact ⟨k, rfl, ⟨by omega, hs.congr fun w => by rw [metA_step hR hko]; simp [hn]⟩, by omega⟩
    · have hp : MetA g n (k + 1) (ord g)[k] := hb.mp rfl
      simp only [↓Bp, Bq, Bs, ↓aop.eq_28, ↓aop.eq_30, Nat.reduceEqDiff, Nat.reduceAdd, Nat.reduceMul, Nat.reduceSub, Nat.reduceLeDiff, Nat.reduceLT, Int.reduceLT, Int.reduceLE, Int.reduceEq, Int.reduceToNat, Int.reduceAdd, Int.reduceSub, Int.reduceNeg, ↓reduceIte, reduceCtorEq, ↓C.q82_W, C.q82_B, C.q82, hz, Int.toNat_natCast, Nat.mul_one, ints_nats_get hko, hzx, rowsG hxl]
      refine awp_loopK (fun j : Nat => [(0, .isl 1 (g.map row) g.length), (1, .int .i64 n), (6, .isl 1 (ints (nats (ord g))) (nats (ord g)).length), (8, .map m), (9, .int .i64 k), (45, .isl 1 (ints g[(ord g)[k]]) g[(ord g)[k]].length), (46, .int .i64 g[(ord g)[k]].length), (47, .int .i64 j)]) (fun j s => j ≤ g[(ord g)[k]].length ∧ MetS st' m (fun w => MetA g n (k + 1) w ∨ (w : Int) ∈ g[(ord g)[k]].take j) s) (fun j => g[(ord g)[k]].length - j) 0 rfl
        ⟨Nat.zero_le _, hs.congr fun w => by simp⟩ ?_
      clear hs
      rintro j s ⟨hj, hs⟩
      by_cases hjl : j < g[(ord g)[k]].length
      · have hjl' : (j : Int) < (g[(ord g)[k]].length : Nat) := by omega
        have hzj : (0:Int) ≤ (j : Int) ∧ (j : Int) < (g[(ord g)[k]].length : Nat) := by omega
        have hwj := wsucc hjl (hg.2 _ (List.getElem_mem hxl))
        obtain ⟨hx1, hx2⟩ := hR.ok _ (List.getElem_mem hxl) _ (List.getElem_mem hjl)
        obtain ⟨x, hx⟩ : ∃ x : Nat, g[(ord g)[k]][j] = x := ⟨_, (Int.toNat_of_nonneg hx1).symm⟩
        simp only [↓Bp, Bq, Bs, ↓aop.eq_28, ↓aop.eq_30, Nat.reduceEqDiff, Nat.reduceAdd, Nat.reduceMul, Nat.reduceSub, Nat.reduceLeDiff, Nat.reduceLT, Int.reduceLT, Int.reduceLE, Int.reduceEq, Int.reduceToNat, Int.reduceAdd, Int.reduceSub, Int.reduceNeg, ↓reduceIte, reduceCtorEq, ↓C.q82_W, C.q82_B, C.q82, hjl', hzj, Int.toNat_natCast, Nat.mul_one, ints_get hjl, hx]
        refine (metAdd hs hm x).mono ?_
        rintro r s2 hs2
        simp only [↓Bp, Bq, Bs, ↓aop.eq_28, ↓aop.eq_30, Nat.reduceEqDiff, Nat.reduceAdd, Nat.reduceMul, Nat.reduceSub, Nat.reduceLeDiff, Nat.reduceLT, Int.reduceLT, Int.reduceLE, Int.reduceEq, Int.reduceToNat, Int.reduceAdd, Int.reduceSub, Int.reduceNeg, ↓reduceIte, reduceCtorEq, ↓C.q82_W, C.q82_B, C.q82, hwj]
        refine ⟨j + 1, rfl, ⟨hjl, hs2.congr fun w => ?_⟩, by omega⟩
        rw [List.take_succ_eq_append_getElem hjl, List.mem_append, List.mem_singleton, hx]
        have : (w : Int) = (x : Int) ↔ w = x := by omega
        rw [this, or_assoc]
      · have hje : j = g[(ord g)[k]].length := by omega
        subst hje
        have hjl' : ¬ ((g[(ord g)[k]].length : Nat) : Int) < (g[(ord g)[k]].length : Nat) := by omega
        simp only [↓Bp, Bq, Bs, ↓aop.eq_28, ↓aop.eq_30, Nat.reduceEqDiff, Nat.reduceAdd, Nat.reduceMul, Nat.reduceSub, Nat.reduceLeDiff, Nat.reduceLT, Int.reduceLT, Int.reduceLE, Int.reduceEq, Int.reduceToNat, Int.reduceAdd, Int.reduceSub, Int.reduceNeg, ↓reduceIte, reduceCtorEq, ↓C.q82_W, C.q82_B, C.q82, hjl', hw]
        refine ⟨k, rfl, ⟨by omega, hs.congr fun w => ?_⟩, by omega⟩
        rw [List.take_length, metA_step hR hko, mem_deps hR.ok hxl]
        simp [hp]
  · have hke : k = 0 := by omega
    subst hke
    obtain ⟨ks, k1, k2, k3⟩ := hs.at hm
    have hlt' : ¬ (0 : Int) ≤ ((0 : Nat) : Int) - 1 := by omega
    simp only [↓Bp, Bq, Bs, ↓aop.eq_28, ↓aop.eq_30, Nat.reduceEqDiff, Nat.reduceAdd, Nat.reduceMul, Nat.reduceSub, Nat.reduceLeDiff, Nat.reduceLT, Int.reduceLT, Int.reduceLE, Int.reduceEq, Int.reduceToNat, Int.reduceAdd, Int.reduceSub, Int.reduceNeg, ↓reduceIte, reduceCtorEq, ↓C.q82_W, C.q82_B, C.q82, hlt']
    have ho := others_spec (l := ord g) (by omega) k1 n
    rw [row] at ho
    refine ho.mono ?_
    rintro r s2 hO
    simp only [↓Bp, Bq, Bs, ↓aop.eq_28, ↓aop.eq_30, Nat.reduceEqDiff, Nat.reduceAdd, Nat.reduceMul, Nat.reduceSub, Nat.reduceLeDiff, Nat.reduceLT, Int.reduceLT, Int.reduceLE, Int.reduceEq, Int.reduceToNat, Int.reduceAdd, Int.reduceSub, Int.reduceNeg, ↓reduceIte, reduceCtorEq, ↓C.q82_W, C.q82_B, C.q82]
    refine ⟨_, rfl, ?_⟩
    have e : pickL (ord g) ks n = aboveR g n := by
      rw [aboveR, if_pos h0, aboveL, Int.toNat_natCast]
      refine pickL_eq fun w _ => ?_
      rw [k3, metA_end hR]
      refine dec_iff.trans ?_
      constructor
      · rintro ⟨a, b⟩; exact ⟨a, .inr b⟩
      · rintro ⟨a, b | b⟩
        · exact absurd b a
        · exact ⟨a, b⟩
    rw [e, k2] at hO
    exact hO.ofNew hm

theorem above_spec (hg : g.few) (v : Int) : ACalls Try.prog F.q82 [.isl 1 (g.map row) g.length, .int .i64 v] st fun r st' => r = .tup [row (nats (aboveR g v)), .int .i64 (nodeErr g v)] ∧ st' = st := by
  refine (above_spec0 hg v).ghost ?_
  rintro r st' ⟨x, rfl, hO⟩
  exact ⟨_, st, Ghost.tupL hO.frz _, by rw [row, nats_length], rfl⟩
end
end Go.Proofs.Ytoblpialfhfdgaa.Cn
