/- Count: who is in use; rows of truths compared; the example. -/
import Derived.Test.YtoblpialfhfdgaaCnCount1
import Derived.Test.YtoblpialfhfdgaaCnPick
import Derived.Test.YtoblpialfhfdgaaCnL2
set_option linter.unusedSimpArgs false
set_option linter.unusedVariables false
set_option linter.unusedSectionVars false
namespace Go.Proofs.Ytoblpialfhfdgaa.Cn
open Go Go.Proofs

def tbools (l : List Bool) : List AV := l.map .bool
theorem tbools_len (l : List Bool) : (tbools l).length = l.length := by simp [tbools]
theorem tbools_get {l : List Bool} {i : Nat} (h : i < l.length) : (tbools l)[i]? = some (.bool l[i]) := by simp [tbools, h]
theorem tbools_set (l : List Bool) (i : Nat) (v : Bool) : (tbools l).set i (.bool v) = tbools (l.set i v) := by simp [tbools, List.map_set]
theorem zeros_tbool (n : Nat) : zeros [.bool false] n = tbools (List.replicate n false) := by
  induction n with
  | zero => rfl
  | succ n ih => rw [zeros, ih]; rfl
def brow (l : List Bool) : AV := .isl 1 (tbools l) l.length
theorem tbools_leaf (l : List Bool) : allLeaf (tbools l) = true := by simp [allLeaf, tbools, AV.leaf]
open Classical in
/-- Is v in use, by those up to j? -/
noncomputable def useTo (N : Gr) (f : Int → Int) (j v : Nat) : Bool := decide (∃ d, d < j ∧ 0 < f (d : Int) ∧ (v = d ∨ Up N d v))
noncomputable def useL (N : Gr) (f : Int → Int) (sl : Bool) : List Bool := (List.range N.length).map fun v => !sl && useTo N f N.length v
theorem useL_len (N : Gr) (f : Int → Int) (sl : Bool) : (useL N f sl).length = N.length := by simp [useL]
theorem useTo_iff {N : Gr} {f : Int → Int} {j v : Nat} : useTo N f j v = true ↔ ∃ d, d < j ∧ 0 < f (d : Int) ∧ (v = d ∨ Up N d v) := by unfold useTo; simp
theorem useTo_succ_no {N : Gr} {f : Int → Int} {j v : Nat} (h : f (j : Int) ≤ 0) : useTo N f (j + 1) v = useTo N f j v := by
  rw [Bool.eq_iff_iff, useTo_iff, useTo_iff]
  constructor
  · rintro ⟨d, h1, h2, h3⟩
    refine ⟨d, ?_, h2, h3⟩
    rcases Nat.lt_or_ge d j with h4 | h4
    · exact h4
    · have : d = j := by omega
      subst this; omega
  · rintro ⟨d, h1, h2, h3⟩; exact ⟨d, by omega, h2, h3⟩
theorem useTo_succ_yes {N : Gr} {f : Int → Int} {j v : Nat} (h : 0 < f (j : Int)) : useTo N f (j + 1) v = true ↔ useTo N f j v = true ∨ v = j ∨ Up N j v := by
  rw [useTo_iff, useTo_iff]
  constructor
  · rintro ⟨d, h1, h2, h3⟩
    rcases Nat.lt_or_ge d j with h4 | h4
    · exact .inl ⟨d, h4, h2, h3⟩
    · have : d = j := by omega
      subst this; exact .inr h3
  · rintro (⟨d, h1, h2, h3⟩ | h3)
    · exact ⟨d, by omega, h2, h3⟩
    · exact ⟨j, by omega, h, h3⟩
theorem up_lt {N : Gr} (hN : Right N) {v u : Nat} (h : Up N v u) : u < N.length := (h.lt hN.ok).2
section
variable {st : ASt} {p m : Nat} {N : Gr} {f : Int → Int} {sl : Bool}
set_option maxHeartbeats 1000000 in
theorem active_spec (h : CAt st p m N f sl) (hN : grErr N = 0) (hfew : N.few) (hn : N.length ≤ 100) :
    ACalls Try.prog F.q72 [.ptr p 0] st fun r s => r = brow (useL N f sl) ∧ s = st := by
  refine ACalls.ghost (Q' := fun r s => Over st s 1 r (useL N f sl).length (tbools (useL N f sl))) (calls_of_awp L.q72 rfl ?_) (fun r s hO => ⟨_, _, hO.frz, rfl, rfl⟩)
  have hR := (grErr_zero.mp hN).2
  have hp := h.hp
  have hpx := hp
  rw [gval] at hp
  have hzn : (0 : Int) ≤ (N.length : Nat) ∧ ((N.length : Nat) : Int) ≤ 4294967296 := by omega
  simp only [↓Bp, Bq, Bs, ↓aop.eq_28, ↓aop.eq_30, Nat.reduceEqDiff, Nat.reduceAdd, Nat.reduceMul, Nat.reduceSub, Nat.reduceLeDiff, Nat.reduceLT, Int.reduceLT, Int.reduceLE, Int.reduceEq, Int.reduceToNat, Int.reduceAdd, Int.reduceSub, Int.reduceNeg, ↓reduceIte, reduceCtorEq, ↓C.q72_r1_w, C.q72_r1_b, ↓C.q72_c26_w, ↓C.q72_r0_w, C.q72_r0_b, C.q72, hp, hzn, Int.toNat_natCast]
  rintro ix hix
  rw [zeros_tbool]
  have hself := fun o => ASt.new_self (st := st) (id := ix) o hix
  have hpn := fun o => ASt.new_old (st := st) (id := ix) (o := o) hp
  have hne : p ≠ ix := by rintro rfl; rw [hp] at hix; cases hix
  have over : ∀ B : List Bool, B.length = N.length → B = useL N f sl → Over st (st.new ix (.cells (tbools B))) 1 (.sl 1 ix 0 N.length) (useL N f sl).length (tbools (useL N f sl)) := fun B hB e => by
    subst e
    rw [useL_len]
    exact ⟨⟨by rw [tbools_len, useL_len, Nat.mul_one], .inr ⟨ix, rfl, hself _⟩⟩, ASt.le.new _ _ _, fun sz i off n e => by cases e; exact hix⟩
  cases sl
  rotate_left
  · simp only [↓Bp, Bq, Bs, ↓aop.eq_28, ↓aop.eq_30, Nat.reduceEqDiff, Nat.reduceAdd, Nat.reduceMul, Nat.reduceSub, Nat.reduceLeDiff, Nat.reduceLT, Int.reduceLT, Int.reduceLE, Int.reduceEq, Int.reduceToNat, Int.reduceAdd, Int.reduceSub, Int.reduceNeg, ↓reduceIte, reduceCtorEq, ↓C.q72_W, C.q72_B, C.q72, hp, hix]
    refine over _ (by simp) ?_
    refine List.ext_getElem (by simp [useL]) fun i h1 h2 => ?_
    simp [useL]
  simp only [↓Bp, Bq, Bs, ↓aop.eq_28, ↓aop.eq_30, Nat.reduceEqDiff, Nat.reduceAdd, Nat.reduceMul, Nat.reduceSub, Nat.reduceLeDiff, Nat.reduceLT, Int.reduceLT, Int.reduceLE, Int.reduceEq, Int.reduceToNat, Int.reduceAdd, Int.reduceSub, Int.reduceNeg, ↓reduceIte, reduceCtorEq, ↓C.q72_W, C.q72_B, C.q72, hp, hix]
  refine awp_midB (fun _ : Unit => [(3, .sl 1 ix 0 N.length)]) (fun _ s => s = st.new ix (.cells (tbools (useL N f false)))) ?_ ?_
  rotate_left
  · rintro - s rfl
    simp only [↓Bp, Bq, Bs, ↓aop.eq_28, ↓aop.eq_30, Nat.reduceEqDiff, Nat.reduceAdd, Nat.reduceMul, Nat.reduceSub, Nat.reduceLeDiff, Nat.reduceLT, Int.reduceLT, Int.reduceLE, Int.reduceEq, Int.reduceToNat, Int.reduceAdd, Int.reduceSub, Int.reduceNeg, ↓reduceIte, reduceCtorEq, ↓C.q72_W, C.q72_B, C.q72]
    exact over _ (useL_len _ _ _) rfl
  refine awp_loopK (fun j : Nat => [(0, .ptr p 0), (3, .sl 1 ix 0 N.length), (21, .int .i64 N.length), (22, .int .i64 j)]) (fun j s => j ≤ N.length ∧ ∃ B : List Bool, s = st.new ix (.cells (tbools B)) ∧ B.length = N.length ∧ ∀ v (hv : v < B.length), B[v] = useTo N f j v) (fun j => N.length - j) 0 rfl
    ⟨Nat.zero_le _, _, rfl, by simp, fun v hv => by
      rw [List.getElem_replicate, eq_comm, Bool.eq_false_iff]
      intro e
      obtain ⟨d, h1, _⟩ := useTo_iff.mp e
      omega⟩ ?_
  rintro j s ⟨hj, B, rfl, hB, hBv⟩
  by_cases hjl : j < N.length
  rotate_left
  · have hjl' : ¬ (j : Int) < (N.length : Nat) := by omega
    simp only [↓Bp, Bq, Bs, ↓aop.eq_28, ↓aop.eq_30, Nat.reduceEqDiff, Nat.reduceAdd, Nat.reduceMul, Nat.reduceSub, Nat.reduceLeDiff, Nat.reduceLT, Int.reduceLT, Int.reduceLE, Int.reduceEq, Int.reduceToNat, Int.reduceAdd, Int.reduceSub, Int.reduceNeg, ↓reduceIte, reduceCtorEq, ↓C.q72_W, C.q72_B, C.q72, hjl']
    have e : B = useL N f false := by
      refine List.ext_getElem (by rw [useL_len, hB]) fun v h1 h2 => ?_
      rw [hBv v h1, show j = N.length by omega]
      simp [useL]
    rw [e]
    exact ⟨(), rfl⟩
  have hjl' : (j : Int) < (N.length : Nat) := by omega
  have hw := wsucc hjl (by omega)
  have hz : (0:Int) ≤ (j : Int) ∧ (j : Int) < (N.length : Nat) := by omega
  obtain ⟨es, hm, hfs⟩ := h.hm
  have hmn := fun o => ASt.new_old (st := st) (id := ix) (o := o) hm
  by_cases hf0 : f (j : Int) ≤ 0
  · have T := eq_true hf0
    have hB2 : ∀ v (hv : v < B.length), B[v] = useTo N f (j + 1) v := fun v hv => by rw [hBv v hv, useTo_succ_no hf0]
    rcases hfs j with ⟨h1, h2⟩ | h1
    · simp only [↓Bp, Bq, Bs, ↓aop.eq_28, ↓aop.eq_30, Nat.reduceEqDiff, Nat.reduceAdd, Nat.reduceMul, Nat.reduceSub, Nat.reduceLeDiff, Nat.reduceLT, Int.reduceLT, Int.reduceLE, Int.reduceEq, Int.reduceToNat, Int.reduceAdd, Int.reduceSub, Int.reduceNeg, ↓reduceIte, reduceCtorEq, ↓C.q72_W, C.q72_B, C.q72, hjl', hp, hm, hix, h1, hw]
      exact ⟨j + 1, rfl, ⟨hjl, B, rfl, hB, hB2⟩, by omega⟩
    · simp only [↓Bp, Bq, Bs, ↓aop.eq_28, ↓aop.eq_30, Nat.reduceEqDiff, Nat.reduceAdd, Nat.reduceMul, Nat.reduceSub, Nat.reduceLeDiff, Nat.reduceLT, Int.reduceLT, Int.reduceLE, Int.reduceEq, Int.reduceToNat, Int.reduceAdd, Int.reduceSub, Int.reduceNeg, ↓reduceIte, reduceCtorEq, ↓C.q72_W, C.q72_B, C.q72, hjl', hp, hm, hix, h1, T, hw]
      exact ⟨j + 1, rfl, ⟨hjl, B, rfl, hB, hB2⟩, by omega⟩
  have T := eq_false hf0
  have hlk : look es (j : Int) = some (.int .i64 (f j)) := by
    rcases hfs j with ⟨h1, h2⟩ | h1
    · omega
    · exact h1
  have hfx : j < (tbools B).length := by rw [tbools_len, hB]; exact hjl
  have hset := tbools_set B j true
  have hns := fun a b => ASt.new_set hix a b
  have hnode : nodeErr N (j : Int) = 0 := nodeErr_zero.mpr ⟨hN, by omega, by omega⟩
  simp only [↓Bp, Bq, Bs, ↓aop.eq_28, ↓aop.eq_30, Nat.reduceEqDiff, Nat.reduceAdd, Nat.reduceMul, Nat.reduceSub, Nat.reduceLeDiff, Nat.reduceLT, Int.reduceLT, Int.reduceLE, Int.reduceEq, Int.reduceToNat, Int.reduceAdd, Int.reduceSub, Int.reduceNeg, ↓reduceIte, reduceCtorEq, ↓C.q72_W, C.q72_B, C.q72, hjl', hp, hm, hix, hlk, T, hix, hz, hfx, hset, hns, Int.toNat_natCast, Nat.mul_one, gval]
  refine (above_spec hfew (j : Int)).mono ?_
  rintro r s ⟨rfl, rfl⟩
  rw [row, nats_length, aboveR, if_pos hnode, Int.toNat_natCast]
  have hAm : ∀ u, u ∈ aboveL N j ↔ Up N j u := fun u => mem_aboveL hR
  have hAl : (aboveL N j).length ≤ 100 := by
    have h2 := hR.full
    unfold aboveL
    exact Nat.le_trans (List.length_filter_le _ _) (by omega)
  generalize aboveL N j = A at hAm hAl
  simp only [↓Bp, Bq, Bs, ↓aop.eq_28, ↓aop.eq_30, Nat.reduceEqDiff, Nat.reduceAdd, Nat.reduceMul, Nat.reduceSub, Nat.reduceLeDiff, Nat.reduceLT, Int.reduceLT, Int.reduceLE, Int.reduceEq, Int.reduceToNat, Int.reduceAdd, Int.reduceSub, Int.reduceNeg, ↓reduceIte, reduceCtorEq, ↓C.q72_W, C.q72_B, C.q72, nats_length]
  refine awp_loopK (fun t : Nat => [(0, .ptr p 0), (3, .sl 1 ix 0 N.length), (21, .int .i64 N.length), (22, .int .i64 j), (44, .isl 1 (ints (nats A)) A.length), (45, .int .i64 A.length), (46, .int .i64 t)]) (fun t s => t ≤ A.length ∧ ∃ B' : List Bool, s = st.new ix (.cells (tbools B')) ∧ B'.length = N.length ∧ ∀ v (hv : v < B'.length), B'[v] = true ↔ (useTo N f j v = true ∨ v = j ∨ v ∈ A.take t)) (fun t => A.length - t) 0 rfl
    ⟨Nat.zero_le _, B.set j true, rfl, by simp [hB], fun v hv => by
      simp only [List.length_set] at hv
      rw [List.getElem_set, List.take_zero]
      by_cases e : j = v
      · rw [if_pos e]; simp [e]
      · rw [if_neg e, hBv v hv]; simp [Ne.symm e]⟩ ?_
  rintro t s ⟨ht, B', rfl, hB', hBv'⟩
  by_cases htl : t < A.length
  rotate_left
  · have htl' : ¬ (t : Int) < (A.length : Nat) := by omega
    simp only [↓Bp, Bq, Bs, ↓aop.eq_28, ↓aop.eq_30, Nat.reduceEqDiff, Nat.reduceAdd, Nat.reduceMul, Nat.reduceSub, Nat.reduceLeDiff, Nat.reduceLT, Int.reduceLT, Int.reduceLE, Int.reduceEq, Int.reduceToNat, Int.reduceAdd, Int.reduceSub, Int.reduceNeg, ↓reduceIte, reduceCtorEq, ↓C.q72_W, C.q72_B, C.q72, htl', hw]
    refine ⟨j + 1, rfl, ⟨hjl, B', rfl, hB', fun v hv => ?_⟩, by omega⟩
    rw [Bool.eq_iff_iff, hBv' v hv, useTo_succ_yes (by omega), show t = A.length by omega, List.take_length, hAm]
  have htl' : (t : Int) < (A.length : Nat) := by omega
  have hwt := wsucc htl (by omega)
  have hzt : (0:Int) ≤ (t : Int) ∧ (t : Int) < (A.length : Nat) := by omega
  have hgt : (ints (nats A))[t]? = some (.int .i64 (A[t] : Nat)) := by simp [ints, nats, htl]
  have hul : A[t] < N.length := up_lt hR ((hAm _).mp (List.getElem_mem htl))
  obtain ⟨u, hu⟩ : ∃ u, u = A[t] := ⟨_, rfl⟩
  have hmm : ∀ v, v ∈ A.take (t + 1) ↔ v ∈ A.take t ∨ v = u := fun v => by rw [List.take_succ_eq_append_getElem htl, List.mem_append, List.mem_singleton, hu]
  rw [← hu] at hgt hul
  have hzu : (0:Int) ≤ (u : Int) ∧ (u : Int) < (N.length : Nat) := by omega
  have hfu : u < (tbools B').length := by rw [tbools_len, hB']; exact hul
  have hsetu := tbools_set B' u true
  simp only [↓Bp, Bq, Bs, ↓aop.eq_28, ↓aop.eq_30, Nat.reduceEqDiff, Nat.reduceAdd, Nat.reduceMul, Nat.reduceSub, Nat.reduceLeDiff, Nat.reduceLT, Int.reduceLT, Int.reduceLE, Int.reduceEq, Int.reduceToNat, Int.reduceAdd, Int.reduceSub, Int.reduceNeg, ↓reduceIte, reduceCtorEq, ↓C.q72_W, C.q72_B, C.q72, htl', hzt, hgt, hix, hzu, hfu, hsetu, hns, Int.toNat_natCast, Nat.mul_one, hwt]
  refine ⟨t + 1, rfl, ⟨htl, B'.set u true, rfl, by simp [hB'], fun v hv => ?_⟩, by omega⟩
  simp only [List.length_set] at hv
  rw [List.getElem_set, hmm]
  by_cases e : u = v
  · rw [if_pos e]; simp [e]
  · rw [if_neg e, hBv' v hv]; simp [Ne.symm e]
end
theorem sameB_spec {st : ASt} {a b : List Bool} (hl : a.length ≤ 1000) : ACalls Try.prog F.q5 [brow a, brow b] st fun r st' => r = .bool (decide (a = b)) ∧ st' = st := by
  refine calls_of_awp L.q5 rfl ?_
  rw [brow, brow]
  by_cases hab : a.length = b.length
  rotate_left
  · have hab' : ¬ ((a.length : Nat) : Int) = (b.length : Nat) := by omega
    have hne : ¬ a = b := by rintro rfl; exact hab rfl
    simp only [↓Bp, Bq, Bs, ↓aop.eq_28, ↓aop.eq_30, Nat.reduceEqDiff, Nat.reduceAdd, Nat.reduceMul, Nat.reduceSub, Nat.reduceLeDiff, Nat.reduceLT, Int.reduceLT, Int.reduceLE, Int.reduceEq, Int.reduceToNat, Int.reduceAdd, Int.reduceSub, Int.reduceNeg, ↓reduceIte, reduceCtorEq, ↓C.q5_W, C.q5_B, C.q5, hab', hne]
  have hab' : ((a.length : Nat) : Int) = (b.length : Nat) := by omega
  simp only [↓Bp, Bq, Bs, ↓aop.eq_28, ↓aop.eq_30, Nat.reduceEqDiff, Nat.reduceAdd, Nat.reduceMul, Nat.reduceSub, Nat.reduceLeDiff, Nat.reduceLT, Int.reduceLT, Int.reduceLE, Int.reduceEq, Int.reduceToNat, Int.reduceAdd, Int.reduceSub, Int.reduceNeg, ↓reduceIte, reduceCtorEq, ↓C.q5_W, C.q5_B, C.q5, hab']
  refine awp_loopK (fun k : Nat => [(0, .isl 1 (tbools a) a.length), (1, .isl 1 (tbools b) b.length), (5, .int .i64 k)]) (fun k s => k ≤ a.length ∧ s = st ∧ a.take k = b.take k) (fun k => a.length - k) 0 rfl ⟨Nat.zero_le _, rfl, by simp⟩ ?_
  rintro k s ⟨hk, rfl, ht⟩
  by_cases hlt : k < a.length
  · have hlt' : (k : Int) < (a.length : Nat) := by omega
    have hltb : (k : Int) < (b.length : Nat) := by omega
    have hkb : k < b.length := by omega
    have hz : (0:Int) ≤ (k : Int) ∧ (k : Int) < (a.length : Nat) := by omega
    have hzb : (0:Int) ≤ (k : Int) ∧ (k : Int) < (b.length : Nat) := by omega
    have hw := wsucc hlt (by omega)
    have ga := tbools_get hlt
    have gb := tbools_get hkb
    by_cases he : a[k] = b[k]
    · rw [he] at ga
      simp only [↓Bp, Bq, Bs, ↓aop.eq_28, ↓aop.eq_30, Nat.reduceEqDiff, Nat.reduceAdd, Nat.reduceMul, Nat.reduceSub, Nat.reduceLeDiff, Nat.reduceLT, Int.reduceLT, Int.reduceLE, Int.reduceEq, Int.reduceToNat, Int.reduceAdd, Int.reduceSub, Int.reduceNeg, ↓reduceIte, reduceCtorEq, ↓C.q5_W, C.q5_B, C.q5, hlt', hltb, hz, hzb, Int.toNat_natCast, Nat.mul_one, ga, gb, hw]
      refine ⟨k + 1, rfl, ⟨hlt, ?_⟩, by omega⟩
      rw [List.take_succ_eq_append_getElem hlt, List.take_succ_eq_append_getElem hkb, ht, he]
    · have hne : ¬ a = b := by rintro rfl; exact he rfl
      have hT := eq_false he
      simp only [↓Bp, Bq, Bs, ↓aop.eq_28, ↓aop.eq_30, Nat.reduceEqDiff, Nat.reduceAdd, Nat.reduceMul, Nat.reduceSub, Nat.reduceLeDiff, Nat.reduceLT, Int.reduceLT, Int.reduceLE, Int.reduceEq, Int.reduceToNat, Int.reduceAdd, Int.reduceSub, Int.reduceNeg, ↓reduceIte, reduceCtorEq, ↓C.q5_W, C.q5_B, C.q5, hlt', hltb, hz, hzb, Int.toNat_natCast, Nat.mul_one, ga, gb, hT, hne]
  · have hke : k = a.length := by omega
    subst hke
    have hlt' : ¬ ((a.length : Nat) : Int) < (a.length : Nat) := by omega
    have hab2 : a = b := by
      rw [List.take_length, hab, List.take_length] at ht
      exact ht
    subst hab2
    simp only [↓Bp, Bq, Bs, ↓aop.eq_28, ↓aop.eq_30, Nat.reduceEqDiff, Nat.reduceAdd, Nat.reduceMul, Nat.reduceSub, Nat.reduceLeDiff, Nat.reduceLT, Int.reduceLT, Int.reduceLE, Int.reduceEq, Int.reduceToNat, Int.reduceAdd, Int.reduceSub, Int.reduceNeg, ↓reduceIte, reduceCtorEq, ↓C.q5_W, C.q5_B, C.q5, hlt']

def soc16 : Soc := ⟨[⟨111, [], 1, 0, 0, 0⟩], [⟨-1, 0, false⟩], [0], [⟨0, 0, 0, 0, [], []⟩, ⟨0, 0, 0, 0, [], [0]⟩]⟩
theorem soc16_rep {st : ASt} {i1 i2 i3 i4 i5 : Nat} (h1 : st.h i1 = some (.cells [.int .u8 111, .nils, .int .u64 1, .int .i64 0, .int .i64 0, .int .i64 0])) (h2 : st.h i2 = some (.cells [.int .i64 (-1), .int .i64 0, .bool false]))
    (h3 : st.h i3 = some (.cells [.int .i64 0])) (h4 : st.h i4 = some (.cells [.int .i64 0]))
    (h5 : st.h i5 = some (.cells [.int .i64 0, .int .i64 0, .int .i64 0, .int .u32 0, .nils, .nils, .int .i64 0, .int .i64 0, .int .i64 0, .int .u32 0, .nils, .sl 1 i4 0 1]))
    (n21 : i2 ≠ i1) (n31 : i3 ≠ i1) (n32 : i3 ≠ i2) (n41 : i4 ≠ i1) (n42 : i4 ≠ i2) (n43 : i4 ≠ i3) (n51 : i5 ≠ i1) (n52 : i5 ≠ i2) (n53 : i5 ≠ i3) (n54 : i5 ≠ i4) :
    RepL st [.sl 6 i1 0 1, .sl 3 i2 0 1, .sl 1 i3 0 1, .sl 6 i5 0 2] soc16.cells [i1, i2, i3, i5, i4] := by
  refine .sl (L1 := []) (L2 := [i2, i3, i5, i4]) h1 (.one rfl (.nils 1 (RepL.scalars rfl _))) (by simp) (by simp; omega) (by simp) ?_
  refine .sl (L1 := []) (L2 := [i3, i5, i4]) h2 (RepL.scalars rfl _) (by simp) (by simp; omega) (by simp) ?_
  refine .sl (L1 := []) (L2 := [i5, i4]) h3 (RepL.scalars rfl _) (by simp) (by simp; omega) (by simp) ?_
  refine .sl (L1 := [i4]) (L2 := []) h5 ?_ (by simp; omega) (by simp) (by simp) .nil
  refine .one rfl (.one rfl (.one rfl (.one rfl (.nils 2 (.nils 1 (.one rfl (.one rfl (.one rfl (.one rfl (.nils 2 ?_))))))))))
  exact .sl (L1 := []) (L2 := []) h4 (RepL.scalars rfl _) (by simp) (by simp) (by simp) .nil
theorem soc16_like : soc16.like where
  nc := by decide
  nd := by decide
  nr := by decide
  nv := by decide
  clk := fun i h => by
    have : i = 0 := by simp [soc16] at h; omega
    subst this
    exact .osc 1 (by omega) rfl
  dom := fun i h => by
    have : i = 0 := by simp [soc16] at h; omega
    subst this
    exact ⟨.inl rfl, by show (0 : Int) ≤ 0 ∧ (0 : Int) ≤ 3; omega⟩
  rst := fun i h => by
    have : i = 0 := by simp [soc16] at h; omega
    subst this
    show (0 : Int) ≤ 0 ∧ (0 : Int) ≤ 3; omega
  dev := fun i h => by
    have : i = 0 ∨ i = 1 := by simp [soc16] at h; omega
    rcases this with rfl | rfl
    · exact ⟨by show (0 : Int) ≤ 0 ∧ (0 : Int) < 1; omega, by show (0 : Int) ≤ 0 ∧ (0 : Int) < 1; omega, by show (0 : Int) ≤ 0 ∧ (0 : Int) < 1; omega, by show 0 ≤ 4; omega, by show 0 ≤ 2; omega, fun u hu => by simp [soc16] at hu⟩
    · refine ⟨by show (0 : Int) ≤ 0 ∧ (0 : Int) < 1; omega, by show (0 : Int) ≤ 0 ∧ (0 : Int) < 1; omega, by show (0 : Int) ≤ 0 ∧ (0 : Int) < 1; omega, by show 0 ≤ 4; omega, by show 1 ≤ 2; omega, fun u hu => ?_⟩
      have : u = 0 := by simpa [soc16] using hu
      omega
theorem six_news {st t : ASt} {i1 i2 i3 i4 i5 i6 : Nat} {o1 o2 o3 o4 o5 o6 o7 : AObj} (h1 : st.h i1 = none) (h2 : st.h i2 = none) (n21 : ¬i2 = i1) (h3 : st.h i3 = none) (n31 : ¬i3 = i1) (n32 : ¬i3 = i2)
    (h4 : st.h i4 = none) (n41 : ¬i4 = i1) (n42 : ¬i4 = i2) (n43 : ¬i4 = i3) (h5 : st.h i5 = none) (n51 : ¬i5 = i1) (n52 : ¬i5 = i2) (n53 : ¬i5 = i3) (n54 : ¬i5 = i4) (h6 : st.h i6 = none) (n61 : ¬i6 = i1) (n62 : ¬i6 = i2) (n63 : ¬i6 = i3) (n64 : ¬i6 = i4) (n65 : ¬i6 = i5)
    (hT : ((((((st.new i1 o1).new i2 o2).new i3 o3).new i4 o4).new i5 o5).new i6 o6).set i6 o7 = t) :
    t.h i1 = some o1 ∧ t.h i2 = some o2 ∧ t.h i3 = some o3 ∧ t.h i4 = some o4 ∧ t.h i5 = some o5 ∧ t.h i6 = some o7 ∧ st.le t := by
  have k2 : (st.new i1 o1).h i2 = none := by simp only [ASt.new_none]; exact ⟨h2, n21⟩
  have k3 : ((st.new i1 o1).new i2 o2).h i3 = none := by simp only [ASt.new_none]; exact ⟨⟨h3, n31⟩, n32⟩
  have k4 : (((st.new i1 o1).new i2 o2).new i3 o3).h i4 = none := by simp only [ASt.new_none]; exact ⟨⟨⟨h4, n41⟩, n42⟩, n43⟩
  have k5 : ((((st.new i1 o1).new i2 o2).new i3 o3).new i4 o4).h i5 = none := by simp only [ASt.new_none]; exact ⟨⟨⟨⟨h5, n51⟩, n52⟩, n53⟩, n54⟩
  have k6 : (((((st.new i1 o1).new i2 o2).new i3 o3).new i4 o4).new i5 o5).h i6 = none := by simp only [ASt.new_none]; exact ⟨⟨⟨⟨⟨h6, n61⟩, n62⟩, n63⟩, n64⟩, n65⟩
  rw [ASt.new_set k6] at hT
  subst hT
  exact ⟨ASt.new_old (ASt.new_old (ASt.new_old (ASt.new_old (ASt.new_old (ASt.new_self _ h1))))), ASt.new_old (ASt.new_old (ASt.new_old (ASt.new_old (ASt.new_self _ k2)))), ASt.new_old (ASt.new_old (ASt.new_old (ASt.new_self _ k3))), ASt.new_old (ASt.new_old (ASt.new_self _ k4)), ASt.new_old (ASt.new_self _ k5), ASt.new_self _ k6,
    fun j o hj => ASt.new_old (ASt.new_old (ASt.new_old (ASt.new_old (ASt.new_old (ASt.new_old hj)))))⟩
theorem brow_view {st : ASt} (l : List Bool) : SView st (brow l) (brow l) := SView.pure (.isl _ _ _ fun i hi => by simp only [tbools, List.getElem_map]; exact .bool _)
theorem cshown_spec (st : ASt) : ACalls Try.prog F.q6 [] st fun r s => r = .bool true ∧ s = st := by
  refine ACalls.gc (Q' := fun r s => r = .bool true ∧ st.le s) (calls_of_awp L.q6 rfl ?_) (fun v s ⟨h, hl⟩ => ⟨st, hl, h, rfl⟩)
  simp only [↓Bp, Bq, Bs, ↓aop.eq_28, ↓aop.eq_30, Nat.reduceEqDiff, Nat.reduceAdd, Nat.reduceMul, Nat.reduceSub, Nat.reduceLeDiff, Nat.reduceLT, Int.reduceLT, Int.reduceLE, Int.reduceEq, Int.reduceToNat, Int.reduceAdd, Int.reduceSub, Int.reduceNeg, ↓reduceIte, reduceCtorEq, ↓C.q6_r1_w, C.q6_r1_b, ↓C.q6_c3_w, ↓C.q6_r0_w, C.q6_r0_b, C.q6]
  rintro i1 h1 i2 ⟨h2, n21⟩ i3 ⟨⟨h3, n31⟩, n32⟩ i4 ⟨⟨⟨h4, n41⟩, n42⟩, n43⟩ i5 ⟨⟨⟨⟨h5, n51⟩, n52⟩, n53⟩, n54⟩ i6 ⟨⟨⟨⟨⟨h6, n61⟩, n62⟩, n63⟩, n64⟩, n65⟩
  simp only [↓Bp, Bq, Bs, ↓aop.eq_28, ↓aop.eq_30, Nat.reduceEqDiff, Nat.reduceAdd, Nat.reduceMul, Nat.reduceSub, Nat.reduceLeDiff, Nat.reduceLT, Int.reduceLT, Int.reduceLE, Int.reduceEq, Int.reduceToNat, Int.reduceAdd, Int.reduceSub, Int.reduceNeg, ↓reduceIte, reduceCtorEq, ↓C.q6_r1_w, C.q6_r1_b, ↓C.q6_c3_w, ↓C.q6_r0_w, C.q6_r0_b, C.q6, h6, n61, n62, n63, n64, n65]
  refine ⟨rfl, ?_⟩
  generalize hT : ASt.set _ i6 _ = t
  obtain ⟨a1, a2, a3, a4, a5, a6, hle⟩ := six_news h1 h2 n21 h3 n31 n32 h4 n41 n42 n43 h5 n51 n52 n53 n54 h6 n61 n62 n63 n64 n65 hT
  have hR := soc16_rep a1 a2 a3 a4 a5 n21 n31 n32 n41 n42 n43 n51 n52 n53 n54
  have hlk : st.le (t.killL [i1, i2, i3, i5, i4]) := hle.killL (by simp; exact ⟨h1, h2, h3, h5, h4⟩)
  simp only [↓Bp, Bq, Bs, ↓aop.eq_28, ↓aop.eq_30, Nat.reduceEqDiff, Nat.reduceAdd, Nat.reduceMul, Nat.reduceSub, Nat.reduceLeDiff, Nat.reduceLT, Int.reduceLT, Int.reduceLE, Int.reduceEq, Int.reduceToNat, Int.reduceAdd, Int.reduceSub, Int.reduceNeg, ↓reduceIte, reduceCtorEq, ↓C.q6_W, C.q6_B, C.q6, a6]
  refine ACalls.frzAgg hR ((cnew_spec soc16_like.fine soc16_like.right (by decide) (by decide)).mono ?_)
  generalize t.killL [i1, i2, i3, i5, i4] = s1 at hlk
  rintro r s2 ⟨p, m, rfl, hC, hp, hm, hle2⟩
  have hN : grErr (soc16.devs.map Dev.needs) = 0 := soc16_like.devG
  generalize hNe : soc16.devs.map Dev.needs = N at hC hN
  have hNl : N.length = 2 := by rw [← hNe]; rfl
  simp only [↓Bp, Bq, Bs, ↓aop.eq_28, ↓aop.eq_30, Nat.reduceEqDiff, Nat.reduceAdd, Nat.reduceMul, Nat.reduceSub, Nat.reduceLeDiff, Nat.reduceLT, Int.reduceLT, Int.reduceLE, Int.reduceEq, Int.reduceToNat, Int.reduceAdd, Int.reduceSub, Int.reduceNeg, ↓reduceIte, reduceCtorEq, ↓C.q6_W, C.q6_B, C.q6]
  refine (get_spec hC (i := 1) ⟨by decide, by decide⟩).mono ?_
  rintro r s3 ⟨rfl, hC2, hMv⟩
  have e0 : getE N (fun _ => 0) false 1 = 0 := by rw [getE, if_neg (by decide), if_neg (by simp [isDv, hNl]), if_neg (by decide)]
  rw [getF, e0, if_pos rfl] at hC2
  rw [e0]
  simp only [↓Bp, Bq, Bs, ↓aop.eq_28, ↓aop.eq_30, Nat.reduceEqDiff, Nat.reduceAdd, Nat.reduceMul, Nat.reduceSub, Nat.reduceLeDiff, Nat.reduceLT, Int.reduceLT, Int.reduceLE, Int.reduceEq, Int.reduceToNat, Int.reduceAdd, Int.reduceSub, Int.reduceNeg, ↓reduceIte, reduceCtorEq, ↓C.q6_W, C.q6_B, C.q6]
  refine (active_spec hC2 hN ⟨by omega, fun r hr => ?_⟩ (by omega)).mono ?_
  · rw [← hNe] at hr
    simp [soc16] at hr
    rcases hr with rfl | rfl <;> simp
  rintro r s4 ⟨rfl, rfl⟩
  have hle3 : st.le s4 := fun j o hj => by
    rw [hMv j (by rintro rfl; rw [fresh_of_le hlk hp] at hj; cases hj) (by rintro rfl; rw [fresh_of_le hlk hm] at hj; cases hj)]
    exact hle2 _ _ (hlk _ _ hj)
  simp only [↓Bp, Bq, Bs, ↓aop.eq_28, ↓aop.eq_30, Nat.reduceEqDiff, Nat.reduceAdd, Nat.reduceMul, Nat.reduceSub, Nat.reduceLeDiff, Nat.reduceLT, Int.reduceLT, Int.reduceLE, Int.reduceEq, Int.reduceToNat, Int.reduceAdd, Int.reduceSub, Int.reduceNeg, ↓reduceIte, reduceCtorEq, ↓C.q6_W, C.q6_B, C.q6]
  rintro i7 h7
  have hself := ASt.new_self (.cells [.bool true, .bool true]) h7
  have hv2 : SView (s4.new i7 (.cells [.bool true, .bool true])) (.sl 1 i7 0 2) (brow [true, true]) :=
    RepL.view (L := [i7]) (vs := [.sl 1 i7 0 2]) (cs := [brow [true, true]]) (.sl (L1 := []) (L2 := []) hself (RepL.scalars rfl _) (by simp) (by simp) (by simp) .nil) (i := 0) (by simp) (by simp)
  have hU : useL N (addF (fun _ => 0) 1 1) false = [true, true] := by
    have h0 : useTo N (addF (fun _ => 0) 1 1) 2 0 = true := useTo_iff.mpr ⟨1, by omega, by decide, .inr (.one (by rw [← hNe]; decide))⟩
    have h1 : useTo N (addF (fun _ => 0) 1 1) 2 1 = true := useTo_iff.mpr ⟨1, by omega, by decide, .inl rfl⟩
    unfold useL
    rw [hNl]
    show [!false && useTo N _ 2 0, !false && useTo N _ 2 1] = _
    rw [h0, h1]; rfl
  rw [hU]
  refine ((sameB_spec (by decide)).mono fun _ _ h => h.1).borrow (Q := fun r => r = .bool (decide ([true, true] = [true, true]))) (Views.cons (brow_view _) (Views.cons hv2 (Views.nil _))) (fun v h => by rw [h]; exact .bool _) |>.mono ?_
  rintro r s5 ⟨rfl, rfl⟩
  simp only [↓Bp, Bq, Bs, ↓aop.eq_28, ↓aop.eq_30, Nat.reduceEqDiff, Nat.reduceAdd, Nat.reduceMul, Nat.reduceSub, Nat.reduceLeDiff, Nat.reduceLT, Int.reduceLT, Int.reduceLE, Int.reduceEq, Int.reduceToNat, Int.reduceAdd, Int.reduceSub, Int.reduceNeg, ↓reduceIte, reduceCtorEq, ↓C.q6_W, C.q6_B, C.q6]
  refine hle3.trans (ASt.le.new _ _ _)
end Go.Proofs.Ytoblpialfhfdgaa.Cn
