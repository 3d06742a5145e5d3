/- Power: the example of the statements, and what the laws walk over. -/
import Derived.Test.YtgfpnfnjnakoaaaCnPower4
import Derived.Test.YtgfpnfnjnakoaaaCnSame
import Derived.Test.YtgfpnfnjnakoaaaCnL2
set_option linter.unusedSimpArgs false
set_option linter.unusedVariables false
namespace Go.Proofs.Ytgfpnfnjnakoaaa.Cn
open Go Go.Proofs

theorem gpairs_get : ∀ (l : List Pair) {i : Nat} (h : i < l.length), (l.flatMap encPair)[i * 2]? = some (.int .i64 l[i].a) ∧ (l.flatMap encPair)[i * 2 + 1]? = some (.int .i64 l[i].b)
  | [], i, h => by simp at h
  | p :: l, 0, h => ⟨rfl, rfl⟩
  | p :: l, i + 1, h => by
    have := gpairs_get l (i := i) (by simpa using h)
    rw [List.flatMap_cons, show (i + 1) * 2 = i * 2 + 1 + 1 by omega]
    exact this
def soc1 : Soc := ⟨[], [⟨-1, 0, false⟩], [], []⟩
theorem grErr_empty : grErr [] = 0 := grErr_lesser (by simp) fun v hv => by simp at hv
theorem soc1_right : confErr soc1 = 0 := firstE_zero.mpr fun i hi => by
  match i, hi with
  | 0, _ => exact fullE_zero.mpr ⟨⟨by simp [soc1], by simp [soc1], by simp [soc1], by simp [soc1]⟩, by simp [soc1]⟩
  | 1, _ => rfl
  | 2, _ => exact cycE_zero grErr_empty
  | 3, _ => rfl
  | 4, _ => exact cycE_zero (grErr_lesser (g := [[]]) (by simp) fun v hv u hu => by
      have : v = 0 := by simpa using hv
      subst this
      simp at hu)
  | 5, _ => rfl
  | 6, _ => rfl
  | 7, _ => exact cycE_zero grErr_empty
theorem gshown_spec (st : ASt) : ACalls Try.prog F.q5 [] st fun r s => r = .bool true ∧ s = st := by
  refine ACalls.gc (Q' := fun r s => r = .bool true ∧ st.le s) (calls_of_awp L.q5 rfl ?_) (fun v s ⟨h, hl⟩ => ⟨st, hl, h, rfl⟩)
  simp only [↓Bp, Bq, Bs, ↓aop.eq_28, ↓aop.eq_30, Nat.reduceEqDiff, Nat.reduceAdd, Nat.reduceMul, Nat.reduceSub, Nat.reduceLeDiff, Nat.reduceLT, Int.reduceLT, Int.reduceLE, Int.reduceEq, Int.reduceToNat, Int.reduceAdd, Int.reduceSub, Int.reduceNeg, ↓reduceIte, reduceCtorEq, ↓C.q5_W, C.q5_B, C.q5]
  rintro i hi
  have hR : RepL (st.new i (.cells [.int .i64 (-1), .int .i64 0, .bool false])) [.nils, .sl 3 i 0 1, .nils, .nils] soc1.cells [i] :=
    .nils 6 (.sl (L1 := []) (L2 := []) (ASt.new_self _ hi) (RepL.scalars rfl _) (by simp) (by simp) (by simp) (.nils 1 (.nils 6 .nil)))
  have hle : st.le ((st.new i (.cells [.int .i64 (-1), .int .i64 0, .bool false])).killL [i]) := (ASt.le.new _ _ _).killL (by simpa using hi)
  refine ACalls.frzAgg hR ((gnew_spec (fun c hc => by cases hc) soc1_right (by simp [soc1]) (by simp [soc1])).mono ?_)
  generalize (st.new i (.cells [.int .i64 (-1), .int .i64 0, .bool false])).killL [i] = s1 at hle
  rintro r s2 ⟨p, ig, rfl, hG, hp, hm, hle2⟩
  have hle := hle.trans hle2
  have hms : st.h ig = none := fresh_of_le ‹st.le s1› hm
  have hset : ∀ {t : ASt} (o : AObj), st.le t → st.le (t.set ig o) := fun {t} o ht j x hj => by
    rw [ASt.set_h, if_neg (by rintro rfl; rw [hms] at hj; cases hj)]; exact ht _ _ hj
  rw [show gfresh soc1.doms = [⟨-1, 0, false, 48, 0, false, false⟩] from rfl] at hG
  simp only [↓Bp, Bq, Bs, ↓aop.eq_28, ↓aop.eq_30, Nat.reduceEqDiff, Nat.reduceAdd, Nat.reduceMul, Nat.reduceSub, Nat.reduceLeDiff, Nat.reduceLT, Int.reduceLT, Int.reduceLE, Int.reduceEq, Int.reduceToNat, Int.reduceAdd, Int.reduceSub, Int.reduceNeg, ↓reduceIte, reduceCtorEq, ↓C.q5_W, C.q5_B, C.q5]
  refine (phase_spec hG 0).mono ?_
  rintro r s3 ⟨rfl, rfl⟩
  rw [dif_pos (show isGd [(⟨-1, 0, false, 48, 0, false, false⟩ : Gd)] 0 by decide)]
  simp only [↓Bp, Bq, Bs, ↓aop.eq_28, ↓aop.eq_30, Nat.reduceEqDiff, Nat.reduceAdd, Nat.reduceMul, Nat.reduceSub, Nat.reduceLeDiff, Nat.reduceLT, Int.reduceLT, Int.reduceLE, Int.reduceEq, Int.reduceToNat, Int.reduceAdd, Int.reduceSub, Int.reduceNeg, ↓reduceIte, reduceCtorEq, ↓C.q5_W, C.q5_B, C.q5, List.getElem_cons_zero, Int.toNat_zero]
  refine (up_spec hG (fun g hg => .inl (by rw [List.mem_singleton.mp hg])) (i := 0) (by simp)).mono ?_
  rintro r s4 ⟨rfl, rfl⟩
  rw [show upE [(⟨-1, 0, false, 48, 0, false, false⟩ : Gd)] 0 (by simp) = 0 from rfl, show upG [(⟨-1, 0, false, 48, 0, false, false⟩ : Gd)] 0 (by simp) = [⟨-1, 0, false, 114, 0, false, false⟩] from rfl]
  have hG2 := hG.set (gs' := [⟨-1, 0, false, 114, 0, false, false⟩]) rfl
  have hle3 := hset (gsC [⟨-1, 0, false, 114, 0, false, false⟩]) hle
  generalize s3.set ig (gsC [⟨-1, 0, false, 114, 0, false, false⟩]) = s4 at hG2 hle3
  simp only [↓Bp, Bq, Bs, ↓aop.eq_28, ↓aop.eq_30, Nat.reduceEqDiff, Nat.reduceAdd, Nat.reduceMul, Nat.reduceSub, Nat.reduceLeDiff, Nat.reduceLT, Int.reduceLT, Int.reduceLE, Int.reduceEq, Int.reduceToNat, Int.reduceAdd, Int.reduceSub, Int.reduceNeg, ↓reduceIte, reduceCtorEq, ↓C.q5_W, C.q5_B, C.q5]
  refine (gtick_spec hG2 (by simp)).mono ?_
  rintro r s5 ⟨rfl, rfl⟩
  rw [show gtickL [(⟨-1, 0, false, 114, 0, false, false⟩ : Gd)] = [⟨-1, 0, false, 104, 0, false, false⟩] from rfl, show evsV (evs [(⟨-1, 0, false, 114, 0, false, false⟩ : Gd)]) = .isl 2 [.int .u8 110, .int .i64 0] 1 from rfl]
  have hG3 := hG2.set (gs' := [⟨-1, 0, false, 104, 0, false, false⟩]) rfl
  have hle4 := hset (gsC [⟨-1, 0, false, 104, 0, false, false⟩]) hle3
  generalize s4.set ig (gsC [⟨-1, 0, false, 104, 0, false, false⟩]) = s5 at hG3 hle4
  simp only [↓Bp, Bq, Bs, ↓aop.eq_28, ↓aop.eq_30, Nat.reduceEqDiff, Nat.reduceAdd, Nat.reduceMul, Nat.reduceSub, Nat.reduceLeDiff, Nat.reduceLT, Int.reduceLT, Int.reduceLE, Int.reduceEq, Int.reduceToNat, Int.reduceAdd, Int.reduceSub, Int.reduceNeg, ↓reduceIte, reduceCtorEq, ↓C.q5_W, C.q5_B, C.q5]
  refine (gtick_spec hG3 (by simp)).mono ?_
  rintro r s6 ⟨rfl, rfl⟩
  rw [show gtickL [(⟨-1, 0, false, 104, 0, false, false⟩ : Gd)] = [⟨-1, 0, false, 49, 0, false, false⟩] from rfl, show evsV (evs [(⟨-1, 0, false, 104, 0, false, false⟩ : Gd)]) = .isl 2 [.int .u8 111, .int .i64 0] 1 from rfl]
  have hG4 := hG3.set (gs' := [⟨-1, 0, false, 49, 0, false, false⟩]) rfl
  have hle5 := hset (gsC [⟨-1, 0, false, 49, 0, false, false⟩]) hle4
  generalize s5.set ig (gsC [⟨-1, 0, false, 49, 0, false, false⟩]) = s6 at hG4 hle5
  have c1 : ((1 : Nat) : Int) = 1 := rfl
  simp only [↓Bp, Bq, Bs, ↓aop.eq_28, ↓aop.eq_30, Nat.reduceEqDiff, Nat.reduceAdd, Nat.reduceMul, Nat.reduceSub, Nat.reduceLeDiff, Nat.reduceLT, Int.reduceLT, Int.reduceLE, Int.reduceEq, Int.reduceToNat, Int.reduceAdd, Int.reduceSub, Int.reduceNeg, ↓reduceIte, reduceCtorEq, ↓C.q5_W, C.q5_B, C.q5, c1]
  refine (phase_spec hG4 0).mono ?_
  rintro r s7 ⟨rfl, rfl⟩
  rw [dif_pos (show isGd [(⟨-1, 0, false, 49, 0, false, false⟩ : Gd)] 0 by decide)]
  simp only [↓Bp, Bq, Bs, ↓aop.eq_28, ↓aop.eq_30, Nat.reduceEqDiff, Nat.reduceAdd, Nat.reduceMul, Nat.reduceSub, Nat.reduceLeDiff, Nat.reduceLT, Int.reduceLT, Int.reduceLE, Int.reduceEq, Int.reduceToNat, Int.reduceAdd, Int.reduceSub, Int.reduceNeg, ↓reduceIte, reduceCtorEq, ↓C.q5_W, C.q5_B, C.q5, List.getElem_cons_zero, Int.toNat_zero]
  exact hle5
/-- What a law has in hand: a description, its grid, all beside a heap. -/
structure WSt (st s : ASt) (ib p ig : Nat) (S : Soc) (gs : List Gd) : Prop where
  le : st.le s
  hb : s.h ib = some (.cells S.cells)
  g : GridAt s p ig gs
  fg : st.h ig = none
  ne : ib ≠ ig
theorem WSt.set {st s : ASt} {ib p ig : Nat} {S : Soc} {gs : List Gd} (h : WSt st s ib p ig S gs) {gs' : List Gd} (hl : gs'.length = gs.length) : WSt st (s.set ig (gsC gs')) ib p ig S gs' :=
  ⟨fun j x hj => by
    rw [ASt.set_h, if_neg (by rintro rfl; rw [h.fg] at hj; cases hj)]; exact h.le _ _ hj, by
    rw [ASt.set_h, if_neg h.ne]; exact h.hb, h.g.set hl, h.fg, h.ne⟩
theorem WSt.step {st s t : ASt} {ib p ig : Nat} {S : Soc} {gs : List Gd} (h : WSt st s ib p ig S gs) (hl : s.le t) : WSt st t ib p ig S gs :=
  ⟨h.le.trans hl, hl _ _ h.hb, h.g.le hl, h.fg, h.ne⟩
theorem upG_len {gs : List Gd} {i : Nat} (hi : i < gs.length) : (upG gs i hi).length = gs.length := by unfold upG; split <;> simp
theorem downG_len {gs : List Gd} {i : Nat} (hi : i < gs.length) (k : Bool) : (downG gs i hi k).length = gs.length := by unfold downG; split <;> simp
theorem gstart_spec {st : ASt} {ib : Nat} {S : Soc} (hib : st.h ib = none) (h : S.like) :
    ACalls Try.prog F.q85 [.agg S.cells] (st.new ib (.cells S.cells)) fun r s => ∃ p ig, r = .tup [.ptr p 0, .int .i64 0] ∧ WSt st s ib p ig S (gfresh S.doms) := by
  refine (gnew_spec h.fine h.right (by have := h.nd; omega) (by have := h.nd; omega)).mono ?_
  rintro r s ⟨p, ig, rfl, hG, hp, hm, hle2⟩
  have hself := ASt.new_self (AObj.cells S.cells) hib
  rw [ASt.new_none] at hm
  exact ⟨p, ig, rfl, (ASt.le.new st ib _).trans hle2, hle2 _ _ hself, hG, hm.1, fun e => hm.2 e.symm⟩
end Go.Proofs.Ytgfpnfnjnakoaaa.Cn
