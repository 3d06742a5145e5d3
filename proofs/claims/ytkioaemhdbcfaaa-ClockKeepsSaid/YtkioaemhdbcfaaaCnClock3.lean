/- Clocks: Chain, Tick. -/
import Derived.Test.YtkioaemhdbcfaaaCnClock2
set_option linter.unusedSimpArgs false
set_option linter.unusedVariables false
namespace Go.Proofs.Ytkioaemhdbcfaaa.Cn
open Go Go.Proofs

theorem reverse_spec {st : ASt} {v : AV} {Z : List Int} (h : Shows st 1 v Z.length (ints Z)) (hn : Z.length ≤ 1000) :
    ACalls Try.prog F.q75 [v] st fun r s => Shows s 1 v Z.length (ints Z.reverse) ∧ ∀ j, v ≠ .sl 1 j 0 Z.length → s.h j = st.h j := by
  refine calls_of_awp L.q75 rfl ?_
  have hsl := h.slen
  obtain ⟨h1, h2⟩ := h
  rcases h2 with ⟨h0, rfl⟩ | ⟨ix, rfl, hx⟩
  · have : Z = [] := List.eq_nil_of_length_eq_zero h0
    subst this
    have c0 : ((([] : List Int).length : Nat) : Int) = 0 := rfl
    have w : IntKind.i64.wrap (0 - 1) = -1 := by rw [wrap64] <;> omega
    have hsl' : AV.nils.slen = some 0 := rfl
    simp only [↓Bp, Bq, Bs, ↓aop.eq_28, ↓aop.eq_30, Nat.reduceEqDiff, Nat.reduceAdd, Nat.reduceMul, Nat.reduceSub, Nat.reduceLeDiff, Nat.reduceLT, Int.reduceLT, Int.reduceLE, Int.reduceEq, Int.reduceToNat, Int.reduceAdd, Int.reduceSub, Int.reduceNeg, ↓reduceIte, reduceCtorEq, ↓C.q75_W, C.q75_B, C.q75, hsl', Int.natCast_zero, w]
    refine awp_loopK (fun _ : Unit => [(0, .nils), (2, .int .i64 0), (3, .int .i64 (-1))]) (fun _ s => s = st) (fun _ => 0) () rfl rfl ?_
    rintro - s rfl
    simp only [↓Bp, Bq, Bs, ↓aop.eq_28, ↓aop.eq_30, Nat.reduceEqDiff, Nat.reduceAdd, Nat.reduceMul, Nat.reduceSub, Nat.reduceLeDiff, Nat.reduceLT, Int.reduceLT, Int.reduceLE, Int.reduceEq, Int.reduceToNat, Int.reduceAdd, Int.reduceSub, Int.reduceNeg, ↓reduceIte, reduceCtorEq, ↓C.q75_W, C.q75_B, C.q75]
    exact ⟨⟨rfl, .inl ⟨rfl, rfl⟩⟩, fun _ _ => trivial⟩
  have w : IntKind.i64.wrap ((Z.length : Int) - 1) = (Z.length : Int) - 1 := by rw [wrap64] <;> omega
  simp only [↓Bp, Bq, Bs, ↓aop.eq_28, ↓aop.eq_30, Nat.reduceEqDiff, Nat.reduceAdd, Nat.reduceMul, Nat.reduceSub, Nat.reduceLeDiff, Nat.reduceLT, Int.reduceLT, Int.reduceLE, Int.reduceEq, Int.reduceToNat, Int.reduceAdd, Int.reduceSub, Int.reduceNeg, ↓reduceIte, reduceCtorEq, ↓C.q75_W, C.q75_B, C.q75, w]
  refine awp_loopK (fun i : Nat => [(0, .sl 1 ix 0 Z.length), (2, .int .i64 i), (3, .int .i64 ((Z.length : Int) - 1 - i))]) (fun i s => i ≤ Z.length ∧ ∃ M : List Int, s = st.set ix (.cells (ints M)) ∧ M.length = Z.length ∧ ∀ k (hk : k < M.length) (hk2 : Z.length - 1 - k < Z.length) (hk3 : k < Z.length), M[k] = if k < i ∨ Z.length - 1 - i < k then Z[Z.length - 1 - k] else Z[k]) (fun i => Z.length - i) 0
    (by rw [show (Z.length : Int) - 1 - ((0 : Nat) : Int) = (Z.length : Int) - 1 by omega]; rfl) ⟨Nat.zero_le _, Z, (ASt.set_id hx).symm, rfl, fun k hk _ _ => by rw [if_neg (by omega)]⟩ ?_
  rintro i s ⟨hi, M, rfl, hM, hMk⟩
  have hxs : (st.set ix (.cells (ints M))).h ix = some (.cells (ints M)) := by rw [ASt.set_h, if_pos rfl, hx]; rfl
  by_cases hlt : 2 * i + 1 < Z.length
  rotate_left
  · have hlt' : ¬ (i : Int) < (Z.length : Int) - 1 - i := by omega
    simp only [↓Bp, Bq, Bs, ↓aop.eq_28, ↓aop.eq_30, Nat.reduceEqDiff, Nat.reduceAdd, Nat.reduceMul, Nat.reduceSub, Nat.reduceLeDiff, Nat.reduceLT, Int.reduceLT, Int.reduceLE, Int.reduceEq, Int.reduceToNat, Int.reduceAdd, Int.reduceSub, Int.reduceNeg, ↓reduceIte, reduceCtorEq, ↓C.q75_W, C.q75_B, C.q75, hlt']
    have hrev : M = Z.reverse := by
      refine List.ext_getElem (by rw [hM, List.length_reverse]) fun k hk1 hk2 => ?_
      rw [List.getElem_reverse, hMk k hk1 (by omega) (by omega)]
      by_cases e : k < i ∨ Z.length - 1 - i < k
      · rw [if_pos e]
      · rw [if_neg e]
        have : k = Z.length - 1 - k := by omega
        congr 1
    refine ⟨⟨by rw [ints_length, List.length_reverse, Nat.mul_one], .inr ⟨ix, rfl, by rw [← hrev]; exact hxs⟩⟩, fun j hj => ?_⟩
    rw [if_neg (by rintro rfl; exact hj rfl)]
  have hlt' : (i : Int) < (Z.length : Int) - 1 - i := by omega
  obtain ⟨j, hj⟩ : ∃ j : Nat, (Z.length : Int) - 1 - i = j := ⟨Z.length - 1 - i, by omega⟩
  have hz1 : (0:Int) ≤ (i : Int) ∧ (i : Int) < (Z.length : Nat) := by omega
  have hz2 : (0:Int) ≤ (j : Int) ∧ (j : Int) < (Z.length : Nat) := by omega
  have hiM : i < M.length := by omega
  have hjM : j < M.length := by omega
  have gi := ints_get hiM
  have gj := ints_get hjM
  have w1 : IntKind.i64.wrap ((i : Int) + 1) = ((i + 1 : Nat) : Int) := by rw [wrap64] <;> omega
  have w2 : IntKind.i64.wrap ((j : Int) - 1) = (Z.length : Int) - 1 - ((i + 1 : Nat) : Int) := by rw [wrap64] <;> omega
  have l1 : i < (ints M).length := by rw [ints_length]; exact hiM
  have l2 : j < (ints (M.set i M[j])).length := by rw [ints_length]; simpa using hjM
  rw [hj] at hlt' ⊢
  generalize hs : st.set ix (.cells (ints M)) = s at hxs
  simp only [↓Bp, Bq, Bs, ↓aop.eq_28, ↓aop.eq_30, Nat.reduceEqDiff, Nat.reduceAdd, Nat.reduceMul, Nat.reduceSub, Nat.reduceLeDiff, Nat.reduceLT, Int.reduceLT, Int.reduceLE, Int.reduceEq, Int.reduceToNat, Int.reduceAdd, Int.reduceSub, Int.reduceNeg, ↓reduceIte, reduceCtorEq, ↓C.q75_W, C.q75_B, C.q75, hlt', hxs, hz1, hz2, Int.toNat_natCast, Nat.mul_one, gi, gj, l1, l2, ints_set, w1, w2]
  refine ⟨i + 1, rfl, ⟨by omega, (M.set i M[j]).set j M[i], ?_, by simpa using hM, fun k hk hk2 hk3 => ?_⟩, by omega⟩
  · rw [← hs]; simp only [ASt.set_set]
  · have hkM : k < M.length := by simpa using hk
    have vi := hMk i hiM (by omega) (by omega)
    have vj := hMk j hjM (by omega) (by omega)
    rw [if_neg (by omega)] at vi vj
    by_cases e1 : k = j
    · subst e1
      rw [List.getElem_set_self, vi, if_pos (by omega)]
      congr 1; omega
    · rw [List.getElem_set_ne (Ne.symm e1)]
      by_cases e2 : k = i
      · subst e2
        rw [List.getElem_set_self, vj, if_pos (by omega)]
        congr 1; omega
      · rw [List.getElem_set_ne (Ne.symm e2), hMk k hkM hk2 hk3]
        by_cases e : k < i ∨ Z.length - 1 - i < k
        · rw [if_pos e, if_pos (by omega)]
        · rw [if_neg e, if_neg (by omega)]

section
variable {st : ASt} {p ig : Nat} {ns : List Nd}
theorem chainN_len (hN : NsOk ns) : ∀ (i : Nat), i < ns.length → (chainN ns i).length ≤ i + 1 := by
  intro i
  induction i using Nat.strongRecOn with
  | _ i ih =>
  intro hi
  rw [chainN_eq hN hi]
  by_cases hk : ns[i].c.kind = 111
  · rw [if_pos hk]; simp
  · obtain ⟨x, e1, e2, _⟩ := (hN i hi).low hk
    rw [if_neg hk, e1, Int.toNat_natCast, List.length_append]
    have := ih x e2 (by omega)
    simp; omega
set_option maxHeartbeats 1000000 in
theorem cchain_at (h : TreeAt st p ig ns) (hN : NsOk ns) {i : Nat} (hi : i < ns.length) : ACalls Try.prog F.q5 [.ptr p 0, .int .i64 i] st fun r s => r = row (nats (chainN ns i)) ∧ s = st := by
  refine ACalls.ghost (Q' := fun r s => Over st s 1 r (chainN ns i).length (ints (nats (chainN ns i)))) (calls_of_awp L.q5 rfl ?_) (fun r s hO => ⟨_, _, hO.frz, by rw [row, nats_length], rfl⟩)
  have hfew := h.few
  have hcl := chainN_len hN i hi
  simp only [↓Bp, Bq, Bs, ↓aop.eq_28, ↓aop.eq_30, Nat.reduceEqDiff, Nat.reduceAdd, Nat.reduceMul, Nat.reduceSub, Nat.reduceLeDiff, Nat.reduceLT, Int.reduceLT, Int.reduceLE, Int.reduceEq, Int.reduceToNat, Int.reduceAdd, Int.reduceSub, Int.reduceNeg, ↓reduceIte, reduceCtorEq, ↓C.q5_W, C.q5_B, C.q5]
  refine (cat_spec h i).mono ?_
  rintro r s ⟨rfl, rfl⟩
  rw [if_pos (isCk_at hi)]
  simp only [↓Bp, Bq, Bs, ↓aop.eq_28, ↓aop.eq_30, Nat.reduceEqDiff, Nat.reduceAdd, Nat.reduceMul, Nat.reduceSub, Nat.reduceLeDiff, Nat.reduceLT, Int.reduceLT, Int.reduceLE, Int.reduceEq, Int.reduceToNat, Int.reduceAdd, Int.reduceSub, Int.reduceNeg, ↓reduceIte, reduceCtorEq, ↓C.q5_W, C.q5_B, C.q5]
  refine awp_midB (fun v : AV => [(5, v)]) (fun v t => Over s t 1 v (chainN ns i).length (ints (nats (chainN ns i).reverse))) ?_ ?_
  · refine awp_loopK (fun w : Int × AV × List Nat => [(0, .ptr p 0), (1, .int .i64 w.1), (5, w.2.1)]) (fun w t => ((w.1 = -1 ∧ w.2.2 = (chainN ns i).reverse) ∨ ∃ k : Nat, w.1 = (k : Int) ∧ k < ns.length ∧ w.2.2 ++ (chainN ns k).reverse = (chainN ns i).reverse) ∧ Over s t 1 w.2.1 w.2.2.length (ints (nats w.2.2))) (fun w => (w.1 + 1).toNat) ((i : Int), .nils, []) rfl
      ⟨.inr ⟨i, rfl, hi, rfl⟩, Over.nils (ASt.le.refl _) 1⟩ ?_
    rintro ⟨x, v, acc⟩ t ⟨hx, hO⟩
    simp only at hx hO
    rcases hx with ⟨rfl, rfl⟩ | ⟨k, rfl, hk, hacc⟩
    · simp only [↓Bp, Bq, Bs, ↓aop.eq_28, ↓aop.eq_30, Nat.reduceEqDiff, Nat.reduceAdd, Nat.reduceMul, Nat.reduceSub, Nat.reduceLeDiff, Nat.reduceLT, Int.reduceLT, Int.reduceLE, Int.reduceEq, Int.reduceToNat, Int.reduceAdd, Int.reduceSub, Int.reduceNeg, ↓reduceIte, reduceCtorEq, ↓C.q5_W, C.q5_B, C.q5]
      refine ⟨v, rfl, ?_⟩
      rw [List.length_reverse] at hO
      exact hO
    have T := eq_false (show ¬ (k : Int) = -1 by omega)
    have hal : acc.length ≤ ns.length := by
      have := congrArg List.length hacc
      simp only [List.length_append, List.length_reverse] at this
      omega
    simp only [↓Bp, Bq, Bs, Nat.reduceEqDiff, Nat.reduceAdd, Nat.reduceMul, Nat.reduceSub, Nat.reduceLeDiff, Nat.reduceLT, Int.reduceLT, Int.reduceLE, Int.reduceEq, Int.reduceToNat, Int.reduceAdd, Int.reduceSub, Int.reduceNeg, ↓reduceIte, reduceCtorEq, ↓C.q5_W, C.q5_B, C.q5, T]
    refine aop_append_over hO (by omega) (new := [.int .i64 k]) rfl rfl rfl (fun _ => rfl) (fun _ => rfl) fun v1 v2 t2 hP => ?_
    have hT := h.le hP.2.1
    refine (source_spec hT hk (hN k hk)).mono ?_
    rintro r t3 ⟨rfl, rfl⟩
    simp only [↓Bp, Bq, Bs, ↓aop.eq_28, ↓aop.eq_30, Nat.reduceEqDiff, Nat.reduceAdd, Nat.reduceMul, Nat.reduceSub, Nat.reduceLeDiff, Nat.reduceLT, Int.reduceLT, Int.reduceLE, Int.reduceEq, Int.reduceToNat, Int.reduceAdd, Int.reduceSub, Int.reduceNeg, ↓reduceIte, reduceCtorEq, ↓C.q5_W, C.q5_B, C.q5]
    have hP2 : Over s t3 1 v2 (acc ++ [k]).length (ints (nats (acc ++ [k]))) := by
      rw [nats_append, ints_append, List.length_append]; exact hP
    rw [chainN_eq hN hk] at hacc
    by_cases hkd : ns[k].c.kind = 111
    · rw [if_pos hkd] at hacc
      have hs : ns[k].source = -1 := by rw [Nd.source, if_pos ((hN k hk).osc.mp hkd)]
      exact ⟨(-1, v2, acc ++ [k]), by rw [hs], ⟨.inl ⟨rfl, by simpa using hacc⟩, hP2⟩, by simp only; omega⟩
    · obtain ⟨y, e1, e2, _⟩ := (hN k hk).low hkd
      rw [if_neg hkd, e1, Int.toNat_natCast] at hacc
      exact ⟨((y : Int), v2, acc ++ [k]), by rw [e1], ⟨.inr ⟨y, rfl, by omega, by rw [← hacc]; simp⟩, hP2⟩, by simp only; omega⟩
  · rintro v t hO
    have hl : (chainN ns i).length = (nats (chainN ns i).reverse).length := by rw [nats_length, List.length_reverse]
    simp only [↓Bp, Bq, Bs, ↓aop.eq_28, ↓aop.eq_30, Nat.reduceEqDiff, Nat.reduceAdd, Nat.reduceMul, Nat.reduceSub, Nat.reduceLeDiff, Nat.reduceLT, Int.reduceLT, Int.reduceLE, Int.reduceEq, Int.reduceToNat, Int.reduceAdd, Int.reduceSub, Int.reduceNeg, ↓reduceIte, reduceCtorEq, ↓C.q5_W, C.q5_B, C.q5]
    have hsh := hO.1
    rw [hl] at hsh
    refine (reverse_spec hsh (by omega)).mono ?_
    rintro r t2 ⟨hS, hk⟩
    simp only [↓Bp, Bq, Bs, ↓aop.eq_28, ↓aop.eq_30, Nat.reduceEqDiff, Nat.reduceAdd, Nat.reduceMul, Nat.reduceSub, Nat.reduceLeDiff, Nat.reduceLT, Int.reduceLT, Int.reduceLE, Int.reduceEq, Int.reduceToNat, Int.reduceAdd, Int.reduceSub, Int.reduceNeg, ↓reduceIte, reduceCtorEq, ↓C.q5_W, C.q5_B, C.q5]
    have e : (nats (chainN ns i).reverse).reverse = nats (chainN ns i) := by simp [nats]
    rw [e, ← hl] at hS
    refine ⟨hS, fun j o hj => ?_, hO.2.2⟩
    rw [hk j (by rintro rfl; have := hO.2.2 _ _ _ _ rfl; rw [this] at hj; cases hj)]
    exact hO.2.1 _ _ hj
/-- A node in a tick. -/
def Nd.tick (R : Nat → Bool) (n : Nd) : Nd :=
  if n.c.kind = 112 then
    (if n.on = true then (if R n.source.toNat = false then { n with left := n.c.lock } else if 0 < n.left then { n with left := n.left - 1 } else n) else n)
  else if n.c.kind = 109 ∧ n.want ≠ n.set ∧ (R (n.c.src.getD n.want.toNat 0).toNat = true ∨ R (n.c.src.getD n.set.toNat 0).toNat = false) then { n with set := n.want } else n
def ctickTo (ns : List Nd) (R : Nat → Bool) (i : Nat) : List Nd := (ns.take i).map (Nd.tick R) ++ ns.drop i
def ctickL (ns : List Nd) : List Nd := ns.map (Nd.tick (run ns))
theorem ctickTo_len (ns : List Nd) (R : Nat → Bool) (i : Nat) : (ctickTo ns R i).length = ns.length := by simp [ctickTo]; omega
theorem ctickTo_at {R : Nat → Bool} {i : Nat} (h : i < ns.length) : (ctickTo ns R i)[i]'(by rw [ctickTo_len]; exact h) = ns[i] := by
  simp only [ctickTo]
  rw [List.getElem_append_right (by simp; omega)]
  simp [Nat.min_eq_left (Nat.le_of_lt h)]
theorem ctickTo_set {R : Nat → Bool} {i : Nat} (h : i < ns.length) : (ctickTo ns R i).set i (Nd.tick R ns[i]) = ctickTo ns R (i + 1) := by
  simp only [ctickTo]
  rw [List.set_append_right _ _ (by simp; omega), List.take_succ_eq_append_getElem h, List.map_append]
  have : i - ((ns.take i).map (Nd.tick R)).length = 0 := by simp; omega
  rw [this, ← List.getElem_cons_drop (h := h), List.set_cons_zero]
  simp
theorem ctickTo_all (ns : List Nd) : ctickTo ns (run ns) ns.length = ctickL ns := by simp [ctickTo, ctickL]
theorem ctickL_len (ns : List Nd) : (ctickL ns).length = ns.length := by simp [ctickL]
end
def cbools (l : List Bool) : List AV := l.map .bool
theorem cbools_get {l : List Bool} {i : Nat} (h : i < l.length) : (cbools l)[i]? = some (.bool l[i]) := by simp [cbools, h]
theorem cbools_set (l : List Bool) (i : Nat) (v : Bool) : (cbools l).set i (.bool v) = cbools (l.set i v) := by simp [cbools, List.map_set]
theorem cbools_len (l : List Bool) : (cbools l).length = l.length := by simp [cbools]
theorem zeros_cbool (n : Nat) : zeros [.bool false] n = cbools (List.replicate n false) := by
  induction n with
  | zero => rfl
  | succ n ih => rw [zeros, ih]; rfl
section
variable {st : ASt} {p ig ir : Nat} {ns : List Nd} {B : List Bool}
set_option maxHeartbeats 4000000 in
/-- A node's part of a tick. -/
theorem tick_node {t : ASt} {i : Nat} {M : List Nd} (h : TreeAt t p ig M) (hr : t.h ir = some (.cells (cbools B))) (hB : B.length = M.length) (hBr : ∀ j (hj : j < B.length), B[j] = run ns j) (hi : i < M.length) (ho : NdOk i M[i]) {Q : IExit → AFr → ASt → Prop}
    (hQ : ∀ fr, fr.keep [0, 2, 33, 34] = [(0, .ptr p 0), (2, .sl 1 ir 0 M.length), (33, .int .i64 M.length), (34, .int .i64 i)] → Q .normal fr (t.set ig (nsC (M.set i (Nd.tick (run ns) M[i]))))) :
    awp Try.prog C.q14_c9 Q [(0, .ptr p 0), (2, .sl 1 ir 0 M.length), (4, .int .i64 i), (33, .int .i64 M.length), (34, .int .i64 i)] t := by
  have hp := h.hp
  have hg := h.hg
  have hgx := hg
  rw [nsC] at hg
  have hz : (0:Int) ≤ (i : Int) ∧ (i : Int) < (M.length : Nat) := by omega
  have g0 := ns_get hi (j := 0) (by omega)
  rw [show M[i].cells[0]? = some (.int .u8 M[i].c.kind) from rfl, Nat.add_zero] at g0
  have g1 := ns_get hi (j := 1) (by omega)
  rw [show M[i].cells[1]? = some (row M[i].c.src) from rfl] at g1
  have g5 := ns_get hi (j := 5) (by omega)
  rw [show M[i].cells[5]? = some (.int .i64 M[i].c.lock) from rfl] at g5
  have g6 := ns_get hi (j := 6) (by omega)
  rw [show M[i].cells[6]? = some (.bool M[i].on) from rfl] at g6
  have g7 := ns_get hi (j := 7) (by omega)
  rw [show M[i].cells[7]? = some (.int .i64 M[i].left) from rfl] at g7
  have g8 := ns_get hi (j := 8) (by omega)
  rw [show M[i].cells[8]? = some (.int .i64 M[i].set) from rfl] at g8
  have g9 := ns_get hi (j := 9) (by omega)
  rw [show M[i].cells[9]? = some (.int .i64 M[i].want) from rfl] at g9
  have hfit := ns_fit hi
  have f7 : i * 11 + 7 < (M.flatMap Nd.cells).length := by omega
  have f8 : i * 11 + 8 < (M.flatMap Nd.cells).length := by omega
  have p7 : ∀ v : Int, (M.flatMap Nd.cells).set (i * 11 + 7) (.int .i64 v) = (M.set i { M[i] with left := v }).flatMap Nd.cells := fun v => ns_put hi (by omega) rfl
  have p8 : ∀ v : Int, (M.flatMap Nd.cells).set (i * 11 + 8) (.int .i64 v) = (M.set i { M[i] with set := v }).flatMap Nd.cells := fun v => ns_put hi (by omega) rfl
  have hlf := ho.left
  unfold Nd.tick at hQ
  by_cases k2 : M[i].c.kind = 112
  · rw [if_pos k2] at hQ
    rw [k2] at g0
    cases hon : M[i].on
    · rw [if_neg (by rw [hon]; decide), List.set_getElem_self, ASt.set_id hgx] at hQ
      rw [hon] at g6
      simp only [↓Bp, Bq, Bs, ↓aop.eq_28, ↓aop.eq_30, Nat.reduceEqDiff, Nat.reduceAdd, Nat.reduceMul, Nat.reduceSub, Nat.reduceLeDiff, Nat.reduceLT, Int.reduceLT, Int.reduceLE, Int.reduceEq, Int.reduceToNat, Int.reduceAdd, Int.reduceSub, Int.reduceNeg, ↓reduceIte, reduceCtorEq, ↓C.q14_r17_w, C.q14_r17_b, ↓C.q14_c1_w, ↓C.q14_r11_w, C.q14_r11_b, ↓C.q14_b7_w, ↓C.q14_c8_w, ↓C.q14_r10_w, C.q14_r10_b, ↓C.q14_c9_w, ↓C.q14_r9_w, C.q14_r9_b, ↓C.q14_b10_w, ↓C.q14_c11_w, ↓C.q14_c12_w, ↓C.q14_r8_w, C.q14_r8_b, ↓C.q14_b14_w, ↓C.q14_c15_w, ↓C.q14_r7_w, C.q14_r7_b, ↓C.q14_c16_w, ↓C.q14_r6_w, C.q14_r6_b, ↓C.q14_c17_w, ↓C.q14_r5_w, C.q14_r5_b, ↓C.q14_c18_w, ↓C.q14_r4_w, C.q14_r4_b, ↓C.q14_b19_w, ↓C.q14_c20_w, ↓C.q14_c21_w, ↓C.q14_r3_w, C.q14_r3_b, ↓C.q14_b23_w, ↓C.q14_c24_w, ↓C.q14_r2_w, C.q14_r2_b, ↓C.q14_c25_w, ↓C.q14_r1_w, C.q14_r1_b, ↓C.q14_c26_w, ↓C.q14_c27_w, ↓C.q14_r0_w, C.q14_r0_b, C.q14, hp, hg, hz, g0, g6, Int.toNat_natCast]
      rw [C.q14_c6_w, awp_keep]
      simp only [↓Bp, Bq, Bs, ↓aop.eq_28, ↓aop.eq_30, Nat.reduceEqDiff, Nat.reduceAdd, Nat.reduceMul, Nat.reduceSub, Nat.reduceLeDiff, Nat.reduceLT, Int.reduceLT, Int.reduceLE, Int.reduceEq, Int.reduceToNat, Int.reduceAdd, Int.reduceSub, Int.reduceNeg, ↓reduceIte, reduceCtorEq, ↓C.q14_r17_w, C.q14_r17_b, ↓C.q14_c1_w, ↓C.q14_r12_w, C.q14_r12_b, ↓C.q14_r13_w, C.q14_r13_b, ↓C.q14_c5_w, ↓C.q14_c6_w, ↓C.q14_r11_w, C.q14_r11_b, ↓C.q14_b7_w, ↓C.q14_c8_w, ↓C.q14_r10_w, C.q14_r10_b, ↓C.q14_c9_w, ↓C.q14_r9_w, C.q14_r9_b, ↓C.q14_b10_w, ↓C.q14_c11_w, ↓C.q14_c12_w, ↓C.q14_r8_w, C.q14_r8_b, ↓C.q14_b14_w, ↓C.q14_c15_w, ↓C.q14_r7_w, C.q14_r7_b, ↓C.q14_c16_w, ↓C.q14_r6_w, C.q14_r6_b, ↓C.q14_c17_w, ↓C.q14_r5_w, C.q14_r5_b, ↓C.q14_c18_w, ↓C.q14_r4_w, C.q14_r4_b, ↓C.q14_b19_w, ↓C.q14_c20_w, ↓C.q14_c21_w, ↓C.q14_r3_w, C.q14_r3_b, ↓C.q14_b23_w, ↓C.q14_c24_w, ↓C.q14_r2_w, C.q14_r2_b, ↓C.q14_c25_w, ↓C.q14_r1_w, C.q14_r1_b, ↓C.q14_c26_w, ↓C.q14_c27_w, ↓C.q14_r0_w, C.q14_r0_b, C.q14, hp, hg, hz, g0, g6, Int.toNat_natCast]
      rw [C.q14_c4_w, awp_keep]
      simp only [↓Bp, Bq, Bs, ↓aop.eq_28, ↓aop.eq_30, Nat.reduceEqDiff, Nat.reduceAdd, Nat.reduceMul, Nat.reduceSub, Nat.reduceLeDiff, Nat.reduceLT, Int.reduceLT, Int.reduceLE, Int.reduceEq, Int.reduceToNat, Int.reduceAdd, Int.reduceSub, Int.reduceNeg, ↓reduceIte, reduceCtorEq, ↓C.q14_r17_w, C.q14_r17_b, ↓C.q14_c1_w, ↓C.q14_r12_w, C.q14_r12_b, ↓C.q14_r14_w, C.q14_r14_b, ↓C.q14_r15_w, C.q14_r15_b, ↓C.q14_c3_w, ↓C.q14_c4_w, ↓C.q14_r13_w, C.q14_r13_b, ↓C.q14_c5_w, ↓C.q14_c6_w, ↓C.q14_r11_w, C.q14_r11_b, ↓C.q14_b7_w, ↓C.q14_c8_w, ↓C.q14_r10_w, C.q14_r10_b, ↓C.q14_c9_w, ↓C.q14_r9_w, C.q14_r9_b, ↓C.q14_b10_w, ↓C.q14_c11_w, ↓C.q14_c12_w, ↓C.q14_r8_w, C.q14_r8_b, ↓C.q14_b14_w, ↓C.q14_c15_w, ↓C.q14_r7_w, C.q14_r7_b, ↓C.q14_c16_w, ↓C.q14_r6_w, C.q14_r6_b, ↓C.q14_c17_w, ↓C.q14_r5_w, C.q14_r5_b, ↓C.q14_c18_w, ↓C.q14_r4_w, C.q14_r4_b, ↓C.q14_b19_w, ↓C.q14_c20_w, ↓C.q14_c21_w, ↓C.q14_r3_w, C.q14_r3_b, ↓C.q14_b23_w, ↓C.q14_c24_w, ↓C.q14_r2_w, C.q14_r2_b, ↓C.q14_c25_w, ↓C.q14_r1_w, C.q14_r1_b, ↓C.q14_c26_w, ↓C.q14_c27_w, ↓C.q14_r0_w, C.q14_r0_b, C.q14, hp, hg, hz, g0, g6, Int.toNat_natCast]
      rw [C.q14_c2_w, awp_keep]
      simp only [↓Bp, Bq, Bs, ↓aop.eq_28, ↓aop.eq_30, Nat.reduceEqDiff, Nat.reduceAdd, Nat.reduceMul, Nat.reduceSub, Nat.reduceLeDiff, Nat.reduceLT, Int.reduceLT, Int.reduceLE, Int.reduceEq, Int.reduceToNat, Int.reduceAdd, Int.reduceSub, Int.reduceNeg, ↓reduceIte, reduceCtorEq, ↓C.q14_W, C.q14_B, C.q14, hp, hg, hz, g0, g6, Int.toNat_natCast]
      exact hQ _ rfl
    rw [if_pos hon] at hQ
    rw [hon] at g6
    obtain ⟨x, e1, e2, e3⟩ := ho.low (by rw [k2]; decide)
    have hxB : x < B.length := by omega
    have hzx : (0:Int) ≤ (x : Int) ∧ (x : Int) < (M.length : Nat) := by omega
    have gx := cbools_get hxB
    rw [hBr x hxB] at gx
    rw [e1, Int.toNat_natCast] at hQ
    simp only [↓Bp, Bq, Bs, ↓aop.eq_28, ↓aop.eq_30, Nat.reduceEqDiff, Nat.reduceAdd, Nat.reduceMul, Nat.reduceSub, Nat.reduceLeDiff, Nat.reduceLT, Int.reduceLT, Int.reduceLE, Int.reduceEq, Int.reduceToNat, Int.reduceAdd, Int.reduceSub, Int.reduceNeg, ↓reduceIte, reduceCtorEq, ↓C.q14_W, C.q14_B, C.q14, hp, hg, hz, g0, g6, Int.toNat_natCast]
    refine (source_spec h hi ho).mono ?_
    rintro r s ⟨rfl, rfl⟩
    rw [e1]
    cases hrx : run ns x
    · rw [hrx] at gx
      rw [if_pos hrx] at hQ
      simp only [↓Bp, Bq, Bs, ↓aop.eq_28, ↓aop.eq_30, Nat.reduceEqDiff, Nat.reduceAdd, Nat.reduceMul, Nat.reduceSub, Nat.reduceLeDiff, Nat.reduceLT, Int.reduceLT, Int.reduceLE, Int.reduceEq, Int.reduceToNat, Int.reduceAdd, Int.reduceSub, Int.reduceNeg, ↓reduceIte, reduceCtorEq, ↓C.q14_r17_w, C.q14_r17_b, ↓C.q14_c1_w, ↓C.q14_r11_w, C.q14_r11_b, ↓C.q14_b7_w, ↓C.q14_c8_w, ↓C.q14_r10_w, C.q14_r10_b, ↓C.q14_c9_w, ↓C.q14_r9_w, C.q14_r9_b, ↓C.q14_b10_w, ↓C.q14_c11_w, ↓C.q14_c12_w, ↓C.q14_r8_w, C.q14_r8_b, ↓C.q14_b14_w, ↓C.q14_c15_w, ↓C.q14_r7_w, C.q14_r7_b, ↓C.q14_c16_w, ↓C.q14_r6_w, C.q14_r6_b, ↓C.q14_c17_w, ↓C.q14_r5_w, C.q14_r5_b, ↓C.q14_c18_w, ↓C.q14_r4_w, C.q14_r4_b, ↓C.q14_b19_w, ↓C.q14_c20_w, ↓C.q14_c21_w, ↓C.q14_r3_w, C.q14_r3_b, ↓C.q14_b23_w, ↓C.q14_c24_w, ↓C.q14_r2_w, C.q14_r2_b, ↓C.q14_c25_w, ↓C.q14_r1_w, C.q14_r1_b, ↓C.q14_c26_w, ↓C.q14_c27_w, ↓C.q14_r0_w, C.q14_r0_b, C.q14, hr, hg, hzx, gx, g5, f7, p7, Int.toNat_natCast, Nat.mul_one]
      rw [C.q14_c6_w, awp_keep]
      simp only [↓Bp, Bq, Bs, ↓aop.eq_28, ↓aop.eq_30, Nat.reduceEqDiff, Nat.reduceAdd, Nat.reduceMul, Nat.reduceSub, Nat.reduceLeDiff, Nat.reduceLT, Int.reduceLT, Int.reduceLE, Int.reduceEq, Int.reduceToNat, Int.reduceAdd, Int.reduceSub, Int.reduceNeg, ↓reduceIte, reduceCtorEq, ↓C.q14_W, C.q14_B, C.q14, hr, hg, hzx, gx, g5, f7, p7, Int.toNat_natCast, Nat.mul_one]
      exact hQ _ rfl
    rw [hrx] at gx
    rw [if_neg (by rw [hrx]; decide)] at hQ
    by_cases hl : 0 < M[i].left
    · have T := eq_true hl
      have w : IntKind.i64.wrap (M[i].left - 1) = M[i].left - 1 := by rw [wrap64] <;> omega
      rw [if_pos hl] at hQ
      simp only [↓Bp, Bq, Bs, ↓aop.eq_28, ↓aop.eq_30, Nat.reduceEqDiff, Nat.reduceAdd, Nat.reduceMul, Nat.reduceSub, Nat.reduceLeDiff, Nat.reduceLT, Int.reduceLT, Int.reduceLE, Int.reduceEq, Int.reduceToNat, Int.reduceAdd, Int.reduceSub, Int.reduceNeg, ↓reduceIte, reduceCtorEq, ↓C.q14_r17_w, C.q14_r17_b, ↓C.q14_c1_w, ↓C.q14_r11_w, C.q14_r11_b, ↓C.q14_b7_w, ↓C.q14_c8_w, ↓C.q14_r10_w, C.q14_r10_b, ↓C.q14_c9_w, ↓C.q14_r9_w, C.q14_r9_b, ↓C.q14_b10_w, ↓C.q14_c11_w, ↓C.q14_c12_w, ↓C.q14_r8_w, C.q14_r8_b, ↓C.q14_b14_w, ↓C.q14_c15_w, ↓C.q14_r7_w, C.q14_r7_b, ↓C.q14_c16_w, ↓C.q14_r6_w, C.q14_r6_b, ↓C.q14_c17_w, ↓C.q14_r5_w, C.q14_r5_b, ↓C.q14_c18_w, ↓C.q14_r4_w, C.q14_r4_b, ↓C.q14_b19_w, ↓C.q14_c20_w, ↓C.q14_c21_w, ↓C.q14_r3_w, C.q14_r3_b, ↓C.q14_b23_w, ↓C.q14_c24_w, ↓C.q14_r2_w, C.q14_r2_b, ↓C.q14_c25_w, ↓C.q14_r1_w, C.q14_r1_b, ↓C.q14_c26_w, ↓C.q14_c27_w, ↓C.q14_r0_w, C.q14_r0_b, C.q14, hr, hg, hzx, gx, g0, g6, g7, gt_iff_lt, T, w, f7, p7, Int.toNat_natCast, Nat.mul_one]
      rw [C.q14_c6_w, awp_keep]
      simp only [↓Bp, Bq, Bs, ↓aop.eq_28, ↓aop.eq_30, Nat.reduceEqDiff, Nat.reduceAdd, Nat.reduceMul, Nat.reduceSub, Nat.reduceLeDiff, Nat.reduceLT, Int.reduceLT, Int.reduceLE, Int.reduceEq, Int.reduceToNat, Int.reduceAdd, Int.reduceSub, Int.reduceNeg, ↓reduceIte, reduceCtorEq, ↓C.q14_r17_w, C.q14_r17_b, ↓C.q14_c1_w, ↓C.q14_r12_w, C.q14_r12_b, ↓C.q14_r13_w, C.q14_r13_b, ↓C.q14_c5_w, ↓C.q14_c6_w, ↓C.q14_r11_w, C.q14_r11_b, ↓C.q14_b7_w, ↓C.q14_c8_w, ↓C.q14_r10_w, C.q14_r10_b, ↓C.q14_c9_w, ↓C.q14_r9_w, C.q14_r9_b, ↓C.q14_b10_w, ↓C.q14_c11_w, ↓C.q14_c12_w, ↓C.q14_r8_w, C.q14_r8_b, ↓C.q14_b14_w, ↓C.q14_c15_w, ↓C.q14_r7_w, C.q14_r7_b, ↓C.q14_c16_w, ↓C.q14_r6_w, C.q14_r6_b, ↓C.q14_c17_w, ↓C.q14_r5_w, C.q14_r5_b, ↓C.q14_c18_w, ↓C.q14_r4_w, C.q14_r4_b, ↓C.q14_b19_w, ↓C.q14_c20_w, ↓C.q14_c21_w, ↓C.q14_r3_w, C.q14_r3_b, ↓C.q14_b23_w, ↓C.q14_c24_w, ↓C.q14_r2_w, C.q14_r2_b, ↓C.q14_c25_w, ↓C.q14_r1_w, C.q14_r1_b, ↓C.q14_c26_w, ↓C.q14_c27_w, ↓C.q14_r0_w, C.q14_r0_b, C.q14, hr, hg, hzx, gx, g0, g6, g7, gt_iff_lt, T, w, f7, p7, Int.toNat_natCast, Nat.mul_one]
      rw [C.q14_c4_w, awp_keep]
      simp only [↓Bp, Bq, Bs, ↓aop.eq_28, ↓aop.eq_30, Nat.reduceEqDiff, Nat.reduceAdd, Nat.reduceMul, Nat.reduceSub, Nat.reduceLeDiff, Nat.reduceLT, Int.reduceLT, Int.reduceLE, Int.reduceEq, Int.reduceToNat, Int.reduceAdd, Int.reduceSub, Int.reduceNeg, ↓reduceIte, reduceCtorEq, ↓C.q14_W, C.q14_B, C.q14, hr, hg, hzx, gx, g0, g6, g7, gt_iff_lt, T, w, f7, p7, Int.toNat_natCast, Nat.mul_one]
      exact hQ _ rfl
    · have T := eq_false hl
      rw [if_neg hl, List.set_getElem_self, ASt.set_id hgx] at hQ
      simp only [↓Bp, Bq, Bs, ↓aop.eq_28, ↓aop.eq_30, Nat.reduceEqDiff, Nat.reduceAdd, Nat.reduceMul, Nat.reduceSub, Nat.reduceLeDiff, Nat.reduceLT, Int.reduceLT, Int.reduceLE, Int.reduceEq, Int.reduceToNat, Int.reduceAdd, Int.reduceSub, Int.reduceNeg, ↓reduceIte, reduceCtorEq, ↓C.q14_r17_w, C.q14_r17_b, ↓C.q14_c1_w, ↓C.q14_r11_w, C.q14_r11_b, ↓C.q14_b7_w, ↓C.q14_c8_w, ↓C.q14_r10_w, C.q14_r10_b, ↓C.q14_c9_w, ↓C.q14_r9_w, C.q14_r9_b, ↓C.q14_b10_w, ↓C.q14_c11_w, ↓C.q14_c12_w, ↓C.q14_r8_w, C.q14_r8_b, ↓C.q14_b14_w, ↓C.q14_c15_w, ↓C.q14_r7_w, C.q14_r7_b, ↓C.q14_c16_w, ↓C.q14_r6_w, C.q14_r6_b, ↓C.q14_c17_w, ↓C.q14_r5_w, C.q14_r5_b, ↓C.q14_c18_w, ↓C.q14_r4_w, C.q14_r4_b, ↓C.q14_b19_w, ↓C.q14_c20_w, ↓C.q14_c21_w, ↓C.q14_r3_w, C.q14_r3_b, ↓C.q14_b23_w, ↓C.q14_c24_w, ↓C.q14_r2_w, C.q14_r2_b, ↓C.q14_c25_w, ↓C.q14_r1_w, C.q14_r1_b, ↓C.q14_c26_w, ↓C.q14_c27_w, ↓C.q14_r0_w, C.q14_r0_b, C.q14, hr, hg, hzx, gx, g0, g6, g7, gt_iff_lt, T, Int.toNat_natCast, Nat.mul_one]
      rw [C.q14_c6_w, awp_keep]
      simp only [↓Bp, Bq, Bs, ↓aop.eq_28, ↓aop.eq_30, Nat.reduceEqDiff, Nat.reduceAdd, Nat.reduceMul, Nat.reduceSub, Nat.reduceLeDiff, Nat.reduceLT, Int.reduceLT, Int.reduceLE, Int.reduceEq, Int.reduceToNat, Int.reduceAdd, Int.reduceSub, Int.reduceNeg, ↓reduceIte, reduceCtorEq, ↓C.q14_r17_w, C.q14_r17_b, ↓C.q14_c1_w, ↓C.q14_r12_w, C.q14_r12_b, ↓C.q14_r13_w, C.q14_r13_b, ↓C.q14_c5_w, ↓C.q14_c6_w, ↓C.q14_r11_w, C.q14_r11_b, ↓C.q14_b7_w, ↓C.q14_c8_w, ↓C.q14_r10_w, C.q14_r10_b, ↓C.q14_c9_w, ↓C.q14_r9_w, C.q14_r9_b, ↓C.q14_b10_w, ↓C.q14_c11_w, ↓C.q14_c12_w, ↓C.q14_r8_w, C.q14_r8_b, ↓C.q14_b14_w, ↓C.q14_c15_w, ↓C.q14_r7_w, C.q14_r7_b, ↓C.q14_c16_w, ↓C.q14_r6_w, C.q14_r6_b, ↓C.q14_c17_w, ↓C.q14_r5_w, C.q14_r5_b, ↓C.q14_c18_w, ↓C.q14_r4_w, C.q14_r4_b, ↓C.q14_b19_w, ↓C.q14_c20_w, ↓C.q14_c21_w, ↓C.q14_r3_w, C.q14_r3_b, ↓C.q14_b23_w, ↓C.q14_c24_w, ↓C.q14_r2_w, C.q14_r2_b, ↓C.q14_c25_w, ↓C.q14_r1_w, C.q14_r1_b, ↓C.q14_c26_w, ↓C.q14_c27_w, ↓C.q14_r0_w, C.q14_r0_b, C.q14, hr, hg, hzx, gx, g0, g6, g7, gt_iff_lt, T, Int.toNat_natCast, Nat.mul_one]
      rw [C.q14_c4_w, awp_keep]
      simp only [↓Bp, Bq, Bs, ↓aop.eq_28, ↓aop.eq_30, Nat.reduceEqDiff, Nat.reduceAdd, Nat.reduceMul, Nat.reduceSub, Nat.reduceLeDiff, Nat.reduceLT, Int.reduceLT, Int.reduceLE, Int.reduceEq, Int.reduceToNat, Int.reduceAdd, Int.reduceSub, Int.reduceNeg, ↓reduceIte, reduceCtorEq, ↓C.q14_r17_w, C.q14_r17_b, ↓C.q14_c1_w, ↓C.q14_r12_w, C.q14_r12_b, ↓C.q14_r14_w, C.q14_r14_b, ↓C.q14_r15_w, C.q14_r15_b, ↓C.q14_c3_w, ↓C.q14_c4_w, ↓C.q14_r13_w, C.q14_r13_b, ↓C.q14_c5_w, ↓C.q14_c6_w, ↓C.q14_r11_w, C.q14_r11_b, ↓C.q14_b7_w, ↓C.q14_c8_w, ↓C.q14_r10_w, C.q14_r10_b, ↓C.q14_c9_w, ↓C.q14_r9_w, C.q14_r9_b, ↓C.q14_b10_w, ↓C.q14_c11_w, ↓C.q14_c12_w, ↓C.q14_r8_w, C.q14_r8_b, ↓C.q14_b14_w, ↓C.q14_c15_w, ↓C.q14_r7_w, C.q14_r7_b, ↓C.q14_c16_w, ↓C.q14_r6_w, C.q14_r6_b, ↓C.q14_c17_w, ↓C.q14_r5_w, C.q14_r5_b, ↓C.q14_c18_w, ↓C.q14_r4_w, C.q14_r4_b, ↓C.q14_b19_w, ↓C.q14_c20_w, ↓C.q14_c21_w, ↓C.q14_r3_w, C.q14_r3_b, ↓C.q14_b23_w, ↓C.q14_c24_w, ↓C.q14_r2_w, C.q14_r2_b, ↓C.q14_c25_w, ↓C.q14_r1_w, C.q14_r1_b, ↓C.q14_c26_w, ↓C.q14_c27_w, ↓C.q14_r0_w, C.q14_r0_b, C.q14, hr, hg, hzx, gx, g0, g6, g7, gt_iff_lt, T, Int.toNat_natCast, Nat.mul_one]
      rw [C.q14_c2_w, awp_keep]
      simp only [↓Bp, Bq, Bs, ↓aop.eq_28, ↓aop.eq_30, Nat.reduceEqDiff, Nat.reduceAdd, Nat.reduceMul, Nat.reduceSub, Nat.reduceLeDiff, Nat.reduceLT, Int.reduceLT, Int.reduceLE, Int.reduceEq, Int.reduceToNat, Int.reduceAdd, Int.reduceSub, Int.reduceNeg, ↓reduceIte, reduceCtorEq, ↓C.q14_W, C.q14_B, C.q14, hr, hg, hzx, gx, g0, g6, g7, gt_iff_lt, T, Int.toNat_natCast, Nat.mul_one]
      exact hQ _ rfl
  rw [if_neg k2] at hQ
  have T2 := eq_false k2
  by_cases k3 : M[i].c.kind = 109
  rotate_left
  · rw [if_neg (fun e => k3 e.1), List.set_getElem_self, ASt.set_id hgx] at hQ
    have T3 := eq_false k3
    simp only [↓Bp, Bq, Bs, ↓aop.eq_28, ↓aop.eq_30, Nat.reduceEqDiff, Nat.reduceAdd, Nat.reduceMul, Nat.reduceSub, Nat.reduceLeDiff, Nat.reduceLT, Int.reduceLT, Int.reduceLE, Int.reduceEq, Int.reduceToNat, Int.reduceAdd, Int.reduceSub, Int.reduceNeg, ↓reduceIte, reduceCtorEq, ↓C.q14_r17_w, C.q14_r17_b, ↓C.q14_c1_w, ↓C.q14_r11_w, C.q14_r11_b, ↓C.q14_b7_w, ↓C.q14_c8_w, ↓C.q14_r10_w, C.q14_r10_b, ↓C.q14_c9_w, ↓C.q14_r9_w, C.q14_r9_b, ↓C.q14_b10_w, ↓C.q14_c11_w, ↓C.q14_c12_w, ↓C.q14_r8_w, C.q14_r8_b, ↓C.q14_b14_w, ↓C.q14_c15_w, ↓C.q14_r7_w, C.q14_r7_b, ↓C.q14_c16_w, ↓C.q14_r6_w, C.q14_r6_b, ↓C.q14_c17_w, ↓C.q14_r5_w, C.q14_r5_b, ↓C.q14_c18_w, ↓C.q14_r4_w, C.q14_r4_b, ↓C.q14_b19_w, ↓C.q14_c20_w, ↓C.q14_c21_w, ↓C.q14_r3_w, C.q14_r3_b, ↓C.q14_b23_w, ↓C.q14_c24_w, ↓C.q14_r2_w, C.q14_r2_b, ↓C.q14_c25_w, ↓C.q14_r1_w, C.q14_r1_b, ↓C.q14_c26_w, ↓C.q14_c27_w, ↓C.q14_r0_w, C.q14_r0_b, C.q14, hp, hg, hz, g0, T2, T3, Int.toNat_natCast]
    rw [C.q14_c6_w, awp_keep]
    simp only [↓Bp, Bq, Bs, ↓aop.eq_28, ↓aop.eq_30, Nat.reduceEqDiff, Nat.reduceAdd, Nat.reduceMul, Nat.reduceSub, Nat.reduceLeDiff, Nat.reduceLT, Int.reduceLT, Int.reduceLE, Int.reduceEq, Int.reduceToNat, Int.reduceAdd, Int.reduceSub, Int.reduceNeg, ↓reduceIte, reduceCtorEq, ↓C.q14_r17_w, C.q14_r17_b, ↓C.q14_c1_w, ↓C.q14_r12_w, C.q14_r12_b, ↓C.q14_r13_w, C.q14_r13_b, ↓C.q14_c5_w, ↓C.q14_c6_w, ↓C.q14_r11_w, C.q14_r11_b, ↓C.q14_b7_w, ↓C.q14_c8_w, ↓C.q14_r10_w, C.q14_r10_b, ↓C.q14_c9_w, ↓C.q14_r9_w, C.q14_r9_b, ↓C.q14_b10_w, ↓C.q14_c11_w, ↓C.q14_c12_w, ↓C.q14_r8_w, C.q14_r8_b, ↓C.q14_b14_w, ↓C.q14_c15_w, ↓C.q14_r7_w, C.q14_r7_b, ↓C.q14_c16_w, ↓C.q14_r6_w, C.q14_r6_b, ↓C.q14_c17_w, ↓C.q14_r5_w, C.q14_r5_b, ↓C.q14_c18_w, ↓C.q14_r4_w, C.q14_r4_b, ↓C.q14_b19_w, ↓C.q14_c20_w, ↓C.q14_c21_w, ↓C.q14_r3_w, C.q14_r3_b, ↓C.q14_b23_w, ↓C.q14_c24_w, ↓C.q14_r2_w, C.q14_r2_b, ↓C.q14_c25_w, ↓C.q14_r1_w, C.q14_r1_b, ↓C.q14_c26_w, ↓C.q14_c27_w, ↓C.q14_r0_w, C.q14_r0_b, C.q14, hp, hg, hz, g0, T2, T3, Int.toNat_natCast]
    rw [C.q14_c4_w, awp_keep]
    simp only [↓Bp, Bq, Bs, ↓aop.eq_28, ↓aop.eq_30, Nat.reduceEqDiff, Nat.reduceAdd, Nat.reduceMul, Nat.reduceSub, Nat.reduceLeDiff, Nat.reduceLT, Int.reduceLT, Int.reduceLE, Int.reduceEq, Int.reduceToNat, Int.reduceAdd, Int.reduceSub, Int.reduceNeg, ↓reduceIte, reduceCtorEq, ↓C.q14_r17_w, C.q14_r17_b, ↓C.q14_c1_w, ↓C.q14_r12_w, C.q14_r12_b, ↓C.q14_r14_w, C.q14_r14_b, ↓C.q14_r15_w, C.q14_r15_b, ↓C.q14_c3_w, ↓C.q14_c4_w, ↓C.q14_r13_w, C.q14_r13_b, ↓C.q14_c5_w, ↓C.q14_c6_w, ↓C.q14_r11_w, C.q14_r11_b, ↓C.q14_b7_w, ↓C.q14_c8_w, ↓C.q14_r10_w, C.q14_r10_b, ↓C.q14_c9_w, ↓C.q14_r9_w, C.q14_r9_b, ↓C.q14_b10_w, ↓C.q14_c11_w, ↓C.q14_c12_w, ↓C.q14_r8_w, C.q14_r8_b, ↓C.q14_b14_w, ↓C.q14_c15_w, ↓C.q14_r7_w, C.q14_r7_b, ↓C.q14_c16_w, ↓C.q14_r6_w, C.q14_r6_b, ↓C.q14_c17_w, ↓C.q14_r5_w, C.q14_r5_b, ↓C.q14_c18_w, ↓C.q14_r4_w, C.q14_r4_b, ↓C.q14_b19_w, ↓C.q14_c20_w, ↓C.q14_c21_w, ↓C.q14_r3_w, C.q14_r3_b, ↓C.q14_b23_w, ↓C.q14_c24_w, ↓C.q14_r2_w, C.q14_r2_b, ↓C.q14_c25_w, ↓C.q14_r1_w, C.q14_r1_b, ↓C.q14_c26_w, ↓C.q14_c27_w, ↓C.q14_r0_w, C.q14_r0_b, C.q14, hp, hg, hz, g0, T2, T3, Int.toNat_natCast]
    rw [C.q14_c2_w, awp_keep]
    simp only [↓Bp, Bq, Bs, ↓aop.eq_28, ↓aop.eq_30, Nat.reduceEqDiff, Nat.reduceAdd, Nat.reduceMul, Nat.reduceSub, Nat.reduceLeDiff, Nat.reduceLT, Int.reduceLT, Int.reduceLE, Int.reduceEq, Int.reduceToNat, Int.reduceAdd, Int.reduceSub, Int.reduceNeg, ↓reduceIte, reduceCtorEq, ↓C.q14_W, C.q14_B, C.q14, hp, hg, hz, g0, T2, T3, Int.toNat_natCast]
    exact hQ _ rfl
  rw [k3] at g0
  by_cases hws : M[i].want = M[i].set
  · have T := eq_true hws
    rw [if_neg (fun e => e.2.1 hws), List.set_getElem_self, ASt.set_id hgx] at hQ
    simp only [↓Bp, Bq, Bs, ↓aop.eq_28, ↓aop.eq_30, Nat.reduceEqDiff, Nat.reduceAdd, Nat.reduceMul, Nat.reduceSub, Nat.reduceLeDiff, Nat.reduceLT, Int.reduceLT, Int.reduceLE, Int.reduceEq, Int.reduceToNat, Int.reduceAdd, Int.reduceSub, Int.reduceNeg, ↓reduceIte, reduceCtorEq, ↓C.q14_r17_w, C.q14_r17_b, ↓C.q14_c1_w, ↓C.q14_r11_w, C.q14_r11_b, ↓C.q14_b7_w, ↓C.q14_c8_w, ↓C.q14_r10_w, C.q14_r10_b, ↓C.q14_c9_w, ↓C.q14_r9_w, C.q14_r9_b, ↓C.q14_b10_w, ↓C.q14_c11_w, ↓C.q14_c12_w, ↓C.q14_r8_w, C.q14_r8_b, ↓C.q14_b14_w, ↓C.q14_c15_w, ↓C.q14_r7_w, C.q14_r7_b, ↓C.q14_c16_w, ↓C.q14_r6_w, C.q14_r6_b, ↓C.q14_c17_w, ↓C.q14_r5_w, C.q14_r5_b, ↓C.q14_c18_w, ↓C.q14_r4_w, C.q14_r4_b, ↓C.q14_b19_w, ↓C.q14_c20_w, ↓C.q14_c21_w, ↓C.q14_r3_w, C.q14_r3_b, ↓C.q14_b23_w, ↓C.q14_c24_w, ↓C.q14_r2_w, C.q14_r2_b, ↓C.q14_c25_w, ↓C.q14_r1_w, C.q14_r1_b, ↓C.q14_c26_w, ↓C.q14_c27_w, ↓C.q14_r0_w, C.q14_r0_b, C.q14, hp, hg, hz, g0, g8, g9, T, Int.toNat_natCast]
    rw [C.q14_c6_w, awp_keep]
    simp only [↓Bp, Bq, Bs, ↓aop.eq_28, ↓aop.eq_30, Nat.reduceEqDiff, Nat.reduceAdd, Nat.reduceMul, Nat.reduceSub, Nat.reduceLeDiff, Nat.reduceLT, Int.reduceLT, Int.reduceLE, Int.reduceEq, Int.reduceToNat, Int.reduceAdd, Int.reduceSub, Int.reduceNeg, ↓reduceIte, reduceCtorEq, ↓C.q14_r17_w, C.q14_r17_b, ↓C.q14_c1_w, ↓C.q14_r12_w, C.q14_r12_b, ↓C.q14_r13_w, C.q14_r13_b, ↓C.q14_c5_w, ↓C.q14_c6_w, ↓C.q14_r11_w, C.q14_r11_b, ↓C.q14_b7_w, ↓C.q14_c8_w, ↓C.q14_r10_w, C.q14_r10_b, ↓C.q14_c9_w, ↓C.q14_r9_w, C.q14_r9_b, ↓C.q14_b10_w, ↓C.q14_c11_w, ↓C.q14_c12_w, ↓C.q14_r8_w, C.q14_r8_b, ↓C.q14_b14_w, ↓C.q14_c15_w, ↓C.q14_r7_w, C.q14_r7_b, ↓C.q14_c16_w, ↓C.q14_r6_w, C.q14_r6_b, ↓C.q14_c17_w, ↓C.q14_r5_w, C.q14_r5_b, ↓C.q14_c18_w, ↓C.q14_r4_w, C.q14_r4_b, ↓C.q14_b19_w, ↓C.q14_c20_w, ↓C.q14_c21_w, ↓C.q14_r3_w, C.q14_r3_b, ↓C.q14_b23_w, ↓C.q14_c24_w, ↓C.q14_r2_w, C.q14_r2_b, ↓C.q14_c25_w, ↓C.q14_r1_w, C.q14_r1_b, ↓C.q14_c26_w, ↓C.q14_c27_w, ↓C.q14_r0_w, C.q14_r0_b, C.q14, hp, hg, hz, g0, g8, g9, T, Int.toNat_natCast]
    rw [C.q14_c4_w, awp_keep]
    simp only [↓Bp, Bq, Bs, ↓aop.eq_28, ↓aop.eq_30, Nat.reduceEqDiff, Nat.reduceAdd, Nat.reduceMul, Nat.reduceSub, Nat.reduceLeDiff, Nat.reduceLT, Int.reduceLT, Int.reduceLE, Int.reduceEq, Int.reduceToNat, Int.reduceAdd, Int.reduceSub, Int.reduceNeg, ↓reduceIte, reduceCtorEq, ↓C.q14_r17_w, C.q14_r17_b, ↓C.q14_c1_w, ↓C.q14_r12_w, C.q14_r12_b, ↓C.q14_r14_w, C.q14_r14_b, ↓C.q14_r15_w, C.q14_r15_b, ↓C.q14_c3_w, ↓C.q14_c4_w, ↓C.q14_r13_w, C.q14_r13_b, ↓C.q14_c5_w, ↓C.q14_c6_w, ↓C.q14_r11_w, C.q14_r11_b, ↓C.q14_b7_w, ↓C.q14_c8_w, ↓C.q14_r10_w, C.q14_r10_b, ↓C.q14_c9_w, ↓C.q14_r9_w, C.q14_r9_b, ↓C.q14_b10_w, ↓C.q14_c11_w, ↓C.q14_c12_w, ↓C.q14_r8_w, C.q14_r8_b, ↓C.q14_b14_w, ↓C.q14_c15_w, ↓C.q14_r7_w, C.q14_r7_b, ↓C.q14_c16_w, ↓C.q14_r6_w, C.q14_r6_b, ↓C.q14_c17_w, ↓C.q14_r5_w, C.q14_r5_b, ↓C.q14_c18_w, ↓C.q14_r4_w, C.q14_r4_b, ↓C.q14_b19_w, ↓C.q14_c20_w, ↓C.q14_c21_w, ↓C.q14_r3_w, C.q14_r3_b, ↓C.q14_b23_w, ↓C.q14_c24_w, ↓C.q14_r2_w, C.q14_r2_b, ↓C.q14_c25_w, ↓C.q14_r1_w, C.q14_r1_b, ↓C.q14_c26_w, ↓C.q14_c27_w, ↓C.q14_r0_w, C.q14_r0_b, C.q14, hp, hg, hz, g0, g8, g9, T, Int.toNat_natCast]
    rw [C.q14_c2_w, awp_keep]
    simp only [↓Bp, Bq, Bs, ↓aop.eq_28, ↓aop.eq_30, Nat.reduceEqDiff, Nat.reduceAdd, Nat.reduceMul, Nat.reduceSub, Nat.reduceLeDiff, Nat.reduceLT, Int.reduceLT, Int.reduceLE, Int.reduceEq, Int.reduceToNat, Int.reduceAdd, Int.reduceSub, Int.reduceNeg, ↓reduceIte, reduceCtorEq, ↓C.q14_W, C.q14_B, C.q14, hp, hg, hz, g0, g8, g9, T, Int.toNat_natCast]
    exact hQ _ rfl
  have T := eq_false hws
  have hsrc : M[i].c.src ≠ [] := fun e => by have := ho.osc.mpr e; rw [k3] at this; omega
  have hs := ho.set.2.1 hsrc
  have hs0 := ho.set.1
  have hw := ho.want.2.1 hsrc
  have hw0 := ho.want.1
  have hzs : 0 ≤ M[i].set ∧ M[i].set < (M[i].c.src.length : Nat) := ⟨hs0, hs⟩
  have hzw : 0 ≤ M[i].want ∧ M[i].want < (M[i].c.src.length : Nat) := ⟨hw0, hw⟩
  have at' : ∀ k : Int, 0 ≤ k → k < (M[i].c.src.length : Int) → ∃ x : Nat, M[i].c.src[k.toNat]? = some (x : Int) ∧ M[i].c.src.getD k.toNat 0 = (x : Int) ∧ x < i := fun k h1 h2 => by
    have hl : k.toNat < M[i].c.src.length := by omega
    have hm := ho.less _ (List.getElem_mem hl)
    refine ⟨M[i].c.src[k.toNat].toNat, ?_, ?_, by omega⟩
    · rw [List.getElem?_eq_getElem hl]; congr 1; omega
    · rw [List.getD_eq_getElem?_getD, List.getElem?_eq_getElem hl]; simp only [Option.getD_some]; omega
  obtain ⟨y, y1, y2, y3⟩ := at' _ hw0 hw
  obtain ⟨x, x1, x2, x3⟩ := at' _ hs0 hs
  have hgy := ints_get' y1
  have hgx2 := ints_get' x1
  have hyB : y < B.length := by omega
  have hxB : x < B.length := by omega
  have gy := cbools_get hyB
  rw [hBr y hyB] at gy
  have gx := cbools_get hxB
  rw [hBr x hxB] at gx
  have hzy : (0:Int) ≤ (y : Int) ∧ (y : Int) < (M.length : Nat) := by omega
  have hzx : (0:Int) ≤ (x : Int) ∧ (x : Int) < (M.length : Nat) := by omega
  rw [y2, x2, Int.toNat_natCast, Int.toNat_natCast] at hQ
  cases hry : run ns y
  rotate_left
  · rw [hry] at gy
    rw [if_pos ⟨k3, hws, .inl hry⟩] at hQ
    simp only [↓Bp, Bq, Bs, ↓aop.eq_28, ↓aop.eq_30, Nat.reduceEqDiff, Nat.reduceAdd, Nat.reduceMul, Nat.reduceSub, Nat.reduceLeDiff, Nat.reduceLT, Int.reduceLT, Int.reduceLE, Int.reduceEq, Int.reduceToNat, Int.reduceAdd, Int.reduceSub, Int.reduceNeg, ↓reduceIte, reduceCtorEq, ↓C.q14_r17_w, C.q14_r17_b, ↓C.q14_c1_w, ↓C.q14_r11_w, C.q14_r11_b, ↓C.q14_b7_w, ↓C.q14_c8_w, ↓C.q14_r10_w, C.q14_r10_b, ↓C.q14_c9_w, ↓C.q14_r9_w, C.q14_r9_b, ↓C.q14_b10_w, ↓C.q14_c11_w, ↓C.q14_c12_w, ↓C.q14_r8_w, C.q14_r8_b, ↓C.q14_b14_w, ↓C.q14_c15_w, ↓C.q14_r7_w, C.q14_r7_b, ↓C.q14_c16_w, ↓C.q14_r6_w, C.q14_r6_b, ↓C.q14_c17_w, ↓C.q14_r5_w, C.q14_r5_b, ↓C.q14_c18_w, ↓C.q14_r4_w, C.q14_r4_b, ↓C.q14_b19_w, ↓C.q14_c20_w, ↓C.q14_c21_w, ↓C.q14_r3_w, C.q14_r3_b, ↓C.q14_b23_w, ↓C.q14_c24_w, ↓C.q14_r2_w, C.q14_r2_b, ↓C.q14_c25_w, ↓C.q14_r1_w, C.q14_r1_b, ↓C.q14_c26_w, ↓C.q14_c27_w, ↓C.q14_r0_w, C.q14_r0_b, C.q14, hp, hr, hg, hz, g0, g1, row, g8, g9, T, hzw, hgy, hzy, gy, f8, p8, Int.toNat_natCast, Nat.mul_one]
    rw [C.q14_c6_w, awp_keep]
    simp only [↓Bp, Bq, Bs, ↓aop.eq_28, ↓aop.eq_30, Nat.reduceEqDiff, Nat.reduceAdd, Nat.reduceMul, Nat.reduceSub, Nat.reduceLeDiff, Nat.reduceLT, Int.reduceLT, Int.reduceLE, Int.reduceEq, Int.reduceToNat, Int.reduceAdd, Int.reduceSub, Int.reduceNeg, ↓reduceIte, reduceCtorEq, ↓C.q14_r17_w, C.q14_r17_b, ↓C.q14_c1_w, ↓C.q14_r12_w, C.q14_r12_b, ↓C.q14_r13_w, C.q14_r13_b, ↓C.q14_c5_w, ↓C.q14_c6_w, ↓C.q14_r11_w, C.q14_r11_b, ↓C.q14_b7_w, ↓C.q14_c8_w, ↓C.q14_r10_w, C.q14_r10_b, ↓C.q14_c9_w, ↓C.q14_r9_w, C.q14_r9_b, ↓C.q14_b10_w, ↓C.q14_c11_w, ↓C.q14_c12_w, ↓C.q14_r8_w, C.q14_r8_b, ↓C.q14_b14_w, ↓C.q14_c15_w, ↓C.q14_r7_w, C.q14_r7_b, ↓C.q14_c16_w, ↓C.q14_r6_w, C.q14_r6_b, ↓C.q14_c17_w, ↓C.q14_r5_w, C.q14_r5_b, ↓C.q14_c18_w, ↓C.q14_r4_w, C.q14_r4_b, ↓C.q14_b19_w, ↓C.q14_c20_w, ↓C.q14_c21_w, ↓C.q14_r3_w, C.q14_r3_b, ↓C.q14_b23_w, ↓C.q14_c24_w, ↓C.q14_r2_w, C.q14_r2_b, ↓C.q14_c25_w, ↓C.q14_r1_w, C.q14_r1_b, ↓C.q14_c26_w, ↓C.q14_c27_w, ↓C.q14_r0_w, C.q14_r0_b, C.q14, hp, hr, hg, hz, g0, g1, row, g8, g9, T, hzw, hgy, hzy, gy, f8, p8, Int.toNat_natCast, Nat.mul_one]
    rw [C.q14_c4_w, awp_keep]
    simp only [↓Bp, Bq, Bs, ↓aop.eq_28, ↓aop.eq_30, Nat.reduceEqDiff, Nat.reduceAdd, Nat.reduceMul, Nat.reduceSub, Nat.reduceLeDiff, Nat.reduceLT, Int.reduceLT, Int.reduceLE, Int.reduceEq, Int.reduceToNat, Int.reduceAdd, Int.reduceSub, Int.reduceNeg, ↓reduceIte, reduceCtorEq, ↓C.q14_r17_w, C.q14_r17_b, ↓C.q14_c1_w, ↓C.q14_r12_w, C.q14_r12_b, ↓C.q14_r14_w, C.q14_r14_b, ↓C.q14_r15_w, C.q14_r15_b, ↓C.q14_c3_w, ↓C.q14_c4_w, ↓C.q14_r13_w, C.q14_r13_b, ↓C.q14_c5_w, ↓C.q14_c6_w, ↓C.q14_r11_w, C.q14_r11_b, ↓C.q14_b7_w, ↓C.q14_c8_w, ↓C.q14_r10_w, C.q14_r10_b, ↓C.q14_c9_w, ↓C.q14_r9_w, C.q14_r9_b, ↓C.q14_b10_w, ↓C.q14_c11_w, ↓C.q14_c12_w, ↓C.q14_r8_w, C.q14_r8_b, ↓C.q14_b14_w, ↓C.q14_c15_w, ↓C.q14_r7_w, C.q14_r7_b, ↓C.q14_c16_w, ↓C.q14_r6_w, C.q14_r6_b, ↓C.q14_c17_w, ↓C.q14_r5_w, C.q14_r5_b, ↓C.q14_c18_w, ↓C.q14_r4_w, C.q14_r4_b, ↓C.q14_b19_w, ↓C.q14_c20_w, ↓C.q14_c21_w, ↓C.q14_r3_w, C.q14_r3_b, ↓C.q14_b23_w, ↓C.q14_c24_w, ↓C.q14_r2_w, C.q14_r2_b, ↓C.q14_c25_w, ↓C.q14_r1_w, C.q14_r1_b, ↓C.q14_c26_w, ↓C.q14_c27_w, ↓C.q14_r0_w, C.q14_r0_b, C.q14, hp, hr, hg, hz, g0, g1, row, g8, g9, T, hzw, hgy, hzy, gy, f8, p8, Int.toNat_natCast, Nat.mul_one]
    rw [C.q14_c2_w, awp_keep]
    simp only [↓Bp, Bq, Bs, ↓aop.eq_28, ↓aop.eq_30, Nat.reduceEqDiff, Nat.reduceAdd, Nat.reduceMul, Nat.reduceSub, Nat.reduceLeDiff, Nat.reduceLT, Int.reduceLT, Int.reduceLE, Int.reduceEq, Int.reduceToNat, Int.reduceAdd, Int.reduceSub, Int.reduceNeg, ↓reduceIte, reduceCtorEq, ↓C.q14_W, C.q14_B, C.q14, hp, hr, hg, hz, g0, g1, row, g8, g9, T, hzw, hgy, hzy, gy, f8, p8, Int.toNat_natCast, Nat.mul_one]
    exact hQ _ rfl
  rw [hry] at gy
  cases hrx : run ns x
  · rw [hrx] at gx
    rw [if_pos ⟨k3, hws, .inr hrx⟩] at hQ
    simp only [↓Bp, Bq, Bs, ↓aop.eq_28, ↓aop.eq_30, Nat.reduceEqDiff, Nat.reduceAdd, Nat.reduceMul, Nat.reduceSub, Nat.reduceLeDiff, Nat.reduceLT, Int.reduceLT, Int.reduceLE, Int.reduceEq, Int.reduceToNat, Int.reduceAdd, Int.reduceSub, Int.reduceNeg, ↓reduceIte, reduceCtorEq, ↓C.q14_r17_w, C.q14_r17_b, ↓C.q14_c1_w, ↓C.q14_r11_w, C.q14_r11_b, ↓C.q14_b7_w, ↓C.q14_c8_w, ↓C.q14_r10_w, C.q14_r10_b, ↓C.q14_c9_w, ↓C.q14_r9_w, C.q14_r9_b, ↓C.q14_b10_w, ↓C.q14_c11_w, ↓C.q14_c12_w, ↓C.q14_r8_w, C.q14_r8_b, ↓C.q14_b14_w, ↓C.q14_c15_w, ↓C.q14_r7_w, C.q14_r7_b, ↓C.q14_c16_w, ↓C.q14_r6_w, C.q14_r6_b, ↓C.q14_c17_w, ↓C.q14_r5_w, C.q14_r5_b, ↓C.q14_c18_w, ↓C.q14_r4_w, C.q14_r4_b, ↓C.q14_b19_w, ↓C.q14_c20_w, ↓C.q14_c21_w, ↓C.q14_r3_w, C.q14_r3_b, ↓C.q14_b23_w, ↓C.q14_c24_w, ↓C.q14_r2_w, C.q14_r2_b, ↓C.q14_c25_w, ↓C.q14_r1_w, C.q14_r1_b, ↓C.q14_c26_w, ↓C.q14_c27_w, ↓C.q14_r0_w, C.q14_r0_b, C.q14, hp, hr, hg, hz, g0, g1, row, g8, g9, T, hzw, hgy, hzy, gy, hzs, hgx2, hzx, gx, f8, p8, Int.toNat_natCast, Nat.mul_one]
    rw [C.q14_c6_w, awp_keep]
    simp only [↓Bp, Bq, Bs, ↓aop.eq_28, ↓aop.eq_30, Nat.reduceEqDiff, Nat.reduceAdd, Nat.reduceMul, Nat.reduceSub, Nat.reduceLeDiff, Nat.reduceLT, Int.reduceLT, Int.reduceLE, Int.reduceEq, Int.reduceToNat, Int.reduceAdd, Int.reduceSub, Int.reduceNeg, ↓reduceIte, reduceCtorEq, ↓C.q14_r17_w, C.q14_r17_b, ↓C.q14_c1_w, ↓C.q14_r12_w, C.q14_r12_b, ↓C.q14_r13_w, C.q14_r13_b, ↓C.q14_c5_w, ↓C.q14_c6_w, ↓C.q14_r11_w, C.q14_r11_b, ↓C.q14_b7_w, ↓C.q14_c8_w, ↓C.q14_r10_w, C.q14_r10_b, ↓C.q14_c9_w, ↓C.q14_r9_w, C.q14_r9_b, ↓C.q14_b10_w, ↓C.q14_c11_w, ↓C.q14_c12_w, ↓C.q14_r8_w, C.q14_r8_b, ↓C.q14_b14_w, ↓C.q14_c15_w, ↓C.q14_r7_w, C.q14_r7_b, ↓C.q14_c16_w, ↓C.q14_r6_w, C.q14_r6_b, ↓C.q14_c17_w, ↓C.q14_r5_w, C.q14_r5_b, ↓C.q14_c18_w, ↓C.q14_r4_w, C.q14_r4_b, ↓C.q14_b19_w, ↓C.q14_c20_w, ↓C.q14_c21_w, ↓C.q14_r3_w, C.q14_r3_b, ↓C.q14_b23_w, ↓C.q14_c24_w, ↓C.q14_r2_w, C.q14_r2_b, ↓C.q14_c25_w, ↓C.q14_r1_w, C.q14_r1_b, ↓C.q14_c26_w, ↓C.q14_c27_w, ↓C.q14_r0_w, C.q14_r0_b, C.q14, hp, hr, hg, hz, g0, g1, row, g8, g9, T, hzw, hgy, hzy, gy, hzs, hgx2, hzx, gx, f8, p8, Int.toNat_natCast, Nat.mul_one]
    rw [C.q14_c4_w, awp_keep]
    simp only [↓Bp, Bq, Bs, ↓aop.eq_28, ↓aop.eq_30, Nat.reduceEqDiff, Nat.reduceAdd, Nat.reduceMul, Nat.reduceSub, Nat.reduceLeDiff, Nat.reduceLT, Int.reduceLT, Int.reduceLE, Int.reduceEq, Int.reduceToNat, Int.reduceAdd, Int.reduceSub, Int.reduceNeg, ↓reduceIte, reduceCtorEq, ↓C.q14_r17_w, C.q14_r17_b, ↓C.q14_c1_w, ↓C.q14_r12_w, C.q14_r12_b, ↓C.q14_r14_w, C.q14_r14_b, ↓C.q14_r15_w, C.q14_r15_b, ↓C.q14_c3_w, ↓C.q14_c4_w, ↓C.q14_r13_w, C.q14_r13_b, ↓C.q14_c5_w, ↓C.q14_c6_w, ↓C.q14_r11_w, C.q14_r11_b, ↓C.q14_b7_w, ↓C.q14_c8_w, ↓C.q14_r10_w, C.q14_r10_b, ↓C.q14_c9_w, ↓C.q14_r9_w, C.q14_r9_b, ↓C.q14_b10_w, ↓C.q14_c11_w, ↓C.q14_c12_w, ↓C.q14_r8_w, C.q14_r8_b, ↓C.q14_b14_w, ↓C.q14_c15_w, ↓C.q14_r7_w, C.q14_r7_b, ↓C.q14_c16_w, ↓C.q14_r6_w, C.q14_r6_b, ↓C.q14_c17_w, ↓C.q14_r5_w, C.q14_r5_b, ↓C.q14_c18_w, ↓C.q14_r4_w, C.q14_r4_b, ↓C.q14_b19_w, ↓C.q14_c20_w, ↓C.q14_c21_w, ↓C.q14_r3_w, C.q14_r3_b, ↓C.q14_b23_w, ↓C.q14_c24_w, ↓C.q14_r2_w, C.q14_r2_b, ↓C.q14_c25_w, ↓C.q14_r1_w, C.q14_r1_b, ↓C.q14_c26_w, ↓C.q14_c27_w, ↓C.q14_r0_w, C.q14_r0_b, C.q14, hp, hr, hg, hz, g0, g1, row, g8, g9, T, hzw, hgy, hzy, gy, hzs, hgx2, hzx, gx, f8, p8, Int.toNat_natCast, Nat.mul_one]
    rw [C.q14_c2_w, awp_keep]
    simp only [↓Bp, Bq, Bs, ↓aop.eq_28, ↓aop.eq_30, Nat.reduceEqDiff, Nat.reduceAdd, Nat.reduceMul, Nat.reduceSub, Nat.reduceLeDiff, Nat.reduceLT, Int.reduceLT, Int.reduceLE, Int.reduceEq, Int.reduceToNat, Int.reduceAdd, Int.reduceSub, Int.reduceNeg, ↓reduceIte, reduceCtorEq, ↓C.q14_W, C.q14_B, C.q14, hp, hr, hg, hz, g0, g1, row, g8, g9, T, hzw, hgy, hzy, gy, hzs, hgx2, hzx, gx, f8, p8, Int.toNat_natCast, Nat.mul_one]
    exact hQ _ rfl
  · rw [hrx] at gx
    rw [if_neg (by rintro ⟨_, _, e | e⟩ <;> simp_all), List.set_getElem_self, ASt.set_id hgx] at hQ
    simp only [↓Bp, Bq, Bs, ↓aop.eq_28, ↓aop.eq_30, Nat.reduceEqDiff, Nat.reduceAdd, Nat.reduceMul, Nat.reduceSub, Nat.reduceLeDiff, Nat.reduceLT, Int.reduceLT, Int.reduceLE, Int.reduceEq, Int.reduceToNat, Int.reduceAdd, Int.reduceSub, Int.reduceNeg, ↓reduceIte, reduceCtorEq, ↓C.q14_r17_w, C.q14_r17_b, ↓C.q14_c1_w, ↓C.q14_r11_w, C.q14_r11_b, ↓C.q14_b7_w, ↓C.q14_c8_w, ↓C.q14_r10_w, C.q14_r10_b, ↓C.q14_c9_w, ↓C.q14_r9_w, C.q14_r9_b, ↓C.q14_b10_w, ↓C.q14_c11_w, ↓C.q14_c12_w, ↓C.q14_r8_w, C.q14_r8_b, ↓C.q14_b14_w, ↓C.q14_c15_w, ↓C.q14_r7_w, C.q14_r7_b, ↓C.q14_c16_w, ↓C.q14_r6_w, C.q14_r6_b, ↓C.q14_c17_w, ↓C.q14_r5_w, C.q14_r5_b, ↓C.q14_c18_w, ↓C.q14_r4_w, C.q14_r4_b, ↓C.q14_b19_w, ↓C.q14_c20_w, ↓C.q14_c21_w, ↓C.q14_r3_w, C.q14_r3_b, ↓C.q14_b23_w, ↓C.q14_c24_w, ↓C.q14_r2_w, C.q14_r2_b, ↓C.q14_c25_w, ↓C.q14_r1_w, C.q14_r1_b, ↓C.q14_c26_w, ↓C.q14_c27_w, ↓C.q14_r0_w, C.q14_r0_b, C.q14, hp, hr, hg, hz, g0, g1, row, g8, g9, T, hzw, hgy, hzy, gy, hzs, hgx2, hzx, gx, f8, p8, Int.toNat_natCast, Nat.mul_one]
    rw [C.q14_c6_w, awp_keep]
    simp only [↓Bp, Bq, Bs, ↓aop.eq_28, ↓aop.eq_30, Nat.reduceEqDiff, Nat.reduceAdd, Nat.reduceMul, Nat.reduceSub, Nat.reduceLeDiff, Nat.reduceLT, Int.reduceLT, Int.reduceLE, Int.reduceEq, Int.reduceToNat, Int.reduceAdd, Int.reduceSub, Int.reduceNeg, ↓reduceIte, reduceCtorEq, ↓C.q14_r17_w, C.q14_r17_b, ↓C.q14_c1_w, ↓C.q14_r12_w, C.q14_r12_b, ↓C.q14_r13_w, C.q14_r13_b, ↓C.q14_c5_w, ↓C.q14_c6_w, ↓C.q14_r11_w, C.q14_r11_b, ↓C.q14_b7_w, ↓C.q14_c8_w, ↓C.q14_r10_w, C.q14_r10_b, ↓C.q14_c9_w, ↓C.q14_r9_w, C.q14_r9_b, ↓C.q14_b10_w, ↓C.q14_c11_w, ↓C.q14_c12_w, ↓C.q14_r8_w, C.q14_r8_b, ↓C.q14_b14_w, ↓C.q14_c15_w, ↓C.q14_r7_w, C.q14_r7_b, ↓C.q14_c16_w, ↓C.q14_r6_w, C.q14_r6_b, ↓C.q14_c17_w, ↓C.q14_r5_w, C.q14_r5_b, ↓C.q14_c18_w, ↓C.q14_r4_w, C.q14_r4_b, ↓C.q14_b19_w, ↓C.q14_c20_w, ↓C.q14_c21_w, ↓C.q14_r3_w, C.q14_r3_b, ↓C.q14_b23_w, ↓C.q14_c24_w, ↓C.q14_r2_w, C.q14_r2_b, ↓C.q14_c25_w, ↓C.q14_r1_w, C.q14_r1_b, ↓C.q14_c26_w, ↓C.q14_c27_w, ↓C.q14_r0_w, C.q14_r0_b, C.q14, hp, hr, hg, hz, g0, g1, row, g8, g9, T, hzw, hgy, hzy, gy, hzs, hgx2, hzx, gx, f8, p8, Int.toNat_natCast, Nat.mul_one]
    rw [C.q14_c4_w, awp_keep]
    simp only [↓Bp, Bq, Bs, ↓aop.eq_28, ↓aop.eq_30, Nat.reduceEqDiff, Nat.reduceAdd, Nat.reduceMul, Nat.reduceSub, Nat.reduceLeDiff, Nat.reduceLT, Int.reduceLT, Int.reduceLE, Int.reduceEq, Int.reduceToNat, Int.reduceAdd, Int.reduceSub, Int.reduceNeg, ↓reduceIte, reduceCtorEq, ↓C.q14_r17_w, C.q14_r17_b, ↓C.q14_c1_w, ↓C.q14_r12_w, C.q14_r12_b, ↓C.q14_r14_w, C.q14_r14_b, ↓C.q14_r15_w, C.q14_r15_b, ↓C.q14_c3_w, ↓C.q14_c4_w, ↓C.q14_r13_w, C.q14_r13_b, ↓C.q14_c5_w, ↓C.q14_c6_w, ↓C.q14_r11_w, C.q14_r11_b, ↓C.q14_b7_w, ↓C.q14_c8_w, ↓C.q14_r10_w, C.q14_r10_b, ↓C.q14_c9_w, ↓C.q14_r9_w, C.q14_r9_b, ↓C.q14_b10_w, ↓C.q14_c11_w, ↓C.q14_c12_w, ↓C.q14_r8_w, C.q14_r8_b, ↓C.q14_b14_w, ↓C.q14_c15_w, ↓C.q14_r7_w, C.q14_r7_b, ↓C.q14_c16_w, ↓C.q14_r6_w, C.q14_r6_b, ↓C.q14_c17_w, ↓C.q14_r5_w, C.q14_r5_b, ↓C.q14_c18_w, ↓C.q14_r4_w, C.q14_r4_b, ↓C.q14_b19_w, ↓C.q14_c20_w, ↓C.q14_c21_w, ↓C.q14_r3_w, C.q14_r3_b, ↓C.q14_b23_w, ↓C.q14_c24_w, ↓C.q14_r2_w, C.q14_r2_b, ↓C.q14_c25_w, ↓C.q14_r1_w, C.q14_r1_b, ↓C.q14_c26_w, ↓C.q14_c27_w, ↓C.q14_r0_w, C.q14_r0_b, C.q14, hp, hr, hg, hz, g0, g1, row, g8, g9, T, hzw, hgy, hzy, gy, hzs, hgx2, hzx, gx, f8, p8, Int.toNat_natCast, Nat.mul_one]
    rw [C.q14_c2_w, awp_keep]
    simp only [↓Bp, Bq, Bs, ↓aop.eq_28, ↓aop.eq_30, Nat.reduceEqDiff, Nat.reduceAdd, Nat.reduceMul, Nat.reduceSub, Nat.reduceLeDiff, Nat.reduceLT, Int.reduceLT, Int.reduceLE, Int.reduceEq, Int.reduceToNat, Int.reduceAdd, Int.reduceSub, Int.reduceNeg, ↓reduceIte, reduceCtorEq, ↓C.q14_W, C.q14_B, C.q14, hp, hr, hg, hz, g0, g1, row, g8, g9, T, hzw, hgy, hzy, gy, hzs, hgx2, hzx, gx, f8, p8, Int.toNat_natCast, Nat.mul_one]
    exact hQ _ rfl
end
section
variable {st : ASt} {p ig : Nat} {ns : List Nd}
set_option maxHeartbeats 1000000 in
theorem ctick_spec (h : TreeAt st p ig ns) (hN : NsOk ns) : ACalls Try.prog F.q14 [.ptr p 0] st fun r s => s = st.set ig (nsC (ctickL ns)) := by
  refine ACalls.gc (Q' := fun r s => (st.set ig (nsC (ctickL ns))).le s) (calls_of_awp L.q14 rfl ?_) (fun v s hl => ⟨_, hl, rfl⟩)
  have hp := h.hp
  have hfew := h.few
  have hzn : (0 : Int) ≤ (ns.length : Nat) ∧ ((ns.length : Nat) : Int) ≤ 4294967296 := by omega
  simp only [↓Bp, Bq, Bs, ↓aop.eq_28, ↓aop.eq_30, Nat.reduceEqDiff, Nat.reduceAdd, Nat.reduceMul, Nat.reduceSub, Nat.reduceLeDiff, Nat.reduceLT, Int.reduceLT, Int.reduceLE, Int.reduceEq, Int.reduceToNat, Int.reduceAdd, Int.reduceSub, Int.reduceNeg, ↓reduceIte, reduceCtorEq, ↓C.q14_r1_w, C.q14_r1_b, ↓C.q14_c26_w, ↓C.q14_c27_w, ↓C.q14_r0_w, C.q14_r0_b, C.q14, hp, hzn, Int.toNat_natCast]
  rintro ir hir
  rw [zeros_cbool]
  have hns := fun a b => ASt.new_set hir a b
  have hself := fun o => ASt.new_self (st := st) (id := ir) o hir
  simp only [↓Bp, Bq, Bs, ↓aop.eq_28, ↓aop.eq_30, Nat.reduceEqDiff, Nat.reduceAdd, Nat.reduceMul, Nat.reduceSub, Nat.reduceLeDiff, Nat.reduceLT, Int.reduceLT, Int.reduceLE, Int.reduceEq, Int.reduceToNat, Int.reduceAdd, Int.reduceSub, Int.reduceNeg, ↓reduceIte, reduceCtorEq, ↓C.q14_W, C.q14_B, C.q14, hp, hir]
  refine awp_midB (fun _ : Unit => [(0, .ptr p 0), (2, .sl 1 ir 0 ns.length)]) (fun _ s => ∃ B : List Bool, s = st.new ir (.cells (cbools B)) ∧ B.length = ns.length ∧ ∀ j (hj : j < B.length), B[j] = run ns j) ?_ ?_
  · refine awp_loopK (fun i : Nat => [(0, .ptr p 0), (2, .sl 1 ir 0 ns.length), (18, .int .i64 ns.length), (19, .int .i64 i)]) (fun i s => i ≤ ns.length ∧ ∃ B : List Bool, s = st.new ir (.cells (cbools B)) ∧ B.length = ns.length ∧ ∀ j (hj : j < B.length), j < i → B[j] = run ns j) (fun i => ns.length - i) 0 rfl ⟨Nat.zero_le _, _, rfl, by simp, fun j _ h => by omega⟩ ?_
    rintro i s ⟨hi, B, rfl, hB, hBr⟩
    by_cases hil : i < ns.length
    rotate_left
    · have hil' : ¬ (i : Int) < (ns.length : Nat) := by omega
      simp only [↓Bp, Bq, Bs, ↓aop.eq_28, ↓aop.eq_30, Nat.reduceEqDiff, Nat.reduceAdd, Nat.reduceMul, Nat.reduceSub, Nat.reduceLeDiff, Nat.reduceLT, Int.reduceLT, Int.reduceLE, Int.reduceEq, Int.reduceToNat, Int.reduceAdd, Int.reduceSub, Int.reduceNeg, ↓reduceIte, reduceCtorEq, ↓C.q14_W, C.q14_B, C.q14, hil']
      exact ⟨(), B, rfl, hB, fun j hj => hBr j hj (by omega)⟩
    have hil' : (i : Int) < (ns.length : Nat) := by omega
    have hw := wsucc hil (by omega)
    have hz : (0:Int) ≤ (i : Int) ∧ (i : Int) < (ns.length : Nat) := by omega
    have hfx : i < (cbools B).length := by rw [cbools_len, hB]; exact hil
    have hset := cbools_set B i (run ns i)
    simp only [↓Bp, Bq, Bs, ↓aop.eq_28, ↓aop.eq_30, Nat.reduceEqDiff, Nat.reduceAdd, Nat.reduceMul, Nat.reduceSub, Nat.reduceLeDiff, Nat.reduceLT, Int.reduceLT, Int.reduceLE, Int.reduceEq, Int.reduceToNat, Int.reduceAdd, Int.reduceSub, Int.reduceNeg, ↓reduceIte, reduceCtorEq, ↓C.q14_W, C.q14_B, C.q14, hil']
    refine (running_at (h.le (ASt.le.new _ _ _)) hN hil).mono ?_
    rintro r s ⟨rfl, rfl⟩
    simp only [↓Bp, Bq, Bs, ↓aop.eq_28, ↓aop.eq_30, Nat.reduceEqDiff, Nat.reduceAdd, Nat.reduceMul, Nat.reduceSub, Nat.reduceLeDiff, Nat.reduceLT, Int.reduceLT, Int.reduceLE, Int.reduceEq, Int.reduceToNat, Int.reduceAdd, Int.reduceSub, Int.reduceNeg, ↓reduceIte, reduceCtorEq, ↓C.q14_W, C.q14_B, C.q14, hz, hir, hfx, hset, hns, Int.toNat_natCast, Nat.mul_one, hw]
    refine ⟨i + 1, rfl, ⟨hil, _, rfl, by simp [hB], fun j hj h2 => ?_⟩, by omega⟩
    simp only [List.length_set] at hj
    rw [List.getElem_set]
    split
    · rename_i e; subst e; rfl
    · rename_i e; exact hBr j hj (by omega)
  · rintro - s ⟨B, rfl, hB, hBr⟩
    have hpn := ASt.new_old (id := ir) (o := .cells (cbools B)) hp
    have hT0 := h.le (ASt.le.new st ir (.cells (cbools B)))
    have hle0 := ASt.le.set_new st ir (.cells (cbools B)) ig
    have hnr : ir ≠ ig := by rintro rfl; rw [h.hg] at hir; cases hir
    have hr0 := hself (.cells (cbools B))
    generalize st.new ir (.cells (cbools B)) = s0 at hpn hT0 hle0 hr0
    simp only [↓Bp, Bq, Bs, ↓aop.eq_28, ↓aop.eq_30, Nat.reduceEqDiff, Nat.reduceAdd, Nat.reduceMul, Nat.reduceSub, Nat.reduceLeDiff, Nat.reduceLT, Int.reduceLT, Int.reduceLE, Int.reduceEq, Int.reduceToNat, Int.reduceAdd, Int.reduceSub, Int.reduceNeg, ↓reduceIte, reduceCtorEq, ↓C.q14_W, C.q14_B, C.q14, hpn]
    refine awp_loopK (fun i : Nat => [(0, .ptr p 0), (2, .sl 1 ir 0 ns.length), (33, .int .i64 ns.length), (34, .int .i64 i)]) (fun i s => i ≤ ns.length ∧ s = s0.set ig (nsC (ctickTo ns (run ns) i))) (fun i => ns.length - i) 0 rfl ⟨Nat.zero_le _, by
      rw [show ctickTo ns (run ns) 0 = ns by simp [ctickTo]]; exact (ASt.set_id hT0.hg).symm⟩ ?_
    rintro i s ⟨hi, rfl⟩
    by_cases hil : i < ns.length
    rotate_left
    · have hil' : ¬ (i : Int) < (ns.length : Nat) := by omega
      simp only [↓Bp, Bq, Bs, ↓aop.eq_28, ↓aop.eq_30, Nat.reduceEqDiff, Nat.reduceAdd, Nat.reduceMul, Nat.reduceSub, Nat.reduceLeDiff, Nat.reduceLT, Int.reduceLT, Int.reduceLE, Int.reduceEq, Int.reduceToNat, Int.reduceAdd, Int.reduceSub, Int.reduceNeg, ↓reduceIte, reduceCtorEq, ↓C.q14_W, C.q14_B, C.q14, hil']
      rw [show i = ns.length by omega, ctickTo_all]
      exact hle0 _
    have hil' : (i : Int) < (ns.length : Nat) := by omega
    have hw := wsucc hil (by omega)
    have hT := hT0.set (ns' := ctickTo ns (run ns) i) (ctickTo_len ns _ i)
    have hr : (s0.set ig (nsC (ctickTo ns (run ns) i))).h ir = some (.cells (cbools B)) := by rw [ASt.set_h, if_neg hnr]; exact hr0
    have hil2 : i < (ctickTo ns (run ns) i).length := by rw [ctickTo_len]; exact hil
    have eat : (ctickTo ns (run ns) i)[i] = ns[i] := ctickTo_at hil
    have el := ctickTo_len ns (run ns) i
    simp only [↓Bp, Bq, Bs, ↓aop.eq_28, ↓aop.eq_30, Nat.reduceEqDiff, Nat.reduceAdd, Nat.reduceMul, Nat.reduceSub, Nat.reduceLeDiff, Nat.reduceLT, Int.reduceLT, Int.reduceLE, Int.reduceEq, Int.reduceToNat, Int.reduceAdd, Int.reduceSub, Int.reduceNeg, ↓reduceIte, reduceCtorEq, ↓C.q14_r17_w, C.q14_r17_b, ↓C.q14_c1_w, ↓C.q14_r9_w, C.q14_r9_b, ↓C.q14_b10_w, ↓C.q14_c11_w, ↓C.q14_c12_w, ↓C.q14_r8_w, C.q14_r8_b, ↓C.q14_b14_w, ↓C.q14_c15_w, ↓C.q14_r7_w, C.q14_r7_b, ↓C.q14_c16_w, ↓C.q14_r6_w, C.q14_r6_b, ↓C.q14_c17_w, ↓C.q14_r5_w, C.q14_r5_b, ↓C.q14_c18_w, ↓C.q14_r4_w, C.q14_r4_b, ↓C.q14_b19_w, ↓C.q14_c20_w, ↓C.q14_c21_w, ↓C.q14_r3_w, C.q14_r3_b, ↓C.q14_b23_w, ↓C.q14_c24_w, ↓C.q14_r2_w, C.q14_r2_b, ↓C.q14_c25_w, ↓C.q14_r1_w, C.q14_r1_b, ↓C.q14_c26_w, ↓C.q14_c27_w, ↓C.q14_r0_w, C.q14_r0_b, C.q14, hil']
    rw [C.q14_c9_w, awp_keep]
    have key := @tick_node p ig ir ns B (s0.set ig (nsC (ctickTo ns (run ns) i))) i (ctickTo ns (run ns) i) hT hr (by rw [el]; exact hB) hBr hil2 (by rw [eat]; exact hN i hil)
    rw [eat, ctickTo_set hil, ASt.set_set, el] at key
    refine key fun fr e => ?_
    show awp Try.prog C.q14_c1 _ fr _
    rw [C.q14_c1_w, awp_keep, e]
    simp only [↓Bp, Bq, Bs, ↓aop.eq_28, ↓aop.eq_30, Nat.reduceEqDiff, Nat.reduceAdd, Nat.reduceMul, Nat.reduceSub, Nat.reduceLeDiff, Nat.reduceLT, Int.reduceLT, Int.reduceLE, Int.reduceEq, Int.reduceToNat, Int.reduceAdd, Int.reduceSub, Int.reduceNeg, ↓reduceIte, reduceCtorEq, ↓C.q14_W, C.q14_B, C.q14, hw]
    exact ⟨i + 1, rfl, ⟨hil, rfl⟩, by omega⟩
end
end Go.Proofs.Ytkioaemhdbcfaaa.Cn
