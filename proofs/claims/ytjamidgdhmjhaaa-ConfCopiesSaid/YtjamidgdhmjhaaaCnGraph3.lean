/- Graphs: on how many each node waits, and which wait for it. -/
import Derived.Test.YtjamidgdhmjhaaaCnGraph2
set_option linter.unusedSimpArgs false
set_option linter.unusedVariables false
namespace Go.Proofs.Ytjamidgdhmjhaaa.Cn
open Go Go.Proofs

/-- When all rows ahead of k, and of the k-th the numbers of T, have been looked at. -/
def WsI (g : Gr) (k : Nat) (T ws : List Int) : Prop := ws.length = g.length ∧ ∀ v (h : v < ws.length), ws[v] = if v < k then (wcnt g [] v : Int) else if v = k then ((List.range g.length).countP fun u : Nat => decide ((u : Int) ∈ T) : Nat) else 0
def UsI (g : Gr) (k : Nat) (T : List Int) (us : Gr) : Prop := us.length = g.length ∧ ∀ u (h : u < us.length), ∃ l : List Nat, us[u] = nats l ∧ l.Nodup ∧ ∀ w, w ∈ l ↔ (w < k ∧ u ∈ deps g w) ∨ (w = k ∧ (u : Int) ∈ T)

theorem WsI.same {g : Gr} {k : Nat} {T T' ws : List Int} (h : WsI g k T ws) (hT : ∀ y, y ∈ T' ↔ y ∈ T) : WsI g k T' ws :=
  ⟨h.1, fun v hv => by rw [h.2 v hv]; simp only [hT]⟩
theorem UsI.same {g us : Gr} {k : Nat} {T T' : List Int} (h : UsI g k T us) (hT : ∀ y, y ∈ T' ↔ y ∈ T) : UsI g k T' us :=
  ⟨h.1, fun v hv => by
    obtain ⟨l, a, b, c⟩ := h.2 v hv
    exact ⟨l, a, b, fun w => by rw [c, hT]⟩⟩
theorem WsI.add {g : Gr} {k : Nat} {T T' ws : List Int} (h : WsI g k T ws) {x : Nat} (hx : x < g.length) (hxT : (x : Int) ∉ T) (hT : ∀ y, y ∈ T' ↔ y ∈ T ∨ y = x) (hk : k < ws.length) : WsI g k T' (ws.set k (ws[k] + 1)) := by
  refine ⟨by simp [h.1], fun v hv' => ?_⟩
  have hv : v < ws.length := by simpa using hv'
  by_cases e : v = k
  · subst e
    rw [List.getElem_set_self, h.2 v hv]
    simp only [Nat.lt_irrefl, if_false, if_true]
    rw [countP_range_add (p := fun u : Nat => decide ((u : Int) ∈ T)) (q := fun u : Nat => decide ((u : Int) ∈ T')) hx (by simp [hxT]) (by simp [hT]) (fun y hy => by
      have : ¬ (y : Int) = (x : Int) := by omega
      simp [hT, this])]
    omega
  · rw [List.getElem_set_ne (Ne.symm e), h.2 v hv]
    simp only [e, if_false]
theorem UsI.add {g us : Gr} {k : Nat} {T T' : List Int} (h : UsI g k T us) {x : Nat} (hx : x < us.length) (hxT : (x : Int) ∉ T) (hT : ∀ y, y ∈ T' ↔ y ∈ T ∨ y = x) : UsI g k T' (us.set x (us[x] ++ [(k : Int)])) := by
  refine ⟨by simp [h.1], fun u hu' => ?_⟩
  have hu : u < us.length := by simpa using hu'
  by_cases e : u = x
  · subst e
    obtain ⟨l, a, b, c⟩ := h.2 u hu
    refine ⟨l ++ [k], by rw [List.getElem_set_self, a, nats_append]; rfl, ?_, fun w => ?_⟩
    · rw [List.nodup_append]
      refine ⟨b, by simp, fun y hy z hz => ?_⟩
      rw [List.mem_singleton] at hz; subst hz
      rintro rfl
      rcases (c _).mp hy with ⟨h1, _⟩ | ⟨_, h2⟩
      · omega
      · exact hxT h2
    · rw [List.mem_append, c, List.mem_singleton, hT]
      constructor
      · rintro ((h1 | ⟨h1, h2⟩) | rfl)
        · exact .inl h1
        · exact .inr ⟨h1, .inl h2⟩
        · exact .inr ⟨rfl, .inr rfl⟩
      · rintro (h1 | ⟨h1, h2⟩)
        · exact .inl (.inl h1)
        · exact .inr h1
  · rw [List.getElem_set_ne (Ne.symm e)]
    obtain ⟨l, a, b, c⟩ := h.2 u hu
    have : ¬ (u : Int) = (x : Int) := by omega
    exact ⟨l, a, b, fun w => by rw [c, hT]; simp only [this, or_false]⟩
theorem WsI.next {g : Gr} (hg : g.ok) {k : Nat} {ws : List Int} (hk : k < g.length) (h : WsI g k g[k] ws) : WsI g (k + 1) [] ws :=
  ⟨h.1, fun v hv => by
    rw [h.2 v hv]
    by_cases e1 : v < k
    · have : v < k + 1 := by omega
      simp only [e1, this, if_true]
    · by_cases e2 : v = k
      · subst e2
        have : v < v + 1 := by omega
        simp only [e1, this, if_true, if_false]
        congr 1
        unfold wcnt
        apply List.countP_congr
        intro y _
        simp [mem_deps hg hk]
      · have e3 : ¬ v < k + 1 := by omega
        simp only [e1, e2, e3, if_false]
        split <;> simp⟩
theorem UsI.next {g us : Gr} (hg : g.ok) {k : Nat} (hk : k < g.length) (h : UsI g k g[k] us) : UsI g (k + 1) [] us :=
  ⟨h.1, fun u hu => by
    obtain ⟨l, a, b, c⟩ := h.2 u hu
    refine ⟨l, a, b, fun w => ?_⟩
    rw [c]
    simp only [List.not_mem_nil, and_false, or_false]
    constructor
    · rintro (⟨h1, h2⟩ | ⟨rfl, h2⟩)
      · exact ⟨by omega, h2⟩
      · exact ⟨by omega, (mem_deps hg hk).mpr h2⟩
    · rintro ⟨h1, h2⟩
      by_cases e : w = k
      · subst e; exact .inr ⟨rfl, (mem_deps hg hk).mp h2⟩
      · exact .inl ⟨by omega, h2⟩⟩

def Ws (g : Gr) (out : List Nat) (ws : List Int) : Prop := ws.length = g.length ∧ ∀ v (h : v < ws.length), ws[v] = (wcnt g out v : Int)
def Us (g us : Gr) : Prop := us.length = g.length ∧ ∀ u (h : u < us.length), ∃ l : List Nat, us[u] = nats l ∧ l.Nodup ∧ ∀ w, w ∈ l ↔ u ∈ deps g w

theorem zeros_i64 (n : Nat) : zeros [.int .i64 0] n = ints (List.replicate n 0) := by
  induction n with
  | zero => rfl
  | succ n ih => rw [zeros, ih]; rfl
theorem zeros_nils (n : Nat) : zeros [.nils] n = List.replicate n .nils := by
  induction n with
  | zero => rfl
  | succ n ih => rw [zeros, ih]; rfl

section
variable {st : ASt} {g : Gr}

/-- What the heap is while rows are looked at. -/
def HangI (st : ASt) (g : Gr) (iw iu k : Nat) (T : List Int) (base s : ASt) : Prop :=
  ∃ ws us, st.le base ∧ base.h iw = some (.cells (ints ws)) ∧ Nest base s iu (fun _ => false) us ∧ WsI g k T ws ∧ UsI g k T us

theorem hang_spec (hg : g.few) (hok : g.ok) (hn : g.length ≤ 100) : ACalls Try.prog F.graph_hang [.isl 1 (g.map row) g.length] st fun v st' =>
    ∃ iw ws us, v = .tup [.sl 1 iw 0 g.length, .isl 1 (us.map row) g.length] ∧ st' = st.new iw (.cells (ints ws)) ∧ st.h iw = none ∧ Ws g [] ws ∧ Us g us := by
  have hz0 : (0 : Int) ≤ (g.length : Nat) ∧ ((g.length : Nat) : Int) ≤ 4294967296 := by omega
  refine ACalls.ghost (Q' := fun v s => ∃ iw iu base, st.h iw = none ∧ v = .tup [.sl 1 iw 0 g.length, .sl 1 iu 0 g.length] ∧ iw ≠ iu ∧ HangI st g iw iu g.length [] base s) (calls_of_awp L.graph_hang rfl ?_) ?_
  · simp only [↓Bp, Bq, Bs, ↓aop.eq_28, ↓aop.eq_30, Nat.reduceEqDiff, Nat.reduceAdd, Nat.reduceMul, Nat.reduceSub, Nat.reduceLeDiff, Nat.reduceLT, Int.reduceLT, Int.reduceLE, Int.reduceEq, Int.reduceToNat, Int.reduceAdd, Int.reduceSub, Int.reduceNeg, ↓reduceIte, reduceCtorEq, ↓C.graph_hang_W, C.graph_hang_B, C.graph_hang, hz0, Int.toNat_natCast, zeros_i64, zeros_nils]
    intro iw hiw iu hiu
    obtain ⟨hiu1, hiu2⟩ := hiu
    have hiu3 : ¬ iw = iu := fun e => hiu2 e.symm
    have hstart : HangI st g iw iu 0 [] (st.new iw (.cells (ints (List.replicate g.length 0)))) ((st.new iw (.cells (ints (List.replicate g.length 0)))).new iu (.cells (List.replicate g.length .nils))) := by
      refine ⟨_, List.replicate g.length [], ASt.le.new _ _ _, ASt.new_self _ hiw, nest_nils (by rw [ASt.new_self]; rw [ASt.new_ne _ hiu2]; exact hiu1) (ASt.le.new _ _ _) (by rw [ASt.new_ne _ hiu2]; exact hiu1) _, ⟨by simp, fun v hv => ?_⟩, ⟨by simp, fun u hu => ⟨[], by simp [nats], List.nodup_nil, fun w => by simp⟩⟩⟩
      simp
    refine awp_loopK (fun k : Nat => [(2, .sl 1 iw 0 g.length), (3, .sl 1 iu 0 g.length), (15, .isl 1 (g.map row) g.length), (16, .int .i64 g.length), (17, .int .i64 k)]) (fun k s => k ≤ g.length ∧ ∃ base, HangI st g iw iu k [] base s) (fun k => g.length - k) 0 rfl ⟨Nat.zero_le _, _, hstart⟩ ?_
    rintro k s ⟨hk, base, hI⟩
    by_cases hlt : k < g.length
    · have hlt' : (k : Int) < (g.length : Nat) := by omega
      have hz : (0:Int) ≤ (k : Int) ∧ (k : Int) < (g.length : Nat) := by omega
      have hw := wsucc hlt hg.1
      simp only [↓Bp, Bq, Bs, ↓aop.eq_28, ↓aop.eq_30, Nat.reduceEqDiff, Nat.reduceAdd, Nat.reduceMul, Nat.reduceSub, Nat.reduceLeDiff, Nat.reduceLT, Int.reduceLT, Int.reduceLE, Int.reduceEq, Int.reduceToNat, Int.reduceAdd, Int.reduceSub, Int.reduceNeg, ↓reduceIte, reduceCtorEq, ↓C.graph_hang_W, C.graph_hang_B, C.graph_hang, hlt', hz, Int.toNat_natCast, Nat.mul_one, rowsG hlt]
      intro m hm
      have hI2 : HangI st g iw iu k [] (base.new m (.map (kmap []))) (s.new m (.map (kmap []))) ∧ (base.new m (.map (kmap []))).h m = some (.map (kmap [])) ∧ m ≠ iw ∧ st.h m = none := by
        obtain ⟨ws, us, a1, a2, a3, a4, a5⟩ := hI
        have hbm : base.h m = none := by
          cases hb : base.h m with
          | none => rfl
          | some o => rw [a3.le _ _ hb] at hm; cases hm
        refine ⟨⟨ws, us, a1.trans (ASt.le.new _ _ _), ASt.new_old a2, a3.rebase (keep_new hm) (ASt.le.newB a3.le hm _), a4, a5⟩, ASt.new_self _ hbm, ?_, ?_⟩
        · rintro rfl
          rw [a2] at hbm; cases hbm
        · cases hs : st.h m with
          | none => rfl
          | some o => rw [a1 _ _ hs] at hbm; cases hbm
      try simp only [↓Bp, Bq, Bs, ↓aop.eq_28, ↓aop.eq_30, Nat.reduceEqDiff, Nat.reduceAdd, Nat.reduceMul, Nat.reduceSub, Nat.reduceLeDiff, Nat.reduceLT, Int.reduceLT, Int.reduceLE, Int.reduceEq, Int.reduceToNat, Int.reduceAdd, Int.reduceSub, Int.reduceNeg, ↓reduceIte, reduceCtorEq]
      refine awp_loopK (fun j : Nat => [(2, .sl 1 iw 0 g.length), (3, .sl 1 iu 0 g.length), (4, .int .i64 k), (6, .map m), (15, .isl 1 (g.map row) g.length), (16, .int .i64 g.length), (17, .int .i64 k), (23, .isl 1 (ints g[k]) g[k].length), (24, .int .i64 g[k].length), (25, .int .i64 j)]) (fun j s => j ≤ g[k].length ∧ ∃ base ks, HangI st g iw iu k (g[k].take j) base s ∧ base.h m = some (.map (kmap ks)) ∧ ∀ x, x ∈ ks ↔ x ∈ g[k].take j) (fun j => g[k].length - j) 0 rfl
        ⟨Nat.zero_le _, _, [], hI2.1, hI2.2.1, fun x => by simp⟩ ?_
      obtain ⟨-, -, hmw, hstm⟩ := hI2
      clear hI hm
      rintro j s ⟨hj, base, ks, hI, hbm, hks⟩
      by_cases hjl : j < g[k].length
      · have hjl' : (j : Int) < (g[k].length : Nat) := by omega
        have hzj : (0:Int) ≤ (j : Int) ∧ (j : Int) < (g[k].length : Nat) := by omega
        have hwj := wsucc hjl (hg.2 _ (List.getElem_mem hlt))
        obtain ⟨hx1, hx2⟩ := hok _ (List.getElem_mem hlt) _ (List.getElem_mem hjl)
        obtain ⟨x, hx⟩ : ∃ x : Nat, g[k][j] = x := ⟨_, (Int.toNat_of_nonneg hx1).symm⟩
        have hxl : x < g.length := by omega
        have htake : ∀ y, y ∈ g[k].take (j + 1) ↔ y ∈ g[k].take j ∨ y = x := by
          intro y
          rw [List.take_succ_eq_append_getElem hjl, List.mem_append, List.mem_singleton, hx]
        obtain ⟨ws, us, a1, a2, a3, a4, a5⟩ := hI
        simp only [↓Bp, Bq, Bs, ↓aop.eq_28, ↓aop.eq_30, Nat.reduceEqDiff, Nat.reduceAdd, Nat.reduceMul, Nat.reduceSub, Nat.reduceLeDiff, Nat.reduceLT, Int.reduceLT, Int.reduceLE, Int.reduceEq, Int.reduceToNat, Int.reduceAdd, Int.reduceSub, Int.reduceNeg, ↓reduceIte, reduceCtorEq, ↓C.graph_hang_W, C.graph_hang_B, C.graph_hang, hjl', hzj, Int.toNat_natCast, Nat.mul_one, ints_get hjl, hx]
        refine (has_spec (a3.le _ _ hbm) x).mono ?_
        rintro v s' ⟨rfl, rfl⟩
        by_cases hmet : (x : Int) ∈ ks
        · simp only [↓Bp, Bq, Bs, ↓aop.eq_28, ↓aop.eq_30, Nat.reduceEqDiff, Nat.reduceAdd, Nat.reduceMul, Nat.reduceSub, Nat.reduceLeDiff, Nat.reduceLT, Int.reduceLT, Int.reduceLE, Int.reduceEq, Int.reduceToNat, Int.reduceAdd, Int.reduceSub, Int.reduceNeg, ↓reduceIte, reduceCtorEq, ↓C.graph_hang_W, C.graph_hang_B, C.graph_hang, hmet, hwj]
          have hT : ∀ y, y ∈ g[k].take (j + 1) ↔ y ∈ g[k].take j := fun y => by
            rw [htake]
            constructor
            · rintro (h | rfl)
              · exact h
              · exact (hks _).mp hmet
            · exact .inl
          exact ⟨j + 1, rfl, ⟨hjl, base, ks, ⟨ws, us, a1, a2, a3, a4.same hT, a5.same hT⟩, hbm, fun y => by rw [hks, hT]⟩, by omega⟩
        · simp only [↓Bp, Bq, Bs, ↓aop.eq_28, ↓aop.eq_30, Nat.reduceEqDiff, Nat.reduceAdd, Nat.reduceMul, Nat.reduceSub, Nat.reduceLeDiff, Nat.reduceLT, Int.reduceLT, Int.reduceLE, Int.reduceEq, Int.reduceToNat, Int.reduceAdd, Int.reduceSub, Int.reduceNeg, ↓reduceIte, reduceCtorEq, ↓C.graph_hang_W, C.graph_hang_B, C.graph_hang, hmet]
          refine (add_spec (a3.le _ _ hbm) x).mono ?_
          rintro v s2 ⟨ks', hs2, hks'⟩
          have hxT : (x : Int) ∉ g[k].take j := fun h => hmet ((hks _).mpr h)
          have b3 : Nest (base.set m (.map (kmap ks'))) s2 iu (fun _ => false) us := by rw [hs2]; exact a3.rebase (keep_set (by rw [hbm]; simp)) (a3.le.set _ _)
          clear hs2
          have b2 : (base.set m (.map (kmap ks'))).h iw = some (.cells (ints ws)) := by rw [ASt.set_h, if_neg hmw.symm]; exact a2
          have b2' := b3.le _ _ b2
          have hkw : k < ws.length := by rw [a4.1]; exact hlt
          have hzk : (0:Int) ≤ (k : Int) ∧ (k : Int) < (g.length : Nat) := hz
          have hzx : (0:Int) ≤ (x : Int) ∧ (x : Int) < (g.length : Nat) := by omega
          have hwsk : ws[k] = ((List.range g.length).countP fun u : Nat => decide ((u : Int) ∈ g[k].take j) : Nat) := by
            have := a4.2 k hkw
            simpa using this
          have hww : IntKind.i64.wrap (ws[k] + 1) = ws[k] + 1 := by
            have : (List.range g.length).countP (fun u : Nat => decide ((u : Int) ∈ g[k].take j)) ≤ (List.range g.length).length := List.countP_le_length
            rw [List.length_range] at this
            rw [wrap64] <;> omega
          have c3 : Nest ((base.set m (.map (kmap ks'))).set iw (.cells (ints (ws.set k (ws[k] + 1))))) (s2.set iw (.cells (ints (ws.set k (ws[k] + 1))))) iu (fun _ => false) us :=
            b3.rebase (keep_set (by rw [b2]; simp)) (b3.le.set _ _)
          have hxu : x < us.length := by rw [a5.1]; exact hxl
          obtain ⟨vs, v0, d1, d2, d3, d4, d5⟩ := c3.shows hxu rfl
          have d1' : s2.h iu = some (.cells vs) := by rw [ASt.set_h, if_neg hiu2] at d1; exact d1
          have hlen : us[x].length ≤ g.length := by
            obtain ⟨l, e1, e2, e3⟩ := a5.2 x hxu
            rw [e1, nats_length]
            have := nodup_len (k := List.range g.length) e2 (fun w hw => by
              rcases (e3 w).mp hw with ⟨h1, _⟩ | ⟨h1, _⟩ <;> simp <;> omega)
            simpa using this
          have hvl : x < vs.length := by omega
          simp only [↓Bp, Bq, Bs, Nat.reduceEqDiff, Nat.reduceAdd, Nat.reduceMul, Nat.reduceSub, Nat.reduceLeDiff, Nat.reduceLT, Int.reduceLT, Int.reduceLE, Int.reduceEq, Int.reduceToNat, Int.reduceAdd, Int.reduceSub, Int.reduceNeg, ↓reduceIte, reduceCtorEq, ↓C.graph_hang_W, C.graph_hang_B, C.graph_hang, hzk, hzx, hz, Int.toNat_natCast, Nat.mul_one, b2', ints_get hkw, hww, ints_length, hkw, ints_set, hiu2, d1', d3]
          refine aop_append_one d4 (by omega) (new := [.int .i64 k]) rfl rfl rfl (fun _ => rfl) (fun _ => rfl) ?_
          intro v1 i2 st2 e1 e2 e3
          obtain ⟨f1, f2⟩ := d5 i2 st2 k e1 e2 (by
            obtain ⟨i, h1, h2⟩ := e3.blk (by omega)
            cases h1
            rw [h2, ints_append]; rfl)
          simp only [↓Bp, Bq, Bs, ↓aop.eq_28, ↓aop.eq_30, Nat.reduceEqDiff, Nat.reduceAdd, Nat.reduceMul, Nat.reduceSub, Nat.reduceLeDiff, Nat.reduceLT, Int.reduceLT, Int.reduceLE, Int.reduceEq, Int.reduceToNat, Int.reduceAdd, Int.reduceSub, Int.reduceNeg, ↓reduceIte, reduceCtorEq, hzx, Int.toNat_natCast, Nat.mul_one, f1, hvl, hwj]
          refine ⟨j + 1, rfl, ⟨hjl, _, ks', ⟨ws.set k (ws[k] + 1), us.set x (us[x] ++ [(k : Int)]), ?_, ?_, f2, a4.add hxl hxT htake hkw, a5.add hxu hxT htake⟩, ?_, fun y => by rw [hks', hks, htake]⟩, by omega⟩
          · intro i o ho
            have n1 : i ≠ iw := by rintro rfl; rw [hiw] at ho; cases ho
            have n2 : i ≠ m := by rintro rfl; rw [hstm] at ho; cases ho
            rw [ASt.set_h, if_neg n1, ASt.set_h, if_neg n2]
            exact a1 _ _ ho
          · rw [ASt.set_h, if_pos rfl, b2]; rfl
          · rw [ASt.set_h, if_neg hmw, ASt.set_h, if_pos rfl, hbm]; rfl
      · have hje : j = g[k].length := by omega
        subst hje
        have hjl' : ¬ ((g[k].length : Nat) : Int) < (g[k].length : Nat) := by omega
        simp only [↓Bp, Bq, Bs, ↓aop.eq_28, ↓aop.eq_30, Nat.reduceEqDiff, Nat.reduceAdd, Nat.reduceMul, Nat.reduceSub, Nat.reduceLeDiff, Nat.reduceLT, Int.reduceLT, Int.reduceLE, Int.reduceEq, Int.reduceToNat, Int.reduceAdd, Int.reduceSub, Int.reduceNeg, ↓reduceIte, reduceCtorEq, ↓C.graph_hang_W, C.graph_hang_B, C.graph_hang, hjl', hw]
        obtain ⟨ws, us, a1, a2, a3, a4, a5⟩ := hI
        rw [List.take_length] at a4 a5
        exact ⟨k + 1, rfl, ⟨hlt, base, ws, us, a1, a2, a3, a4.next hok hlt, a5.next hok hlt⟩, by omega⟩
    · have hke : k = g.length := by omega
      subst hke
      have hlt' : ¬ ((g.length : Nat) : Int) < (g.length : Nat) := by omega
      simp only [↓Bp, Bq, Bs, ↓aop.eq_28, ↓aop.eq_30, Nat.reduceEqDiff, Nat.reduceAdd, Nat.reduceMul, Nat.reduceSub, Nat.reduceLeDiff, Nat.reduceLT, Int.reduceLT, Int.reduceLE, Int.reduceEq, Int.reduceToNat, Int.reduceAdd, Int.reduceSub, Int.reduceNeg, ↓reduceIte, reduceCtorEq, ↓C.graph_hang_W, C.graph_hang_B, C.graph_hang, hlt']
      exact ⟨iw, iu, base, hiw, rfl, hiu3, hI⟩
  · rintro v s ⟨iw, iu, base, hiw, rfl, hne, ws, us, a1, a2, a3, a4, a5⟩
    obtain ⟨st1, g1, g2, g3⟩ := a3.freeze (.tup [.sl 1 iw 0 g.length, .sl 1 iu 0 g.length])
    have hlu : us.length = g.length := a5.1
    refine ⟨.tup [.sl 1 iw 0 g.length, .isl 1 (us.map row) g.length], st.new iw (.cells (ints ws)), ?_, iw, ws, us, rfl, rfl, hiw, ⟨a4.1, fun v hv => ?_⟩, ⟨hlu, fun u hu => ?_⟩⟩
    · refine g1.trans ((Ghost.freezeIn g3 (FrzV.cons2 (.same _) (.sl 1 0 g.length))).trans (Ghost.sub ?_))
      intro i o ho
      have hni : i ≠ iu := by
        rintro rfl
        have hb := a3.idn
        rw [ASt.new_o] at ho
        cases hs : st.h i with
        | some y => rw [a1 _ _ hs] at hb; cases hb
        | none =>
          rw [hs, Option.none_or] at ho
          split at ho
          · rename_i e; exact hne e.symm
          · cases ho
      rw [ASt.kill_h, if_neg hni]
      refine g2 _ _ ?_
      rw [ASt.new_o] at ho
      cases hs : st.h i with
      | some y => rw [hs] at ho; cases ho; exact a1 _ _ hs
      | none =>
        rw [hs, Option.none_or] at ho
        split at ho
        · rename_i e; subst e; cases ho; exact a2
        · cases ho
    · have hv2 : v < g.length := by rw [← a4.1]; exact hv
      rw [a4.2 v hv, if_pos hv2]
    · obtain ⟨l, b1, b2, b3⟩ := a5.2 u hu
      refine ⟨l, b1, b2, fun w => ?_⟩
      rw [b3]
      simp only [List.not_mem_nil, and_false, or_false]
      exact ⟨fun h => h.2, fun h => ⟨deps_of h, h⟩⟩
end
end Go.Proofs.Ytjamidgdhmjhaaa.Cn
