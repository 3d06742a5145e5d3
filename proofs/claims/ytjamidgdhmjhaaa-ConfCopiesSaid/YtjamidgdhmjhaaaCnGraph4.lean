/- Graphs: Order. -/
import Derived.Test.YtjamidgdhmjhaaaCnGraph3
set_option linter.unusedSimpArgs false
set_option linter.unusedVariables false
namespace Go.Proofs.Ytjamidgdhmjhaaa.Cn
open Go Go.Proofs

theorem wcnt_le (g : Gr) (out : List Nat) (v : Nat) : wcnt g out v ≤ g.length := by
  have := List.countP_le_length (p := fun u => decide (u ∈ deps g v ∧ u ∉ out)) (l := List.range g.length)
  rw [List.length_range] at this
  exact this

/-- When of those that hang on v the first ones have been told that v is out. -/
def WsD (g : Gr) (out : List Nat) (v : Nat) (T : List Nat) (ws : List Int) : Prop := ws.length = g.length ∧ ∀ u (h : u < ws.length), ws[u] = if u ∈ T then (wcnt g (out ++ [v]) u : Int) else (wcnt g out u : Int)

theorem WsD.start {g : Gr} {out : List Nat} {v : Nat} {ws : List Int} (h : Ws g out ws) : WsD g out v [] ws := ⟨h.1, fun u hu => by rw [h.2 u hu]; simp⟩
theorem WsD.finish {g : Gr} (hg : g.ok) {out : List Nat} {v : Nat} (hv : v ∉ out) {T : List Nat} (hT : ∀ w, w ∈ T ↔ v ∈ deps g w) {ws : List Int} (h : WsD g out v T ws) : Ws g (out ++ [v]) ws := ⟨h.1, fun u hu => by
  rw [h.2 u hu]
  split
  · rfl
  · rename_i hn
    rw [wcnt_snoc hg hv, if_neg (fun x => hn ((hT u).mpr x))]; simp⟩
theorem WsD.step {g : Gr} (hg : g.ok) {out : List Nat} {v : Nat} (hv : v ∉ out) {T : List Nat} {ws : List Int} (h : WsD g out v T ws) {u : Nat} (hu : u < ws.length) (huT : u ∉ T) (hd : v ∈ deps g u) : WsD g out v (T ++ [u]) (ws.set u (ws[u] - 1)) := by
  refine ⟨by simp [h.1], fun w hw' => ?_⟩
  have hw : w < ws.length := by simpa using hw'
  by_cases e : w = u
  · subst e
    rw [List.getElem_set_self, h.2 w hw, if_neg huT, if_pos (by simp), wcnt_snoc hg hv, if_pos hd]
    omega
  · rw [List.getElem_set_ne (Ne.symm e), h.2 w hw]
    simp only [List.mem_append, List.mem_singleton, e, or_false]

theorem nats_get {l : List Nat} {i : Nat} (h : i < l.length) : (nats l)[i]? = some (l[i] : Int) := by simp [nats, h]
theorem mem_nats {l : List Nat} {x : Nat} : (x : Int) ∈ nats l ↔ x ∈ l := by
  simp only [nats, List.mem_map, Int.ofNat_eq_natCast]
  exact ⟨fun ⟨a, h1, h2⟩ => by have : a = x := by omega
                               exact this ▸ h1, fun h => ⟨x, h, rfl⟩⟩
theorem ints_nats_get {l : List Nat} {i : Nat} (h : i < l.length) : (ints (nats l))[i]? = some (.int .i64 l[i]) := by simp [ints, nats, h]

section
variable {st : ASt} {g : Gr}

/-- What the heap is while an order is made. -/
def OrdI (st : ASt) (g : Gr) (iw m : Nat) (W : List Int → Prop) (K : List Nat) (v : AV) (out : List Nat) (s : ASt) : Prop :=
  ∃ base ws ks, st.le base ∧ base.h iw = some (.cells (ints ws)) ∧ base.h m = some (.map (kmap ks)) ∧ Over base s 1 v out.length (ints (nats out)) ∧ W ws ∧ ∀ x : Nat, (x : Int) ∈ ks ↔ x ∈ K

theorem order_spec0 (hg : g.few) : ACalls Try.prog F.graph_Order [.isl 1 (g.map row) g.length] st fun v st' =>
    (grErr g ≠ 0 ∧ v = .tup [.nils, .int .i64 (grErr g)] ∧ st' = st) ∨ (grErr g = 0 ∧ ∃ x, v = .tup [x, .int .i64 0] ∧ Over st st' 1 x g.length (ints (nats (ord g)))) := by
  refine ACalls.gc (Q' := fun v s => (grErr g ≠ 0 ∧ v = .tup [.nils, .int .i64 (grErr g)] ∧ st.le s) ∨ (grErr g = 0 ∧ ∃ x, v = .tup [x, .int .i64 0] ∧ Over st s 1 x g.length (ints (nats (ord g))))) (calls_of_awp L.graph_Order rfl ?_) ?_
  rotate_left
  · rintro v s (⟨h1, h2, h3⟩ | h)
    · exact ⟨st, h3, .inl ⟨h1, h2, rfl⟩⟩
    · exact ⟨s, ASt.le.refl _, .inr h⟩
  simp only [↓Bp, Bq, Bs, ↓aop.eq_28, ↓aop.eq_30, Nat.reduceEqDiff, Nat.reduceAdd, Nat.reduceMul, Nat.reduceSub, Nat.reduceLeDiff, Nat.reduceLT, Int.reduceLT, Int.reduceLE, Int.reduceEq, Int.reduceToNat, Int.reduceAdd, Int.reduceSub, Int.reduceNeg, ↓reduceIte, reduceCtorEq, ↓C.graph_Order_W, C.graph_Order_B, C.graph_Order]
  refine (numbers_spec hg).mono ?_
  rintro v st' ⟨rfl, rfl⟩
  by_cases h1 : 100 < g.length
  · have he : grErr g = 1 := by simp [grErr, h1]
    simp only [↓Bp, Bq, Bs, ↓aop.eq_28, ↓aop.eq_30, Nat.reduceEqDiff, Nat.reduceAdd, Nat.reduceMul, Nat.reduceSub, Nat.reduceLeDiff, Nat.reduceLT, Int.reduceLT, Int.reduceLE, Int.reduceEq, Int.reduceToNat, Int.reduceAdd, Int.reduceSub, Int.reduceNeg, ↓reduceIte, reduceCtorEq, ↓C.graph_Order_W, C.graph_Order_B, C.graph_Order, h1, he]
    exact .inl ⟨by decide, ASt.le.refl _⟩
  by_cases hok : g.ok
  rotate_left
  · have he : grErr g = 4 := by simp [grErr, h1, hok]
    simp only [↓Bp, Bq, Bs, ↓aop.eq_28, ↓aop.eq_30, Nat.reduceEqDiff, Nat.reduceAdd, Nat.reduceMul, Nat.reduceSub, Nat.reduceLeDiff, Nat.reduceLT, Int.reduceLT, Int.reduceLE, Int.reduceEq, Int.reduceToNat, Int.reduceAdd, Int.reduceSub, Int.reduceNeg, ↓reduceIte, reduceCtorEq, ↓C.graph_Order_W, C.graph_Order_B, C.graph_Order, h1, hok, he]
    exact .inl ⟨by decide, ASt.le.refl _⟩
  simp only [↓Bp, Bq, Bs, ↓aop.eq_28, ↓aop.eq_30, Nat.reduceEqDiff, Nat.reduceAdd, Nat.reduceMul, Nat.reduceSub, Nat.reduceLeDiff, Nat.reduceLT, Int.reduceLT, Int.reduceLE, Int.reduceEq, Int.reduceToNat, Int.reduceAdd, Int.reduceSub, Int.reduceNeg, ↓reduceIte, reduceCtorEq, ↓C.graph_Order_W, C.graph_Order_B, C.graph_Order, h1, hok]
  refine (hang_spec hg hok (by omega)).mono ?_
  rintro v s ⟨iw, ws, us, rfl, hs, hiw, hws, hus⟩
  subst hs
  simp only [↓Bp, Bq, Bs, ↓aop.eq_28, ↓aop.eq_30, Nat.reduceEqDiff, Nat.reduceAdd, Nat.reduceMul, Nat.reduceSub, Nat.reduceLeDiff, Nat.reduceLT, Int.reduceLT, Int.reduceLE, Int.reduceEq, Int.reduceToNat, Int.reduceAdd, Int.reduceSub, Int.reduceNeg, ↓reduceIte, reduceCtorEq, ↓C.graph_Order_W, C.graph_Order_B, C.graph_Order]
  rintro m ⟨hm, hmw⟩
  have hmw' : ¬ iw = m := fun e => hmw e.symm
  have hstart : OrdI st' g iw m (Ws g []) [] .nils [] ((st'.new iw (.cells (ints ws))).new m (.map [])) := by
    refine ⟨_, ws, [], (ASt.le.new _ _ _).trans (ASt.le.new _ _ _), ASt.new_old (ASt.new_self _ hiw), ASt.new_self _ ?_, Over.nils (ASt.le.refl _) 1, hws, fun x => by simp⟩
    rw [ASt.new_none]; exact ⟨hm, hmw⟩
  refine awp_loopK (fun p : AV × List Nat => [(0, .isl 1 (g.map row) g.length), (5, .sl 1 iw 0 g.length), (6, .isl 1 (us.map row) g.length), (7, .map m), (8, p.1)]) (fun p s => OrdI st' g iw m (Ws g p.2) p.2 p.1 p.2 s ∧ Topo g p.2 ∧ ord g = ordGo g (g.length - p.2.length) p.2) (fun p => g.length - p.2.length) (.nils, []) rfl
    ⟨hstart, .nil, rfl⟩ ?_
  rintro ⟨v8, out⟩ s ⟨⟨base, ws, ks, b1, b2, b3, b4, b5, b6⟩, ht, hord⟩
  simp only at b4 b5 b6 ht hord ⊢
  have hl8 := b4.1.slen
  have hol := ht.len
  by_cases hlt : out.length < g.length
  rotate_left
  · have hlt' : ¬ ((out.length : Nat) : Int) < (g.length : Nat) := by omega
    have hoe : out.length = g.length := by omega
    have hord2 : ord g = out := by rw [hord, hoe, Nat.sub_self]; rfl
    have he : grErr g = 0 := by simp [grErr, h1, hok, hord2, hoe]
    simp only [↓Bp, Bq, Bs, ↓aop.eq_28, ↓aop.eq_30, Nat.reduceEqDiff, Nat.reduceAdd, Nat.reduceMul, Nat.reduceSub, Nat.reduceLeDiff, Nat.reduceLT, Int.reduceLT, Int.reduceLE, Int.reduceEq, Int.reduceToNat, Int.reduceAdd, Int.reduceSub, Int.reduceNeg, ↓reduceIte, reduceCtorEq, ↓C.graph_Order_W, C.graph_Order_B, C.graph_Order, hl8, hlt', he]
    refine .inr ⟨v8, rfl, ?_⟩
    rw [hord2, ← hoe]
    exact b4.rebase (fun b hb hs => ⟨rfl, by
      cases hx : st'.h b with
      | none => rfl
      | some o => rw [b1 _ _ hx] at hb; cases hb⟩) (b1.trans b4.2.1)
  have hlt' : ((out.length : Nat) : Int) < (g.length : Nat) := by omega
  have hsm := b4.2.1 _ _ b3
  have hsw := b4.2.1 _ _ b2
  simp only [↓Bp, Bq, Bs, ↓aop.eq_28, ↓aop.eq_30, Nat.reduceEqDiff, Nat.reduceAdd, Nat.reduceMul, Nat.reduceSub, Nat.reduceLeDiff, Nat.reduceLT, Int.reduceLT, Int.reduceLE, Int.reduceEq, Int.reduceToNat, Int.reduceAdd, Int.reduceSub, Int.reduceNeg, ↓reduceIte, reduceCtorEq, ↓C.graph_Order_W, C.graph_Order_B, C.graph_Order, hl8, hlt']
  refine awp_midB (fun v : Nat => [(0, .isl 1 (g.map row) g.length), (5, .sl 1 iw 0 g.length), (6, .isl 1 (us.map row) g.length), (7, .map m), (8, v8), (9, .int .i64 v)]) (fun v s' => s' = s ∧ ((v < g.length ∧ next g out = some v) ∨ (v = g.length ∧ next g out = none))) ?_ ?_
  · refine awp_loopK (fun v : Nat => [(0, .isl 1 (g.map row) g.length), (5, .sl 1 iw 0 g.length), (6, .isl 1 (us.map row) g.length), (7, .map m), (8, v8), (9, .int .i64 v)]) (fun v s' => s' = s ∧ v ≤ g.length ∧ ∀ j, j < v → ready g out j = false) (fun v => g.length - v) 0 rfl ⟨rfl, Nat.zero_le _, fun j hj => by omega⟩ ?_
    rintro v s ⟨rfl, hv, hnr⟩
    by_cases hvl : v < g.length
    · have hvl' : (v : Int) < (g.length : Nat) := by omega
      have hzv : (0:Int) ≤ (v : Int) ∧ (v : Int) < (g.length : Nat) := by omega
      have hw := wsucc hvl hg.1
      have step : ready g out v = false → ∀ j, j < v + 1 → ready g out j = false := fun h j hj => by
        by_cases e : j = v
        · subst e; exact h
        · exact hnr j (by omega)
      simp only [↓Bp, Bq, Bs, ↓aop.eq_28, ↓aop.eq_30, Nat.reduceEqDiff, Nat.reduceAdd, Nat.reduceMul, Nat.reduceSub, Nat.reduceLeDiff, Nat.reduceLT, Int.reduceLT, Int.reduceLE, Int.reduceEq, Int.reduceToNat, Int.reduceAdd, Int.reduceSub, Int.reduceNeg, ↓reduceIte, reduceCtorEq, ↓C.graph_Order_W, C.graph_Order_B, C.graph_Order, hvl']
      refine (has_spec hsm v).mono ?_
      rintro r s' ⟨rfl, rfl⟩
      by_cases hin : v ∈ out
      · have hk : (v : Int) ∈ ks := (b6 v).mpr hin
        simp only [↓Bp, Bq, Bs, ↓aop.eq_28, ↓aop.eq_30, Nat.reduceEqDiff, Nat.reduceAdd, Nat.reduceMul, Nat.reduceSub, Nat.reduceLeDiff, Nat.reduceLT, Int.reduceLT, Int.reduceLE, Int.reduceEq, Int.reduceToNat, Int.reduceAdd, Int.reduceSub, Int.reduceNeg, ↓reduceIte, reduceCtorEq, ↓C.graph_Order_W, C.graph_Order_B, C.graph_Order, hk, hw]
        exact ⟨v + 1, rfl, ⟨hvl, step (by simp [ready, hin])⟩, by omega⟩
      · have hk : ¬ (v : Int) ∈ ks := fun h => hin ((b6 v).mp h)
        have hvw : v < ws.length := by rw [b5.1]; exact hvl
        have hwv := b5.2 v hvw
        by_cases hz : wcnt g out v = 0
        · have hpos : ¬ (0 : Int) < ws[v] := by omega
          simp only [↓Bp, Bq, Bs, ↓aop.eq_28, ↓aop.eq_30, Nat.reduceEqDiff, Nat.reduceAdd, Nat.reduceMul, Nat.reduceSub, Nat.reduceLeDiff, Nat.reduceLT, Int.reduceLT, Int.reduceLE, Int.reduceEq, Int.reduceToNat, Int.reduceAdd, Int.reduceSub, Int.reduceNeg, ↓reduceIte, reduceCtorEq, ↓C.graph_Order_W, C.graph_Order_B, C.graph_Order, hk, hzv, Int.toNat_natCast, Nat.mul_one, hsw, ints_get hvw, hpos]
          exact ⟨v, rfl, .inl ⟨hvl, next_some.mpr ⟨ready_iff.mpr ⟨hin, (wcnt_zero hok).mp hz⟩, hvl, hnr⟩⟩⟩
        · have hpos : (0 : Int) < ws[v] := by omega
          simp only [↓Bp, Bq, Bs, ↓aop.eq_28, ↓aop.eq_30, Nat.reduceEqDiff, Nat.reduceAdd, Nat.reduceMul, Nat.reduceSub, Nat.reduceLeDiff, Nat.reduceLT, Int.reduceLT, Int.reduceLE, Int.reduceEq, Int.reduceToNat, Int.reduceAdd, Int.reduceSub, Int.reduceNeg, ↓reduceIte, reduceCtorEq, ↓C.graph_Order_W, C.graph_Order_B, C.graph_Order, hk, hzv, Int.toNat_natCast, Nat.mul_one, hsw, ints_get hvw, hpos, hw]
          refine ⟨v + 1, rfl, ⟨hvl, step ?_⟩, by omega⟩
          cases hr : ready g out v with
          | false => rfl
          | true => exact absurd ((wcnt_zero hok).mpr (ready_iff.mp hr).2) hz
    · have hve : v = g.length := by omega
      subst hve
      have hvl' : ¬ ((g.length : Nat) : Int) < (g.length : Nat) := by omega
      simp only [↓Bp, Bq, Bs, ↓aop.eq_28, ↓aop.eq_30, Nat.reduceEqDiff, Nat.reduceAdd, Nat.reduceMul, Nat.reduceSub, Nat.reduceLeDiff, Nat.reduceLT, Int.reduceLT, Int.reduceLE, Int.reduceEq, Int.reduceToNat, Int.reduceAdd, Int.reduceSub, Int.reduceNeg, ↓reduceIte, reduceCtorEq, ↓C.graph_Order_W, C.graph_Order_B, C.graph_Order, hvl']
      exact ⟨g.length, rfl, .inr ⟨rfl, next_none.mpr hnr⟩⟩
  rintro v s' ⟨rfl, hv⟩
  rcases hv with ⟨hvl, hnext⟩ | ⟨rfl, hnext⟩
  rotate_left
  · have hord2 : ord g = out := by
      obtain ⟨f, hf⟩ : ∃ f, g.length - out.length = f + 1 := ⟨g.length - out.length - 1, by omega⟩
      rw [hord, hf, ordGo, hnext]
    have he : grErr g = 5 := by simp [grErr, h1, hok, hord2, hlt]
    simp only [↓Bp, Bq, Bs, ↓aop.eq_28, ↓aop.eq_30, Nat.reduceEqDiff, Nat.reduceAdd, Nat.reduceMul, Nat.reduceSub, Nat.reduceLeDiff, Nat.reduceLT, Int.reduceLT, Int.reduceLE, Int.reduceEq, Int.reduceToNat, Int.reduceAdd, Int.reduceSub, Int.reduceNeg, ↓reduceIte, reduceCtorEq, ↓C.graph_Order_W, C.graph_Order_B, C.graph_Order, he]
    exact .inl ⟨by decide, b1.trans b4.2.1⟩
  have hne : ¬ (v : Int) = (g.length : Nat) := by omega
  have hvout := (ready_iff.mp (next_some.mp hnext).1).1
  simp only [↓Bp, Bq, Bs, ↓aop.eq_28, ↓aop.eq_30, Nat.reduceEqDiff, Nat.reduceAdd, Nat.reduceMul, Nat.reduceSub, Nat.reduceLeDiff, Nat.reduceLT, Int.reduceLT, Int.reduceLE, Int.reduceEq, Int.reduceToNat, Int.reduceAdd, Int.reduceSub, Int.reduceNeg, ↓reduceIte, reduceCtorEq, ↓C.graph_Order_W, C.graph_Order_B, C.graph_Order, hne]
  refine (add_spec hsm v).mono ?_
  rintro r s2 ⟨ks', hs2, hks'⟩
  have b4' : Over (base.set m (.map (kmap ks'))) s2 1 v8 out.length (ints (nats out)) := by rw [hs2]; exact b4.rebase (keep_set (by rw [b3]; simp)) (b4.2.1.set _ _)
  clear hs2
  have hzv : (0:Int) ≤ (v : Int) ∧ (v : Int) < (g.length : Nat) := by omega
  simp only [↓Bp, Bq, Bs, Nat.reduceEqDiff, Nat.reduceAdd, Nat.reduceMul, Nat.reduceSub, Nat.reduceLeDiff, Nat.reduceLT, Int.reduceLT, Int.reduceLE, Int.reduceEq, Int.reduceToNat, Int.reduceAdd, Int.reduceSub, Int.reduceNeg, ↓reduceIte, reduceCtorEq, ↓C.graph_Order_W, C.graph_Order_B, C.graph_Order]
  refine aop_append_over b4' (by omega) (new := [.int .i64 v]) rfl rfl rfl (fun _ => rfl) (fun _ => rfl) ?_
  intro v1 v2 s3 hO
  have hvu : v < us.length := by rw [hus.1]; exact hvl
  obtain ⟨l, l1, l2, l3⟩ := hus.2 v hvu
  simp only [↓Bp, Bq, Bs, ↓aop.eq_28, ↓aop.eq_30, Nat.reduceEqDiff, Nat.reduceAdd, Nat.reduceMul, Nat.reduceSub, Nat.reduceLeDiff, Nat.reduceLT, Int.reduceLT, Int.reduceLE, Int.reduceEq, Int.reduceToNat, Int.reduceAdd, Int.reduceSub, Int.reduceNeg, ↓reduceIte, reduceCtorEq, ↓C.graph_Order_W, C.graph_Order_B, C.graph_Order, hzv, Int.toNat_natCast, Nat.mul_one, rowsG hvu, l1]
  have hO2 : Over (base.set m (.map (kmap ks'))) s3 1 v2 (out ++ [v]).length (ints (nats (out ++ [v]))) := by
    rw [nats_append, ints_append, List.length_append]; exact hO
  have hstart2 : OrdI st' g iw m (WsD g out v []) (out ++ [v]) v2 (out ++ [v]) s3 := by
    refine ⟨_, ws, ks', ?_, by rw [ASt.set_h, if_neg hmw']; exact b2, by rw [ASt.set_h, if_pos rfl, b3]; rfl, hO2, WsD.start b5, fun x => ?_⟩
    · intro i o ho
      have : i ≠ m := by rintro rfl; rw [hm] at ho; cases ho
      rw [ASt.set_h, if_neg this]; exact b1 _ _ ho
    · rw [hks', b6, List.mem_append, List.mem_singleton]
      have : (x : Int) = v ↔ x = v := by omega
      rw [this]
  refine awp_loopK (fun j : Nat => [(0, .isl 1 (g.map row) g.length), (5, .sl 1 iw 0 g.length), (6, .isl 1 (us.map row) g.length), (7, .map m), (8, v2), (60, .isl 1 (ints (nats l)) (nats l).length), (61, .int .i64 (nats l).length), (62, .int .i64 j)]) (fun j s => j ≤ l.length ∧ OrdI st' g iw m (WsD g out v (l.take j)) (out ++ [v]) v2 (out ++ [v]) s) (fun j => l.length - j) 0 rfl
    ⟨Nat.zero_le _, by simpa using hstart2⟩ ?_
  clear hstart2 hstart hO hO2 b2 b3 b4 b5 b6 b4' hsm hsw
  rintro j s ⟨hj, base, ws, ks, b1, b2, b3, b4, b5, b6⟩
  by_cases hjl : j < l.length
  · have hjl' : (j : Int) < ((nats l).length : Nat) := by rw [nats_length]; omega
    have hzj : (0:Int) ≤ (j : Int) ∧ (j : Int) < ((nats l).length : Nat) := by omega
    have hll : l.length ≤ g.length := by
      have := nodup_len (k := List.range g.length) l2 (fun w hw => by simpa using deps_of ((l3 w).mp hw))
      simpa using this
    have hwj := wsucc hjl (by omega)
    have hd : v ∈ deps g l[j] := (l3 _).mp (List.getElem_mem hjl)
    have hul : l[j] < g.length := deps_of hd
    have huw : l[j] < ws.length := by rw [b5.1]; exact hul
    have hzu : (0:Int) ≤ (l[j] : Int) ∧ (l[j] : Int) < (g.length : Nat) := by omega
    have huT : l[j] ∉ l.take j := by
      intro h
      obtain ⟨i, hi, he⟩ := List.getElem_of_mem h
      simp only [List.length_take] at hi
      rw [List.getElem_take] at he
      have e1 := l2.idxOf_getElem i (by omega)
      have e2 := l2.idxOf_getElem j hjl
      rw [he, e2] at e1
      omega
    have hsw := b4.2.1 _ _ b2
    have hww : IntKind.i64.wrap (ws[l[j]] - 1) = ws[l[j]] - 1 := by
      have := b5.2 _ huw
      have := wcnt_le g out l[j]
      have := wcnt_le g (out ++ [v]) l[j]
      rw [wrap64] <;> (split at * <;> omega)
    simp only [↓Bp, Bq, Bs, ↓aop.eq_28, ↓aop.eq_30, Nat.reduceEqDiff, Nat.reduceAdd, Nat.reduceMul, Nat.reduceSub, Nat.reduceLeDiff, Nat.reduceLT, Int.reduceLT, Int.reduceLE, Int.reduceEq, Int.reduceToNat, Int.reduceAdd, Int.reduceSub, Int.reduceNeg, ↓reduceIte, reduceCtorEq, ↓C.graph_Order_W, C.graph_Order_B, C.graph_Order, hjl', hzj, Int.toNat_natCast, Nat.mul_one, ints_nats_get hjl, hzu, hsw, ints_get huw, ints_length, huw, hww, ints_set, hwj]
    refine ⟨j + 1, rfl, ⟨hjl, base.set iw (.cells (ints (ws.set l[j] (ws[l[j]] - 1)))), ws.set l[j] (ws[l[j]] - 1), ks, ?_, by rw [ASt.set_h, if_pos rfl, b2]; rfl, by rw [ASt.set_h, if_neg hmw]; exact b3, b4.rebase (keep_set (by rw [b2]; simp)) (b4.2.1.set _ _), ?_, b6⟩, by omega⟩
    · intro i o ho
      have : i ≠ iw := by rintro rfl; rw [hiw] at ho; cases ho
      rw [ASt.set_h, if_neg this]; exact b1 _ _ ho
    · rw [List.take_succ_eq_append_getElem hjl]
      exact b5.step hok hvout huw huT hd
  · have hje : j = l.length := by omega
    subst hje
    have hjl' : ¬ ((l.length : Nat) : Int) < ((nats l).length : Nat) := by rw [nats_length]; omega
    rw [List.take_length] at b5
    simp only [↓Bp, Bq, Bs, ↓aop.eq_28, ↓aop.eq_30, Nat.reduceEqDiff, Nat.reduceAdd, Nat.reduceMul, Nat.reduceSub, Nat.reduceLeDiff, Nat.reduceLT, Int.reduceLT, Int.reduceLE, Int.reduceEq, Int.reduceToNat, Int.reduceAdd, Int.reduceSub, Int.reduceNeg, ↓reduceIte, reduceCtorEq, ↓C.graph_Order_W, C.graph_Order_B, C.graph_Order, hjl']
    refine ⟨(v2, out ++ [v]), rfl, ⟨⟨base, ws, ks, b1, b2, b3, b4, b5.finish hok hvout l3, b6⟩, .snoc ht hnext, ?_⟩, ?_⟩
    · obtain ⟨f, hf⟩ : ∃ f, g.length - out.length = f + 1 := ⟨g.length - out.length - 1, by omega⟩
      rw [hord, hf, ordGo, hnext]
      simp only [List.length_append, List.length_cons, List.length_nil]
      congr 1; omega
    · simp only [List.length_append, List.length_cons, List.length_nil]; omega
end
end Go.Proofs.Ytjamidgdhmjhaaa.Cn
