/- YtdmfgodajoojpaaGreatDoor: proofs of this seat, texts CnPick, CnGraph1, CnGraph2, CnGraph3, CnGraph4, CnGraph5a, CnConf1, CnConf2, CnConf3, CnConf4, CnConf5, CnConf6, CnConf7, CnConf8, CnChipOk, CnPower1, CnPower2: what each shows stands at its theorems; no condition. -/
import Derived.Test.YtdmfgodajoojpaaGreatDoorCnLk
import Derived.Test.YtdmfgodajoojpaaGreatDoorCnL2
/- Which of n things a number speaks of. -/
set_option linter.unusedSimpArgs false
set_option linter.unusedVariables false
set_option maxRecDepth 100000
namespace Go.Proofs.YtdmfgodajoojpaaGreatDoor.Cn
open Go Go.Proofs

theorem pick_spec {st : ASt} {c : Int} {n : Nat} (hc : -9223372036854775808 ≤ c ∧ c ≤ 9223372036854775807) (hn : 0 < n) : ACalls Tryz.prog F.q14 [.int .i64 c, .int .i64 n] st fun r st' => r = .int .i64 (pickI c n) ∧ st' = st := by
  refine calls_of_awp L.q14 rfl ?_
  have hn0 : ¬ ((n : Nat) : Int) = 0 := by omega
  by_cases h0 : c < 0
  · have w1 : IntKind.i64.wrap (c + 1) = c + 1 := by rw [wrap64] <;> omega
    have w2 : IntKind.i64.wrap (0 - (c + 1)) = -(c + 1) := by rw [wrap64] <;> omega
    simp only [↓Bt, Bu, simprocAttr, ↓C.q14_W, C.q14_B, C.q14, h0, w1, w2, hn0]
    congr 1
    rw [pickI, if_pos h0, Int.tmod_eq_emod_of_nonneg (by omega), Int.natCast_emod, Int.toNat_of_nonneg (by omega)]
  · simp only [↓Bt, Bu, simprocAttr, ↓C.q14_W, C.q14_B, C.q14, h0, hn0]
    congr 1
    rw [pickI, if_neg h0, Int.tmod_eq_emod_of_nonneg (by omega), Int.natCast_emod, Int.toNat_of_nonneg (by omega)]

/- Graphs: what the program's functions do, in the words of the abstract layer, part 1. -/
set_option maxRecDepth 100000

theorem rowsG {g : Gr} {k : Nat} (h : k < g.length) : (g.map row)[k]? = some (.isl 1 (ints g[k]) g[k].length) := by simp [h, row]

def Gr.few (g : Gr) : Prop := g.length ≤ 9223372036854775807 ∧ ∀ r ∈ g, r.length ≤ 9223372036854775807

section
variable {st : ASt} {g : Gr}

theorem numbers_spec (hg : g.few) : ACalls Tryz.prog F.q77 [.isl 1 (g.map row) g.length] st fun v st' => st' = st ∧ v = .int .i64 (if 100 < g.length then 1 else if g.ok then 0 else 4) := by
  refine calls_of_awp L.q77 rfl ?_
  by_cases h1 : 100 < g.length
  · have h1' : (100 : Int) < (g.length : Nat) := by omega
    simp only [↓Bt, Bu, simprocAttr, ↓C.q77_W, C.q77_B, C.q77, h1', h1]
  have h1' : ¬ (100 : Int) < (g.length : Nat) := by omega
  simp only [↓Bt, Bu, simprocAttr, ↓C.q77_W, C.q77_B, C.q77, h1', h1]
  refine awp_loopK (fun k : Nat => [(0, .isl 1 (g.map row) g.length), (10, .isl 1 (g.map row) g.length), (11, .int .i64 g.length), (12, .int .i64 k)]) (fun k s => k ≤ g.length ∧ s = st ∧ ∀ i (hi : i < g.length), i < k → ∀ u ∈ g[i], 0 ≤ u ∧ u < g.length) (fun k => g.length - k) 0 rfl ⟨Nat.zero_le _, rfl, fun i _ h => by omega⟩ ?_
  rintro k s ⟨hk, rfl, hok⟩
  by_cases hlt : k < g.length
  · have hlt' : (k : Int) < (g.length : Nat) := by omega
    have hz : (0:Int) ≤ (k : Int) ∧ (k : Int) < (g.length : Nat) := by omega
    have hw := wsucc hlt hg.1
    simp only [↓Bt, Bu, simprocAttr, ↓C.q77_W, C.q77_B, C.q77, hlt', hz, Int.toNat_natCast, Nat.mul_one, rowsG hlt]
    refine awp_loopK (fun j : Nat => [(0, .isl 1 (g.map row) g.length), (10, .isl 1 (g.map row) g.length), (11, .int .i64 g.length), (12, .int .i64 k), (16, .isl 1 (ints g[k]) g[k].length), (17, .int .i64 g[k].length), (18, .int .i64 j)]) (fun j s' => j ≤ g[k].length ∧ s' = s ∧ ∀ i (hi : i < g[k].length), i < j → 0 ≤ g[k][i] ∧ g[k][i] < g.length) (fun j => g[k].length - j) 0 rfl ⟨Nat.zero_le _, rfl, fun i _ h => by omega⟩ ?_
    rintro j s ⟨hj, rfl, hok2⟩
    by_cases hjl : j < g[k].length
    · have hjl' : (j : Int) < (g[k].length : Nat) := by omega
      have hzj : (0:Int) ≤ (j : Int) ∧ (j : Int) < (g[k].length : Nat) := by omega
      have hwj := wsucc hjl (hg.2 _ (List.getElem_mem hlt))
      have bad : (g[k][j] < 0 ∨ (g.length : Int) ≤ g[k][j]) → ¬ g.ok := fun h hx => by have := hx _ (List.getElem_mem hlt) _ (List.getElem_mem hjl); omega
      by_cases hn : g[k][j] < 0
      · simp only [↓Bt, Bu, simprocAttr, ↓C.q77_W, C.q77_B, C.q77, hjl', hzj, Int.toNat_natCast, Nat.mul_one, ints_get hjl, hn, bad (.inl hn)]
      · by_cases hn2 : (g.length : Int) ≤ g[k][j]
        · simp only [↓Bt, Bu, simprocAttr, ↓C.q77_W, C.q77_B, C.q77, hjl', hzj, Int.toNat_natCast, Nat.mul_one, ints_get hjl, hn, hn2, bad (.inr hn2)]
        · simp only [↓Bt, Bu, simprocAttr, ↓C.q77_W, C.q77_B, C.q77, hjl', hzj, Int.toNat_natCast, Nat.mul_one, ints_get hjl, hn, hn2, hwj]
          refine ⟨j + 1, rfl, ⟨hjl, fun i hi hij => ?_⟩, by omega⟩
          by_cases e : i = j
          · subst e; omega
          · exact hok2 i hi (by omega)
    · have hjl' : ¬ (j : Int) < (g[k].length : Nat) := by omega
      simp only [↓Bt, Bu, simprocAttr, ↓C.q77_W, C.q77_B, C.q77, hjl', hw]
      refine ⟨k + 1, rfl, ⟨hlt, fun i hi hik => ?_⟩, by omega⟩
      by_cases e : i = k
      · subst e
        intro u hu
        obtain ⟨m, hm, rfl⟩ := List.getElem_of_mem hu
        exact hok2 m hm (by omega)
      · exact hok i hi (by omega)
  · have hlt' : ¬ (k : Int) < (g.length : Nat) := by omega
    have : g.ok := fun r hr u hu => by
      obtain ⟨i, hi, rfl⟩ := List.getElem_of_mem hr
      exact hok i hi (by omega) u hu
    simp only [↓Bt, Bu, simprocAttr, ↓C.q77_W, C.q77_B, C.q77, hlt', this]

end
/- Graphs: marks, and on how many each node waits. -/
set_option maxRecDepth 100000

def kmap (ks : List Int) : List (Int × AV) := ks.map fun k => (k, .agg [])
theorem look_kmap (ks : List Int) (v : Int) : look (kmap ks) v = if v ∈ ks then some (.agg []) else none := by
  induction ks with
  | nil => rfl
  | cons k ks ih =>
    simp only [kmap, look, List.map_cons, List.find?_cons] at ih ⊢
    by_cases e : k = v
    · subst e; simp
    · have : (k == v) = false := by simp [e]
      have e2 : ¬ v = k := fun h => e h.symm
      simp only [this, List.mem_cons, e2, false_or]
      exact ih
theorem mput_kmap (ks : List Int) (v : Int) : ∃ ks', mput (kmap ks) v (.agg []) = kmap ks' ∧ ∀ x, x ∈ ks' ↔ x ∈ ks ∨ x = v := by
  unfold mput
  cases h : spot (kmap ks) v with
  | none => exact ⟨ks ++ [v], by simp [kmap], fun x => by simp⟩
  | some i =>
    simp only [spot] at h
    obtain ⟨hi, h1, -⟩ := List.findIdx?_eq_some_iff_getElem.mp h
    simp only [kmap, List.getElem_map, beq_iff_eq] at h1
    have hi2 : i < ks.length := by simpa [kmap] using hi
    refine ⟨ks, ?_, fun x => ⟨.inl, fun hx => ?_⟩⟩
    · show (kmap ks).set i (v, .agg []) = kmap ks
      have : (v, AV.agg []) = (kmap ks)[i] := by simp [kmap, h1]
      rw [this, List.set_getElem_self]
    · rcases hx with hx | rfl
      · exact hx
      · rw [← h1]; exact List.getElem_mem hi2

section
variable {st : ASt} {m : Nat} {ks : List Int}

theorem has_spec (h : st.h m = some (.map (kmap ks))) (v : Int) : ACalls Tryz.prog F.q76 [.map m, .int .i64 v] st fun r st' => r = .bool (decide (v ∈ ks)) ∧ st' = st := by
  refine ACalls.gc (Q' := fun r st' => r = .bool (decide (v ∈ ks)) ∧ st.le st') (calls_of_awp L.q76 rfl ?_) (fun v st' h => ⟨st, h.2, h.1, rfl⟩)
  by_cases hv : v ∈ ks
  · simp only [↓Bt, Bu, simprocAttr, ↓C.q76_W, C.q76_B, C.q76, h, look_kmap, hv]
    intro i hi
    simp only [↓Bt, Bu, simprocAttr, ↓C.q76_W, C.q76_B, C.q76, hi, allLeaf, putN]
    exact (ASt.le.new _ _ _).trans (fun j o hj => by
      rw [ASt.set_h]; split
      · rename_i e; subst e; rw [ASt.new_self _ hi] at hj ⊢; exact hj
      · exact hj)
  · simp only [↓Bt, Bu, simprocAttr, ↓C.q76_W, C.q76_B, C.q76, h, look_kmap, hv]
    intro i hi
    simp only [↓Bt, Bu, simprocAttr, ↓C.q76_W, C.q76_B, C.q76, hi, allLeaf, putN]
    exact (ASt.le.new _ _ _).trans (fun j o hj => by
      rw [ASt.set_h]; split
      · rename_i e; subst e; rw [ASt.new_self _ hi] at hj ⊢; exact hj
      · exact hj)

theorem add_spec (h : st.h m = some (.map (kmap ks))) (v : Int) : ACalls Tryz.prog F.q75 [.map m, .int .i64 v] st fun _ st' => ∃ ks', st' = st.set m (.map (kmap ks')) ∧ ∀ x, x ∈ ks' ↔ x ∈ ks ∨ x = v := by
  refine calls_of_awp L.q75 rfl ?_
  obtain ⟨ks', h1, h2⟩ := mput_kmap ks v
  simp only [↓Bt, Bu, simprocAttr, ↓C.q75_W, C.q75_B, C.q75, h, h1]
  exact ⟨ks', rfl, h2⟩
end
/- Graphs: on how many each node waits, and which wait for it. -/
set_option maxRecDepth 100000

def WsI (g : Gr) (k : Nat) (T ws : List Int) : Prop := ws.length = g.length ∧ ∀ v (h : v < ws.length), ws[v] = if v < k then (wcnt g [] v : Int) else if v = k then ((List.range g.length).countP fun u : Nat => decide ((u : Int) ∈ T) : Nat) else 0
def UsI (g : Gr) (k : Nat) (T : List Int) (us : Gr) : Prop := us.length = g.length ∧ ∀ u (h : u < us.length), ∃ l : List Nat, us[u] = nats l ∧ l.Nodup ∧ ∀ w, w ∈ l ↔ (w < k ∧ u ∈ deps g w) ∨ (w = k ∧ (u : Int) ∈ T)

theorem WsI.same {g : Gr} {k : Nat} {T T' ws : List Int} (h : WsI g k T ws) (hT : ∀ y, y ∈ T' ↔ y ∈ T) : WsI g k T' ws :=
  ⟨h.1, fun v hv => by rw [h.2 v hv]; simp only [hT]⟩
theorem UsI.same {g us : Gr} {k : Nat} {T T' : List Int} (h : UsI g k T us) (hT : ∀ y, y ∈ T' ↔ y ∈ T) : UsI g k T' us :=
  ⟨h.1, fun v hv => by
    obtain ⟨l, a, b, c⟩ := h.2 v hv
    exact ⟨l, a, b, fun w => by rw [c, hT]⟩⟩
theorem WsI.add {g : Gr} {k : Nat} {T T' ws : List Int} (h : WsI g k T ws) {x : Nat} (hx : x < g.length) (hxT : (x : Int) ∉ T) (hT : ∀ y, y ∈ T' ↔ y ∈ T ∨ y = x) (hk : k < ws.length) : WsI g k T' (ws.set k (ws[k] + 1)) := by
  refine ⟨by simp [h.1], fun v hv' => ?_⟩
  have hv : v < ws.length := by simpa using hv'
  by_cases e : v = k
  · subst e
    rw [List.getElem_set_self, h.2 v hv]
    simp only [Nat.lt_irrefl, if_false, if_true]
    rw [countP_range_add (p := fun u : Nat => decide ((u : Int) ∈ T)) (q := fun u : Nat => decide ((u : Int) ∈ T')) hx (by simp [hxT]) (by simp [hT]) (fun y hy => by
      have : ¬ (y : Int) = (x : Int) := by omega
      simp [hT, this])]
    omega
  · rw [List.getElem_set_ne (Ne.symm e), h.2 v hv]
    simp only [e, if_false]
theorem UsI.add {g us : Gr} {k : Nat} {T T' : List Int} (h : UsI g k T us) {x : Nat} (hx : x < us.length) (hxT : (x : Int) ∉ T) (hT : ∀ y, y ∈ T' ↔ y ∈ T ∨ y = x) : UsI g k T' (us.set x (us[x] ++ [(k : Int)])) := by
  refine ⟨by simp [h.1], fun u hu' => ?_⟩
  have hu : u < us.length := by simpa using hu'
  by_cases e : u = x
  · subst e
    obtain ⟨l, a, b, c⟩ := h.2 u hu
    refine ⟨l ++ [k], by rw [List.getElem_set_self, a, nats_append]; rfl, ?_, fun w => ?_⟩
    · rw [List.nodup_append]
      refine ⟨b, by simp, fun y hy z hz => ?_⟩
      rw [List.mem_singleton] at hz; subst hz
      rintro rfl
      rcases (c _).mp hy with ⟨h1, _⟩ | ⟨_, h2⟩
      · omega
      · exact hxT h2
    · rw [List.mem_append, c, List.mem_singleton, hT]
      constructor
      · rintro ((h1 | ⟨h1, h2⟩) | rfl)
        · exact .inl h1
        · exact .inr ⟨h1, .inl h2⟩
        · exact .inr ⟨rfl, .inr rfl⟩
      · rintro (h1 | ⟨h1, h2⟩)
        · exact .inl (.inl h1)
        · exact .inr h1
  · rw [List.getElem_set_ne (Ne.symm e)]
    obtain ⟨l, a, b, c⟩ := h.2 u hu
    have : ¬ (u : Int) = (x : Int) := by omega
    exact ⟨l, a, b, fun w => by rw [c, hT]; simp only [this, or_false]⟩
theorem WsI.next {g : Gr} (hg : g.ok) {k : Nat} {ws : List Int} (hk : k < g.length) (h : WsI g k g[k] ws) : WsI g (k + 1) [] ws :=
  ⟨h.1, fun v hv => by
    rw [h.2 v hv]
    by_cases e1 : v < k
    · have : v < k + 1 := by omega
      simp only [e1, this, if_true]
    · by_cases e2 : v = k
      · subst e2
        have : v < v + 1 := by omega
        simp only [e1, this, if_true, if_false]
        congr 1
        unfold wcnt
        apply List.countP_congr
        intro y _
        simp [mem_deps hg hk]
      · have e3 : ¬ v < k + 1 := by omega
        simp only [e1, e2, e3, if_false]
        split <;> simp⟩
theorem UsI.next {g us : Gr} (hg : g.ok) {k : Nat} (hk : k < g.length) (h : UsI g k g[k] us) : UsI g (k + 1) [] us :=
  ⟨h.1, fun u hu => by
    obtain ⟨l, a, b, c⟩ := h.2 u hu
    refine ⟨l, a, b, fun w => ?_⟩
    rw [c]
    simp only [List.not_mem_nil, and_false, or_false]
    constructor
    · rintro (⟨h1, h2⟩ | ⟨rfl, h2⟩)
      · exact ⟨by omega, h2⟩
      · exact ⟨by omega, (mem_deps hg hk).mpr h2⟩
    · rintro ⟨h1, h2⟩
      by_cases e : w = k
      · subst e; exact .inr ⟨rfl, (mem_deps hg hk).mp h2⟩
      · exact .inl ⟨by omega, h2⟩⟩

def Ws (g : Gr) (out : List Nat) (ws : List Int) : Prop := ws.length = g.length ∧ ∀ v (h : v < ws.length), ws[v] = (wcnt g out v : Int)
def Us (g us : Gr) : Prop := us.length = g.length ∧ ∀ u (h : u < us.length), ∃ l : List Nat, us[u] = nats l ∧ l.Nodup ∧ ∀ w, w ∈ l ↔ u ∈ deps g w

theorem zeros_i64 (n : Nat) : zeros [.int .i64 0] n = ints (List.replicate n 0) := by
  induction n with
  | zero => rfl
  | succ n ih => rw [zeros, ih]; rfl
theorem zeros_nils (n : Nat) : zeros [.nils] n = List.replicate n .nils := by
  induction n with
  | zero => rfl
  | succ n ih => rw [zeros, ih]; rfl

section
variable {st : ASt} {g : Gr}

def HangI (st : ASt) (g : Gr) (iw iu k : Nat) (T : List Int) (base s : ASt) : Prop :=
  ∃ ws us, st.le base ∧ base.h iw = some (.cells (ints ws)) ∧ Nest base s iu (fun _ => false) us ∧ WsI g k T ws ∧ UsI g k T us

theorem hang_spec (hg : g.few) (hok : g.ok) (hn : g.length ≤ 100) : ACalls Tryz.prog F.q74 [.isl 1 (g.map row) g.length] st fun v st' =>
    ∃ iw ws us, v = .tup [.sl 1 iw 0 g.length, .isl 1 (us.map row) g.length] ∧ st' = st.new iw (.cells (ints ws)) ∧ st.h iw = none ∧ Ws g [] ws ∧ Us g us := by
  have hz0 : (0 : Int) ≤ (g.length : Nat) ∧ ((g.length : Nat) : Int) ≤ 4294967296 := by omega
  refine ACalls.ghost (Q' := fun v s => ∃ iw iu base, st.h iw = none ∧ v = .tup [.sl 1 iw 0 g.length, .sl 1 iu 0 g.length] ∧ iw ≠ iu ∧ HangI st g iw iu g.length [] base s) (calls_of_awp L.q74 rfl ?_) ?_
  · simp only [↓Bt, Bu, simprocAttr, ↓C.q74_W, C.q74_B, C.q74, hz0, Int.toNat_natCast, zeros_i64, zeros_nils]
    intro iw hiw iu hiu
    obtain ⟨hiu1, hiu2⟩ := hiu
    have hiu3 : ¬ iw = iu := fun e => hiu2 e.symm
    have hstart : HangI st g iw iu 0 [] (st.new iw (.cells (ints (List.replicate g.length 0)))) ((st.new iw (.cells (ints (List.replicate g.length 0)))).new iu (.cells (List.replicate g.length .nils))) := by
      refine ⟨_, List.replicate g.length [], ASt.le.new _ _ _, ASt.new_self _ hiw, nest_nils (by rw [ASt.new_self]; rw [ASt.new_ne _ hiu2]; exact hiu1) (ASt.le.new _ _ _) (by rw [ASt.new_ne _ hiu2]; exact hiu1) _, ⟨by simp, fun v hv => ?_⟩, ⟨by simp, fun u hu => ⟨[], by simp [nats], List.nodup_nil, fun w => by simp⟩⟩⟩
      simp
    refine awp_loopK (fun k : Nat => [(2, .sl 1 iw 0 g.length), (3, .sl 1 iu 0 g.length), (15, .isl 1 (g.map row) g.length), (16, .int .i64 g.length), (17, .int .i64 k)]) (fun k s => k ≤ g.length ∧ ∃ base, HangI st g iw iu k [] base s) (fun k => g.length - k) 0 rfl ⟨Nat.zero_le _, _, hstart⟩ ?_
    rintro k s ⟨hk, base, hI⟩
    by_cases hlt : k < g.length
    · have hlt' : (k : Int) < (g.length : Nat) := by omega
      have hz : (0:Int) ≤ (k : Int) ∧ (k : Int) < (g.length : Nat) := by omega
      have hw := wsucc hlt hg.1
      simp only [↓Bt, Bu, simprocAttr, ↓C.q74_W, C.q74_B, C.q74, hlt', hz, Int.toNat_natCast, Nat.mul_one, rowsG hlt]
      intro m hm
      have hI2 : HangI st g iw iu k [] (base.new m (.map (kmap []))) (s.new m (.map (kmap []))) ∧ (base.new m (.map (kmap []))).h m = some (.map (kmap [])) ∧ m ≠ iw ∧ st.h m = none := by
        obtain ⟨ws, us, a1, a2, a3, a4, a5⟩ := hI
        have hbm : base.h m = none := by
          cases hb : base.h m with
          | none => rfl
          | some o => rw [a3.le _ _ hb] at hm; cases hm
        refine ⟨⟨ws, us, a1.trans (ASt.le.new _ _ _), ASt.new_old a2, a3.rebase (keep_new hm) (ASt.le.newB a3.le hm _), a4, a5⟩, ASt.new_self _ hbm, ?_, ?_⟩
        · rintro rfl
          rw [a2] at hbm; cases hbm
        · cases hs : st.h m with
          | none => rfl
          | some o => rw [a1 _ _ hs] at hbm; cases hbm
      try simp only [↓Bt, Bu, simprocAttr]
      refine awp_loopK (fun j : Nat => [(2, .sl 1 iw 0 g.length), (3, .sl 1 iu 0 g.length), (4, .int .i64 k), (6, .map m), (15, .isl 1 (g.map row) g.length), (16, .int .i64 g.length), (17, .int .i64 k), (23, .isl 1 (ints g[k]) g[k].length), (24, .int .i64 g[k].length), (25, .int .i64 j)]) (fun j s => j ≤ g[k].length ∧ ∃ base ks, HangI st g iw iu k (g[k].take j) base s ∧ base.h m = some (.map (kmap ks)) ∧ ∀ x, x ∈ ks ↔ x ∈ g[k].take j) (fun j => g[k].length - j) 0 rfl
        ⟨Nat.zero_le _, _, [], hI2.1, hI2.2.1, fun x => by simp⟩ ?_
      obtain ⟨-, -, hmw, hstm⟩ := hI2
      clear hI hm
      rintro j s ⟨hj, base, ks, hI, hbm, hks⟩
      by_cases hjl : j < g[k].length
      · have hjl' : (j : Int) < (g[k].length : Nat) := by omega
        have hzj : (0:Int) ≤ (j : Int) ∧ (j : Int) < (g[k].length : Nat) := by omega
        have hwj := wsucc hjl (hg.2 _ (List.getElem_mem hlt))
        obtain ⟨hx1, hx2⟩ := hok _ (List.getElem_mem hlt) _ (List.getElem_mem hjl)
        obtain ⟨x, hx⟩ : ∃ x : Nat, g[k][j] = x := ⟨_, (Int.toNat_of_nonneg hx1).symm⟩
        have hxl : x < g.length := by omega
        have htake : ∀ y, y ∈ g[k].take (j + 1) ↔ y ∈ g[k].take j ∨ y = x := by
          intro y
          rw [List.take_succ_eq_append_getElem hjl, List.mem_append, List.mem_singleton, hx]
        obtain ⟨ws, us, a1, a2, a3, a4, a5⟩ := hI
        simp only [↓Bt, Bu, simprocAttr, ↓C.q74_W, C.q74_B, C.q74, hjl', hzj, Int.toNat_natCast, Nat.mul_one, ints_get hjl, hx]
        refine (has_spec (a3.le _ _ hbm) x).mono ?_
        rintro v s' ⟨rfl, rfl⟩
        by_cases hmet : (x : Int) ∈ ks
        · simp only [↓Bt, Bu, simprocAttr, ↓C.q74_W, C.q74_B, C.q74, hmet, hwj]
          have hT : ∀ y, y ∈ g[k].take (j + 1) ↔ y ∈ g[k].take j := fun y => by
            rw [htake]
            constructor
            · rintro (h | rfl)
              · exact h
              · exact (hks _).mp hmet
            · exact .inl
          exact ⟨j + 1, rfl, ⟨hjl, base, ks, ⟨ws, us, a1, a2, a3, a4.same hT, a5.same hT⟩, hbm, fun y => by rw [hks, hT]⟩, by omega⟩
        · simp only [↓Bt, Bu, simprocAttr, ↓C.q74_W, C.q74_B, C.q74, hmet]
          refine (add_spec (a3.le _ _ hbm) x).mono ?_
          rintro v s2 ⟨ks', hs2, hks'⟩
          have hxT : (x : Int) ∉ g[k].take j := fun h => hmet ((hks _).mpr h)
          have b3 : Nest (base.set m (.map (kmap ks'))) s2 iu (fun _ => false) us := by rw [hs2]; exact a3.rebase (keep_set (by rw [hbm]; simp)) (a3.le.set _ _)
          clear hs2
          have b2 : (base.set m (.map (kmap ks'))).h iw = some (.cells (ints ws)) := by rw [ASt.set_h, if_neg hmw.symm]; exact a2
          have b2' := b3.le _ _ b2
          have hkw : k < ws.length := by rw [a4.1]; exact hlt
          have hzk : (0:Int) ≤ (k : Int) ∧ (k : Int) < (g.length : Nat) := hz
          have hzx : (0:Int) ≤ (x : Int) ∧ (x : Int) < (g.length : Nat) := by omega
          have hwsk : ws[k] = ((List.range g.length).countP fun u : Nat => decide ((u : Int) ∈ g[k].take j) : Nat) := by
            have := a4.2 k hkw
            simpa using this
          have hww : IntKind.i64.wrap (ws[k] + 1) = ws[k] + 1 := by
            have : (List.range g.length).countP (fun u : Nat => decide ((u : Int) ∈ g[k].take j)) ≤ (List.range g.length).length := List.countP_le_length
            rw [List.length_range] at this
            rw [wrap64] <;> omega
          have c3 : Nest ((base.set m (.map (kmap ks'))).set iw (.cells (ints (ws.set k (ws[k] + 1))))) (s2.set iw (.cells (ints (ws.set k (ws[k] + 1))))) iu (fun _ => false) us :=
            b3.rebase (keep_set (by rw [b2]; simp)) (b3.le.set _ _)
          have hxu : x < us.length := by rw [a5.1]; exact hxl
          obtain ⟨vs, v0, d1, d2, d3, d4, d5⟩ := c3.shows hxu rfl
          have d1' : s2.h iu = some (.cells vs) := by rw [ASt.set_h, if_neg hiu2] at d1; exact d1
          have hlen : us[x].length ≤ g.length := by
            obtain ⟨l, e1, e2, e3⟩ := a5.2 x hxu
            rw [e1, nats_length]
            have := nodup_len (k := List.range g.length) e2 (fun w hw => by
              rcases (e3 w).mp hw with ⟨h1, _⟩ | ⟨h1, _⟩ <;> simp <;> omega)
            simpa using this
          have hvl : x < vs.length := by omega
          simp only [↓Bp, Bq, Bs, simprocAttr, ↓C.q74_W, C.q74_B, C.q74, hzk, hzx, hz, Int.toNat_natCast, Nat.mul_one, b2', ints_get hkw, hww, ints_length, hkw, ints_set, hiu2, d1', d3]
          refine aop_append_one d4 (by omega) (new := [.int .i64 k]) rfl rfl rfl (fun _ => rfl) (fun _ => rfl) ?_
          intro v1 i2 st2 e1 e2 e3
          obtain ⟨f1, f2⟩ := d5 i2 st2 k e1 e2 (by
            obtain ⟨i, h1, h2⟩ := e3.blk (by omega)
            cases h1
            rw [h2, ints_append]; rfl)
          simp only [↓Bt, Bu, simprocAttr, hzx, Int.toNat_natCast, Nat.mul_one, f1, hvl, hwj]
          refine ⟨j + 1, rfl, ⟨hjl, _, ks', ⟨ws.set k (ws[k] + 1), us.set x (us[x] ++ [(k : Int)]), ?_, ?_, f2, a4.add hxl hxT htake hkw, a5.add hxu hxT htake⟩, ?_, fun y => by rw [hks', hks, htake]⟩, by omega⟩
          · intro i o ho
            have n1 : i ≠ iw := by rintro rfl; rw [hiw] at ho; cases ho
            have n2 : i ≠ m := by rintro rfl; rw [hstm] at ho; cases ho
            rw [ASt.set_h, if_neg n1, ASt.set_h, if_neg n2]
            exact a1 _ _ ho
          · rw [ASt.set_h, if_pos rfl, b2]; rfl
          · rw [ASt.set_h, if_neg hmw, ASt.set_h, if_pos rfl, hbm]; rfl
      · have hje : j = g[k].length := by omega
        subst hje
        have hjl' : ¬ ((g[k].length : Nat) : Int) < (g[k].length : Nat) := by omega
        simp only [↓Bt, Bu, simprocAttr, ↓C.q74_W, C.q74_B, C.q74, hjl', hw]
        obtain ⟨ws, us, a1, a2, a3, a4, a5⟩ := hI
        rw [List.take_length] at a4 a5
        exact ⟨k + 1, rfl, ⟨hlt, base, ws, us, a1, a2, a3, a4.next hok hlt, a5.next hok hlt⟩, by omega⟩
    · have hke : k = g.length := by omega
      subst hke
      have hlt' : ¬ ((g.length : Nat) : Int) < (g.length : Nat) := by omega
      simp only [↓Bt, Bu, simprocAttr, ↓C.q74_W, C.q74_B, C.q74, hlt']
      exact ⟨iw, iu, base, hiw, rfl, hiu3, hI⟩
  · rintro v s ⟨iw, iu, base, hiw, rfl, hne, ws, us, a1, a2, a3, a4, a5⟩
    obtain ⟨st1, g1, g2, g3⟩ := a3.freeze (.tup [.sl 1 iw 0 g.length, .sl 1 iu 0 g.length])
    have hlu : us.length = g.length := a5.1
    refine ⟨.tup [.sl 1 iw 0 g.length, .isl 1 (us.map row) g.length], st.new iw (.cells (ints ws)), ?_, iw, ws, us, rfl, rfl, hiw, ⟨a4.1, fun v hv => ?_⟩, ⟨hlu, fun u hu => ?_⟩⟩
    · refine g1.trans ((Ghost.freezeIn g3 (FrzV.cons2 (.same _) (.sl 1 0 g.length))).trans (Ghost.sub ?_))
      intro i o ho
      have hni : i ≠ iu := by
        rintro rfl
        have hb := a3.idn
        rw [ASt.new_o] at ho
        cases hs : st.h i with
        | some y => rw [a1 _ _ hs] at hb; cases hb
        | none =>
          rw [hs, Option.none_or] at ho
          split at ho
          · rename_i e; exact hne e.symm
          · cases ho
      rw [ASt.kill_h, if_neg hni]
      refine g2 _ _ ?_
      rw [ASt.new_o] at ho
      cases hs : st.h i with
      | some y => rw [hs] at ho; cases ho; exact a1 _ _ hs
      | none =>
        rw [hs, Option.none_or] at ho
        split at ho
        · rename_i e; subst e; cases ho; exact a2
        · cases ho
    · have hv2 : v < g.length := by rw [← a4.1]; exact hv
      rw [a4.2 v hv, if_pos hv2]
    · obtain ⟨l, b1, b2, b3⟩ := a5.2 u hu
      refine ⟨l, b1, b2, fun w => ?_⟩
      rw [b3]
      simp only [List.not_mem_nil, and_false, or_false]
      exact ⟨fun h => h.2, fun h => ⟨deps_of h, h⟩⟩
end
/- Graphs: Order. -/
set_option maxRecDepth 100000

theorem wcnt_le (g : Gr) (out : List Nat) (v : Nat) : wcnt g out v ≤ g.length := by
  have := List.countP_le_length (p := fun u => decide (u ∈ deps g v ∧ u ∉ out)) (l := List.range g.length)
  rw [List.length_range] at this
  exact this

def WsD (g : Gr) (out : List Nat) (v : Nat) (T : List Nat) (ws : List Int) : Prop := ws.length = g.length ∧ ∀ u (h : u < ws.length), ws[u] = if u ∈ T then (wcnt g (out ++ [v]) u : Int) else (wcnt g out u : Int)

theorem WsD.start {g : Gr} {out : List Nat} {v : Nat} {ws : List Int} (h : Ws g out ws) : WsD g out v [] ws := ⟨h.1, fun u hu => by rw [h.2 u hu]; simp⟩
theorem WsD.finish {g : Gr} (hg : g.ok) {out : List Nat} {v : Nat} (hv : v ∉ out) {T : List Nat} (hT : ∀ w, w ∈ T ↔ v ∈ deps g w) {ws : List Int} (h : WsD g out v T ws) : Ws g (out ++ [v]) ws := ⟨h.1, fun u hu => by
  rw [h.2 u hu]
  split
  · rfl
  · rename_i hn
    rw [wcnt_snoc hg hv, if_neg (fun x => hn ((hT u).mpr x))]; simp⟩
theorem WsD.step {g : Gr} (hg : g.ok) {out : List Nat} {v : Nat} (hv : v ∉ out) {T : List Nat} {ws : List Int} (h : WsD g out v T ws) {u : Nat} (hu : u < ws.length) (huT : u ∉ T) (hd : v ∈ deps g u) : WsD g out v (T ++ [u]) (ws.set u (ws[u] - 1)) := by
  refine ⟨by simp [h.1], fun w hw' => ?_⟩
  have hw : w < ws.length := by simpa using hw'
  by_cases e : w = u
  · subst e
    rw [List.getElem_set_self, h.2 w hw, if_neg huT, if_pos (by simp), wcnt_snoc hg hv, if_pos hd]
    omega
  · rw [List.getElem_set_ne (Ne.symm e), h.2 w hw]
    simp only [List.mem_append, List.mem_singleton, e, or_false]

theorem ints_nats_get {l : List Nat} {i : Nat} (h : i < l.length) : (ints (nats l))[i]? = some (.int .i64 l[i]) := by simp [ints, nats, h]

section
variable {st : ASt} {g : Gr}

def OrdI (st : ASt) (g : Gr) (iw m : Nat) (W : List Int → Prop) (K : List Nat) (v : AV) (out : List Nat) (s : ASt) : Prop :=
  ∃ base ws ks, st.le base ∧ base.h iw = some (.cells (ints ws)) ∧ base.h m = some (.map (kmap ks)) ∧ Over base s 1 v out.length (ints (nats out)) ∧ W ws ∧ ∀ x : Nat, (x : Int) ∈ ks ↔ x ∈ K

theorem order_spec0 (hg : g.few) : ACalls Tryz.prog F.q73 [.isl 1 (g.map row) g.length] st fun v st' =>
    (grErr g ≠ 0 ∧ v = .tup [.nils, .int .i64 (grErr g)] ∧ st' = st) ∨ (grErr g = 0 ∧ ∃ x, v = .tup [x, .int .i64 0] ∧ Over st st' 1 x g.length (ints (nats (ord g)))) := by
  refine ACalls.gc (Q' := fun v s => (grErr g ≠ 0 ∧ v = .tup [.nils, .int .i64 (grErr g)] ∧ st.le s) ∨ (grErr g = 0 ∧ ∃ x, v = .tup [x, .int .i64 0] ∧ Over st s 1 x g.length (ints (nats (ord g))))) (calls_of_awp L.q73 rfl ?_) ?_
  rotate_left
  · rintro v s (⟨h1, h2, h3⟩ | h)
    · exact ⟨st, h3, .inl ⟨h1, h2, rfl⟩⟩
    · exact ⟨s, ASt.le.refl _, .inr h⟩
  simp only [↓Bt, Bu, simprocAttr, ↓C.q73_W, C.q73_B, C.q73]
  refine (numbers_spec hg).mono ?_
  rintro v st' ⟨rfl, rfl⟩
  by_cases h1 : 100 < g.length
  · have he : grErr g = 1 := by simp [grErr, h1]
    simp only [↓Bt, Bu, simprocAttr, ↓C.q73_W, C.q73_B, C.q73, h1, he]
    first | exact .inl ⟨by decide, ASt.le.refl _⟩ | exact .inl (ASt.le.refl _)
  by_cases hok : g.ok
  rotate_left
  · have he : grErr g = 4 := by simp [grErr, h1, hok]
    simp only [↓Bt, Bu, simprocAttr, ↓C.q73_W, C.q73_B, C.q73, h1, hok, he]
    first | exact .inl ⟨by decide, ASt.le.refl _⟩ | exact .inl (ASt.le.refl _)
  simp only [↓Bt, Bu, simprocAttr, ↓C.q73_W, C.q73_B, C.q73, h1, hok]
  refine (hang_spec hg hok (by omega)).mono ?_
  rintro v s ⟨iw, ws, us, rfl, hs, hiw, hws, hus⟩
  subst hs
  simp only [↓Bt, Bu, simprocAttr, ↓C.q73_W, C.q73_B, C.q73]
  rintro m ⟨hm, hmw⟩
  have hmw' : ¬ iw = m := fun e => hmw e.symm
  have hstart : OrdI st' g iw m (Ws g []) [] .nils [] ((st'.new iw (.cells (ints ws))).new m (.map [])) := by
    refine ⟨_, ws, [], (ASt.le.new _ _ _).trans (ASt.le.new _ _ _), ASt.new_old (ASt.new_self _ hiw), ASt.new_self _ ?_, Over.nils (ASt.le.refl _) 1, hws, fun x => by simp⟩
    rw [ASt.new_none]; exact ⟨hm, hmw⟩
  refine awp_loopK (fun p : AV × List Nat => [(0, .isl 1 (g.map row) g.length), (5, .sl 1 iw 0 g.length), (6, .isl 1 (us.map row) g.length), (7, .map m), (8, p.1)]) (fun p s => OrdI st' g iw m (Ws g p.2) p.2 p.1 p.2 s ∧ Topo g p.2 ∧ ord g = ordGo g (g.length - p.2.length) p.2) (fun p => g.length - p.2.length) (.nils, []) rfl
    ⟨hstart, .nil, rfl⟩ ?_
  rintro ⟨v8, out⟩ s ⟨⟨base, ws, ks, b1, b2, b3, b4, b5, b6⟩, ht, hord⟩
  simp only at b4 b5 b6 ht hord ⊢
  have hl8 := b4.1.slen
  have hol := ht.len
  by_cases hlt : out.length < g.length
  rotate_left
  · have hlt' : ¬ ((out.length : Nat) : Int) < (g.length : Nat) := by omega
    have hoe : out.length = g.length := by omega
    have hord2 : ord g = out := by rw [hord, hoe, Nat.sub_self]; rfl
    have he : grErr g = 0 := by simp [grErr, h1, hok, hord2, hoe]
    simp only [↓Bt, Bu, simprocAttr, ↓C.q73_W, C.q73_B, C.q73, hl8, hlt', he]
    refine .inr ⟨v8, rfl, ?_⟩
    rw [hord2, ← hoe]
    exact b4.rebase (fun b hb hs => ⟨rfl, by
      cases hx : st'.h b with
      | none => rfl
      | some o => rw [b1 _ _ hx] at hb; cases hb⟩) (b1.trans b4.2.1)
  have hlt' : ((out.length : Nat) : Int) < (g.length : Nat) := by omega
  have hsm := b4.2.1 _ _ b3
  have hsw := b4.2.1 _ _ b2
  simp only [↓Bt, Bu, simprocAttr, ↓C.q73_W, C.q73_B, C.q73, hl8, hlt']
  refine awp_midB (fun v : Nat => [(0, .isl 1 (g.map row) g.length), (5, .sl 1 iw 0 g.length), (6, .isl 1 (us.map row) g.length), (7, .map m), (8, v8), (9, .int .i64 v)]) (fun v s' => s' = s ∧ ((v < g.length ∧ next g out = some v) ∨ (v = g.length ∧ next g out = none))) ?_ ?_
  · refine awp_loopK (fun v : Nat => [(0, .isl 1 (g.map row) g.length), (5, .sl 1 iw 0 g.length), (6, .isl 1 (us.map row) g.length), (7, .map m), (8, v8), (9, .int .i64 v)]) (fun v s' => s' = s ∧ v ≤ g.length ∧ ∀ j, j < v → ready g out j = false) (fun v => g.length - v) 0 rfl ⟨rfl, Nat.zero_le _, fun j hj => by omega⟩ ?_
    rintro v s ⟨rfl, hv, hnr⟩
    by_cases hvl : v < g.length
    · have hvl' : (v : Int) < (g.length : Nat) := by omega
      have hzv : (0:Int) ≤ (v : Int) ∧ (v : Int) < (g.length : Nat) := by omega
      have hw := wsucc hvl hg.1
      have step : ready g out v = false → ∀ j, j < v + 1 → ready g out j = false := fun h j hj => by
        by_cases e : j = v
        · subst e; exact h
        · exact hnr j (by omega)
      simp only [↓Bt, Bu, simprocAttr, ↓C.q73_W, C.q73_B, C.q73, hvl']
      refine (has_spec hsm v).mono ?_
      rintro r s' ⟨rfl, rfl⟩
      by_cases hin : v ∈ out
      · have hk : (v : Int) ∈ ks := (b6 v).mpr hin
        simp only [↓Bt, Bu, simprocAttr, ↓C.q73_W, C.q73_B, C.q73, hk, hw]
        exact ⟨v + 1, rfl, ⟨hvl, step (by simp [ready, hin])⟩, by omega⟩
      · have hk : ¬ (v : Int) ∈ ks := fun h => hin ((b6 v).mp h)
        have hvw : v < ws.length := by rw [b5.1]; exact hvl
        have hwv := b5.2 v hvw
        by_cases hz : wcnt g out v = 0
        · have hpos : ¬ (0 : Int) < ws[v] := by omega
          simp only [↓Bt, Bu, simprocAttr, ↓C.q73_W, C.q73_B, C.q73, hk, hzv, Int.toNat_natCast, Nat.mul_one, hsw, ints_get hvw, hpos]
          exact ⟨v, rfl, .inl ⟨hvl, next_some.mpr ⟨ready_iff.mpr ⟨hin, (wcnt_zero hok).mp hz⟩, hvl, hnr⟩⟩⟩
        · have hpos : (0 : Int) < ws[v] := by omega
          simp only [↓Bt, Bu, simprocAttr, ↓C.q73_W, C.q73_B, C.q73, hk, hzv, Int.toNat_natCast, Nat.mul_one, hsw, ints_get hvw, hpos, hw]
          refine ⟨v + 1, rfl, ⟨hvl, step ?_⟩, by omega⟩
          cases hr : ready g out v with
          | false => rfl
          | true => exact absurd ((wcnt_zero hok).mpr (ready_iff.mp hr).2) hz
    · have hve : v = g.length := by omega
      subst hve
      have hvl' : ¬ ((g.length : Nat) : Int) < (g.length : Nat) := by omega
      simp only [↓Bt, Bu, simprocAttr, ↓C.q73_W, C.q73_B, C.q73, hvl']
      exact ⟨g.length, rfl, .inr ⟨rfl, next_none.mpr hnr⟩⟩
  rintro v s' ⟨rfl, hv⟩
  rcases hv with ⟨hvl, hnext⟩ | ⟨rfl, hnext⟩
  rotate_left
  · have hord2 : ord g = out := by
      obtain ⟨f, hf⟩ : ∃ f, g.length - out.length = f + 1 := ⟨g.length - out.length - 1, by omega⟩
      rw [hord, hf, ordGo, hnext]
    have he : grErr g = 5 := by simp [grErr, h1, hok, hord2, hlt]
    simp only [↓Bt, Bu, simprocAttr, ↓C.q73_W, C.q73_B, C.q73, he]
    first | exact .inl ⟨by decide, b1.trans b4.2.1⟩ | exact .inl (b1.trans b4.2.1)
  have hne : ¬ (v : Int) = (g.length : Nat) := by omega
  have hvout := (ready_iff.mp (next_some.mp hnext).1).1
  simp only [↓Bt, Bu, simprocAttr, ↓C.q73_W, C.q73_B, C.q73, hne]
  refine (add_spec hsm v).mono ?_
  rintro r s2 ⟨ks', hs2, hks'⟩
  have b4' : Over (base.set m (.map (kmap ks'))) s2 1 v8 out.length (ints (nats out)) := by rw [hs2]; exact b4.rebase (keep_set (by rw [b3]; simp)) (b4.2.1.set _ _)
  clear hs2
  have hzv : (0:Int) ≤ (v : Int) ∧ (v : Int) < (g.length : Nat) := by omega
  simp only [↓Bp, Bq, Bs, simprocAttr, ↓C.q73_W, C.q73_B, C.q73]
  refine aop_append_over b4' (by omega) (new := [.int .i64 v]) rfl rfl rfl (fun _ => rfl) (fun _ => rfl) ?_
  intro v1 v2 s3 hO
  have hvu : v < us.length := by rw [hus.1]; exact hvl
  obtain ⟨l, l1, l2, l3⟩ := hus.2 v hvu
  simp only [↓Bt, Bu, simprocAttr, ↓C.q73_W, C.q73_B, C.q73, hzv, Int.toNat_natCast, Nat.mul_one, rowsG hvu, l1]
  have hO2 : Over (base.set m (.map (kmap ks'))) s3 1 v2 (out ++ [v]).length (ints (nats (out ++ [v]))) := by
    rw [nats_append, ints_append, List.length_append]; exact hO
  have hstart2 : OrdI st' g iw m (WsD g out v []) (out ++ [v]) v2 (out ++ [v]) s3 := by
    refine ⟨_, ws, ks', ?_, by rw [ASt.set_h, if_neg hmw']; exact b2, by rw [ASt.set_h, if_pos rfl, b3]; rfl, hO2, WsD.start b5, fun x => ?_⟩
    · intro i o ho
      have : i ≠ m := by rintro rfl; rw [hm] at ho; cases ho
      rw [ASt.set_h, if_neg this]; exact b1 _ _ ho
    · rw [hks', b6, List.mem_append, List.mem_singleton]
      have : (x : Int) = v ↔ x = v := by omega
      rw [this]
  refine awp_loopK (fun j : Nat => [(0, .isl 1 (g.map row) g.length), (5, .sl 1 iw 0 g.length), (6, .isl 1 (us.map row) g.length), (7, .map m), (8, v2), (60, .isl 1 (ints (nats l)) (nats l).length), (61, .int .i64 (nats l).length), (62, .int .i64 j)]) (fun j s => j ≤ l.length ∧ OrdI st' g iw m (WsD g out v (l.take j)) (out ++ [v]) v2 (out ++ [v]) s) (fun j => l.length - j) 0 rfl
    ⟨Nat.zero_le _, by simpa using hstart2⟩ ?_
  clear hstart2 hstart hO hO2 b2 b3 b4 b5 b6 b4' hsm hsw
  rintro j s ⟨hj, base, ws, ks, b1, b2, b3, b4, b5, b6⟩
  by_cases hjl : j < l.length
  · have hjl' : (j : Int) < ((nats l).length : Nat) := by rw [nats_length]; omega
    have hzj : (0:Int) ≤ (j : Int) ∧ (j : Int) < ((nats l).length : Nat) := by omega
    have hll : l.length ≤ g.length := by
      have := nodup_len (k := List.range g.length) l2 (fun w hw => by simpa using deps_of ((l3 w).mp hw))
      simpa using this
    have hwj := wsucc hjl (by omega)
    have hd : v ∈ deps g l[j] := (l3 _).mp (List.getElem_mem hjl)
    have hul : l[j] < g.length := deps_of hd
    have huw : l[j] < ws.length := by rw [b5.1]; exact hul
    have hzu : (0:Int) ≤ (l[j] : Int) ∧ (l[j] : Int) < (g.length : Nat) := by omega
    have huT : l[j] ∉ l.take j := by
      intro h
      obtain ⟨i, hi, he⟩ := List.getElem_of_mem h
      simp only [List.length_take] at hi
      rw [List.getElem_take] at he
      have e1 := l2.idxOf_getElem i (by omega)
      have e2 := l2.idxOf_getElem j hjl
      rw [he, e2] at e1
      omega
    have hsw := b4.2.1 _ _ b2
    have hww : IntKind.i64.wrap (ws[l[j]] - 1) = ws[l[j]] - 1 := by
      have := b5.2 _ huw
      have := wcnt_le g out l[j]
      have := wcnt_le g (out ++ [v]) l[j]
      rw [wrap64] <;> (split at * <;> omega)
    simp only [↓Bt, Bu, simprocAttr, ↓C.q73_W, C.q73_B, C.q73, hjl', hzj, Int.toNat_natCast, Nat.mul_one, ints_nats_get hjl, hzu, hsw, ints_get huw, ints_length, huw, hww, ints_set, hwj]
    refine ⟨j + 1, rfl, ⟨hjl, base.set iw (.cells (ints (ws.set l[j] (ws[l[j]] - 1)))), ws.set l[j] (ws[l[j]] - 1), ks, ?_, by rw [ASt.set_h, if_pos rfl, b2]; rfl, by rw [ASt.set_h, if_neg hmw]; exact b3, b4.rebase (keep_set (by rw [b2]; simp)) (b4.2.1.set _ _), ?_, b6⟩, by omega⟩
    · intro i o ho
      have : i ≠ iw := by rintro rfl; rw [hiw] at ho; cases ho
      rw [ASt.set_h, if_neg this]; exact b1 _ _ ho
    · rw [List.take_succ_eq_append_getElem hjl]
      exact b5.step hok hvout huw huT hd
  · have hje : j = l.length := by omega
    subst hje
    have hjl' : ¬ ((l.length : Nat) : Int) < ((nats l).length : Nat) := by rw [nats_length]; omega
    rw [List.take_length] at b5
    simp only [↓Bt, Bu, simprocAttr, ↓C.q73_W, C.q73_B, C.q73, hjl']
    refine ⟨(v2, out ++ [v]), rfl, ⟨⟨base, ws, ks, b1, b2, b3, b4, b5.finish hok hvout l3, b6⟩, .snoc ht hnext, ?_⟩, ?_⟩
    · obtain ⟨f, hf⟩ : ∃ f, g.length - out.length = f + 1 := ⟨g.length - out.length - 1, by omega⟩
      rw [hord, hf, ordGo, hnext]
      simp only [List.length_append, List.length_cons, List.length_nil]
      congr 1; omega
    · simp only [List.length_append, List.length_cons, List.length_nil]; omega
end
/- Graphs: Check, Above, Under. -/
set_option maxRecDepth 100000

section
variable {st : ASt} {g : Gr}

theorem order_spec (hg : g.few) : ACalls Tryz.prog F.q73 [.isl 1 (g.map row) g.length] st fun v st' => v = .tup [row (nats (ordL g)), .int .i64 (grErr g)] ∧ st' = st := by
  refine (order_spec0 hg).ghost ?_
  rintro v st' (⟨h1, rfl, rfl⟩ | ⟨h1, x, rfl, hO⟩)
  · refine ⟨_, st', Ghost.tupL (Ghost.nils 1) _, ?_, rfl⟩
    rw [ordL, if_neg h1]; rfl
  · refine ⟨_, st, Ghost.tupL hO.frz _, ?_, rfl⟩
    have h2 := (grErr_zero.mp h1).2.full
    rw [ordL, if_pos h1, row, h1, nats_length, h2]

theorem check_spec (hg : g.few) : ACalls Tryz.prog F.q72 [.isl 1 (g.map row) g.length] st fun v st' => v = .int .i64 (grErr g) ∧ st' = st := by
  refine calls_of_awp L.q72 rfl ?_
  simp only [↓Bt, Bu, simprocAttr, ↓C.q72_W, C.q72_B, C.q72]
  refine (order_spec hg).mono ?_
  rintro v st' ⟨rfl, rfl⟩
  simp only [↓Bt, Bu, simprocAttr, ↓C.q72_W, C.q72_B, C.q72]

end
/- Descriptions: the small askers. -/
set_option maxRecDepth 100000

theorem when_spec {st : ASt} {b : Bool} {e : Int} : ACalls Tryz.prog F.q70 [.bool b, .int .i64 e] st fun r st' => r = .int .i64 (if b = true then e else 0) ∧ st' = st := by
  refine calls_of_awp L.q70 rfl ?_
  cases b <;> simp only [↓Bt, Bu, simprocAttr, ↓C.q70_W, C.q70_B, C.q70]

theorem within_spec {st : ASt} {n a b : Int} : ACalls Tryz.prog F.q71 [.int .i64 n, .int .i64 a, .int .i64 b] st fun r st' => r = .bool (decide (a ≤ n ∧ n ≤ b)) ∧ st' = st := by
  refine calls_of_awp L.q71 rfl ?_
  by_cases h1 : a ≤ n
  · by_cases h2 : n ≤ b
    · simp only [↓Bt, Bu, simprocAttr, ↓C.q71_W, C.q71_B, C.q71, h1, h2, ge_iff_le]
    · simp only [↓Bt, Bu, simprocAttr, ↓C.q71_W, C.q71_B, C.q71, h1, h2, ge_iff_le]
  · simp only [↓Bt, Bu, simprocAttr, ↓C.q71_W, C.q71_B, C.q71, h1, ge_iff_le]

def firstE (e : Nat → Int) : Nat → Int
  | 0 => 0
  | n + 1 => if firstE e n = 0 then e n else firstE e n
theorem firstE_zero {e : Nat → Int} : ∀ {n : Nat}, firstE e n = 0 ↔ ∀ i, i < n → e i = 0
  | 0 => by simp [firstE]
  | n + 1 => by
    have ih := @firstE_zero e n
    rw [firstE]
    constructor
    · intro h i hi
      by_cases h0 : firstE e n = 0
      · rw [if_pos h0] at h
        rcases Nat.lt_or_ge i n with h1 | h1
        · exact ih.1 h0 i h1
        · have : i = n := by omega
          subst this; exact h
      · rw [if_neg h0] at h; exact absurd h h0
    · intro h
      rw [if_pos (ih.2 fun i hi => h i (by omega))]
      exact h n (by omega)
theorem firstE_stop {e : Nat → Int} {k : Nat} (h0 : firstE e k = 0) (hk : e k ≠ 0) : ∀ {n : Nat}, k < n → firstE e n = e k
  | 0, h => absurd h (Nat.not_lt_zero _)
  | n + 1, h => by
    rw [firstE]
    rcases Nat.lt_or_ge k n with h1 | h1
    · have := firstE_stop h0 hk h1
      rw [this, if_neg hk]
    · have : k = n := by omega
      subst this
      rw [if_pos h0]

theorem first_spec {st : ASt} {id n : Nat} {fs : List AV} {e : Nat → Int} (hid : st.h id = some (.cells fs)) (hn : fs.length = n) (hs : n ≤ 4294967296)
    (ha : ∀ i, i < n → firstE e i = 0 → ∃ g cap, fs[i]? = some (.fn g cap) ∧ hasBody Tryz.prog g = true ∧ ACalls Tryz.prog g cap st fun r st' => r = .int .i64 (e i) ∧ st' = st) :
    ACalls Tryz.prog F.q58 [.sl 1 id 0 n] st fun r st' => r = .int .i64 (firstE e n) ∧ st' = st := by
  refine calls_of_awp L.q58 rfl ?_
  simp only [↓Bt, Bu, simprocAttr, ↓C.q58_W, C.q58_B, C.q58]
  refine awp_loopK (fun i : Nat => [(6, .sl 1 id 0 n), (7, .int .i64 n), (8, .int .i64 i)]) (fun i s => s = st ∧ i ≤ n ∧ firstE e i = 0) (fun i => n - i) 0 rfl ⟨rfl, Nat.zero_le _, rfl⟩ ?_
  rintro i s ⟨rfl, hi, h0⟩
  by_cases hil : i < n
  · have hil' : (i : Int) < (n : Nat) := by omega
    have hz : (0:Int) ≤ (i : Int) ∧ (i : Int) < (n : Nat) := by omega
    have hw : IntKind.i64.wrap ((i : Int) + 1) = ((i + 1 : Nat) : Int) := by rw [wrap64] <;> omega
    obtain ⟨g, cap, hg, hb, hc⟩ := ha i hil h0
    simp only [↓Bt, Bu, simprocAttr, ↓C.q58_W, C.q58_B, C.q58, hil', hz, hid, hg, hb, Int.toNat_natCast, Nat.mul_one]
    refine hc.mono ?_
    rintro r s2 ⟨rfl, rfl⟩
    by_cases he : e i = 0
    · simp only [↓Bt, Bu, simprocAttr, ↓C.q58_W, C.q58_B, C.q58, he, hw]
      exact ⟨i + 1, rfl, ⟨hil, by rw [firstE, if_pos h0, he]⟩, by omega⟩
    · simp only [↓Bt, Bu, simprocAttr, ↓C.q58_W, C.q58_B, C.q58, he]
      rw [firstE_stop h0 he hil]
  · have hie : i = n := by omega
    subst hie
    have hil' : ¬ ((i : Nat) : Int) < (i : Nat) := by omega
    simp only [↓Bt, Bu, simprocAttr, ↓C.q58_W, C.q58_B, C.q58, hil', h0]

/- Descriptions: each. -/
set_option maxRecDepth 100000

theorem le_new_set {st : ASt} {id : Nat} {a b : AObj} (hid : st.h id = none) : st.le ((st.new id a).set id b) := fun i o h => by
  have hne : i ≠ id := by rintro rfl; rw [hid] at h; cases h
  simp [ASt.set_h, hne, ASt.new_old h]

theorem conf_each_api_Clock_spec {st : ASt} {l : List Clk} {g : Nat} {cap : List AV} {e : Nat → Int} (hb : hasBody Tryz.prog g = true) (hs : l.length ≤ 4294967296)
    (ha : ∀ i (h : i < l.length), firstE e i = 0 → ACalls Tryz.prog g (.agg (Clk.cells l[i]) :: cap) st fun r s => r = .int .i64 (e i) ∧ s = st) :
    ACalls Tryz.prog F.q53 [.isl 6 (l.flatMap Clk.cells) l.length, .fn g cap] st fun r s => r = .int .i64 (firstE e l.length) ∧ s = st := by
  refine calls_of_awp L.q53 rfl ?_
  simp only [↓Bt, Bu, simprocAttr, ↓C.q53_W, C.q53_B, C.q53]
  refine awp_loopK (fun i : Nat => [(1, .fn g cap), (8, .isl 6 (l.flatMap Clk.cells) l.length), (9, .int .i64 l.length), (10, .int .i64 i)]) (fun i s => s = st ∧ i ≤ l.length ∧ firstE e i = 0) (fun i => l.length - i) 0 rfl ⟨rfl, Nat.zero_le _, rfl⟩ ?_
  rintro i s ⟨rfl, hi, h0⟩
  by_cases hil : i < l.length
  · have hil' : (i : Int) < (l.length : Nat) := by omega
    have hz : (0:Int) ≤ (i : Int) ∧ (i : Int) < (l.length : Nat) := by omega
    have hw : IntKind.i64.wrap ((i : Int) + 1) = ((i + 1 : Nat) : Int) := by rw [wrap64] <;> omega
    have hf := flatMap_fits (f := Clk.cells) (k := 6) (fun _ => rfl) hil
    have ht := flatMap_at (f := Clk.cells) (k := 6) (fun _ => rfl) hil
    obtain ⟨cs, hcs⟩ : ∃ cs, cs = Clk.cells l[i] := ⟨_, rfl⟩
    have hc := ha i hil h0
    rw [← hcs] at ht hc
    simp only [↓Bt, Bu, simprocAttr, ↓C.kl_w, C.kl_b, ↓C.btb_w, ↓C.kk_w, C.kk_b, ↓C.btf_w, ↓C.kj_w, C.kj_b, ↓C.bs9_w, ↓C.btg_w, ↓C.bth_w, ↓C.kh_w, C.kh_b, ↓C.bs8_w, ↓C.btc_w, ↓C.kg_w, C.kg_b, ↓C.btd_w, ↓C.kf_w, C.kf_b, C.q53, hil', hz, Int.toNat_natCast, hf, ht]
    intro id hid
    rw [hcs] at hc ⊢
    simp only [↓Bt, Bu, simprocAttr, ↓C.q53_W, C.q53_B, C.q53, Clk.cells, hid, hb]
    refine ⟨rfl, (hc.less (le_new_set hid)).mono ?_⟩
    rintro r s2 ⟨rfl, rfl⟩
    by_cases he : e i = 0
    · simp only [↓Bt, Bu, simprocAttr, ↓C.q53_W, C.q53_B, C.q53, he, hw]
      exact ⟨i + 1, rfl, ⟨hil, by rw [firstE, if_pos h0, he]⟩, by omega⟩
    · simp only [↓Bt, Bu, simprocAttr, ↓C.q53_W, C.q53_B, C.q53, he]
      rw [firstE_stop h0 he hil]
  · have hie : i = l.length := by omega
    have hil' : ¬ ((i : Nat) : Int) < (l.length : Nat) := by omega
    simp only [↓Bt, Bu, simprocAttr, ↓C.q53_W, C.q53_B, C.q53, hil']
    rw [← hie, h0]


theorem conf_each_api_Domain_spec {st : ASt} {l : List Dom} {g : Nat} {cap : List AV} {e : Nat → Int} (hb : hasBody Tryz.prog g = true) (hs : l.length ≤ 4294967296)
    (ha : ∀ i (h : i < l.length), firstE e i = 0 → ACalls Tryz.prog g (.agg (Dom.cells l[i]) :: cap) st fun r s => r = .int .i64 (e i) ∧ s = st) :
    ACalls Tryz.prog F.q55 [.isl 3 (l.flatMap Dom.cells) l.length, .fn g cap] st fun r s => r = .int .i64 (firstE e l.length) ∧ s = st := by
  refine calls_of_awp L.q55 rfl ?_
  simp only [↓Bt, Bu, simprocAttr, ↓C.q55_W, C.q55_B, C.q55]
  refine awp_loopK (fun i : Nat => [(1, .fn g cap), (8, .isl 3 (l.flatMap Dom.cells) l.length), (9, .int .i64 l.length), (10, .int .i64 i)]) (fun i s => s = st ∧ i ≤ l.length ∧ firstE e i = 0) (fun i => l.length - i) 0 rfl ⟨rfl, Nat.zero_le _, rfl⟩ ?_
  rintro i s ⟨rfl, hi, h0⟩
  by_cases hil : i < l.length
  · have hil' : (i : Int) < (l.length : Nat) := by omega
    have hz : (0:Int) ≤ (i : Int) ∧ (i : Int) < (l.length : Nat) := by omega
    have hw : IntKind.i64.wrap ((i : Int) + 1) = ((i + 1 : Nat) : Int) := by rw [wrap64] <;> omega
    have hf := flatMap_fits (f := Dom.cells) (k := 3) (fun _ => rfl) hil
    have ht := flatMap_at (f := Dom.cells) (k := 3) (fun _ => rfl) hil
    obtain ⟨cs, hcs⟩ : ∃ cs, cs = Dom.cells l[i] := ⟨_, rfl⟩
    have hc := ha i hil h0
    rw [← hcs] at ht hc
    simp only [↓Bt, Bu, simprocAttr, ↓C.kz_w, C.kz_b, ↓C.btw_w, ↓C.kq_w, C.kq_b, ↓C.btq_w, ↓C.ky_w, C.ky_b, ↓C.btv_w, ↓C.btz_w, ↓C.bt0_w, ↓C.kx_w, C.kx_b, ↓C.btt_w, ↓C.btx_w, ↓C.kw_w, C.kw_b, ↓C.bty_w, ↓C.kv_w, C.kv_b, C.q55, hil', hz, Int.toNat_natCast, hf, ht]
    intro id hid
    rw [hcs] at hc ⊢
    simp only [↓Bt, Bu, simprocAttr, ↓C.q55_W, C.q55_B, C.q55, Dom.cells, hid, hb]
    refine ⟨rfl, (hc.less (le_new_set hid)).mono ?_⟩
    rintro r s2 ⟨rfl, rfl⟩
    by_cases he : e i = 0
    · simp only [↓Bt, Bu, simprocAttr, ↓C.q55_W, C.q55_B, C.q55, he, hw]
      exact ⟨i + 1, rfl, ⟨hil, by rw [firstE, if_pos h0, he]⟩, by omega⟩
    · simp only [↓Bt, Bu, simprocAttr, ↓C.q55_W, C.q55_B, C.q55, he]
      rw [firstE_stop h0 he hil]
  · have hie : i = l.length := by omega
    have hil' : ¬ ((i : Nat) : Int) < (l.length : Nat) := by omega
    simp only [↓Bt, Bu, simprocAttr, ↓C.q55_W, C.q55_B, C.q55, hil']
    rw [← hie, h0]


theorem conf_each_api_Reset_spec {st : ASt} {l : List Int} {g : Nat} {cap : List AV} {e : Nat → Int} (hb : hasBody Tryz.prog g = true) (hs : l.length ≤ 4294967296)
    (ha : ∀ i (h : i < l.length), firstE e i = 0 → ACalls Tryz.prog g (.agg (rstCells l[i]) :: cap) st fun r s => r = .int .i64 (e i) ∧ s = st) :
    ACalls Tryz.prog F.q56 [.isl 1 (l.flatMap rstCells) l.length, .fn g cap] st fun r s => r = .int .i64 (firstE e l.length) ∧ s = st := by
  refine calls_of_awp L.q56 rfl ?_
  simp only [↓Bt, Bu, simprocAttr, ↓C.q56_W, C.q56_B, C.q56]
  refine awp_loopK (fun i : Nat => [(1, .fn g cap), (8, .isl 1 (l.flatMap rstCells) l.length), (9, .int .i64 l.length), (10, .int .i64 i)]) (fun i s => s = st ∧ i ≤ l.length ∧ firstE e i = 0) (fun i => l.length - i) 0 rfl ⟨rfl, Nat.zero_le _, rfl⟩ ?_
  rintro i s ⟨rfl, hi, h0⟩
  by_cases hil : i < l.length
  · have hil' : (i : Int) < (l.length : Nat) := by omega
    have hz : (0:Int) ≤ (i : Int) ∧ (i : Int) < (l.length : Nat) := by omega
    have hw : IntKind.i64.wrap ((i : Int) + 1) = ((i + 1 : Nat) : Int) := by rw [wrap64] <;> omega
    have hf := flatMap_fits (f := rstCells) (k := 1) (fun _ => rfl) hil
    have ht := flatMap_at (f := rstCells) (k := 1) (fun _ => rfl) hil
    obtain ⟨cs, hcs⟩ : ∃ cs, cs = rstCells l[i] := ⟨_, rfl⟩
    have hc := ha i hil h0
    rw [← hcs] at ht hc
    simp only [↓Bt, Bu, simprocAttr, ↓C.k5_w, C.k5_b, ↓C.bt3_w, ↓C.k4_w, C.k4_b, ↓C.bt6_w, ↓C.k3_w, C.k3_b, ↓C.bt2_w, ↓C.bt7_w, ↓C.bt8_w, ↓C.k2_w, C.k2_b, ↓C.bt1_w, ↓C.bt4_w, ↓C.k1_w, C.k1_b, ↓C.bt5_w, ↓C.k0_w, C.k0_b, C.q56, hil', hz, Int.toNat_natCast, hf, ht]
    intro id hid
    rw [hcs] at hc ⊢
    simp only [↓Bt, Bu, simprocAttr, ↓C.q56_W, C.q56_B, C.q56, rstCells, hid, hb]
    refine ⟨rfl, (hc.less (le_new_set hid)).mono ?_⟩
    rintro r s2 ⟨rfl, rfl⟩
    by_cases he : e i = 0
    · simp only [↓Bt, Bu, simprocAttr, ↓C.q56_W, C.q56_B, C.q56, he, hw]
      exact ⟨i + 1, rfl, ⟨hil, by rw [firstE, if_pos h0, he]⟩, by omega⟩
    · simp only [↓Bt, Bu, simprocAttr, ↓C.q56_W, C.q56_B, C.q56, he]
      rw [firstE_stop h0 he hil]
  · have hie : i = l.length := by omega
    have hil' : ¬ ((i : Nat) : Int) < (l.length : Nat) := by omega
    simp only [↓Bt, Bu, simprocAttr, ↓C.q56_W, C.q56_B, C.q56, hil']
    rw [← hie, h0]


theorem conf_each_api_Device_spec {st : ASt} {l : List Dev} {g : Nat} {cap : List AV} {e : Nat → Int} (hb : hasBody Tryz.prog g = true) (hs : l.length ≤ 4294967296)
    (ha : ∀ i (h : i < l.length), firstE e i = 0 → ACalls Tryz.prog g (.agg (Dev.cells l[i]) :: cap) st fun r s => r = .int .i64 (e i) ∧ s = st) :
    ACalls Tryz.prog F.q54 [.isl 6 (l.flatMap Dev.cells) l.length, .fn g cap] st fun r s => r = .int .i64 (firstE e l.length) ∧ s = st := by
  refine calls_of_awp L.q54 rfl ?_
  simp only [↓Bt, Bu, simprocAttr, ↓C.q54_W, C.q54_B, C.q54]
  refine awp_loopK (fun i : Nat => [(1, .fn g cap), (8, .isl 6 (l.flatMap Dev.cells) l.length), (9, .int .i64 l.length), (10, .int .i64 i)]) (fun i s => s = st ∧ i ≤ l.length ∧ firstE e i = 0) (fun i => l.length - i) 0 rfl ⟨rfl, Nat.zero_le _, rfl⟩ ?_
  rintro i s ⟨rfl, hi, h0⟩
  by_cases hil : i < l.length
  · have hil' : (i : Int) < (l.length : Nat) := by omega
    have hz : (0:Int) ≤ (i : Int) ∧ (i : Int) < (l.length : Nat) := by omega
    have hw : IntKind.i64.wrap ((i : Int) + 1) = ((i + 1 : Nat) : Int) := by rw [wrap64] <;> omega
    have hf := flatMap_fits (f := Dev.cells) (k := 6) (fun _ => rfl) hil
    have ht := flatMap_at (f := Dev.cells) (k := 6) (fun _ => rfl) hil
    obtain ⟨cs, hcs⟩ : ∃ cs, cs = Dev.cells l[i] := ⟨_, rfl⟩
    have hc := ha i hil h0
    rw [← hcs] at ht hc
    simp only [↓Bt, Bu, simprocAttr, ↓C.kt_w, C.kt_b, ↓C.btl_w, ↓C.ks_w, C.ks_b, ↓C.btp_w, ↓C.kr_w, C.kr_b, ↓C.btk_w, ↓C.btr_w, ↓C.bts_w, ↓C.kp_w, C.kp_b, ↓C.btj_w, ↓C.btm_w, ↓C.kn_w, C.kn_b, ↓C.btn_w, ↓C.km_w, C.km_b, C.q54, hil', hz, Int.toNat_natCast, hf, ht]
    intro id hid
    rw [hcs] at hc ⊢
    simp only [↓Bt, Bu, simprocAttr, ↓C.q54_W, C.q54_B, C.q54, Dev.cells, hid, hb]
    refine ⟨rfl, (hc.less (le_new_set hid)).mono ?_⟩
    rintro r s2 ⟨rfl, rfl⟩
    by_cases he : e i = 0
    · simp only [↓Bt, Bu, simprocAttr, ↓C.q54_W, C.q54_B, C.q54, he, hw]
      exact ⟨i + 1, rfl, ⟨hil, by rw [firstE, if_pos h0, he]⟩, by omega⟩
    · simp only [↓Bt, Bu, simprocAttr, ↓C.q54_W, C.q54_B, C.q54, he]
      rw [firstE_stop h0 he hil]
  · have hie : i = l.length := by omega
    have hil' : ¬ ((i : Nat) : Int) < (l.length : Nat) := by omega
    simp only [↓Bt, Bu, simprocAttr, ↓C.q54_W, C.q54_B, C.q54, hil']
    rw [← hie, h0]

/- Descriptions: what is wrong with one thing. -/
set_option maxRecDepth 100000

theorem each_int_spec {st : ASt} {l : List Int} {g : Nat} {cap : List AV} {e : Nat → Int} (hb : hasBody Tryz.prog g = true) (hs : l.length ≤ 4294967296)
    (ha : ∀ i (h : i < l.length), firstE e i = 0 → ACalls Tryz.prog g (.int .i64 l[i] :: cap) st fun r s => r = .int .i64 (e i) ∧ s = st) :
    ACalls Tryz.prog F.q57 [row l, .fn g cap] st fun r s => r = .int .i64 (firstE e l.length) ∧ s = st := by
  refine calls_of_awp L.q57 rfl ?_
  simp only [↓Bt, Bu, simprocAttr, ↓C.q57_W, C.q57_B, C.q57, row]
  refine awp_loopK (fun i : Nat => [(1, .fn g cap), (8, .isl 1 (ints l) l.length), (9, .int .i64 l.length), (10, .int .i64 i)]) (fun i s => s = st ∧ i ≤ l.length ∧ firstE e i = 0) (fun i => l.length - i) 0 rfl ⟨rfl, Nat.zero_le _, rfl⟩ ?_
  rintro i s ⟨rfl, hi, h0⟩
  by_cases hil : i < l.length
  · have hil' : (i : Int) < (l.length : Nat) := by omega
    have hz : (0:Int) ≤ (i : Int) ∧ (i : Int) < (l.length : Nat) := by omega
    have hw : IntKind.i64.wrap ((i : Int) + 1) = ((i + 1 : Nat) : Int) := by rw [wrap64] <;> omega
    have hg : (ints l)[i]? = some (.int .i64 l[i]) := by simp [ints, hil]
    simp only [↓Bt, Bu, simprocAttr, ↓C.q57_W, C.q57_B, C.q57, hil', hz, Int.toNat_natCast, Nat.mul_one, hg, hb]
    refine (ha i hil h0).mono ?_
    rintro r s2 ⟨rfl, rfl⟩
    by_cases he : e i = 0
    · simp only [↓Bt, Bu, simprocAttr, ↓C.q57_W, C.q57_B, C.q57, he, hw]
      exact ⟨i + 1, rfl, ⟨hil, by rw [firstE, if_pos h0, he]⟩, by omega⟩
    · simp only [↓Bt, Bu, simprocAttr, ↓C.q57_W, C.q57_B, C.q57, he]
      rw [firstE_stop h0 he hil]
  · have hie : i = l.length := by omega
    have hil' : ¬ ((i : Nat) : Int) < (l.length : Nat) := by omega
    simp only [↓Bt, Bu, simprocAttr, ↓C.q57_W, C.q57_B, C.q57, hil']
    rw [← hie, h0]

def rstErr (n : Int) : Int := if 0 ≤ n ∧ n ≤ 20 then 0 else 3
theorem reset_spec {st : ASt} {n : Int} : ACalls Tryz.prog F.q68 [.agg (rstCells n)] st fun r s => r = .int .i64 (rstErr n) ∧ s = st := by
  refine ACalls.gc (Q' := fun r s => r = .int .i64 (rstErr n) ∧ st.le s) (calls_of_awp L.q68 rfl ?_) (fun v s ⟨h, hl⟩ => ⟨st, hl, h, rfl⟩)
  simp only [↓Bt, Bu, simprocAttr, ↓C.q68_W, C.q68_B, C.q68, rstCells]
  intro id hid
  simp only [↓Bt, Bu, simprocAttr, ↓C.q68_W, C.q68_B, C.q68, hid]
  refine within_spec.mono ?_
  rintro r s ⟨rfl, rfl⟩
  simp only [↓Bt, Bu, simprocAttr, ↓C.q68_W, C.q68_B, C.q68]
  refine when_spec.mono ?_
  rintro r s ⟨rfl, rfl⟩
  simp only [↓Bt, Bu, simprocAttr, ↓C.q68_W, C.q68_B, C.q68]
  refine ⟨?_, ASt.le.new _ _ _⟩
  by_cases h : 0 ≤ n ∧ n ≤ 20
  · simp [rstErr, h]
  · simp only [rstErr, h]
    simp

def domE (n : Nat) (d : Dom) : Nat → Int
  | 0 => if d.above ≠ -1 ∧ ¬ (0 ≤ d.above ∧ d.above < n) then 4 else 0
  | _ => if 0 ≤ d.delay ∧ d.delay ≤ 20 then 0 else 3
theorem domain_1_spec {st : ASt} {i j : Nat} {d : Dom} {s : Soc} (hi : st.h i = some (.cells d.cells)) (hj : st.h j = some (.cells s.cells)) (hn : s.doms.length ≤ 4294967296) :
    ACalls Tryz.prog F.q51 [.ptr i 0, .ptr j 0] st fun r s' => r = .int .i64 (domE s.doms.length d 0) ∧ s' = st := by
  refine calls_of_awp L.q51 rfl ?_
  have hw : IntKind.i64.wrap ((s.doms.length : Int) - 1) = (s.doms.length : Int) - 1 := by rw [wrap64] <;> omega
  by_cases h : d.above = -1
  · simp only [↓Bt, Bu, simprocAttr, ↓C.q51_W, C.q51_B, C.q51, hi, hj, Dom.cells, h]
    refine when_spec.mono ?_
    rintro r s ⟨rfl, rfl⟩
    simp only [↓Bt, Bu, simprocAttr, ↓C.q51_W, C.q51_B, C.q51]
    simp [domE, h]
  · simp only [↓Bt, Bu, simprocAttr, ↓C.q51_W, C.q51_B, C.q51, hi, hj, Dom.cells, Soc.cells, Soc.domV, h, hw]
    refine within_spec.mono ?_
    rintro r s2 ⟨rfl, rfl⟩
    simp only [↓Bt, Bu, simprocAttr, ↓C.q51_W, C.q51_B, C.q51]
    refine when_spec.mono ?_
    rintro r s3 ⟨rfl, rfl⟩
    simp only [↓Bt, Bu, simprocAttr, ↓C.q51_W, C.q51_B, C.q51]
    have e : (d.above ≤ (s.doms.length : Int) - 1) ↔ d.above < (s.doms.length : Int) := by omega
    by_cases h2 : 0 ≤ d.above ∧ d.above < (s.doms.length : Int)
    · simp [domE, h, h2, e]
    · simp only [domE, h, h2, e]
      simp [h]
theorem domain_2_spec {st : ASt} {i n : Nat} {d : Dom} (hi : st.h i = some (.cells d.cells)) :
    ACalls Tryz.prog F.q52 [.ptr i 0] st fun r s' => r = .int .i64 (domE n d 1) ∧ s' = st := by
  refine calls_of_awp L.q52 rfl ?_
  simp only [↓Bt, Bu, simprocAttr, ↓C.q52_W, C.q52_B, C.q52, hi, Dom.cells]
  refine within_spec.mono ?_
  rintro r s2 ⟨rfl, rfl⟩
  simp only [↓Bt, Bu, simprocAttr, ↓C.q52_W, C.q52_B, C.q52]
  refine when_spec.mono ?_
  rintro r s3 ⟨rfl, rfl⟩
  simp only [↓Bt, Bu, simprocAttr, ↓C.q52_W, C.q52_B, C.q52]
  by_cases h2 : 0 ≤ d.delay ∧ d.delay ≤ 20
  · simp [domE, h2]
  · simp only [domE, h2]
    simp
theorem domain_spec {st : ASt} {d : Dom} {s : Soc} (hn : s.doms.length ≤ 4294967296) :
    ACalls Tryz.prog F.q50 [.agg s.cells, .agg d.cells] st fun r s' => r = .int .i64 (firstE (domE s.doms.length d) 2) ∧ s' = st := by
  refine ACalls.gc (Q' := fun r s' => r = .int .i64 (firstE (domE s.doms.length d) 2) ∧ st.le s') (calls_of_awp L.q50 rfl ?_) (fun v s ⟨h, hl⟩ => ⟨st, hl, h, rfl⟩)
  simp only [↓Bt, Bu, simprocAttr, ↓C.q50_W, C.q50_B, C.q50]
  rintro j hj i ⟨hi, hij⟩ k ⟨⟨hk, hkj⟩, hki⟩
  have h1 : (st.new j (.cells s.cells)).h j = some (.cells s.cells) := ASt.new_self _ hj
  have hi' : (st.new j (.cells s.cells)).h i = none := by rw [ASt.new_ne _ hij]; exact hi
  have h2 := ASt.new_old (id := i) (o := .cells d.cells) h1
  have h3 : ((st.new j (.cells s.cells)).new i (.cells d.cells)).h i = some (.cells d.cells) := ASt.new_self _ hi'
  have hk' : ((st.new j (.cells s.cells)).new i (.cells d.cells)).h k = none := by rw [ASt.new_ne _ hki, ASt.new_ne _ hkj]; exact hk
  refine (first_spec (e := domE s.doms.length d) (ASt.new_self _ hk') rfl (by simp) ?_).mono ?_
  · intro x hx _
    match x, hx with
    | 0, _ => exact ⟨_, _, rfl, by kernel_rfl, domain_1_spec (ASt.new_old h3) (ASt.new_old h2) hn⟩
    | 1, _ => exact ⟨_, _, rfl, by kernel_rfl, domain_2_spec (ASt.new_old h3)⟩
  rintro r s2 ⟨rfl, rfl⟩
  simp only [↓Bt, Bu, simprocAttr, ↓C.q50_W, C.q50_B, C.q50]
  exact ((ASt.le.new _ _ _).trans (ASt.le.new _ _ _)).trans (ASt.le.new _ _ _)

/- Descriptions: what is wrong with a device. -/
set_option maxRecDepth 100000

def noNode (n : Nat) (x : Int) : Int := if 0 ≤ x ∧ x < n then 0 else 4
theorem noNode_eq {n : Nat} {x : Int} : (if (!decide (0 ≤ x ∧ x ≤ (n : Int) - 1)) = true then (4 : Int) else 0) = noNode n x := by
  have e : (x ≤ (n : Int) - 1) ↔ x < (n : Int) := by omega
  unfold noNode
  by_cases h : 0 ≤ x ∧ x < (n : Int)
  · simp [h, e]
  · simp only [h, e]
    simp
def devE (s : Soc) (d : Dev) : Nat → Int
  | 0 => noNode s.clocks.length d.clock
  | 1 => noNode s.doms.length d.dom
  | 2 => noNode s.rsts.length d.rst
  | _ => firstE (fun i => noNode s.devs.length (d.needs.getD i 0)) d.needs.length
theorem device_1_spec {st : ASt} {i j : Nat} {d : Dev} {s : Soc} (hi : st.h i = some (.cells d.cells)) (hj : st.h j = some (.cells s.cells)) (hn : s.clocks.length ≤ 4294967296) :
    ACalls Tryz.prog F.q45 [.ptr i 0, .ptr j 0] st fun r s' => r = .int .i64 (devE s d 0) ∧ s' = st := by
  refine calls_of_awp L.q45 rfl ?_
  have hw : IntKind.i64.wrap ((s.clocks.length : Int) - 1) = (s.clocks.length : Int) - 1 := by rw [wrap64] <;> omega
  simp only [↓Bt, Bu, simprocAttr, ↓C.q45_W, C.q45_B, C.q45, hi, hj, Dev.cells, Soc.cells, Soc.clkV, hw]
  refine within_spec.mono ?_
  rintro r s2 ⟨rfl, rfl⟩
  simp only [↓Bt, Bu, simprocAttr, ↓C.q45_W, C.q45_B, C.q45]
  refine when_spec.mono ?_
  rintro r s3 ⟨rfl, rfl⟩
  simp only [↓Bt, Bu, simprocAttr, ↓C.q45_W, C.q45_B, C.q45, noNode_eq, devE]
theorem device_2_spec {st : ASt} {i j : Nat} {d : Dev} {s : Soc} (hi : st.h i = some (.cells d.cells)) (hj : st.h j = some (.cells s.cells)) (hn : s.doms.length ≤ 4294967296) :
    ACalls Tryz.prog F.q46 [.ptr i 0, .ptr j 0] st fun r s' => r = .int .i64 (devE s d 1) ∧ s' = st := by
  refine calls_of_awp L.q46 rfl ?_
  have hw : IntKind.i64.wrap ((s.doms.length : Int) - 1) = (s.doms.length : Int) - 1 := by rw [wrap64] <;> omega
  simp only [↓Bt, Bu, simprocAttr, ↓C.q46_W, C.q46_B, C.q46, hi, hj, Dev.cells, Soc.cells, Soc.domV, hw]
  refine within_spec.mono ?_
  rintro r s2 ⟨rfl, rfl⟩
  simp only [↓Bt, Bu, simprocAttr, ↓C.q46_W, C.q46_B, C.q46]
  refine when_spec.mono ?_
  rintro r s3 ⟨rfl, rfl⟩
  simp only [↓Bt, Bu, simprocAttr, ↓C.q46_W, C.q46_B, C.q46, noNode_eq, devE]
theorem device_3_spec {st : ASt} {i j : Nat} {d : Dev} {s : Soc} (hi : st.h i = some (.cells d.cells)) (hj : st.h j = some (.cells s.cells)) (hn : s.rsts.length ≤ 4294967296) :
    ACalls Tryz.prog F.q47 [.ptr i 0, .ptr j 0] st fun r s' => r = .int .i64 (devE s d 2) ∧ s' = st := by
  refine calls_of_awp L.q47 rfl ?_
  have hw : IntKind.i64.wrap ((s.rsts.length : Int) - 1) = (s.rsts.length : Int) - 1 := by rw [wrap64] <;> omega
  simp only [↓Bt, Bu, simprocAttr, ↓C.q47_W, C.q47_B, C.q47, hi, hj, Dev.cells, Soc.cells, Soc.rstV, hw]
  refine within_spec.mono ?_
  rintro r s2 ⟨rfl, rfl⟩
  simp only [↓Bt, Bu, simprocAttr, ↓C.q47_W, C.q47_B, C.q47]
  refine when_spec.mono ?_
  rintro r s3 ⟨rfl, rfl⟩
  simp only [↓Bt, Bu, simprocAttr, ↓C.q47_W, C.q47_B, C.q47, noNode_eq, devE]
theorem device_4_1_spec {st : ASt} {j : Nat} {x : Int} {s : Soc} (hj : st.h j = some (.cells s.cells)) (hn : s.devs.length ≤ 4294967296) :
    ACalls Tryz.prog F.q49 [.int .i64 x, .ptr j 0] st fun r s' => r = .int .i64 (noNode s.devs.length x) ∧ s' = st := by
  refine calls_of_awp L.q49 rfl ?_
  have hw : IntKind.i64.wrap ((s.devs.length : Int) - 1) = (s.devs.length : Int) - 1 := by rw [wrap64] <;> omega
  simp only [↓Bt, Bu, simprocAttr, ↓C.q49_W, C.q49_B, C.q49, hj, Soc.cells, Soc.devV, hw]
  refine within_spec.mono ?_
  rintro r s2 ⟨rfl, rfl⟩
  simp only [↓Bt, Bu, simprocAttr, ↓C.q49_W, C.q49_B, C.q49]
  refine when_spec.mono ?_
  rintro r s3 ⟨rfl, rfl⟩
  simp only [↓Bt, Bu, simprocAttr, ↓C.q49_W, C.q49_B, C.q49, noNode_eq]
theorem device_4_spec {st : ASt} {i j : Nat} {d : Dev} {s : Soc} (hi : st.h i = some (.cells d.cells)) (hj : st.h j = some (.cells s.cells)) (hn : s.devs.length ≤ 4294967296) (hm : d.needs.length ≤ 4294967296) :
    ACalls Tryz.prog F.q48 [.ptr i 0, .ptr j 0] st fun r s' => r = .int .i64 (devE s d 3) ∧ s' = st := by
  refine calls_of_awp L.q48 rfl ?_
  simp only [↓Bt, Bu, simprocAttr, ↓C.q48_W, C.q48_B, C.q48, hi, Dev.cells]
  refine (each_int_spec (e := fun i => noNode s.devs.length (d.needs.getD i 0)) rfl hm ?_).mono ?_
  · intro x hx _
    have e : d.needs.getD x 0 = d.needs[x] := by simp [hx]
    simp only [e]
    exact device_4_1_spec hj hn
  rintro r s2 ⟨rfl, rfl⟩
  simp only [↓Bt, Bu, simprocAttr, ↓C.q48_W, C.q48_B, C.q48, devE]
theorem device_spec {st : ASt} {d : Dev} {s : Soc} (h1 : s.clocks.length ≤ 4294967296) (h2 : s.doms.length ≤ 4294967296) (h3 : s.rsts.length ≤ 4294967296) (h4 : s.devs.length ≤ 4294967296) (hm : d.needs.length ≤ 4294967296) :
    ACalls Tryz.prog F.q44 [.agg s.cells, .agg d.cells] st fun r s' => r = .int .i64 (firstE (devE s d) 4) ∧ s' = st := by
  refine ACalls.gc (Q' := fun r s' => r = .int .i64 (firstE (devE s d) 4) ∧ st.le s') (calls_of_awp L.q44 rfl ?_) (fun v s ⟨h, hl⟩ => ⟨st, hl, h, rfl⟩)
  simp only [↓Bt, Bu, simprocAttr, ↓C.q44_W, C.q44_B, C.q44]
  rintro j hj i ⟨hi, hij⟩ k ⟨⟨hk, hkj⟩, hki⟩
  have g1 : (st.new j (.cells s.cells)).h j = some (.cells s.cells) := ASt.new_self _ hj
  have hi' : (st.new j (.cells s.cells)).h i = none := by rw [ASt.new_ne _ hij]; exact hi
  have g2 := ASt.new_old (id := i) (o := .cells d.cells) g1
  have g3 : ((st.new j (.cells s.cells)).new i (.cells d.cells)).h i = some (.cells d.cells) := ASt.new_self _ hi'
  have hk' : ((st.new j (.cells s.cells)).new i (.cells d.cells)).h k = none := by rw [ASt.new_ne _ hki, ASt.new_ne _ hkj]; exact hk
  refine (first_spec (e := devE s d) (ASt.new_self _ hk') rfl (by simp) ?_).mono ?_
  · intro x hx _
    match x, hx with
    | 0, _ => exact ⟨_, _, rfl, by kernel_rfl, device_1_spec (ASt.new_old g3) (ASt.new_old g2) h1⟩
    | 1, _ => exact ⟨_, _, rfl, by kernel_rfl, device_2_spec (ASt.new_old g3) (ASt.new_old g2) h2⟩
    | 2, _ => exact ⟨_, _, rfl, by kernel_rfl, device_3_spec (ASt.new_old g3) (ASt.new_old g2) h3⟩
    | 3, _ => exact ⟨_, _, rfl, by kernel_rfl, device_4_spec (ASt.new_old g3) (ASt.new_old g2) h4 hm⟩
  rintro r s2 ⟨rfl, rfl⟩
  simp only [↓Bt, Bu, simprocAttr, ↓C.q44_W, C.q44_B, C.q44]
  exact ((ASt.le.new _ _ _).trans (ASt.le.new _ _ _)).trans (ASt.le.new _ _ _)

/- Descriptions: what is wrong with a clock. -/
set_option maxRecDepth 100000

def Clk.shape (c : Clk) : Bool :=
  if c.kind = 111 then decide (c.src.length = 0)
  else if c.kind = 112 ∨ c.kind = 100 ∨ c.kind = 103 then decide (c.src.length = 1)
  else if c.kind = 109 then decide (1 ≤ c.src.length ∧ c.src.length ≤ 4)
  else false
theorem shape_spec {st : ASt} {c : Clk} : ACalls Tryz.prog F.q69 [.agg c.cells] st fun r s => r = .bool c.shape ∧ s = st := by
  refine ACalls.gc (Q' := fun r s => r = .bool c.shape ∧ st.le s) (calls_of_awp L.q69 rfl ?_) (fun v s ⟨h, hl⟩ => ⟨st, hl, h, rfl⟩)
  have e0 : ((c.src.length : Int) = 0) ↔ c.src.length = 0 := by omega
  have e1 : ((c.src.length : Int) = 1) ↔ c.src.length = 1 := by omega
  have e2 : ((1 : Int) ≤ (c.src.length : Int) ∧ (c.src.length : Int) ≤ 4) ↔ (1 ≤ c.src.length ∧ c.src.length ≤ 4) := by omega
  unfold Clk.shape
  by_cases k1 : c.kind = 111
  · simp only [↓Bt, Bu, simprocAttr, ↓C.q69_W, C.q69_B, C.q69, Clk.cells, row]
    intro id hid
    simp only [↓Bt, Bu, simprocAttr, ↓C.q69_W, C.q69_B, C.q69, hid, k1, e0]
    exact ASt.le.new _ _ _
  by_cases k2 : c.kind = 112
  · simp only [↓Bt, Bu, simprocAttr, ↓C.q69_W, C.q69_B, C.q69, Clk.cells, row]
    intro id hid
    simp only [↓Bt, Bu, simprocAttr, ↓C.q69_W, C.q69_B, C.q69, hid, k1, k2, e1, true_or]
    exact ASt.le.new _ _ _
  by_cases k3 : c.kind = 100
  · simp only [↓Bt, Bu, simprocAttr, ↓C.q69_W, C.q69_B, C.q69, Clk.cells, row]
    intro id hid
    simp only [↓Bt, Bu, simprocAttr, ↓C.q69_W, C.q69_B, C.q69, hid, k1, k2, k3, e1, true_or, false_or]
    exact ASt.le.new _ _ _
  by_cases k4 : c.kind = 103
  · simp only [↓Bt, Bu, simprocAttr, ↓C.q69_W, C.q69_B, C.q69, Clk.cells, row]
    intro id hid
    simp only [↓Bt, Bu, simprocAttr, ↓C.q69_W, C.q69_B, C.q69, hid, k1, k2, k3, k4, e1, true_or, false_or]
    exact ASt.le.new _ _ _
  by_cases k5 : c.kind = 109
  · simp only [↓Bt, Bu, simprocAttr, ↓C.q69_W, C.q69_B, C.q69, Clk.cells, row]
    intro id hid
    simp only [↓Bt, Bu, simprocAttr, ↓C.q69_W, C.q69_B, C.q69, hid, k1, k2, k3, k4, k5]
    refine within_spec.mono ?_
    rintro r s2 ⟨rfl, rfl⟩
    simp only [↓Bt, Bu, simprocAttr, ↓C.q69_W, C.q69_B, C.q69, e2, k1, k2, k3, k4, k5, false_or]
    exact ASt.le.new _ _ _
  · simp only [↓Bt, Bu, simprocAttr, ↓C.q69_W, C.q69_B, C.q69, Clk.cells, row]
    intro id hid
    simp only [↓Bt, Bu, simprocAttr, ↓C.q69_W, C.q69_B, C.q69, hid, k1, k2, k3, k4, k5, false_or]
    exact ASt.le.new _ _ _

def Clk.nums (c : Clk) : Bool :=
  if c.kind = 111 then decide (1 ≤ c.rate ∧ c.rate ≤ 1099511627776)
  else if c.kind = 112 then decide ((1 ≤ c.mul ∧ c.mul ≤ 1000) ∧ (1 ≤ c.div ∧ c.div ≤ 1000) ∧ (0 ≤ c.lock ∧ c.lock ≤ 20))
  else if c.kind = 100 then decide (1 ≤ c.div ∧ c.div ≤ 1000)
  else true
theorem conf_numbers_spec {st : ASt} {c : Clk} : ACalls Tryz.prog F.q61 [.agg c.cells] st fun r s => r = .bool c.nums ∧ s = st := by
  refine ACalls.gc (Q' := fun r s => r = .bool c.nums ∧ st.le s) (calls_of_awp L.q61 rfl ?_) (fun v s ⟨h, hl⟩ => ⟨st, hl, h, rfl⟩)
  unfold Clk.nums
  simp only [↓Bt, Bu, simprocAttr, ↓C.q61_W, C.q61_B, C.q61, Clk.cells, row]
  intro id hid
  by_cases k1 : c.kind = 111
  · by_cases r1 : 1 ≤ c.rate
    · simp only [↓Bt, Bu, simprocAttr, ↓C.q61_W, C.q61_B, C.q61, hid, k1, r1, ge_iff_le]
      exact ASt.le.new _ _ _
    · simp only [↓Bt, Bu, simprocAttr, ↓C.q61_W, C.q61_B, C.q61, hid, k1, r1, ge_iff_le]
      exact ASt.le.new _ _ _
  by_cases k2 : c.kind = 112
  · simp only [↓Bt, Bu, simprocAttr, ↓C.q61_W, C.q61_B, C.q61, hid, k1, k2]
    refine within_spec.mono ?_
    rintro r s2 ⟨rfl, rfl⟩
    by_cases h1 : 1 ≤ c.mul ∧ c.mul ≤ 1000
    · simp only [↓Bt, Bu, simprocAttr, ↓C.q61_W, C.q61_B, C.q61, hid, h1]
      refine within_spec.mono ?_
      rintro r s2 ⟨rfl, rfl⟩
      by_cases h2 : 1 ≤ c.div ∧ c.div ≤ 1000
      · simp only [↓Bt, Bu, simprocAttr, ↓C.q61_W, C.q61_B, C.q61, hid, h2]
        refine within_spec.mono ?_
        rintro r s2 ⟨rfl, rfl⟩
        simp only [↓Bt, Bu, simprocAttr, ↓C.q61_W, C.q61_B, C.q61, k1, k2, h1, h2]
        exact ASt.le.new _ _ _
      · simp only [↓Bt, Bu, simprocAttr, ↓C.q61_W, C.q61_B, C.q61, k1, k2, h1, h2]
        exact ASt.le.new _ _ _
    · simp only [↓Bt, Bu, simprocAttr, ↓C.q61_W, C.q61_B, C.q61, k1, k2, h1]
      exact ASt.le.new _ _ _
  by_cases k3 : c.kind = 100
  · simp only [↓Bt, Bu, simprocAttr, ↓C.q61_W, C.q61_B, C.q61, hid, k1, k2, k3]
    refine within_spec.mono ?_
    rintro r s2 ⟨rfl, rfl⟩
    simp only [↓Bt, Bu, simprocAttr, ↓C.q61_W, C.q61_B, C.q61, k1, k2, k3]
    exact ASt.le.new _ _ _
  · simp only [↓Bt, Bu, simprocAttr, ↓C.q61_W, C.q61_B, C.q61, hid, k1, k2, k3]
    exact ASt.le.new _ _ _

def clkE (n : Nat) (c : Clk) : Nat → Int
  | 0 => if c.shape = true then 0 else 1
  | 1 => firstE (fun i => noNode n (c.src.getD i 0)) c.src.length
  | _ => if c.nums = true then 0 else 3
theorem clock_1_spec {st : ASt} {i n : Nat} {c : Clk} (hi : st.h i = some (.cells c.cells)) :
    ACalls Tryz.prog F.q39 [.ptr i 0] st fun r s' => r = .int .i64 (clkE n c 0) ∧ s' = st := by
  refine calls_of_awp L.q39 rfl ?_
  simp only [↓Bt, Bu, simprocAttr, ↓C.q39_W, C.q39_B, C.q39, hi]
  have e : (AV.agg (List.take 6 c.cells)) = .agg c.cells := rfl
  rw [e]
  refine shape_spec.mono ?_
  rintro r s2 ⟨rfl, rfl⟩
  simp only [↓Bt, Bu, simprocAttr, ↓C.q39_W, C.q39_B, C.q39]
  refine when_spec.mono ?_
  rintro r s3 ⟨rfl, rfl⟩
  simp only [↓Bt, Bu, simprocAttr, ↓C.q39_W, C.q39_B, C.q39, clkE]
  cases c.shape <;> rfl

theorem clock_3_spec {st : ASt} {i n : Nat} {c : Clk} (hi : st.h i = some (.cells c.cells)) :
    ACalls Tryz.prog F.q42 [.ptr i 0] st fun r s' => r = .int .i64 (clkE n c 2) ∧ s' = st := by
  refine calls_of_awp L.q42 rfl ?_
  simp only [↓Bt, Bu, simprocAttr, ↓C.q42_W, C.q42_B, C.q42, hi]
  have e : (AV.agg (List.take 6 c.cells)) = .agg c.cells := rfl
  rw [e]
  refine conf_numbers_spec.mono ?_
  rintro r s2 ⟨rfl, rfl⟩
  simp only [↓Bt, Bu, simprocAttr, ↓C.q42_W, C.q42_B, C.q42]
  refine when_spec.mono ?_
  rintro r s3 ⟨rfl, rfl⟩
  simp only [↓Bt, Bu, simprocAttr, ↓C.q42_W, C.q42_B, C.q42, clkE]
  cases c.nums <;> rfl

theorem clock_2_1_spec {st : ASt} {j : Nat} {x : Int} {s : Soc} (hj : st.h j = some (.cells s.cells)) (hn : s.clocks.length ≤ 4294967296) :
    ACalls Tryz.prog F.q41 [.int .i64 x, .ptr j 0] st fun r s' => r = .int .i64 (noNode s.clocks.length x) ∧ s' = st := by
  refine calls_of_awp L.q41 rfl ?_
  have hw : IntKind.i64.wrap ((s.clocks.length : Int) - 1) = (s.clocks.length : Int) - 1 := by rw [wrap64] <;> omega
  simp only [↓Bt, Bu, simprocAttr, ↓C.q41_W, C.q41_B, C.q41, hj, Soc.cells, Soc.clkV, hw]
  refine within_spec.mono ?_
  rintro r s2 ⟨rfl, rfl⟩
  simp only [↓Bt, Bu, simprocAttr, ↓C.q41_W, C.q41_B, C.q41]
  refine when_spec.mono ?_
  rintro r s3 ⟨rfl, rfl⟩
  simp only [↓Bt, Bu, simprocAttr, ↓C.q41_W, C.q41_B, C.q41, noNode_eq]
theorem clock_2_spec {st : ASt} {i j : Nat} {c : Clk} {s : Soc} (hi : st.h i = some (.cells c.cells)) (hj : st.h j = some (.cells s.cells)) (hn : s.clocks.length ≤ 4294967296) (hm : c.src.length ≤ 4294967296) :
    ACalls Tryz.prog F.q40 [.ptr i 0, .ptr j 0] st fun r s' => r = .int .i64 (clkE s.clocks.length c 1) ∧ s' = st := by
  refine calls_of_awp L.q40 rfl ?_
  simp only [↓Bt, Bu, simprocAttr, ↓C.q40_W, C.q40_B, C.q40, hi, Clk.cells]
  refine (each_int_spec (e := fun i => noNode s.clocks.length (c.src.getD i 0)) rfl hm ?_).mono ?_
  · intro x hx _
    have e : c.src.getD x 0 = c.src[x] := by simp [hx]
    simp only [e]
    exact clock_2_1_spec hj hn
  rintro r s2 ⟨rfl, rfl⟩
  simp only [↓Bt, Bu, simprocAttr, ↓C.q40_W, C.q40_B, C.q40, clkE]
theorem clock_spec {st : ASt} {c : Clk} {s : Soc} (hn : s.clocks.length ≤ 4294967296) (hm : c.src.length ≤ 4294967296) :
    ACalls Tryz.prog F.q38 [.agg s.cells, .agg c.cells] st fun r s' => r = .int .i64 (firstE (clkE s.clocks.length c) 3) ∧ s' = st := by
  refine ACalls.gc (Q' := fun r s' => r = .int .i64 (firstE (clkE s.clocks.length c) 3) ∧ st.le s') (calls_of_awp L.q38 rfl ?_) (fun v s ⟨h, hl⟩ => ⟨st, hl, h, rfl⟩)
  simp only [↓Bt, Bu, simprocAttr, ↓C.q38_W, C.q38_B, C.q38]
  rintro j hj i ⟨hi, hij⟩ k ⟨⟨hk, hkj⟩, hki⟩
  have g1 : (st.new j (.cells s.cells)).h j = some (.cells s.cells) := ASt.new_self _ hj
  have hi' : (st.new j (.cells s.cells)).h i = none := by rw [ASt.new_ne _ hij]; exact hi
  have g2 := ASt.new_old (id := i) (o := .cells c.cells) g1
  have g3 : ((st.new j (.cells s.cells)).new i (.cells c.cells)).h i = some (.cells c.cells) := ASt.new_self _ hi'
  have hk' : ((st.new j (.cells s.cells)).new i (.cells c.cells)).h k = none := by rw [ASt.new_ne _ hki, ASt.new_ne _ hkj]; exact hk
  refine (first_spec (e := clkE s.clocks.length c) (ASt.new_self _ hk') rfl (by simp) ?_).mono ?_
  · intro x hx _
    match x, hx with
    | 0, _ => exact ⟨_, _, rfl, by kernel_rfl, clock_1_spec (ASt.new_old g3)⟩
    | 1, _ => exact ⟨_, _, rfl, by kernel_rfl, clock_2_spec (ASt.new_old g3) (ASt.new_old g2) hn hm⟩
    | 2, _ => exact ⟨_, _, rfl, by kernel_rfl, clock_3_spec (ASt.new_old g3)⟩
  rintro r s2 ⟨rfl, rfl⟩
  simp only [↓Bt, Bu, simprocAttr, ↓C.q38_W, C.q38_B, C.q38]
  exact ((ASt.le.new _ _ _).trans (ASt.le.new _ _ _)).trans (ASt.le.new _ _ _)

/- Descriptions: too much of anything; cycles. -/
set_option maxRecDepth 100000

theorem cycle_spec {st : ASt} {g : Gr} (hg : g.few) : ACalls Tryz.prog F.q43 [.isl 1 (g.map row) g.length] st fun r s => r = .int .i64 (if grErr g = 5 then 5 else 0) ∧ s = st := by
  refine calls_of_awp L.q43 rfl ?_
  simp only [↓Bt, Bu, simprocAttr, ↓C.q43_W, C.q43_B, C.q43]
  refine (check_spec hg).mono ?_
  rintro r s ⟨rfl, rfl⟩
  simp only [↓Bt, Bu, simprocAttr, ↓C.q43_W, C.q43_B, C.q43]
  refine when_spec.mono ?_
  rintro r s ⟨rfl, rfl⟩
  simp only [↓Bt, Bu, simprocAttr, ↓C.q43_W, C.q43_B, C.q43, decide_eq_true_eq]

def devFull (d : Dev) : Int := if 8 < d.regs.length ∨ 6 < d.needs.length then 8 else 0
theorem full_1_spec {st : ASt} {d : Dev} : ACalls Tryz.prog F.q60 [.agg d.cells] st fun r s => r = .int .i64 (devFull d) ∧ s = st := by
  refine ACalls.gc (Q' := fun r s => r = .int .i64 (devFull d) ∧ st.le s) (calls_of_awp L.q60 rfl ?_) (fun v s ⟨h, hl⟩ => ⟨st, hl, h, rfl⟩)
  simp only [↓Bt, Bu, simprocAttr, ↓C.q60_W, C.q60_B, C.q60, Dev.cells, row]
  intro id hid
  by_cases h1 : (8 : Int) < (d.regs.length : Nat)
  · have h1' : 8 < d.regs.length := by omega
    simp only [↓Bt, Bu, simprocAttr, ↓C.q60_W, C.q60_B, C.q60, hid, h1, gt_iff_lt]
    refine when_spec.mono ?_
    rintro r s ⟨rfl, rfl⟩
    simp only [↓Bt, Bu, simprocAttr, ↓C.q60_W, C.q60_B, C.q60, devFull, h1', true_or]
    exact ASt.le.new _ _ _
  · have h1' : ¬ 8 < d.regs.length := by omega
    have e : ((6 : Int) < (d.needs.length : Nat)) ↔ 6 < d.needs.length := by omega
    simp only [↓Bt, Bu, simprocAttr, ↓C.q60_W, C.q60_B, C.q60, hid, h1, gt_iff_lt]
    refine when_spec.mono ?_
    rintro r s ⟨rfl, rfl⟩
    simp only [↓Bt, Bu, simprocAttr, ↓C.q60_W, C.q60_B, C.q60, devFull, h1', false_or, e, decide_eq_true_eq]
    exact ASt.le.new _ _ _

def ofAll {α : Type} (l : List α) (f : α → Int) (i : Nat) : Int := (l[i]?).elim 0 f
theorem ofAll_at {α : Type} {l : List α} {f : α → Int} {i : Nat} (h : i < l.length) : ofAll l f i = f l[i] := by simp [ofAll, h]
def Soc.big (s : Soc) : Bool := decide (12 < s.clocks.length ∨ 6 < s.doms.length ∨ 6 < s.rsts.length ∨ 6 < s.devs.length)
def Soc.fullE (s : Soc) : Int := if s.big = true then 8 else firstE (ofAll s.devs devFull) s.devs.length
theorem full_spec {st : ASt} {s : Soc} : ACalls Tryz.prog F.q59 [.agg s.cells] st fun r s' => r = .int .i64 s.fullE ∧ s' = st := by
  refine ACalls.gc (Q' := fun r s' => r = .int .i64 s.fullE ∧ st.le s') (calls_of_awp L.q59 rfl ?_) (fun v s ⟨h, hl⟩ => ⟨st, hl, h, rfl⟩)
  simp only [↓Bt, Bu, simprocAttr, ↓C.k6_w, C.k6_b, C.q59]
  intro id hid
  rw [Soc.cells]
  have hbig : ∀ p q r t : Bool, p = decide ((12 : Int) < (s.clocks.length : Nat)) → q = decide ((6 : Int) < (s.doms.length : Nat)) → r = decide ((6 : Int) < (s.rsts.length : Nat)) → t = decide ((6 : Int) < (s.devs.length : Nat)) → s.big = (p || q || r || t) := by
    rintro p q r t rfl rfl rfl rfl
    have e1 : ((12 : Int) < (s.clocks.length : Nat)) ↔ 12 < s.clocks.length := by omega
    have e2 : ((6 : Int) < (s.doms.length : Nat)) ↔ 6 < s.doms.length := by omega
    have e3 : ((6 : Int) < (s.rsts.length : Nat)) ↔ 6 < s.rsts.length := by omega
    have e4 : ((6 : Int) < (s.devs.length : Nat)) ↔ 6 < s.devs.length := by omega
    simp only [Soc.big, e1, e2, e3, e4, Bool.decide_or, Bool.or_assoc]
  have hb := hbig _ _ _ _ rfl rfl rfl rfl
  by_cases h1 : (12 : Int) < (s.clocks.length : Nat)
  · simp only [↓Bt, Bu, simprocAttr, ↓C.q59_W, C.q59_B, C.q59, Soc.clkV, Soc.domV, Soc.rstV, Soc.devV, hid, h1, gt_iff_lt]
    exact ⟨by simp [Soc.fullE, hb, h1], ASt.le.new _ _ _⟩
  by_cases h2 : (6 : Int) < (s.doms.length : Nat)
  · simp only [↓Bt, Bu, simprocAttr, ↓C.q59_W, C.q59_B, C.q59, Soc.clkV, Soc.domV, Soc.rstV, Soc.devV, hid, h1, h2, gt_iff_lt]
    exact ⟨by simp [Soc.fullE, hb, h2], ASt.le.new _ _ _⟩
  by_cases h3 : (6 : Int) < (s.rsts.length : Nat)
  · simp only [↓Bt, Bu, simprocAttr, ↓C.q59_W, C.q59_B, C.q59, Soc.clkV, Soc.domV, Soc.rstV, Soc.devV, hid, h1, h2, h3, gt_iff_lt]
    exact ⟨by simp [Soc.fullE, hb, h3], ASt.le.new _ _ _⟩
  by_cases h4 : (6 : Int) < (s.devs.length : Nat)
  · simp only [↓Bt, Bu, simprocAttr, ↓C.q59_W, C.q59_B, C.q59, Soc.clkV, Soc.domV, Soc.rstV, Soc.devV, hid, h1, h2, h3, h4, gt_iff_lt]
    exact ⟨by simp [Soc.fullE, hb, h4], ASt.le.new _ _ _⟩
  simp only [↓Bt, Bu, simprocAttr, ↓C.q59_W, C.q59_B, C.q59, Soc.clkV, Soc.domV, Soc.rstV, Soc.devV, hid, h1, h2, h3, h4, gt_iff_lt]
  refine (conf_each_api_Device_spec (e := ofAll s.devs devFull) rfl (by omega) fun i hi _ => ?_).mono ?_
  · rw [ofAll_at hi]
    exact full_1_spec
  rintro r s2 ⟨rfl, rfl⟩
  simp only [↓Bt, Bu, simprocAttr, ↓C.q59_W, C.q59_B, C.q59]
  exact ⟨by simp [Soc.fullE, hb, h1, h2, h3, h4], ASt.le.new _ _ _⟩

/- Descriptions: lists of one's own, and the three graphs. -/
set_option maxRecDepth 100000

theorem conf_own_int_spec {st : ASt} {cs : List AV} {n : Nat} (hl : cs.length = n * 1) (hn : n ≤ 4294967296) (hc : allLeaf cs = true) : ACalls Tryz.prog F.q67 [.isl 1 cs n] st fun r st' => Owned st st' 1 cs n r := by
  refine calls_of_awp L.q67 rfl ?_
  have ht : cs.take (n * 1) = cs := by rw [← hl, List.take_length]
  have hle : n * 1 ≤ cs.length := by omega
  by_cases h0 : n = 0
  · subst h0
    simp only [↓Bt, Bu, simprocAttr, ↓C.q67_W, C.q67_B, C.q67, ASt.seen, Nat.zero_mul, Nat.zero_le, List.take_zero, allLeaf, Nat.add_zero]
    exact .inl ⟨rfl, rfl, rfl⟩
  · simp only [↓Bt, Bu, simprocAttr, ↓C.q67_W, C.q67_B, C.q67, ASt.seen, hle, ht, hn, hc, h0, Nat.zero_add]
    intro id hid
    exact .inr ⟨h0, id, hid, rfl, rfl⟩
def GI (st s : ASt) (g : Nat) (rows : List (List Int)) (i : Nat) : Prop :=
  ∃ ws L, s.h g = some (.cells ws) ∧ RepL s ws ((rows.take i).map row ++ List.replicate (rows.length - i) (row [])) L ∧ g ∉ L ∧ (∀ j ∈ L, st.h j = none) ∧ st.le s ∧ st.h g = none
theorem row_nil : row [] = .isl 1 [] 0 := rfl
theorem nils_rep (st : ASt) : ∀ n, RepL st (List.replicate n .nils) (List.replicate n (row [])) []
  | 0 => .nil
  | n + 1 => by rw [List.replicate_succ, List.replicate_succ, row_nil]; exact .nils 1 (nils_rep st n)
theorem GI.start {st : ASt} {g : Nat} (hg : st.h g = none) (rows : List (List Int)) : GI st (st.new g (.cells (List.replicate rows.length .nils))) g rows 0 :=
  ⟨_, [], ASt.new_self _ hg, by simpa using nils_rep _ rows.length, by simp, fun j hj => by (cases hj), ASt.le.new _ _ _, hg⟩
theorem GI.len {st s : ASt} {g : Nat} {rows : List (List Int)} {i : Nat} (h : GI st s g rows i) (hi : i < rows.length) : ∃ ws, s.h g = some (.cells ws) ∧ i < ws.length := by
  obtain ⟨ws, L, h1, h2, h3⟩ := h
  have := h2.len
  simp at this
  exact ⟨ws, h1, by omega⟩
theorem GI.step {st s s2 : ASt} {g : Nat} {rows : List (List Int)} {i : Nat} {v : AV} {Lv : List Nat} (h : GI st s g rows i) (hi : i < rows.length) (hl : s.le s2) (hv : RepL s2 [v] [row rows[i]] Lv) (hn : ∀ j ∈ Lv, s.h j = none) {ws : List AV} (hws : s.h g = some (.cells ws)) :
    GI st (s2.set g (.cells (ws.set i v))) g rows (i + 1) := by
  obtain ⟨ws', L, h1, h2, h3, h4, h5, h6⟩ := h
  rw [hws] at h1; cases h1
  have hlen := h2.len
  simp only [List.length_append, List.length_map, List.length_take, List.length_replicate] at hlen
  have hgv : g ∉ Lv := fun hm => by rw [hn g hm] at hws; cases hws
  have hd : ∀ j ∈ Lv, j ∉ L := fun j hj hm => h2.live j hm (hn j hj)
  obtain ⟨L', q1, q2, q3⟩ := (h2.le hl).store (i := i) h3 (by omega) hv hgv hd (.cells (ws.set i v))
  have hg2 := hl _ _ hws
  refine ⟨ws.set i v, L', by rw [ASt.set_h, if_pos rfl, hg2]; rfl, ?_, q2, fun j hj => ?_, fun j o ho => ?_, h6⟩
  · have e : ((rows.take i).map row ++ List.replicate (rows.length - i) (row [])).set i (row rows[i]) = (rows.take (i + 1)).map row ++ List.replicate (rows.length - (i + 1)) (row []) := by
      obtain ⟨k, hk⟩ : ∃ k, rows.length - i = k + 1 := ⟨rows.length - i - 1, by omega⟩
      have hk2 : rows.length - (i + 1) = k := by omega
      rw [hk, hk2, List.replicate_succ, List.set_append_right _ _ (by simp; omega)]
      have : i - ((rows.take i).map row).length = 0 := by simp; omega
      rw [this, List.set_cons_zero, List.take_succ_eq_append_getElem hi, List.map_append]
      simp
    rw [e] at q1; exact q1
  · rcases q3 j hj with h | h
    · exact h4 j h
    · cases e : st.h j with
      | none => rfl
      | some o => have := hn j h; rw [h5 _ _ e] at this; cases this
  · rw [ASt.set_h]
    split
    · rename_i e
      subst e
      rw [h6] at ho; cases ho
    · exact hl _ _ (h5 _ _ ho)
def GR (st s : ASt) (r : AV) (rows : List (List Int)) : Prop := ∃ L, RepL s [r] [gval rows] L ∧ (∀ j ∈ L, st.h j = none) ∧ st.le s
theorem GI.done {st s : ASt} {g : Nat} {rows : List (List Int)} (h : GI st s g rows rows.length) : GR st s (.sl 1 g 0 rows.length) rows := by
  obtain ⟨ws, L, h1, h2, h3, h4, h5, h6⟩ := h
  simp only [List.take_length, Nat.sub_self, List.replicate_zero, List.append_nil] at h2
  refine ⟨g :: (L ++ []), .sl h1 h2 h3 (by simp) (by simp) .nil, fun j hj => ?_, h5⟩
  rcases List.mem_cons.mp hj with rfl | hj
  · exact h6
  · exact h4 j (by simpa using hj)
theorem GR.frz {st s : ASt} {r : AV} {rows : List (List Int)} (h : GR st s r rows) : ∃ s', Ghost r s (gval rows) s' ∧ st.le s' := by
  obtain ⟨L, h1, h2, h3⟩ := h
  exact ⟨_, h1.ghost1, h3.killL h2⟩

theorem GR.less {st st1 s : ASt} {r : AV} {rows : List (List Int)} (h : GR st1 s r rows) (hl : st.le st1) : GR st s r rows := by
  obtain ⟨L, h1, h2, h3⟩ := h
  refine ⟨L, h1, fun j hj => ?_, hl.trans h3⟩
  cases e : st.h j with
  | none => rfl
  | some o => have := h2 j hj; rw [hl _ _ e] at this; cases this
theorem GI.le {st s s' : ASt} {g : Nat} {rows : List (List Int)} {i : Nat} (h : GI st s g rows i) (hl : s.le s') : GI st s' g rows i := by
  obtain ⟨ws, L, h1, h2, h3, h4, h5, h6⟩ := h
  exact ⟨ws, L, hl _ _ h1, h2.le hl, h3, h4, h5.trans hl, h6⟩
theorem conf_Clocks_own {st : ASt} {s : Soc} (hn : s.clocks.length ≤ 4294967296) (hm : ∀ c ∈ s.clocks, c.src.length ≤ 4294967296) :
    ACalls Tryz.prog F.q34 [.agg s.cells] st fun r s' => GR st s' r (s.clocks.map Clk.src) := by
  refine calls_of_awp L.q34 rfl ?_
  simp only [↓Bt, Bu, simprocAttr, ↓C.b3_w, C.b3_b, C.q34]
  intro ib hib
  simp only [↓Bt, Bu, simprocAttr, ↓C.cy_w, C.cy_b, ↓C.bkk_w, ↓C.b3_w, C.b3_b, C.q34, Soc.cells, Soc.clkV, hib, Int.toNat_natCast]
  refine ⟨⟨by omega, by omega⟩, ?_⟩
  rintro g ⟨hg, hgi⟩
  obtain ⟨bx, hbx⟩ : ∃ bx, bx = AObj.cells s.cells := ⟨_, rfl⟩
  have hg' : (st.new ib bx).h g = none := by rw [ASt.new_none]; exact ⟨hg, hgi⟩
  have hst := GI.start hg' (s.clocks.map Clk.src)
  rw [hbx, List.length_map, ← zeros_nils] at hst
  have hib2 : ((st.new ib (AObj.cells s.cells)).new g (AObj.cells (zeros [AV.nils] s.clocks.length))).h ib = some (.cells s.cells) := ASt.new_old (ASt.new_self _ hib)
  rw [Soc.cells, Soc.clkV] at hib2
  simp only [↓Bt, Bu, simprocAttr, ↓C.q34_W, C.q34_B, C.q34, hib, Int.toNat_natCast]
  refine awp_midB (fun _ : Unit => [(3, .sl 1 g 0 s.clocks.length)]) (fun _ s' => GR st s' (.sl 1 g 0 s.clocks.length) (s.clocks.map Clk.src)) ?_ ?_
  rotate_left
  · rintro - s' h
    simp only [↓Bt, Bu, simprocAttr, ↓C.q34_W, C.q34_B, C.q34]
    exact h
  refine awp_loopK (fun i : Nat => [(3, .sl 1 g 0 s.clocks.length), (11, .isl 6 (s.clocks.flatMap Clk.cells) s.clocks.length), (12, .int .i64 s.clocks.length), (13, .int .i64 i)]) (fun i s' => i ≤ s.clocks.length ∧ GI (st.new ib (AObj.cells s.cells)) s' g (s.clocks.map Clk.src) i) (fun i => s.clocks.length - i) 0 rfl ⟨Nat.zero_le _, hst⟩ ?_
  rintro i s1 ⟨hi, hG⟩
  by_cases hil : i < s.clocks.length
  rotate_left
  · have hie : i = s.clocks.length := by omega
    subst hie
    have hil' : ¬ ((s.clocks.length : Nat) : Int) < (s.clocks.length : Nat) := by omega
    simp only [↓Bt, Bu, simprocAttr, ↓C.q34_W, C.q34_B, C.q34, hil']
    refine ⟨(), ?_⟩
    have := hG
    rw [show s.clocks.length = (s.clocks.map Clk.src).length by simp] at this
    have := this.done
    rw [List.length_map] at this
    exact this.less (ASt.le.new _ _ _)
  have hil' : (i : Int) < (s.clocks.length : Nat) := by omega
  have hz : (0:Int) ≤ (i : Int) ∧ (i : Int) < (s.clocks.length : Nat) := by omega
  have hw : IntKind.i64.wrap ((i : Int) + 1) = ((i + 1 : Nat) : Int) := by rw [wrap64] <;> omega
  have hf := flatMap_fits (f := Clk.cells) (k := 6) (fun _ => rfl) hil
  have ht := flatMap_at (f := Clk.cells) (k := 6) (fun _ => rfl) hil
  obtain ⟨cs, hcs⟩ : ∃ cs, cs = Clk.cells s.clocks[i] := ⟨_, rfl⟩
  rw [← hcs] at ht
  simp only [↓Bt, Bu, simprocAttr, ↓C.j2_w, C.j2_b, ↓C.bsk_w, ↓C.j1_w, C.j1_b, ↓C.bsm_w, ↓C.j0_w, C.j0_b, ↓C.bsh_w, ↓C.bsn_w, ↓C.bsp_w, ↓C.jz_w, C.jz_b, ↓C.bsj_w, ↓C.bsr_w, ↓C.jq_w, C.jq_b, ↓C.bsl_w, ↓C.cy_w, C.cy_b, ↓C.bkk_w, ↓C.b3_w, C.b3_b, C.q34, hil', hz, Int.toNat_natCast, hf, ht]
  intro id hid
  obtain ⟨ws, hws, hwl⟩ := hG.len (by simpa using hil)
  have hgid : ¬ g = id := by rintro rfl; rw [hws] at hid; cases hid
  rw [hcs]
  simp only [↓Bt, Bu, simprocAttr, ↓C.q34_W, C.q34_B, C.q34, Clk.cells, row, hid]
  refine ⟨rfl, ?_⟩
  refine (conf_own_int_spec (by rw [ints_length, Nat.mul_one]) (hm _ (List.getElem_mem hil)) (ints_leaf _)).mono ?_
  rintro r s2 hO
  obtain ⟨Lv, hv, hLv⟩ := hO.rep (by rw [ints_length, Nat.mul_one]) (ints_scalar _)
  have hle : s1.le s2 := (le_new_set hid).trans hO.le
  have hnn : ∀ j ∈ Lv, s1.h j = none := fun j hj => by
    cases e : s1.h j with
    | none => rfl
    | some o =>
      have h1 := hLv j hj
      rw [le_new_set hid _ _ e] at h1; cases h1
  have hstep := hG.step (i := i) (v := r) (by simpa using hil) hle (by simpa [row] using hv) hnn hws
  simp only [↓Bt, Bu, simprocAttr, ↓C.q34_W, C.q34_B, C.q34, hz, Int.toNat_natCast, Nat.mul_one, hle _ _ hws, hO.leaf, hwl, hw]
  exact ⟨i + 1, rfl, ⟨hil, hstep⟩, by omega⟩

def Dom.up (d : Dom) : List Int := if d.above = -1 then [] else [d.above]
theorem GI.skip {st s : ASt} {g : Nat} {rows : List (List Int)} {i : Nat} (h : GI st s g rows i) (hi : i < rows.length) (h0 : rows[i] = []) : GI st s g rows (i + 1) := by
  obtain ⟨ws, L, h1, h2, h3, h4, h5, h6⟩ := h
  refine ⟨ws, L, h1, ?_, h3, h4, h5, h6⟩
  have e : (rows.take (i + 1)).map row ++ List.replicate (rows.length - (i + 1)) (row []) = (rows.take i).map row ++ List.replicate (rows.length - i) (row []) := by
    obtain ⟨k, hk⟩ : ∃ k, rows.length - i = k + 1 := ⟨rows.length - i - 1, by omega⟩
    have hk2 : rows.length - (i + 1) = k := by omega
    rw [hk, hk2, List.replicate_succ, List.take_succ_eq_append_getElem hi, List.map_append, h0]
    simp
  rw [e]; exact h2
theorem conf_Domains_own {st : ASt} {s : Soc} (hn : s.doms.length ≤ 4294967296) :
    ACalls Tryz.prog F.q36 [.agg s.cells] st fun r s' => GR st s' r (s.doms.map Dom.up) := by
  refine calls_of_awp L.q36 rfl ?_
  simp only [↓Bt, Bu, simprocAttr, ↓C.b5_w, C.b5_b, C.q36]
  intro ib hib
  simp only [↓Bt, Bu, simprocAttr, ↓C.cz_w, C.cz_b, ↓C.bkm_w, ↓C.b5_w, C.b5_b, C.q36, Soc.cells, Soc.domV, hib, Int.toNat_natCast]
  refine ⟨⟨by omega, by omega⟩, ?_⟩
  rintro g ⟨hg, hgi⟩
  obtain ⟨bx, hbx⟩ : ∃ bx, bx = AObj.cells s.cells := ⟨_, rfl⟩
  have hg' : (st.new ib bx).h g = none := by rw [ASt.new_none]; exact ⟨hg, hgi⟩
  have hst := GI.start hg' (s.doms.map Dom.up)
  rw [hbx, List.length_map, ← zeros_nils] at hst
  have hib2 : ((st.new ib (AObj.cells s.cells)).new g (AObj.cells (zeros [AV.nils] s.doms.length))).h ib = some (.cells s.cells) := ASt.new_old (ASt.new_self _ hib)
  rw [Soc.cells, Soc.domV] at hib2
  simp only [↓Bt, Bu, simprocAttr, ↓C.q36_W, C.q36_B, C.q36, hib, Int.toNat_natCast]
  refine awp_midB (fun _ : Unit => [(3, .sl 1 g 0 s.doms.length)]) (fun _ s' => GR st s' (.sl 1 g 0 s.doms.length) (s.doms.map Dom.up)) ?_ ?_
  rotate_left
  · rintro - s' h
    simp only [↓Bt, Bu, simprocAttr, ↓C.q36_W, C.q36_B, C.q36]
    exact h
  refine awp_loopK (fun i : Nat => [(3, .sl 1 g 0 s.doms.length), (11, .isl 3 (s.doms.flatMap Dom.cells) s.doms.length), (12, .int .i64 s.doms.length), (13, .int .i64 i)]) (fun i s' => i ≤ s.doms.length ∧ GI (st.new ib (AObj.cells s.cells)) s' g (s.doms.map Dom.up) i) (fun i => s.doms.length - i) 0 rfl ⟨Nat.zero_le _, hst⟩ ?_
  rintro i s1 ⟨hi, hG⟩
  by_cases hil : i < s.doms.length
  rotate_left
  · have hie : i = s.doms.length := by omega
    subst hie
    have hil' : ¬ ((s.doms.length : Nat) : Int) < (s.doms.length : Nat) := by omega
    simp only [↓Bt, Bu, simprocAttr, ↓C.q36_W, C.q36_B, C.q36, hil']
    refine ⟨(), ?_⟩
    have := hG
    rw [show s.doms.length = (s.doms.map Dom.up).length by simp] at this
    have := this.done
    rw [List.length_map] at this
    exact this.less (ASt.le.new _ _ _)
  have hil' : (i : Int) < (s.doms.length : Nat) := by omega
  have hz : (0:Int) ≤ (i : Int) ∧ (i : Int) < (s.doms.length : Nat) := by omega
  have hw : IntKind.i64.wrap ((i : Int) + 1) = ((i + 1 : Nat) : Int) := by rw [wrap64] <;> omega
  have hf := flatMap_fits (f := Dom.cells) (k := 3) (fun _ => rfl) hil
  have ht := flatMap_at (f := Dom.cells) (k := 3) (fun _ => rfl) hil
  obtain ⟨cs, hcs⟩ : ∃ cs, cs = Dom.cells s.doms[i] := ⟨_, rfl⟩
  rw [← hcs] at ht
  simp only [↓Bt, Bu, simprocAttr, ↓C.j7_w, C.j7_b, ↓C.bsv_w, ↓C.j6_w, C.j6_b, ↓C.bsy_w, ↓C.j5_w, C.j5_b, ↓C.bss_w, ↓C.bsq_w, ↓C.bsz_w, ↓C.j4_w, C.j4_b, ↓C.bst_w, ↓C.bsw_w, ↓C.j3_w, C.j3_b, ↓C.bsx_w, ↓C.cz_w, C.cz_b, ↓C.bkm_w, ↓C.b5_w, C.b5_b, C.q36, hil', hz, Int.toNat_natCast, hf, ht]
  intro id hid
  obtain ⟨ws, hws, hwl⟩ := hG.len (by simpa using hil)
  have hgid : ¬ g = id := by rintro rfl; rw [hws] at hid; cases hid
  rw [hcs]
  have hlid := le_new_set (a := AObj.cells [AV.int .i64 0, AV.int .i64 0, AV.bool false]) (b := AObj.cells (Dom.cells s.doms[i])) hid
  by_cases hab : s.doms[i].above = -1
  · simp only [↓Bt, Bu, simprocAttr, ↓C.q36_W, C.q36_B, C.q36, Dom.cells, hid, hab, hw]
    refine ⟨rfl, i + 1, rfl, ⟨hil, ?_⟩, by omega⟩
    have := hlid
    simp only [Dom.cells, hab] at this
    exact (hG.skip (by simpa using hil) (by simp [Dom.up, hab])).le this
  · simp only [↓Bt, Bu, simprocAttr, ↓C.q36_W, C.q36_B, C.q36, Dom.cells, hid, hab, hw]
    refine ⟨rfl, ?_⟩
    rintro ix ⟨hix, hixid⟩
    have hgix : ¬ g = ix := by rintro rfl; rw [hws] at hix; cases hix
    simp only [↓Bt, Bu, simprocAttr, ↓C.q36_W, C.q36_B, C.q36, hz, Int.toNat_natCast, Nat.mul_one, hgid, hgix, hws, hwl, hid, hw]
    refine ⟨i + 1, rfl, ⟨hil, ?_⟩, by omega⟩
    have hle2 := hlid.trans (ASt.le.new _ ix (.cells [.int .i64 s.doms[i].above]))
    have hx0 : ((s1.new id (AObj.cells [AV.int .i64 0, AV.int .i64 0, AV.bool false])).set id (AObj.cells (Dom.cells s.doms[i]))).h ix = none := by
      rw [ASt.set_none, ASt.new_none]; exact ⟨hix, hixid⟩
    refine hG.step (v := .sl 1 ix 0 1) (Lv := [ix]) (by simpa using hil) hle2 ?_ (fun j hj => ?_) hws
    · have e : row ((s.doms.map Dom.up)[i]'(by simpa using hil)) = .isl 1 [.int .i64 s.doms[i].above] 1 := by
        simp [Dom.up, hab, row, ints]
      rw [e]
      exact .sl (L1 := []) (L2 := []) (ASt.new_self _ hx0) (RepL.scalars rfl _) (by simp) (by simp) (by simp) .nil
    · have : j = ix := by simpa using hj
      rw [this]; exact hix

theorem conf_Needs_own {st : ASt} {s : Soc} (hn : s.devs.length ≤ 4294967296) (hm : ∀ c ∈ s.devs, c.needs.length ≤ 4294967296) :
    ACalls Tryz.prog F.q37 [.agg s.cells] st fun r s' => GR st s' r (s.devs.map Dev.needs) := by
  refine calls_of_awp L.q37 rfl ?_
  simp only [↓Bt, Bu, simprocAttr, ↓C.b6_w, C.b6_b, C.q37]
  intro ib hib
  simp only [↓Bt, Bu, simprocAttr, ↓C.c0_w, C.c0_b, ↓C.bkn_w, ↓C.b6_w, C.b6_b, C.q37, Soc.cells, Soc.devV, hib, Int.toNat_natCast]
  refine ⟨⟨by omega, by omega⟩, ?_⟩
  rintro g ⟨hg, hgi⟩
  obtain ⟨bx, hbx⟩ : ∃ bx, bx = AObj.cells s.cells := ⟨_, rfl⟩
  have hg' : (st.new ib bx).h g = none := by rw [ASt.new_none]; exact ⟨hg, hgi⟩
  have hst := GI.start hg' (s.devs.map Dev.needs)
  rw [hbx, List.length_map, ← zeros_nils] at hst
  have hib2 : ((st.new ib (AObj.cells s.cells)).new g (AObj.cells (zeros [AV.nils] s.devs.length))).h ib = some (.cells s.cells) := ASt.new_old (ASt.new_self _ hib)
  rw [Soc.cells, Soc.devV] at hib2
  simp only [↓Bt, Bu, simprocAttr, ↓C.q37_W, C.q37_B, C.q37, hib, Int.toNat_natCast]
  refine awp_midB (fun _ : Unit => [(3, .sl 1 g 0 s.devs.length)]) (fun _ s' => GR st s' (.sl 1 g 0 s.devs.length) (s.devs.map Dev.needs)) ?_ ?_
  rotate_left
  · rintro - s' h
    simp only [↓Bt, Bu, simprocAttr, ↓C.q37_W, C.q37_B, C.q37]
    exact h
  refine awp_loopK (fun i : Nat => [(3, .sl 1 g 0 s.devs.length), (11, .isl 6 (s.devs.flatMap Dev.cells) s.devs.length), (12, .int .i64 s.devs.length), (13, .int .i64 i)]) (fun i s' => i ≤ s.devs.length ∧ GI (st.new ib (AObj.cells s.cells)) s' g (s.devs.map Dev.needs) i) (fun i => s.devs.length - i) 0 rfl ⟨Nat.zero_le _, hst⟩ ?_
  rintro i s1 ⟨hi, hG⟩
  by_cases hil : i < s.devs.length
  rotate_left
  · have hie : i = s.devs.length := by omega
    subst hie
    have hil' : ¬ ((s.devs.length : Nat) : Int) < (s.devs.length : Nat) := by omega
    simp only [↓Bt, Bu, simprocAttr, ↓C.q37_W, C.q37_B, C.q37, hil']
    refine ⟨(), ?_⟩
    have := hG
    rw [show s.devs.length = (s.devs.map Dev.needs).length by simp] at this
    have := this.done
    rw [List.length_map] at this
    exact this.less (ASt.le.new _ _ _)
  have hil' : (i : Int) < (s.devs.length : Nat) := by omega
  have hz : (0:Int) ≤ (i : Int) ∧ (i : Int) < (s.devs.length : Nat) := by omega
  have hw : IntKind.i64.wrap ((i : Int) + 1) = ((i + 1 : Nat) : Int) := by rw [wrap64] <;> omega
  have hf := flatMap_fits (f := Dev.cells) (k := 6) (fun _ => rfl) hil
  have ht := flatMap_at (f := Dev.cells) (k := 6) (fun _ => rfl) hil
  obtain ⟨cs, hcs⟩ : ∃ cs, cs = Dev.cells s.devs[i] := ⟨_, rfl⟩
  rw [← hcs] at ht
  simp only [↓Bt, Bu, simprocAttr, ↓C.kd_w, C.kd_b, ↓C.bs2_w, ↓C.kc_w, C.kc_b, ↓C.bs4_w, ↓C.kb_w, C.kb_b, ↓C.bs0_w, ↓C.bs5_w, ↓C.bs6_w, ↓C.j9_w, C.j9_b, ↓C.bs1_w, ↓C.bs7_w, ↓C.j8_w, C.j8_b, ↓C.bs3_w, ↓C.c0_w, C.c0_b, ↓C.bkn_w, ↓C.b6_w, C.b6_b, C.q37, hil', hz, Int.toNat_natCast, hf, ht]
  intro id hid
  obtain ⟨ws, hws, hwl⟩ := hG.len (by simpa using hil)
  have hgid : ¬ g = id := by rintro rfl; rw [hws] at hid; cases hid
  rw [hcs]
  simp only [↓Bt, Bu, simprocAttr, ↓C.q37_W, C.q37_B, C.q37, Dev.cells, row, hid]
  refine ⟨rfl, ?_⟩
  refine (conf_own_int_spec (by rw [ints_length, Nat.mul_one]) (hm _ (List.getElem_mem hil)) (ints_leaf _)).mono ?_
  rintro r s2 hO
  obtain ⟨Lv, hv, hLv⟩ := hO.rep (by rw [ints_length, Nat.mul_one]) (ints_scalar _)
  have hle : s1.le s2 := (le_new_set hid).trans hO.le
  have hnn : ∀ j ∈ Lv, s1.h j = none := fun j hj => by
    cases e : s1.h j with
    | none => rfl
    | some o =>
      have h1 := hLv j hj
      rw [le_new_set hid _ _ e] at h1; cases h1
  have hstep := hG.step (i := i) (v := r) (by simpa using hil) hle (by simpa [row] using hv) hnn hws
  simp only [↓Bt, Bu, simprocAttr, ↓C.q37_W, C.q37_B, C.q37, hz, Int.toNat_natCast, Nat.mul_one, hle _ _ hws, hO.leaf, hwl, hw]
  exact ⟨i + 1, rfl, ⟨hil, hstep⟩, by omega⟩

/- Descriptions: the check, whole. -/
set_option maxRecDepth 100000

theorem clocks_spec {st : ASt} {s : Soc} (hn : s.clocks.length ≤ 4294967296) (hm : ∀ c ∈ s.clocks, c.src.length ≤ 4294967296) :
    ACalls Tryz.prog F.q34 [.agg s.cells] st fun r s' => r = gval (s.clocks.map Clk.src) ∧ s' = st :=
  (conf_Clocks_own hn hm).ghost fun r s' h => by
    obtain ⟨s2, h1, h2⟩ := h.frz
    exact ⟨_, st, h1.trans (Ghost.sub h2), rfl, rfl⟩
theorem domains_spec {st : ASt} {s : Soc} (hn : s.doms.length ≤ 4294967296) :
    ACalls Tryz.prog F.q36 [.agg s.cells] st fun r s' => r = gval (s.doms.map Dom.up) ∧ s' = st :=
  (conf_Domains_own hn).ghost fun r s' h => by
    obtain ⟨s2, h1, h2⟩ := h.frz
    exact ⟨_, st, h1.trans (Ghost.sub h2), rfl, rfl⟩
theorem needs_spec {st : ASt} {s : Soc} (hn : s.devs.length ≤ 4294967296) (hm : ∀ c ∈ s.devs, c.needs.length ≤ 4294967296) :
    ACalls Tryz.prog F.q37 [.agg s.cells] st fun r s' => r = gval (s.devs.map Dev.needs) ∧ s' = st :=
  (conf_Needs_own hn hm).ghost fun r s' h => by
    obtain ⟨s2, h1, h2⟩ := h.frz
    exact ⟨_, st, h1.trans (Ghost.sub h2), rfl, rfl⟩

def cycE (g : Gr) : Int := if grErr g = 5 then 5 else 0
def clksE (s : Soc) : Int := firstE (ofAll s.clocks fun c => firstE (clkE s.clocks.length c) 3) s.clocks.length
def domsE (s : Soc) : Int := firstE (ofAll s.doms fun d => firstE (domE s.doms.length d) 2) s.doms.length
def rstsE (s : Soc) : Int := firstE (ofAll s.rsts rstErr) s.rsts.length
def devsE (s : Soc) : Int := firstE (ofAll s.devs fun d => firstE (devE s d) 4) s.devs.length
def confE (s : Soc) : Nat → Int
  | 0 => s.fullE
  | 1 => clksE s
  | 2 => cycE (s.clocks.map Clk.src)
  | 3 => domsE s
  | 4 => cycE (s.doms.map Dom.up)
  | 5 => rstsE s
  | 6 => devsE s
  | _ => cycE (s.devs.map Dev.needs)
def confErr (s : Soc) : Int := firstE (confE s) 8

def Soc.fine (s : Soc) : Prop := ∀ c ∈ s.clocks, c.src.length ≤ 4294967296

theorem fullE_zero {s : Soc} : s.fullE = 0 ↔ (s.clocks.length ≤ 12 ∧ s.doms.length ≤ 6 ∧ s.rsts.length ≤ 6 ∧ s.devs.length ≤ 6) ∧ ∀ d ∈ s.devs, d.regs.length ≤ 8 ∧ d.needs.length ≤ 6 := by
  unfold Soc.fullE
  by_cases hb : s.big = true
  · rw [if_pos hb]
    simp only [Soc.big, decide_eq_true_eq] at hb
    constructor
    · intro h; cases h
    · rintro ⟨h, _⟩; omega
  · rw [if_neg hb, firstE_zero]
    simp only [Soc.big, decide_eq_true_eq] at hb
    constructor
    · intro h
      refine ⟨by omega, fun d hd => ?_⟩
      obtain ⟨i, hi, rfl⟩ := List.getElem_of_mem hd
      have := h i hi
      rw [ofAll_at hi, devFull] at this
      split at this
      · cases this
      · omega
    · rintro ⟨_, h⟩ i hi
      rw [ofAll_at hi, devFull, if_neg]
      have := h _ (List.getElem_mem hi)
      omega

section
variable {st : ASt} {j : Nat} {s : Soc} (hj : st.h j = some (.cells s.cells))
include hj
theorem check_1_spec : ACalls Tryz.prog F.q23 [.ptr j 0] st fun r s' => r = .int .i64 (confE s 0) ∧ s' = st := by
  refine calls_of_awp L.q23 rfl ?_
  have e : AV.agg (List.take 4 s.cells) = .agg s.cells := rfl
  have l : s.cells.length = 4 := rfl
  simp only [↓Bt, Bu, simprocAttr, ↓C.q23_W, C.q23_B, C.q23, hj, l, e]
  refine full_spec.mono ?_
  rintro r s2 ⟨rfl, rfl⟩
  simp only [↓Bt, Bu, simprocAttr, ↓C.q23_W, C.q23_B, C.q23, confE]
theorem check_2_1_spec (hn : s.clocks.length ≤ 4294967296) {c : Clk} (hm : c.src.length ≤ 4294967296) : ACalls Tryz.prog F.q25 [.agg c.cells, .ptr j 0] st fun r s' => r = .int .i64 (firstE (clkE s.clocks.length c) 3) ∧ s' = st := by
  refine ACalls.gc (Q' := fun r s' => r = .int .i64 (firstE (clkE s.clocks.length c) 3) ∧ st.le s') (calls_of_awp L.q25 rfl ?_) (fun v s ⟨h, hl⟩ => ⟨st, hl, h, rfl⟩)
  have e : AV.agg (List.take 4 s.cells) = .agg s.cells := rfl
  have l : s.cells.length = 4 := rfl
  have e2 : AV.agg (List.take 6 c.cells) = .agg c.cells := rfl
  have l2 : c.cells.length = 6 := rfl
  simp only [↓Bt, Bu, simprocAttr, ↓C.jw_w, C.jw_b, C.q25]
  intro ib hib
  simp only [↓Bt, Bu, simprocAttr, ↓C.q25_W, C.q25_B, C.q25, hj, l, e, hib, l2, e2]
  refine (clock_spec hn hm).mono ?_
  rintro r s2 ⟨rfl, rfl⟩
  simp only [↓Bt, Bu, simprocAttr, ↓C.q25_W, C.q25_B, C.q25]
  exact ASt.le.new _ _ _
theorem check_4_1_spec (hn : s.doms.length ≤ 4294967296) {c : Dom} : ACalls Tryz.prog F.q28 [.agg c.cells, .ptr j 0] st fun r s' => r = .int .i64 (firstE (domE s.doms.length c) 2) ∧ s' = st := by
  refine ACalls.gc (Q' := fun r s' => r = .int .i64 (firstE (domE s.doms.length c) 2) ∧ st.le s') (calls_of_awp L.q28 rfl ?_) (fun v s ⟨h, hl⟩ => ⟨st, hl, h, rfl⟩)
  have e : AV.agg (List.take 4 s.cells) = .agg s.cells := rfl
  have l : s.cells.length = 4 := rfl
  have e2 : AV.agg (List.take 3 c.cells) = .agg c.cells := rfl
  have l2 : c.cells.length = 3 := rfl
  simp only [↓Bt, Bu, simprocAttr, ↓C.jx_w, C.jx_b, C.q28]
  intro ib hib
  simp only [↓Bt, Bu, simprocAttr, ↓C.q28_W, C.q28_B, C.q28, hj, l, e, hib, l2, e2]
  refine (domain_spec hn).mono ?_
  rintro r s2 ⟨rfl, rfl⟩
  simp only [↓Bt, Bu, simprocAttr, ↓C.q28_W, C.q28_B, C.q28]
  exact ASt.le.new _ _ _
theorem check_7_1_spec (h1 : s.clocks.length ≤ 4294967296) (h2 : s.doms.length ≤ 4294967296) (h3 : s.rsts.length ≤ 4294967296) (h4 : s.devs.length ≤ 4294967296) {c : Dev} (hm : c.needs.length ≤ 4294967296) : ACalls Tryz.prog F.q32 [.agg c.cells, .ptr j 0] st fun r s' => r = .int .i64 (firstE (devE s c) 4) ∧ s' = st := by
  refine ACalls.gc (Q' := fun r s' => r = .int .i64 (firstE (devE s c) 4) ∧ st.le s') (calls_of_awp L.q32 rfl ?_) (fun v s ⟨h, hl⟩ => ⟨st, hl, h, rfl⟩)
  have e : AV.agg (List.take 4 s.cells) = .agg s.cells := rfl
  have l : s.cells.length = 4 := rfl
  have e2 : AV.agg (List.take 6 c.cells) = .agg c.cells := rfl
  have l2 : c.cells.length = 6 := rfl
  simp only [↓Bt, Bu, simprocAttr, ↓C.jy_w, C.jy_b, C.q32]
  intro ib hib
  simp only [↓Bt, Bu, simprocAttr, ↓C.q32_W, C.q32_B, C.q32, hj, l, e, hib, l2, e2]
  refine (device_spec h1 h2 h3 h4 hm).mono ?_
  rintro r s2 ⟨rfl, rfl⟩
  simp only [↓Bt, Bu, simprocAttr, ↓C.q32_W, C.q32_B, C.q32]
  exact ASt.le.new _ _ _
theorem check_2_spec (hn : s.clocks.length ≤ 4294967296) (hm : s.fine) : ACalls Tryz.prog F.q24 [.ptr j 0] st fun r s' => r = .int .i64 (confE s 1) ∧ s' = st := by
  refine calls_of_awp L.q24 rfl ?_
  simp only [↓Bt, Bu, simprocAttr, ↓C.q24_W, C.q24_B, C.q24, hj, Soc.cells, Soc.clkV]
  refine (conf_each_api_Clock_spec (e := ofAll s.clocks fun c => firstE (clkE s.clocks.length c) 3) rfl hn fun i hi _ => ?_).mono ?_
  · rw [ofAll_at hi]
    exact check_2_1_spec hj hn (hm _ (List.getElem_mem hi))
  rintro r s2 ⟨rfl, rfl⟩
  simp only [↓Bt, Bu, simprocAttr, ↓C.q24_W, C.q24_B, C.q24, confE, clksE]
theorem check_4_spec (hn : s.doms.length ≤ 4294967296) : ACalls Tryz.prog F.q27 [.ptr j 0] st fun r s' => r = .int .i64 (confE s 3) ∧ s' = st := by
  refine calls_of_awp L.q27 rfl ?_
  simp only [↓Bt, Bu, simprocAttr, ↓C.q27_W, C.q27_B, C.q27, hj, Soc.cells, Soc.domV]
  refine (conf_each_api_Domain_spec (e := ofAll s.doms fun c => firstE (domE s.doms.length c) 2) rfl hn fun i hi _ => ?_).mono ?_
  · rw [ofAll_at hi]
    exact check_4_1_spec hj hn
  rintro r s2 ⟨rfl, rfl⟩
  simp only [↓Bt, Bu, simprocAttr, ↓C.q27_W, C.q27_B, C.q27, confE, domsE]
theorem check_6_spec (hn : s.rsts.length ≤ 4294967296) : ACalls Tryz.prog F.q30 [.ptr j 0] st fun r s' => r = .int .i64 (confE s 5) ∧ s' = st := by
  refine calls_of_awp L.q30 rfl ?_
  simp only [↓Bt, Bu, simprocAttr, ↓C.q30_W, C.q30_B, C.q30, hj, Soc.cells, Soc.rstV]
  refine (conf_each_api_Reset_spec (e := ofAll s.rsts rstErr) rfl hn fun i hi _ => ?_).mono ?_
  · rw [ofAll_at hi]
    exact reset_spec
  rintro r s2 ⟨rfl, rfl⟩
  simp only [↓Bt, Bu, simprocAttr, ↓C.q30_W, C.q30_B, C.q30, confE, rstsE]
theorem check_7_spec (h1 : s.clocks.length ≤ 4294967296) (h2 : s.doms.length ≤ 4294967296) (h3 : s.rsts.length ≤ 4294967296) (h4 : s.devs.length ≤ 4294967296) (hm : ∀ d ∈ s.devs, d.needs.length ≤ 4294967296) : ACalls Tryz.prog F.q31 [.ptr j 0] st fun r s' => r = .int .i64 (confE s 6) ∧ s' = st := by
  refine calls_of_awp L.q31 rfl ?_
  simp only [↓Bt, Bu, simprocAttr, ↓C.q31_W, C.q31_B, C.q31, hj, Soc.cells, Soc.devV]
  refine (conf_each_api_Device_spec (e := ofAll s.devs fun c => firstE (devE s c) 4) rfl h4 fun i hi _ => ?_).mono ?_
  · rw [ofAll_at hi]
    exact check_7_1_spec hj h1 h2 h3 h4 (hm _ (List.getElem_mem hi))
  rintro r s2 ⟨rfl, rfl⟩
  simp only [↓Bt, Bu, simprocAttr, ↓C.q31_W, C.q31_B, C.q31, confE, devsE]
theorem check_3_spec (hn : s.clocks.length ≤ 4294967296) (hm : s.fine) : ACalls Tryz.prog F.q26 [.ptr j 0] st fun r s' => r = .int .i64 (confE s 2) ∧ s' = st := by
  refine calls_of_awp L.q26 rfl ?_
  have e : AV.agg (List.take 4 s.cells) = .agg s.cells := rfl
  have l : s.cells.length = 4 := rfl
  simp only [↓Bt, Bu, simprocAttr, ↓C.q26_W, C.q26_B, C.q26, hj, l, e]
  refine (clocks_spec hn hm).mono ?_
  rintro r s2 ⟨rfl, rfl⟩
  simp only [↓Bt, Bu, simprocAttr, ↓C.q26_W, C.q26_B, C.q26, gval]
  refine (cycle_spec ⟨by simp; omega, fun r hr => ?_⟩).mono ?_
  · obtain ⟨c, hc, rfl⟩ := List.mem_map.mp hr
    have := hm c hc; omega
  rintro r s2 ⟨rfl, rfl⟩
  simp only [↓Bt, Bu, simprocAttr, ↓C.q26_W, C.q26_B, C.q26, confE, cycE]
theorem check_5_spec (hn : s.doms.length ≤ 4294967296) : ACalls Tryz.prog F.q29 [.ptr j 0] st fun r s' => r = .int .i64 (confE s 4) ∧ s' = st := by
  refine calls_of_awp L.q29 rfl ?_
  have e : AV.agg (List.take 4 s.cells) = .agg s.cells := rfl
  have l : s.cells.length = 4 := rfl
  simp only [↓Bt, Bu, simprocAttr, ↓C.q29_W, C.q29_B, C.q29, hj, l, e]
  refine (domains_spec hn).mono ?_
  rintro r s2 ⟨rfl, rfl⟩
  simp only [↓Bt, Bu, simprocAttr, ↓C.q29_W, C.q29_B, C.q29, gval]
  refine (cycle_spec ⟨by simp; omega, fun r hr => ?_⟩).mono ?_
  · obtain ⟨c, hc, rfl⟩ := List.mem_map.mp hr
    unfold Dom.up; split <;> simp
  rintro r s2 ⟨rfl, rfl⟩
  simp only [↓Bt, Bu, simprocAttr, ↓C.q29_W, C.q29_B, C.q29, confE, cycE]
theorem check_8_spec (hn : s.devs.length ≤ 4294967296) (hm : ∀ d ∈ s.devs, d.needs.length ≤ 4294967296) : ACalls Tryz.prog F.q33 [.ptr j 0] st fun r s' => r = .int .i64 (confE s 7) ∧ s' = st := by
  refine calls_of_awp L.q33 rfl ?_
  have e : AV.agg (List.take 4 s.cells) = .agg s.cells := rfl
  have l : s.cells.length = 4 := rfl
  simp only [↓Bt, Bu, simprocAttr, ↓C.q33_W, C.q33_B, C.q33, hj, l, e]
  refine (needs_spec hn hm).mono ?_
  rintro r s2 ⟨rfl, rfl⟩
  simp only [↓Bt, Bu, simprocAttr, ↓C.q33_W, C.q33_B, C.q33, gval]
  refine (cycle_spec ⟨by simp; omega, fun r hr => ?_⟩).mono ?_
  · obtain ⟨c, hc, rfl⟩ := List.mem_map.mp hr
    have := hm c hc; omega
  rintro r s2 ⟨rfl, rfl⟩
  simp only [↓Bt, Bu, simprocAttr, ↓C.q33_W, C.q33_B, C.q33, confE, cycE]
end

theorem conf_check_spec {st : ASt} {s : Soc} (hm : s.fine) : ACalls Tryz.prog F.q22 [.agg s.cells] st fun r s' => r = .int .i64 (confErr s) ∧ s' = st := by
  refine ACalls.gc (Q' := fun r s' => r = .int .i64 (confErr s) ∧ st.le s') (calls_of_awp L.q22 rfl ?_) (fun v s ⟨h, hl⟩ => ⟨st, hl, h, rfl⟩)
  simp only [↓Bt, Bu, simprocAttr, ↓C.jv_w, C.jv_b, C.q22]
  intro j hj
  simp only [↓Bt, Bu, simprocAttr, ↓C.q22_W, C.q22_B, C.q22]
  rintro k ⟨hk, hkj⟩
  have hk' : (st.new j (.cells s.cells)).h k = none := by rw [ASt.new_ne _ hkj]; exact hk
  have g1 := ASt.new_old (id := k) (o := .cells [.fn F.q23 [.ptr j 0], .fn F.q24 [.ptr j 0], .fn F.q26 [.ptr j 0], .fn F.q27 [.ptr j 0], .fn F.q29 [.ptr j 0], .fn F.q30 [.ptr j 0], .fn F.q31 [.ptr j 0], .fn F.q33 [.ptr j 0]]) (ASt.new_self (st := st) (.cells s.cells) hj)
  refine (first_spec (e := confE s) (ASt.new_self _ hk') rfl (by simp) ?_).mono ?_
  · intro x hx h0
    have hf : 0 < x → _ := fun h => fullE_zero.mp (firstE_zero.mp h0 0 h)
    match x, hx with
    | 0, _ => exact ⟨_, _, rfl, by kernel_rfl, check_1_spec g1⟩
    | 1, _ => have := hf (by omega); exact ⟨_, _, rfl, by kernel_rfl, check_2_spec g1 (by omega) hm⟩
    | 2, _ => have := hf (by omega); exact ⟨_, _, rfl, by kernel_rfl, check_3_spec g1 (by omega) hm⟩
    | 3, _ => have := hf (by omega); exact ⟨_, _, rfl, by kernel_rfl, check_4_spec g1 (by omega)⟩
    | 4, _ => have := hf (by omega); exact ⟨_, _, rfl, by kernel_rfl, check_5_spec g1 (by omega)⟩
    | 5, _ => have := hf (by omega); exact ⟨_, _, rfl, by kernel_rfl, check_6_spec g1 (by omega)⟩
    | 6, _ => have := hf (by omega); exact ⟨_, _, rfl, by kernel_rfl, check_7_spec g1 (by omega) (by omega) (by omega) (by omega) fun d hd => by have := this.2 d hd; omega⟩
    | 7, _ => have := hf (by omega); exact ⟨_, _, rfl, by kernel_rfl, check_8_spec g1 (by omega) fun d hd => by have := this.2 d hd; omega⟩
  rintro r s2 ⟨rfl, rfl⟩
  simp only [↓Bt, Bu, simprocAttr, ↓C.q22_W, C.q22_B, C.q22, confErr]
  exact (ASt.le.new _ _ _).trans (ASt.le.new _ _ _)

/- A chip that is made of raw numbers is right. -/
set_option maxRecDepth 100000

theorem grErr_lesser {g : Gr} (hl : g.length ≤ 100) (h : ∀ v (hv : v < g.length), ∀ u ∈ g[v], 0 ≤ u ∧ u < (v : Int)) : grErr g = 0 := by
  have hok : g.ok := fun r hr u hu => by
    obtain ⟨v, hv, rfl⟩ := List.getElem_of_mem hr
    have := h v hv u hu
    omega
  have hf := ord_full hok id fun v hv u hu => by
    rw [deps_at hv] at hu
    obtain ⟨x, hx, rfl⟩ := List.mem_map.mp hu
    have := h v hv x hx
    simp only [id]; omega
  unfold grErr
  rw [if_neg (by omega), if_pos hok, if_neg (by omega)]
theorem cycE_zero {g : Gr} (h : grErr g = 0) : cycE g = 0 := by rw [cycE, if_neg (by rw [h]; decide)]

section
variable {f : Nat → Nat} (hf : ∀ x, f x < 1000000)
theorem nClk_le (f : Nat → Nat) : nClk f ≤ 9 := by unfold nClk; omega
theorem nDom_le (f : Nat → Nat) : nDom f ≤ 4 := by unfold nDom; omega
theorem nRst_le (f : Nat → Nat) : nRst f ≤ 3 := by unfold nRst; omega
theorem nDev_le (f : Nat → Nat) : nDev f ≤ 4 := by unfold nDev; omega
theorem nClk_pos (f : Nat → Nat) : 0 < nClk f := by unfold nClk; omega
theorem nDom_pos (f : Nat → Nat) : 0 < nDom f := by unfold nDom; omega
theorem nRst_pos (f : Nat → Nat) : 0 < nRst f := by unfold nRst; omega
theorem nDev_pos (f : Nat → Nat) : 0 < nDev f := by unfold nDev; omega
theorem kindN_cases (n : Nat) : kindN n = 112 ∨ kindN n = 100 ∨ kindN n = 103 ∨ kindN n = 109 := by
  match n with
  | 0 => exact .inl rfl
  | 1 => exact .inr (.inl rfl)
  | 2 => exact .inr (.inr (.inl rfl))
  | 3 => exact .inr (.inr (.inr rfl))
  | n + 4 => exact .inr (.inr (.inl rfl))

inductive ClkOk (i : Nat) : Clk → Prop
  | osc (r : Int) (h : 1 ≤ r ∧ r ≤ 1000000) (hi : i = 0) : ClkOk i ⟨111, [], r, 0, 0, 0⟩
  | pll (x m d l : Int) (hx : 0 ≤ x ∧ x < i) (hm : 1 ≤ m ∧ m ≤ 8) (hd : 1 ≤ d ∧ d ≤ 4) (hl : 0 ≤ l ∧ l ≤ 3) : ClkOk i ⟨112, [x], 0, m, d, l⟩
  | div (x d : Int) (hx : 0 ≤ x ∧ x < i) (hd : 1 ≤ d ∧ d ≤ 8) : ClkOk i ⟨100, [x], 0, 0, d, 0⟩
  | gate (x : Int) (hx : 0 ≤ x ∧ x < i) : ClkOk i ⟨103, [x], 0, 0, 0, 0⟩
  | mux (x y : Int) (hx : 0 ≤ x ∧ x < i) (hy : 0 ≤ y ∧ y < i) : ClkOk i ⟨109, [x, y], 0, 0, 0, 0⟩
include hf in
theorem chClk_ok (i : Nat) : ClkOk i (chClk f i) := by
  cases i with
  | zero => exact .osc _ (by have := hf 0; omega) rfl
  | succ i =>
    have h1 : ∀ n : Nat, n % (i + 1) < i + 1 := fun n => Nat.mod_lt _ (by omega)
    have h2 := h1 (f (10 + 3 * i + 1))
    have h3 := h1 (f (10 + 3 * i + 2))
    generalize e1 : f (10 + 3 * i + 1) % (i + 1) = x at h2
    generalize e2 : f (10 + 3 * i + 2) % (i + 1) = y at h3
    rcases kindN_cases (f (10 + 3 * i) % 5) with e | e | e | e
    · simp only [chClk, e, e1, e2, if_true]
      exact .pll _ _ _ _ (by omega) (by omega) (by omega) (by omega)
    · simp only [chClk, e, e1, e2]
      exact .div _ _ (by omega) (by omega)
    · simp only [chClk, e, e1, e2]
      exact .gate _ (by omega)
    · simp only [chClk, e, e1, e2]
      exact .mux _ _ (by omega) (by omega)
theorem ClkOk.right {i n : Nat} {c : Clk} (h : ClkOk i c) (hi : i < n) : firstE (clkE n c) 3 = 0 := by
  have nn : ∀ x : Int, 0 ≤ x ∧ x < i → noNode n x = 0 := fun x hx => by rw [noNode, if_pos (by omega)]
  refine firstE_zero.mpr fun j hj => ?_
  match j, hj with
  | 0, _ => cases h <;> rfl
  | 1, _ =>
    refine firstE_zero.mpr fun k hk => ?_
    cases h with
    | osc => simp at hk
    | pll x m d l hx =>
      have : k = 0 := by simpa using hk
      subst this; exact nn x hx
    | div x d hx =>
      have : k = 0 := by simpa using hk
      subst this; exact nn x hx
    | gate x hx =>
      have : k = 0 := by simpa using hk
      subst this; exact nn x hx
    | mux x y hx hy =>
      match k, hk with
      | 0, _ => exact nn x hx
      | 1, _ => exact nn y hy
  | 2, _ =>
    cases h with
    | osc r h => simp [clkE, Clk.nums]; omega
    | pll x m d l hx hm hd hl => simp [clkE, Clk.nums]; omega
    | div x d hx hd => simp [clkE, Clk.nums]; omega
    | gate => rfl
    | mux => rfl
theorem ClkOk.lesser {i : Nat} {c : Clk} (h : ClkOk i c) : ∀ u ∈ c.src, 0 ≤ u ∧ u < (i : Int) := by
  intro u hu
  cases h with
  | osc => simp at hu
  | pll x m d l hx => simp at hu; omega
  | div x d hx => simp at hu; omega
  | gate x hx => simp at hu; omega
  | mux x y hx hy => simp at hu; omega
theorem ClkOk.few {i : Nat} {c : Clk} (h : ClkOk i c) : c.src.length ≤ 2 := by cases h <;> simp

structure DomOk (i : Nat) (d : Dom) : Prop where
  up : d.above = -1 ∨ (0 ≤ d.above ∧ d.above < i)
  delay : 0 ≤ d.delay ∧ d.delay ≤ 3
theorem chDom_ok (f : Nat → Nat) (i : Nat) : DomOk i (chDom f i) := by
  constructor
  · unfold chDom
    split
    · rename_i h
      have := Nat.mod_lt (f (44 + i) / 3) h.1
      generalize f (44 + i) / 3 % i = x at this
      right; simp only; omega
    · left; rfl
  · simp only [chDom]; omega
structure DevOk (s : Soc) (i : Nat) (d : Dev) : Prop where
  clock : 0 ≤ d.clock ∧ d.clock < s.clocks.length
  dom : 0 ≤ d.dom ∧ d.dom < s.doms.length
  rst : 0 ≤ d.rst ∧ d.rst < s.rsts.length
  regs : d.regs.length ≤ 4
  few : d.needs.length ≤ 2
  needs : ∀ u ∈ d.needs, 0 ≤ u ∧ u < (i : Int)
theorem chDev_ok (f : Nat → Nat) (i : Nat) : DevOk (chipD f) i (chDev f i) := by
  have h1 := Nat.mod_lt (f (60 + 12 * i)) (nClk_pos f)
  have h2 := Nat.mod_lt (f (60 + 12 * i + 1)) (nDom_pos f)
  have h3 := Nat.mod_lt (f (60 + 12 * i + 2)) (nRst_pos f)
  refine ⟨?_, ?_, ?_, ?_, ?_, ?_⟩
  · simp only [chDev, chipD, List.length_map, List.length_range]; omega
  · simp only [chDev, chipD, List.length_map, List.length_range]; omega
  · simp only [chDev, chipD, List.length_map, List.length_range]; omega
  · simp only [chDev, List.length_map, List.length_range]; omega
  · simp only [chDev, chNeeds, List.length_append]; split <;> split <;> simp
  · intro u hu
    simp only [chDev, chNeeds, List.mem_append] at hu
    rcases hu with hu | hu
    · split at hu
      · rename_i h
        have := Nat.mod_lt (f (60 + 12 * i + 10)) h.1
        simp only [List.mem_singleton] at hu
        generalize f (60 + 12 * i + 10) % i = x at this hu
        omega
      · cases hu
    · split at hu
      · rename_i h
        have := Nat.mod_lt (f (60 + 12 * i + 11) / 3) (show 0 < i by omega)
        simp only [List.mem_singleton] at hu
        generalize f (60 + 12 * i + 11) / 3 % i = x at this hu
        omega
      · cases hu

structure Soc.like (s : Soc) : Prop where
  nc : 0 < s.clocks.length ∧ s.clocks.length ≤ 9
  nd : 0 < s.doms.length ∧ s.doms.length ≤ 4
  nr : 0 < s.rsts.length ∧ s.rsts.length ≤ 3
  nv : 0 < s.devs.length ∧ s.devs.length ≤ 4
  clk : ∀ i (h : i < s.clocks.length), ClkOk i s.clocks[i]
  dom : ∀ i (h : i < s.doms.length), DomOk i s.doms[i]
  rst : ∀ i (h : i < s.rsts.length), 0 ≤ s.rsts[i] ∧ s.rsts[i] ≤ 3
  dev : ∀ i (h : i < s.devs.length), DevOk s i s.devs[i]
include hf in
theorem chipD_like : (chipD f).like := by
  refine ⟨?_, ?_, ?_, ?_, ?_, ?_, ?_, ?_⟩
  · simp only [chipD, List.length_map, List.length_range]; exact ⟨nClk_pos f, nClk_le f⟩
  · simp only [chipD, List.length_map, List.length_range]; exact ⟨nDom_pos f, nDom_le f⟩
  · simp only [chipD, List.length_map, List.length_range]; exact ⟨nRst_pos f, nRst_le f⟩
  · simp only [chipD, List.length_map, List.length_range]; exact ⟨nDev_pos f, nDev_le f⟩
  · intro i h
    simp only [chipD, List.getElem_map, List.getElem_range]
    exact chClk_ok hf i
  · intro i h
    simp only [chipD, List.getElem_map, List.getElem_range]
    exact chDom_ok f i
  · intro i h
    simp only [chipD, List.getElem_map, List.getElem_range, chRst]; omega
  · intro i h
    have := chDev_ok f i
    simpa only [chipD, List.getElem_map, List.getElem_range] using this
end
theorem chipS_like (l : List Int) : (chipS l).like := chipD_like (drawN_lt l)

theorem Soc.like.fine {s : Soc} (h : s.like) : s.fine := fun c hc => by
  obtain ⟨i, hi, rfl⟩ := List.getElem_of_mem hc
  have := (h.clk i hi).few
  omega
theorem Soc.like.clkG {s : Soc} (h : s.like) : grErr (s.clocks.map Clk.src) = 0 := by
  have h1 := h.nc
  refine grErr_lesser (by simp; omega) fun v hv => ?_
  rw [List.getElem_map]
  exact (h.clk v (by simpa using hv)).lesser
theorem DomOk.up_mem {i : Nat} {d : Dom} (h : DomOk i d) : ∀ u ∈ d.up, 0 ≤ u ∧ u < (i : Int) := by
  intro u hu
  unfold Dom.up at hu
  split at hu
  · cases hu
  · simp only [List.mem_singleton] at hu
    rcases h.up with e | e
    · omega
    · rw [hu]; exact e
theorem Soc.like.domG {s : Soc} (h : s.like) : grErr (s.doms.map Dom.up) = 0 := by
  have h1 := h.nd
  refine grErr_lesser (by simp; omega) fun v hv => ?_
  rw [List.getElem_map]
  exact (h.dom v (by simpa using hv)).up_mem
theorem Soc.like.devG {s : Soc} (h : s.like) : grErr (s.devs.map Dev.needs) = 0 := by
  have h1 := h.nv
  refine grErr_lesser (by simp; omega) fun v hv => ?_
  rw [List.getElem_map]
  exact (h.dev v (by simpa using hv)).needs
theorem DomOk.right {i n : Nat} {d : Dom} (h : DomOk i d) (hi : i < n) : firstE (domE n d) 2 = 0 := by
  refine firstE_zero.mpr fun j hj => ?_
  match j, hj with
  | 0, _ =>
    rw [domE, if_neg]
    have := h.up; omega
  | 1, _ =>
    have := h.delay
    rw [domE, if_pos (by omega)]
    simp
theorem DevOk.right {s : Soc} {i : Nat} {d : Dev} (h : DevOk s i d) (hi : i < s.devs.length) : firstE (devE s d) 4 = 0 := by
  refine firstE_zero.mpr fun j hj => ?_
  match j, hj with
  | 0, _ => rw [devE, noNode, if_pos h.clock]
  | 1, _ => rw [devE, noNode, if_pos h.dom]
  | 2, _ => rw [devE, noNode, if_pos h.rst]
  | 3, _ =>
    refine firstE_zero.mpr fun k hk => ?_
    have := h.needs d.needs[k] (List.getElem_mem hk)
    have e : d.needs.getD k 0 = d.needs[k] := by simp [hk]
    rw [e, noNode, if_pos (by omega)]
theorem Soc.like.full {s : Soc} (h : s.like) : s.fullE = 0 := by
  have h1 := h.nc; have h2 := h.nd; have h3 := h.nr; have h4 := h.nv
  refine fullE_zero.mpr ⟨by omega, fun d hd => ?_⟩
  obtain ⟨i, hi, rfl⟩ := List.getElem_of_mem hd
  have := (h.dev i hi).few
  have := (h.dev i hi).regs; omega
theorem Soc.like.clks {s : Soc} (h : s.like) : clksE s = 0 := firstE_zero.mpr fun i hi => by rw [ofAll_at hi]; exact (h.clk i hi).right hi
theorem Soc.like.domsz {s : Soc} (h : s.like) : domsE s = 0 := firstE_zero.mpr fun i hi => by rw [ofAll_at hi]; exact (h.dom i hi).right hi
theorem Soc.like.rstsz {s : Soc} (h : s.like) : rstsE s = 0 := firstE_zero.mpr fun i hi => by
  rw [ofAll_at hi, rstErr, if_pos]
  have := h.rst i hi; omega
theorem Soc.like.devsz {s : Soc} (h : s.like) : devsE s = 0 := firstE_zero.mpr fun i hi => by rw [ofAll_at hi]; exact (h.dev i hi).right hi
theorem Soc.like.right {s : Soc} (h : s.like) : confErr s = 0 := firstE_zero.mpr fun i hi => by
  match i, hi with
  | 0, _ => exact h.full
  | 1, _ => exact h.clks
  | 2, _ => exact cycE_zero h.clkG
  | 3, _ => exact h.domsz
  | 4, _ => exact cycE_zero h.domG
  | 5, _ => exact h.rstsz
  | 6, _ => exact h.devsz
  | 7, _ => exact cycE_zero h.devG

/- Power: a grid's domains, and what each of its functions does. -/
set_option maxRecDepth 100000

structure Gd where
  above : Int
  delay : Int
  ret : Bool
  phase : Int
  left : Int
  back : Bool
  keep : Bool
def Gd.cells (g : Gd) : List AV := [.int .i64 g.above, .int .i64 g.delay, .bool g.ret, .int .u8 g.phase, .int .i64 g.left, .bool g.back, .bool g.keep]
theorem Gd.cells_len (g : Gd) : g.cells.length = 7 := rfl
def gsC (gs : List Gd) : AObj := .cells (gs.flatMap Gd.cells)
structure GridAt (st : ASt) (p ig : Nat) (gs : List Gd) : Prop where
  hp : st.h p = some (.cells [.sl 7 ig 0 gs.length])
  hg : st.h ig = some (gsC gs)
  ne : p ≠ ig
  few : gs.length ≤ 1000
theorem GridAt.set {st : ASt} {p ig : Nat} {gs : List Gd} (h : GridAt st p ig gs) {gs' : List Gd} (hl : gs'.length = gs.length) : GridAt (st.set ig (gsC gs')) p ig gs' :=
  ⟨by rw [ASt.set_h, if_neg h.ne, hl]; exact h.hp, by rw [ASt.set_h, if_pos rfl, h.hg]; rfl, h.ne, by rw [hl]; exact h.few⟩
theorem GridAt.le {st t : ASt} {p ig : Nat} {gs : List Gd} (h : GridAt st p ig gs) (hl : st.le t) : GridAt t p ig gs := ⟨hl _ _ h.hp, hl _ _ h.hg, h.ne, h.few⟩
def isGd (gs : List Gd) (i : Int) : Prop := 0 ≤ i ∧ i < (gs.length : Int)
instance (gs : List Gd) (i : Int) : Decidable (isGd gs i) := inferInstanceAs (Decidable (_ ∧ _))
theorem isGd_at {gs : List Gd} {i : Nat} (h : i < gs.length) : isGd gs (i : Int) := ⟨by omega, by omega⟩
theorem gs_get {gs : List Gd} {i j : Nat} (hi : i < gs.length) (hj : j < 7) : (gs.flatMap Gd.cells)[i * 7 + j]? = gs[i].cells[j]? := rows_get Gd.cells (w := 7) (fun _ => rfl) hi hj
theorem gs_put {gs : List Gd} {i j : Nat} (hi : i < gs.length) (hj : j < 7) {v : AV} {g : Gd} (hx : gs[i].cells.set j v = g.cells) : (gs.flatMap Gd.cells).set (i * 7 + j) v = (gs.set i g).flatMap Gd.cells :=
  flatMap_set Gd.cells_len hi hj hx
theorem gs_fit {gs : List Gd} {i : Nat} (hi : i < gs.length) : i * 7 + 7 ≤ (gs.flatMap Gd.cells).length := flatMap_fits (f := Gd.cells) (k := 7) (fun _ => rfl) hi
theorem ASt.set_id {st : ASt} {id : Nat} {o : AObj} (h : st.h id = some o) : st.set id o = st := ASt.ext' fun i => by
  rw [ASt.set_h]; split
  · rename_i e; subst e; rw [h]; rfl
  · rfl
def Gd.isDown (g : Gd) : Bool := decide (g.phase = 48) || decide (g.phase = 116)
def gtick (g : Gd) : Gd :=
  if g.phase = 114 then (if 0 < g.left then { g with left := g.left - 1 } else { g with phase := 104 })
  else if g.phase = 104 then { g with phase := 49 }
  else if g.phase = 99 then (if g.keep = true then { g with phase := 116 } else { g with phase := 48 })
  else g
def gev (g : Gd) : Int :=
  if g.phase = 114 then (if 0 < g.left then 0 else if g.back = true then 114 else 110)
  else if g.phase = 104 then 111
  else if g.phase = 99 then (if g.keep = true then 115 else 108)
  else 0
section
variable {st : ASt} {p ig : Nat} {gs : List Gd}
theorem ddown_spec {i : Nat} (hi : i < gs.length) (hg : st.h ig = some (gsC gs)) : ACalls Tryz.prog F.q98 [.ptr ig (i * 7)] st fun r s => r = .bool gs[i].isDown ∧ s = st := by
  refine calls_of_awp L.q98 rfl ?_
  rw [gsC] at hg
  have g3 := gs_get hi (j := 3) (by omega)
  rw [show gs[i].cells[3]? = some (.int .u8 gs[i].phase) from rfl] at g3
  unfold Gd.isDown
  by_cases h : gs[i].phase = 48
  · simp only [↓Bt, Bu, simprocAttr, ↓C.q98_W, C.q98_B, C.q98, hg, g3, h]
    rfl
  · simp only [↓Bt, Bu, simprocAttr, ↓C.q98_W, C.q98_B, C.q98, hg, g3, h]
    rw [Bool.false_or]
theorem dtick_spec {i : Nat} (hi : i < gs.length) (hg : st.h ig = some (gsC gs)) (hl : gs[i].left ≤ 1000) : ACalls Tryz.prog F.q99 [.ptr ig (i * 7)] st fun r s => r = .int .u8 (gev gs[i]) ∧ s = st.set ig (gsC (gs.set i (gtick gs[i]))) := by
  refine calls_of_awp L.q99 rfl ?_
  have hgx := hg
  rw [gsC] at hg
  have g3 := gs_get hi (j := 3) (by omega)
  have g4 := gs_get hi (j := 4) (by omega)
  have g5 := gs_get hi (j := 5) (by omega)
  have g6 := gs_get hi (j := 6) (by omega)
  have hfit := gs_fit hi
  have f3 : i * 7 + 3 < (gs.flatMap Gd.cells).length := by omega
  have f4 : i * 7 + 4 < (gs.flatMap Gd.cells).length := by omega
  rw [show gs[i].cells[3]? = some (.int .u8 gs[i].phase) from rfl] at g3
  rw [show gs[i].cells[4]? = some (.int .i64 gs[i].left) from rfl] at g4
  rw [show gs[i].cells[5]? = some (.bool gs[i].back) from rfl] at g5
  rw [show gs[i].cells[6]? = some (.bool gs[i].keep) from rfl] at g6
  have p3 : ∀ v : Int, (gs.flatMap Gd.cells).set (i * 7 + 3) (.int .u8 v) = (gs.set i { gs[i] with phase := v }).flatMap Gd.cells := fun v => gs_put hi (by omega) rfl
  have p4 : ∀ v : Int, (gs.flatMap Gd.cells).set (i * 7 + 4) (.int .i64 v) = (gs.set i { gs[i] with left := v }).flatMap Gd.cells := fun v => gs_put hi (by omega) rfl
  have q5 : ∀ v : Int, ((gs.set i { gs[i] with phase := v }).flatMap Gd.cells)[i * 7 + 5]? = some (.bool gs[i].back) := fun v => by
    rw [gs_get (by simpa using hi) (by omega)]; simp [Gd.cells]
  unfold gev gtick
  by_cases h1 : gs[i].phase = 114
  · rw [if_pos h1, if_pos h1]
    rw [h1] at g3
    by_cases h2 : 0 < gs[i].left
    · have w : IntKind.i64.wrap (gs[i].left - 1) = gs[i].left - 1 := by rw [wrap64] <;> omega
      rw [if_pos h2, if_pos h2]
      have hT := eq_true h2
      simp only [↓Bt, Bu, simprocAttr, ↓C.q99_W, C.q99_B, C.q99, hg, g3, g4, hT, gt_iff_lt, w, f4, p4]
      rfl
    · rw [if_neg h2, if_neg h2]
      have hT := eq_false h2
      by_cases h3 : gs[i].back = true
      · rw [if_pos h3]
        rw [h3] at q5
        simp only [↓Bt, Bu, simprocAttr, ↓C.q99_W, C.q99_B, C.q99, hg, g3, g4, hT, gt_iff_lt, f3, p3, q5]
        rfl
      · have h3' : gs[i].back = false := by simpa using h3
        rw [if_neg h3]
        rw [h3'] at q5
        simp only [↓Bt, Bu, simprocAttr, ↓C.q99_W, C.q99_B, C.q99, hg, g3, g4, hT, gt_iff_lt, f3, p3, q5]
        rfl
  rw [if_neg h1, if_neg h1]
  have t1 := eq_false h1
  by_cases h2 : gs[i].phase = 104
  · rw [if_pos h2, if_pos h2]
    rw [h2] at g3
    simp only [↓Bt, Bu, simprocAttr, ↓C.q99_W, C.q99_B, C.q99, hg, g3, f3, p3]
    rfl
  rw [if_neg h2, if_neg h2]
  have t2 := eq_false h2
  by_cases h3 : gs[i].phase = 99
  · rw [if_pos h3, if_pos h3]
    rw [h3] at g3
    by_cases h4 : gs[i].keep = true
    · rw [if_pos h4, if_pos h4]
      rw [h4] at g6
      simp only [↓Bt, Bu, simprocAttr, ↓C.q99_W, C.q99_B, C.q99, hg, g3, g6, f3, p3]
      rfl
    · have h4' : gs[i].keep = false := by simpa using h4
      rw [if_neg h4, if_neg h4]
      rw [h4'] at g6
      simp only [↓Bt, Bu, simprocAttr, ↓C.q99_W, C.q99_B, C.q99, hg, g3, g6, f3, p3]
      rfl
  rw [if_neg h3, if_neg h3, List.set_getElem_self, ASt.set_id hgx]
  have t3 := eq_false h3
  simp only [↓Bt, Bu, simprocAttr, ↓C.q99_W, C.q99_B, C.q99, hg, g3, t1, t2, t3]
variable (h : GridAt st p ig gs)
include h
theorem at_spec (i : Int) : ACalls Tryz.prog F.q96 [.ptr p 0, .int .i64 i] st fun r s => r = (if isGd gs i then .ptr ig (i.toNat * 7) else .nilp) ∧ s = st := by
  refine calls_of_awp L.q96 rfl ?_
  have hp := h.hp
  by_cases h0 : i < 0
  · have hn : ¬ isGd gs i := fun e => by have := e.1; omega
    rw [if_neg hn]
    simp only [↓Bt, Bu, simprocAttr, ↓C.q96_W, C.q96_B, C.q96, h0]
  by_cases h1 : (gs.length : Int) ≤ i
  · have hn : ¬ isGd gs i := fun e => by have := e.2; omega
    rw [if_neg hn]
    simp only [↓Bt, Bu, simprocAttr, ↓C.q96_W, C.q96_B, C.q96, h0, hp, h1, ge_iff_le]
  obtain ⟨k, rfl⟩ : ∃ k : Nat, i = k := ⟨i.toNat, by omega⟩
  have hk : k < gs.length := by omega
  have hz : (0:Int) ≤ (k : Int) ∧ (k : Int) < (gs.length : Nat) := by omega
  rw [if_pos (isGd_at hk)]
  simp only [↓Bt, Bu, simprocAttr, ↓C.q96_W, C.q96_B, C.q96, h0, hp, h1, hz, Int.toNat_natCast, ge_iff_le]
theorem phase_spec (i : Int) : ACalls Tryz.prog F.q93 [.ptr p 0, .int .i64 i] st fun r s => r = .int .u8 (if h : isGd gs i then (gs[i.toNat]'(by have := h.1; have := h.2; omega)).phase else 0) ∧ s = st := by
  refine calls_of_awp L.q93 rfl ?_
  simp only [↓Bt, Bu, simprocAttr, ↓C.q93_W, C.q93_B, C.q93]
  refine (at_spec h i).mono ?_
  rintro r s ⟨rfl, rfl⟩
  by_cases hi : isGd gs i
  · obtain ⟨k, rfl⟩ : ∃ k : Nat, i = k := ⟨i.toNat, by have := hi.1; omega⟩
    have hk : k < gs.length := by have := hi.2; omega
    have hg := h.hg
    rw [gsC] at hg
    have g3 := gs_get hk (j := 3) (by omega)
    rw [show gs[k].cells[3]? = some (.int .u8 gs[k].phase) from rfl] at g3
    rw [if_pos hi, dif_pos hi]
    simp only [↓Bt, Bu, simprocAttr, ↓C.q93_W, C.q93_B, C.q93, Int.toNat_natCast, hg, g3]
  · rw [if_neg hi, dif_neg hi]
    simp only [↓Bt, Bu, simprocAttr, ↓C.q93_W, C.q93_B, C.q93]
end
def upE (gs : List Gd) (i : Nat) (hi : i < gs.length) : Int :=
  if gs[i].isDown = false ∨ (gs[i].above ≠ -1 ∧ (gs.getD gs[i].above.toNat gs[i]).phase ≠ 49) then 6 else 0
def upG (gs : List Gd) (i : Nat) (hi : i < gs.length) : List Gd :=
  if gs[i].isDown = false ∨ (gs[i].above ≠ -1 ∧ (gs.getD gs[i].above.toNat gs[i]).phase ≠ 49) then gs else gs.set i { gs[i] with back := decide (gs[i].phase = 116), phase := 114, left := gs[i].delay }
theorem up_spec {st : ASt} {p ig : Nat} {gs : List Gd} (h : GridAt st p ig gs) (hab : ∀ g ∈ gs, g.above = -1 ∨ (0 ≤ g.above ∧ g.above < (gs.length : Int))) {i : Nat} (hi : i < gs.length) :
    ACalls Tryz.prog F.q95 [.ptr p 0, .int .i64 i] st fun r s => r = .int .i64 (upE gs i hi) ∧ s = st.set ig (gsC (upG gs i hi)) := by
  refine calls_of_awp L.q95 rfl ?_
  simp only [↓Bt, Bu, simprocAttr, ↓C.q95_W, C.q95_B, C.q95]
  refine (at_spec h i).mono ?_
  rintro r s ⟨rfl, rfl⟩
  rw [if_pos (isGd_at hi), Int.toNat_natCast]
  have hg := h.hg
  have hp := h.hp
  have hne := h.ne
  simp only [↓Bt, Bu, simprocAttr, ↓C.q95_W, C.q95_B, C.q95]
  refine (ddown_spec hi hg).mono ?_
  rintro r s ⟨rfl, rfl⟩
  have hgx := hg
  rw [gsC] at hg
  have g0 := gs_get hi (j := 0) (by omega)
  rw [show gs[i].cells[0]? = some (.int .i64 gs[i].above) from rfl, Nat.add_zero] at g0
  have g1 := gs_get hi (j := 1) (by omega)
  rw [show gs[i].cells[1]? = some (.int .i64 gs[i].delay) from rfl] at g1
  have g3 := gs_get hi (j := 3) (by omega)
  rw [show gs[i].cells[3]? = some (.int .u8 gs[i].phase) from rfl] at g3
  have hfit := gs_fit hi
  have f5 : i * 7 + 5 < (gs.flatMap Gd.cells).length := by omega
  have fin : awp Tryz.prog C.nd (Post [.slot 4] fun r s' => r = .int .i64 0 ∧ s' = s.set ig (gsC (gs.set i { gs[i] with back := decide (gs[i].phase = 116), phase := 114, left := gs[i].delay }))) [(5, .ptr ig (i * 7))] s := by
    have p5 : (gs.flatMap Gd.cells).set (i * 7 + 5) (.bool (decide (gs[i].phase = 116))) = (gs.set i { gs[i] with back := decide (gs[i].phase = 116) }).flatMap Gd.cells := gs_put hi (by omega) rfl
    simp only [↓Bt, Bu, simprocAttr, ↓C.ms_w, C.ms_b, ↓C.nd_w, ↓C.z105, C.z33, C.q95, hg, g3, f5, p5]
    obtain ⟨g1', hg1⟩ : ∃ g1' : Gd, g1' = { gs[i] with back := decide (gs[i].phase = 116) } := ⟨_, rfl⟩
    rw [← hg1]
    have hi2 : i < (gs.set i g1').length := by simpa using hi
    have q1 := gs_get hi2 (j := 1) (by omega)
    rw [List.getElem_set_self, show g1'.cells[1]? = some (.int .i64 gs[i].delay) by rw [hg1]; rfl] at q1
    have p3 : ((gs.set i g1').flatMap Gd.cells).set (i * 7 + 3) (.int .u8 114) = (gs.set i { g1' with phase := 114 }).flatMap Gd.cells := by
      rw [gs_put hi2 (by omega) (g := { g1' with phase := 114 }) (by rw [List.getElem_set_self]; rfl), List.set_set]
    have hi3 : i < (gs.set i { g1' with phase := 114 }).length := by simpa using hi
    have p4 : ((gs.set i { g1' with phase := 114 }).flatMap Gd.cells).set (i * 7 + 4) (.int .i64 gs[i].delay) = (gs.set i { g1' with phase := 114, left := gs[i].delay }).flatMap Gd.cells := by
      rw [gs_put hi3 (by omega) (g := { g1' with phase := 114, left := gs[i].delay }) (by rw [List.getElem_set_self]; rfl), List.set_set]
    have l3 : i * 7 + 3 < ((gs.set i g1').flatMap Gd.cells).length := by have := gs_fit hi2; omega
    have l4 : i * 7 + 4 < ((gs.set i { g1' with phase := 114 }).flatMap Gd.cells).length := by have := gs_fit hi3; omega
    have hgs : (s.set ig (.cells ((gs.set i g1').flatMap Gd.cells))).h ig = some (.cells ((gs.set i g1').flatMap Gd.cells)) := by rw [ASt.set_h, if_pos rfl, hg]; rfl
    simp only [↓Bt, Bu, simprocAttr, ↓C.q95_W, C.q95_B, C.q95, hg, q1, l3, l4, p3, p4, ASt.set_set]
    rw [hg1]; rfl
  unfold upE upG
  cases hd : gs[i].isDown
  · rw [if_pos (.inl rfl), if_pos (.inl rfl)]
    simp only [↓Bt, Bu, simprocAttr, ↓C.q95_W, C.q95_B, C.q95]
    exact (ASt.set_id hgx).symm
  by_cases ha : gs[i].above = -1
  · have hT := eq_true ha
    rw [if_neg (by simp [ha]), if_neg (by simp [ha])]
    simp only [↓Bt, Bu, simprocAttr, ↓C.z105, C.z33, C.q95, hg, g0, hT]
    rw [C.nd_w, awp_keep]
    exact fin
  have hT := eq_false ha
  have hab2 := hab _ (List.getElem_mem hi)
  obtain ⟨a, haa⟩ : ∃ a : Nat, gs[i].above = a := ⟨gs[i].above.toNat, by omega⟩
  have hal : a < gs.length := by omega
  have hz : (0:Int) ≤ (a : Int) ∧ (a : Int) < (gs.length : Nat) := by omega
  have b3 := gs_get hal (j := 3) (by omega)
  rw [show gs[a].cells[3]? = some (.int .u8 gs[a].phase) from rfl] at b3
  rw [haa] at g0 hT ⊢
  have hD : gs.getD a gs[i] = gs[a] := by simp [hal]
  rw [Int.toNat_natCast, hD]
  have hT2 : ((a : Int) = -1) = False := eq_false (by omega)
  by_cases h1 : gs[a].phase = 49
  · rw [if_neg (by simp [h1]), if_neg (by simp [h1])]
    rw [h1] at b3
    simp only [↓Bt, Bu, simprocAttr, ↓C.z105, C.z33, C.q95, hg, hp, g0, hT2, hz, b3, Int.toNat_natCast]
    rw [C.nd_w, awp_keep]
    exact fin
  · have hT3 := eq_false h1
    rw [if_pos (.inr ⟨by omega, h1⟩), if_pos (.inr ⟨by omega, h1⟩)]
    simp only [↓Bt, Bu, simprocAttr, ↓C.q95_W, C.q95_B, C.q95, hg, hp, g0, hT2, hz, b3, hT3, Int.toNat_natCast]
    exact (ASt.set_id hgx).symm
/- Power: Down and Tick. -/
set_option maxRecDepth 100000

def someUp (gs : List Gd) (i : Nat) : Bool := gs.any fun g => decide (g.above = (i : Int)) && !g.isDown
def downE (gs : List Gd) (i : Nat) (hi : i < gs.length) (k : Bool) : Int :=
  if gs[i].phase ≠ 49 then 6 else if k = true ∧ gs[i].ret = false then 1 else if someUp gs i = true then 7 else 0
def downG (gs : List Gd) (i : Nat) (hi : i < gs.length) (k : Bool) : List Gd := if downE gs i hi k = 0 then gs.set i { gs[i] with phase := 99, keep := k } else gs
theorem someUp_some {gs : List Gd} {i j : Nat} (hj : j < gs.length) (h1 : gs[j].above = (i : Int)) (h2 : gs[j].isDown = false) : someUp gs i = true := by
  rw [someUp, List.any_eq_true]
  exact ⟨gs[j], List.getElem_mem hj, by simp [h1, h2]⟩
end Go.Proofs.YtdmfgodajoojpaaGreatDoor.Cn
