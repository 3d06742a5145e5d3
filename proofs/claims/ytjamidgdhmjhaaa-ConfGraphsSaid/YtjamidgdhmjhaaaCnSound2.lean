/- The abstract layer, part 7: loads and stores are sound. -/
import Derived.Test.YtjamidgdhmjhaaaCnSound1
import Derived.Laws.Cells
namespace Go.Proofs.Ytjamidgdhmjhaaa.Cn
open Go Go.RowKit

section
variable {P : Program} {B : Nat} {w0 : World} {R : Nat → Prop} {wr : World} {C : ACx} {st : ASt} {w : World} {k : AV → ASt → Prop} {fr : AFr} {a : Act} {n : Nat}

theorem addr_add (b o i : Nat) : (⟨b, o, none⟩ : Addr).add i = ⟨b, o + i, none⟩ := by unfold Addr.add; split <;> simp_all

theorem ld1_sound (s : ASim B w0 R wr C st w) {x v : AV} {rx : Value} (h : st.ld1 x = some v) (hx : VS C x rx) :
    ∃ b o rv, rx = .pointer (some ⟨b, o, none⟩) ∧ w.cell? ⟨b, o, none⟩ = some rv ∧ VS C v rv := by
  cases hx <;> simp only [ASt.ld1] at h <;> try (cases h; done)
  · rename_i id off hid
    split at h
    · rename_i cs hh
      have ho : off < cs.length := by
        rcases Nat.lt_or_ge off cs.length with h' | h'
        · exact h'
        · rw [List.getElem?_eq_none h'] at h; cases h
      obtain ⟨rv, h1, h2, _⟩ := s.cell hh ho
      rw [List.getElem?_eq_getElem ho] at h; cases h
      exact ⟨_, _, rv, rfl, h1, h2⟩
    · cases h
  · rename_i cs off b o vs hK hv
    have ho : off < cs.length := by
      rcases Nat.lt_or_ge off cs.length with h' | h'
      · exact h'
      · rw [List.getElem?_eq_none h'] at h; cases h
    rw [List.getElem?_eq_getElem ho] at h; cases h
    exact ⟨_, _, vs off, rfl, (s.imm _ _ _ (hK off ho)).1, hv off ho⟩

/-- The cells from an address on, as many as are known. -/
theorem cellsAt (s : ASim B w0 R wr C st w) {id : Nat} {cs : List AV} (h : st.h id = some (.cells cs)) :
    ∃ f : Nat → Value, ∀ i (hi : i < cs.length), w.cell? ⟨(C.φ id).1, (C.φ id).2 + i, none⟩ = some (f i) ∧ VS C cs[i] (f i) := by
  obtain ⟨hl, c, t, hw, hs, hv⟩ := s.obj id _ h
  refine ⟨fun i => c.getD ((C.φ id).2 + i) undef, fun i hi => ⟨?_, hv i hi⟩⟩
  have hlt : (C.φ id).2 + i < c.size := by omega
  simp [World.cell?, hw, hlt]

/-- Reading a row of cells of which some are known. -/
theorem loadCells_sound {b o off sz : Nat} {cs : List AV} {f : Nat → Value} (hf : ∀ i (hi : i < cs.length), w.cell? ⟨b, o + i, none⟩ = some (f i) ∧ VS C cs[i] (f i))
    (hl : off + sz ≤ cs.length) :
    ∃ rs : Array Value, (loadCells ⟨b, o + off, none⟩ sz).run P w = .ok rs w ∧ rs.size = sz ∧
      ∀ i (h : i < ((cs.drop off).take sz).length), VS C ((cs.drop off).take sz)[i] (rs.getD i undef) := by
  refine ⟨((List.range sz).map fun j => f (off + j)).toArray, run_loadCells w _ _ (fun j => f (off + j)) fun j hj => ?_, by simp, fun i hi => ?_⟩
  · rw [addr_add, Nat.add_assoc]
    exact (hf (off + j) (by omega)).1
  · have hi' : i < sz := by simp at hi; omega
    have := (hf (off + i) (by omega)).2
    simpa [Array.getD_eq_getD_getElem?, hi'] using this

theorem take_drop_len (cs : List AV) (off sz : Nat) (h : off + sz ≤ cs.length) : ((cs.drop off).take sz).length = sz := by simp; omega

theorem ldN_sound (s : ASim B w0 R wr C st w) {x v : AV} {rx : Value} {sz : Nat} (h : st.ldN sz x = some v) (hx : VS C x rx) :
    ∃ b o rs, rx = .pointer (some ⟨b, o, none⟩) ∧ (loadCells ⟨b, o, none⟩ sz).run P w = .ok rs w ∧ VS C v (.agg rs) := by
  cases hx <;> simp only [ASt.ldN] at h <;> try (cases h; done)
  · rename_i id off hid
    split at h
    · rename_i cs hh
      split at h
      · rename_i hl
        cases h
        obtain ⟨f, hf⟩ := cellsAt s hh
        obtain ⟨rs, h1, h2, h3⟩ := loadCells_sound (P := P) hf hl
        exact ⟨_, _, rs, rfl, h1, .agg _ _ (by rw [h2, take_drop_len _ _ _ hl]) h3⟩
      · cases h
    · cases h
  · rename_i cs off b o vs hK hv
    split at h
    · rename_i hl
      cases h
      obtain ⟨rs, h1, h2, h3⟩ := loadCells_sound (P := P) (f := vs) (fun i hi => ⟨(s.imm _ _ _ (hK i hi)).1, hv i hi⟩) hl
      exact ⟨_, _, rs, rfl, h1, .agg _ _ (by rw [h2, take_drop_len _ _ _ hl]) h3⟩
    · cases h

theorem ASt.set_set (st : ASt) (id : Nat) (x y : AObj) : (st.set id x).set id y = st.set id y := by
  refine ASt.ext' (fun i => ?_)
  simp only [ASt.set_h]
  split
  · simp only [Option.map_map]; rfl
  · rfl

theorem ASt.set_self (st : ASt) (id : Nat) (x : AObj) (h : st.h id = some x) : st.set id x = st := by
  refine ASt.ext' (fun i => ?_)
  simp only [ASt.set_h]
  split
  · rename_i e; subst e; simp [h]
  · rfl

/-- A store of one cell. -/
theorem store_sound (s : ASim B w0 R wr C st w) {id : Nat} {cs : List AV} (h : st.h id = some (.cells cs)) {off : Nat} (ho : off < cs.length) {v : AV} {rv : Value}
    (hv : VS C v rv) (hl : v.leaf = true) :
    ∃ w', (store ⟨(C.φ id).1, (C.φ id).2 + off, none⟩ rv).run P w = .ok () w' ∧ ASim B w0 R wr C (st.set id (.cells (cs.set off v))) w' := by
  obtain ⟨u, h1, _, h3⟩ := s.cell h ho
  refine ⟨w.setCell ⟨(C.φ id).1, (C.φ id).2 + off, none⟩ rv, ?_, ?_⟩
  · rw [run_store P w _ rv _ (hv.leaf hl), h1]; simp [h3]
  · obtain ⟨hl, c, t, hw, hs, hcv⟩ := s.obj id _ h
    refine s.wrote h _ _ rfl rfl rfl (by simp) (fun k hk => Below.heap_setCell _ _ _ _ hk) ⟨by simpa using hl, c.setIfInBounds ((C.φ id).2 + off) rv, t, ?_, by simpa using hs, fun i hi => ?_⟩
    · simp only [World.setCell, Array.getElem?_modify, hw, ↓reduceIte, Option.map_some]
      simp
    · rw [getD_set _ _ _ _ (by omega)]
      by_cases e : off = i
      · subst e; simpa using hv
      · have : ¬ (C.φ id).2 + off = (C.φ id).2 + i := by omega
        rw [if_neg this]
        simpa [List.getElem_set_ne e] using hcv i (by simpa using hi)

theorem putN_length (cs : List AV) (off : Nat) (vs : List AV) : (putN cs off vs).length = cs.length := by
  induction vs generalizing cs off with
  | nil => rfl
  | cons v vs ih => simp [putN, ih]

/-- A store of a row of cells. -/
theorem storeCells_sound : ∀ (vs : List AV) (rs : List Value) (i off : Nat) (cs : List AV) (st : ASt) (w : World) (id : Nat), ASim B w0 R wr C st w → st.h id = some (.cells cs) →
    off + i + vs.length ≤ cs.length → rs.length = vs.length → allLeaf vs = true → (∀ j (h : j < vs.length), VS C vs[j] (rs.getD j undef)) →
    ∃ w', (storeCells ⟨(C.φ id).1, (C.φ id).2 + off, none⟩ rs i).run P w = .ok () w' ∧ ASim B w0 R wr C (st.set id (.cells (putN cs (off + i) vs))) w'
  | [], rs, i, off, cs, st, w, id, s, h, _, hr, _, _ => by
    have : rs = [] := by simpa using hr
    subst this
    exact ⟨w, rfl, by simpa [putN, ASt.set_self _ _ _ h] using s⟩
  | v :: vs, rs, i, off, cs, st, w, id, s, h, hl, hr, hlf, hv => by
    match rs, hr with
    | r :: rs, hr =>
      simp [allLeaf] at hlf
      simp at hl hr
      have h0 := hv 0 (by simp)
      simp at h0
      obtain ⟨w1, r1, s1⟩ := store_sound (P := P) s h (off := off + i) (by omega) h0 hlf.1
      obtain ⟨w2, r2, s2⟩ := storeCells_sound vs rs (i + 1) off (cs.set (off + i) v) _ w1 id s1 (by rw [ASt.set_h, if_pos rfl, h]; rfl) (by simp; omega) hr
        (by simpa [allLeaf] using hlf.2) (fun j hj => hv (j + 1) (by simpa using hj))
      refine ⟨w2, ?_, ?_⟩
      · simp only [storeCells, Sem.run_bind, addr_add, Nat.add_assoc, r1, Result.andThen_ok]
        exact r2
      · rw [ASt.set_set] at s2
        exact s2

end
end Go.Proofs.Ytjamidgdhmjhaaa.Cn
