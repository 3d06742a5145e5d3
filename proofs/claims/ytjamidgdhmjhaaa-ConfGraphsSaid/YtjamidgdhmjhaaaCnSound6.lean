/- The abstract layer, part 11: append, slices of slices, maps, comparisons. -/
import Derived.Test.YtjamidgdhmjhaaaCnSound5
set_option linter.unusedSimpArgs false
set_option linter.unusedVariables false
namespace Go.Proofs.Ytjamidgdhmjhaaa.Cn
open Go Go.RowKit

section
variable {P : Program} {B : Nat} {w0 : World} {R : Nat → Prop} {wr : World} {C : ACx} {st : ASt} {w : World} {k : AV → ASt → Prop} {fr : AFr} {a : Act} {n : Nat} {o : Oper} {io : IOp}

theorem ASt.kill_live {st : ASt} {id i : Nat} (h : (st.kill id).h i ≠ none) : i ≠ id ∧ st.h i ≠ none := by
  rw [ASt.kill_h] at h; split at h <;> simp_all

/-- An owned block is let go. -/
theorem ASim.kill (s : ASim B w0 R wr C st w) (id : Nat) : ASim B w0 R wr C (st.kill id) w where
  live := fun i hi => s.live i (ASt.kill_live hi).2
  below := s.below
  hB := s.hB
  inj := fun i j hi hj e => s.inj i j (ASt.kill_live hi).2 (ASt.kill_live hj).2 e
  lo := fun i hi => s.lo i (ASt.kill_live hi).2
  obj := by
    intro i x hx
    rw [ASt.kill_h] at hx
    split at hx
    · cases hx
    · exact s.obj i x hx
  imm := by
    intro b p v hv
    obtain ⟨h1, h0, h2⟩ := s.imm b p v hv
    exact ⟨h1, h0, fun i hi => h2 i (ASt.kill_live hi).2⟩
  res := by
    intro b hb
    obtain ⟨h1, h2, h3⟩ := s.res b hb
    exact ⟨h1, h2, fun i hi => h3 i (ASt.kill_live hi).2⟩

/-- An owned block goes on under a new number, from a later cell on. -/
theorem ASim.rename (s : ASim B w0 R wr C st w) {id : Nat} {cs : List AV} (h : st.h id = some (.cells cs)) {off : Nat} {cs' : List AV} (ho : off ≤ C.bs id) (hcs : (off ≤ cs.length ∧ cs' = cs.drop off) ∨ cs' = []) :
    ASim B w0 R wr (C.push ((C.φ id).1, (C.φ id).2 + off) (C.bs id - off)) ((st.kill id).new C.N (.cells cs')) w := by
  have hid : st.h id ≠ none := by rw [h]; simp
  have hfr : (st.kill id).h C.N = none := by rw [ASt.kill_h]; split; rfl; exact s.fresh
  have old : ∀ {i}, ((st.kill id).new C.N (.cells cs')).h i ≠ none → i ≠ C.N → i ≠ id ∧ st.h i ≠ none := fun hi e => ASt.kill_live (by rwa [ASt.new_ne _ e] at hi)
  exact
  { live := by
      intro i hi
      rw [C.push_N]
      by_cases e : i = C.N
      · omega
      · have := s.live i (old hi e).2; omega
    below := s.below
    hB := s.hB
    inj := by
      intro i j hi hj e
      by_cases ei : i = C.N
      · by_cases ej : j = C.N
        · rw [ei, ej]
        · rw [ei, C.push_φ, C.push_φ_ne _ _ ej] at e
          exact absurd (s.inj j id (old hj ej).2 hid e.symm) (old hj ej).1
      · by_cases ej : j = C.N
        · rw [ej, C.push_φ, C.push_φ_ne _ _ ei] at e
          exact absurd (s.inj i id (old hi ei).2 hid e) (old hi ei).1
        · rw [C.push_φ_ne _ _ ei, C.push_φ_ne _ _ ej] at e
          exact s.inj i j (old hi ei).2 (old hj ej).2 e
    lo := by
      intro i hi
      by_cases ei : i = C.N
      · rw [ei, C.push_φ]; exact s.lo id hid
      · rw [C.push_φ_ne _ _ ei]; exact s.lo i (old hi ei).2
    obj := by
      intro i x hx
      by_cases ei : i = C.N
      · subst ei
        rw [ASt.new_self _ hfr] at hx; cases hx
        obtain ⟨hl, c, t, hw, hs, hv⟩ := s.obj id _ h
        refine ⟨?_, c, t, by rw [C.push_φ]; exact hw, by rw [C.push_φ, C.push_bs]; simp only; omega, fun j hj => ?_⟩
        · rw [C.push_bs]; rcases hcs with ⟨h1, rfl⟩ | rfl
          · simp; omega
          · simp
        · rw [C.push_φ]
          rcases hcs with ⟨h1, rfl⟩ | rfl
          · have := (hv (off + j) (by simp at hj; omega)).mono (C.push_le ((C.φ id).1, (C.φ id).2 + off) (C.bs id - off))
            simpa [Nat.add_assoc] using this
          · simp at hj
      · rw [ASt.new_ne _ ei, ASt.kill_h] at hx
        split at hx
        · cases hx
        · exact ObjSim.mono (C.push_le _ _) (s.lt hx) (s.obj i x hx)
    imm := by
      intro b p v hv
      obtain ⟨h1, h0, h2⟩ := s.imm b p v hv
      refine ⟨h1, h0, fun i hi => ?_⟩
      by_cases ei : i = C.N
      · rw [ei, C.push_φ]; exact h2 id hid
      · rw [C.push_φ_ne _ _ ei]; exact h2 i (old hi ei).2
    res := by
      intro b hb
      obtain ⟨h1, h2, h3⟩ := s.res b hb
      refine ⟨h1, h2, fun i hi => ?_⟩
      by_cases ei : i = C.N
      · rw [ei, C.push_φ]; exact h3 id hid
      · rw [C.push_φ_ne _ _ ei]; exact h3 i (old hi ei).2 }

/-- Cells are written behind those that are known, inside the block: the abstract block grows. -/
theorem ASim.extend : ∀ (vs : List AV) (rs : List Value) (i off : Nat) (cs : List AV) (st : ASt) (w : World) (id : Nat), ASim B w0 R wr C st w → st.h id = some (.cells cs) →
    off + i = cs.length → cs.length + vs.length ≤ C.bs id → rs.length = vs.length → (∀ r ∈ rs, r.oneCell' = true) → (∀ j (h : j < vs.length), VS C vs[j] (rs.getD j undef)) →
    ∃ w', (storeCells ⟨(C.φ id).1, (C.φ id).2 + off, none⟩ rs i).run P w = .ok () w' ∧ ASim B w0 R wr C (st.set id (.cells (cs ++ vs))) w'
  | [], rs, i, off, cs, st, w, id, s, h, _, _, hr, _, _ => by
    have : rs = [] := by simpa using hr
    subst this
    exact ⟨w, rfl, by simpa [ASt.set_self _ _ _ h] using s⟩
  | v :: vs, rs, i, off, cs, st, w, id, s, h, he, hl, hr, hlf, hv => by
    match rs, hr with
    | r :: rs, hr =>
      simp at hl hr hlf
      have h0 := hv 0 (by simp)
      simp at h0
      obtain ⟨hbs, c, t, hw, hs, hcv⟩ := s.obj id _ h
      have hlt : (C.φ id).2 + cs.length < c.size := by omega
      have hcell : w.cell? ⟨(C.φ id).1, (C.φ id).2 + cs.length, none⟩ = some (c.getD ((C.φ id).2 + cs.length) undef) := by simp [World.cell?, hw, hlt]
      have hfz : w.frozen? ⟨(C.φ id).1, (C.φ id).2 + cs.length, none⟩ = false := by simp [World.frozen?, hw]
      have r1 : (store ⟨(C.φ id).1, (C.φ id).2 + cs.length, none⟩ r).run P w = .ok () (w.setCell ⟨(C.φ id).1, (C.φ id).2 + cs.length, none⟩ r) := by
        rw [run_store P w _ r _ hlf.1, hcell]; simp [hfz]
      have s1 : ASim B w0 R wr C (st.set id (.cells (cs ++ [v]))) (w.setCell ⟨(C.φ id).1, (C.φ id).2 + cs.length, none⟩ r) := by
        refine s.wrote h _ _ rfl rfl rfl (by simp) (fun k hk => Below.heap_setCell _ _ _ _ hk) ⟨by simp; omega, c.setIfInBounds ((C.φ id).2 + cs.length) r, t, ?_, by simpa using hs, fun j hj => ?_⟩
        · simp only [World.setCell, Array.getElem?_modify, hw, ↓reduceIte, Option.map_some]
          simp
        · rw [getD_set _ _ _ _ hlt]
          by_cases e : j = cs.length
          · subst e; simpa using h0
          · have h1 : ¬ (C.φ id).2 + cs.length = (C.φ id).2 + j := by omega
            have h2 : j < cs.length := by simp at hj; omega
            rw [if_neg h1, List.getElem_append_left h2]
            exact hcv j h2
      obtain ⟨w2, r2, s2⟩ := ASim.extend vs rs (i + 1) off (cs ++ [v]) _ _ id s1 (by rw [ASt.set_h, if_pos rfl, h]; rfl) (by simp; omega) (by simp; omega) hr hlf.2
        (fun j hj => hv (j + 1) (by simpa using hj))
      refine ⟨w2, ?_, ?_⟩
      · simp only [storeCells, Sem.run_bind, addr_add, Nat.add_assoc, he, r1, Result.andThen_ok]
        exact r2
      · rw [ASt.set_set] at s2
        simpa using s2

/-- What a slice shows, read. -/
theorem seen_sound (s : ASim B w0 R wr C st w) {x : AV} {rx : Value} {m sz : Nat} {cs : List AV} (h : st.seen (m * sz) x = some cs) (hm : x.slen = some m) (hx : VS C x rx) :
    ∃ p c rs, rx = .slice p m c ∧ (Builtin.firstCells sz m rx).run P w = .ok rs w ∧ RowSim C cs rs := by
  cases hx <;> simp only [AV.slen] at hm <;> try (cases hm; done)
  · cases hm
    simp [ASt.seen] at h
    subst h
    exact ⟨_, _, #[], rfl, rfl, rfl, fun i hi => absurd hi (by simp)⟩
  · rename_i p
    cases hm
    simp [ASt.seen] at h
    subst h
    refine ⟨_, _, #[], rfl, ?_, rfl, fun i hi => absurd hi (by simp)⟩
    cases p with
    | none => rfl
    | some p => simp [Builtin.firstCells, loadCells, loadCellsFrom]
  · rename_i szz id off len' off' cap hid hc ho hb
    cases hm
    simp only [ASt.seen] at h
    split at h
    · rename_i cs0 hh
      split at h
      · rename_i hl
        cases h
        obtain ⟨f, hf⟩ := cellsAt s hh
        rcases ho with h0 | rfl
        · subst h0
          refine ⟨_, _, #[], rfl, ?_, by simp, fun i hi => absurd hi (by simp)⟩
          simp [Builtin.firstCells, loadCells, loadCellsFrom]
        · obtain ⟨rs, h1, h2, h3⟩ := loadCells_sound (P := P) hf hl
          exact ⟨_, _, rs, rfl, h1, by rw [h2, take_drop_len _ _ _ hl], h3⟩
      · cases h
    · cases h
  · rename_i szz cs0 len' b p cap pp hs hn vs hK hv hc
    cases hm
    simp only [ASt.seen] at h
    split at h
    · rename_i hl
      cases h
      by_cases h0 : m = 0
      · subst h0
        refine ⟨_, _, #[], rfl, ?_, by simp, fun i hi => absurd hi (by simp)⟩
        cases pp with
        | none => rfl
        | some pp => simp [Builtin.firstCells, loadCells, loadCellsFrom]
      · have hsp := hs h0
        subst hsp
        obtain ⟨rs, h1, h2, h3⟩ := loadCells_sound (P := P) (off := 0) (sz := m * sz) (f := vs) (o := p) (fun i hi => ⟨(s.imm _ _ _ (hK h0 i hi)).1, hv h0 i hi⟩) (by omega)
        refine ⟨_, _, rs, rfl, h1, ?_, ?_⟩
        · rw [h2]; simp; omega
        · simpa using h3
    · cases h
  · cases hm
    simp [ASt.seen] at h
    subst h
    exact ⟨_, _, #[], rfl, by simp [Builtin.firstCells, loadCells, loadCellsFrom], rfl, fun i hi => absurd hi (by simp)⟩

def AV.isEmp : AV → Bool
  | .nils | .emp | .nn => true
  | _ => false

theorem isEmp_seen {st : ASt} {x : AV} {m : Nat} {cs : List AV} (h : st.seen m x = some cs) (h0 : x.isEmp = true) : cs = [] := by
  cases x <;> simp only [AV.isEmp] at h0 <;> try (cases h0; done)
  all_goals (simp [ASt.seen] at h; exact h)

theorem isEmp_slen {x : AV} {m : Nat} (h : x.slen = some m) (h0 : x.isEmp = true) : m = 0 := by
  cases x <;> simp only [AV.isEmp] at h0 <;> try (cases h0; done)
  all_goals (simp [AV.slen] at h; exact h.symm)

theorem seen_len {st : ASt} {x : AV} {m : Nat} {cs : List AV} (h : st.seen m x = some cs) (h0 : x.isEmp = false) : cs.length = m := by
  cases x <;> simp only [ASt.seen] at h <;> try (cases h; done)
  · cases h0
  · cases h0
  · split at h
    · split at h
      · cases h; exact take_drop_len _ _ _ ‹_›
      · cases h
    · cases h
  · split at h
    · cases h; simp; omega
    · cases h
  · cases h0

theorem slen_le {x : AV} {rx : Value} (h : VS C x rx) {m : Nat} (hm : x.slen = some m) {p : Option Addr} {c m' : Nat} (e : rx = .slice p m' c) : m ≤ c := by
  cases h <;> simp [AV.slen] at hm <;> subst hm <;> cases e <;> first | omega | assumption

theorem allLeaf_spec {cs : List AV} {rs : Array Value} (h : allLeaf cs = true) (hr : RowSim C cs rs) : ∀ r ∈ rs.toList, r.oneCell' = true := by
  intro r hrm
  obtain ⟨i, hi, rfl⟩ := List.getElem_of_mem hrm
  have hi' : i < cs.length := by rw [← hr.1]; simpa using hi
  have hl : (cs[i]).leaf = true := by simp [allLeaf] at h; exact h _ (List.getElem_mem hi')
  have hi2 : i < rs.size := by simpa using hi
  have := (hr.2 i hi').leaf hl
  simpa [Array.getD_eq_getD_getElem?, hi2] using this

theorem compCall_append {c : Call} (hcal : c.callee = .builtin .append) (hc : compCall P c = some io) :
    ∃ x y t u e e' i zs ix iy, c.args.toList = [x, y] ∧ c.argTypes.toList = [t, u] ∧ P.underlying t = some (.slice e) ∧ P.underlying u = some (.slice e') ∧ P.info? e = some i ∧ zc P e = some zs ∧ cArg x = some ix ∧ cArg y = some iy ∧
      0 < i.bytes ∧ i.bytes ≤ 4096 ∧ 0 < i.size ∧ zs.length = i.size ∧ io = .append i.size i.bytes ix iy := by
  unfold compCall at hc
  simp only [hcal] at hc
  split at hc
  · rename_i x y t u h1 h2
    split at hc
    · rename_i e e' h3 h4
      split at hc
      · rename_i i zs ix iy h5 h6 h7 h8
        split at hc
        · rename_i h9
          cases hc
          exact ⟨x, y, t, u, e, e', i, zs, ix, iy, h1, h2, h3, h4, h5, h6, h7, h8, h9.1, h9.2.1, h9.2.2.1, h9.2.2.2, rfl⟩
        · cases hc
      · cases hc
    · cases hc
  · cases hc

theorem growBy_le (newLen : Nat) : ∀ (r c : Nat), c ≤ newLen → Builtin.growBy newLen r c ≤ newLen + (newLen + 768) / 4
  | 0, c, h => by simp only [Builtin.growBy]; omega
  | r + 1, c, h => by
    simp only [Builtin.growBy]
    split
    · omega
    · by_cases h' : c + (c + 768) / 4 ≤ newLen
      · exact growBy_le newLen r _ h'
      · have : Builtin.growBy newLen r (c + (c + 768) / 4) = c + (c + 768) / 4 := by
          cases r with
          | zero => rfl
          | succ r => simp only [Builtin.growBy]; rw [if_pos (by omega)]
        rw [this]; omega

theorem nextcap_le {need cap : Nat} (h : cap < need) : Builtin.nextslicecap need cap ≤ 2 * need + 1000 := by
  unfold Builtin.nextslicecap
  split
  · omega
  · split
    · omega
    · have := growBy_le need 4 cap (by omega); omega

theorem VS.sl_inv {sz id off len : Nat} {rv : Value} (h : VS C (.sl sz id off len) rv) : ∃ off' cap, rv = .slice (some ⟨(C.φ id).1, (C.φ id).2 + off', none⟩) len cap ∧
    id < C.N ∧ len ≤ cap ∧ (len = 0 ∨ off' = off) ∧ off' + cap * sz ≤ C.bs id := by
  cases h with
  | sl _ _ _ _ off' cap h hc ho hb => exact ⟨off', cap, rfl, h, hc, ho, hb⟩

/-- Append: either there was room, or a new block was made; in both cases the abstract heap has a block of what is there now. -/
theorem good_append (s : ASim B w0 R wr C st w) (f : FSim C n fr a) {c : Call} (ho : o.op = .call c) (hcal : c.callee = .builtin .append) (hc : compCall P c = some io) (h : aop P io fr st k) :
    Good P B w0 R wr C k ((execOp a.eval o).run P w) := by
  obtain ⟨x, y, t, u, e, e', i, zs, ix, iy, h1, h2, hu, hu', hi, hzs, hx0, hy0, hb1, hb2, hsz, hzl0, rfl⟩ := compCall_append hcal hc
  obtain ⟨i', z, hi', hz, hl, hv⟩ := zc_spec hzs C
  have e0 : i' = i := by rw [hi'] at hi; exact Option.some.inj hi
  subst e0
  have hx := arg_vs f hx0
  have hy := arg_vs f hy0
  simp only [aop] at h
  split at h
  · rename_i m nn hm hn
    split at h
    · rename_i new hnew
      obtain ⟨⟨hbound, hleaf⟩, h⟩ := h
      obtain ⟨py, cy, rs, ey, ry, hrow⟩ := seen_sound (P := P) s hnew hm hy
      obtain ⟨px, cx, ex⟩ := slen_vs hx hn
      have hargs : c.args.map a.eval = #[.slice px nn cx, .slice py m cy] := by
        apply Array.ext'
        simp [h1, ex, ey]
      have hts : c.argTypes = #[t, u] := Array.ext' h2
      have hzero : ((match (TypeDesc.slice e' : TypeDesc) with | .int _ => true | _ => false) : Bool) = false := rfl
      rw [ey] at ry
      have hone := allLeaf_spec hleaf hrow
      -- the run up to the test for room
      have hrun : (execOp a.eval o).run P w = ((Builtin.append_ #[t, u] o.type #[.slice px nn cx, .slice py m cy]).run P w).andThen fun v w' => .ok (.value v) w' := by
        unfold execOp; rw [ho]
        simp only [resolve, hcal, Sem.run_bind, Sem.run_pure, Result.andThen_ok, invoke, hargs, builtin, hts]
      by_cases hroom : nn + m ≤ cx
      · have happ : (Builtin.append_ #[t, u] o.type #[.slice px nn cx, .slice py m cy]).run P w =
            (match px with
              | some b => (storeCells (b.add (nn * i'.size)) rs.toList).run P w
              | none => .ok () w).andThen fun _ w' => .ok (.slice px (nn + m) cx) w' := by
          simp only [Builtin.append_, Sem.run_bind, run_und hu, run_und hu', Result.andThen_ok, run_size hi', Sem.run_pure, Bool.false_eq_true, if_false, Bool.not_false, if_true, Builtin.lenOf, hroom, List.getElem?_toArray, List.getElem?_cons_zero, List.getElem?_cons_succ]
          rw [ry]
          cases px <;> simp
        by_cases hm0 : m = 0
        · rw [if_pos hm0] at h
          subst hm0
          have hrs : rs = #[] := by
            have h0 : new.length = 0 := by
              cases hn0 : (fr.val iy).isEmp with
              | true => rw [isEmp_seen hnew hn0]; rfl
              | false => rw [seen_len hnew hn0]; omega
            exact Array.eq_empty_of_size_eq_zero (by rw [hrow.1, h0])
          rw [hrun, happ, hrs]
          have : (match px with
              | some b => (storeCells (b.add (nn * i'.size)) (#[] : Array Value).toList).run P w
              | none => .ok () w : Result Unit) = .ok () w := by cases px <;> rfl
          rw [this]
          simp only [Result.andThen_ok, Nat.add_zero]
          rw [← ex]
          exact Good.val s hx h
        · rw [if_neg hm0] at h
          generalize hxa : fr.val ix = xa at h hx hn
          rw [ex] at hx
          cases xa <;> simp only [] at h <;> try (exact h.elim)
          · cases hx; omega
          · cases hx; omega
          · rename_i szz id off len
            obtain ⟨off', cap, hv0, hid, hcc, ho', hb⟩ := hx.sl_inv
            cases hv0
            split at h
            · rename_i cs hh
              obtain ⟨⟨rfl, hend⟩, h⟩ := h
              simp only [AV.slen] at hn
              cases hn
              have hlm : (cs.drop off).length = nn * i'.size := by simp; omega
              obtain ⟨cs', hcs', hl', hsame⟩ : ∃ cs', ((off' ≤ cs.length ∧ cs' = cs.drop off') ∨ cs' = []) ∧ cs'.length = nn * i'.size ∧ cs' = cs.drop off := by
                rcases ho' with h0 | rfl
                · subst h0
                  refine ⟨[], .inr rfl, by simp, ?_⟩
                  rw [Nat.zero_mul] at hlm
                  exact (List.length_eq_zero_iff.1 hlm).symm
                · exact ⟨_, .inl ⟨by omega, rfl⟩, hlm, rfl⟩
              have hbs : off' + (nn * i'.size + m * i'.size) ≤ C.bs id := by
                rw [← Nat.add_mul]
                exact Nat.le_trans (Nat.add_le_add_left (Nat.mul_le_mul_right _ hroom) _) hb
              have s1 := s.rename hh (off := off') (cs' := cs') (by omega) hcs'
              have hnl : new.length = m * i'.size := by
                cases hn0 : (fr.val iy).isEmp with
                | true => exact absurd (isEmp_slen hm hn0) hm0
                | false => exact seen_len hnew hn0
              obtain ⟨w2, r2, s2⟩ := ASim.extend (P := P) new rs.toList 0 (nn * i'.size) cs' _ w C.N s1 (ASt.new_self _ (by rw [ASt.kill_h]; split; rfl; exact s.fresh)) (by omega)
                (by rw [C.push_bs]; omega) (by simpa using hrow.1) hone (fun j hj => by
                  have := (hrow.2 j hj).mono (C.push_le ((C.φ id).1, (C.φ id).2 + off') (C.bs id - off'))
                  simpa [List.getD_eq_getElem?_getD, Array.getD_eq_getD_getElem?] using this)
              rw [C.push_φ] at r2
              rw [hrun, happ]
              simp only [addr_add, r2, Result.andThen_ok]
              have hfr : (st.kill id).h C.N = none := by rw [ASt.kill_h]; split; rfl; exact s.fresh
              have hst : ((st.kill id).new C.N (.cells cs')).set C.N (.cells (cs' ++ new)) = (st.kill id).new C.N (.cells (cs.drop off ++ new)) := by
                rw [← hsame]
                refine ASt.ext' (fun i => ?_)
                rw [ASt.set_h]
                by_cases e : i = C.N
                · rw [if_pos e, e, ASt.new_self _ hfr, ASt.new_self _ hfr]; rfl
                · rw [if_neg e, ASt.new_ne _ e, ASt.new_ne _ e]
              rw [hst] at s2
              refine ⟨_, _, _, C.push_le _ _, s2, ?_, h _ s.fresh⟩
              have := VS.sl (C := C.push ((C.φ id).1, (C.φ id).2 + off') (C.bs id - off')) i'.size C.N 0 (nn + m) 0 cx (by rw [C.push_N]; omega) hroom (.inr rfl) (by rw [C.push_bs]; omega)
              rw [C.push_φ] at this
              exact this
            · exact h.elim
      · -- a new array
        have hle := slen_le hx hn ex
        have hm0 : m ≠ 0 := by omega
        rw [if_neg hm0] at h
        have hnl : new.length = m * i'.size := by
          cases hn0 : (fr.val iy).isEmp with
          | true => exact absurd (isEmp_slen hm hn0) hm0
          | false => exact seen_len hnew hn0
        have sd : ASim B w0 R wr C st { w with drawn := w.drawn + 1 } := s.draw _
        have key : ∀ (old : List AV) (st1 : ASt), ASim B w0 R wr C st1 { w with drawn := w.drawn + 1 } → old.length = nn * i'.size →
            (∃ ro, (Builtin.firstCells i'.size nn (.slice px nn cx)).run P { w with drawn := w.drawn + 1 } = .ok ro { w with drawn := w.drawn + 1 } ∧ RowSim C old ro) →
            (∀ id', st.h id' = none → k (.sl i'.size id' 0 (nn + m)) (st1.new id' (.cells (old ++ new)))) → Good P B w0 R wr C k ((execOp a.eval o).run P w) := by
          intro old st1 s1 hol hro h
          obtain ⟨ro, ro1, ro2⟩ := hro
          obtain ⟨_, _, rs', ey', ry', hrow'⟩ := seen_sound (P := P) sd hnew hm hy
          rw [ey] at ey'; cases ey'; rw [ey] at ry'
          have hcap := nextcap_le (show cx < nn + m by omega)
          have hfit : ¬ (Builtin.nextslicecap (nn + m) cx * i'.bytes > 2 ^ 48) := by
            have : Builtin.nextslicecap (nn + m) cx * i'.bytes ≤ (2 * 4294967296 + 1000) * 4096 := Nat.mul_le_mul (by omega) hb2
            omega
          have hpos : ¬ (((nn + m : Nat) : Int) > IntKind.i64.max ∧ (i'.bytes = 0)) := by omega
          obtain ⟨cap', hcap'⟩ : ∃ c', (choose (.appendCap (nn + m) cx e)).run P w = .ok (nn + m + c') { w with drawn := w.drawn + 1 } := by
            simp [Question.forced, Question.cut]
          have hb0 : i'.bytes ≠ 0 := by omega
          have happ : (Builtin.append_ #[t, u] o.type #[.slice px nn cx, .slice py m cy]).run P w =
              .ok (.slice (some ⟨w.heap.size, 0, none⟩) (nn + m) (nn + m + cap')) { w with drawn := w.drawn + 1, heap := w.heap.push (.cells (ro ++ rs' ++ Builtin.zeroCells z.cells (nn + m + cap' - (nn + m))) e) } := by
            simp only [Builtin.append_, Sem.run_bind, run_und hu, run_und hu', Result.andThen_ok, run_size hi', Sem.run_pure, Bool.false_eq_true, if_false, Bool.not_false, if_true, Builtin.lenOf, hroom, List.getElem?_toArray, List.getElem?_cons_zero, List.getElem?_cons_succ,
              run_info hi', false_or, hpos, hb0, and_false, hfit, hcap', run_askRoom, ro1, ry', run_zero hi' hz, newRow, run_newObj]
          rw [hrun, happ]
          simp only [Result.andThen_ok]
          have hall : RowSim C (old ++ new) (ro ++ rs') := by
            refine ⟨by simp [ro2.1, hrow'.1], fun j hj => ?_⟩
            by_cases hj' : j < old.length
            · rw [List.getElem_append_left hj']
              have := ro2.2 j hj'
              have h2 : j < ro.size := by rw [ro2.1]; exact hj'
              simpa [Array.getD_eq_getD_getElem?, Array.getElem?_append_left h2] using this
            · have h2 : ro.size ≤ j := by rw [ro2.1]; omega
              rw [List.getElem_append_right (by omega)]
              have := hrow'.2 (j - old.length) (by simp at hj; omega)
              simpa [Array.getD_eq_getD_getElem?, Array.getElem?_append_right h2, ro2.1] using this
          have hlen : (old ++ new).length = (nn + m) * i'.size := by simp [hol, hnl, Nat.add_mul]
          have hzl : (Builtin.zeroCells z.cells (nn + m + cap' - (nn + m))).size = cap' * i'.size := by
            have : z.cells.size = i'.size := by rw [hl, hzl0]
            simp [Builtin.zeroCells, this]
          have s3 := alloc_cells s1 e (old ++ new) (ro ++ rs' ++ Builtin.zeroCells z.cells (nn + m + cap' - (nn + m))) (by simp [ro2.1, hrow'.1]) (fun j hj => by
            have := hall.2 j hj
            have h2 : j < (ro ++ rs').size := by rw [hall.1]; exact hj
            rw [Array.getD_eq_getD_getElem?, Array.getElem?_append_left h2, ← Array.getD_eq_getD_getElem?]
            exact this)
          refine ⟨_, _, _, C.push_le _ _, s3, ?_, h _ s.fresh⟩
          have hsize : (ro ++ rs' ++ Builtin.zeroCells z.cells (nn + m + cap' - (nn + m))).size = (nn + m + cap') * i'.size := by
            rw [Array.size_append, hall.1, hlen, hzl, ← Nat.add_mul]
          have := VS.sl (C := C.push (w.heap.size, 0) (ro ++ rs' ++ Builtin.zeroCells z.cells (nn + m + cap' - (nn + m))).size) i'.size C.N 0 (nn + m) 0 (nn + m + cap') (by rw [C.push_N]; omega) (by omega) (.inr rfl)
            (by rw [C.push_bs, hsize]; omega)
          rw [C.push_φ] at this
          exact this
        generalize hxa : fr.val ix = xa at h hx hn
        rw [ex] at hx
        cases xa <;> simp only [] at h <;> try (exact h.elim)
        · simp only [AV.slen] at hn; cases hn
          cases hx
          refine key [] st sd (by simp) ⟨#[], rfl, rfl, fun i hi => absurd hi (by simp)⟩ ?_
          simpa using h
        · simp only [AV.slen] at hn; cases hn
          refine key [] st sd (by simp) ⟨#[], ?_, rfl, fun i hi => absurd hi (by simp)⟩ ?_
          · cases px with
            | none => rfl
            | some p => simp [Builtin.firstCells, loadCells, loadCellsFrom]
          · simpa using h
        · rename_i szz id off len
          obtain ⟨off', cap, hv0, hid, hcc, ho', hb⟩ := hx.sl_inv
          cases hv0
          split at h
          · rename_i cs hh
            obtain ⟨⟨rfl, hend⟩, h⟩ := h
            simp only [AV.slen] at hn
            cases hn
            have hlm : (cs.drop off).length = nn * i'.size := by simp; omega
            have hseen : st.seen (nn * i'.size) (.sl i'.size id off nn) = some (cs.drop off) := by
              simp only [ASt.seen, hh]
              rw [if_pos (by omega), ← hlm, List.take_length]
            obtain ⟨_, _, ro, e1, e2, e3⟩ := seen_sound (P := P) sd hseen rfl (VS.sl i'.size id off nn off' cx hid hcc ho' hb)
            cases e1
            exact key (cs.drop off) (st.kill id) (sd.kill id) hlm ⟨ro, e2, e3⟩ h
          · exact h.elim
    · exact h.elim
  · exact h.elim

end
end Go.Proofs.Ytjamidgdhmjhaaa.Cn
