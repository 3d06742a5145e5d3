/- The abstract layer, part 16: operations that reckon, load or lay new memory; a block that is laid aside while others work. -/
import Derived.Test.YtjamidgdhmjhaaaCnDraw1
set_option linter.unusedSimpArgs false
set_option linter.unusedVariables false
namespace Go.Proofs.Ytjamidgdhmjhaaa.Cn
open Go Go.RowKit

def IOp.allocs : IOp → Bool
  | .alloc _ | .box1 _ | .boxN _ | .buildSlice .. | .makeSlice .. | .makeMap _ => true
  | _ => false

def IOp.calls : IOp → Bool
  | .call .. | .callv .. => true
  | _ => false

section
variable {P : Program} {fr fr' : AFr} {st : ASt}

def st0 : ASt := ⟨fun _ => none⟩

/-- What only reckons: its value hangs on the frame alone. -/
theorem still_iff {op : IOp} (h : op.still = true) (k : AV → ASt → Prop) (fr : AFr) (st : ASt) : aop P op fr st k ↔ ∃ v, aop P op fr st0 (fun u _ => u = v) ∧ k v st := by
  cases op <;> simp only [IOp.still] at h <;> try (cases h; done)
  all_goals simp only [aop]
  case move => simp
  case nilchk => split <;> simp
  case pick => split <;> simp
  case bin => split <;> simp
  case eqB => split <;> simp
  case eqP => split <;> simp
  case eqS =>
    split
    · split <;> simp
    · simp
  case un => split <;> simp
  case conv => split <;> simp
  case len => split <;> simp
  case minmax => split <;> simp [and_assoc]
  case idxAddr => split <;> simp [and_assoc]
  case arrAddr => split <;> simp [and_assoc]
  case fldAddr => split <;> simp
  case field1 =>
    split
    · split <;> simp
    · simp
  case fieldN => split <;> simp [and_assoc]
  case index1 =>
    split
    · split <;> simp [and_assoc]
    · simp
  case indexN => split <;> simp [and_assoc]
  case strIdx =>
    split
    · split <;> simp [and_assoc]
    · simp
  case build => split <;> simp
  case slice =>
    split
    · split
      · split
        · split
          · simp [and_assoc]
          · simp
        · simp
      · simp
    · simp
  case extract =>
    split
    · split <;> simp
    · simp
  case makeFunc => simp

theorem loads_iff {op : IOp} (h : op.loads = true) (k : AV → ASt → Prop) (fr : AFr) (st : ASt) : aop P op fr st k ↔ ∃ v, op.again st fr = some v ∧ k v st := by
  cases op <;> simp only [IOp.loads] at h <;> try (cases h; done)
  all_goals
    simp only [aop, IOp.again]
    split <;> simp_all

/-- What lays new memory: what it lays hangs on the frame alone. -/
theorem allocs_iff {op : IOp} (h : op.allocs = true) (fr : AFr) : ∃ (c : Prop) (o : AObj) (mk : Nat → AV), ∀ (k : AV → ASt → Prop) (st : ASt), aop P op fr st k ↔ c ∧ ∀ id, st.h id = none → k (mk id) (st.new id o) := by
  cases op <;> simp only [IOp.allocs] at h <;> try (cases h; done)
  case alloc zs => exact ⟨True, .cells zs, fun id => .ptr id 0, fun k st => by simp [aop]⟩
  case box1 x => exact ⟨(fr.val x).leaf = true, .cells [fr.val x], fun id => .ptr id 0, fun k st => by simp [aop]⟩
  case boxN x =>
    cases hx : fr.val x with
    | agg cs => exact ⟨True, .cells cs, fun id => .ptr id 0, fun k st => by simp [aop, hx]⟩
    | _ => exact ⟨False, .cells [], fun id => .any, fun k st => by simp [aop, hx]⟩
  case buildSlice sz n zs ps =>
    cases hx : aput (zeros zs n) (ps.map fun p => (p.1, p.2.1, fr.val p.2.2)) with
    | some cs => exact ⟨True, .cells cs, fun id => .sl sz id 0 n, fun k st => by simp [aop, hx]⟩
    | none => exact ⟨False, .cells [], fun id => .any, fun k st => by simp [aop, hx]⟩
  case makeSlice sz b zs l c =>
    by_cases hx : ∃ n m, fr.val l = .int .i64 n ∧ fr.val c = .int .i64 m
    · obtain ⟨n, m, h1, h2⟩ := hx
      exact ⟨0 ≤ n ∧ n = m ∧ n ≤ 4294967296, .cells (zeros zs n.toNat), fun id => .sl sz id 0 n.toNat, fun k st => by simp [aop, h1, h2]⟩
    · refine ⟨False, .cells [], fun id => .any, fun k st => ?_⟩
      simp only [aop]
      split
      · rename_i n m h1 h2; exact absurd ⟨n, m, h1, h2⟩ hx
      · simp
  case makeMap hint =>
    cases hint with
    | none => exact ⟨True, .map [], fun id => .map id, fun k st => by simp [aop]⟩
    | some x =>
      by_cases hx : ∃ kd n, fr.val x = .int kd n
      · obtain ⟨kd, n, h1⟩ := hx
        exact ⟨True, .map [], fun id => .map id, fun k st => by simp [aop, h1]⟩
      · refine ⟨False, .map [], fun id => .any, fun k st => ?_⟩
        simp only [aop]
        split
        · rename_i kd n h1; exact absurd ⟨kd, n, h1⟩ hx
        · simp

/-- A block of the abstract heap is laid aside while a call works: it is as it was behind the call. -/
theorem ACalls.frame {f : Nat} {args : List AV} {Q : AV → ASt → Prop} (h : ACalls P f args st Q) {id : Nat} (o : AObj) (hid : st.h id = none) :
    ACalls P f args (st.new id o) fun v st'' => ∃ st', st'.h id = none ∧ st'' = st'.new id o ∧ Q v st' := by
  intro B w0 R wr C w vs s h1 h2
  have ho : (st.new id o).h id = some o := ASt.new_self o hid
  have hlive : ∀ i, st.h i ≠ none → i ≠ id ∧ (st.new id o).h i ≠ none := by
    intro i hi
    have e : i ≠ id := by rintro rfl; exact hi hid
    exact ⟨e, by rw [ASt.new_ne _ e]; exact hi⟩
  have hN : id < C.N := s.lt ho
  have hb : (C.φ id).1 < w.heap.size := s.block_lt (by rw [ho]; simp)
  have s1 : ASim B w0 (fun b => R b ∨ b = (C.φ id).1) w C st w :=
    { live := fun i hi => s.live i (hlive i hi).2
      below := s.below
      hB := s.hB
      inj := fun i j hi hj e => s.inj i j (hlive i hi).2 (hlive j hj).2 e
      lo := fun i hi => s.lo i (hlive i hi).2
      obj := fun i x hx => s.obj i x (by rw [ASt.new_old hx])
      imm := fun b p v hv => by
        obtain ⟨a1, a2, a3⟩ := s.imm b p v hv
        refine ⟨a1, ?_, fun i hi => a3 i (hlive i hi).2⟩
        rintro (hr | rfl)
        · exact a2 hr
        · exact a3 id (by rw [ho]; simp) rfl
      res := fun b hb' => by
        rcases hb' with hr | rfl
        · obtain ⟨a1, a2, a3⟩ := s.res b hr
          exact ⟨a1, rfl, fun i hi => a3 i (hlive i hi).2⟩
        · exact ⟨hb, rfl, fun i hi e => (hlive i hi).1 (s.inj i id (hlive i hi).2 (by rw [ho]; simp) e)⟩ }
  refine (h B w0 _ w C w vs s1 h1 h2).mono ?_
  rintro e w' ⟨C', v, st', rv, hC, s', he, hv, hq⟩
  have hφ : C'.φ id = C.φ id := hC.φ id hN
  obtain ⟨r1, r2, r3⟩ := s'.res (C.φ id).1 (.inr rfl)
  have hid' : st'.h id = none := by
    cases hx : st'.h id with
    | none => rfl
    | some x => exact absurd (congrArg Prod.fst hφ) (r3 id (by rw [hx]; simp))
  refine ⟨C', v, st'.new id o, rv, hC, ?_, he, hv, st', hid', rfl, hq⟩
  have hold : ∀ {i}, (st'.new id o).h i ≠ none → i ≠ id → st'.h i ≠ none := fun hi e => by rwa [ASt.new_ne _ e] at hi
  exact
    { live := fun i hi => by
        by_cases e : i = id
        · subst e; exact Nat.lt_of_lt_of_le hN hC.n
        · exact s'.live i (hold hi e)
      below := s'.below
      hB := s'.hB
      inj := fun i j hi hj e => by
        by_cases ei : i = id
        · by_cases ej : j = id
          · rw [ei, ej]
          · rw [ei, hφ] at e; exact absurd e.symm (r3 j (hold hj ej))
        · by_cases ej : j = id
          · rw [ej, hφ] at e; exact absurd e (r3 i (hold hi ei))
          · exact s'.inj i j (hold hi ei) (hold hj ej) e
      lo := fun i hi => by
        by_cases e : i = id
        · rw [e, hφ]; exact s.lo id (by rw [ho]; simp)
        · exact s'.lo i (hold hi e)
      obj := fun i x hx => by
        by_cases e : i = id
        · subst e
          rw [ASt.new_self _ hid'] at hx; cases hx
          exact ((s.obj i _ ho).world (w' := w') r2).mono hC hN
        · rw [ASt.new_ne _ e] at hx; exact s'.obj i x hx
      imm := fun b p v hv => by
        obtain ⟨a1, a2, a3⟩ := s'.imm b p v hv
        refine ⟨a1, fun hr => a2 (.inl hr), fun i hi => ?_⟩
        by_cases e : i = id
        · rw [e, hφ]; exact fun e => a2 (.inr e.symm)
        · exact a3 i (hold hi e)
      res := fun b hb' => by
        obtain ⟨a1, a2, a3⟩ := s'.res b (.inl hb')
        obtain ⟨b1, b2, b3⟩ := s.res b hb'
        refine ⟨a1, a2.trans b2, fun i hi => ?_⟩
        by_cases e : i = id
        · rw [e, hφ]; exact b3 id (by rw [ho]; simp)
        · exact a3 i (hold hi e) }

theorem again_new {op : IOp} {v : AV} (h : op.again st fr = some v) (id : Nat) (o : AObj) : op.again (st.new id o) fr = some v := by
  have ld : ∀ (i : Nat) (x : AObj), st.h i = some x → (st.new id o).h i = some x := fun i x hx => ASt.new_old hx
  cases op <;> simp only [IOp.again] at h ⊢ <;> try (cases h; done)
  · rename_i x
    generalize fr.val x = a at h ⊢
    cases a <;> simp only [ASt.ld1] at h ⊢ <;> try (cases h; done)
    · rename_i i off
      cases hx : st.h i with
      | none => rw [hx] at h; cases h
      | some y => rw [ld _ _ hx]; rw [hx] at h; exact h
    · exact h
  · rename_i sz x
    generalize fr.val x = a at h ⊢
    cases a <;> simp only [ASt.ldN] at h ⊢ <;> try (cases h; done)
    · rename_i i off
      cases hx : st.h i with
      | none => rw [hx] at h; cases h
      | some y => rw [ld _ _ hx]; rw [hx] at h; exact h
    · exact h

theorem new_comm {i j : Nat} {x y : AObj} (hi : st.h i = none) (hj : (st.new i x).h j = none) : (st.new i x).new j y = (st.new j y).new i x ∧ st.h j = none ∧ (st.new j y).h i = none := by
  have hne : j ≠ i := by rintro rfl; rw [ASt.new_self _ hi] at hj; cases hj
  have hj' : st.h j = none := by rwa [ASt.new_ne _ hne] at hj
  refine ⟨ASt.ext' fun a => ?_, hj', by rw [ASt.new_ne _ (Ne.symm hne)]; exact hi⟩
  by_cases ea : a = i
  · subst ea
    rw [ASt.new_old (ASt.new_self _ hi), ASt.new_self _ (by rw [ASt.new_ne _ (Ne.symm hne)]; exact hi)]
  · by_cases eb : a = j
    · subst eb
      rw [ASt.new_self _ hj, ASt.new_old (ASt.new_self _ hj')]
    · rw [ASt.new_ne _ eb, ASt.new_ne _ ea, ASt.new_ne _ ea, ASt.new_ne _ eb]

end
end Go.Proofs.Ytjamidgdhmjhaaa.Cn
