/- The abstract layer, part 12: slices of slices, maps. -/
import Derived.Test.YtjamidgdhmjhaaaCnSound6
set_option linter.unusedSimpArgs false
set_option linter.unusedVariables false
namespace Go.Proofs.Ytjamidgdhmjhaaa.Cn
open Go Go.RowKit

section
variable {P : Program} {B : Nat} {w0 : World} {R : Nat → Prop} {wr : World} {C : ACx} {st : ASt} {w : World} {k : AV → ASt → Prop} {fr : AFr} {a : Act} {n : Nat} {o : Oper} {io : IOp}

theorem bound_spec (f : FSim C n fr a) {x : Option Operand} {ix : Option IArg} (h : cOpt x = some ix) {d b : Nat} (hb : bound fr d ix = some b) :
    (x = none ∧ ix = none ∧ b = d) ∨ ∃ x' ix' kd m, x = some x' ∧ ix = some ix' ∧ a.eval x' = .int kd m ∧ 0 ≤ m ∧ m.toNat = b := by
  cases x with
  | none => cases h; simp [bound] at hb; exact .inl ⟨rfl, rfl, hb.symm⟩
  | some x' =>
    simp only [cOpt] at h
    obtain ⟨ix', h1, rfl⟩ := map_some h
    have hx := arg_vs f h1
    simp only [bound] at hb
    split at hb
    · rename_i kd m hm
      rw [hm] at hx
      split at hb
      · rename_i h0; cases hb; exact .inr ⟨x', ix', kd, m, rfl, rfl, hx.int_inv, h0, rfl⟩
      · cases hb
    · cases hb

theorem run_sliceBound {kd : IntKind} {m : Int} {y : Nat} {code : BoundsCode} (h0 : 0 ≤ m) (h1 : m ≤ y) : (Instr.sliceBound (.int kd m) y code).run P w = .ok m.toNat w := by
  simp [Instr.sliceBound, asInt_run, h0, h1]

/-- The bounds of a slice expression, reckoned. -/
theorem run_bounds (f : FSim C n fr a) {lo hi mx : Option Operand} {il ih im : Option IArg} (h1 : cOpt lo = some il) (h2 : cOpt hi = some ih) (h3 : cOpt mx = some im)
    {len cap l h m : Nat} (b1 : bound fr 0 il = some l) (b2 : bound fr len ih = some h) (b3 : bound fr h im = some m) (c1 : l ≤ h) (c2 : h ≤ m) (c3 : m ≤ len) (c4 : ih.isNone = true → im.isNone = true) (c5 : len ≤ cap) :
    ∃ mr, (Instr.sliceBounds true len cap (lo.map a.eval) (hi.map a.eval) (mx.map a.eval)).run P w = .ok (l, h, mr) w ∧ h ≤ mr ∧ mr ≤ cap ∧ (im.isSome = true → mr = m) := by
  rcases bound_spec f h3 b3 with ⟨rfl, rfl, rfl⟩ | ⟨x3, i3, k3, m3, rfl, rfl, e3, p3, rfl⟩
  · -- no third bound
    rcases bound_spec f h2 b2 with ⟨rfl, rfl, rfl⟩ | ⟨x2, i2, k2, m2, rfl, rfl, e2, p2, rfl⟩
    · rcases bound_spec f h1 b1 with ⟨rfl, rfl, rfl⟩ | ⟨x1, i1, k1, m1, rfl, rfl, e1, p1, rfl⟩
      · exact ⟨cap, by simp [Instr.sliceBounds], by omega, Nat.le_refl _, fun e => by simp at e⟩
      · refine ⟨cap, ?_, by omega, Nat.le_refl _, fun e => by simp at e⟩
        simp only [Instr.sliceBounds, Option.map_some, Option.map_none, Sem.run_bind, Sem.run_pure, Result.andThen_ok, e1]
        rw [run_sliceBound p1 (by omega)]; rfl
    · have hr2 : (Instr.sliceBound (.int k2 m2) cap .sliceAcap).run P w = .ok m2.toNat w := run_sliceBound p2 (by omega)
      rcases bound_spec f h1 b1 with ⟨rfl, rfl, rfl⟩ | ⟨x1, i1, k1, m1, rfl, rfl, e1, p1, rfl⟩
      · refine ⟨cap, ?_, by omega, Nat.le_refl _, fun e => by simp at e⟩
        simp only [Instr.sliceBounds, Option.map_some, Option.map_none, Sem.run_bind, Sem.run_pure, Result.andThen_ok, e2, if_true, hr2]
      · refine ⟨cap, ?_, by omega, Nat.le_refl _, fun e => by simp at e⟩
        simp only [Instr.sliceBounds, Option.map_some, Option.map_none, Sem.run_bind, Sem.run_pure, Result.andThen_ok, e1, e2, if_true, hr2]
        rw [run_sliceBound p1 (by omega)]; rfl
  · have hr3 : (Instr.sliceBound (.int k3 m3) cap .slice3Acap).run P w = .ok m3.toNat w := run_sliceBound p3 (by omega)
    rcases bound_spec f h2 b2 with ⟨rfl, rfl, rfl⟩ | ⟨x2, i2, k2, m2, rfl, rfl, e2, p2, rfl⟩
    · simp at c4
    · have hr2 : (Instr.sliceBound (.int k2 m2) m3.toNat .slice3B).run P w = .ok m2.toNat w := run_sliceBound p2 (by omega)
      rcases bound_spec f h1 b1 with ⟨rfl, rfl, rfl⟩ | ⟨x1, i1, k1, m1, rfl, rfl, e1, p1, rfl⟩
      · refine ⟨m3.toNat, ?_, by omega, by omega, fun _ => rfl⟩
        simp only [Instr.sliceBounds, Option.map_some, Option.map_none, Sem.run_bind, Sem.run_pure, Result.andThen_ok, e2, e3, if_true, hr3, hr2]
      · refine ⟨m3.toNat, ?_, by omega, by omega, fun _ => rfl⟩
        simp only [Instr.sliceBounds, Option.map_some, Option.map_none, Sem.run_bind, Sem.run_pure, Result.andThen_ok, e1, e2, e3, if_true, hr3, hr2, Option.isSome_some]
        rw [run_sliceBound p1 (by omega)]; rfl

theorem good_slice (s : ASim B w0 R wr C st w) (f : FSim C n fr a) {t : TypeId} {x : Operand} {lo hi mx : Option Operand} (ho : o.op = .slice t x lo hi mx) (hc : compOp P (.slice t x lo hi mx) = some io) (h : aop P io fr st k) :
    Good P B w0 R wr C k ((execOp a.eval o).run P w) := by
  simp only [compOp] at hc
  split at hc
  · rename_i e hu
    split at hc
    · rename_i i ix il ih im hi0 hx0 hl0 hh0 hm0
      cases hc
      have hx := arg_vs f hx0
      simp only [aop] at h
      split at h
      · rename_i l hl
        split at h
        · rename_i len hlen
          split at h
          · rename_i hh hhb
            split at h
            · rename_i m hmb
              obtain ⟨⟨c1, c2, c3, c4⟩, hszq, h⟩ := h
              obtain ⟨p0, cap0, e0⟩ := slen_vs hx hlen
              have hcap := slen_le hx hlen e0
              obtain ⟨mr, hrun, g1, g2, g3⟩ := run_bounds (P := P) (w := w) f hl0 hh0 hm0 hl hhb hmb c1 c2 c3 c4 hcap
              have hlm : l ≤ mr := by omega
              have er : (Instr.sliceAt t (a.eval x) (lo.map a.eval) (hi.map a.eval) (mx.map a.eval)).run P w =
                  .ok (.slice (if mr = l then p0 else p0.map (·.add (l * i.size))) (hh - l) (mr - l)) w := by
                simp only [Instr.sliceAt, Sem.run_bind, run_und hu, Result.andThen_ok, Instr.slice, e0, hrun, run_size hi0, Sem.run_pure]
              unfold execOp; rw [ho]; rw [run_v er]
              refine Good.val s ?_ h
              by_cases hemp : im.isSome = true ∧ l = m
              · rw [if_pos hemp]
                have e1 : mr = m := g3 hemp.1
                have e2 : hh - l = 0 := by omega
                have e3 : mr - l = 0 := by omega
                rw [e2, e3]
                exact .emp _
              rw [if_neg hemp]
              rw [e0] at hx
              generalize fr.val ix = xa at hx hlen hszq
              cases xa <;> simp only [] at hszq <;> try (exact hszq.elim)
              · cases hx
                have e1 : mr = 0 := by omega
                have e2 : l = 0 := by omega
                subst e1; subst e2
                simp only [Nat.sub_zero, if_true]
                have e3 : hh = 0 := by omega
                rw [e3]; exact .nils
              · cases hx
                have e1 : mr = 0 := by omega
                have e2 : l = 0 := by omega
                subst e1; subst e2
                simp only [Nat.sub_zero, if_true]
                have e3 : hh = 0 := by omega
                rw [e3]; exact .emp _
              · rename_i szz id off len'
                subst hszq
                obtain ⟨off', cap, hv0, hid, hcc, ho', hb⟩ := hx.sl_inv
                cases hv0
                simp only [aslice, Option.map_some, addr_add, Nat.add_assoc]
                by_cases hml : mr = l
                · subst hml
                  rw [if_pos rfl]
                  have : hh - mr = 0 := by omega
                  rw [this, Nat.sub_self]
                  exact .sl _ _ _ _ _ _ hid (Nat.le_refl _) (.inl rfl) (by
                    have := Nat.le_trans (Nat.le_add_right off' (cap0 * i.size)) hb; simpa using this)
                · rw [if_neg hml]
                  refine .sl _ _ _ _ _ _ hid (by omega) ?_ ?_
                  · rcases ho' with h0 | rfl
                    · left; omega
                    · right; rfl
                  · rw [Nat.add_assoc, ← Nat.add_mul]
                    exact Nat.le_trans (Nat.add_le_add_left (Nat.mul_le_mul_right _ (by omega)) _) hb
              · rename_i szz cs len'
                subst hszq
                cases hx with
                | isl _ _ _ b p cap pp hs hn vs hK hv hcc =>
                simp only [aslice]
                by_cases hz : hh - l = 0
                · rw [hz]
                  exact .isl _ _ _ b p _ _ (fun h0 => absurd rfl h0) (fun h0 => by have h1 : p0 = none := (by split at h0 <;> simpa using h0); have := hn h1; omega) vs (fun h0 => absurd rfl h0) (fun h0 => absurd rfl h0) (Nat.zero_le _)
                · have hl0 : len ≠ 0 := by omega
                  have hsp := hs hl0
                  subst hsp
                  have hml : ¬ mr = l := by omega
                  simp only [Option.map_some, addr_add, Nat.add_assoc]
                  rw [if_neg hml]
                  refine .isl _ _ _ _ _ _ _ (fun _ => rfl) (fun h0 => by cases h0) (fun j => vs (l * i.size + j)) (fun h0 j hj => ?_) (fun h0 j hj => ?_) (by omega)
                  · have := hK hl0 (l * i.size + j) (by simp at hj; omega)
                    rwa [Nat.add_assoc]
                  · have := hv hl0 (l * i.size + j) (by simp at hj; omega)
                    simpa using this
            · exact h.elim
          · exact h.elim
        · exact h.elim
      · exact h.elim
    · cases hc
  · cases hc

theorem good_makeMap (s : ASim B w0 R wr C st w) (f : FSim C n fr a) {t : TypeId} {r : Option Operand} (ho : o.op = .makeMap t r) (hc : compOp P (.makeMap t r) = some io) (h : aop P io fr st k) :
    Good P B w0 R wr C k ((execOp a.eval o).run P w) := by
  simp only [compOp] at hc
  split at hc
  · rename_i kt et hint hu hr
    cases hc
    have hg : (∀ id, st.h id = none → k (.map id) (st.new id (.map []))) → Good P B w0 R wr C k (.ok (.value (.map (some w.heap.size))) { w with heap := w.heap.push (.map #[] 0) }) := by
      intro h
      refine ⟨_, _, _, C.push_le (w.heap.size, 0) 0, s.alloc (.map #[] 0) (.map []) 0 ⟨#[], by rw [C.push_φ]; exact heap_push_eq _ _, rfl, fun i hi => absurd hi (by simp)⟩, ?_, h _ s.fresh⟩
      have := VS.map (C := C.push (w.heap.size, 0) 0) C.N (by rw [C.push_N]; omega)
      rw [C.push_φ] at this
      exact this
    simp only [aop] at h
    cases r with
    | none =>
      cases hr
      have e : (Instr.makeMap t none).run P w = .ok (.map (some w.heap.size)) { w with heap := w.heap.push (.map #[] 0) } := by simp [Instr.makeMap]
      unfold execOp; rw [ho]
      simp only [Option.map_none]
      rw [run_v e]
      exact hg h
    | some x =>
      simp only [cOpt] at hr
      obtain ⟨ix, h1, rfl⟩ := map_some hr
      have hx := arg_vs f h1
      simp only [] at h
      split at h
      · rename_i kd m hm
        rw [hm] at hx
        have e : (Instr.makeMap t (some (a.eval x))).run P w = .ok (.map (some w.heap.size)) { w with heap := w.heap.push (.map #[] 0) } := by
          simp [Instr.makeMap, run_und hu, hx.int_inv, asInt, asInt_run]
        unfold execOp; rw [ho]
        simp only [Option.map_some]
        rw [run_v e]
        exact hg h
      · exact h.elim
  · cases hc

/-- Looking for a key among integers. -/
theorem findNow_spec {kk : IntKind} {m : Int} : ∀ (rs : List MapEntry) (es : List (Int × AV)) (j : Nat), rs.length = es.length → (∀ i (h : i < es.length), (rs.getD i default).key = .int .i64 es[i].1) →
    Instr.findNow (.int kk) (.int .i64 m) rs j = some ((es.findIdx? fun e => e.1 == m).map fun i => (j + i, (rs.getD i default).val))
  | [], es, j, hl, _ => by
    have : es = [] := by simpa using hl.symm
    subst this; rfl
  | r :: rs, es, j, hl, hk => by
    match es, hl with
    | e :: es, hl =>
      have h0 := hk 0 (by simp)
      simp at h0
      have ih := findNow_spec (kk := kk) (m := m) rs es (j + 1) (by simpa using hl) (fun i hi => by have := hk (i + 1) (by simpa using hi); simpa using this)
      simp only [Instr.findNow, h0, Instr.sameNow, if_true]
      by_cases hem : e.1 = m
      · have h1 : (m == e.1) = true := by simp [hem]
        have h2 : (e.1 == m) = true := by simp [hem]
        simp [h1, h2, List.findIdx?_cons]
      · have h1 : (m == e.1) = false := by simp; exact fun h => hem h.symm
        have h2 : (e.1 == m) = false := by simp [hem]
        simp only [h1, ih, List.findIdx?_cons, h2, Bool.false_eq_true, if_false, Option.map_map]
        congr 2
        funext i
        simp [Nat.add_assoc, Nat.add_comm 1 i]

theorem run_findKey {kt : TypeId} {kk : IntKind} (hk : P.underlying kt = some (.int kk)) {m : Int} {rs : Array MapEntry} {es : List (Int × AV)} (hl : rs.size = es.length)
    (hkey : ∀ i (h : i < es.length), (rs.getD i default).key = .int .i64 es[i].1) :
    (Instr.findKey kt (.int .i64 m) rs.toList).run P w = .ok ((spot es m).map fun i => (i, (rs.getD i default).val)) w := by
  have hf := findNow_spec (kk := kk) (m := m) rs.toList es 0 (by simpa using hl) (fun i hi => by
    have := hkey i hi
    simpa [List.getD_eq_getElem?_getD, Array.getD_eq_getD_getElem?] using this)
  simp only [Instr.findKey, Sem.run_bind, run_und hk, Result.andThen_ok, hf, Sem.run_pure]
  congr 1
  unfold spot
  cases es.findIdx? fun e => e.1 == m <;> simp [List.getD_eq_getElem?_getD, Array.getD_eq_getD_getElem?]

theorem run_checkKey {kt : TypeId} {kk : IntKind} (hk : P.underlying kt = some (.int kk)) (b : Bool) (d : Nat) (v : Value) : (Instr.checkKey b (d + 1) kt v).run P w = .ok () w := by
  unfold Instr.checkKey
  simp only [Sem.run_bind, run_und hk, Result.andThen_ok]
  cases v <;> rfl

theorem zv_spec {t : TypeId} {z : AV} (h : zv P t = some z) (C : ACx) : ∃ v, (∀ w : World, (zeroValue t).run P w = .ok v w) ∧ VS C z v := by
  unfold zv at h
  split at h
  · rename_i i hi
    split at h
    · rename_i v hv
      exact ⟨v, fun w => run_zero hi hv w, cv_vs C h⟩
    · cases h
  · cases h

theorem look_spot (es : List (Int × AV)) (m : Int) : (look es m = none ∧ spot es m = none) ∨ ∃ i v, ∃ h : i < es.length, look es m = some v ∧ spot es m = some i ∧ es[i] = (m, v) := by
  unfold look spot
  induction es with
  | nil => left; exact ⟨rfl, rfl⟩
  | cons e es ih =>
    by_cases hem : e.1 = m
    · right
      refine ⟨0, e.2, by simp, ?_, ?_, ?_⟩
      · simp [List.find?_cons, hem]
      · simp [List.findIdx?_cons, hem]
      · simp [← hem]
    · have h2 : (e.1 == m) = false := by simp [hem]
      rcases ih with ⟨h3, h4⟩ | ⟨i, v, hi, h3, h4, h5⟩
      · left
        exact ⟨by simpa [List.find?_cons, h2] using h3, by simp [List.findIdx?_cons, h2, h4]⟩
      · right
        refine ⟨i + 1, v, by simp; omega, by simpa [List.find?_cons, h2] using h3, by simp [List.findIdx?_cons, h2, h4], by simpa using h5⟩

theorem tup2 {x y : AV} {rx ry : Value} (hx : VS C x rx) (hy : VS C y ry) : VS C (.tup [x, y]) (.tuple #[rx, ry]) := by
  refine .tup _ _ rfl fun i hi => ?_
  match i, hi with
  | 0, _ => simpa using hx
  | 1, _ => simpa using hy

theorem good_lookup (s : ASim B w0 R wr C st w) (f : FSim C n fr a) {t : TypeId} {x i : Operand} {ok : Bool} (ho : o.op = .lookup t x i ok) (hc : compOp P (.lookup t x i ok) = some io) (h : aop P io fr st k) :
    Good P B w0 R wr C k ((execOp a.eval o).run P w) := by
  simp only [compOp] at hc
  split at hc
  · rename_i kt et hu
    split at hc
    · rename_i kk z ix ii hk hz h1 h2
      cases hc
      obtain ⟨zr, hz1, hz2⟩ := zv_spec hz C
      have hx := arg_vs f h1
      have hi := arg_vs f h2
      simp only [aop] at h
      split at h
      · rename_i m hm
        rw [hm] at hi
        have hi' := hi.int_inv
        generalize hxa : fr.val ix = xa at h hx
        cases xa <;> simp only [] at h <;> try (exact h.elim)
        · have hx' : a.eval x = .map none := by generalize a.eval x = q at hx; cases hx; rfl
          have e : (Instr.lookup t (a.eval x) (a.eval i) ok).run P w = .ok (if ok then .tuple #[zr, .bool false] else zr) w := by
            simp only [Instr.lookup, Sem.run_bind, run_und hu, Result.andThen_ok, hx', hi', Sem.run_pure, run_checkKey hk, Instr.findKey, run_und hk, Instr.findNow, hz1]
          unfold execOp; rw [ho]; rw [run_v e]
          cases ok
          · exact Good.val s hz2 h
          · exact Good.val s (tup2 hz2 (.bool false)) h
        · rename_i id
          split at h
          · rename_i es hes
            obtain ⟨rs, r1, r2, r3⟩ := map_at s hes
            have hx' : a.eval x = .map (some (C.φ id).1) := by generalize a.eval x = q at hx; cases hx; rfl
            have hfk := run_findKey (P := P) (w := w) hk (m := m) r2 (fun j hj => (r3 j hj).1)
            rcases look_spot es m with ⟨l1, l2⟩ | ⟨j, v, hj, l1, l2, l3⟩
            · rw [l1] at h
              simp only [] at h
              have e : (Instr.lookup t (a.eval x) (a.eval i) ok).run P w = .ok (if ok then .tuple #[zr, .bool false] else zr) w := by
                simp only [Instr.lookup, Sem.run_bind, run_und hu, Result.andThen_ok, hx', hi', run_getMap r1, Sem.run_pure, run_checkKey hk, hfk, l2, Option.map_none, hz1]
              unfold execOp; rw [ho]; rw [run_v e]
              cases ok
              · exact Good.val s hz2 h
              · exact Good.val s (tup2 hz2 (.bool false)) h
            · rw [l1] at h
              simp only [] at h
              have e : (Instr.lookup t (a.eval x) (a.eval i) ok).run P w = .ok (if ok then .tuple #[(rs.getD j default).val, .bool true] else (rs.getD j default).val) w := by
                simp only [Instr.lookup, Sem.run_bind, run_und hu, Result.andThen_ok, hx', hi', run_getMap r1, Sem.run_pure, run_checkKey hk, hfk, l2, Option.map_some]
              unfold execOp; rw [ho]; rw [run_v e]
              have hv := (r3 j hj).2.1
              rw [l3] at hv
              cases ok
              · exact Good.val s hv h
              · exact Good.val s (tup2 hv (.bool true)) h
          · exact h.elim
      · exact h.elim
    · cases hc
  · cases hc

/-- A map is written: its block alone turns. -/
theorem wrote_map (s : ASim B w0 R wr C st w) {id : Nat} {es : List (Int × AV)} (h : st.h id = some (.map es)) {rs rs' : Array MapEntry} {c : Nat} (hr : w.heap[(C.φ id).1]? = some (.map rs c)) {es' : List (Int × AV)}
    (hs : rs'.size = es'.length) (hv : ∀ i (h : i < es'.length), (rs'.getD i default).key = .int .i64 es'[i].1 ∧ VS C es'[i].2 (rs'.getD i default).val ∧ (rs'.getD i default).born = i) :
    (setObj (C.φ id).1 (.map rs' es'.length)).run P w = .ok () { w with heap := w.heap.setIfInBounds (C.φ id).1 (.map rs' es'.length) } ∧
      ASim B w0 R wr C (st.set id (.map es')) { w with heap := w.heap.setIfInBounds (C.φ id).1 (.map rs' es'.length) } := by
  have hlt := heap_lt hr
  refine ⟨by simp [setObj, Sem.run, hr], s.wrote h _ _ rfl rfl rfl (by simp) (fun k hk => by simp [Array.getElem?_setIfInBounds_ne (Ne.symm hk)]) ⟨rs', by simp [hlt], hs, hv⟩⟩

theorem getD_modify (rs : Array MapEntry) (j i : Nat) (g : MapEntry → MapEntry) (h : i < rs.size) :
    (rs.modify j g).getD i default = if j = i then g (rs.getD i default) else rs.getD i default := by
  simp only [Array.getD_eq_getD_getElem?, Array.getElem?_modify, Array.getElem?_eq_getElem h]
  split <;> simp

theorem good_mapSet (s : ASim B w0 R wr C st w) (f : FSim C n fr a) {t : TypeId} {mm key v : Operand} (ho : o.op = .mapUpdate t mm key v) (hc : compOp P (.mapUpdate t mm key v) = some io) (h : aop P io fr st k) :
    Good P B w0 R wr C k ((execOp a.eval o).run P w) := by
  simp only [compOp] at hc
  split at hc
  · rename_i kt et hu
    split at hc
    · rename_i kk im ik iv hk h1 h2 h3
      cases hc
      have hx := arg_vs f h1
      have hi := arg_vs f h2
      have hv := arg_vs f h3
      simp only [aop] at h
      split at h
      · rename_i m id hm hid
        split at h
        · rename_i es hes
          rw [hm] at hi; rw [hid] at hx
          have hi' := hi.int_inv
          have hx' : a.eval mm = .map (some (C.φ id).1) := by generalize a.eval mm = q at hx; cases hx; rfl
          obtain ⟨rs, r1, r2, r3⟩ := map_at s hes
          have hfk := run_findKey (P := P) (w := w) hk (m := m) r2 (fun j hj => (r3 j hj).1)
          rcases look_spot es m with ⟨l1, l2⟩ | ⟨j, u, hj, l1, l2, l3⟩
          · have hes' : mput es m (fr.val iv) = es ++ [(m, fr.val iv)] := by simp [mput, l2]
            rw [hes'] at h
            obtain ⟨q1, q2⟩ := wrote_map (P := P) s hes r1 (rs' := rs.push { key := .int .i64 m, val := a.eval v, born := es.length }) (es' := es ++ [(m, fr.val iv)]) (by simp [r2]) (fun i hi2 => by
              by_cases e : i = es.length
              · subst e
                have h2 : es.length = rs.size := r2.symm
                simp [Array.getD_eq_getD_getElem?, h2]
                simpa [h2] using hv
              · have hlt : i < es.length := by simp at hi2; omega
                have hlt2 : i < rs.size := by omega
                have := r3 i hlt
                simpa [Array.getD_eq_getD_getElem?, Array.getElem?_push, hlt2, List.getElem_append_left hlt, Nat.ne_of_lt hlt2] using this)
            have e : (Instr.mapUpdate t (a.eval mm) (a.eval key) (a.eval v)).run P w = .ok () { w with heap := w.heap.setIfInBounds (C.φ id).1 (.map (rs.push { key := .int .i64 m, val := a.eval v, born := es.length }) (es ++ [(m, fr.val iv)]).length) } := by
              simp only [Instr.mapUpdate, Sem.run_bind, run_und hu, Result.andThen_ok, hx', hi', run_getMap r1, run_checkKey hk, hfk, l2, Option.map_none]
              rw [← q1]; simp
            unfold execOp; rw [ho]; rw [run_u e]
            exact good_skip (.refl C) q2 h
          · have hes' : mput es m (fr.val iv) = es.set j (m, fr.val iv) := by simp [mput, l2]
            rw [hes'] at h
            have hjr : j < rs.size := by omega
            have hkj := (r3 j hj).1
            rw [l3] at hkj
            simp only at hkj
            have hkj2 : (rs[j]).key = .int .i64 m := by simpa [Array.getD_eq_getD_getElem?, hjr] using hkj
            obtain ⟨q1, q2⟩ := wrote_map (P := P) s hes r1 (rs' := rs.modify j fun e => { e with key := .int .i64 m, val := a.eval v }) (es' := es.set j (m, fr.val iv)) (by simp [r2]) (fun i hi2 => by
              have hi3 : i < es.length := by simpa using hi2
              have hi4 : i < rs.size := by omega
              have := r3 i hi3
              rw [getD_modify _ _ _ _ hi4]
              by_cases e : j = i
              · subst e
                simp only [if_true, List.getElem_set_self]
                exact ⟨trivial, hv, this.2.2⟩
              · simp only [e, if_false, ne_eq, not_false_eq_true, List.getElem_set_ne]
                exact this)
            have hstay : (Instr.keyThatStays (((rs[j]?).map (·.key)).getD (.int .i64 m)) (.int .i64 m)).run P w = .ok (.int .i64 m) w := by
              simp [hjr, hkj2, Instr.keyThatStays, Instr.sameBits]
            have e : (Instr.mapUpdate t (a.eval mm) (a.eval key) (a.eval v)).run P w = .ok () { w with heap := w.heap.setIfInBounds (C.φ id).1 (.map (rs.modify j fun e => { e with key := .int .i64 m, val := a.eval v }) (es.set j (m, fr.val iv)).length) } := by
              simp only [Instr.mapUpdate, Sem.run_bind, run_und hu, Result.andThen_ok, hx', hi', run_getMap r1, run_checkKey hk, hfk, l2, Option.map_some, hstay]
              rw [← q1]; simp
            unfold execOp; rw [ho]; rw [run_u e]
            exact good_skip (.refl C) q2 h
        · exact h.elim
      · exact h.elim
    · cases hc
  · cases hc

theorem good_mapEntry (s : ASim B w0 R wr C st w) (f : FSim C n fr a) {t : TypeId} {mm key : Operand} (ho : o.op = .mapEntry t mm key) (hc : compOp P (.mapEntry t mm key) = some io) (h : aop P io fr st k) :
    Good P B w0 R wr C k ((execOp a.eval o).run P w) := by
  simp only [compOp] at hc
  split at hc
  · rename_i kt et hu
    split at hc
    · rename_i kk z im ik hk hz h1 h2
      cases hc
      obtain ⟨zr, hz1, hz2⟩ := zv_spec hz C
      have hx := arg_vs f h1
      have hi := arg_vs f h2
      simp only [aop] at h
      split at h
      · rename_i m id hm hid
        split at h
        · rename_i es hes
          rw [hm] at hi; rw [hid] at hx
          have hi' := hi.int_inv
          have hx' : a.eval mm = .map (some (C.φ id).1) := by generalize a.eval mm = q at hx; cases hx; rfl
          obtain ⟨rs, r1, r2, r3⟩ := map_at s hes
          have hfk := run_findKey (P := P) (w := w) hk (m := m) r2 (fun j hj => (r3 j hj).1)
          rcases look_spot es m with ⟨l1, l2⟩ | ⟨j, u, hj, l1, l2, l3⟩
          · rw [l2] at h
            simp only [] at h
            obtain ⟨q1, q2⟩ := wrote_map (P := P) s hes r1 (rs' := rs.push { key := .int .i64 m, val := zr, born := es.length }) (es' := es ++ [(m, z)]) (by simp [r2]) (fun i hi2 => by
              by_cases e : i = es.length
              · subst e
                have h2 : es.length = rs.size := r2.symm
                simp [Array.getD_eq_getD_getElem?, h2]
                simpa [h2] using hz2
              · have hlt : i < es.length := by simp at hi2; omega
                have hlt2 : i < rs.size := by omega
                have := r3 i hlt
                simpa [Array.getD_eq_getD_getElem?, Array.getElem?_push, hlt2, List.getElem_append_left hlt, Nat.ne_of_lt hlt2] using this)
            have e : (Instr.mapEntry t (a.eval mm) (a.eval key)).run P w = .ok (.tuple #[zr, .int .i64 es.length]) { w with heap := w.heap.setIfInBounds (C.φ id).1 (.map (rs.push { key := .int .i64 m, val := zr, born := es.length }) (es ++ [(m, z)]).length) } := by
              simp only [Instr.mapEntry, Sem.run_bind, run_und hu, Result.andThen_ok, hx', hi', run_getMap r1, run_checkKey hk, hfk, l2, Option.map_none, hz1]
              rw [List.length_append, List.length_singleton] at q1
              rw [q1]; simp [goInt]
            unfold execOp; rw [ho]; rw [run_v e]
            exact ⟨C, _, _, .refl C, q2, tup2 hz2 (.int _ _), h⟩
          · rw [l2] at h
            simp only [] at h
            rw [List.getElem?_eq_getElem hj] at h
            simp only [l3] at h
            have hjr : j < rs.size := by omega
            obtain ⟨b1, b2, b3⟩ := r3 j hj
            rw [l3] at b1 b2
            simp only at b1 b2
            have hkj2 : (rs[j]).key = .int .i64 m := by simpa [Array.getD_eq_getD_getElem?, hjr] using b1
            have hbj : (rs[j]).born = j := by simpa [Array.getD_eq_getD_getElem?, hjr] using b3
            obtain ⟨q1, q2⟩ := wrote_map (P := P) s hes r1 (rs' := rs.modify j fun e => { e with key := .int .i64 m }) (es' := es) (by simp [r2]) (fun i hi3 => by
              have hi4 : i < rs.size := by omega
              have := r3 i hi3
              rw [getD_modify _ _ _ _ hi4]
              by_cases e : j = i
              · subst e
                rw [l3] at this ⊢
                simp only [if_true]
                exact ⟨trivial, this.2.1, this.2.2⟩
              · simp only [e, if_false]
                exact this)
            rw [ASt.set_self _ _ _ hes] at q2
            have hstay : (Instr.keyThatStays (((rs[j]?).map (·.key)).getD (.int .i64 m)) (.int .i64 m)).run P w = .ok (.int .i64 m) w := by
              simp [hjr, hkj2, Instr.keyThatStays, Instr.sameBits]
            have e : (Instr.mapEntry t (a.eval mm) (a.eval key)).run P w = .ok (.tuple #[(rs.getD j default).val, .int .i64 j]) { w with heap := w.heap.setIfInBounds (C.φ id).1 (.map (rs.modify j fun e => { e with key := .int .i64 m }) es.length) } := by
              simp only [Instr.mapEntry, Sem.run_bind, run_und hu, Result.andThen_ok, hx', hi', run_getMap r1, run_checkKey hk, hfk, l2, Option.map_some, hstay, q1]
              simp [goInt, hjr, hbj]
            unfold execOp; rw [ho]; rw [run_v e]
            exact ⟨C, _, _, .refl C, q2, tup2 b2 (.int _ _), h⟩
        · exact h.elim
      · exact h.elim
    · cases hc
  · cases hc

theorem good_entryStore (s : ASim B w0 R wr C st w) (f : FSim C n fr a) {t : TypeId} {mm x v : Operand} (ho : o.op = .entryStore t mm x v) (hc : compOp P (.entryStore t mm x v) = some io) (h : aop P io fr st k) :
    Good P B w0 R wr C k ((execOp a.eval o).run P w) := by
  simp only [compOp] at hc
  cases h1 : cArg mm with
  | none => simp [h1] at hc
  | some im =>
  cases h2 : cArg x with
  | none => simp [h1, h2] at hc
  | some ix =>
  cases h3 : cArg v with
  | none => simp [h1, h2, h3] at hc
  | some iv =>
  simp [h1, h2, h3] at hc
  subst hc
  have hx := arg_vs f h1
  have hi := arg_vs f h2
  have hv := arg_vs f h3
  simp only [aop] at h
  split at h
  · rename_i m id hm hid
    split at h
    · rename_i es hes
      obtain ⟨h0, h⟩ := h
      split at h
      · rename_i e0 he0
        rw [hm] at hi; rw [hid] at hx
        have hi' := hi.int_inv
        have hx' : a.eval mm = .map (some (C.φ id).1) := by generalize a.eval mm = q at hx; cases hx; rfl
        obtain ⟨rs, r1, r2, r3⟩ := map_at s hes
        have hj : m.toNat < es.length := by
          rcases Nat.lt_or_ge m.toNat es.length with h' | h'
          · exact h'
          · rw [List.getElem?_eq_none h'] at he0; cases he0
        rw [List.getElem?_eq_getElem hj] at he0
        cases he0
        have hjr : m.toNat < rs.size := by omega
        have hfind : rs.findIdx? (fun e => (e.born : Int) == m) = some m.toNat := by
          rw [Array.findIdx?_eq_some_iff_getElem]
          refine ⟨hjr, ?_, fun i hi2 => ?_⟩
          · have := (r3 _ hj).2.2
            have e : (rs[m.toNat]).born = m.toNat := by simpa [Array.getD_eq_getD_getElem?, hjr] using this
            simp [e]; omega
          · have hi3 : i < rs.size := by omega
            have := (r3 i (by omega)).2.2
            have e : (rs[i]).born = i := by simpa [Array.getD_eq_getD_getElem?, hi3] using this
            simp [e]; omega
        obtain ⟨q1, q2⟩ := wrote_map (P := P) s hes r1 (rs' := rs.modify m.toNat fun e => { e with val := a.eval v }) (es' := es.set m.toNat (es[m.toNat].1, fr.val iv)) (by simp [r2]) (fun i hi2 => by
          have hi3 : i < es.length := by simpa using hi2
          have hi4 : i < rs.size := by omega
          have := r3 i hi3
          rw [getD_modify _ _ _ _ hi4]
          by_cases e : m.toNat = i
          · subst e
            simp only [if_true, List.getElem_set_self]
            exact ⟨this.1, hv, this.2.2⟩
          · simp only [e, if_false, ne_eq, not_false_eq_true, List.getElem_set_ne]
            exact this)
        have e : (Instr.entryStore t (a.eval mm) (a.eval x) (a.eval v)).run P w = .ok () { w with heap := w.heap.setIfInBounds (C.φ id).1 (.map (rs.modify m.toNat fun e => { e with val := a.eval v }) (es.set m.toNat (es[m.toNat].1, fr.val iv)).length) } := by
          simp only [Instr.entryStore, Sem.run_bind, Result.andThen_ok, hx', hi', run_getMap r1, asInt, asInt_run, Sem.run_pure, hfind]
          rw [← q1]; simp
        unfold execOp; rw [ho]; rw [run_u e]
        exact good_skip (.refl C) q2 h
      · exact h.elim
    · exact h.elim
  · exact h.elim

end
end Go.Proofs.Ytjamidgdhmjhaaa.Cn
