/- The abstract layer, part 10: aggregates, slices, append. -/
import Derived.Test.YtjamidgdhmjhaaaCnSound4
set_option linter.unusedSimpArgs false
set_option linter.unusedVariables false
namespace Go.Proofs.Ytjamidgdhmjhaaa.Cn
open Go Go.RowKit

section
variable {P : Program} {B : Nat} {w0 : World} {R : Nat → Prop} {wr : World} {C : ACx} {st : ASt} {w : World} {k : AV → ASt → Prop} {fr : AFr} {a : Act} {n : Nat} {o : Oper} {io : IOp}

/-- A row of the world's cells is like a row of abstract cells. -/
def RowSim (C : ACx) (cs : List AV) (rs : Array Value) : Prop := rs.size = cs.length ∧ ∀ i (h : i < cs.length), VS C cs[i] (rs.getD i undef)

def rput (cells : Array Value) (off : Nat) : List Value → Array Value
  | [] => cells
  | v :: vs => rput (cells.setIfInBounds off v) (off + 1) vs

theorem foldl_rput (off : Nat) : ∀ (l : List Value) (j : Nat) (cells : Array Value), (l.zipIdx j).foldl (fun cs (x : Value × Nat) => cs.setIfInBounds (off + x.2) x.1) cells = rput cells (off + j) l
  | [], _, _ => rfl
  | v :: vs, j, cells => by
    simp only [List.zipIdx_cons, List.foldl_cons, rput]
    exact foldl_rput off vs (j + 1) _

theorem rput_sim : ∀ (vs : List AV) (rs : List Value) (off : Nat) (cs : List AV) (cells : Array Value), RowSim C cs cells → rs.length = vs.length → (∀ j (h : j < vs.length), VS C vs[j] (rs.getD j undef)) →
    off + vs.length ≤ cs.length → RowSim C (putN cs off vs) (rput cells off rs)
  | [], rs, off, cs, cells, h, hr, _, _ => by
    have : rs = [] := by simpa using hr
    subst this; exact h
  | v :: vs, rs, off, cs, cells, h, hr, hv, hl => by
    match rs, hr with
    | r :: rs, hr =>
      simp at hr hl
      refine rput_sim vs rs (off + 1) (cs.set off v) (cells.setIfInBounds off r) ⟨by simpa using h.1, fun i hi => ?_⟩ hr (fun j hj => hv (j + 1) (by simpa using hj)) (by simp; omega)
      rw [getD_set _ _ _ _ (by rw [h.1]; omega)]
      by_cases e : off = i
      · subst e; have := hv 0 (by simp); simpa using this
      · rw [if_neg e]; have := h.2 i (by simpa using hi); simpa [List.getElem_set_ne e] using this

theorem part_sim {x : AV} {rx : Value} {vs : List AV} (h : VS C x rx) (hp : x.part = some vs) : RowSim C vs rx.cells := by
  have one : ∀ {y : AV} {ry : Value}, VS C y ry → ry.cells = #[ry] → RowSim C [y] ry.cells := by
    intro y ry hy e
    rw [e]
    refine ⟨rfl, fun i hi => ?_⟩
    have : i = 0 := by simpa using hi
    subst this
    simpa using hy
  cases h <;> simp only [AV.part] at hp <;> cases hp
  case agg rs hl hv => exact ⟨hl, hv⟩
  all_goals (refine one ?_ rfl; constructor <;> assumption)

theorem fill_sound (place : Nat → Option (Nat × Nat)) : ∀ (parts : List (Nat × Value)) (ap : List (Nat × Nat × AV)) (cs out : List AV) (cells : Array Value), RowSim C cs cells → aput cs ap = some out →
    ap.length = parts.length → (∀ j (h : j < ap.length) (h' : j < parts.length), place (parts[j]).1 = some ((ap[j]).1, (ap[j]).2.1) ∧ VS C (ap[j]).2.2 (parts[j]).2) →
    ∃ res, Instr.fill place cells parts = some res ∧ RowSim C out res
  | [], ap, cs, out, cells, h, ho, hl, _ => by
    have : ap = [] := by simpa using hl
    subst this
    cases ho
    exact ⟨cells, rfl, h⟩
  | (i, v) :: parts, ap, cs, out, cells, h, ho, hl, hj => by
    match ap, hl with
    | (off, sz, x) :: ap, hl =>
      obtain ⟨h1, h2⟩ := hj 0 (by simp) (by simp)
      simp only [List.getElem_cons_zero] at h1 h2
      simp only [aput] at ho
      split at ho
      · rename_i vs hvs
        split at ho
        · rename_i hc
          obtain ⟨c1, c2⟩ := hc
          have hrow := part_sim h2 hvs
          have hstep := rput_sim (C := C) vs v.cells.toList off cs cells h (by simpa using hrow.1) (fun j hj => by
            have := hrow.2 j hj; simpa [List.getD_eq_getElem?_getD, Array.getD_eq_getD_getElem?] using this) (by omega)
          obtain ⟨res, r1, r2⟩ := fill_sound place parts ap (putN cs off vs) out _ hstep ho (by simpa using hl) (fun j ha hb => hj (j + 1) (by simpa using ha) (by simpa using hb))
          refine ⟨res, ?_, r2⟩
          have hsz : v.cells.size = sz := by rw [hrow.1]; exact c1
          have hb : ¬ (cells.size < off + sz) := by rw [h.1]; omega
          simp only [Instr.fill, h1, hsz, ne_eq, not_true_eq_false, decide_false, Bool.false_or, gt_iff_lt, decide_eq_true_eq, hb, if_false]
          have hfold : Array.foldl (fun cs (x : Value × Nat) => cs.setIfInBounds (off + x.2) x.1) cells v.cells.zipIdx = rput cells off v.cells.toList := by
            have := foldl_rput off v.cells.toList 0 cells
            simp only [Nat.add_zero] at this
            rw [← this, ← Array.foldl_toList, Array.toList_zipIdx]
          rw [hfold]
          exact r1
        · cases ho
      · cases ho

theorem infos_run : ∀ (fs : List Field), infosOk P fs = true → (fs.mapM (fun f => do pure (f.offset, ← Go.sizeOf f.type) : Field → Sem (Nat × Nat))).run P w = .ok (fs.map fun f => (f.offset, P.cellsOf f.type)) w
  | [], _ => rfl
  | f :: r, h => by
    simp [infosOk] at h
    obtain ⟨i, hi⟩ := Option.isSome_iff_exists.1 h.1
    have ih := infos_run r h.2
    simp only [List.mapM_cons, Sem.run_bind, run_size hi, Result.andThen_ok, Sem.run_pure, ih, List.map_cons]
    simp [Program.cellsOf, hi]

theorem partsStruct_spec {fs : Array Field} (f : FSim C n fr a) : ∀ {l : List (Nat × Operand)} {ps : List (Nat × Nat × IArg)}, partsStruct P fs l = some ps →
    ps.length = l.length ∧ ∀ j (h : j < ps.length) (h' : j < l.length), ((fs.map fun f => (f.offset, P.cellsOf f.type))[(l[j]).1]? : Option (Nat × Nat)) = some ((ps[j]).1, (ps[j]).2.1) ∧ VS C (fr.val (ps[j]).2.2) (a.eval (l[j]).2)
  | [], ps, h => by cases h; exact ⟨rfl, fun j h => absurd h (by simp)⟩
  | (i, x) :: r, ps, h => by
    simp only [partsStruct] at h
    cases h1 : fs[i]? with
    | none => simp [h1] at h
    | some fd =>
    cases h2 : P.info? fd.type with
    | none => simp [h1, h2] at h
    | some inf =>
    cases h3 : cArg x with
    | none => simp [h1, h2, h3] at h
    | some ix =>
    cases h4 : partsStruct P fs r with
    | none => simp [h1, h2, h3, h4] at h
    | some rest =>
    simp [h1, h2, h3, h4] at h
    subst h
    obtain ⟨i1, i2⟩ := partsStruct_spec f h4
    refine ⟨by simp [i1], fun j hj hj' => ?_⟩
    cases j with
    | zero => simpa [h1, Program.cellsOf, h2] using arg_vs f h3
    | succ j => simpa using i2 j (by simpa using hj) (by simpa using hj')

theorem partsRow_spec {sz : Nat} (f : FSim C n fr a) : ∀ {l : List (Nat × Operand)} {ps : List (Nat × Nat × IArg)}, partsRow sz l = some ps →
    ps.length = l.length ∧ ∀ j (h : j < ps.length) (h' : j < l.length), some ((l[j]).1 * sz, sz) = some ((ps[j]).1, (ps[j]).2.1) ∧ VS C (fr.val (ps[j]).2.2) (a.eval (l[j]).2)
  | [], ps, h => by cases h; exact ⟨rfl, fun j h => absurd h (by simp)⟩
  | (i, x) :: r, ps, h => by
    simp only [partsRow] at h
    cases h3 : cArg x with
    | none => simp [h3] at h
    | some ix =>
    cases h4 : partsRow sz r with
    | none => simp [h3, h4] at h
    | some rest =>
    simp [h3, h4] at h
    subst h
    obtain ⟨i1, i2⟩ := partsRow_spec f h4
    refine ⟨by simp [i1], fun j hj hj' => ?_⟩
    cases j with
    | zero => simpa using arg_vs f h3
    | succ j => simpa using i2 j (by simpa using hj) (by simpa using hj')

theorem toList_map_pair (parts : Array (Nat × Operand)) : (parts.map fun (i, x) => (i, a.eval x)).toList = parts.toList.map fun (p : Nat × Operand) => (p.1, a.eval p.2) := by simp

theorem good_build (s : ASim B w0 R wr C st w) (f : FSim C n fr a) {t : TypeId} {parts : Array (Nat × Operand)} (ho : o.op = .build t parts) (hc : compOp P (.build t parts) = some io) (h : aop P io fr st k) :
    Good P B w0 R wr C k ((execOp a.eval o).run P w) := by
  simp only [compOp] at hc
  split at hc
  · rename_i zs hzs
    obtain ⟨i, z, hi, hz, hl, hv⟩ := zc_spec hzs C
    split at hc
    · rename_i fs hu
      split at hc
      · rename_i hinf
        obtain ⟨ps, h1, rfl⟩ := map_some hc
        obtain ⟨p1, p2⟩ := partsStruct_spec (C := C) f h1
        simp only [aop] at h
        split at h
        · rename_i cs hcs
          obtain ⟨res, r1, r2⟩ := fill_sound (C := C) (fun i => (fs.map fun f => (f.offset, P.cellsOf f.type))[i]?) (parts.toList.map fun p => (p.1, a.eval p.2)) _ zs cs z.cells ⟨hl, hv⟩ hcs (by simp [p1])
            (fun j ha hb => by simp only [List.getElem_map]; exact p2 j (by simpa using ha) (by simpa using hb))
          have e : (Instr.build t (parts.map fun (i, x) => (i, a.eval x))).run P w = .ok (.agg res) w := by
            have em : (fs.mapM (fun f => do pure (f.offset, ← Go.sizeOf f.type) : Field → Sem (Nat × Nat))).run P w = .ok (fs.map fun f => (f.offset, P.cellsOf f.type)) w := by
              rw [Array.mapM_eq_mapM_toList]
              simp only [Sem.run_map, infos_run _ hinf, Result.andThen_ok]
              rw [← Array.toList_map]
            simp only [Instr.build, Sem.run_bind, run_zero hi hz, Result.andThen_ok, run_und hu, em, toList_map_pair, r1, Sem.run_pure]
          unfold execOp; rw [ho]; rw [run_v e]
          exact Good.val s (.agg _ _ r2.1 r2.2) h
        · exact h.elim
      · cases hc
    · rename_i len e hu
      split at hc
      · rename_i inf hinf
        obtain ⟨ps, h1, rfl⟩ := map_some hc
        obtain ⟨p1, p2⟩ := partsRow_spec (C := C) f h1
        simp only [aop] at h
        split at h
        · rename_i cs hcs
          obtain ⟨res, r1, r2⟩ := fill_sound (C := C) (fun i => some (i * inf.size, inf.size)) (parts.toList.map fun p => (p.1, a.eval p.2)) _ zs cs z.cells ⟨hl, hv⟩ hcs (by simp [p1])
            (fun j ha hb => by simp only [List.getElem_map]; exact p2 j (by simpa using ha) (by simpa using hb))
          have e : (Instr.build t (parts.map fun (i, x) => (i, a.eval x))).run P w = .ok (.agg res) w := by
            simp only [Instr.build, Sem.run_bind, run_zero hi hz, Result.andThen_ok, run_und hu, run_size hinf, toList_map_pair, r1, Sem.run_pure]
          unfold execOp; rw [ho]; rw [run_v e]
          exact Good.val s (.agg _ _ r2.1 r2.2) h
        · exact h.elim
      · cases hc
    · cases hc
  · cases hc

theorem zeros_length (zs : List AV) (m : Nat) : (zeros zs m).length = m * zs.length := by
  induction m with
  | zero => simp [zeros]
  | succ m ih => simp [zeros, ih, Nat.succ_mul, Nat.add_comm]

theorem zeros_get (zs : List AV) : ∀ (m i : Nat) (h : i < (zeros zs m).length) (h2 : i % zs.length < zs.length), (zeros zs m)[i] = zs[i % zs.length]
  | 0, i, h, _ => by simp [zeros] at h
  | m + 1, i, h, h2 => by
    simp only [zeros]
    by_cases hi : i < zs.length
    · rw [List.getElem_append_left hi]
      congr 1
      exact (Nat.mod_eq_of_lt hi).symm
    · have hm : (i - zs.length) % zs.length = i % zs.length := by
        conv => rhs; rw [show i = i - zs.length + zs.length by omega, Nat.add_mod_right]
      rw [List.getElem_append_right (by omega), zeros_get zs m (i - zs.length) (by simp [zeros] at h; omega) (by rw [hm]; exact h2)]
      congr 1

theorem zeros_sim {zs : List AV} {z : Array Value} (hl : z.size = zs.length) (hv : ∀ j (h : j < zs.length), VS C zs[j] (z.getD j undef)) (hp : 0 < zs.length) (m : Nat) :
    RowSim C (zeros zs m) ((Array.range (m * zs.length)).map (z[· % z.size]!)) := by
  refine ⟨by simp [zeros_length], fun i hi => ?_⟩
  have hlt := Nat.mod_lt i hp
  rw [zeros_get _ _ _ _ hlt]
  have := hv _ hlt
  have hi' : i < m * zs.length := by simpa [zeros_length] using hi
  have hz : i % zs.length < z.size := by omega
  simpa [Array.getD_eq_getD_getElem?, hi', hl, getElem!_pos, hz, hlt] using this

theorem good_newSlice (s : ASim B w0 R wr C st w) (t : TypeId) {cs : List AV} {rs : Array Value} (hr : RowSim C cs rs) {sz len cap : Nat} (hc : len ≤ cap) (hb : cap * sz ≤ rs.size)
    (h : ∀ id, st.h id = none → k (.sl sz id 0 len) (st.new id (.cells cs))) : Good P B w0 R wr C k (.ok (.value (.slice (some ⟨w.heap.size, 0, none⟩) len cap)) { w with heap := w.heap.push (.cells rs t) }) := by
  refine ⟨_, _, _, C.push_le _ _, alloc_cells s t cs rs (by rw [hr.1]; omega) hr.2, ?_, h _ s.fresh⟩
  have := VS.sl (C := C.push (w.heap.size, 0) rs.size) sz C.N 0 len 0 cap (by rw [C.push_N]; omega) hc (.inr rfl) (by rw [C.push_bs]; omega)
  rw [C.push_φ] at this
  exact this

theorem good_buildSlice (s : ASim B w0 R wr C st w) (f : FSim C n fr a) {t : TypeId} {len : Nat} {parts : Array (Nat × Operand)} (ho : o.op = .buildSlice t len parts) (hc : compOp P (.buildSlice t len parts) = some io)
    (h : aop P io fr st k) : Good P B w0 R wr C k ((execOp a.eval o).run P w) := by
  simp only [compOp] at hc
  split at hc
  · rename_i e hu
    split at hc
    · rename_i inf zs hinf hzs
      obtain ⟨i, z, hi, hz, hl, hv⟩ := zc_spec hzs C
      have e0 : i = inf := by rw [hi] at hinf; exact Option.some.inj hinf
      subst e0
      split at hc
      · rename_i hcond
        obtain ⟨c1, c2, c3⟩ := hcond
        obtain ⟨ps, h1, rfl⟩ := map_some hc
        obtain ⟨p1, p2⟩ := partsRow_spec (C := C) f h1
        simp only [aop] at h
        split at h
        · rename_i cs hcs
          have hz0 := zeros_sim (C := C) (zs := zs) (z := z.cells) hl hv (by omega) len
          rw [c2] at hz0
          obtain ⟨res, r1, r2⟩ := fill_sound (C := C) (fun j => some (j * i.size, i.size)) (parts.toList.map fun p => (p.1, a.eval p.2)) _ (zeros zs len) cs _ hz0 hcs (by simp [p1])
            (fun j ha hb => by simp only [List.getElem_map]; exact p2 j (by simpa using ha) (by simpa using hb))
          have hlen : cs.length = len * i.size := by
            have : ∀ (ap : List (Nat × Nat × AV)) (cs out : List AV), aput cs ap = some out → out.length = cs.length := by
              intro ap
              induction ap with
              | nil => intro cs out h; cases h; rfl
              | cons p ap ih =>
                intro cs out h
                obtain ⟨x, y, v⟩ := p
                simp only [aput] at h
                split at h
                · split at h
                  · rw [ih _ _ h, putN_length]
                  · cases h
                · cases h
            rw [this _ _ _ hcs, zeros_length, c2]
          have e : (Instr.buildSlice t len (parts.map fun (i, x) => (i, a.eval x))).run P w = .ok (.slice (some ⟨w.heap.size, 0, none⟩) len len) { w with heap := w.heap.push (.cells res e) } := by
            have hnb : ¬ (len * i.size > 2 ^ 24) := by omega
            simp only [Instr.buildSlice, Sem.run_bind, run_und hu, run_size hi, Result.andThen_ok, hnb, if_false, toList_map_pair]
            by_cases h0 : len * i.size = 0
            · have hz1 : (Array.range (len * i.size)).map (z.cells[· % z.cells.size]!) = #[] := by simp [h0]
              rw [hz1] at r1
              have hr : ∀ g : Nat → Value, (Array.range 0).map g = #[] := fun g => Array.ext' (by simp)
              have r1' : Instr.fill (fun j => some (j * i.size, i.size)) #[] (parts.toList.map fun p => (p.1, a.eval p.2)) = some res := r1
              simp only [h0, if_true, Sem.run_pure, Result.andThen_ok, hr, r1', newRow, Sem.run_bind, run_newObj]
            · simp only [h0, if_false, Sem.run_pure, Result.andThen_ok, Sem.run_bind, run_zero hi hz, r1, newRow, run_newObj]
          unfold execOp; rw [ho]; rw [run_v e]
          exact good_newSlice s _ r2 (Nat.le_refl _) (by rw [r2.1, hlen]; omega) h
        · exact h.elim
      · cases hc
    · cases hc
  · cases hc

theorem wrap_small {m : Int} (h0 : 0 ≤ m) (h1 : m ≤ 4294967296) : IntKind.i64.wrap m = m := by
  have e : IntKind.bits .i64 = 64 := rfl
  have hm : m % (2 ^ 64 : Int) = m := Int.emod_eq_of_lt h0 (by omega)
  simp only [IntKind.wrap, e, hm]
  rw [if_neg]
  intro h
  simp at h
  omega

theorem good_makeSlice (s : ASim B w0 R wr C st w) (f : FSim C n fr a) {t : TypeId} {l c : Operand} (ho : o.op = .makeSlice t l c) (hc : compOp P (.makeSlice t l c) = some io)
    (h : aop P io fr st k) : Good P B w0 R wr C k ((execOp a.eval o).run P w) := by
  simp only [compOp] at hc
  split at hc
  · rename_i e hu
    split at hc
    · rename_i inf zs il ic hinf hzs hil hic
      obtain ⟨i, z, hi, hz, hl, hv⟩ := zc_spec hzs C
      have e0 : i = inf := by rw [hi] at hinf; exact Option.some.inj hinf
      subst e0
      split at hc
      · rename_i hcond
        obtain ⟨c1, c2, c3⟩ := hcond
        cases hc
        simp only [aop] at h
        split at h
        · rename_i m m' hm hm'
          obtain ⟨⟨g1, rfl, g3⟩, h⟩ := h
          have hx := arg_vs f hil
          have hy := arg_vs f hic
          rw [hm] at hx; rw [hm'] at hy
          have hz0 := zeros_sim (C := C) (zs := zs) (z := z.cells) hl hv (by omega) m.toNat
          rw [c2] at hz0
          have hw := wrap_small g1 g3
          have hb1 : ((i.bytes : Int) * m) ≤ 4096 * 4294967296 := Int.mul_le_mul (by omega) g3 g1 (by omega)
          have htl : ¬ (m < 0 ∨ (2:Int) ^ 48 < (i.bytes : Int) * m) := by omega
          have e : (Instr.makeSlice t (a.eval l) (a.eval c)).run P w = .ok (.slice (some ⟨w.heap.size, 0, none⟩) m.toNat m.toNat)
              { w with heap := w.heap.push (.cells ((Array.range (m.toNat * i.size)).map (z.cells[· % z.cells.size]!)) e) } := by
            simp only [Instr.makeSlice, Sem.run_bind, run_und hu, Result.andThen_ok, asInt, hx.int_inv, hy.int_inv, asInt_run, Sem.run_pure, run_info hi, hw]
            have h1 : (decide (m < 0) || decide ((i.bytes : Int) * m > 2 ^ 48)) = false := by
              rw [Bool.or_eq_false_iff]; constructor <;> simp <;> omega
            have h2 : ¬ m < 0 := by omega
            simp only [h1, Bool.false_or, decide_eq_true_eq, h2, decide_false, Int.lt_irrefl, gt_iff_lt, Bool.false_eq_true, if_false, Sem.run_bind, run_askRoom, Result.andThen_ok, run_size hi, Sem.run_pure]
            have hq : ¬ (281474976710656 : Int) < (i.bytes : Int) * m := by omega
            have hr : ∀ g : Nat → Value, (Array.range 0).map g = #[] := fun g => Array.ext' (by simp)
            by_cases h0 : m.toNat * i.size = 0
            · simp [h0, newRow, hr, hq, run_size hi]
            · simp [h0, run_zero hi hz, newRow, hq, run_size hi]
          unfold execOp; rw [ho]; rw [run_v e]
          exact good_newSlice s _ hz0 (Nat.le_refl _) (by simp) h
        · exact h.elim
      · cases hc
    · cases hc
  · cases hc

end
end Go.Proofs.Ytjamidgdhmjhaaa.Cn
