/- The abstract layer, part 9: the operations on two values, stores, new blocks, calls are sound. -/
import Derived.Test.YtjamidgdhmjhaaaCnSound3
set_option linter.unusedSimpArgs false
set_option linter.unusedVariables false
namespace Go.Proofs.Ytjamidgdhmjhaaa.Cn
open Go Go.RowKit

section
variable {P : Program} {B : Nat} {w0 : World} {R : Nat → Prop} {wr : World} {C : ACx} {st : ASt} {w : World} {k : AV → ASt → Prop} {fr : AFr} {a : Act} {n : Nat} {o : Oper} {io : IOp}

theorem eqGuard_pass {op : BinOp} {t : TypeId} {x y : Operand} {va vb : Value} (h : (∀ cs, va ≠ .agg cs) ∧ va ≠ .nilIface) : (eqGuard op t x y va vb).run P w = .ok () w := by
  unfold eqGuard
  cases op <;> first | rfl | (cases va <;> cases vb <;> first | rfl | exact absurd rfl h.2 | exact absurd rfl (h.1 _))

theorem binOp_eql {t : TypeId} {x y : Value} (h : (∀ k n, x ≠ .int k n) ∧ (∀ k n, x ≠ .float k n) ∧ (∀ k a b, x ≠ .complex k a b) ∧ ∀ s, x ≠ .string s) :
    Go.binOp .eql t x y = (do pure (.bool (← Op.equal t x y))) := by
  obtain ⟨h1, h2, h3, h4⟩ := h
  cases x <;> first | exact absurd rfl (h1 _ _) | exact absurd rfl (h2 _ _) | exact absurd rfl (h3 _ _ _) | exact absurd rfl (h4 _) | rfl

theorem binOp_neq {t : TypeId} {x y : Value} (h : (∀ k n, x ≠ .int k n) ∧ (∀ k n, x ≠ .float k n) ∧ (∀ k a b, x ≠ .complex k a b) ∧ ∀ s, x ≠ .string s) :
    Go.binOp .neq t x y = (do pure (.bool (!(← Op.equal t x y)))) := by
  obtain ⟨h1, h2, h3, h4⟩ := h
  cases x <;> first | exact absurd rfl (h1 _ _) | exact absurd rfl (h2 _ _) | exact absurd rfl (h3 _ _ _) | exact absurd rfl (h4 _) | rfl

theorem equal_bool {t : TypeId} (ht : P.underlying t = some .bool) (x y : Bool) (w : World) : (Op.equal t (.bool x) (.bool y)).run P w = .ok (decide (x = y)) w := by
  have : ∀ m, (Op.equalIn (m + 1) t (.bool x) (.bool y)).run P w = .ok (decide (x = y)) w := by
    intro m
    unfold Op.equalIn
    simp only [Sem.run_bind, run_und ht, Result.andThen_ok, Sem.run_pure]
    cases x <;> cases y <;> rfl
  exact this 9999

theorem nilShape {kind : Nat} {x : AV} {rx : Value} (h : VS C x rx) {b : Bool} (hb : x.isNil kind = some b) :
    ((∀ k n, rx ≠ .int k n) ∧ (∀ k n, rx ≠ .float k n) ∧ (∀ k a b, rx ≠ .complex k a b) ∧ ∀ s, rx ≠ .string s) ∧ (∀ cs, rx ≠ .agg cs) ∧ rx ≠ .nilIface := by
  rcases isNil_vs h hb with ⟨_, p, rfl, _⟩ | ⟨_, p, l, c, rfl, _⟩ | ⟨_, p, rfl, _⟩ | ⟨_, ⟨_, rfl⟩ | ⟨_, f, u, v, rfl⟩⟩ <;> simp

theorem good_minmax (s : ASim B w0 R wr C st w) (f : FSim C n fr a) {c : Call} {x y : Operand} {mx : Bool} (ho : o.op = .call c) (hcal : c.callee = .builtin (if mx then .max else .min))
    (hargs : c.args.toList = [x, y]) {ix iy : IArg} (h1 : cArg x = some ix) (h2 : cArg y = some iy) (h : aop P (.minmax mx ix iy) fr st k) :
    Good P B w0 R wr C k ((execOp a.eval o).run P w) := by
  simp only [aop] at h
  have hx := arg_vs f h1
  have hy := arg_vs f h2
  split at h
  · rename_i kd p kd' q hp hq
    obtain ⟨rfl, h⟩ := h
    rw [hp] at hx; rw [hq] at hy
    have ha : c.args.map a.eval = #[.int kd p, .int kd q] := by
      apply Array.ext'
      simp [hargs, hx.int_inv, hy.int_inv]
    have e : (execOp a.eval o).run P w = .ok (.value (.int kd (if mx then (if p < q then q else p) else (if q < p then q else p)))) w := by
      unfold execOp; rw [ho]
      simp only [resolve, hcal, Sem.run_bind, Sem.run_pure, Result.andThen_ok, invoke, ha]
      cases mx
      · simp [builtin, Builtin.min_, Builtin.min2]
      · simp [builtin, Builtin.max_, Builtin.max2]
    rw [e]
    exact Good.val s (.int _ _) h
  · exact h.elim

theorem good_len (s : ASim B w0 R wr C st w) (f : FSim C n fr a) {c : Call} {x : Operand} {t e : TypeId} (ho : o.op = .call c) (hcal : c.callee = .builtin .len)
    (hargs : c.args.toList = [x]) (hts : c.argTypes.toList = [t]) (hu : P.underlying t = some (.slice e)) {ix : IArg} (h1 : cArg x = some ix) (h : aop P (.len ix) fr st k) :
    Good P B w0 R wr C k ((execOp a.eval o).run P w) := by
  simp only [aop] at h
  have hx := arg_vs f h1
  split at h
  · rename_i m hm
    obtain ⟨p, cc, hp⟩ := slen_vs hx hm
    have ha : c.args.map a.eval = #[.slice p m cc] := by
      apply Array.ext'
      simp [hargs, hp]
    have hts' : c.argTypes = #[t] := Array.ext' hts
    have e : (execOp a.eval o).run P w = .ok (.value (.int .i64 m)) w := by
      unfold execOp; rw [ho]
      simp [resolve, hcal, invoke, ha, builtin, Builtin.len_, hts', run_und hu, goInt]
    rw [e]
    exact Good.val s (.int _ _) h
  · exact h.elim

theorem map_at (s : ASim B w0 R wr C st w) {id : Nat} {es : List (Int × AV)} (h : st.h id = some (.map es)) :
    ∃ rs, w.heap[(C.φ id).1]? = some (.map rs es.length) ∧ rs.size = es.length ∧
      ∀ i (h : i < es.length), (rs.getD i default).key = .int .i64 es[i].1 ∧ VS C es[i].2 (rs.getD i default).val ∧ (rs.getD i default).born = i := s.obj id _ h

theorem run_getMap {b : Nat} {rs : Array MapEntry} {c : Nat} (h : w.heap[b]? = some (.map rs c)) : (getObj b).run P w = .ok (.map rs c) w := by
  simp [getObj, Sem.run, h]

theorem good_mlen (s : ASim B w0 R wr C st w) (f : FSim C n fr a) {c : Call} {x : Operand} {t kt e : TypeId} (ho : o.op = .call c) (hcal : c.callee = .builtin .len)
    (hargs : c.args.toList = [x]) (hts : c.argTypes.toList = [t]) (hu : P.underlying t = some (.map kt e)) {ix : IArg} (h1 : cArg x = some ix) (h : aop P (.mlen ix) fr st k) :
    Good P B w0 R wr C k ((execOp a.eval o).run P w) := by
  simp only [aop] at h
  have hx := arg_vs f h1
  have hts' : c.argTypes = #[t] := Array.ext' hts
  split at h
  · rename_i m hm
    have ha : c.args.map a.eval = #[a.eval x] := by
      apply Array.ext'
      simp [hargs]
    have key : ∃ rv, a.eval x = rv ∧ (Builtin.len_ #[t] o.type #[rv]).run P w = .ok (.int .i64 m) w := by
      refine ⟨_, rfl, ?_⟩
      generalize a.eval x = rx at hx
      generalize fr.val ix = av at hx hm
      cases hx <;> simp only [amlen] at hm <;> try (cases hm; done)
      · simp [Builtin.len_, run_und hu, goInt] at hm ⊢; exact hm
      · split at hm
        · rename_i es hes
          cases hm
          obtain ⟨rs, r1, r2, _⟩ := map_at s hes
          simp [Builtin.len_, run_und hu, goInt, run_getMap r1, r2]
        · cases hm
    obtain ⟨rv, e1, e2⟩ := key
    have e : (execOp a.eval o).run P w = .ok (.value (.int .i64 m)) w := by
      unfold execOp; rw [ho]
      simp only [resolve, hcal, Sem.run_bind, Sem.run_pure, Result.andThen_ok, invoke, ha, builtin, hts']
      rw [e1, e2]; rfl
    rw [e]
    exact Good.val s (.int _ _) h
  · exact h.elim

theorem good_skip {C' : ACx} {st' : ASt} {w' : World} (hC : C.le C') (s : ASim B w0 R wr C' st' w') (h : k (.tup []) st') : Good P B w0 R wr C k (.ok .skip w') :=
  ⟨C', st', hC, s, h⟩

theorem good_store (s : ASim B w0 R wr C st w) (f : FSim C n fr a) {t : TypeId} {x y : Operand} (ho : o.op = .store t x y) (hc : compOp P (.store t x y) = some io) (h : aop P io fr st k) :
    Good P B w0 R wr C k ((execOp a.eval o).run P w) := by
  simp only [compOp] at hc
  split at hc
  · rename_i inf d hi hu
    cases h1 : cArg x with
    | none => simp [h1] at hc
    | some ix =>
    cases h2 : cArg y with
    | none => simp [h1, h2] at hc
    | some iy =>
    simp only [h1, h2] at hc
    have hx := arg_vs f h1
    have hy := arg_vs f h2
    cases ha : aggB P t with
    | true =>
      simp only [ha, if_true] at hc
      cases hc
      simp only [aop] at h
      split at h
      · rename_i id off vs hxe hye
        split at h
        · rename_i cs hh
          obtain ⟨⟨hl1, hl2, hl3⟩, h⟩ := h
          rw [hxe] at hx; rw [hye] at hy
          generalize hrx : a.eval x = rx at hx
          generalize hry : a.eval y = ry at hy
          cases hx with
          | ptr _ _ hid =>
          cases hy with
          | agg _ rs hls hv =>
          obtain ⟨w', r1, s1⟩ := storeCells_sound (P := P) vs rs.toList 0 off cs st w id s hh (by omega) (by simpa using hls) hl2 (fun j hj => by
            have := hv j hj; simpa [List.getD_eq_getElem?_getD, Array.getD_eq_getD_getElem?] using this)
          have e : (Instr.storeAt t (a.eval x) (a.eval y)).run P w = .ok () w' := by
            simp [Instr.storeAt, hrx, hry, Instr.sureAddr, storeVar, Value.cells, run_size hi, hls, hl1, r1]
          unfold execOp; rw [ho]; rw [run_u e]
          exact good_skip (.refl C) s1 (by simpa using h)
        · exact h.elim
      · exact h.elim
    | false =>
      simp only [ha, Bool.false_eq_true, if_false] at hc
      split at hc
      · rename_i hsz
        cases hc
        simp only [aop] at h
        split at h
        · rename_i id off hxe
          split at h
          · rename_i cs hh
            obtain ⟨⟨hlf, hl⟩, h⟩ := h
            rw [hxe] at hx
            generalize hrx : a.eval x = rx at hx
            cases hx with
            | ptr _ _ hid =>
            obtain ⟨w', r1, s1⟩ := store_sound (P := P) s hh hl hy hlf
            have hone := hy.leaf hlf
            have hcells : (a.eval y).cells = #[a.eval y] := by
              generalize a.eval y = ry at hone
              cases ry <;> first | rfl | (simp [Value.oneCell'] at hone)
            have e : (Instr.storeAt t (a.eval x) (a.eval y)).run P w = .ok () w' := by
              simp [Instr.storeAt, hrx, Instr.sureAddr, storeVar, hcells, run_size hi, hsz, storeCells, Addr.add, r1]
            unfold execOp; rw [ho]; rw [run_u e]
            exact good_skip (.refl C) s1 h
          · exact h.elim
        · exact h.elim
      · cases hc
  · cases hc

/-- A new block of cells. -/
theorem alloc_cells (s : ASim B w0 R wr C st w) (t : TypeId) (cs : List AV) (rs : Array Value) (hl : cs.length ≤ rs.size) (hv : ∀ i (h : i < cs.length), VS C cs[i] (rs.getD i undef)) :
    ASim B w0 R wr (C.push (w.heap.size, 0) rs.size) (st.new C.N (.cells cs)) { w with heap := w.heap.push (.cells rs t) } := by
  refine s.alloc _ _ _ ⟨by rw [C.push_bs]; exact hl, rs, t, by rw [C.push_φ]; exact heap_push_eq _ _, by rw [C.push_φ, C.push_bs]; simp, fun i hi => ?_⟩
  rw [C.push_φ]
  simpa using (hv i hi).mono (C.push_le _ _)

theorem good_new (s : ASim B w0 R wr C st w) (t : TypeId) (cs : List AV) (rs : Array Value) (hl : cs.length ≤ rs.size) (hv : ∀ i (h : i < cs.length), VS C cs[i] (rs.getD i undef))
    (h : ∀ id, st.h id = none → k (.ptr id 0) (st.new id (.cells cs))) : Good P B w0 R wr C k (.ok (.value (.pointer (some ⟨w.heap.size, 0, none⟩))) { w with heap := w.heap.push (.cells rs t) }) := by
  refine ⟨_, _, _, C.push_le _ _, alloc_cells s t cs rs hl hv, ?_, h _ s.fresh⟩
  have := VS.ptr (C := C.push (w.heap.size, 0) rs.size) C.N 0 (by rw [C.push_N]; omega)
  rw [C.push_φ] at this
  exact this

theorem zc_spec {t : TypeId} {zs : List AV} (h : zc P t = some zs) (C : ACx) : ∃ i z, P.info? t = some i ∧ i.zero = some z ∧ z.cells.size = zs.length ∧ ∀ j (h : j < zs.length), VS C zs[j] (z.cells.getD j undef) := by
  unfold zc at h
  split at h
  · rename_i i hi
    split at h
    · rename_i z hz
      obtain ⟨h1, _, h3⟩ := cvs_vs C h
      refine ⟨i, z, hi, hz, by simpa using h1, fun j hj => ?_⟩
      have := h3 j hj
      simpa [List.getD_eq_getElem?_getD, Array.getD_eq_getD_getElem?] using this
    · cases h
  · cases h

theorem good_alloc (s : ASim B w0 R wr C st w) (f : FSim C n fr a) {t : TypeId} (ho : o.op = .alloc t) (hc : compOp P (.alloc t) = some io) (h : aop P io fr st k) :
    Good P B w0 R wr C k ((execOp a.eval o).run P w) := by
  obtain ⟨zs, h1, rfl⟩ := map_some hc
  obtain ⟨i, z, hi, hz, hl, hv⟩ := zc_spec h1 C
  have e : (Instr.alloc t true (.tuple #[])).run P w = .ok (.pointer (some ⟨w.heap.size, 0, none⟩)) { w with heap := w.heap.push (.cells z.cells t) } := by
    simp [Instr.alloc, run_zero hi hz, newVar, newRow]
  unfold execOp; rw [ho]; rw [run_v e]
  exact good_new s t zs z.cells (by omega) hv h

theorem good_box (s : ASim B w0 R wr C st w) (f : FSim C n fr a) {t : TypeId} {x : Operand} (ho : o.op = .box t x) (hc : compOp P (.box t x) = some io) (h : aop P io fr st k) :
    Good P B w0 R wr C k ((execOp a.eval o).run P w) := by
  simp only [compOp] at hc
  split at hc
  · obtain ⟨ix, h1, rfl⟩ := map_some hc
    have hx := arg_vs f h1
    have e : ∀ rv, (Instr.box t rv).run P w = .ok (.pointer (some ⟨w.heap.size, 0, none⟩)) { w with heap := w.heap.push (.cells rv.cells t) } := by
      intro rv; simp [Instr.box, newVar, newRow]
    unfold execOp; rw [ho]; rw [run_v (e _)]
    split at h
    · simp only [aop] at h
      split at h
      · rename_i cs hcs
        rw [hcs] at hx
        generalize hrx : a.eval x = rx at hx
        cases hx with
        | agg _ rs hl hv => exact good_new s t cs rs (by omega) hv h
      · exact h.elim
    · simp only [aop] at h
      obtain ⟨hlf, h⟩ := h
      have hone := hx.leaf hlf
      have hcells : (a.eval x).cells = #[a.eval x] := by
        generalize a.eval x = ry at hone
        cases ry <;> first | rfl | (simp [Value.oneCell'] at hone)
      rw [hcells]
      refine good_new s t [fr.val ix] #[a.eval x] (by simp) (fun i hi => ?_) h
      have : i = 0 := by simpa using hi
      subst this
      simpa using hx
  · cases hc

theorem good_makeFunc (s : ASim B w0 R wr C st w) (f : FSim C n fr a) {g : FuncId} {first cap : Array Operand} (ho : o.op = .makeFunc (.func g) first cap) (hc : compOp P (.makeFunc (.func g) first cap) = some io)
    (h : aop P io fr st k) : Good P B w0 R wr C k ((execOp a.eval o).run P w) := by
  simp only [compOp] at hc
  split at hc
  · rename_i h0
    obtain ⟨il, h1, rfl⟩ := map_some hc
    obtain ⟨h2, h3⟩ := args_vs f h1
    have hf : first = #[] := Array.eq_empty_of_size_eq_zero h0
    have e : (execOp a.eval o).run P w = .ok (.value (.func (.func g) #[] (cap.map a.eval))) w := by
      unfold execOp; rw [ho]; simp [Instr.makeFunc, hf]
    rw [e]
    refine Good.val s (.fn g _ _ (by simpa using h2) fun i hi => ?_) h
    have := h3 i hi
    simpa [List.getD_eq_getElem?_getD, Array.getD_eq_getD_getElem?] using this
  · cases hc

theorem hasBody_spec {g : Nat} (h : hasBody P g = true) : ∃ fn, P.funcs[g]? = some fn ∧ fn.body.isNone = false ∧ (fn.name == "runtime.NumGoroutine") = false := by
  unfold hasBody at h
  split at h
  · rename_i fn hf
    refine ⟨fn, hf, ?_, ?_⟩
    · simp at h; cases hb : fn.body with
      | none => simp [hb] at h
      | some b => rfl
    · simp at h; simpa using h.2
  · cases h

theorem run_callFunc {g : Nat} (h : hasBody P g = true) (vs : Array Value) : (callFunc g vs).run P w = .ok (.enter g vs) w := by
  obtain ⟨fn, h1, h2, h3⟩ := hasBody_spec h
  simp only [callFunc, Sem.run_bind, run_program, Result.andThen_ok, h1, h3, Bool.false_eq_true, if_false, h2]
  rfl

theorem good_enter (s : ASim B w0 R wr C st w) {g : Nat} {args : List AV} {vs : Array Value} (hs : vs.size = args.length) (hv : ∀ i (h : i < args.length), VS C args[i] (vs.getD i undef))
    (h : ACalls P g args st k) : Good P B w0 R wr C k (.ok (.enter g vs) w) := h B w0 R wr C w vs s hs hv

theorem good_call (s : ASim B w0 R wr C st w) (f : FSim C n fr a) {c : Call} {g : FuncId} (ho : o.op = .call c) (hcal : c.callee = .value (.func g)) {il : List IArg} (h1 : cArgs c.args.toList = some il)
    (hb : hasBody P g = true) (h : aop P (.call g il) fr st k) : Good P B w0 R wr C k ((execOp a.eval o).run P w) := by
  obtain ⟨h2, h3⟩ := args_vs f h1
  have e : (execOp a.eval o).run P w = .ok (.enter g (c.args.map a.eval)) w := by
    unfold execOp; rw [ho]
    simp [resolve, hcal, Act.eval, Deferred.ofValue, invoke, run_callFunc hb]
  rw [e]
  refine good_enter s (by simpa using h2) (fun i hi => ?_) h
  have := h3 i hi
  simpa [List.getD_eq_getElem?_getD, Array.getD_eq_getD_getElem?] using this

theorem good_callv (s : ASim B w0 R wr C st w) (f : FSim C n fr a) {c : Call} {t : Nat} (ho : o.op = .call c) (hcal : c.callee = .value (.tmp t)) {il : List IArg} (h1 : cArgs c.args.toList = some il)
    (h : aop P (.callv (.slot t) il) fr st k) : Good P B w0 R wr C k ((execOp a.eval o).run P w) := by
  obtain ⟨h2, h3⟩ := args_vs f h1
  simp only [aop] at h
  split at h
  · rename_i g cap hg
    obtain ⟨hb, h⟩ := h
    have hx := arg_vs f (o := .tmp t) (ia := .slot t) rfl
    rw [hg] at hx
    generalize hrx : a.eval (.tmp t) = rx at hx
    cases hx with
    | fn _ _ vs hl hv =>
    have e : (execOp a.eval o).run P w = .ok (.enter g (c.args.map a.eval ++ vs)) w := by
      unfold execOp; rw [ho]
      simp [resolve, hcal, hrx, Deferred.ofValue, invoke, run_callFunc hb]
    rw [e]
    have hl2 : (c.args.map a.eval).size = (fr.vals il).length := by simpa using h2
    refine good_enter s (by simp only [Array.size_append, List.length_append, hl2, hl]) (fun i hi => ?_) h
    by_cases hi' : i < (fr.vals il).length
    · have := h3 i hi'
      rw [List.getElem_append_left hi']
      simp only [Array.getD_eq_getD_getElem?, Array.getElem?_append_left (show i < (c.args.map a.eval).size by omega)]
      simpa [List.getD_eq_getElem?_getD, Array.getD_eq_getD_getElem?] using this
    · have hi2 : i - (fr.vals il).length < cap.length := by simp at hi; omega
      have := hv _ hi2
      rw [List.getElem_append_right (by omega)]
      simp only [Array.getD_eq_getD_getElem?, Array.getElem?_append_right (show (c.args.map a.eval).size ≤ i by omega), hl2]
      simpa [Array.getD_eq_getD_getElem?] using this
  · exact h.elim

end
end Go.Proofs.Ytjamidgdhmjhaaa.Cn
