/- The abstract layer, part 13: comparisons; every operation is sound. -/
import Derived.Test.YtjamidgdhmjhaaaCnSound7
import Derived.Laws.StructEq
set_option linter.unusedSimpArgs false
set_option linter.unusedVariables false
namespace Go.Proofs.Ytjamidgdhmjhaaa.Cn
open Go Go.RowKit

section
variable {P : Program} {B : Nat} {w0 : World} {R : Nat → Prop} {wr : World} {C : ACx} {st : ASt} {w : World} {k : AV → ASt → Prop} {fr : AFr} {a : Act} {n : Nat} {o : Oper} {io : IOp}

theorem eqFields_plain (rx ry : Array Value) (d : Nat) : ∀ (fs : List Field) (m : Nat) (ks : List Bool) (xs ys : List AV) (b : Bool), fieldKinds P fs m = some ks → aeqL ks xs ys = some b →
    (∀ i (h : i < xs.length), VS C xs[i] (rx.getD (m + i) undef)) → (∀ i (h : i < ys.length), VS C ys[i] (ry.getD (m + i) undef)) → m + xs.length ≤ rx.size → m + ys.length ≤ ry.size →
    (Op.eqFields (d + 1) rx ry fs).run P w = .ok b w
  | [], m, ks, xs, ys, b, hf, he, _, _, _, _ => by
    cases hf
    cases xs <;> cases ys <;> simp [aeqL] at he
    subst he; rfl
  | f :: fs, m, ks, xs, ys, b, hf, he, hx, hy, sx, sy => by
    simp only [fieldKinds] at hf
    split at hf
    · rename_i hc
      obtain ⟨hname, hoff⟩ := hc
      split at hf
      · rename_i kk ks' hu hk
        cases hf
        cases xs with
        | nil => simp [aeqL] at he
        | cons x xs =>
        cases ys with
        | nil => cases x <;> simp [aeqL] at he
        | cons y ys =>
        cases x <;> cases y <;> simp only [aeqL] at he <;> try (cases he; done)
        rename_i k1 i1 k2 i2
        split at he
        · rename_i hkk
          subst hkk
          obtain ⟨b', hb', rfl⟩ := map_some he
          have h0 := (hx 0 (by simp)).int_inv
          have h1 := (hy 0 (by simp)).int_inv
          simp only [Nat.add_zero] at h0 h1
          have lx : m < rx.size := by simp at sx; omega
          have ly : m < ry.size := by simp at sy; omega
          have ha : aggB P f.type = false := by simp [aggB, hu]
          have p0 : (part f.type rx m).run P w = .ok (.int k1 i1) w := by
            simp [part, run_agg hu, ha, lx]; simpa [Array.getD_eq_getD_getElem?, lx] using h0
          have p1 : (part f.type ry m).run P w = .ok (.int k1 i2) w := by
            simp [part, run_agg hu, ha, ly]; simpa [Array.getD_eq_getD_getElem?, ly] using h1
          have ih := eqFields_plain rx ry d fs (m + 1) ks' xs ys b' hk hb' (fun i hi => by have := hx (i + 1) (by simpa using hi); simpa [Nat.add_assoc, Nat.add_comm 1 i] using this)
            (fun i hi => by have := hy (i + 1) (by simpa using hi); simpa [Nat.add_assoc, Nat.add_comm 1 i] using this) (by simp at sx; omega) (by simp at sy; omega)
          simp only [Op.eqFields, hname, ne_eq, not_false_eq_true, if_true, Sem.run_bind, hoff, p0, p1, Result.andThen_ok, run_equalIn_int w d f.type k1 kk i1 i2 hu, Bool.beq_eq_decide_eq, Sem.run_ite, Sem.run_pure, ih]
          by_cases e : i1 = i2 <;> simp [e]
        · cases he
      · rename_i ks' hu hk
        cases hf
        cases xs with
        | nil => simp [aeqL] at he
        | cons x xs =>
        cases ys with
        | nil => cases x <;> simp [aeqL] at he
        | cons y ys =>
        cases x <;> cases y <;> simp only [aeqL] at he <;> try (cases he; done)
        rename_i i1 i2
        obtain ⟨b', hb', rfl⟩ := map_some he
        have h0 := (hx 0 (by simp)).bool_inv
        have h1 := (hy 0 (by simp)).bool_inv
        simp only [Nat.add_zero] at h0 h1
        have lx : m < rx.size := by simp at sx; omega
        have ly : m < ry.size := by simp at sy; omega
        have ha : aggB P f.type = false := by simp [aggB, hu]
        have p0 : (part f.type rx m).run P w = .ok (.bool i1) w := by
          simp [part, run_agg hu, ha, lx]; simpa [Array.getD_eq_getD_getElem?, lx] using h0
        have p1 : (part f.type ry m).run P w = .ok (.bool i2) w := by
          simp [part, run_agg hu, ha, ly]; simpa [Array.getD_eq_getD_getElem?, ly] using h1
        have ih := eqFields_plain rx ry d fs (m + 1) ks' xs ys b' hk hb' (fun i hi => by have := hx (i + 1) (by simpa using hi); simpa [Nat.add_assoc, Nat.add_comm 1 i] using this)
          (fun i hi => by have := hy (i + 1) (by simpa using hi); simpa [Nat.add_assoc, Nat.add_comm 1 i] using this) (by simp at sx; omega) (by simp at sy; omega)
        simp only [Op.eqFields, hname, ne_eq, not_false_eq_true, if_true, Sem.run_bind, hoff, p0, p1, Result.andThen_ok, run_equalIn_bool' w d f.type i1 i2 hu, Sem.run_ite, Sem.run_pure, ih]
        cases i1 <;> cases i2 <;> simp
      · cases hf
    · cases hf

theorem good_binOp (s : ASim B w0 R wr C st w) (f : FSim C n fr a) {op : BinOp} {t u : TypeId} {x y : Operand} (ho : o.op = .binOp op t x y u) (hc : compOp P (.binOp op t x y u) = some io) (h : aop P io fr st k) :
    Good P B w0 R wr C k ((execOp a.eval o).run P w) := by
  simp only [compOp] at hc
  cases h1 : cArg x with
  | none => simp [h1] at hc
  | some ix =>
  cases h2 : cArg y with
  | none => simp [h1, h2] at hc
  | some iy =>
  simp only [h1, h2] at hc
  have hx := arg_vs f h1
  have hy := arg_vs f h2
  have e0 : execOp a.eval o = (do pure (.value (← (do eqGuard op t x y (a.eval x) (a.eval y); Go.binOp op t (a.eval x) (a.eval y))))) := by unfold execOp; rw [ho]
  rw [e0]
  split at hc
  · rename_i kk hu
    cases hc
    simp only [aop] at h
    split at h
    · rename_i v hv
      obtain ⟨rv, r1, r2⟩ := abinv_sound (P := P) hv hx hy t w
      have hg : (eqGuard op t x y (a.eval x) (a.eval y)).run P w = .ok () w := by
        refine eqGuard_pass ?_
        revert hv hx
        generalize fr.val ix = ax
        generalize a.eval x = rx
        intro hx hv
        cases ax <;> try (simp [abinv] at hv; done)
        rw [hx.int_inv]; simp
      have e : (do eqGuard op t x y (a.eval x) (a.eval y); Go.binOp op t (a.eval x) (a.eval y) : Sem Value).run P w = .ok rv w := by
        simp only [Sem.run_bind, hg, Result.andThen_ok, r1]
      rw [run_v e]
      exact Good.val s r2 h
    · exact h.elim
  · rename_i hu
    have key : ∀ neg : Bool, (op = if neg then .neq else .eql) → aop P (.eqB neg ix iy) fr st k → Good P B w0 R wr C k ((do pure (.value (← (do eqGuard op t x y (a.eval x) (a.eval y); Go.binOp op t (a.eval x) (a.eval y)))) : Sem Next).run P w) := by
      intro neg hop h
      simp only [aop] at h
      split at h
      · rename_i p q hp hq
        rw [hp] at hx; rw [hq] at hy
        have e : (do eqGuard op t x y (a.eval x) (a.eval y); Go.binOp op t (a.eval x) (a.eval y) : Sem Value).run P w = .ok (.bool (neg ^^ decide (p = q))) w := by
          rw [hx.bool_inv, hy.bool_inv]
          have hg : (eqGuard op t x y (.bool p) (.bool q)).run P w = .ok () w := eqGuard_pass (by simp)
          simp only [Sem.run_bind, hg, Result.andThen_ok]
          cases neg
          · simp only [Bool.false_eq_true, if_false] at hop; subst hop
            rw [binOp_eql (by simp)]
            simp [equal_bool hu]
          · simp only [if_true] at hop; subst hop
            rw [binOp_neq (by simp)]
            simp [equal_bool hu]
        rw [run_v e]
        exact Good.val s (.bool _) h
      · exact h.elim
    cases op <;> simp only [] at hc <;> cases hc
    · exact key false rfl h
    · exact key true rfl h
  · rename_i fs hu
    split at hc
    · rename_i hcond
      simp only [Bool.and_eq_true, Bool.not_eq_true'] at hcond
      obtain ⟨hsi, hgu⟩ := hcond
      have key : ∀ (neg : Bool) (ks : List Bool), (op = if neg then .neq else .eql) → fieldKinds P fs.toList 0 = some ks → aop P (.eqS ks neg ix iy) fr st k →
          Good P B w0 R wr C k ((do pure (.value (← (do eqGuard op t x y (a.eval x) (a.eval y); Go.binOp op t (a.eval x) (a.eval y)))) : Sem Next).run P w) := by
        intro neg ks hop hks h
        simp only [aop] at h
        split at h
        · rename_i xs ys hp hq
          split at h
          · rename_i b hb
            rw [hp] at hx; rw [hq] at hy
            generalize a.eval x = rx at hx
            generalize a.eval y = ry at hy
            cases hx with
            | agg _ vx lx qx =>
            cases hy with
            | agg _ vy ly qy =>
            have hfo : P.fieldsOf t = fs := by simp [Program.fieldsOf, hu]
            have heq : (Op.equalIn 10000 t (.agg vx) (.agg vy)).run P w = .ok b w := by
              rw [run_equalIn_struct w 9999 t vx vy (by rw [hfo]; exact hu) hsi, hfo]
              exact eqFields_plain vx vy 9998 _ 0 ks xs ys b hks hb (fun i hi => by simpa using qx i hi) (fun i hi => by simpa using qy i hi) (by omega) (by omega)
            have e : (do eqGuard op t x y (.agg vx) (.agg vy); Go.binOp op t (.agg vx) (.agg vy) : Sem Value).run P w = .ok (.bool (neg ^^ b)) w := by
              simp only [Sem.run_bind, run_eqGuard_agg w op t x y vx vy hgu, Result.andThen_ok]
              cases neg
              · simp only [Bool.false_eq_true, if_false] at hop; subst hop
                rw [run_eql_struct, heq]; simp
              · simp only [if_true] at hop; subst hop
                rw [run_neq_struct, heq]; simp
            rw [run_v e]
            exact Good.val s (.bool _) h
          · exact h.elim
        · exact h.elim
      cases op <;> simp only [] at hc <;> try (cases hc; done)
      · obtain ⟨ks, h3, rfl⟩ := map_some hc
        exact key false ks rfl h3 h
      · obtain ⟨ks, h3, rfl⟩ := map_some hc
        exact key true ks rfl h3 h
    · cases hc
  · rename_i d hne1 hne2 hne3 hu
    split at hc
    · rename_i kind hkind
      have key : ∀ neg : Bool, (op = if neg then .neq else .eql) → aop P (.eqP kind neg ix iy) fr st k → Good P B w0 R wr C k ((do pure (.value (← (do eqGuard op t x y (a.eval x) (a.eval y); Go.binOp op t (a.eval x) (a.eval y)))) : Sem Next).run P w) := by
        intro neg hop h
        simp only [aop] at h
        split at h
        · rename_i b hb
          have heq := aeqP_sound (P := P) hb hx hy hu hkind w
          have hsh : ((∀ k n, a.eval x ≠ .int k n) ∧ (∀ k n, a.eval x ≠ .float k n) ∧ (∀ k p q, a.eval x ≠ .complex k p q) ∧ ∀ s, a.eval x ≠ .string s) ∧ (∀ cs, a.eval x ≠ .agg cs) ∧ a.eval x ≠ .nilIface := by
            rcases aeqP_cases hb with ⟨g1, g2⟩ | ⟨g1, g2⟩
            · exact nilShape hx g1
            · exact nilShape hx g1
          have e : (do eqGuard op t x y (a.eval x) (a.eval y); Go.binOp op t (a.eval x) (a.eval y) : Sem Value).run P w = .ok (.bool (neg ^^ b)) w := by
            have hg : (eqGuard op t x y (a.eval x) (a.eval y)).run P w = .ok () w := eqGuard_pass hsh.2
            simp only [Sem.run_bind, hg, Result.andThen_ok]
            cases neg
            · simp only [Bool.false_eq_true, if_false] at hop; subst hop
              rw [binOp_eql hsh.1]; simp [heq]
            · simp only [if_true] at hop; subst hop
              rw [binOp_neq hsh.1]; simp [heq]
          rw [run_v e]
          exact Good.val s (.bool _) h
        · exact h.elim
      cases op <;> simp only [] at hc <;> cases hc
      · exact key false rfl h
      · exact key true rfl h
    · cases hc
  · cases hc

theorem good_callAny (s : ASim B w0 R wr C st w) (f : FSim C n fr a) {c : Call} (ho : o.op = .call c) (hc : compCall P c = some io) (h : aop P io fr st k) :
    Good P B w0 R wr C k ((execOp a.eval o).run P w) := by
  have hc0 := hc
  unfold compCall at hc
  split at hc
  · rename_i g hcal
    split at hc
    · rename_i hb
      obtain ⟨il, h1, rfl⟩ := map_some hc
      exact good_call s f ho hcal h1 hb h
    · cases hc
  · rename_i t hcal
    obtain ⟨il, h1, rfl⟩ := map_some hc
    exact good_callv s f ho hcal h1 h
  · rename_i hcal
    split at hc
    · rename_i x t ha ht
      split at hc
      · rename_i e hu
        obtain ⟨ix, h1, rfl⟩ := map_some hc
        exact good_len s f ho hcal ha ht hu h1 h
      · rename_i kt e hu
        obtain ⟨ix, h1, rfl⟩ := map_some hc
        exact good_mlen s f ho hcal ha ht hu h1 h
      · rename_i m e hu
        cases hc
        simp only [aop] at h
        have hargs : c.args.map a.eval = #[a.eval x] := by
          apply Array.ext'
          simp [ha]
        have hts' : c.argTypes = #[t] := Array.ext' ht
        have e : (execOp a.eval o).run P w = .ok (.value (.int .i64 m)) w := by
          unfold execOp; rw [ho]
          simp only [resolve, hcal, Sem.run_bind, Sem.run_pure, Result.andThen_ok, invoke, hargs, builtin, hts', Builtin.len_, List.getElem?_toArray, List.getElem?_cons_zero, run_und hu]
          rfl
        rw [e]
        exact Good.val s (.int _ _) h
      · cases hc
    · cases hc
  · rename_i hcal
    split at hc
    · rename_i x y ha
      split at hc
      · rename_i ix iy h1 h2
        cases hc
        exact good_minmax (mx := true) s f ho hcal ha h1 h2 h
      · cases hc
    · cases hc
  · rename_i hcal
    split at hc
    · rename_i x y ha
      split at hc
      · rename_i ix iy h1 h2
        cases hc
        exact good_minmax (mx := false) s f ho hcal ha h1 h2 h
      · cases hc
    · cases hc
  · rename_i hcal
    exact good_append s f ho hcal hc0 h
  · cases hc

theorem op_good (s : ASim B w0 R wr C st w) (f : FSim C n fr a) (hc : compOp P o.op = some io) (h : aop P io fr st k) : Good P B w0 R wr C k ((execOp a.eval o).run P w) := by
  cases ho : o.op with
  | move x => rw [ho] at hc; exact good_move s f (.inl ho) hc h
  | assign x => rw [ho] at hc; exact good_move s f (.inr ho) hc h
  | pick c x y => rw [ho] at hc; exact good_pick s f ho hc h
  | nilCheck x => rw [ho] at hc; exact good_nilchk s f ho hc h
  | binOp op t x y u => rw [ho] at hc; exact good_binOp s f ho hc h
  | unOp op t x => rw [ho] at hc; exact good_un s f ho hc h
  | convert t u x => rw [ho] at hc; exact good_conv s f ho hc h
  | indexAddr t x i => rw [ho] at hc; exact good_idxAddr s f ho hc h
  | fieldAddr t x j => rw [ho] at hc; exact good_fldAddr s f ho hc h
  | load t x => rw [ho] at hc; exact good_load s f ho hc h
  | store t x y => rw [ho] at hc; exact good_store s f ho hc h
  | field t x j => rw [ho] at hc; exact good_field s f ho hc h
  | index t x i => rw [ho] at hc; exact good_index s f ho hc h
  | alloc t => rw [ho] at hc; exact good_alloc s f ho hc h
  | box t x => rw [ho] at hc; exact good_box s f ho hc h
  | build t p => rw [ho] at hc; exact good_build s f ho hc h
  | buildSlice t l p => rw [ho] at hc; exact good_buildSlice s f ho hc h
  | makeSlice t l c => rw [ho] at hc; exact good_makeSlice s f ho hc h
  | slice t x l h' m => rw [ho] at hc; exact good_slice s f ho hc h
  | extract x i => rw [ho] at hc; exact good_extract s f ho hc h
  | makeMap t r => rw [ho] at hc; exact good_makeMap s f ho hc h
  | lookup t x i b => rw [ho] at hc; exact good_lookup s f ho hc h
  | mapUpdate t m x v => rw [ho] at hc; exact good_mapSet s f ho hc h
  | mapEntry t m x => rw [ho] at hc; exact good_mapEntry s f ho hc h
  | entryStore t m x v => rw [ho] at hc; exact good_entryStore s f ho hc h
  | makeFunc fn first cap =>
    rw [ho] at hc
    cases fn with
    | func g => exact good_makeFunc s f ho hc h
    | _ => cases hc
  | call c => rw [ho] at hc; exact good_callAny s f ho hc h
  | _ => rw [ho] at hc; cases hc

end
end Go.Proofs.Ytjamidgdhmjhaaa.Cn
