/- The abstract layer, part 8: each operation that only reckons, or looks, is sound. -/
import Derived.Test.YtjamidgdhmjhaaaCnSound2
set_option linter.unusedSimpArgs false
set_option linter.unusedVariables false
namespace Go.Proofs.Ytjamidgdhmjhaaa.Cn
open Go Go.RowKit

section
variable {P : Program} {B : Nat} {w0 : World} {R : Nat → Prop} {wr : World} {C : ACx} {st : ASt} {w : World} {k : AV → ASt → Prop} {fr : AFr} {a : Act} {n : Nat} {o : Oper} {io : IOp}

theorem map_some {α β : Type} {f : α → β} {x : Option α} {b : β} (h : x.map f = some b) : ∃ y, x = some y ∧ f y = b := by
  cases x with
  | none => cases h
  | some y => exact ⟨y, rfl, by simpa using h⟩

theorem good_move (s : ASim B w0 R wr C st w) (f : FSim C n fr a) {x : Operand} (ho : o.op = .move x ∨ o.op = .assign x) (hc : (cArg x).map IOp.move = some io) (h : aop P io fr st k) :
    Good P B w0 R wr C k ((execOp a.eval o).run P w) := by
  obtain ⟨ix, h1, rfl⟩ := map_some hc
  have e : execOp a.eval o = pure (.value (a.eval x)) := by unfold execOp; rcases ho with ho | ho <;> rw [ho]
  rw [e]
  exact Good.val s (arg_vs f h1) h

theorem good_nilchk (s : ASim B w0 R wr C st w) (f : FSim C n fr a) {x : Operand} (ho : o.op = .nilCheck x) (hc : compOp P (.nilCheck x) = some io) (h : aop P io fr st k) :
    Good P B w0 R wr C k ((execOp a.eval o).run P w) := by
  obtain ⟨ix, h1, rfl⟩ := map_some hc
  have hx := arg_vs f h1
  simp only [aop] at h
  split at h
  · rename_i hn
    rcases isNil_vs hx hn with ⟨_, p, hp, hb⟩ | ⟨e, _⟩ | ⟨e, _⟩ | ⟨e, _⟩ <;> try (cases e)
    have e : execOp a.eval o = pure (.value (a.eval x)) := by
      unfold execOp; rw [ho]
      cases p with
      | none => cases hb
      | some p => simp only [hp]
    rw [e]
    exact Good.val s hx h
  · exact h.elim

theorem good_pick (s : ASim B w0 R wr C st w) (f : FSim C n fr a) {c x y : Operand} (ho : o.op = .pick c x y) (hc : compOp P (.pick c x y) = some io) (h : aop P io fr st k) :
    Good P B w0 R wr C k ((execOp a.eval o).run P w) := by
  simp only [compOp] at hc
  cases h1 : cArg c with
  | none => simp [h1] at hc
  | some ic =>
  cases h2 : cArg x with
  | none => simp [h1, h2] at hc
  | some ix =>
  cases h3 : cArg y with
  | none => simp [h1, h2, h3] at hc
  | some iy =>
  simp [h1, h2, h3] at hc
  subst hc
  simp only [aop] at h
  have hcv := arg_vs f h1
  split at h
  · rename_i t ht
    rw [ht] at hcv
    have e : (execOp a.eval o).run P w = .ok (.value (if t then a.eval x else a.eval y)) w := by
      unfold execOp; rw [ho]; simp [hcv.bool_inv, asBool]
    rw [e]
    refine Good.val s ?_ h
    cases t
    · exact arg_vs f h3
    · exact arg_vs f h2
  · exact h.elim

theorem good_un (s : ASim B w0 R wr C st w) (f : FSim C n fr a) {op : UnOp} {t : TypeId} {x : Operand} (ho : o.op = .unOp op t x) (hc : compOp P (.unOp op t x) = some io) (h : aop P io fr st k) :
    Good P B w0 R wr C k ((execOp a.eval o).run P w) := by
  obtain ⟨ix, h1, rfl⟩ := map_some hc
  simp only [aop] at h
  split at h
  · rename_i v hv
    obtain ⟨rv, h2, h3⟩ := aun_sound (P := P) hv (arg_vs f h1) w
    unfold execOp; rw [ho]; rw [run_v h2]
    exact Good.val s h3 h
  · exact h.elim

theorem good_conv (s : ASim B w0 R wr C st w) (f : FSim C n fr a) {t u : TypeId} {x : Operand} (ho : o.op = .convert t u x) (hc : compOp P (.convert t u x) = some io) (h : aop P io fr st k) :
    Good P B w0 R wr C k ((execOp a.eval o).run P w) := by
  simp only [compOp] at hc
  split at hc
  · rename_i d kd hd hu
    obtain ⟨ix, h1, rfl⟩ := map_some hc
    simp only [aop] at h
    split at h
    · rename_i kk m hm
      have hx := arg_vs f h1
      rw [hm] at hx
      have e : (Go.convert t u (a.eval x)).run P w = .ok (.int kd (kd.wrap m)) w := by
        unfold Go.convert
        simp only [Sem.run_bind, run_und hd, run_und hu, Result.andThen_ok, hx.int_inv]
        simp [Conv.intToInt]
      unfold execOp; rw [ho]; rw [run_v e]
      exact Good.val s (.int _ _) h
    · exact h.elim
  · cases hc

theorem slen_vs {x : AV} {rx : Value} (h : VS C x rx) {m : Nat} (hm : x.slen = some m) : ∃ p c, rx = .slice p m c := by
  cases h <;> simp [AV.slen] at hm <;> subst hm <;> exact ⟨_, _, rfl⟩

theorem good_extract (s : ASim B w0 R wr C st w) (f : FSim C n fr a) {x : Operand} {i : Nat} (ho : o.op = .extract x i) (hc : compOp P (.extract x i) = some io) (h : aop P io fr st k) :
    Good P B w0 R wr C k ((execOp a.eval o).run P w) := by
  obtain ⟨ix, h1, rfl⟩ := map_some hc
  simp only [aop] at h
  split at h
  · rename_i vs hvs
    split at h
    · rename_i v hv
      have hx := arg_vs f h1
      rw [hvs] at hx
      generalize hrx : a.eval x = rx at hx
      cases hx with
      | tup _ rs hl hv' =>
        have hi : i < vs.length := by
          rcases Nat.lt_or_ge i vs.length with h' | h'
          · exact h'
          · rw [List.getElem?_eq_none h'] at hv; cases hv
        have e : (Instr.extract (a.eval x) i).run P w = .ok (rs.getD i undef) w := by
          rw [hrx]
          have : i < rs.size := by omega
          simp [Instr.extract, Array.getElem?_eq_getElem this, Array.getD_eq_getD_getElem?]
        unfold execOp; rw [ho]; rw [run_v e]
        rw [List.getElem?_eq_getElem hi] at hv
        cases hv
        exact Good.val s (hv' i hi) h
    · exact h.elim
  · exact h.elim

theorem good_load (s : ASim B w0 R wr C st w) (f : FSim C n fr a) {t : TypeId} {x : Operand} (ho : o.op = .load t x) (hc : compOp P (.load t x) = some io) (h : aop P io fr st k) :
    Good P B w0 R wr C k ((execOp a.eval o).run P w) := by
  simp only [compOp] at hc
  split at hc
  · rename_i inf d hi hu
    obtain ⟨ix, h1, rfl⟩ := map_some hc
    have hx := arg_vs f h1
    cases ha : aggB P t with
    | true =>
      simp only [ha, if_true, aop] at h
      split at h
      · rename_i v hv
        obtain ⟨b, p, rs, h2, h3, h4⟩ := ldN_sound (P := P) s hv hx
        have e : (Instr.loadAt t (a.eval x)).run P w = .ok (.agg rs) w := by
          simp [Instr.loadAt, Instr.sureAddr, loadVar, h2, run_agg hu, ha, run_size hi, h3]
        unfold execOp; rw [ho]; rw [run_v e]
        exact Good.val s h4 h
      · exact h.elim
    | false =>
      simp only [ha, Bool.false_eq_true, if_false, aop] at h
      split at h
      · rename_i v hv
        obtain ⟨b, p, rv, h2, h3, h4⟩ := ld1_sound s hv hx
        have e : (Instr.loadAt t (a.eval x)).run P w = .ok rv w := by
          simp [Instr.loadAt, Instr.sureAddr, loadVar, h2, run_agg hu, ha, h3]
        unfold execOp; rw [ho]; rw [run_v e]
        exact Good.val s h4 h
      · exact h.elim
  · cases hc

theorem asInt_run {m : Int} {kd : IntKind} (w : World) : (asIntOf (.int kd m)).run P w = .ok (kd, m) w := rfl

theorem good_idxAddr (s : ASim B w0 R wr C st w) (f : FSim C n fr a) {t : TypeId} {x i : Operand} (ho : o.op = .indexAddr t x i) (hc : compOp P (.indexAddr t x i) = some io) (h : aop P io fr st k) :
    Good P B w0 R wr C k ((execOp a.eval o).run P w) := by
  simp only [compOp] at hc
  cases h1 : cArg x with
  | none => simp [h1] at hc
  | some ix =>
  cases h2 : cArg i with
  | none => simp [h1, h2] at hc
  | some ii =>
  simp only [h1, h2] at hc
  have hx := arg_vs f h1
  have hi := arg_vs f h2
  split at hc
  · rename_i e hu
    obtain ⟨inf, h3, rfl⟩ := map_some hc
    simp only [aop] at h
    split at h
    · rename_i szz id off len kd m hxe hie
      obtain ⟨⟨hm1, hm2⟩, h⟩ := h
      rw [hxe] at hx; rw [hie] at hi
      generalize hrx : a.eval x = rx at hx
      cases hx with
      | sl _ _ _ _ off' cap hid hc' ho' hb =>
      have ho'' : off' = off := by rcases ho' with h' | h' <;> omega
      subst ho''
      have e : (Instr.indexAt t (a.eval x) (a.eval i)).run P w = .ok (.pointer (some ⟨(C.φ id).1, (C.φ id).2 + (off' + m.toNat * inf.size), none⟩)) w := by
        simp only [Instr.indexAt, hrx, hi.int_inv, Sem.run_bind, asInt_run, Result.andThen_ok, run_und hu, Sem.run_pure, hm1, hm2, and_self, if_true, run_size h3, addr_add, Nat.add_assoc]
      unfold execOp; rw [ho]; rw [run_v e]
      exact Good.val s (.ptr _ _ hid) h
    · rename_i szz cs len kd m hxe hie
      obtain ⟨⟨hm1, hm2⟩, h⟩ := h
      rw [hxe] at hx; rw [hie] at hi
      generalize hrx : a.eval x = rx at hx
      cases hx with
      | isl _ _ _ b p cap pp hs hn vs hK hv hc' =>
      have hne : len ≠ 0 := by omega
      have hsp := hs hne
      subst hsp
      have e : (Instr.indexAt t (a.eval x) (a.eval i)).run P w = .ok (.pointer (some ⟨b, p + m.toNat * inf.size, none⟩)) w := by
        simp only [Instr.indexAt, hrx, hi.int_inv, Sem.run_bind, asInt_run, Result.andThen_ok, run_und hu, Sem.run_pure, hm1, hm2, and_self, if_true, run_size h3, addr_add, Nat.add_assoc]
      unfold execOp; rw [ho]; rw [run_v e]
      exact Good.val s (.iptr _ _ _ _ vs (hK hne) (hv hne)) h
    · exact h.elim
  · rename_i len e hu
    obtain ⟨inf, h3, rfl⟩ := map_some hc
    simp only [aop] at h
    split at h
    · rename_i id off kd m hxe hie
      obtain ⟨⟨hm1, hm2⟩, h⟩ := h
      rw [hxe] at hx; rw [hie] at hi
      generalize hrx : a.eval x = rx at hx
      cases hx with
      | ptr _ _ hid =>
      have e : (Instr.indexAt t (a.eval x) (a.eval i)).run P w = .ok (.pointer (some ⟨(C.φ id).1, (C.φ id).2 + (off + m.toNat * inf.size), none⟩)) w := by
        simp only [Instr.indexAt, hrx, hi.int_inv, Sem.run_bind, asInt_run, Result.andThen_ok, run_und hu, Instr.sureAddr, Sem.run_pure, hm1, hm2, and_self, if_true, run_size h3, addr_add, Nat.add_assoc]
      unfold execOp; rw [ho]; rw [run_v e]
      exact Good.val s (.ptr _ _ hid) h
    · rename_i cs off kd m hxe hie
      obtain ⟨⟨hm1, hm2⟩, h⟩ := h
      rw [hxe] at hx; rw [hie] at hi
      generalize hrx : a.eval x = rx at hx
      cases hx with
      | iptr _ _ b p vs hK hv =>
      have e : (Instr.indexAt t (a.eval x) (a.eval i)).run P w = .ok (.pointer (some ⟨b, p + (off + m.toNat * inf.size), none⟩)) w := by
        simp only [Instr.indexAt, hrx, hi.int_inv, Sem.run_bind, asInt_run, Result.andThen_ok, run_und hu, Instr.sureAddr, Sem.run_pure, hm1, hm2, and_self, if_true, run_size h3, addr_add, Nat.add_assoc]
      unfold execOp; rw [ho]; rw [run_v e]
      exact Good.val s (.iptr _ _ _ _ vs hK hv) h
    · exact h.elim
  · cases hc

theorem good_fldAddr (s : ASim B w0 R wr C st w) (f : FSim C n fr a) {t : TypeId} {x : Operand} {j : Nat} (ho : o.op = .fieldAddr t x j) (hc : compOp P (.fieldAddr t x j) = some io) (h : aop P io fr st k) :
    Good P B w0 R wr C k ((execOp a.eval o).run P w) := by
  simp only [compOp] at hc
  split at hc
  · rename_i fs hu
    split at hc
    · rename_i fd hfd
      split at hc
      · rename_i inf hinf
        split at hc
        · rename_i hsz
          obtain ⟨ix, h1, rfl⟩ := map_some hc
          have hx := arg_vs f h1
          simp only [aop] at h
          split at h
          · rename_i id off hxe
            rw [hxe] at hx
            generalize hrx : a.eval x = rx at hx
            cases hx with
            | ptr _ _ hid =>
            have e : (Instr.fieldAt t (a.eval x) j).run P w = .ok (.pointer (some ⟨(C.φ id).1, (C.φ id).2 + (off + fd.offset), none⟩)) w := by
              simp [Instr.fieldAt, hrx, run_und hu, hfd, Instr.sureAddr, fieldPlace, run_size hinf, hsz, addr_add, Nat.add_assoc]
            unfold execOp; rw [ho]; rw [run_v e]
            exact Good.val s (.ptr _ _ hid) h
          · rename_i cs off hxe
            rw [hxe] at hx
            generalize hrx : a.eval x = rx at hx
            cases hx with
            | iptr _ _ b p vs hK hv =>
            have e : (Instr.fieldAt t (a.eval x) j).run P w = .ok (.pointer (some ⟨b, p + (off + fd.offset), none⟩)) w := by
              simp [Instr.fieldAt, hrx, run_und hu, hfd, Instr.sureAddr, fieldPlace, run_size hinf, hsz, addr_add, Nat.add_assoc]
            unfold execOp; rw [ho]; rw [run_v e]
            exact Good.val s (.iptr _ _ _ _ vs hK hv) h
          · exact h.elim
        · cases hc
      · cases hc
    · cases hc
  · cases hc

theorem agg_part {cs : List AV} {rs : Array Value} (hl : rs.size = cs.length) (hv : ∀ i (h : i < cs.length), VS C cs[i] (rs.getD i undef)) {off sz : Nat} (h : off + sz ≤ cs.length) :
    VS C (.agg ((cs.drop off).take sz)) (.agg (rs.extract off (off + sz))) := by
  refine .agg _ _ (by simp; omega) fun i hi => ?_
  have hi' : i < sz := by simp at hi; omega
  have := hv (off + i) (by omega)
  have h2 : i < (rs.extract off (off + sz)).size := by simp; omega
  have h3 : off + i < rs.size := by omega
  simp only [Array.getD_eq_getD_getElem?, Array.getElem?_eq_getElem h2, Array.getElem?_eq_getElem h3, Option.getD_some] at this ⊢
  simpa using this

theorem good_field (s : ASim B w0 R wr C st w) (f : FSim C n fr a) {t : TypeId} {x : Operand} {j : Nat} (ho : o.op = .field t x j) (hc : compOp P (.field t x j) = some io) (h : aop P io fr st k) :
    Good P B w0 R wr C k ((execOp a.eval o).run P w) := by
  simp only [compOp] at hc
  split at hc
  · rename_i fs hu
    split at hc
    · rename_i fd hfd
      split at hc
      · rename_i inf d hinf hud
        obtain ⟨ix, h1, rfl⟩ := map_some hc
        have hx := arg_vs f h1
        cases ha : aggB P fd.type with
        | true =>
          simp only [ha, if_true, aop] at h
          split at h
          · rename_i cs hxe
            obtain ⟨hl, h⟩ := h
            rw [hxe] at hx
            generalize hrx : a.eval x = rx at hx
            cases hx with
            | agg _ rs hls hv =>
            have e : (Instr.field t (a.eval x) j).run P w = .ok (.agg (rs.extract fd.offset (fd.offset + inf.size))) w := by
              simp [Instr.field, hrx, run_und hu, hfd, asAgg, part, run_agg hud, ha, run_size hinf]
            unfold execOp; rw [ho]; rw [run_v e]
            exact Good.val s (agg_part hls hv hl) h
          · exact h.elim
        | false =>
          simp only [ha, Bool.false_eq_true, if_false, aop] at h
          split at h
          · rename_i cs hxe
            split at h
            · rename_i v hv0
              rw [hxe] at hx
              generalize hrx : a.eval x = rx at hx
              cases hx with
              | agg _ rs hls hv =>
              have hi : fd.offset < cs.length := by
                rcases Nat.lt_or_ge fd.offset cs.length with h' | h'
                · exact h'
                · rw [List.getElem?_eq_none h'] at hv0; cases hv0
              have hi2 : fd.offset < rs.size := by omega
              have e : (Instr.field t (a.eval x) j).run P w = .ok (rs.getD fd.offset undef) w := by
                simp [Instr.field, hrx, run_und hu, hfd, asAgg, part, run_agg hud, ha, hi2]
              unfold execOp; rw [ho]; rw [run_v e]
              rw [List.getElem?_eq_getElem hi] at hv0
              cases hv0
              exact Good.val s (hv _ hi) h
            · exact h.elim
          · exact h.elim
      · cases hc
    · cases hc
  · cases hc

theorem strAt (s : ByteArray) (i : Nat) : s[i]? = s.data.toList[i]? := by
  rcases Nat.lt_or_ge i s.size with h | h
  · rw [getElem?_pos s i h]
    have h' : i < s.data.toList.length := by simpa using h
    rw [List.getElem?_eq_getElem h']
    rfl
  · rw [getElem?_neg s i (by omega)]
    have h' : s.data.toList.length ≤ i := by simpa using h
    rw [List.getElem?_eq_none h']

theorem good_index (s : ASim B w0 R wr C st w) (f : FSim C n fr a) {t : TypeId} {x i : Operand} (ho : o.op = .index t x i) (hc : compOp P (.index t x i) = some io) (h : aop P io fr st k) :
    Good P B w0 R wr C k ((execOp a.eval o).run P w) := by
  simp only [compOp] at hc
  cases h1 : cArg x with
  | none => simp [h1] at hc
  | some ix =>
  cases h2 : cArg i with
  | none => simp [h1, h2] at hc
  | some ii =>
  simp only [h1, h2] at hc
  have hx := arg_vs f h1
  have hi := arg_vs f h2
  split at hc
  · rename_i len el hu
    split at hc
    · rename_i inf d hinf hud
      cases ha : aggB P el with
      | true =>
        simp only [ha, if_true] at hc
        cases hc
        simp only [aop] at h
        split at h
        · rename_i cs kd m hxe hie
          obtain ⟨⟨hm1, hm2, hl⟩, h⟩ := h
          rw [hxe] at hx; rw [hie] at hi
          generalize hrx : a.eval x = rx at hx
          cases hx with
          | agg _ rs hls hv =>
          have e : (Instr.index t (a.eval x) (a.eval i)).run P w = .ok (.agg (rs.extract (m.toNat * inf.size) (m.toNat * inf.size + inf.size))) w := by
            simp [Instr.index, hrx, hi.int_inv, asInt_run, run_und hu, hm1, hm2, run_size hinf, part, run_agg hud, ha]
          unfold execOp; rw [ho]; rw [run_v e]
          exact Good.val s (agg_part hls hv hl) h
        · exact h.elim
      | false =>
        simp only [ha, Bool.false_eq_true, if_false] at hc
        split at hc
        · rename_i hsz
          cases hc
          simp only [aop] at h
          split at h
          · rename_i cs kd m hxe hie
            obtain ⟨⟨hm1, hm2⟩, h⟩ := h
            split at h
            · rename_i v hv0
              rw [hxe] at hx; rw [hie] at hi
              generalize hrx : a.eval x = rx at hx
              cases hx with
              | agg _ rs hls hv =>
              have hii : m.toNat < cs.length := by
                rcases Nat.lt_or_ge m.toNat cs.length with h' | h'
                · exact h'
                · rw [List.getElem?_eq_none h'] at hv0; cases hv0
              have hi2 : m.toNat < rs.size := by omega
              have e : (Instr.index t (a.eval x) (a.eval i)).run P w = .ok (rs.getD m.toNat undef) w := by
                simp [Instr.index, hrx, hi.int_inv, asInt_run, run_und hu, hm1, hm2, run_size hinf, part, run_agg hud, ha, hsz, hi2]
              unfold execOp; rw [ho]; rw [run_v e]
              rw [List.getElem?_eq_getElem hii] at hv0
              cases hv0
              exact Good.val s (hv _ hii) h
            · exact h.elim
          · exact h.elim
        · cases hc
    · cases hc
  · rename_i hu
    cases hc
    simp only [aop] at h
    split at h
    · rename_i bs kd m hxe hie
      obtain ⟨hm1, h⟩ := h
      split at h
      · rename_i b hv0
        rw [hxe] at hx; rw [hie] at hi
        generalize hrx : a.eval x = rx at hx
        cases hx with
        | str s0 _ hbs =>
        subst hbs
        have hb : ∃ c, s0[m.toNat]? = some c ∧ c.toNat = b := by
          simp only [List.getElem?_map, Option.map_eq_some_iff] at hv0
          obtain ⟨c, h1, h2⟩ := hv0
          refine ⟨c, ?_, h2⟩
          rw [← h1]
          exact strAt s0 m.toNat
        obtain ⟨c, hc1, rfl⟩ := hb
        have e : (Instr.index t (a.eval x) (a.eval i)).run P w = .ok (.int .u8 c.toNat) w := by
          simp [Instr.index, hrx, hi.int_inv, asInt_run, run_und hu, hm1, hc1]
        unfold execOp; rw [ho]; rw [run_v e]
        exact Good.val s (.int _ _) h
      · exact h.elim
    · exact h.elim
  · cases hc

end
end Go.Proofs.Ytjamidgdhmjhaaa.Cn
