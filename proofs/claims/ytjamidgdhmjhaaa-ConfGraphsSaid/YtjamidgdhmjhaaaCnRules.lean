/- The abstract layer, part 19: rules for contracts. -/
import Derived.Test.YtjamidgdhmjhaaaCnCode
set_option linter.unusedSimpArgs false
set_option linter.unusedVariables false
namespace Go.Proofs.Ytjamidgdhmjhaaa.Cn
open Go Go.RowKit

/-- What is to hold behind a call: it is looked at when the call is over. -/
class Cont where
  k : AV → ASt → Prop

/-- A call, and what is to hold behind it. -/
def ACallsK (P : Program) (f : Nat) (args : List AV) (st : ASt) [c : Cont] : Prop := ACalls P f args st c.k

theorem aop_call {P : Program} {f : Nat} {args : List IArg} {fr : AFr} {st : ASt} {k : AV → ASt → Prop} : aop P (.call f args) fr st k = @ACallsK P f (fr.vals args) st ⟨k⟩ := rfl
theorem aop_callv {P : Program} {f : IArg} {args : List IArg} {fr : AFr} {st : ASt} {k : AV → ASt → Prop} : aop P (.callv f args) fr st k = match fr.val f with
    | .fn g cap => hasBody P g = true ∧ @ACallsK P g (fr.vals args ++ cap) st ⟨k⟩
    | _ => False := rfl

section
variable {P : Program} {B : Nat} {w0 : World} {R : Nat → Prop} {wr : World} {C : ACx} {st st1 : ASt} {w : World}

/-- Fewer blocks may be spoken of. -/
theorem ASim.sub (s : ASim B w0 R wr C st w) (h : st1.le st) : ASim B w0 R wr C st1 w := by
  have up : ∀ i, st1.h i ≠ none → st.h i ≠ none := by
    intro i hi
    cases hx : st1.h i with
    | none => exact absurd hx hi
    | some o => rw [h i o hx]; simp
  exact
  { live := fun i hi => s.live i (up i hi)
    below := s.below
    hB := s.hB
    inj := fun i j hi hj e => s.inj i j (up i hi) (up j hj) e
    lo := fun i hi => s.lo i (up i hi)
    obj := fun i o ho => s.obj i o (h i o ho)
    imm := fun b p v hv => by obtain ⟨a, b', c⟩ := s.imm b p v hv; exact ⟨a, b', fun i hi => c i (up i hi)⟩
    res := fun b hb => by obtain ⟨a, b', c⟩ := s.res b hb; exact ⟨a, b', fun i hi => c i (up i hi)⟩ }

/-- What is handed back may be seen otherwise. -/
def Ghost (v : AV) (st : ASt) (v1 : AV) (st1 : ASt) : Prop :=
  ∀ B w0 R wr C w rv, ASim B w0 R wr C st w → VS C v rv → ∃ C', C.le C' ∧ ASim B w0 R wr C' st1 w ∧ VS C' v1 rv

theorem Ghost.refl (v : AV) (st : ASt) : Ghost v st v st := fun _ _ _ _ C _ _ s h => ⟨C, .refl C, s, h⟩
theorem Ghost.trans {v v1 v2 : AV} {st st1 st2 : ASt} (h : Ghost v st v1 st1) (k : Ghost v1 st1 v2 st2) : Ghost v st v2 st2 := fun B w0 R wr C w rv s x => by
  obtain ⟨C1, h1, s1, x1⟩ := h B w0 R wr C w rv s x
  obtain ⟨C2, h2, s2, x2⟩ := k B w0 R wr C1 w rv s1 x1
  exact ⟨C2, h1.trans h2, s2, x2⟩
theorem Ghost.sub {v : AV} (h : st1.le st) : Ghost v st v st1 := fun _ _ _ _ C _ _ s x => ⟨C, .refl C, s.sub h, x⟩

theorem ACalls.ghost {f : Nat} {args : List AV} {Q Q' : AV → ASt → Prop} (h : ACalls P f args st Q') (hq : ∀ v st', Q' v st' → ∃ v1 st1, Ghost v st' v1 st1 ∧ Q v1 st1) : ACalls P f args st Q :=
  fun B w0 R wr C w vs s h1 h2 => (h B w0 R wr C w vs s h1 h2).mono fun e w' ⟨C', v, st', rv, a, b, c, d, q⟩ => by
    obtain ⟨v1, st1, g, hq1⟩ := hq v st' q
    obtain ⟨C2, g1, g2, g3⟩ := g B w0 R wr C' w' rv b d
    exact ⟨C2, v1, st1, rv, a.trans g1, g2, c, g3, hq1⟩

/-- Blocks that nobody speaks of any more may be forgotten. -/
theorem ACalls.gc {f : Nat} {args : List AV} {Q Q' : AV → ASt → Prop} (h : ACalls P f args st Q') (hq : ∀ v st', Q' v st' → ∃ st1, st1.le st' ∧ Q v st1) : ACalls P f args st Q :=
  h.ghost fun v st' q => by obtain ⟨st1, hl, hq1⟩ := hq v st' q; exact ⟨v, st1, Ghost.sub hl, hq1⟩

/-- The heap of a call may be thought of as smaller ahead of it. -/
theorem ACalls.less {f : Nat} {args : List AV} {Q : AV → ASt → Prop} (h : ACalls P f args st1 Q) (hl : st1.le st) : ACalls P f args st Q :=
  fun B w0 R wr C w vs s h1 h2 => h B w0 R wr C w vs (s.sub hl) h1 h2

end

/-- An owned block is let go for good: what it holds never changes any more. -/
theorem ASim.freeze {B : Nat} {w0 : World} {R : Nat → Prop} {wr : World} {C : ACx} {st : ASt} {w : World} (s : ASim B w0 R wr C st w) {id : Nat} {cm : List AV} (h : st.h id = some (.cells cm)) :
    ∃ C', C.le C' ∧ ASim B w0 R wr C' (st.kill id) w ∧ ∀ sz off len rv, VS C (.sl sz id off len) rv → off ≤ cm.length → VS C' (.isl sz (cm.drop off) len) rv := by
  obtain ⟨hl, c, t, hw, hs, hv⟩ := s.obj id _ h
  have hidl : st.h id ≠ none := by rw [h]; simp
  let C' : ACx := { C with K := fun b o => if b = (C.φ id).1 ∧ (C.φ id).2 ≤ o ∧ o < (C.φ id).2 + cm.length then some (c.getD o undef) else C.K b o }
  have hCle : C.le C' := ⟨Nat.le_refl _, fun _ _ => rfl, fun _ _ => rfl, fun b o v hk => by
    have : C'.K b o = C.K b o := by
      show (if b = (C.φ id).1 ∧ (C.φ id).2 ≤ o ∧ o < (C.φ id).2 + cm.length then some (c.getD o undef) else C.K b o) = _
      rw [if_neg]
      rintro ⟨rfl, _⟩
      exact (s.imm _ o v hk).2.2 id hidl rfl
    rw [this]; exact hk⟩
  have sk := s.kill id
  refine ⟨C', hCle, { live := sk.live, below := sk.below, hB := sk.hB, inj := sk.inj, lo := sk.lo, obj := fun i o ho => ObjSim.mono hCle (sk.lt ho) (sk.obj i o ho), imm := fun b o v hk => ?_, res := sk.res }, ?_⟩
  · have hk' : (if b = (C.φ id).1 ∧ (C.φ id).2 ≤ o ∧ o < (C.φ id).2 + cm.length then some (c.getD o undef) else C.K b o) = some v := hk
    split at hk'
    · rename_i hc
      obtain ⟨rfl, h1, h2⟩ := hc
      cases hk'
      refine ⟨?_, fun hr => (s.res _ hr).2.2 id hidl rfl, fun i hi e => ?_⟩
      · have : o < c.size := by omega
        simp [World.cell?, hw, this]
      · obtain ⟨hne, hli⟩ := ASt.kill_live hi
        exact hne (s.inj i id hli hidl e)
    · exact sk.imm b o v hk'
  · intro sz off len rv hx hoff
    obtain ⟨off', cap, rfl, hid, hcc, ho', hb⟩ := hx.sl_inv
    by_cases h0 : len = 0
    · subst h0
      exact .isl _ _ _ 0 0 _ _ (fun e => absurd rfl e) (fun e => by cases e) (fun _ => undef) (fun e => absurd rfl e) (fun e => absurd rfl e) hcc
    · have : off' = off := ho'.resolve_left h0
      subst this
      refine .isl _ _ _ _ _ _ _ (fun _ => rfl) (fun e => by cases e) (fun i => c.getD ((C.φ id).2 + (off' + i)) undef) (fun _ i hi => ?_) (fun _ i hi => ?_) hcc
      · show (if _ ∧ _ then _ else _) = _
        simp at hi
        rw [if_pos ⟨rfl, by omega, by omega⟩, Nat.add_assoc]
      · simp at hi
        have := (hv (off' + i) (by omega)).mono hCle
        simpa using this

/-- A slice that is handed back is let go for good. -/
theorem Ghost.freeze {st : ASt} {id sz len : Nat} {cm : List AV} (h : st.h id = some (.cells cm)) : Ghost (.sl sz id 0 len) st (.isl sz cm len) (st.kill id) :=
  fun B w0 R wr C w rv s x => by
    obtain ⟨C', h1, h2, h3⟩ := s.freeze h
    exact ⟨C', h1, h2, by simpa using h3 sz 0 len rv x (Nat.zero_le _)⟩

/-- A slice in a cell is let go for good. -/
theorem Ghost.cell {v : AV} {st : ASt} {id im sz len j : Nat} {cs cm : List AV} (h : st.h id = some (.cells cs)) (hj : cs[j]? = some (.sl sz im 0 len)) (hm : st.h im = some (.cells cm)) (hne : id ≠ im) :
    Ghost v st v ((st.kill im).set id (.cells (cs.set j (.isl sz cm len)))) :=
  fun B w0 R wr C w rv s x => by
    obtain ⟨C', h1, h2, h3⟩ := s.freeze hm
    refine ⟨C', h1, ?_, x.mono h1⟩
    have hk : (st.kill im).h id = some (.cells cs) := by rw [ASt.kill_h, if_neg hne]; exact h
    refine h2.wrote hk w _ rfl rfl rfl rfl (fun _ _ => rfl) ?_
    obtain ⟨a1, c, t, a2, a3, a4⟩ := h2.obj id _ hk
    have hjl : j < cs.length := by
      rcases Nat.lt_or_ge j cs.length with h' | h'
      · exact h'
      · rw [List.getElem?_eq_none h'] at hj; cases hj
    obtain ⟨b1, c', t', b2, b3, b4⟩ := s.obj id _ h
    refine ⟨by simpa using a1, c, t, a2, a3, fun i hi => ?_⟩
    by_cases e : j = i
    · subst e
      have hφ : C'.φ id = C.φ id := h1.φ id (s.lt h)
      rw [hφ] at a2 ⊢
      rw [a2] at b2
      cases b2
      have := b4 j hjl
      rw [List.getElem?_eq_getElem hjl] at hj
      cases hj' : cs[j] with
      | sl sz' im' off' len' =>
        rw [hj'] at hj this
        cases hj
        simpa using h3 _ _ _ _ this (Nat.zero_le _)
      | _ => rw [hj'] at hj; cases hj
    · simp only [List.getElem_set_ne e]
      exact a4 i (by simpa using hi)

theorem ASt.kill_le (st : ASt) (id : Nat) : (st.kill id).le st := fun i o h => by
  rw [ASt.kill_h] at h; split at h
  · cases h
  · exact h

theorem ASt.le.set {s t : ASt} (h : s.le t) (id : Nat) (o : AObj) : (s.set id o).le (t.set id o) := fun i x hx => by
  rw [ASt.set_h] at hx ⊢
  split at hx
  · rename_i e
    rw [if_pos e]
    cases hs : s.h i with
    | none => rw [hs] at hx; cases hx
    | some y => rw [hs] at hx; rw [h i y hs]; exact hx
  · rename_i e
    rw [if_neg e]
    exact h i x hx
theorem ASt.le.set_new (s : ASt) (a : Nat) (x : AObj) (id : Nat) (o : AObj) : (s.set id o).le ((s.new a x).set id o) := (ASt.le.new s a x).set id o

/-- All blocks but these are as they were. -/
def ASt.off (l : List Nat) (s t : ASt) : Prop := ∀ j, j ∉ l → t.h j = s.h j
theorem ASt.off.refl (l : List Nat) (s : ASt) : s.off l s := fun _ _ => rfl
theorem ASt.off.trans {l : List Nat} {a b c : ASt} (h : a.off l b) (k : b.off l c) : a.off l c := fun j hj => (k j hj).trans (h j hj)
theorem ASt.off.set {l : List Nat} {s t : ASt} (h : s.off l t) {id : Nat} (o : AObj) (hi : id ∈ l) : s.off l (t.set id o) := fun j hj => by
  rw [ASt.set_h, if_neg (by rintro rfl; exact hj hi)]; exact h j hj

theorem slen_nils : AV.nils.slen = some 0 := rfl
theorem slen_emp : AV.emp.slen = some 0 := rfl
theorem slen_isl (sz : Nat) (cs : List AV) (n : Nat) : (AV.isl sz cs n).slen = some n := rfl
theorem slen_sl (sz id off n : Nat) : (AV.sl sz id off n).slen = some n := rfl
theorem isNil_nilp : AV.nilp.isNil 0 = some true := rfl
theorem isNil_ptr (id off : Nat) : (AV.ptr id off).isNil 0 = some false := rfl
theorem isNil_iptr (cs : List AV) (off : Nat) : (AV.iptr cs off).isNil 0 = some false := rfl
theorem isNil_nils : AV.nils.isNil 1 = some true := rfl
theorem isNil_sl (sz id off n : Nat) : (AV.sl sz id off n).isNil 1 = some false := rfl
theorem isNil_isl (sz : Nat) (cs : List AV) {n : Nat} (h : n ≠ 0) : (AV.isl sz cs n).isNil 1 = some false := by
  cases n with
  | zero => exact absurd rfl h
  | succ n => rfl
theorem isNil_nn : AV.nn.isNil 1 = some false := rfl
theorem slen_nn : AV.nn.slen = some 0 := rfl
theorem isNil_nilm : AV.nilm.isNil 2 = some true := rfl
theorem isNil_map (id : Nat) : (AV.map id).isNil 2 = some false := rfl
theorem isNil_nilf : AV.nilf.isNil 3 = some true := rfl
theorem isNil_fn (f : Nat) (c : List AV) : (AV.fn f c).isNil 3 = some false := rfl
theorem ld1_ptr (st : ASt) (id off : Nat) : st.ld1 (.ptr id off) = match st.h id with
    | some (.cells cs) => cs[off]?
    | _ => none := rfl
theorem ld1_iptr (st : ASt) (cs : List AV) (off : Nat) : st.ld1 (.iptr cs off) = cs[off]? := rfl
theorem ldN_ptr (st : ASt) (sz id off : Nat) : st.ldN sz (.ptr id off) = match st.h id with
    | some (.cells cs) => if off + sz ≤ cs.length then some (.agg ((cs.drop off).take sz)) else none
    | _ => none := rfl
theorem ldN_iptr (st : ASt) (sz : Nat) (cs : List AV) (off : Nat) : st.ldN sz (.iptr cs off) = if off + sz ≤ cs.length then some (.agg ((cs.drop off).take sz)) else none := rfl
theorem leaf_int (k : IntKind) (n : Int) : (AV.int k n).leaf = true := rfl
theorem leaf_bool (b : Bool) : (AV.bool b).leaf = true := rfl
theorem leaf_ptr (id off : Nat) : (AV.ptr id off).leaf = true := rfl
theorem leaf_nilp : AV.nilp.leaf = true := rfl
theorem leaf_sl (sz id off n : Nat) : (AV.sl sz id off n).leaf = true := rfl
theorem leaf_isl (sz : Nat) (cs : List AV) (n : Nat) : (AV.isl sz cs n).leaf = true := rfl
theorem leaf_nils : AV.nils.leaf = true := rfl
theorem leaf_emp : AV.emp.leaf = true := rfl
theorem leaf_map (id : Nat) : (AV.map id).leaf = true := rfl
theorem leaf_nilm : AV.nilm.leaf = true := rfl
theorem leaf_fn (f : Nat) (c : List AV) : (AV.fn f c).leaf = true := rfl
theorem leaf_nilf : AV.nilf.leaf = true := rfl
theorem part_agg (cs : List AV) : (AV.agg cs).part = some cs := rfl
theorem part_leaf {v : AV} (h : v.leaf = true) : v.part = some [v] := by cases v <;> first | rfl | cases h
theorem part_int (k : IntKind) (n : Int) : (AV.int k n).part = some [.int k n] := rfl
theorem part_bool (b : Bool) : (AV.bool b).part = some [.bool b] := rfl
theorem part_sl (sz id off n : Nat) : (AV.sl sz id off n).part = some [.sl sz id off n] := rfl
theorem part_isl (sz : Nat) (cs : List AV) (n : Nat) : (AV.isl sz cs n).part = some [.isl sz cs n] := rfl
theorem part_nils : AV.nils.part = some [.nils] := rfl
theorem part_emp : AV.emp.part = some [.emp] := rfl
theorem part_ptr (id off : Nat) : (AV.ptr id off).part = some [.ptr id off] := rfl
theorem part_nilp : AV.nilp.part = some [.nilp] := rfl
theorem part_map (id : Nat) : (AV.map id).part = some [.map id] := rfl
theorem part_fn (f : Nat) (c : List AV) : (AV.fn f c).part = some [.fn f c] := rfl
theorem abin_add (k : IntKind) (a b : Int) : abin .add k a b = some (.int k (k.wrap (a + b))) := rfl

theorem AFr.set_some (fr : AFr) (d : Nat) (v : AV) : fr.set (some d) v = (d, v) :: fr := rfl
theorem AFr.set_none (fr : AFr) (v : AV) : fr.set none v = fr := rfl
theorem AFr.keep_nil (fr : AFr) : fr.keep [] = [] := rfl
theorem AFr.keep_cons (fr : AFr) (k : Nat) (ks : List Nat) : fr.keep (k :: ks) = (k, fr.get k) :: fr.keep ks := rfl
theorem AFr.val_slot (fr : AFr) (n : Nat) : fr.val (.slot n) = fr.get n := rfl
theorem AFr.val_cst (fr : AFr) (v : AV) : fr.val (.cst v) = v := rfl
theorem AFr.val_fnc (fr : AFr) (f : Nat) : fr.val (.fnc f) = .fn f [] := rfl
theorem AFr.vals_nil (fr : AFr) : fr.vals [] = [] := rfl
theorem AFr.vals_cons (fr : AFr) (x : IArg) (r : List IArg) : fr.vals (x :: r) = fr.val x :: fr.vals r := rfl

section
variable {P : Program}
theorem awp_keep (ks : List Nat) (c : ICode) (Q : IExit → AFr → ASt → Prop) (fr : AFr) (st : ASt) : awp P (.keep ks c) Q fr st = awp P c Q (fr.keep ks) st := rfl
theorem awp_seq (a b : ICode) (Q : IExit → AFr → ASt → Prop) (fr : AFr) (st : ASt) : awp P (.seq a b) Q fr st = awp P a (IExit.then (awp P b Q) Q) fr st := rfl
theorem awp_skip (Q : IExit → AFr → ASt → Prop) (fr : AFr) (st : ASt) : awp P .skip Q fr st = Q .normal fr st := rfl
theorem awp_exit (id : Nat) (Q : IExit → AFr → ASt → Prop) (fr : AFr) (st : ASt) : awp P (.exit id) Q fr st = Q (.exit id) fr st := rfl
theorem awp_ret (Q : IExit → AFr → ASt → Prop) (fr : AFr) (st : ASt) : awp P .ret Q fr st = Q .ret fr st := rfl
theorem awp_region (ops : List IOper) (Q : IExit → AFr → ASt → Prop) (fr : AFr) (st : ASt) : awp P (.region ops) Q fr st = aops P ops (Q .normal) fr st := rfl
theorem awp_block (id : Nat) (c : ICode) (Q : IExit → AFr → ASt → Prop) (fr : AFr) (st : ASt) : awp P (.block id c) Q fr st = awp P c (IExit.inBlock id Q) fr st := rfl
theorem awp_cond (c : IArg) (a b : ICode) (Q : IExit → AFr → ASt → Prop) (fr : AFr) (st : ASt) : awp P (.cond c a b) Q fr st = match fr.val c with
    | .bool t => if t then awp P a Q fr st else awp P b Q fr st
    | _ => False := rfl
theorem awp_loop {c : ICode} {Q : IExit → AFr → ASt → Prop} {fr : AFr} {st : ASt} (I : AFr → ASt → Prop) (μ : AFr → ASt → Nat) (h0 : I fr st)
    (h : ∀ fr st, I fr st → awp P c (IExit.then (fun fr' st' => I fr' st' ∧ μ fr' st' < μ fr st) Q) fr st) : awp P (.loop c) Q fr st := ⟨I, μ, h0, h⟩
theorem aops_nil (k : AFr → ASt → Prop) (fr : AFr) (st : ASt) : aops P [] k fr st = k fr st := rfl
theorem aops_cons (o : IOper) (os : List IOper) (k : AFr → ASt → Prop) (fr : AFr) (st : ASt) :
    aops P (o :: os) k fr st = (aheadOk fr o.ahead ∧ astep0 P o (fun fr' st' => heldOk st' fr' o.held ∧ aops P os k fr' st') fr st) := rfl
/-- A value is reckoned before what follows is looked at. -/
def Strict (v : AV) (st : ASt) [c : Cont] : Prop := c.k v st
theorem strict_go (v : AV) (st : ASt) (k : AV → ASt → Prop) : @Strict v st ⟨k⟩ = k v st := rfl

/-- The plain step. -/
theorem aops_plain (d : Option Nat) (op : IOp) (os : List IOper) (k : AFr → ASt → Prop) (fr : AFr) (st : ASt) :
    aops P (⟨d, op, none, [], []⟩ :: os) k fr st = aop P op fr st fun v st' => @Strict v st' ⟨fun v st' => aops P os k (fr.set d v) st'⟩ := by
  simp only [aops, aheadOk, astep0, heldOk, true_and]; rfl
theorem aops_guard (d : Option Nat) (op : IOp) (g : Nat) (want : Bool) (os : List IOper) (k : AFr → ASt → Prop) (fr : AFr) (st : ASt) :
    aops P (⟨d, op, some (g, want), [], []⟩ :: os) k fr st = match fr.get g with
    | .bool b => if b = want then aop P op fr st (fun v st' => @Strict v st' ⟨fun v st' => aops P os k (fr.set d v) st'⟩) else aops P os k (fr.set d (.tup [])) st
    | .tup [] => aops P os k (fr.set d (.tup [])) st
    | _ => False := by
  simp only [aops, aheadOk, astep0, heldOk, true_and]
  rfl
theorem astep0_none (d : Option Nat) (op : IOp) (h : List IHeld) (a : List (IArg × IArg)) (k : AFr → ASt → Prop) (fr : AFr) (st : ASt) :
    astep0 P ⟨d, op, none, h, a⟩ k fr st = aop P op fr st fun v st' => @Strict v st' ⟨fun v st' => k (fr.set d v) st'⟩ := rfl
theorem astep0_some (d : Option Nat) (op : IOp) (g : Nat) (want : Bool) (h : List IHeld) (a : List (IArg × IArg)) (k : AFr → ASt → Prop) (fr : AFr) (st : ASt) :
    astep0 P ⟨d, op, some (g, want), h, a⟩ k fr st = match fr.get g with
    | .bool b => if b = want then aop P op fr st (fun v st' => @Strict v st' ⟨fun v st' => k (fr.set d v) st'⟩) else k (fr.set d (.tup [])) st
    | .tup [] => k (fr.set d (.tup [])) st
    | _ => False := rfl
theorem then_normal (next : AFr → ASt → Prop) (Q : IExit → AFr → ASt → Prop) (fr : AFr) (st : ASt) : IExit.then next Q .normal fr st = next fr st := rfl
theorem then_exit (next : AFr → ASt → Prop) (Q : IExit → AFr → ASt → Prop) (i : Nat) (fr : AFr) (st : ASt) : IExit.then next Q (.exit i) fr st = Q (.exit i) fr st := rfl
theorem then_ret (next : AFr → ASt → Prop) (Q : IExit → AFr → ASt → Prop) (fr : AFr) (st : ASt) : IExit.then next Q .ret fr st = Q .ret fr st := rfl
theorem in_normal (id : Nat) (Q : IExit → AFr → ASt → Prop) (fr : AFr) (st : ASt) : IExit.inBlock id Q .normal fr st = Q .normal fr st := rfl
theorem in_exit (id : Nat) (Q : IExit → AFr → ASt → Prop) (i : Nat) (fr : AFr) (st : ASt) : IExit.inBlock id Q (.exit i) fr st = if i = id then Q .normal fr st else Q (.exit i) fr st := rfl
theorem in_ret (id : Nat) (Q : IExit → AFr → ASt → Prop) (fr : AFr) (st : ASt) : IExit.inBlock id Q .ret fr st = Q .ret fr st := rfl
theorem then_normal' (next : AFr → ASt → Prop) (Q : IExit → AFr → ASt → Prop) : IExit.then next Q .normal = next := rfl
theorem in_normal' (id : Nat) (Q : IExit → AFr → ASt → Prop) : IExit.inBlock id Q .normal = Q .normal := rfl
theorem post_normal (res : List IRes) (Q : AV → ASt → Prop) (fr : AFr) (st : ASt) : Post res Q .normal fr st = Ret res Q fr st := rfl
theorem post_ret (res : List IRes) (Q : AV → ASt → Prop) (fr : AFr) (st : ASt) : Post res Q .ret fr st = Ret res Q fr st := rfl
theorem ret_1 (n : Nat) (Q : AV → ASt → Prop) (fr : AFr) (st : ASt) : Ret [.slot n] Q fr st = Q (fr.get n) st := rfl
theorem ret_2 (n m : Nat) (Q : AV → ASt → Prop) (fr : AFr) (st : ASt) : Ret [.slot n, .slot m] Q fr st = Q (.tup [fr.get n, fr.get m]) st := rfl
theorem ret_3 (n m l : Nat) (Q : AV → ASt → Prop) (fr : AFr) (st : ASt) : Ret [.slot n, .slot m, .slot l] Q fr st = Q (.tup [fr.get n, fr.get m, fr.get l]) st := rfl
theorem ret_N (n sz : Nat) (Q : AV → ASt → Prop) (fr : AFr) (st : ASt) : Ret [.cellN n sz] Q fr st = match st.ldN sz (fr.get n) with
    | some v => Q v st
    | none => False := by
  simp only [Ret, resVals, resVal]
  cases st.ldN sz (fr.get n) <;> rfl
theorem ret_N1 (n sz m : Nat) (Q : AV → ASt → Prop) (fr : AFr) (st : ASt) : Ret [.cellN n sz, .slot m] Q fr st = match st.ldN sz (fr.get n) with
    | some v => Q (.tup [v, fr.get m]) st
    | none => False := by
  simp only [Ret, resVals, resVal]
  cases st.ldN sz (fr.get n) <;> rfl
theorem ret_0 (Q : AV → ASt → Prop) (fr : AFr) (st : ASt) : Ret [] Q fr st = Q (.tup []) st := rfl
end

theorem awp_mono {P : Program} : ∀ (c : ICode) {Q Q' : IExit → AFr → ASt → Prop} {fr : AFr} {st : ASt}, (∀ e fr st, Q e fr st → Q' e fr st) → awp P c Q fr st → awp P c Q' fr st
  | .skip, _, _, _, _, hq, h => hq _ _ _ h
  | .region ops, _, _, _, _, hq, h => aops_mono (fun _ _ x => hq _ _ _ x) h
  | .keep ks c, _, _, _, _, hq, h => awp_mono c hq h
  | .ghost c, _, _, _, _, hq, h => by
    obtain ⟨fr1, st1, hg, h1⟩ := h
    exact ⟨fr1, st1, hg, awp_mono c hq h1⟩
  | .seq a b, Q, Q', _, _, hq, h => awp_mono a (fun e fr st x => by
      cases e with
      | normal => exact awp_mono b hq x
      | _ => exact hq _ _ _ x) h
  | .cond c a b, _, _, fr, st, hq, h => by
      simp only [awp] at h ⊢
      cases hv : fr.val c with
      | bool t =>
        rw [hv] at h
        dsimp only at h ⊢
        split
        · rename_i h'; rw [if_pos h'] at h; exact awp_mono a hq h
        · rename_i h'; rw [if_neg h'] at h; exact awp_mono b hq h
      | _ => rw [hv] at h; exact h
  | .block id c, Q, Q', _, _, hq, h => awp_mono c (fun e fr st x => by
      cases e with
      | exit i =>
        simp only [IExit.inBlock] at x ⊢
        split
        · rename_i h'; rw [if_pos h'] at x; exact hq _ _ _ x
        · rename_i h'; rw [if_neg h'] at x; exact hq _ _ _ x
      | _ => exact hq _ _ _ x) h
  | .loop c, Q, Q', _, _, hq, h => by
      obtain ⟨I, μ, h0, h⟩ := h
      exact ⟨I, μ, h0, fun fr st hi => awp_mono c (fun e fr st x => by
        cases e with
        | normal => exact x
        | _ => exact hq _ _ _ x) (h fr st hi)⟩
  | .exit id, _, _, _, _, hq, h => hq _ _ _ h
  | .ret, _, _, _, _, hq, h => hq _ _ _ h

open Classical in
noncomputable def lst (p : Nat → Prop) : Nat := if h : ∃ n, p n then Classical.choose (least p h.choose h.choose_spec) else 0
theorem lst_spec {p : Nat → Prop} (h : ∃ n, p n) : p (lst p) := by
  rw [lst, dif_pos h]; exact (Classical.choose_spec (least p h.choose h.choose_spec)).1
theorem lst_le {p : Nat → Prop} {m : Nat} (h : p m) : lst p ≤ m := by
  have h' : ∃ n, p n := ⟨m, h⟩
  rw [lst, dif_pos h']; exact (Classical.choose_spec (least p h'.choose h'.choose_spec)).2 m h

/-- A loop whose frame is a frame of a state: what is to be shown of a round starts at the state's own frame. -/
theorem awp_loopK {P : Program} {c : ICode} {ks : List Nat} {Q : IExit → AFr → ASt → Prop} {fr : AFr} {st : ASt} {σ : Type} (F : σ → AFr) (I : σ → ASt → Prop) (μ : σ → Nat) (s0 : σ) (h0 : fr.keep ks = F s0) (hI : I s0 st)
    (h : ∀ s st, I s st → awp P c (IExit.then (fun fr' st' => ∃ s', fr'.keep ks = F s' ∧ I s' st' ∧ μ s' < μ s) Q) (F s) st) : awp P (.loop (.keep ks c)) Q fr st := by
  refine awp_loop (fun fr st => ∃ s, fr.keep ks = F s ∧ I s st) (fun fr st => lst fun n => ∃ s, fr.keep ks = F s ∧ I s st ∧ μ s = n) ⟨s0, h0, hI⟩ ?_
  rintro fr st ⟨s, e1, e2⟩
  obtain ⟨x, x1, x2, x3⟩ := lst_spec (p := fun n => ∃ s, fr.keep ks = F s ∧ I s st ∧ μ s = n) ⟨_, s, e1, e2, rfl⟩
  rw [awp_keep, x1]
  refine awp_mono c ?_ (h x st x2)
  rintro e fr' st'
  cases e with
  | normal =>
    rintro ⟨y, y1, y2, y3⟩
    refine ⟨⟨y, y1, y2⟩, Nat.lt_of_le_of_lt (lst_le ⟨y, y1, y2, rfl⟩) ?_⟩
    rw [x1] at x3
    rw [← x3]; exact y3
  | _ => exact id

theorem ASt.le.unkill {s t : ASt} (h : s.le t) {id : Nat} (hid : s.h id = none) : s.le (t.kill id) := fun i o hi => by
  rw [ASt.kill_h, if_neg (by rintro rfl; rw [hid] at hi; cases hi)]
  exact h i o hi

theorem ASt.seen_le {s t : ASt} (h : s.le t) {n : Nat} {v : AV} {c : List AV} (hs : s.seen n v = some c) : t.seen n v = some c := by
  cases v <;> simp only [ASt.seen] at hs ⊢ <;> try exact hs
  rename_i sz id off len
  cases hx : s.h id with
  | none => rw [hx] at hs; cases hs
  | some o => rw [hx] at hs; rw [h _ _ hx]; exact hs
theorem ASt.new_o (st : ASt) (id : Nat) (o : AObj) (j : Nat) : (st.new id o).h j = (st.h j).or (if j = id then some o else none) := by
  rw [ASt.new_h]; cases st.h j <;> rfl
theorem ASt.new_none (st : ASt) (id : Nat) (o : AObj) (j : Nat) : (st.new id o).h j = none ↔ (st.h j = none ∧ ¬ j = id) := by
  rw [ASt.new_o]; simp
theorem ASt.set_none (st : ASt) (id : Nat) (o : AObj) (j : Nat) : (st.set id o).h j = none ↔ st.h j = none := by
  rw [ASt.set_h]; split <;> simp
theorem ASt.kill_none (st : ASt) (id : Nat) (j : Nat) : (st.kill id).h j = none ↔ (¬ j = id → st.h j = none) := by
  rw [ASt.kill_h]; split <;> simp_all
/-- The heap, of these blocks alone. -/
def ASt.only (st : ASt) (D : List Nat) : ASt := ⟨fun j => if j ∈ D then st.h j else none⟩
theorem ASt.only_in {st : ASt} {D : List Nat} {j : Nat} (h : j ∈ D) : (st.only D).h j = st.h j := if_pos h
theorem ASt.only_out {st : ASt} {D : List Nat} {j : Nat} (h : j ∉ D) : (st.only D).h j = none := if_neg h
theorem ASt.only_le (st : ASt) (D : List Nat) : (st.only D).le st := fun i o h => by
  by_cases hi : i ∈ D
  · rwa [ASt.only_in hi] at h
  · rw [ASt.only_out hi] at h; cases h

/-- The blocks of a list are added. -/
def ASt.plus (t st : ASt) : List Nat → ASt
  | [] => t
  | j :: L => match st.h j with
    | some o => (ASt.plus t st L).new j o
    | none => ASt.plus t st L

theorem ASt.plus_le {t st : ASt} (h : t.le st) : ∀ (L : List Nat), (t.plus st L).le st
  | [] => h
  | j :: L => by
    simp only [ASt.plus]
    split
    · rename_i o ho
      intro i x hx
      rw [ASt.new_o] at hx
      cases hp : (t.plus st L).h i with
      | some y => rw [hp] at hx; cases hx; exact ASt.plus_le h L i _ hp
      | none =>
        rw [hp, Option.none_or] at hx
        split at hx
        · rename_i e; subst e; cases hx; exact ho
        · cases hx
    · exact ASt.plus_le h L

theorem ACalls.plus {P : Program} {f : Nat} {args : List AV} {t st : ASt} {Q : AV → ASt → Prop} (h : ACalls P f args t Q) : ∀ (L : List Nat) (_ : ∀ j ∈ L, t.h j = none),
    ACalls P f args (t.plus st L) fun v st'' => ∃ st', Q v st' ∧ st'.le st'' ∧ ∀ j ∈ L, ∀ o, st.h j = some o → st'.h j = none ∧ st''.h j = some o
  | [], _ => h.mono fun v st' hq => ⟨st', hq, ASt.le.refl _, fun j hj => by cases hj⟩
  | j :: L, hL => by
    have ih := ACalls.plus (st := st) h L (fun j hj => hL j (List.mem_cons_of_mem _ hj))
    simp only [ASt.plus]
    split
    · rename_i o ho
      by_cases hp : (t.plus st L).h j = none
      · refine (ih.frame o hp).mono ?_
        rintro v st3 ⟨st2, h1, rfl, st1, h2, h3, h4⟩
        refine ⟨st1, h2, h3.trans (ASt.le.new _ _ _), ?_⟩
        intro i hi x hx
        rcases List.mem_cons.mp hi with rfl | hi
        · rw [hx] at ho; cases ho
          refine ⟨?_, ASt.new_self _ h1⟩
          cases hs : st1.h i with
          | none => rfl
          | some y => rw [h3 _ _ hs] at h1; cases h1
        · exact ⟨(h4 i hi x hx).1, ASt.new_old (h4 i hi x hx).2⟩
      · have hin : j ∈ L := by
          refine Classical.byContradiction fun hn => hp ?_
          clear hp ih
          induction L with
          | nil => exact hL j (by simp)
          | cons k L ihL =>
            simp only [ASt.plus]
            split
            · rw [ASt.new_none]
              refine ⟨ihL (fun i hi => hL i ?_) (fun hx => hn (List.mem_cons_of_mem _ hx)), fun e => hn (by simp [e])⟩
              simp only [List.mem_cons] at hi ⊢
              rcases hi with e | e
              · exact .inl e
              · exact .inr (.inr e)
            · refine ihL (fun i hi => hL i ?_) (fun hx => hn (List.mem_cons_of_mem _ hx))
              simp only [List.mem_cons] at hi ⊢
              rcases hi with e | e
              · exact .inl e
              · exact .inr (.inr e)
        have heq : (t.plus st L).new j o = t.plus st L := ASt.ext' fun i => by
          rw [ASt.new_o]
          cases hx : (t.plus st L).h i with
          | some y => rfl
          | none =>
            rw [Option.none_or, if_neg]
            rintro rfl; exact hp hx
        rw [heq]
        refine ih.mono ?_
        rintro v st3 ⟨st1, h2, h3, h4⟩
        refine ⟨st1, h2, h3, ?_⟩
        intro i hi x hx
        rcases List.mem_cons.mp hi with rfl | hi
        · exact h4 i hin x hx
        · exact h4 i hi x hx
    · rename_i ho
      refine ih.mono ?_
      rintro v st3 ⟨st1, h2, h3, h4⟩
      refine ⟨st1, h2, h3, ?_⟩
      intro i hi x hx
      rcases List.mem_cons.mp hi with rfl | hi
      · rw [hx] at ho; cases ho
      · exact h4 i hi x hx

/-- What a call does in a heap of few blocks it does in the whole; blocks that are not of those few are as they were, and are none of those that the call speaks of. -/
theorem ACalls.framed {P : Program} {f : Nat} {args : List AV} {st : ASt} {D : List Nat} {Q : AV → ASt → Prop} (h : ACalls P f args (st.only D) Q) (L : List Nat) (hL : ∀ j ∈ L, j ∉ D) :
    ACalls P f args st fun v st'' => ∃ st', Q v st' ∧ st'.le st'' ∧ ∀ j ∈ L, ∀ o, st.h j = some o → st'.h j = none ∧ st''.h j = some o :=
  (ACalls.plus (st := st) h L (fun j hj => ASt.only_out (hL j hj))).less (ASt.plus_le (ASt.only_le _ _) L)
/-- The heap of a call may be seen otherwise ahead of it. -/
theorem ACalls.pre {P : Program} {f : Nat} {args : List AV} {st st1 : ASt} {Q : AV → ASt → Prop} (g : Ghost .any st .any st1) (h : ACalls P f args st1 Q) : ACalls P f args st Q :=
  fun B w0 R wr C w vs s h1 h2 => by
    obtain ⟨C', g1, g2, _⟩ := g B w0 R wr C w undef s (.any _)
    refine (h B w0 R wr C' w vs g2 h1 (fun i hi => (h2 i hi).mono g1)).mono ?_
    rintro e w' ⟨C2, v, st2, rv, a, b, c, d, q⟩
    exact ⟨C2, v, st2, rv, g1.trans a, b, c, d, q⟩
theorem aops_held {P : Program} (d : Option Nat) (op : IOp) (g : Option (Nat × Bool)) (h : IHeld) (hs : List IHeld) (a : List (IArg × IArg)) (os : List IOper) (k : AFr → ASt → Prop) (fr : AFr) (st : ASt) :
    aops P (⟨d, op, g, h :: hs, a⟩ :: os) k fr st = (aheadOk fr a ∧ astep0 P ⟨d, op, g, h :: hs, a⟩ (fun fr' st' => heldOk st' fr' (h :: hs) ∧ aops P os k fr' st') fr st) := rfl
theorem aops_ahead {P : Program} (d : Option Nat) (op : IOp) (g : Option (Nat × Bool)) (a : IArg × IArg) (al : List (IArg × IArg)) (os : List IOper) (k : AFr → ASt → Prop) (fr : AFr) (st : ASt) :
    aops P (⟨d, op, g, [], a :: al⟩ :: os) k fr st = (aheadOk fr (a :: al) ∧ astep0 P ⟨d, op, g, [], a :: al⟩ (fun fr' st' => heldOk st' fr' [] ∧ aops P os k fr' st') fr st) := rfl
/-- What lies behind a piece of code is looked at once: from a frame of a state. -/
theorem awp_mid {P : Program} {a c : ICode} {ks : List Nat} {Q1 Q2 : IExit → AFr → ASt → Prop} {fr : AFr} {st : ASt} {σ : Type} (F : σ → AFr) (I : σ → ASt → Prop)
    (h1 : awp P a (IExit.then (fun fr st => ∃ s, fr.keep ks = F s ∧ I s st) Q2) fr st) (h2 : ∀ s st, I s st → awp P c Q1 (F s) st) : awp P a (IExit.then (awp P (.keep ks c) Q1) Q2) fr st := by
  refine awp_mono a (fun e fr st h => ?_) h1
  cases e with
  | normal =>
    obtain ⟨s, e1, e2⟩ := h
    show awp P (.keep ks c) Q1 fr st
    rw [awp_keep, e1]; exact h2 s st e2
  | _ => exact h
theorem awp_midB {P : Program} {a c : ICode} {ks : List Nat} {i : Nat} {Q1 Q2 : IExit → AFr → ASt → Prop} {fr : AFr} {st : ASt} {σ : Type} (F : σ → AFr) (I : σ → ASt → Prop)
    (h1 : awp P a (IExit.inBlock i (IExit.then (fun fr st => ∃ s, fr.keep ks = F s ∧ I s st) Q2)) fr st) (h2 : ∀ s st, I s st → awp P c Q1 (F s) st) : awp P a (IExit.inBlock i (IExit.then (awp P (.keep ks c) Q1) Q2)) fr st := by
  refine awp_mono a (fun e fr st h => ?_) h1
  have hn : ∀ fr st, (∃ s, fr.keep ks = F s ∧ I s st) → awp P (.keep ks c) Q1 fr st := by
    rintro fr st ⟨s, e1, e2⟩
    rw [awp_keep, e1]; exact h2 s st e2
  cases e with
  | normal => exact hn _ _ h
  | exit j =>
    simp only [IExit.inBlock] at h ⊢
    split
    · rename_i e; rw [if_pos e] at h; exact hn _ _ h
    · rename_i e; rw [if_neg e] at h; exact h
  | ret => exact h
theorem rows_length {α : Type} (enc : α → List AV) {w : Nat} (hw : ∀ x, (enc x).length = w) (l : List α) : (l.flatMap enc).length = l.length * w := by
  induction l with
  | nil => simp
  | cons x l ih => simp only [List.flatMap_cons, List.length_append, hw, ih, List.length_cons]; rw [Nat.add_mul]; omega
theorem rows_drop {α : Type} (enc : α → List AV) {w : Nat} (hw : ∀ x, (enc x).length = w) {l : List α} {i : Nat} (hi : i < l.length) : ((l.flatMap enc).drop (i * w)).take w = enc l[i] := by
  induction l generalizing i with
  | nil => simp at hi
  | cons x l ih =>
    cases i with
    | zero =>
      simp only [List.flatMap_cons, Nat.zero_mul, List.drop_zero, List.getElem_cons_zero]
      rw [List.take_append_of_le_length (by rw [hw]; exact Nat.le_refl _), List.take_of_length_le (by rw [hw]; exact Nat.le_refl _)]
    | succ i =>
      simp only [List.flatMap_cons, List.getElem_cons_succ]
      rw [show (i + 1) * w = (enc x).length + i * w by rw [hw, Nat.add_mul]; omega, ← List.drop_drop, List.drop_left]
      exact ih (by simpa using hi)
theorem rows_get {α : Type} (enc : α → List AV) {w : Nat} (hw : ∀ x, (enc x).length = w) {l : List α} {i j : Nat} (hi : i < l.length) (hj : j < w) : (l.flatMap enc)[i * w + j]? = (enc l[i])[j]? := by
  rw [← rows_drop enc hw hi, List.getElem?_take_of_lt hj, List.getElem?_drop]
theorem rows_get0 {α : Type} (enc : α → List AV) {w : Nat} (hw : ∀ x, (enc x).length = w) {l : List α} {i : Nat} (hi : i < l.length) (hj : 0 < w) : (l.flatMap enc)[i * w]? = (enc l[i])[0]? := rows_get enc hw hi hj

/-- An argument that is a slice: nil, or one of immutable cells. -/
def ArgAs (w : Nat) (cells : List AV) (n : Nat) (v : AV) : Prop := v = .isl w cells n ∨ (v = .nils ∧ n = 0 ∧ cells = [])
theorem ArgAs.slen {w : Nat} {cells : List AV} {n : Nat} {v : AV} (h : ArgAs w cells n v) : v.slen = some n := by
  rcases h with rfl | ⟨rfl, rfl, _⟩ <;> rfl
theorem ArgAs.isl {w : Nat} {cells : List AV} {n : Nat} {v : AV} (h : ArgAs w cells n v) (hn : n ≠ 0) : v = .isl w cells n := by
  rcases h with h | ⟨_, h, _⟩
  · exact h
  · exact absurd h hn

/-- A heap without the block that a slice shows. -/
def ASt.without (st : ASt) : AV → ASt
  | .sl _ i _ _ => st.kill i
  | _ => st

/-- A slice of its own block, or nil; and what it shows. -/
def Shows (st : ASt) (sz : Nat) (v : AV) (n : Nat) (cs : List AV) : Prop :=
  cs.length = n * sz ∧ ((n = 0 ∧ v = .nils) ∨ ∃ i, v = .sl sz i 0 n ∧ st.h i = some (.cells cs))

theorem Shows.slen {st : ASt} {sz : Nat} {v : AV} {n : Nat} {cs : List AV} (h : Shows st sz v n cs) : v.slen = some n := by
  rcases h.2 with ⟨rfl, rfl⟩ | ⟨i, rfl, _⟩ <;> rfl

theorem Shows.leaf {st : ASt} {sz : Nat} {v : AV} {n : Nat} {cs : List AV} (h : Shows st sz v n cs) : v.leaf = true := by
  rcases h.2 with ⟨rfl, rfl⟩ | ⟨i, rfl, _⟩ <;> rfl

theorem Shows.part {st : ASt} {sz : Nat} {v : AV} {n : Nat} {cs : List AV} (h : Shows st sz v n cs) : v.part = some [v] := part_leaf h.leaf

theorem Shows.blk {st : ASt} {sz : Nat} {v : AV} {n : Nat} {cs : List AV} (h : Shows st sz v n cs) (hn : n ≠ 0) : ∃ i, v = .sl sz i 0 n ∧ st.h i = some (.cells cs) := by
  rcases h.2 with ⟨e, _⟩ | h
  · exact absurd e hn
  · exact h

theorem Shows.le {st st' : ASt} {sz : Nat} {v : AV} {n : Nat} {cs : List AV} (h : Shows st sz v n cs) (hl : st.le st') : Shows st' sz v n cs := by
  obtain ⟨h1, h2⟩ := h
  refine ⟨h1, ?_⟩
  rcases h2 with h2 | ⟨i, rfl, hi⟩
  · exact .inl h2
  · exact .inr ⟨i, rfl, hl _ _ hi⟩

theorem Shows.nils (st : ASt) (sz : Nat) : Shows st sz .nils 0 [] := ⟨by simp, .inl ⟨rfl, rfl⟩⟩

theorem Shows.seen {st : ASt} {sz : Nat} {v : AV} {n : Nat} {cs : List AV} (h : Shows st sz v n cs) : st.seen (n * sz) v = some cs := by
  obtain ⟨h1, h2⟩ := h
  rcases h2 with ⟨rfl, rfl⟩ | ⟨i, rfl, hi⟩
  · simp at h1; subst h1; rfl
  · simp only [ASt.seen, hi, Nat.zero_add, h1, Nat.le_refl, if_true, List.drop_zero]
    rw [← h1, List.take_length]

/-- A slice that is made anew of one element, and is appended: what it is appended to stands in a block of its own from then on. -/
theorem aop_append_one {P : Program} {sz b : Nat} {zs : List AV} {parts : List (Nat × Nat × IArg)} {x y : IArg} {fr : AFr} {st : ASt} {F : AV → AFr} {K : AV → AV → ASt → Prop} {v : AV} {n : Nat} {cs new : List AV}
    (hown : Shows st sz v n cs) (hn : n + 1 ≤ 4294967296) (hnew : aput (zeros zs 1) (parts.map fun p => (p.1, p.2.1, fr.val p.2.2)) = .some new) (hlen : new.length = sz) (hleaf : allLeaf new = true)
    (hx : ∀ v1, (F v1).val x = v) (hy : ∀ v1, (F v1).val y = v1)
    (hk : ∀ v1 i2 st2, (st.without v).h i2 = none → (st.without v).le st2 → Shows st2 sz (.sl sz i2 0 (n + 1)) (n + 1) (cs ++ new) → K v1 (.sl sz i2 0 (n + 1)) st2) :
    aop P (.buildSlice sz 1 zs parts) fr st (fun v1 st1 => aop P (.append sz b x y) (F v1) st1 (K v1)) := by
  simp only [aop, hnew]
  intro i1 hi1
  have hlen2 : (cs ++ new).length = (n + 1) * sz := by rw [List.length_append, hown.1, hlen, Nat.add_mul, Nat.one_mul]
  have h1 : (st.new i1 (.cells new)).h i1 = .some (.cells new) := ASt.new_self _ hi1
  have hseen : (st.new i1 (.cells new)).seen (1 * sz) (.sl sz i1 0 1) = .some new := Shows.seen (n := 1) ⟨by rw [hlen, Nat.one_mul], .inr ⟨i1, rfl, h1⟩⟩
  simp only [hx, hy, hown.slen, slen_sl, hseen]
  refine ⟨⟨hn, hleaf⟩, ?_⟩
  rw [if_neg (by omega)]
  have key : ∀ i2 st2, (st.without v).h i2 = none → (st.without v).le st2 → st2.h i2 = .some (.cells (cs ++ new)) → K (.sl sz i1 0 1) (.sl sz i2 0 (n + 1)) st2 :=
    fun i2 st2 a b c => hk _ i2 st2 a b ⟨hlen2, .inr ⟨i2, rfl, c⟩⟩
  obtain ⟨hcs, hv⟩ := hown
  rcases hv with ⟨rfl, rfl⟩ | ⟨i, rfl, hi⟩
  · simp only
    intro i2 hi2
    rw [ASt.new_none] at hi2
    have hcs0 : cs = [] := List.eq_nil_of_length_eq_zero (by simpa using hcs)
    subst hcs0
    exact key i2 _ hi2.1 ((ASt.le.new _ _ _).trans (ASt.le.new _ _ _)) (ASt.new_self _ (by rw [ASt.new_none]; exact hi2))
  · have hne : i ≠ i1 := (ASt.ne hi1 hi).symm
    simp only [ASt.new_old hi, true_and, Nat.zero_add, List.drop_zero]
    refine ⟨hcs.symm, ?_⟩
    intro i2 hi2
    rw [ASt.new_none] at hi2
    refine key i2 _ ?_ ?_ ?_
    · show (st.kill i).h i2 = none
      rw [ASt.kill_none]; exact fun _ => hi2.1
    · show (st.kill i).le _
      intro j o hj
      rw [ASt.kill_h] at hj
      split at hj
      · cases hj
      · rename_i hji
        refine ASt.new_old ?_
        rw [ASt.kill_h, if_neg hji]
        exact ASt.new_old hj
    · refine ASt.new_self _ ?_
      rw [ASt.kill_none]; intro _; rw [ASt.new_none]; exact hi2

theorem ASt.without_le (st : ASt) (v : AV) : (st.without v).le st := by
  cases v <;> first | exact ASt.le.refl _ | exact ASt.kill_le _ _
theorem ASt.le.without {s t : ASt} (h : s.le t) {v : AV} (hv : ∀ sz i off n, v = .sl sz i off n → s.h i = none) : s.le (t.without v) := by
  cases v with
  | sl sz i off n => exact h.unkill (hv _ _ _ _ rfl)
  | _ => exact h

/-- The same, over a heap that stays. -/
def Over (base st : ASt) (sz : Nat) (v : AV) (n : Nat) (cs : List AV) : Prop := Shows st sz v n cs ∧ base.le st ∧ ∀ sz i off n, v = .sl sz i off n → base.h i = none
theorem Over.nils {base st : ASt} (h : base.le st) (sz : Nat) : Over base st sz .nils 0 [] := ⟨Shows.nils _ _, h, fun _ _ _ _ e => by cases e⟩

theorem aop_append_over {P : Program} {sz b : Nat} {zs : List AV} {parts : List (Nat × Nat × IArg)} {x y : IArg} {fr : AFr} {base st : ASt} {F : AV → AFr} {K : AV → AV → ASt → Prop} {v : AV} {n : Nat} {cs new : List AV}
    (hown : Over base st sz v n cs) (hn : n + 1 ≤ 4294967296) (hnew : aput (zeros zs 1) (parts.map fun p => (p.1, p.2.1, fr.val p.2.2)) = .some new) (hlen : new.length = sz) (hleaf : allLeaf new = true)
    (hx : ∀ v1, (F v1).val x = v) (hy : ∀ v1, (F v1).val y = v1)
    (hk : ∀ v1 v2 st2, Over base st2 sz v2 (n + 1) (cs ++ new) → K v1 v2 st2) :
    aop P (.buildSlice sz 1 zs parts) fr st (fun v1 st1 => aop P (.append sz b x y) (F v1) st1 (K v1)) :=
  aop_append_one hown.1 hn hnew hlen hleaf hx hy fun v1 i2 st2 h1 h2 h3 => hk v1 _ st2 ⟨h3, (hown.2.1.without hown.2.2).trans h2, fun sz i off n e => by
    cases e
    cases hb : base.h i2 with
    | none => rfl
    | some o =>
      rw [(hown.2.1.without hown.2.2) _ _ hb] at h1; cases h1⟩

/-- A slice over a heap that stays is let go for good: what it shows is a value. -/
theorem Over.freeze {base st : ASt} {sz : Nat} {v : AV} {n : Nat} {cs : List AV} (h : Over base st sz v n cs) : ∃ v', Ghost v st v' base ∧ ArgAs sz cs n v' := by
  obtain ⟨⟨h1, h2⟩, h3, h4⟩ := h
  rcases h2 with ⟨rfl, rfl⟩ | ⟨i, rfl, hi⟩
  · exact ⟨.nils, Ghost.sub h3, .inr ⟨rfl, rfl, List.eq_nil_of_length_eq_zero (by simpa using h1)⟩⟩
  · exact ⟨.isl sz cs n, (Ghost.freeze hi).trans (Ghost.sub (h3.unkill (h4 _ _ _ _ rfl))), .inl rfl⟩
end Go.Proofs.Ytjamidgdhmjhaaa.Cn
