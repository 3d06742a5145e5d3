/- YtdmfgodajoojpaaGreatDoor: proofs of this seat, texts CnHard0, CnHard1, CnHard2, CnHard3, CnHard4, CnHard5, CnHard6, CnHard7, CnHardQ, CnHard8, CnPower7, CnHW2, CnHW3, CnHW4, CnHW5, CnHW6, CnHW7, CnHW8, CnHW9, CnHard9: what each shows stands at its theorems; no condition. -/
import Derived.Test.YtdmfgodajoojpaaGreatDoorCnS1
import Derived.Test.YtdmfgodajoojpaaGreatDoorCnL2
import Derived.Test.YtdmfgodajoojpaaGreatDoorCnS3
/- Fields of words, addresses; channels. -/
set_option linter.unusedSimpArgs false
set_option linter.unusedVariables false
set_option maxRecDepth 100000
namespace Go.Proofs.YtdmfgodajoojpaaGreatDoor.Cn
open Go Go.Proofs

theorem ashift_shl {k : IntKind} {a b : Int} (h : 0 ≤ b) : ashift .shl k a b = some (.int k (k.wrap (a * 2 ^ (min b.toNat k.bits)))) := by rw [ashift, if_neg (by omega)]
theorem ashift_shr {k : IntKind} {a b : Int} (h : 0 ≤ b) : ashift .shr k a b = some (.int k (a.fdiv (2 ^ (min b.toNat k.bits)))) := by rw [ashift, if_neg (by omega)]
def maskV (many at_ : Int) : Int := IntKind.u32.wrap (IntKind.u64.wrap (IntKind.u64.wrap (IntKind.u64.wrap (1 * 2 ^ (min many.toNat 64)) - 1) * 2 ^ (min at_.toNat 64)))
def getV (w low many : Int) : Int := IntKind.u32.wrap (BitVec.ofInt 32 (w.fdiv (2 ^ (min low.toNat 32))) &&& BitVec.ofInt 32 (maskV many 0)).toNat
theorem L_field1 : hasBody Tryz.prog F.q3 = true := by kernel_rfl
theorem mask_spec {st : ASt} {b : Nat} {many at_ : Int} (hb : st.h b = some (.cells [.int .i64 many])) (hm : 0 ≤ many) (ha : 0 ≤ at_) :
    ACalls Tryz.prog F.q3 [.int .i64 at_, .ptr b 0] st fun r s => r = .int .u32 (maskV many at_) ∧ s = st := by
  refine calls_of_awp L.q3 rfl ?_
  have e64 : IntKind.bits .u64 = 64 := rfl
  simp only [↓Bt, Bu, simprocAttr, ↓C.q3_W, C.q3_B, C.q3, hb, ashift_shl hm, ashift_shl ha, e64, maskV]
theorem field_spec {st : ASt} {low many : Int} (hm : 1 ≤ many ∧ many ≤ 32) (hl : 0 ≤ low ∧ low ≤ 32 - many) :
    ACalls Tryz.prog F.q2 [.int .i64 low, .int .i64 many] st fun r s => ∃ b, r = .tup [.fn F.q3 [.ptr b 0], .bool true] ∧ s.h b = some (.cells [.int .i64 many]) ∧ st.le s := by
  refine calls_of_awp L.q2 rfl ?_
  have h1 : ¬ many < 1 := by omega
  have h2 : ¬ 32 < many := by omega
  have h3 : ¬ low < 0 := by omega
  have w : IntKind.i64.wrap (32 - many) = 32 - many := by rw [wrap64] <;> omega
  have h4 : ¬ 32 - many < low := by omega
  simp only [↓Bt, Bu, simprocAttr, ↓C.q2_W, C.q2_B, C.q2, gt_iff_lt]
  intro b hb
  have hbs := ASt.new_self (.cells [.int .i64 many]) hb
  simp only [↓Bt, Bu, simprocAttr, ↓C.q2_W, C.q2_B, C.q2, hb, h1, h2, h3, w, h4, gt_iff_lt]
  exact ⟨b, rfl, by simp [hb], ASt.le.new _ _ _⟩
theorem get_spec {st : ASt} {x low many : Int} (hm : 1 ≤ many ∧ many ≤ 32) (hl : 0 ≤ low ∧ low ≤ 32 - many) :
    ACalls Tryz.prog F.q0 [.int .u32 x, .int .i64 low, .int .i64 many] st fun r s => r = .tup [.int .u32 (getV x low many), .int .i64 0] ∧ s = st := by
  refine ACalls.gc (Q' := fun r s => r = .tup [.int .u32 (getV x low many), .int .i64 0] ∧ st.le s) (calls_of_awp L.q0 rfl ?_) (fun v s ⟨h, hl⟩ => ⟨st, hl, h, rfl⟩)
  simp only [↓Bt, Bu, simprocAttr, ↓C.q0_W, C.q0_B, C.q0]
  refine (field_spec hm hl).mono ?_
  rintro r s ⟨b, rfl, hb, hle⟩
  have e32 : IntKind.bits .u32 = 32 := rfl
  simp only [↓Bt, Bu, simprocAttr, ↓C.q0_W, C.q0_B, C.q0, L_field1, ashift_shr hl.1, e32]
  refine (mask_spec hb (by omega) (by omega)).mono ?_
  rintro r s2 ⟨rfl, rfl⟩
  simp only [↓Bt, Bu, simprocAttr, ↓C.q0_W, C.q0_B, C.q0, e32]
  exact ⟨rfl, hle⟩
def putV (w low many v : Int) : Int := IntKind.u32.wrap (BitVec.ofInt 32 (IntKind.u32.wrap (BitVec.ofInt 32 w &&& ~~~BitVec.ofInt 32 (maskV many low)).toNat) ||| BitVec.ofInt 32 (IntKind.u32.wrap (v * 2 ^ (min low.toNat 32)))).toNat
theorem put_spec {st : ASt} {x low many v : Int} (hm : 1 ≤ many ∧ many ≤ 32) (hl : 0 ≤ low ∧ low ≤ 32 - many) (hv : IntKind.u32.wrap (BitVec.ofInt 32 v &&& ~~~BitVec.ofInt 32 (maskV many 0)).toNat = 0) :
    ACalls Tryz.prog F.q1 [.int .u32 x, .int .i64 low, .int .i64 many, .int .u32 v] st fun r s => r = .tup [.int .u32 (putV x low many v), .int .i64 0] ∧ s = st := by
  refine ACalls.gc (Q' := fun r s => r = .tup [.int .u32 (putV x low many v), .int .i64 0] ∧ st.le s) (calls_of_awp L.q1 rfl ?_) (fun v s ⟨h, hl⟩ => ⟨st, hl, h, rfl⟩)
  simp only [↓Bt, Bu, simprocAttr, ↓C.q1_W, C.q1_B, C.q1]
  refine (field_spec hm hl).mono ?_
  rintro r s ⟨b, rfl, hb, hle⟩
  have e32 : IntKind.bits .u32 = 32 := rfl
  simp only [↓Bt, Bu, simprocAttr, ↓C.q1_W, C.q1_B, C.q1, L_field1]
  refine (mask_spec hb (by omega) (by omega)).mono ?_
  rintro r s2 ⟨rfl, rfl⟩
  have hv' : IntKind.u32.wrap (BitVec.ofInt IntKind.u32.bits v &&& ~~~BitVec.ofInt IntKind.u32.bits (maskV many 0)).toNat = 0 := hv
  simp only [↓Bt, Bu, simprocAttr, ↓C.q1_W, C.q1_B, C.q1, e32, hv', L_field1, ashift_shl hl.1]
  refine (mask_spec hb (by omega) hl.1).mono ?_
  rintro r s2 ⟨rfl, rfl⟩
  simp only [↓Bt, Bu, simprocAttr, ↓C.q1_W, C.q1_B, C.q1, e32]
  exact ⟨rfl, hle⟩
theorem part_spec {st : ASt} {x low many : Int} (hm : 1 ≤ many ∧ many ≤ 32) (hl : 0 ≤ low ∧ low ≤ 32 - many) :
    ACalls Tryz.prog F.q11 [.int .u32 x, .int .i64 low, .int .i64 many] st fun r s => r = .int .i64 (IntKind.i64.wrap (getV x low many)) ∧ s = st := by
  refine calls_of_awp L.q11 rfl ?_
  simp only [↓Bt, Bu, simprocAttr, ↓C.q11_W, C.q11_B, C.q11]
  refine (get_spec hm hl).mono ?_
  rintro r s ⟨rfl, rfl⟩
  simp only [↓Bt, Bu, simprocAttr, ↓C.q11_W, C.q11_B, C.q11]
def addrV (d k : Nat) : Int := ((65536 * d + 4 * k : Nat) : Int)
theorem addr_get : ∀ d < 4, ∀ k < 4, IntKind.i64.wrap (getV (addrV d k) 0 2) = 0 ∧ IntKind.i64.wrap (getV (addrV d k) 24 8) = 0 ∧ IntKind.i64.wrap (getV (addrV d k) 16 8) = (d : Int) ∧ IntKind.i64.wrap (getV (addrV d k) 2 14) = (k : Int) := by decide +kernel
theorem split_spec {st : ASt} {d k : Nat} (hd : d < 4) (hk : k < 4) : ACalls Tryz.prog F.q10 [.int .u32 (addrV d k)] st fun r s => r = .tup [.int .i64 d, .int .i64 k] ∧ s = st := by
  obtain ⟨h1, h2, h3, h4⟩ := addr_get d hd k hk
  refine calls_of_awp L.q10 rfl ?_
  simp only [↓Bt, Bu, simprocAttr, ↓C.q10_W, C.q10_B, C.q10]
  refine (part_spec (by omega) (by omega)).mono ?_
  rintro r s ⟨rfl, rfl⟩
  simp only [↓Bt, Bu, simprocAttr, ↓C.q10_W, C.q10_B, C.q10, h1]
  refine (part_spec (by omega) (by omega)).mono ?_
  rintro r s ⟨rfl, rfl⟩
  simp only [↓Bt, Bu, simprocAttr, ↓C.q10_W, C.q10_B, C.q10, h1, h2]
  refine (part_spec (by omega) (by omega)).mono ?_
  rintro r s ⟨rfl, rfl⟩
  simp only [↓Bt, Bu, simprocAttr, ↓C.q10_W, C.q10_B, C.q10, h3]
  refine (part_spec (by omega) (by omega)).mono ?_
  rintro r s ⟨rfl, rfl⟩
  simp only [↓Bt, Bu, simprocAttr, ↓C.q10_W, C.q10_B, C.q10, h4]
theorem addr_put : ∀ d < 4, ∀ k < 4, IntKind.u32.wrap (BitVec.ofInt 32 (IntKind.u32.wrap (d : Nat)) &&& ~~~BitVec.ofInt 32 (maskV 8 0)).toNat = 0 ∧ IntKind.u32.wrap (BitVec.ofInt 32 (IntKind.u32.wrap (k : Nat)) &&& ~~~BitVec.ofInt 32 (maskV 14 0)).toNat = 0 ∧
    putV (putV 0 16 8 (IntKind.u32.wrap (d : Nat))) 2 14 (IntKind.u32.wrap (k : Nat)) = addrV d k := by decide +kernel
theorem address_spec {st : ASt} {d k : Nat} (hd : d < 4) (hk : k < 4) : ACalls Tryz.prog F.q4 [.int .i64 d, .int .i64 k] st fun r s => r = .tup [.int .u32 (addrV d k), .int .i64 0] ∧ s = st := by
  obtain ⟨h1, h2, h3⟩ := addr_put d hd k hk
  have a1 : ¬ (d : Int) < 0 := by omega
  have a2 : ¬ (256 : Int) ≤ (d : Int) := by omega
  have a3 : ¬ (k : Int) < 0 := by omega
  have a4 : ¬ (16384 : Int) ≤ (k : Int) := by omega
  refine calls_of_awp L.q4 rfl ?_
  simp only [↓Bt, Bu, simprocAttr, ↓C.q4_W, C.q4_B, C.q4, a1, a2, a3, a4]
  refine (put_spec (by omega) (by omega) h1).mono ?_
  rintro r s ⟨rfl, rfl⟩
  simp only [↓Bt, Bu, simprocAttr, ↓C.q4_W, C.q4_B, C.q4]
  refine (put_spec (by omega) (by omega) h2).mono ?_
  rintro r s ⟨rfl, rfl⟩
  simp only [↓Bt, Bu, simprocAttr, ↓C.q4_W, C.q4_B, C.q4, h3]

-- channels
section
variable {st : ASt} {p : Nat} {x y : Int}
def PortAt (st : ASt) (p : Nat) (x y : Int) : Prop := st.h p = some (.cells [.int .i64 x, .int .i64 y])
def qtick (x y : Int) (active deny : Bool) : Int × Int := if x = 1 then (if deny = true then (3, IntKind.i64.wrap (y + 1)) else if active = false then (2, 0) else (1, y)) else (x, y)
theorem qtick_spec (h : PortAt st p x y) (a d : Bool) : ACalls Tryz.prog F.q105 [.ptr p 0, .bool a, .bool d] st fun r s => s = st.set p (.cells [.int .i64 (qtick x y a d).1, .int .i64 (qtick x y a d).2]) := by
  have hs : st.set p (.cells [.int .i64 x, .int .i64 y]) = st := ASt.ext' fun i => by
    rw [ASt.set_h]; split
    · rename_i e; subst e; rw [show st.h i = _ from h]; rfl
    · rfl
  refine calls_of_awp L.q105 rfl ?_
  unfold PortAt at h
  unfold qtick
  by_cases h0 : x = 1
  · subst h0
    rw [if_pos rfl]
    cases d
    · cases a
      · simp only [↓Bt, Bu, simprocAttr, ↓C.q105_W, C.q105_B, C.q105, h]
        simp [ASt.set_set]
      · simp only [↓Bt, Bu, simprocAttr, ↓C.q105_W, C.q105_B, C.q105, h]
        exact hs.symm
    · simp only [↓Bt, Bu, simprocAttr, ↓C.q105_W, C.q105_B, C.q105, h]
      simp [ASt.set_set]
  · rw [if_neg h0]
    simp only [↓Bt, Bu, simprocAttr, ↓C.q105_W, C.q105_B, C.q105, h, h0]
    exact hs.symm
theorem qnew_spec (st : ASt) : ACalls Tryz.prog F.q106 [] st fun r s => ∃ p, st.h p = none ∧ r = .ptr p 0 ∧ s = st.new p (.cells [.int .i64 0, .int .i64 0]) := by
  refine calls_of_awp L.q106 rfl ?_
  simp only [↓Bt, Bu, simprocAttr, ↓C.q106_W, C.q106_B, C.q106]
  intro p hp
  exact ⟨p, hp, rfl, rfl⟩
end
end Go.Proofs.YtdmfgodajoojpaaGreatDoor.Cn
/- The chip: where its parts lie, and what each holds. -/
set_option linter.unusedSimpArgs false
set_option linter.unusedVariables false
set_option maxRecDepth 100000
namespace Go.Proofs.YtdmfgodajoojpaaGreatDoor.Cn
open Go Go.Proofs

structure Txn where
  id : Int
  write : Bool
  reg : Int
  value : Int
def Txn.cells (t : Txn) : List AV := [.int .i64 t.id, .bool t.write, .int .i64 t.reg, .int .u32 t.value]
structure FSt where
  now : Nat → Int
  saved : Nat → Int
  kept : Bool
structure HA where
  hp : Nat
  tp : Nat
  tg : Nat
  gp : Nat
  gg : Nat
  lp : Nat
  lm : Nat
  bp : Nat
  br : Nat
  bw : Nat
  dv : Nat
  fp : Nat → Nat
  fn : Nat → Nat
  fs : Nat → Nat
  pp : Nat → Nat
structure HV where
  ns : List Nd
  gs : List Gd
  ls : List Ln
  F : Nat → FSt
  O : Nat → Int × Int
  Q : Nat → List Txn
  posted : Int
structure LInv (R : List Int) (ls : List Ln) : Prop where
  len : ls.length = R.length
  least : ∀ i (h : i < ls.length) (h' : i < R.length), ls[i].least = R[i]
  left : ∀ x ∈ ls, 0 ≤ x.left ∧ x.left ≤ 20
  bd : ∀ x ∈ R, 0 ≤ x ∧ x ≤ 20
def Keeps (T : Nat → Nat) (k : Nat) (s s' : ASt) : Prop := ∀ j o, s.h j = some o → T j ≠ k → s'.h j = some o
theorem Keeps.refl (T : Nat → Nat) (k : Nat) (s : ASt) : Keeps T k s s := fun _ _ h _ => h
theorem Keeps.of_le {T : Nat → Nat} {k : Nat} {s s' : ASt} (h : s.le s') : Keeps T k s s' := fun j o hj _ => h j o hj
theorem Keeps.set {T : Nat → Nat} {k : Nat} {s : ASt} {i : Nat} {o : AObj} (h : T i = k) : Keeps T k s (s.set i o) := fun j x hj hn => by
  rw [ASt.set_h, if_neg (by rintro rfl; exact hn h)]; exact hj
theorem Keeps.off {T : Nat → Nat} {k : Nat} {s s' : ASt} {l : List Nat} (h : s.off l s') (hl : ∀ j ∈ l, T j = k) : Keeps T k s s' := fun j x hj hn => by
  rw [h j (fun hm => hn (hl j hm))]; exact hj
theorem Keeps.trans {T : Nat → Nat} {k : Nat} {a b c : ASt} (h : Keeps T k a b) (h2 : Keeps T k b c) : Keeps T k a c := fun j o hj hn => h2 j o (h j o hj hn) hn
theorem Keeps.at_ {T : Nat → Nat} {k : Nat} {s s' : ASt} (h : Keeps T k s s') {x m : Nat} {o : AObj} (hx : s.h x = some o) (ht : T x = m) (hm : m ≠ k) : s'.h x = some o := h x o hx (by rw [ht]; exact hm)
structure HC (st s : ASt) (ib : Nat) (a : HA) (T : Nat → Nat) (S : Soc) (v : HV) (m : Nat) : Prop where
  le : st.le s
  tag0 : ∀ j, st.h j ≠ none → T j = 0
  hb : s.h ib = some (.cells S.cells)
  Tb : T ib = 7
  tree : TreeAt s a.tp a.tg v.ns
  Tt : T a.tp = 2 ∧ T a.tg = 2
  grid : GridAt s a.gp a.gg v.gs
  Tg : T a.gp = 3 ∧ T a.gg = 3
  lines : LinesAt s a.lp a.lm v.ls
  Tl : T a.lp = 4 ∧ T a.lm = 4
  files : ∀ i (h : i < S.devs.length), i < m → FileF s (a.fp i) (a.fn i) (a.fs i) S.devs[i].regs (v.F i).now (v.F i).saved (v.F i).kept ∧ T (a.fp i) = 10 + 3 * i ∧ T (a.fn i) = 10 + 3 * i ∧ T (a.fs i) = 10 + 3 * i
  ports : ∀ i, i < m → s.h (a.pp i) = some (.cells [.int .i64 (v.O i).1, .int .i64 (v.O i).2]) ∧ T (a.pp i) = 11 + 3 * i ∧ 0 ≤ (v.O i).1 ∧ (v.O i).1 ≤ 3
  kof : KOf S.clocks v.ns
  ginv : GInv S.doms v.gs
  linv : LInv S.rsts v.ls
section
variable {st s s' : ASt} {ib m : Nat} {a : HA} {T : Nat → Nat} {S : Soc} {v : HV}
theorem TreeAt.kept {k p ig : Nat} {ns : List Nd} (h : TreeAt s p ig ns) (ht : T p = 2 ∧ T ig = 2) (hk : Keeps T k s s') (h2 : 2 ≠ k) : TreeAt s' p ig ns :=
  ⟨hk.at_ h.hp ht.1 h2, hk.at_ h.hg ht.2 h2, h.ne, h.few⟩
theorem GridAt.kept {k p ig : Nat} {gs : List Gd} (h : GridAt s p ig gs) (ht : T p = 3 ∧ T ig = 3) (hk : Keeps T k s s') (h2 : 3 ≠ k) : GridAt s' p ig gs :=
  ⟨hk.at_ h.hp ht.1 h2, hk.at_ h.hg ht.2 h2, h.ne, h.few⟩
theorem LinesAt.kept {k p ig : Nat} {ls : List Ln} (h : LinesAt s p ig ls) (ht : T p = 4 ∧ T ig = 4) (hk : Keeps T k s s') (h2 : 4 ≠ k) : LinesAt s' p ig ls :=
  ⟨hk.at_ h.hp ht.1 h2, hk.at_ h.hm ht.2 h2⟩
theorem FileAt.kept {k t p n q : Nat} {made : List Reg} {N Sv : List Int} {b : Bool} (h : FileAt s p n q made N Sv b) (ht : T p = t ∧ T n = t ∧ T q = t) (hk : Keeps T k s s') (h2 : t ≠ k) : FileAt s' p n q made N Sv b := by
  obtain ⟨⟨m, h1, h2'⟩, h3, h4, h5, h6, h7, h8, h9, h10⟩ := h
  exact ⟨⟨m, h1, hk.at_ h2' ht.1 h2⟩, hk.at_ h3 ht.2.1 h2, hk.at_ h4 ht.2.2 h2, h5, h6, h7, h8, h9, h10⟩
theorem HC.base (h : HC st s ib a T S v m) {k : Nat} (hk : Keeps T k s s') (hn : k ≠ 0) : st.le s' := fun j o hj =>
  hk j o (h.le j o hj) (by rw [h.tag0 j (by rw [hj]; simp)]; exact Ne.symm hn)
theorem HC.keep (h : HC st s ib a T S v m) {k : Nat} (hk : Keeps T k s s') (hn : k = 1 ∨ k = 5 ∨ k = 6 ∨ ∃ i, k = 12 + 3 * i) : HC st s' ib a T S v m where
  le := h.base hk (by omega)
  tag0 := h.tag0
  hb := hk.at_ h.hb h.Tb (by omega)
  Tb := h.Tb
  tree := h.tree.kept h.Tt hk (by omega)
  Tt := h.Tt
  grid := h.grid.kept h.Tg hk (by omega)
  Tg := h.Tg
  lines := h.lines.kept h.Tl hk (by omega)
  Tl := h.Tl
  files := fun i hi hm => ⟨(h.files i hi hm).1.kept (h.files i hi hm).2 hk (by omega), (h.files i hi hm).2⟩
  ports := fun i hm => ⟨hk.at_ (h.ports i hm).1 (h.ports i hm).2.1 (by omega), (h.ports i hm).2⟩
  kof := h.kof
  ginv := h.ginv
  linv := h.linv
theorem HC.retag (h : HC st s ib a T S v m) {T' : Nat → Nat} (hT : ∀ j, s.h j ≠ none → T' j = T j) : HC st s ib a T' S v m where
  le := h.le
  tag0 := fun j hj => by
    have : s.h j ≠ none := by
      cases e : st.h j with
      | none => exact absurd e hj
      | some o => rw [h.le _ _ e]; simp
    rw [hT j this]; exact h.tag0 j hj
  hb := h.hb
  Tb := by rw [hT ib (by rw [h.hb]; simp)]; exact h.Tb
  tree := h.tree
  Tt := ⟨by rw [hT a.tp (by rw [h.tree.hp]; simp)]; exact h.Tt.1, by rw [hT a.tg (by rw [h.tree.hg]; simp)]; exact h.Tt.2⟩
  grid := h.grid
  Tg := ⟨by rw [hT a.gp (by rw [h.grid.hp]; simp)]; exact h.Tg.1, by rw [hT a.gg (by rw [h.grid.hg]; simp)]; exact h.Tg.2⟩
  lines := h.lines
  Tl := ⟨by rw [hT a.lp (by rw [h.lines.hp]; simp)]; exact h.Tl.1, by rw [hT a.lm (by rw [h.lines.hm]; simp)]; exact h.Tl.2⟩
  files := fun i hi hm => by
    obtain ⟨hf, t1, t2, t3⟩ := h.files i hi hm
    obtain ⟨⟨mm, h1, h2⟩, h3, h4, _⟩ := hf
    exact ⟨(h.files i hi hm).1, by rw [hT _ (by rw [h2]; simp)]; exact t1, by rw [hT _ (by rw [h3]; simp)]; exact t2, by rw [hT _ (by rw [h4]; simp)]; exact t3⟩
  ports := fun i hm => ⟨(h.ports i hm).1, by rw [hT _ (by rw [(h.ports i hm).1]; simp)]; exact (h.ports i hm).2.1, (h.ports i hm).2.2⟩
  kof := h.kof
  ginv := h.ginv
  linv := h.linv
theorem HC.putTree (h : HC st s ib a T S v m) {ns' : List Nd} (hK : KOf S.clocks ns') : HC st (s.set a.tg (nsC ns')) ib a T S { v with ns := ns' } m :=
  have hk : Keeps T 2 s (s.set a.tg (nsC ns')) := Keeps.set h.Tt.2
  { le := h.base hk (by omega), tag0 := h.tag0, hb := hk.at_ h.hb h.Tb (by omega), Tb := h.Tb, tree := h.tree.set (by rw [hK.len, h.kof.len]), Tt := h.Tt, grid := h.grid.kept h.Tg hk (by omega), Tg := h.Tg,
    lines := h.lines.kept h.Tl hk (by omega), Tl := h.Tl, files := fun i hi hm => ⟨(h.files i hi hm).1.kept (h.files i hi hm).2 hk (by omega), (h.files i hi hm).2⟩,
    ports := fun i hm => ⟨hk.at_ (h.ports i hm).1 (h.ports i hm).2.1 (by omega), (h.ports i hm).2⟩, kof := hK, ginv := h.ginv, linv := h.linv }
theorem HC.putGrid (h : HC st s ib a T S v m) {gs' : List Gd} (hG : GInv S.doms gs') : HC st (s.set a.gg (gsC gs')) ib a T S { v with gs := gs' } m :=
  have hk : Keeps T 3 s (s.set a.gg (gsC gs')) := Keeps.set h.Tg.2
  { le := h.base hk (by omega), tag0 := h.tag0, hb := hk.at_ h.hb h.Tb (by omega), Tb := h.Tb, tree := h.tree.kept h.Tt hk (by omega), Tt := h.Tt, grid := h.grid.set (by rw [hG.len, h.ginv.len]), Tg := h.Tg,
    lines := h.lines.kept h.Tl hk (by omega), Tl := h.Tl, files := fun i hi hm => ⟨(h.files i hi hm).1.kept (h.files i hi hm).2 hk (by omega), (h.files i hi hm).2⟩,
    ports := fun i hm => ⟨hk.at_ (h.ports i hm).1 (h.ports i hm).2.1 (by omega), (h.ports i hm).2⟩, kof := h.kof, ginv := hG, linv := h.linv }
theorem HC.putLines (h : HC st s ib a T S v m) {ls' : List Ln} (hl : LInv S.rsts ls') : HC st (s.set a.lm (lnsE ls')) ib a T S { v with ls := ls' } m :=
  have hk : Keeps T 4 s (s.set a.lm (lnsE ls')) := Keeps.set h.Tl.2
  { le := h.base hk (by omega), tag0 := h.tag0, hb := hk.at_ h.hb h.Tb (by omega), Tb := h.Tb, tree := h.tree.kept h.Tt hk (by omega), Tt := h.Tt, grid := h.grid.kept h.Tg hk (by omega), Tg := h.Tg,
    lines := h.lines.set ls', Tl := h.Tl, files := fun i hi hm => ⟨(h.files i hi hm).1.kept (h.files i hi hm).2 hk (by omega), (h.files i hi hm).2⟩,
    ports := fun i hm => ⟨hk.at_ (h.ports i hm).1 (h.ports i hm).2.1 (by omega), (h.ports i hm).2⟩, kof := h.kof, ginv := h.ginv, linv := hl }
def upF {α : Type} (f : Nat → α) (i : Nat) (x : α) : Nat → α := fun j => if j = i then x else f j
theorem upF_at {α : Type} (f : Nat → α) (i : Nat) (x : α) : upF f i x i = x := if_pos rfl
theorem upF_ne {α : Type} {f : Nat → α} {i j : Nat} {x : α} (h : j ≠ i) : upF f i x j = f j := if_neg h
theorem HC.putFile (h : HC st s ib a T S v m) {i : Nat} (hi : i < S.devs.length) {f : FSt} (ho : s.off [a.fp i, a.fn i, a.fs i] s') (him : i < m) (hf : FileF s' (a.fp i) (a.fn i) (a.fs i) S.devs[i].regs f.now f.saved f.kept) :
    HC st s' ib a T S { v with F := upF v.F i f } m :=
  have ht := (h.files i hi him).2
  have hk : Keeps T (10 + 3 * i) s s' := Keeps.off ho fun j hj => by
    simp only [List.mem_cons, List.not_mem_nil, or_false] at hj
    rcases hj with rfl | rfl | rfl
    · exact ht.1
    · exact ht.2.1
    · exact ht.2.2
  { le := h.base hk (by omega), tag0 := h.tag0, hb := hk.at_ h.hb h.Tb (by omega), Tb := h.Tb, tree := h.tree.kept h.Tt hk (by omega), Tt := h.Tt, grid := h.grid.kept h.Tg hk (by omega), Tg := h.Tg,
    lines := h.lines.kept h.Tl hk (by omega), Tl := h.Tl,
    files := fun j hj hm => by
      by_cases e : j = i
      · subst e
        refine ⟨?_, (h.files j hj hm).2⟩
        show FileF s' _ _ _ _ (upF v.F j f j).now (upF v.F j f j).saved (upF v.F j f j).kept
        rw [upF_at]; exact hf
      · refine ⟨?_, (h.files j hj hm).2⟩
        show FileF s' _ _ _ _ (upF v.F i f j).now (upF v.F i f j).saved (upF v.F i f j).kept
        rw [upF_ne e]; exact (h.files j hj hm).1.kept (h.files j hj hm).2 hk (by omega),
    ports := fun j hm => ⟨hk.at_ (h.ports j hm).1 (h.ports j hm).2.1 (by omega), (h.ports j hm).2⟩, kof := h.kof, ginv := h.ginv, linv := h.linv }
theorem HC.putPort (h : HC st s ib a T S v m) {i : Nat} (him : i < m) (x y : Int) (hx : 0 ≤ x ∧ x ≤ 3) : HC st (s.set (a.pp i) (.cells [.int .i64 x, .int .i64 y])) ib a T S { v with O := upF v.O i (x, y) } m :=
  have ht := (h.ports i him).2.1
  have hk : Keeps T (11 + 3 * i) s (s.set (a.pp i) (.cells [.int .i64 x, .int .i64 y])) := Keeps.set ht
  { le := h.base hk (by omega), tag0 := h.tag0, hb := hk.at_ h.hb h.Tb (by omega), Tb := h.Tb, tree := h.tree.kept h.Tt hk (by omega), Tt := h.Tt, grid := h.grid.kept h.Tg hk (by omega), Tg := h.Tg,
    lines := h.lines.kept h.Tl hk (by omega), Tl := h.Tl, files := fun j hj hm => ⟨(h.files j hj hm).1.kept (h.files j hj hm).2 hk (by omega), (h.files j hj hm).2⟩,
    ports := fun j hm => by
      by_cases e : j = i
      · subst e
        refine ⟨?_, (h.ports j hm).2.1, ?_⟩
        · show _ = some (AObj.cells [.int .i64 (upF v.O j (x, y) j).1, .int .i64 (upF v.O j (x, y) j).2])
          rw [upF_at, ASt.set_h, if_pos rfl, (h.ports j hm).1]; rfl
        · show 0 ≤ (upF v.O j (x, y) j).1 ∧ (upF v.O j (x, y) j).1 ≤ 3
          rw [upF_at]; exact hx
      · refine ⟨?_, (h.ports j hm).2.1, ?_⟩
        · show _ = some (AObj.cells [.int .i64 (upF v.O i (x, y) j).1, .int .i64 (upF v.O i (x, y) j).2])
          rw [upF_ne e]; exact hk.at_ (h.ports j hm).1 (h.ports j hm).2.1 (by omega)
        · show 0 ≤ (upF v.O i (x, y) j).1 ∧ (upF v.O i (x, y) j).1 ≤ 3
          rw [upF_ne e]; exact (h.ports j hm).2.2,
    kof := h.kof, ginv := h.ginv, linv := h.linv }
end
def devC (S : Soc) (a : HA) (i : Nat) : List AV :=
  match S.devs[i]? with
  | some d => [.int .i64 d.clock, .int .i64 d.dom, .int .i64 d.rst, .int .u32 d.clamp, .ptr (a.fp i) 0, .ptr (a.pp i) 0]
  | none => [.int .i64 0, .int .i64 0, .int .i64 0, .int .u32 0, .nilp, .nilp]
theorem devC_len (S : Soc) (a : HA) (i : Nat) : (devC S a i).length = 6 := by unfold devC; split <;> rfl
def devsC (S : Soc) (a : HA) (n : Nat) : List AV := (List.range n).flatMap (devC S a)
inductive QAt (s : ASt) (T : Nat → Nat) (t : Nat) : AV → List Txn → Prop
  | nil : QAt s T t .nils []
  | emp : QAt s T t .emp []
  | sl (id off : Nat) (pre : List AV) (q : List Txn) (h : s.h id = some (.cells (pre ++ q.flatMap Txn.cells))) (hp : pre.length = off) (ht : T id = t) : QAt s T t (.sl 4 id off q.length) q
theorem QAt.kept {s s' : ASt} {T : Nat → Nat} {t : Nat} {v : AV} {q : List Txn} {k : Nat} (h : QAt s T t v q) (hk : Keeps T k s s') (h5 : t ≠ k) : QAt s' T t v q := by
  cases h with
  | nil => exact .nil
  | emp => exact .emp
  | sl id off pre q h hp ht => exact .sl id off pre q (hk.at_ h ht h5) hp ht
theorem QAt.retag {s : ASt} {T T' : Nat → Nat} {t : Nat} {v : AV} {q : List Txn} (h : QAt s T t v q) (hT : ∀ j, s.h j ≠ none → T' j = T j) : QAt s T' t v q := by
  cases h with
  | nil => exact .nil
  | emp => exact .emp
  | sl id off pre q h hp ht => exact .sl id off pre q h hp (by rw [hT id (by rw [h]; simp)]; exact ht)
theorem QAt.len {s : ASt} {T : Nat → Nat} {t : Nat} {v : AV} {q : List Txn} (h : QAt s T t v q) : v.slen = some q.length := by cases h <;> rfl
structure BusAt (s : ASt) (T : Nat → Nat) (a : HA) (S : Soc) (Q : Nat → List Txn) (posted : Int) : Prop where
  hp : s.h a.bp = some (.cells [.sl 1 a.br 0 S.devs.length, .sl 1 a.bw 0 S.devs.length, .int .i64 posted])
  hr : s.h a.br = some (.cells (ints (S.devs.map fun d => (d.regs.length : Int))))
  hw : ∃ W : List AV, s.h a.bw = some (.cells W) ∧ W.length = S.devs.length ∧ ∀ i (h : i < W.length), QAt s T (12 + 3 * i) W[i] (Q i)
  t : T a.bp = 5 ∧ T a.br = 5 ∧ T a.bw = 5
  n1 : a.bp ≠ a.br
  n2 : a.bp ≠ a.bw
  n3 : a.br ≠ a.bw
theorem BusAt.kept {s s' : ASt} {T : Nat → Nat} {a : HA} {S : Soc} {Q : Nat → List Txn} {posted : Int} {k : Nat} (h : BusAt s T a S Q posted) (hk : Keeps T k s s') (h5 : 5 ≠ k) (h6 : ∀ i, 12 + 3 * i ≠ k) : BusAt s' T a S Q posted where
  hp := hk.at_ h.hp h.t.1 h5
  hr := hk.at_ h.hr h.t.2.1 h5
  hw := by
    obtain ⟨W, h1, h2, h3⟩ := h.hw
    exact ⟨W, hk.at_ h1 h.t.2.2 h5, h2, fun i hi => (h3 i hi).kept hk (h6 i)⟩
  t := h.t
  n1 := h.n1
  n2 := h.n2
  n3 := h.n3
structure HH (st s : ASt) (ib : Nat) (a : HA) (T : Nat → Nat) (S : Soc) (v : HV) : Prop where
  c : HC st s ib a T S v S.devs.length
  hh : s.h a.hp = some (.cells [.ptr a.tp 0, .ptr a.gp 0, .ptr a.lp 0, .ptr a.bp 0, .sl 6 a.dv 0 S.devs.length])
  Th : T a.hp = 1
  bus : BusAt s T a S v.Q v.posted
  devs : s.h a.dv = some (.cells (devsC S a S.devs.length))
  Td : T a.dv = 6
section
variable {st s s' : ASt} {ib : Nat} {a : HA} {T : Nat → Nat} {S : Soc} {v : HV}
theorem HH.with (h : HH st s ib a T S v) {k : Nat} (hk : Keeps T k s s') (hn : k ≠ 1 ∧ k ≠ 5 ∧ k ≠ 6 ∧ ∀ i, 12 + 3 * i ≠ k) {v' : HV} (hc : HC st s' ib a T S v' S.devs.length) (hq : v'.Q = v.Q) (hp : v'.posted = v.posted) : HH st s' ib a T S v' :=
  ⟨hc, hk.at_ h.hh h.Th (by omega), h.Th, by rw [hq, hp]; exact h.bus.kept hk (by omega) hn.2.2.2, hk.at_ h.devs h.Td (by omega), h.Td⟩
theorem HH.putTree (h : HH st s ib a T S v) {ns' : List Nd} (hK : KOf S.clocks ns') : HH st (s.set a.tg (nsC ns')) ib a T S { v with ns := ns' } :=
  h.with (k := 2) (Keeps.set h.c.Tt.2) (by refine ⟨?_, ?_, ?_, fun i => ?_⟩ <;> omega) (h.c.putTree hK) rfl rfl
theorem HH.putGrid (h : HH st s ib a T S v) {gs' : List Gd} (hG : GInv S.doms gs') : HH st (s.set a.gg (gsC gs')) ib a T S { v with gs := gs' } :=
  h.with (k := 3) (Keeps.set h.c.Tg.2) (by refine ⟨?_, ?_, ?_, fun i => ?_⟩ <;> omega) (h.c.putGrid hG) rfl rfl
theorem HH.putLines (h : HH st s ib a T S v) {ls' : List Ln} (hl : LInv S.rsts ls') : HH st (s.set a.lm (lnsE ls')) ib a T S { v with ls := ls' } :=
  h.with (k := 4) (Keeps.set h.c.Tl.2) (by refine ⟨?_, ?_, ?_, fun i => ?_⟩ <;> omega) (h.c.putLines hl) rfl rfl
theorem HH.putFile (h : HH st s ib a T S v) {i : Nat} (hi : i < S.devs.length) {f : FSt} (ho : s.off [a.fp i, a.fn i, a.fs i] s') (hf : FileF s' (a.fp i) (a.fn i) (a.fs i) S.devs[i].regs f.now f.saved f.kept) :
    HH st s' ib a T S { v with F := upF v.F i f } :=
  have ht := (h.c.files i hi hi).2
  h.with (k := 10 + 3 * i) (Keeps.off ho fun j hj => by
    simp only [List.mem_cons, List.not_mem_nil, or_false] at hj
    rcases hj with rfl | rfl | rfl
    · exact ht.1
    · exact ht.2.1
    · exact ht.2.2) (by refine ⟨?_, ?_, ?_, fun j => ?_⟩ <;> omega) (h.c.putFile hi ho hi hf) rfl rfl
theorem HH.putPort (h : HH st s ib a T S v) {i : Nat} (hi : i < S.devs.length) (x y : Int) (hx : 0 ≤ x ∧ x ≤ 3) : HH st (s.set (a.pp i) (.cells [.int .i64 x, .int .i64 y])) ib a T S { v with O := upF v.O i (x, y) } :=
  h.with (k := 11 + 3 * i) (Keeps.set (h.c.ports i hi).2.1) (by refine ⟨?_, ?_, ?_, fun j => ?_⟩ <;> omega) (h.c.putPort hi x y hx) rfl rfl
theorem HH.step (h : HH st s ib a T S v) (hl : s.le s') : HH st s' ib a T S v :=
  h.with (k := 100) (Keeps.of_le hl) (by refine ⟨?_, ?_, ?_, fun j => ?_⟩ <;> omega) { le := h.c.le.trans hl, tag0 := h.c.tag0, hb := hl _ _ h.c.hb, Tb := h.c.Tb, tree := h.c.tree.le hl, Tt := h.c.Tt, grid := h.c.grid.le hl, Tg := h.c.Tg, lines := h.c.lines.le hl, Tl := h.c.Tl, files := fun i hi hm => ⟨(h.c.files i hi hm).1.le hl, (h.c.files i hi hm).2⟩, ports := fun i hm => ⟨hl _ _ (h.c.ports i hm).1, (h.c.ports i hm).2⟩, kof := h.c.kof, ginv := h.c.ginv, linv := h.c.linv } rfl rfl
end
end Go.Proofs.YtdmfgodajoojpaaGreatDoor.Cn
/- The chip: what its methods do that are of one part. -/
set_option linter.unusedSimpArgs false
set_option linter.unusedVariables false
set_option maxRecDepth 100000
namespace Go.Proofs.YtdmfgodajoojpaaGreatDoor.Cn
open Go Go.Proofs

theorem LInv.release {R : List Int} {ls : List Ln} (h : LInv R ls) (i : Int) : LInv R (releaseL ls i) := by
  unfold releaseL
  split
  · rename_i hi
    have hil : i.toNat < ls.length := by have := hi.1.1; have := hi.1.2; omega
    have hx : lnOf ls i = ls[i.toNat] := by
      have := lnOf_at hil
      rwa [show ((i.toNat : Nat) : Int) = i by have := hi.1.1; omega] at this
    refine ⟨by simpa using h.len, fun j hj hj' => ?_, fun x hx' => ?_, h.bd⟩
    · simp only [List.getElem_set]
      split
      · rename_i e; subst e
        simp only [hx]; exact h.least _ _ _
      · exact h.least _ _ _
    · rcases List.mem_or_eq_of_mem_set hx' with hm | rfl
      · exact h.left x hm
      · simp only [hx]
        exact h.left _ (List.getElem_mem hil)
  · exact h
theorem tick1_same (x : Ln) : (tick1 x).least = x.least := by
  unfold tick1; split
  · split
    · rfl
    · split <;> rfl
  · rfl
theorem LInv.tick {R : List Int} {ls : List Ln} (h : LInv R ls) : LInv R (tickL ls) := by
  refine ⟨by simpa [tickL] using h.len, fun j hj hj' => ?_, fun x hx' => ?_, h.bd⟩
  · simp only [tickL, List.getElem_map, tick1_same]; exact h.least _ _ _
  · obtain ⟨y, hy, rfl⟩ := List.mem_map.mp hx'
    have := h.left y hy
    unfold tick1; split
    · split
      · simp only; omega
      · split <;> exact this
    · exact this
theorem LInv.fresh {R : List Int} (h : ∀ x ∈ R, 0 ≤ x ∧ x ≤ 20) : LInv R (freshL R) := by
  refine ⟨by simp [freshL], fun j hj hj' => by simp [freshL], fun x hx' => ?_, h⟩
  obtain ⟨y, hy, rfl⟩ := List.mem_map.mp hx'
  simp
section
variable {st s s' : ASt} {ib : Nat} {a : HA} {T : Nat → Nat} {S : Soc} {v : HV}
theorem devC_get {i j : Nat} {c : AV} (hi : i < S.devs.length) (hj : j < 6) (hc : (devC S a i)[j]? = some c) : (devsC S a S.devs.length)[i * 6 + j]? = some c := by
  have : ((List.range S.devs.length).flatMap (devC S a))[i * 6 + j]? = (devC S a ((List.range S.devs.length)[i]'(by simpa using hi)))[j]? := rows_get (devC S a) (w := 6) (devC_len S a) (by simpa using hi) hj
  rw [devsC, this]; simpa using hc
theorem devC_eq {i : Nat} (hi : i < S.devs.length) : devC S a i = [.int .i64 S.devs[i].clock, .int .i64 S.devs[i].dom, .int .i64 S.devs[i].rst, .int .u32 S.devs[i].clamp, .ptr (a.fp i) 0, .ptr (a.pp i) 0] := by
  rw [devC, List.getElem?_eq_getElem hi]
theorem devsC_len (n : Nat) : (devsC S a n).length = n * 6 := by
  have := flatMap_len (f := devC S a) (k := 6) (devC_len S a) (List.range n)
  simpa [devsC] using this
theorem devsC_at {i : Nat} (hi : i < S.devs.length) : ((devsC S a S.devs.length).drop (i * 6)).take 6 = devC S a i := by
  have := flatMap_at (f := devC S a) (k := 6) (devC_len S a) (l := List.range S.devs.length) (i := i) (by simpa using hi)
  simpa [devsC] using this
theorem devsC_fit {i : Nat} (hi : i < S.devs.length) : i * 6 + 6 ≤ (devsC S a S.devs.length).length := by rw [devsC_len]; omega

theorem hmade (h : HH st s ib a T S v) : ACalls Tryz.prog F.q94 [.ptr a.hp 0] s fun r s' => r = .bool true ∧ s' = s := by
  refine calls_of_awp L.q94 rfl ?_
  simp only [↓Bt, Bu, simprocAttr, ↓C.q94_W, C.q94_B, C.q94, h.hh]
theorem hhas (h : HH st s ib a T S v) (i : Int) : ACalls Tryz.prog F.q93 [.ptr a.hp 0, .int .i64 i] s fun r s' => r = .bool (decide (0 ≤ i ∧ i < (S.devs.length : Int))) ∧ s' = s := by
  refine calls_of_awp L.q93 rfl ?_
  simp only [↓Bt, Bu, simprocAttr, ↓C.q93_W, C.q93_B, C.q93]
  refine (hmade h).mono ?_
  rintro r s' ⟨rfl, rfl⟩
  by_cases h0 : 0 ≤ i
  · by_cases h1 : i < (S.devs.length : Int)
    · simp only [↓Bt, Bu, simprocAttr, ↓C.q93_W, C.q93_B, C.q93, h.hh, h0, h1, ge_iff_le]
    · simp only [↓Bt, Bu, simprocAttr, ↓C.q93_W, C.q93_B, C.q93, h.hh, h0, h1, ge_iff_le]
  · simp only [↓Bt, Bu, simprocAttr, ↓C.q93_W, C.q93_B, C.q93, h.hh, h0, ge_iff_le]
theorem hgate_at (h : HH st s ib a T S v) {i : Nat} (hi : i < v.ns.length) (b : Bool) : ACalls Tryz.prog F.q83 [.ptr a.hp 0, .int .i64 i, .bool b] s fun r s' =>
    r = .int .i64 (onE v.ns[i]) ∧ HH st s' ib a T S { v with ns := onL v.ns i hi b } := by
  refine calls_of_awp L.q83 rfl ?_
  simp only [↓Bt, Bu, simprocAttr, ↓C.q83_W, C.q83_B, C.q83]
  refine (hmade h).mono ?_
  rintro r s' ⟨rfl, rfl⟩
  simp only [↓Bt, Bu, simprocAttr, ↓C.q83_W, C.q83_B, C.q83, h.hh]
  refine (on_spec h.c.tree hi b).mono ?_
  rintro r s2 ⟨rfl, rfl⟩
  simp only [↓Bt, Bu, simprocAttr, ↓C.q83_W, C.q83_B, C.q83]
  exact h.putTree (h.c.kof.on hi b)
theorem hup_at (h : HH st s ib a T S v) {i : Nat} (hi : i < v.gs.length) : ACalls Tryz.prog F.q90 [.ptr a.hp 0, .int .i64 i] s fun r s' =>
    r = .int .i64 (upE v.gs i hi) ∧ HH st s' ib a T S { v with gs := upG v.gs i hi } := by
  refine calls_of_awp L.q90 rfl ?_
  simp only [↓Bt, Bu, simprocAttr, ↓C.q90_W, C.q90_B, C.q90]
  refine (hmade h).mono ?_
  rintro r s' ⟨rfl, rfl⟩
  simp only [↓Bt, Bu, simprocAttr, ↓C.q90_W, C.q90_B, C.q90, h.hh]
  refine (up_spec h.c.grid h.c.ginv.above hi).mono ?_
  rintro r s2 ⟨rfl, rfl⟩
  simp only [↓Bt, Bu, simprocAttr, ↓C.q90_W, C.q90_B, C.q90]
  exact h.putGrid (h.c.ginv.up hi)
theorem hrelease (h : HH st s ib a T S v) (i : Int) : ACalls Tryz.prog F.q87 [.ptr a.hp 0, .int .i64 i] s fun r s' =>
    r = .int .i64 (releaseE v.ls i) ∧ HH st s' ib a T S { v with ls := releaseL v.ls i } := by
  refine calls_of_awp L.q87 rfl ?_
  simp only [↓Bt, Bu, simprocAttr, ↓C.q87_W, C.q87_B, C.q87]
  refine (hmade h).mono ?_
  rintro r s' ⟨rfl, rfl⟩
  simp only [↓Bt, Bu, simprocAttr, ↓C.q87_W, C.q87_B, C.q87, h.hh]
  refine (release_spec h.c.lines i).mono ?_
  rintro r s2 ⟨rfl, rfl⟩
  simp only [↓Bt, Bu, simprocAttr, ↓C.q87_W, C.q87_B, C.q87]
  exact h.putLines (h.c.linv.release i)
theorem hrunning (h : HH st s ib a T S v) (i : Int) : ACalls Tryz.prog F.q88 [.ptr a.hp 0, .int .i64 i] s fun r s' => r = .bool (runI v.ns i) ∧ s' = s := by
  refine calls_of_awp L.q88 rfl ?_
  simp only [↓Bt, Bu, simprocAttr, ↓C.q88_W, C.q88_B, C.q88]
  refine (hmade h).mono ?_
  rintro r s' ⟨rfl, rfl⟩
  simp only [↓Bt, Bu, simprocAttr, ↓C.q88_W, C.q88_B, C.q88, h.hh]
  refine (running_spec h.c.tree h.c.kof.ok i).mono ?_
  rintro r s2 ⟨rfl, rfl⟩
  simp only [↓Bt, Bu, simprocAttr, ↓C.q88_W, C.q88_B, C.q88]
def phI (gs : List Gd) (i : Int) : Int := if h : isGd gs i then (gs[i.toNat]'(by have := h.1; have := h.2; omega)).phase else 0
theorem phI_at {gs : List Gd} {i : Nat} (h : i < gs.length) : phI gs (i : Int) = gs[i].phase := by
  rw [phI, dif_pos (isGd_at h)]; rfl
theorem hphase (h : HH st s ib a T S v) (i : Int) : ACalls Tryz.prog F.q85 [.ptr a.hp 0, .int .i64 i] s fun r s' => r = .int .u8 (phI v.gs i) ∧ s' = s := by
  refine calls_of_awp L.q85 rfl ?_
  simp only [↓Bt, Bu, simprocAttr, ↓C.q85_W, C.q85_B, C.q85]
  refine (hmade h).mono ?_
  rintro r s' ⟨rfl, rfl⟩
  simp only [↓Bt, Bu, simprocAttr, ↓C.q85_W, C.q85_B, C.q85, h.hh]
  refine (phase_spec h.c.grid i).mono ?_
  rintro r s2 ⟨rfl, rfl⟩
  simp only [↓Bt, Bu, simprocAttr, ↓C.q85_W, C.q85_B, C.q85]
  rfl
def heldI (ls : List Ln) (i : Int) : Bool := !decide (isLn ls i) || (lnOf ls i).held
theorem heldI_at {ls : List Ln} {i : Nat} (h : i < ls.length) : heldI ls (i : Int) = ls[i].held := by
  have : isLn ls (i : Int) := ⟨by omega, by omega⟩
  simp [heldI, this, lnOf_at h]
theorem hheld (h : HH st s ib a T S v) (i : Int) : ACalls Tryz.prog F.q84 [.ptr a.hp 0, .int .i64 i] s fun r s' => r = .bool (heldI v.ls i) ∧ s' = s := by
  refine calls_of_awp L.q84 rfl ?_
  simp only [↓Bt, Bu, simprocAttr, ↓C.q84_W, C.q84_B, C.q84]
  refine (hmade h).mono ?_
  rintro r s' ⟨rfl, rfl⟩
  simp only [↓Bt, Bu, simprocAttr, ↓C.q84_W, C.q84_B, C.q84, h.hh]
  refine (held_spec h.c.lines i).mono ?_
  rintro r s2 ⟨rfl, rfl⟩
  simp only [↓Bt, Bu, simprocAttr, ↓C.q84_W, C.q84_B, C.q84]
  rfl
theorem hchain (h : HH st s ib a T S v) {i : Nat} (hi : i < v.ns.length) : ACalls Tryz.prog F.q82 [.ptr a.hp 0, .int .i64 i] s fun r s' => r = row (nats (chainN v.ns i)) ∧ s' = s := by
  refine calls_of_awp L.q82 rfl ?_
  simp only [↓Bt, Bu, simprocAttr, ↓C.q82_W, C.q82_B, C.q82]
  refine (hmade h).mono ?_
  rintro r s' ⟨rfl, rfl⟩
  simp only [↓Bt, Bu, simprocAttr, ↓C.q82_W, C.q82_B, C.q82, h.hh]
  refine (cchain_at h.c.tree h.c.kof.ok hi).mono ?_
  rintro r s2 ⟨rfl, rfl⟩
  simp only [↓Bt, Bu, simprocAttr, ↓C.q82_W, C.q82_B, C.q82]
def HV.alive (v : HV) (S : Soc) (i : Nat) : Bool := match S.devs[i]? with
  | some d => runI v.ns d.clock && (decide (phI v.gs d.dom = 49) && !heldI v.ls d.rst)
  | none => false
def HV.aliveI (v : HV) (S : Soc) (i : Int) : Bool := decide (0 ≤ i) && v.alive S i.toNat
theorem alive_at {i : Nat} (hi : i < S.devs.length) : v.alive S i = (runI v.ns S.devs[i].clock && (decide (phI v.gs S.devs[i].dom = 49) && !heldI v.ls S.devs[i].rst)) := by
  rw [HV.alive, List.getElem?_eq_getElem hi]
theorem halive (h : HH st s ib a T S v) (i : Int) : ACalls Tryz.prog F.q81 [.ptr a.hp 0, .int .i64 i] s fun r s' => r = .bool (v.aliveI S i) ∧ s' = s := by
  refine ACalls.gc (Q' := fun r s' => r = .bool (v.aliveI S i) ∧ s.le s') (calls_of_awp L.q81 rfl ?_) (fun v s' ⟨h, hl⟩ => ⟨s, hl, h, rfl⟩)
  simp only [↓Bt, Bu, simprocAttr, ↓C.q81_W, C.q81_B, C.q81]
  refine (hhas h i).mono ?_
  rintro r s' ⟨rfl, rfl⟩
  by_cases hi : 0 ≤ i ∧ i < (S.devs.length : Int)
  rotate_left
  · simp only [↓Bt, Bu, simprocAttr, ↓C.q81_W, C.q81_B, C.q81, hi]
    refine ⟨?_, ASt.le.refl _⟩
    rw [HV.aliveI]
    by_cases h0 : 0 ≤ i
    · have : S.devs[i.toNat]? = none := List.getElem?_eq_none (by omega)
      simp [HV.alive, this]
    · simp [h0]
  obtain ⟨n, rfl⟩ : ∃ n : Nat, i = (n : Int) := ⟨i.toNat, by omega⟩
  have hn : n < S.devs.length := by omega
  have hfit := devsC_fit (a := a) hn
  have hat := devsC_at (a := a) hn
  rw [devC_eq hn] at hat
  have hal : v.aliveI S (n : Int) = (runI v.ns S.devs[n].clock && (decide (phI v.gs S.devs[n].dom = 49) && !heldI v.ls S.devs[n].rst)) := by
    rw [HV.aliveI, Int.toNat_natCast, alive_at hn]; simp
  rw [hal]
  simp only [↓Bt, Bu, simprocAttr, ↓C.z103, C.dq_b, C.dy_b, C.dx_b, C.dw_b, C.q81, hi, h.hh, h.devs, Int.toNat_natCast, hfit, hat]
  intro ix hix
  have hx := ASt.new_self (.cells [.int .i64 S.devs[n].clock, .int .i64 S.devs[n].dom, .int .i64 S.devs[n].rst, .int .u32 S.devs[n].clamp, .ptr (a.fp n) 0, .ptr (a.pp n) 0]) hix
  have hle := ASt.le.new s' ix (.cells [.int .i64 S.devs[n].clock, .int .i64 S.devs[n].dom, .int .i64 S.devs[n].rst, .int .u32 S.devs[n].clamp, .ptr (a.fp n) 0, .ptr (a.pp n) 0])
  simp only [↓Bt, Bu, simprocAttr, ↓C.z103, C.dq_b, C.dy_b, C.dx_b, C.dw_b, C.q81, hix, allLeaf, AV.leaf]
  rw [ASt.new_set hix]
  generalize s'.new ix (.cells [.int .i64 S.devs[n].clock, .int .i64 S.devs[n].dom, .int .i64 S.devs[n].rst, .int .u32 S.devs[n].clamp, .ptr (a.fp n) 0, .ptr (a.pp n) 0]) = t at hx hle
  have h' := h.step hle
  simp only [↓Bt, Bu, simprocAttr, ↓C.q81_W, C.q81_B, C.q81, h'.hh, hx]
  refine (running_spec h'.c.tree h'.c.kof.ok S.devs[n].clock).mono ?_
  rintro r s2 ⟨rfl, rfl⟩
  cases hr : runI v.ns S.devs[n].clock
  · simp only [↓Bt, Bu, simprocAttr, ↓C.q81_W, C.q81_B, C.q81, h'.hh, hx]
    exact ⟨by simp, hle⟩
  simp only [↓Bt, Bu, simprocAttr, ↓C.q81_W, C.q81_B, C.q81, h'.hh, hx]
  refine (phase_spec h'.c.grid S.devs[n].dom).mono ?_
  rintro r s2 ⟨rfl, rfl⟩
  rw [show (if h : isGd v.gs S.devs[n].dom then (v.gs[S.devs[n].dom.toNat]'(by have := h.1; have := h.2; omega)).phase else 0) = phI v.gs S.devs[n].dom from rfl]
  by_cases hp : phI v.gs S.devs[n].dom = 49
  rotate_left
  · simp only [↓Bt, Bu, simprocAttr, ↓C.q81_W, C.q81_B, C.q81, h'.hh, hx, hp]
    exact ⟨by simp, hle⟩
  simp only [↓Bt, Bu, simprocAttr, ↓C.q81_W, C.q81_B, C.q81, h'.hh, hx, hp]
  refine (held_spec h'.c.lines S.devs[n].rst).mono ?_
  rintro r s2 ⟨rfl, rfl⟩
  rw [show (!decide (isLn v.ls S.devs[n].rst) || (lnOf v.ls S.devs[n].rst).held) = heldI v.ls S.devs[n].rst from rfl]
  simp only [↓Bt, Bu, simprocAttr, ↓C.q81_W, C.q81_B, C.q81]
  exact ⟨by simp [hp], hle⟩
end
end Go.Proofs.YtdmfgodajoojpaaGreatDoor.Cn
/- The chip: what waits for its devices. -/
set_option linter.unusedSimpArgs false
set_option linter.unusedVariables false
set_option maxRecDepth 100000
namespace Go.Proofs.YtdmfgodajoojpaaGreatDoor.Cn
open Go Go.Proofs

theorem qcells_len (q : List Txn) : (q.flatMap Txn.cells).length = q.length * 4 := flatMap_len (f := Txn.cells) (k := 4) (fun _ => rfl) q
theorem aop_append_q {P : Program} {b : Nat} {zs : List AV} {parts : List (Nat × Nat × IArg)} {x y : IArg} {fr : AFr} {s : ASt} {F : AV → AFr} {K : AV → AV → ASt → Prop} {v : AV} {T : Nat → Nat} {t : Nat} {q : List Txn} {tx : Txn}
    (h : QAt s T t v q) (hn : q.length + 1 ≤ 4294967296) (hnew : aput (zeros zs 1) (parts.map fun p => (p.1, p.2.1, fr.val p.2.2)) = some tx.cells) (hx : ∀ v1, (F v1).val x = v) (hy : ∀ v1, (F v1).val y = v1)
    (hk : ∀ v1 i2 st2 T', (∀ j, s.h j ≠ none → T' j = T j) → Keeps T' t s st2 → QAt st2 T' t (.sl 4 i2 0 (q.length + 1)) (q ++ [tx]) → K v1 (.sl 4 i2 0 (q.length + 1)) st2) :
    aop P (.buildSlice 4 1 zs parts) fr s (fun v1 st1 => aop P (.append 4 b x y) (F v1) st1 (K v1)) := by
  simp only [aop, hnew]
  intro i1 hi1
  have h1 : (s.new i1 (.cells tx.cells)).h i1 = some (.cells tx.cells) := ASt.new_self _ hi1
  have hl4 : tx.cells.length = 4 := rfl
  have hseen : (s.new i1 (.cells tx.cells)).seen (1 * 4) (.sl 4 i1 0 1) = some tx.cells := by
    simp only [ASt.seen, h1]
    rw [if_pos (by omega)]; rfl
  have hle := ASt.le.new s i1 (.cells tx.cells)
  have hs1 : (AV.sl 4 i1 0 1).slen = some 1 := rfl
  simp only [aop, hy, hx, hs1, h.len, hseen]
  refine ⟨⟨hn, rfl⟩, ?_⟩
  rw [if_neg (by omega)]
  have tag : ∀ id', (s.new i1 (.cells tx.cells)).h id' = none → ∀ j, s.h j ≠ none → (fun j => if j = id' then t else T j) j = T j := fun id' hid' j hj => by
    simp only
    rw [if_neg]
    rintro rfl
    cases e : s.h j with
    | none => exact hj e
    | some o => rw [hle _ _ e] at hid'; cases hid'
  cases h with
  | nil =>
    intro id' hid'
    refine hk _ id' _ (fun j => if j = id' then t else T j) (tag id' hid') (Keeps.of_le (hle.trans (ASt.le.new _ _ _))) ?_
    exact .sl id' 0 [] [tx] (by rw [ASt.new_self _ hid']; simp) rfl (if_pos rfl)
  | emp =>
    intro id' hid'
    refine hk _ id' _ (fun j => if j = id' then t else T j) (tag id' hid') (Keeps.of_le (hle.trans (ASt.le.new _ _ _))) ?_
    exact .sl id' 0 [] [tx] (by rw [ASt.new_self _ hid']; simp) rfl (if_pos rfl)
  | sl id off pre q h hp ht =>
    have hid : (s.new i1 (.cells tx.cells)).h id = some (.cells (pre ++ q.flatMap Txn.cells)) := hle _ _ h
    simp only [hid]
    refine ⟨⟨trivial, by rw [List.length_append, qcells_len, hp]⟩, fun id' hid' => ?_⟩
    have hidk : ((s.new i1 (.cells tx.cells)).kill id).h id' = none := by rw [ASt.kill_h]; split; rfl; exact hid'
    refine hk _ id' _ (fun j => if j = id' then t else T j) (tag id' hid') (fun j o hj hn => ?_) ?_
    · have hjd : j ≠ id := by
        rintro rfl
        apply hn
        rw [tag id' hid' j (by rw [hj]; simp)]; exact ht
      exact ASt.new_old (by rw [ASt.kill_h, if_neg hjd]; exact hle _ _ hj)
    · have := QAt.sl (s := ((s.new i1 (.cells tx.cells)).kill id).new id' (.cells (List.drop off (pre ++ q.flatMap Txn.cells) ++ tx.cells))) (T := fun j => if j = id' then t else T j) (t := t) id' 0 [] (q ++ [tx]) (by
        rw [ASt.new_self _ hidk, List.drop_left' hp, List.flatMap_append]; simp) rfl (if_pos rfl)
      rw [List.length_append] at this
      exact this
section
variable {st s s' : ASt} {ib : Nat} {a : HA} {T : Nat → Nat} {S : Soc} {v : HV} {Q : Nat → List Txn} {posted : Int}
theorem bhas (h : BusAt s T a S Q posted) (i : Int) : ACalls Tryz.prog F.q8 [.ptr a.bp 0, .int .i64 i] s fun r s' => r = .bool (decide (0 ≤ i ∧ i < (S.devs.length : Int))) ∧ s' = s := by
  refine calls_of_awp L.q8 rfl ?_
  by_cases h0 : 0 ≤ i
  · by_cases h1 : i < (S.devs.length : Int)
    · simp only [↓Bt, Bu, simprocAttr, ↓C.q8_W, C.q8_B, C.q8, h.hp, h0, h1, ge_iff_le]
    · simp only [↓Bt, Bu, simprocAttr, ↓C.q8_W, C.q8_B, C.q8, h.hp, h0, h1, ge_iff_le]
  · simp only [↓Bt, Bu, simprocAttr, ↓C.q8_W, C.q8_B, C.q8, h.hp, h0, ge_iff_le]
theorem bwaiting (h : BusAt s T a S Q posted) {i : Nat} (hi : i < S.devs.length) : ACalls Tryz.prog F.q7 [.ptr a.bp 0, .int .i64 i] s fun r s' => r = .int .i64 ((Q i).length : Nat) ∧ s' = s := by
  obtain ⟨W, hw, hl, hq⟩ := h.hw
  have hiW : i < W.length := by omega
  have hd : (0:Int) ≤ (i : Int) ∧ (i : Int) < (S.devs.length : Int) := by omega
  refine calls_of_awp L.q7 rfl ?_
  simp only [↓Bt, Bu, simprocAttr, ↓C.q7_W, C.q7_B, C.q7]
  refine (bhas h i).mono ?_
  rintro r s' ⟨rfl, rfl⟩
  simp only [↓Bt, Bu, simprocAttr, ↓C.q7_W, C.q7_B, C.q7, hd, h.hp, hw, Int.toNat_natCast, Nat.mul_one, List.getElem?_eq_getElem hiW, (hq i hiW).len]
theorem HH.putBus (h : HH st s ib a T S v) {T' : Nat → Nat} (hT : ∀ j, s.h j ≠ none → T' j = T j) {Q' : Nat → List Txn} {posted' : Int} {s1 s2 s' : ASt} {d : Nat} (h1 : Keeps T' 5 s s1) (hk : Keeps T' (12 + 3 * d) s1 s2) (h2 : Keeps T' 5 s2 s') (hb : BusAt s' T' a S Q' posted') :
    HH st s' ib a T' S { v with Q := Q', posted := posted' } := by
  have c0 := h.c.retag hT
  have c1 := ((c0.keep h1 (by omega)).keep hk (.inr (.inr (.inr ⟨d, rfl⟩)))).keep h2 (by omega)
  have th : T' a.hp = 1 := by rw [hT a.hp (by rw [h.hh]; simp)]; exact h.Th
  have td : T' a.dv = 6 := by rw [hT a.dv (by rw [h.devs]; simp)]; exact h.Td
  exact ⟨{ le := c1.le, tag0 := c1.tag0, hb := c1.hb, Tb := c1.Tb, tree := c1.tree, Tt := c1.Tt, grid := c1.grid, Tg := c1.Tg, lines := c1.lines, Tl := c1.Tl, files := c1.files, ports := c1.ports, kof := c1.kof, ginv := c1.ginv, linv := c1.linv },
    h2.at_ (hk.at_ (h1.at_ h.hh th (by omega)) th (by omega)) th (by omega), th, hb, h2.at_ (hk.at_ (h1.at_ h.devs td (by omega)) td (by omega)) td (by omega), td⟩
theorem btake (h : HH st s ib a T S v) {i : Nat} (hi : i < S.devs.length) : ACalls Tryz.prog F.q6 [.ptr a.bp 0, .int .i64 i] s fun r s' =>
    (v.Q i = [] ∧ r = .tup [.agg [.int .i64 0, .bool false, .int .i64 0, .int .u32 0], .bool false] ∧ s' = s) ∨
    ∃ t q, v.Q i = t :: q ∧ r = .tup [.agg t.cells, .bool true] ∧ HH st s' ib a T S { v with Q := upF v.Q i q } := by
  have hz : (0:Int) ≤ (i : Int) ∧ (i : Int) < (S.devs.length : Int) := by omega
  cases hq0 : v.Q i with
  | nil =>
    refine (ACalls.gc (Q := fun r s' => r = .tup [.agg [.int .i64 0, .bool false, .int .i64 0, .int .u32 0], .bool false] ∧ s' = s) (Q' := fun r s' => r = .tup [.agg [.int .i64 0, .bool false, .int .i64 0, .int .u32 0], .bool false] ∧ s.le s') (calls_of_awp L.q6 rfl ?_) (fun v s' ⟨h, hl⟩ => ⟨s, hl, h, rfl⟩)).mono fun r s' x => .inl ⟨rfl, x⟩
    simp only [↓Bt, Bu, simprocAttr, ↓C.c8_w, C.c8_b, C.q6]
    intro ix hix
    have hle := ASt.le.new s ix (.cells [.int .i64 0, .bool false, .int .i64 0, .int .u32 0])
    have hx := ASt.new_self (.cells [.int .i64 0, .bool false, .int .i64 0, .int .u32 0]) hix
    have h' := h.step hle
    generalize s.new ix (.cells [.int .i64 0, .bool false, .int .i64 0, .int .u32 0]) = t at hle hx h'
    simp only [↓Bt, Bu, simprocAttr, ↓C.q6_W, C.q6_B, C.q6]
    refine (bhas h'.bus i).mono ?_
    rintro r t' ⟨rfl, rfl⟩
    obtain ⟨W, hw, hl, hq⟩ := h'.bus.hw
    have hiW : i < W.length := by omega
    have hql := (hq i hiW).len
    rw [hq0] at hql
    simp only [↓Bt, Bu, simprocAttr, ↓C.q6_W, C.q6_B, C.q6, hz, h'.bus.hp, hw, Int.toNat_natCast, Nat.mul_one, List.getElem?_eq_getElem hiW, hql, hx]
    refine ⟨rfl, fun j o hj => ?_⟩
    rw [ASt.set_h, if_neg (by rintro rfl; rw [hix] at hj; cases hj)]
    exact hle _ _ hj
  | cons t q =>
    refine calls_of_awp L.q6 rfl ?_
    simp only [↓Bt, Bu, simprocAttr, ↓C.c8_w, C.c8_b, C.q6]
    intro ix hix
    have hle := ASt.le.new s ix (.cells [.int .i64 0, .bool false, .int .i64 0, .int .u32 0])
    have hx := ASt.new_self (.cells [.int .i64 0, .bool false, .int .i64 0, .int .u32 0]) hix
    have h' := h.step hle
    generalize s.new ix (.cells [.int .i64 0, .bool false, .int .i64 0, .int .u32 0]) = u at hle hx h'
    simp only [↓Bt, Bu, simprocAttr, ↓C.q6_W, C.q6_B, C.q6]
    refine (bhas h'.bus i).mono ?_
    rintro r u' ⟨rfl, rfl⟩
    obtain ⟨W, hw0, hl, hq⟩ := h.bus.hw
    have hw := hle _ _ hw0
    have hiW : i < W.length := by omega
    have hqi := hq i hiW
    rw [hq0] at hqi
    have hql := hqi.len
    have hne : ¬ ((q.length + 1 : Nat) : Int) = 0 := by omega
    have hW' := List.getElem?_eq_getElem hiW
    generalize hwi : W[i] = w at hqi hql hW'
    cases hqi with
    | sl id off pre _ hid0 hp ht =>
    have hid := hle _ _ hid0
    have hz1 : (0 : Int) ≤ ((q.length + 1 : Nat) : Int) := by omega
    have hz2 : (0 : Int) < ((q.length + 1 : Nat) : Int) := by omega
    have h1l : 1 ≤ q.length + 1 := by omega
    have hidbw : ¬ id = a.bw := by
      rintro rfl
      have := h'.bus.t.2.2
      omega
    have hxbw : ¬ ix = a.bw := by rintro rfl; rw [hix] at hw0; cases hw0
    have hxid : ¬ ix = id := by rintro rfl; rw [hix] at hid0; cases hid0
    have hoff : off + 4 ≤ (pre ++ List.flatMap Txn.cells (t :: q)).length := by rw [List.length_append, qcells_len, hp]; simp; omega
    have htk : List.take 4 (List.drop off (pre ++ List.flatMap Txn.cells (t :: q))) = t.cells := by
      rw [List.drop_left' hp, List.flatMap_cons]; rfl
    have hlf : (if 1 = q.length + 1 then AV.emp else AV.sl 4 id (off + 4) q.length).leaf = true := by split <;> rfl
    have e4 : putN [AV.int IntKind.i64 0, AV.bool false, AV.int IntKind.i64 0, AV.int IntKind.u32 0] 0 t.cells = t.cells := putN_all rfl
    have l4 : t.cells.length = 4 := rfl
    have f4 : allLeaf t.cells = true := rfl
    have t4 : AV.agg (List.take 4 t.cells) = .agg t.cells := rfl
    simp only [↓Bt, Bu, simprocAttr, ↓C.q6_W, C.q6_B, C.q6, hz, h'.bus.hp, hw, Int.toNat_natCast, Nat.mul_one, hW', hql, hne, hiW, hz1, hz2, h1l, Nat.le_refl, hid, hidbw, hxbw, hxid, hoff, htk, hlf, Nat.add_sub_cancel, hx, e4, l4, f4, t4]
    have hlf' : (if q.length = 0 then AV.emp else AV.sl 4 id (off + 4) q.length).leaf = true := by split <;> rfl
    refine ⟨fun e => e, hlf', .inr ⟨t, q, rfl, rfl, ?_⟩⟩
    have hbw := h.bus.t.2.2
    have hK : Keeps T 5 s (s.set a.bw (.cells (W.set i (if q.length = 0 then AV.emp else AV.sl 4 id (off + 4) q.length)))) := Keeps.set hbw
    have hB : BusAt (s.set a.bw (.cells (W.set i (if q.length = 0 then AV.emp else AV.sl 4 id (off + 4) q.length)))) T a S (upF v.Q i q) v.posted := by
      refine ⟨?_, ?_, ⟨W.set i (if q.length = 0 then AV.emp else AV.sl 4 id (off + 4) q.length), by rw [ASt.set_h, if_pos rfl, hw0]; rfl, by simpa using hl, fun j hj => ?_⟩, h.bus.t, h.bus.n1, h.bus.n2, h.bus.n3⟩
      · rw [ASt.set_h, if_neg h.bus.n2]; exact h.bus.hp
      · rw [ASt.set_h, if_neg h.bus.n3]; exact h.bus.hr
      · simp only [List.length_set] at hj
        by_cases e : j = i
        · subst e
          rw [upF_at, List.getElem_set_self]
          by_cases e0 : q.length = 0
          · rw [if_pos e0, List.eq_nil_of_length_eq_zero e0]; exact .emp
          · rw [if_neg e0]
            refine .sl id (off + 4) (pre ++ t.cells) q ?_ (by rw [List.length_append, hp]; rfl) ht
            rw [ASt.set_h, if_neg hidbw, hid0, List.flatMap_cons, List.append_assoc]
        · rw [upF_ne e, List.getElem_set_ne (Ne.symm e)]
          exact (hq j hj).kept hK (by omega)
    have H1 := h.putBus (T' := T) (s1 := s.set a.bw (.cells (W.set i (if q.length = 0 then AV.emp else AV.sl 4 id (off + 4) q.length)))) (d := i) (fun _ _ => rfl) hK (Keeps.refl _ _ _) (Keeps.refl _ _ _) hB
    refine H1.step fun j o hj => ?_
    have hjx : j ≠ ix := by
      rintro rfl
      rw [ASt.set_h, if_neg hxbw, hix] at hj; cases hj
    rw [ASt.set_h, if_neg hjx]
    rw [ASt.set_h] at hj ⊢
    split
    · rename_i e
      rw [if_pos e] at hj
      subst e
      rw [hw0] at hj; rw [hw]; exact hj
    · rename_i e
      rw [if_neg e] at hj
      exact hle _ _ hj
theorem bpost (h : HH st s ib a T S v) {d k : Nat} (hd : d < S.devs.length) (hk : k < S.devs[d].regs.length) (hd4 : d < 4) (hk4 : k < 4) (w : Bool) (x : Int) (hf : (v.Q d).length < 4) :
    ACalls Tryz.prog F.q5 [.ptr a.bp 0, .int .u32 (addrV d k), .bool w, .int .u32 x] s fun r s' => r = .tup [.int .i64 v.posted, .int .i64 0] ∧
      ∃ T', HH st s' ib a T' S { v with Q := upF v.Q d (v.Q d ++ [⟨v.posted, w, (k : Int), x⟩]), posted := IntKind.i64.wrap (v.posted + 1) } := by
  refine calls_of_awp L.q5 rfl ?_
  simp only [↓Bt, Bu, simprocAttr, ↓C.q5_W, C.q5_B, C.q5]
  refine (split_spec hd4 hk4).mono ?_
  rintro r s' ⟨rfl, rfl⟩
  simp only [↓Bt, Bu, simprocAttr, ↓C.q5_W, C.q5_B, C.q5]
  refine (bhas h.bus d).mono ?_
  rintro r s' ⟨rfl, rfl⟩
  have hz : (0:Int) ≤ (d : Int) ∧ (d : Int) < (S.devs.length : Int) := by omega
  obtain ⟨W, hw, hl, hq⟩ := h.bus.hw
  have hdW : d < W.length := by omega
  have hqd := hq d hdW
  have hql := hqd.len
  have hW' := List.getElem?_eq_getElem hdW
  have hk0 : ¬ (k : Int) < 0 := by omega
  have hrg : (ints (S.devs.map fun d => (d.regs.length : Int)))[d]? = some (.int .i64 (S.devs[d].regs.length : Nat)) := by rw [ints_get (by simpa using hd)]; simp
  have hkr : ¬ ((S.devs[d].regs.length : Nat) : Int) ≤ (k : Int) := by omega
  have hfl : ¬ (4 : Int) ≤ (((v.Q d).length : Nat) : Int) := by omega
  simp only [↓Bp, Bq, Bs, simprocAttr, ↓C.q5_W, C.q5_B, C.q5, hz, h.bus.hp, h.bus.hr, hw, Int.toNat_natCast, Nat.mul_one, hW', hql, hk0, hrg, hkr, hfl, ge_iff_le, h.bus.n1, h.bus.n2, Ne.symm h.bus.n1, Ne.symm h.bus.n2]
  have hbp := h.bus.t.1
  have hbw := h.bus.t.2.2
  have hbr := h.bus.t.2.1
  obtain ⟨s1, hs1⟩ : ∃ s1, s1 = s'.set a.bp (.cells [.sl 1 a.br 0 S.devs.length, .sl 1 a.bw 0 S.devs.length, .int .i64 (IntKind.i64.wrap (v.posted + 1))]) := ⟨_, rfl⟩
  rw [← hs1]
  have hK1 : ∀ {T' : Nat → Nat}, (∀ j, s'.h j ≠ none → T' j = T j) → Keeps T' 5 s' s1 := fun {T'} hT => by
    rw [hs1]; exact Keeps.set (by rw [hT _ (by rw [h.bus.hp]; simp)]; exact hbp)
  have hlive : ∀ j, s'.h j ≠ none → s1.h j ≠ none := fun j hj => by
    rw [hs1, ASt.set_h]
    split
    · rename_i e; subst e; rw [h.bus.hp]; simp
    · exact hj
  have hqd1 := hqd.kept (hK1 (T' := T) fun _ _ => rfl) (by omega)
  have hp1 : s1.h a.bp = some (.cells [.sl 1 a.br 0 S.devs.length, .sl 1 a.bw 0 S.devs.length, .int .i64 (IntKind.i64.wrap (v.posted + 1))]) := by rw [hs1, ASt.set_h, if_pos rfl, h.bus.hp]; rfl
  have hw1 : s1.h a.bw = some (.cells W) := by rw [hs1, ASt.set_h, if_neg (Ne.symm h.bus.n2)]; exact hw
  have hr1 : s1.h a.br = some (.cells (ints (S.devs.map fun d => (d.regs.length : Int)))) := by rw [hs1, ASt.set_h, if_neg (Ne.symm h.bus.n1)]; exact h.bus.hr
  refine aop_append_q (tx := ⟨v.posted, w, (k : Int), x⟩) hqd1 (by omega) (aput_one rfl rfl) (fun _ => rfl) (fun _ => rfl) fun v1 i2 st2 T' hT' hK' hq' => ?_
  have hT : ∀ j, s'.h j ≠ none → T' j = T j := fun j hj => hT' j (hlive j hj)
  have tp : T' a.bp = 5 := by rw [hT' a.bp (by rw [hp1]; simp)]; exact hbp
  have tw : T' a.bw = 5 := by rw [hT' a.bw (by rw [hw1]; simp)]; exact hbw
  have tr : T' a.br = 5 := by rw [hT' a.br (by rw [hr1]; simp)]; exact hbr
  have hp2 := hK'.at_ hp1 tp (by omega)
  have hw2 := hK'.at_ hw1 tw (by omega)
  have hr2 := hK'.at_ hr1 tr (by omega)
  simp only [↓Bt, Bu, simprocAttr, hp2, hw2, hdW, AV.leaf, List.getElem?_cons_succ, List.getElem?_cons_zero]
  have hK2 : Keeps T' 5 st2 (st2.set a.bw (.cells (W.set d (.sl 4 i2 0 ((v.Q d).length + 1))))) := Keeps.set tw
  refine ⟨T', h.putBus (d := d) hT (hK1 hT) hK' hK2 ⟨?_, ?_, ⟨W.set d (.sl 4 i2 0 ((v.Q d).length + 1)), by rw [ASt.set_h, if_pos rfl, hw2]; rfl, by simpa using hl, fun j hj => ?_⟩, ⟨tp, tr, tw⟩, h.bus.n1, h.bus.n2, h.bus.n3⟩⟩
  · rw [ASt.set_h, if_neg h.bus.n2]; exact hp2
  · rw [ASt.set_h, if_neg h.bus.n3]; exact hr2
  · simp only [List.length_set] at hj
    by_cases e : j = d
    · subst e
      rw [upF_at, List.getElem_set_self]
      exact hq'.kept hK2 (by omega)
    · rw [upF_ne e, List.getElem_set_ne (Ne.symm e)]
      exact ((((hq j hj).retag hT).kept (hK1 hT) (by omega)).kept hK' (by omega)).kept hK2 (by omega)
theorem file_at (h : HH st s ib a T S v) {i : Nat} (hi : i < S.devs.length) : FileF s (a.fp i) (a.fn i) (a.fs i) S.devs[i].regs (v.F i).now (v.F i).saved (v.F i).kept := (h.c.files i hi hi).1
theorem port_at (h : HH st s ib a T S v) {i : Nat} (hi : i < S.devs.length) : PortAt s (a.pp i) (v.O i).1 (v.O i).2 := (h.c.ports i hi).1
theorem hwaiting_at (h : HH st s ib a T S v) {i : Nat} (hi : i < S.devs.length) : ACalls Tryz.prog F.q91 [.ptr a.hp 0, .int .i64 i] s fun r s' => r = .int .i64 ((v.Q i).length : Nat) ∧ s' = s := by
  have hz : (0:Int) ≤ (i : Int) ∧ (i : Int) < (S.devs.length : Int) := by omega
  refine calls_of_awp L.q91 rfl ?_
  simp only [↓Bt, Bu, simprocAttr, ↓C.q91_W, C.q91_B, C.q91]
  refine (hhas h i).mono ?_
  rintro r s' ⟨rfl, rfl⟩
  simp only [↓Bt, Bu, simprocAttr, ↓C.q91_W, C.q91_B, C.q91, hz, h.hh]
  refine (bwaiting h.bus hi).mono ?_
  rintro r s' ⟨rfl, rfl⟩
  simp only [↓Bt, Bu, simprocAttr, ↓C.q91_W, C.q91_B, C.q91]
theorem dev_cell (h : HH st s ib a T S v) {i j : Nat} {c : AV} (hi : i < S.devs.length) (hj : j < 6) (hc : ([.int .i64 S.devs[i].clock, .int .i64 S.devs[i].dom, .int .i64 S.devs[i].rst, .int .u32 S.devs[i].clamp, .ptr (a.fp i) 0, .ptr (a.pp i) 0] : List AV)[j]? = some c) : (devsC S a S.devs.length)[i * 6 + j]? = some c :=
  devC_get hi hj (by rw [devC_eq hi]; exact hc)
end
end Go.Proofs.YtdmfgodajoojpaaGreatDoor.Cn
/- The chip: what is answered. -/
set_option linter.unusedSimpArgs false
set_option linter.unusedVariables false
set_option maxRecDepth 100000
namespace Go.Proofs.YtdmfgodajoojpaaGreatDoor.Cn
open Go Go.Proofs

structure Ans where
  id : Int
  dev : Nat
  dead : Bool
  value : Int
def Ans.cells (x : Ans) : List AV := [.int .i64 x.id, .int .i64 (x.dev : Nat), .bool x.dead, .int .u32 x.value]
def FSt.put (f : FSt) (t : Txn) : FSt := if t.write = true then { f with now := fun j => if j = t.reg.toNat then t.value else f.now j } else f
def clampOf (S : Soc) (i : Nat) : Int := ((S.devs[i]?).map Dev.clamp).getD 0
def HV.ansOf (v : HV) (S : Soc) (i : Nat) : Option Ans := match v.Q i with
  | [] => none
  | t :: _ => some (if v.alive S i = true then ⟨t.id, i, false, (v.F i).now t.reg.toNat⟩ else ⟨t.id, i, true, clampOf S i⟩)
def HV.wrF (v : HV) (S : Soc) (i : Nat) : FSt := match v.Q i with
  | [] => v.F i
  | t :: _ => if v.alive S i = true then (v.F i).put t else v.F i
def QOk (S : Soc) (Q : Nat → List Txn) : Prop := ∀ i (h : i < S.devs.length), ∀ t ∈ Q i, ∃ k : Nat, t.reg = (k : Int) ∧ k < S.devs[i].regs.length
section
variable {st s s' : ASt} {ib : Nat} {a : HA} {T : Nat → Nat} {S : Soc} {v : HV}
theorem clampOf_at {i : Nat} (hi : i < S.devs.length) : clampOf S i = S.devs[i].clamp := by simp [clampOf, hi]
theorem le_set_new {s0 s : ASt} {i : Nat} {o : AObj} (h : s0.le s) (hi : s0.h i = none) : s0.le (s.set i o) := fun j x hj => by
  rw [ASt.set_h, if_neg (by rintro rfl; rw [hi] at hj; cases hj)]; exact h _ _ hj
theorem HH.retag (h : HH st s ib a T S v) {T' : Nat → Nat} (hT : ∀ j, s.h j ≠ none → T' j = T j) : HH st s ib a T' S v := by
  obtain ⟨W, hw, hl, hq⟩ := h.bus.hw
  exact ⟨h.c.retag hT, h.hh, by rw [hT a.hp (by rw [h.hh]; simp)]; exact h.Th, ⟨h.bus.hp, h.bus.hr, ⟨W, hw, hl, fun i hi => (hq i hi).retag hT⟩,
    ⟨by rw [hT _ (by rw [h.bus.hp]; simp)]; exact h.bus.t.1, by rw [hT _ (by rw [h.bus.hr]; simp)]; exact h.bus.t.2.1, by rw [hT _ (by rw [hw]; simp)]; exact h.bus.t.2.2⟩, h.bus.n1, h.bus.n2, h.bus.n3⟩,
    h.devs, by rw [hT a.dv (by rw [h.devs]; simp)]; exact h.Td⟩
theorem HH.rebase (h : HH st s ib a T S v) {st1 : ASt} (hl : st1.le s) (ht : ∀ j, st1.h j ≠ none → T j = 0) : HH st1 s ib a T S v :=
  ⟨{ le := hl, tag0 := ht, hb := h.c.hb, Tb := h.c.Tb, tree := h.c.tree, Tt := h.c.Tt, grid := h.c.grid, Tg := h.c.Tg, lines := h.c.lines, Tl := h.c.Tl, files := h.c.files, ports := h.c.ports, kof := h.c.kof, ginv := h.c.ginv, linv := h.c.linv }, h.hh, h.Th, h.bus, h.devs, h.Td⟩
theorem HH.less (h : HH st s ib a T S v) {st1 : ASt} (hl : st1.le st) : HH st1 s ib a T S v :=
  h.rebase (hl.trans h.c.le) fun j hj => h.c.tag0 j (by
    cases e : st1.h j with
    | none => exact absurd e hj
    | some o => rw [hl _ _ e]; simp)
def HX (st s : ASt) (ib : Nat) (a : HA) (S : Soc) (v : HV) : Prop := ∃ T, HH st s ib a T S v
theorem HX.less (h : HX st s ib a S v) {st1 : ASt} (hl : st1.le st) : HX st1 s ib a S v := h.imp fun _ h => h.less hl
theorem HX.step (h : HX st s ib a S v) (hl : s.le s') : HX st s' ib a S v := h.imp fun _ h => h.step hl
theorem HX.le (h : HX st s ib a S v) : st.le s := h.elim fun _ h => h.c.le
theorem HX.loc (h : HX st s ib a S v) {ix : Nat} (hi : s.h ix = none) (o : AObj) : HX (st.new ix o) (s.new ix o) ib a S v := by
  obtain ⟨T, h⟩ := h
  have hT : ∀ j, s.h j ≠ none → (fun j => if j = ix then 0 else T j) j = T j := fun j hj => by
    simp only
    rw [if_neg (by rintro rfl; exact hj hi)]
  have hle := h.c.le
  refine ⟨fun j => if j = ix then 0 else T j, ((h.retag hT).step (ASt.le.new s ix o)).rebase (hle.newB hi o) fun j hj => ?_⟩
  by_cases e : j = ix
  · simp [e]
  · simp only [if_neg e]
    rw [ASt.new_ne _ e] at hj
    exact h.c.tag0 j hj
theorem ASt.le.setB {s0 s : ASt} (h : s0.le s) (i : Nat) (o : AObj) : (s0.set i o).le (s.set i o) := fun j x hj => by
  rw [ASt.set_h] at hj ⊢
  split
  · rename_i e; subst e
    rw [if_pos rfl] at hj
    cases e0 : s0.h j with
    | none => rw [e0] at hj; cases hj
    | some y => rw [e0] at hj; rw [h _ _ e0]; exact hj
  · rename_i e
    rw [if_neg e] at hj; exact h _ _ hj
theorem HX.locSet (h : HX st s ib a S v) {ix : Nat} (hi : st.h ix ≠ none) (o : AObj) : HX (st.set ix o) (s.set ix o) ib a S v := by
  obtain ⟨T, h⟩ := h
  have h0 := h.c.tag0 ix hi
  refine ⟨T, ?_⟩
  have hk : Keeps T 0 s (s.set ix o) := Keeps.set h0
  have hl0 : ∀ j, (st.set ix o).h j ≠ none → st.h j ≠ none := fun j hj => by
    rw [ASt.set_h] at hj
    split at hj
    · rename_i e; subst e; exact hi
    · exact hj
  refine ⟨{ le := h.c.le.setB ix o, tag0 := fun j hj => h.c.tag0 j (hl0 j hj), hb := hk.at_ h.c.hb h.c.Tb (by omega), Tb := h.c.Tb, tree := h.c.tree.kept h.c.Tt hk (by omega), Tt := h.c.Tt, grid := h.c.grid.kept h.c.Tg hk (by omega), Tg := h.c.Tg, lines := h.c.lines.kept h.c.Tl hk (by omega), Tl := h.c.Tl, files := (fun i hi hm => ⟨(h.c.files i hi hm).1.kept (h.c.files i hi hm).2 hk (by omega), (h.c.files i hi hm).2⟩), ports := (fun i hm => ⟨hk.at_ (h.c.ports i hm).1 (h.c.ports i hm).2.1 (by omega), (h.c.ports i hm).2⟩), kof := h.c.kof, ginv := h.c.ginv, linv := h.c.linv },
    hk.at_ h.hh h.Th (by omega), h.Th, h.bus.kept hk (by omega) (fun i => by omega), hk.at_ h.devs h.Td (by omega), h.Td⟩
theorem HX.box (h : HX st s ib a S v) {ix : Nat} (hi : s.h ix = none) (o : AObj) : HX (st.new ix o) (s.new ix o) ib a S v ∧ (st.new ix o).h ix = some o ∧ st.le (st.new ix o) :=
  ⟨h.loc hi o, ASt.new_self _ (fresh_of_le h.le hi), ASt.le.new _ _ _⟩
set_option maxHeartbeats 1000000 in
theorem hanswer (h : HX st s ib a S v) (hQ : QOk S v.Q) {i : Nat} (hi : i < S.devs.length) : ACalls Tryz.prog F.q92 [.ptr a.hp 0, .int .i64 i] s fun r s' =>
    (match v.ansOf S i with
      | none => r = .tup [.agg [.int .i64 0, .int .i64 0, .bool false, .int .u32 0], .bool false]
      | some x => r = .tup [.agg x.cells, .bool true]) ∧ HX st s' ib a S { v with Q := upF v.Q i (v.Q i).tail, F := upF v.F i (v.wrF S i) } := by
  have hz : (0:Int) ≤ (i : Int) ∧ (i : Int) < (S.devs.length : Int) := by omega
  have hvF : ∀ f : FSt, f = v.F i → upF v.F i f = v.F := fun f e => by
    funext j
    by_cases hj : j = i
    · subst hj; rw [upF_at, e]
    · rw [upF_ne hj]
  refine calls_of_awp L.q92 rfl ?_
  simp only [↓Bt, Bu, simprocAttr, ↓C.bd_w, C.bd_b, C.q92]
  intro ix hix
  obtain ⟨h1, hx, hle1⟩ := h.box hix (.cells [.int .i64 0, .int .i64 0, .bool false, .int .u32 0])
  generalize s.new ix (.cells [.int .i64 0, .int .i64 0, .bool false, .int .u32 0]) = u at h1
  generalize st.new ix (.cells [.int .i64 0, .int .i64 0, .bool false, .int .u32 0]) = st1 at h1 hx hle1
  obtain ⟨T, h2⟩ := h1
  have hixs : st.h ix = none := fresh_of_le h.le hix
  simp only [↓Bt, Bu, simprocAttr, ↓C.z113, C.bk_b, ↓C.bd_w, C.bd_b, C.q92, h2.hh]
  refine (btake h2 hi).mono ?_
  rintro r u2 (⟨hq, rfl, rfl⟩ | ⟨t, q, hq, rfl, h3⟩)
  · have hxu := h2.c.le _ _ hx
    simp only [↓Bt, Bu, simprocAttr, ↓C.z113, C.bk_b, ↓C.bd_w, C.bd_b, C.q92]
    intro i6 hi6
    have n6 : ¬ ix = i6 := by rintro rfl; rw [hxu] at hi6; cases hi6
    simp only [↓Bt, Bu, simprocAttr, ↓C.q92_W, C.q92_B, C.q92, hi6, n6, hxu]
    have e1 : v.ansOf S i = none := by rw [HV.ansOf, hq]
    have e2 : v.wrF S i = v.F i := by rw [HV.wrF, hq]
    rw [e1, e2, hq, hvF _ rfl]
    have e3 : upF v.Q i [] = v.Q := by
      funext j
      by_cases hj : j = i
      · subst hj; rw [upF_at, hq]
      · rw [upF_ne hj]
    simp only [List.tail_nil, e3]
    refine ⟨rfl, rfl, trivial, ?_⟩
    rw [ASt.new_set hi6]
    obtain ⟨h4, -, hle2⟩ := HX.box ⟨T, h2⟩ hi6 (.cells [.int .i64 0, .bool false, .int .i64 0, .int .u32 0])
    exact (h4.locSet (by rw [hle2 _ _ hx]; simp) _).less (le_set_new (hle1.trans hle2) hixs)
  · simp only [↓Bt, Bu, simprocAttr, ↓C.z113, C.bk_b, ↓C.bd_w, C.bd_b, C.q92]
    intro i6 hi6
    have l4 : t.cells.length = 4 := rfl
    have f4 : allLeaf t.cells = true := rfl
    simp only [↓Bt, Bu, simprocAttr, ↓C.z113, C.bk_b, ↓C.bd_w, C.bd_b, C.q92, hi6, l4, f4]
    rw [ASt.new_set hi6, putN_all (zs := [AV.int .i64 0, AV.bool false, AV.int .i64 0, AV.int .u32 0]) (vs := t.cells) rfl]
    obtain ⟨h4, hx6, hle2⟩ := HX.box ⟨T, h3⟩ hi6 (.cells t.cells)
    have hx2 := hle2 _ _ hx
    generalize u2.new i6 (.cells t.cells) = u3 at h4
    generalize st1.new i6 (.cells t.cells) = st2 at h4 hx6 hle2 hx2
    have hle3 := hle1.trans hle2
    clear h3 hle1 hle2 hx
    obtain ⟨T2, h5⟩ := h4
    have hfit := devsC_fit (a := a) hi
    have hat := devsC_at (a := a) hi
    rw [devC_eq hi] at hat
    simp only [↓Bt, Bu, simprocAttr, ↓C.z112, C.z37, ↓C.z113, C.bk_b, ↓C.bd_w, C.bd_b, C.q92, h5.hh, h5.devs, hz, Int.toNat_natCast, hfit, hat]
    intro i8 hi8
    simp only [↓Bt, Bu, simprocAttr, ↓C.z112, C.z37, ↓C.z113, C.bk_b, ↓C.bd_w, C.bd_b, C.q92, hi8, allLeaf, AV.leaf]
    rw [ASt.new_set hi8]
    obtain ⟨h6, hx8, hle4⟩ := HX.box ⟨T2, h5⟩ hi8 (.cells [.int .i64 S.devs[i].clock, .int .i64 S.devs[i].dom, .int .i64 S.devs[i].rst, .int .u32 S.devs[i].clamp, .ptr (a.fp i) 0, .ptr (a.pp i) 0])
    have hx3 := hle4 _ _ hx2
    have hx7 := hle4 _ _ hx6
    generalize u3.new i8 (.cells [.int .i64 S.devs[i].clock, .int .i64 S.devs[i].dom, .int .i64 S.devs[i].rst, .int .u32 S.devs[i].clamp, .ptr (a.fp i) 0, .ptr (a.pp i) 0]) = u4 at h6
    generalize st2.new i8 (.cells [.int .i64 S.devs[i].clock, .int .i64 S.devs[i].dom, .int .i64 S.devs[i].rst, .int .u32 S.devs[i].clamp, .ptr (a.fp i) 0, .ptr (a.pp i) 0]) = st3 at h6 hx8 hle4 hx3 hx7
    have hle5 := hle3.trans hle4
    clear h5 hle3 hle4 hx2 hx6
    obtain ⟨T3, h7⟩ := h6
    have y3 := h7.c.le _ _ hx3
    have y7 := h7.c.le _ _ hx7
    have y8 := h7.c.le _ _ hx8
    have hlive : st3.h ix ≠ none := by rw [hx3]; simp
    have y7' := y7
    rw [Txn.cells] at y7'
    simp only [↓Bt, Bu, simprocAttr, ↓C.q92_W, C.q92_B, C.q92]
    refine (halive h7 i).mono ?_
    rintro r u5 ⟨rfl, rfl⟩
    have hal : HV.aliveI { v with Q := upF v.Q i q } S (i : Int) = v.alive S i := by
      rw [HV.aliveI, Int.toNat_natCast]
      simp [HV.alive]
    rw [hal]
    have e1 : v.ansOf S i = some (if v.alive S i = true then ⟨t.id, i, false, (v.F i).now t.reg.toNat⟩ else ⟨t.id, i, true, clampOf S i⟩) := by rw [HV.ansOf, hq]
    have e2 : v.wrF S i = if v.alive S i = true then (v.F i).put t else v.F i := by rw [HV.wrF, hq]
    rw [e1, e2, hq]
    simp only [List.tail_cons]
    cases hal2 : v.alive S i
    · simp only [↓Bt, Bu, simprocAttr, ↓C.q92_W, C.q92_B, C.q92, y3, y7', y8, allLeaf, AV.leaf]
      refine ⟨by rw [clampOf_at hi]; rfl, ?_⟩
      rw [hvF _ rfl]
      exact (HX.locSet ⟨T3, h7⟩ hlive _).less (le_set_new hle5 hixs)
    · obtain ⟨k, hk, hkl⟩ := hQ i hi t (by rw [hq]; simp)
      have hcell := y7'
      rw [hk] at y7'
      simp only [↓Bt, Bu, simprocAttr, ↓C.q92_W, C.q92_B, C.q92, y3, y7', y8]
      refine (read_at (file_at h7 hi) hkl).mono ?_
      rintro r u6 ⟨rfl, rfl⟩
      have hkt : t.reg.toNat = k := by rw [hk]; rfl
      have fin : ∀ (f : FSt) (u7 : ASt), HX st3 u7 ib a S { v with Q := upF v.Q i q, F := upF v.F i f } → f = (v.F i).put t → awp Tryz.prog C.bkd
          (Post [IRes.cellN 4 4, IRes.slot 5] fun r s' => r = AV.tup [AV.agg (Ans.mk t.id i false ((v.F i).now t.reg.toNat)).cells, AV.bool true] ∧ HX st s' ib a S { v with Q := upF v.Q i (t :: q).tail, F := upF v.F i ((v.F i).put t) })
          [(1, .int .i64 i), (4, .ptr ix 0), (6, .ptr i6 0), (9, .int .u32 ((v.F i).now k))] u7 := by
        intro f u7 h8 hf
        have y3 := h8.le _ _ hx3
        have y7 := h8.le _ _ hx7
        rw [Txn.cells] at y7
        simp only [↓Bt, Bu, simprocAttr, ↓C.q92_W, C.q92_B, C.q92, y3, y7, allLeaf, AV.leaf]
        refine ⟨by rw [hkt]; rfl, ?_⟩
        rw [← hf]
        exact (h8.locSet hlive _).less (le_set_new hle5 hixs)
      simp only [↓Bt, Bu, simprocAttr, ↓C.z114, C.z38, ↓C.z112, C.z37, ↓C.z113, C.bk_b, ↓C.bd_w, C.bd_b, C.q92, y3, y7', y8]
      by_cases htw : t.write = true
      · rw [if_pos htw]
        refine (write_at (file_at h7 hi) hkl t.value).mono ?_
        rintro r u7 ⟨rfl, g1, g2⟩
        have h8 := h7.putFile hi g2 (f := (v.F i).put t) (by rw [FSt.put, if_pos htw, hkt]; exact g1)
        have := fin _ u7 ⟨T3, h8⟩ rfl
        simp only [↓Bt, Bu, simprocAttr, ↓C.z114, C.z38, ↓C.z112, C.z37, ↓C.z113, C.bk_b, ↓C.bd_w, C.bd_b, C.q92, y3, y7', y8]
        rw [C.bkd_w, awp_keep] at this ⊢
        exact this
      · rw [if_neg htw]
        have := fin (v.F i) u6 ⟨T3, by rw [hvF _ rfl]; exact h7⟩ (by rw [FSt.put, if_neg htw])
        rw [C.bkd_w, awp_keep] at this ⊢
        exact this
end
end Go.Proofs.YtdmfgodajoojpaaGreatDoor.Cn
/- The chip: a tick, its first half: what is answered, the channels. -/
set_option linter.unusedSimpArgs false
set_option linter.unusedVariables false
set_option maxRecDepth 100000
namespace Go.Proofs.YtdmfgodajoojpaaGreatDoor.Cn
open Go Go.Proofs

def HV.ansV (v : HV) (S : Soc) (n : Nat) : HV := { v with Q := fun i => if i < n then (v.Q i).tail else v.Q i, F := fun i => if i < n then v.wrF S i else v.F i }
def HV.told (v : HV) (S : Soc) (n : Nat) : List Ans := (List.range n).filterMap (v.ansOf S)
theorem ansV_zero (v : HV) (S : Soc) : v.ansV S 0 = v := by
  simp [HV.ansV]
theorem ansV_succ (v : HV) (S : Soc) (n : Nat) : { v.ansV S n with Q := upF (v.ansV S n).Q n ((v.ansV S n).Q n).tail, F := upF (v.ansV S n).F n ((v.ansV S n).wrF S n) } = v.ansV S (n + 1) := by
  have hq : (v.ansV S n).Q n = v.Q n := by simp [HV.ansV]
  have hf : (v.ansV S n).F n = v.F n := by simp [HV.ansV]
  have hw : (v.ansV S n).wrF S n = v.wrF S n := by
    unfold HV.wrF
    rw [hq, hf]; rfl
  have e1 : upF (v.ansV S n).Q n ((v.ansV S n).Q n).tail = (v.ansV S (n + 1)).Q := by
    funext i
    rw [hq]
    by_cases h : i = n
    · subst h; rw [upF_at]; simp [HV.ansV]
    · rw [upF_ne h]
      by_cases h2 : i < n
      · simp [HV.ansV, h2, show i < n + 1 by omega]
      · simp [HV.ansV, h2, show ¬ i < n + 1 by omega]
  have e2 : upF (v.ansV S n).F n ((v.ansV S n).wrF S n) = (v.ansV S (n + 1)).F := by
    funext i
    rw [hw]
    by_cases h : i = n
    · subst h; rw [upF_at]; simp [HV.ansV]
    · rw [upF_ne h]
      by_cases h2 : i < n
      · simp [HV.ansV, h2, show i < n + 1 by omega]
      · simp [HV.ansV, h2, show ¬ i < n + 1 by omega]
  rw [e1, e2]; rfl
theorem ansV_ansOf (v : HV) (S : Soc) (n : Nat) : (v.ansV S n).ansOf S n = v.ansOf S n := by
  have hq : (v.ansV S n).Q n = v.Q n := by simp [HV.ansV]
  have hf : (v.ansV S n).F n = v.F n := by simp [HV.ansV]
  unfold HV.ansOf
  rw [hq, hf]; rfl
theorem QOk.ansV {S : Soc} {v : HV} (h : QOk S v.Q) (n : Nat) : QOk S (v.ansV S n).Q := fun i hi t ht => by
  simp only [HV.ansV] at ht
  split at ht
  · exact h i hi t (List.mem_of_mem_tail ht)
  · exact h i hi t ht
theorem told_succ (v : HV) (S : Soc) (n : Nat) : v.told S (n + 1) = v.told S n ++ (v.ansOf S n).toList := by
  simp only [HV.told]
  rw [List.range_succ, List.filterMap_append]
  cases h : v.ansOf S n <;> simp [h]
theorem told_len (v : HV) (S : Soc) (n : Nat) : (v.told S n).length ≤ n := by
  have := List.length_filterMap_le (v.ansOf S) (List.range n)
  simpa [HV.told] using this
def denyB (deny : Int) (i : Nat) : Bool := decide (IntKind.u32.wrap (BitVec.ofInt 32 (deny.fdiv (2 ^ (min i 32))) &&& BitVec.ofInt 32 1).toNat = 1)
def HV.portV (w : HV) (deny : Int) (n : Nat) : HV := { w with O := fun i => if i < n then qtick (w.O i).1 (w.O i).2 (decide ((0 : Int) < ((w.Q i).length : Nat))) (denyB deny i) else w.O i }
theorem portV_zero (w : HV) (deny : Int) : w.portV deny 0 = w := by simp [HV.portV]
theorem portV_succ (w : HV) (deny : Int) (n : Nat) : { w.portV deny n with O := upF (w.portV deny n).O n (qtick (w.O n).1 (w.O n).2 (decide ((0 : Int) < ((w.Q n).length : Nat))) (denyB deny n)) } = w.portV deny (n + 1) := by
  have e1 : upF (w.portV deny n).O n (qtick (w.O n).1 (w.O n).2 (decide ((0 : Int) < ((w.Q n).length : Nat))) (denyB deny n)) = (w.portV deny (n + 1)).O := by
    funext i
    by_cases h : i = n
    · subst h; rw [upF_at]; simp [HV.portV]
    · rw [upF_ne h]
      by_cases h2 : i < n
      · simp [HV.portV, h2, show i < n + 1 by omega]
      · simp [HV.portV, h2, show ¬ i < n + 1 by omega]
  rw [e1]; rfl
theorem qtick_ok {x y : Int} {a d : Bool} (h : 0 ≤ x ∧ x ≤ 3) : 0 ≤ (qtick x y a d).1 ∧ (qtick x y a d).1 ≤ 3 := by
  unfold qtick
  split
  · split
    · simp
    · split <;> simp
  · exact h
section
variable {st s s' : ASt} {ib : Nat} {a : HA} {T : Nat → Nat} {S : Soc} {v : HV}
theorem HX.kill (h : HX st s ib a S v) {ix : Nat} (hi : st.h ix ≠ none) : HX (st.kill ix) (s.kill ix) ib a S v := by
  obtain ⟨T, h⟩ := h
  have h0 := h.c.tag0 ix hi
  have hk : Keeps T 0 s (s.kill ix) := fun j o hj hn => by
    rw [ASt.kill_h, if_neg (by rintro rfl; exact hn h0)]; exact hj
  have hle : (st.kill ix).le (s.kill ix) := fun j x hj => by
    rw [ASt.kill_h] at hj ⊢
    split
    · rename_i e; rw [if_pos e] at hj; cases hj
    · rename_i e; rw [if_neg e] at hj; exact h.c.le _ _ hj
  refine ⟨T, ⟨{ le := hle, tag0 := fun j hj => h.c.tag0 j (ASt.kill_live hj).2, hb := hk.at_ h.c.hb h.c.Tb (by omega), Tb := h.c.Tb, tree := h.c.tree.kept h.c.Tt hk (by omega), Tt := h.c.Tt, grid := h.c.grid.kept h.c.Tg hk (by omega), Tg := h.c.Tg, lines := h.c.lines.kept h.c.Tl hk (by omega), Tl := h.c.Tl, files := (fun i hi hm => ⟨(h.c.files i hi hm).1.kept (h.c.files i hi hm).2 hk (by omega), (h.c.files i hi hm).2⟩), ports := (fun i hm => ⟨hk.at_ (h.c.ports i hm).1 (h.c.ports i hm).2.1 (by omega), (h.c.ports i hm).2⟩), kof := h.c.kof, ginv := h.c.ginv, linv := h.c.linv },
    hk.at_ h.hh h.Th (by omega), h.Th, h.bus.kept hk (by omega) (fun i => by omega), hk.at_ h.devs h.Td (by omega), h.Td⟩⟩
theorem aop_append_hx {P : Program} {sz b : Nat} {zs : List AV} {parts : List (Nat × Nat × IArg)} {x y : IArg} {fr : AFr} {st1 t : ASt} {F : AV → AFr} {K : AV → AV → ASt → Prop} {tv : AV} {n : Nat} {cs new : List AV}
    (h : HX st1 t ib a S v) (hown : Over st st1 sz tv n cs) (hn : n + 1 ≤ 4294967296) (hnew : aput (zeros zs 1) (parts.map fun p => (p.1, p.2.1, fr.val p.2.2)) = .some new) (hlen : new.length = sz) (hleaf : allLeaf new = true)
    (hx : ∀ v1, (F v1).val x = tv) (hy : ∀ v1, (F v1).val y = v1)
    (hk : ∀ v1 v2 st2 t2, HX st2 t2 ib a S v → Over st st2 sz v2 (n + 1) (cs ++ new) → K v1 v2 t2) :
    aop P (.buildSlice sz 1 zs parts) fr t (fun v1 st1 => aop P (.append sz b x y) (F v1) st1 (K v1)) := by
  have hs : Shows t sz tv n cs := by
    obtain ⟨h1, h2⟩ := hown.1
    refine ⟨h1, h2.imp (fun x => x) fun ⟨i, e, hi⟩ => ⟨i, e, h.le _ _ hi⟩⟩
  refine aop_append_one hs hn hnew hlen hleaf hx hy fun v1 i2 t2 h1 h2 h3 => ?_
  have hkill : HX (st1.without tv) (t.without tv) ib a S v := by
    rcases hown.1.2 with ⟨_, rfl⟩ | ⟨i, rfl, hi⟩
    · exact h
    · exact h.kill (by rw [hi]; simp)
  have hle := hown.2.1.without hown.2.2
  have hf : (st1.without tv).h i2 = none := fresh_of_le hkill.le h1
  have hfs : st.h i2 = none := fresh_of_le hle hf
  obtain ⟨q1, q2⟩ := h3
  rcases q2 with ⟨q2, _⟩ | ⟨i, q2, q3⟩
  · omega
  cases q2
  refine hk v1 _ ((st1.without tv).new i2 (.cells (cs ++ new))) t2 ((hkill.loc h1 (.cells (cs ++ new))).step fun j o hj => ?_) ⟨⟨q1, .inr ⟨i2, rfl, ASt.new_self _ hf⟩⟩, hle.trans (ASt.le.new _ _ _), fun sz i off n e => ?_⟩
  · by_cases e : j = i2
    · subst e; rw [ASt.new_self _ h1] at hj; rw [q3]; exact hj
    · rw [ASt.new_ne _ e] at hj; exact h2 _ _ hj
  · cases e; exact hfs
def TickQ (st : ASt) (ib : Nat) (a : HA) (S : Soc) (vf : HV) (l : List Ans) (r : AV) (s' : ASt) : Prop :=
  ∃ st1, Over st st1 4 r l.length (l.flatMap Ans.cells) ∧ HX st1 s' ib a S vf
set_option maxHeartbeats 1000000 in
theorem tick_ports {st1 : ASt} {tv : AV} {l : List Ans} {w : HV} {deny : Int} {vf : HV} (hO : Over st st1 4 tv l.length (l.flatMap Ans.cells)) (h : HX st1 s ib a S w) (hd4 : S.devs.length ≤ 4)
    (hnext : ∀ t, HX st1 t ib a S (w.portV deny S.devs.length) → awp Tryz.prog C.l9 (Post [.slot 4] (TickQ st ib a S vf l)) [(0, .ptr a.hp 0), (5, tv)] t) :
    awp Tryz.prog C.bj1 (Post [.slot 4] (TickQ st ib a S vf l)) [(0, .ptr a.hp 0), (1, .int .u32 deny), (5, tv)] s := by
  obtain ⟨T, h0⟩ := h
  simp only [↓Bt, Bu, simprocAttr, ↓C.z105, C.z35, ↓C.mh_w, C.mh_b, ↓C.by1_w, ↓C.byk_w, ↓C.by4_w, ↓C.md_w, C.md_b, ↓C.bj1_w, h0.hh]
  refine awp_midB (fun _ : Unit => [(0, .ptr a.hp 0), (5, tv)]) (fun _ t => HX st1 t ib a S (w.portV deny S.devs.length)) ?_ ?_
  rotate_left
  · rintro - t ht
    have := hnext t ht
    rw [C.l9_w, awp_keep] at this
    exact this
  refine awp_loopK (fun i : Nat => [(0, .ptr a.hp 0), (1, .int .u32 deny), (5, tv), (42, .sl 6 a.dv 0 S.devs.length), (43, .int .i64 S.devs.length), (44, .int .i64 i)]) (fun i t => i ≤ S.devs.length ∧ HX st1 t ib a S (w.portV deny i)) (fun i => S.devs.length - i) 0 rfl ⟨Nat.zero_le _, T, by rw [portV_zero]; exact h0⟩ ?_
  clear h0 hnext
  rintro i t ⟨hi, h⟩
  by_cases hil : i < S.devs.length
  rotate_left
  · have hie : i = S.devs.length := by omega
    subst hie
    have hil' : ¬ ((S.devs.length : Nat) : Int) < (S.devs.length : Nat) := by omega
    simp only [↓Bt, Bu, simprocAttr, ↓C.q89_W, C.q89_B, C.q89, hil']
    exact ⟨(), h⟩
  have hil' : (i : Int) < (S.devs.length : Nat) := by omega
  have hw := wsucc hil (by omega)
  have hz : (0:Int) ≤ (i : Int) ∧ (i : Int) < (S.devs.length : Int) := by omega
  have hfit := devsC_fit (a := a) hil
  have hat := devsC_at (a := a) hil
  rw [devC_eq hil] at hat
  obtain ⟨T, h2⟩ := h
  simp only [↓Bt, Bu, simprocAttr, ↓C.z105, C.z35, hil', hz, h2.devs, Int.toNat_natCast, hfit, hat]
  intro ix hix
  simp only [↓Bt, Bu, simprocAttr, ↓C.z105, C.z35, hix, allLeaf, AV.leaf]
  rw [ASt.new_set hix]
  obtain ⟨h3, hx, hle⟩ := HX.box ⟨T, h2⟩ hix (.cells [.int .i64 S.devs[i].clock, .int .i64 S.devs[i].dom, .int .i64 S.devs[i].rst, .int .u32 S.devs[i].clamp, .ptr (a.fp i) 0, .ptr (a.pp i) 0])
  generalize t.new ix (.cells [.int .i64 S.devs[i].clock, .int .i64 S.devs[i].dom, .int .i64 S.devs[i].rst, .int .u32 S.devs[i].clamp, .ptr (a.fp i) 0, .ptr (a.pp i) 0]) = u at h3
  generalize st1.new ix (.cells [.int .i64 S.devs[i].clock, .int .i64 S.devs[i].dom, .int .i64 S.devs[i].rst, .int .u32 S.devs[i].clamp, .ptr (a.fp i) 0, .ptr (a.pp i) 0]) = st2 at h3 hx hle
  obtain ⟨T2, h4⟩ := h3
  have hxu := h4.c.le _ _ hx
  have hi0 : (0 : Int) ≤ (i : Int) := by omega
  simp only [↓Bt, Bu, simprocAttr, ↓C.q89_W, C.q89_B, C.q89, hxu, h4.hh]
  refine (bwaiting h4.bus hil).mono ?_
  rintro r u2 ⟨rfl, rfl⟩
  simp only [↓Bt, Bu, simprocAttr, ↓C.q89_W, C.q89_B, C.q89, hxu, h4.hh, ashift_shr hi0, gt_iff_lt]
  refine (qtick_spec (port_at h4 hil) _ _).mono ?_
  rintro r u3 rfl
  simp only [↓Bt, Bu, simprocAttr, ↓C.q89_W, C.q89_B, C.q89, hw]
  refine ⟨i + 1, rfl, ⟨hil, ?_⟩, by omega⟩
  have h5 := HX.less ⟨T2, h4.putPort hil (qtick ((w.portV deny i).O i).1 ((w.portV deny i).O i).2 (decide ((0 : Int) < ((w.Q i).length : Nat))) (denyB deny i)).1 (qtick ((w.portV deny i).O i).1 ((w.portV deny i).O i).2 (decide ((0 : Int) < ((w.Q i).length : Nat))) (denyB deny i)).2 (qtick_ok (h4.c.ports i hil).2.2)⟩ hle
  have ho : (w.portV deny i).O i = w.O i := by simp [HV.portV]
  have := portV_succ w deny i
  rw [← ho] at this
  rw [← this]
  exact h5
end
end Go.Proofs.YtdmfgodajoojpaaGreatDoor.Cn
/- The chip: a tick, its second half: clocks, domains and what becomes of registers, lines. -/
set_option linter.unusedSimpArgs false
set_option linter.unusedVariables false
set_option maxRecDepth 100000
namespace Go.Proofs.YtdmfgodajoojpaaGreatDoor.Cn
open Go Go.Proofs

def FSt.save (R : List Reg) (f : FSt) : FSt := ⟨f.now, fun j => if retOf R j = true then f.now j else f.saved j, true⟩
def FSt.restore (R : List Reg) (f : FSt) : FSt := ⟨fun j => if (f.kept && retOf R j) = true then f.saved j else resets R j, f.saved, f.kept⟩
def FSt.clear (R : List Reg) (f : FSt) : FSt := ⟨resets R, f.saved, false⟩
def FSt.deed (R : List Reg) (k : Int) (f : FSt) : FSt := if k = 115 then f.save R else if k = 114 then f.restore R else if k = 108 ∨ k = 110 then f.clear R else f
def deedF (S : Soc) (e : Int × Nat) (F : Nat → FSt) : Nat → FSt := fun i => match S.devs[i]? with
  | some d => if d.dom = (e.2 : Int) then (F i).deed d.regs e.1 else F i
  | none => F i
def deedTo (S : Soc) (e : Int × Nat) (F : Nat → FSt) (j : Nat) : Nat → FSt := fun i => if i < j then deedF S e F i else F i
def deedsF (S : Soc) (E : List (Int × Nat)) (G : Nat → FSt) : Nat → FSt := E.foldl (fun G e => deedF S e G) G
theorem deedTo_zero (S : Soc) (e : Int × Nat) (F : Nat → FSt) : deedTo S e F 0 = F := by funext i; simp [deedTo]
theorem deedF_at {S : Soc} {e : Int × Nat} {F : Nat → FSt} {i : Nat} (h : i < S.devs.length) : deedF S e F i = if S.devs[i].dom = (e.2 : Int) then (F i).deed S.devs[i].regs e.1 else F i := by
  rw [deedF, List.getElem?_eq_getElem h]
theorem deedTo_all (S : Soc) (e : Int × Nat) (F : Nat → FSt) : deedTo S e F S.devs.length = deedF S e F := by
  funext i
  unfold deedTo
  split
  · rfl
  · rw [deedF, List.getElem?_eq_none (by omega)]
theorem deedTo_succ {S : Soc} {e : Int × Nat} {F : Nat → FSt} {j : Nat} (h : j < S.devs.length) : deedTo S e F (j + 1) = if S.devs[j].dom = (e.2 : Int) then upF (deedTo S e F j) j ((deedTo S e F j j).deed S.devs[j].regs e.1) else deedTo S e F j := by
  have hj : deedTo S e F j j = F j := by simp [deedTo]
  funext i
  by_cases hi : i = j
  · subst hi
    rw [show deedTo S e F (i + 1) i = deedF S e F i by simp [deedTo], deedF_at h]
    split
    · rw [upF_at, hj]
    · exact hj.symm
  · have e1 : deedTo S e F (j + 1) i = deedTo S e F j i := by
      unfold deedTo
      by_cases h2 : i < j
      · rw [if_pos h2, if_pos (by omega)]
      · rw [if_neg h2, if_neg (by omega)]
    rw [e1]
    split
    · rw [upF_ne hi]
    · rfl
theorem deed_none {R : List Reg} {f : FSt} {k : Int} (h1 : k ≠ 115) (h2 : k ≠ 114) (h3 : ¬ (k = 108 ∨ k = 110)) : f.deed R k = f := by
  rw [FSt.deed, if_neg h1, if_neg h2, if_neg h3]
theorem deedF_none {S : Soc} {e : Int × Nat} {F : Nat → FSt} (h1 : e.1 ≠ 115) (h2 : e.1 ≠ 114) (h3 : ¬ (e.1 = 108 ∨ e.1 = 110)) : deedF S e F = F := by
  funext i
  unfold deedF
  split
  · split
    · exact deed_none h1 h2 h3
    · rfl
  · rfl
theorem L_hasBody_Save : hasBody Tryz.prog F.q113 = true := by kernel_rfl
theorem L_hasBody_Restore : hasBody Tryz.prog F.q111 = true := by kernel_rfl
theorem L_hasBody_Clear : hasBody Tryz.prog F.q107 = true := by kernel_rfl
def deedN (k : Int) : Option Nat := if k = 115 then some F.q113 else if k = 114 then some F.q111 else if k = 108 ∨ k = 110 then some F.q107 else none
theorem deed_spec (st : ASt) (k : Int) : ACalls Tryz.prog F.q96 [.int .u8 k] st fun r s => r = (match deedN k with | some g => .fn g [] | none => .nilf) ∧ s = st := by
  refine calls_of_awp L.q96 rfl ?_
  unfold deedN
  by_cases h1 : k = 115
  · simp only [↓Bt, Bu, simprocAttr, ↓C.q96_W, C.q96_B, C.q96, h1]
  by_cases h2 : k = 114
  · simp only [↓Bt, Bu, simprocAttr, ↓C.q96_W, C.q96_B, C.q96, h1, h2]
  by_cases h3 : k = 108
  · simp only [↓Bt, Bu, simprocAttr, ↓C.q96_W, C.q96_B, C.q96, h1, h2, h3, true_or]
  by_cases h4 : k = 110
  · simp only [↓Bt, Bu, simprocAttr, ↓C.q96_W, C.q96_B, C.q96, h1, h2, h3, h4, or_true]
  · simp only [↓Bt, Bu, simprocAttr, ↓C.q96_W, C.q96_B, C.q96, h1, h2, h3, h4, or_self]
section
variable {st s s' : ASt} {ib : Nat} {a : HA} {T : Nat → Nat} {S : Soc} {v : HV}
theorem deed_call {k : Int} {g : Nat} (hg : deedN k = some g) {st1 t : ASt} {w : HV} {i : Nat} (hi : i < S.devs.length) (h : HX st1 t ib a S w) :
    hasBody Tryz.prog g = true ∧ ACalls Tryz.prog g [.ptr (a.fp i) 0] t fun _ t' => HX st1 t' ib a S { w with F := upF w.F i ((w.F i).deed S.devs[i].regs k) } := by
  obtain ⟨T, h⟩ := h
  unfold deedN at hg
  unfold FSt.deed
  by_cases h1 : k = 115
  · rw [if_pos h1] at hg; cases hg
    rw [if_pos h1]
    refine ⟨L_hasBody_Save, (save_f (file_at h hi)).mono ?_⟩
    rintro r t' ⟨q1, q2⟩
    exact ⟨T, h.putFile hi q2 q1⟩
  rw [if_neg h1] at hg ⊢
  by_cases h2 : k = 114
  · rw [if_pos h2] at hg; cases hg
    rw [if_pos h2]
    refine ⟨L_hasBody_Restore, (restore_f (file_at h hi)).mono ?_⟩
    rintro r t' ⟨q1, q2⟩
    exact ⟨T, h.putFile hi q2 q1⟩
  rw [if_neg h2] at hg ⊢
  by_cases h3 : k = 108 ∨ k = 110
  · rw [if_pos h3] at hg; cases hg
    rw [if_pos h3]
    refine ⟨L_hasBody_Clear, (clear_f (file_at h hi)).mono ?_⟩
    rintro r t' ⟨q1, q2⟩
    exact ⟨T, h.putFile hi q2 q1⟩
  · rw [if_neg h3] at hg; cases hg
set_option maxHeartbeats 1000000 in
theorem tick_deed {st1 : ASt} {tv ev n75 n76 : AV} {w : HV} {k : Int} {d g i12 : Nat} {Q : IExit → AFr → ASt → Prop} (h : HX st1 s ib a S w) (hx : st1.h i12 = some (.cells [.int .u8 k, .int .i64 (d : Nat)])) (hd4 : S.devs.length ≤ 4) (hg : deedN k = some g)
    (hnext : ∀ t, HX st1 t ib a S { w with F := deedF S (k, d) w.F } → ∀ fr : AFr, fr.keep [0, 5, 74, 75, 76] = [(0, .ptr a.hp 0), (5, tv), (74, ev), (75, n75), (76, n76)] → Q .normal fr t) :
    awp Tryz.prog C.bmf Q [(0, .ptr a.hp 0), (5, tv), (12, .ptr i12 0), (13, .fn g []), (74, ev), (75, n75), (76, n76)] s := by
  obtain ⟨T, h0⟩ := h
  simp only [↓Bt, Bu, simprocAttr, ↓C.z107, C.z36, ↓C.mr_w, C.mr_b, ↓C.bqk_w, ↓C.mp_w, C.mp_b, ↓C.bql_w, ↓C.byf_w, ↓C.byr_w, ↓C.ml_w, C.ml_b, ↓C.bmf_w, h0.hh]
  refine awp_mono _ (Q := IExit.inBlock 6 (IExit.then (fun fr' t => ∃ _ : Unit, fr'.keep [0, 5, 74, 75, 76] = [(0, .ptr a.hp 0), (5, tv), (74, ev), (75, n75), (76, n76)] ∧ HX st1 t ib a S { w with F := deedF S (k, d) w.F }) (fun _ _ _ => False))) (fun e fr t x => ?_) ?_
  · cases e with
    | normal => obtain ⟨_, h1, h2⟩ := x; exact hnext t h2 fr h1
    | ret => exact x.elim
    | exit i =>
      by_cases e : i = 6
      · subst e
        simp only [IExit.inBlock, if_true] at x ⊢
        obtain ⟨_, h1, h2⟩ := x; exact hnext t h2 fr h1
      · simp only [IExit.inBlock, if_neg e] at x
        exact x.elim
  refine awp_loopK (fun j : Nat => [(0, .ptr a.hp 0), (5, tv), (12, .ptr i12 0), (13, .fn g []), (74, ev), (75, n75), (76, n76), (88, .sl 6 a.dv 0 S.devs.length), (89, .int .i64 S.devs.length), (90, .int .i64 j)]) (fun j t => j ≤ S.devs.length ∧ HX st1 t ib a S { w with F := deedTo S (k, d) w.F j }) (fun j => S.devs.length - j) 0 rfl ⟨Nat.zero_le _, T, by rw [deedTo_zero]; exact h0⟩ ?_
  clear h0 hnext
  rintro j t ⟨hj, h⟩
  by_cases hil : j < S.devs.length
  rotate_left
  · have hie : j = S.devs.length := by omega
    subst hie
    have hil' : ¬ ((S.devs.length : Nat) : Int) < (S.devs.length : Nat) := by omega
    simp only [↓Bt, Bu, simprocAttr, ↓C.q89_W, C.q89_B, C.q89, hil']
    rw [deedTo_all] at h
    exact ⟨(), h⟩
  have hil' : (j : Int) < (S.devs.length : Nat) := by omega
  have hw := wsucc hil (by omega)
  have hz : (0:Int) ≤ (j : Int) ∧ (j : Int) < (S.devs.length : Int) := by omega
  have hfit := devsC_fit (a := a) hil
  have hat := devsC_at (a := a) hil
  rw [devC_eq hil] at hat
  obtain ⟨T, h2⟩ := h
  simp only [↓Bt, Bu, simprocAttr, ↓C.z107, C.z36, hil', hz, h2.devs, Int.toNat_natCast, hfit, hat]
  intro ix hix
  simp only [↓Bt, Bu, simprocAttr, ↓C.z107, C.z36, hix, allLeaf, AV.leaf]
  rw [ASt.new_set hix]
  obtain ⟨h3, hxx, hle⟩ := HX.box ⟨T, h2⟩ hix (.cells [.int .i64 S.devs[j].clock, .int .i64 S.devs[j].dom, .int .i64 S.devs[j].rst, .int .u32 S.devs[j].clamp, .ptr (a.fp j) 0, .ptr (a.pp j) 0])
  have hx2 := hle _ _ hx
  generalize t.new ix (.cells [.int .i64 S.devs[j].clock, .int .i64 S.devs[j].dom, .int .i64 S.devs[j].rst, .int .u32 S.devs[j].clamp, .ptr (a.fp j) 0, .ptr (a.pp j) 0]) = u at h3
  generalize st1.new ix (.cells [.int .i64 S.devs[j].clock, .int .i64 S.devs[j].dom, .int .i64 S.devs[j].rst, .int .u32 S.devs[j].clamp, .ptr (a.fp j) 0, .ptr (a.pp j) 0]) = st2 at h3 hxx hle hx2
  have hxu := h3.le _ _ hxx
  have hx3 := h3.le _ _ hx2
  have hsucc := deedTo_succ (e := (k, d)) (F := w.F) hil
  by_cases hdm : S.devs[j].dom = (d : Int)
  · rw [if_pos hdm] at hsucc
    obtain ⟨hb, hc⟩ := deed_call hg hil h3
    simp only [↓Bt, Bu, simprocAttr, ↓C.q89_W, C.q89_B, C.q89, hxu, hx3, hdm, hb]
    refine hc.mono ?_
    rintro r t' h4
    simp only [↓Bt, Bu, simprocAttr, ↓C.q89_W, C.q89_B, C.q89, hw]
    refine ⟨j + 1, rfl, ⟨hil, ?_⟩, by omega⟩
    rw [hsucc]
    exact h4.less hle
  · rw [if_neg hdm] at hsucc
    simp only [↓Bt, Bu, simprocAttr, ↓C.q89_W, C.q89_B, C.q89, hxu, hx3, hdm, hw]
    refine ⟨j + 1, rfl, ⟨hil, ?_⟩, by omega⟩
    rw [hsucc]
    exact h3.less hle
end
end Go.Proofs.YtdmfgodajoojpaaGreatDoor.Cn
/- The chip: a tick, whole. -/
set_option linter.unusedSimpArgs false
set_option linter.unusedVariables false
set_option maxRecDepth 100000
namespace Go.Proofs.YtdmfgodajoojpaaGreatDoor.Cn
open Go Go.Proofs

def HV.rest (w : HV) (S : Soc) : HV := { w with ns := ctickL w.ns, gs := gtickL w.gs, F := deedsF S (evs w.gs) w.F, ls := tickL w.ls }
theorem deedN_none {k : Int} (h : deedN k = none) : k ≠ 115 ∧ k ≠ 114 ∧ ¬ (k = 108 ∨ k = 110) := by
  unfold deedN at h
  refine ⟨fun e => ?_, fun e => ?_, fun e => ?_⟩
  · rw [if_pos e] at h; cases h
  · by_cases h1 : k = 115
    · rw [if_pos h1] at h; cases h
    · rw [if_neg h1, if_pos e] at h; cases h
  · by_cases h1 : k = 115
    · rw [if_pos h1] at h; cases h
    · by_cases h2 : k = 114
      · rw [if_neg h1, if_pos h2] at h; cases h
      · rw [if_neg h1, if_neg h2, if_pos e] at h; cases h
section
variable {st s s' : ASt} {ib : Nat} {a : HA} {T : Nat → Nat} {S : Soc} {v : HV}
set_option maxHeartbeats 1000000 in
theorem tick_rest {st1 : ASt} {tv : AV} {l : List Ans} {w : HV} (hO : Over st st1 4 tv l.length (l.flatMap Ans.cells)) (h : HX st1 s ib a S w) (hd4 : S.devs.length ≤ 4) (hr : S.rsts.length ≤ 1000) :
    awp Tryz.prog C.l9 (Post [.slot 4] (TickQ st ib a S (w.rest S) l)) [(0, .ptr a.hp 0), (5, tv)] s := by
  obtain ⟨T, h0⟩ := h
  have hgl : w.gs.length ≤ 1000 := h0.c.grid.few
  have hnl := h0.c.linv.len
  simp only [↓Bt, Bu, simprocAttr, ↓C.c9_w, C.c9_b, ↓C.l9_w, h0.hh]
  refine (ctick_spec h0.c.tree h0.c.kof.ok).mono ?_
  rintro r u1 rfl
  have h1 := h0.putTree h0.c.kof.tick
  generalize s.set a.tg (nsC (ctickL w.ns)) = u1 at h1
  simp only [↓Bt, Bu, simprocAttr, ↓C.z109, C.d4_b, C.d3_b, C.d0_b, ↓C.c9_w, C.c9_b, ↓C.l9_w, h1.hh]
  refine (gtick_spec h1.c.grid h1.c.ginv.low).mono ?_
  rintro r u2 ⟨rfl, rfl⟩
  have h2 := h1.putGrid h1.c.ginv.tick
  simp only at h2 ⊢
  generalize u1.set a.gg (gsC (gtickL w.gs)) = u2 at h2
  obtain ⟨E, hE⟩ : ∃ E, E = evs w.gs := ⟨_, rfl⟩
  have hEl : E.length ≤ 1000 := by rw [hE]; have := evTo_len w.gs w.gs.length; unfold evs; omega
  rw [← hE]
  have e1 : evsV E = .isl 2 (E.flatMap encEv) E.length := rfl
  simp only [↓Bt, Bu, simprocAttr, ↓C.z109, C.d4_b, C.d3_b, ↓C.byh_w, ↓C.byq_w, C.d0_b, e1]
  refine awp_midB (fun _ : Unit => [(0, .ptr a.hp 0), (5, tv)]) (fun _ t => HX st1 t ib a S { w with ns := ctickL w.ns, gs := gtickL w.gs, F := deedsF S E w.F }) ?_ ?_
  rotate_left
  · rintro - t ⟨T2, h3⟩
    simp only [↓Bt, Bu, simprocAttr, ↓C.q89_W, C.q89_B, C.q89, h3.hh]
    have hlen : (w.ls.length : Nat) ≤ 1000 := by have := h3.c.linv.len; simp only at this ⊢; omega
    refine (tick_spec h3.c.lines (fun x hx => by have := h3.c.linv.left x hx; omega) hlen).mono ?_
    rintro r u3 ⟨rfl, rfl⟩
    simp only [↓Bt, Bu, simprocAttr, ↓C.q89_W, C.q89_B, C.q89]
    have h4 := h3.putLines h3.c.linv.tick
    exact ⟨st1, hO, T2, by rw [HV.rest, ← hE]; exact h4⟩
  refine awp_loopK (fun e : Nat => [(0, .ptr a.hp 0), (5, tv), (74, .isl 2 (E.flatMap encEv) E.length), (75, .int .i64 E.length), (76, .int .i64 e)]) (fun e t => e ≤ E.length ∧ HX st1 t ib a S { w with ns := ctickL w.ns, gs := gtickL w.gs, F := deedsF S (E.take e) w.F }) (fun e => E.length - e) 0 rfl ⟨Nat.zero_le _, T, by simpa [deedsF] using h2⟩ ?_
  clear h2 h1 h0
  rintro e t ⟨he, h⟩
  by_cases hil : e < E.length
  rotate_left
  · have hie : e = E.length := by omega
    subst hie
    have hil' : ¬ ((E.length : Nat) : Int) < (E.length : Nat) := by omega
    simp only [↓Bt, Bu, simprocAttr, ↓C.q89_W, C.q89_B, C.q89, hil']
    rw [List.take_length] at h
    exact ⟨(), h⟩
  have hil' : (e : Int) < (E.length : Nat) := by omega
  have hw := wsucc hil (by omega)
  have hz : (0:Int) ≤ (e : Int) ∧ (e : Int) < (E.length : Int) := by omega
  have hfit := flatMap_fits (f := encEv) (k := 2) (fun _ => rfl) (l := E) hil
  have hat := flatMap_at (f := encEv) (k := 2) (fun _ => rfl) (l := E) hil
  obtain ⟨kd, hkd⟩ : ∃ kd, kd = E[e] := ⟨_, rfl⟩
  rw [← hkd] at hat
  obtain ⟨k, d⟩ := kd
  rw [encEv] at hat
  simp only at hat
  have hsucc : deedsF S (E.take (e + 1)) w.F = deedF S (k, d) (deedsF S (E.take e) w.F) := by
    rw [List.take_succ_eq_append_getElem hil, deedsF, List.foldl_append, ← hkd]; rfl
  obtain ⟨T, h2⟩ := h
  simp only [↓Bt, Bu, simprocAttr, ↓C.z111, C.b7_b, ↓C.z104, C.d2_b, C.d1_b, hil', hz, Int.toNat_natCast, hfit, hat]
  intro ix hix
  simp only [↓Bt, Bu, simprocAttr, ↓C.z111, C.b7_b, ↓C.z104, C.d2_b, C.d1_b, hix, allLeaf, AV.leaf]
  rw [ASt.new_set hix]
  obtain ⟨h3, hxx, hle⟩ := HX.box ⟨T, h2⟩ hix (.cells [.int .u8 k, .int .i64 (d : Nat)])
  generalize t.new ix (.cells [.int .u8 k, .int .i64 (d : Nat)]) = u at h3
  generalize st1.new ix (.cells [.int .u8 k, .int .i64 (d : Nat)]) = st2 at h3 hxx hle
  have hxu := h3.le _ _ hxx
  simp only [↓Bt, Bu, simprocAttr, ↓C.z108, C.dc_b, C.db_b, hxu]
  refine (deed_spec u k).mono ?_
  rintro r u3 ⟨rfl, rfl⟩
  cases hg : deedN k with
  | none =>
    obtain ⟨n1, n2, n3⟩ := deedN_none hg
    simp only [↓Bt, Bu, simprocAttr, ↓C.z108, C.dc_b, C.db_b, hw]
    rw [C.bj0_w, awp_keep]
    simp only [↓Bt, Bu, simprocAttr, ↓C.z111, C.b7_b, hw]
    refine ⟨e + 1, rfl, ⟨hil, ?_⟩, by omega⟩
    rw [hsucc, deedF_none n1 n2 n3]
    exact h3.less hle
  | some g =>
    simp only [↓Bt, Bu, simprocAttr, ↓C.z108, C.dc_b, C.db_b]
    refine tick_deed h3 hxx hd4 hg fun t' h4 fr hfr => ?_
    simp only [↓Bt, Bu, simprocAttr]
    rw [C.bj0_w, awp_keep, hfr]
    simp only [↓Bt, Bu, simprocAttr, ↓C.z111, C.b7_b, hw]
    refine ⟨e + 1, rfl, ⟨hil, ?_⟩, by omega⟩
    rw [hsucc]
    exact h4.less hle
def HV.tick (v : HV) (S : Soc) (deny : Int) : HV := ((v.ansV S S.devs.length).portV deny S.devs.length).rest S
def ansL (l : List Ans) : AV := .isl 4 (l.flatMap Ans.cells) l.length
set_option maxHeartbeats 1000000 in
theorem htick0 (h : HX st s ib a S v) (hQ : QOk S v.Q) (hd4 : S.devs.length ≤ 4) (hr : S.rsts.length ≤ 1000) (deny : Int) :
    ACalls Tryz.prog F.q89 [.ptr a.hp 0, .int .u32 deny] s (TickQ st ib a S (v.tick S deny) (v.told S S.devs.length)) := by
  refine calls_of_awp L.q89 rfl ?_
  obtain ⟨T, h0⟩ := h
  simp only [↓Bt, Bu, simprocAttr, ↓C.q89_W, C.q89_B, C.q89]
  refine (hmade h0).mono ?_
  rintro r u ⟨rfl, rfl⟩
  simp only [↓Bt, Bu, simprocAttr, ↓C.z106, C.dz_b, ↓C.mx_w, C.mx_b, ↓C.by6_w, ↓C.mw_w, C.mw_b, ↓C.by7_w, ↓C.z110, C.b2_b, C.d6_b, C.d5_b, ↓C.bym_w, ↓C.bqc_w, ↓C.mv_w, C.mv_b, ↓C.bqd_w, ↓C.mt_w, C.mt_b, ↓C.bqf_w, ↓C.mk_w, C.mk_b, ↓C.bqg_w, ↓C.bqh_w, ↓C.mc_w, C.mc_b, ↓C.bqj_w, ↓C.mb_w, C.mb_b, C.q89, h0.hh]
  refine awp_midB (fun tv : AV => [(0, .ptr a.hp 0), (1, .int .u32 deny), (5, tv)]) (fun tv t => ∃ st1, Over st st1 4 tv (v.told S S.devs.length).length ((v.told S S.devs.length).flatMap Ans.cells) ∧ HX st1 t ib a S (v.ansV S S.devs.length)) ?_ ?_
  rotate_left
  · rintro tv t ⟨st1, hO, h1⟩
    have := tick_ports (deny := deny) (vf := v.tick S deny) hO h1 hd4 fun t h2 => tick_rest hO h2 hd4 hr
    rw [C.bj1_w, awp_keep] at this
    exact this
  refine awp_loopK (fun p : Nat × AV => [(0, .ptr a.hp 0), (1, .int .u32 deny), (5, p.2), (23, .int .i64 S.devs.length), (24, .int .i64 p.1)]) (fun p t => p.1 ≤ S.devs.length ∧ ∃ st1, Over st st1 4 p.2 (v.told S p.1).length ((v.told S p.1).flatMap Ans.cells) ∧ HX st1 t ib a S (v.ansV S p.1)) (fun p => S.devs.length - p.1) (0, .nils) rfl ⟨Nat.zero_le _, st, Over.nils (ASt.le.refl _) 4, T, by simp only [ansV_zero]; exact h0⟩ ?_
  clear h0
  rintro ⟨i, tv⟩ t ⟨hi, st1, hO, h⟩
  simp only at hi hO h
  by_cases hil : i < S.devs.length
  rotate_left
  · have hie : i = S.devs.length := by omega
    subst hie
    have hil' : ¬ ((S.devs.length : Nat) : Int) < (S.devs.length : Nat) := by omega
    simp only [↓Bt, Bu, simprocAttr, ↓C.q89_W, C.q89_B, C.q89, hil']
    exact ⟨tv, rfl, st1, hO, h⟩
  have hil' : (i : Int) < (S.devs.length : Nat) := by omega
  have hw := wsucc hil (by omega)
  have hsucc := told_succ v S i
  have hans := ansV_ansOf v S i
  have hnext := ansV_succ v S i
  simp only [↓Bt, Bu, simprocAttr, ↓C.z106, C.dz_b, C.d6_b, C.d5_b, hil']
  rw [C.bmg_w, awp_keep]
  simp only [↓Bt, Bu, simprocAttr, ↓C.z110, C.b2_b]
  refine (hanswer h (hQ.ansV i) hil).mono ?_
  rintro r u2 ⟨hrr, h2⟩
  rw [hans] at hrr
  rw [hnext] at h2
  cases hx : v.ansOf S i with
  | none =>
    rw [hx] at hrr hsucc
    simp only at hrr
    subst hrr
    rw [Option.toList_none, List.append_nil] at hsucc
    simp only [↓Bt, Bu, simprocAttr, ↓C.z110, C.b2_b]
    intro ix hix
    simp only [↓Bt, Bu, simprocAttr, ↓C.q89_W, C.q89_B, C.q89, hix, hw]
    rw [ASt.new_set hix]
    exact ⟨rfl, (i + 1, tv), rfl, ⟨hil, st1, by rw [hsucc]; exact hO, h2.step (ASt.le.new _ _ _)⟩, by simp only; omega⟩
  | some x =>
    rw [hx] at hrr hsucc
    simp only at hrr
    subst hrr
    have hxl : x.cells.length = 4 := rfl
    have hxf : allLeaf x.cells = true := rfl
    simp only [↓Bt, Bu, simprocAttr, ↓C.z110, C.b2_b]
    intro ix hix
    simp only [↓Bt, Bu, simprocAttr, ↓C.z110, C.b2_b, hix, hxl, hxf]
    rw [ASt.new_set hix, putN_all (zs := [AV.int .i64 0, AV.int .i64 0, AV.bool false, AV.int .u32 0]) (vs := x.cells) rfl]
    obtain ⟨h3, hx3, hle⟩ := h2.box hix (.cells x.cells)
    have hO3 : Over st (st1.new ix (.cells x.cells)) 4 tv (v.told S i).length ((v.told S i).flatMap Ans.cells) :=
      ⟨⟨hO.1.1, hO.1.2.imp (fun x => x) fun ⟨j, e, hj⟩ => ⟨j, e, hle _ _ hj⟩⟩, hO.2.1.trans hle, hO.2.2⟩
    have hxu := h3.le _ _ hx3
    generalize u2.new ix (.cells x.cells) = u3 at h3 hxu
    generalize st1.new ix (.cells x.cells) = st2 at h3 hO3
    have e4 : AV.agg (List.take 4 x.cells) = .agg x.cells := rfl
    have htl := told_len v S i
    simp only [↓Bp, Bq, Bs, simprocAttr, ↓C.q89_W, C.q89_B, C.q89, hxu, hxl, e4]
    refine aop_append_hx h3 hO3 (by omega) (aput_one rfl rfl) rfl rfl (fun _ => rfl) (fun _ => rfl) fun v1 v2 st3 t2 h5 hO5 => ?_
    simp only [↓Bt, Bu, simprocAttr, ↓C.q89_W, C.q89_B, C.q89, hw]
    refine ⟨(i + 1, v2), rfl, ⟨hil, st3, ?_, h5⟩, by simp only; omega⟩
    simp only
    rw [hsucc, List.length_append, List.flatMap_append]
    simpa using hO5
theorem HX.frzT {l : List Ans} {r : AV} {t : ASt} {vf : HV} (h : TickQ st ib a S vf l r t) : ∃ t', Ghost r t (ansL l) t' ∧ HX st t' ib a S vf := by
  obtain ⟨st1, hO, h⟩ := h
  obtain ⟨⟨h1, h2⟩, h3, h4⟩ := hO
  rcases h2 with ⟨e0, rfl⟩ | ⟨i, rfl, hi⟩
  · have : l = [] := List.eq_nil_of_length_eq_zero e0
    subst this
    exact ⟨t, Ghost.nils 4, h.less h3⟩
  · refine ⟨t.kill i, Ghost.freeze (h.le _ _ hi), (h.kill (by rw [hi]; simp)).less fun j o hj => ?_⟩
    rw [ASt.kill_h, if_neg (by rintro rfl; rw [h4 _ _ _ _ rfl] at hj; cases hj)]
    exact h3 _ _ hj
theorem htick (h : HX st s ib a S v) (hQ : QOk S v.Q) (hd4 : S.devs.length ≤ 4) (hr : S.rsts.length ≤ 1000) (deny : Int) :
    ACalls Tryz.prog F.q89 [.ptr a.hp 0, .int .u32 deny] s fun r s' => r = ansL (v.told S S.devs.length) ∧ HX st s' ib a S (v.tick S deny) :=
  (htick0 h hQ hd4 hr deny).ghost fun r s' hq => by
    obtain ⟨t', g, h'⟩ := HX.frzT hq
    exact ⟨_, _, g, rfl, h'⟩
end
end Go.Proofs.YtdmfgodajoojpaaGreatDoor.Cn
/- Channels: the letter of a state (package variable 'letters'). -/
set_option linter.unusedSimpArgs false
set_option linter.unusedVariables false
set_option maxRecDepth 100000
namespace Go.Proofs.YtdmfgodajoojpaaGreatDoor.Cn
open Go Go.Proofs
def letter (x : Int) : Int := if x = 0 then 114 else if x = 1 then 97 else if x = 2 then 115 else 100
theorem qstate_spec {st : ASt} {p : Nat} {x y : Int} (h : PortAt st p x y) (hx : 0 ≤ x ∧ x ≤ 3) : ACalls Tryz.prog F.q104 [.ptr p 0] st fun r s => r = .int .u8 (letter x) ∧ s = st := by
  refine calls_of_awp L.q104 rfl ?_
  unfold PortAt at h
  rcases (show x = 0 ∨ x = 1 ∨ x = 2 ∨ x = 3 by omega) with e | e | e | e <;> subst e <;>
  simp only [↓Bt, Bu, simprocAttr, ↓C.q104_W, C.q104_B, C.q104, h, letter, Int.cast_ofNat_Int] <;> omega
end Go.Proofs.YtdmfgodajoojpaaGreatDoor.Cn
/- The chip: a line is asserted; something is posted. -/
set_option linter.unusedSimpArgs false
set_option linter.unusedVariables false
set_option maxRecDepth 100000
namespace Go.Proofs.YtdmfgodajoojpaaGreatDoor.Cn
open Go Go.Proofs

section
variable {st s s' : ASt} {ib : Nat} {a : HA} {T : Nat → Nat} {S : Soc} {v : HV}
theorem hpost_node (h : HX st s ib a S v) {d k : Nat} (hd : d < S.devs.length) (hk : ¬ k < S.devs[d].regs.length) (hd4 : d < 4) (hk4 : k < 4) (w : Bool) (x : Int) :
    ACalls Tryz.prog F.q86 [.ptr a.hp 0, .int .u32 (addrV d k), .bool w, .int .u32 x] s fun r s' => r = .tup [.int .i64 0, .int .i64 4] ∧ s' = s := by
  obtain ⟨T, h⟩ := h
  have hz : (0:Int) ≤ (d : Int) ∧ (d : Int) < (S.devs.length : Int) := by omega
  have hk0 : ¬ (k : Int) < 0 := by omega
  refine calls_of_awp L.q86 rfl ?_
  simp only [↓Bt, Bu, simprocAttr, ↓C.q86_W, C.q86_B, C.q86]
  refine (split_spec hd4 hk4).mono ?_
  rintro r s' ⟨rfl, rfl⟩
  simp only [↓Bt, Bu, simprocAttr, ↓C.q86_W, C.q86_B, C.q86]
  refine (hhas h d).mono ?_
  rintro r s' ⟨rfl, rfl⟩
  have hc := dev_cell h hd (j := 4) (c := .ptr (a.fp d) 0) (by omega) rfl
  have hkr : ((S.devs[d].regs.length : Nat) : Int) ≤ (k : Int) := by omega
  simp only [↓Bt, Bu, simprocAttr, ↓C.q86_W, C.q86_B, C.q86, hz, hk0, h.hh, h.devs, Int.toNat_natCast, hc]
  refine (many_spec (file_at h hd)).mono ?_
  rintro r s2 ⟨rfl, rfl⟩
  simp only [↓Bt, Bu, simprocAttr, ↓C.q86_W, C.q86_B, C.q86, hkr, ge_iff_le]
theorem letter_run {x : Int} (h : 0 ≤ x ∧ x ≤ 3) : letter x = 114 ↔ x = 0 := by
  unfold letter
  constructor
  · intro e
    by_cases h0 : x = 0
    · exact h0
    · rw [if_neg h0] at e
      split at e
      · omega
      · split at e <;> omega
  · intro e; rw [if_pos e]
theorem hpost (h : HX st s ib a S v) {d k : Nat} (hd : d < S.devs.length) (hk : k < S.devs[d].regs.length) (hd4 : d < 4) (hk4 : k < 4) (w : Bool) (x : Int) (ho : (v.O d).1 = 0) (hf : (v.Q d).length < 4) :
    ACalls Tryz.prog F.q86 [.ptr a.hp 0, .int .u32 (addrV d k), .bool w, .int .u32 x] s fun r s' => r = .tup [.int .i64 v.posted, .int .i64 0] ∧
      HX st s' ib a S { v with Q := upF v.Q d (v.Q d ++ [⟨v.posted, w, (k : Int), x⟩]), posted := IntKind.i64.wrap (v.posted + 1) } := by
  obtain ⟨T, h⟩ := h
  have hz : (0:Int) ≤ (d : Int) ∧ (d : Int) < (S.devs.length : Int) := by omega
  have hk0 : ¬ (k : Int) < 0 := by omega
  refine calls_of_awp L.q86 rfl ?_
  simp only [↓Bt, Bu, simprocAttr, ↓C.q86_W, C.q86_B, C.q86]
  refine (split_spec hd4 hk4).mono ?_
  rintro r s' ⟨rfl, rfl⟩
  simp only [↓Bt, Bu, simprocAttr, ↓C.q86_W, C.q86_B, C.q86]
  refine (hhas h d).mono ?_
  rintro r s' ⟨rfl, rfl⟩
  have hc := dev_cell h hd (j := 4) (c := .ptr (a.fp d) 0) (by omega) rfl
  have hc5 := dev_cell h hd (j := 5) (c := .ptr (a.pp d) 0) (by omega) rfl
  have hkr : ¬ ((S.devs[d].regs.length : Nat) : Int) ≤ (k : Int) := by omega
  simp only [↓Bt, Bu, simprocAttr, ↓C.q86_W, C.q86_B, C.q86, hz, hk0, h.hh, h.devs, Int.toNat_natCast, hc]
  refine (many_spec (file_at h hd)).mono ?_
  rintro r s2 ⟨rfl, rfl⟩
  simp only [↓Bt, Bu, simprocAttr, ↓C.q86_W, C.q86_B, C.q86, hz, hkr, ge_iff_le, h.hh, h.devs, Int.toNat_natCast, hc5]
  refine (qstate_spec (port_at h hd) (h.c.ports d hd).2.2).mono ?_
  rintro r s2 ⟨rfl, rfl⟩
  have hl : letter (v.O d).1 = 114 := (letter_run (h.c.ports d hd).2.2).mpr ho
  simp only [↓Bt, Bu, simprocAttr, ↓C.q86_W, C.q86_B, C.q86, hl, h.hh]
  refine (bpost h hd hk hd4 hk4 w x hf).mono ?_
  rintro r s3 ⟨rfl, T', h2⟩
  simp only [↓Bt, Bu, simprocAttr, ↓C.q86_W, C.q86_B, C.q86]
  exact ⟨T', h2⟩
end
end Go.Proofs.YtdmfgodajoojpaaGreatDoor.Cn
/- Power: chains, what stays as it is in a tick, and what stays true of what hangs on what. -/
set_option linter.unusedSimpArgs false
set_option linter.unusedVariables false
set_option maxRecDepth 100000
namespace Go.Proofs.YtdmfgodajoojpaaGreatDoor.Cn
open Go Go.Proofs

structure ChainOk (gs : List Gd) (c : List Nat) (x : Nat) : Prop where
  pos : 0 < c.length
  last : ∀ (h : c.length - 1 < c.length), c[c.length - 1] = x
  lt : ∀ j (h : j < c.length), c[j] < gs.length
  top : ∀ (h : 0 < c.length) (h2 : c[0] < gs.length), gs[c[0]].above = -1
  link : ∀ j (h : j + 1 < c.length) (h2 : c[j + 1] < gs.length), gs[c[j + 1]].above = (c[j] : Nat)
theorem chain_list {gs : List Gd} (hl : Lesser gs) : ∀ (f x : Nat), x < gs.length → x < f → ∃ c : List Nat, (chainR gs f (x : Int)).reverse = c.map Int.ofNat ∧ ChainOk gs c x
  | 0, x, hx, hf => by omega
  | f + 1, x, hx, hf => by
    have e1 : ¬ (x : Int) = -1 := by omega
    have hlx := hl x hx
    by_cases ha : gs[x].above = -1
    · refine ⟨[x], ?_, ⟨by simp, fun h => rfl, fun j h => ?_, fun h h2 => ha, fun j h => ?_⟩⟩
      · rw [chainR, if_neg e1, gAbove_at hx, ha]
        have : chainR gs f (-1) = [] := by cases f <;> rfl
        rw [this]; rfl
      · have : j = 0 := by simpa using h
        subst this; exact hx
      · simp at h
    · obtain ⟨u, hu⟩ : ∃ u : Nat, gs[x].above = u := ⟨gs[x].above.toNat, by omega⟩
      have hux : u < x := by omega
      obtain ⟨c, hc, hk⟩ := chain_list hl f u (by omega) (by omega)
      have hp := hk.pos
      refine ⟨c ++ [x], ?_, ⟨by simp, fun h => by simp, fun j h => ?_, fun h h2 => ?_, fun j h h2 => ?_⟩⟩
      · rw [chainR, if_neg e1, gAbove_at hx, hu, List.reverse_cons, hc, List.map_append]; rfl
      · rw [List.getElem_append]; split
        · exact hk.lt _ _
        · simpa using hx
      · have e0 : (c ++ [x])[0] = c[0] := List.getElem_append_left hp
        simp only [e0]
        exact hk.top hp (hk.lt 0 hp)
      · simp only [List.length_append, List.length_singleton] at h
        have e0 : (c ++ [x])[j] = c[j]'(by omega) := List.getElem_append_left (by omega)
        by_cases hj : j + 1 < c.length
        · have e2 : (c ++ [x])[j + 1] = c[j + 1] := List.getElem_append_left hj
          simp only [e0, e2]
          exact hk.link j hj (hk.lt _ hj)
        · have e2 : (c ++ [x])[j + 1] = x := by rw [List.getElem_append_right (by omega)]; simp
          have e3 : c[j]'(by omega) = u := by
            have := hk.last (by omega)
            simp only [show c.length - 1 = j by omega] at this
            exact this
          simp only [e0, e2, e3]
          exact hu
theorem chain_at {gs : List Gd} (hl : Lesser gs) {x : Nat} (hx : x < gs.length) : ∃ c : List Nat, chainOf gs (x : Int) = c.map Int.ofNat ∧ ChainOk gs c x ∧ c.length ≤ gs.length + 1 := by
  obtain ⟨c, h1, h2⟩ := chain_list hl (gs.length + 1) x hx (by omega)
  refine ⟨c, by rw [chainOf, if_pos (isGd_at hx), h1], h2, ?_⟩
  have := chainR_len gs (gs.length + 1) (x : Int)
  have e := congrArg List.length h1
  simp only [List.length_reverse, List.length_map] at e
  omega
theorem ChainOk.up {gs : List Gd} {c : List Nat} {x : Nat} (h : ChainOk gs c x) (hl : Lesser gs) {j : Nat} (hj : j + 1 < c.length) : c[j] < c[j + 1] := by
  have h2 := h.lt (j + 1) hj
  have := h.link j hj h2
  have := hl _ h2
  omega
theorem ChainOk.lt_of {gs : List Gd} {c : List Nat} {x : Nat} (h : ChainOk gs c x) (hl : Lesser gs) : ∀ (m i : Nat) (hi : i + m + 1 < c.length), c[i] < c[i + m + 1]
  | 0, i, hi => h.up hl hi
  | m + 1, i, hi => Nat.lt_trans (h.lt_of hl m i (by omega)) (h.up hl hi)
theorem ChainOk.mono {gs : List Gd} {c : List Nat} {x : Nat} (h : ChainOk gs c x) (hl : Lesser gs) {i j : Nat} (hij : i < j) (hj : j < c.length) : c[i] < c[j] := by
  have := h.lt_of hl (j - i - 1) i (by omega)
  simp only [show i + (j - i - 1) + 1 = j by omega] at this
  exact this
theorem ChainOk.same {gs gs' : List Gd} {c : List Nat} {x : Nat} (h : ChainOk gs c x) (hl : gs'.length = gs.length) (hs : ∀ i (h1 : i < gs'.length) (h2 : i < gs.length), gs'[i].above = gs[i].above) : ChainOk gs' c x where
  pos := h.pos
  last := h.last
  lt := fun j hj => by rw [hl]; exact h.lt j hj
  top := fun h1 h2 => by rw [hs _ h2 (h.lt _ h1)]; exact h.top _ _
  link := fun j hj h2 => by rw [hs _ h2 (h.lt _ hj)]; exact h.link j hj _
theorem GInv.same2 {D : List Dom} {gs gs' : List Gd} (h : GInv D gs) (h' : GInv D gs') : gs'.length = gs.length ∧ ∀ i (h1 : i < gs'.length) (h2 : i < gs.length), gs'[i].above = gs[i].above :=
  ⟨by rw [h.len, h'.len], fun i h1 h2 => by rw [(h.same i h2 (by rw [← h.len]; exact h2)).1, (h'.same i h1 (by rw [← h'.len]; exact h1)).1]⟩
theorem ints_nat (c : List Nat) : ints (c.map Int.ofNat) = c.map fun (n : Nat) => AV.int .i64 (n : Int) := by simp [ints]
theorem ints_nat_get {c : List Nat} {j : Nat} (h : j < c.length) : (ints (c.map Int.ofNat))[j]? = some (.int .i64 (c[j] : Nat)) := by rw [ints_nat]; simp [h]
def Gd.still (g : Gd) : Prop := g.phase = 48 ∨ g.phase = 49 ∨ g.phase = 116
theorem Gd.still.tick {g : Gd} (h : g.still) : gtick g = g ∧ gev g = 0 := by
  unfold Gd.still at h; unfold gtick gev
  rcases h with h | h | h <;> rw [h] <;> exact ⟨rfl, rfl⟩
def Still (gs : List Gd) (k : Nat) : Prop := ∀ i (h : i < gs.length), i ≠ k → gs[i].still
theorem Still.tick {gs : List Gd} {k : Nat} (h : Still gs k) (hk : k < gs.length) : gtickL gs = gs.set k (gtick gs[k]) := by
  refine List.ext_getElem (by simp [gtickL]) fun i h1 h2 => ?_
  simp only [gtickL_len] at h1
  rw [List.getElem_set]
  simp only [gtickL, List.getElem_map]
  split
  · rename_i e; subst e; rfl
  · rename_i e; exact (h i h1 (Ne.symm e)).tick.1
theorem filter_one (k : Nat) (p : Nat → Bool) : ∀ n, k < n → (∀ i, i < n → i ≠ k → p i = false) → (List.range n).filter p = if p k then [k] else []
  | 0, h, _ => by omega
  | n + 1, h, hp => by
    rw [List.range_succ, List.filter_append]
    by_cases e : k = n
    · subst e
      have : (List.range k).filter p = [] := List.filter_eq_nil_iff.mpr fun i hi => by
        have := List.mem_range.mp hi
        simp [hp i (by omega) (by omega)]
      rw [this]
      cases hpk : p k <;> simp [hpk]
    · rw [filter_one k p n (by omega) fun i h1 h2 => hp i (by omega) h2]
      simp [hp n (by omega) (Ne.symm e)]
theorem Still.evs {gs : List Gd} {k : Nat} (h : Still gs k) (hk : k < gs.length) : evs gs = if gev gs[k] ≠ 0 then [(gev gs[k], k)] else [] := by
  rw [Cn.evs, evTo, filter_one k _ gs.length hk fun i h1 h2 => by simp [h1, (h i h1 h2).tick.2]]
  have e : gs.getD k ⟨0, 0, false, 0, 0, false, false⟩ = gs[k] := by simp [hk]
  simp only [e]
  by_cases h0 : gev gs[k] = 0
  · simp [h0]
  · simp [h0, hk]
theorem Still.set {gs : List Gd} {k : Nat} (h : Still gs k) (g : Gd) : Still (gs.set k g) k := fun i hi he => by
  simp only [List.length_set] at hi
  rw [List.getElem_set_ne (Ne.symm he)]; exact h i hi he
structure HInv (gs : List Gd) : Prop where
  par : ∀ i (h : i < gs.length) (a : Nat) (ha : a < gs.length), gs[i].isDown = false → gs[i].above = (a : Int) → gs[a].phase = 49
  kp : ∀ i (h : i < gs.length), (gs[i].phase = 99 → gs[i].keep = true → gs[i].ret = true) ∧ (gs[i].phase = 116 → gs[i].ret = true)
theorem isDown_false {g : Gd} : g.isDown = false ↔ g.phase ≠ 48 ∧ g.phase ≠ 116 := by unfold Gd.isDown; simp
theorem isDown_true {g : Gd} : g.isDown = true ↔ g.phase = 48 ∨ g.phase = 116 := by unfold Gd.isDown; simp
theorem HInv.fresh (D : List Dom) : HInv (gfresh D) where
  par := fun i h a ha hd => by
    have := (isDown_false.mp hd).1
    simp [gfresh] at this
  kp := fun i h => by simp [gfresh]
theorem HInv.up {gs : List Gd} (h : HInv gs) (hl : Lesser gs) {i : Nat} (hi : i < gs.length) : HInv (upG gs i hi) := by
  unfold upG
  split
  · exact h
  rename_i hc
  have hd : gs[i].isDown = true := by
    cases e : gs[i].isDown
    · exact absurd (.inl e) hc
    · rfl
  have hdd := isDown_true.mp hd
  constructor
  · intro j hj a ha hdj hab
    simp only [List.length_set] at hj ha
    have hne : ∀ (x : Nat) (hx : x < gs.length), gs[x].phase = 49 → x ≠ i := fun x hx e e2 => by subst e2; omega
    by_cases e : i = j
    · subst e
      rw [List.getElem_set_self] at hab
      have hab' : gs[i].above = (a : Int) := hab
      have hpa : gs[a].phase = 49 := by
        by_cases e2 : gs[a].phase = 49
        · exact e2
        · exact absurd (.inr ⟨by omega, by rw [hab', Int.toNat_natCast]; simpa [ha] using e2⟩) hc
      rw [List.getElem_set_ne (Ne.symm (hne a ha hpa))]; exact hpa
    · rw [List.getElem_set_ne e] at hdj hab
      have hpa := h.par j hj a ha hdj hab
      rw [List.getElem_set_ne (Ne.symm (hne a ha hpa))]; exact hpa
  · intro j hj
    simp only [List.length_set] at hj
    by_cases e : i = j
    · subst e
      rw [List.getElem_set_self]
      exact ⟨fun e => absurd e (by show ¬ (114 : Int) = 99; decide), fun e => absurd e (by show ¬ (114 : Int) = 116; decide)⟩
    · rw [List.getElem_set_ne e]; exact h.kp j hj
theorem HInv.down {gs : List Gd} (h : HInv gs) {i : Nat} (hi : i < gs.length) (k : Bool) (hl : Lesser gs) : HInv (downG gs i hi k) := by
  unfold downG
  split
  rotate_left
  · exact h
  rename_i hc
  unfold downE at hc
  by_cases h1 : gs[i].phase = 49
  rotate_left
  · rw [if_pos h1] at hc; simp at hc
  rw [if_neg (by simp [h1])] at hc
  by_cases h2 : k = true ∧ gs[i].ret = false
  · rw [if_pos h2] at hc; simp at hc
  rw [if_neg h2] at hc
  by_cases h3 : someUp gs i = true
  · rw [if_pos h3] at hc; simp at hc
  constructor
  · intro j hj a ha hdj hab
    simp only [List.length_set] at hj ha
    by_cases e : i = j
    · subst e
      rw [List.getElem_set_self] at hab
      have hab' : gs[i].above = (a : Int) := hab
      have := hl i hi
      rw [List.getElem_set_ne (by omega)]
      exact h.par i hi a ha (isDown_false.mpr ⟨by omega, by omega⟩) hab'
    · rw [List.getElem_set_ne e] at hdj hab
      have hia : i ≠ a := fun e2 => by subst e2; exact h3 (someUp_some hj hab hdj)
      rw [List.getElem_set_ne hia]
      exact h.par j hj a ha hdj hab
  · intro j hj
    simp only [List.length_set] at hj
    by_cases e : i = j
    · subst e
      rw [List.getElem_set_self]
      refine ⟨fun _ hk => ?_, fun e => absurd e (by show ¬ (99 : Int) = 116; decide)⟩
      have hk' : k = true := hk
      show gs[i].ret = true
      cases hr : gs[i].ret
      · exact absurd ⟨hk', hr⟩ h2
      · rfl
    · rw [List.getElem_set_ne e]; exact h.kp j hj
theorem gtick_up {g : Gd} (h : (gtick g).isDown = false) : g.isDown = false := by
  cases e : g.isDown
  · rfl
  · have := isDown_true.mp e
    have hs : g.still := by unfold Gd.still; omega
    rw [hs.tick.1, e] at h; exact h
theorem gtick_live {g : Gd} (h : g.phase = 49) : (gtick g).phase = 49 := by
  have hs : g.still := .inr (.inl h)
  rw [hs.tick.1]; exact h
theorem HInv.tick {gs : List Gd} (h : HInv gs) : HInv (gtickL gs) where
  par := fun i hi a ha hd hab => by
    simp only [gtickL_len] at hi ha
    simp only [gtickL, List.getElem_map] at hd hab ⊢
    rw [(gtick_same _).1] at hab
    exact gtick_live (h.par i hi a ha (gtick_up hd) hab)
  kp := fun i hi => by
    simp only [gtickL_len] at hi
    simp only [gtickL, List.getElem_map]
    have hk := h.kp i hi
    generalize gs[i] = g at hk
    obtain ⟨ab, de, re, ph, le, ba, ke⟩ := g
    simp only at hk
    unfold gtick
    simp only
    split
    · split
      · rename_i e _; exact ⟨fun e2 => by simp only at e2; omega, fun e2 => by simp only at e2; omega⟩
      · exact ⟨fun e2 => by simp at e2, fun e2 => by simp at e2⟩
    · split
      · exact ⟨fun e2 => by simp at e2, fun e2 => by simp at e2⟩
      · split
        · rename_i e
          split
          · rename_i e2; exact ⟨fun e3 => by simp at e3, fun _ => hk.1 e e2⟩
          · exact ⟨fun e3 => by simp at e3, fun e3 => by simp at e3⟩
        · exact hk
theorem HInv.chain {gs : List Gd} (h : HInv gs) {c : List Nat} {x : Nat} (hc : ChainOk gs c x) (hx : x < gs.length) (hd : gs[x].isDown = false) :
    ∀ (m j : Nat) (hj : j + 1 + m + 1 = c.length), (gs[c[j]'(by omega)]'(hc.lt _ _)).phase = 49
  | 0, j, hj => by
    have h2 := hc.lt (j + 1) (by omega)
    have e : c[j + 1]'(by omega) = x := by
      have := hc.last (by omega)
      simp only [show c.length - 1 = j + 1 by omega] at this
      exact this
    have hlk := hc.link j (by omega) h2
    simp only [e] at hlk
    exact h.par x hx _ (hc.lt _ _) hd hlk
  | m + 1, j, hj => by
    have h2 := hc.lt (j + 1) (by omega)
    have ih := h.chain hc hx hd m (j + 1) (by omega)
    exact h.par _ h2 _ (hc.lt _ _) (isDown_false.mpr ⟨by omega, by omega⟩) (hc.link j (by omega) h2)
end Go.Proofs.YtdmfgodajoojpaaGreatDoor.Cn
/- The chip: ticks of a chip at which nothing waits; domains that rise. -/
set_option linter.unusedSimpArgs false
set_option linter.unusedVariables false
set_option maxRecDepth 100000
namespace Go.Proofs.YtdmfgodajoojpaaGreatDoor.Cn
open Go Go.Proofs

def HV.none (v : HV) : Prop := ∀ i, v.Q i = []
def HV.calm (v : HV) : Prop := ∀ i, (v.O i).1 = 0
theorem HV.none.ok {S : Soc} {v : HV} (h : v.none) : QOk S v.Q := fun i hi t ht => by rw [h i] at ht; cases ht
theorem ansV_none {S : Soc} {v : HV} (h : v.none) (n : Nat) : v.ansV S n = v := by
  have e1 : (fun i => if i < n then (v.Q i).tail else v.Q i) = v.Q := by funext i; rw [h i]; split <;> rfl
  have e2 : (fun i => if i < n then v.wrF S i else v.F i) = v.F := by
    funext i
    split
    · rw [HV.wrF, h i]
    · rfl
  simp only [HV.ansV, e1, e2]
theorem portV_calm {v : HV} (h : v.calm) (d : Int) (n : Nat) : v.portV d n = v := by
  have e : (fun i => if i < n then qtick (v.O i).1 (v.O i).2 (decide ((0 : Int) < ((v.Q i).length : Nat))) (denyB d i) else v.O i) = v.O := by
    funext i
    split
    · rw [qtick, if_neg (by rw [h i]; decide)]
    · rfl
  simp only [HV.portV, e]
theorem tick_calm {S : Soc} {v : HV} (h : v.none) (hc : v.calm) (d : Int) : v.tick S d = v.rest S := by
  rw [HV.tick, ansV_none h, portV_calm hc]
theorem told_none {S : Soc} {v : HV} (h : v.none) (n : Nat) : v.told S n = [] := by
  rw [HV.told, List.filterMap_eq_nil_iff]
  intro i _
  rw [HV.ansOf, h i]
def phN (gs : List Gd) (x : Nat) : Int := if h : x < gs.length then gs[x].phase else 0
theorem phN_at {gs : List Gd} {x : Nat} (h : x < gs.length) : phN gs x = gs[x].phase := by rw [phN, dif_pos h]
theorem phI_nat {gs : List Gd} {x : Nat} (h : x < gs.length) : phI gs (x : Int) = phN gs x := by rw [phI_at h, phN_at h]
def StillA (gs : List Gd) : Prop := ∀ x (h : x < gs.length), gs[x].still
theorem StillA.tick {gs : List Gd} (h : StillA gs) : gtickL gs = gs ∧ evs gs = [] := by
  constructor
  · apply List.ext_getElem (gtickL_len gs)
    intro x h1 h2
    simp only [gtickL, List.getElem_map]
    exact (h x h2).tick.1
  · unfold evs evTo
    rw [List.map_eq_nil_iff, List.filter_eq_nil_iff]
    intro x hx
    have hxl : x < gs.length := by simpa using hx
    have e : gs.getD x ⟨0, 0, false, 0, 0, false, false⟩ = gs[x] := by simp [hxl]
    rw [e, (h x hxl).tick.2]; simp
theorem StillA.of {gs : List Gd} {k : Nat} (h : Still gs k) (hk : ∀ (hl : k < gs.length), gs[k].still) : StillA gs := fun x hx => by
  by_cases e : x = k
  · subst e; exact hk hx
  · exact h x hx e
def upK (p : Int) : Int := if p = 116 then 114 else 110
def wkF (S : Soc) (v : HV) (c : List Nat) : Nat → FSt := fun j => match S.devs[j]? with
  | some d => if d.dom.toNat ∈ c ∧ (phN v.gs d.dom.toNat = 48 ∨ phN v.gs d.dom.toNat = 116) then (v.F j).deed d.regs (upK (phN v.gs d.dom.toNat)) else v.F j
  | .none => v.F j
theorem wkF_nil (S : Soc) (v : HV) : wkF S v [] = v.F := by
  funext j; unfold wkF; split
  · rw [if_neg (fun h => by cases h.1)]
  · rfl
theorem wkF_live {S : Soc} {v : HV} {c : List Nat} {k : Nat} (h : phN v.gs k = 49) : wkF S v (c ++ [k]) = wkF S v c := by
  funext j; unfold wkF
  cases S.devs[j]? with
  | none => rfl
  | some d =>
    simp only
    by_cases e : d.dom.toNat = k
    · rw [if_neg, if_neg]
      · rintro ⟨_, h2⟩; rw [e, h] at h2; omega
      · rintro ⟨_, h2⟩; rw [e, h] at h2; omega
    · have : (d.dom.toNat ∈ c ++ [k]) ↔ d.dom.toNat ∈ c := by simp [e]
      simp only [this]
theorem wkF_at {S : Soc} {v : HV} {c : List Nat} {j : Nat} (h : j < S.devs.length) : wkF S v c j = if S.devs[j].dom.toNat ∈ c ∧ (phN v.gs S.devs[j].dom.toNat = 48 ∨ phN v.gs S.devs[j].dom.toNat = 116) then (v.F j).deed S.devs[j].regs (upK (phN v.gs S.devs[j].dom.toNat)) else v.F j := by
  unfold wkF; rw [List.getElem?_eq_getElem h]
theorem wkF_out {S : Soc} {v : HV} {c : List Nat} {j : Nat} (h : ¬ j < S.devs.length) : wkF S v c j = v.F j := by
  unfold wkF; rw [List.getElem?_eq_none (by omega)]
theorem wkF_down {S : Soc} (hk : S.like) {v : HV} {c : List Nat} {k : Nat} (hc : k ∉ c) (h : phN v.gs k = 48 ∨ phN v.gs k = 116) : wkF S v (c ++ [k]) = deedF S (upK (phN v.gs k), k) (wkF S v c) := by
  funext j
  by_cases hj : j < S.devs.length
  · have hdom := (hk.dev j hj).dom
    rw [wkF_at hj, deedF_at hj, wkF_at hj]
    by_cases e : S.devs[j].dom.toNat = k
    · rw [if_pos ⟨by rw [e]; simp, by rw [e]; exact h⟩, if_pos (show S.devs[j].dom = (k : Int) by omega), if_neg (fun q => hc (by rw [← e]; exact q.1)), e]
    · rw [if_neg (show ¬ S.devs[j].dom = (k : Int) by omega)]
      have : (S.devs[j].dom.toNat ∈ c ++ [k]) ↔ S.devs[j].dom.toNat ∈ c := by simp [e]
      simp only [this]
  · rw [wkF_out hj]
    unfold deedF
    rw [List.getElem?_eq_none (by omega)]
    simp only
    rw [wkF_out hj]
structure Mono (v v' : HV) : Prop where
  run : ∀ x, x < v.ns.length → run v.ns x = true → run v'.ns x = true
  held : ∀ i, heldI v.ls i = false → heldI v'.ls i = false
theorem Mono.refl (v : HV) : Mono v v := ⟨fun _ _ h => h, fun _ h => h⟩
theorem Mono.trans {a b c : HV} (h : Mono a b) (hl : b.ns.length = a.ns.length) (k : Mono b c) : Mono a c := ⟨fun x hx r => k.run x (by rw [hl]; exact hx) (h.run x hx r), fun i r => k.held i (h.held i r)⟩
theorem held_tick {ls : List Ln} (i : Int) (h : heldI ls i = false) : heldI (tickL ls) i = false := by
  unfold heldI at h ⊢
  have hl : (tickL ls).length = ls.length := by simp [tickL]
  by_cases hi : isLn ls i
  · obtain ⟨n, rfl⟩ : ∃ n : Nat, i = (n : Int) := ⟨i.toNat, by have := hi.1; omega⟩
    have hn : n < ls.length := by have := hi.2; omega
    have hi' : isLn (tickL ls) (n : Int) := ⟨hi.1, by rw [hl]; exact hi.2⟩
    rw [lnOf_at hn] at h
    rw [lnOf_at (by rw [hl]; exact hn)]
    simp only [hi, decide_true, Bool.not_true, Bool.false_or] at h
    have e : (tickL ls)[n]'(by rw [hl]; exact hn) = tick1 ls[n] := by simp [tickL]
    rw [e]
    simp only [hi', decide_true, Bool.not_true, Bool.false_or]
    rw [tick1, if_neg (by rw [h]; simp)]; exact h
  · simp [hi] at h
theorem held_release {ls : List Ln} (i j : Int) (h : heldI ls i = false) : heldI (releaseL ls j) i = false := by
  unfold releaseL
  split
  · rename_i hj
    have hjl : j.toNat < ls.length := by have := hj.1.1; have := hj.1.2; omega
    have hx : lnOf ls j = ls[j.toNat] := by
      have := lnOf_at hjl
      rwa [show ((j.toNat : Nat) : Int) = j by have := hj.1.1; omega] at this
    unfold heldI at h ⊢
    by_cases hi : isLn ls i
    · obtain ⟨n, rfl⟩ : ∃ n : Nat, i = (n : Int) := ⟨i.toNat, by have := hi.1; omega⟩
      have hn : n < ls.length := by have := hi.2; omega
      have hi' : isLn (ls.set j.toNat { lnOf ls j with wanted := true }) (n : Int) := ⟨hi.1, by simpa using hi.2⟩
      rw [lnOf_at hn] at h
      rw [lnOf_at (by simpa using hn)]
      simp only [hi, decide_true, Bool.not_true, Bool.false_or] at h
      simp only [hi', decide_true, Bool.not_true, Bool.false_or, List.getElem_set]
      split
      · rename_i e
        simp only [hx]
        subst e; exact h
      · exact h
    · simp [hi] at h
  · exact h
structure HGood (S : Soc) (v : HV) : Prop where
  none : v.none
  calm : v.calm
  ni : NI v.ns
theorem HGood.rest {S : Soc} {v : HV} (h : HGood S v) (hN : NsOk v.ns) : HGood S (v.rest S) := ⟨h.none, h.calm, NI.tick hN h.ni.w⟩
theorem Mono.rest {S : Soc} {v : HV} (h : HGood S v) (hN : NsOk v.ns) : Mono v (v.rest S) := ⟨fun x hx r => run_tick hN h.ni.w x hx r, fun i r => held_tick i r⟩
end Go.Proofs.YtdmfgodajoojpaaGreatDoor.Cn
/- The chip: a domain that rises. -/
set_option linter.unusedSimpArgs false
set_option linter.unusedVariables false
set_option maxRecDepth 100000
namespace Go.Proofs.YtdmfgodajoojpaaGreatDoor.Cn
open Go Go.Proofs

structure RiseI (S : Soc) (v0 v : HV) (k kk : Nat) : Prop where
  good : HGood S v
  mono : Mono v0 v
  posted : v.posted = v0.posted
  nl : v.ns.length = v0.ns.length
  gl : v.gs.length = v0.gs.length
  still : Still v.gs k
  others : ∀ x, x ≠ k → phN v.gs x = phN v0.gs x
  at_ : (phN v0.gs k = 49 ∧ phN v.gs k = 49 ∧ v.F = v0.F) ∨ ((phN v0.gs k = 48 ∨ phN v0.gs k = 116) ∧
    ((∃ h : k < v.gs.length, v.gs[k].phase = 114 ∧ v.gs[k].back = decide (phN v0.gs k = 116) ∧ v.gs[k].left + 2 + kk ≤ 40 ∧ v.F = v0.F) ∨
     (phN v.gs k = 104 ∧ kk + 1 ≤ 40 ∧ v.F = deedF S (upK (phN v0.gs k), k) v0.F) ∨ (phN v.gs k = 49 ∧ v.F = deedF S (upK (phN v0.gs k), k) v0.F)))
theorem phN_set {gs : List Gd} {k x : Nat} {g : Gd} (hk : k < gs.length) : phN (gs.set k g) x = if x = k then g.phase else phN gs x := by
  unfold phN
  by_cases hx : x < gs.length
  · have hx' : x < (gs.set k g).length := by simpa using hx
    rw [dif_pos hx', dif_pos hx, List.getElem_set]
    by_cases e : k = x
    · subst e; simp
    · rw [if_neg e, if_neg (Ne.symm e)]
  · have hx' : ¬ x < (gs.set k g).length := by simpa using hx
    rw [dif_neg hx', dif_neg hx, if_neg (by omega)]
theorem RiseI.tick {S : Soc} {v0 v : HV} {k kk : Nat} (h : RiseI S v0 v k kk) (hN : NsOk v.ns) (hk : k < v.gs.length) (hl : 0 ≤ v.gs[k].left) (hp : phN v.gs k ≠ 49) : RiseI S v0 (v.rest S) k (kk + 1) ∧ kk < 40 := by
  have hg := h.still.tick hk
  have he := h.still.evs hk
  have hph := phN_at hk
  have hgs : (v.rest S).gs = v.gs.set k (gtick v.gs[k]) := hg
  have hF : (v.rest S).F = deedsF S (if gev v.gs[k] ≠ 0 then [(gev v.gs[k], k)] else []) v.F := by rw [← he]; rfl
  have hm : Mono v0 (v.rest S) := h.mono.trans h.nl (Mono.rest h.good hN)
  have hst : Still (v.rest S).gs k := by rw [hgs]; exact h.still.set _
  have hot : ∀ x, x ≠ k → phN (v.rest S).gs x = phN v0.gs x := fun x hx => by rw [hgs, phN_set hk, if_neg hx]; exact h.others x hx
  have hnl : (v.rest S).ns.length = v0.ns.length := by rw [← h.nl]; exact ctickL_len _
  have hgl : (v.rest S).gs.length = v0.gs.length := by rw [hgs, List.length_set]; exact h.gl
  have hpk : phN (v.rest S).gs k = (gtick v.gs[k]).phase := by rw [hgs, phN_set hk, if_pos rfl]
  rcases h.at_ with ⟨_, h2, _⟩ | ⟨hd, ⟨hk', q1, q2, q3, q4⟩ | ⟨q1, q2, q3⟩ | ⟨q1, _⟩⟩
  · exact absurd h2 hp
  · by_cases h0 : 0 < v.gs[k].left
    · refine ⟨⟨h.good.rest hN, hm, h.posted, hnl, hgl, hst, hot, .inr ⟨hd, .inl ⟨by rw [hgs, List.length_set]; exact hk, ?_⟩⟩⟩, by omega⟩
      have e1 : gtick v.gs[k] = { v.gs[k] with left := v.gs[k].left - 1 } := by rw [gtick, if_pos q1, if_pos h0]
      have e2 : gev v.gs[k] = 0 := by rw [gev, if_pos q1, if_pos h0]
      simp only [hgs, List.getElem_set_self, e1]
      refine ⟨q1, q2, by omega, ?_⟩
      rw [hF, e2]; exact q4
    · refine ⟨⟨h.good.rest hN, hm, h.posted, hnl, hgl, hst, hot, .inr ⟨hd, .inr (.inl ⟨?_, by omega, ?_⟩)⟩⟩, by omega⟩
      · rw [hpk, gtick, if_pos q1, if_neg h0]
      · have e2 : gev v.gs[k] = upK (phN v0.gs k) := by
          rw [gev, if_pos q1, if_neg h0, q2, upK]
          by_cases e : phN v0.gs k = 116 <;> simp [e]
        have e3 : upK (phN v0.gs k) ≠ 0 := by unfold upK; split <;> decide
        rw [hF, e2, if_pos e3, q4]; rfl
  · have q1' : v.gs[k].phase = 104 := by rw [← hph]; exact q1
    refine ⟨⟨h.good.rest hN, hm, h.posted, hnl, hgl, hst, hot, .inr ⟨hd, .inr (.inr ⟨?_, ?_⟩)⟩⟩, by omega⟩
    · rw [hpk, gtick, if_neg (by rw [q1']; decide), if_pos q1']
    · have e2 : gev v.gs[k] = 111 := by rw [gev, if_neg (by rw [q1']; decide), if_pos q1']
      rw [hF, e2, if_pos (by decide)]
      show deedF S (111, k) v.F = _
      rw [deedF_none (by simp) (by simp) (by simp)]; exact q3
  · exact absurd q1 hp
end Go.Proofs.YtdmfgodajoojpaaGreatDoor.Cn
/- The chip: wakes, its last part: ticks until a device is alive. -/
set_option linter.unusedSimpArgs false
set_option linter.unusedVariables false
set_option maxRecDepth 100000
namespace Go.Proofs.YtdmfgodajoojpaaGreatDoor.Cn
open Go Go.Proofs

structure Woke (S : Soc) (v0 v : HV) (c : List Nat) (d : Nat) : Prop where
  good : HGood S v
  mono : Mono v0 v
  posted : v.posted = v0.posted
  ph : ∀ x, phN v.gs x = if x ∈ c then 49 else phN v0.gs x
  still : StillA v.gs
  F : v.F = wkF S v0 c
  alive : v.alive S d = true
def WakeQ (st : ASt) (ib : Nat) (a : HA) (S : Soc) (v0 : HV) (c : List Nat) (d : Nat) (r : AV) (s : ASt) : Prop := r = .bool true ∧ ∃ v, HX st s ib a S v ∧ Woke S v0 v c d
structure Soon (S : Soc) (v0 v : HV) (c : List Nat) (d ck dm rn : Nat) (kk : Nat) : Prop where
  good : HGood S v
  mono : Mono v0 v
  posted : v.posted = v0.posted
  ph : ∀ x, phN v.gs x = if x ∈ c then 49 else phN v0.gs x
  still : StillA v.gs
  F : v.F = wkF S v0 c
  lks : Lks v.ns ck
  pt : pot v.ns ck = 0 ∨ pot v.ns ck + kk ≤ 300
  ln : heldI v.ls (rn : Int) = false ∨ ∃ h : rn < v.ls.length, v.ls[rn].held = true ∧ v.ls[rn].wanted = true ∧ v.ls[rn].left + 1 + kk ≤ 300
  dm : dm ∈ c
section
variable {st s : ASt} {ib : Nat} {a : HA} {S : Soc} {v v0 : HV} {c : List Nat} {d ck dm rn : Nat}
theorem Soon.tick {kk : Nat} (h : Soon S v0 v c d ck dm rn kk) (hx : HX st s ib a S v) (hl0 : v.ns.length = v0.ns.length) (hl : 0 ≤ pot v.ns ck) (hkk : kk < 300) : Soon S v0 (v.rest S) c d ck dm rn (kk + 1) := by
  obtain ⟨T, hx⟩ := hx
  have hN := hx.c.kof.ok
  obtain ⟨e1, e2⟩ := h.still.tick
  have hgs : (v.rest S).gs = v.gs := e1
  have hF : (v.rest S).F = v.F := by show deedsF S (evs v.gs) v.F = v.F; rw [e2]; rfl
  obtain ⟨k1, k2⟩ := h.lks.after hN
  refine ⟨h.good.rest hN, h.mono.trans hl0 (Mono.rest h.good hN), h.posted, fun x => by rw [hgs]; exact h.ph x, by rw [hgs]; exact h.still, by rw [hF]; exact h.F, k1, ?_, ?_, h.dm⟩
  · show pot (ctickL v.ns) ck = 0 ∨ pot (ctickL v.ns) ck + _ ≤ 300
    rw [k2]
    rcases h.pt with e | e
    · rw [if_pos e]; exact .inl rfl
    · split
      · exact .inl rfl
      · exact .inr (by omega)
  · rcases h.ln with e | ⟨hr, q1, q2, q3⟩
    · exact .inl (held_tick _ e)
    · have hr' : rn < (tickL v.ls).length := by simpa [tickL] using hr
      have e : (tickL v.ls)[rn] = tick1 v.ls[rn] := by simp [tickL]
      have hll := (hx.c.linv.left _ (List.getElem_mem hr)).1
      by_cases h0 : 0 < v.ls[rn].left
      · refine .inr ⟨hr', ?_⟩
        show (tickL v.ls)[rn].held = true ∧ (tickL v.ls)[rn].wanted = true ∧ (tickL v.ls)[rn].left + 1 + _ ≤ 300
        rw [e, tick1, if_pos q1, if_pos h0]
        exact ⟨q1, q2, by simp only; omega⟩
      · left
        show heldI (tickL v.ls) _ = false
        rw [heldI_at hr', e, tick1, if_pos q1, if_neg h0, if_pos q2]
set_option maxHeartbeats 1000000 in
theorem wake_end {st1 : ASt} (hk : S.like) (hd : d < S.devs.length) (hck : S.devs[d].clock = (ck : Int)) (hdm : S.devs[d].dom = (dm : Int)) (hrn : S.devs[d].rst = (rn : Int)) (hl0 : v0.ns.length = S.clocks.length) (h : HX st1 s ib a S v) (hle : st.le st1) (hS : Soon S v0 v c d ck dm rn 0) :
    awp Tryz.prog C.n4 (Post [.slot 6] (WakeQ st ib a S v0 c d)) [(0, .ptr a.hp 0), (2, .int .i64 d)] s := by
  have n4 := hk.nv; have n3 := hk.nr
  simp only [↓Bt, Bu, simprocAttr, ↓C.z86, C.z25, ↓C.z93, C.bm_b, ↓C.btb_w, ↓C.bt8_w, ↓C.jn_w, C.jn_b, ↓C.n4_w]
  refine awp_midB (fun _ : Unit => [(0, .ptr a.hp 0), (2, .int .i64 d)]) (fun _ t => ∃ v, HX st1 t ib a S v ∧ v.aliveI S (d : Int) = true ∧ ∃ kk, Soon S v0 v c d ck dm rn kk) ?_ ?_
  rotate_left
  · rintro - t ⟨v', ⟨T, h'⟩, hal, kk, hS'⟩
    simp only [↓Bt, Bu, simprocAttr, ↓C.c0_w, C.c0_b, ↓C.bl4_w]
    refine (halive h' d).mono ?_
    rintro r t2 ⟨rfl, rfl⟩
    rw [hal]
    simp only [↓Bt, Bu, simprocAttr, ↓C.c0_w, C.c0_b, ↓C.bl4_w]
    have hal2 : v'.alive S d = true := by simpa [HV.aliveI] using hal
    exact ⟨rfl, v', HX.less ⟨T, h'⟩ hle, hS'.good, hS'.mono, hS'.posted, hS'.ph, hS'.still, hS'.F, hal2⟩
  refine awp_loopK (fun kk : Nat => [(0, .ptr a.hp 0), (2, .int .i64 d), (16, .int .i64 kk)]) (fun kk t => kk ≤ 300 ∧ ∃ v, HX st1 t ib a S v ∧ Soon S v0 v c d ck dm rn kk) (fun kk => 300 - kk) 0 rfl ⟨Nat.zero_le _, v, h, hS⟩ ?_
  clear h hS
  rintro kk t ⟨hkk, v, h, hS⟩
  obtain ⟨T, h0⟩ := h
  have hN := h0.c.kof.ok
  have hcl : ck < v.ns.length := by rw [h0.c.kof.len]; have := (hk.dev d hd).clock; omega
  obtain ⟨hp0, hp1⟩ := hS.lks.alive hN
  have hdl : dm < v.gs.length := by rw [h0.c.ginv.len]; have := (hk.dev d hd).dom; omega
  have hph : phI v.gs (dm : Int) = 49 := by rw [phI_nat hdl, hS.ph, if_pos hS.dm]
  have hal : v.aliveI S (d : Int) = (run v.ns ck && !heldI v.ls (rn : Int)) := by
    rw [HV.aliveI, Int.toNat_natCast, alive_at hd, hck, hdm, hrn, hph, runI, if_pos (isCk_at hcl)]; simp
  have c300 : ((300 : Nat) : Int) = 300 := rfl
  by_cases h300 : kk < 300
  rotate_left
  · have hke : kk = 300 := by omega
    have hke' : ¬ (kk : Int) < 300 := by omega
    simp only [↓Bt, Bu, simprocAttr, ↓C.z86, C.z25, ↓C.z93, C.bm_b, hke']
    have hrun : run v.ns ck = true := hp1.mpr (by have := hS.pt; omega)
    have hln : heldI v.ls (rn : Int) = false := by
      rcases hS.ln with e | ⟨hr, q1, q2, q3⟩
      · exact e
      · have := (h0.c.linv.left _ (List.getElem_mem hr)).1; omega
    exact ⟨(), v, ⟨T, h0⟩, by rw [hal, hrun, hln]; rfl, kk, hS⟩
  have hke' : (kk : Int) < 300 := by omega
  have hw := wsucc h300 (by omega)
  simp only [↓Bt, Bu, simprocAttr, ↓C.z86, C.z25, ↓C.z93, C.bm_b, hke']
  refine (halive h0 d).mono ?_
  rintro r t2 ⟨rfl, rfl⟩
  cases hd2 : v.aliveI S (d : Int)
  · simp only [↓Bt, Bu, simprocAttr, ↓C.z93, C.bm_b]
    simp only [↓Bt, Bu, simprocAttr, ↓C.z86, C.z25, ↓C.z93, C.bm_b]
    refine (htick ⟨T, h0⟩ hS.good.none.ok n4.2 (by omega) 0).mono ?_
    rintro r t3 ⟨rfl, h1⟩
    rw [tick_calm hS.good.none hS.good.calm] at h1
    simp only [↓Bt, Bu, simprocAttr, ↓C.z86, C.z25, ↓C.z93, C.bm_b, hw]
    exact ⟨kk + 1, rfl, ⟨by omega, v.rest S, h1, hS.tick ⟨T, h0⟩ (by rw [h0.c.kof.len, hl0]) hp0 h300⟩, by omega⟩
  · simp only [↓Bt, Bu, simprocAttr, ↓C.z86, C.z25, ↓C.z93, C.bm_b]
    exact ⟨(), v, ⟨T, h0⟩, hd2, kk, hS⟩
end
end Go.Proofs.YtdmfgodajoojpaaGreatDoor.Cn
/- The chip: wakes: the reset line; the domains. -/
set_option linter.unusedSimpArgs false
set_option linter.unusedVariables false
set_option maxRecDepth 100000
namespace Go.Proofs.YtdmfgodajoojpaaGreatDoor.Cn
open Go Go.Proofs

theorem awp_frame {P : Program} {c c' : ICode} {ks : List Nat} {Q : IExit → AFr → ASt → Prop} {fr f0 : AFr} {st : ASt} (e : c = .keep ks c') (h : awp P c Q f0 st) (hk : fr.keep ks = f0.keep ks) : awp P c Q fr st := by
  subst e; rw [awp_keep] at h ⊢; rw [hk]; exact h
structure Part (S : Soc) (v0 v : HV) (c : List Nat) (ck : Nat) : Prop where
  good : HGood S v
  mono : Mono v0 v
  posted : v.posted = v0.posted
  ph : ∀ x, phN v.gs x = if x ∈ c then 49 else phN v0.gs x
  still : StillA v.gs
  F : v.F = wkF S v0 c
  lks : Lks v.ns ck
section
variable {st s : ASt} {ib : Nat} {a : HA} {S : Soc} {v v0 : HV} {c : List Nat} {d ck dm rn : Nat}
theorem wake_ln {st1 : ASt} {ix : Nat} (hk : S.like) (hd : d < S.devs.length) (hck : S.devs[d].clock = (ck : Int)) (hdm : S.devs[d].dom = (dm : Int)) (hrn : S.devs[d].rst = (rn : Int)) (hl0 : v0.ns.length = S.clocks.length) (h : HX st1 s ib a S v) (hle : st.le st1) (hx : st1.h ix = some (.cells S.devs[d].cells)) (hS : Part S v0 v c ck) (hdc : dm ∈ c) :
    awp Tryz.prog C.vl (Post [.slot 6] (WakeQ st ib a S v0 c d)) [(0, .ptr a.hp 0), (2, .int .i64 d), (7, .ptr ix 0)] s := by
  have hxs := h.le _ _ hx
  rw [Dev.cells, hrn] at hxs
  obtain ⟨T, h0⟩ := h
  have hN := h0.c.kof.ok
  have hckl : ck < v.ns.length := by rw [h0.c.kof.len]; have := (hk.dev d hd).clock; omega
  have hrl : rn < v.ls.length := by rw [h0.c.linv.len]; have := (hk.dev d hd).rst; omega
  have hpt : pot v.ns ck = 0 ∨ pot v.ns ck + (0 : Nat) ≤ 300 := .inr (by have := pot_le hN ck hckl; have := h0.c.kof.len; have := hk.nc; omega)
  have hli : isLn v.ls (rn : Int) := ⟨by omega, by omega⟩
  have hhd : heldI v.ls (rn : Int) = v.ls[rn].held := heldI_at hrl
  simp only [↓Bt, Bu, simprocAttr, ↓C.z88, C.z24, hxs]
  refine (hheld h0 rn).mono ?_
  rintro r t ⟨rfl, rfl⟩
  cases hb : heldI v.ls (rn : Int)
  · simp only [↓Bt, Bu, simprocAttr, ↓C.z88, C.z24, hxs]
    exact awp_frame C.n4.eq_1 (wake_end hk hd hck hdm hrn hl0 ⟨T, h0⟩ hle ⟨hS.good, hS.mono, hS.posted, hS.ph, hS.still, hS.F, hS.lks, hpt, .inl hb, hdc⟩) rfl
  have hh : (lnOf v.ls (rn : Int)).held = true := by rw [lnOf_at hrl, ← hhd]; exact hb
  have he : releaseE v.ls (rn : Int) = 0 := by rw [releaseE, if_pos hli, if_pos hh]
  simp only [↓Bt, Bu, simprocAttr, ↓C.z88, C.z24, hxs]
  refine (hrelease h0 rn).mono ?_
  rintro r t2 ⟨rfl, h2⟩
  rw [he]
  simp only [↓Bt, Bu, simprocAttr, ↓C.z88, C.z24]
  have hl := (h0.c.linv.left _ (List.getElem_mem hrl)).2
  have e1 : releaseL v.ls (rn : Int) = v.ls.set rn { v.ls[rn] with wanted := true } := by rw [releaseL, if_pos ⟨hli, hh⟩, Int.toNat_natCast, lnOf_at hrl]
  refine awp_frame C.n4.eq_1 (wake_end (v := { v with ls := releaseL v.ls (rn : Int) }) hk hd hck hdm hrn hl0 ⟨T, h2⟩ hle ⟨⟨hS.good.none, hS.good.calm, hS.good.ni⟩, ⟨hS.mono.run, fun i hi => held_release i _ (hS.mono.held i hi)⟩, hS.posted, hS.ph, hS.still, hS.F, hS.lks, hpt, .inr ?_, hdc⟩) rfl
  simp only [e1]
  refine ⟨by simpa using hrl, ?_⟩
  rw [List.getElem_set_self]
  exact ⟨by rw [← hhd]; exact hb, rfl, by simp only; omega⟩
end
end Go.Proofs.YtdmfgodajoojpaaGreatDoor.Cn
/- The chip: wakes: the domains are switched on, one after another. -/
set_option linter.unusedSimpArgs false
set_option linter.unusedVariables false
set_option maxRecDepth 100000
namespace Go.Proofs.YtdmfgodajoojpaaGreatDoor.Cn
open Go Go.Proofs

section
variable {st s : ASt} {ib : Nat} {a : HA} {S : Soc} {v vi v0 : HV} {c cs : List Nat} {d ck dm rn k kk : Nat}
theorem Part.more (hk : S.like) (h : Part S v0 vi c ck) (hr : RiseI S vi v k kk) (h49 : phN v.gs k = 49) (hc : k ∉ c) (hl : Lks v.ns ck) (hn : vi.ns.length = v0.ns.length) : Part S v0 v (c ++ [k]) ck := by
  have e0 : phN vi.gs k = phN v0.gs k := by rw [h.ph, if_neg hc]
  refine ⟨hr.good, h.mono.trans hn hr.mono, hr.posted.trans h.posted, fun x => ?_, StillA.of hr.still fun hl => .inr (.inl (by rw [← phN_at hl]; exact h49)), ?_, hl⟩
  · by_cases e : x = k
    · subst e; rw [if_pos (by simp)]; exact h49
    · rw [hr.others x e, h.ph]
      have : (x ∈ c ++ [k]) ↔ x ∈ c := by simp [e]
      simp only [this]
  · rcases hr.at_ with ⟨h1, _, h3⟩ | ⟨h1, ⟨q0, q1, _⟩ | ⟨q1, _⟩ | ⟨_, q2⟩⟩
    · rw [h3, h.F, wkF_live (by rw [← e0]; exact h1)]
    · rw [phN_at q0, q1] at h49; omega
    · omega
    · rw [q2, h.F, wkF_down hk hc (by rw [← e0]; exact h1), e0]
theorem RiseI.live (h : HGood S v) (hs : StillA v.gs) (h49 : phN v.gs k = 49) : RiseI S v v k 0 :=
  ⟨h, Mono.refl v, rfl, rfl, rfl, fun x hx _ => hs x hx, fun _ _ => rfl, .inl ⟨h49, h49, rfl⟩⟩
theorem RiseI.begin (h : HGood S v) (hs : StillA v.gs) (hk : k < v.gs.length) (hp : phN v.gs k = 48 ∨ phN v.gs k = 116) (hd : v.gs[k].delay ≤ 3) :
    RiseI S v { v with gs := v.gs.set k { v.gs[k] with back := decide (v.gs[k].phase = 116), phase := 114, left := v.gs[k].delay } } k 0 := by
  refine ⟨⟨h.none, h.calm, h.ni⟩, ⟨fun _ _ h => h, fun _ h => h⟩, rfl, rfl, List.length_set, Still.set (fun x hx _ => hs x hx) _, fun x hx => ?_, .inr ⟨hp, .inl ⟨by simpa using hk, ?_⟩⟩⟩
  · simp only [phN_set hk, if_neg hx]
  · simp only [List.getElem_set_self]
    exact ⟨trivial, by rw [phN_at hk], by omega, trivial⟩
theorem up_goes {i : Nat} (hl : ChainOk v.gs cs dm) (hi : i < cs.length) (h49 : ∀ x ∈ cs.take i, phN v.gs x = 49) (hp : phN v.gs cs[i] = 48 ∨ phN v.gs cs[i] = 116) (hil : cs[i] < v.gs.length) :
    ¬ (v.gs[cs[i]].isDown = false ∨ (v.gs[cs[i]].above ≠ -1 ∧ (v.gs.getD v.gs[cs[i]].above.toNat v.gs[cs[i]]).phase ≠ 49)) := by
  rintro (h | ⟨h1, h2⟩)
  · rw [phN_at hil] at hp
    have := isDown_false.mp h
    omega
  · by_cases h0 : i = 0
    · subst h0; exact h1 (hl.top _ hil)
    · obtain ⟨j, rfl⟩ : ∃ j, i = j + 1 := ⟨i - 1, by omega⟩
      have e := hl.link j hi hil
      have hj := hl.lt j (by omega)
      have hm := h49 cs[j] (by rw [List.mem_take_iff_getElem]; exact ⟨j, by omega, rfl⟩)
      rw [phN_at hj] at hm
      rw [e, Int.toNat_natCast] at h2
      exact h2 (by simpa [hj] using hm)
theorem take_fresh (hl : ChainOk v0.gs cs dm) (hL : Lesser v0.gs) {i : Nat} (hi : i < cs.length) : cs[i] ∉ cs.take i := fun hm => by
  obtain ⟨j, hj, e⟩ := List.mem_take_iff_getElem.mp hm
  have := hl.mono hL (i := j) (j := i) (by omega) hi
  omega
end
end Go.Proofs.YtdmfgodajoojpaaGreatDoor.Cn
/- The chip: wakes: the walk through the domains. -/
set_option linter.unusedSimpArgs false
set_option linter.unusedVariables false
set_option maxRecDepth 100000
namespace Go.Proofs.YtdmfgodajoojpaaGreatDoor.Cn
open Go Go.Proofs

theorem awp_midBB' {P : Program} {a c : ICode} {ks : List Nat} {i j : Nat} {Q1 Q2 : IExit → AFr → ASt → Prop} {fr : AFr} {st : ASt} {σ : Type} (F : σ → AFr) (I : σ → ASt → Prop)
    (h1 : awp P a (IExit.inBlock i (IExit.inBlock j (IExit.then (fun fr st => ∃ s, fr.keep ks = F s ∧ I s st) Q2))) fr st) (h2 : ∀ s st, I s st → awp P c Q1 (F s) st) :
    awp P a (IExit.inBlock i (IExit.inBlock j (IExit.then (awp P (.keep ks c) Q1) Q2))) fr st := by
  refine awp_mono a (fun e fr st h => ?_) h1
  have hn : ∀ fr st, (∃ s, fr.keep ks = F s ∧ I s st) → awp P (.keep ks c) Q1 fr st := by
    rintro fr st ⟨s, e1, e2⟩
    rw [awp_keep, e1]; exact h2 s st e2
  cases e with
  | normal => exact hn _ _ h
  | exit k =>
    simp only [IExit.inBlock] at h ⊢
    split
    · rename_i e; rw [if_pos e] at h; exact hn _ _ h
    · rename_i e
      rw [if_neg e] at h
      split
      · rename_i e; rw [if_pos e] at h; exact hn _ _ h
      · rename_i e; rw [if_neg e] at h; exact h
  | ret => exact h
section
variable {st s : ASt} {ib : Nat} {a : HA} {S : Soc} {v v0 : HV} {c cs : List Nat} {d ck dm rn : Nat}
set_option maxHeartbeats 1000000 in
theorem wake_rise {st1 t' : ASt} {v' : HV} {ix ic i : Nat} {fr : AFr} {Q1 Q2 : IExit → AFr → ASt → Prop} (hk : S.like) (hcl : cs.length ≤ 5) (hch : ChainOk v0.gs cs dm) (hg0 : GInv S.doms v0.gs) (hil : i < cs.length) (hkl : cs[i] < v.gs.length) (hlen0 : v.ns.length = v0.ns.length)
    (hic : st1.h ic = some (.cells (ints (cs.map Int.ofNat)))) (hS : Part S v0 v (cs.take i) ck) (h' : HX st1 t' ib a S v') (hr' : RiseI S v v' cs[i] 0) (hl' : Lks v'.ns ck) (hfr' : fr.keep [0, 2, 7, 11, 13] = [(0, .ptr a.hp 0), (2, .int .i64 d), (7, .ptr ix 0), (11, .sl 1 ic 0 cs.length), (13, .int .i64 i)])
    (hQ : ∀ t2, (∃ v, HX st1 t2 ib a S v ∧ Part S v0 v (cs.take (i + 1)) ck) → awp Tryz.prog C.n2 Q1 [(0, .ptr a.hp 0), (2, .int .i64 d), (7, .ptr ix 0), (11, .sl 1 ic 0 cs.length), (13, .int .i64 i)] t2) :
    awp Tryz.prog C.vm (IExit.inBlock 5 (IExit.then (awp Tryz.prog C.n2 Q1) Q2)) fr t' := by
  have n4 := hk.nv; have n3 := hk.nr
  have hw := wsucc hil (by omega)
  have hz : (0:Int) ≤ (i : Int) ∧ (i : Int) < ((cs.length : Nat) : Int) := by omega
  have hg : (ints (cs.map Int.ofNat))[i]? = some (.int .i64 (cs[i] : Nat)) := ints_nat_get hil
  have hfr := take_fresh hch hg0.lesser hil
  have htk : cs.take (i + 1) = cs.take i ++ [cs[i]] := List.take_succ_eq_append_getElem hil
  rw [C.vm_w, awp_keep, hfr']
  simp only [↓Bt, Bu, simprocAttr, ↓C.z82, C.z23, ↓C.z83, C.cz_b]
  refine awp_midBB' (fun _ : Unit => [(0, .ptr a.hp 0), (2, .int .i64 d), (7, .ptr ix 0), (11, .sl 1 ic 0 cs.length), (13, .int .i64 i)]) (fun _ t => ∃ v, HX st1 t ib a S v ∧ Part S v0 v (cs.take (i + 1)) ck) ?_ ?_
  rotate_left
  · rintro - t2 h2
    have := hQ t2 h2
    rw [C.n2_w, awp_keep] at this
    exact this
  refine awp_loopK (fun kk : Nat => [(0, .ptr a.hp 0), (2, .int .i64 d), (7, .ptr ix 0), (11, .sl 1 ic 0 cs.length), (13, .int .i64 i), (15, .int .i64 kk)]) (fun kk t => kk ≤ 40 ∧ ∃ v', HX st1 t ib a S v' ∧ RiseI S v v' cs[i] kk ∧ Lks v'.ns ck) (fun kk => 40 - kk) 0 rfl ⟨Nat.zero_le _, v', h', hr', hl'⟩ ?_
  clear h' hr' hl' hfr' hQ
  rintro kk t2 ⟨hkk, v2, h2, hr2, hl2⟩
  have hict2 := h2.le _ _ hic
  obtain ⟨T2, h20⟩ := h2
  have hk2 : cs[i] < v2.gs.length := by rw [hr2.gl]; exact hkl
  have hp2 := phI_nat hk2
  have hN2 := h20.c.kof.ok
  have hleft := (h20.c.ginv.left _ (List.getElem_mem hk2)).1
  have done : phN v2.gs cs[i] = 49 → ∃ s : Unit, HX st1 t2 ib a S v2 ∧ Part S v0 v2 (cs.take (i + 1)) ck := fun h49 => ⟨(), ⟨T2, h20⟩, by rw [htk]; exact hS.more hk hr2 h49 hfr hl2 hlen0⟩
  by_cases h40 : kk < 40
  rotate_left
  · have hke : ¬ (kk : Int) < 40 := by omega
    have h49 : phN v2.gs cs[i] = 49 := by
      by_cases e : phN v2.gs cs[i] = 49
      · exact e
      · have := (hr2.tick hN2 hk2 hleft e).2; omega
    obtain ⟨_, q1, q2⟩ := done h49
    simp only [↓Bt, Bu, simprocAttr, ↓C.z82, C.z23, hke]
    exact ⟨(), v2, q1, q2⟩
  have hke : (kk : Int) < 40 := by omega
  have hwk := wsucc h40 (by omega)
  simp only [↓Bt, Bu, simprocAttr, ↓C.z82, C.z23, hke, hict2, hz, Int.toNat_natCast, Nat.mul_one, hg]
  refine (hphase h20 (cs[i] : Nat)).mono ?_
  rintro r t3 ⟨rfl, rfl⟩
  rw [hp2]
  by_cases h49 : phN v2.gs cs[i] = 49
  · obtain ⟨_, q1, q2⟩ := done h49
    simp only [↓Bt, Bu, simprocAttr, ↓C.z82, C.z23, h49]
    exact ⟨(), v2, q1, q2⟩
  simp only [↓Bt, Bu, simprocAttr, ↓C.z82, C.z23, h49]
  refine (htick ⟨T2, h20⟩ hr2.good.none.ok n4.2 (by omega) 0).mono ?_
  rintro r t4 ⟨rfl, h4⟩
  rw [tick_calm hr2.good.none hr2.good.calm] at h4
  simp only [↓Bt, Bu, simprocAttr, ↓C.z82, C.z23, hwk]
  exact ⟨kk + 1, rfl, ⟨h40, v2.rest S, h4, (hr2.tick hN2 hk2 hleft h49).1, (hl2.after hN2).1⟩, by omega⟩
set_option maxHeartbeats 1000000 in
theorem wake_doms {st1 : ASt} {ix ic : Nat} (hk : S.like) (hd : d < S.devs.length) (hck : S.devs[d].clock = (ck : Int)) (hdm : S.devs[d].dom = (dm : Int)) (hrn : S.devs[d].rst = (rn : Int)) (hl0 : v0.ns.length = S.clocks.length) (hg0 : GInv S.doms v0.gs)
    (hch : ChainOk v0.gs cs dm) (hcl : cs.length ≤ 5) (h : HX st1 s ib a S v) (hle : st.le st1) (hx : st1.h ix = some (.cells S.devs[d].cells)) (hic : st1.h ic = some (.cells (ints (cs.map Int.ofNat)))) (hs0 : StillA v0.gs) (hS : Part S v0 v [] ck) :
    awp Tryz.prog C.vn (Post [.slot 6] (WakeQ st ib a S v0 cs d)) [(0, .ptr a.hp 0), (2, .int .i64 d), (7, .ptr ix 0), (11, .sl 1 ic 0 cs.length)] s := by
  have n4 := hk.nv; have n3 := hk.nr
  have hdc : dm ∈ cs := by
    have hp := hch.pos
    have := hch.last (by omega)
    rw [← this]; exact List.getElem_mem _
  simp only [↓Bt, Bu, simprocAttr, ↓C.z89, C.bw_b, ↓C.z82, C.z23, ↓C.z83, C.cz_b, ↓C.z84, C.z22, ↓C.bs4_w, ↓C.bts_w, ↓C.jb_w, C.jb_b, ↓C.vn_w]
  refine awp_midB (fun _ : Unit => [(0, .ptr a.hp 0), (2, .int .i64 d), (7, .ptr ix 0)]) (fun _ t => ∃ v, HX st1 t ib a S v ∧ Part S v0 v cs ck) ?_ ?_
  rotate_left
  · rintro - t ⟨v', h', hS'⟩
    have := wake_ln hk hd hck hdm hrn hl0 h' hle hx hS' hdc
    rw [C.vl_w, awp_keep] at this
    exact this
  refine awp_loopK (fun i : Nat => [(0, .ptr a.hp 0), (2, .int .i64 d), (7, .ptr ix 0), (11, .sl 1 ic 0 cs.length), (13, .int .i64 i)]) (fun i t => i ≤ cs.length ∧ ∃ v, HX st1 t ib a S v ∧ Part S v0 v (cs.take i) ck) (fun i => cs.length - i) 0 rfl ⟨Nat.zero_le _, v, h, hS⟩ ?_
  clear h hS
  rintro i t ⟨hi, v, h, hS⟩
  by_cases hil : i < cs.length
  rotate_left
  · have hie : i = cs.length := by omega
    have hil' : ¬ (i : Int) < ((cs.length : Nat) : Int) := by omega
    rw [hie, List.take_length] at hS
    simp only [↓Bt, Bu, simprocAttr, ↓C.z89, C.bw_b, ↓C.z82, C.z23, ↓C.z83, C.cz_b, ↓C.z84, C.z22, hil']
    exact ⟨(), v, h, hS⟩
  have hil' : (i : Int) < ((cs.length : Nat) : Int) := by omega
  have hw := wsucc hil (by omega)
  have hz : (0:Int) ≤ (i : Int) ∧ (i : Int) < ((cs.length : Nat) : Int) := by omega
  have hg : (ints (cs.map Int.ofNat))[i]? = some (.int .i64 (cs[i] : Nat)) := ints_nat_get hil
  have hict := h.le _ _ hic
  obtain ⟨T, h0⟩ := h
  have hgl : v.gs.length = v0.gs.length := by rw [h0.c.ginv.len, hg0.len]
  have hkl : cs[i] < v.gs.length := by rw [hgl]; exact hch.lt i hil
  have hlen0 : v.ns.length = v0.ns.length := by rw [h0.c.kof.len, hl0]
  have hfr := take_fresh hch hg0.lesser hil
  have htk : cs.take (i + 1) = cs.take i ++ [cs[i]] := List.take_succ_eq_append_getElem hil
  obtain ⟨k, hkk⟩ : ∃ k, k = cs[i] := ⟨_, rfl⟩
  have hpk := phI_nat hkl
  have c40 : ((40 : Nat) : Int) = 40 := rfl
  have c49 : ∀ x : Int, (AV.int .u8 x = AV.int .u8 49) = (x = 49) := fun x => by simp
  -- what is behind: ticks until it is up
  have fin := fun (t' : ASt) (v' : HV) (h' : HX st1 t' ib a S v') (hr' : RiseI S v v' cs[i] 0) (hl' : Lks v'.ns ck) Q1 Q2 (fr : AFr) hfr' hQ => wake_rise (d := d) (ix := ix) (ic := ic) (fr := fr) (Q1 := Q1) (Q2 := Q2) hk hcl hch hg0 hil hkl hlen0 hic hS h' hr' hl' hfr' hQ
  simp only [↓Bt, Bu, simprocAttr, ↓C.z84, C.z22, hil', hict, hz, Int.toNat_natCast, Nat.mul_one, hg]
  refine (hphase h0 (cs[i] : Nat)).mono ?_
  rintro r t3 ⟨rfl, rfl⟩
  rw [hpk]
  have e0 : phN v.gs cs[i] = phN v0.gs cs[i] := by rw [hS.ph, if_neg hfr]
  have hst := hS.still cs[i] hkl
  rw [Gd.still, ← phN_at hkl] at hst
  by_cases h49 : phN v.gs cs[i] = 49
  · simp only [↓Bt, Bu, simprocAttr, ↓C.z84, C.z22, h49]
    refine fin _ v ⟨T, h0⟩ (RiseI.live hS.good hS.still h49) hS.lks _ _ _ rfl ?_
    rintro t5 ⟨v5, h5, hS5⟩
    simp only [↓Bt, Bu, simprocAttr, ↓C.z89, C.bw_b, hw]
    exact ⟨i + 1, rfl, ⟨hil, v5, h5, hS5⟩, by omega⟩
  have hp : phN v.gs cs[i] = 48 ∨ phN v.gs cs[i] = 116 := by omega
  have hup := up_goes (hch.same hgl (fun j h1 h2 => (hg0.same2 h0.c.ginv).2 j h1 h2)) hil (fun x hx => by rw [hS.ph, if_pos hx]) hp hkl
  have hE : upE v.gs cs[i] hkl = 0 := by rw [upE, if_neg hup]
  have hG : upG v.gs cs[i] hkl = v.gs.set cs[i] { v.gs[cs[i]] with back := decide (v.gs[cs[i]].phase = 116), phase := 114, left := v.gs[cs[i]].delay } := by rw [upG, if_neg hup]
  have hdl : v.gs[cs[i]].delay ≤ 3 := by
    have hD : cs[i] < S.doms.length := by rw [← h0.c.ginv.len]; exact hkl
    rw [(h0.c.ginv.same _ hkl hD).2.1]; exact (hk.dom _ hD).delay.2
  have hbeg := RiseI.begin hS.good hS.still hkl hp hdl
  rw [← hG] at hbeg
  rcases hp with hp | hp
  · simp only [↓Bt, Bu, simprocAttr, ↓C.z84, C.z22, hp, hict, hz, Int.toNat_natCast, Nat.mul_one, hg]
    refine (hup_at h0 hkl).mono ?_
    rintro r t4 ⟨rfl, h4⟩
    rw [hE]
    simp only [↓Bt, Bu, simprocAttr, ↓C.z84, C.z22]
    refine fin _ _ ⟨T, h4⟩ hbeg hS.lks _ _ _ rfl ?_
    rintro t5 ⟨v5, h5, hS5⟩
    simp only [↓Bt, Bu, simprocAttr, ↓C.z89, C.bw_b, hw]
    exact ⟨i + 1, rfl, ⟨hil, v5, h5, hS5⟩, by omega⟩
  · simp only [↓Bt, Bu, simprocAttr, ↓C.z84, C.z22, hp, hict, hz, Int.toNat_natCast, Nat.mul_one, hg]
    refine (hup_at h0 hkl).mono ?_
    rintro r t4 ⟨rfl, h4⟩
    rw [hE]
    simp only [↓Bt, Bu, simprocAttr, ↓C.z84, C.z22]
    refine fin _ _ ⟨T, h4⟩ hbeg hS.lks _ _ _ rfl ?_
    rintro t5 ⟨v5, h5, hS5⟩
    simp only [↓Bt, Bu, simprocAttr, ↓C.z89, C.bw_b, hw]
    exact ⟨i + 1, rfl, ⟨hil, v5, h5, hS5⟩, by omega⟩
end
end Go.Proofs.YtdmfgodajoojpaaGreatDoor.Cn
/- The chip: wakes: the chain of domains is made. -/
set_option linter.unusedSimpArgs false
set_option linter.unusedVariables false
set_option maxRecDepth 100000
namespace Go.Proofs.YtdmfgodajoojpaaGreatDoor.Cn
open Go Go.Proofs

section
variable {st s : ASt} {ib : Nat} {a : HA} {S : Soc} {v v0 : HV} {c cs : List Nat} {d ck dm rn : Nat}
theorem aop_cons_hx {P : Program} {sz b : Nat} {zs : List AV} {parts : List (Nat × Nat × IArg)} {x y : IArg} {fr : AFr} {st1 t : ASt} {F : AV → AFr} {K : AV → AV → ASt → Prop} {tv : AV} {n : Nat} {cl new : List AV}
    (h : HX st1 t ib a S v) (hown : Over st st1 sz tv n cl) (hn : n + 1 ≤ 4294967296) (hnew : aput (zeros zs 1) (parts.map fun p => (p.1, p.2.1, fr.val p.2.2)) = .some new) (hlen : new.length = sz) (hleaf : allLeaf cl = true)
    (hx : ∀ v1, (F v1).val x = v1) (hy : ∀ v1, (F v1).val y = tv)
    (hk : ∀ v1 v2 st2 t2, HX st2 t2 ib a S v → Over st st2 sz v2 (n + 1) (new ++ cl) → K v1 v2 t2) :
    aop P (.buildSlice sz 1 zs parts) fr t (fun v1 st1 => aop P (.append sz b x y) (F v1) st1 (K v1)) := by
  have hs : Shows t sz tv n cl := by
    obtain ⟨h1, h2⟩ := hown.1
    refine ⟨h1, h2.imp (fun x => x) fun ⟨i, e, hi⟩ => ⟨i, e, h.le _ _ hi⟩⟩
  simp only [aop, hnew]
  intro i1 hi1
  have h1 : (t.new i1 (.cells new)).h i1 = .some (.cells new) := ASt.new_self _ hi1
  have hs1 : Shows (t.new i1 (.cells new)) sz tv n cl := ⟨hs.1, hs.2.imp (fun x => x) fun ⟨i, e, hi⟩ => ⟨i, e, ASt.new_old hi⟩⟩
  simp only [hx, hy, hs1.slen, slen_sl, hs1.seen]
  refine ⟨⟨by omega, hleaf⟩, ?_⟩
  by_cases h0 : n = 0
  · rw [if_pos h0]
    subst h0
    have : cl = [] := List.eq_nil_of_length_eq_zero (by simpa using hown.1.1)
    subst this
    obtain ⟨q1, q2, q3⟩ := h.box hi1 (.cells new)
    refine hk _ _ _ _ q1 ⟨⟨by rw [List.append_nil, hlen]; omega, .inr ⟨i1, rfl, by rw [List.append_nil]; exact q2⟩⟩, hown.2.1.trans q3, fun sz i off n e => ?_⟩
    cases e
    exact fresh_of_le (hown.2.1.trans h.le) hi1
  · rw [if_neg h0, h1]
    refine ⟨⟨trivial, by rw [hlen]; omega⟩, ?_⟩
    intro i2 hi2
    rw [ASt.new_none] at hi2
    obtain ⟨q1, q2, q3⟩ := h.box hi2.1 (.cells (new ++ cl))
    rw [show 1 + n = n + 1 from Nat.add_comm _ _, List.drop_zero]
    have hk1 : ((t.new i1 (.cells new)).kill i1).h i2 = none := by rw [ASt.kill_none]; intro _; rw [ASt.new_none]; exact hi2
    refine hk _ _ _ _ (q1.step fun j o hj => ?_) ⟨⟨by rw [List.length_append, hlen, hown.1.1, Nat.add_mul]; omega, .inr ⟨i2, rfl, q2⟩⟩, hown.2.1.trans q3, fun sz i off n e => ?_⟩
    · by_cases e : j = i2
      · subst e; rw [ASt.new_self _ hi2.1] at hj; rw [ASt.new_self _ hk1]; exact hj
      · rw [ASt.new_ne _ e] at hj ⊢
        rw [ASt.kill_h, if_neg (by rintro rfl; rw [hi1] at hj; cases hj)]
        exact ASt.new_old hj
    · cases e
      exact fresh_of_le (hown.2.1.trans h.le) hi2.1
def curD (cs : List Nat) : Nat → Int
  | 0 => -1
  | j + 1 => (((cs[j]?).getD 0 : Nat) : Int)
theorem curD_succ {j : Nat} (h : j < cs.length) : curD cs (j + 1) = (cs[j] : Nat) := by rw [curD, List.getElem?_eq_getElem h]; rfl
theorem curD_next {D : List Dom} {gs : List Gd} (hg : GInv D gs) (hch : ChainOk gs cs dm) {j : Nat} (h : j < cs.length) (hD : cs[j] < D.length) : D[cs[j]].above = curD cs j := by
  have hj := hch.lt j h
  rw [← (hg.same _ hj hD).1]
  cases j with
  | zero => exact hch.top _ hj
  | succ j => rw [hch.link j h hj, curD_succ (by omega)]
theorem curD_last {gs : List Gd} (hch : ChainOk gs cs dm) : curD cs cs.length = (dm : Int) := by
  have hp := hch.pos
  have := hch.last (by omega)
  obtain ⟨j, hj⟩ : ∃ j, cs.length = j + 1 := ⟨cs.length - 1, by omega⟩
  rw [hj, curD_succ (by omega)]
  simp only [hj, Nat.add_sub_cancel] at this
  rw [this]
set_option maxHeartbeats 1000000 in
theorem wake_chain {st1 : ASt} {ix iz : Nat} (hk : S.like) (hd : d < S.devs.length) (hck : S.devs[d].clock = (ck : Int)) (hdm : S.devs[d].dom = (dm : Int)) (hrn : S.devs[d].rst = (rn : Int)) (hl0 : v0.ns.length = S.clocks.length) (hg0 : GInv S.doms v0.gs)
    (hch : ChainOk v0.gs cs dm) (hcl : cs.length ≤ 5) (h : HX st1 s ib a S v) (hle : st.le st1) (hx : st1.h ix = some (.cells S.devs[d].cells)) (hiz : st1.h iz = some (.cells S.cells)) (hs0 : StillA v0.gs) (hS : Part S v0 v [] ck) :
    awp Tryz.prog C.vp (Post [.slot 6] (WakeQ st ib a S v0 cs d)) [(0, .ptr a.hp 0), (2, .int .i64 d), (4, .ptr iz 0), (7, .ptr ix 0)] s := by
  have hxs := h.le _ _ hx
  rw [Dev.cells, hdm] at hxs
  simp only [↓Bt, Bu, simprocAttr, ↓C.z90, C.cy_b, ↓C.z85, C.z21, ↓C.bs7_w, ↓C.btx_w, ↓C.h7_w, C.h7_b, ↓C.bty_w, ↓C.jw_w, C.jw_b, ↓C.vp_w, hxs]
  refine awp_midB (fun p : ASt × Nat => [(0, .ptr a.hp 0), (2, .int .i64 d), (7, .ptr ix 0), (11, .sl 1 p.2 0 cs.length)]) (fun p t => HX p.1 t ib a S v ∧ st1.le p.1 ∧ p.1.h p.2 = some (.cells (ints (cs.map Int.ofNat)))) ?_ ?_
  rotate_left
  · rintro ⟨st2, ic⟩ t ⟨h2, hl2, hic⟩
    have := wake_doms hk hd hck hdm hrn hl0 hg0 hch hcl h2 (hle.trans hl2) (hl2 _ _ hx) hic hs0 hS
    rw [C.vn_w, awp_keep] at this
    exact this
  refine awp_loopK (fun p : Nat × AV => [(0, .ptr a.hp 0), (2, .int .i64 d), (4, .ptr iz 0), (7, .ptr ix 0), (11, p.2), (12, .int .i64 (curD cs p.1))])
    (fun p t => p.1 ≤ cs.length ∧ ∃ st2, HX st2 t ib a S v ∧ Over st1 st2 1 p.2 (cs.length - p.1) (ints ((cs.drop p.1).map Int.ofNat))) (fun p => p.1) (cs.length, .nils) (by rw [curD_last hch]; rfl) ⟨Nat.le_refl _, st1, h, ?_⟩ ?_
  · simp only [Nat.sub_self, List.drop_length]
    exact Over.nils (ASt.le.refl _) 1
  clear h hxs
  rintro ⟨j, tv⟩ t ⟨hj, st2, h, hO⟩
  simp only at hj hO ⊢
  cases j with
  | zero =>
    have e0 : curD cs 0 = -1 := rfl
    rw [e0]
    simp only [Nat.sub_zero, List.drop_zero] at hO
    have hp := hch.pos
    obtain ⟨ic, rfl, hic⟩ : ∃ ic, tv = .sl 1 ic 0 cs.length ∧ st2.h ic = some (.cells (ints (cs.map Int.ofNat))) := by
      rcases hO.1.2 with ⟨e, _⟩ | e
      · omega
      · exact e
    simp only [↓Bt, Bu, simprocAttr, ↓C.z90, C.cy_b, ↓C.z85, C.z21, ge_iff_le]
    exact ⟨(st2, ic), rfl, h, hO.2.1, hic⟩
  | succ j =>
    have hjl : j < cs.length := by omega
    have hj0 := hch.lt j hjl
    have hD : cs[j] < S.doms.length := by rw [← hg0.len]; exact hj0
    have hnx := curD_next hg0 hch hjl hD
    have hge : (0 : Int) ≤ ((cs[j] : Nat) : Int) := by omega
    have hz2 : (0:Int) ≤ ((cs[j] : Nat) : Int) ∧ ((cs[j] : Nat) : Int) < ((S.doms.length : Nat) : Int) := by omega
    have hgd : (S.doms.flatMap Dom.cells)[cs[j] * 3]? = some (.int .i64 S.doms[cs[j]].above) := rows_get0 Dom.cells Dom.cells_len hD (by omega)
    have hzt := h.le _ _ (hO.2.1 _ _ hiz)
    rw [Soc.cells, Soc.clkV, Soc.domV, Soc.rstV, Soc.devV] at hzt
    rw [curD_succ hjl]
    simp only [↓Bp, Bq, Bs, simprocAttr, ↓C.z85, C.z21, ge_iff_le, hge]
    refine aop_cons_hx h hO (by omega) (new := [.int .i64 (cs[j] : Nat)]) rfl rfl (ints_leaf _) (fun _ => rfl) (fun _ => rfl) fun v1 v2 st3 t3 h3 hO3 => ?_
    have hzt3 := h3.le _ _ (hO3.2.1 _ _ hiz)
    rw [Soc.cells, Soc.clkV, Soc.domV, Soc.rstV, Soc.devV] at hzt3
    simp only [↓Bt, Bu, simprocAttr, ↓C.z90, C.cy_b, ↓C.z85, C.z21, hzt3, hz2, Int.toNat_natCast, hgd, Nat.add_zero, hnx]
    have e1 : cs.length - (j + 1) + 1 = cs.length - j := by omega
    have e2 : cs.drop j = cs[j] :: cs.drop (j + 1) := List.drop_eq_getElem_cons hjl
    rw [e1] at hO3
    refine ⟨(j, v2), rfl, ⟨by simp only; omega, st3, h3, ?_⟩, by simp only; omega⟩
    simp only [e2]; exact hO3
end
end Go.Proofs.YtdmfgodajoojpaaGreatDoor.Cn
/- The chip: wakes: the clocks; what wakes does. -/
set_option linter.unusedSimpArgs false
set_option linter.unusedVariables false
set_option maxRecDepth 100000
namespace Go.Proofs.YtdmfgodajoojpaaGreatDoor.Cn
open Go Go.Proofs

section
variable {st s : ASt} {ib : Nat} {a : HA} {S : Soc} {v v0 : HV} {c cs : List Nat} {d ck dm rn : Nat}
structure LitI (S : Soc) (v0 : HV) (ns : List Nd) (c : List Nat) : Prop where
  lit : LitOf v0.ns ns c
  ni : NI ns
  run : ∀ x, x < v0.ns.length → run v0.ns x = true → run ns x = true
theorem LitI.part {ns : List Nd} (h : LitI S v0 ns (chainN v0.ns ck)) (hG : HGood S v0) (hs : StillA v0.gs) (h0 : NsOk v0.ns) (h1 : NsOk ns) (hck : ck < v0.ns.length) : Part S v0 { v0 with ns := ns } [] ck := by
  have hl : ck < ns.length := by rw [h.lit.len]; exact hck
  refine ⟨⟨hG.none, hG.calm, h.ni⟩, ⟨h.run, fun _ h => h⟩, rfl, fun x => by rw [if_neg List.not_mem_nil], hs, (wkF_nil S v0).symm, ?_⟩
  refine NI.lks h1 h.ni ck hl fun y hy hyl hk => h.lit.on hyl ?_ hk
  rw [← h.lit.chain h0 h1 hck]; exact hy
theorem onL_no {ns : List Nd} {k : Nat} (hk : k < ns.length) (b : Bool) (h : ¬ onE ns[k] = 0) : onL ns k hk b = ns := by unfold onL; rw [if_neg h]
theorem LitI.more {ns : List Nd} {k : Nat} (h : LitI S v0 ns c) (h1 : NsOk ns) (hk : k < ns.length) : LitI S v0 (onL ns k hk true) (c ++ [k]) :=
  ⟨h.lit.more hk, h.ni.on h1 hk, fun x hx hr => run_on h1 hk x (by rw [h.lit.len]; exact hx) (h.run x hx hr)⟩
set_option maxHeartbeats 1000000 in
theorem wake_gates {st1 : ASt} {ix iz : Nat} (hk : S.like) (hd : d < S.devs.length) (hck : S.devs[d].clock = (ck : Int)) (hdm : S.devs[d].dom = (dm : Int)) (hrn : S.devs[d].rst = (rn : Int))
    (hch : ChainOk v0.gs cs dm) (hcl : cs.length ≤ 5) (h : HX st1 s ib a S v0) (hle : st.le st1) (hx : st1.h ix = some (.cells S.devs[d].cells)) (hiz : st1.h iz = some (.cells S.cells)) (hG : HGood S v0) (hs0 : StillA v0.gs) :
    awp Tryz.prog C.n3 (Post [.slot 6] (WakeQ st ib a S v0 cs d)) [(0, .ptr a.hp 0), (2, .int .i64 d), (4, .ptr iz 0), (7, .ptr ix 0)] s := by
  have hxs := h.le _ _ hx
  rw [Dev.cells, hck] at hxs
  obtain ⟨T, h0⟩ := h
  have hN := h0.c.kof.ok
  have hl0 : v0.ns.length = S.clocks.length := h0.c.kof.len
  have hg0 := h0.c.ginv
  have hckl : ck < v0.ns.length := by rw [hl0]; have := (hk.dev d hd).clock; omega
  have hcln := chainN_len hN ck hckl
  have hclt := chainN_lt hN ck hckl
  have hn9 := hk.nc
  simp only [↓Bt, Bu, simprocAttr, ↓C.cq_w, C.cq_b, ↓C.n3_w, hxs]
  refine (hchain h0 hckl).mono ?_
  rintro r t ⟨rfl, rfl⟩
  simp only [↓Bt, Bu, simprocAttr, ↓C.z91, C.bp_b, ↓C.z92, C.z26, ↓C.z87, C.c2_b, C.c1_b, ↓C.bs9_w, ↓C.bt6_w, ↓C.js_w, C.js_b, ↓C.bt7_w, ↓C.cq_w, C.cq_b, ↓C.n3_w]
  refine awp_midB (fun _ : Unit => [(0, .ptr a.hp 0), (2, .int .i64 d), (4, .ptr iz 0), (7, .ptr ix 0)]) (fun _ t => ∃ v, HX st1 t ib a S v ∧ Part S v0 v [] ck) ?_ ?_
  rotate_left
  · rintro - t2 ⟨v, h2, hS⟩
    have := wake_chain hk hd hck hdm hrn hl0 hg0 hch hcl h2 hle hx hiz hs0 hS
    rw [C.vp_w, awp_keep] at this
    exact this
  obtain ⟨c, hc⟩ : ∃ c, c = chainN v0.ns ck := ⟨_, rfl⟩
  rw [← hc] at hcln hclt ⊢
  have hrw : row (nats c) = .isl 1 (ints (nats c)) c.length := by rw [row, nats_length]
  rw [hrw]
  refine awp_loopK (fun i : Nat => [(0, .ptr a.hp 0), (2, .int .i64 d), (4, .ptr iz 0), (7, .ptr ix 0), (8, .isl 1 (ints (nats c)) c.length), (9, .int .i64 i)]) (fun i t => i ≤ c.length ∧ ∃ ns, HX st1 t ib a S { v0 with ns := ns } ∧ LitI S v0 ns (c.take i)) (fun i => c.length - i) 0 rfl ⟨Nat.zero_le _, v0.ns, ⟨T, h0⟩, ⟨LitOf.start _, hG.ni, fun _ _ h => h⟩⟩ ?_
  clear h0 hxs
  rintro i t2 ⟨hi, ns, h, hL⟩
  obtain ⟨T, h0⟩ := h
  have hN1 := h0.c.kof.ok
  by_cases hil : i < c.length
  rotate_left
  · have hie : i = c.length := by omega
    have hil' : ¬ (i : Int) < ((c.length : Nat) : Int) := by omega
    rw [hie, List.take_length, hc] at hL
    simp only [↓Bt, Bu, simprocAttr, ↓C.z91, C.bp_b, ↓C.z92, C.z26, ↓C.z87, C.c2_b, C.c1_b, hil']
    exact ⟨(), _, ⟨T, h0⟩, hL.part hG hs0 hN hN1 hckl⟩
  have hil' : (i : Int) < ((c.length : Nat) : Int) := by omega
  have hw := wsucc hil (by omega)
  have hz : (0:Int) ≤ (i : Int) ∧ (i : Int) < ((c.length : Nat) : Int) := by omega
  have hg : (ints (nats c))[i]? = some (.int .i64 (c[i] : Nat)) := by rw [ints_get (by rw [nats_length]; exact hil)]; simp [nats]
  have hkl : c[i] < ns.length := by rw [hL.lit.len]; exact hclt _ (List.getElem_mem hil)
  have hkC : c[i] < S.clocks.length := by rw [← h0.c.kof.len]; exact hkl
  have hzc : (0:Int) ≤ ((c[i] : Nat) : Int) ∧ ((c[i] : Nat) : Int) < ((S.clocks.length : Nat) : Int) := by omega
  have hkind : (S.clocks.flatMap Clk.cells)[c[i] * 6]? = some (.int .u8 S.clocks[c[i]].kind) := rows_get0 Clk.cells Clk.cells_len hkC (by omega)
  have hzt : t2.h iz = some (.cells S.cells) := h0.c.le _ _ hiz
  rw [Soc.cells, Soc.clkV, Soc.domV, Soc.rstV, Soc.devV] at hzt
  have hcc : ns[c[i]].c = S.clocks[c[i]] := h0.c.kof.same _ hkl hkC
  have hoE : onE ns[c[i]] = if S.clocks[c[i]].kind = 112 ∨ S.clocks[c[i]].kind = 103 then 0 else 1 := by rw [onE, hcc]
  have htk : c.take (i + 1) = c.take i ++ [c[i]] := List.take_succ_eq_append_getElem hil
  have hmore := hL.more hN1 hkl
  rw [← htk] at hmore
  simp only [↓Bt, Bu, simprocAttr, ↓C.z91, C.bp_b, ↓C.z87, C.c2_b, C.c1_b, hil', hz, Int.toNat_natCast, Nat.mul_one, Nat.add_zero, hg, hzt, hzc, hkind]
  by_cases k1 : S.clocks[c[i]].kind = 112
  · rw [if_pos (.inl k1)] at hoE
    simp only [↓Bt, Bu, simprocAttr, ↓C.z92, C.z26, k1, hz, Int.toNat_natCast, Nat.mul_one, hg]
    refine (hgate_at h0 hkl true).mono ?_
    rintro r t3 ⟨rfl, h3⟩
    rw [hoE]
    simp only [↓Bt, Bu, simprocAttr, ↓C.z92, C.z26]
    simp only [↓Bt, Bu, simprocAttr, ↓C.z91, C.bp_b, hw]
    exact ⟨i + 1, rfl, ⟨hil, _, ⟨T, h3⟩, hmore⟩, by omega⟩
  by_cases k2 : S.clocks[c[i]].kind = 103
  · rw [if_pos (.inr k2)] at hoE
    simp only [↓Bt, Bu, simprocAttr, ↓C.z92, C.z26, k2, hz, Int.toNat_natCast, Nat.mul_one, hg]
    refine (hgate_at h0 hkl true).mono ?_
    rintro r t3 ⟨rfl, h3⟩
    rw [hoE]
    simp only [↓Bt, Bu, simprocAttr, ↓C.z92, C.z26]
    simp only [↓Bt, Bu, simprocAttr, ↓C.z91, C.bp_b, hw]
    exact ⟨i + 1, rfl, ⟨hil, _, ⟨T, h3⟩, hmore⟩, by omega⟩
  rw [if_neg (by omega)] at hoE
  rw [onL_no hkl true (by rw [hoE]; decide)] at hmore
  simp only [↓Bt, Bu, simprocAttr, ↓C.z92, C.z26, k1, k2]
  simp only [↓Bt, Bu, simprocAttr, ↓C.z91, C.bp_b, hw]
  exact ⟨i + 1, rfl, ⟨hil, _, ⟨T, h0⟩, hmore⟩, by omega⟩
theorem wakes_spec (hk : S.like) (hd : d < S.devs.length) (h : HX st s ib a S v0) (hG : HGood S v0) (hs0 : StillA v0.gs) :
    ∃ cs : List Nat, ChainOk v0.gs cs S.devs[d].dom.toNat ∧ ACalls Tryz.prog F.q16 [.ptr a.hp 0, .agg S.cells, .int .i64 d] s fun r s' => WakeQ st ib a S v0 cs d r s' := by
  have hdv := hk.dev d hd
  obtain ⟨ck, hck⟩ : ∃ ck : Nat, S.devs[d].clock = (ck : Int) := ⟨S.devs[d].clock.toNat, by have := hdv.clock; omega⟩
  obtain ⟨dm, hdm⟩ : ∃ dm : Nat, S.devs[d].dom = (dm : Int) := ⟨S.devs[d].dom.toNat, by have := hdv.dom; omega⟩
  obtain ⟨rn, hrn⟩ : ∃ rn : Nat, S.devs[d].rst = (rn : Int) := ⟨S.devs[d].rst.toNat, by have := hdv.rst; omega⟩
  have hgi : GInv S.doms v0.gs := h.elim fun _ h => h.c.ginv
  have hdl : dm < v0.gs.length := by rw [hgi.len]; have := hdv.dom; omega
  obtain ⟨cs, _, hch, hcl⟩ := chain_at hgi.lesser hdl
  have hgl := hgi.len
  have hn4 := hk.nd
  rw [hdm, Int.toNat_natCast]
  refine ⟨cs, hch, calls_of_awp L.q16 rfl ?_⟩
  have hDl : S.devs[d].cells.length = 6 := rfl
  have hDf : allLeaf S.devs[d].cells = true := rfl
  have hSl : S.cells.length = 4 := rfl
  have hSf : allLeaf S.cells = true := rfl
  have hfitd := flatMap_fits (f := Dev.cells) (k := 6) Dev.cells_len (l := S.devs) hd
  have hatd := flatMap_at (f := Dev.cells) (k := 6) Dev.cells_len (l := S.devs) hd
  have hzd : (0:Int) ≤ (d : Int) ∧ (d : Int) < ((S.devs.length : Nat) : Int) := by omega
  simp only [↓Bt, Bu, simprocAttr, ↓C.h6_w, C.h6_b, C.q16, hSl, hSf]
  intro iz hiz
  obtain ⟨h1, hzz, hle1⟩ := h.box hiz (.cells S.cells)
  generalize s.new iz (.cells S.cells) = t1 at h1
  generalize st.new iz (.cells S.cells) = st1 at h1 hzz hle1
  have hzt := h1.le _ _ hzz
  rw [Soc.cells, Soc.clkV, Soc.domV, Soc.rstV, Soc.devV] at hzt
  simp only [↓Bt, Bu, simprocAttr, ↓C.cx_w, C.cx_b, ↓C.bl5_w, hzt, hzd, Int.toNat_natCast, hfitd, hatd]
  intro ix hix
  simp only [↓Bt, Bu, simprocAttr, ↓C.cx_w, C.cx_b, ↓C.bl5_w, hix, hDl, hDf]
  rw [ASt.new_set hix, putN_all (zs := [AV.int .i64 0, AV.int .i64 0, AV.int .i64 0, AV.int .u32 0, AV.nils, AV.nils]) (vs := S.devs[d].cells) rfl]
  obtain ⟨h2, hxx, hle2⟩ := h1.box hix (.cells S.devs[d].cells)
  exact awp_frame C.n3.eq_1 (wake_gates hk hd hck hdm hrn hch (by omega) h2 (hle1.trans hle2) hxx (hle2 _ _ hzz) hG hs0) rfl
end
end Go.Proofs.YtdmfgodajoojpaaGreatDoor.Cn
/- The chip: a new bus. -/
set_option linter.unusedSimpArgs false
set_option linter.unusedVariables false
set_option maxRecDepth 100000
namespace Go.Proofs.YtdmfgodajoojpaaGreatDoor.Cn
open Go Go.Proofs

def firstZ (l : List Int) (i : Nat) : List Int := l.take i ++ List.replicate (l.length - i) 0
theorem firstZ_len {l : List Int} {i : Nat} (h : i ≤ l.length) : (firstZ l i).length = l.length := by simp [firstZ]; omega
theorem firstZ_zero (l : List Int) : firstZ l 0 = List.replicate l.length 0 := by simp [firstZ]
theorem firstZ_all (l : List Int) : firstZ l l.length = l := by simp [firstZ]
theorem firstZ_set {l : List Int} {i : Nat} (h : i < l.length) : (firstZ l i).set i l[i] = firstZ l (i + 1) := by
  unfold firstZ
  rw [List.set_append_right _ _ (by simp; omega)]
  have e : i - (l.take i).length = 0 := by simp; omega
  rw [e, List.take_succ_eq_append_getElem h, show l.length - i = (l.length - (i + 1)) + 1 by omega, List.replicate_succ, List.set_cons_zero, List.append_assoc]
  rfl
structure NewBus (st s : ASt) (l : List Int) (bp br bw : Nat) : Prop where
  hp : s.h bp = some (.cells [.sl 1 br 0 l.length, .sl 1 bw 0 l.length, .int .i64 0])
  hr : s.h br = some (.cells (ints l))
  hw : s.h bw = some (.cells (List.replicate l.length .nils))
  fp : st.h bp = none
  fr : st.h br = none
  fw : st.h bw = none
  n1 : bp ≠ br
  n2 : bp ≠ bw
  n3 : br ≠ bw
  le : st.le s
theorem bnew_spec {st : ASt} {mm : Nat} {l : List Int} (hm : st.h mm = some (.cells (ints l))) (hn : l.length ≤ 6) (hl : ∀ x ∈ l, 0 ≤ x ∧ x ≤ 8) :
    ACalls Tryz.prog F.q9 [.sl 1 mm 0 l.length] st fun r s => ∃ bp br bw, r = .tup [.ptr bp 0, .int .i64 0] ∧ NewBus st s l bp br bw := by
  refine calls_of_awp L.q9 rfl ?_
  have h6 : ¬ (6 : Int) < ((l.length : Nat) : Int) := by omega
  have hz : (0 : Int) ≤ ((l.length : Nat) : Int) ∧ ((l.length : Nat) : Int) ≤ 4294967296 := by omega
  simp only [↓Bt, Bu, simprocAttr, ↓C.z123, C.fd_b, C.fc_b, C.fb_b, C.d9_b, C.q9, h6, hz, Int.toNat_natCast, zeros_i64, zeros_nils, gt_iff_lt]
  rintro br hbr bw ⟨hbw, n3⟩ bp ⟨⟨hbp, n2⟩, n1⟩
  have m1 : ¬ mm = br := by rintro rfl; rw [hm] at hbr; cases hbr
  have h2' : (st.new br (.cells (ints (List.replicate l.length 0)))).h bw = none := by rw [ASt.new_none]; exact ⟨hbw, n3⟩
  have h3' : ((st.new br (.cells (ints (List.replicate l.length 0)))).new bw (.cells (List.replicate l.length .nils))).h bp = none := by rw [ASt.new_none, ASt.new_none]; exact ⟨⟨hbp, n2⟩, n1⟩
  have hle := ((ASt.le.new st br (.cells (ints (List.replicate l.length 0)))).trans (ASt.le.new _ bw (.cells (List.replicate l.length .nils)))).trans (ASt.le.new _ bp (.cells [.sl 1 br 0 l.length, .sl 1 bw 0 l.length, .int .i64 0]))
  have hp0 := ASt.new_self (.cells [.sl 1 br 0 l.length, .sl 1 bw 0 l.length, .int .i64 0]) h3'
  have hw0 := ASt.new_old (id := bp) (o := .cells [.sl 1 br 0 l.length, .sl 1 bw 0 l.length, .int .i64 0]) (ASt.new_self (.cells (List.replicate l.length .nils)) h2')
  have hr0 := ASt.new_old (id := bp) (o := .cells [.sl 1 br 0 l.length, .sl 1 bw 0 l.length, .int .i64 0]) (ASt.new_old (id := bw) (o := .cells (List.replicate l.length .nils)) (ASt.new_self (.cells (ints (List.replicate l.length 0))) hbr))
  have hm0 := hle _ _ hm
  generalize ((st.new br (.cells (ints (List.replicate l.length 0)))).new bw (.cells (List.replicate l.length .nils))).new bp (.cells [.sl 1 br 0 l.length, .sl 1 bw 0 l.length, .int .i64 0]) = s0 at hle hp0 hw0 hr0 hm0
  simp only [↓Bt, Bu, simprocAttr, ↓C.nw_w, C.nw_b, ↓C.b0d_w, ↓C.n1_w, C.n1_b, ↓C.b0f_w, ↓C.n0_w, C.n0_b, ↓C.b0g_w, ↓C.b0h_w, ↓C.nz_w, C.nz_b, ↓C.b0j_w, ↓C.nq_w, C.nq_b, ↓C.bz5_w, ↓C.b0k_w, ↓C.b0l_w, ↓C.ny_w, C.ny_b, ↓C.bz4_w, ↓C.bz6_w, ↓C.nx_w, C.nx_b, ↓C.bz7_w, ↓C.z123, C.fd_b, C.fc_b, C.fb_b, C.d9_b, C.q9]
  have q1 : ¬ bp = br := n2
  have q2 : ¬ bw = br := n3
  refine awp_midB (fun _ : Unit => [(4, .ptr bp 0)]) (fun _ t => NewBus st t l bp br bw) ?_ ?_
  rotate_left
  · rintro - t ht
    simp only [↓Bt, Bu, simprocAttr, ↓C.q9_W, C.q9_B, C.q9]
    exact ⟨bp, br, bw, rfl, ht⟩
  refine awp_loopK (fun i : Nat => [(4, .ptr bp 0), (18, .sl 1 mm 0 l.length), (19, .int .i64 l.length), (20, .int .i64 i)]) (fun i t => i ≤ l.length ∧ st.le t ∧ t.h mm = some (.cells (ints l)) ∧ t.h bp = some (.cells [.sl 1 br 0 l.length, .sl 1 bw 0 l.length, .int .i64 0]) ∧ t.h br = some (.cells (ints (firstZ l i))) ∧ t.h bw = some (.cells (List.replicate l.length .nils))) (fun i => l.length - i) 0 rfl ⟨Nat.zero_le _, hle, hm0, hp0, by rw [firstZ_zero]; exact hr0, hw0⟩ ?_
  clear hle hm0 hp0 hr0 hw0
  rintro i t ⟨hi, hle, hm0, hp0, hr0, hw0⟩
  by_cases hil : i < l.length
  rotate_left
  · have hie : i = l.length := by omega
    have hil' : ¬ (i : Int) < ((l.length : Nat) : Int) := by omega
    rw [hie, firstZ_all] at hr0
    simp only [↓Bt, Bu, simprocAttr, ↓C.q9_W, C.q9_B, C.q9, hil']
    exact ⟨(), hp0, hr0, hw0, hbp, hbr, hbw, q1, n1, Ne.symm q2, hle⟩
  have hil' : (i : Int) < ((l.length : Nat) : Int) := by omega
  have hw := wsucc hil (by omega)
  have hzi : (0:Int) ≤ (i : Int) ∧ (i : Int) < ((l.length : Nat) : Int) := by omega
  have hlb := hl _ (List.getElem_mem hil)
  have h0 : ¬ l[i] < 0 := by omega
  have h8 : ¬ 8 < l[i] := by omega
  have hg := ints_get hil
  have hfl : i < (ints (firstZ l i)).length := by rw [ints_length, firstZ_len hi]; exact hil
  simp only [↓Bt, Bu, simprocAttr, ↓C.q9_W, C.q9_B, C.q9, hil', hzi, Int.toNat_natCast, Nat.mul_one, hm0, hg, h0, h8, hp0, hr0, hfl, ints_set, firstZ_set hil, hw, gt_iff_lt]
  refine ⟨i + 1, rfl, ⟨hil, fun j o hj => ?_, ?_, ?_, ?_, ?_⟩, by omega⟩
  · rw [ASt.set_h, if_neg (by rintro rfl; rw [hbr] at hj; cases hj)]; exact hle _ _ hj
  · rw [if_neg m1]
  · rw [if_neg q1]
  · trivial
  · rw [if_neg q2]; exact hw0
end Go.Proofs.YtdmfgodajoojpaaGreatDoor.Cn
