/- Descriptions: ConfCopies. -/
import Derived.Test.YtjamidgdhmjhaaaCnCFaultsM
set_option linter.unusedSimpArgs false
set_option linter.unusedVariables false
namespace Go.Proofs.Ytjamidgdhmjhaaa.Cn
open Go Go.Proofs

theorem BoxL.beside {s0 s : ASt} {b i : Nat} {vs cs : List AV} {L : List Nat} {o : AObj} (h : BoxL s0 s b vs cs L) (hi : s.h i = none) : BoxL (s0.new i o) (s.new i o) b vs cs L := by
  obtain ⟨h1, h2, h3, h4, h5, h6⟩ := h
  refine ⟨ASt.new_old h1, h2.le (ASt.le.new _ _ _), h3, fun j hj => ?_, ?_, h6.newB hi o⟩
  · rw [ASt.new_none]
    exact ⟨h4 j hj, by rintro rfl; exact h2.live _ hj hi⟩
  · rw [ASt.new_none]
    exact ⟨h5, by rintro rfl; rw [h1] at hi; cases hi⟩
theorem ASt.set_back {st : ASt} {id : Nat} {o : AObj} (h : st.h id = some o) : st.set id o = st := ASt.ext' fun i => by
  rw [ASt.set_h]; split
  · rename_i e; subst e; rw [h]; rfl
  · rfl
/-- A cell of a slice in a cell of a slice of a variable's. -/
theorem BoxL.put2 {s0 s : ASt} {b o sz n k sz2 m j : Nat} {vs cs ds es : List AV} {L : List Nat} {v x : AV} (h : BoxL s0 s b vs cs L) (ho : cs[o]? = some (.isl sz ds n)) (hn : n ≠ 0) (hk : ds[k]? = some (.isl sz2 es m)) (hm : m ≠ 0)
    (hx : es[j]? = some x) (hs : x.scalar = true) (hv : v.scalar = true) :
    ∃ id ws id2 ws2, vs[o]? = some (.sl sz id 0 n) ∧ s.h id = some (.cells ws) ∧ ws[k]? = some (.sl sz2 id2 0 m) ∧ s.h id2 = some (.cells ws2) ∧ ws2.length = es.length ∧ ws2[j]? = some x ∧ id2 ≠ b ∧ id2 ≠ id ∧
      ∃ L', BoxL s0 (s.set id2 (.cells (ws2.set j v))) b vs (cs.set o (.isl sz (ds.set k (.isl sz2 (es.set j v) m)) n)) L' := by
  have hkl : k < ds.length := by
    rcases Nat.lt_or_ge k ds.length with h | h
    · exact h
    · rw [List.getElem?_eq_none h] at hk; cases hk
  obtain ⟨id, ws, v0, c0, Li, p1, p2, p3, p4, p5, p6, p7, p8, p9, p10, p11, p12⟩ := BoxL.putAt h ho hn hkl
  rw [hk] at p6
  cases p6
  rcases p7.slice with ⟨_, e, _⟩ | ⟨id2, ws2, L1, ev, hid, hr, hn1, rfl⟩
  · exact absurd e hm
  subst ev
  have hne : id2 ≠ id := by rintro rfl; exact p8 (by simp)
  have hneb : id2 ≠ b := by rintro rfl; exact p9 (by simp)
  have hl2 := hr.len
  have hso : ∀ {ob : AObj}, ∀ j ∈ L1, (s.set id2 ob).h j = s.h j := fun {ob} j hj => by
    rw [ASt.set_h, if_neg (by rintro rfl; exact hn1 hj)]
  obtain ⟨L', hB⟩ := p12 (s.set id2 (.cells (ws2.set j v))) (.sl sz2 id2 0 m) (.isl sz2 (es.set j v) m) (id2 :: (L1 ++ []))
    (.sl (by rw [ASt.set_h, if_pos rfl, hid]; rfl) ((hr.setS hx hs hv).off hso) hn1 (by simp) (by simp) .nil)
    (fun y hy o2 ho2 => by rw [ASt.set_h, if_neg (by rintro rfl; exact hy (by simp))]; exact ho2)
    (fun y hy => .inl (by simpa using hy))
  refine ⟨id, ws, id2, ws2, p1, p2, p5, hid, by omega, hr.get hx hs, hneb, hne, L', ?_⟩
  have e1 : ws.set k (.sl sz2 id2 0 m) = ws := by
    have hkw : k < ws.length := by omega
    have : ws[k] = .sl sz2 id2 0 m := by rw [List.getElem?_eq_getElem hkw] at p5; exact Option.some.inj p5
    rw [← this, List.set_getElem_self]
  rw [e1] at hB
  have e2 : (s.set id2 (.cells (ws2.set j v))).h id = some (.cells ws) := by rw [ASt.set_h, if_neg (Ne.symm hne)]; exact p2
  rw [ASt.set_back e2] at hB
  exact hB
/-- A cell of a slice of a variable's is read. -/
theorem BoxL.getS {s0 s : ASt} {b o sz n k : Nat} {vs cs ds : List AV} {L : List Nat} {x : AV} (h : BoxL s0 s b vs cs L) (ho : cs[o]? = some (.isl sz ds n)) (hn : n ≠ 0) (hk : ds[k]? = some x) (hx : x.scalar = true) :
    ∃ id ws, vs[o]? = some (.sl sz id 0 n) ∧ s.h id = some (.cells ws) ∧ ws[k]? = some x := by
  obtain ⟨id, ws, Lw, e1, e2, e3, -⟩ := h.2.1.inner ho hn
  exact ⟨id, ws, e1, e2, e3.get hk hx⟩
/-- How long the slice in a cell of a slice is. -/
theorem BoxL.len2 {s0 s : ASt} {b o sz n k sz2 m : Nat} {vs cs ds es : List AV} {L : List Nat} (h : BoxL s0 s b vs cs L) (ho : cs[o]? = some (.isl sz ds n)) (hn : n ≠ 0) (hk : ds[k]? = some (.isl sz2 es m)) :
    ∃ id ws w, vs[o]? = some (.sl sz id 0 n) ∧ s.h id = some (.cells ws) ∧ ws[k]? = some w ∧ w.slen = some m := by
  obtain ⟨id, ws, Lw, e1, e2, e3, -⟩ := h.2.1.inner ho hn
  obtain ⟨w, g1, g2⟩ := e3.slen hk
  exact ⟨id, ws, w, e1, e2, g1, g2⟩
/-- What the copy is when it is looked at. -/
def CopyIs (s0 t : ASt) (ib i1 i2 : Nat) (S : Soc) : Prop :=
  t.h ib = some (.cells S.cells) ∧ t.h i2 = some (.cells S.cells) ∧ ∃ vs U, t.h i1 = some (.cells vs) ∧ vs.length = 4 ∧ SView t (.agg vs) (.agg (Soc.cells U)) ∧ U.sane ∧ U ≠ S
theorem CopyIs.of {s0 s t : ASt} {ib i1 i2 : Nat} {S U : Soc} (hb : s.h ib = some (.cells S.cells)) (h2 : s.h i2 = some (.cells S.cells)) (h : ChipBox s t i1 U) (hs : U.sane) (hn : U ≠ S) : CopyIs s0 t ib i1 i2 S := by
  obtain ⟨vs, L, h⟩ := h
  exact ⟨h.2.2.2.2.2 _ _ hb, h.2.2.2.2.2 _ _ h2, vs, U, h.1, h.2.1.len.symm, h.2.1.viewAgg, hs, hn⟩
theorem take_cells (S : Soc) {d : Nat} (hd : d ≤ S.devs.length) : ({ S with devs := S.devs.take d } : Soc).cells = [S.clkV, S.domV, S.rstV, AV.isl 6 ((S.devs.flatMap Dev.cells).take (6 * d)) d] := by
  have hfm : ∀ (l : List Dev) (n : Nat), (l.take n).flatMap Dev.cells = (l.flatMap Dev.cells).take (6 * n) := by
    intro l
    induction l with
    | nil => intro n; simp
    | cons d l ih =>
      intro n
      cases n with
      | zero => simp
      | succ n =>
        rw [List.take_succ_cons, List.flatMap_cons, List.flatMap_cons, ih]
        rw [show 6 * (n + 1) = d.cells.length + 6 * n by rw [Dev.cells_len]; omega, List.take_length_add_append]
  have hlen : (S.devs.take d).length = d := by simp; omega
  simp only [Soc.cells, Soc.devV, hfm, hlen]
  rfl
/-- The devices of a copy but its last ones. -/
theorem view_take {t t3 : ASt} {a0 a1 a2 : AV} {id d n : Nat} {S : Soc} {L : List Nat} (h : RepL t [a0, a1, a2, .sl 6 id 0 n] S.cells L) (ho : ∀ j ∈ L, t3.h j = t.h j) (hd : d ≤ S.devs.length) : SView t3 (.agg [a0, a1, a2, .sl 6 id 0 d]) (.agg ({ S with devs := S.devs.take d } : Soc).cells) := by
  obtain ⟨c', Li, ec, r, hsub, hup⟩ := h.at (i := 3) (by simp)
  cases ec
  have r' : RepL t [.sl 6 id 0 n] [.isl 6 (S.devs.flatMap Dev.cells) S.devs.length] Li := r
  rcases r'.slice with ⟨e, _⟩ | ⟨id', ws, L1, ev, hid, hr, hn1, rfl⟩
  · cases e
  cases ev
  have ho1 : ∀ j ∈ L1, t3.h j = t.h j := fun j hj => ho j (hsub j (by simp [hj]))
  obtain ⟨L'', g1, g2⟩ := hup t3 (.sl 6 id 0 d) (.isl 6 (S.devs.flatMap Dev.cells) d) (id :: (L1 ++ [])) (.sl (by rw [ho id (hsub id (by simp))]; exact hid) (hr.off ho1) hn1 (by simp) (by simp) .nil) (fun j hj => .inl (by simpa using hj)) (fun j hj _ => ho j hj)
  have hv := g1.viewAgg
  intro B w0 R wr C w v s x
  have hx := hv B w0 R wr C w v s x
  rw [take_cells S hd]
  cases hx with
  | agg _ vs hl2 hv =>
    refine .agg _ _ (by rw [hl2]; rfl) fun j hj => ?_
    match j, hj with
    | 0, _ => exact hv 0 (by simp [Soc.cells])
    | 1, _ => exact hv 1 (by simp [Soc.cells])
    | 2, _ => exact hv 2 (by simp [Soc.cells])
    | 3, _ =>
      have h3 : VS (start w) (.isl 6 (S.devs.flatMap Dev.cells) d) (vs.getD 3 undef) := hv 3 (by simp [Soc.cells])
      exact h3.trunc _
theorem same_seen {st : ASt} {u v : AV} {a b : Soc} (hu : SView st u (.agg a.cells)) (hv : SView st v (.agg b.cells)) (ha : a.sane) : ACalls Try.prog F.conf_Same [u, v] st fun r s => (∃ t, r = .bool t ∧ (t = true ↔ a = b)) ∧ s = st :=
  ACalls.borrow (Q := fun r => ∃ t, r = .bool t ∧ (t = true ↔ a = b)) ((conf_same_spec ha).mono fun _ _ h => h.1) (Views.cons hu (Views.cons hv (Views.nil st))) fun v ⟨t, h, _⟩ => by rw [h]; exact .bool _
theorem Soc.like.lock0 {S : Soc} (h : S.like) : (S.clocks[0]'h.nc.1).lock = 0 := by
  have hk := h.clk 0 h.nc.1
  generalize S.clocks[0]'h.nc.1 = k at hk
  cases hk with
  | osc x hx hi => rfl
  | pll x m d l hx => omega
  | div x d hx => omega
  | gate x hx => omega
  | mux x y hx => omega
theorem Soc.like.rate0 {S : Soc} (h : S.like) : 1 ≤ (S.clocks[0]'h.nc.1).rate ∧ (S.clocks[0]'h.nc.1).rate ≤ 1000000 := by
  have hk := h.clk 0 h.nc.1
  generalize S.clocks[0]'h.nc.1 = k at hk
  cases hk with
  | osc x hx hi => exact hx
  | pll x m d l hx => omega
  | div x d hx => omega
  | gate x hx => omega
  | mux x y hx => omega
theorem sane_clk {S : Soc} (h : S.sane) {i : Nat} {c : Clk} (hc : c.src.length ≤ 4294967296) : ({ S with clocks := S.clocks.set i c } : Soc).sane :=
  ⟨by simpa using h.c, h.d, h.r, h.v, fun x hx => by
    rcases List.mem_or_eq_of_mem_set hx with hx | rfl
    · exact h.cs x hx
    · exact hc, h.vs⟩
theorem sane_dom {S : Soc} (h : S.sane) {i : Nat} {c : Dom} : ({ S with doms := S.doms.set i c } : Soc).sane :=
  ⟨h.c, by simpa using h.d, h.r, h.v, h.cs, h.vs⟩
theorem sane_rst {S : Soc} (h : S.sane) {i : Nat} {c : Int} : ({ S with rsts := S.rsts.set i c } : Soc).sane :=
  ⟨h.c, h.d, by simpa using h.r, h.v, h.cs, h.vs⟩
theorem sane_dev {S : Soc} (h : S.sane) {i : Nat} {d : Dev} (hd : d.regs.length ≤ 4294967296 ∧ d.needs.length ≤ 4294967296) : ({ S with devs := S.devs.set i d } : Soc).sane :=
  ⟨h.c, h.d, h.r, by simpa using h.v, h.cs, fun x hx => by
    rcases List.mem_or_eq_of_mem_set hx with hx | rfl
    · exact h.vs x hx
    · exact hd⟩
theorem ne_clk {S : Soc} {i : Nat} {c : Clk} (hi : i < S.clocks.length) (hc : c ≠ S.clocks[i]) : ({ S with clocks := S.clocks.set i c } : Soc) ≠ S := fun e => by
  have e1 : S.clocks.set i c = S.clocks := congrArg Soc.clocks e
  have e2 : (S.clocks.set i c)[i]? = S.clocks[i]? := by rw [e1]
  simp [hi] at e2
  exact hc e2
theorem ne_dom {S : Soc} {i : Nat} {c : Dom} (hi : i < S.doms.length) (hc : c ≠ S.doms[i]) : ({ S with doms := S.doms.set i c } : Soc) ≠ S := fun e => by
  have e1 : S.doms.set i c = S.doms := congrArg Soc.doms e
  have e2 : (S.doms.set i c)[i]? = S.doms[i]? := by rw [e1]
  simp [hi] at e2
  exact hc e2
theorem ne_rst {S : Soc} {i : Nat} {c : Int} (hi : i < S.rsts.length) (hc : c ≠ S.rsts[i]) : ({ S with rsts := S.rsts.set i c } : Soc) ≠ S := fun e => by
  have e1 : S.rsts.set i c = S.rsts := congrArg Soc.rsts e
  have e2 : (S.rsts.set i c)[i]? = S.rsts[i]? := by rw [e1]
  simp [hi] at e2
  exact hc e2
theorem ne_dev {S : Soc} {i : Nat} {c : Dev} (hi : i < S.devs.length) (hc : c ≠ S.devs[i]) : ({ S with devs := S.devs.set i c } : Soc) ≠ S := fun e => by
  have e1 : S.devs.set i c = S.devs := congrArg Soc.devs e
  have e2 : (S.devs.set i c)[i]? = S.devs[i]? := by rw [e1]
  simp [hi] at e2
  exact hc e2

theorem wrap32_ne (c : Int) : IntKind.u32.wrap (c + 1) ≠ c := by
  have e : IntKind.bits .u32 = 32 := rfl
  have hs : IntKind.signed .u32 = false := rfl
  simp only [IntKind.wrap, e, hs, Bool.false_and]
  intro h
  simp at h
  omega
set_option maxHeartbeats 1000000 in
theorem confcopies_spec {st : ASt} {l : List Int} {what : Int} (hl : ∀ x ∈ l, -9223372036854775808 ≤ x ∧ x ≤ 9223372036854775807) (hll : l.length ≤ 9223372036854775807) (hw : -9223372036854775808 ≤ what ∧ what ≤ 9223372036854775807) :
    ACalls Try.prog F.catnaplaw4_ConfCopies [row l, .int .i64 what] st fun r _ => r = .bool true := by
  refine calls_of_awp L.catnaplaw4_ConfCopies rfl ?_
  simp only [↓Bp, Bq, Bs, ↓aop.eq_28, ↓aop.eq_30, Nat.reduceEqDiff, Nat.reduceAdd, Nat.reduceMul, Nat.reduceSub, Nat.reduceLeDiff, Nat.reduceLT, Int.reduceLT, Int.reduceLE, Int.reduceEq, Int.reduceToNat, Int.reduceAdd, Int.reduceSub, Int.reduceNeg, ↓reduceIte, reduceCtorEq, ↓C.catnaplaw4_ConfCopies_W, C.catnaplaw4_ConfCopies_B, C.catnaplaw4_ConfCopies]
  refine (shown_spec st).mono ?_
  rintro r s ⟨rfl, rfl⟩
  simp only [↓Bp, Bq, Bs, ↓aop.eq_28, ↓aop.eq_30, Nat.reduceEqDiff, Nat.reduceAdd, Nat.reduceMul, Nat.reduceSub, Nat.reduceLeDiff, Nat.reduceLT, Int.reduceLT, Int.reduceLE, Int.reduceEq, Int.reduceToNat, Int.reduceAdd, Int.reduceSub, Int.reduceNeg, ↓reduceIte, reduceCtorEq, ↓C.catnaplaw4_ConfCopies_W, C.catnaplaw4_ConfCopies_B, C.catnaplaw4_ConfCopies]
  refine (chip_frz hl hll).mono ?_
  rintro r s2 ⟨rfl, rfl⟩
  have hk := chipS_like l
  obtain ⟨S, hS⟩ : ∃ S, S = chipS l := ⟨_, rfl⟩
  rw [← hS] at hk ⊢
  have hs := hk.sane
  have n1 := hk.nc; have n2 := hk.nd; have n3 := hk.nr; have n4 := hk.nv
  have lc : S.cells.length = 4 := rfl
  have lf : allLeaf S.cells = true := rfl
  have e4 : AV.agg (List.take 4 S.cells) = .agg S.cells := rfl
  simp only [↓Bp, Bq, Bs, ↓aop.eq_28, ↓aop.eq_30, Nat.reduceEqDiff, Nat.reduceAdd, Nat.reduceMul, Nat.reduceSub, Nat.reduceLeDiff, Nat.reduceLT, Int.reduceLT, Int.reduceLE, Int.reduceEq, Int.reduceToNat, Int.reduceAdd, Int.reduceSub, Int.reduceNeg, ↓reduceIte, reduceCtorEq, ↓C.catnaplaw4_ConfCopies_r4_w, C.catnaplaw4_ConfCopies_r4_b, ↓C.catnaplaw4_ConfCopies_c55_w, ↓C.catnaplaw4_ConfCopies_r3_w, C.catnaplaw4_ConfCopies_r3_b, ↓C.catnaplaw4_ConfCopies_c56_w, ↓C.catnaplaw4_ConfCopies_c57_w, ↓C.catnaplaw4_ConfCopies_r2_w, C.catnaplaw4_ConfCopies_r2_b, ↓C.catnaplaw4_ConfCopies_c58_w, ↓C.catnaplaw4_ConfCopies_r1_w, C.catnaplaw4_ConfCopies_r1_b, ↓C.catnaplaw4_ConfCopies_c59_w, ↓C.catnaplaw4_ConfCopies_r0_w, C.catnaplaw4_ConfCopies_r0_b, C.catnaplaw4_ConfCopies]
  rintro ib hib
  simp only [↓Bp, Bq, Bs, ↓aop.eq_28, ↓aop.eq_30, Nat.reduceEqDiff, Nat.reduceAdd, Nat.reduceMul, Nat.reduceSub, Nat.reduceLeDiff, Nat.reduceLT, Int.reduceLT, Int.reduceLE, Int.reduceEq, Int.reduceToNat, Int.reduceAdd, Int.reduceSub, Int.reduceNeg, ↓reduceIte, reduceCtorEq, ↓C.catnaplaw4_ConfCopies_r4_w, C.catnaplaw4_ConfCopies_r4_b, ↓C.catnaplaw4_ConfCopies_c55_w, ↓C.catnaplaw4_ConfCopies_r3_w, C.catnaplaw4_ConfCopies_r3_b, ↓C.catnaplaw4_ConfCopies_c56_w, ↓C.catnaplaw4_ConfCopies_c57_w, ↓C.catnaplaw4_ConfCopies_r2_w, C.catnaplaw4_ConfCopies_r2_b, ↓C.catnaplaw4_ConfCopies_c58_w, ↓C.catnaplaw4_ConfCopies_r1_w, C.catnaplaw4_ConfCopies_r1_b, ↓C.catnaplaw4_ConfCopies_c59_w, ↓C.catnaplaw4_ConfCopies_r0_w, C.catnaplaw4_ConfCopies_r0_b, C.catnaplaw4_ConfCopies, hib, lc, lf]
  rw [ASt.new_set hib, show putN [AV.nils, AV.nils, AV.nils, AV.nils] 0 S.cells = S.cells from putN_all rfl]
  have hb := ASt.new_self (.cells S.cells) hib
  generalize s2.new ib (.cells S.cells) = s3 at hb
  simp only [↓Bp, Bq, Bs, ↓aop.eq_28, ↓aop.eq_30, Nat.reduceEqDiff, Nat.reduceAdd, Nat.reduceMul, Nat.reduceSub, Nat.reduceLeDiff, Nat.reduceLT, Int.reduceLT, Int.reduceLE, Int.reduceEq, Int.reduceToNat, Int.reduceAdd, Int.reduceSub, Int.reduceNeg, ↓reduceIte, reduceCtorEq, ↓C.catnaplaw4_ConfCopies_W, C.catnaplaw4_ConfCopies_B, C.catnaplaw4_ConfCopies, hb, lc, e4]
  refine (copy_own hs).mono ?_
  rintro r u1 ⟨vs, L, rfl, hR, hF, hle⟩
  have hP : ∀ t, SView t (.agg S.cells) (.agg S.cells) := fun t => SView.pure (.agg _ hR.pure)
  have lv4 : vs.length = 4 := hR.len.symm
  have lvf := hR.leaf
  simp only [↓Bp, Bq, Bs, ↓aop.eq_28, ↓aop.eq_30, Nat.reduceEqDiff, Nat.reduceAdd, Nat.reduceMul, Nat.reduceSub, Nat.reduceLeDiff, Nat.reduceLT, Int.reduceLT, Int.reduceLE, Int.reduceEq, Int.reduceToNat, Int.reduceAdd, Int.reduceSub, Int.reduceNeg, ↓reduceIte, reduceCtorEq, ↓C.catnaplaw4_ConfCopies_r5_w, C.catnaplaw4_ConfCopies_r5_b, ↓C.catnaplaw4_ConfCopies_c54_w, ↓C.catnaplaw4_ConfCopies_r4_w, C.catnaplaw4_ConfCopies_r4_b, ↓C.catnaplaw4_ConfCopies_c55_w, ↓C.catnaplaw4_ConfCopies_r3_w, C.catnaplaw4_ConfCopies_r3_b, ↓C.catnaplaw4_ConfCopies_c56_w, ↓C.catnaplaw4_ConfCopies_c57_w, ↓C.catnaplaw4_ConfCopies_r2_w, C.catnaplaw4_ConfCopies_r2_b, ↓C.catnaplaw4_ConfCopies_c58_w, ↓C.catnaplaw4_ConfCopies_r1_w, C.catnaplaw4_ConfCopies_r1_b, ↓C.catnaplaw4_ConfCopies_c59_w, ↓C.catnaplaw4_ConfCopies_r0_w, C.catnaplaw4_ConfCopies_r0_b, C.catnaplaw4_ConfCopies]
  rintro i1 hi1
  simp only [↓Bp, Bq, Bs, ↓aop.eq_28, ↓aop.eq_30, Nat.reduceEqDiff, Nat.reduceAdd, Nat.reduceMul, Nat.reduceSub, Nat.reduceLeDiff, Nat.reduceLT, Int.reduceLT, Int.reduceLE, Int.reduceEq, Int.reduceToNat, Int.reduceAdd, Int.reduceSub, Int.reduceNeg, ↓reduceIte, reduceCtorEq, ↓C.catnaplaw4_ConfCopies_r5_w, C.catnaplaw4_ConfCopies_r5_b, ↓C.catnaplaw4_ConfCopies_c54_w, ↓C.catnaplaw4_ConfCopies_r4_w, C.catnaplaw4_ConfCopies_r4_b, ↓C.catnaplaw4_ConfCopies_c55_w, ↓C.catnaplaw4_ConfCopies_r3_w, C.catnaplaw4_ConfCopies_r3_b, ↓C.catnaplaw4_ConfCopies_c56_w, ↓C.catnaplaw4_ConfCopies_c57_w, ↓C.catnaplaw4_ConfCopies_r2_w, C.catnaplaw4_ConfCopies_r2_b, ↓C.catnaplaw4_ConfCopies_c58_w, ↓C.catnaplaw4_ConfCopies_r1_w, C.catnaplaw4_ConfCopies_r1_b, ↓C.catnaplaw4_ConfCopies_c59_w, ↓C.catnaplaw4_ConfCopies_r0_w, C.catnaplaw4_ConfCopies_r0_b, C.catnaplaw4_ConfCopies, hi1, lv4, lvf]
  rw [ASt.new_set hi1, putN_all (zs := [AV.nils, AV.nils, AV.nils, AV.nils]) (by rw [lv4]; rfl)]
  have hB := chip_box hR hF hle hi1
  generalize u1.new i1 (.cells vs) = u at hB
  clear hR hF hle hi1 lv4 lvf
  simp only [↓Bp, Bq, Bs, ↓aop.eq_28, ↓aop.eq_30, Nat.reduceEqDiff, Nat.reduceAdd, Nat.reduceMul, Nat.reduceSub, Nat.reduceLeDiff, Nat.reduceLT, Int.reduceLT, Int.reduceLE, Int.reduceEq, Int.reduceToNat, Int.reduceAdd, Int.reduceSub, Int.reduceNeg, ↓reduceIte, reduceCtorEq, ↓C.catnaplaw4_ConfCopies_W, C.catnaplaw4_ConfCopies_B, C.catnaplaw4_ConfCopies]
  refine (chip_frz hl hll).mono ?_
  rintro r u2 ⟨rfl, rfl⟩
  rw [← hS]
  simp only [↓Bp, Bq, Bs, ↓aop.eq_28, ↓aop.eq_30, Nat.reduceEqDiff, Nat.reduceAdd, Nat.reduceMul, Nat.reduceSub, Nat.reduceLeDiff, Nat.reduceLT, Int.reduceLT, Int.reduceLE, Int.reduceEq, Int.reduceToNat, Int.reduceAdd, Int.reduceSub, Int.reduceNeg, ↓reduceIte, reduceCtorEq, ↓C.catnaplaw4_ConfCopies_r6_w, C.catnaplaw4_ConfCopies_r6_b, ↓C.catnaplaw4_ConfCopies_c53_w, ↓C.catnaplaw4_ConfCopies_r5_w, C.catnaplaw4_ConfCopies_r5_b, ↓C.catnaplaw4_ConfCopies_c54_w, ↓C.catnaplaw4_ConfCopies_r4_w, C.catnaplaw4_ConfCopies_r4_b, ↓C.catnaplaw4_ConfCopies_c55_w, ↓C.catnaplaw4_ConfCopies_r3_w, C.catnaplaw4_ConfCopies_r3_b, ↓C.catnaplaw4_ConfCopies_c56_w, ↓C.catnaplaw4_ConfCopies_c57_w, ↓C.catnaplaw4_ConfCopies_r2_w, C.catnaplaw4_ConfCopies_r2_b, ↓C.catnaplaw4_ConfCopies_c58_w, ↓C.catnaplaw4_ConfCopies_r1_w, C.catnaplaw4_ConfCopies_r1_b, ↓C.catnaplaw4_ConfCopies_c59_w, ↓C.catnaplaw4_ConfCopies_r0_w, C.catnaplaw4_ConfCopies_r0_b, C.catnaplaw4_ConfCopies]
  rintro i2 hi2
  simp only [↓Bp, Bq, Bs, ↓aop.eq_28, ↓aop.eq_30, Nat.reduceEqDiff, Nat.reduceAdd, Nat.reduceMul, Nat.reduceSub, Nat.reduceLeDiff, Nat.reduceLT, Int.reduceLT, Int.reduceLE, Int.reduceEq, Int.reduceToNat, Int.reduceAdd, Int.reduceSub, Int.reduceNeg, ↓reduceIte, reduceCtorEq, ↓C.catnaplaw4_ConfCopies_r6_w, C.catnaplaw4_ConfCopies_r6_b, ↓C.catnaplaw4_ConfCopies_c53_w, ↓C.catnaplaw4_ConfCopies_r5_w, C.catnaplaw4_ConfCopies_r5_b, ↓C.catnaplaw4_ConfCopies_c54_w, ↓C.catnaplaw4_ConfCopies_r4_w, C.catnaplaw4_ConfCopies_r4_b, ↓C.catnaplaw4_ConfCopies_c55_w, ↓C.catnaplaw4_ConfCopies_r3_w, C.catnaplaw4_ConfCopies_r3_b, ↓C.catnaplaw4_ConfCopies_c56_w, ↓C.catnaplaw4_ConfCopies_c57_w, ↓C.catnaplaw4_ConfCopies_r2_w, C.catnaplaw4_ConfCopies_r2_b, ↓C.catnaplaw4_ConfCopies_c58_w, ↓C.catnaplaw4_ConfCopies_r1_w, C.catnaplaw4_ConfCopies_r1_b, ↓C.catnaplaw4_ConfCopies_c59_w, ↓C.catnaplaw4_ConfCopies_r0_w, C.catnaplaw4_ConfCopies_r0_b, C.catnaplaw4_ConfCopies, hi2, lc, lf]
  rw [ASt.new_set hi2, show putN [AV.nils, AV.nils, AV.nils, AV.nils] 0 S.cells = S.cells from putN_all rfl]
  obtain ⟨vs', L', hBL'⟩ := hB
  have hB : ChipBox (s3.new i2 (.cells S.cells)) (u2.new i2 (.cells S.cells)) i1 S := ⟨vs', L', hBL'.beside hi2⟩
  have h2 : (s3.new i2 (.cells S.cells)).h i2 = some (.cells S.cells) := ASt.new_self _ (fresh_of_le hBL'.2.2.2.2.2 hi2)
  have hb := ASt.new_old (id := i2) (o := .cells S.cells) hb
  clear hBL'
  generalize s3.new i2 (.cells S.cells) = s4 at hB h2 hb
  generalize u2.new i2 (.cells S.cells) = t at hB
  obtain ⟨a0, a1, a2, a3, L2, hBL, hbt, z0, z1, z2, z3⟩ := hB.four
  have hbb := hBL.2.2.2.2.2 _ _ hb
  simp only [↓Bp, Bq, Bs, ↓aop.eq_28, ↓aop.eq_30, Nat.reduceEqDiff, Nat.reduceAdd, Nat.reduceMul, Nat.reduceSub, Nat.reduceLeDiff, Nat.reduceLT, Int.reduceLT, Int.reduceLE, Int.reduceEq, Int.reduceToNat, Int.reduceAdd, Int.reduceSub, Int.reduceNeg, ↓reduceIte, reduceCtorEq, ↓C.catnaplaw4_ConfCopies_W, C.catnaplaw4_ConfCopies_B, C.catnaplaw4_ConfCopies, hbb, hbt, lc, e4]
  refine (same_seen (hP _) hBL.2.1.viewAgg hs).mono ?_
  rintro r t' ⟨⟨v, rfl, hv⟩, rfl⟩
  have hv : v = true := hv.mpr rfl
  subst hv
  have wn : IntKind.i64.wrap ((S.devs.length : Int) - 1) = ((S.devs.length - 1 : Nat) : Int) := by rw [wrap64] <;> omega
  simp only [↓Bp, Bq, Bs, ↓aop.eq_28, ↓aop.eq_30, Nat.reduceEqDiff, Nat.reduceAdd, Nat.reduceMul, Nat.reduceSub, Nat.reduceLeDiff, Nat.reduceLT, Int.reduceLT, Int.reduceLE, Int.reduceEq, Int.reduceToNat, Int.reduceAdd, Int.reduceSub, Int.reduceNeg, ↓reduceIte, reduceCtorEq, ↓C.catnaplaw4_ConfCopies_W, C.catnaplaw4_ConfCopies_B, C.catnaplaw4_ConfCopies, hbt, z3, wn]
  refine (pick_spec hw (n := 8) (by omega)).mono ?_
  rintro r t'' ⟨rfl, rfl⟩
  have hw8 := pickI_lt what (n := 8) (by omega)
  generalize pickI what 8 = w at hw8
  simp only [↓Bp, Bq, Bs, ↓aop.eq_28, ↓aop.eq_30, Nat.reduceEqDiff, Nat.reduceAdd, Nat.reduceMul, Nat.reduceSub, Nat.reduceLeDiff, Nat.reduceLT, Int.reduceLT, Int.reduceLE, Int.reduceEq, Int.reduceToNat, Int.reduceAdd, Int.reduceSub, Int.reduceNeg, ↓reduceIte, reduceCtorEq, ↓C.catnaplaw4_ConfCopies_r37_w, C.catnaplaw4_ConfCopies_r37_b, ↓C.catnaplaw4_ConfCopies_c1_w, ↓C.catnaplaw4_ConfCopies_r10_w, C.catnaplaw4_ConfCopies_r10_b, ↓C.catnaplaw4_ConfCopies_c48_w, ↓C.catnaplaw4_ConfCopies_r9_w, C.catnaplaw4_ConfCopies_r9_b, ↓C.catnaplaw4_ConfCopies_c49_w, ↓C.catnaplaw4_ConfCopies_r8_w, C.catnaplaw4_ConfCopies_r8_b, ↓C.catnaplaw4_ConfCopies_c50_w, ↓C.catnaplaw4_ConfCopies_c51_w, ↓C.catnaplaw4_ConfCopies_r7_w, C.catnaplaw4_ConfCopies_r7_b, ↓C.catnaplaw4_ConfCopies_c52_w, ↓C.catnaplaw4_ConfCopies_r6_w, C.catnaplaw4_ConfCopies_r6_b, ↓C.catnaplaw4_ConfCopies_c53_w, ↓C.catnaplaw4_ConfCopies_r5_w, C.catnaplaw4_ConfCopies_r5_b, ↓C.catnaplaw4_ConfCopies_c54_w, ↓C.catnaplaw4_ConfCopies_r4_w, C.catnaplaw4_ConfCopies_r4_b, ↓C.catnaplaw4_ConfCopies_c55_w, ↓C.catnaplaw4_ConfCopies_r3_w, C.catnaplaw4_ConfCopies_r3_b, ↓C.catnaplaw4_ConfCopies_c56_w, ↓C.catnaplaw4_ConfCopies_c57_w, ↓C.catnaplaw4_ConfCopies_r2_w, C.catnaplaw4_ConfCopies_r2_b, ↓C.catnaplaw4_ConfCopies_c58_w, ↓C.catnaplaw4_ConfCopies_r1_w, C.catnaplaw4_ConfCopies_r1_b, ↓C.catnaplaw4_ConfCopies_c59_w, ↓C.catnaplaw4_ConfCopies_r0_w, C.catnaplaw4_ConfCopies_r0_b, C.catnaplaw4_ConfCopies]
  rw [C.catnaplaw4_ConfCopies_c47_w, awp_keep, awp_block]
  refine awp_midB (fun _ : Unit => [(6, .ptr ib 0), (7, .ptr i1 0), (8, .ptr i2 0)]) (fun _ t => CopyIs s4 t ib i1 i2 S) ?_ ?_
  rotate_left
  · rintro - t ⟨q1, q2, vs, U, q3, q4, q5, q6, q7⟩
    have e5 : AV.agg (List.take 4 vs) = .agg vs := by rw [← q4, List.take_length]
    simp only [↓Bp, Bq, Bs, ↓aop.eq_28, ↓aop.eq_30, Nat.reduceEqDiff, Nat.reduceAdd, Nat.reduceMul, Nat.reduceSub, Nat.reduceLeDiff, Nat.reduceLT, Int.reduceLT, Int.reduceLE, Int.reduceEq, Int.reduceToNat, Int.reduceAdd, Int.reduceSub, Int.reduceNeg, ↓reduceIte, reduceCtorEq, ↓C.catnaplaw4_ConfCopies_W, C.catnaplaw4_ConfCopies_B, C.catnaplaw4_ConfCopies, q1, q2, q3, q4, e5, lc, e4]
    refine (same_seen (hP _) q5 hs).mono ?_
    rintro r t ⟨⟨v, rfl, hv⟩, rfl⟩
    have hv : v = false := by
      cases v with
      | false => rfl
      | true => exact absurd (hv.mp rfl).symm q7
    subst hv
    simp only [↓Bp, Bq, Bs, ↓aop.eq_28, ↓aop.eq_30, Nat.reduceEqDiff, Nat.reduceAdd, Nat.reduceMul, Nat.reduceSub, Nat.reduceLeDiff, Nat.reduceLT, Int.reduceLT, Int.reduceLE, Int.reduceEq, Int.reduceToNat, Int.reduceAdd, Int.reduceSub, Int.reduceNeg, ↓reduceIte, reduceCtorEq, ↓C.catnaplaw4_ConfCopies_W, C.catnaplaw4_ConfCopies_B, C.catnaplaw4_ConfCopies, q1, q2, q3, q4, e5, lc, e4]
    refine (same_seen q5 (hP _) q6).mono ?_
    rintro r t ⟨⟨v, rfl, hv⟩, rfl⟩
    have hv : v = false := by
      cases v with
      | false => rfl
      | true => exact absurd (hv.mp rfl) q7
    subst hv
    simp only [↓Bp, Bq, Bs, ↓aop.eq_28, ↓aop.eq_30, Nat.reduceEqDiff, Nat.reduceAdd, Nat.reduceMul, Nat.reduceSub, Nat.reduceLeDiff, Nat.reduceLT, Int.reduceLT, Int.reduceLE, Int.reduceEq, Int.reduceToNat, Int.reduceAdd, Int.reduceSub, Int.reduceNeg, ↓reduceIte, reduceCtorEq, ↓C.catnaplaw4_ConfCopies_W, C.catnaplaw4_ConfCopies_B, C.catnaplaw4_ConfCopies, q1, q2, q3, q4, e5, lc, e4]
    refine (same_seen (hP _) (hP _) hs).mono ?_
    rintro r t ⟨⟨v, rfl, hv⟩, rfl⟩
    have hv : v = true := hv.mpr rfl
    subst hv
    simp only [↓Bp, Bq, Bs, ↓aop.eq_28, ↓aop.eq_30, Nat.reduceEqDiff, Nat.reduceAdd, Nat.reduceMul, Nat.reduceSub, Nat.reduceLeDiff, Nat.reduceLT, Int.reduceLT, Int.reduceLE, Int.reduceEq, Int.reduceToNat, Int.reduceAdd, Int.reduceSub, Int.reduceNeg, ↓reduceIte, reduceCtorEq, ↓C.catnaplaw4_ConfCopies_W, C.catnaplaw4_ConfCopies_B, C.catnaplaw4_ConfCopies, q1, q2, q3, q4, e5, lc, e4]
    refine (conf_check_spec hs.fine).mono ?_
    rintro r t ⟨rfl, rfl⟩
    simp only [↓Bp, Bq, Bs, ↓aop.eq_28, ↓aop.eq_30, Nat.reduceEqDiff, Nat.reduceAdd, Nat.reduceMul, Nat.reduceSub, Nat.reduceLeDiff, Nat.reduceLT, Int.reduceLT, Int.reduceLE, Int.reduceEq, Int.reduceToNat, Int.reduceAdd, Int.reduceSub, Int.reduceNeg, ↓reduceIte, reduceCtorEq, ↓C.catnaplaw4_ConfCopies_W, C.catnaplaw4_ConfCopies_B, C.catnaplaw4_ConfCopies, hk.right]
  have hz0 : (0:Int) ≤ 0 ∧ (0 : Int) < (S.clocks.length : Nat) := by omega
  have hz1 : (0:Int) ≤ 0 ∧ (0 : Int) < (S.doms.length : Nat) := by omega
  have hz2 : (0:Int) ≤ 0 ∧ (0 : Int) < (S.rsts.length : Nat) := by omega
  have hz3 : (0:Int) ≤ 0 ∧ (0 : Int) < (S.devs.length : Nat) := by omega
  obtain ⟨d, hd⟩ : ∃ d, d = S.devs.length - 1 := ⟨_, rfl⟩
  rw [← hd]
  have hdl : d < S.devs.length := by omega
  have hzd : (0:Int) ≤ (d : Int) ∧ (d : Int) < (S.devs.length : Nat) := by omega
  rcases (show w = 0 ∨ w = 1 ∨ w = 2 ∨ w = 3 ∨ w = 4 ∨ w = 5 ∨ w = 6 ∨ w = 7 by omega) with e | e | e | e | e | e | e | e <;> subst e
  · obtain ⟨r0, r1⟩ := hk.rate0
    have wr : IntKind.u64.wrap ((S.clocks[0]'n1.1).rate + 1) = (S.clocks[0]'n1.1).rate + 1 := by rw [wrapU64] <;> omega
    obtain ⟨id, ws, q1, q2, q3, q4, q5⟩ := put_clk (i := 0) (j := 2) (c := { S.clocks[0]'n1.1 with rate := (S.clocks[0]'n1.1).rate + 1 }) (v := .int .u64 ((S.clocks[0]'n1.1).rate + 1)) hBL n1.1 (by omega) rfl rfl
    cases q1
    obtain ⟨id', ws', q6, q7, q8⟩ := hBL.getS (o := 0) (sz := 6) (n := S.clocks.length) (ds := S.clocks.flatMap Clk.cells) (k := 0 * 6 + 2) (x := .int .u64 (S.clocks[0]'n1.1).rate) rfl (by omega) (rows_get Clk.cells Clk.cells_len n1.1 (j := 2) (by omega)) rfl
    cases q6
    rw [q2] at q7; cases q7
    rw [Nat.zero_mul, Nat.zero_add] at q3 q5 q8
    simp only [↓Bp, Bq, Bs, ↓aop.eq_28, ↓aop.eq_30, Nat.reduceEqDiff, Nat.reduceAdd, Nat.reduceMul, Nat.reduceSub, Nat.reduceLeDiff, Nat.reduceLT, Int.reduceLT, Int.reduceLE, Int.reduceEq, Int.reduceToNat, Int.reduceAdd, Int.reduceSub, Int.reduceNeg, ↓reduceIte, reduceCtorEq, ↓C.catnaplaw4_ConfCopies_W, C.catnaplaw4_ConfCopies_B, C.catnaplaw4_ConfCopies, Int.cast_ofNat_Int, hbt, hz0, Nat.zero_mul, q2, q3, q8, wr]
    exact ⟨(), CopyIs.of hb h2 q5 (sane_clk hs (hs.cs S.clocks[0] (List.getElem_mem n1.1))) (ne_clk n1.1 (fun e => by rw [Clk.eq_iff] at e; have := e.2.2.1; simp only at this; omega))⟩
  · have hr := hk.lock0
    simp only [↓Bp, Bq, Bs, ↓aop.eq_28, ↓aop.eq_30, Nat.reduceEqDiff, Nat.reduceAdd, Nat.reduceMul, Nat.reduceSub, Nat.reduceLeDiff, Nat.reduceLT, Int.reduceLT, Int.reduceLE, Int.reduceEq, Int.reduceToNat, Int.reduceAdd, Int.reduceSub, Int.reduceNeg, ↓reduceIte, reduceCtorEq, ↓C.catnaplaw4_ConfCopies_r37_w, C.catnaplaw4_ConfCopies_r37_b, ↓C.catnaplaw4_ConfCopies_c1_w, ↓C.catnaplaw4_ConfCopies_r13_w, C.catnaplaw4_ConfCopies_r13_b, ↓C.catnaplaw4_ConfCopies_r22_w, C.catnaplaw4_ConfCopies_r22_b, ↓C.catnaplaw4_ConfCopies_c2_w, ↓C.catnaplaw4_ConfCopies_r15_w, C.catnaplaw4_ConfCopies_r15_b, ↓C.catnaplaw4_ConfCopies_r24_w, C.catnaplaw4_ConfCopies_r24_b, ↓C.catnaplaw4_ConfCopies_r26_w, C.catnaplaw4_ConfCopies_r26_b, ↓C.catnaplaw4_ConfCopies_r28_w, C.catnaplaw4_ConfCopies_r28_b, ↓C.catnaplaw4_ConfCopies_r30_w, C.catnaplaw4_ConfCopies_r30_b, ↓C.catnaplaw4_ConfCopies_r36_w, C.catnaplaw4_ConfCopies_r36_b, ↓C.catnaplaw4_ConfCopies_c17_w, ↓C.catnaplaw4_ConfCopies_r34_w, C.catnaplaw4_ConfCopies_r34_b, ↓C.catnaplaw4_ConfCopies_c18_w, ↓C.catnaplaw4_ConfCopies_r35_w, C.catnaplaw4_ConfCopies_r35_b, ↓C.catnaplaw4_ConfCopies_b19_w, ↓C.catnaplaw4_ConfCopies_c20_w, ↓C.catnaplaw4_ConfCopies_c21_w, ↓C.catnaplaw4_ConfCopies_r33_w, C.catnaplaw4_ConfCopies_r33_b, ↓C.catnaplaw4_ConfCopies_b23_w, ↓C.catnaplaw4_ConfCopies_c24_w, ↓C.catnaplaw4_ConfCopies_r32_w, C.catnaplaw4_ConfCopies_r32_b, ↓C.catnaplaw4_ConfCopies_r11_w, C.catnaplaw4_ConfCopies_r11_b, ↓C.catnaplaw4_ConfCopies_c25_w, ↓C.catnaplaw4_ConfCopies_c26_w, ↓C.catnaplaw4_ConfCopies_c27_w, ↓C.catnaplaw4_ConfCopies_r31_w, C.catnaplaw4_ConfCopies_r31_b, ↓C.catnaplaw4_ConfCopies_c28_w, ↓C.catnaplaw4_ConfCopies_c29_w, ↓C.catnaplaw4_ConfCopies_c30_w, ↓C.catnaplaw4_ConfCopies_r29_w, C.catnaplaw4_ConfCopies_r29_b, ↓C.catnaplaw4_ConfCopies_c31_w, ↓C.catnaplaw4_ConfCopies_c32_w, ↓C.catnaplaw4_ConfCopies_c33_w, ↓C.catnaplaw4_ConfCopies_r27_w, C.catnaplaw4_ConfCopies_r27_b, ↓C.catnaplaw4_ConfCopies_c34_w, ↓C.catnaplaw4_ConfCopies_c35_w, ↓C.catnaplaw4_ConfCopies_c36_w, ↓C.catnaplaw4_ConfCopies_r25_w, C.catnaplaw4_ConfCopies_r25_b, ↓C.catnaplaw4_ConfCopies_c37_w, ↓C.catnaplaw4_ConfCopies_c38_w, ↓C.catnaplaw4_ConfCopies_c39_w, ↓C.catnaplaw4_ConfCopies_r23_w, C.catnaplaw4_ConfCopies_r23_b, ↓C.catnaplaw4_ConfCopies_c40_w, ↓C.catnaplaw4_ConfCopies_c41_w, ↓C.catnaplaw4_ConfCopies_c42_w, ↓C.catnaplaw4_ConfCopies_r14_w, C.catnaplaw4_ConfCopies_r14_b, ↓C.catnaplaw4_ConfCopies_c43_w, ↓C.catnaplaw4_ConfCopies_c44_w, ↓C.catnaplaw4_ConfCopies_c45_w, ↓C.catnaplaw4_ConfCopies_r12_w, C.catnaplaw4_ConfCopies_r12_b, ↓C.catnaplaw4_ConfCopies_b46_w, ↓C.catnaplaw4_ConfCopies_c47_w, ↓C.catnaplaw4_ConfCopies_r10_w, C.catnaplaw4_ConfCopies_r10_b, ↓C.catnaplaw4_ConfCopies_c48_w, ↓C.catnaplaw4_ConfCopies_r9_w, C.catnaplaw4_ConfCopies_r9_b, ↓C.catnaplaw4_ConfCopies_c49_w, ↓C.catnaplaw4_ConfCopies_r8_w, C.catnaplaw4_ConfCopies_r8_b, ↓C.catnaplaw4_ConfCopies_c50_w, ↓C.catnaplaw4_ConfCopies_c51_w, ↓C.catnaplaw4_ConfCopies_r7_w, C.catnaplaw4_ConfCopies_r7_b, ↓C.catnaplaw4_ConfCopies_c52_w, ↓C.catnaplaw4_ConfCopies_r6_w, C.catnaplaw4_ConfCopies_r6_b, ↓C.catnaplaw4_ConfCopies_c53_w, ↓C.catnaplaw4_ConfCopies_r5_w, C.catnaplaw4_ConfCopies_r5_b, ↓C.catnaplaw4_ConfCopies_c54_w, ↓C.catnaplaw4_ConfCopies_r4_w, C.catnaplaw4_ConfCopies_r4_b, ↓C.catnaplaw4_ConfCopies_c55_w, ↓C.catnaplaw4_ConfCopies_r3_w, C.catnaplaw4_ConfCopies_r3_b, ↓C.catnaplaw4_ConfCopies_c56_w, ↓C.catnaplaw4_ConfCopies_c57_w, ↓C.catnaplaw4_ConfCopies_r2_w, C.catnaplaw4_ConfCopies_r2_b, ↓C.catnaplaw4_ConfCopies_c58_w, ↓C.catnaplaw4_ConfCopies_r1_w, C.catnaplaw4_ConfCopies_r1_b, ↓C.catnaplaw4_ConfCopies_c59_w, ↓C.catnaplaw4_ConfCopies_r0_w, C.catnaplaw4_ConfCopies_r0_b, C.catnaplaw4_ConfCopies, Int.cast_ofNat_Int]
    refine awp_midB (fun _ : Unit => [(6, .ptr ib 0), (7, .ptr i1 0), (8, .ptr i2 0)]) (fun _ t => ∃ U, ChipBox s4 t i1 U ∧ U.sane ∧ U.clocks.length = S.clocks.length) ?_ ?_
    rotate_left
    · rintro - t ⟨U, hB, hU, hUl⟩
      obtain ⟨b0, b1, b2, b3, L3, hBL, hbt, -⟩ := hB.four
      have hU0 : 0 < U.clocks.length := by omega
      have hz0 : (0:Int) ≤ 0 ∧ (0 : Int) < (U.clocks.length : Nat) := by omega
      obtain ⟨id, ws, q1, q2, q3, q4, q5⟩ := put_clk (i := 0) (j := 5) (c := { U.clocks[0] with lock := 7 }) (v := .int .i64 7) hBL hU0 (by omega) rfl rfl
      cases q1
      rw [Nat.zero_mul, Nat.zero_add] at q3 q5
      simp only [↓Bp, Bq, Bs, ↓aop.eq_28, ↓aop.eq_30, Nat.reduceEqDiff, Nat.reduceAdd, Nat.reduceMul, Nat.reduceSub, Nat.reduceLeDiff, Nat.reduceLT, Int.reduceLT, Int.reduceLE, Int.reduceEq, Int.reduceToNat, Int.reduceAdd, Int.reduceSub, Int.reduceNeg, ↓reduceIte, reduceCtorEq, ↓C.catnaplaw4_ConfCopies_W, C.catnaplaw4_ConfCopies_B, C.catnaplaw4_ConfCopies, hbt, hz0, Nat.zero_mul, q2, q3]
      refine ⟨(), CopyIs.of hb h2 q5 (sane_clk hU (hU.cs U.clocks[0] (List.getElem_mem hU0))) fun e => ?_⟩
      have e1 : U.clocks.set 0 { U.clocks[0] with lock := 7 } = S.clocks := congrArg Soc.clocks e
      have e2 : (U.clocks.set 0 { U.clocks[0] with lock := 7 })[0]? = S.clocks[0]? := by rw [e1]
      rw [List.getElem?_eq_getElem n1.1, List.getElem?_eq_getElem (by simpa using hU0)] at e2
      have e3 := Option.some.inj e2
      rw [List.getElem_set_self] at e3
      rw [← e3] at hr
      simp at hr
    refine awp_loopK (fun i : Nat => [(6, .ptr ib 0), (7, .ptr i1 0), (8, .ptr i2 0), (10, .int .i64 i)]) (fun i t => i ≤ S.clocks.length ∧ ∃ U, ChipBox s4 t i1 U ∧ U.sane ∧ U.clocks.length = S.clocks.length) (fun i => S.clocks.length - i) 0 rfl ⟨Nat.zero_le _, S, hB, hs, rfl⟩ ?_
    rintro i t ⟨hi, U, hB, hU, hUl⟩
    obtain ⟨b0, b1, b2, b3, L3, hBL, hbt, z0, -⟩ := hB.four
    by_cases hil : i < S.clocks.length
    rotate_left
    · have hil' : ¬ (i : Int) < ((U.clocks.length : Nat) : Int) := by omega
      simp only [↓Bp, Bq, Bs, ↓aop.eq_28, ↓aop.eq_30, Nat.reduceEqDiff, Nat.reduceAdd, Nat.reduceMul, Nat.reduceSub, Nat.reduceLeDiff, Nat.reduceLT, Int.reduceLT, Int.reduceLE, Int.reduceEq, Int.reduceToNat, Int.reduceAdd, Int.reduceSub, Int.reduceNeg, ↓reduceIte, reduceCtorEq, ↓C.catnaplaw4_ConfCopies_W, C.catnaplaw4_ConfCopies_B, C.catnaplaw4_ConfCopies, hbt, z0, hil']
      exact ⟨(), U, hB, hU, hUl⟩
    have hiU : i < U.clocks.length := by omega
    have hil' : (i : Int) < ((U.clocks.length : Nat) : Int) := by omega
    have hw := wsucc hil (by omega)
    simp only [↓Bp, Bq, Bs, ↓aop.eq_28, ↓aop.eq_30, Nat.reduceEqDiff, Nat.reduceAdd, Nat.reduceMul, Nat.reduceSub, Nat.reduceLeDiff, Nat.reduceLT, Int.reduceLT, Int.reduceLE, Int.reduceEq, Int.reduceToNat, Int.reduceAdd, Int.reduceSub, Int.reduceNeg, ↓reduceIte, reduceCtorEq, ↓C.catnaplaw4_ConfCopies_r37_w, C.catnaplaw4_ConfCopies_r37_b, ↓C.catnaplaw4_ConfCopies_c1_w, ↓C.catnaplaw4_ConfCopies_r13_w, C.catnaplaw4_ConfCopies_r13_b, ↓C.catnaplaw4_ConfCopies_r22_w, C.catnaplaw4_ConfCopies_r22_b, ↓C.catnaplaw4_ConfCopies_c2_w, ↓C.catnaplaw4_ConfCopies_r17_w, C.catnaplaw4_ConfCopies_r17_b, ↓C.catnaplaw4_ConfCopies_c3_w, ↓C.catnaplaw4_ConfCopies_r18_w, C.catnaplaw4_ConfCopies_r18_b, ↓C.catnaplaw4_ConfCopies_b11_w, ↓C.catnaplaw4_ConfCopies_c12_w, ↓C.catnaplaw4_ConfCopies_c13_w, ↓C.catnaplaw4_ConfCopies_r16_w, C.catnaplaw4_ConfCopies_r16_b, ↓C.catnaplaw4_ConfCopies_b15_w, ↓C.catnaplaw4_ConfCopies_c16_w, ↓C.catnaplaw4_ConfCopies_r15_w, C.catnaplaw4_ConfCopies_r15_b, ↓C.catnaplaw4_ConfCopies_r24_w, C.catnaplaw4_ConfCopies_r24_b, ↓C.catnaplaw4_ConfCopies_r26_w, C.catnaplaw4_ConfCopies_r26_b, ↓C.catnaplaw4_ConfCopies_r28_w, C.catnaplaw4_ConfCopies_r28_b, ↓C.catnaplaw4_ConfCopies_r30_w, C.catnaplaw4_ConfCopies_r30_b, ↓C.catnaplaw4_ConfCopies_r36_w, C.catnaplaw4_ConfCopies_r36_b, ↓C.catnaplaw4_ConfCopies_c17_w, ↓C.catnaplaw4_ConfCopies_r34_w, C.catnaplaw4_ConfCopies_r34_b, ↓C.catnaplaw4_ConfCopies_c18_w, ↓C.catnaplaw4_ConfCopies_r35_w, C.catnaplaw4_ConfCopies_r35_b, ↓C.catnaplaw4_ConfCopies_b19_w, ↓C.catnaplaw4_ConfCopies_c20_w, ↓C.catnaplaw4_ConfCopies_c21_w, ↓C.catnaplaw4_ConfCopies_r33_w, C.catnaplaw4_ConfCopies_r33_b, ↓C.catnaplaw4_ConfCopies_b23_w, ↓C.catnaplaw4_ConfCopies_c24_w, ↓C.catnaplaw4_ConfCopies_r32_w, C.catnaplaw4_ConfCopies_r32_b, ↓C.catnaplaw4_ConfCopies_r11_w, C.catnaplaw4_ConfCopies_r11_b, ↓C.catnaplaw4_ConfCopies_c25_w, ↓C.catnaplaw4_ConfCopies_c26_w, ↓C.catnaplaw4_ConfCopies_c27_w, ↓C.catnaplaw4_ConfCopies_r31_w, C.catnaplaw4_ConfCopies_r31_b, ↓C.catnaplaw4_ConfCopies_c28_w, ↓C.catnaplaw4_ConfCopies_c29_w, ↓C.catnaplaw4_ConfCopies_c30_w, ↓C.catnaplaw4_ConfCopies_r29_w, C.catnaplaw4_ConfCopies_r29_b, ↓C.catnaplaw4_ConfCopies_c31_w, ↓C.catnaplaw4_ConfCopies_c32_w, ↓C.catnaplaw4_ConfCopies_c33_w, ↓C.catnaplaw4_ConfCopies_r27_w, C.catnaplaw4_ConfCopies_r27_b, ↓C.catnaplaw4_ConfCopies_c34_w, ↓C.catnaplaw4_ConfCopies_c35_w, ↓C.catnaplaw4_ConfCopies_c36_w, ↓C.catnaplaw4_ConfCopies_r25_w, C.catnaplaw4_ConfCopies_r25_b, ↓C.catnaplaw4_ConfCopies_c37_w, ↓C.catnaplaw4_ConfCopies_c38_w, ↓C.catnaplaw4_ConfCopies_c39_w, ↓C.catnaplaw4_ConfCopies_r23_w, C.catnaplaw4_ConfCopies_r23_b, ↓C.catnaplaw4_ConfCopies_c40_w, ↓C.catnaplaw4_ConfCopies_c41_w, ↓C.catnaplaw4_ConfCopies_c42_w, ↓C.catnaplaw4_ConfCopies_r14_w, C.catnaplaw4_ConfCopies_r14_b, ↓C.catnaplaw4_ConfCopies_c43_w, ↓C.catnaplaw4_ConfCopies_c44_w, ↓C.catnaplaw4_ConfCopies_c45_w, ↓C.catnaplaw4_ConfCopies_r12_w, C.catnaplaw4_ConfCopies_r12_b, ↓C.catnaplaw4_ConfCopies_b46_w, ↓C.catnaplaw4_ConfCopies_c47_w, ↓C.catnaplaw4_ConfCopies_r10_w, C.catnaplaw4_ConfCopies_r10_b, ↓C.catnaplaw4_ConfCopies_c48_w, ↓C.catnaplaw4_ConfCopies_r9_w, C.catnaplaw4_ConfCopies_r9_b, ↓C.catnaplaw4_ConfCopies_c49_w, ↓C.catnaplaw4_ConfCopies_r8_w, C.catnaplaw4_ConfCopies_r8_b, ↓C.catnaplaw4_ConfCopies_c50_w, ↓C.catnaplaw4_ConfCopies_c51_w, ↓C.catnaplaw4_ConfCopies_r7_w, C.catnaplaw4_ConfCopies_r7_b, ↓C.catnaplaw4_ConfCopies_c52_w, ↓C.catnaplaw4_ConfCopies_r6_w, C.catnaplaw4_ConfCopies_r6_b, ↓C.catnaplaw4_ConfCopies_c53_w, ↓C.catnaplaw4_ConfCopies_r5_w, C.catnaplaw4_ConfCopies_r5_b, ↓C.catnaplaw4_ConfCopies_c54_w, ↓C.catnaplaw4_ConfCopies_r4_w, C.catnaplaw4_ConfCopies_r4_b, ↓C.catnaplaw4_ConfCopies_c55_w, ↓C.catnaplaw4_ConfCopies_r3_w, C.catnaplaw4_ConfCopies_r3_b, ↓C.catnaplaw4_ConfCopies_c56_w, ↓C.catnaplaw4_ConfCopies_c57_w, ↓C.catnaplaw4_ConfCopies_r2_w, C.catnaplaw4_ConfCopies_r2_b, ↓C.catnaplaw4_ConfCopies_c58_w, ↓C.catnaplaw4_ConfCopies_r1_w, C.catnaplaw4_ConfCopies_r1_b, ↓C.catnaplaw4_ConfCopies_c59_w, ↓C.catnaplaw4_ConfCopies_r0_w, C.catnaplaw4_ConfCopies_r0_b, C.catnaplaw4_ConfCopies, hbt, z0, hil', Int.cast_ofNat_Int]
    obtain ⟨m, hm⟩ : ∃ m, m = U.clocks[i].src.length := ⟨_, rfl⟩
    have hm2 : m ≤ 4294967296 := by rw [hm]; exact hU.cs _ (List.getElem_mem hiU)
    refine awp_midB (fun _ : Unit => [(6, .ptr ib 0), (7, .ptr i1 0), (8, .ptr i2 0), (10, .int .i64 i)]) (fun _ t => ∃ U, ChipBox s4 t i1 U ∧ U.sane ∧ U.clocks.length = S.clocks.length) ?_ ?_
    rotate_left
    · rintro - t ⟨U, hB, hU, hUl⟩
      simp only [↓Bp, Bq, Bs, ↓aop.eq_28, ↓aop.eq_30, Nat.reduceEqDiff, Nat.reduceAdd, Nat.reduceMul, Nat.reduceSub, Nat.reduceLeDiff, Nat.reduceLT, Int.reduceLT, Int.reduceLE, Int.reduceEq, Int.reduceToNat, Int.reduceAdd, Int.reduceSub, Int.reduceNeg, ↓reduceIte, reduceCtorEq, ↓C.catnaplaw4_ConfCopies_W, C.catnaplaw4_ConfCopies_B, C.catnaplaw4_ConfCopies, hw]
      exact ⟨i + 1, rfl, ⟨hil, U, hB, hU, hUl⟩, by omega⟩
    refine awp_loopK (fun k : Nat => [(6, .ptr ib 0), (7, .ptr i1 0), (8, .ptr i2 0), (10, .int .i64 i), (11, .int .i64 k)]) (fun k t => k ≤ m ∧ ∃ U, ChipBox s4 t i1 U ∧ U.sane ∧ U.clocks.length = S.clocks.length ∧ ∃ h : i < U.clocks.length, U.clocks[i].src.length = m) (fun k => m - k) 0 rfl ⟨Nat.zero_le _, U, hB, hU, hUl, hiU, hm.symm⟩ ?_
    clear hm hBL hbt z0 hB hUl hiU hil' hU U
    rintro k t ⟨hkm, U, hB, hU, hUl, hiU, hm⟩
    obtain ⟨b0, b1, b2, b3, L3, hBL, hbt, z0, -⟩ := hB.four
    have hzi : (0:Int) ≤ (i : Int) ∧ (i : Int) < ((U.clocks.length : Nat) : Int) := by omega
    have hcell : (U.clocks.flatMap Clk.cells)[i * 6 + 1]? = some (row U.clocks[i].src) := rows_get Clk.cells Clk.cells_len hiU (j := 1) (by omega)
    obtain ⟨id, ws, w, p1, p2, p3, p4⟩ := hBL.len2 (o := 0) (n := U.clocks.length) rfl (by omega) hcell
    cases p1
    by_cases hkl : k < m
    rotate_left
    · have hkl' : ¬ (k : Int) < ((U.clocks[i].src.length : Nat) : Int) := by omega
      simp only [↓Bp, Bq, Bs, ↓aop.eq_28, ↓aop.eq_30, Nat.reduceEqDiff, Nat.reduceAdd, Nat.reduceMul, Nat.reduceSub, Nat.reduceLeDiff, Nat.reduceLT, Int.reduceLT, Int.reduceLE, Int.reduceEq, Int.reduceToNat, Int.reduceAdd, Int.reduceSub, Int.reduceNeg, ↓reduceIte, reduceCtorEq, ↓C.catnaplaw4_ConfCopies_W, C.catnaplaw4_ConfCopies_B, C.catnaplaw4_ConfCopies, hbt, hzi, Int.toNat_natCast, p2, p3, p4, hkl']
      exact ⟨(), U, hB, hU, hUl⟩
    have hkl' : (k : Int) < ((U.clocks[i].src.length : Nat) : Int) := by omega
    have hzk : (0:Int) ≤ (k : Int) ∧ (k : Int) < ((U.clocks[i].src.length : Nat) : Int) := by omega
    have hwk := wsucc hkl (by omega)
    obtain ⟨id', ws', id2, ws2, r1, r2, r3, r4, r5, r6, r7, r8, L4, r9⟩ := hBL.put2 (v := .int .i64 99) (j := k) (x := .int .i64 (U.clocks[i].src[k]'(by omega))) (o := 0) (n := U.clocks.length) rfl (by omega) hcell (by omega) (by rw [ints_get (by omega)]) rfl rfl
    cases r1
    rw [p2] at r2; cases r2
    rw [p3] at r3; cases r3
    have hk2 : k < ws2.length := by rw [r5, ints_length]; omega
    simp only [↓Bp, Bq, Bs, ↓aop.eq_28, ↓aop.eq_30, Nat.reduceEqDiff, Nat.reduceAdd, Nat.reduceMul, Nat.reduceSub, Nat.reduceLeDiff, Nat.reduceLT, Int.reduceLT, Int.reduceLE, Int.reduceEq, Int.reduceToNat, Int.reduceAdd, Int.reduceSub, Int.reduceNeg, ↓reduceIte, reduceCtorEq, ↓C.catnaplaw4_ConfCopies_W, C.catnaplaw4_ConfCopies_B, C.catnaplaw4_ConfCopies, hbt, hzi, hzk, Int.toNat_natCast, Nat.mul_one, Nat.zero_add, p2, p3, r4, hkl', hk2, hwk]
    have hxe := Soc.set_clk (S := U) (i := i) (j := 1) (c := { U.clocks[i] with src := U.clocks[i].src.set k 99 }) (v := row (U.clocks[i].src.set k 99)) hiU (by omega) rfl
    have hre : row (U.clocks[i].src.set k 99) = .isl 1 ((ints U.clocks[i].src).set k (.int .i64 99)) U.clocks[i].src.length := by
      rw [ints_set, row, List.length_set]
    refine ⟨k + 1, rfl, ⟨hkl, { U with clocks := U.clocks.set i { U.clocks[i] with src := U.clocks[i].src.set k 99 } }, ChipBox.mk' r9 (by rw [hxe, hre]), sane_clk hU (by simpa [hm] using hm2), by simpa using hUl, by simpa using hiU, by simpa using hm⟩, by omega⟩
  · obtain ⟨id, ws, q1, q2, q3, q4, q5⟩ := put_dom (i := 0) (j := 2) (c := { S.doms[0]'n2.1 with ret := !(S.doms[0]'n2.1).ret }) (v := .bool (!(S.doms[0]'n2.1).ret)) hBL n2.1 (by omega) rfl rfl
    cases q1
    obtain ⟨id', ws', q6, q7, q8⟩ := hBL.getS (o := 1) (sz := 3) (n := S.doms.length) (ds := S.doms.flatMap Dom.cells) (k := 0 * 3 + 2) (x := .bool (S.doms[0]'n2.1).ret) rfl (by omega) (rows_get Dom.cells Dom.cells_len n2.1 (j := 2) (by omega)) rfl
    cases q6
    rw [q2] at q7; cases q7
    rw [Nat.zero_mul, Nat.zero_add] at q3 q5 q8
    simp only [↓Bp, Bq, Bs, ↓aop.eq_28, ↓aop.eq_30, Nat.reduceEqDiff, Nat.reduceAdd, Nat.reduceMul, Nat.reduceSub, Nat.reduceLeDiff, Nat.reduceLT, Int.reduceLT, Int.reduceLE, Int.reduceEq, Int.reduceToNat, Int.reduceAdd, Int.reduceSub, Int.reduceNeg, ↓reduceIte, reduceCtorEq, ↓C.catnaplaw4_ConfCopies_W, C.catnaplaw4_ConfCopies_B, C.catnaplaw4_ConfCopies, Int.cast_ofNat_Int, hbt, hz1, Nat.zero_mul, q2, q3, q8]
    exact ⟨(), CopyIs.of hb h2 q5 (sane_dom hs) (ne_dom n2.1 (fun e => by rw [Dom.eq_iff] at e; have := e.2.2; simp at this))⟩
  · have hr := hk.rst 0 n3.1
    have wr : IntKind.i64.wrap ((S.rsts[0]'n3.1) + 1) = (S.rsts[0]'n3.1) + 1 := by rw [wrap64] <;> omega
    obtain ⟨id, ws, q1, q2, q3, q4, q5⟩ := put_rst (i := 0) (c := (S.rsts[0]'n3.1) + 1) hBL n3.1
    cases q1
    obtain ⟨id', ws', q6, q7, q8⟩ := hBL.getS (o := 2) (sz := 1) (n := S.rsts.length) (ds := S.rsts.flatMap rstCells) (k := 0 * 1 + 0) (x := .int .i64 (S.rsts[0]'n3.1)) rfl (by omega) (rows_get rstCells rstCells_len n3.1 (j := 0) (by omega)) rfl
    cases q6
    rw [q2] at q7; cases q7
    rw [Nat.zero_mul, Nat.zero_add] at q8
    simp only [↓Bp, Bq, Bs, ↓aop.eq_28, ↓aop.eq_30, Nat.reduceEqDiff, Nat.reduceAdd, Nat.reduceMul, Nat.reduceSub, Nat.reduceLeDiff, Nat.reduceLT, Int.reduceLT, Int.reduceLE, Int.reduceEq, Int.reduceToNat, Int.reduceAdd, Int.reduceSub, Int.reduceNeg, ↓reduceIte, reduceCtorEq, ↓C.catnaplaw4_ConfCopies_W, C.catnaplaw4_ConfCopies_B, C.catnaplaw4_ConfCopies, Int.cast_ofNat_Int, hbt, hz2, Nat.zero_mul, q2, q3, q8, wr]
    exact ⟨(), CopyIs.of hb h2 q5 (sane_rst hs) (ne_rst n3.1 (by omega))⟩
  · obtain ⟨id, ws, q1, q2, q3, q4, q5⟩ := put_dev (i := d) (j := 3) (c := { S.devs[d] with clamp := IntKind.u32.wrap (S.devs[d].clamp + 1) }) (v := .int .u32 (IntKind.u32.wrap (S.devs[d].clamp + 1))) hBL hdl (by omega) (RepL.scalars rfl _) rfl (by simp) (by simp) (by simp)
    cases q1
    obtain ⟨id', ws', q6, q7, q8⟩ := hBL.getS (o := 3) (sz := 6) (n := S.devs.length) (ds := S.devs.flatMap Dev.cells) (k := d * 6 + 3) (x := .int .u32 S.devs[d].clamp) rfl (by omega) (rows_get Dev.cells Dev.cells_len hdl (j := 3) (by omega)) rfl
    cases q6
    rw [q2] at q7; cases q7
    simp only [↓Bp, Bq, Bs, ↓aop.eq_28, ↓aop.eq_30, Nat.reduceEqDiff, Nat.reduceAdd, Nat.reduceMul, Nat.reduceSub, Nat.reduceLeDiff, Nat.reduceLT, Int.reduceLT, Int.reduceLE, Int.reduceEq, Int.reduceToNat, Int.reduceAdd, Int.reduceSub, Int.reduceNeg, ↓reduceIte, reduceCtorEq, ↓C.catnaplaw4_ConfCopies_W, C.catnaplaw4_ConfCopies_B, C.catnaplaw4_ConfCopies, Int.cast_ofNat_Int, hbt, hzd, Int.toNat_natCast, q2, q3, q8]
    exact ⟨(), CopyIs.of hb h2 q5 (sane_dev hs (hs.vs S.devs[d] (List.getElem_mem hdl))) (ne_dev hdl (fun e => by rw [Dev.eq_iff] at e; exact wrap32_ne _ e.2.2.2.1))⟩
  · obtain ⟨id, ws, v0, q0, Li, p1, p2, p3, p4, p5, p6, p7, p8, p9, p10, p11, p12⟩ := BoxL.putAt (o := 3) (k := d * 6 + 5) hBL rfl (by omega) (by rw [flatMap_len Dev.cells_len]; omega)
    cases p1
    have hq0 := rows_get Dev.cells Dev.cells_len hdl (j := 5) (by omega)
    rw [show (S.devs[d].cells)[5]? = some (row S.devs[d].needs) from rfl, p6] at hq0
    cases hq0
    have hnl := (hs.vs S.devs[d] (List.getElem_mem hdl)).2
    have hnf := dev_small hk hdl
    have h5w : d * 6 + 5 < ws.length := by rw [p3, flatMap_len Dev.cells_len]; omega
    simp only [↓Bp, Bq, Bs, Nat.reduceEqDiff, Nat.reduceAdd, Nat.reduceMul, Nat.reduceSub, Nat.reduceLeDiff, Nat.reduceLT, Int.reduceLT, Int.reduceLE, Int.reduceEq, Int.reduceToNat, Int.reduceAdd, Int.reduceSub, Int.reduceNeg, ↓reduceIte, reduceCtorEq, ↓C.catnaplaw4_ConfCopies_W, C.catnaplaw4_ConfCopies_B, C.catnaplaw4_ConfCopies, Int.cast_ofNat_Int, hbt, hzd, Int.toNat_natCast, p2, p5]
    refine aop_append_rep (L := Li) (Ln := []) (new := [.int .i64 0]) (newc := [.int .i64 0]) p7 (by rw [ints_length, Nat.mul_one]) (by omega) rfl rfl (RepL.scalars rfl _) (by simp) (fun _ => rfl) (fun _ => rfl) fun v1' j5 L6 w6 r1 r2 r3 => ?_
    have hb6 := r3 i1 p9 _ hbt
    have p26 := r3 id p8 _ p2
    obtain ⟨L', hBL7⟩ := p12 w6 _ _ L6 r1 r3 (fun j hj => by
      rcases r2 j hj with h | h | h
      · exact .inl h
      · cases h
      · exact .inr h)
    have hxe := Soc.set_dev (S := S) (i := d) (j := 5) (c := { S.devs[d] with needs := S.devs[d].needs ++ [0] }) (v := row (S.devs[d].needs ++ [0])) hdl (by omega) rfl
    have hre : row (S.devs[d].needs ++ [0]) = .isl 1 (ints S.devs[d].needs ++ [.int .i64 0]) (S.devs[d].needs.length + 1) := by simp [row, ints]
    simp only [↓Bp, Bq, Bs, ↓aop.eq_28, ↓aop.eq_30, Nat.reduceEqDiff, Nat.reduceAdd, Nat.reduceMul, Nat.reduceSub, Nat.reduceLeDiff, Nat.reduceLT, Int.reduceLT, Int.reduceLE, Int.reduceEq, Int.reduceToNat, Int.reduceAdd, Int.reduceSub, Int.reduceNeg, ↓reduceIte, reduceCtorEq, ↓C.catnaplaw4_ConfCopies_W, C.catnaplaw4_ConfCopies_B, C.catnaplaw4_ConfCopies, hb6, hzd, Int.toNat_natCast, p26, h5w]
    have hQ : ChipBox s4 (w6.set id (.cells (ws.set (d * 6 + 5) (.sl 1 j5 0 (S.devs[d].needs.length + 1))))) i1 { S with devs := S.devs.set d { S.devs[d] with needs := S.devs[d].needs ++ [0] } } := ChipBox.mk' hBL7 (by rw [hxe, hre])
    exact ⟨(), CopyIs.of hb h2 hQ (sane_dev hs ⟨(hs.vs S.devs[d] (List.getElem_mem hdl)).1, by simp; omega⟩) (ne_dev hdl (fun e => by
      rw [Dev.eq_iff] at e
      have := congrArg List.length e.2.2.2.2.2
      simp at this))⟩
  · have hr := (hk.dev 0 n4.1).dom
    obtain ⟨m, hm⟩ : ∃ m, m = S.devs[d].regs.length := ⟨_, rfl⟩
    have hm2 : m ≤ 4294967296 := by rw [hm]; exact (hs.vs _ (List.getElem_mem hdl)).1
    simp only [↓Bp, Bq, Bs, ↓aop.eq_28, ↓aop.eq_30, Nat.reduceEqDiff, Nat.reduceAdd, Nat.reduceMul, Nat.reduceSub, Nat.reduceLeDiff, Nat.reduceLT, Int.reduceLT, Int.reduceLE, Int.reduceEq, Int.reduceToNat, Int.reduceAdd, Int.reduceSub, Int.reduceNeg, ↓reduceIte, reduceCtorEq, ↓C.catnaplaw4_ConfCopies_r37_w, C.catnaplaw4_ConfCopies_r37_b, ↓C.catnaplaw4_ConfCopies_c1_w, ↓C.catnaplaw4_ConfCopies_r13_w, C.catnaplaw4_ConfCopies_r13_b, ↓C.catnaplaw4_ConfCopies_r22_w, C.catnaplaw4_ConfCopies_r22_b, ↓C.catnaplaw4_ConfCopies_c2_w, ↓C.catnaplaw4_ConfCopies_r17_w, C.catnaplaw4_ConfCopies_r17_b, ↓C.catnaplaw4_ConfCopies_c3_w, ↓C.catnaplaw4_ConfCopies_r20_w, C.catnaplaw4_ConfCopies_r20_b, ↓C.catnaplaw4_ConfCopies_c4_w, ↓C.catnaplaw4_ConfCopies_r21_w, C.catnaplaw4_ConfCopies_r21_b, ↓C.catnaplaw4_ConfCopies_b5_w, ↓C.catnaplaw4_ConfCopies_c6_w, ↓C.catnaplaw4_ConfCopies_c7_w, ↓C.catnaplaw4_ConfCopies_r19_w, C.catnaplaw4_ConfCopies_r19_b, ↓C.catnaplaw4_ConfCopies_b9_w, ↓C.catnaplaw4_ConfCopies_c10_w, ↓C.catnaplaw4_ConfCopies_r18_w, C.catnaplaw4_ConfCopies_r18_b, ↓C.catnaplaw4_ConfCopies_b11_w, ↓C.catnaplaw4_ConfCopies_c12_w, ↓C.catnaplaw4_ConfCopies_c13_w, ↓C.catnaplaw4_ConfCopies_r16_w, C.catnaplaw4_ConfCopies_r16_b, ↓C.catnaplaw4_ConfCopies_b15_w, ↓C.catnaplaw4_ConfCopies_c16_w, ↓C.catnaplaw4_ConfCopies_r15_w, C.catnaplaw4_ConfCopies_r15_b, ↓C.catnaplaw4_ConfCopies_r24_w, C.catnaplaw4_ConfCopies_r24_b, ↓C.catnaplaw4_ConfCopies_r26_w, C.catnaplaw4_ConfCopies_r26_b, ↓C.catnaplaw4_ConfCopies_r28_w, C.catnaplaw4_ConfCopies_r28_b, ↓C.catnaplaw4_ConfCopies_r30_w, C.catnaplaw4_ConfCopies_r30_b, ↓C.catnaplaw4_ConfCopies_r36_w, C.catnaplaw4_ConfCopies_r36_b, ↓C.catnaplaw4_ConfCopies_c17_w, ↓C.catnaplaw4_ConfCopies_r32_w, C.catnaplaw4_ConfCopies_r32_b, ↓C.catnaplaw4_ConfCopies_r11_w, C.catnaplaw4_ConfCopies_r11_b, ↓C.catnaplaw4_ConfCopies_c25_w, ↓C.catnaplaw4_ConfCopies_c26_w, ↓C.catnaplaw4_ConfCopies_c27_w, ↓C.catnaplaw4_ConfCopies_r31_w, C.catnaplaw4_ConfCopies_r31_b, ↓C.catnaplaw4_ConfCopies_c28_w, ↓C.catnaplaw4_ConfCopies_c29_w, ↓C.catnaplaw4_ConfCopies_c30_w, ↓C.catnaplaw4_ConfCopies_r29_w, C.catnaplaw4_ConfCopies_r29_b, ↓C.catnaplaw4_ConfCopies_c31_w, ↓C.catnaplaw4_ConfCopies_c32_w, ↓C.catnaplaw4_ConfCopies_c33_w, ↓C.catnaplaw4_ConfCopies_r27_w, C.catnaplaw4_ConfCopies_r27_b, ↓C.catnaplaw4_ConfCopies_c34_w, ↓C.catnaplaw4_ConfCopies_c35_w, ↓C.catnaplaw4_ConfCopies_c36_w, ↓C.catnaplaw4_ConfCopies_r25_w, C.catnaplaw4_ConfCopies_r25_b, ↓C.catnaplaw4_ConfCopies_c37_w, ↓C.catnaplaw4_ConfCopies_c38_w, ↓C.catnaplaw4_ConfCopies_c39_w, ↓C.catnaplaw4_ConfCopies_r23_w, C.catnaplaw4_ConfCopies_r23_b, ↓C.catnaplaw4_ConfCopies_c40_w, ↓C.catnaplaw4_ConfCopies_c41_w, ↓C.catnaplaw4_ConfCopies_c42_w, ↓C.catnaplaw4_ConfCopies_r14_w, C.catnaplaw4_ConfCopies_r14_b, ↓C.catnaplaw4_ConfCopies_c43_w, ↓C.catnaplaw4_ConfCopies_c44_w, ↓C.catnaplaw4_ConfCopies_c45_w, ↓C.catnaplaw4_ConfCopies_r12_w, C.catnaplaw4_ConfCopies_r12_b, ↓C.catnaplaw4_ConfCopies_b46_w, ↓C.catnaplaw4_ConfCopies_c47_w, ↓C.catnaplaw4_ConfCopies_r10_w, C.catnaplaw4_ConfCopies_r10_b, ↓C.catnaplaw4_ConfCopies_c48_w, ↓C.catnaplaw4_ConfCopies_r9_w, C.catnaplaw4_ConfCopies_r9_b, ↓C.catnaplaw4_ConfCopies_c49_w, ↓C.catnaplaw4_ConfCopies_r8_w, C.catnaplaw4_ConfCopies_r8_b, ↓C.catnaplaw4_ConfCopies_c50_w, ↓C.catnaplaw4_ConfCopies_c51_w, ↓C.catnaplaw4_ConfCopies_r7_w, C.catnaplaw4_ConfCopies_r7_b, ↓C.catnaplaw4_ConfCopies_c52_w, ↓C.catnaplaw4_ConfCopies_r6_w, C.catnaplaw4_ConfCopies_r6_b, ↓C.catnaplaw4_ConfCopies_c53_w, ↓C.catnaplaw4_ConfCopies_r5_w, C.catnaplaw4_ConfCopies_r5_b, ↓C.catnaplaw4_ConfCopies_c54_w, ↓C.catnaplaw4_ConfCopies_r4_w, C.catnaplaw4_ConfCopies_r4_b, ↓C.catnaplaw4_ConfCopies_c55_w, ↓C.catnaplaw4_ConfCopies_r3_w, C.catnaplaw4_ConfCopies_r3_b, ↓C.catnaplaw4_ConfCopies_c56_w, ↓C.catnaplaw4_ConfCopies_c57_w, ↓C.catnaplaw4_ConfCopies_r2_w, C.catnaplaw4_ConfCopies_r2_b, ↓C.catnaplaw4_ConfCopies_c58_w, ↓C.catnaplaw4_ConfCopies_r1_w, C.catnaplaw4_ConfCopies_r1_b, ↓C.catnaplaw4_ConfCopies_c59_w, ↓C.catnaplaw4_ConfCopies_r0_w, C.catnaplaw4_ConfCopies_r0_b, C.catnaplaw4_ConfCopies, Int.cast_ofNat_Int]
    refine awp_midB (fun _ : Unit => [(6, .ptr ib 0), (7, .ptr i1 0), (8, .ptr i2 0)]) (fun _ t => ∃ U, ChipBox s4 t i1 U ∧ U.sane ∧ U.devs.length = S.devs.length ∧ ∃ h : 0 < U.devs.length, U.devs[0].dom = (S.devs[0]'n4.1).dom) ?_ ?_
    rotate_left
    · rintro - t ⟨U, hB, hU, hUl, hU0, hUd⟩
      obtain ⟨b0, b1, b2, b3, L3, hBL, hbt, -⟩ := hB.four
      have hz0 : (0:Int) ≤ 0 ∧ (0 : Int) < (U.devs.length : Nat) := by omega
      have wr : IntKind.i64.wrap (U.devs[0].dom + 1) = U.devs[0].dom + 1 := by rw [wrap64] <;> omega
      obtain ⟨id, ws, q1, q2, q3, q4, q5⟩ := put_dev (i := 0) (j := 1) (c := { U.devs[0] with dom := U.devs[0].dom + 1 }) (v := .int .i64 (U.devs[0].dom + 1)) hBL hU0 (by omega) (RepL.scalars rfl _) rfl (by simp) (by simp) (by simp)
      cases q1
      obtain ⟨id', ws', q6, q7, q8⟩ := hBL.getS (o := 3) (sz := 6) (n := U.devs.length) (ds := U.devs.flatMap Dev.cells) (k := 0 * 6 + 1) (x := .int .i64 U.devs[0].dom) rfl (by omega) (rows_get Dev.cells Dev.cells_len hU0 (j := 1) (by omega)) rfl
      cases q6
      rw [q2] at q7; cases q7
      rw [Nat.zero_mul, Nat.zero_add] at q3 q5 q8
      simp only [↓Bp, Bq, Bs, ↓aop.eq_28, ↓aop.eq_30, Nat.reduceEqDiff, Nat.reduceAdd, Nat.reduceMul, Nat.reduceSub, Nat.reduceLeDiff, Nat.reduceLT, Int.reduceLT, Int.reduceLE, Int.reduceEq, Int.reduceToNat, Int.reduceAdd, Int.reduceSub, Int.reduceNeg, ↓reduceIte, reduceCtorEq, ↓C.catnaplaw4_ConfCopies_W, C.catnaplaw4_ConfCopies_B, C.catnaplaw4_ConfCopies, hbt, hz0, Nat.zero_mul, q2, q3, q8, wr]
      refine ⟨(), CopyIs.of hb h2 q5 (sane_dev hU (hU.vs U.devs[0] (List.getElem_mem hU0))) fun e => ?_⟩
      have e1 : U.devs.set 0 { U.devs[0] with dom := U.devs[0].dom + 1 } = S.devs := congrArg Soc.devs e
      have e2 : (U.devs.set 0 { U.devs[0] with dom := U.devs[0].dom + 1 })[0]? = S.devs[0]? := by rw [e1]
      rw [List.getElem?_eq_getElem n4.1, List.getElem?_eq_getElem (by simpa using hU0)] at e2
      have e3 := Option.some.inj e2
      rw [List.getElem_set_self] at e3
      rw [← e3] at hUd
      simp at hUd
      omega
    refine awp_loopK (fun k : Nat => [(6, .ptr ib 0), (7, .ptr i1 0), (8, .ptr i2 0), (9, .int .i64 d), (12, .int .i64 k)]) (fun k t => k ≤ m ∧ ∃ U, ChipBox s4 t i1 U ∧ U.sane ∧ U.devs.length = S.devs.length ∧ (∃ h : d < U.devs.length, U.devs[d].regs.length = m) ∧ ∃ h : 0 < U.devs.length, U.devs[0].dom = (S.devs[0]'n4.1).dom) (fun k => m - k) 0 rfl ⟨Nat.zero_le _, S, hB, hs, rfl, ⟨hdl, hm.symm⟩, n4.1, rfl⟩ ?_
    clear hm hBL hbt z0 z1 z2 z3 hB
    rintro k t ⟨hkm, U, hB, hU, hUl, ⟨hdU, hm⟩, hU0, hUd⟩
    obtain ⟨b0, b1, b2, b3, L3, hBL, hbt, -, -, -, z0⟩ := hB.four
    have hzi : (0:Int) ≤ (d : Int) ∧ (d : Int) < ((U.devs.length : Nat) : Int) := by omega
    have hcell : (U.devs.flatMap Dev.cells)[d * 6 + 4]? = some (.isl 2 (flat U.devs[d].regs) U.devs[d].regs.length) := rows_get Dev.cells Dev.cells_len hdU (j := 4) (by omega)
    obtain ⟨id, ws, w, p1, p2, p3, p4⟩ := hBL.len2 (o := 3) (n := U.devs.length) rfl (by omega) hcell
    cases p1
    by_cases hkl : k < m
    rotate_left
    · have hkl' : ¬ (k : Int) < ((U.devs[d].regs.length : Nat) : Int) := by omega
      simp only [↓Bp, Bq, Bs, ↓aop.eq_28, ↓aop.eq_30, Nat.reduceEqDiff, Nat.reduceAdd, Nat.reduceMul, Nat.reduceSub, Nat.reduceLeDiff, Nat.reduceLT, Int.reduceLT, Int.reduceLE, Int.reduceEq, Int.reduceToNat, Int.reduceAdd, Int.reduceSub, Int.reduceNeg, ↓reduceIte, reduceCtorEq, ↓C.catnaplaw4_ConfCopies_W, C.catnaplaw4_ConfCopies_B, C.catnaplaw4_ConfCopies, hbt, hzi, Int.toNat_natCast, p2, p3, p4, hkl']
      exact ⟨(), U, hB, hU, hUl, hU0, hUd⟩
    have hkl' : (k : Int) < ((U.devs[d].regs.length : Nat) : Int) := by omega
    have hzk : (0:Int) ≤ (k : Int) ∧ (k : Int) < ((U.devs[d].regs.length : Nat) : Int) := by omega
    have hwk := wsucc hkl (by omega)
    have hkr : k < U.devs[d].regs.length := by omega
    have hrg : (flat U.devs[d].regs)[k * 2 + 1]? = some (.bool (U.devs[d].regs[k]).ret) := rows_get encReg (fun _ => rfl) hkr (j := 1) (by omega)
    obtain ⟨id', ws', id2, ws2, r1, r2, r3, r4, r5, r6, r7, r8, L4, r9⟩ := hBL.put2 (v := .bool (!(U.devs[d].regs[k]).ret)) (j := k * 2 + 1) (x := .bool (U.devs[d].regs[k]).ret) (o := 3) (n := U.devs.length) rfl (by omega) hcell (by omega) hrg rfl rfl
    cases r1
    rw [p2] at r2; cases r2
    rw [p3] at r3; cases r3
    have hk2 : k * 2 + 1 < ws2.length := by rw [r5, flat_length]; omega
    simp only [↓Bp, Bq, Bs, ↓aop.eq_28, ↓aop.eq_30, Nat.reduceEqDiff, Nat.reduceAdd, Nat.reduceMul, Nat.reduceSub, Nat.reduceLeDiff, Nat.reduceLT, Int.reduceLT, Int.reduceLE, Int.reduceEq, Int.reduceToNat, Int.reduceAdd, Int.reduceSub, Int.reduceNeg, ↓reduceIte, reduceCtorEq, ↓C.catnaplaw4_ConfCopies_W, C.catnaplaw4_ConfCopies_B, C.catnaplaw4_ConfCopies, hbt, hzi, hzk, Int.toNat_natCast, Nat.zero_add, p2, p3, r4, r6, hkl', hk2, hwk]
    obtain ⟨g, hg⟩ : ∃ g : List Reg, g = U.devs[d].regs.set k { U.devs[d].regs[k] with ret := !(U.devs[d].regs[k]).ret } := ⟨_, rfl⟩
    have hgl : g.length = U.devs[d].regs.length := by rw [hg, List.length_set]
    have hre : (flat U.devs[d].regs).set (k * 2 + 1) (.bool (!(U.devs[d].regs[k]).ret)) = flat g := by
      rw [hg]; exact flatMap_set (f := encReg) (k := 2) (fun _ => rfl) hkr (by omega) rfl
    rw [hre, ← hgl] at r9
    have hxe := Soc.set_dev (S := U) (i := d) (j := 4) (c := { U.devs[d] with regs := g }) (v := .isl 2 (flat g) g.length) hdU (by omega) rfl
    refine ⟨k + 1, rfl, ⟨hkl, { U with devs := U.devs.set d { U.devs[d] with regs := g } }, ChipBox.mk' r9 hxe, sane_dev hU ⟨by simp only [hgl]; omega, (hU.vs U.devs[d] (List.getElem_mem hdU)).2⟩, by simpa using hUl, ⟨by simpa using hdU, by simp [hgl, hm]⟩, by simpa using hU0, ?_⟩, by omega⟩
    simp only [List.getElem_set]
    split
    · rename_i e; subst e; exact hUd
    · exact hUd
  · have hdle : d ≤ S.devs.length := by omega
    have hz4 : (0 : Int) ≤ ((d : Nat) : Int) := by omega
    obtain ⟨id, ws, Lw, e1, e2, e3, e5, e6, e7, e8⟩ := hBL.2.1.inner (i := 3) (sz := 6) (n := S.devs.length) (ds := S.devs.flatMap Dev.cells) rfl (by omega)
    cases e1
    simp only [↓Bp, Bq, Bs, ↓aop.eq_28, ↓aop.eq_30, Nat.reduceEqDiff, Nat.reduceAdd, Nat.reduceMul, Nat.reduceSub, Nat.reduceLeDiff, Nat.reduceLT, Int.reduceLT, Int.reduceLE, Int.reduceEq, Int.reduceToNat, Int.reduceAdd, Int.reduceSub, Int.reduceNeg, ↓reduceIte, reduceCtorEq, ↓C.catnaplaw4_ConfCopies_W, C.catnaplaw4_ConfCopies_B, C.catnaplaw4_ConfCopies, Int.cast_ofNat_Int, hbt, hz4, hdle, Int.toNat_natCast, Nat.le_refl, Nat.zero_le, Nat.zero_mul, Nat.sub_zero]
    have n1b : ib ≠ i1 := by rintro rfl; have := hBL.2.2.2.2.1; rw [hb] at this; cases this
    have n12 : i2 ≠ i1 := by rintro rfl; have := hBL.2.2.2.2.1; rw [h2] at this; cases this
    refine ⟨fun _ => trivial, (), ?_, ?_, [a0, a1, a2, .sl 6 id 0 d], { S with devs := S.devs.take d }, ?_, rfl, view_take hBL.2.1 (fun j hj => ?_) hdle, ?_, fun e => ?_⟩
    · rw [ASt.set_h, if_neg n1b]; exact hBL.2.2.2.2.2 _ _ hb
    · rw [ASt.set_h, if_neg n12]; exact hBL.2.2.2.2.2 _ _ h2
    · rw [ASt.set_h, if_pos rfl, hbt]; rfl
    · rw [ASt.set_h, if_neg (by rintro rfl; exact hBL.2.2.1 hj)]
    · exact ⟨hs.c, hs.d, hs.r, by have := hs.v; simp; omega, hs.cs, fun x hx => hs.vs x (List.mem_of_mem_take hx)⟩
    · have := congrArg (fun s : Soc => s.devs.length) e
      simp at this
      omega
end Go.Proofs.Ytjamidgdhmjhaaa.Cn
