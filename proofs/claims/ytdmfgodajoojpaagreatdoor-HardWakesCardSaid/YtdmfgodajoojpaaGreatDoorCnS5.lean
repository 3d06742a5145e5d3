/- YtdmfgodajoojpaaGreatDoor: proofs of this seat, texts CnHard10, CnHardS, CnHWa, CnHWb, CnHWakes: what each shows stands at its theorems; no condition. -/
import Derived.Test.YtdmfgodajoojpaaGreatDoorCnS4
/- The chip: how it is put together. -/
set_option linter.unusedSimpArgs false
set_option linter.unusedVariables false
set_option maxRecDepth 100000
namespace Go.Proofs.YtdmfgodajoojpaaGreatDoor.Cn
open Go Go.Proofs

structure Rides (R : ASt → ASt → Prop) : Prop where
  le : ∀ {st s}, R st s → st.le s
  kill : ∀ {st s i}, R st s → st.h i ≠ none → R (st.kill i) (s.kill i)
  loc : ∀ {st s i}, R st s → s.h i = none → ∀ o, R (st.new i o) (s.new i o)
  step : ∀ {st s s'}, R st s → s.le s' → R st s'
theorem aop_append_rides {R : ASt → ASt → Prop} (hR : Rides R) {P : Program} {sz b : Nat} {zs : List AV} {parts : List (Nat × Nat × IArg)} {x y : IArg} {fr : AFr} {st st1 t : ASt} {F : AV → AFr} {K : AV → AV → ASt → Prop} {tv : AV} {n : Nat} {cs new : List AV}
    (h : R st1 t) (hown : Over st st1 sz tv n cs) (hn : n + 1 ≤ 4294967296) (hnew : aput (zeros zs 1) (parts.map fun p => (p.1, p.2.1, fr.val p.2.2)) = .some new) (hlen : new.length = sz) (hleaf : allLeaf new = true)
    (hx : ∀ v1, (F v1).val x = tv) (hy : ∀ v1, (F v1).val y = v1)
    (hk : ∀ v1 v2 st2 t2, R st2 t2 → Over st st2 sz v2 (n + 1) (cs ++ new) → (∀ j o, st1.h j = some o → (∀ sz i off n, tv = .sl sz i off n → j ≠ i) → st2.h j = some o) → K v1 v2 t2) :
    aop P (.buildSlice sz 1 zs parts) fr t (fun v1 st1 => aop P (.append sz b x y) (F v1) st1 (K v1)) := by
  have hs : Shows t sz tv n cs := by
    obtain ⟨h1, h2⟩ := hown.1
    refine ⟨h1, h2.imp (fun x => x) fun ⟨i, e, hi⟩ => ⟨i, e, hR.le h _ _ hi⟩⟩
  refine aop_append_one hs hn hnew hlen hleaf hx hy fun v1 i2 t2 h1 h2 h3 => ?_
  have hkill : R (st1.without tv) (t.without tv) := by
    rcases hown.1.2 with ⟨_, rfl⟩ | ⟨i, rfl, hi⟩
    · exact h
    · exact hR.kill h (by rw [hi]; simp)
  have hle := hown.2.1.without hown.2.2
  have hf : (st1.without tv).h i2 = none := fresh_of_le (hR.le hkill) h1
  have hfs : st.h i2 = none := fresh_of_le hle hf
  obtain ⟨q1, q2⟩ := h3
  rcases q2 with ⟨q2, _⟩ | ⟨i, q2, q3⟩
  · omega
  cases q2
  refine hk v1 _ ((st1.without tv).new i2 (.cells (cs ++ new))) t2 (hR.step (hR.loc hkill h1 (.cells (cs ++ new))) fun j o hj => ?_) ⟨⟨q1, .inr ⟨i2, rfl, ASt.new_self _ hf⟩⟩, hle.trans (ASt.le.new _ _ _), fun sz i off n e => ?_⟩ fun j o hj hn => ASt.new_old ?_
  · by_cases e : j = i2
    · subst e; rw [ASt.new_self _ h1] at hj; rw [q3]; exact hj
    · rw [ASt.new_ne _ e] at hj; exact h2 _ _ hj
  · cases e; exact hfs
  · rcases hown.1.2 with ⟨_, rfl⟩ | ⟨i, rfl, hi⟩
    · exact hj
    · show (st1.kill i).h j = _
      rw [ASt.kill_h, if_neg (hn _ _ _ _ rfl)]; exact hj
section
variable {st st1 s s' : ASt} {ib m : Nat} {a : HA} {T : Nat → Nat} {S : Soc} {v : HV}
theorem HC.base0 (h : HC st s ib a T S v m) (hk : Keeps T 0 s s') (hl : st1.le s') (h0 : ∀ j, st1.h j ≠ none → T j = 0) : HC st1 s' ib a T S v m where
  le := hl
  tag0 := h0
  hb := hk.at_ h.hb h.Tb (by omega)
  Tb := h.Tb
  tree := h.tree.kept h.Tt hk (by omega)
  Tt := h.Tt
  grid := h.grid.kept h.Tg hk (by omega)
  Tg := h.Tg
  lines := h.lines.kept h.Tl hk (by omega)
  Tl := h.Tl
  files := fun i hi hm => ⟨(h.files i hi hm).1.kept (h.files i hi hm).2 hk (by omega), (h.files i hi hm).2⟩
  ports := fun i hm => ⟨hk.at_ (h.ports i hm).1 (h.ports i hm).2.1 (by omega), (h.ports i hm).2⟩
  kof := h.kof
  ginv := h.ginv
  linv := h.linv
theorem HC.step (h : HC st s ib a T S v m) (hl : s.le s') : HC st s' ib a T S v m := h.keep (k := 1) (Keeps.of_le hl) (.inl rfl)
theorem HC.move (h : HC st s ib a T S v m) {T' : Nat → Nat} (hT : ∀ j, s.h j ≠ none → T j ≠ 0 → T' j = T j) (hl : st1.le s) (h0 : ∀ j, st1.h j ≠ none → T' j = 0) : HC st1 s ib a T' S v m where
  le := hl
  tag0 := h0
  hb := h.hb
  Tb := by rw [hT ib (by rw [h.hb]; simp) (by rw [h.Tb]; omega)]; exact h.Tb
  tree := h.tree
  Tt := ⟨by rw [hT a.tp (by rw [h.tree.hp]; simp) (by rw [h.Tt.1]; omega)]; exact h.Tt.1, by rw [hT a.tg (by rw [h.tree.hg]; simp) (by rw [h.Tt.2]; omega)]; exact h.Tt.2⟩
  grid := h.grid
  Tg := ⟨by rw [hT a.gp (by rw [h.grid.hp]; simp) (by rw [h.Tg.1]; omega)]; exact h.Tg.1, by rw [hT a.gg (by rw [h.grid.hg]; simp) (by rw [h.Tg.2]; omega)]; exact h.Tg.2⟩
  lines := h.lines
  Tl := ⟨by rw [hT a.lp (by rw [h.lines.hp]; simp) (by rw [h.Tl.1]; omega)]; exact h.Tl.1, by rw [hT a.lm (by rw [h.lines.hm]; simp) (by rw [h.Tl.2]; omega)]; exact h.Tl.2⟩
  files := fun i hi hm => by
    obtain ⟨hf, t1, t2, t3⟩ := h.files i hi hm
    obtain ⟨⟨mm, h1, h2⟩, h3, h4, _⟩ := hf
    exact ⟨(h.files i hi hm).1, by rw [hT _ (by rw [h2]; simp) (by omega)]; exact t1, by rw [hT _ (by rw [h3]; simp) (by omega)]; exact t2, by rw [hT _ (by rw [h4]; simp) (by omega)]; exact t3⟩
  ports := fun i hm => ⟨(h.ports i hm).1, by rw [hT _ (by rw [(h.ports i hm).1]; simp) (by rw [(h.ports i hm).2.1]; omega)]; exact (h.ports i hm).2.1, (h.ports i hm).2.2⟩
  kof := h.kof
  ginv := h.ginv
  linv := h.linv
def HCX (ib : Nat) (a : HA) (S : Soc) (v : HV) (m : Nat) (st s : ASt) : Prop := ∃ T, HC st s ib a T S v m
theorem HCX.rides : Rides (HCX ib a S v m) where
  le := fun h => h.elim fun _ h => h.le
  kill := fun {st s i} h hi => by
    obtain ⟨T, h⟩ := h
    have h0 := h.tag0 i hi
    have hle : (st.kill i).le (s.kill i) := fun j x hj => by
      rw [ASt.kill_h] at hj ⊢
      split
      · rename_i e; rw [if_pos e] at hj; cases hj
      · rename_i e; rw [if_neg e] at hj; exact h.le _ _ hj
    exact ⟨T, h.base0 (fun j o hj hn => by rw [ASt.kill_h, if_neg (by rintro rfl; exact hn h0)]; exact hj) hle fun j hj => h.tag0 j (ASt.kill_live hj).2⟩
  loc := fun {st s i} h hi o => by
    obtain ⟨T, h⟩ := h
    have hle := h.le
    refine ⟨fun j => if j = i then 0 else T j, ((h.retag (fun j hj => ?_)).step (ASt.le.new s i o)).base0 (Keeps.refl _ _ _) (hle.newB hi o) fun j hj => ?_⟩
    · show (if j = i then 0 else T j) = T j
      rw [if_neg (by rintro rfl; exact hj hi)]
    · by_cases e : j = i
      · simp [e]
      · simp only [if_neg e]
        rw [ASt.new_ne _ e] at hj
        exact h.tag0 j hj
  step := fun h hl => h.imp fun _ h => h.step hl
theorem HCX.locSet (h : HCX ib a S v m st s) {ix : Nat} (hi : st.h ix ≠ none) (o : AObj) : HCX ib a S v m (st.set ix o) (s.set ix o) := by
  obtain ⟨T, h⟩ := h
  have h0 := h.tag0 ix hi
  refine ⟨T, h.base0 (Keeps.set h0) (h.le.setB ix o) fun j hj => h.tag0 j ?_⟩
  rw [ASt.set_h] at hj
  split at hj
  · rename_i e; subst e; exact hi
  · exact hj
structure HCF (ib : Nat) (a : HA) (S : Soc) (v : HV) (i id idn ids : Nat) (st s : ASt) : Prop where
  ex : ∃ T, HC st s ib a T S v i ∧ (∃ h : i < S.devs.length, FileF s id idn ids S.devs[i].regs (v.F i).now (v.F i).saved (v.F i).kept) ∧ T id = 10 + 3 * i ∧ T idn = 10 + 3 * i ∧ T ids = 10 + 3 * i
theorem HCX.file {i id idn ids : Nat} (h : HCX ib a S v i st s) (hl : s.le s') (hi : i < S.devs.length) (hf : FileF s' id idn ids S.devs[i].regs (v.F i).now (v.F i).saved (v.F i).kept) (f1 : s.h id = none) (f2 : s.h idn = none) (f3 : s.h ids = none) :
    HCF ib a S v i id idn ids st s' := by
  obtain ⟨T, h⟩ := h
  have hT : ∀ j, s.h j ≠ none → (fun j => if j = id ∨ j = idn ∨ j = ids then 10 + 3 * i else T j) j = T j := fun j hj => by
    simp only
    rw [if_neg]
    rintro (rfl | rfl | rfl)
    · exact hj f1
    · exact hj f2
    · exact hj f3
  exact ⟨_, (h.retag hT).step hl, ⟨hi, hf⟩, if_pos (.inl rfl), if_pos (.inr (.inl rfl)), if_pos (.inr (.inr rfl))⟩
theorem HCF.locSet {i id idn ids : Nat} (h : HCF ib a S v i id idn ids st s) {ix : Nat} (hi : st.h ix ≠ none) (o : AObj) : HCF ib a S v i id idn ids (st.set ix o) (s.set ix o) := by
  obtain ⟨T, h, ⟨hil, hf⟩, t⟩ := h
  have h0 := h.tag0 ix hi
  refine ⟨T, h.base0 (Keeps.set h0) (h.le.setB ix o) fun j hj => h.tag0 j ?_, ⟨hil, hf.kept t (Keeps.set h0) (by omega)⟩, t⟩
  rw [ASt.set_h] at hj
  split at hj
  · rename_i e; subst e; exact hi
  · exact hj
theorem HCF.le {i id idn ids : Nat} (h : HCF ib a S v i id idn ids st s) : st.le s := by
  obtain ⟨T, h, _⟩ := h; exact h.le
theorem HCF.fileAt {i id idn ids : Nat} (h : HCF ib a S v i id idn ids st s) : ∃ h : i < S.devs.length, FileF s id idn ids S.devs[i].regs (v.F i).now (v.F i).saved (v.F i).kept := by
  obtain ⟨T, h, hf, _⟩ := h; exact hf
theorem HCF.port {i id idn ids p : Nat} (h : HCF ib a S v i id idn ids st s) (hp : s.h p = none) (ho : v.O i = (0, 0)) :
    HCX ib { a with fp := upF a.fp i id, fn := upF a.fn i idn, fs := upF a.fs i ids, pp := upF a.pp i p } S v (i + 1) st (s.new p (.cells [.int .i64 0, .int .i64 0])) := by
  obtain ⟨T, h, ⟨hil, hf⟩, t1, t2, t3⟩ := h
  have hT : ∀ j, s.h j ≠ none → (fun j => if j = p then 11 + 3 * i else T j) j = T j := fun j hj => by
    simp only
    rw [if_neg (by rintro rfl; exact hj hp)]
  have hle := ASt.le.new s p (.cells [.int .i64 0, .int .i64 0])
  have h2 := (h.retag hT).step hle
  have hf2 := hf.le hle
  obtain ⟨⟨mm, f1, f2⟩, f3, f4, _⟩ := hf
  have k1 := hT id (by rw [f2]; simp)
  have k2 := hT idn (by rw [f3]; simp)
  have k3 := hT ids (by rw [f4]; simp)
  refine ⟨fun j => if j = p then 11 + 3 * i else T j, { le := h2.le, tag0 := h2.tag0, hb := h2.hb, Tb := h2.Tb, tree := h2.tree, Tt := h2.Tt, grid := h2.grid, Tg := h2.Tg, lines := h2.lines, Tl := h2.Tl, files := fun j hj hm => ?_, ports := fun j hm => ?_, kof := h2.kof, ginv := h2.ginv, linv := h2.linv }⟩
  · by_cases e : j = i
    · subst e
      show FileF _ (upF a.fp j id j) (upF a.fn j idn j) (upF a.fs j ids j) _ _ _ _ ∧ _
      simp only [upF_at]
      exact ⟨hf2, k1.trans t1, k2.trans t2, k3.trans t3⟩
    · show FileF _ (upF a.fp i id j) (upF a.fn i idn j) (upF a.fs i ids j) _ _ _ _ ∧ _
      simp only [upF_ne e]
      exact h2.files j hj (by omega)
  · by_cases e : j = i
    · subst e
      show ASt.h _ (upF a.pp j p j) = _ ∧ _
      simp only [upF_at, ho]
      exact ⟨ASt.new_self _ hp, by simp, by omega, by omega⟩
    · show ASt.h _ (upF a.pp i p j) = _ ∧ _
      simp only [upF_ne e]
      exact h2.ports j (by omega)
def HV.fresh (S : Soc) : HV := ⟨cfresh S.clocks, gfresh S.doms, freshL S.rsts, fun i => ⟨match S.devs[i]? with | some d => resets d.regs | .none => fun _ => 0, fun _ => 0, false⟩, fun _ => (0, 0), fun _ => [], 0⟩
theorem fresh_F {i : Nat} (h : i < S.devs.length) : (HV.fresh S).F i = ⟨resets S.devs[i].regs, fun _ => 0, false⟩ := by
  simp only [HV.fresh, List.getElem?_eq_getElem h]
def manyL (S : Soc) : List Int := S.devs.map fun d => (d.regs.length : Int)
theorem devsC_congr {a' : HA} {n : Nat} (h : ∀ j, j < n → a'.fp j = a.fp j ∧ a'.pp j = a.pp j) : devsC S a' n = devsC S a n := by
  unfold devsC
  rw [List.flatMap_def, List.flatMap_def]
  congr 1
  apply List.map_congr_left
  intro j hj
  obtain ⟨h1, h2⟩ := h j (by simpa using hj)
  unfold devC
  rw [h1, h2]
theorem devsC_succ (n : Nat) : devsC S a (n + 1) = devsC S a n ++ devC S a n := by
  unfold devsC
  rw [List.range_succ, List.flatMap_append]; simp
def Made (st : ASt) (ib hp mm tp gp lp : Nat) (S : Soc) (i : Nat) (t : ASt) : Prop :=
  ∃ st1 a dvv, HCX ib a S (HV.fresh S) i st1 t ∧ Over st st1 6 dvv i (devsC S a i) ∧ a.hp = hp ∧ a.tp = tp ∧ a.gp = gp ∧ a.lp = lp ∧ st1.h hp = some (.cells [.ptr tp 0, .ptr gp 0, .ptr lp 0, .nilp, dvv]) ∧
    st1.h mm = some (.cells (ints (firstZ (manyL S) i)))
set_option maxHeartbeats 2000000 in
theorem hnew {st : ASt} {ib : Nat} (hib : st.h ib = none) (hk : S.like) : ACalls Tryz.prog F.q95 [.agg S.cells] (st.new ib (.cells S.cells)) fun r s' => ∃ a, r = .tup [.ptr a.hp 0, .int .i64 0] ∧ HX st s' ib a S (HV.fresh S) := by
  have hs := hk.sane
  have n1 := hk.nc; have n2 := hk.nd; have n3 := hk.nr; have n4 := hk.nv
  have lc : S.cells.length = 4 := rfl
  have e4 : AV.agg (List.take 4 S.cells) = .agg S.cells := rfl
  have hb0 := ASt.new_self (.cells S.cells) hib
  have hle0 := ASt.le.new st ib (.cells S.cells)
  refine calls_of_awp L.q95 rfl ?_
  generalize st.new ib (.cells S.cells) = s0 at hb0 hle0
  simp only [↓Bt, Bu, simprocAttr, ↓C.bn_w, C.bn_b, C.q95]
  intro i1 hi1
  have hle1 := ASt.le.new s0 i1 (.cells S.cells)
  have hx1 := ASt.new_self (.cells S.cells) hi1
  have hb1 := hle1 _ _ hb0
  generalize s0.new i1 (.cells S.cells) = s1 at hle1 hx1 hb1
  simp only [↓Bt, Bu, simprocAttr, ↓C.q95_W, C.q95_B, C.q95, hx1, lc, e4]
  refine (conf_check_spec hs.fine).mono ?_
  rintro r s1' ⟨rfl, rfl⟩
  simp only [↓Bt, Bu, simprocAttr, ↓C.q95_W, C.q95_B, C.q95, hk.right, hx1, lc, e4]
  refine (cnew_spec hs hs.fine hk.right (by omega) (by omega)).mono ?_
  rintro r s2 ⟨tp, tg, rfl, hT, htp, htg, hle2⟩
  have hx2 := hle2 _ _ hx1
  simp only [↓Bt, Bu, simprocAttr, ↓C.q95_W, C.q95_B, C.q95, hx2, lc, e4]
  refine (gnew_spec hs.fine hk.right (by omega) (by omega)).mono ?_
  rintro r s3 ⟨gp, gg, rfl, hG, hgp, hgg, hle3⟩
  have hx3 := hle3 _ _ hx2
  simp only [↓Bt, Bu, simprocAttr, ↓C.q95_W, C.q95_B, C.q95, hx3, lc, e4]
  refine (new_spec hs.fine (by omega)).mono ?_
  rintro r s4 (⟨e, _⟩ | ⟨_, lp, lm, rfl, hL, hlp, hlm, hle4⟩)
  · exact absurd hk.right e
  have hx4 := hle4 _ _ hx3
  simp only [↓Bt, Bu, simprocAttr, ↓C.z118, C.z39, ↓C.bn_w, C.bn_b, C.q95]
  intro hp hhp
  have htpS : st.h tp = none := fresh_of_le (hle0.trans hle1) htp
  have htgS : st.h tg = none := fresh_of_le (hle0.trans hle1) htg
  have hgpS : st.h gp = none := fresh_of_le ((hle0.trans hle1).trans hle2) hgp
  have hggS : st.h gg = none := fresh_of_le ((hle0.trans hle1).trans hle2) hgg
  have hlpS : st.h lp = none := fresh_of_le (((hle0.trans hle1).trans hle2).trans hle3) hlp
  have hlmS : st.h lm = none := fresh_of_le (((hle0.trans hle1).trans hle2).trans hle3) hlm
  have hleS : st.le s4 := (((hle0.trans hle1).trans hle2).trans hle3).trans hle4
  have dj : ∀ {x y : Nat} {t : ASt} {o : AObj}, t.h x = some o → t.h y = none → y ≠ x := fun h1 h2 => by rintro rfl; rw [h1] at h2; cases h2
  have hb2 := hle2 _ _ hb1
  have hb3 := hle3 _ _ hb2
  have hC : HCX ib ⟨hp, tp, tg, gp, gg, lp, lm, 0, 0, 0, 0, fun _ => 0, fun _ => 0, fun _ => 0, fun _ => 0⟩ S (HV.fresh S) 0 st s4 := by
    refine ⟨fun j => if j = ib then 7 else if j = tp ∨ j = tg then 2 else if j = gp ∨ j = gg then 3 else if j = lp ∨ j = lm then 4 else 0, { le := hleS, tag0 := fun j hj => ?_, hb := hle4 _ _ hb3, Tb := if_pos rfl, tree := (hT.le hle3).le hle4, Tt := ?_, grid := hG.le hle4, Tg := ?_, lines := hL, Tl := ?_, files := fun i hi hm => absurd hm (by omega), ports := fun i hm => absurd hm (by omega), kof := KOf.fresh hk.clk, ginv := GInv.fresh hk.dom, linv := LInv.fresh fun x hx => ?_ }⟩
    · have ne : ∀ {x}, st.h x = none → j ≠ x := fun h => by rintro rfl; exact hj h
      simp [ne hib, ne htpS, ne htgS, ne hgpS, ne hggS, ne hlpS, ne hlmS]
    · exact ⟨by simp [dj hb1 htp], by simp [dj hb1 htg]⟩
    · have x1 := hT.hp
      have x2 := hT.hg
      exact ⟨by simp [dj hb2 hgp, dj x1 hgp, dj x2 hgp], by simp [dj hb2 hgg, dj x1 hgg, dj x2 hgg]⟩
    · have x1 := (hT.le hle3).hp
      have x2 := (hT.le hle3).hg
      have x3 := hG.hp
      have x4 := hG.hg
      exact ⟨by simp [dj hb3 hlp, dj x1 hlp, dj x2 hlp, dj x3 hlp, dj x4 hlp], by simp [dj hb3 hlm, dj x1 hlm, dj x2 hlm, dj x3 hlm, dj x4 hlm]⟩
    · obtain ⟨i, hi, rfl⟩ := List.getElem_of_mem hx
      have := hk.rst i hi
      omega
  have hhpS : st.h hp = none := fresh_of_le hleS hhp
  have hC1 := HCX.rides.loc hC hhp (.cells [.ptr tp 0, .ptr gp 0, .ptr lp 0, .nilp, .nils])
  have hP1 := ASt.new_self (.cells [.ptr tp 0, .ptr gp 0, .ptr lp 0, .nilp, .nils]) hhpS
  have hleP := ASt.le.new st hp (.cells [.ptr tp 0, .ptr gp 0, .ptr lp 0, .nilp, .nils])
  have hx5 := ASt.new_old (id := hp) (o := .cells [.ptr tp 0, .ptr gp 0, .ptr lp 0, .nilp, .nils]) hx4
  generalize s4.new hp (.cells [.ptr tp 0, .ptr gp 0, .ptr lp 0, .nilp, .nils]) = s5 at hC1 hx5
  generalize st.new hp (.cells [.ptr tp 0, .ptr gp 0, .ptr lp 0, .nilp, .nils]) = b1 at hC1 hP1 hleP
  have hz : (0 : Int) ≤ ((S.devs.length : Nat) : Int) ∧ ((S.devs.length : Nat) : Int) ≤ 4294967296 := by omega
  have hx5' := hx5
  rw [Soc.cells, Soc.clkV, Soc.domV, Soc.rstV, Soc.devV] at hx5'
  simp only [↓Bt, Bu, simprocAttr, ↓C.dd_w, C.dd_b, ↓C.bmh_w, ↓C.z118, C.z39, ↓C.bn_w, C.bn_b, C.q95, hx5', hz, Int.toNat_natCast, zeros_i64]
  intro mm hmm
  have hmmB : b1.h mm = none := fresh_of_le (HCX.rides.le hC1) hmm
  have hC2 := HCX.rides.loc hC1 hmm (.cells (ints (List.replicate S.devs.length 0)))
  have hM2 := ASt.new_self (.cells (ints (List.replicate S.devs.length 0))) hmmB
  have hP2 := ASt.new_old (id := mm) (o := .cells (ints (List.replicate S.devs.length 0))) hP1
  have hle6 := hleP.trans (ASt.le.new b1 mm (.cells (ints (List.replicate S.devs.length 0))))
  have hx6 := ASt.new_old (id := mm) (o := .cells (ints (List.replicate S.devs.length 0))) hx5'
  have hmmS : st.h mm = none := fresh_of_le hleP hmmB
  have hpm : ¬ hp = mm := fun e => by rw [e, hmmB] at hP1; cases hP1
  generalize s5.new mm (.cells (ints (List.replicate S.devs.length 0))) = s6 at hC2 hx6
  generalize b1.new mm (.cells (ints (List.replicate S.devs.length 0))) = b2 at hC2 hM2 hP2 hle6
  have hml : (manyL S).length = S.devs.length := by simp [manyL]
  simp only [↓Bt, Bu, simprocAttr, ↓C.z119, C.b9_b, ↓C.z120, C.b8_b, ↓C.z121, C.dj_b, ↓C.z116, C.d8_b, C.d7_b, ↓C.z117, C.dh_b, ↓C.z115, C.dg_b, C.df_b, ↓C.bq2_w, ↓C.bq8_w, ↓C.nb_w, C.nb_b, ↓C.bq9_w, ↓C.dd_w, C.dd_b, ↓C.bmh_w, ↓C.z118, C.z39, ↓C.bn_w, C.bn_b, C.q95, hx6]
  refine awp_midB (fun _ : Unit => [(9, .ptr hp 0), (10, .sl 1 mm 0 S.devs.length)]) (fun _ t => Made st ib hp mm tp gp lp S S.devs.length t) ?_ ?_
  rotate_left
  · rintro - t ⟨st1, a, dvv, ⟨T, hC⟩, hO, ea, et, eg, el, hH, hM⟩
    rw [← hml, firstZ_all] at hM
    have hMt := hC.le _ _ hM
    have hHt := hC.le _ _ hH
    have hbn := bnew_spec hMt (by omega) (fun x hx => by
      simp only [manyL, List.mem_map] at hx
      obtain ⟨d, hd, rfl⟩ := hx
      obtain ⟨i, hi, rfl⟩ := List.getElem_of_mem hd
      have := (hk.dev i hi).regs
      omega)
    rw [hml] at hbn
    simp only [↓Bt, Bu, simprocAttr, ↓C.q95_W, C.q95_B, C.q95]
    refine hbn.mono ?_
    rintro r t2 ⟨bp, br, bw, rfl, hB⟩
    have hHt2 := hB.le _ _ hHt
    simp only [↓Bt, Bu, simprocAttr, ↓C.q95_W, C.q95_B, C.q95, hHt2]
    obtain ⟨dv, rfl, hdv⟩ : ∃ dv, dvv = .sl 6 dv 0 S.devs.length ∧ st1.h dv = some (.cells (devsC S a S.devs.length)) := by
      rcases hO.1.2 with ⟨e, _⟩ | h
      · omega
      · exact h
    have hdvS : st.h dv = none := hO.2.2 _ _ _ _ rfl
    have nhp : ¬ dv = hp := by
      rintro rfl
      rw [hdv] at hH
      have := congrArg (fun o : Option AObj => match o with | some (.cells cs) => cs.length | _ => 0) hH
      simp [devsC_len] at this
      omega
    have hdt := hC.le _ _ hdv
    have hdt2 := hB.le _ _ hdt
    have nbp : ¬ bp = hp := by rintro rfl; have := hB.fp; rw [hHt] at this; cases this
    have nbr : ¬ br = hp := by rintro rfl; have := hB.fr; rw [hHt] at this; cases this
    have nbw : ¬ bw = hp := by rintro rfl; have := hB.fw; rw [hHt] at this; cases this
    have mbp : ¬ bp = dv := by rintro rfl; have := hB.fp; rw [hdt] at this; cases this
    have mbr : ¬ br = dv := by rintro rfl; have := hB.fr; rw [hdt] at this; cases this
    have mbw : ¬ bw = dv := by rintro rfl; have := hB.fw; rw [hdt] at this; cases this
    obtain ⟨T', hT'⟩ : ∃ T' : Nat → Nat, T' = fun j => if j = hp then 1 else if j = dv then 6 else if j = bp ∨ j = br ∨ j = bw then 5 else T j := ⟨_, rfl⟩
    have thp : T' hp = 1 := by rw [hT']; simp
    have tdv : T' dv = 6 := by rw [hT']; simp [nhp]
    have tbp : T' bp = 5 := by rw [hT']; simp [nbp, mbp]
    have tbr : T' br = 5 := by rw [hT']; simp [nbr, mbr]
    have tbw : T' bw = 5 := by rw [hT']; simp [nbw, mbw]
    have hsl : st.le t := hO.2.1.trans hC.le
    have ne : ∀ {j x : Nat} {u : ASt}, u.h j ≠ none → u.h x = none → ¬ j = x := fun h1 h2 => by rintro rfl; exact h1 h2
    have hC2 : HC st t ib a T' S (HV.fresh S) S.devs.length := hC.move (fun j hj h0 => by
      have j1 : ¬ j = hp := fun e => h0 (by rw [e]; exact hC.tag0 _ (by rw [hH]; simp))
      have j2 : ¬ j = dv := fun e => h0 (by rw [e]; exact hC.tag0 _ (by rw [hdv]; simp))
      rw [hT']
      simp [j1, j2, ne hj hB.fp, ne hj hB.fr, ne hj hB.fw]) hsl (fun j hj => by
      have j1 : ¬ j = hp := ne hj hhpS
      have j2 : ¬ j = dv := ne hj hdvS
      have j3 : ¬ j = bp := ne hj (fresh_of_le hsl hB.fp)
      have j4 : ¬ j = br := ne hj (fresh_of_le hsl hB.fr)
      have j5 : ¬ j = bw := ne hj (fresh_of_le hsl hB.fw)
      have j6 : T j = 0 := hC.tag0 j (by
        cases e : st.h j with
        | none => exact absurd e hj
        | some o => rw [hO.2.1 _ _ e]; simp)
      rw [hT']
      simp [j1, j2, j3, j4, j5, j6])
    have hK : Keeps T' 1 t2 (t2.set hp (.cells [.ptr tp 0, .ptr gp 0, .ptr lp 0, .ptr bp 0, .sl 6 dv 0 S.devs.length])) := Keeps.set thp
    have hC3 := (hC2.step hB.le).keep hK (.inl rfl)
    have hl2 : (manyL S).length = S.devs.length := hml
    refine ⟨{ a with bp := bp, br := br, bw := bw, dv := dv }, by rw [← ea], T', ⟨{ le := hC3.le, tag0 := hC3.tag0, hb := hC3.hb, Tb := hC3.Tb, tree := hC3.tree, Tt := hC3.Tt, grid := hC3.grid, Tg := hC3.Tg, lines := hC3.lines, Tl := hC3.Tl, files := hC3.files, ports := hC3.ports, kof := hC3.kof, ginv := hC3.ginv, linv := hC3.linv }, ?_, ?_, ⟨?_, ?_, ⟨List.replicate S.devs.length .nils, ?_, by simp, fun i hi => ?_⟩, ⟨tbp, tbr, tbw⟩, hB.n1, hB.n2, hB.n3⟩, ?_, tdv⟩⟩
    · show ASt.h _ a.hp = some (.cells [.ptr a.tp 0, .ptr a.gp 0, .ptr a.lp 0, .ptr bp 0, .sl 6 dv 0 S.devs.length])
      rw [ea, et, eg, el, ASt.set_h, if_pos rfl, hHt2]; rfl
    · show T' a.hp = 1
      rw [ea]; exact thp
    · rw [ASt.set_h, if_neg nbp, hB.hp, hl2]; rfl
    · rw [ASt.set_h, if_neg nbr, hB.hr]; rfl
    · rw [ASt.set_h, if_neg nbw, hB.hw, hl2]
    · rw [List.getElem_replicate]; exact .nil
    · rw [ASt.set_h, if_neg nhp, hdt2]
      rw [show devsC S { a with bp := bp, br := br, bw := bw, dv := dv } S.devs.length = devsC S a S.devs.length from devsC_congr fun j _ => ⟨rfl, rfl⟩]
  refine awp_loopK (fun i : Nat => [(9, .ptr hp 0), (10, .sl 1 mm 0 S.devs.length), (54, .isl 6 (S.devs.flatMap Dev.cells) S.devs.length), (55, .int .i64 S.devs.length), (56, .int .i64 i)]) (fun i t => i ≤ S.devs.length ∧ Made st ib hp mm tp gp lp S i t) (fun i => S.devs.length - i) 0 rfl ⟨Nat.zero_le _, b2, _, .nils, hC2, Over.nils hle6 6, rfl, rfl, rfl, rfl, hP2, by rw [firstZ_zero, hml]; exact hM2⟩ ?_
  clear hC2 hM2 hP2 hle6 hx6 hx5' hx5 hC1 hP1 hleP hC hmm hmmB hhp hL hG hT hx4 hx3 hx2 hx1 hb1 hb0 hb2 hb3
  rintro i t ⟨hi, st1, a, dvv, hC, hO, ea, et, eg, el, hH, hM⟩
  by_cases hil : i < S.devs.length
  rotate_left
  · have hie : i = S.devs.length := by omega
    subst hie
    have hil' : ¬ ((S.devs.length : Nat) : Int) < (S.devs.length : Nat) := by omega
    simp only [↓Bt, Bu, simprocAttr, ↓C.q95_W, C.q95_B, C.q95, hil']
    exact ⟨(), st1, a, dvv, hC, hO, ea, et, eg, el, hH, hM⟩
  have hil' : (i : Int) < (S.devs.length : Nat) := by omega
  have hw := wsucc hil (by omega)
  have hzi : (0:Int) ≤ (i : Int) ∧ (i : Int) < (S.devs.length : Int) := by omega
  have hfit := flatMap_fits (f := Dev.cells) (k := 6) Dev.cells_len (l := S.devs) hil
  have hat := flatMap_at (f := Dev.cells) (k := 6) Dev.cells_len (l := S.devs) hil
  have dl : S.devs[i].cells.length = 6 := rfl
  have df : allLeaf S.devs[i].cells = true := rfl
  simp only [↓Bt, Bu, simprocAttr, ↓C.z119, C.b9_b, ↓C.z115, C.dg_b, C.df_b, hil', hzi, Int.toNat_natCast, hfit, hat]
  intro ix hix
  simp only [↓Bt, Bu, simprocAttr, ↓C.z119, C.b9_b, ↓C.z115, C.dg_b, C.df_b, hix, dl, df]
  rw [ASt.new_set hix, putN_all (zs := [AV.int .i64 0, AV.int .i64 0, AV.int .i64 0, AV.int .u32 0, AV.nils, AV.nils]) (vs := S.devs[i].cells) rfl]
  have hC3 := HCX.rides.loc hC hix (.cells S.devs[i].cells)
  have hX3 := ASt.new_self (.cells S.devs[i].cells) (fresh_of_le (HCX.rides.le hC) hix)
  have hH3 := ASt.new_old (id := ix) (o := .cells S.devs[i].cells) hH
  have hM3 := ASt.new_old (id := ix) (o := .cells S.devs[i].cells) hM
  have hle3 := ASt.le.new st1 ix (.cells S.devs[i].cells)
  have hO3 : Over st (st1.new ix (.cells S.devs[i].cells)) 6 dvv i (devsC S a i) := ⟨⟨hO.1.1, hO.1.2.imp (fun x => x) fun ⟨j, e, hj⟩ => ⟨j, e, hle3 _ _ hj⟩⟩, hO.2.1.trans hle3, hO.2.2⟩
  generalize t.new ix (.cells S.devs[i].cells) = t3 at hC3
  generalize st1.new ix (.cells S.devs[i].cells) = st3 at hC3 hX3 hH3 hM3 hO3
  clear hC hO hH hM hle3
  have hxt := HCX.rides.le hC3 _ _ hX3
  rw [Dev.cells] at hxt hX3
  simp only [↓Bt, Bu, simprocAttr, ↓C.z117, C.dh_b, hxt]
  have hrl := (hk.dev i hil).regs
  refine (rgnew_spec (Readable.isl t3 (l := S.devs[i].regs) (by omega)) (by omega)).mono ?_
  rintro r t4 ⟨id, idn, ids, rfl, hf, hle4, f1, f2, f3⟩
  have hF4 := hC3.file hle4 hil (by rw [fresh_F hil]; exact hf) f1 f2 f3
  clear hf hC3 hxt hle4
  have hxt4 := hF4.le _ _ hX3
  have hMt := hF4.le _ _ hM3
  obtain ⟨hil2, hfile⟩ := hF4.fileAt
  have hml2 : i < (manyL S).length := by omega
  have hmg : (manyL S)[i] = (S.devs[i].regs.length : Int) := by simp [manyL]
  have hfl : i < (ints (firstZ (manyL S) i)).length := by rw [ints_length, firstZ_len (by omega)]; exact hml2
  have hset := firstZ_set hml2
  rw [hmg] at hset
  simp only [↓Bt, Bu, simprocAttr, ↓C.z116, C.d8_b, C.d7_b, ↓C.z117, C.dh_b]
  rw [C.bml_w, awp_keep]
  simp only [↓Bt, Bu, simprocAttr, ↓C.z121, C.dj_b]
  refine (many_spec hfile).mono ?_
  rintro r t5 ⟨rfl, rfl⟩
  simp only [↓Bt, Bu, simprocAttr, ↓C.z121, C.dj_b, hzi, Int.toNat_natCast, Nat.mul_one, hMt, hfl, ints_set, hset]
  have hF5 := hF4.locSet (ix := mm) (by rw [hM3]; simp) (.cells (ints (firstZ (manyL S) (i + 1))))
  have nxm : ¬ ix = mm := fun e => by rw [e, hM3] at hX3; have := congrArg (fun o : Option AObj => match o with | some (.cells cs) => cs.length | _ => 0) hX3; simp [ints_length, firstZ_len (show i ≤ (manyL S).length by omega)] at this; omega
  have hX5 : (st3.set mm (.cells (ints (firstZ (manyL S) (i + 1))))).h ix = _ := (by rw [ASt.set_h, if_neg nxm] : _ = st3.h ix).trans hX3
  have hH5 : (st3.set mm (.cells (ints (firstZ (manyL S) (i + 1))))).h hp = _ := (by rw [ASt.set_h, if_neg hpm] : _ = st3.h hp).trans hH3
  have hM5 : (st3.set mm (.cells (ints (firstZ (manyL S) (i + 1))))).h mm = some (.cells (ints (firstZ (manyL S) (i + 1)))) := by rw [ASt.set_h, if_pos rfl, hM3]; rfl
  have hdv : ∀ sz j off n, dvv = .sl sz j off n → j ≠ hp ∧ j ≠ mm := fun sz j off n e => by
    have hlen : (devsC S a i).length = i * 6 := devsC_len i
    rcases hO3.1.2 with ⟨_, rfl⟩ | ⟨j', rfl, hj⟩
    · cases e
    · cases e
      refine ⟨?_, ?_⟩
      · rintro rfl
        rw [hj] at hH3
        have := congrArg (fun o : Option AObj => match o with | some (.cells cs) => cs.length | _ => 0) hH3
        simp [hlen] at this
        omega
      · rintro rfl
        rw [hj] at hM3
        have := congrArg (fun o : Option AObj => match o with | some (.cells cs) => cs.length | _ => 0) hM3
        simp [hlen, ints_length, firstZ_len (show i ≤ (manyL S).length by omega)] at this
        omega
  have hO5 : Over st (st3.set mm (.cells (ints (firstZ (manyL S) (i + 1))))) 6 dvv i (devsC S a i) := by
    have hsh : Shows (st3.set mm (.cells (ints (firstZ (manyL S) (i + 1))))) 6 dvv i (devsC S a i) := by
      refine ⟨hO3.1.1, ?_⟩
      rcases hO3.1.2 with h | ⟨j, e, hj⟩
      · exact .inl h
      · exact .inr ⟨j, e, by rw [ASt.set_h, if_neg (hdv _ _ _ _ e).2]; exact hj⟩
    exact ⟨hsh, le_set_new hO3.2.1 hmmS, hO3.2.2⟩
  generalize t5.set mm (.cells (ints (firstZ (manyL S) (i + 1)))) = t6 at hF5
  generalize st3.set mm (.cells (ints (firstZ (manyL S) (i + 1)))) = st5 at hF5 hX5 hH5 hM5 hO5
  clear hF4 hX3 hH3 hM3 hO3 hxt4 hMt hfile f1 f2 f3
  have hxt6 := hF5.le _ _ hX5
  have hHt6 := hF5.le _ _ hH5
  rw [C.bmk_w, awp_keep]
  simp only [↓Bp, Bq, Bs, simprocAttr, ↓C.z120, C.b8_b, hHt6, hxt6]
  refine (qnew_spec t6).mono ?_
  rintro r t7 ⟨p, hpf, rfl, rfl⟩
  have hC7 := hF5.port hpf rfl
  have hle7 := ASt.le.new t6 p (.cells [.int .i64 0, .int .i64 0])
  have hxt7 := hle7 _ _ hxt6
  have hHt7 := hle7 _ _ hHt6
  generalize t6.new p (.cells [.int .i64 0, .int .i64 0]) = t7 at hC7 hxt7 hHt7
  simp only [↓Bp, Bq, Bs, simprocAttr, ↓C.z120, C.b8_b, hHt7, hxt7]
  obtain ⟨a', ha'⟩ : ∃ a' : HA, a' = { a with fp := upF a.fp i id, fn := upF a.fn i idn, fs := upF a.fs i ids, pp := upF a.pp i p } := ⟨_, rfl⟩
  rw [← ha'] at hC7
  have hcg : devsC S a' i = devsC S a i := devsC_congr fun j hj => by
    rw [ha']; exact ⟨upF_ne (by omega), upF_ne (by omega)⟩
  have hnewc : devC S a' i = [.int .i64 S.devs[i].clock, .int .i64 S.devs[i].dom, .int .i64 S.devs[i].rst, .int .u32 S.devs[i].clamp, .ptr id 0, .ptr p 0] := by
    rw [devC_eq hil, ha']
    simp only [upF_at]
  refine aop_append_rides HCX.rides hC7 hO5 (by omega) (new := [.int .i64 S.devs[i].clock, .int .i64 S.devs[i].dom, .int .i64 S.devs[i].rst, .int .u32 S.devs[i].clamp, .ptr id 0, .ptr p 0]) (aput_one rfl rfl) rfl rfl (fun _ => rfl) (fun _ => rfl) fun v1 v2 st8 t8 hC8 hO8 hkeep => ?_
  have hH8 : st8.h hp = some (.cells [.ptr tp 0, .ptr gp 0, .ptr lp 0, .nilp, dvv]) := hkeep _ _ hH5 fun sz j off n e => (hdv sz j off n e).1.symm
  have hM8 : st8.h mm = some (.cells (ints (firstZ (manyL S) (i + 1)))) := hkeep _ _ hM5 fun sz j off n e => (hdv sz j off n e).2.symm
  have hHt8 := HCX.rides.le hC8 _ _ hH8
  have hlf : v2.leaf = true := by
    rcases hO8.1.2 with ⟨_, rfl⟩ | ⟨j, rfl, _⟩ <;> rfl
  simp only [↓Bt, Bu, simprocAttr, ↓C.z120, C.b8_b, hHt8, hlf, hw]
  rw [C.bmj_w, awp_keep]
  simp only [↓Bt, Bu, simprocAttr, ↓C.z119, C.b9_b, hw]
  have hC9 := hC8.locSet (ix := hp) (by rw [hH8]; simp) (.cells [.ptr tp 0, .ptr gp 0, .ptr lp 0, .nilp, v2])
  have hlen8 : (devsC S a i ++ [AV.int .i64 S.devs[i].clock, .int .i64 S.devs[i].dom, .int .i64 S.devs[i].rst, .int .u32 S.devs[i].clamp, .ptr id 0, .ptr p 0]).length = i * 6 + 6 := by rw [List.length_append, devsC_len]; rfl
  have hdv8 : ∀ sz j off n, v2 = .sl sz j off n → j ≠ hp := fun sz j off n e => by
    rcases hO8.1.2 with ⟨_, rfl⟩ | ⟨j', rfl, hj⟩
    · cases e
    · cases e
      rintro rfl
      rw [hj] at hH8
      have := congrArg (fun o : Option AObj => match o with | some (.cells cs) => cs.length | _ => 0) hH8
      simp only [hlen8] at this
      simp at this
  have hO9 : Over st (st8.set hp (.cells [.ptr tp 0, .ptr gp 0, .ptr lp 0, .nilp, v2])) 6 v2 (i + 1) (devsC S a' (i + 1)) := by
    rw [devsC_succ, hnewc, hcg]
    have hsh : Shows (st8.set hp (.cells [.ptr tp 0, .ptr gp 0, .ptr lp 0, .nilp, v2])) 6 v2 (i + 1) (devsC S a i ++ [AV.int .i64 S.devs[i].clock, .int .i64 S.devs[i].dom, .int .i64 S.devs[i].rst, .int .u32 S.devs[i].clamp, .ptr id 0, .ptr p 0]) := by
      refine ⟨hO8.1.1, ?_⟩
      rcases hO8.1.2 with h | ⟨j, e, hj⟩
      · exact .inl h
      · exact .inr ⟨j, e, by rw [ASt.set_h, if_neg (hdv8 _ _ _ _ e)]; exact hj⟩
    exact ⟨hsh, le_set_new hO8.2.1 hhpS, hO8.2.2⟩
  refine ⟨i + 1, rfl, ⟨hil, st8.set hp (.cells [.ptr tp 0, .ptr gp 0, .ptr lp 0, .nilp, v2]), a', v2, hC9, hO9, by rw [ha']; exact ea, by rw [ha']; exact et, by rw [ha']; exact eg, by rw [ha']; exact el, by rw [ASt.set_h, if_pos rfl, hH8]; rfl, by rw [ASt.set_h, if_neg (Ne.symm hpm)]; exact hM8⟩, by omega⟩
end
end Go.Proofs.YtdmfgodajoojpaaGreatDoor.Cn
/- The chip: the example of the statements. -/
set_option linter.unusedSimpArgs false
set_option linter.unusedVariables false
set_option maxRecDepth 100000
namespace Go.Proofs.YtdmfgodajoojpaaGreatDoor.Cn
open Go Go.Proofs

def soc12 : Soc := ⟨[⟨111, [], 1, 0, 0, 0⟩], [⟨-1, 0, false⟩], [0], [⟨0, 0, 0, 0, [⟨5, false⟩], []⟩]⟩
theorem soc12_like : soc12.like where
  nc := by decide
  nd := by decide
  nr := by decide
  nv := by decide
  clk := fun i h => by
    have : i = 0 := by simp [soc12] at h; omega
    subst this
    exact .osc 1 (by omega) rfl
  dom := fun i h => by
    have : i = 0 := by simp [soc12] at h; omega
    subst this
    exact ⟨.inl rfl, by simp [soc12]⟩
  rst := fun i h => by
    have : i = 0 := by simp [soc12] at h; omega
    subst this
    simp [soc12]
  dev := fun i h => by
    have : i = 0 := by simp [soc12] at h; omega
    subst this
    exact ⟨by simp [soc12], by simp [soc12], by simp [soc12], by simp [soc12], by simp [soc12], fun u hu => by cases hu⟩
theorem set_as_new {s : ASt} {i : Nat} (o : AObj) (h : s.h i ≠ none) : s.set i o = (s.kill i).new i o := ASt.ext' fun j => by
  rw [ASt.set_h, ASt.new_h, ASt.kill_h]
  by_cases e : j = i
  · subst e
    simp only [if_true]
    cases e0 : s.h j with
    | none => exact absurd e0 h
    | some x => rfl
  · simp only [if_neg e]
    cases s.h j <;> rfl
theorem hshown_spec (st : ASt) : ACalls Tryz.prog F.q15 [] st fun r s => r = .bool true ∧ s = st := by
  refine ACalls.gc (Q' := fun r s => r = .bool true ∧ st.le s) (calls_of_awp L.q15 rfl ?_) (fun v s ⟨h, hl⟩ => ⟨st, hl, h, rfl⟩)
  simp only [↓Bt, Bu, simprocAttr, ↓C.cw_w, C.cw_b, ↓C.bl3_w, ↓C.cv_w, C.cv_b, C.q15]
  rintro i0 h0 i1 ⟨h1, n10⟩ i2 ⟨⟨h2, n20⟩, n21⟩ i3 ⟨⟨⟨h3, n30⟩, n31⟩, n32⟩ i4 ⟨⟨⟨⟨h4, n40⟩, n41⟩, n42⟩, n43⟩ ib ⟨⟨⟨⟨⟨hb, nb0⟩, nb1⟩, nb2⟩, nb3⟩, nb4⟩
  simp only [↓Bt, Bu, simprocAttr, ↓C.cw_w, C.cw_b, ↓C.bl3_w, ↓C.cv_w, C.cv_b, C.q15, hb, nb0, nb1, nb2, nb3, nb4, allLeaf, AV.leaf]
  obtain ⟨o0, ho0⟩ : ∃ o, o = AObj.cells [AV.int .u8 111, .nils, .int .u64 1, .int .i64 0, .int .i64 0, .int .i64 0] := ⟨_, rfl⟩
  obtain ⟨o1, ho1⟩ : ∃ o, o = AObj.cells [AV.int .i64 (-1), .int .i64 0, .bool false] := ⟨_, rfl⟩
  obtain ⟨o2, ho2⟩ : ∃ o, o = AObj.cells [AV.int .i64 0] := ⟨_, rfl⟩
  obtain ⟨o3, ho3⟩ : ∃ o, o = AObj.cells [AV.int .u32 5, .bool false] := ⟨_, rfl⟩
  obtain ⟨o4, ho4⟩ : ∃ o, o = AObj.cells [AV.int .i64 0, .int .i64 0, .int .i64 0, .int .u32 0, .sl 2 i3 0 1, .nils] := ⟨_, rfl⟩
  rw [← ho0, ← ho1, ← ho2, ← ho3, ← ho4]
  obtain ⟨s5, hs5⟩ : ∃ s5, s5 = ((((st.new i0 o0).new i1 o1).new i2 o2).new i3 o3).new i4 o4 := ⟨_, rfl⟩
  rw [← hs5]
  have hle : st.le s5 := by rw [hs5]; exact ((((ASt.le.new _ _ _).trans (ASt.le.new _ _ _)).trans (ASt.le.new _ _ _)).trans (ASt.le.new _ _ _)).trans (ASt.le.new _ _ _)
  have hbn : s5.h ib = none := by rw [hs5]; simp [ASt.new_o, hb, nb0, nb1, nb2, nb3, nb4]
  have c0 : s5.h i0 = some o0 := by rw [hs5]; simp [ASt.new_o, h0]
  have c1 : s5.h i1 = some o1 := by rw [hs5]; simp [ASt.new_o, h1, n10]
  have c2 : s5.h i2 = some o2 := by rw [hs5]; simp [ASt.new_o, h2, n20, n21]
  have c3 : s5.h i3 = some o3 := by rw [hs5]; simp [ASt.new_o, h3, n30, n31, n32]
  have c4 : s5.h i4 = some o4 := by rw [hs5]; simp [ASt.new_o, h4, n40, n41, n42, n43]
  rw [ASt.new_set hbn]
  have hr : RepL s5 [.sl 6 i0 0 1, .sl 3 i1 0 1, .sl 1 i2 0 1, .sl 6 i4 0 1] soc12.cells (i0 :: ([] ++ (i1 :: ([] ++ (i2 :: ([] ++ (i4 :: ((i3 :: ([] ++ [])) ++ [])))))))) := by
    refine .sl (L1 := []) (by rw [c0, ho0]; rfl) (.one rfl (.nils 1 (RepL.scalars rfl _))) (by simp) ?_ (by simp) ?_
    · simp [Ne.symm n10, Ne.symm n20, Ne.symm n40, Ne.symm n30]
    refine .sl (L1 := []) (by rw [c1, ho1]; rfl) (RepL.scalars rfl _) (by simp) ?_ (by simp) ?_
    · simp [Ne.symm n21, Ne.symm n41, Ne.symm n31]
    refine .sl (L1 := []) (by rw [c2, ho2]; rfl) (RepL.scalars rfl _) (by simp) ?_ (by simp) ?_
    · simp [Ne.symm n42, Ne.symm n32]
    refine .sl (L1 := [i3]) (by rw [c4, ho4]; rfl) (.one rfl (.one rfl (.one rfl (.one rfl (.sl (L1 := []) (L2 := []) (by rw [c3, ho3]; rfl) (RepL.scalars rfl _) (by simp) (by simp) (by simp) (.nils 1 .nil)))))) ?_ (by simp) (by simp) .nil
    simp [n43]
  have hr2 := hr.le (ASt.le.new s5 ib (.cells [.sl 6 i0 0 1, .sl 3 i1 0 1, .sl 1 i2 0 1, .sl 6 i4 0 1]))
  have hle2 := hle.trans (ASt.le.new s5 ib (.cells [.sl 6 i0 0 1, .sl 3 i1 0 1, .sl 1 i2 0 1, .sl 6 i4 0 1]))
  have hbs := ASt.new_self (.cells [.sl 6 i0 0 1, .sl 3 i1 0 1, .sl 1 i2 0 1, .sl 6 i4 0 1]) hbn
  generalize s5.new ib (.cells [.sl 6 i0 0 1, .sl 3 i1 0 1, .sl 1 i2 0 1, .sl 6 i4 0 1]) = s6 at hr2 hle2 hbs
  have hbL : ib ∉ (i0 :: ([] ++ (i1 :: ([] ++ (i2 :: ([] ++ (i4 :: ((i3 :: ([] ++ [])) ++ [])))))))) := by simp [nb0, nb1, nb2, nb3, nb4]
  have hnL : ∀ j ∈ (i0 :: ([] ++ (i1 :: ([] ++ (i2 :: ([] ++ (i4 :: ((i3 :: ([] ++ [])) ++ [])))))))), st.h j = none := by
    intro j hj
    simp at hj
    rcases hj with rfl | rfl | rfl | rfl | rfl <;> assumption
  have hle3 : st.le (s6.killL (i0 :: ([] ++ (i1 :: ([] ++ (i2 :: ([] ++ (i4 :: ((i3 :: ([] ++ [])) ++ []))))))))) := hle2.killL hnL
  have hbs2 : (s6.killL (i0 :: ([] ++ (i1 :: ([] ++ (i2 :: ([] ++ (i4 :: ((i3 :: ([] ++ [])) ++ []))))))))).h ib ≠ none := by rw [ASt.killL_h, if_neg hbL, hbs]; simp
  simp only [↓Bt, Bu, simprocAttr, ↓C.q15_W, C.q15_B, C.q15, hbs]
  refine ACalls.frzBox hr2 hbs hbL ?_
  rw [set_as_new _ hbs2]
  have hle4 : st.le ((s6.killL (i0 :: ([] ++ (i1 :: ([] ++ (i2 :: ([] ++ (i4 :: ((i3 :: ([] ++ [])) ++ []))))))))).kill ib) := fun j o hj => by
    rw [ASt.kill_h, if_neg (by rintro rfl; rw [hb] at hj; cases hj)]; exact hle3 _ _ hj
  refine (hnew (by rw [ASt.kill_h, if_pos rfl]) soc12_like).mono ?_
  rintro r s7 ⟨a, rfl, h⟩
  have h' := h.less hle4
  simp only [↓Bt, Bu, simprocAttr, ↓C.q15_W, C.q15_B, C.q15]
  refine (htick h' (fun i hi t ht => by cases ht) (by decide) (by decide) 0).mono ?_
  rintro r s8 ⟨rfl, h8⟩
  simp only [↓Bt, Bu, simprocAttr, ↓C.q15_W, C.q15_B, C.q15]
  obtain ⟨T, h9⟩ := h8
  have ha : ((HV.fresh soc12).tick soc12 0).aliveI soc12 0 = false := rfl
  refine (halive h9 0).mono ?_
  rintro r s9 ⟨rfl, rfl⟩
  rw [ha]
  simp only [↓Bt, Bu, simprocAttr, ↓C.q15_W, C.q15_B, C.q15]
  have hg : 0 < ((HV.fresh soc12).tick soc12 0).gs.length := by decide
  have hu : upE ((HV.fresh soc12).tick soc12 0).gs 0 hg = 0 := rfl
  have hun := hup_at h9 hg
  rw [hu] at hun
  refine hun.mono ?_
  rintro r s10 ⟨rfl, h10⟩
  simp only [↓Bt, Bu, simprocAttr, ↓C.q15_W, C.q15_B, C.q15]
  refine (hrunning h10 0).mono ?_
  rintro r s11 ⟨rfl, rfl⟩
  have hrn : runI ((HV.fresh soc12).tick soc12 0).ns 0 = true := rfl
  simp only [↓Bt, Bu, simprocAttr, ↓C.q15_W, C.q15_B, C.q15, hrn]
  exact h10.c.le
end Go.Proofs.YtdmfgodajoojpaaGreatDoor.Cn
/- The chip: what waits at one device. -/
set_option linter.unusedSimpArgs false
set_option linter.unusedVariables false
set_option maxRecDepth 100000
namespace Go.Proofs.YtdmfgodajoojpaaGreatDoor.Cn
open Go Go.Proofs

theorem filterMap_one {β : Type} {f : Nat → Option β} {k : Nat} {y : β} (hy : f k = some y) : ∀ n, k < n → (∀ i, i ≠ k → f i = none) → (List.range n).filterMap f = [y]
  | 0, h, _ => by omega
  | n + 1, h, hp => by
    rw [List.range_succ, List.filterMap_append]
    by_cases e : k = n
    · subst e
      have : (List.range k).filterMap f = [] := List.filterMap_eq_nil_iff.mpr fun i hi => hp i (by have := List.mem_range.mp hi; omega)
      rw [this]; simp [hy]
    · rw [filterMap_one hy n (by omega) hp]
      simp [hp n (Ne.symm e)]
structure QS (S : Soc) (v : HV) (d : Nat) (q : List Txn) : Prop where
  calm : v.calm
  others : ∀ i, i ≠ d → v.Q i = []
  at_ : v.Q d = q
  ni : NW v.ns
  still : StillA v.gs
section
variable {st s : ASt} {ib : Nat} {a : HA} {S : Soc} {v v0 : HV} {q : List Txn} {t : Txn} {d : Nat}
theorem QS.good (h : QS S v d []) (hn : NI v.ns) : HGood S v := ⟨fun i => by
  by_cases e : i = d
  · rw [e]; exact h.at_
  · exact h.others i e, h.calm, hn⟩
theorem HGood.qs (h : HGood S v) (hs : StillA v.gs) (d : Nat) : QS S v d [] := ⟨h.calm, fun i _ => h.none i, h.none d, h.ni.w, hs⟩
theorem QS.post (h : QS S v d q) (t : Txn) (p : Int) : QS S { v with Q := upF v.Q d (v.Q d ++ [t]), posted := p } d (q ++ [t]) :=
  ⟨h.calm, fun i hi => by simp only [upF_ne hi]; exact h.others i hi, by simp only [upF_at]; rw [h.at_], h.ni, h.still⟩
theorem QS.ok (h : QS S v d q) (hq : ∀ t ∈ q, ∀ (hd : d < S.devs.length), ∃ k : Nat, t.reg = (k : Int) ∧ k < S.devs[d].regs.length) : QOk S v.Q := fun i hi t ht => by
  by_cases e : i = d
  · subst e; rw [h.at_] at ht; exact hq t ht hi
  · rw [h.others i e] at ht; cases ht
def ans1 (S : Soc) (v : HV) (d : Nat) (t : Txn) : Ans := if v.alive S d = true then ⟨t.id, d, false, (v.F d).now t.reg.toNat⟩ else ⟨t.id, d, true, clampOf S d⟩
theorem QS.told (h : QS S v d (t :: q)) (hd : d < S.devs.length) : v.told S S.devs.length = [ans1 S v d t] := by
  rw [HV.told]
  refine filterMap_one (k := d) ?_ _ hd fun i hi => ?_
  · rw [HV.ansOf, h.at_]; rfl
  · rw [HV.ansOf, h.others i hi]
theorem QS.told0 (h : QS S v d []) (hd : d < S.devs.length) : v.told S S.devs.length = [] := by
  refine told_none (fun i => ?_) _
  by_cases e : i = d
  · rw [e]; exact h.at_
  · exact h.others i e
theorem wrF_one (h : v.Q d = t :: q) : v.wrF S d = if v.alive S d = true then (v.F d).put t else v.F d := by rw [HV.wrF, h]
theorem QS.tick_eq (h : QS S v d q) (hd : d < S.devs.length) (n : Int) : v.tick S n = ({ v with Q := upF v.Q d q.tail, F := upF v.F d (v.wrF S d) } : HV).rest S := by
  have e1 : (fun i => if i < S.devs.length then (v.Q i).tail else v.Q i) = upF v.Q d q.tail := by
    funext i
    by_cases e : i = d
    · subst e; rw [upF_at, if_pos hd, h.at_]
    · rw [upF_ne e, h.others i e]; split <;> rfl
  have e2 : (fun i => if i < S.devs.length then v.wrF S i else v.F i) = upF v.F d (v.wrF S d) := by
    funext i
    by_cases e : i = d
    · subst e; rw [upF_at, if_pos hd]
    · rw [upF_ne e, HV.wrF, h.others i e]; split <;> rfl
  rw [HV.tick, HV.ansV, e1, e2, portV_calm (v := { v with Q := upF v.Q d q.tail, F := upF v.F d (v.wrF S d) }) h.calm]
theorem QS.tick (h : QS S v d q) (hN : NsOk v.ns) (hd : d < S.devs.length) (n : Int) : QS S (v.tick S n) d q.tail ∧ NI (v.tick S n).ns ∧ (v.tick S n).F d = v.wrF S d ∧ (v.tick S n).gs = v.gs ∧ (v.tick S n).posted = v.posted := by
  obtain ⟨e1, e2⟩ := h.still.tick
  rw [h.tick_eq hd]
  have hgs : gtickL v.gs = v.gs := e1
  refine ⟨⟨h.calm, fun i hi => ?_, ?_, (NI.tick hN h.ni).w, ?_⟩, NI.tick hN h.ni, ?_, e1, rfl⟩
  · show upF v.Q d q.tail i = []
    rw [upF_ne hi]; exact h.others i hi
  · show upF v.Q d q.tail d = _
    rw [upF_at]
  · show StillA (gtickL v.gs)
    rw [hgs]; exact h.still
  · show deedsF S (evs v.gs) (upF v.F d (v.wrF S d)) d = _
    rw [e2]
    show upF v.F d (v.wrF S d) d = _
    rw [upF_at]
theorem QS.alive (h : QS S v d q) (hN : NsOk v.ns) (hk : S.like) (hl : v.ns.length = S.clocks.length) (hd : d < S.devs.length) (n : Int) (ha : v.alive S d = true) : (v.tick S n).alive S d = true := by
  obtain ⟨e1, e2⟩ := h.still.tick
  rw [h.tick_eq hd]
  have hck := (hk.dev d hd).clock
  obtain ⟨ck, hc⟩ : ∃ ck : Nat, S.devs[d].clock = (ck : Int) := ⟨S.devs[d].clock.toNat, by omega⟩
  have hcl : ck < v.ns.length := by omega
  rw [alive_at hd, Bool.and_eq_true, Bool.and_eq_true] at ha ⊢
  obtain ⟨a1, a2, a3⟩ := ha
  refine ⟨?_, ?_, ?_⟩
  · show runI (ctickL v.ns) _ = true
    rw [hc] at a1 ⊢
    rw [runI, if_pos (isCk_at hcl), Int.toNat_natCast] at a1
    rw [runI, if_pos (isCk_at (by rw [ctickL_len]; exact hcl)), Int.toNat_natCast]
    exact run_tick hN h.ni ck hcl a1
  · show decide (phI (gtickL v.gs) _ = 49) = true
    rw [e1]; exact a2
  · show (!heldI (tickL v.ls) _) = true
    rw [held_tick _ (by simpa using a3)]; rfl
theorem HGood.fresh (hk : S.like) : HGood S (HV.fresh S) ∧ StillA (HV.fresh S).gs := by
  refine ⟨⟨fun _ => rfl, fun _ => rfl, NI.fresh hk.clk⟩, fun x hx => ?_⟩
  have hx' : x < (gfresh S.doms).length := hx
  have : (gfresh S.doms)[x].phase = 48 := by simp [gfresh]
  exact .inl this
theorem fresh_ph (hk : S.like) {x : Nat} (hx : x < S.doms.length) : phN (HV.fresh S).gs x = 48 := by
  have hx' : x < (gfresh S.doms).length := by rw [gfresh_len]; exact hx
  show phN (gfresh S.doms) x = 48
  rw [phN_at hx']; simp [gfresh]
theorem chain_mem {gs : List Gd} {cs : List Nat} {dm : Nat} (h : ChainOk gs cs dm) : dm ∈ cs := by
  have hp := h.pos
  have := h.last (by omega)
  rw [← this]; exact List.getElem_mem _
theorem wk_fresh {cs : List Nat} (hd : d < S.devs.length) (hc : S.devs[d].dom.toNat ∈ cs) (h : phN v.gs S.devs[d].dom.toNat = 48) : (wkF S v cs d).now = resets S.devs[d].regs := by
  rw [wkF_at hd, if_pos ⟨hc, .inl h⟩, h]; rfl
theorem resets_at {R : List Reg} {k : Nat} (h : k < R.length) : resets R k = R[k].reset := by simp [resets, h]
end
end Go.Proofs.YtdmfgodajoojpaaGreatDoor.Cn
/- The chip: acts at one device. -/
set_option linter.unusedSimpArgs false
set_option linter.unusedVariables false
set_option maxRecDepth 100000
namespace Go.Proofs.YtdmfgodajoojpaaGreatDoor.Cn
open Go Go.Proofs

section
variable {S : Soc}
theorem dev_regs {d : Nat} (hd : d < S.devs.length) : (S.devs.flatMap Dev.cells)[d * 6 + 4]? = some (.isl 2 (flat S.devs[d].regs) S.devs[d].regs.length) := rows_get Dev.cells Dev.cells_len hd (j := 4) (by omega)
theorem dev_clamp {d : Nat} (hd : d < S.devs.length) : (S.devs.flatMap Dev.cells)[d * 6 + 3]? = some (.int .u32 S.devs[d].clamp) := rows_get Dev.cells Dev.cells_len hd (j := 3) (by omega)
theorem reg_reset {R : List Reg} {k : Nat} (hk : k < R.length) : (flat R)[k * 2]? = some (.int .u32 R[k].reset) := rows_get0 encReg encReg_len hk (by omega)
end
section
variable {st s : ASt} {ib : Nat} {a : HA} {S : Soc} {v : HV} {q : List Txn} {d : Nat}
def regsOk (S : Soc) (d : Nat) (q : List Txn) : Prop := ∀ t ∈ q, ∀ (hd : d < S.devs.length), ∃ k : Nat, t.reg = (k : Int) ∧ k < S.devs[d].regs.length
structure Posted (v v' : HV) : Prop where
  F : v'.F = v.F
  gs : v'.gs = v.gs
  ns : v'.ns = v.ns
  ls : v'.ls = v.ls
  posted : v'.posted = IntKind.i64.wrap (v.posted + 1)
theorem Posted.alive {v' : HV} (h : Posted v v') (S : Soc) (i : Nat) : v'.alive S i = v.alive S i := by
  unfold HV.alive; rw [h.gs, h.ns, h.ls]
theorem act_post (h : HX st s ib a S v) (hq : QS S v d q) (hd : d < S.devs.length) (hd4 : d < 4) {k : Nat} (hk : k < S.devs[d].regs.length) (hk4 : k < 4) (hl : q.length < 4) (w : Bool) (x : Int) :
    ACalls Tryz.prog F.q86 [.ptr a.hp 0, .int .u32 (addrV d k), .bool w, .int .u32 x] s fun r s' => r = .tup [.int .i64 v.posted, .int .i64 0] ∧ ∃ v', HX st s' ib a S v' ∧ QS S v' d (q ++ [⟨v.posted, w, (k : Int), x⟩]) ∧ Posted v v' :=
  (hpost h hd hk hd4 hk4 w x (hq.calm d) (by rw [hq.at_]; exact hl)).mono fun r s' ⟨h1, h2⟩ => ⟨h1, _, h2, hq.post _ _, ⟨rfl, rfl, rfl, rfl, rfl⟩⟩
structure Ticked (S : Soc) (d : Nat) (q : List Txn) (v v' : HV) : Prop where
  qs : QS S v' d q.tail
  ni : NI v'.ns
  F : v'.F d = v.wrF S d
  gs : v'.gs = v.gs
  posted : v'.posted = v.posted
  alive : v.alive S d = true → v'.alive S d = true
  ls : v'.ls = tickL v.ls
  ns : v'.ns = ctickL v.ns
theorem act_tick (hk : S.like) (h : HX st s ib a S v) (hq : QS S v d q) (hd : d < S.devs.length) (hr : regsOk S d q) :
    ACalls Tryz.prog F.q89 [.ptr a.hp 0, .int .u32 0] s fun r s' => r = ansL (match q with | [] => [] | t :: _ => [ans1 S v d t]) ∧ ∃ v', HX st s' ib a S v' ∧ Ticked S d q v v' := by
  have n4 := hk.nv; have n3 := hk.nr
  have hN : NsOk v.ns := h.elim fun _ h => h.c.kof.ok
  have hl : v.ns.length = S.clocks.length := h.elim fun _ h => h.c.kof.len
  refine (htick h (hq.ok hr) n4.2 (by omega) 0).mono fun r s' ⟨h1, h2⟩ => ⟨?_, _, h2, ?_⟩
  · rw [h1]
    cases q with
    | nil => rw [hq.told0 hd]
    | cons t q => rw [hq.told hd]
  · obtain ⟨q1, q2, q3, q4, q5⟩ := hq.tick hN hd 0
    exact ⟨q1, q2, q3, q4, q5, hq.alive hN hk hl hd 0, by rw [hq.tick_eq hd]; rfl, by rw [hq.tick_eq hd]; rfl⟩
theorem ans1_live {t : Txn} (h : v.alive S d = true) : ansL [ans1 S v d t] = .isl 4 [.int .i64 t.id, .int .i64 d, .bool false, .int .u32 ((v.F d).now t.reg.toNat)] 1 := by rw [ans1, if_pos h]; rfl
end
end Go.Proofs.YtdmfgodajoojpaaGreatDoor.Cn
/- The chip: HardWakes. -/
set_option linter.unusedSimpArgs false
set_option linter.unusedVariables false
set_option maxRecDepth 100000
namespace Go.Proofs.YtdmfgodajoojpaaGreatDoor.Cn
open Go Go.Proofs

def wkT (k : Nat) (w : Int) (j : Nat) : Txn := ⟨(j : Int), decide (j = 1), (k : Int), if j = 1 then w else 0⟩
def wkQ (k : Nat) (w : Int) (j : Nat) : List Txn := ((List.range 3).drop j).map (wkT k w)
theorem wkQ_cons (k : Nat) (w : Int) {j : Nat} (h : j < 3) : wkQ k w j = wkT k w j :: wkQ k w (j + 1) := by
  match j, h with
  | 0, _ => rfl
  | 1, _ => rfl
  | 2, _ => rfl
theorem wkQ_end (k : Nat) (w : Int) : wkQ k w 3 = [] := rfl
theorem want_get (R w : Int) {j : Nat} (h : j < 3) : ([.int .u32 R, .int .u32 R, .int .u32 w] : List AV)[j]? = some (.int .u32 (if j < 2 then R else w)) := by
  match j, h with
  | 0, _ => rfl
  | 1, _ => rfl
  | 2, _ => rfl
set_option maxHeartbeats 2000000 in
theorem hardwakes_spec {st : ASt} {l : List Int} {at_ rg w : Int} (hl : ∀ x ∈ l, -9223372036854775808 ≤ x ∧ x ≤ 9223372036854775807) (hll : l.length ≤ 9223372036854775807) (hat : -9223372036854775808 ≤ at_ ∧ at_ ≤ 9223372036854775807) (hrg : -9223372036854775808 ≤ rg ∧ rg ≤ 9223372036854775807) :
    ACalls Tryz.prog F.q12 [row l, .int .i64 at_, .int .i64 rg, .int .u32 w] st fun r _ => r = .bool true := by
  refine calls_of_awp L.q12 rfl ?_
  simp only [↓Bt, Bu, simprocAttr, ↓C.z64, C.z5, C.q12]
  refine (hshown_spec st).mono ?_
  rintro r s ⟨rfl, rfl⟩
  simp only [↓Bt, Bu, simprocAttr, ↓C.z63, C.cn_b, ↓C.z64, C.z5, C.q12]
  refine (chip_frz hl hll).mono ?_
  rintro r s2 ⟨rfl, rfl⟩
  have hk := chipS_like l
  generalize chipS l = S at hk
  have n1 := hk.nc; have n2 := hk.nd; have n3 := hk.nr; have n4 := hk.nv
  have lc : S.cells.length = 4 := rfl
  have lf : allLeaf S.cells = true := rfl
  have e4 : AV.agg (List.take 4 S.cells) = .agg S.cells := rfl
  simp only [↓Bt, Bu, simprocAttr, ↓C.z63, C.cn_b, ↓C.z64, C.z5, C.q12]
  rintro ib hib
  simp only [↓Bt, Bu, simprocAttr, ↓C.z63, C.cn_b, ↓C.z64, C.z5, C.q12, hib, lc, lf]
  rw [ASt.new_set hib, show putN [AV.nils, AV.nils, AV.nils, AV.nils] 0 S.cells = S.cells from putN_all rfl]
  have hb := ASt.new_self (.cells S.cells) hib
  have hnw := hnew hib hk
  generalize s2.new ib (.cells S.cells) = u at hb hnw
  simp only [↓Bt, Bu, simprocAttr, ↓C.gn_w, C.gn_b, ↓C.bpq_w, hb, lc, e4]
  refine hnw.mono ?_
  rintro r s3 ⟨a, rfl, h3⟩
  clear hb hnw
  obtain ⟨hG, hSt⟩ := HGood.fresh hk
  have hfF : ∀ {i : Nat} (h : i < S.devs.length), (HV.fresh S).F i = ⟨resets S.devs[i].regs, fun _ => 0, false⟩ := fun h => fresh_F h
  have hfph : ∀ {x : Nat}, x < S.doms.length → phN (HV.fresh S).gs x = 48 := fun h => fresh_ph hk h
  have hfO : ∀ i, ((HV.fresh S).O i).1 = 0 := fun _ => rfl
  have hfQ : ∀ i, (HV.fresh S).Q i = [] := fun _ => rfl
  have hfp : (HV.fresh S).posted = 0 := rfl
  generalize HV.fresh S = v0 at h3 hG hSt hfF hfph hfO hfQ hfp
  have hb3 : s3.h ib = some (.cells S.cells) := h3.elim fun _ h => h.c.hb
  have hb3' := hb3
  rw [Soc.cells, Soc.clkV, Soc.domV, Soc.rstV, Soc.devV] at hb3'
  obtain ⟨d, hd0⟩ : ∃ d, d = pickI at_ S.devs.length := ⟨_, rfl⟩
  have hd : d < S.devs.length := by rw [hd0]; exact pickI_lt _ n4.1
  have hzd : (0:Int) ≤ (d : Int) ∧ (d : Int) < ((S.devs.length : Nat) : Int) := by omega
  have hgr := dev_regs hd
  have hgc := dev_clamp hd
  simp only [↓Bt, Bu, simprocAttr, ↓C.z62, C.dv_b, C.dt_b, hb3', lc]
  rw [show [AV.isl 6 (List.flatMap Clk.cells S.clocks) S.clocks.length, AV.isl 3 (List.flatMap Dom.cells S.doms) S.doms.length, AV.isl 1 (List.flatMap rstCells S.rsts) S.rsts.length, AV.isl 6 (List.flatMap Dev.cells S.devs) S.devs.length] = S.cells from rfl]
  refine (conf_check_spec hk.sane.fine).mono ?_
  rintro r t0 ⟨rfl, rfl⟩
  simp only [↓Bt, Bu, simprocAttr, ↓C.z62, C.dv_b, C.dt_b, hk.right]
  simp only [↓Bt, Bu, simprocAttr, ↓C.z61, C.b6_b, hb3']
  refine (pick_spec hat n4.1).mono ?_
  rintro r t ⟨rfl, rfl⟩
  rw [← hd0]
  simp only [↓Bt, Bu, simprocAttr, ↓C.z59, C.cs_b, C.cr_b, ↓C.z61, C.b6_b, hb3]
  rw [e4]
  obtain ⟨cs, hch, hwk⟩ := wakes_spec hk hd h3 hG hSt
  refine hwk.mono ?_
  rintro r t5 ⟨rfl, v3, h6, hW⟩
  have hb6 : t5.h ib = some (.cells S.cells) := h6.elim fun _ h => h.c.hb
  rw [Soc.cells, Soc.clkV, Soc.domV, Soc.rstV, Soc.devV] at hb6
  have hd4 : d < 4 := by omega
  by_cases hr0 : S.devs[d].regs.length = 0
  · have hr0' : ((S.devs[d].regs.length : Nat) : Int) = 0 := by omega
    simp only [↓Bt, Bu, simprocAttr, ↓C.z54, C.b5_b, ↓C.z60, C.bv_b, ↓C.z65, C.z7, ↓C.z49, C.z6, ↓C.z48, C.ds_b, ↓C.cp_w, C.cp_b, ↓C.bls_w, ↓C.z50, C.cm_b, C.cl_b, ↓C.z51, C.b4_b, ↓C.z52, C.ck_b, ↓C.z53, C.cj_b, ↓C.z55, C.ch_b, ↓C.z56, C.cg_b, ↓C.blv_w, ↓C.ct_w, C.ct_b, ↓C.blw_w, ↓C.z59, C.cs_b, C.cr_b, ↓C.z61, C.b6_b, hb6, hzd, Int.toNat_natCast, hgr, hr0']
    simp only [↓Bt, Bu, simprocAttr, ↓C.z58, C.b3_b]
    refine (address_spec (d := d) (k := 0) hd4 (by decide)).mono ?_
    rintro r t7 ⟨rfl, rfl⟩
    simp only [↓Bt, Bu, simprocAttr, ↓C.z57, C.cd_b, ↓C.z58, C.b3_b]
    refine (hpost_node h6 hd (by omega) hd4 (by decide) false 0).mono ?_
    rintro r t7 ⟨rfl, rfl⟩
    simp only [↓Bt, Bu, simprocAttr, ↓C.cf_w, C.cf_b, ↓C.blt_w, ↓C.z57, C.cd_b, ↓C.z58, C.b3_b]
  have hr0' : ¬ ((S.devs[d].regs.length : Nat) : Int) = 0 := by omega
  have hrp : 0 < S.devs[d].regs.length := by omega
  simp only [↓Bt, Bu, simprocAttr, ↓C.cf_w, C.cf_b, ↓C.blt_w, ↓C.z57, C.cd_b, ↓C.z58, C.b3_b, ↓C.blv_w, ↓C.ct_w, C.ct_b, ↓C.blw_w, ↓C.z59, C.cs_b, C.cr_b, ↓C.z61, C.b6_b, hb6, hzd, Int.toNat_natCast, hgr, hr0']
  simp only [↓Bt, Bu, simprocAttr, ↓C.z56, C.cg_b, hb6, hzd, Int.toNat_natCast, hgr]
  refine (pick_spec hrg hrp).mono ?_
  rintro r t7 ⟨rfl, rfl⟩
  obtain ⟨k, hk0⟩ : ∃ k, k = pickI rg S.devs[d].regs.length := ⟨_, rfl⟩
  rw [← hk0]
  have hkl : k < S.devs[d].regs.length := by rw [hk0]; exact pickI_lt _ hrp
  have hk4 : k < 4 := by have := (hk.dev d hd).regs; omega
  simp only [↓Bt, Bu, simprocAttr, ↓C.z55, C.ch_b, ↓C.z56, C.cg_b]
  refine (address_spec (d := d) (k := k) hd4 hk4).mono ?_
  rintro r t8 ⟨rfl, rfl⟩
  have q3 := hW.good.qs hW.still d
  have hp3 : v3.posted = 0 := by rw [hW.posted, hfp]
  have hph : phN v0.gs S.devs[d].dom.toNat = 48 := hfph (by have := (hk.dev d hd).dom; omega)
  have hnow : (v3.F d).now k = S.devs[d].regs[k].reset := by rw [hW.F, wk_fresh hd (chain_mem hch) hph, resets_at hkl]
  simp only [↓Bt, Bu, simprocAttr, ↓C.z53, C.cj_b, ↓C.z55, C.ch_b]
  refine (act_post h6 q3 hd hd4 hkl hk4 (by decide) false 0).mono ?_
  rintro r t9 ⟨rfl, v4, h7, q4, p4⟩
  have hp4 : v4.posted = 1 := by rw [p4.posted, hp3]; rfl
  rw [hp3]
  simp only [↓Bt, Bu, simprocAttr, ↓C.z52, C.ck_b, ↓C.z53, C.cj_b]
  refine (act_post h7 q4 hd hd4 hkl hk4 (by simp) true w).mono ?_
  rintro r t10 ⟨rfl, v5, h8, q5, p5⟩
  have hp5 : v5.posted = 2 := by rw [p5.posted, hp4]; rfl
  rw [hp4]
  simp only [↓Bt, Bu, simprocAttr, ↓C.z51, C.b4_b, ↓C.z52, C.ck_b]
  refine (act_post h8 q5 hd hd4 hkl hk4 (by simp) false 0).mono ?_
  rintro r t11 ⟨rfl, v6, h9, q6, p6⟩
  rw [hp5]
  have q6' : QS S v6 d (wkQ k w 0) := by
    rw [hp3, hp4, hp5] at q6; exact q6
  have hal6 : v6.alive S d = true := by rw [p6.alive, p5.alive, p4.alive]; exact hW.alive
  have hnow6 : (v6.F d).now k = S.devs[d].regs[k].reset := by rw [p6.F, p5.F, p4.F]; exact hnow
  clear q6 q5 q4 p6 p5 p4 h7 h8
  obtain ⟨T9, h90⟩ := h9
  simp only [↓Bt, Bu, simprocAttr, ↓C.z50, C.cm_b, C.cl_b, ↓C.z51, C.b4_b]
  refine (hwaiting_at h90 hd).mono ?_
  rintro r t12 ⟨rfl, rfl⟩
  rw [q6'.at_, show (((wkQ k w 0).length : Nat) : Int) = 3 from rfl]
  have hb9 := h90.c.hb
  rw [Soc.cells, Soc.clkV, Soc.domV, Soc.rstV, Soc.devV] at hb9
  have hrr := reg_reset hkl
  have hzk : (0:Int) ≤ (k : Int) ∧ (k : Int) < ((S.devs[d].regs.length : Nat) : Int) := by omega
  simp only [↓Bt, Bu, simprocAttr, ↓C.cp_w, C.cp_b, ↓C.bls_w, ↓C.z50, C.cm_b, C.cl_b, ↓C.z51, C.b4_b, hb9, hzd, Int.toNat_natCast, hgr, hzk, hrr, Nat.add_zero]
  rintro iw hiw
  obtain ⟨hx, hwx, hwle⟩ := HX.box ⟨T9, h90⟩ hiw (.cells [.int .u32 S.devs[d].regs[k].reset, .int .u32 S.devs[d].regs[k].reset, .int .u32 w])
  generalize t12.new iw (.cells [.int .u32 S.devs[d].regs[k].reset, .int .u32 S.devs[d].regs[k].reset, .int .u32 w]) = t13 at hx
  generalize s2.new iw (.cells [.int .u32 S.devs[d].regs[k].reset, .int .u32 S.devs[d].regs[k].reset, .int .u32 w]) = st3 at hx hwx hwle
  generalize hR : S.devs[d].regs[k].reset = R at hnow6 hwx
  clear h6 hb6 hb9 h3 hb3 hb3' hwk
  rw [C.blr_w, awp_keep]
  simp only [↓Bt, Bu, simprocAttr, ↓C.z60, C.bv_b, ↓C.z65, C.z7, ↓C.z49, C.z6, ↓C.z48, C.ds_b]
  refine awp_midB (fun _ : Unit => [(11, .ptr a.hp 0), (13, .int .i64 d)]) (fun _ t => ∃ v, HX st3 t ib a S v ∧ QS S v d []) ?_ ?_
  rotate_left
  · rintro - t14 ⟨v7, h7, q7⟩
    simp only [↓Bt, Bu, simprocAttr, ↓C.z54, C.b5_b]
    refine (act_tick hk h7 q7 hd (fun t ht => by cases ht)).mono ?_
    rintro r t15 ⟨rfl, v8, ⟨T8, h8⟩, k8⟩
    have e8 : ansL [] = .isl 4 [] 0 := rfl
    simp only [e8]
    simp only [↓Bt, Bu, simprocAttr, ↓C.z54, C.b5_b]
    refine (hwaiting_at h8 hd).mono ?_
    rintro r t16 ⟨rfl, rfl⟩
    rw [k8.qs.at_, show (((([] : List Txn).tail).length : Nat) : Int) = 0 from rfl]
    simp only [↓Bt, Bu, simprocAttr, ↓C.z54, C.b5_b]
  refine awp_loopK (fun j : Nat => [(11, .ptr a.hp 0), (13, .int .i64 d), (27, .sl 1 iw 0 3), (28, .int .i64 j)]) (fun j t => j ≤ 3 ∧ ∃ v, HX st3 t ib a S v ∧ QS S v d (wkQ k w j) ∧ v.alive S d = true ∧ (v.F d).now k = if j < 2 then R else w) (fun j => 3 - j) 0 rfl ⟨Nat.zero_le _, v6, hx, q6', hal6, by rw [if_pos (by decide)]; exact hnow6⟩ ?_
  clear hx q6' hal6 hnow6 h90
  rintro j t14 ⟨hj, v7, h7, q7, al7, now7⟩
  have c3 : ((3 : Nat) : Int) = 3 := rfl
  by_cases hj3 : j < 3
  rotate_left
  · have hje : j = 3 := by omega
    have hj3' : ¬ (j : Int) < 3 := by omega
    rw [hje, wkQ_end] at q7
    simp only [↓Bt, Bu, simprocAttr, ↓C.z60, C.bv_b, ↓C.z65, C.z7, ↓C.z49, C.z6, hj3']
    exact ⟨(), v7, h7, q7⟩
  have hj3' : (j : Int) < 3 := by omega
  have hw' := wsucc hj3 (by omega)
  rw [wkQ_cons k w hj3] at q7
  simp only [↓Bt, Bu, simprocAttr, ↓C.z60, C.bv_b, ↓C.z49, C.z6, hj3']
  refine (act_tick hk h7 q7 hd (fun t ht _ => by
    have : t.reg = (k : Int) := by
      rw [← wkQ_cons k w hj3, wkQ, List.mem_map] at ht
      obtain ⟨x, _, rfl⟩ := ht; rfl
    exact ⟨k, this, hkl⟩)).mono ?_
  rintro r t15 ⟨rfl, v8, h8, k8⟩
  simp only [ans1_live al7]
  have ev : (v7.F d).now (wkT k w j).reg.toNat = if j < 2 then R else w := now7
  have ei : (wkT k w j).id = (j : Int) := rfl
  rw [ev, ei]
  have hwt := h8.le _ _ hwx
  have hzj : (0:Int) ≤ (j : Int) ∧ (j : Int) < 3 := by omega
  have hwg := want_get R w hj3
  have hq8 : QS S v8 d (wkQ k w (j + 1)) := k8.qs
  have hn8 : (v8.F d).now k = if j + 1 < 2 then R else w := by
    rw [k8.F, wrF_one q7.at_, if_pos al7, FSt.put]
    by_cases h1 : j = 1
    · rw [if_pos (show (wkT k w j).write = true by rw [wkT, decide_eq_true h1]), if_neg (by omega)]
      show (if k = k then (wkT k w j).value else _) = w
      rw [if_pos rfl, wkT]; simp [h1]
    · rw [if_neg (show ¬ (wkT k w j).write = true by rw [wkT, decide_eq_false h1]; simp), now7]
      by_cases h0 : j < 1
      · rw [if_pos (by omega), if_pos (by omega)]
      · rw [if_neg (by omega), if_neg (by omega)]
  simp only [↓Bt, Bu, simprocAttr, ↓C.z65, C.z7, hwt, hzj, Int.toNat_natCast, Nat.mul_one, Nat.zero_add, hwg]
  simp only [↓Bt, Bu, simprocAttr, ↓C.z60, C.bv_b, hw']
  exact ⟨j + 1, rfl, ⟨hj3, v8, h8, hq8, k8.alive al7, hn8⟩, by omega⟩
end Go.Proofs.YtdmfgodajoojpaaGreatDoor.Cn
