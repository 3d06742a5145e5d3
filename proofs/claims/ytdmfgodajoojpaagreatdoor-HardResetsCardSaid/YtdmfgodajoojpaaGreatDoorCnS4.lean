/- YtdmfgodajoojpaaGreatDoor: proofs of this seat, texts CnHard4, CnHard5, CnHard6, CnHard7, CnHardQ, CnHard8, CnPower7, CnHW2, CnHW3, CnHW4, CnHW5, CnHW6, CnHW7, CnHW8, CnHW9, CnHard9, CnHard10, CnHardS, CnHWa, CnHWb, CnHRes, CnHResE: what each shows stands at its theorems; no condition. -/
import Derived.Test.YtdmfgodajoojpaaGreatDoorCnS3
/- The chip: what is answered. -/
set_option linter.unusedSimpArgs false
set_option linter.unusedVariables false
set_option maxRecDepth 100000
namespace Go.Proofs.YtdmfgodajoojpaaGreatDoor.Cn
open Go Go.Proofs

structure Ans where
  id : Int
  dev : Nat
  dead : Bool
  value : Int
def Ans.cells (x : Ans) : List AV := [.int .i64 x.id, .int .i64 (x.dev : Nat), .bool x.dead, .int .u32 x.value]
def FSt.put (f : FSt) (t : Txn) : FSt := if t.write = true then { f with now := fun j => if j = t.reg.toNat then t.value else f.now j } else f
def clampOf (S : Soc) (i : Nat) : Int := ((S.devs[i]?).map Dev.clamp).getD 0
def HV.ansOf (v : HV) (S : Soc) (i : Nat) : Option Ans := match v.Q i with
  | [] => none
  | t :: _ => some (if v.alive S i = true then ⟨t.id, i, false, (v.F i).now t.reg.toNat⟩ else ⟨t.id, i, true, clampOf S i⟩)
def HV.wrF (v : HV) (S : Soc) (i : Nat) : FSt := match v.Q i with
  | [] => v.F i
  | t :: _ => if v.alive S i = true then (v.F i).put t else v.F i
def QOk (S : Soc) (Q : Nat → List Txn) : Prop := ∀ i (h : i < S.devs.length), ∀ t ∈ Q i, ∃ k : Nat, t.reg = (k : Int) ∧ k < S.devs[i].regs.length
section
variable {st s s' : ASt} {ib : Nat} {a : HA} {T : Nat → Nat} {S : Soc} {v : HV}
theorem clampOf_at {i : Nat} (hi : i < S.devs.length) : clampOf S i = S.devs[i].clamp := by simp [clampOf, hi]
theorem le_set_new {s0 s : ASt} {i : Nat} {o : AObj} (h : s0.le s) (hi : s0.h i = none) : s0.le (s.set i o) := fun j x hj => by
  rw [ASt.set_h, if_neg (by rintro rfl; rw [hi] at hj; cases hj)]; exact h _ _ hj
theorem HH.retag (h : HH st s ib a T S v) {T' : Nat → Nat} (hT : ∀ j, s.h j ≠ none → T' j = T j) : HH st s ib a T' S v := by
  obtain ⟨W, hw, hl, hq⟩ := h.bus.hw
  exact ⟨h.c.retag hT, h.hh, by rw [hT a.hp (by rw [h.hh]; simp)]; exact h.Th, ⟨h.bus.hp, h.bus.hr, ⟨W, hw, hl, fun i hi => (hq i hi).retag hT⟩,
    ⟨by rw [hT _ (by rw [h.bus.hp]; simp)]; exact h.bus.t.1, by rw [hT _ (by rw [h.bus.hr]; simp)]; exact h.bus.t.2.1, by rw [hT _ (by rw [hw]; simp)]; exact h.bus.t.2.2⟩, h.bus.n1, h.bus.n2, h.bus.n3⟩,
    h.devs, by rw [hT a.dv (by rw [h.devs]; simp)]; exact h.Td⟩
theorem HH.rebase (h : HH st s ib a T S v) {st1 : ASt} (hl : st1.le s) (ht : ∀ j, st1.h j ≠ none → T j = 0) : HH st1 s ib a T S v :=
  ⟨{ le := hl, tag0 := ht, hb := h.c.hb, Tb := h.c.Tb, tree := h.c.tree, Tt := h.c.Tt, grid := h.c.grid, Tg := h.c.Tg, lines := h.c.lines, Tl := h.c.Tl, files := h.c.files, ports := h.c.ports, kof := h.c.kof, ginv := h.c.ginv, linv := h.c.linv }, h.hh, h.Th, h.bus, h.devs, h.Td⟩
theorem HH.less (h : HH st s ib a T S v) {st1 : ASt} (hl : st1.le st) : HH st1 s ib a T S v :=
  h.rebase (hl.trans h.c.le) fun j hj => h.c.tag0 j (by
    cases e : st1.h j with
    | none => exact absurd e hj
    | some o => rw [hl _ _ e]; simp)
def HX (st s : ASt) (ib : Nat) (a : HA) (S : Soc) (v : HV) : Prop := ∃ T, HH st s ib a T S v
theorem HX.less (h : HX st s ib a S v) {st1 : ASt} (hl : st1.le st) : HX st1 s ib a S v := h.imp fun _ h => h.less hl
theorem HX.step (h : HX st s ib a S v) (hl : s.le s') : HX st s' ib a S v := h.imp fun _ h => h.step hl
theorem HX.le (h : HX st s ib a S v) : st.le s := h.elim fun _ h => h.c.le
theorem HX.loc (h : HX st s ib a S v) {ix : Nat} (hi : s.h ix = none) (o : AObj) : HX (st.new ix o) (s.new ix o) ib a S v := by
  obtain ⟨T, h⟩ := h
  have hT : ∀ j, s.h j ≠ none → (fun j => if j = ix then 0 else T j) j = T j := fun j hj => by
    simp only
    rw [if_neg (by rintro rfl; exact hj hi)]
  have hle := h.c.le
  refine ⟨fun j => if j = ix then 0 else T j, ((h.retag hT).step (ASt.le.new s ix o)).rebase (hle.newB hi o) fun j hj => ?_⟩
  by_cases e : j = ix
  · simp [e]
  · simp only [if_neg e]
    rw [ASt.new_ne _ e] at hj
    exact h.c.tag0 j hj
theorem ASt.le.setB {s0 s : ASt} (h : s0.le s) (i : Nat) (o : AObj) : (s0.set i o).le (s.set i o) := fun j x hj => by
  rw [ASt.set_h] at hj ⊢
  split
  · rename_i e; subst e
    rw [if_pos rfl] at hj
    cases e0 : s0.h j with
    | none => rw [e0] at hj; cases hj
    | some y => rw [e0] at hj; rw [h _ _ e0]; exact hj
  · rename_i e
    rw [if_neg e] at hj; exact h _ _ hj
theorem HX.locSet (h : HX st s ib a S v) {ix : Nat} (hi : st.h ix ≠ none) (o : AObj) : HX (st.set ix o) (s.set ix o) ib a S v := by
  obtain ⟨T, h⟩ := h
  have h0 := h.c.tag0 ix hi
  refine ⟨T, ?_⟩
  have hk : Keeps T 0 s (s.set ix o) := Keeps.set h0
  have hl0 : ∀ j, (st.set ix o).h j ≠ none → st.h j ≠ none := fun j hj => by
    rw [ASt.set_h] at hj
    split at hj
    · rename_i e; subst e; exact hi
    · exact hj
  refine ⟨{ le := h.c.le.setB ix o, tag0 := fun j hj => h.c.tag0 j (hl0 j hj), hb := hk.at_ h.c.hb h.c.Tb (by omega), Tb := h.c.Tb, tree := h.c.tree.kept h.c.Tt hk (by omega), Tt := h.c.Tt, grid := h.c.grid.kept h.c.Tg hk (by omega), Tg := h.c.Tg, lines := h.c.lines.kept h.c.Tl hk (by omega), Tl := h.c.Tl, files := (fun i hi hm => ⟨(h.c.files i hi hm).1.kept (h.c.files i hi hm).2 hk (by omega), (h.c.files i hi hm).2⟩), ports := (fun i hm => ⟨hk.at_ (h.c.ports i hm).1 (h.c.ports i hm).2.1 (by omega), (h.c.ports i hm).2⟩), kof := h.c.kof, ginv := h.c.ginv, linv := h.c.linv },
    hk.at_ h.hh h.Th (by omega), h.Th, h.bus.kept hk (by omega) (fun i => by omega), hk.at_ h.devs h.Td (by omega), h.Td⟩
theorem HX.box (h : HX st s ib a S v) {ix : Nat} (hi : s.h ix = none) (o : AObj) : HX (st.new ix o) (s.new ix o) ib a S v ∧ (st.new ix o).h ix = some o ∧ st.le (st.new ix o) :=
  ⟨h.loc hi o, ASt.new_self _ (fresh_of_le h.le hi), ASt.le.new _ _ _⟩
set_option maxHeartbeats 1000000 in
theorem hanswer (h : HX st s ib a S v) (hQ : QOk S v.Q) {i : Nat} (hi : i < S.devs.length) : ACalls Tryz.prog F.q92 [.ptr a.hp 0, .int .i64 i] s fun r s' =>
    (match v.ansOf S i with
      | none => r = .tup [.agg [.int .i64 0, .int .i64 0, .bool false, .int .u32 0], .bool false]
      | some x => r = .tup [.agg x.cells, .bool true]) ∧ HX st s' ib a S { v with Q := upF v.Q i (v.Q i).tail, F := upF v.F i (v.wrF S i) } := by
  have hz : (0:Int) ≤ (i : Int) ∧ (i : Int) < (S.devs.length : Int) := by omega
  have hvF : ∀ f : FSt, f = v.F i → upF v.F i f = v.F := fun f e => by
    funext j
    by_cases hj : j = i
    · subst hj; rw [upF_at, e]
    · rw [upF_ne hj]
  refine calls_of_awp L.q92 rfl ?_
  simp only [↓Bt, Bu, simprocAttr, ↓C.bd_w, C.bd_b, C.q92]
  intro ix hix
  obtain ⟨h1, hx, hle1⟩ := h.box hix (.cells [.int .i64 0, .int .i64 0, .bool false, .int .u32 0])
  generalize s.new ix (.cells [.int .i64 0, .int .i64 0, .bool false, .int .u32 0]) = u at h1
  generalize st.new ix (.cells [.int .i64 0, .int .i64 0, .bool false, .int .u32 0]) = st1 at h1 hx hle1
  obtain ⟨T, h2⟩ := h1
  have hixs : st.h ix = none := fresh_of_le h.le hix
  simp only [↓Bt, Bu, simprocAttr, ↓C.z123, C.bk_b, ↓C.bd_w, C.bd_b, C.q92, h2.hh]
  refine (btake h2 hi).mono ?_
  rintro r u2 (⟨hq, rfl, rfl⟩ | ⟨t, q, hq, rfl, h3⟩)
  · have hxu := h2.c.le _ _ hx
    simp only [↓Bt, Bu, simprocAttr, ↓C.z123, C.bk_b, ↓C.bd_w, C.bd_b, C.q92]
    intro i6 hi6
    have n6 : ¬ ix = i6 := by rintro rfl; rw [hxu] at hi6; cases hi6
    simp only [↓Bt, Bu, simprocAttr, ↓C.q92_W, C.q92_B, C.q92, hi6, n6, hxu]
    have e1 : v.ansOf S i = none := by rw [HV.ansOf, hq]
    have e2 : v.wrF S i = v.F i := by rw [HV.wrF, hq]
    rw [e1, e2, hq, hvF _ rfl]
    have e3 : upF v.Q i [] = v.Q := by
      funext j
      by_cases hj : j = i
      · subst hj; rw [upF_at, hq]
      · rw [upF_ne hj]
    simp only [List.tail_nil, e3]
    refine ⟨rfl, rfl, trivial, ?_⟩
    rw [ASt.new_set hi6]
    obtain ⟨h4, -, hle2⟩ := HX.box ⟨T, h2⟩ hi6 (.cells [.int .i64 0, .bool false, .int .i64 0, .int .u32 0])
    exact (h4.locSet (by rw [hle2 _ _ hx]; simp) _).less (le_set_new (hle1.trans hle2) hixs)
  · simp only [↓Bt, Bu, simprocAttr, ↓C.z123, C.bk_b, ↓C.bd_w, C.bd_b, C.q92]
    intro i6 hi6
    have l4 : t.cells.length = 4 := rfl
    have f4 : allLeaf t.cells = true := rfl
    simp only [↓Bt, Bu, simprocAttr, ↓C.z123, C.bk_b, ↓C.bd_w, C.bd_b, C.q92, hi6, l4, f4]
    rw [ASt.new_set hi6, putN_all (zs := [AV.int .i64 0, AV.bool false, AV.int .i64 0, AV.int .u32 0]) (vs := t.cells) rfl]
    obtain ⟨h4, hx6, hle2⟩ := HX.box ⟨T, h3⟩ hi6 (.cells t.cells)
    have hx2 := hle2 _ _ hx
    generalize u2.new i6 (.cells t.cells) = u3 at h4
    generalize st1.new i6 (.cells t.cells) = st2 at h4 hx6 hle2 hx2
    have hle3 := hle1.trans hle2
    clear h3 hle1 hle2 hx
    obtain ⟨T2, h5⟩ := h4
    have hfit := devsC_fit (a := a) hi
    have hat := devsC_at (a := a) hi
    rw [devC_eq hi] at hat
    simp only [↓Bt, Bu, simprocAttr, ↓C.z122, C.z43, ↓C.z123, C.bk_b, ↓C.bd_w, C.bd_b, C.q92, h5.hh, h5.devs, hz, Int.toNat_natCast, hfit, hat]
    intro i8 hi8
    simp only [↓Bt, Bu, simprocAttr, ↓C.z122, C.z43, ↓C.z123, C.bk_b, ↓C.bd_w, C.bd_b, C.q92, hi8, allLeaf, AV.leaf]
    rw [ASt.new_set hi8]
    obtain ⟨h6, hx8, hle4⟩ := HX.box ⟨T2, h5⟩ hi8 (.cells [.int .i64 S.devs[i].clock, .int .i64 S.devs[i].dom, .int .i64 S.devs[i].rst, .int .u32 S.devs[i].clamp, .ptr (a.fp i) 0, .ptr (a.pp i) 0])
    have hx3 := hle4 _ _ hx2
    have hx7 := hle4 _ _ hx6
    generalize u3.new i8 (.cells [.int .i64 S.devs[i].clock, .int .i64 S.devs[i].dom, .int .i64 S.devs[i].rst, .int .u32 S.devs[i].clamp, .ptr (a.fp i) 0, .ptr (a.pp i) 0]) = u4 at h6
    generalize st2.new i8 (.cells [.int .i64 S.devs[i].clock, .int .i64 S.devs[i].dom, .int .i64 S.devs[i].rst, .int .u32 S.devs[i].clamp, .ptr (a.fp i) 0, .ptr (a.pp i) 0]) = st3 at h6 hx8 hle4 hx3 hx7
    have hle5 := hle3.trans hle4
    clear h5 hle3 hle4 hx2 hx6
    obtain ⟨T3, h7⟩ := h6
    have y3 := h7.c.le _ _ hx3
    have y7 := h7.c.le _ _ hx7
    have y8 := h7.c.le _ _ hx8
    have hlive : st3.h ix ≠ none := by rw [hx3]; simp
    have y7' := y7
    rw [Txn.cells] at y7'
    simp only [↓Bt, Bu, simprocAttr, ↓C.q92_W, C.q92_B, C.q92]
    refine (halive h7 i).mono ?_
    rintro r u5 ⟨rfl, rfl⟩
    have hal : HV.aliveI { v with Q := upF v.Q i q } S (i : Int) = v.alive S i := by
      rw [HV.aliveI, Int.toNat_natCast]
      simp [HV.alive]
    rw [hal]
    have e1 : v.ansOf S i = some (if v.alive S i = true then ⟨t.id, i, false, (v.F i).now t.reg.toNat⟩ else ⟨t.id, i, true, clampOf S i⟩) := by rw [HV.ansOf, hq]
    have e2 : v.wrF S i = if v.alive S i = true then (v.F i).put t else v.F i := by rw [HV.wrF, hq]
    rw [e1, e2, hq]
    simp only [List.tail_cons]
    cases hal2 : v.alive S i
    · simp only [↓Bt, Bu, simprocAttr, ↓C.q92_W, C.q92_B, C.q92, y3, y7', y8, allLeaf, AV.leaf]
      refine ⟨by rw [clampOf_at hi]; rfl, ?_⟩
      rw [hvF _ rfl]
      exact (HX.locSet ⟨T3, h7⟩ hlive _).less (le_set_new hle5 hixs)
    · obtain ⟨k, hk, hkl⟩ := hQ i hi t (by rw [hq]; simp)
      have hcell := y7'
      rw [hk] at y7'
      simp only [↓Bt, Bu, simprocAttr, ↓C.q92_W, C.q92_B, C.q92, y3, y7', y8]
      refine (read_at (file_at h7 hi) hkl).mono ?_
      rintro r u6 ⟨rfl, rfl⟩
      have hkt : t.reg.toNat = k := by rw [hk]; rfl
      have fin : ∀ (f : FSt) (u7 : ASt), HX st3 u7 ib a S { v with Q := upF v.Q i q, F := upF v.F i f } → f = (v.F i).put t → awp Tryz.prog C.blh
          (Post [IRes.cellN 4 4, IRes.slot 5] fun r s' => r = AV.tup [AV.agg (Ans.mk t.id i false ((v.F i).now t.reg.toNat)).cells, AV.bool true] ∧ HX st s' ib a S { v with Q := upF v.Q i (t :: q).tail, F := upF v.F i ((v.F i).put t) })
          [(1, .int .i64 i), (4, .ptr ix 0), (6, .ptr i6 0), (9, .int .u32 ((v.F i).now k))] u7 := by
        intro f u7 h8 hf
        have y3 := h8.le _ _ hx3
        have y7 := h8.le _ _ hx7
        rw [Txn.cells] at y7
        simp only [↓Bt, Bu, simprocAttr, ↓C.q92_W, C.q92_B, C.q92, y3, y7, allLeaf, AV.leaf]
        refine ⟨by rw [hkt]; rfl, ?_⟩
        rw [← hf]
        exact (h8.locSet hlive _).less (le_set_new hle5 hixs)
      simp only [↓Bt, Bu, simprocAttr, ↓C.z124, C.z44, ↓C.z122, C.z43, ↓C.z123, C.bk_b, ↓C.bd_w, C.bd_b, C.q92, y3, y7', y8]
      by_cases htw : t.write = true
      · rw [if_pos htw]
        refine (write_at (file_at h7 hi) hkl t.value).mono ?_
        rintro r u7 ⟨rfl, g1, g2⟩
        have h8 := h7.putFile hi g2 (f := (v.F i).put t) (by rw [FSt.put, if_pos htw, hkt]; exact g1)
        have := fin _ u7 ⟨T3, h8⟩ rfl
        simp only [↓Bt, Bu, simprocAttr, ↓C.z124, C.z44, ↓C.z122, C.z43, ↓C.z123, C.bk_b, ↓C.bd_w, C.bd_b, C.q92, y3, y7', y8]
        rw [C.blh_w, awp_keep] at this ⊢
        exact this
      · rw [if_neg htw]
        have := fin (v.F i) u6 ⟨T3, by rw [hvF _ rfl]; exact h7⟩ (by rw [FSt.put, if_neg htw])
        rw [C.blh_w, awp_keep] at this ⊢
        exact this
end
/- The chip: a tick, its first half: what is answered, the channels. -/
set_option maxRecDepth 100000

def HV.ansV (v : HV) (S : Soc) (n : Nat) : HV := { v with Q := fun i => if i < n then (v.Q i).tail else v.Q i, F := fun i => if i < n then v.wrF S i else v.F i }
def HV.told (v : HV) (S : Soc) (n : Nat) : List Ans := (List.range n).filterMap (v.ansOf S)
theorem ansV_zero (v : HV) (S : Soc) : v.ansV S 0 = v := by
  simp [HV.ansV]
theorem ansV_succ (v : HV) (S : Soc) (n : Nat) : { v.ansV S n with Q := upF (v.ansV S n).Q n ((v.ansV S n).Q n).tail, F := upF (v.ansV S n).F n ((v.ansV S n).wrF S n) } = v.ansV S (n + 1) := by
  have hq : (v.ansV S n).Q n = v.Q n := by simp [HV.ansV]
  have hf : (v.ansV S n).F n = v.F n := by simp [HV.ansV]
  have hw : (v.ansV S n).wrF S n = v.wrF S n := by
    unfold HV.wrF
    rw [hq, hf]; rfl
  have e1 : upF (v.ansV S n).Q n ((v.ansV S n).Q n).tail = (v.ansV S (n + 1)).Q := by
    funext i
    rw [hq]
    by_cases h : i = n
    · subst h; rw [upF_at]; simp [HV.ansV]
    · rw [upF_ne h]
      by_cases h2 : i < n
      · simp [HV.ansV, h2, show i < n + 1 by omega]
      · simp [HV.ansV, h2, show ¬ i < n + 1 by omega]
  have e2 : upF (v.ansV S n).F n ((v.ansV S n).wrF S n) = (v.ansV S (n + 1)).F := by
    funext i
    rw [hw]
    by_cases h : i = n
    · subst h; rw [upF_at]; simp [HV.ansV]
    · rw [upF_ne h]
      by_cases h2 : i < n
      · simp [HV.ansV, h2, show i < n + 1 by omega]
      · simp [HV.ansV, h2, show ¬ i < n + 1 by omega]
  rw [e1, e2]; rfl
theorem ansV_ansOf (v : HV) (S : Soc) (n : Nat) : (v.ansV S n).ansOf S n = v.ansOf S n := by
  have hq : (v.ansV S n).Q n = v.Q n := by simp [HV.ansV]
  have hf : (v.ansV S n).F n = v.F n := by simp [HV.ansV]
  unfold HV.ansOf
  rw [hq, hf]; rfl
theorem QOk.ansV {S : Soc} {v : HV} (h : QOk S v.Q) (n : Nat) : QOk S (v.ansV S n).Q := fun i hi t ht => by
  simp only [HV.ansV] at ht
  split at ht
  · exact h i hi t (List.mem_of_mem_tail ht)
  · exact h i hi t ht
theorem told_succ (v : HV) (S : Soc) (n : Nat) : v.told S (n + 1) = v.told S n ++ (v.ansOf S n).toList := by
  simp only [HV.told]
  rw [List.range_succ, List.filterMap_append]
  cases h : v.ansOf S n <;> simp [h]
theorem told_len (v : HV) (S : Soc) (n : Nat) : (v.told S n).length ≤ n := by
  have := List.length_filterMap_le (v.ansOf S) (List.range n)
  simpa [HV.told] using this
def denyB (deny : Int) (i : Nat) : Bool := decide (IntKind.u32.wrap (BitVec.ofInt 32 (deny.fdiv (2 ^ (min i 32))) &&& BitVec.ofInt 32 1).toNat = 1)
def HV.portV (w : HV) (deny : Int) (n : Nat) : HV := { w with O := fun i => if i < n then qtick (w.O i).1 (w.O i).2 (decide ((0 : Int) < ((w.Q i).length : Nat))) (denyB deny i) else w.O i }
theorem portV_zero (w : HV) (deny : Int) : w.portV deny 0 = w := by simp [HV.portV]
theorem portV_succ (w : HV) (deny : Int) (n : Nat) : { w.portV deny n with O := upF (w.portV deny n).O n (qtick (w.O n).1 (w.O n).2 (decide ((0 : Int) < ((w.Q n).length : Nat))) (denyB deny n)) } = w.portV deny (n + 1) := by
  have e1 : upF (w.portV deny n).O n (qtick (w.O n).1 (w.O n).2 (decide ((0 : Int) < ((w.Q n).length : Nat))) (denyB deny n)) = (w.portV deny (n + 1)).O := by
    funext i
    by_cases h : i = n
    · subst h; rw [upF_at]; simp [HV.portV]
    · rw [upF_ne h]
      by_cases h2 : i < n
      · simp [HV.portV, h2, show i < n + 1 by omega]
      · simp [HV.portV, h2, show ¬ i < n + 1 by omega]
  rw [e1]; rfl
theorem qtick_ok {x y : Int} {a d : Bool} (h : 0 ≤ x ∧ x ≤ 3) : 0 ≤ (qtick x y a d).1 ∧ (qtick x y a d).1 ≤ 3 := by
  unfold qtick
  split
  · split
    · simp
    · split <;> simp
  · exact h
section
variable {st s s' : ASt} {ib : Nat} {a : HA} {T : Nat → Nat} {S : Soc} {v : HV}
theorem HX.kill (h : HX st s ib a S v) {ix : Nat} (hi : st.h ix ≠ none) : HX (st.kill ix) (s.kill ix) ib a S v := by
  obtain ⟨T, h⟩ := h
  have h0 := h.c.tag0 ix hi
  have hk : Keeps T 0 s (s.kill ix) := fun j o hj hn => by
    rw [ASt.kill_h, if_neg (by rintro rfl; exact hn h0)]; exact hj
  have hle : (st.kill ix).le (s.kill ix) := fun j x hj => by
    rw [ASt.kill_h] at hj ⊢
    split
    · rename_i e; rw [if_pos e] at hj; cases hj
    · rename_i e; rw [if_neg e] at hj; exact h.c.le _ _ hj
  refine ⟨T, ⟨{ le := hle, tag0 := fun j hj => h.c.tag0 j (ASt.kill_live hj).2, hb := hk.at_ h.c.hb h.c.Tb (by omega), Tb := h.c.Tb, tree := h.c.tree.kept h.c.Tt hk (by omega), Tt := h.c.Tt, grid := h.c.grid.kept h.c.Tg hk (by omega), Tg := h.c.Tg, lines := h.c.lines.kept h.c.Tl hk (by omega), Tl := h.c.Tl, files := (fun i hi hm => ⟨(h.c.files i hi hm).1.kept (h.c.files i hi hm).2 hk (by omega), (h.c.files i hi hm).2⟩), ports := (fun i hm => ⟨hk.at_ (h.c.ports i hm).1 (h.c.ports i hm).2.1 (by omega), (h.c.ports i hm).2⟩), kof := h.c.kof, ginv := h.c.ginv, linv := h.c.linv },
    hk.at_ h.hh h.Th (by omega), h.Th, h.bus.kept hk (by omega) (fun i => by omega), hk.at_ h.devs h.Td (by omega), h.Td⟩⟩
theorem aop_append_hx {P : Program} {sz b : Nat} {zs : List AV} {parts : List (Nat × Nat × IArg)} {x y : IArg} {fr : AFr} {st1 t : ASt} {F : AV → AFr} {K : AV → AV → ASt → Prop} {tv : AV} {n : Nat} {cs new : List AV}
    (h : HX st1 t ib a S v) (hown : Over st st1 sz tv n cs) (hn : n + 1 ≤ 4294967296) (hnew : aput (zeros zs 1) (parts.map fun p => (p.1, p.2.1, fr.val p.2.2)) = .some new) (hlen : new.length = sz) (hleaf : allLeaf new = true)
    (hx : ∀ v1, (F v1).val x = tv) (hy : ∀ v1, (F v1).val y = v1)
    (hk : ∀ v1 v2 st2 t2, HX st2 t2 ib a S v → Over st st2 sz v2 (n + 1) (cs ++ new) → K v1 v2 t2) :
    aop P (.buildSlice sz 1 zs parts) fr t (fun v1 st1 => aop P (.append sz b x y) (F v1) st1 (K v1)) := by
  have hs : Shows t sz tv n cs := by
    obtain ⟨h1, h2⟩ := hown.1
    refine ⟨h1, h2.imp (fun x => x) fun ⟨i, e, hi⟩ => ⟨i, e, h.le _ _ hi⟩⟩
  refine aop_append_one hs hn hnew hlen hleaf hx hy fun v1 i2 t2 h1 h2 h3 => ?_
  have hkill : HX (st1.without tv) (t.without tv) ib a S v := by
    rcases hown.1.2 with ⟨_, rfl⟩ | ⟨i, rfl, hi⟩
    · exact h
    · exact h.kill (by rw [hi]; simp)
  have hle := hown.2.1.without hown.2.2
  have hf : (st1.without tv).h i2 = none := fresh_of_le hkill.le h1
  have hfs : st.h i2 = none := fresh_of_le hle hf
  obtain ⟨q1, q2⟩ := h3
  rcases q2 with ⟨q2, _⟩ | ⟨i, q2, q3⟩
  · omega
  cases q2
  refine hk v1 _ ((st1.without tv).new i2 (.cells (cs ++ new))) t2 ((hkill.loc h1 (.cells (cs ++ new))).step fun j o hj => ?_) ⟨⟨q1, .inr ⟨i2, rfl, ASt.new_self _ hf⟩⟩, hle.trans (ASt.le.new _ _ _), fun sz i off n e => ?_⟩
  · by_cases e : j = i2
    · subst e; rw [ASt.new_self _ h1] at hj; rw [q3]; exact hj
    · rw [ASt.new_ne _ e] at hj; exact h2 _ _ hj
  · cases e; exact hfs
def TickQ (st : ASt) (ib : Nat) (a : HA) (S : Soc) (vf : HV) (l : List Ans) (r : AV) (s' : ASt) : Prop :=
  ∃ st1, Over st st1 4 r l.length (l.flatMap Ans.cells) ∧ HX st1 s' ib a S vf
set_option maxHeartbeats 1000000 in
theorem tick_ports {st1 : ASt} {tv : AV} {l : List Ans} {w : HV} {deny : Int} {vf : HV} (hO : Over st st1 4 tv l.length (l.flatMap Ans.cells)) (h : HX st1 s ib a S w) (hd4 : S.devs.length ≤ 4)
    (hnext : ∀ t, HX st1 t ib a S (w.portV deny S.devs.length) → awp Tryz.prog C.m8 (Post [.slot 4] (TickQ st ib a S vf l)) [(0, .ptr a.hp 0), (5, tv)] t) :
    awp Tryz.prog C.blb (Post [.slot 4] (TickQ st ib a S vf l)) [(0, .ptr a.hp 0), (1, .int .u32 deny), (5, tv)] s := by
  obtain ⟨T, h0⟩ := h
  simp only [↓Bt, Bu, simprocAttr, ↓C.z115, C.z41, ↓C.ng_w, C.ng_b, ↓C.b0j_w, ↓C.bz1_w, ↓C.b0m_w, ↓C.nc_w, C.nc_b, ↓C.blb_w, h0.hh]
  refine awp_midB (fun _ : Unit => [(0, .ptr a.hp 0), (5, tv)]) (fun _ t => HX st1 t ib a S (w.portV deny S.devs.length)) ?_ ?_
  rotate_left
  · rintro - t ht
    have := hnext t ht
    rw [C.m8_w, awp_keep] at this
    exact this
  refine awp_loopK (fun i : Nat => [(0, .ptr a.hp 0), (1, .int .u32 deny), (5, tv), (42, .sl 6 a.dv 0 S.devs.length), (43, .int .i64 S.devs.length), (44, .int .i64 i)]) (fun i t => i ≤ S.devs.length ∧ HX st1 t ib a S (w.portV deny i)) (fun i => S.devs.length - i) 0 rfl ⟨Nat.zero_le _, T, by rw [portV_zero]; exact h0⟩ ?_
  clear h0 hnext
  rintro i t ⟨hi, h⟩
  by_cases hil : i < S.devs.length
  rotate_left
  · have hie : i = S.devs.length := by omega
    subst hie
    have hil' : ¬ ((S.devs.length : Nat) : Int) < (S.devs.length : Nat) := by omega
    simp only [↓Bt, Bu, simprocAttr, ↓C.q90_W, C.q90_B, C.q90, hil']
    exact ⟨(), h⟩
  have hil' : (i : Int) < (S.devs.length : Nat) := by omega
  have hw := wsucc hil (by omega)
  have hz : (0:Int) ≤ (i : Int) ∧ (i : Int) < (S.devs.length : Int) := by omega
  have hfit := devsC_fit (a := a) hil
  have hat := devsC_at (a := a) hil
  rw [devC_eq hil] at hat
  obtain ⟨T, h2⟩ := h
  simp only [↓Bt, Bu, simprocAttr, ↓C.z115, C.z41, hil', hz, h2.devs, Int.toNat_natCast, hfit, hat]
  intro ix hix
  simp only [↓Bt, Bu, simprocAttr, ↓C.z115, C.z41, hix, allLeaf, AV.leaf]
  rw [ASt.new_set hix]
  obtain ⟨h3, hx, hle⟩ := HX.box ⟨T, h2⟩ hix (.cells [.int .i64 S.devs[i].clock, .int .i64 S.devs[i].dom, .int .i64 S.devs[i].rst, .int .u32 S.devs[i].clamp, .ptr (a.fp i) 0, .ptr (a.pp i) 0])
  generalize t.new ix (.cells [.int .i64 S.devs[i].clock, .int .i64 S.devs[i].dom, .int .i64 S.devs[i].rst, .int .u32 S.devs[i].clamp, .ptr (a.fp i) 0, .ptr (a.pp i) 0]) = u at h3
  generalize st1.new ix (.cells [.int .i64 S.devs[i].clock, .int .i64 S.devs[i].dom, .int .i64 S.devs[i].rst, .int .u32 S.devs[i].clamp, .ptr (a.fp i) 0, .ptr (a.pp i) 0]) = st2 at h3 hx hle
  obtain ⟨T2, h4⟩ := h3
  have hxu := h4.c.le _ _ hx
  have hi0 : (0 : Int) ≤ (i : Int) := by omega
  simp only [↓Bt, Bu, simprocAttr, ↓C.q90_W, C.q90_B, C.q90, hxu, h4.hh]
  refine (bwaiting h4.bus hil).mono ?_
  rintro r u2 ⟨rfl, rfl⟩
  simp only [↓Bt, Bu, simprocAttr, ↓C.q90_W, C.q90_B, C.q90, hxu, h4.hh, ashift_shr hi0, gt_iff_lt]
  refine (qtick_spec (port_at h4 hil) _ _).mono ?_
  rintro r u3 rfl
  simp only [↓Bt, Bu, simprocAttr, ↓C.q90_W, C.q90_B, C.q90, hw]
  refine ⟨i + 1, rfl, ⟨hil, ?_⟩, by omega⟩
  have h5 := HX.less ⟨T2, h4.putPort hil (qtick ((w.portV deny i).O i).1 ((w.portV deny i).O i).2 (decide ((0 : Int) < ((w.Q i).length : Nat))) (denyB deny i)).1 (qtick ((w.portV deny i).O i).1 ((w.portV deny i).O i).2 (decide ((0 : Int) < ((w.Q i).length : Nat))) (denyB deny i)).2 (qtick_ok (h4.c.ports i hil).2.2)⟩ hle
  have ho : (w.portV deny i).O i = w.O i := by simp [HV.portV]
  have := portV_succ w deny i
  rw [← ho] at this
  rw [← this]
  exact h5
end
/- The chip: a tick, its second half: clocks, domains and what becomes of registers, lines. -/
set_option maxRecDepth 100000

def FSt.save (R : List Reg) (f : FSt) : FSt := ⟨f.now, fun j => if retOf R j = true then f.now j else f.saved j, true⟩
def FSt.restore (R : List Reg) (f : FSt) : FSt := ⟨fun j => if (f.kept && retOf R j) = true then f.saved j else resets R j, f.saved, f.kept⟩
def FSt.clear (R : List Reg) (f : FSt) : FSt := ⟨resets R, f.saved, false⟩
def FSt.deed (R : List Reg) (k : Int) (f : FSt) : FSt := if k = 115 then f.save R else if k = 114 then f.restore R else if k = 108 ∨ k = 110 then f.clear R else f
def deedF (S : Soc) (e : Int × Nat) (F : Nat → FSt) : Nat → FSt := fun i => match S.devs[i]? with
  | some d => if d.dom = (e.2 : Int) then (F i).deed d.regs e.1 else F i
  | none => F i
def deedTo (S : Soc) (e : Int × Nat) (F : Nat → FSt) (j : Nat) : Nat → FSt := fun i => if i < j then deedF S e F i else F i
def deedsF (S : Soc) (E : List (Int × Nat)) (G : Nat → FSt) : Nat → FSt := E.foldl (fun G e => deedF S e G) G
theorem deedTo_zero (S : Soc) (e : Int × Nat) (F : Nat → FSt) : deedTo S e F 0 = F := by funext i; simp [deedTo]
theorem deedF_at {S : Soc} {e : Int × Nat} {F : Nat → FSt} {i : Nat} (h : i < S.devs.length) : deedF S e F i = if S.devs[i].dom = (e.2 : Int) then (F i).deed S.devs[i].regs e.1 else F i := by
  rw [deedF, List.getElem?_eq_getElem h]
theorem deedTo_all (S : Soc) (e : Int × Nat) (F : Nat → FSt) : deedTo S e F S.devs.length = deedF S e F := by
  funext i
  unfold deedTo
  split
  · rfl
  · rw [deedF, List.getElem?_eq_none (by omega)]
theorem deedTo_succ {S : Soc} {e : Int × Nat} {F : Nat → FSt} {j : Nat} (h : j < S.devs.length) : deedTo S e F (j + 1) = if S.devs[j].dom = (e.2 : Int) then upF (deedTo S e F j) j ((deedTo S e F j j).deed S.devs[j].regs e.1) else deedTo S e F j := by
  have hj : deedTo S e F j j = F j := by simp [deedTo]
  funext i
  by_cases hi : i = j
  · subst hi
    rw [show deedTo S e F (i + 1) i = deedF S e F i by simp [deedTo], deedF_at h]
    split
    · rw [upF_at, hj]
    · exact hj.symm
  · have e1 : deedTo S e F (j + 1) i = deedTo S e F j i := by
      unfold deedTo
      by_cases h2 : i < j
      · rw [if_pos h2, if_pos (by omega)]
      · rw [if_neg h2, if_neg (by omega)]
    rw [e1]
    split
    · rw [upF_ne hi]
    · rfl
theorem deed_none {R : List Reg} {f : FSt} {k : Int} (h1 : k ≠ 115) (h2 : k ≠ 114) (h3 : ¬ (k = 108 ∨ k = 110)) : f.deed R k = f := by
  rw [FSt.deed, if_neg h1, if_neg h2, if_neg h3]
theorem deedF_none {S : Soc} {e : Int × Nat} {F : Nat → FSt} (h1 : e.1 ≠ 115) (h2 : e.1 ≠ 114) (h3 : ¬ (e.1 = 108 ∨ e.1 = 110)) : deedF S e F = F := by
  funext i
  unfold deedF
  split
  · split
    · exact deed_none h1 h2 h3
    · rfl
  · rfl
theorem L_hasBody_Save : hasBody Tryz.prog F.q113 = true := by kernel_rfl
theorem L_hasBody_Restore : hasBody Tryz.prog F.q111 = true := by kernel_rfl
theorem L_hasBody_Clear : hasBody Tryz.prog F.q107 = true := by kernel_rfl
def deedN (k : Int) : Option Nat := if k = 115 then some F.q113 else if k = 114 then some F.q111 else if k = 108 ∨ k = 110 then some F.q107 else none
theorem deed_spec (st : ASt) (k : Int) : ACalls Tryz.prog F.q96 [.int .u8 k] st fun r s => r = (match deedN k with | some g => .fn g [] | none => .nilf) ∧ s = st := by
  refine calls_of_awp L.q96 rfl ?_
  unfold deedN
  by_cases h1 : k = 115
  · simp only [↓Bt, Bu, simprocAttr, ↓C.q96_W, C.q96_B, C.q96, h1]
  by_cases h2 : k = 114
  · simp only [↓Bt, Bu, simprocAttr, ↓C.q96_W, C.q96_B, C.q96, h1, h2]
  by_cases h3 : k = 108
  · simp only [↓Bt, Bu, simprocAttr, ↓C.q96_W, C.q96_B, C.q96, h1, h2, h3, true_or]
  by_cases h4 : k = 110
  · simp only [↓Bt, Bu, simprocAttr, ↓C.q96_W, C.q96_B, C.q96, h1, h2, h3, h4, or_true]
  · simp only [↓Bt, Bu, simprocAttr, ↓C.q96_W, C.q96_B, C.q96, h1, h2, h3, h4, or_self]
section
variable {st s s' : ASt} {ib : Nat} {a : HA} {T : Nat → Nat} {S : Soc} {v : HV}
theorem deed_call {k : Int} {g : Nat} (hg : deedN k = some g) {st1 t : ASt} {w : HV} {i : Nat} (hi : i < S.devs.length) (h : HX st1 t ib a S w) :
    hasBody Tryz.prog g = true ∧ ACalls Tryz.prog g [.ptr (a.fp i) 0] t fun _ t' => HX st1 t' ib a S { w with F := upF w.F i ((w.F i).deed S.devs[i].regs k) } := by
  obtain ⟨T, h⟩ := h
  unfold deedN at hg
  unfold FSt.deed
  by_cases h1 : k = 115
  · rw [if_pos h1] at hg; cases hg
    rw [if_pos h1]
    refine ⟨L_hasBody_Save, (save_f (file_at h hi)).mono ?_⟩
    rintro r t' ⟨q1, q2⟩
    exact ⟨T, h.putFile hi q2 q1⟩
  rw [if_neg h1] at hg ⊢
  by_cases h2 : k = 114
  · rw [if_pos h2] at hg; cases hg
    rw [if_pos h2]
    refine ⟨L_hasBody_Restore, (restore_f (file_at h hi)).mono ?_⟩
    rintro r t' ⟨q1, q2⟩
    exact ⟨T, h.putFile hi q2 q1⟩
  rw [if_neg h2] at hg ⊢
  by_cases h3 : k = 108 ∨ k = 110
  · rw [if_pos h3] at hg; cases hg
    rw [if_pos h3]
    refine ⟨L_hasBody_Clear, (clear_f (file_at h hi)).mono ?_⟩
    rintro r t' ⟨q1, q2⟩
    exact ⟨T, h.putFile hi q2 q1⟩
  · rw [if_neg h3] at hg; cases hg
set_option maxHeartbeats 1000000 in
theorem tick_deed {st1 : ASt} {tv ev n75 n76 : AV} {w : HV} {k : Int} {d g i12 : Nat} {Q : IExit → AFr → ASt → Prop} (h : HX st1 s ib a S w) (hx : st1.h i12 = some (.cells [.int .u8 k, .int .i64 (d : Nat)])) (hd4 : S.devs.length ≤ 4) (hg : deedN k = some g)
    (hnext : ∀ t, HX st1 t ib a S { w with F := deedF S (k, d) w.F } → ∀ fr : AFr, fr.keep [0, 5, 74, 75, 76] = [(0, .ptr a.hp 0), (5, tv), (74, ev), (75, n75), (76, n76)] → Q .normal fr t) :
    awp Tryz.prog C.bnf Q [(0, .ptr a.hp 0), (5, tv), (12, .ptr i12 0), (13, .fn g []), (74, ev), (75, n75), (76, n76)] s := by
  obtain ⟨T, h0⟩ := h
  simp only [↓Bt, Bu, simprocAttr, ↓C.z117, C.z42, ↓C.np_w, C.np_b, ↓C.b01_w, ↓C.nn_w, C.nn_b, ↓C.b02_w, ↓C.bzy_w, ↓C.bz6_w, ↓C.nk_w, C.nk_b, ↓C.bnf_w, h0.hh]
  refine awp_mono _ (Q := IExit.inBlock 6 (IExit.then (fun fr' t => ∃ _ : Unit, fr'.keep [0, 5, 74, 75, 76] = [(0, .ptr a.hp 0), (5, tv), (74, ev), (75, n75), (76, n76)] ∧ HX st1 t ib a S { w with F := deedF S (k, d) w.F }) (fun _ _ _ => False))) (fun e fr t x => ?_) ?_
  · cases e with
    | normal => obtain ⟨_, h1, h2⟩ := x; exact hnext t h2 fr h1
    | ret => exact x.elim
    | exit i =>
      by_cases e : i = 6
      · subst e
        simp only [IExit.inBlock, if_true] at x ⊢
        obtain ⟨_, h1, h2⟩ := x; exact hnext t h2 fr h1
      · simp only [IExit.inBlock, if_neg e] at x
        exact x.elim
  refine awp_loopK (fun j : Nat => [(0, .ptr a.hp 0), (5, tv), (12, .ptr i12 0), (13, .fn g []), (74, ev), (75, n75), (76, n76), (88, .sl 6 a.dv 0 S.devs.length), (89, .int .i64 S.devs.length), (90, .int .i64 j)]) (fun j t => j ≤ S.devs.length ∧ HX st1 t ib a S { w with F := deedTo S (k, d) w.F j }) (fun j => S.devs.length - j) 0 rfl ⟨Nat.zero_le _, T, by rw [deedTo_zero]; exact h0⟩ ?_
  clear h0 hnext
  rintro j t ⟨hj, h⟩
  by_cases hil : j < S.devs.length
  rotate_left
  · have hie : j = S.devs.length := by omega
    subst hie
    have hil' : ¬ ((S.devs.length : Nat) : Int) < (S.devs.length : Nat) := by omega
    simp only [↓Bt, Bu, simprocAttr, ↓C.q90_W, C.q90_B, C.q90, hil']
    rw [deedTo_all] at h
    exact ⟨(), h⟩
  have hil' : (j : Int) < (S.devs.length : Nat) := by omega
  have hw := wsucc hil (by omega)
  have hz : (0:Int) ≤ (j : Int) ∧ (j : Int) < (S.devs.length : Int) := by omega
  have hfit := devsC_fit (a := a) hil
  have hat := devsC_at (a := a) hil
  rw [devC_eq hil] at hat
  obtain ⟨T, h2⟩ := h
  simp only [↓Bt, Bu, simprocAttr, ↓C.z117, C.z42, hil', hz, h2.devs, Int.toNat_natCast, hfit, hat]
  intro ix hix
  simp only [↓Bt, Bu, simprocAttr, ↓C.z117, C.z42, hix, allLeaf, AV.leaf]
  rw [ASt.new_set hix]
  obtain ⟨h3, hxx, hle⟩ := HX.box ⟨T, h2⟩ hix (.cells [.int .i64 S.devs[j].clock, .int .i64 S.devs[j].dom, .int .i64 S.devs[j].rst, .int .u32 S.devs[j].clamp, .ptr (a.fp j) 0, .ptr (a.pp j) 0])
  have hx2 := hle _ _ hx
  generalize t.new ix (.cells [.int .i64 S.devs[j].clock, .int .i64 S.devs[j].dom, .int .i64 S.devs[j].rst, .int .u32 S.devs[j].clamp, .ptr (a.fp j) 0, .ptr (a.pp j) 0]) = u at h3
  generalize st1.new ix (.cells [.int .i64 S.devs[j].clock, .int .i64 S.devs[j].dom, .int .i64 S.devs[j].rst, .int .u32 S.devs[j].clamp, .ptr (a.fp j) 0, .ptr (a.pp j) 0]) = st2 at h3 hxx hle hx2
  have hxu := h3.le _ _ hxx
  have hx3 := h3.le _ _ hx2
  have hsucc := deedTo_succ (e := (k, d)) (F := w.F) hil
  by_cases hdm : S.devs[j].dom = (d : Int)
  · rw [if_pos hdm] at hsucc
    obtain ⟨hb, hc⟩ := deed_call hg hil h3
    simp only [↓Bt, Bu, simprocAttr, ↓C.q90_W, C.q90_B, C.q90, hxu, hx3, hdm, hb]
    refine hc.mono ?_
    rintro r t' h4
    simp only [↓Bt, Bu, simprocAttr, ↓C.q90_W, C.q90_B, C.q90, hw]
    refine ⟨j + 1, rfl, ⟨hil, ?_⟩, by omega⟩
    rw [hsucc]
    exact h4.less hle
  · rw [if_neg hdm] at hsucc
    simp only [↓Bt, Bu, simprocAttr, ↓C.q90_W, C.q90_B, C.q90, hxu, hx3, hdm, hw]
    refine ⟨j + 1, rfl, ⟨hil, ?_⟩, by omega⟩
    rw [hsucc]
    exact h3.less hle
end
/- The chip: a tick, whole. -/
set_option maxRecDepth 100000

def HV.rest (w : HV) (S : Soc) : HV := { w with ns := ctickL w.ns, gs := gtickL w.gs, F := deedsF S (evs w.gs) w.F, ls := tickL w.ls }
theorem deedN_none {k : Int} (h : deedN k = none) : k ≠ 115 ∧ k ≠ 114 ∧ ¬ (k = 108 ∨ k = 110) := by
  unfold deedN at h
  refine ⟨fun e => ?_, fun e => ?_, fun e => ?_⟩
  · rw [if_pos e] at h; cases h
  · by_cases h1 : k = 115
    · rw [if_pos h1] at h; cases h
    · rw [if_neg h1, if_pos e] at h; cases h
  · by_cases h1 : k = 115
    · rw [if_pos h1] at h; cases h
    · by_cases h2 : k = 114
      · rw [if_neg h1, if_pos h2] at h; cases h
      · rw [if_neg h1, if_neg h2, if_pos e] at h; cases h
section
variable {st s s' : ASt} {ib : Nat} {a : HA} {T : Nat → Nat} {S : Soc} {v : HV}
set_option maxHeartbeats 1000000 in
theorem tick_rest {st1 : ASt} {tv : AV} {l : List Ans} {w : HV} (hO : Over st st1 4 tv l.length (l.flatMap Ans.cells)) (h : HX st1 s ib a S w) (hd4 : S.devs.length ≤ 4) (hr : S.rsts.length ≤ 1000) :
    awp Tryz.prog C.m8 (Post [.slot 4] (TickQ st ib a S (w.rest S) l)) [(0, .ptr a.hp 0), (5, tv)] s := by
  obtain ⟨T, h0⟩ := h
  have hgl : w.gs.length ≤ 1000 := h0.c.grid.few
  have hnl := h0.c.linv.len
  simp only [↓Bt, Bu, simprocAttr, ↓C.c6_w, C.c6_b, ↓C.m8_w, h0.hh]
  refine (ctick_spec h0.c.tree h0.c.kof.ok).mono ?_
  rintro r u1 rfl
  have h1 := h0.putTree h0.c.kof.tick
  generalize s.set a.tg (nsC (ctickL w.ns)) = u1 at h1
  simp only [↓Bt, Bu, simprocAttr, ↓C.z119, C.d0_b, C.dz_b, C.dx_b, ↓C.c6_w, C.c6_b, ↓C.m8_w, h1.hh]
  refine (gtick_spec h1.c.grid h1.c.ginv.low).mono ?_
  rintro r u2 ⟨rfl, rfl⟩
  have h2 := h1.putGrid h1.c.ginv.tick
  simp only at h2 ⊢
  generalize u1.set a.gg (gsC (gtickL w.gs)) = u2 at h2
  obtain ⟨E, hE⟩ : ∃ E, E = evs w.gs := ⟨_, rfl⟩
  have hEl : E.length ≤ 1000 := by rw [hE]; have := evTo_len w.gs w.gs.length; unfold evs; omega
  rw [← hE]
  have e1 : evsV E = .isl 2 (E.flatMap encEv) E.length := rfl
  simp only [↓Bt, Bu, simprocAttr, ↓C.z119, C.d0_b, C.dz_b, ↓C.bzz_w, ↓C.b0f_w, C.dx_b, e1]
  refine awp_midB (fun _ : Unit => [(0, .ptr a.hp 0), (5, tv)]) (fun _ t => HX st1 t ib a S { w with ns := ctickL w.ns, gs := gtickL w.gs, F := deedsF S E w.F }) ?_ ?_
  rotate_left
  · rintro - t ⟨T2, h3⟩
    simp only [↓Bt, Bu, simprocAttr, ↓C.q90_W, C.q90_B, C.q90, h3.hh]
    have hlen : (w.ls.length : Nat) ≤ 1000 := by have := h3.c.linv.len; simp only at this ⊢; omega
    refine (tick_spec h3.c.lines (fun x hx => by have := h3.c.linv.left x hx; omega) hlen).mono ?_
    rintro r u3 ⟨rfl, rfl⟩
    simp only [↓Bt, Bu, simprocAttr, ↓C.q90_W, C.q90_B, C.q90]
    have h4 := h3.putLines h3.c.linv.tick
    exact ⟨st1, hO, T2, by rw [HV.rest, ← hE]; exact h4⟩
  refine awp_loopK (fun e : Nat => [(0, .ptr a.hp 0), (5, tv), (74, .isl 2 (E.flatMap encEv) E.length), (75, .int .i64 E.length), (76, .int .i64 e)]) (fun e t => e ≤ E.length ∧ HX st1 t ib a S { w with ns := ctickL w.ns, gs := gtickL w.gs, F := deedsF S (E.take e) w.F }) (fun e => E.length - e) 0 rfl ⟨Nat.zero_le _, T, by simpa [deedsF] using h2⟩ ?_
  clear h2 h1 h0
  rintro e t ⟨he, h⟩
  by_cases hil : e < E.length
  rotate_left
  · have hie : e = E.length := by omega
    subst hie
    have hil' : ¬ ((E.length : Nat) : Int) < (E.length : Nat) := by omega
    simp only [↓Bt, Bu, simprocAttr, ↓C.q90_W, C.q90_B, C.q90, hil']
    rw [List.take_length] at h
    exact ⟨(), h⟩
  have hil' : (e : Int) < (E.length : Nat) := by omega
  have hw := wsucc hil (by omega)
  have hz : (0:Int) ≤ (e : Int) ∧ (e : Int) < (E.length : Int) := by omega
  have hfit := flatMap_fits (f := encEv) (k := 2) (fun _ => rfl) (l := E) hil
  have hat := flatMap_at (f := encEv) (k := 2) (fun _ => rfl) (l := E) hil
  obtain ⟨kd, hkd⟩ : ∃ kd, kd = E[e] := ⟨_, rfl⟩
  rw [← hkd] at hat
  obtain ⟨k, d⟩ := kd
  rw [encEv] at hat
  simp only at hat
  have hsucc : deedsF S (E.take (e + 1)) w.F = deedF S (k, d) (deedsF S (E.take e) w.F) := by
    rw [List.take_succ_eq_append_getElem hil, deedsF, List.foldl_append, ← hkd]; rfl
  obtain ⟨T, h2⟩ := h
  simp only [↓Bt, Bu, simprocAttr, ↓C.z121, C.cc_b, ↓C.z114, C.dq_b, C.dy_b, hil', hz, Int.toNat_natCast, hfit, hat]
  intro ix hix
  simp only [↓Bt, Bu, simprocAttr, ↓C.z121, C.cc_b, ↓C.z114, C.dq_b, C.dy_b, hix, allLeaf, AV.leaf]
  rw [ASt.new_set hix]
  obtain ⟨h3, hxx, hle⟩ := HX.box ⟨T, h2⟩ hix (.cells [.int .u8 k, .int .i64 (d : Nat)])
  generalize t.new ix (.cells [.int .u8 k, .int .i64 (d : Nat)]) = u at h3
  generalize st1.new ix (.cells [.int .u8 k, .int .i64 (d : Nat)]) = st2 at h3 hxx hle
  have hxu := h3.le _ _ hxx
  simp only [↓Bt, Bu, simprocAttr, ↓C.z118, C.c8_b, C.c7_b, hxu]
  refine (deed_spec u k).mono ?_
  rintro r u3 ⟨rfl, rfl⟩
  cases hg : deedN k with
  | none =>
    obtain ⟨n1, n2, n3⟩ := deedN_none hg
    simp only [↓Bt, Bu, simprocAttr, ↓C.z118, C.c8_b, C.c7_b, hw]
    rw [C.bk9_w, awp_keep]
    simp only [↓Bt, Bu, simprocAttr, ↓C.z121, C.cc_b, hw]
    refine ⟨e + 1, rfl, ⟨hil, ?_⟩, by omega⟩
    rw [hsucc, deedF_none n1 n2 n3]
    exact h3.less hle
  | some g =>
    simp only [↓Bt, Bu, simprocAttr, ↓C.z118, C.c8_b, C.c7_b]
    refine tick_deed h3 hxx hd4 hg fun t' h4 fr hfr => ?_
    simp only [↓Bt, Bu, simprocAttr]
    rw [C.bk9_w, awp_keep, hfr]
    simp only [↓Bt, Bu, simprocAttr, ↓C.z121, C.cc_b, hw]
    refine ⟨e + 1, rfl, ⟨hil, ?_⟩, by omega⟩
    rw [hsucc]
    exact h4.less hle
def HV.tick (v : HV) (S : Soc) (deny : Int) : HV := ((v.ansV S S.devs.length).portV deny S.devs.length).rest S
def ansL (l : List Ans) : AV := .isl 4 (l.flatMap Ans.cells) l.length
set_option maxHeartbeats 1000000 in
theorem htick0 (h : HX st s ib a S v) (hQ : QOk S v.Q) (hd4 : S.devs.length ≤ 4) (hr : S.rsts.length ≤ 1000) (deny : Int) :
    ACalls Tryz.prog F.q90 [.ptr a.hp 0, .int .u32 deny] s (TickQ st ib a S (v.tick S deny) (v.told S S.devs.length)) := by
  refine calls_of_awp L.q90 rfl ?_
  obtain ⟨T, h0⟩ := h
  simp only [↓Bt, Bu, simprocAttr, ↓C.q90_W, C.q90_B, C.q90]
  refine (hmade h0).mono ?_
  rintro r u ⟨rfl, rfl⟩
  simp only [↓Bt, Bu, simprocAttr, ↓C.z116, C.dw_b, ↓C.nw_w, C.nw_b, ↓C.b0p_w, ↓C.nv_w, C.nv_b, ↓C.b0r_w, ↓C.z120, C.b4_b, C.d2_b, C.d1_b, ↓C.bz3_w, ↓C.b0w_w, ↓C.nt_w, C.nt_b, ↓C.b0x_w, ↓C.ns_w, C.ns_b, ↓C.b0y_w, ↓C.nj_w, C.nj_b, ↓C.b0q_w, ↓C.b0z_w, ↓C.nb_w, C.nb_b, ↓C.b00_w, ↓C.m9_w, C.m9_b, C.q90, h0.hh]
  refine awp_midB (fun tv : AV => [(0, .ptr a.hp 0), (1, .int .u32 deny), (5, tv)]) (fun tv t => ∃ st1, Over st st1 4 tv (v.told S S.devs.length).length ((v.told S S.devs.length).flatMap Ans.cells) ∧ HX st1 t ib a S (v.ansV S S.devs.length)) ?_ ?_
  rotate_left
  · rintro tv t ⟨st1, hO, h1⟩
    have := tick_ports (deny := deny) (vf := v.tick S deny) hO h1 hd4 fun t h2 => tick_rest hO h2 hd4 hr
    rw [C.blb_w, awp_keep] at this
    exact this
  refine awp_loopK (fun p : Nat × AV => [(0, .ptr a.hp 0), (1, .int .u32 deny), (5, p.2), (23, .int .i64 S.devs.length), (24, .int .i64 p.1)]) (fun p t => p.1 ≤ S.devs.length ∧ ∃ st1, Over st st1 4 p.2 (v.told S p.1).length ((v.told S p.1).flatMap Ans.cells) ∧ HX st1 t ib a S (v.ansV S p.1)) (fun p => S.devs.length - p.1) (0, .nils) rfl ⟨Nat.zero_le _, st, Over.nils (ASt.le.refl _) 4, T, by simp only [ansV_zero]; exact h0⟩ ?_
  clear h0
  rintro ⟨i, tv⟩ t ⟨hi, st1, hO, h⟩
  simp only at hi hO h
  by_cases hil : i < S.devs.length
  rotate_left
  · have hie : i = S.devs.length := by omega
    subst hie
    have hil' : ¬ ((S.devs.length : Nat) : Int) < (S.devs.length : Nat) := by omega
    simp only [↓Bt, Bu, simprocAttr, ↓C.q90_W, C.q90_B, C.q90, hil']
    exact ⟨tv, rfl, st1, hO, h⟩
  have hil' : (i : Int) < (S.devs.length : Nat) := by omega
  have hw := wsucc hil (by omega)
  have hsucc := told_succ v S i
  have hans := ansV_ansOf v S i
  have hnext := ansV_succ v S i
  simp only [↓Bt, Bu, simprocAttr, ↓C.z116, C.dw_b, C.d2_b, C.d1_b, hil']
  rw [C.bng_w, awp_keep]
  simp only [↓Bt, Bu, simprocAttr, ↓C.z120, C.b4_b]
  refine (hanswer h (hQ.ansV i) hil).mono ?_
  rintro r u2 ⟨hrr, h2⟩
  rw [hans] at hrr
  rw [hnext] at h2
  cases hx : v.ansOf S i with
  | none =>
    rw [hx] at hrr hsucc
    simp only at hrr
    subst hrr
    rw [Option.toList_none, List.append_nil] at hsucc
    simp only [↓Bt, Bu, simprocAttr, ↓C.z120, C.b4_b]
    intro ix hix
    simp only [↓Bt, Bu, simprocAttr, ↓C.q90_W, C.q90_B, C.q90, hix, hw]
    rw [ASt.new_set hix]
    exact ⟨rfl, (i + 1, tv), rfl, ⟨hil, st1, by rw [hsucc]; exact hO, h2.step (ASt.le.new _ _ _)⟩, by simp only; omega⟩
  | some x =>
    rw [hx] at hrr hsucc
    simp only at hrr
    subst hrr
    have hxl : x.cells.length = 4 := rfl
    have hxf : allLeaf x.cells = true := rfl
    simp only [↓Bt, Bu, simprocAttr, ↓C.z120, C.b4_b]
    intro ix hix
    simp only [↓Bt, Bu, simprocAttr, ↓C.z120, C.b4_b, hix, hxl, hxf]
    rw [ASt.new_set hix, putN_all (zs := [AV.int .i64 0, AV.int .i64 0, AV.bool false, AV.int .u32 0]) (vs := x.cells) rfl]
    obtain ⟨h3, hx3, hle⟩ := h2.box hix (.cells x.cells)
    have hO3 : Over st (st1.new ix (.cells x.cells)) 4 tv (v.told S i).length ((v.told S i).flatMap Ans.cells) :=
      ⟨⟨hO.1.1, hO.1.2.imp (fun x => x) fun ⟨j, e, hj⟩ => ⟨j, e, hle _ _ hj⟩⟩, hO.2.1.trans hle, hO.2.2⟩
    have hxu := h3.le _ _ hx3
    generalize u2.new ix (.cells x.cells) = u3 at h3 hxu
    generalize st1.new ix (.cells x.cells) = st2 at h3 hO3
    have e4 : AV.agg (List.take 4 x.cells) = .agg x.cells := rfl
    have htl := told_len v S i
    simp only [↓Bp, Bq, Bs, simprocAttr, ↓C.q90_W, C.q90_B, C.q90, hxu, hxl, e4]
    refine aop_append_hx h3 hO3 (by omega) (aput_one rfl rfl) rfl rfl (fun _ => rfl) (fun _ => rfl) fun v1 v2 st3 t2 h5 hO5 => ?_
    simp only [↓Bt, Bu, simprocAttr, ↓C.q90_W, C.q90_B, C.q90, hw]
    refine ⟨(i + 1, v2), rfl, ⟨hil, st3, ?_, h5⟩, by simp only; omega⟩
    simp only
    rw [hsucc, List.length_append, List.flatMap_append]
    simpa using hO5
theorem HX.frzT {l : List Ans} {r : AV} {t : ASt} {vf : HV} (h : TickQ st ib a S vf l r t) : ∃ t', Ghost r t (ansL l) t' ∧ HX st t' ib a S vf := by
  obtain ⟨st1, hO, h⟩ := h
  obtain ⟨⟨h1, h2⟩, h3, h4⟩ := hO
  rcases h2 with ⟨e0, rfl⟩ | ⟨i, rfl, hi⟩
  · have : l = [] := List.eq_nil_of_length_eq_zero e0
    subst this
    exact ⟨t, Ghost.nils 4, h.less h3⟩
  · refine ⟨t.kill i, Ghost.freeze (h.le _ _ hi), (h.kill (by rw [hi]; simp)).less fun j o hj => ?_⟩
    rw [ASt.kill_h, if_neg (by rintro rfl; rw [h4 _ _ _ _ rfl] at hj; cases hj)]
    exact h3 _ _ hj
theorem htick (h : HX st s ib a S v) (hQ : QOk S v.Q) (hd4 : S.devs.length ≤ 4) (hr : S.rsts.length ≤ 1000) (deny : Int) :
    ACalls Tryz.prog F.q90 [.ptr a.hp 0, .int .u32 deny] s fun r s' => r = ansL (v.told S S.devs.length) ∧ HX st s' ib a S (v.tick S deny) :=
  (htick0 h hQ hd4 hr deny).ghost fun r s' hq => by
    obtain ⟨t', g, h'⟩ := HX.frzT hq
    exact ⟨_, _, g, rfl, h'⟩
end
/- Channels: the letter of a state (package variable 'letters'). -/
set_option maxRecDepth 100000
def letter (x : Int) : Int := if x = 0 then 114 else if x = 1 then 97 else if x = 2 then 115 else 100
theorem qstate_spec {st : ASt} {p : Nat} {x y : Int} (h : PortAt st p x y) (hx : 0 ≤ x ∧ x ≤ 3) : ACalls Tryz.prog F.q104 [.ptr p 0] st fun r s => r = .int .u8 (letter x) ∧ s = st := by
  refine calls_of_awp L.q104 rfl ?_
  unfold PortAt at h
  rcases (show x = 0 ∨ x = 1 ∨ x = 2 ∨ x = 3 by omega) with e | e | e | e <;> subst e <;>
  simp only [↓Bt, Bu, simprocAttr, ↓C.q104_W, C.q104_B, C.q104, h, letter, Int.cast_ofNat_Int] <;> omega
/- The chip: a line is asserted; something is posted. -/
set_option maxRecDepth 100000

def clrTo (S : Soc) (i : Int) (F : Nat → FSt) (n : Nat) : Nat → FSt := fun j => if j < n then (match S.devs[j]? with | some d => if d.rst = i then (F j).clear d.regs else F j | none => F j) else F j
def clrF (S : Soc) (i : Int) (F : Nat → FSt) : Nat → FSt := clrTo S i F S.devs.length
theorem clrTo_zero (S : Soc) (i : Int) (F : Nat → FSt) : clrTo S i F 0 = F := by funext j; simp [clrTo]
theorem clrF_at {S : Soc} {i : Int} {F : Nat → FSt} {j : Nat} (h : j < S.devs.length) : clrF S i F j = if S.devs[j].rst = i then (F j).clear S.devs[j].regs else F j := by
  rw [clrF, clrTo, if_pos h, List.getElem?_eq_getElem h]
theorem clrTo_succ {S : Soc} {i : Int} {F : Nat → FSt} {n : Nat} (h : n < S.devs.length) : clrTo S i F (n + 1) = if S.devs[n].rst = i then upF (clrTo S i F n) n ((clrTo S i F n n).clear S.devs[n].regs) else clrTo S i F n := by
  have hn : clrTo S i F n n = F n := by simp [clrTo]
  funext j
  by_cases hj : j = n
  · subst hj
    have : clrTo S i F (j + 1) j = if S.devs[j].rst = i then (F j).clear S.devs[j].regs else F j := by
      rw [clrTo, if_pos (by omega), List.getElem?_eq_getElem h]
    rw [this]
    split
    · rw [upF_at, hn]
    · exact hn.symm
  · have e1 : clrTo S i F (n + 1) j = clrTo S i F n j := by
      unfold clrTo
      by_cases h2 : j < n
      · rw [if_pos h2, if_pos (by omega)]
      · rw [if_neg h2, if_neg (by omega)]
    rw [e1]
    split
    · rw [upF_ne hj]
    · rfl
section
variable {st s s' : ASt} {ib : Nat} {a : HA} {T : Nat → Nat} {S : Soc} {v : HV}
set_option maxHeartbeats 1000000 in
theorem hassert (h : HX st s ib a S v) (hd4 : S.devs.length ≤ 4) {i : Int} (hi : isLn v.ls i) : ACalls Tryz.prog F.q82 [.ptr a.hp 0, .int .i64 i] s fun r s' => r = .int .i64 0 ∧ HX st s' ib a S { v with ls := assertL v.ls i, F := clrF S i v.F } := by
  obtain ⟨T, h⟩ := h
  have e1 : assertE v.ls i = 0 := by unfold assertE; rw [if_pos hi]
  refine calls_of_awp L.q82 rfl ?_
  simp only [↓Bt, Bu, simprocAttr, ↓C.q82_W, C.q82_B, C.q82]
  refine (hmade h).mono ?_
  rintro r u ⟨rfl, rfl⟩
  simp only [↓Bt, Bu, simprocAttr, ↓C.mz_w, C.mz_b, ↓C.bzf_w, ↓C.z112, C.z40, ↓C.z113, C.z39, C.q82, h.hh]
  refine (assert_spec h.c.lines i).mono ?_
  rintro r u2 ⟨rfl, rfl⟩
  rw [e1]
  have h2 := h.putLines (h.c.linv.assert i)
  generalize u.set a.lm (lnsE (assertL v.ls i)) = u2 at h2
  simp only [↓Bt, Bu, simprocAttr, ↓C.z112, C.z40, ↓C.z113, C.z39, ↓C.m3_w, C.m3_b, ↓C.bzj_w, ↓C.bzk_w, ↓C.m2_w, C.m2_b, ↓C.bzl_w, C.q82, h2.hh]
  refine awp_midB (fun _ : Unit => []) (fun _ t => HX st t ib a S { v with ls := assertL v.ls i, F := clrF S i v.F }) ?_ ?_
  rotate_left
  · rintro - t ht
    simp only [↓Bt, Bu, simprocAttr, ↓C.q82_W, C.q82_B, C.q82]
    exact ht
  refine awp_loopK (fun j : Nat => [(1, .int .i64 i), (23, .sl 6 a.dv 0 S.devs.length), (24, .int .i64 S.devs.length), (25, .int .i64 j)]) (fun j t => j ≤ S.devs.length ∧ HX st t ib a S { v with ls := assertL v.ls i, F := clrTo S i v.F j }) (fun j => S.devs.length - j) 0 rfl ⟨Nat.zero_le _, T, by rw [clrTo_zero]; exact h2⟩ ?_
  clear h2 h
  rintro j t ⟨hj, h⟩
  by_cases hil : j < S.devs.length
  rotate_left
  · have hie : j = S.devs.length := by omega
    subst hie
    have hil' : ¬ ((S.devs.length : Nat) : Int) < (S.devs.length : Nat) := by omega
    simp only [↓Bt, Bu, simprocAttr, ↓C.q82_W, C.q82_B, C.q82, hil']
    exact ⟨(), h⟩
  have hil' : (j : Int) < (S.devs.length : Nat) := by omega
  have hw := wsucc hil (by omega)
  have hz : (0:Int) ≤ (j : Int) ∧ (j : Int) < (S.devs.length : Int) := by omega
  have hfit := devsC_fit (a := a) hil
  have hat := devsC_at (a := a) hil
  rw [devC_eq hil] at hat
  obtain ⟨T, h2⟩ := h
  simp only [↓Bt, Bu, simprocAttr, ↓C.z112, C.z40, hil', hz, h2.devs, Int.toNat_natCast, hfit, hat]
  intro ix hix
  simp only [↓Bt, Bu, simprocAttr, ↓C.z112, C.z40, hix, allLeaf, AV.leaf]
  rw [ASt.new_set hix]
  obtain ⟨h3, hxx, hle⟩ := HX.box ⟨T, h2⟩ hix (.cells [.int .i64 S.devs[j].clock, .int .i64 S.devs[j].dom, .int .i64 S.devs[j].rst, .int .u32 S.devs[j].clamp, .ptr (a.fp j) 0, .ptr (a.pp j) 0])
  generalize t.new ix (.cells [.int .i64 S.devs[j].clock, .int .i64 S.devs[j].dom, .int .i64 S.devs[j].rst, .int .u32 S.devs[j].clamp, .ptr (a.fp j) 0, .ptr (a.pp j) 0]) = u at h3
  generalize st.new ix (.cells [.int .i64 S.devs[j].clock, .int .i64 S.devs[j].dom, .int .i64 S.devs[j].rst, .int .u32 S.devs[j].clamp, .ptr (a.fp j) 0, .ptr (a.pp j) 0]) = st2 at h3 hxx hle
  have hxu := h3.le _ _ hxx
  have hsucc := clrTo_succ (i := i) (F := v.F) hil
  by_cases hdm : S.devs[j].rst = i
  · rw [if_pos hdm] at hsucc
    obtain ⟨T3, h4⟩ := h3
    rw [hdm] at hxu
    simp only [↓Bt, Bu, simprocAttr, ↓C.q82_W, C.q82_B, C.q82, hxu]
    refine (clear_f (file_at h4 hil)).mono ?_
    rintro r t' ⟨q1, q2⟩
    simp only [↓Bt, Bu, simprocAttr, ↓C.q82_W, C.q82_B, C.q82, hw]
    refine ⟨j + 1, rfl, ⟨hil, ?_⟩, by omega⟩
    rw [hsucc]
    exact HX.less ⟨T3, h4.putFile hil (f := ((clrTo S i v.F j) j).clear S.devs[j].regs) q2 q1⟩ hle
  · rw [if_neg hdm] at hsucc
    simp only [↓Bt, Bu, simprocAttr, ↓C.q82_W, C.q82_B, C.q82, hxu, hdm, hw]
    refine ⟨j + 1, rfl, ⟨hil, ?_⟩, by omega⟩
    rw [hsucc]
    exact h3.less hle
theorem letter_run {x : Int} (h : 0 ≤ x ∧ x ≤ 3) : letter x = 114 ↔ x = 0 := by
  unfold letter
  constructor
  · intro e
    by_cases h0 : x = 0
    · exact h0
    · rw [if_neg h0] at e
      split at e
      · omega
      · split at e <;> omega
  · intro e; rw [if_pos e]
theorem hpost (h : HX st s ib a S v) {d k : Nat} (hd : d < S.devs.length) (hk : k < S.devs[d].regs.length) (hd4 : d < 4) (hk4 : k < 4) (w : Bool) (x : Int) (ho : (v.O d).1 = 0) (hf : (v.Q d).length < 4) :
    ACalls Tryz.prog F.q87 [.ptr a.hp 0, .int .u32 (addrV d k), .bool w, .int .u32 x] s fun r s' => r = .tup [.int .i64 v.posted, .int .i64 0] ∧
      HX st s' ib a S { v with Q := upF v.Q d (v.Q d ++ [⟨v.posted, w, (k : Int), x⟩]), posted := IntKind.i64.wrap (v.posted + 1) } := by
  obtain ⟨T, h⟩ := h
  have hz : (0:Int) ≤ (d : Int) ∧ (d : Int) < (S.devs.length : Int) := by omega
  have hk0 : ¬ (k : Int) < 0 := by omega
  refine calls_of_awp L.q87 rfl ?_
  simp only [↓Bt, Bu, simprocAttr, ↓C.q87_W, C.q87_B, C.q87]
  refine (split_spec hd4 hk4).mono ?_
  rintro r s' ⟨rfl, rfl⟩
  simp only [↓Bt, Bu, simprocAttr, ↓C.q87_W, C.q87_B, C.q87]
  refine (hhas h d).mono ?_
  rintro r s' ⟨rfl, rfl⟩
  have hc := dev_cell h hd (j := 4) (c := .ptr (a.fp d) 0) (by omega) rfl
  have hc5 := dev_cell h hd (j := 5) (c := .ptr (a.pp d) 0) (by omega) rfl
  have hkr : ¬ ((S.devs[d].regs.length : Nat) : Int) ≤ (k : Int) := by omega
  simp only [↓Bt, Bu, simprocAttr, ↓C.q87_W, C.q87_B, C.q87, hz, hk0, h.hh, h.devs, Int.toNat_natCast, hc]
  refine (many_spec (file_at h hd)).mono ?_
  rintro r s2 ⟨rfl, rfl⟩
  simp only [↓Bt, Bu, simprocAttr, ↓C.q87_W, C.q87_B, C.q87, hz, hkr, ge_iff_le, h.hh, h.devs, Int.toNat_natCast, hc5]
  refine (qstate_spec (port_at h hd) (h.c.ports d hd).2.2).mono ?_
  rintro r s2 ⟨rfl, rfl⟩
  have hl : letter (v.O d).1 = 114 := (letter_run (h.c.ports d hd).2.2).mpr ho
  simp only [↓Bt, Bu, simprocAttr, ↓C.q87_W, C.q87_B, C.q87, hl, h.hh]
  refine (bpost h hd hk hd4 hk4 w x hf).mono ?_
  rintro r s3 ⟨rfl, T', h2⟩
  simp only [↓Bt, Bu, simprocAttr, ↓C.q87_W, C.q87_B, C.q87]
  exact ⟨T', h2⟩
end
/- Power: chains, what stays as it is in a tick, and what stays true of what hangs on what. -/
set_option maxRecDepth 100000

structure ChainOk (gs : List Gd) (c : List Nat) (x : Nat) : Prop where
  pos : 0 < c.length
  last : ∀ (h : c.length - 1 < c.length), c[c.length - 1] = x
  lt : ∀ j (h : j < c.length), c[j] < gs.length
  top : ∀ (h : 0 < c.length) (h2 : c[0] < gs.length), gs[c[0]].above = -1
  link : ∀ j (h : j + 1 < c.length) (h2 : c[j + 1] < gs.length), gs[c[j + 1]].above = (c[j] : Nat)
theorem chain_list {gs : List Gd} (hl : Lesser gs) : ∀ (f x : Nat), x < gs.length → x < f → ∃ c : List Nat, (chainR gs f (x : Int)).reverse = c.map Int.ofNat ∧ ChainOk gs c x
  | 0, x, hx, hf => by omega
  | f + 1, x, hx, hf => by
    have e1 : ¬ (x : Int) = -1 := by omega
    have hlx := hl x hx
    by_cases ha : gs[x].above = -1
    · refine ⟨[x], ?_, ⟨by simp, fun h => rfl, fun j h => ?_, fun h h2 => ha, fun j h => ?_⟩⟩
      · rw [chainR, if_neg e1, gAbove_at hx, ha]
        have : chainR gs f (-1) = [] := by cases f <;> rfl
        rw [this]; rfl
      · have : j = 0 := by simpa using h
        subst this; exact hx
      · simp at h
    · obtain ⟨u, hu⟩ : ∃ u : Nat, gs[x].above = u := ⟨gs[x].above.toNat, by omega⟩
      have hux : u < x := by omega
      obtain ⟨c, hc, hk⟩ := chain_list hl f u (by omega) (by omega)
      have hp := hk.pos
      refine ⟨c ++ [x], ?_, ⟨by simp, fun h => by simp, fun j h => ?_, fun h h2 => ?_, fun j h h2 => ?_⟩⟩
      · rw [chainR, if_neg e1, gAbove_at hx, hu, List.reverse_cons, hc, List.map_append]; rfl
      · rw [List.getElem_append]; split
        · exact hk.lt _ _
        · simpa using hx
      · have e0 : (c ++ [x])[0] = c[0] := List.getElem_append_left hp
        simp only [e0]
        exact hk.top hp (hk.lt 0 hp)
      · simp only [List.length_append, List.length_singleton] at h
        have e0 : (c ++ [x])[j] = c[j]'(by omega) := List.getElem_append_left (by omega)
        by_cases hj : j + 1 < c.length
        · have e2 : (c ++ [x])[j + 1] = c[j + 1] := List.getElem_append_left hj
          simp only [e0, e2]
          exact hk.link j hj (hk.lt _ hj)
        · have e2 : (c ++ [x])[j + 1] = x := by rw [List.getElem_append_right (by omega)]; simp
          have e3 : c[j]'(by omega) = u := by
            have := hk.last (by omega)
            simp only [show c.length - 1 = j by omega] at this
            exact this
          simp only [e0, e2, e3]
          exact hu
theorem chain_at {gs : List Gd} (hl : Lesser gs) {x : Nat} (hx : x < gs.length) : ∃ c : List Nat, chainOf gs (x : Int) = c.map Int.ofNat ∧ ChainOk gs c x ∧ c.length ≤ gs.length + 1 := by
  obtain ⟨c, h1, h2⟩ := chain_list hl (gs.length + 1) x hx (by omega)
  refine ⟨c, by rw [chainOf, if_pos (isGd_at hx), h1], h2, ?_⟩
  have := chainR_len gs (gs.length + 1) (x : Int)
  have e := congrArg List.length h1
  simp only [List.length_reverse, List.length_map] at e
  omega
theorem ChainOk.up {gs : List Gd} {c : List Nat} {x : Nat} (h : ChainOk gs c x) (hl : Lesser gs) {j : Nat} (hj : j + 1 < c.length) : c[j] < c[j + 1] := by
  have h2 := h.lt (j + 1) hj
  have := h.link j hj h2
  have := hl _ h2
  omega
theorem ChainOk.lt_of {gs : List Gd} {c : List Nat} {x : Nat} (h : ChainOk gs c x) (hl : Lesser gs) : ∀ (m i : Nat) (hi : i + m + 1 < c.length), c[i] < c[i + m + 1]
  | 0, i, hi => h.up hl hi
  | m + 1, i, hi => Nat.lt_trans (h.lt_of hl m i (by omega)) (h.up hl hi)
theorem ChainOk.mono {gs : List Gd} {c : List Nat} {x : Nat} (h : ChainOk gs c x) (hl : Lesser gs) {i j : Nat} (hij : i < j) (hj : j < c.length) : c[i] < c[j] := by
  have := h.lt_of hl (j - i - 1) i (by omega)
  simp only [show i + (j - i - 1) + 1 = j by omega] at this
  exact this
theorem ChainOk.same {gs gs' : List Gd} {c : List Nat} {x : Nat} (h : ChainOk gs c x) (hl : gs'.length = gs.length) (hs : ∀ i (h1 : i < gs'.length) (h2 : i < gs.length), gs'[i].above = gs[i].above) : ChainOk gs' c x where
  pos := h.pos
  last := h.last
  lt := fun j hj => by rw [hl]; exact h.lt j hj
  top := fun h1 h2 => by rw [hs _ h2 (h.lt _ h1)]; exact h.top _ _
  link := fun j hj h2 => by rw [hs _ h2 (h.lt _ hj)]; exact h.link j hj _
theorem GInv.same2 {D : List Dom} {gs gs' : List Gd} (h : GInv D gs) (h' : GInv D gs') : gs'.length = gs.length ∧ ∀ i (h1 : i < gs'.length) (h2 : i < gs.length), gs'[i].above = gs[i].above :=
  ⟨by rw [h.len, h'.len], fun i h1 h2 => by rw [(h.same i h2 (by rw [← h.len]; exact h2)).1, (h'.same i h1 (by rw [← h'.len]; exact h1)).1]⟩
theorem ints_nat (c : List Nat) : ints (c.map Int.ofNat) = c.map fun (n : Nat) => AV.int .i64 (n : Int) := by simp [ints]
theorem ints_nat_get {c : List Nat} {j : Nat} (h : j < c.length) : (ints (c.map Int.ofNat))[j]? = some (.int .i64 (c[j] : Nat)) := by rw [ints_nat]; simp [h]
def Gd.still (g : Gd) : Prop := g.phase = 48 ∨ g.phase = 49 ∨ g.phase = 116
theorem Gd.still.tick {g : Gd} (h : g.still) : gtick g = g ∧ gev g = 0 := by
  unfold Gd.still at h; unfold gtick gev
  rcases h with h | h | h <;> rw [h] <;> exact ⟨rfl, rfl⟩
def Still (gs : List Gd) (k : Nat) : Prop := ∀ i (h : i < gs.length), i ≠ k → gs[i].still
theorem Still.tick {gs : List Gd} {k : Nat} (h : Still gs k) (hk : k < gs.length) : gtickL gs = gs.set k (gtick gs[k]) := by
  refine List.ext_getElem (by simp [gtickL]) fun i h1 h2 => ?_
  simp only [gtickL_len] at h1
  rw [List.getElem_set]
  simp only [gtickL, List.getElem_map]
  split
  · rename_i e; subst e; rfl
  · rename_i e; exact (h i h1 (Ne.symm e)).tick.1
theorem filter_one (k : Nat) (p : Nat → Bool) : ∀ n, k < n → (∀ i, i < n → i ≠ k → p i = false) → (List.range n).filter p = if p k then [k] else []
  | 0, h, _ => by omega
  | n + 1, h, hp => by
    rw [List.range_succ, List.filter_append]
    by_cases e : k = n
    · subst e
      have : (List.range k).filter p = [] := List.filter_eq_nil_iff.mpr fun i hi => by
        have := List.mem_range.mp hi
        simp [hp i (by omega) (by omega)]
      rw [this]
      cases hpk : p k <;> simp [hpk]
    · rw [filter_one k p n (by omega) fun i h1 h2 => hp i (by omega) h2]
      simp [hp n (by omega) (Ne.symm e)]
theorem Still.evs {gs : List Gd} {k : Nat} (h : Still gs k) (hk : k < gs.length) : evs gs = if gev gs[k] ≠ 0 then [(gev gs[k], k)] else [] := by
  rw [Cn.evs, evTo, filter_one k _ gs.length hk fun i h1 h2 => by simp [h1, (h i h1 h2).tick.2]]
  have e : gs.getD k ⟨0, 0, false, 0, 0, false, false⟩ = gs[k] := by simp [hk]
  simp only [e]
  by_cases h0 : gev gs[k] = 0
  · simp [h0]
  · simp [h0, hk]
theorem Still.set {gs : List Gd} {k : Nat} (h : Still gs k) (g : Gd) : Still (gs.set k g) k := fun i hi he => by
  simp only [List.length_set] at hi
  rw [List.getElem_set_ne (Ne.symm he)]; exact h i hi he
structure HInv (gs : List Gd) : Prop where
  par : ∀ i (h : i < gs.length) (a : Nat) (ha : a < gs.length), gs[i].isDown = false → gs[i].above = (a : Int) → gs[a].phase = 49
  kp : ∀ i (h : i < gs.length), (gs[i].phase = 99 → gs[i].keep = true → gs[i].ret = true) ∧ (gs[i].phase = 116 → gs[i].ret = true)
theorem isDown_false {g : Gd} : g.isDown = false ↔ g.phase ≠ 48 ∧ g.phase ≠ 116 := by unfold Gd.isDown; simp
theorem isDown_true {g : Gd} : g.isDown = true ↔ g.phase = 48 ∨ g.phase = 116 := by unfold Gd.isDown; simp
theorem HInv.fresh (D : List Dom) : HInv (gfresh D) where
  par := fun i h a ha hd => by
    have := (isDown_false.mp hd).1
    simp [gfresh] at this
  kp := fun i h => by simp [gfresh]
theorem HInv.up {gs : List Gd} (h : HInv gs) (hl : Lesser gs) {i : Nat} (hi : i < gs.length) : HInv (upG gs i hi) := by
  unfold upG
  split
  · exact h
  rename_i hc
  have hd : gs[i].isDown = true := by
    cases e : gs[i].isDown
    · exact absurd (.inl e) hc
    · rfl
  have hdd := isDown_true.mp hd
  constructor
  · intro j hj a ha hdj hab
    simp only [List.length_set] at hj ha
    have hne : ∀ (x : Nat) (hx : x < gs.length), gs[x].phase = 49 → x ≠ i := fun x hx e e2 => by subst e2; omega
    by_cases e : i = j
    · subst e
      rw [List.getElem_set_self] at hab
      have hab' : gs[i].above = (a : Int) := hab
      have hpa : gs[a].phase = 49 := by
        by_cases e2 : gs[a].phase = 49
        · exact e2
        · exact absurd (.inr ⟨by omega, by rw [hab', Int.toNat_natCast]; simpa [ha] using e2⟩) hc
      rw [List.getElem_set_ne (Ne.symm (hne a ha hpa))]; exact hpa
    · rw [List.getElem_set_ne e] at hdj hab
      have hpa := h.par j hj a ha hdj hab
      rw [List.getElem_set_ne (Ne.symm (hne a ha hpa))]; exact hpa
  · intro j hj
    simp only [List.length_set] at hj
    by_cases e : i = j
    · subst e
      rw [List.getElem_set_self]
      exact ⟨fun e => absurd e (by show ¬ (114 : Int) = 99; decide), fun e => absurd e (by show ¬ (114 : Int) = 116; decide)⟩
    · rw [List.getElem_set_ne e]; exact h.kp j hj
theorem HInv.down {gs : List Gd} (h : HInv gs) {i : Nat} (hi : i < gs.length) (k : Bool) (hl : Lesser gs) : HInv (downG gs i hi k) := by
  unfold downG
  split
  rotate_left
  · exact h
  rename_i hc
  unfold downE at hc
  by_cases h1 : gs[i].phase = 49
  rotate_left
  · rw [if_pos h1] at hc; simp at hc
  rw [if_neg (by simp [h1])] at hc
  by_cases h2 : k = true ∧ gs[i].ret = false
  · rw [if_pos h2] at hc; simp at hc
  rw [if_neg h2] at hc
  by_cases h3 : someUp gs i = true
  · rw [if_pos h3] at hc; simp at hc
  constructor
  · intro j hj a ha hdj hab
    simp only [List.length_set] at hj ha
    by_cases e : i = j
    · subst e
      rw [List.getElem_set_self] at hab
      have hab' : gs[i].above = (a : Int) := hab
      have := hl i hi
      rw [List.getElem_set_ne (by omega)]
      exact h.par i hi a ha (isDown_false.mpr ⟨by omega, by omega⟩) hab'
    · rw [List.getElem_set_ne e] at hdj hab
      have hia : i ≠ a := fun e2 => by subst e2; exact h3 (someUp_some hj hab hdj)
      rw [List.getElem_set_ne hia]
      exact h.par j hj a ha hdj hab
  · intro j hj
    simp only [List.length_set] at hj
    by_cases e : i = j
    · subst e
      rw [List.getElem_set_self]
      refine ⟨fun _ hk => ?_, fun e => absurd e (by show ¬ (99 : Int) = 116; decide)⟩
      have hk' : k = true := hk
      show gs[i].ret = true
      cases hr : gs[i].ret
      · exact absurd ⟨hk', hr⟩ h2
      · rfl
    · rw [List.getElem_set_ne e]; exact h.kp j hj
theorem gtick_up {g : Gd} (h : (gtick g).isDown = false) : g.isDown = false := by
  cases e : g.isDown
  · rfl
  · have := isDown_true.mp e
    have hs : g.still := by unfold Gd.still; omega
    rw [hs.tick.1, e] at h; exact h
theorem gtick_live {g : Gd} (h : g.phase = 49) : (gtick g).phase = 49 := by
  have hs : g.still := .inr (.inl h)
  rw [hs.tick.1]; exact h
theorem HInv.tick {gs : List Gd} (h : HInv gs) : HInv (gtickL gs) where
  par := fun i hi a ha hd hab => by
    simp only [gtickL_len] at hi ha
    simp only [gtickL, List.getElem_map] at hd hab ⊢
    rw [(gtick_same _).1] at hab
    exact gtick_live (h.par i hi a ha (gtick_up hd) hab)
  kp := fun i hi => by
    simp only [gtickL_len] at hi
    simp only [gtickL, List.getElem_map]
    have hk := h.kp i hi
    generalize gs[i] = g at hk
    obtain ⟨ab, de, re, ph, le, ba, ke⟩ := g
    simp only at hk
    unfold gtick
    simp only
    split
    · split
      · rename_i e _; exact ⟨fun e2 => by simp only at e2; omega, fun e2 => by simp only at e2; omega⟩
      · exact ⟨fun e2 => by simp at e2, fun e2 => by simp at e2⟩
    · split
      · exact ⟨fun e2 => by simp at e2, fun e2 => by simp at e2⟩
      · split
        · rename_i e
          split
          · rename_i e2; exact ⟨fun e3 => by simp at e3, fun _ => hk.1 e e2⟩
          · exact ⟨fun e3 => by simp at e3, fun e3 => by simp at e3⟩
        · exact hk
theorem HInv.chain {gs : List Gd} (h : HInv gs) {c : List Nat} {x : Nat} (hc : ChainOk gs c x) (hx : x < gs.length) (hd : gs[x].isDown = false) :
    ∀ (m j : Nat) (hj : j + 1 + m + 1 = c.length), (gs[c[j]'(by omega)]'(hc.lt _ _)).phase = 49
  | 0, j, hj => by
    have h2 := hc.lt (j + 1) (by omega)
    have e : c[j + 1]'(by omega) = x := by
      have := hc.last (by omega)
      simp only [show c.length - 1 = j + 1 by omega] at this
      exact this
    have hlk := hc.link j (by omega) h2
    simp only [e] at hlk
    exact h.par x hx _ (hc.lt _ _) hd hlk
  | m + 1, j, hj => by
    have h2 := hc.lt (j + 1) (by omega)
    have ih := h.chain hc hx hd m (j + 1) (by omega)
    exact h.par _ h2 _ (hc.lt _ _) (isDown_false.mpr ⟨by omega, by omega⟩) (hc.link j (by omega) h2)
/- The chip: ticks of a chip at which nothing waits; domains that rise. -/
set_option maxRecDepth 100000

def HV.none (v : HV) : Prop := ∀ i, v.Q i = []
def HV.calm (v : HV) : Prop := ∀ i, (v.O i).1 = 0
theorem HV.none.ok {S : Soc} {v : HV} (h : v.none) : QOk S v.Q := fun i hi t ht => by rw [h i] at ht; cases ht
theorem ansV_none {S : Soc} {v : HV} (h : v.none) (n : Nat) : v.ansV S n = v := by
  have e1 : (fun i => if i < n then (v.Q i).tail else v.Q i) = v.Q := by funext i; rw [h i]; split <;> rfl
  have e2 : (fun i => if i < n then v.wrF S i else v.F i) = v.F := by
    funext i
    split
    · rw [HV.wrF, h i]
    · rfl
  simp only [HV.ansV, e1, e2]
theorem portV_calm {v : HV} (h : v.calm) (d : Int) (n : Nat) : v.portV d n = v := by
  have e : (fun i => if i < n then qtick (v.O i).1 (v.O i).2 (decide ((0 : Int) < ((v.Q i).length : Nat))) (denyB d i) else v.O i) = v.O := by
    funext i
    split
    · rw [qtick, if_neg (by rw [h i]; decide)]
    · rfl
  simp only [HV.portV, e]
theorem tick_calm {S : Soc} {v : HV} (h : v.none) (hc : v.calm) (d : Int) : v.tick S d = v.rest S := by
  rw [HV.tick, ansV_none h, portV_calm hc]
theorem told_none {S : Soc} {v : HV} (h : v.none) (n : Nat) : v.told S n = [] := by
  rw [HV.told, List.filterMap_eq_nil_iff]
  intro i _
  rw [HV.ansOf, h i]
def phN (gs : List Gd) (x : Nat) : Int := if h : x < gs.length then gs[x].phase else 0
theorem phN_at {gs : List Gd} {x : Nat} (h : x < gs.length) : phN gs x = gs[x].phase := by rw [phN, dif_pos h]
theorem phI_nat {gs : List Gd} {x : Nat} (h : x < gs.length) : phI gs (x : Int) = phN gs x := by rw [phI_at h, phN_at h]
def StillA (gs : List Gd) : Prop := ∀ x (h : x < gs.length), gs[x].still
theorem StillA.tick {gs : List Gd} (h : StillA gs) : gtickL gs = gs ∧ evs gs = [] := by
  constructor
  · apply List.ext_getElem (gtickL_len gs)
    intro x h1 h2
    simp only [gtickL, List.getElem_map]
    exact (h x h2).tick.1
  · unfold evs evTo
    rw [List.map_eq_nil_iff, List.filter_eq_nil_iff]
    intro x hx
    have hxl : x < gs.length := by simpa using hx
    have e : gs.getD x ⟨0, 0, false, 0, 0, false, false⟩ = gs[x] := by simp [hxl]
    rw [e, (h x hxl).tick.2]; simp
theorem StillA.of {gs : List Gd} {k : Nat} (h : Still gs k) (hk : ∀ (hl : k < gs.length), gs[k].still) : StillA gs := fun x hx => by
  by_cases e : x = k
  · subst e; exact hk hx
  · exact h x hx e
def upK (p : Int) : Int := if p = 116 then 114 else 110
def wkF (S : Soc) (v : HV) (c : List Nat) : Nat → FSt := fun j => match S.devs[j]? with
  | some d => if d.dom.toNat ∈ c ∧ (phN v.gs d.dom.toNat = 48 ∨ phN v.gs d.dom.toNat = 116) then (v.F j).deed d.regs (upK (phN v.gs d.dom.toNat)) else v.F j
  | .none => v.F j
theorem wkF_nil (S : Soc) (v : HV) : wkF S v [] = v.F := by
  funext j; unfold wkF; split
  · rw [if_neg (fun h => by cases h.1)]
  · rfl
theorem wkF_live {S : Soc} {v : HV} {c : List Nat} {k : Nat} (h : phN v.gs k = 49) : wkF S v (c ++ [k]) = wkF S v c := by
  funext j; unfold wkF
  cases S.devs[j]? with
  | none => rfl
  | some d =>
    simp only
    by_cases e : d.dom.toNat = k
    · rw [if_neg, if_neg]
      · rintro ⟨_, h2⟩; rw [e, h] at h2; omega
      · rintro ⟨_, h2⟩; rw [e, h] at h2; omega
    · have : (d.dom.toNat ∈ c ++ [k]) ↔ d.dom.toNat ∈ c := by simp [e]
      simp only [this]
theorem wkF_at {S : Soc} {v : HV} {c : List Nat} {j : Nat} (h : j < S.devs.length) : wkF S v c j = if S.devs[j].dom.toNat ∈ c ∧ (phN v.gs S.devs[j].dom.toNat = 48 ∨ phN v.gs S.devs[j].dom.toNat = 116) then (v.F j).deed S.devs[j].regs (upK (phN v.gs S.devs[j].dom.toNat)) else v.F j := by
  unfold wkF; rw [List.getElem?_eq_getElem h]
theorem wkF_out {S : Soc} {v : HV} {c : List Nat} {j : Nat} (h : ¬ j < S.devs.length) : wkF S v c j = v.F j := by
  unfold wkF; rw [List.getElem?_eq_none (by omega)]
theorem wkF_down {S : Soc} (hk : S.like) {v : HV} {c : List Nat} {k : Nat} (hc : k ∉ c) (h : phN v.gs k = 48 ∨ phN v.gs k = 116) : wkF S v (c ++ [k]) = deedF S (upK (phN v.gs k), k) (wkF S v c) := by
  funext j
  by_cases hj : j < S.devs.length
  · have hdom := (hk.dev j hj).dom
    rw [wkF_at hj, deedF_at hj, wkF_at hj]
    by_cases e : S.devs[j].dom.toNat = k
    · rw [if_pos ⟨by rw [e]; simp, by rw [e]; exact h⟩, if_pos (show S.devs[j].dom = (k : Int) by omega), if_neg (fun q => hc (by rw [← e]; exact q.1)), e]
    · rw [if_neg (show ¬ S.devs[j].dom = (k : Int) by omega)]
      have : (S.devs[j].dom.toNat ∈ c ++ [k]) ↔ S.devs[j].dom.toNat ∈ c := by simp [e]
      simp only [this]
  · rw [wkF_out hj]
    unfold deedF
    rw [List.getElem?_eq_none (by omega)]
    simp only
    rw [wkF_out hj]
structure Mono (v v' : HV) : Prop where
  run : ∀ x, x < v.ns.length → run v.ns x = true → run v'.ns x = true
  held : ∀ i, heldI v.ls i = false → heldI v'.ls i = false
theorem Mono.refl (v : HV) : Mono v v := ⟨fun _ _ h => h, fun _ h => h⟩
theorem Mono.trans {a b c : HV} (h : Mono a b) (hl : b.ns.length = a.ns.length) (k : Mono b c) : Mono a c := ⟨fun x hx r => k.run x (by rw [hl]; exact hx) (h.run x hx r), fun i r => k.held i (h.held i r)⟩
theorem held_tick {ls : List Ln} (i : Int) (h : heldI ls i = false) : heldI (tickL ls) i = false := by
  unfold heldI at h ⊢
  have hl : (tickL ls).length = ls.length := by simp [tickL]
  by_cases hi : isLn ls i
  · obtain ⟨n, rfl⟩ : ∃ n : Nat, i = (n : Int) := ⟨i.toNat, by have := hi.1; omega⟩
    have hn : n < ls.length := by have := hi.2; omega
    have hi' : isLn (tickL ls) (n : Int) := ⟨hi.1, by rw [hl]; exact hi.2⟩
    rw [lnOf_at hn] at h
    rw [lnOf_at (by rw [hl]; exact hn)]
    simp only [hi, decide_true, Bool.not_true, Bool.false_or] at h
    have e : (tickL ls)[n]'(by rw [hl]; exact hn) = tick1 ls[n] := by simp [tickL]
    rw [e]
    simp only [hi', decide_true, Bool.not_true, Bool.false_or]
    rw [tick1, if_neg (by rw [h]; simp)]; exact h
  · simp [hi] at h
theorem held_release {ls : List Ln} (i j : Int) (h : heldI ls i = false) : heldI (releaseL ls j) i = false := by
  unfold releaseL
  split
  · rename_i hj
    have hjl : j.toNat < ls.length := by have := hj.1.1; have := hj.1.2; omega
    have hx : lnOf ls j = ls[j.toNat] := by
      have := lnOf_at hjl
      rwa [show ((j.toNat : Nat) : Int) = j by have := hj.1.1; omega] at this
    unfold heldI at h ⊢
    by_cases hi : isLn ls i
    · obtain ⟨n, rfl⟩ : ∃ n : Nat, i = (n : Int) := ⟨i.toNat, by have := hi.1; omega⟩
      have hn : n < ls.length := by have := hi.2; omega
      have hi' : isLn (ls.set j.toNat { lnOf ls j with wanted := true }) (n : Int) := ⟨hi.1, by simpa using hi.2⟩
      rw [lnOf_at hn] at h
      rw [lnOf_at (by simpa using hn)]
      simp only [hi, decide_true, Bool.not_true, Bool.false_or] at h
      simp only [hi', decide_true, Bool.not_true, Bool.false_or, List.getElem_set]
      split
      · rename_i e
        simp only [hx]
        subst e; exact h
      · exact h
    · simp [hi] at h
  · exact h
structure HGood (S : Soc) (v : HV) : Prop where
  none : v.none
  calm : v.calm
  ni : NI v.ns
theorem HGood.rest {S : Soc} {v : HV} (h : HGood S v) (hN : NsOk v.ns) : HGood S (v.rest S) := ⟨h.none, h.calm, NI.tick hN h.ni.w⟩
theorem Mono.rest {S : Soc} {v : HV} (h : HGood S v) (hN : NsOk v.ns) : Mono v (v.rest S) := ⟨fun x hx r => run_tick hN h.ni.w x hx r, fun i r => held_tick i r⟩
/- The chip: a domain that rises. -/
set_option maxRecDepth 100000

structure RiseI (S : Soc) (v0 v : HV) (k kk : Nat) : Prop where
  good : HGood S v
  mono : Mono v0 v
  posted : v.posted = v0.posted
  nl : v.ns.length = v0.ns.length
  gl : v.gs.length = v0.gs.length
  still : Still v.gs k
  others : ∀ x, x ≠ k → phN v.gs x = phN v0.gs x
  at_ : (phN v0.gs k = 49 ∧ phN v.gs k = 49 ∧ v.F = v0.F) ∨ ((phN v0.gs k = 48 ∨ phN v0.gs k = 116) ∧
    ((∃ h : k < v.gs.length, v.gs[k].phase = 114 ∧ v.gs[k].back = decide (phN v0.gs k = 116) ∧ v.gs[k].left + 2 + kk ≤ 40 ∧ v.F = v0.F) ∨
     (phN v.gs k = 104 ∧ kk + 1 ≤ 40 ∧ v.F = deedF S (upK (phN v0.gs k), k) v0.F) ∨ (phN v.gs k = 49 ∧ v.F = deedF S (upK (phN v0.gs k), k) v0.F)))
theorem phN_set {gs : List Gd} {k x : Nat} {g : Gd} (hk : k < gs.length) : phN (gs.set k g) x = if x = k then g.phase else phN gs x := by
  unfold phN
  by_cases hx : x < gs.length
  · have hx' : x < (gs.set k g).length := by simpa using hx
    rw [dif_pos hx', dif_pos hx, List.getElem_set]
    by_cases e : k = x
    · subst e; simp
    · rw [if_neg e, if_neg (Ne.symm e)]
  · have hx' : ¬ x < (gs.set k g).length := by simpa using hx
    rw [dif_neg hx', dif_neg hx, if_neg (by omega)]
theorem RiseI.tick {S : Soc} {v0 v : HV} {k kk : Nat} (h : RiseI S v0 v k kk) (hN : NsOk v.ns) (hk : k < v.gs.length) (hl : 0 ≤ v.gs[k].left) (hp : phN v.gs k ≠ 49) : RiseI S v0 (v.rest S) k (kk + 1) ∧ kk < 40 := by
  have hg := h.still.tick hk
  have he := h.still.evs hk
  have hph := phN_at hk
  have hgs : (v.rest S).gs = v.gs.set k (gtick v.gs[k]) := hg
  have hF : (v.rest S).F = deedsF S (if gev v.gs[k] ≠ 0 then [(gev v.gs[k], k)] else []) v.F := by rw [← he]; rfl
  have hm : Mono v0 (v.rest S) := h.mono.trans h.nl (Mono.rest h.good hN)
  have hst : Still (v.rest S).gs k := by rw [hgs]; exact h.still.set _
  have hot : ∀ x, x ≠ k → phN (v.rest S).gs x = phN v0.gs x := fun x hx => by rw [hgs, phN_set hk, if_neg hx]; exact h.others x hx
  have hnl : (v.rest S).ns.length = v0.ns.length := by rw [← h.nl]; exact ctickL_len _
  have hgl : (v.rest S).gs.length = v0.gs.length := by rw [hgs, List.length_set]; exact h.gl
  have hpk : phN (v.rest S).gs k = (gtick v.gs[k]).phase := by rw [hgs, phN_set hk, if_pos rfl]
  rcases h.at_ with ⟨_, h2, _⟩ | ⟨hd, ⟨hk', q1, q2, q3, q4⟩ | ⟨q1, q2, q3⟩ | ⟨q1, _⟩⟩
  · exact absurd h2 hp
  · by_cases h0 : 0 < v.gs[k].left
    · refine ⟨⟨h.good.rest hN, hm, h.posted, hnl, hgl, hst, hot, .inr ⟨hd, .inl ⟨by rw [hgs, List.length_set]; exact hk, ?_⟩⟩⟩, by omega⟩
      have e1 : gtick v.gs[k] = { v.gs[k] with left := v.gs[k].left - 1 } := by rw [gtick, if_pos q1, if_pos h0]
      have e2 : gev v.gs[k] = 0 := by rw [gev, if_pos q1, if_pos h0]
      simp only [hgs, List.getElem_set_self, e1]
      refine ⟨q1, q2, by omega, ?_⟩
      rw [hF, e2]; exact q4
    · refine ⟨⟨h.good.rest hN, hm, h.posted, hnl, hgl, hst, hot, .inr ⟨hd, .inr (.inl ⟨?_, by omega, ?_⟩)⟩⟩, by omega⟩
      · rw [hpk, gtick, if_pos q1, if_neg h0]
      · have e2 : gev v.gs[k] = upK (phN v0.gs k) := by
          rw [gev, if_pos q1, if_neg h0, q2, upK]
          by_cases e : phN v0.gs k = 116 <;> simp [e]
        have e3 : upK (phN v0.gs k) ≠ 0 := by unfold upK; split <;> decide
        rw [hF, e2, if_pos e3, q4]; rfl
  · have q1' : v.gs[k].phase = 104 := by rw [← hph]; exact q1
    refine ⟨⟨h.good.rest hN, hm, h.posted, hnl, hgl, hst, hot, .inr ⟨hd, .inr (.inr ⟨?_, ?_⟩)⟩⟩, by omega⟩
    · rw [hpk, gtick, if_neg (by rw [q1']; decide), if_pos q1']
    · have e2 : gev v.gs[k] = 111 := by rw [gev, if_neg (by rw [q1']; decide), if_pos q1']
      rw [hF, e2, if_pos (by decide)]
      show deedF S (111, k) v.F = _
      rw [deedF_none (by simp) (by simp) (by simp)]; exact q3
  · exact absurd q1 hp
/- The chip: wakes, its last part: ticks until a device is alive. -/
set_option maxRecDepth 100000

structure Woke (S : Soc) (v0 v : HV) (c : List Nat) (d : Nat) : Prop where
  good : HGood S v
  mono : Mono v0 v
  posted : v.posted = v0.posted
  ph : ∀ x, phN v.gs x = if x ∈ c then 49 else phN v0.gs x
  still : StillA v.gs
  F : v.F = wkF S v0 c
  alive : v.alive S d = true
def WakeQ (st : ASt) (ib : Nat) (a : HA) (S : Soc) (v0 : HV) (c : List Nat) (d : Nat) (r : AV) (s : ASt) : Prop := r = .bool true ∧ ∃ v, HX st s ib a S v ∧ Woke S v0 v c d
structure Soon (S : Soc) (v0 v : HV) (c : List Nat) (d ck dm rn : Nat) (kk : Nat) : Prop where
  good : HGood S v
  mono : Mono v0 v
  posted : v.posted = v0.posted
  ph : ∀ x, phN v.gs x = if x ∈ c then 49 else phN v0.gs x
  still : StillA v.gs
  F : v.F = wkF S v0 c
  lks : Lks v.ns ck
  pt : pot v.ns ck = 0 ∨ pot v.ns ck + kk ≤ 300
  ln : heldI v.ls (rn : Int) = false ∨ ∃ h : rn < v.ls.length, v.ls[rn].held = true ∧ v.ls[rn].wanted = true ∧ v.ls[rn].left + 1 + kk ≤ 300
  dm : dm ∈ c
section
variable {st s : ASt} {ib : Nat} {a : HA} {S : Soc} {v v0 : HV} {c : List Nat} {d ck dm rn : Nat}
theorem Soon.tick {kk : Nat} (h : Soon S v0 v c d ck dm rn kk) (hx : HX st s ib a S v) (hl0 : v.ns.length = v0.ns.length) (hl : 0 ≤ pot v.ns ck) (hkk : kk < 300) : Soon S v0 (v.rest S) c d ck dm rn (kk + 1) := by
  obtain ⟨T, hx⟩ := hx
  have hN := hx.c.kof.ok
  obtain ⟨e1, e2⟩ := h.still.tick
  have hgs : (v.rest S).gs = v.gs := e1
  have hF : (v.rest S).F = v.F := by show deedsF S (evs v.gs) v.F = v.F; rw [e2]; rfl
  obtain ⟨k1, k2⟩ := h.lks.after hN
  refine ⟨h.good.rest hN, h.mono.trans hl0 (Mono.rest h.good hN), h.posted, fun x => by rw [hgs]; exact h.ph x, by rw [hgs]; exact h.still, by rw [hF]; exact h.F, k1, ?_, ?_, h.dm⟩
  · show pot (ctickL v.ns) ck = 0 ∨ pot (ctickL v.ns) ck + _ ≤ 300
    rw [k2]
    rcases h.pt with e | e
    · rw [if_pos e]; exact .inl rfl
    · split
      · exact .inl rfl
      · exact .inr (by omega)
  · rcases h.ln with e | ⟨hr, q1, q2, q3⟩
    · exact .inl (held_tick _ e)
    · have hr' : rn < (tickL v.ls).length := by simpa [tickL] using hr
      have e : (tickL v.ls)[rn] = tick1 v.ls[rn] := by simp [tickL]
      have hll := (hx.c.linv.left _ (List.getElem_mem hr)).1
      by_cases h0 : 0 < v.ls[rn].left
      · refine .inr ⟨hr', ?_⟩
        show (tickL v.ls)[rn].held = true ∧ (tickL v.ls)[rn].wanted = true ∧ (tickL v.ls)[rn].left + 1 + _ ≤ 300
        rw [e, tick1, if_pos q1, if_pos h0]
        exact ⟨q1, q2, by simp only; omega⟩
      · left
        show heldI (tickL v.ls) _ = false
        rw [heldI_at hr', e, tick1, if_pos q1, if_neg h0, if_pos q2]
set_option maxHeartbeats 1000000 in
theorem wake_end {st1 : ASt} (hk : S.like) (hd : d < S.devs.length) (hck : S.devs[d].clock = (ck : Int)) (hdm : S.devs[d].dom = (dm : Int)) (hrn : S.devs[d].rst = (rn : Int)) (hl0 : v0.ns.length = S.clocks.length) (h : HX st1 s ib a S v) (hle : st.le st1) (hS : Soon S v0 v c d ck dm rn 0) :
    awp Tryz.prog C.p3 (Post [.slot 6] (WakeQ st ib a S v0 c d)) [(0, .ptr a.hp 0), (2, .int .i64 d)] s := by
  have n4 := hk.nv; have n3 := hk.nr
  simp only [↓Bt, Bu, simprocAttr, ↓C.z94, C.z29, ↓C.z101, C.bm_b, ↓C.bv8_w, ↓C.bw6_w, ↓C.j6_w, C.j6_b, ↓C.p3_w]
  refine awp_midB (fun _ : Unit => [(0, .ptr a.hp 0), (2, .int .i64 d)]) (fun _ t => ∃ v, HX st1 t ib a S v ∧ v.aliveI S (d : Int) = true ∧ ∃ kk, Soon S v0 v c d ck dm rn kk) ?_ ?_
  rotate_left
  · rintro - t ⟨v', ⟨T, h'⟩, hal, kk, hS'⟩
    simp only [↓Bt, Bu, simprocAttr, ↓C.cy_w, C.cy_b, ↓C.bm4_w]
    refine (halive h' d).mono ?_
    rintro r t2 ⟨rfl, rfl⟩
    rw [hal]
    simp only [↓Bt, Bu, simprocAttr, ↓C.cy_w, C.cy_b, ↓C.bm4_w]
    have hal2 : v'.alive S d = true := by simpa [HV.aliveI] using hal
    exact ⟨rfl, v', HX.less ⟨T, h'⟩ hle, hS'.good, hS'.mono, hS'.posted, hS'.ph, hS'.still, hS'.F, hal2⟩
  refine awp_loopK (fun kk : Nat => [(0, .ptr a.hp 0), (2, .int .i64 d), (16, .int .i64 kk)]) (fun kk t => kk ≤ 300 ∧ ∃ v, HX st1 t ib a S v ∧ Soon S v0 v c d ck dm rn kk) (fun kk => 300 - kk) 0 rfl ⟨Nat.zero_le _, v, h, hS⟩ ?_
  clear h hS
  rintro kk t ⟨hkk, v, h, hS⟩
  obtain ⟨T, h0⟩ := h
  have hN := h0.c.kof.ok
  have hcl : ck < v.ns.length := by rw [h0.c.kof.len]; have := (hk.dev d hd).clock; omega
  obtain ⟨hp0, hp1⟩ := hS.lks.alive hN
  have hdl : dm < v.gs.length := by rw [h0.c.ginv.len]; have := (hk.dev d hd).dom; omega
  have hph : phI v.gs (dm : Int) = 49 := by rw [phI_nat hdl, hS.ph, if_pos hS.dm]
  have hal : v.aliveI S (d : Int) = (run v.ns ck && !heldI v.ls (rn : Int)) := by
    rw [HV.aliveI, Int.toNat_natCast, alive_at hd, hck, hdm, hrn, hph, runI, if_pos (isCk_at hcl)]; simp
  have c300 : ((300 : Nat) : Int) = 300 := rfl
  by_cases h300 : kk < 300
  rotate_left
  · have hke : kk = 300 := by omega
    have hke' : ¬ (kk : Int) < 300 := by omega
    simp only [↓Bt, Bu, simprocAttr, ↓C.z94, C.z29, ↓C.z101, C.bm_b, hke']
    have hrun : run v.ns ck = true := hp1.mpr (by have := hS.pt; omega)
    have hln : heldI v.ls (rn : Int) = false := by
      rcases hS.ln with e | ⟨hr, q1, q2, q3⟩
      · exact e
      · have := (h0.c.linv.left _ (List.getElem_mem hr)).1; omega
    exact ⟨(), v, ⟨T, h0⟩, by rw [hal, hrun, hln]; rfl, kk, hS⟩
  have hke' : (kk : Int) < 300 := by omega
  have hw := wsucc h300 (by omega)
  simp only [↓Bt, Bu, simprocAttr, ↓C.z94, C.z29, ↓C.z101, C.bm_b, hke']
  refine (halive h0 d).mono ?_
  rintro r t2 ⟨rfl, rfl⟩
  cases hd2 : v.aliveI S (d : Int)
  · simp only [↓Bt, Bu, simprocAttr, ↓C.z101, C.bm_b]
    simp only [↓Bt, Bu, simprocAttr, ↓C.z94, C.z29, ↓C.z101, C.bm_b]
    refine (htick ⟨T, h0⟩ hS.good.none.ok n4.2 (by omega) 0).mono ?_
    rintro r t3 ⟨rfl, h1⟩
    rw [tick_calm hS.good.none hS.good.calm] at h1
    simp only [↓Bt, Bu, simprocAttr, ↓C.z94, C.z29, ↓C.z101, C.bm_b, hw]
    exact ⟨kk + 1, rfl, ⟨by omega, v.rest S, h1, hS.tick ⟨T, h0⟩ (by rw [h0.c.kof.len, hl0]) hp0 h300⟩, by omega⟩
  · simp only [↓Bt, Bu, simprocAttr, ↓C.z94, C.z29, ↓C.z101, C.bm_b]
    exact ⟨(), v, ⟨T, h0⟩, hd2, kk, hS⟩
end
/- The chip: wakes: the reset line; the domains. -/
set_option maxRecDepth 100000

theorem awp_frame {P : Program} {c c' : ICode} {ks : List Nat} {Q : IExit → AFr → ASt → Prop} {fr f0 : AFr} {st : ASt} (e : c = .keep ks c') (h : awp P c Q f0 st) (hk : fr.keep ks = f0.keep ks) : awp P c Q fr st := by
  subst e; rw [awp_keep] at h ⊢; rw [hk]; exact h
structure Part (S : Soc) (v0 v : HV) (c : List Nat) (ck : Nat) : Prop where
  good : HGood S v
  mono : Mono v0 v
  posted : v.posted = v0.posted
  ph : ∀ x, phN v.gs x = if x ∈ c then 49 else phN v0.gs x
  still : StillA v.gs
  F : v.F = wkF S v0 c
  lks : Lks v.ns ck
section
variable {st s : ASt} {ib : Nat} {a : HA} {S : Soc} {v v0 : HV} {c : List Nat} {d ck dm rn : Nat}
theorem wake_ln {st1 : ASt} {ix : Nat} (hk : S.like) (hd : d < S.devs.length) (hck : S.devs[d].clock = (ck : Int)) (hdm : S.devs[d].dom = (dm : Int)) (hrn : S.devs[d].rst = (rn : Int)) (hl0 : v0.ns.length = S.clocks.length) (h : HX st1 s ib a S v) (hle : st.le st1) (hx : st1.h ix = some (.cells S.devs[d].cells)) (hS : Part S v0 v c ck) (hdc : dm ∈ c) :
    awp Tryz.prog C.wv (Post [.slot 6] (WakeQ st ib a S v0 c d)) [(0, .ptr a.hp 0), (2, .int .i64 d), (7, .ptr ix 0)] s := by
  have hxs := h.le _ _ hx
  rw [Dev.cells, hrn] at hxs
  obtain ⟨T, h0⟩ := h
  have hN := h0.c.kof.ok
  have hckl : ck < v.ns.length := by rw [h0.c.kof.len]; have := (hk.dev d hd).clock; omega
  have hrl : rn < v.ls.length := by rw [h0.c.linv.len]; have := (hk.dev d hd).rst; omega
  have hpt : pot v.ns ck = 0 ∨ pot v.ns ck + (0 : Nat) ≤ 300 := .inr (by have := pot_le hN ck hckl; have := h0.c.kof.len; have := hk.nc; omega)
  have hli : isLn v.ls (rn : Int) := ⟨by omega, by omega⟩
  have hhd : heldI v.ls (rn : Int) = v.ls[rn].held := heldI_at hrl
  simp only [↓Bt, Bu, simprocAttr, ↓C.z96, C.z28, hxs]
  refine (hheld h0 rn).mono ?_
  rintro r t ⟨rfl, rfl⟩
  cases hb : heldI v.ls (rn : Int)
  · simp only [↓Bt, Bu, simprocAttr, ↓C.z96, C.z28, hxs]
    exact awp_frame C.p3.eq_1 (wake_end hk hd hck hdm hrn hl0 ⟨T, h0⟩ hle ⟨hS.good, hS.mono, hS.posted, hS.ph, hS.still, hS.F, hS.lks, hpt, .inl hb, hdc⟩) rfl
  have hh : (lnOf v.ls (rn : Int)).held = true := by rw [lnOf_at hrl, ← hhd]; exact hb
  have he : releaseE v.ls (rn : Int) = 0 := by rw [releaseE, if_pos hli, if_pos hh]
  simp only [↓Bt, Bu, simprocAttr, ↓C.z96, C.z28, hxs]
  refine (hrelease h0 rn).mono ?_
  rintro r t2 ⟨rfl, h2⟩
  rw [he]
  simp only [↓Bt, Bu, simprocAttr, ↓C.z96, C.z28]
  have hl := (h0.c.linv.left _ (List.getElem_mem hrl)).2
  have e1 : releaseL v.ls (rn : Int) = v.ls.set rn { v.ls[rn] with wanted := true } := by rw [releaseL, if_pos ⟨hli, hh⟩, Int.toNat_natCast, lnOf_at hrl]
  refine awp_frame C.p3.eq_1 (wake_end (v := { v with ls := releaseL v.ls (rn : Int) }) hk hd hck hdm hrn hl0 ⟨T, h2⟩ hle ⟨⟨hS.good.none, hS.good.calm, hS.good.ni⟩, ⟨hS.mono.run, fun i hi => held_release i _ (hS.mono.held i hi)⟩, hS.posted, hS.ph, hS.still, hS.F, hS.lks, hpt, .inr ?_, hdc⟩) rfl
  simp only [e1]
  refine ⟨by simpa using hrl, ?_⟩
  rw [List.getElem_set_self]
  exact ⟨by rw [← hhd]; exact hb, rfl, by simp only; omega⟩
end
/- The chip: wakes: the domains are switched on, one after another. -/
set_option maxRecDepth 100000

section
variable {st s : ASt} {ib : Nat} {a : HA} {S : Soc} {v vi v0 : HV} {c cs : List Nat} {d ck dm rn k kk : Nat}
theorem Part.more (hk : S.like) (h : Part S v0 vi c ck) (hr : RiseI S vi v k kk) (h49 : phN v.gs k = 49) (hc : k ∉ c) (hl : Lks v.ns ck) (hn : vi.ns.length = v0.ns.length) : Part S v0 v (c ++ [k]) ck := by
  have e0 : phN vi.gs k = phN v0.gs k := by rw [h.ph, if_neg hc]
  refine ⟨hr.good, h.mono.trans hn hr.mono, hr.posted.trans h.posted, fun x => ?_, StillA.of hr.still fun hl => .inr (.inl (by rw [← phN_at hl]; exact h49)), ?_, hl⟩
  · by_cases e : x = k
    · subst e; rw [if_pos (by simp)]; exact h49
    · rw [hr.others x e, h.ph]
      have : (x ∈ c ++ [k]) ↔ x ∈ c := by simp [e]
      simp only [this]
  · rcases hr.at_ with ⟨h1, _, h3⟩ | ⟨h1, ⟨q0, q1, _⟩ | ⟨q1, _⟩ | ⟨_, q2⟩⟩
    · rw [h3, h.F, wkF_live (by rw [← e0]; exact h1)]
    · rw [phN_at q0, q1] at h49; omega
    · omega
    · rw [q2, h.F, wkF_down hk hc (by rw [← e0]; exact h1), e0]
theorem RiseI.live (h : HGood S v) (hs : StillA v.gs) (h49 : phN v.gs k = 49) : RiseI S v v k 0 :=
  ⟨h, Mono.refl v, rfl, rfl, rfl, fun x hx _ => hs x hx, fun _ _ => rfl, .inl ⟨h49, h49, rfl⟩⟩
theorem RiseI.begin (h : HGood S v) (hs : StillA v.gs) (hk : k < v.gs.length) (hp : phN v.gs k = 48 ∨ phN v.gs k = 116) (hd : v.gs[k].delay ≤ 3) :
    RiseI S v { v with gs := v.gs.set k { v.gs[k] with back := decide (v.gs[k].phase = 116), phase := 114, left := v.gs[k].delay } } k 0 := by
  refine ⟨⟨h.none, h.calm, h.ni⟩, ⟨fun _ _ h => h, fun _ h => h⟩, rfl, rfl, List.length_set, Still.set (fun x hx _ => hs x hx) _, fun x hx => ?_, .inr ⟨hp, .inl ⟨by simpa using hk, ?_⟩⟩⟩
  · simp only [phN_set hk, if_neg hx]
  · simp only [List.getElem_set_self]
    exact ⟨trivial, by rw [phN_at hk], by omega, trivial⟩
theorem up_goes {i : Nat} (hl : ChainOk v.gs cs dm) (hi : i < cs.length) (h49 : ∀ x ∈ cs.take i, phN v.gs x = 49) (hp : phN v.gs cs[i] = 48 ∨ phN v.gs cs[i] = 116) (hil : cs[i] < v.gs.length) :
    ¬ (v.gs[cs[i]].isDown = false ∨ (v.gs[cs[i]].above ≠ -1 ∧ (v.gs.getD v.gs[cs[i]].above.toNat v.gs[cs[i]]).phase ≠ 49)) := by
  rintro (h | ⟨h1, h2⟩)
  · rw [phN_at hil] at hp
    have := isDown_false.mp h
    omega
  · by_cases h0 : i = 0
    · subst h0; exact h1 (hl.top _ hil)
    · obtain ⟨j, rfl⟩ : ∃ j, i = j + 1 := ⟨i - 1, by omega⟩
      have e := hl.link j hi hil
      have hj := hl.lt j (by omega)
      have hm := h49 cs[j] (by rw [List.mem_take_iff_getElem]; exact ⟨j, by omega, rfl⟩)
      rw [phN_at hj] at hm
      rw [e, Int.toNat_natCast] at h2
      exact h2 (by simpa [hj] using hm)
theorem take_fresh (hl : ChainOk v0.gs cs dm) (hL : Lesser v0.gs) {i : Nat} (hi : i < cs.length) : cs[i] ∉ cs.take i := fun hm => by
  obtain ⟨j, hj, e⟩ := List.mem_take_iff_getElem.mp hm
  have := hl.mono hL (i := j) (j := i) (by omega) hi
  omega
end
/- The chip: wakes: the walk through the domains. -/
set_option maxRecDepth 100000

theorem awp_midBB' {P : Program} {a c : ICode} {ks : List Nat} {i j : Nat} {Q1 Q2 : IExit → AFr → ASt → Prop} {fr : AFr} {st : ASt} {σ : Type} (F : σ → AFr) (I : σ → ASt → Prop)
    (h1 : awp P a (IExit.inBlock i (IExit.inBlock j (IExit.then (fun fr st => ∃ s, fr.keep ks = F s ∧ I s st) Q2))) fr st) (h2 : ∀ s st, I s st → awp P c Q1 (F s) st) :
    awp P a (IExit.inBlock i (IExit.inBlock j (IExit.then (awp P (.keep ks c) Q1) Q2))) fr st := by
  refine awp_mono a (fun e fr st h => ?_) h1
  have hn : ∀ fr st, (∃ s, fr.keep ks = F s ∧ I s st) → awp P (.keep ks c) Q1 fr st := by
    rintro fr st ⟨s, e1, e2⟩
    rw [awp_keep, e1]; exact h2 s st e2
  cases e with
  | normal => exact hn _ _ h
  | exit k =>
    simp only [IExit.inBlock] at h ⊢
    split
    · rename_i e; rw [if_pos e] at h; exact hn _ _ h
    · rename_i e
      rw [if_neg e] at h
      split
      · rename_i e; rw [if_pos e] at h; exact hn _ _ h
      · rename_i e; rw [if_neg e] at h; exact h
  | ret => exact h
section
variable {st s : ASt} {ib : Nat} {a : HA} {S : Soc} {v v0 : HV} {c cs : List Nat} {d ck dm rn : Nat}
set_option maxHeartbeats 1000000 in
theorem wake_rise {st1 t' : ASt} {v' : HV} {ix ic i : Nat} {fr : AFr} {Q1 Q2 : IExit → AFr → ASt → Prop} (hk : S.like) (hcl : cs.length ≤ 5) (hch : ChainOk v0.gs cs dm) (hg0 : GInv S.doms v0.gs) (hil : i < cs.length) (hkl : cs[i] < v.gs.length) (hlen0 : v.ns.length = v0.ns.length)
    (hic : st1.h ic = some (.cells (ints (cs.map Int.ofNat)))) (hS : Part S v0 v (cs.take i) ck) (h' : HX st1 t' ib a S v') (hr' : RiseI S v v' cs[i] 0) (hl' : Lks v'.ns ck) (hfr' : fr.keep [0, 2, 7, 11, 13] = [(0, .ptr a.hp 0), (2, .int .i64 d), (7, .ptr ix 0), (11, .sl 1 ic 0 cs.length), (13, .int .i64 i)])
    (hQ : ∀ t2, (∃ v, HX st1 t2 ib a S v ∧ Part S v0 v (cs.take (i + 1)) ck) → awp Tryz.prog C.p1 Q1 [(0, .ptr a.hp 0), (2, .int .i64 d), (7, .ptr ix 0), (11, .sl 1 ic 0 cs.length), (13, .int .i64 i)] t2) :
    awp Tryz.prog C.ww (IExit.inBlock 5 (IExit.then (awp Tryz.prog C.p1 Q1) Q2)) fr t' := by
  have n4 := hk.nv; have n3 := hk.nr
  have hw := wsucc hil (by omega)
  have hz : (0:Int) ≤ (i : Int) ∧ (i : Int) < ((cs.length : Nat) : Int) := by omega
  have hg : (ints (cs.map Int.ofNat))[i]? = some (.int .i64 (cs[i] : Nat)) := ints_nat_get hil
  have hfr := take_fresh hch hg0.lesser hil
  have htk : cs.take (i + 1) = cs.take i ++ [cs[i]] := List.take_succ_eq_append_getElem hil
  rw [C.ww_w, awp_keep, hfr']
  simp only [↓Bt, Bu, simprocAttr, ↓C.z90, C.z27, ↓C.z91, C.cx_b]
  refine awp_midBB' (fun _ : Unit => [(0, .ptr a.hp 0), (2, .int .i64 d), (7, .ptr ix 0), (11, .sl 1 ic 0 cs.length), (13, .int .i64 i)]) (fun _ t => ∃ v, HX st1 t ib a S v ∧ Part S v0 v (cs.take (i + 1)) ck) ?_ ?_
  rotate_left
  · rintro - t2 h2
    have := hQ t2 h2
    rw [C.p1_w, awp_keep] at this
    exact this
  refine awp_loopK (fun kk : Nat => [(0, .ptr a.hp 0), (2, .int .i64 d), (7, .ptr ix 0), (11, .sl 1 ic 0 cs.length), (13, .int .i64 i), (15, .int .i64 kk)]) (fun kk t => kk ≤ 40 ∧ ∃ v', HX st1 t ib a S v' ∧ RiseI S v v' cs[i] kk ∧ Lks v'.ns ck) (fun kk => 40 - kk) 0 rfl ⟨Nat.zero_le _, v', h', hr', hl'⟩ ?_
  clear h' hr' hl' hfr' hQ
  rintro kk t2 ⟨hkk, v2, h2, hr2, hl2⟩
  have hict2 := h2.le _ _ hic
  obtain ⟨T2, h20⟩ := h2
  have hk2 : cs[i] < v2.gs.length := by rw [hr2.gl]; exact hkl
  have hp2 := phI_nat hk2
  have hN2 := h20.c.kof.ok
  have hleft := (h20.c.ginv.left _ (List.getElem_mem hk2)).1
  have done : phN v2.gs cs[i] = 49 → ∃ s : Unit, HX st1 t2 ib a S v2 ∧ Part S v0 v2 (cs.take (i + 1)) ck := fun h49 => ⟨(), ⟨T2, h20⟩, by rw [htk]; exact hS.more hk hr2 h49 hfr hl2 hlen0⟩
  by_cases h40 : kk < 40
  rotate_left
  · have hke : ¬ (kk : Int) < 40 := by omega
    have h49 : phN v2.gs cs[i] = 49 := by
      by_cases e : phN v2.gs cs[i] = 49
      · exact e
      · have := (hr2.tick hN2 hk2 hleft e).2; omega
    obtain ⟨_, q1, q2⟩ := done h49
    simp only [↓Bt, Bu, simprocAttr, ↓C.z90, C.z27, hke]
    exact ⟨(), v2, q1, q2⟩
  have hke : (kk : Int) < 40 := by omega
  have hwk := wsucc h40 (by omega)
  simp only [↓Bt, Bu, simprocAttr, ↓C.z90, C.z27, hke, hict2, hz, Int.toNat_natCast, Nat.mul_one, hg]
  refine (hphase h20 (cs[i] : Nat)).mono ?_
  rintro r t3 ⟨rfl, rfl⟩
  rw [hp2]
  by_cases h49 : phN v2.gs cs[i] = 49
  · obtain ⟨_, q1, q2⟩ := done h49
    simp only [↓Bt, Bu, simprocAttr, ↓C.z90, C.z27, h49]
    exact ⟨(), v2, q1, q2⟩
  simp only [↓Bt, Bu, simprocAttr, ↓C.z90, C.z27, h49]
  refine (htick ⟨T2, h20⟩ hr2.good.none.ok n4.2 (by omega) 0).mono ?_
  rintro r t4 ⟨rfl, h4⟩
  rw [tick_calm hr2.good.none hr2.good.calm] at h4
  simp only [↓Bt, Bu, simprocAttr, ↓C.z90, C.z27, hwk]
  exact ⟨kk + 1, rfl, ⟨h40, v2.rest S, h4, (hr2.tick hN2 hk2 hleft h49).1, (hl2.after hN2).1⟩, by omega⟩
set_option maxHeartbeats 1000000 in
theorem wake_doms {st1 : ASt} {ix ic : Nat} (hk : S.like) (hd : d < S.devs.length) (hck : S.devs[d].clock = (ck : Int)) (hdm : S.devs[d].dom = (dm : Int)) (hrn : S.devs[d].rst = (rn : Int)) (hl0 : v0.ns.length = S.clocks.length) (hg0 : GInv S.doms v0.gs)
    (hch : ChainOk v0.gs cs dm) (hcl : cs.length ≤ 5) (h : HX st1 s ib a S v) (hle : st.le st1) (hx : st1.h ix = some (.cells S.devs[d].cells)) (hic : st1.h ic = some (.cells (ints (cs.map Int.ofNat)))) (hs0 : StillA v0.gs) (hS : Part S v0 v [] ck) :
    awp Tryz.prog C.wx (Post [.slot 6] (WakeQ st ib a S v0 cs d)) [(0, .ptr a.hp 0), (2, .int .i64 d), (7, .ptr ix 0), (11, .sl 1 ic 0 cs.length)] s := by
  have n4 := hk.nv; have n3 := hk.nr
  have hdc : dm ∈ cs := by
    have hp := hch.pos
    have := hch.last (by omega)
    rw [← this]; exact List.getElem_mem _
  simp only [↓Bt, Bu, simprocAttr, ↓C.z97, C.by_b, ↓C.z90, C.z27, ↓C.z91, C.cx_b, ↓C.z92, C.z26, ↓C.bv2_w, ↓C.bwp_w, ↓C.jx_w, C.jx_b, ↓C.wx_w]
  refine awp_midB (fun _ : Unit => [(0, .ptr a.hp 0), (2, .int .i64 d), (7, .ptr ix 0)]) (fun _ t => ∃ v, HX st1 t ib a S v ∧ Part S v0 v cs ck) ?_ ?_
  rotate_left
  · rintro - t ⟨v', h', hS'⟩
    have := wake_ln hk hd hck hdm hrn hl0 h' hle hx hS' hdc
    rw [C.wv_w, awp_keep] at this
    exact this
  refine awp_loopK (fun i : Nat => [(0, .ptr a.hp 0), (2, .int .i64 d), (7, .ptr ix 0), (11, .sl 1 ic 0 cs.length), (13, .int .i64 i)]) (fun i t => i ≤ cs.length ∧ ∃ v, HX st1 t ib a S v ∧ Part S v0 v (cs.take i) ck) (fun i => cs.length - i) 0 rfl ⟨Nat.zero_le _, v, h, hS⟩ ?_
  clear h hS
  rintro i t ⟨hi, v, h, hS⟩
  by_cases hil : i < cs.length
  rotate_left
  · have hie : i = cs.length := by omega
    have hil' : ¬ (i : Int) < ((cs.length : Nat) : Int) := by omega
    rw [hie, List.take_length] at hS
    simp only [↓Bt, Bu, simprocAttr, ↓C.z97, C.by_b, ↓C.z90, C.z27, ↓C.z91, C.cx_b, ↓C.z92, C.z26, hil']
    exact ⟨(), v, h, hS⟩
  have hil' : (i : Int) < ((cs.length : Nat) : Int) := by omega
  have hw := wsucc hil (by omega)
  have hz : (0:Int) ≤ (i : Int) ∧ (i : Int) < ((cs.length : Nat) : Int) := by omega
  have hg : (ints (cs.map Int.ofNat))[i]? = some (.int .i64 (cs[i] : Nat)) := ints_nat_get hil
  have hict := h.le _ _ hic
  obtain ⟨T, h0⟩ := h
  have hgl : v.gs.length = v0.gs.length := by rw [h0.c.ginv.len, hg0.len]
  have hkl : cs[i] < v.gs.length := by rw [hgl]; exact hch.lt i hil
  have hlen0 : v.ns.length = v0.ns.length := by rw [h0.c.kof.len, hl0]
  have hfr := take_fresh hch hg0.lesser hil
  have htk : cs.take (i + 1) = cs.take i ++ [cs[i]] := List.take_succ_eq_append_getElem hil
  obtain ⟨k, hkk⟩ : ∃ k, k = cs[i] := ⟨_, rfl⟩
  have hpk := phI_nat hkl
  have c40 : ((40 : Nat) : Int) = 40 := rfl
  have c49 : ∀ x : Int, (AV.int .u8 x = AV.int .u8 49) = (x = 49) := fun x => by simp
  -- what is behind: ticks until it is up
  have fin := fun (t' : ASt) (v' : HV) (h' : HX st1 t' ib a S v') (hr' : RiseI S v v' cs[i] 0) (hl' : Lks v'.ns ck) Q1 Q2 (fr : AFr) hfr' hQ => wake_rise (d := d) (ix := ix) (ic := ic) (fr := fr) (Q1 := Q1) (Q2 := Q2) hk hcl hch hg0 hil hkl hlen0 hic hS h' hr' hl' hfr' hQ
  simp only [↓Bt, Bu, simprocAttr, ↓C.z92, C.z26, hil', hict, hz, Int.toNat_natCast, Nat.mul_one, hg]
  refine (hphase h0 (cs[i] : Nat)).mono ?_
  rintro r t3 ⟨rfl, rfl⟩
  rw [hpk]
  have e0 : phN v.gs cs[i] = phN v0.gs cs[i] := by rw [hS.ph, if_neg hfr]
  have hst := hS.still cs[i] hkl
  rw [Gd.still, ← phN_at hkl] at hst
  by_cases h49 : phN v.gs cs[i] = 49
  · simp only [↓Bt, Bu, simprocAttr, ↓C.z92, C.z26, h49]
    refine fin _ v ⟨T, h0⟩ (RiseI.live hS.good hS.still h49) hS.lks _ _ _ rfl ?_
    rintro t5 ⟨v5, h5, hS5⟩
    simp only [↓Bt, Bu, simprocAttr, ↓C.z97, C.by_b, hw]
    exact ⟨i + 1, rfl, ⟨hil, v5, h5, hS5⟩, by omega⟩
  have hp : phN v.gs cs[i] = 48 ∨ phN v.gs cs[i] = 116 := by omega
  have hup := up_goes (hch.same hgl (fun j h1 h2 => (hg0.same2 h0.c.ginv).2 j h1 h2)) hil (fun x hx => by rw [hS.ph, if_pos hx]) hp hkl
  have hE : upE v.gs cs[i] hkl = 0 := by rw [upE, if_neg hup]
  have hG : upG v.gs cs[i] hkl = v.gs.set cs[i] { v.gs[cs[i]] with back := decide (v.gs[cs[i]].phase = 116), phase := 114, left := v.gs[cs[i]].delay } := by rw [upG, if_neg hup]
  have hdl : v.gs[cs[i]].delay ≤ 3 := by
    have hD : cs[i] < S.doms.length := by rw [← h0.c.ginv.len]; exact hkl
    rw [(h0.c.ginv.same _ hkl hD).2.1]; exact (hk.dom _ hD).delay.2
  have hbeg := RiseI.begin hS.good hS.still hkl hp hdl
  rw [← hG] at hbeg
  rcases hp with hp | hp
  · simp only [↓Bt, Bu, simprocAttr, ↓C.z92, C.z26, hp, hict, hz, Int.toNat_natCast, Nat.mul_one, hg]
    refine (hup_at h0 hkl).mono ?_
    rintro r t4 ⟨rfl, h4⟩
    rw [hE]
    simp only [↓Bt, Bu, simprocAttr, ↓C.z92, C.z26]
    refine fin _ _ ⟨T, h4⟩ hbeg hS.lks _ _ _ rfl ?_
    rintro t5 ⟨v5, h5, hS5⟩
    simp only [↓Bt, Bu, simprocAttr, ↓C.z97, C.by_b, hw]
    exact ⟨i + 1, rfl, ⟨hil, v5, h5, hS5⟩, by omega⟩
  · simp only [↓Bt, Bu, simprocAttr, ↓C.z92, C.z26, hp, hict, hz, Int.toNat_natCast, Nat.mul_one, hg]
    refine (hup_at h0 hkl).mono ?_
    rintro r t4 ⟨rfl, h4⟩
    rw [hE]
    simp only [↓Bt, Bu, simprocAttr, ↓C.z92, C.z26]
    refine fin _ _ ⟨T, h4⟩ hbeg hS.lks _ _ _ rfl ?_
    rintro t5 ⟨v5, h5, hS5⟩
    simp only [↓Bt, Bu, simprocAttr, ↓C.z97, C.by_b, hw]
    exact ⟨i + 1, rfl, ⟨hil, v5, h5, hS5⟩, by omega⟩
end
/- The chip: wakes: the chain of domains is made. -/
set_option maxRecDepth 100000

section
variable {st s : ASt} {ib : Nat} {a : HA} {S : Soc} {v v0 : HV} {c cs : List Nat} {d ck dm rn : Nat}
theorem aop_cons_hx {P : Program} {sz b : Nat} {zs : List AV} {parts : List (Nat × Nat × IArg)} {x y : IArg} {fr : AFr} {st1 t : ASt} {F : AV → AFr} {K : AV → AV → ASt → Prop} {tv : AV} {n : Nat} {cl new : List AV}
    (h : HX st1 t ib a S v) (hown : Over st st1 sz tv n cl) (hn : n + 1 ≤ 4294967296) (hnew : aput (zeros zs 1) (parts.map fun p => (p.1, p.2.1, fr.val p.2.2)) = .some new) (hlen : new.length = sz) (hleaf : allLeaf cl = true)
    (hx : ∀ v1, (F v1).val x = v1) (hy : ∀ v1, (F v1).val y = tv)
    (hk : ∀ v1 v2 st2 t2, HX st2 t2 ib a S v → Over st st2 sz v2 (n + 1) (new ++ cl) → K v1 v2 t2) :
    aop P (.buildSlice sz 1 zs parts) fr t (fun v1 st1 => aop P (.append sz b x y) (F v1) st1 (K v1)) := by
  have hs : Shows t sz tv n cl := by
    obtain ⟨h1, h2⟩ := hown.1
    refine ⟨h1, h2.imp (fun x => x) fun ⟨i, e, hi⟩ => ⟨i, e, h.le _ _ hi⟩⟩
  simp only [aop, hnew]
  intro i1 hi1
  have h1 : (t.new i1 (.cells new)).h i1 = .some (.cells new) := ASt.new_self _ hi1
  have hs1 : Shows (t.new i1 (.cells new)) sz tv n cl := ⟨hs.1, hs.2.imp (fun x => x) fun ⟨i, e, hi⟩ => ⟨i, e, ASt.new_old hi⟩⟩
  simp only [hx, hy, hs1.slen, slen_sl, hs1.seen]
  refine ⟨⟨by omega, hleaf⟩, ?_⟩
  by_cases h0 : n = 0
  · rw [if_pos h0]
    subst h0
    have : cl = [] := List.eq_nil_of_length_eq_zero (by simpa using hown.1.1)
    subst this
    obtain ⟨q1, q2, q3⟩ := h.box hi1 (.cells new)
    refine hk _ _ _ _ q1 ⟨⟨by rw [List.append_nil, hlen]; omega, .inr ⟨i1, rfl, by rw [List.append_nil]; exact q2⟩⟩, hown.2.1.trans q3, fun sz i off n e => ?_⟩
    cases e
    exact fresh_of_le (hown.2.1.trans h.le) hi1
  · rw [if_neg h0, h1]
    refine ⟨⟨trivial, by rw [hlen]; omega⟩, ?_⟩
    intro i2 hi2
    rw [ASt.new_none] at hi2
    obtain ⟨q1, q2, q3⟩ := h.box hi2.1 (.cells (new ++ cl))
    rw [show 1 + n = n + 1 from Nat.add_comm _ _, List.drop_zero]
    have hk1 : ((t.new i1 (.cells new)).kill i1).h i2 = none := by rw [ASt.kill_none]; intro _; rw [ASt.new_none]; exact hi2
    refine hk _ _ _ _ (q1.step fun j o hj => ?_) ⟨⟨by rw [List.length_append, hlen, hown.1.1, Nat.add_mul]; omega, .inr ⟨i2, rfl, q2⟩⟩, hown.2.1.trans q3, fun sz i off n e => ?_⟩
    · by_cases e : j = i2
      · subst e; rw [ASt.new_self _ hi2.1] at hj; rw [ASt.new_self _ hk1]; exact hj
      · rw [ASt.new_ne _ e] at hj ⊢
        rw [ASt.kill_h, if_neg (by rintro rfl; rw [hi1] at hj; cases hj)]
        exact ASt.new_old hj
    · cases e
      exact fresh_of_le (hown.2.1.trans h.le) hi2.1
def curD (cs : List Nat) : Nat → Int
  | 0 => -1
  | j + 1 => (((cs[j]?).getD 0 : Nat) : Int)
theorem curD_succ {j : Nat} (h : j < cs.length) : curD cs (j + 1) = (cs[j] : Nat) := by rw [curD, List.getElem?_eq_getElem h]; rfl
theorem curD_next {D : List Dom} {gs : List Gd} (hg : GInv D gs) (hch : ChainOk gs cs dm) {j : Nat} (h : j < cs.length) (hD : cs[j] < D.length) : D[cs[j]].above = curD cs j := by
  have hj := hch.lt j h
  rw [← (hg.same _ hj hD).1]
  cases j with
  | zero => exact hch.top _ hj
  | succ j => rw [hch.link j h hj, curD_succ (by omega)]
theorem curD_last {gs : List Gd} (hch : ChainOk gs cs dm) : curD cs cs.length = (dm : Int) := by
  have hp := hch.pos
  have := hch.last (by omega)
  obtain ⟨j, hj⟩ : ∃ j, cs.length = j + 1 := ⟨cs.length - 1, by omega⟩
  rw [hj, curD_succ (by omega)]
  simp only [hj, Nat.add_sub_cancel] at this
  rw [this]
set_option maxHeartbeats 1000000 in
theorem wake_chain {st1 : ASt} {ix iz : Nat} (hk : S.like) (hd : d < S.devs.length) (hck : S.devs[d].clock = (ck : Int)) (hdm : S.devs[d].dom = (dm : Int)) (hrn : S.devs[d].rst = (rn : Int)) (hl0 : v0.ns.length = S.clocks.length) (hg0 : GInv S.doms v0.gs)
    (hch : ChainOk v0.gs cs dm) (hcl : cs.length ≤ 5) (h : HX st1 s ib a S v) (hle : st.le st1) (hx : st1.h ix = some (.cells S.devs[d].cells)) (hiz : st1.h iz = some (.cells S.cells)) (hs0 : StillA v0.gs) (hS : Part S v0 v [] ck) :
    awp Tryz.prog C.wy (Post [.slot 6] (WakeQ st ib a S v0 cs d)) [(0, .ptr a.hp 0), (2, .int .i64 d), (4, .ptr iz 0), (7, .ptr ix 0)] s := by
  have hxs := h.le _ _ hx
  rw [Dev.cells, hdm] at hxs
  simp only [↓Bt, Bu, simprocAttr, ↓C.z98, C.cv_b, ↓C.z93, C.z25, ↓C.bv5_w, ↓C.bwv_w, ↓C.jt_w, C.jt_b, ↓C.bww_w, ↓C.kd_w, C.kd_b, ↓C.wy_w, hxs]
  refine awp_midB (fun p : ASt × Nat => [(0, .ptr a.hp 0), (2, .int .i64 d), (7, .ptr ix 0), (11, .sl 1 p.2 0 cs.length)]) (fun p t => HX p.1 t ib a S v ∧ st1.le p.1 ∧ p.1.h p.2 = some (.cells (ints (cs.map Int.ofNat)))) ?_ ?_
  rotate_left
  · rintro ⟨st2, ic⟩ t ⟨h2, hl2, hic⟩
    have := wake_doms hk hd hck hdm hrn hl0 hg0 hch hcl h2 (hle.trans hl2) (hl2 _ _ hx) hic hs0 hS
    rw [C.wx_w, awp_keep] at this
    exact this
  refine awp_loopK (fun p : Nat × AV => [(0, .ptr a.hp 0), (2, .int .i64 d), (4, .ptr iz 0), (7, .ptr ix 0), (11, p.2), (12, .int .i64 (curD cs p.1))])
    (fun p t => p.1 ≤ cs.length ∧ ∃ st2, HX st2 t ib a S v ∧ Over st1 st2 1 p.2 (cs.length - p.1) (ints ((cs.drop p.1).map Int.ofNat))) (fun p => p.1) (cs.length, .nils) (by rw [curD_last hch]; rfl) ⟨Nat.le_refl _, st1, h, ?_⟩ ?_
  · simp only [Nat.sub_self, List.drop_length]
    exact Over.nils (ASt.le.refl _) 1
  clear h hxs
  rintro ⟨j, tv⟩ t ⟨hj, st2, h, hO⟩
  simp only at hj hO ⊢
  cases j with
  | zero =>
    have e0 : curD cs 0 = -1 := rfl
    rw [e0]
    simp only [Nat.sub_zero, List.drop_zero] at hO
    have hp := hch.pos
    obtain ⟨ic, rfl, hic⟩ : ∃ ic, tv = .sl 1 ic 0 cs.length ∧ st2.h ic = some (.cells (ints (cs.map Int.ofNat))) := by
      rcases hO.1.2 with ⟨e, _⟩ | e
      · omega
      · exact e
    simp only [↓Bt, Bu, simprocAttr, ↓C.z98, C.cv_b, ↓C.z93, C.z25, ge_iff_le]
    exact ⟨(st2, ic), rfl, h, hO.2.1, hic⟩
  | succ j =>
    have hjl : j < cs.length := by omega
    have hj0 := hch.lt j hjl
    have hD : cs[j] < S.doms.length := by rw [← hg0.len]; exact hj0
    have hnx := curD_next hg0 hch hjl hD
    have hge : (0 : Int) ≤ ((cs[j] : Nat) : Int) := by omega
    have hz2 : (0:Int) ≤ ((cs[j] : Nat) : Int) ∧ ((cs[j] : Nat) : Int) < ((S.doms.length : Nat) : Int) := by omega
    have hgd : (S.doms.flatMap Dom.cells)[cs[j] * 3]? = some (.int .i64 S.doms[cs[j]].above) := rows_get0 Dom.cells Dom.cells_len hD (by omega)
    have hzt := h.le _ _ (hO.2.1 _ _ hiz)
    rw [Soc.cells, Soc.clkV, Soc.domV, Soc.rstV, Soc.devV] at hzt
    rw [curD_succ hjl]
    simp only [↓Bp, Bq, Bs, simprocAttr, ↓C.z93, C.z25, ge_iff_le, hge]
    refine aop_cons_hx h hO (by omega) (new := [.int .i64 (cs[j] : Nat)]) rfl rfl (ints_leaf _) (fun _ => rfl) (fun _ => rfl) fun v1 v2 st3 t3 h3 hO3 => ?_
    have hzt3 := h3.le _ _ (hO3.2.1 _ _ hiz)
    rw [Soc.cells, Soc.clkV, Soc.domV, Soc.rstV, Soc.devV] at hzt3
    simp only [↓Bt, Bu, simprocAttr, ↓C.z98, C.cv_b, ↓C.z93, C.z25, hzt3, hz2, Int.toNat_natCast, hgd, Nat.add_zero, hnx]
    have e1 : cs.length - (j + 1) + 1 = cs.length - j := by omega
    have e2 : cs.drop j = cs[j] :: cs.drop (j + 1) := List.drop_eq_getElem_cons hjl
    rw [e1] at hO3
    refine ⟨(j, v2), rfl, ⟨by simp only; omega, st3, h3, ?_⟩, by simp only; omega⟩
    simp only [e2]; exact hO3
end
/- The chip: wakes: the clocks; what wakes does. -/
set_option maxRecDepth 100000

section
variable {st s : ASt} {ib : Nat} {a : HA} {S : Soc} {v v0 : HV} {c cs : List Nat} {d ck dm rn : Nat}
structure LitI (S : Soc) (v0 : HV) (ns : List Nd) (c : List Nat) : Prop where
  lit : LitOf v0.ns ns c
  ni : NI ns
  run : ∀ x, x < v0.ns.length → run v0.ns x = true → run ns x = true
theorem LitI.part {ns : List Nd} (h : LitI S v0 ns (chainN v0.ns ck)) (hG : HGood S v0) (hs : StillA v0.gs) (h0 : NsOk v0.ns) (h1 : NsOk ns) (hck : ck < v0.ns.length) : Part S v0 { v0 with ns := ns } [] ck := by
  have hl : ck < ns.length := by rw [h.lit.len]; exact hck
  refine ⟨⟨hG.none, hG.calm, h.ni⟩, ⟨h.run, fun _ h => h⟩, rfl, fun x => by rw [if_neg List.not_mem_nil], hs, (wkF_nil S v0).symm, ?_⟩
  refine NI.lks h1 h.ni ck hl fun y hy hyl hk => h.lit.on hyl ?_ hk
  rw [← h.lit.chain h0 h1 hck]; exact hy
theorem onL_no {ns : List Nd} {k : Nat} (hk : k < ns.length) (b : Bool) (h : ¬ onE ns[k] = 0) : onL ns k hk b = ns := by unfold onL; rw [if_neg h]
theorem LitI.more {ns : List Nd} {k : Nat} (h : LitI S v0 ns c) (h1 : NsOk ns) (hk : k < ns.length) : LitI S v0 (onL ns k hk true) (c ++ [k]) :=
  ⟨h.lit.more hk, h.ni.on h1 hk, fun x hx hr => run_on h1 hk x (by rw [h.lit.len]; exact hx) (h.run x hx hr)⟩
set_option maxHeartbeats 1000000 in
theorem wake_gates {st1 : ASt} {ix iz : Nat} (hk : S.like) (hd : d < S.devs.length) (hck : S.devs[d].clock = (ck : Int)) (hdm : S.devs[d].dom = (dm : Int)) (hrn : S.devs[d].rst = (rn : Int))
    (hch : ChainOk v0.gs cs dm) (hcl : cs.length ≤ 5) (h : HX st1 s ib a S v0) (hle : st.le st1) (hx : st1.h ix = some (.cells S.devs[d].cells)) (hiz : st1.h iz = some (.cells S.cells)) (hG : HGood S v0) (hs0 : StillA v0.gs) :
    awp Tryz.prog C.p2 (Post [.slot 6] (WakeQ st ib a S v0 cs d)) [(0, .ptr a.hp 0), (2, .int .i64 d), (4, .ptr iz 0), (7, .ptr ix 0)] s := by
  have hxs := h.le _ _ hx
  rw [Dev.cells, hck] at hxs
  obtain ⟨T, h0⟩ := h
  have hN := h0.c.kof.ok
  have hl0 : v0.ns.length = S.clocks.length := h0.c.kof.len
  have hg0 := h0.c.ginv
  have hckl : ck < v0.ns.length := by rw [hl0]; have := (hk.dev d hd).clock; omega
  have hcln := chainN_len hN ck hckl
  have hclt := chainN_lt hN ck hckl
  have hn9 := hk.nc
  simp only [↓Bt, Bu, simprocAttr, ↓C.cw_w, C.cw_b, ↓C.p2_w, hxs]
  refine (hchain h0 hckl).mono ?_
  rintro r t ⟨rfl, rfl⟩
  simp only [↓Bt, Bu, simprocAttr, ↓C.z99, C.bp_b, ↓C.z100, C.z30, ↓C.z95, C.cz_b, C.cq_b, ↓C.bv7_w, ↓C.bw4_w, ↓C.j9_w, C.j9_b, ↓C.bw5_w, ↓C.cw_w, C.cw_b, ↓C.p2_w]
  refine awp_midB (fun _ : Unit => [(0, .ptr a.hp 0), (2, .int .i64 d), (4, .ptr iz 0), (7, .ptr ix 0)]) (fun _ t => ∃ v, HX st1 t ib a S v ∧ Part S v0 v [] ck) ?_ ?_
  rotate_left
  · rintro - t2 ⟨v, h2, hS⟩
    have := wake_chain hk hd hck hdm hrn hl0 hg0 hch hcl h2 hle hx hiz hs0 hS
    rw [C.wy_w, awp_keep] at this
    exact this
  obtain ⟨c, hc⟩ : ∃ c, c = chainN v0.ns ck := ⟨_, rfl⟩
  rw [← hc] at hcln hclt ⊢
  have hrw : row (nats c) = .isl 1 (ints (nats c)) c.length := by rw [row, nats_length]
  rw [hrw]
  refine awp_loopK (fun i : Nat => [(0, .ptr a.hp 0), (2, .int .i64 d), (4, .ptr iz 0), (7, .ptr ix 0), (8, .isl 1 (ints (nats c)) c.length), (9, .int .i64 i)]) (fun i t => i ≤ c.length ∧ ∃ ns, HX st1 t ib a S { v0 with ns := ns } ∧ LitI S v0 ns (c.take i)) (fun i => c.length - i) 0 rfl ⟨Nat.zero_le _, v0.ns, ⟨T, h0⟩, ⟨LitOf.start _, hG.ni, fun _ _ h => h⟩⟩ ?_
  clear h0 hxs
  rintro i t2 ⟨hi, ns, h, hL⟩
  obtain ⟨T, h0⟩ := h
  have hN1 := h0.c.kof.ok
  by_cases hil : i < c.length
  rotate_left
  · have hie : i = c.length := by omega
    have hil' : ¬ (i : Int) < ((c.length : Nat) : Int) := by omega
    rw [hie, List.take_length, hc] at hL
    simp only [↓Bt, Bu, simprocAttr, ↓C.z99, C.bp_b, ↓C.z100, C.z30, ↓C.z95, C.cz_b, C.cq_b, hil']
    exact ⟨(), _, ⟨T, h0⟩, hL.part hG hs0 hN hN1 hckl⟩
  have hil' : (i : Int) < ((c.length : Nat) : Int) := by omega
  have hw := wsucc hil (by omega)
  have hz : (0:Int) ≤ (i : Int) ∧ (i : Int) < ((c.length : Nat) : Int) := by omega
  have hg : (ints (nats c))[i]? = some (.int .i64 (c[i] : Nat)) := by rw [ints_get (by rw [nats_length]; exact hil)]; simp [nats]
  have hkl : c[i] < ns.length := by rw [hL.lit.len]; exact hclt _ (List.getElem_mem hil)
  have hkC : c[i] < S.clocks.length := by rw [← h0.c.kof.len]; exact hkl
  have hzc : (0:Int) ≤ ((c[i] : Nat) : Int) ∧ ((c[i] : Nat) : Int) < ((S.clocks.length : Nat) : Int) := by omega
  have hkind : (S.clocks.flatMap Clk.cells)[c[i] * 6]? = some (.int .u8 S.clocks[c[i]].kind) := rows_get0 Clk.cells Clk.cells_len hkC (by omega)
  have hzt : t2.h iz = some (.cells S.cells) := h0.c.le _ _ hiz
  rw [Soc.cells, Soc.clkV, Soc.domV, Soc.rstV, Soc.devV] at hzt
  have hcc : ns[c[i]].c = S.clocks[c[i]] := h0.c.kof.same _ hkl hkC
  have hoE : onE ns[c[i]] = if S.clocks[c[i]].kind = 112 ∨ S.clocks[c[i]].kind = 103 then 0 else 1 := by rw [onE, hcc]
  have htk : c.take (i + 1) = c.take i ++ [c[i]] := List.take_succ_eq_append_getElem hil
  have hmore := hL.more hN1 hkl
  rw [← htk] at hmore
  simp only [↓Bt, Bu, simprocAttr, ↓C.z99, C.bp_b, ↓C.z95, C.cz_b, C.cq_b, hil', hz, Int.toNat_natCast, Nat.mul_one, Nat.add_zero, hg, hzt, hzc, hkind]
  by_cases k1 : S.clocks[c[i]].kind = 112
  · rw [if_pos (.inl k1)] at hoE
    simp only [↓Bt, Bu, simprocAttr, ↓C.z100, C.z30, k1, hz, Int.toNat_natCast, Nat.mul_one, hg]
    refine (hgate_at h0 hkl true).mono ?_
    rintro r t3 ⟨rfl, h3⟩
    rw [hoE]
    simp only [↓Bt, Bu, simprocAttr, ↓C.z100, C.z30]
    simp only [↓Bt, Bu, simprocAttr, ↓C.z99, C.bp_b, hw]
    exact ⟨i + 1, rfl, ⟨hil, _, ⟨T, h3⟩, hmore⟩, by omega⟩
  by_cases k2 : S.clocks[c[i]].kind = 103
  · rw [if_pos (.inr k2)] at hoE
    simp only [↓Bt, Bu, simprocAttr, ↓C.z100, C.z30, k2, hz, Int.toNat_natCast, Nat.mul_one, hg]
    refine (hgate_at h0 hkl true).mono ?_
    rintro r t3 ⟨rfl, h3⟩
    rw [hoE]
    simp only [↓Bt, Bu, simprocAttr, ↓C.z100, C.z30]
    simp only [↓Bt, Bu, simprocAttr, ↓C.z99, C.bp_b, hw]
    exact ⟨i + 1, rfl, ⟨hil, _, ⟨T, h3⟩, hmore⟩, by omega⟩
  rw [if_neg (by omega)] at hoE
  rw [onL_no hkl true (by rw [hoE]; decide)] at hmore
  simp only [↓Bt, Bu, simprocAttr, ↓C.z100, C.z30, k1, k2]
  simp only [↓Bt, Bu, simprocAttr, ↓C.z99, C.bp_b, hw]
  exact ⟨i + 1, rfl, ⟨hil, _, ⟨T, h0⟩, hmore⟩, by omega⟩
theorem wakes_spec (hk : S.like) (hd : d < S.devs.length) (h : HX st s ib a S v0) (hG : HGood S v0) (hs0 : StillA v0.gs) :
    ∃ cs : List Nat, ChainOk v0.gs cs S.devs[d].dom.toNat ∧ ACalls Tryz.prog F.q16 [.ptr a.hp 0, .agg S.cells, .int .i64 d] s fun r s' => WakeQ st ib a S v0 cs d r s' := by
  have hdv := hk.dev d hd
  obtain ⟨ck, hck⟩ : ∃ ck : Nat, S.devs[d].clock = (ck : Int) := ⟨S.devs[d].clock.toNat, by have := hdv.clock; omega⟩
  obtain ⟨dm, hdm⟩ : ∃ dm : Nat, S.devs[d].dom = (dm : Int) := ⟨S.devs[d].dom.toNat, by have := hdv.dom; omega⟩
  obtain ⟨rn, hrn⟩ : ∃ rn : Nat, S.devs[d].rst = (rn : Int) := ⟨S.devs[d].rst.toNat, by have := hdv.rst; omega⟩
  have hgi : GInv S.doms v0.gs := h.elim fun _ h => h.c.ginv
  have hdl : dm < v0.gs.length := by rw [hgi.len]; have := hdv.dom; omega
  obtain ⟨cs, _, hch, hcl⟩ := chain_at hgi.lesser hdl
  have hgl := hgi.len
  have hn4 := hk.nd
  rw [hdm, Int.toNat_natCast]
  refine ⟨cs, hch, calls_of_awp L.q16 rfl ?_⟩
  have hDl : S.devs[d].cells.length = 6 := rfl
  have hDf : allLeaf S.devs[d].cells = true := rfl
  have hSl : S.cells.length = 4 := rfl
  have hSf : allLeaf S.cells = true := rfl
  have hfitd := flatMap_fits (f := Dev.cells) (k := 6) Dev.cells_len (l := S.devs) hd
  have hatd := flatMap_at (f := Dev.cells) (k := 6) Dev.cells_len (l := S.devs) hd
  have hzd : (0:Int) ≤ (d : Int) ∧ (d : Int) < ((S.devs.length : Nat) : Int) := by omega
  simp only [↓Bt, Bu, simprocAttr, ↓C.js_w, C.js_b, C.q16, hSl, hSf]
  intro iz hiz
  obtain ⟨h1, hzz, hle1⟩ := h.box hiz (.cells S.cells)
  generalize s.new iz (.cells S.cells) = t1 at h1
  generalize st.new iz (.cells S.cells) = st1 at h1 hzz hle1
  have hzt := h1.le _ _ hzz
  rw [Soc.cells, Soc.clkV, Soc.domV, Soc.rstV, Soc.devV] at hzt
  simp only [↓Bt, Bu, simprocAttr, ↓C.ct_w, C.ct_b, ↓C.bm5_w, hzt, hzd, Int.toNat_natCast, hfitd, hatd]
  intro ix hix
  simp only [↓Bt, Bu, simprocAttr, ↓C.ct_w, C.ct_b, ↓C.bm5_w, hix, hDl, hDf]
  rw [ASt.new_set hix, putN_all (zs := [AV.int .i64 0, AV.int .i64 0, AV.int .i64 0, AV.int .u32 0, AV.nils, AV.nils]) (vs := S.devs[d].cells) rfl]
  obtain ⟨h2, hxx, hle2⟩ := h1.box hix (.cells S.devs[d].cells)
  exact awp_frame C.p2.eq_1 (wake_gates hk hd hck hdm hrn hch (by omega) h2 (hle1.trans hle2) hxx (hle2 _ _ hzz) hG hs0) rfl
end
/- The chip: a new bus. -/
set_option maxRecDepth 100000

def firstZ (l : List Int) (i : Nat) : List Int := l.take i ++ List.replicate (l.length - i) 0
theorem firstZ_len {l : List Int} {i : Nat} (h : i ≤ l.length) : (firstZ l i).length = l.length := by simp [firstZ]; omega
theorem firstZ_zero (l : List Int) : firstZ l 0 = List.replicate l.length 0 := by simp [firstZ]
theorem firstZ_all (l : List Int) : firstZ l l.length = l := by simp [firstZ]
theorem firstZ_set {l : List Int} {i : Nat} (h : i < l.length) : (firstZ l i).set i l[i] = firstZ l (i + 1) := by
  unfold firstZ
  rw [List.set_append_right _ _ (by simp; omega)]
  have e : i - (l.take i).length = 0 := by simp; omega
  rw [e, List.take_succ_eq_append_getElem h, show l.length - i = (l.length - (i + 1)) + 1 by omega, List.replicate_succ, List.set_cons_zero, List.append_assoc]
  rfl
structure NewBus (st s : ASt) (l : List Int) (bp br bw : Nat) : Prop where
  hp : s.h bp = some (.cells [.sl 1 br 0 l.length, .sl 1 bw 0 l.length, .int .i64 0])
  hr : s.h br = some (.cells (ints l))
  hw : s.h bw = some (.cells (List.replicate l.length .nils))
  fp : st.h bp = none
  fr : st.h br = none
  fw : st.h bw = none
  n1 : bp ≠ br
  n2 : bp ≠ bw
  n3 : br ≠ bw
  le : st.le s
theorem bnew_spec {st : ASt} {mm : Nat} {l : List Int} (hm : st.h mm = some (.cells (ints l))) (hn : l.length ≤ 6) (hl : ∀ x ∈ l, 0 ≤ x ∧ x ≤ 8) :
    ACalls Tryz.prog F.q9 [.sl 1 mm 0 l.length] st fun r s => ∃ bp br bw, r = .tup [.ptr bp 0, .int .i64 0] ∧ NewBus st s l bp br bw := by
  refine calls_of_awp L.q9 rfl ?_
  have h6 : ¬ (6 : Int) < ((l.length : Nat) : Int) := by omega
  have hz : (0 : Int) ≤ ((l.length : Nat) : Int) ∧ ((l.length : Nat) : Int) ≤ 4294967296 := by omega
  simp only [↓Bt, Bu, simprocAttr, ↓C.z133, C.d8_b, C.d7_b, C.d6_b, C.d5_b, C.q9, h6, hz, Int.toNat_natCast, zeros_i64, zeros_nils, gt_iff_lt]
  rintro br hbr bw ⟨hbw, n3⟩ bp ⟨⟨hbp, n2⟩, n1⟩
  have m1 : ¬ mm = br := by rintro rfl; rw [hm] at hbr; cases hbr
  have h2' : (st.new br (.cells (ints (List.replicate l.length 0)))).h bw = none := by rw [ASt.new_none]; exact ⟨hbw, n3⟩
  have h3' : ((st.new br (.cells (ints (List.replicate l.length 0)))).new bw (.cells (List.replicate l.length .nils))).h bp = none := by rw [ASt.new_none, ASt.new_none]; exact ⟨⟨hbp, n2⟩, n1⟩
  have hle := ((ASt.le.new st br (.cells (ints (List.replicate l.length 0)))).trans (ASt.le.new _ bw (.cells (List.replicate l.length .nils)))).trans (ASt.le.new _ bp (.cells [.sl 1 br 0 l.length, .sl 1 bw 0 l.length, .int .i64 0]))
  have hp0 := ASt.new_self (.cells [.sl 1 br 0 l.length, .sl 1 bw 0 l.length, .int .i64 0]) h3'
  have hw0 := ASt.new_old (id := bp) (o := .cells [.sl 1 br 0 l.length, .sl 1 bw 0 l.length, .int .i64 0]) (ASt.new_self (.cells (List.replicate l.length .nils)) h2')
  have hr0 := ASt.new_old (id := bp) (o := .cells [.sl 1 br 0 l.length, .sl 1 bw 0 l.length, .int .i64 0]) (ASt.new_old (id := bw) (o := .cells (List.replicate l.length .nils)) (ASt.new_self (.cells (ints (List.replicate l.length 0))) hbr))
  have hm0 := hle _ _ hm
  generalize ((st.new br (.cells (ints (List.replicate l.length 0)))).new bw (.cells (List.replicate l.length .nils))).new bp (.cells [.sl 1 br 0 l.length, .sl 1 bw 0 l.length, .int .i64 0]) = s0 at hle hp0 hw0 hr0 hm0
  simp only [↓Bt, Bu, simprocAttr, ↓C.pv_w, C.pv_b, ↓C.b2x_w, ↓C.p0_w, C.p0_b, ↓C.b2y_w, ↓C.pz_w, C.pz_b, ↓C.b2q_w, ↓C.b2z_w, ↓C.pq_w, C.pq_b, ↓C.b20_w, ↓C.py_w, C.py_b, ↓C.b2n_w, ↓C.b21_w, ↓C.b22_w, ↓C.px_w, C.px_b, ↓C.b2m_w, ↓C.b2p_w, ↓C.pw_w, C.pw_b, ↓C.b2r_w, ↓C.z133, C.d8_b, C.d7_b, C.d6_b, C.d5_b, C.q9]
  have q1 : ¬ bp = br := n2
  have q2 : ¬ bw = br := n3
  refine awp_midB (fun _ : Unit => [(4, .ptr bp 0)]) (fun _ t => NewBus st t l bp br bw) ?_ ?_
  rotate_left
  · rintro - t ht
    simp only [↓Bt, Bu, simprocAttr, ↓C.q9_W, C.q9_B, C.q9]
    exact ⟨bp, br, bw, rfl, ht⟩
  refine awp_loopK (fun i : Nat => [(4, .ptr bp 0), (18, .sl 1 mm 0 l.length), (19, .int .i64 l.length), (20, .int .i64 i)]) (fun i t => i ≤ l.length ∧ st.le t ∧ t.h mm = some (.cells (ints l)) ∧ t.h bp = some (.cells [.sl 1 br 0 l.length, .sl 1 bw 0 l.length, .int .i64 0]) ∧ t.h br = some (.cells (ints (firstZ l i))) ∧ t.h bw = some (.cells (List.replicate l.length .nils))) (fun i => l.length - i) 0 rfl ⟨Nat.zero_le _, hle, hm0, hp0, by rw [firstZ_zero]; exact hr0, hw0⟩ ?_
  clear hle hm0 hp0 hr0 hw0
  rintro i t ⟨hi, hle, hm0, hp0, hr0, hw0⟩
  by_cases hil : i < l.length
  rotate_left
  · have hie : i = l.length := by omega
    have hil' : ¬ (i : Int) < ((l.length : Nat) : Int) := by omega
    rw [hie, firstZ_all] at hr0
    simp only [↓Bt, Bu, simprocAttr, ↓C.q9_W, C.q9_B, C.q9, hil']
    exact ⟨(), hp0, hr0, hw0, hbp, hbr, hbw, q1, n1, Ne.symm q2, hle⟩
  have hil' : (i : Int) < ((l.length : Nat) : Int) := by omega
  have hw := wsucc hil (by omega)
  have hzi : (0:Int) ≤ (i : Int) ∧ (i : Int) < ((l.length : Nat) : Int) := by omega
  have hlb := hl _ (List.getElem_mem hil)
  have h0 : ¬ l[i] < 0 := by omega
  have h8 : ¬ 8 < l[i] := by omega
  have hg := ints_get hil
  have hfl : i < (ints (firstZ l i)).length := by rw [ints_length, firstZ_len hi]; exact hil
  simp only [↓Bt, Bu, simprocAttr, ↓C.q9_W, C.q9_B, C.q9, hil', hzi, Int.toNat_natCast, Nat.mul_one, hm0, hg, h0, h8, hp0, hr0, hfl, ints_set, firstZ_set hil, hw, gt_iff_lt]
  refine ⟨i + 1, rfl, ⟨hil, fun j o hj => ?_, ?_, ?_, ?_, ?_⟩, by omega⟩
  · rw [ASt.set_h, if_neg (by rintro rfl; rw [hbr] at hj; cases hj)]; exact hle _ _ hj
  · rw [if_neg m1]
  · rw [if_neg q1]
  · trivial
  · rw [if_neg q2]; exact hw0
/- The chip: how it is put together. -/
set_option maxRecDepth 100000

structure Rides (R : ASt → ASt → Prop) : Prop where
  le : ∀ {st s}, R st s → st.le s
  kill : ∀ {st s i}, R st s → st.h i ≠ none → R (st.kill i) (s.kill i)
  loc : ∀ {st s i}, R st s → s.h i = none → ∀ o, R (st.new i o) (s.new i o)
  step : ∀ {st s s'}, R st s → s.le s' → R st s'
theorem aop_append_rides {R : ASt → ASt → Prop} (hR : Rides R) {P : Program} {sz b : Nat} {zs : List AV} {parts : List (Nat × Nat × IArg)} {x y : IArg} {fr : AFr} {st st1 t : ASt} {F : AV → AFr} {K : AV → AV → ASt → Prop} {tv : AV} {n : Nat} {cs new : List AV}
    (h : R st1 t) (hown : Over st st1 sz tv n cs) (hn : n + 1 ≤ 4294967296) (hnew : aput (zeros zs 1) (parts.map fun p => (p.1, p.2.1, fr.val p.2.2)) = .some new) (hlen : new.length = sz) (hleaf : allLeaf new = true)
    (hx : ∀ v1, (F v1).val x = tv) (hy : ∀ v1, (F v1).val y = v1)
    (hk : ∀ v1 v2 st2 t2, R st2 t2 → Over st st2 sz v2 (n + 1) (cs ++ new) → (∀ j o, st1.h j = some o → (∀ sz i off n, tv = .sl sz i off n → j ≠ i) → st2.h j = some o) → K v1 v2 t2) :
    aop P (.buildSlice sz 1 zs parts) fr t (fun v1 st1 => aop P (.append sz b x y) (F v1) st1 (K v1)) := by
  have hs : Shows t sz tv n cs := by
    obtain ⟨h1, h2⟩ := hown.1
    refine ⟨h1, h2.imp (fun x => x) fun ⟨i, e, hi⟩ => ⟨i, e, hR.le h _ _ hi⟩⟩
  refine aop_append_one hs hn hnew hlen hleaf hx hy fun v1 i2 t2 h1 h2 h3 => ?_
  have hkill : R (st1.without tv) (t.without tv) := by
    rcases hown.1.2 with ⟨_, rfl⟩ | ⟨i, rfl, hi⟩
    · exact h
    · exact hR.kill h (by rw [hi]; simp)
  have hle := hown.2.1.without hown.2.2
  have hf : (st1.without tv).h i2 = none := fresh_of_le (hR.le hkill) h1
  have hfs : st.h i2 = none := fresh_of_le hle hf
  obtain ⟨q1, q2⟩ := h3
  rcases q2 with ⟨q2, _⟩ | ⟨i, q2, q3⟩
  · omega
  cases q2
  refine hk v1 _ ((st1.without tv).new i2 (.cells (cs ++ new))) t2 (hR.step (hR.loc hkill h1 (.cells (cs ++ new))) fun j o hj => ?_) ⟨⟨q1, .inr ⟨i2, rfl, ASt.new_self _ hf⟩⟩, hle.trans (ASt.le.new _ _ _), fun sz i off n e => ?_⟩ fun j o hj hn => ASt.new_old ?_
  · by_cases e : j = i2
    · subst e; rw [ASt.new_self _ h1] at hj; rw [q3]; exact hj
    · rw [ASt.new_ne _ e] at hj; exact h2 _ _ hj
  · cases e; exact hfs
  · rcases hown.1.2 with ⟨_, rfl⟩ | ⟨i, rfl, hi⟩
    · exact hj
    · show (st1.kill i).h j = _
      rw [ASt.kill_h, if_neg (hn _ _ _ _ rfl)]; exact hj
section
variable {st st1 s s' : ASt} {ib m : Nat} {a : HA} {T : Nat → Nat} {S : Soc} {v : HV}
theorem HC.base0 (h : HC st s ib a T S v m) (hk : Keeps T 0 s s') (hl : st1.le s') (h0 : ∀ j, st1.h j ≠ none → T j = 0) : HC st1 s' ib a T S v m where
  le := hl
  tag0 := h0
  hb := hk.at_ h.hb h.Tb (by omega)
  Tb := h.Tb
  tree := h.tree.kept h.Tt hk (by omega)
  Tt := h.Tt
  grid := h.grid.kept h.Tg hk (by omega)
  Tg := h.Tg
  lines := h.lines.kept h.Tl hk (by omega)
  Tl := h.Tl
  files := fun i hi hm => ⟨(h.files i hi hm).1.kept (h.files i hi hm).2 hk (by omega), (h.files i hi hm).2⟩
  ports := fun i hm => ⟨hk.at_ (h.ports i hm).1 (h.ports i hm).2.1 (by omega), (h.ports i hm).2⟩
  kof := h.kof
  ginv := h.ginv
  linv := h.linv
theorem HC.step (h : HC st s ib a T S v m) (hl : s.le s') : HC st s' ib a T S v m := h.keep (k := 1) (Keeps.of_le hl) (.inl rfl)
theorem HC.move (h : HC st s ib a T S v m) {T' : Nat → Nat} (hT : ∀ j, s.h j ≠ none → T j ≠ 0 → T' j = T j) (hl : st1.le s) (h0 : ∀ j, st1.h j ≠ none → T' j = 0) : HC st1 s ib a T' S v m where
  le := hl
  tag0 := h0
  hb := h.hb
  Tb := by rw [hT ib (by rw [h.hb]; simp) (by rw [h.Tb]; omega)]; exact h.Tb
  tree := h.tree
  Tt := ⟨by rw [hT a.tp (by rw [h.tree.hp]; simp) (by rw [h.Tt.1]; omega)]; exact h.Tt.1, by rw [hT a.tg (by rw [h.tree.hg]; simp) (by rw [h.Tt.2]; omega)]; exact h.Tt.2⟩
  grid := h.grid
  Tg := ⟨by rw [hT a.gp (by rw [h.grid.hp]; simp) (by rw [h.Tg.1]; omega)]; exact h.Tg.1, by rw [hT a.gg (by rw [h.grid.hg]; simp) (by rw [h.Tg.2]; omega)]; exact h.Tg.2⟩
  lines := h.lines
  Tl := ⟨by rw [hT a.lp (by rw [h.lines.hp]; simp) (by rw [h.Tl.1]; omega)]; exact h.Tl.1, by rw [hT a.lm (by rw [h.lines.hm]; simp) (by rw [h.Tl.2]; omega)]; exact h.Tl.2⟩
  files := fun i hi hm => by
    obtain ⟨hf, t1, t2, t3⟩ := h.files i hi hm
    obtain ⟨⟨mm, h1, h2⟩, h3, h4, _⟩ := hf
    exact ⟨(h.files i hi hm).1, by rw [hT _ (by rw [h2]; simp) (by omega)]; exact t1, by rw [hT _ (by rw [h3]; simp) (by omega)]; exact t2, by rw [hT _ (by rw [h4]; simp) (by omega)]; exact t3⟩
  ports := fun i hm => ⟨(h.ports i hm).1, by rw [hT _ (by rw [(h.ports i hm).1]; simp) (by rw [(h.ports i hm).2.1]; omega)]; exact (h.ports i hm).2.1, (h.ports i hm).2.2⟩
  kof := h.kof
  ginv := h.ginv
  linv := h.linv
def HCX (ib : Nat) (a : HA) (S : Soc) (v : HV) (m : Nat) (st s : ASt) : Prop := ∃ T, HC st s ib a T S v m
theorem HCX.rides : Rides (HCX ib a S v m) where
  le := fun h => h.elim fun _ h => h.le
  kill := fun {st s i} h hi => by
    obtain ⟨T, h⟩ := h
    have h0 := h.tag0 i hi
    have hle : (st.kill i).le (s.kill i) := fun j x hj => by
      rw [ASt.kill_h] at hj ⊢
      split
      · rename_i e; rw [if_pos e] at hj; cases hj
      · rename_i e; rw [if_neg e] at hj; exact h.le _ _ hj
    exact ⟨T, h.base0 (fun j o hj hn => by rw [ASt.kill_h, if_neg (by rintro rfl; exact hn h0)]; exact hj) hle fun j hj => h.tag0 j (ASt.kill_live hj).2⟩
  loc := fun {st s i} h hi o => by
    obtain ⟨T, h⟩ := h
    have hle := h.le
    refine ⟨fun j => if j = i then 0 else T j, ((h.retag (fun j hj => ?_)).step (ASt.le.new s i o)).base0 (Keeps.refl _ _ _) (hle.newB hi o) fun j hj => ?_⟩
    · show (if j = i then 0 else T j) = T j
      rw [if_neg (by rintro rfl; exact hj hi)]
    · by_cases e : j = i
      · simp [e]
      · simp only [if_neg e]
        rw [ASt.new_ne _ e] at hj
        exact h.tag0 j hj
  step := fun h hl => h.imp fun _ h => h.step hl
theorem HCX.locSet (h : HCX ib a S v m st s) {ix : Nat} (hi : st.h ix ≠ none) (o : AObj) : HCX ib a S v m (st.set ix o) (s.set ix o) := by
  obtain ⟨T, h⟩ := h
  have h0 := h.tag0 ix hi
  refine ⟨T, h.base0 (Keeps.set h0) (h.le.setB ix o) fun j hj => h.tag0 j ?_⟩
  rw [ASt.set_h] at hj
  split at hj
  · rename_i e; subst e; exact hi
  · exact hj
structure HCF (ib : Nat) (a : HA) (S : Soc) (v : HV) (i id idn ids : Nat) (st s : ASt) : Prop where
  ex : ∃ T, HC st s ib a T S v i ∧ (∃ h : i < S.devs.length, FileF s id idn ids S.devs[i].regs (v.F i).now (v.F i).saved (v.F i).kept) ∧ T id = 10 + 3 * i ∧ T idn = 10 + 3 * i ∧ T ids = 10 + 3 * i
theorem HCX.file {i id idn ids : Nat} (h : HCX ib a S v i st s) (hl : s.le s') (hi : i < S.devs.length) (hf : FileF s' id idn ids S.devs[i].regs (v.F i).now (v.F i).saved (v.F i).kept) (f1 : s.h id = none) (f2 : s.h idn = none) (f3 : s.h ids = none) :
    HCF ib a S v i id idn ids st s' := by
  obtain ⟨T, h⟩ := h
  have hT : ∀ j, s.h j ≠ none → (fun j => if j = id ∨ j = idn ∨ j = ids then 10 + 3 * i else T j) j = T j := fun j hj => by
    simp only
    rw [if_neg]
    rintro (rfl | rfl | rfl)
    · exact hj f1
    · exact hj f2
    · exact hj f3
  exact ⟨_, (h.retag hT).step hl, ⟨hi, hf⟩, if_pos (.inl rfl), if_pos (.inr (.inl rfl)), if_pos (.inr (.inr rfl))⟩
theorem HCF.locSet {i id idn ids : Nat} (h : HCF ib a S v i id idn ids st s) {ix : Nat} (hi : st.h ix ≠ none) (o : AObj) : HCF ib a S v i id idn ids (st.set ix o) (s.set ix o) := by
  obtain ⟨T, h, ⟨hil, hf⟩, t⟩ := h
  have h0 := h.tag0 ix hi
  refine ⟨T, h.base0 (Keeps.set h0) (h.le.setB ix o) fun j hj => h.tag0 j ?_, ⟨hil, hf.kept t (Keeps.set h0) (by omega)⟩, t⟩
  rw [ASt.set_h] at hj
  split at hj
  · rename_i e; subst e; exact hi
  · exact hj
theorem HCF.le {i id idn ids : Nat} (h : HCF ib a S v i id idn ids st s) : st.le s := by
  obtain ⟨T, h, _⟩ := h; exact h.le
theorem HCF.fileAt {i id idn ids : Nat} (h : HCF ib a S v i id idn ids st s) : ∃ h : i < S.devs.length, FileF s id idn ids S.devs[i].regs (v.F i).now (v.F i).saved (v.F i).kept := by
  obtain ⟨T, h, hf, _⟩ := h; exact hf
theorem HCF.port {i id idn ids p : Nat} (h : HCF ib a S v i id idn ids st s) (hp : s.h p = none) (ho : v.O i = (0, 0)) :
    HCX ib { a with fp := upF a.fp i id, fn := upF a.fn i idn, fs := upF a.fs i ids, pp := upF a.pp i p } S v (i + 1) st (s.new p (.cells [.int .i64 0, .int .i64 0])) := by
  obtain ⟨T, h, ⟨hil, hf⟩, t1, t2, t3⟩ := h
  have hT : ∀ j, s.h j ≠ none → (fun j => if j = p then 11 + 3 * i else T j) j = T j := fun j hj => by
    simp only
    rw [if_neg (by rintro rfl; exact hj hp)]
  have hle := ASt.le.new s p (.cells [.int .i64 0, .int .i64 0])
  have h2 := (h.retag hT).step hle
  have hf2 := hf.le hle
  obtain ⟨⟨mm, f1, f2⟩, f3, f4, _⟩ := hf
  have k1 := hT id (by rw [f2]; simp)
  have k2 := hT idn (by rw [f3]; simp)
  have k3 := hT ids (by rw [f4]; simp)
  refine ⟨fun j => if j = p then 11 + 3 * i else T j, { le := h2.le, tag0 := h2.tag0, hb := h2.hb, Tb := h2.Tb, tree := h2.tree, Tt := h2.Tt, grid := h2.grid, Tg := h2.Tg, lines := h2.lines, Tl := h2.Tl, files := fun j hj hm => ?_, ports := fun j hm => ?_, kof := h2.kof, ginv := h2.ginv, linv := h2.linv }⟩
  · by_cases e : j = i
    · subst e
      show FileF _ (upF a.fp j id j) (upF a.fn j idn j) (upF a.fs j ids j) _ _ _ _ ∧ _
      simp only [upF_at]
      exact ⟨hf2, k1.trans t1, k2.trans t2, k3.trans t3⟩
    · show FileF _ (upF a.fp i id j) (upF a.fn i idn j) (upF a.fs i ids j) _ _ _ _ ∧ _
      simp only [upF_ne e]
      exact h2.files j hj (by omega)
  · by_cases e : j = i
    · subst e
      show ASt.h _ (upF a.pp j p j) = _ ∧ _
      simp only [upF_at, ho]
      exact ⟨ASt.new_self _ hp, by simp, by omega, by omega⟩
    · show ASt.h _ (upF a.pp i p j) = _ ∧ _
      simp only [upF_ne e]
      exact h2.ports j (by omega)
def HV.fresh (S : Soc) : HV := ⟨cfresh S.clocks, gfresh S.doms, freshL S.rsts, fun i => ⟨match S.devs[i]? with | some d => resets d.regs | .none => fun _ => 0, fun _ => 0, false⟩, fun _ => (0, 0), fun _ => [], 0⟩
theorem fresh_F {i : Nat} (h : i < S.devs.length) : (HV.fresh S).F i = ⟨resets S.devs[i].regs, fun _ => 0, false⟩ := by
  simp only [HV.fresh, List.getElem?_eq_getElem h]
def manyL (S : Soc) : List Int := S.devs.map fun d => (d.regs.length : Int)
theorem devsC_congr {a' : HA} {n : Nat} (h : ∀ j, j < n → a'.fp j = a.fp j ∧ a'.pp j = a.pp j) : devsC S a' n = devsC S a n := by
  unfold devsC
  rw [List.flatMap_def, List.flatMap_def]
  congr 1
  apply List.map_congr_left
  intro j hj
  obtain ⟨h1, h2⟩ := h j (by simpa using hj)
  unfold devC
  rw [h1, h2]
theorem devsC_succ (n : Nat) : devsC S a (n + 1) = devsC S a n ++ devC S a n := by
  unfold devsC
  rw [List.range_succ, List.flatMap_append]; simp
def Made (st : ASt) (ib hp mm tp gp lp : Nat) (S : Soc) (i : Nat) (t : ASt) : Prop :=
  ∃ st1 a dvv, HCX ib a S (HV.fresh S) i st1 t ∧ Over st st1 6 dvv i (devsC S a i) ∧ a.hp = hp ∧ a.tp = tp ∧ a.gp = gp ∧ a.lp = lp ∧ st1.h hp = some (.cells [.ptr tp 0, .ptr gp 0, .ptr lp 0, .nilp, dvv]) ∧
    st1.h mm = some (.cells (ints (firstZ (manyL S) i)))
set_option maxHeartbeats 2000000 in
theorem hnew {st : ASt} {ib : Nat} (hib : st.h ib = none) (hk : S.like) : ACalls Tryz.prog F.q95 [.agg S.cells] (st.new ib (.cells S.cells)) fun r s' => ∃ a, r = .tup [.ptr a.hp 0, .int .i64 0] ∧ HX st s' ib a S (HV.fresh S) := by
  have hs := hk.sane
  have n1 := hk.nc; have n2 := hk.nd; have n3 := hk.nr; have n4 := hk.nv
  have lc : S.cells.length = 4 := rfl
  have e4 : AV.agg (List.take 4 S.cells) = .agg S.cells := rfl
  have hb0 := ASt.new_self (.cells S.cells) hib
  have hle0 := ASt.le.new st ib (.cells S.cells)
  refine calls_of_awp L.q95 rfl ?_
  generalize st.new ib (.cells S.cells) = s0 at hb0 hle0
  simp only [↓Bt, Bu, simprocAttr, ↓C.bn_w, C.bn_b, C.q95]
  intro i1 hi1
  have hle1 := ASt.le.new s0 i1 (.cells S.cells)
  have hx1 := ASt.new_self (.cells S.cells) hi1
  have hb1 := hle1 _ _ hb0
  generalize s0.new i1 (.cells S.cells) = s1 at hle1 hx1 hb1
  simp only [↓Bt, Bu, simprocAttr, ↓C.q95_W, C.q95_B, C.q95, hx1, lc, e4]
  refine (conf_check_spec hs.fine).mono ?_
  rintro r s1' ⟨rfl, rfl⟩
  simp only [↓Bt, Bu, simprocAttr, ↓C.q95_W, C.q95_B, C.q95, hk.right, hx1, lc, e4]
  refine (cnew_spec hs hs.fine hk.right (by omega) (by omega)).mono ?_
  rintro r s2 ⟨tp, tg, rfl, hT, htp, htg, hle2⟩
  have hx2 := hle2 _ _ hx1
  simp only [↓Bt, Bu, simprocAttr, ↓C.q95_W, C.q95_B, C.q95, hx2, lc, e4]
  refine (gnew_spec hs.fine hk.right (by omega) (by omega)).mono ?_
  rintro r s3 ⟨gp, gg, rfl, hG, hgp, hgg, hle3⟩
  have hx3 := hle3 _ _ hx2
  simp only [↓Bt, Bu, simprocAttr, ↓C.q95_W, C.q95_B, C.q95, hx3, lc, e4]
  refine (new_spec hs.fine (by omega)).mono ?_
  rintro r s4 (⟨e, _⟩ | ⟨_, lp, lm, rfl, hL, hlp, hlm, hle4⟩)
  · exact absurd hk.right e
  have hx4 := hle4 _ _ hx3
  simp only [↓Bt, Bu, simprocAttr, ↓C.z128, C.z45, ↓C.bn_w, C.bn_b, C.q95]
  intro hp hhp
  have htpS : st.h tp = none := fresh_of_le (hle0.trans hle1) htp
  have htgS : st.h tg = none := fresh_of_le (hle0.trans hle1) htg
  have hgpS : st.h gp = none := fresh_of_le ((hle0.trans hle1).trans hle2) hgp
  have hggS : st.h gg = none := fresh_of_le ((hle0.trans hle1).trans hle2) hgg
  have hlpS : st.h lp = none := fresh_of_le (((hle0.trans hle1).trans hle2).trans hle3) hlp
  have hlmS : st.h lm = none := fresh_of_le (((hle0.trans hle1).trans hle2).trans hle3) hlm
  have hleS : st.le s4 := (((hle0.trans hle1).trans hle2).trans hle3).trans hle4
  have dj : ∀ {x y : Nat} {t : ASt} {o : AObj}, t.h x = some o → t.h y = none → y ≠ x := fun h1 h2 => by rintro rfl; rw [h1] at h2; cases h2
  have hb2 := hle2 _ _ hb1
  have hb3 := hle3 _ _ hb2
  have hC : HCX ib ⟨hp, tp, tg, gp, gg, lp, lm, 0, 0, 0, 0, fun _ => 0, fun _ => 0, fun _ => 0, fun _ => 0⟩ S (HV.fresh S) 0 st s4 := by
    refine ⟨fun j => if j = ib then 7 else if j = tp ∨ j = tg then 2 else if j = gp ∨ j = gg then 3 else if j = lp ∨ j = lm then 4 else 0, { le := hleS, tag0 := fun j hj => ?_, hb := hle4 _ _ hb3, Tb := if_pos rfl, tree := (hT.le hle3).le hle4, Tt := ?_, grid := hG.le hle4, Tg := ?_, lines := hL, Tl := ?_, files := fun i hi hm => absurd hm (by omega), ports := fun i hm => absurd hm (by omega), kof := KOf.fresh hk.clk, ginv := GInv.fresh hk.dom, linv := LInv.fresh fun x hx => ?_ }⟩
    · have ne : ∀ {x}, st.h x = none → j ≠ x := fun h => by rintro rfl; exact hj h
      simp [ne hib, ne htpS, ne htgS, ne hgpS, ne hggS, ne hlpS, ne hlmS]
    · exact ⟨by simp [dj hb1 htp], by simp [dj hb1 htg]⟩
    · have x1 := hT.hp
      have x2 := hT.hg
      exact ⟨by simp [dj hb2 hgp, dj x1 hgp, dj x2 hgp], by simp [dj hb2 hgg, dj x1 hgg, dj x2 hgg]⟩
    · have x1 := (hT.le hle3).hp
      have x2 := (hT.le hle3).hg
      have x3 := hG.hp
      have x4 := hG.hg
      exact ⟨by simp [dj hb3 hlp, dj x1 hlp, dj x2 hlp, dj x3 hlp, dj x4 hlp], by simp [dj hb3 hlm, dj x1 hlm, dj x2 hlm, dj x3 hlm, dj x4 hlm]⟩
    · obtain ⟨i, hi, rfl⟩ := List.getElem_of_mem hx
      have := hk.rst i hi
      omega
  have hhpS : st.h hp = none := fresh_of_le hleS hhp
  have hC1 := HCX.rides.loc hC hhp (.cells [.ptr tp 0, .ptr gp 0, .ptr lp 0, .nilp, .nils])
  have hP1 := ASt.new_self (.cells [.ptr tp 0, .ptr gp 0, .ptr lp 0, .nilp, .nils]) hhpS
  have hleP := ASt.le.new st hp (.cells [.ptr tp 0, .ptr gp 0, .ptr lp 0, .nilp, .nils])
  have hx5 := ASt.new_old (id := hp) (o := .cells [.ptr tp 0, .ptr gp 0, .ptr lp 0, .nilp, .nils]) hx4
  generalize s4.new hp (.cells [.ptr tp 0, .ptr gp 0, .ptr lp 0, .nilp, .nils]) = s5 at hC1 hx5
  generalize st.new hp (.cells [.ptr tp 0, .ptr gp 0, .ptr lp 0, .nilp, .nils]) = b1 at hC1 hP1 hleP
  have hz : (0 : Int) ≤ ((S.devs.length : Nat) : Int) ∧ ((S.devs.length : Nat) : Int) ≤ 4294967296 := by omega
  have hx5' := hx5
  rw [Soc.cells, Soc.clkV, Soc.domV, Soc.rstV, Soc.devV] at hx5'
  simp only [↓Bt, Bu, simprocAttr, ↓C.c9_w, C.c9_b, ↓C.bnh_w, ↓C.z128, C.z45, ↓C.bn_w, C.bn_b, C.q95, hx5', hz, Int.toNat_natCast, zeros_i64]
  intro mm hmm
  have hmmB : b1.h mm = none := fresh_of_le (HCX.rides.le hC1) hmm
  have hC2 := HCX.rides.loc hC1 hmm (.cells (ints (List.replicate S.devs.length 0)))
  have hM2 := ASt.new_self (.cells (ints (List.replicate S.devs.length 0))) hmmB
  have hP2 := ASt.new_old (id := mm) (o := .cells (ints (List.replicate S.devs.length 0))) hP1
  have hle6 := hleP.trans (ASt.le.new b1 mm (.cells (ints (List.replicate S.devs.length 0))))
  have hx6 := ASt.new_old (id := mm) (o := .cells (ints (List.replicate S.devs.length 0))) hx5'
  have hmmS : st.h mm = none := fresh_of_le hleP hmmB
  have hpm : ¬ hp = mm := fun e => by rw [e, hmmB] at hP1; cases hP1
  generalize s5.new mm (.cells (ints (List.replicate S.devs.length 0))) = s6 at hC2 hx6
  generalize b1.new mm (.cells (ints (List.replicate S.devs.length 0))) = b2 at hC2 hM2 hP2 hle6
  have hml : (manyL S).length = S.devs.length := by simp [manyL]
  simp only [↓Bt, Bu, simprocAttr, ↓C.z129, C.cf_b, ↓C.z130, C.cd_b, ↓C.z131, C.df_b, ↓C.z126, C.d4_b, C.d3_b, ↓C.z127, C.dd_b, ↓C.z125, C.dc_b, C.db_b, ↓C.b1k_w, ↓C.b1s_w, ↓C.n9_w, C.n9_b, ↓C.b1t_w, ↓C.c9_w, C.c9_b, ↓C.bnh_w, ↓C.z128, C.z45, ↓C.bn_w, C.bn_b, C.q95, hx6]
  refine awp_midB (fun _ : Unit => [(9, .ptr hp 0), (10, .sl 1 mm 0 S.devs.length)]) (fun _ t => Made st ib hp mm tp gp lp S S.devs.length t) ?_ ?_
  rotate_left
  · rintro - t ⟨st1, a, dvv, ⟨T, hC⟩, hO, ea, et, eg, el, hH, hM⟩
    rw [← hml, firstZ_all] at hM
    have hMt := hC.le _ _ hM
    have hHt := hC.le _ _ hH
    have hbn := bnew_spec hMt (by omega) (fun x hx => by
      simp only [manyL, List.mem_map] at hx
      obtain ⟨d, hd, rfl⟩ := hx
      obtain ⟨i, hi, rfl⟩ := List.getElem_of_mem hd
      have := (hk.dev i hi).regs
      omega)
    rw [hml] at hbn
    simp only [↓Bt, Bu, simprocAttr, ↓C.q95_W, C.q95_B, C.q95]
    refine hbn.mono ?_
    rintro r t2 ⟨bp, br, bw, rfl, hB⟩
    have hHt2 := hB.le _ _ hHt
    simp only [↓Bt, Bu, simprocAttr, ↓C.q95_W, C.q95_B, C.q95, hHt2]
    obtain ⟨dv, rfl, hdv⟩ : ∃ dv, dvv = .sl 6 dv 0 S.devs.length ∧ st1.h dv = some (.cells (devsC S a S.devs.length)) := by
      rcases hO.1.2 with ⟨e, _⟩ | h
      · omega
      · exact h
    have hdvS : st.h dv = none := hO.2.2 _ _ _ _ rfl
    have nhp : ¬ dv = hp := by
      rintro rfl
      rw [hdv] at hH
      have := congrArg (fun o : Option AObj => match o with | some (.cells cs) => cs.length | _ => 0) hH
      simp [devsC_len] at this
      omega
    have hdt := hC.le _ _ hdv
    have hdt2 := hB.le _ _ hdt
    have nbp : ¬ bp = hp := by rintro rfl; have := hB.fp; rw [hHt] at this; cases this
    have nbr : ¬ br = hp := by rintro rfl; have := hB.fr; rw [hHt] at this; cases this
    have nbw : ¬ bw = hp := by rintro rfl; have := hB.fw; rw [hHt] at this; cases this
    have mbp : ¬ bp = dv := by rintro rfl; have := hB.fp; rw [hdt] at this; cases this
    have mbr : ¬ br = dv := by rintro rfl; have := hB.fr; rw [hdt] at this; cases this
    have mbw : ¬ bw = dv := by rintro rfl; have := hB.fw; rw [hdt] at this; cases this
    obtain ⟨T', hT'⟩ : ∃ T' : Nat → Nat, T' = fun j => if j = hp then 1 else if j = dv then 6 else if j = bp ∨ j = br ∨ j = bw then 5 else T j := ⟨_, rfl⟩
    have thp : T' hp = 1 := by rw [hT']; simp
    have tdv : T' dv = 6 := by rw [hT']; simp [nhp]
    have tbp : T' bp = 5 := by rw [hT']; simp [nbp, mbp]
    have tbr : T' br = 5 := by rw [hT']; simp [nbr, mbr]
    have tbw : T' bw = 5 := by rw [hT']; simp [nbw, mbw]
    have hsl : st.le t := hO.2.1.trans hC.le
    have ne : ∀ {j x : Nat} {u : ASt}, u.h j ≠ none → u.h x = none → ¬ j = x := fun h1 h2 => by rintro rfl; exact h1 h2
    have hC2 : HC st t ib a T' S (HV.fresh S) S.devs.length := hC.move (fun j hj h0 => by
      have j1 : ¬ j = hp := fun e => h0 (by rw [e]; exact hC.tag0 _ (by rw [hH]; simp))
      have j2 : ¬ j = dv := fun e => h0 (by rw [e]; exact hC.tag0 _ (by rw [hdv]; simp))
      rw [hT']
      simp [j1, j2, ne hj hB.fp, ne hj hB.fr, ne hj hB.fw]) hsl (fun j hj => by
      have j1 : ¬ j = hp := ne hj hhpS
      have j2 : ¬ j = dv := ne hj hdvS
      have j3 : ¬ j = bp := ne hj (fresh_of_le hsl hB.fp)
      have j4 : ¬ j = br := ne hj (fresh_of_le hsl hB.fr)
      have j5 : ¬ j = bw := ne hj (fresh_of_le hsl hB.fw)
      have j6 : T j = 0 := hC.tag0 j (by
        cases e : st.h j with
        | none => exact absurd e hj
        | some o => rw [hO.2.1 _ _ e]; simp)
      rw [hT']
      simp [j1, j2, j3, j4, j5, j6])
    have hK : Keeps T' 1 t2 (t2.set hp (.cells [.ptr tp 0, .ptr gp 0, .ptr lp 0, .ptr bp 0, .sl 6 dv 0 S.devs.length])) := Keeps.set thp
    have hC3 := (hC2.step hB.le).keep hK (.inl rfl)
    have hl2 : (manyL S).length = S.devs.length := hml
    refine ⟨{ a with bp := bp, br := br, bw := bw, dv := dv }, by rw [← ea], T', ⟨{ le := hC3.le, tag0 := hC3.tag0, hb := hC3.hb, Tb := hC3.Tb, tree := hC3.tree, Tt := hC3.Tt, grid := hC3.grid, Tg := hC3.Tg, lines := hC3.lines, Tl := hC3.Tl, files := hC3.files, ports := hC3.ports, kof := hC3.kof, ginv := hC3.ginv, linv := hC3.linv }, ?_, ?_, ⟨?_, ?_, ⟨List.replicate S.devs.length .nils, ?_, by simp, fun i hi => ?_⟩, ⟨tbp, tbr, tbw⟩, hB.n1, hB.n2, hB.n3⟩, ?_, tdv⟩⟩
    · show ASt.h _ a.hp = some (.cells [.ptr a.tp 0, .ptr a.gp 0, .ptr a.lp 0, .ptr bp 0, .sl 6 dv 0 S.devs.length])
      rw [ea, et, eg, el, ASt.set_h, if_pos rfl, hHt2]; rfl
    · show T' a.hp = 1
      rw [ea]; exact thp
    · rw [ASt.set_h, if_neg nbp, hB.hp, hl2]; rfl
    · rw [ASt.set_h, if_neg nbr, hB.hr]; rfl
    · rw [ASt.set_h, if_neg nbw, hB.hw, hl2]
    · rw [List.getElem_replicate]; exact .nil
    · rw [ASt.set_h, if_neg nhp, hdt2]
      rw [show devsC S { a with bp := bp, br := br, bw := bw, dv := dv } S.devs.length = devsC S a S.devs.length from devsC_congr fun j _ => ⟨rfl, rfl⟩]
  refine awp_loopK (fun i : Nat => [(9, .ptr hp 0), (10, .sl 1 mm 0 S.devs.length), (54, .isl 6 (S.devs.flatMap Dev.cells) S.devs.length), (55, .int .i64 S.devs.length), (56, .int .i64 i)]) (fun i t => i ≤ S.devs.length ∧ Made st ib hp mm tp gp lp S i t) (fun i => S.devs.length - i) 0 rfl ⟨Nat.zero_le _, b2, _, .nils, hC2, Over.nils hle6 6, rfl, rfl, rfl, rfl, hP2, by rw [firstZ_zero, hml]; exact hM2⟩ ?_
  clear hC2 hM2 hP2 hle6 hx6 hx5' hx5 hC1 hP1 hleP hC hmm hmmB hhp hL hG hT hx4 hx3 hx2 hx1 hb1 hb0 hb2 hb3
  rintro i t ⟨hi, st1, a, dvv, hC, hO, ea, et, eg, el, hH, hM⟩
  by_cases hil : i < S.devs.length
  rotate_left
  · have hie : i = S.devs.length := by omega
    subst hie
    have hil' : ¬ ((S.devs.length : Nat) : Int) < (S.devs.length : Nat) := by omega
    simp only [↓Bt, Bu, simprocAttr, ↓C.q95_W, C.q95_B, C.q95, hil']
    exact ⟨(), st1, a, dvv, hC, hO, ea, et, eg, el, hH, hM⟩
  have hil' : (i : Int) < (S.devs.length : Nat) := by omega
  have hw := wsucc hil (by omega)
  have hzi : (0:Int) ≤ (i : Int) ∧ (i : Int) < (S.devs.length : Int) := by omega
  have hfit := flatMap_fits (f := Dev.cells) (k := 6) Dev.cells_len (l := S.devs) hil
  have hat := flatMap_at (f := Dev.cells) (k := 6) Dev.cells_len (l := S.devs) hil
  have dl : S.devs[i].cells.length = 6 := rfl
  have df : allLeaf S.devs[i].cells = true := rfl
  simp only [↓Bt, Bu, simprocAttr, ↓C.z129, C.cf_b, ↓C.z125, C.dc_b, C.db_b, hil', hzi, Int.toNat_natCast, hfit, hat]
  intro ix hix
  simp only [↓Bt, Bu, simprocAttr, ↓C.z129, C.cf_b, ↓C.z125, C.dc_b, C.db_b, hix, dl, df]
  rw [ASt.new_set hix, putN_all (zs := [AV.int .i64 0, AV.int .i64 0, AV.int .i64 0, AV.int .u32 0, AV.nils, AV.nils]) (vs := S.devs[i].cells) rfl]
  have hC3 := HCX.rides.loc hC hix (.cells S.devs[i].cells)
  have hX3 := ASt.new_self (.cells S.devs[i].cells) (fresh_of_le (HCX.rides.le hC) hix)
  have hH3 := ASt.new_old (id := ix) (o := .cells S.devs[i].cells) hH
  have hM3 := ASt.new_old (id := ix) (o := .cells S.devs[i].cells) hM
  have hle3 := ASt.le.new st1 ix (.cells S.devs[i].cells)
  have hO3 : Over st (st1.new ix (.cells S.devs[i].cells)) 6 dvv i (devsC S a i) := ⟨⟨hO.1.1, hO.1.2.imp (fun x => x) fun ⟨j, e, hj⟩ => ⟨j, e, hle3 _ _ hj⟩⟩, hO.2.1.trans hle3, hO.2.2⟩
  generalize t.new ix (.cells S.devs[i].cells) = t3 at hC3
  generalize st1.new ix (.cells S.devs[i].cells) = st3 at hC3 hX3 hH3 hM3 hO3
  clear hC hO hH hM hle3
  have hxt := HCX.rides.le hC3 _ _ hX3
  rw [Dev.cells] at hxt hX3
  simp only [↓Bt, Bu, simprocAttr, ↓C.z127, C.dd_b, hxt]
  have hrl := (hk.dev i hil).regs
  refine (rgnew_spec (Readable.isl t3 (l := S.devs[i].regs) (by omega)) (by omega)).mono ?_
  rintro r t4 ⟨id, idn, ids, rfl, hf, hle4, f1, f2, f3⟩
  have hF4 := hC3.file hle4 hil (by rw [fresh_F hil]; exact hf) f1 f2 f3
  clear hf hC3 hxt hle4
  have hxt4 := hF4.le _ _ hX3
  have hMt := hF4.le _ _ hM3
  obtain ⟨hil2, hfile⟩ := hF4.fileAt
  have hml2 : i < (manyL S).length := by omega
  have hmg : (manyL S)[i] = (S.devs[i].regs.length : Int) := by simp [manyL]
  have hfl : i < (ints (firstZ (manyL S) i)).length := by rw [ints_length, firstZ_len (by omega)]; exact hml2
  have hset := firstZ_set hml2
  rw [hmg] at hset
  simp only [↓Bt, Bu, simprocAttr, ↓C.z126, C.d4_b, C.d3_b, ↓C.z127, C.dd_b]
  rw [C.bnl_w, awp_keep]
  simp only [↓Bt, Bu, simprocAttr, ↓C.z131, C.df_b]
  refine (many_spec hfile).mono ?_
  rintro r t5 ⟨rfl, rfl⟩
  simp only [↓Bt, Bu, simprocAttr, ↓C.z131, C.df_b, hzi, Int.toNat_natCast, Nat.mul_one, hMt, hfl, ints_set, hset]
  have hF5 := hF4.locSet (ix := mm) (by rw [hM3]; simp) (.cells (ints (firstZ (manyL S) (i + 1))))
  have nxm : ¬ ix = mm := fun e => by rw [e, hM3] at hX3; have := congrArg (fun o : Option AObj => match o with | some (.cells cs) => cs.length | _ => 0) hX3; simp [ints_length, firstZ_len (show i ≤ (manyL S).length by omega)] at this; omega
  have hX5 : (st3.set mm (.cells (ints (firstZ (manyL S) (i + 1))))).h ix = _ := (by rw [ASt.set_h, if_neg nxm] : _ = st3.h ix).trans hX3
  have hH5 : (st3.set mm (.cells (ints (firstZ (manyL S) (i + 1))))).h hp = _ := (by rw [ASt.set_h, if_neg hpm] : _ = st3.h hp).trans hH3
  have hM5 : (st3.set mm (.cells (ints (firstZ (manyL S) (i + 1))))).h mm = some (.cells (ints (firstZ (manyL S) (i + 1)))) := by rw [ASt.set_h, if_pos rfl, hM3]; rfl
  have hdv : ∀ sz j off n, dvv = .sl sz j off n → j ≠ hp ∧ j ≠ mm := fun sz j off n e => by
    have hlen : (devsC S a i).length = i * 6 := devsC_len i
    rcases hO3.1.2 with ⟨_, rfl⟩ | ⟨j', rfl, hj⟩
    · cases e
    · cases e
      refine ⟨?_, ?_⟩
      · rintro rfl
        rw [hj] at hH3
        have := congrArg (fun o : Option AObj => match o with | some (.cells cs) => cs.length | _ => 0) hH3
        simp [hlen] at this
        omega
      · rintro rfl
        rw [hj] at hM3
        have := congrArg (fun o : Option AObj => match o with | some (.cells cs) => cs.length | _ => 0) hM3
        simp [hlen, ints_length, firstZ_len (show i ≤ (manyL S).length by omega)] at this
        omega
  have hO5 : Over st (st3.set mm (.cells (ints (firstZ (manyL S) (i + 1))))) 6 dvv i (devsC S a i) := by
    have hsh : Shows (st3.set mm (.cells (ints (firstZ (manyL S) (i + 1))))) 6 dvv i (devsC S a i) := by
      refine ⟨hO3.1.1, ?_⟩
      rcases hO3.1.2 with h | ⟨j, e, hj⟩
      · exact .inl h
      · exact .inr ⟨j, e, by rw [ASt.set_h, if_neg (hdv _ _ _ _ e).2]; exact hj⟩
    exact ⟨hsh, le_set_new hO3.2.1 hmmS, hO3.2.2⟩
  generalize t5.set mm (.cells (ints (firstZ (manyL S) (i + 1)))) = t6 at hF5
  generalize st3.set mm (.cells (ints (firstZ (manyL S) (i + 1)))) = st5 at hF5 hX5 hH5 hM5 hO5
  clear hF4 hX3 hH3 hM3 hO3 hxt4 hMt hfile f1 f2 f3
  have hxt6 := hF5.le _ _ hX5
  have hHt6 := hF5.le _ _ hH5
  rw [C.bnk_w, awp_keep]
  simp only [↓Bp, Bq, Bs, simprocAttr, ↓C.z130, C.cd_b, hHt6, hxt6]
  refine (qnew_spec t6).mono ?_
  rintro r t7 ⟨p, hpf, rfl, rfl⟩
  have hC7 := hF5.port hpf rfl
  have hle7 := ASt.le.new t6 p (.cells [.int .i64 0, .int .i64 0])
  have hxt7 := hle7 _ _ hxt6
  have hHt7 := hle7 _ _ hHt6
  generalize t6.new p (.cells [.int .i64 0, .int .i64 0]) = t7 at hC7 hxt7 hHt7
  simp only [↓Bp, Bq, Bs, simprocAttr, ↓C.z130, C.cd_b, hHt7, hxt7]
  obtain ⟨a', ha'⟩ : ∃ a' : HA, a' = { a with fp := upF a.fp i id, fn := upF a.fn i idn, fs := upF a.fs i ids, pp := upF a.pp i p } := ⟨_, rfl⟩
  rw [← ha'] at hC7
  have hcg : devsC S a' i = devsC S a i := devsC_congr fun j hj => by
    rw [ha']; exact ⟨upF_ne (by omega), upF_ne (by omega)⟩
  have hnewc : devC S a' i = [.int .i64 S.devs[i].clock, .int .i64 S.devs[i].dom, .int .i64 S.devs[i].rst, .int .u32 S.devs[i].clamp, .ptr id 0, .ptr p 0] := by
    rw [devC_eq hil, ha']
    simp only [upF_at]
  refine aop_append_rides HCX.rides hC7 hO5 (by omega) (new := [.int .i64 S.devs[i].clock, .int .i64 S.devs[i].dom, .int .i64 S.devs[i].rst, .int .u32 S.devs[i].clamp, .ptr id 0, .ptr p 0]) (aput_one rfl rfl) rfl rfl (fun _ => rfl) (fun _ => rfl) fun v1 v2 st8 t8 hC8 hO8 hkeep => ?_
  have hH8 : st8.h hp = some (.cells [.ptr tp 0, .ptr gp 0, .ptr lp 0, .nilp, dvv]) := hkeep _ _ hH5 fun sz j off n e => (hdv sz j off n e).1.symm
  have hM8 : st8.h mm = some (.cells (ints (firstZ (manyL S) (i + 1)))) := hkeep _ _ hM5 fun sz j off n e => (hdv sz j off n e).2.symm
  have hHt8 := HCX.rides.le hC8 _ _ hH8
  have hlf : v2.leaf = true := by
    rcases hO8.1.2 with ⟨_, rfl⟩ | ⟨j, rfl, _⟩ <;> rfl
  simp only [↓Bt, Bu, simprocAttr, ↓C.z130, C.cd_b, hHt8, hlf, hw]
  rw [C.bnj_w, awp_keep]
  simp only [↓Bt, Bu, simprocAttr, ↓C.z129, C.cf_b, hw]
  have hC9 := hC8.locSet (ix := hp) (by rw [hH8]; simp) (.cells [.ptr tp 0, .ptr gp 0, .ptr lp 0, .nilp, v2])
  have hlen8 : (devsC S a i ++ [AV.int .i64 S.devs[i].clock, .int .i64 S.devs[i].dom, .int .i64 S.devs[i].rst, .int .u32 S.devs[i].clamp, .ptr id 0, .ptr p 0]).length = i * 6 + 6 := by rw [List.length_append, devsC_len]; rfl
  have hdv8 : ∀ sz j off n, v2 = .sl sz j off n → j ≠ hp := fun sz j off n e => by
    rcases hO8.1.2 with ⟨_, rfl⟩ | ⟨j', rfl, hj⟩
    · cases e
    · cases e
      rintro rfl
      rw [hj] at hH8
      have := congrArg (fun o : Option AObj => match o with | some (.cells cs) => cs.length | _ => 0) hH8
      simp only [hlen8] at this
      simp at this
  have hO9 : Over st (st8.set hp (.cells [.ptr tp 0, .ptr gp 0, .ptr lp 0, .nilp, v2])) 6 v2 (i + 1) (devsC S a' (i + 1)) := by
    rw [devsC_succ, hnewc, hcg]
    have hsh : Shows (st8.set hp (.cells [.ptr tp 0, .ptr gp 0, .ptr lp 0, .nilp, v2])) 6 v2 (i + 1) (devsC S a i ++ [AV.int .i64 S.devs[i].clock, .int .i64 S.devs[i].dom, .int .i64 S.devs[i].rst, .int .u32 S.devs[i].clamp, .ptr id 0, .ptr p 0]) := by
      refine ⟨hO8.1.1, ?_⟩
      rcases hO8.1.2 with h | ⟨j, e, hj⟩
      · exact .inl h
      · exact .inr ⟨j, e, by rw [ASt.set_h, if_neg (hdv8 _ _ _ _ e)]; exact hj⟩
    exact ⟨hsh, le_set_new hO8.2.1 hhpS, hO8.2.2⟩
  refine ⟨i + 1, rfl, ⟨hil, st8.set hp (.cells [.ptr tp 0, .ptr gp 0, .ptr lp 0, .nilp, v2]), a', v2, hC9, hO9, by rw [ha']; exact ea, by rw [ha']; exact et, by rw [ha']; exact eg, by rw [ha']; exact el, by rw [ASt.set_h, if_pos rfl, hH8]; rfl, by rw [ASt.set_h, if_neg (Ne.symm hpm)]; exact hM8⟩, by omega⟩
end
/- The chip: the example of the statements. -/
set_option maxRecDepth 100000

def soc12 : Soc := ⟨[⟨111, [], 1, 0, 0, 0⟩], [⟨-1, 0, false⟩], [0], [⟨0, 0, 0, 0, [⟨5, false⟩], []⟩]⟩
theorem soc12_like : soc12.like where
  nc := by decide
  nd := by decide
  nr := by decide
  nv := by decide
  clk := fun i h => by
    have : i = 0 := by simp [soc12] at h; omega
    subst this
    exact .osc 1 (by omega) rfl
  dom := fun i h => by
    have : i = 0 := by simp [soc12] at h; omega
    subst this
    exact ⟨.inl rfl, by simp [soc12]⟩
  rst := fun i h => by
    have : i = 0 := by simp [soc12] at h; omega
    subst this
    simp [soc12]
  dev := fun i h => by
    have : i = 0 := by simp [soc12] at h; omega
    subst this
    exact ⟨by simp [soc12], by simp [soc12], by simp [soc12], by simp [soc12], by simp [soc12], fun u hu => by cases hu⟩
theorem set_as_new {s : ASt} {i : Nat} (o : AObj) (h : s.h i ≠ none) : s.set i o = (s.kill i).new i o := ASt.ext' fun j => by
  rw [ASt.set_h, ASt.new_h, ASt.kill_h]
  by_cases e : j = i
  · subst e
    simp only [if_true]
    cases e0 : s.h j with
    | none => exact absurd e0 h
    | some x => rfl
  · simp only [if_neg e]
    cases s.h j <;> rfl
theorem hshown_spec (st : ASt) : ACalls Tryz.prog F.q15 [] st fun r s => r = .bool true ∧ s = st := by
  refine ACalls.gc (Q' := fun r s => r = .bool true ∧ st.le s) (calls_of_awp L.q15 rfl ?_) (fun v s ⟨h, hl⟩ => ⟨st, hl, h, rfl⟩)
  simp only [↓Bt, Bu, simprocAttr, ↓C.cs_w, C.cs_b, ↓C.bm3_w, ↓C.cr_w, C.cr_b, C.q15]
  rintro i0 h0 i1 ⟨h1, n10⟩ i2 ⟨⟨h2, n20⟩, n21⟩ i3 ⟨⟨⟨h3, n30⟩, n31⟩, n32⟩ i4 ⟨⟨⟨⟨h4, n40⟩, n41⟩, n42⟩, n43⟩ ib ⟨⟨⟨⟨⟨hb, nb0⟩, nb1⟩, nb2⟩, nb3⟩, nb4⟩
  simp only [↓Bt, Bu, simprocAttr, ↓C.cs_w, C.cs_b, ↓C.bm3_w, ↓C.cr_w, C.cr_b, C.q15, hb, nb0, nb1, nb2, nb3, nb4, allLeaf, AV.leaf]
  obtain ⟨o0, ho0⟩ : ∃ o, o = AObj.cells [AV.int .u8 111, .nils, .int .u64 1, .int .i64 0, .int .i64 0, .int .i64 0] := ⟨_, rfl⟩
  obtain ⟨o1, ho1⟩ : ∃ o, o = AObj.cells [AV.int .i64 (-1), .int .i64 0, .bool false] := ⟨_, rfl⟩
  obtain ⟨o2, ho2⟩ : ∃ o, o = AObj.cells [AV.int .i64 0] := ⟨_, rfl⟩
  obtain ⟨o3, ho3⟩ : ∃ o, o = AObj.cells [AV.int .u32 5, .bool false] := ⟨_, rfl⟩
  obtain ⟨o4, ho4⟩ : ∃ o, o = AObj.cells [AV.int .i64 0, .int .i64 0, .int .i64 0, .int .u32 0, .sl 2 i3 0 1, .nils] := ⟨_, rfl⟩
  rw [← ho0, ← ho1, ← ho2, ← ho3, ← ho4]
  obtain ⟨s5, hs5⟩ : ∃ s5, s5 = ((((st.new i0 o0).new i1 o1).new i2 o2).new i3 o3).new i4 o4 := ⟨_, rfl⟩
  rw [← hs5]
  have hle : st.le s5 := by rw [hs5]; exact ((((ASt.le.new _ _ _).trans (ASt.le.new _ _ _)).trans (ASt.le.new _ _ _)).trans (ASt.le.new _ _ _)).trans (ASt.le.new _ _ _)
  have hbn : s5.h ib = none := by rw [hs5]; simp [ASt.new_o, hb, nb0, nb1, nb2, nb3, nb4]
  have c0 : s5.h i0 = some o0 := by rw [hs5]; simp [ASt.new_o, h0]
  have c1 : s5.h i1 = some o1 := by rw [hs5]; simp [ASt.new_o, h1, n10]
  have c2 : s5.h i2 = some o2 := by rw [hs5]; simp [ASt.new_o, h2, n20, n21]
  have c3 : s5.h i3 = some o3 := by rw [hs5]; simp [ASt.new_o, h3, n30, n31, n32]
  have c4 : s5.h i4 = some o4 := by rw [hs5]; simp [ASt.new_o, h4, n40, n41, n42, n43]
  rw [ASt.new_set hbn]
  have hr : RepL s5 [.sl 6 i0 0 1, .sl 3 i1 0 1, .sl 1 i2 0 1, .sl 6 i4 0 1] soc12.cells (i0 :: ([] ++ (i1 :: ([] ++ (i2 :: ([] ++ (i4 :: ((i3 :: ([] ++ [])) ++ [])))))))) := by
    refine .sl (L1 := []) (by rw [c0, ho0]; rfl) (.one rfl (.nils 1 (RepL.scalars rfl _))) (by simp) ?_ (by simp) ?_
    · simp [Ne.symm n10, Ne.symm n20, Ne.symm n40, Ne.symm n30]
    refine .sl (L1 := []) (by rw [c1, ho1]; rfl) (RepL.scalars rfl _) (by simp) ?_ (by simp) ?_
    · simp [Ne.symm n21, Ne.symm n41, Ne.symm n31]
    refine .sl (L1 := []) (by rw [c2, ho2]; rfl) (RepL.scalars rfl _) (by simp) ?_ (by simp) ?_
    · simp [Ne.symm n42, Ne.symm n32]
    refine .sl (L1 := [i3]) (by rw [c4, ho4]; rfl) (.one rfl (.one rfl (.one rfl (.one rfl (.sl (L1 := []) (L2 := []) (by rw [c3, ho3]; rfl) (RepL.scalars rfl _) (by simp) (by simp) (by simp) (.nils 1 .nil)))))) ?_ (by simp) (by simp) .nil
    simp [n43]
  have hr2 := hr.le (ASt.le.new s5 ib (.cells [.sl 6 i0 0 1, .sl 3 i1 0 1, .sl 1 i2 0 1, .sl 6 i4 0 1]))
  have hle2 := hle.trans (ASt.le.new s5 ib (.cells [.sl 6 i0 0 1, .sl 3 i1 0 1, .sl 1 i2 0 1, .sl 6 i4 0 1]))
  have hbs := ASt.new_self (.cells [.sl 6 i0 0 1, .sl 3 i1 0 1, .sl 1 i2 0 1, .sl 6 i4 0 1]) hbn
  generalize s5.new ib (.cells [.sl 6 i0 0 1, .sl 3 i1 0 1, .sl 1 i2 0 1, .sl 6 i4 0 1]) = s6 at hr2 hle2 hbs
  have hbL : ib ∉ (i0 :: ([] ++ (i1 :: ([] ++ (i2 :: ([] ++ (i4 :: ((i3 :: ([] ++ [])) ++ [])))))))) := by simp [nb0, nb1, nb2, nb3, nb4]
  have hnL : ∀ j ∈ (i0 :: ([] ++ (i1 :: ([] ++ (i2 :: ([] ++ (i4 :: ((i3 :: ([] ++ [])) ++ [])))))))), st.h j = none := by
    intro j hj
    simp at hj
    rcases hj with rfl | rfl | rfl | rfl | rfl <;> assumption
  have hle3 : st.le (s6.killL (i0 :: ([] ++ (i1 :: ([] ++ (i2 :: ([] ++ (i4 :: ((i3 :: ([] ++ [])) ++ []))))))))) := hle2.killL hnL
  have hbs2 : (s6.killL (i0 :: ([] ++ (i1 :: ([] ++ (i2 :: ([] ++ (i4 :: ((i3 :: ([] ++ [])) ++ []))))))))).h ib ≠ none := by rw [ASt.killL_h, if_neg hbL, hbs]; simp
  simp only [↓Bt, Bu, simprocAttr, ↓C.q15_W, C.q15_B, C.q15, hbs]
  refine ACalls.frzBox hr2 hbs hbL ?_
  rw [set_as_new _ hbs2]
  have hle4 : st.le ((s6.killL (i0 :: ([] ++ (i1 :: ([] ++ (i2 :: ([] ++ (i4 :: ((i3 :: ([] ++ [])) ++ []))))))))).kill ib) := fun j o hj => by
    rw [ASt.kill_h, if_neg (by rintro rfl; rw [hb] at hj; cases hj)]; exact hle3 _ _ hj
  refine (hnew (by rw [ASt.kill_h, if_pos rfl]) soc12_like).mono ?_
  rintro r s7 ⟨a, rfl, h⟩
  have h' := h.less hle4
  simp only [↓Bt, Bu, simprocAttr, ↓C.q15_W, C.q15_B, C.q15]
  refine (htick h' (fun i hi t ht => by cases ht) (by decide) (by decide) 0).mono ?_
  rintro r s8 ⟨rfl, h8⟩
  simp only [↓Bt, Bu, simprocAttr, ↓C.q15_W, C.q15_B, C.q15]
  obtain ⟨T, h9⟩ := h8
  have ha : ((HV.fresh soc12).tick soc12 0).aliveI soc12 0 = false := rfl
  refine (halive h9 0).mono ?_
  rintro r s9 ⟨rfl, rfl⟩
  rw [ha]
  simp only [↓Bt, Bu, simprocAttr, ↓C.q15_W, C.q15_B, C.q15]
  have hg : 0 < ((HV.fresh soc12).tick soc12 0).gs.length := by decide
  have hu : upE ((HV.fresh soc12).tick soc12 0).gs 0 hg = 0 := rfl
  have hun := hup_at h9 hg
  rw [hu] at hun
  refine hun.mono ?_
  rintro r s10 ⟨rfl, h10⟩
  simp only [↓Bt, Bu, simprocAttr, ↓C.q15_W, C.q15_B, C.q15]
  refine (hrunning h10 0).mono ?_
  rintro r s11 ⟨rfl, rfl⟩
  have hrn : runI ((HV.fresh soc12).tick soc12 0).ns 0 = true := rfl
  simp only [↓Bt, Bu, simprocAttr, ↓C.q15_W, C.q15_B, C.q15, hrn]
  exact h10.c.le
/- The chip: what waits at one device. -/
set_option maxRecDepth 100000

theorem filterMap_one {β : Type} {f : Nat → Option β} {k : Nat} {y : β} (hy : f k = some y) : ∀ n, k < n → (∀ i, i ≠ k → f i = none) → (List.range n).filterMap f = [y]
  | 0, h, _ => by omega
  | n + 1, h, hp => by
    rw [List.range_succ, List.filterMap_append]
    by_cases e : k = n
    · subst e
      have : (List.range k).filterMap f = [] := List.filterMap_eq_nil_iff.mpr fun i hi => hp i (by have := List.mem_range.mp hi; omega)
      rw [this]; simp [hy]
    · rw [filterMap_one hy n (by omega) hp]
      simp [hp n (Ne.symm e)]
structure QS (S : Soc) (v : HV) (d : Nat) (q : List Txn) : Prop where
  calm : v.calm
  others : ∀ i, i ≠ d → v.Q i = []
  at_ : v.Q d = q
  ni : NW v.ns
  still : StillA v.gs
section
variable {st s : ASt} {ib : Nat} {a : HA} {S : Soc} {v v0 : HV} {q : List Txn} {t : Txn} {d : Nat}
theorem QS.good (h : QS S v d []) (hn : NI v.ns) : HGood S v := ⟨fun i => by
  by_cases e : i = d
  · rw [e]; exact h.at_
  · exact h.others i e, h.calm, hn⟩
theorem HGood.qs (h : HGood S v) (hs : StillA v.gs) (d : Nat) : QS S v d [] := ⟨h.calm, fun i _ => h.none i, h.none d, h.ni.w, hs⟩
theorem QS.post (h : QS S v d q) (t : Txn) (p : Int) : QS S { v with Q := upF v.Q d (v.Q d ++ [t]), posted := p } d (q ++ [t]) :=
  ⟨h.calm, fun i hi => by simp only [upF_ne hi]; exact h.others i hi, by simp only [upF_at]; rw [h.at_], h.ni, h.still⟩
theorem QS.ok (h : QS S v d q) (hq : ∀ t ∈ q, ∀ (hd : d < S.devs.length), ∃ k : Nat, t.reg = (k : Int) ∧ k < S.devs[d].regs.length) : QOk S v.Q := fun i hi t ht => by
  by_cases e : i = d
  · subst e; rw [h.at_] at ht; exact hq t ht hi
  · rw [h.others i e] at ht; cases ht
def ans1 (S : Soc) (v : HV) (d : Nat) (t : Txn) : Ans := if v.alive S d = true then ⟨t.id, d, false, (v.F d).now t.reg.toNat⟩ else ⟨t.id, d, true, clampOf S d⟩
theorem QS.told (h : QS S v d (t :: q)) (hd : d < S.devs.length) : v.told S S.devs.length = [ans1 S v d t] := by
  rw [HV.told]
  refine filterMap_one (k := d) ?_ _ hd fun i hi => ?_
  · rw [HV.ansOf, h.at_]; rfl
  · rw [HV.ansOf, h.others i hi]
theorem QS.told0 (h : QS S v d []) (hd : d < S.devs.length) : v.told S S.devs.length = [] := by
  refine told_none (fun i => ?_) _
  by_cases e : i = d
  · rw [e]; exact h.at_
  · exact h.others i e
theorem wrF_one (h : v.Q d = t :: q) : v.wrF S d = if v.alive S d = true then (v.F d).put t else v.F d := by rw [HV.wrF, h]
theorem QS.tick_eq (h : QS S v d q) (hd : d < S.devs.length) (n : Int) : v.tick S n = ({ v with Q := upF v.Q d q.tail, F := upF v.F d (v.wrF S d) } : HV).rest S := by
  have e1 : (fun i => if i < S.devs.length then (v.Q i).tail else v.Q i) = upF v.Q d q.tail := by
    funext i
    by_cases e : i = d
    · subst e; rw [upF_at, if_pos hd, h.at_]
    · rw [upF_ne e, h.others i e]; split <;> rfl
  have e2 : (fun i => if i < S.devs.length then v.wrF S i else v.F i) = upF v.F d (v.wrF S d) := by
    funext i
    by_cases e : i = d
    · subst e; rw [upF_at, if_pos hd]
    · rw [upF_ne e, HV.wrF, h.others i e]; split <;> rfl
  rw [HV.tick, HV.ansV, e1, e2, portV_calm (v := { v with Q := upF v.Q d q.tail, F := upF v.F d (v.wrF S d) }) h.calm]
theorem QS.tick (h : QS S v d q) (hN : NsOk v.ns) (hd : d < S.devs.length) (n : Int) : QS S (v.tick S n) d q.tail ∧ NI (v.tick S n).ns ∧ (v.tick S n).F d = v.wrF S d ∧ (v.tick S n).gs = v.gs ∧ (v.tick S n).posted = v.posted := by
  obtain ⟨e1, e2⟩ := h.still.tick
  rw [h.tick_eq hd]
  have hgs : gtickL v.gs = v.gs := e1
  refine ⟨⟨h.calm, fun i hi => ?_, ?_, (NI.tick hN h.ni).w, ?_⟩, NI.tick hN h.ni, ?_, e1, rfl⟩
  · show upF v.Q d q.tail i = []
    rw [upF_ne hi]; exact h.others i hi
  · show upF v.Q d q.tail d = _
    rw [upF_at]
  · show StillA (gtickL v.gs)
    rw [hgs]; exact h.still
  · show deedsF S (evs v.gs) (upF v.F d (v.wrF S d)) d = _
    rw [e2]
    show upF v.F d (v.wrF S d) d = _
    rw [upF_at]
theorem QS.alive (h : QS S v d q) (hN : NsOk v.ns) (hk : S.like) (hl : v.ns.length = S.clocks.length) (hd : d < S.devs.length) (n : Int) (ha : v.alive S d = true) : (v.tick S n).alive S d = true := by
  obtain ⟨e1, e2⟩ := h.still.tick
  rw [h.tick_eq hd]
  have hck := (hk.dev d hd).clock
  obtain ⟨ck, hc⟩ : ∃ ck : Nat, S.devs[d].clock = (ck : Int) := ⟨S.devs[d].clock.toNat, by omega⟩
  have hcl : ck < v.ns.length := by omega
  rw [alive_at hd, Bool.and_eq_true, Bool.and_eq_true] at ha ⊢
  obtain ⟨a1, a2, a3⟩ := ha
  refine ⟨?_, ?_, ?_⟩
  · show runI (ctickL v.ns) _ = true
    rw [hc] at a1 ⊢
    rw [runI, if_pos (isCk_at hcl), Int.toNat_natCast] at a1
    rw [runI, if_pos (isCk_at (by rw [ctickL_len]; exact hcl)), Int.toNat_natCast]
    exact run_tick hN h.ni ck hcl a1
  · show decide (phI (gtickL v.gs) _ = 49) = true
    rw [e1]; exact a2
  · show (!heldI (tickL v.ls) _) = true
    rw [held_tick _ (by simpa using a3)]; rfl
theorem HGood.fresh (hk : S.like) : HGood S (HV.fresh S) ∧ StillA (HV.fresh S).gs := by
  refine ⟨⟨fun _ => rfl, fun _ => rfl, NI.fresh hk.clk⟩, fun x hx => ?_⟩
  have hx' : x < (gfresh S.doms).length := hx
  have : (gfresh S.doms)[x].phase = 48 := by simp [gfresh]
  exact .inl this
theorem fresh_ph (hk : S.like) {x : Nat} (hx : x < S.doms.length) : phN (HV.fresh S).gs x = 48 := by
  have hx' : x < (gfresh S.doms).length := by rw [gfresh_len]; exact hx
  show phN (gfresh S.doms) x = 48
  rw [phN_at hx']; simp [gfresh]
theorem resets_at {R : List Reg} {k : Nat} (h : k < R.length) : resets R k = R[k].reset := by simp [resets, h]
end
/- The chip: acts at one device. -/
set_option maxRecDepth 100000

section
variable {S : Soc}
theorem dev_regs {d : Nat} (hd : d < S.devs.length) : (S.devs.flatMap Dev.cells)[d * 6 + 4]? = some (.isl 2 (flat S.devs[d].regs) S.devs[d].regs.length) := rows_get Dev.cells Dev.cells_len hd (j := 4) (by omega)
theorem dev_clamp {d : Nat} (hd : d < S.devs.length) : (S.devs.flatMap Dev.cells)[d * 6 + 3]? = some (.int .u32 S.devs[d].clamp) := rows_get Dev.cells Dev.cells_len hd (j := 3) (by omega)
theorem dev_rst {d : Nat} (hd : d < S.devs.length) : (S.devs.flatMap Dev.cells)[d * 6 + 2]? = some (.int .i64 S.devs[d].rst) := rows_get Dev.cells Dev.cells_len hd (j := 2) (by omega)
theorem reg_reset {R : List Reg} {k : Nat} (hk : k < R.length) : (flat R)[k * 2]? = some (.int .u32 R[k].reset) := rows_get0 encReg encReg_len hk (by omega)
end
section
variable {st s : ASt} {ib : Nat} {a : HA} {S : Soc} {v : HV} {q : List Txn} {d : Nat}
def regsOk (S : Soc) (d : Nat) (q : List Txn) : Prop := ∀ t ∈ q, ∀ (hd : d < S.devs.length), ∃ k : Nat, t.reg = (k : Int) ∧ k < S.devs[d].regs.length
structure Posted (v v' : HV) : Prop where
  F : v'.F = v.F
  gs : v'.gs = v.gs
  ns : v'.ns = v.ns
  ls : v'.ls = v.ls
  posted : v'.posted = IntKind.i64.wrap (v.posted + 1)
theorem Posted.alive {v' : HV} (h : Posted v v') (S : Soc) (i : Nat) : v'.alive S i = v.alive S i := by
  unfold HV.alive; rw [h.gs, h.ns, h.ls]
theorem act_post (h : HX st s ib a S v) (hq : QS S v d q) (hd : d < S.devs.length) (hd4 : d < 4) {k : Nat} (hk : k < S.devs[d].regs.length) (hk4 : k < 4) (hl : q.length < 4) (w : Bool) (x : Int) :
    ACalls Tryz.prog F.q87 [.ptr a.hp 0, .int .u32 (addrV d k), .bool w, .int .u32 x] s fun r s' => r = .tup [.int .i64 v.posted, .int .i64 0] ∧ ∃ v', HX st s' ib a S v' ∧ QS S v' d (q ++ [⟨v.posted, w, (k : Int), x⟩]) ∧ Posted v v' :=
  (hpost h hd hk hd4 hk4 w x (hq.calm d) (by rw [hq.at_]; exact hl)).mono fun r s' ⟨h1, h2⟩ => ⟨h1, _, h2, hq.post _ _, ⟨rfl, rfl, rfl, rfl, rfl⟩⟩
structure Ticked (S : Soc) (d : Nat) (q : List Txn) (v v' : HV) : Prop where
  qs : QS S v' d q.tail
  ni : NI v'.ns
  F : v'.F d = v.wrF S d
  gs : v'.gs = v.gs
  posted : v'.posted = v.posted
  alive : v.alive S d = true → v'.alive S d = true
  ls : v'.ls = tickL v.ls
  ns : v'.ns = ctickL v.ns
theorem ans1_live {t : Txn} (h : v.alive S d = true) : ansL [ans1 S v d t] = .isl 4 [.int .i64 t.id, .int .i64 d, .bool false, .int .u32 ((v.F d).now t.reg.toNat)] 1 := by rw [ans1, if_pos h]; rfl
end
/- The chip: HardResets, what its loops keep. -/
set_option maxRecDepth 100000

section
variable {st s : ASt} {ib : Nat} {a : HA} {S : Soc} {v v' : HV} {d : Nat}
theorem Woke.lives {cs : List Nat} (h : Woke S v v' cs d) (hk : S.like) (hl : v.ns.length = S.clocks.length) (hl' : v'.ns.length = S.clocks.length) (hg : v.gs.length = S.doms.length) (hg' : v'.gs.length = S.doms.length) {j : Nat} (hj : j < S.devs.length) (ha : v.alive S j = true) : v'.alive S j = true := by
  have hck := (hk.dev j hj).clock
  have hdm := (hk.dev j hj).dom
  obtain ⟨ck, hc⟩ : ∃ ck : Nat, S.devs[j].clock = (ck : Int) := ⟨S.devs[j].clock.toNat, by omega⟩
  obtain ⟨dm, hd⟩ : ∃ dm : Nat, S.devs[j].dom = (dm : Int) := ⟨S.devs[j].dom.toNat, by omega⟩
  rw [alive_at hj, Bool.and_eq_true, Bool.and_eq_true] at ha ⊢
  obtain ⟨a1, a2, a3⟩ := ha
  have hcl : ck < v.ns.length := by omega
  refine ⟨?_, ?_, ?_⟩
  · rw [hc] at a1 ⊢
    rw [runI, if_pos (isCk_at hcl), Int.toNat_natCast] at a1
    rw [runI, if_pos (isCk_at (by omega)), Int.toNat_natCast]
    exact h.mono.run ck hcl a1
  · rw [hd, phI_nat (by omega), decide_eq_true_eq] at a2
    rw [hd, phI_nat (by omega), decide_eq_true_eq, h.ph]
    split
    · rfl
    · exact a2
  · rw [h.mono.held _ (by simpa using a3)]; rfl
structure Awake (S : Soc) (v : HV) (n : Nat) : Prop where
  good : HGood S v
  still : StillA v.gs
  alive : ∀ j, j < n → j < S.devs.length → v.alive S j = true
  ph : ∀ x, x < v.gs.length → phN v.gs x = 48 ∨ phN v.gs x = 49
theorem Awake.more {cs : List Nat} {n : Nat} (h : Awake S v n) (hk : S.like) (hx : HX st s ib a S v) {s' : ASt} (hx' : HX st s' ib a S v') (hW : Woke S v v' cs n) : Awake S v' (n + 1) := by
  obtain ⟨T, q⟩ := hx
  obtain ⟨T', q'⟩ := hx'
  refine ⟨hW.good, hW.still, fun j hj hjl => ?_, fun x hxl => ?_⟩
  · by_cases e : j = n
    · subst e; exact hW.alive
    · exact hW.lives hk q.c.kof.len q'.c.kof.len q.c.ginv.len q'.c.ginv.len hjl (h.alive j (by omega) hjl)
  · rw [hW.ph]
    split
    · exact .inr rfl
    · exact h.ph x (by rw [q.c.ginv.len, ← q'.c.ginv.len]; exact hxl)
theorem act_tick2 {q : List Txn} (hk : S.like) (h : HX st s ib a S v) (hq : QS S v d q) (hd : d < S.devs.length) (hr : regsOk S d q) :
    ACalls Tryz.prog F.q90 [.ptr a.hp 0, .int .u32 0] s fun r s' => r = ansL (match q with | [] => [] | t :: _ => [ans1 S v d t]) ∧ ∃ v', HX st s' ib a S v' ∧ Ticked S d q v v' ∧ v'.F = upF v.F d (v.wrF S d) ∧ v'.ns = ctickL v.ns := by
  have n4 := hk.nv; have n3 := hk.nr
  have hN : NsOk v.ns := h.elim fun _ h => h.c.kof.ok
  have hl : v.ns.length = S.clocks.length := h.elim fun _ h => h.c.kof.len
  refine (htick h (hq.ok hr) n4.2 (by omega) 0).mono fun r s' ⟨h1, h2⟩ => ⟨?_, _, h2, ?_, ?_, ?_⟩
  · rw [h1]
    cases q with
    | nil => rw [hq.told0 hd]
    | cons t q => rw [hq.told hd]
  · obtain ⟨q1, q2, q3, q4, q5⟩ := hq.tick hN hd 0
    exact ⟨q1, q2, q3, q4, q5, hq.alive hN hk hl hd 0, by rw [hq.tick_eq hd]; rfl, by rw [hq.tick_eq hd]; rfl⟩
  · rw [hq.tick_eq hd]
    show deedsF S (evs v.gs) (upF v.F d (v.wrF S d)) = _
    rw [hq.still.tick.2]; rfl
  · rw [hq.tick_eq hd]; rfl
theorem tick_lives (hk : S.like) (hx : HX st s ib a S v) (hs : StillA v.gs) (hW : NW v.ns) (h1 : v'.ns = ctickL v.ns) (h2 : v'.gs = v.gs) (h3 : v'.ls = tickL v.ls) {j : Nat} (hj : j < S.devs.length) (ha : v.alive S j = true) : v'.alive S j = true := by
  obtain ⟨T, q⟩ := hx
  have hN := q.c.kof.ok
  have hck := (hk.dev j hj).clock
  have hl := q.c.kof.len
  obtain ⟨ck, hc⟩ : ∃ ck : Nat, S.devs[j].clock = (ck : Int) := ⟨S.devs[j].clock.toNat, by omega⟩
  have hcl : ck < v.ns.length := by omega
  rw [alive_at hj, Bool.and_eq_true, Bool.and_eq_true] at ha ⊢
  obtain ⟨a1, a2, a3⟩ := ha
  refine ⟨?_, by rw [h2]; exact a2, ?_⟩
  · rw [h1]
    rw [hc] at a1 ⊢
    rw [runI, if_pos (isCk_at hcl), Int.toNat_natCast] at a1
    rw [runI, if_pos (isCk_at (by rw [ctickL_len]; exact hcl)), Int.toNat_natCast]
    exact run_tick hN hW ck hcl a1
  · rw [h3, held_tick _ (by simpa using a3)]; rfl
end
/- The chip: HardResets, the reads at its end. -/
set_option maxRecDepth 100000

section
variable {st s : ASt} {ib : Nat} {a : HA} {S : Soc} {v : HV} {d rn : Nat} {w : Int}
structure Ends (S : Soc) (v : HV) (f : Nat → Int) : Prop where
  good : HGood S v
  still : StillA v.gs
  alive : ∀ j, j < S.devs.length → v.alive S j = true
  now : ∀ j (h : j < S.devs.length), 0 < S.devs[j].regs.length → (v.F j).now 0 = f j
theorem ends_tick {f : Nat → Int} {q : List Txn} {v' : HV} {j : Nat} (hk : S.like) (hx : HX st s ib a S v) (hq : QS S v j q) (hT : Ticked S j q v v') (hF : v'.F = upF v.F j (v.wrF S j)) (hns : v'.ns = ctickL v.ns) (hql : q.tail = []) (ha : ∀ j, j < S.devs.length → v.alive S j = true)
    (hnow : ∀ i (h : i < S.devs.length), 0 < S.devs[i].regs.length → ((upF v.F j (v.wrF S j)) i).now 0 = f i) : Ends S v' f := by
  have hqs := hT.qs
  rw [hql] at hqs
  exact ⟨hqs.good hT.ni, hqs.still, fun i hi => tick_lives hk hx hq.still hq.ni hns hT.gs hT.ls hi (ha i hi), fun i hi h0 => by rw [hF]; exact hnow i hi h0⟩
set_option maxHeartbeats 2000000 in
theorem resets_reads (hk : S.like) (hd : d < S.devs.length) (h : HX st s ib a S v) (hE : Ends S v fun j => if ((S.devs[j]?).map Dev.rst).getD 0 = (rn : Int) then resets (((S.devs[j]?).map Dev.regs).getD []) 0 else w) :
    awp Tryz.prog C.v8 (Post [.slot 6] fun r _ => r = .bool true) [(2, .int .u32 w), (8, .ptr ib 0), (9, .ptr a.hp 0), (11, .int .i64 d), (16, .int .i64 rn)] s := by
  have n4 := hk.nv
  obtain ⟨T, h0⟩ := h
  have hali : v.aliveI S (d : Int) = true := by rw [HV.aliveI, Int.toNat_natCast, hE.alive d hd]; simp
  simp only [↓Bt, Bu, simprocAttr, ↓C.z61, C.dp_b, C.dn_b]
  refine (halive h0 d).mono ?_
  rintro r t ⟨rfl, rfl⟩
  rw [hali]
  simp only [↓Bt, Bu, simprocAttr, ↓C.z64, C.bw_b, ↓C.z67, C.z11, ↓C.z58, C.bx_b, ↓C.z59, C.cb_b, ↓C.z60, C.b9_b, ↓C.z54, C.z10, ↓C.bp7_w, ↓C.brp_w, ↓C.gv_w, C.gv_b, ↓C.brs_w, ↓C.z61, C.dp_b, C.dn_b]
  refine awp_midB (fun _ : Unit => ([] : AFr)) (fun _ t => True) ?_ ?_
  rotate_left
  · rintro - t -
    simp only [↓Bt, Bu, simprocAttr, ↓C.g3_w, C.g3_b, ↓C.brg_w]
  refine awp_loopK (fun i : Nat => [(2, .int .u32 w), (8, .ptr ib 0), (9, .ptr a.hp 0), (16, .int .i64 rn), (18, .int .i64 i)]) (fun i t => i ≤ S.devs.length ∧ ∃ v, HX st t ib a S v ∧ Ends S v fun j => if ((S.devs[j]?).map Dev.rst).getD 0 = (rn : Int) then resets (((S.devs[j]?).map Dev.regs).getD []) 0 else w) (fun i => S.devs.length - i) 0 rfl ⟨Nat.zero_le _, v, ⟨T, h0⟩, hE⟩ ?_
  clear h0 hE hali
  rintro i t2 ⟨hi, v, h, hE⟩
  have hb : t2.h ib = some (.cells S.cells) := h.elim fun _ h => h.c.hb
  rw [Soc.cells, Soc.clkV, Soc.domV, Soc.rstV, Soc.devV] at hb
  by_cases hil : i < S.devs.length
  rotate_left
  · have hil' : ¬ (i : Int) < ((S.devs.length : Nat) : Int) := by omega
    simp only [↓Bt, Bu, simprocAttr, ↓C.z64, C.bw_b, ↓C.z67, C.z11, ↓C.z58, C.bx_b, ↓C.z59, C.cb_b, ↓C.z60, C.b9_b, ↓C.z54, C.z10, hb, hil']
    exact ⟨(), trivial⟩
  have hil' : (i : Int) < ((S.devs.length : Nat) : Int) := by omega
  have hwi := wsucc hil (by omega)
  have hzi : (0:Int) ≤ (i : Int) ∧ (i : Int) < ((S.devs.length : Nat) : Int) := by omega
  have hgr := dev_regs hil
  have hgs := dev_rst hil
  have hi4 : i < 4 := by omega
  by_cases hr0 : S.devs[i].regs.length = 0
  · have hr0' : ((S.devs[i].regs.length : Nat) : Int) = 0 := by omega
    simp only [↓Bt, Bu, simprocAttr, ↓C.z54, C.z10, hb, hil', hzi, Int.toNat_natCast, hgr, hr0']
    simp only [↓Bt, Bu, simprocAttr, ↓C.z64, C.bw_b, hwi]
    exact ⟨i + 1, rfl, ⟨hil, v, h, hE⟩, by omega⟩
  have hr0' : ¬ ((S.devs[i].regs.length : Nat) : Int) = 0 := by omega
  have hrp : 0 < S.devs[i].regs.length := by omega
  have q0 := hE.good.qs hE.still i
  simp only [↓Bt, Bu, simprocAttr, ↓C.z60, C.b9_b, ↓C.z54, C.z10, hb, hil', hzi, Int.toNat_natCast, hgr, hr0']
  refine (address_spec (d := i) (k := 0) hi4 (by decide)).mono ?_
  rintro r t3 ⟨rfl, rfl⟩
  simp only [↓Bt, Bu, simprocAttr, ↓C.z59, C.cb_b, ↓C.z60, C.b9_b]
  refine (act_post h q0 hil hi4 hrp (by decide) (by decide) false 0).mono ?_
  rintro r t4 ⟨rfl, v5, h5, q5, p5⟩
  rw [List.nil_append] at q5
  have al5 : ∀ j, j < S.devs.length → v5.alive S j = true := fun j hj => by rw [p5.alive]; exact hE.alive j hj
  have hnow := hE.now i hil hrp
  simp only [List.getElem?_eq_getElem hil, Option.map_some, Option.getD_some] at hnow
  have hF5 : v5.wrF S i = v.F i := by rw [wrF_one q5.at_, if_pos (al5 i hil), FSt.put, if_neg (by simp), p5.F]
  simp only [↓Bt, Bu, simprocAttr, ↓C.z58, C.bx_b, ↓C.z59, C.cb_b]
  refine (act_tick2 hk h5 q5 hil (fun t ht _ => by rw [List.mem_singleton] at ht; subst ht; exact ⟨0, rfl, hrp⟩)).mono ?_
  rintro r t5 ⟨rfl, v6, h6, k6, f6, n6⟩
  simp only [ans1_live (al5 i hil)]
  have e6 : (v5.F i).now ((0 : Nat) : Int).toNat = (v.F i).now 0 := by rw [p5.F]; rfl
  have hE6 : Ends S v6 fun j => if ((S.devs[j]?).map Dev.rst).getD 0 = (rn : Int) then resets (((S.devs[j]?).map Dev.regs).getD []) 0 else w := ends_tick hk h5 q5 k6 f6 n6 rfl al5 fun j hj h0 => by
    by_cases e : j = i
    · subst e; rw [upF_at, hF5]; exact hE.now j hj h0
    · rw [upF_ne e, p5.F]; exact hE.now j hj h0
  rw [e6, hnow]
  have hb6 : t5.h ib = some (.cells S.cells) := h6.elim fun _ h => h.c.hb
  rw [Soc.cells, Soc.clkV, Soc.domV, Soc.rstV, Soc.devV] at hb6
  have hrr := reg_reset hrp
  have hz0 : (0:Int) ≤ 0 ∧ (0 : Int) < ((S.devs[i].regs.length : Nat) : Int) := by omega
  by_cases hrs : S.devs[i].rst = (rn : Int)
  · rw [hrs] at hgs
    rw [if_pos hrs, resets_at hrp]
    simp only [↓Bt, Bu, simprocAttr, ↓C.z67, C.z11, ↓C.z58, C.bx_b, hb6, hzi, Int.toNat_natCast, hgr, hgs, hz0, hrr, Nat.add_zero, Nat.zero_add, Nat.zero_mul]
    simp only [↓Bt, Bu, simprocAttr, ↓C.z64, C.bw_b, hwi]
    exact ⟨i + 1, rfl, ⟨hil, v6, h6, hE6⟩, by omega⟩
  · rw [if_neg hrs]
    simp only [↓Bt, Bu, simprocAttr, ↓C.z67, C.z11, ↓C.z58, C.bx_b, hb6, hzi, Int.toNat_natCast, hgr, hgs, hrs, Nat.add_zero]
    simp only [↓Bt, Bu, simprocAttr, ↓C.z64, C.bw_b, hwi]
    exact ⟨i + 1, rfl, ⟨hil, v6, h6, hE6⟩, by omega⟩
end
end Go.Proofs.YtdmfgodajoojpaaGreatDoor.Cn
