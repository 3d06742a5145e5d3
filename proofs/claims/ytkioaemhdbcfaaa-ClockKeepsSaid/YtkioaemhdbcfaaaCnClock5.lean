/- Clocks: how fast they are. -/
import Derived.Test.YtkioaemhdbcfaaaCnClock4
set_option linter.unusedSimpArgs false
set_option linter.unusedVariables false
namespace Go.Proofs.Ytkioaemhdbcfaaa.Cn
open Go Go.Proofs

theorem wrapU {n : Int} (h0 : 0 ≤ n) (h1 : n ≤ 18446744073709551615) : IntKind.u64.wrap n = n := by
  have e : IntKind.bits .u64 = 64 := rfl
  have hs : IntKind.signed .u64 = false := rfl
  simp only [IntKind.wrap, e, hs, Bool.false_and, Bool.false_eq_true, if_false]
  omega
def scE (r m d : Int) : Int := if 1099511627776 < r * m / d then 3 else 0
def scV (r m d : Int) : Int := if 1099511627776 < r * m / d then 0 else r * m / d
theorem factor_spec {st : ASt} {n : Int} (h : 1 ≤ n ∧ n ≤ 1000) : ACalls Try.prog F.q74 [.int .i64 n] st fun r s => r = .bool true ∧ s = st := by
  refine calls_of_awp L.q74 rfl ?_
  have T1 := eq_true h.1
  have T2 := eq_true h.2
  simp only [↓Bp, Bq, Bs, ↓aop.eq_28, ↓aop.eq_30, Nat.reduceEqDiff, Nat.reduceAdd, Nat.reduceMul, Nat.reduceSub, Nat.reduceLeDiff, Nat.reduceLT, Int.reduceLT, Int.reduceLE, Int.reduceEq, Int.reduceToNat, Int.reduceAdd, Int.reduceSub, Int.reduceNeg, ↓reduceIte, reduceCtorEq, ↓C.q74_W, C.q74_B, C.q74, ge_iff_le, T1, T2]
theorem scale_spec {st : ASt} {r m d : Int} (hr : 0 ≤ r ∧ r ≤ 1099511627776) (hm : 1 ≤ m ∧ m ≤ 1000) (hd : 1 ≤ d ∧ d ≤ 1000) :
    ACalls Try.prog F.q73 [.int .u64 r, .int .i64 m, .int .i64 d] st fun v s => v = .tup [.int .u64 (scV r m d), .int .i64 (scE r m d)] ∧ s = st := by
  refine calls_of_awp L.q73 rfl ?_
  have T1 := eq_false (show ¬ 1099511627776 < r by omega)
  simp only [↓Bp, Bq, Bs, ↓aop.eq_28, ↓aop.eq_30, Nat.reduceEqDiff, Nat.reduceAdd, Nat.reduceMul, Nat.reduceSub, Nat.reduceLeDiff, Nat.reduceLT, Int.reduceLT, Int.reduceLE, Int.reduceEq, Int.reduceToNat, Int.reduceAdd, Int.reduceSub, Int.reduceNeg, ↓reduceIte, reduceCtorEq, ↓C.q73_W, C.q73_B, C.q73, gt_iff_lt, T1]
  refine (factor_spec hm).mono ?_
  rintro v s ⟨rfl, rfl⟩
  simp only [↓Bp, Bq, Bs, ↓aop.eq_28, ↓aop.eq_30, Nat.reduceEqDiff, Nat.reduceAdd, Nat.reduceMul, Nat.reduceSub, Nat.reduceLeDiff, Nat.reduceLT, Int.reduceLT, Int.reduceLE, Int.reduceEq, Int.reduceToNat, Int.reduceAdd, Int.reduceSub, Int.reduceNeg, ↓reduceIte, reduceCtorEq, ↓C.q73_W, C.q73_B, C.q73]
  refine (factor_spec hd).mono ?_
  rintro v s ⟨rfl, rfl⟩
  have hrm0 : 0 ≤ r * m := Int.mul_nonneg hr.1 (by omega)
  have hrm1 : r * m ≤ 1099511627776 * 1000 := Int.mul_le_mul hr.2 hm.2 (by omega) (by omega)
  have wm : IntKind.u64.wrap m = m := wrapU (by omega) (by omega)
  have wd : IntKind.u64.wrap d = d := wrapU (by omega) (by omega)
  have wrm : IntKind.u64.wrap (r * m) = r * m := wrapU hrm0 (by omega)
  have hq : (r * m).tdiv d = r * m / d := Int.tdiv_eq_ediv_of_nonneg hrm0
  have hq0 : 0 ≤ r * m / d := Int.ediv_nonneg hrm0 (by omega)
  have hq1 : r * m / d ≤ r * m := Int.ediv_le_self _ hrm0
  have wq : IntKind.u64.wrap (r * m / d) = r * m / d := wrapU hq0 (by omega)
  have hd0 := eq_false (show ¬ d = 0 by omega)
  unfold scV scE
  by_cases h : 1099511627776 < r * m / d
  · have T := eq_true h
    rw [if_pos h, if_pos h]
    simp only [↓Bp, Bq, Bs, ↓aop.eq_28, ↓aop.eq_30, Nat.reduceEqDiff, Nat.reduceAdd, Nat.reduceMul, Nat.reduceSub, Nat.reduceLeDiff, Nat.reduceLT, Int.reduceLT, Int.reduceLE, Int.reduceEq, Int.reduceToNat, Int.reduceAdd, Int.reduceSub, Int.reduceNeg, ↓reduceIte, reduceCtorEq, ↓C.q73_W, C.q73_B, C.q73, wm, wd, wrm, hq, wq, hd0, gt_iff_lt, T]
  · have T := eq_false h
    rw [if_neg h, if_neg h]
    simp only [↓Bp, Bq, Bs, ↓aop.eq_28, ↓aop.eq_30, Nat.reduceEqDiff, Nat.reduceAdd, Nat.reduceMul, Nat.reduceSub, Nat.reduceLeDiff, Nat.reduceLT, Int.reduceLT, Int.reduceLE, Int.reduceEq, Int.reduceToNat, Int.reduceAdd, Int.reduceSub, Int.reduceNeg, ↓reduceIte, reduceCtorEq, ↓C.q73_W, C.q73_B, C.q73, wm, wd, wrm, hq, wq, hd0, gt_iff_lt, T]
theorem scV_le {r m d : Int} (hr : 0 ≤ r * m) (hd : 1 ≤ d) : 0 ≤ scV r m d ∧ scV r m d ≤ 1099511627776 := by
  unfold scV; split
  · omega
  · have := Int.ediv_nonneg hr (show 0 ≤ d by omega); omega
/-- How fast a node is, from what it comes. -/
def Nd.speed (n : Nd) (r : Int) : Int := if n.c.kind = 112 then (if scE r n.c.mul n.c.div = 0 then scV r n.c.mul n.c.div else 1099511627776) else if n.c.kind = 100 then r / n.by_ else r
def rateF (ns : List Nd) : Nat → Nat → Int
  | 0, _ => 0
  | f + 1, i => if h : i < ns.length then (if ns[i].c.kind = 111 then ns[i].c.rate else ns[i].speed (rateF ns f ns[i].source.toNat)) else 0
def rateN (ns : List Nd) (i : Nat) : Int := rateF ns (i + 1) i
section
variable {st : ASt} {p ig : Nat} {ns : List Nd}
theorem rateF_same (hN : NsOk ns) : ∀ (f g i : Nat), i < f → i < g → rateF ns f i = rateF ns g i
  | 0, _, _, h, _ => by omega
  | _, 0, _, _, h => by omega
  | f + 1, g + 1, i, h1, h2 => by
    rw [rateF, rateF]
    by_cases hi : i < ns.length
    · rw [dif_pos hi, dif_pos hi]
      by_cases hk : ns[i].c.kind = 111
      · rw [if_pos hk, if_pos hk]
      · obtain ⟨x, e1, e2, _⟩ := (hN i hi).low hk
        rw [if_neg hk, if_neg hk, e1, Int.toNat_natCast, rateF_same hN f g x (by omega) (by omega)]
    · rw [dif_neg hi, dif_neg hi]
theorem rateN_eq (hN : NsOk ns) {i : Nat} (hi : i < ns.length) : rateN ns i = if ns[i].c.kind = 111 then ns[i].c.rate else ns[i].speed (rateN ns ns[i].source.toNat) := by
  rw [rateN, rateF, dif_pos hi]
  by_cases hk : ns[i].c.kind = 111
  · rw [if_pos hk, if_pos hk]
  · obtain ⟨x, e1, e2, _⟩ := (hN i hi).low hk
    rw [if_neg hk, if_neg hk, e1, Int.toNat_natCast, rateN, rateF_same hN i (x + 1) x (by omega) (by omega)]
theorem Nd.speed_le {i : Nat} {n : Nd} (h : NdOk i n) {r : Int} (hr : 0 ≤ r ∧ r ≤ 1099511627776) : 0 ≤ n.speed r ∧ n.speed r ≤ 1099511627776 := by
  unfold Nd.speed
  split
  · rename_i hk
    have hf := h.fac hk
    split
    · exact scV_le (Int.mul_nonneg hr.1 (by omega)) hf.2.1
    · omega
  · split
    · rename_i hk
      have hb := h.by_ hk
      have h1 := Int.ediv_nonneg hr.1 (show 0 ≤ n.by_ by omega)
      have h2 := Int.ediv_le_self n.by_ hr.1
      omega
    · exact hr
theorem rateN_le (hN : NsOk ns) : ∀ i : Nat, i < ns.length → 0 ≤ rateN ns i ∧ rateN ns i ≤ 1099511627776 := by
  intro i
  induction i using Nat.strongRecOn with
  | _ i ih =>
  intro hi
  rw [rateN_eq hN hi]
  by_cases hk : ns[i].c.kind = 111
  · rw [if_pos hk]; have := (hN i hi).rate; omega
  · obtain ⟨x, e1, e2, _⟩ := (hN i hi).low hk
    rw [if_neg hk, e1, Int.toNat_natCast]
    exact Nd.speed_le (hN i hi) (ih x e2 (by omega))
set_option maxHeartbeats 2000000 in
theorem fast_spec (h : TreeAt st p ig ns) (hN : NsOk ns) {b2 b5 : Nat} (h2 : st.h b2 = some (.cells [.ptr p 0])) (h5 : st.h b5 = some (.cells [.fn F.q10 [.ptr b2 0, .ptr b5 0]])) :
    ∀ i : Nat, i < ns.length → ACalls Try.prog F.q10 [.int .i64 i, .ptr b2 0, .ptr b5 0] st fun r s => r = .int .u64 (rateN ns i) ∧ s = st := by
  intro i
  induction i using Nat.strongRecOn with
  | _ i ih =>
  intro hi
  refine calls_of_awp L.q10 rfl ?_
  have hp := h.hp
  have hg := h.hg
  rw [nsC] at hg
  have ho := hN i hi
  have hz : (0:Int) ≤ (i : Int) ∧ (i : Int) < (ns.length : Nat) := by omega
  have g0 := ns_get hi (j := 0) (by omega)
  rw [show ns[i].cells[0]? = some (.int .u8 ns[i].c.kind) from rfl, Nat.add_zero] at g0
  have g2 := ns_get hi (j := 2) (by omega)
  rw [show ns[i].cells[2]? = some (.int .u64 ns[i].c.rate) from rfl] at g2
  have g3 := ns_get hi (j := 3) (by omega)
  rw [show ns[i].cells[3]? = some (.int .i64 ns[i].c.mul) from rfl] at g3
  have g4 := ns_get hi (j := 4) (by omega)
  rw [show ns[i].cells[4]? = some (.int .i64 ns[i].c.div) from rfl] at g4
  have g10 := ns_get hi (j := 10) (by omega)
  rw [show ns[i].cells[10]? = some (.int .i64 ns[i].by_) from rfl] at g10
  rw [rateN_eq hN hi]
  by_cases k1 : ns[i].c.kind = 111
  · rw [if_pos k1]
    rw [k1] at g0
    simp only [↓Bp, Bq, Bs, ↓aop.eq_28, ↓aop.eq_30, Nat.reduceEqDiff, Nat.reduceAdd, Nat.reduceMul, Nat.reduceSub, Nat.reduceLeDiff, Nat.reduceLT, Int.reduceLT, Int.reduceLE, Int.reduceEq, Int.reduceToNat, Int.reduceAdd, Int.reduceSub, Int.reduceNeg, ↓reduceIte, reduceCtorEq, ↓C.q10_W, C.q10_B, C.q10, h2, hp, hg, hz, g0, g2, Int.toNat_natCast]
  obtain ⟨x, e1, e2, e3⟩ := ho.low k1
  have hxl : x < ns.length := by omega
  have hx := ih x e2 hxl
  have hxr := rateN_le hN x hxl
  have T1 := eq_false k1
  rw [if_neg k1, e1, Int.toNat_natCast]
  simp only [↓Bp, Bq, Bs, ↓aop.eq_28, ↓aop.eq_30, Nat.reduceEqDiff, Nat.reduceAdd, Nat.reduceMul, Nat.reduceSub, Nat.reduceLeDiff, Nat.reduceLT, Int.reduceLT, Int.reduceLE, Int.reduceEq, Int.reduceToNat, Int.reduceAdd, Int.reduceSub, Int.reduceNeg, ↓reduceIte, reduceCtorEq, ↓C.q10_W, C.q10_B, C.q10, h2, h5, hp, hg, hz, g0, T1, Int.toNat_natCast]
  refine (source_spec h hi ho).mono ?_
  rintro r s ⟨rfl, rfl⟩
  rw [e1]
  simp only [↓Bp, Bq, Bs, ↓aop.eq_28, ↓aop.eq_30, Nat.reduceEqDiff, Nat.reduceAdd, Nat.reduceMul, Nat.reduceSub, Nat.reduceLeDiff, Nat.reduceLT, Int.reduceLT, Int.reduceLE, Int.reduceEq, Int.reduceToNat, Int.reduceAdd, Int.reduceSub, Int.reduceNeg, ↓reduceIte, reduceCtorEq, ↓C.q10_W, C.q10_B, C.q10, h2, h5]
  refine ⟨by kernel_rfl, hx.mono ?_⟩
  rintro r s ⟨rfl, rfl⟩
  generalize rateN ns x = r at hxr
  unfold Nd.speed
  by_cases k2 : ns[i].c.kind = 112
  · rw [if_pos k2]
    rw [k2] at g0
    have hf := ho.fac k2
    simp only [↓Bp, Bq, Bs, ↓aop.eq_28, ↓aop.eq_30, Nat.reduceEqDiff, Nat.reduceAdd, Nat.reduceMul, Nat.reduceSub, Nat.reduceLeDiff, Nat.reduceLT, Int.reduceLT, Int.reduceLE, Int.reduceEq, Int.reduceToNat, Int.reduceAdd, Int.reduceSub, Int.reduceNeg, ↓reduceIte, reduceCtorEq, ↓C.q10_W, C.q10_B, C.q10, hg, g0, g3, g4]
    refine (scale_spec hxr hf.1 hf.2).mono ?_
    rintro v s ⟨rfl, rfl⟩
    by_cases hE : scE r ns[i].c.mul ns[i].c.div = 0
    · have T := eq_true hE
      rw [if_pos hE]
      simp only [↓Bp, Bq, Bs, ↓aop.eq_28, ↓aop.eq_30, Nat.reduceEqDiff, Nat.reduceAdd, Nat.reduceMul, Nat.reduceSub, Nat.reduceLeDiff, Nat.reduceLT, Int.reduceLT, Int.reduceLE, Int.reduceEq, Int.reduceToNat, Int.reduceAdd, Int.reduceSub, Int.reduceNeg, ↓reduceIte, reduceCtorEq, ↓C.q10_W, C.q10_B, C.q10, T]
    · have T := eq_false hE
      rw [if_neg hE]
      simp only [↓Bp, Bq, Bs, ↓aop.eq_28, ↓aop.eq_30, Nat.reduceEqDiff, Nat.reduceAdd, Nat.reduceMul, Nat.reduceSub, Nat.reduceLeDiff, Nat.reduceLT, Int.reduceLT, Int.reduceLE, Int.reduceEq, Int.reduceToNat, Int.reduceAdd, Int.reduceSub, Int.reduceNeg, ↓reduceIte, reduceCtorEq, ↓C.q10_W, C.q10_B, C.q10, T]
  rw [if_neg k2]
  have T2 := eq_false k2
  by_cases k3 : ns[i].c.kind = 100
  · rw [if_pos k3]
    rw [k3] at g0
    have hb := ho.by_ k3
    have wb : IntKind.u64.wrap ns[i].by_ = ns[i].by_ := wrapU (by omega) (by omega)
    have hb0 := eq_false (show ¬ ns[i].by_ = 0 by omega)
    have hq : r.tdiv ns[i].by_ = r / ns[i].by_ := Int.tdiv_eq_ediv_of_nonneg hxr.1
    have hq0 := Int.ediv_nonneg hxr.1 (show 0 ≤ ns[i].by_ by omega)
    have hq1 := Int.ediv_le_self ns[i].by_ hxr.1
    have wq : IntKind.u64.wrap (r / ns[i].by_) = r / ns[i].by_ := wrapU hq0 (by omega)
    simp only [↓Bp, Bq, Bs, ↓aop.eq_28, ↓aop.eq_30, Nat.reduceEqDiff, Nat.reduceAdd, Nat.reduceMul, Nat.reduceSub, Nat.reduceLeDiff, Nat.reduceLT, Int.reduceLT, Int.reduceLE, Int.reduceEq, Int.reduceToNat, Int.reduceAdd, Int.reduceSub, Int.reduceNeg, ↓reduceIte, reduceCtorEq, ↓C.q10_W, C.q10_B, C.q10, hg, g0, g10, wb, hb0, hq, wq]
  · rw [if_neg k3]
    have T3 := eq_false k3
    simp only [↓Bp, Bq, Bs, ↓aop.eq_28, ↓aop.eq_30, Nat.reduceEqDiff, Nat.reduceAdd, Nat.reduceMul, Nat.reduceSub, Nat.reduceLeDiff, Nat.reduceLT, Int.reduceLT, Int.reduceLE, Int.reduceEq, Int.reduceToNat, Int.reduceAdd, Int.reduceSub, Int.reduceNeg, ↓reduceIte, reduceCtorEq, ↓C.q10_W, C.q10_B, C.q10, hg, g0, T2, T3]
theorem rate_spec (h : TreeAt st p ig ns) (hN : NsOk ns) {i : Nat} (hi : i < ns.length) : ACalls Try.prog F.q9 [.ptr p 0, .int .i64 i] st fun r s => r = .int .u64 (if run ns i = true then rateN ns i else 0) ∧ s = st := by
  refine ACalls.gc (Q' := fun r s => r = .int .u64 (if run ns i = true then rateN ns i else 0) ∧ st.le s) (calls_of_awp L.q9 rfl ?_) (fun v s ⟨h, hl⟩ => ⟨st, hl, h, rfl⟩)
  simp only [↓Bp, Bq, Bs, ↓aop.eq_28, ↓aop.eq_30, Nat.reduceEqDiff, Nat.reduceAdd, Nat.reduceMul, Nat.reduceSub, Nat.reduceLeDiff, Nat.reduceLT, Int.reduceLT, Int.reduceLE, Int.reduceEq, Int.reduceToNat, Int.reduceAdd, Int.reduceSub, Int.reduceNeg, ↓reduceIte, reduceCtorEq, ↓C.q9_W, C.q9_B, C.q9]
  rintro b2 hb2
  simp only [↓Bp, Bq, Bs, ↓aop.eq_28, ↓aop.eq_30, Nat.reduceEqDiff, Nat.reduceAdd, Nat.reduceMul, Nat.reduceSub, Nat.reduceLeDiff, Nat.reduceLT, Int.reduceLT, Int.reduceLE, Int.reduceEq, Int.reduceToNat, Int.reduceAdd, Int.reduceSub, Int.reduceNeg, ↓reduceIte, reduceCtorEq, ↓C.q9_W, C.q9_B, C.q9, hb2]
  have h2 := ASt.new_self (.cells [.ptr p 0]) hb2
  have hle := ASt.le.new st b2 (.cells [.ptr p 0])
  have hT := h.le hle
  generalize st.new b2 (.cells [.ptr p 0]) = s0 at h2 hle hT
  refine (running_at hT hN hi).mono ?_
  rintro r s ⟨rfl, rfl⟩
  cases hr : run ns i
  · rw [if_neg (by decide)]
    simp only [↓Bp, Bq, Bs, ↓aop.eq_28, ↓aop.eq_30, Nat.reduceEqDiff, Nat.reduceAdd, Nat.reduceMul, Nat.reduceSub, Nat.reduceLeDiff, Nat.reduceLT, Int.reduceLT, Int.reduceLE, Int.reduceEq, Int.reduceToNat, Int.reduceAdd, Int.reduceSub, Int.reduceNeg, ↓reduceIte, reduceCtorEq, ↓C.q9_W, C.q9_B, C.q9]
    exact hle
  rw [if_pos rfl]
  simp only [↓Bp, Bq, Bs, ↓aop.eq_28, ↓aop.eq_30, Nat.reduceEqDiff, Nat.reduceAdd, Nat.reduceMul, Nat.reduceSub, Nat.reduceLeDiff, Nat.reduceLT, Int.reduceLT, Int.reduceLE, Int.reduceEq, Int.reduceToNat, Int.reduceAdd, Int.reduceSub, Int.reduceNeg, ↓reduceIte, reduceCtorEq, ↓C.q9_W, C.q9_B, C.q9]
  rintro b5 hb5
  simp only [↓Bp, Bq, Bs, ↓aop.eq_28, ↓aop.eq_30, Nat.reduceEqDiff, Nat.reduceAdd, Nat.reduceMul, Nat.reduceSub, Nat.reduceLeDiff, Nat.reduceLT, Int.reduceLT, Int.reduceLE, Int.reduceEq, Int.reduceToNat, Int.reduceAdd, Int.reduceSub, Int.reduceNeg, ↓reduceIte, reduceCtorEq, hb5]
  refine ⟨by kernel_rfl, ?_⟩
  rw [ASt.new_set hb5]
  have hle5 := ASt.le.new s b5 (.cells [.fn F.q10 [.ptr b2 0, .ptr b5 0]])
  have hT5 := hT.le hle5
  have h25 := hle5 _ _ h2
  have h55 := ASt.new_self (.cells [.fn F.q10 [.ptr b2 0, .ptr b5 0]]) hb5
  refine (fast_spec hT5 hN h25 h55 i hi).mono ?_
  rintro r s2 ⟨rfl, rfl⟩
  simp only [↓Bp, Bq, Bs, ↓aop.eq_28, ↓aop.eq_30, Nat.reduceEqDiff, Nat.reduceAdd, Nat.reduceMul, Nat.reduceSub, Nat.reduceLeDiff, Nat.reduceLT, Int.reduceLT, Int.reduceLE, Int.reduceEq, Int.reduceToNat, Int.reduceAdd, Int.reduceSub, Int.reduceNeg, ↓reduceIte, reduceCtorEq, ↓C.q9_W, C.q9_B, C.q9]
  exact hle.trans hle5
end
end Go.Proofs.Ytkioaemhdbcfaaa.Cn
