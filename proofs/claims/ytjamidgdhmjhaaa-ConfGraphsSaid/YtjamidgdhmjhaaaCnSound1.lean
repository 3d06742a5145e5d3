/- The abstract layer, part 6: operations that only reckon or look are sound. -/
import Derived.Test.YtjamidgdhmjhaaaCnArg
import Derived.Shelf.Abstract
namespace Go.Proofs.Ytjamidgdhmjhaaa.Cn
open Go Go.RowKit

def Good (P : Program) (B : Nat) (w0 : World) (R : Nat → Prop) (wr : World) (C : ACx) (k : AV → ASt → Prop) : Result Next → Prop
  | .ok (.value rv) w' => ∃ C' v st', C.le C' ∧ ASim B w0 R wr C' st' w' ∧ VS C' v rv ∧ k v st'
  | .ok .skip w' => ∃ C' st', C.le C' ∧ ASim B w0 R wr C' st' w' ∧ k (.tup []) st'
  | .ok (.enter f args) w' => Calls P f args w' fun e w'' => ∃ C' v st' rv, C.le C' ∧ ASim B w0 R wr C' st' w'' ∧ e = .returned rv ∧ VS C' v rv ∧ k v st'
  | _ => False

section
variable {P : Program} {B : Nat} {w0 : World} {R : Nat → Prop} {wr : World} {C : ACx} {st : ASt} {w : World} {k : AV → ASt → Prop} {fr : AFr} {a : Act} {n : Nat}

theorem Good.val (s : ASim B w0 R wr C st w) {v : AV} {rv : Value} (h : VS C v rv) (hk : k v st) : Good P B w0 R wr C k (.ok (.value rv) w) :=
  ⟨C, v, st, .refl C, s, h, hk⟩

theorem run_v {s : Sem Value} {w' : World} {rv : Value} (h : s.run P w = .ok rv w') : (do pure (Next.value (← s)) : Sem Next).run P w = .ok (.value rv) w' := by
  simp [h]

theorem run_u {s : Sem Unit} {w' : World} (h : s.run P w = .ok () w') : (do s; pure Next.skip : Sem Next).run P w = .ok .skip w' := by
  simp [h]

theorem run_und {t : TypeId} {d : TypeDesc} (h : P.underlying t = some d) (w : World) : (underlying t).run P w = .ok d w := by
  simp [underlying, h]

theorem run_info {t : TypeId} {i : TypeInfo} (h : P.info? t = some i) (w : World) : (typeInfo t).run P w = .ok i w := by
  simp [typeInfo, h]

theorem run_size {t : TypeId} {i : TypeInfo} (h : P.info? t = some i) (w : World) : (sizeOf t).run P w = .ok i.size w := by
  simp [Go.sizeOf, run_info h]

theorem run_zero {t : TypeId} {i : TypeInfo} {z : Value} (h : P.info? t = some i) (hz : i.zero = some z) (w : World) : (zeroValue t).run P w = .ok z w := by
  simp [zeroValue, run_info h, hz]

theorem run_agg {t : TypeId} {d : TypeDesc} (h : P.underlying t = some d) (w : World) : (isAgg t).run P w = .ok (aggB P t) w := by
  unfold isAgg aggB
  simp only [Sem.run_bind, run_und h, Result.andThen_ok, h]
  split <;> first | rfl | (split <;> simp_all)

theorem VS.int_inv {v : Value} {kd : IntKind} {m : Int} (h : VS C (.int kd m) v) : v = .int kd m := by cases h; rfl
theorem VS.bool_inv {v : Value} {b : Bool} (h : VS C (.bool b) v) : v = .bool b := by cases h; rfl

theorem abin_sound {op : BinOp} {kd : IntKind} {x y : Int} {v : AV} (h : abin op kd x y = some v) (t : TypeId) (w : World) :
    ∃ rv, (Go.binOp op t (.int kd x) (.int kd y)).run P w = .ok rv w ∧ VS C v rv := by
  cases op <;> simp only [abin] at h
  case add => cases h; exact ⟨_, by simp [Go.binOp, Op.intArith], .int _ _⟩
  case sub => cases h; exact ⟨_, by simp [Go.binOp, Op.intArith], .int _ _⟩
  case mul => cases h; exact ⟨_, by simp [Go.binOp, Op.intArith], .int _ _⟩
  case quo =>
    split at h
    · cases h
    · rename_i hy; cases h; exact ⟨_, by simp [Go.binOp, Op.intDiv, hy], .int _ _⟩
  case rem =>
    split at h
    · cases h
    · rename_i hy; cases h; exact ⟨_, by simp [Go.binOp, Op.intDiv, hy], .int _ _⟩
  case and => cases h; exact ⟨_, by simp [Go.binOp, Op.intBits], .int _ _⟩
  case or => cases h; exact ⟨_, by simp [Go.binOp, Op.intBits], .int _ _⟩
  case xor => cases h; exact ⟨_, by simp [Go.binOp, Op.intBits], .int _ _⟩
  case andNot => cases h; exact ⟨_, by simp [Go.binOp, Op.intBits], .int _ _⟩
  case eql => cases h; exact ⟨.bool (decide (x = y)), by simp only [Go.binOp, Op.intCmp, ne_eq, not_true_eq_false, if_false, Sem.run_pure]; rw [Bool.beq_eq_decide_eq], .bool _⟩
  case neq => cases h; exact ⟨.bool (!decide (x = y)), by simp only [Go.binOp, Op.intCmp, ne_eq, not_true_eq_false, if_false, Sem.run_pure, bne, Bool.beq_eq_decide_eq], .bool _⟩
  case lss => cases h; exact ⟨_, by simp only [Go.binOp, Op.intCmp, ne_eq, not_true_eq_false, if_false, Sem.run_pure], .bool _⟩
  case leq => cases h; exact ⟨_, by simp only [Go.binOp, Op.intCmp, ne_eq, not_true_eq_false, if_false, Sem.run_pure], .bool _⟩
  case gtr => cases h; exact ⟨_, by simp only [Go.binOp, Op.intCmp, ne_eq, not_true_eq_false, if_false, Sem.run_pure, gt_iff_lt], .bool _⟩
  case geq => cases h; exact ⟨_, by simp only [Go.binOp, Op.intCmp, ne_eq, not_true_eq_false, if_false, Sem.run_pure, ge_iff_le], .bool _⟩
  all_goals cases h

theorem abinv_sound {op : BinOp} {x y v : AV} {rx ry : Value} (h : abinv op x y = some v) (hx : VS C x rx) (hy : VS C y ry) (t : TypeId) (w : World) :
    ∃ rv, (Go.binOp op t rx ry).run P w = .ok rv w ∧ VS C v rv := by
  cases x <;> try (simp [abinv] at h; done)
  cases y <;> try (simp [abinv] at h; done)
  rename_i kd i kd' j
  cases hx.int_inv; cases hy.int_inv
  by_cases h1 : op = .shl
  · subst h1
    simp only [abinv, ashift] at h
    split at h
    · cases h
    · rename_i hj; cases h; exact ⟨_, by simp [Go.binOp, Op.shift, hj], .int _ _⟩
  · by_cases h2 : op = .shr
    · subst h2
      simp only [abinv, ashift] at h
      split at h
      · cases h
      · rename_i hj; cases h; exact ⟨_, by simp [Go.binOp, Op.shift, hj], .int _ _⟩
    · have h' : (if kd = kd' then abin op kd i j else none) = some v := by cases op <;> first | exact h | exact absurd rfl h1 | exact absurd rfl h2
      split at h'
      · rename_i e; subst e; exact abin_sound h' t w
      · cases h'

theorem aun_sound {op : UnOp} {x v : AV} {rx : Value} (h : aun op x = some v) (hx : VS C x rx) (w : World) :
    ∃ rv, (Op.unary op rx).run P w = .ok rv w ∧ VS C v rv := by
  cases x <;> try (simp [aun] at h; done)
  · cases hx.bool_inv
    cases op <;> simp [aun] at h
    subst h; exact ⟨_, by simp [Op.unary], .bool _⟩
  · cases hx.int_inv
    cases op <;> simp [aun] at h
    subst h; exact ⟨_, by simp [Op.unary, Op.intArith], .int _ _⟩

theorem isNil_vs {kind : Nat} {x : AV} {rx : Value} (h : VS C x rx) {b : Bool} (hb : x.isNil kind = some b) :
    (kind = 0 ∧ ∃ p, rx = .pointer p ∧ p.isNone = b) ∨ (kind = 1 ∧ ∃ p l c, rx = .slice p l c ∧ p.isNone = b) ∨ (kind = 2 ∧ ∃ p, rx = .map p ∧ p.isNone = b) ∨
    (kind = 3 ∧ ((b = true ∧ rx = .nilFunc) ∨ (b = false ∧ ∃ f x y, rx = .func f x y))) := by
  match kind with
  | 0 => cases h <;> simp [AV.isNil] at hb <;> subst hb <;> simp
  | 1 =>
    cases h with
    | isl sz cs len b o cap p hp =>
      cases len with
      | zero => simp [AV.isNil] at hb
      | succ len =>
        simp [AV.isNil] at hb
        subst hb
        have := hp (by omega)
        subst this
        simp
    | _ => simp [AV.isNil] at hb <;> subst hb <;> simp
  | 2 => cases h <;> simp [AV.isNil] at hb <;> subst hb <;> simp
  | 3 => cases h <;> simp [AV.isNil] at hb <;> subst hb <;> simp
  | _ + 4 => simp [AV.isNil] at hb

theorem aeqP_cases {kind : Nat} {x y : AV} {b : Bool} (h : aeqP kind x y = some b) :
    (x.isNil kind = some true ∧ y.isNil kind = some b) ∨ (x.isNil kind = some b ∧ y.isNil kind = some true) := by
  unfold aeqP at h
  cases hx : x.isNil kind with
  | none => simp [hx] at h
  | some p =>
    cases hy : y.isNil kind with
    | none => cases p <;> simp [hx, hy] at h
    | some q => cases p <;> cases q <;> simp [hx, hy] at h <;> subst h <;> simp

theorem aeqP_sound {kind : Nat} {x y : AV} {rx ry : Value} {b : Bool} {t : TypeId} {d : TypeDesc} (h : aeqP kind x y = some b) (hx : VS C x rx) (hy : VS C y ry)
    (ht : P.underlying t = some d) (hd : nilKind d = some kind) (w : World) : (Op.equal t rx ry).run P w = .ok b w := by
  have key : ∀ n, (Op.equalIn (n + 1) t rx ry).run P w = .ok b w := by
    intro n
    unfold Op.equalIn
    simp only [Sem.run_bind, run_und ht, Result.andThen_ok]
    cases d <;> simp [nilKind] at hd <;> subst hd
    all_goals
      rcases aeqP_cases h with ⟨h1, h2⟩ | ⟨h1, h2⟩ <;>
      rcases isNil_vs hx h1 with ⟨e, r⟩ | ⟨e, r⟩ | ⟨e, r⟩ | ⟨e, r⟩ <;> (first | cases e) <;>
      rcases isNil_vs hy h2 with ⟨e', r'⟩ | ⟨e', r'⟩ | ⟨e', r'⟩ | ⟨e', r'⟩ <;> (first | cases e')
    · obtain ⟨p, rfl, hp⟩ := r; obtain ⟨q, rfl, hq⟩ := r'
      simp at hp; subst hp; simp [hq]
    · obtain ⟨p, rfl, hp⟩ := r; obtain ⟨q, rfl, hq⟩ := r'
      simp at hq; subst hq
      cases p with
      | none => simp at hp; subst hp; simp
      | some p => simp at hp; subst hp; simp
    · obtain ⟨p, l, c, rfl, hp⟩ := r; obtain ⟨q, l', c', rfl, hq⟩ := r'
      simp at hp; subst hp; simp [hq]
    · obtain ⟨p, l, c, rfl, hp⟩ := r; obtain ⟨q, l', c', rfl, hq⟩ := r'
      simp at hq; subst hq
      cases p with
      | none => simp at hp; subst hp; simp
      | some p => simp at hp; subst hp; simp
    · obtain ⟨p, rfl, hp⟩ := r; obtain ⟨q, rfl, hq⟩ := r'
      simp at hp; subst hp; simp [hq]
    · obtain ⟨p, rfl, hp⟩ := r; obtain ⟨q, rfl, hq⟩ := r'
      simp at hq; subst hq
      cases p with
      | none => simp at hp; subst hp; simp
      | some p => simp at hp; subst hp; simp
    · rcases r with ⟨hb, rfl⟩ | ⟨hb, _⟩
      · rcases r' with ⟨rfl, rfl⟩ | ⟨rfl, f, u, v, rfl⟩ <;> simp
      · cases hb
    · rcases r' with ⟨hb, rfl⟩ | ⟨hb, _⟩
      · rcases r with ⟨rfl, rfl⟩ | ⟨rfl, f, u, v, rfl⟩ <;> simp
      · cases hb
  exact key 9999

end
end Go.Proofs.Ytjamidgdhmjhaaa.Cn
