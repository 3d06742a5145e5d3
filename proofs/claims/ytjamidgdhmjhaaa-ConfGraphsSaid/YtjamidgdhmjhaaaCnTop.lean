/- The abstract layer, the last part: from what is shown of abstract arguments to what is said of a world's. -/
import Derived.Test.YtjamidgdhmjhaaaCnRead
import Derived.ChangeArms
import Derived.ChangeShapes
import Derived.Carry
import Derived.DataReads
set_option linter.unusedSimpArgs false
set_option linter.unusedVariables false
namespace Go.Proofs.Ytjamidgdhmjhaaa.Cn
open Go Go.RowKit Go.WideShapes Go.ChangeShapes

/-- The shapes of arguments: a type's, or (cons, unit) a struct's fields. -/
inductive Sh where
  | int (k : IntKind)
  | bool
  | slice (e : Sh)
  | strct (fs : Sh)
  | cons (a b : Sh)
  | unit

def Sh.size : Sh → Nat
  | .strct f => f.size
  | .cons a b => a.size + b.size
  | .unit => 0
  | _ => 1

/-- The abstract cells of a shape. -/
def Sh.Is : Sh → List AV → Prop
  | .int k, cs => ∃ n, cs = [.int k n] ∧ (Lit.int k n).wf = true
  | .bool, cs => ∃ b, cs = [.bool b]
  | .slice e, cs => ∃ els : List (List AV), cs = [.isl e.size els.flatten els.length] ∧ els.length ≤ maxLen ∧ ∀ x ∈ els, e.Is x
  | .strct f, cs => f.Is cs
  | .cons a b, cs => ∃ x y, cs = x ++ y ∧ a.Is x ∧ b.Is y
  | .unit, cs => cs = []

def Sh.chain : Sh → Bool
  | .cons .. | .unit => true
  | _ => false

/-- A type is of a shape; for fields: which they are, and from which cell on. -/
def Sh.fits (P : Program) : Sh → TypeId → List Field → Nat → Bool
  | .int k, t, _, _ => match P.underlying t with
    | some (.int k') => k' == k
    | _ => false
  | .bool, t, _, _ => match P.underlying t with
    | some .bool => true
    | _ => false
  | .slice e, t, _, _ => match P.underlying t with
    | some (.slice u) => e.fits P u [] 0 && P.cellsOf u == e.size && decide (0 < e.size) && !e.chain
    | _ => false
  | .strct f, t, _, _ => match P.underlying t with
    | some (.struct fs) => f.fits P 0 fs.toList 0 && P.cellsOf t == f.size && f.chain
    | _ => false
  | .cons a b, _, fd :: fds, off => a.fits P fd.type [] 0 && P.cellsOf fd.type == a.size && fd.offset == off && b.fits P 0 fds (off + a.size) && !a.chain && b.chain
  | .unit, _, [], _ => true
  | _, _, _, _ => false

def RowsVS (C : ACx) (avs : List AV) (cs : List Value) : Prop := avs.length = cs.length ∧ ∀ i (h : i < avs.length), VS C avs[i] (cs.getD i undef)

theorem RowsVS.one {C : ACx} {a : AV} {v : Value} (h : VS C a v) : RowsVS C [a] [v] := ⟨rfl, fun i hi => by
  have : i = 0 := by simpa using hi
  subst this; exact h⟩

theorem RowsVS.append {C : ACx} {a b : List AV} {x y : List Value} (h : RowsVS C a x) (k : RowsVS C b y) : RowsVS C (a ++ b) (x ++ y) := by
  refine ⟨by simp [h.1, k.1], fun i hi => ?_⟩
  by_cases e : i < a.length
  · have e2 : i < x.length := h.1 ▸ e
    have := h.2 i e
    rw [List.getElem_append_left e]
    simpa [List.getD_eq_getElem?_getD, List.getElem?_append_left e2] using this
  · have hb : i - a.length < b.length := by simp at hi; omega
    have := k.2 _ hb
    rw [List.getElem_append_right (by omega)]
    have e2 : x.length ≤ i := by rw [← h.1]; omega
    simpa [List.getD_eq_getElem?_getD, List.getElem?_append_right e2, h.1] using this

theorem flatten_size {n : Nat} : ∀ {els : List (List AV)}, (∀ x ∈ els, x.length = n) → els.flatten.length = els.length * n
  | [], _ => by simp
  | x :: els, h => by
    rw [List.flatten_cons, List.length_append, h x (by simp), flatten_size (fun y hy => h y (by simp [hy])), List.length_cons, Nat.add_mul]
    omega

theorem flatten_at {n : Nat} : ∀ {els : List (List AV)}, (∀ x ∈ els, x.length = n) → ∀ {i j : Nat} (hi : i < els.length), j < n → els.flatten[i * n + j]? = els[i][j]?
  | [], _, i, _, hi, _ => by simp at hi
  | x :: els, h, 0, j, _, hj => by
    rw [List.flatten_cons, Nat.zero_mul, Nat.zero_add, List.getElem?_append_left (by rw [h x (by simp)]; exact hj)]
    rfl
  | x :: els, h, i + 1, j, hi, hj => by
    rw [List.flatten_cons, List.getElem?_append_right (by rw [h x (by simp), Nat.add_mul]; omega), h x (by simp),
      show (i + 1) * n + j - n = i * n + j by rw [Nat.add_mul]; omega, flatten_at (fun y hy => h y (by simp [hy])) (by simpa using hi) hj]
    rfl

theorem Sh.Is.size_eq : ∀ {s : Sh} {cs : List AV}, s.Is cs → cs.length = s.size
  | .int k, cs, h => by obtain ⟨n, rfl, _⟩ := h; rfl
  | .bool, cs, h => by obtain ⟨b, rfl⟩ := h; rfl
  | .slice e, cs, h => by rcases h with ⟨els, rfl, _⟩; rfl
  | .strct f, cs, h => Sh.Is.size_eq (s := f) h
  | .cons a b, cs, h => by
    obtain ⟨x, y, rfl, h1, h2⟩ := h
    rw [List.length_append, Sh.Is.size_eq h1, Sh.Is.size_eq h2]; rfl
  | .unit, cs, h => by cases h; rfl

section
variable {H : Type} {enc : TypeId × Value → H} {P : Program} {W : World} {spare : Nat → Bool} {held : Bool}

theorem shape_read : ∀ (s : Sh) (t : TypeId) (fds : List Field) (off : Nat), s.fits P t fds off = true →
    (match s with
      | .cons .. | .unit => ∀ (n : Nat) (cs : List Value), cs.length = off + s.size → (∀ fd ∈ fds, ∃ y, DataW.trod enc P W 0 spare held n fd.type ((cs.drop fd.offset).take (P.cellsOf fd.type)) = some y) →
          ∃ avs, s.Is avs ∧ RowsVS (start W) avs (cs.drop off)
      | _ => ∀ (n : Nat) (cs : List Value) x, DataW.trod enc P W 0 spare held n t cs = some x → ∃ avs, s.Is avs ∧ RowsVS (start W) avs cs)
  | .int k, t, _, _, hf => by
    intro n cs x h
    simp only [Sh.fits] at hf
    split at hf
    · rename_i k' hu
      obtain ⟨m, rfl, _, hw⟩ := DataW.trod_int hu h
      have hk : k' = k := by simpa using hf
      subst hk
      exact ⟨[.int k' m], ⟨m, rfl, hw⟩, RowsVS.one (.int _ _)⟩
    · cases hf
  | .bool, t, _, _, hf => by
    intro n cs x h
    simp only [Sh.fits] at hf
    split at hf
    · rename_i hu
      obtain ⟨b, rfl, _⟩ := DataW.trod_bool hu h
      exact ⟨[.bool b], ⟨b, rfl⟩, RowsVS.one (.bool _)⟩
    · cases hf
  | .slice e, t, _, _, hf => by
    intro n cs x h
    simp only [Sh.fits] at hf
    split at hf
    · rename_i u hu
      simp only [Bool.and_eq_true, beq_iff_eq, decide_eq_true_eq] at hf
      obtain ⟨⟨⟨hfu, hsz⟩, hpos⟩, hch⟩ := hf
      rcases DataW.trod_slice hu h with ⟨rfl, _⟩ | ⟨a, len, cap, elems, rest, m, rfl, rfl, _, hb, hl, hm, hlen, hel, _, _⟩
      · exact ⟨[.isl e.size [] 0], ⟨[], rfl, by simp, fun x hx => by cases hx⟩, RowsVS.one (.isl _ _ _ 0 0 _ _ (fun e => absurd rfl e) (fun _ => rfl) (fun _ => undef) (fun e => absurd rfl e) (fun e => absurd rfl e) (Nat.zero_le _))⟩
      · rw [hsz] at hel
        have each : ∀ i, i < len → ∃ avs, e.Is avs ∧ ∃ ws : List Value, W.cells? 0 (a.add (i * e.size)) e.size = some ws ∧ RowsVS (start W) avs ws := by
          intro i hi
          have h1 := hel i hi
          rw [List.getElem?_eq_getElem (by omega)] at h1
          obtain ⟨ws, hw, ht⟩ := Option.bind_eq_some_iff.mp h1
          have ih := shape_read e u [] 0 hfu
          have : ∃ avs, e.Is avs ∧ RowsVS (start W) avs ws := by
            cases e with
            | cons a b => simp [Sh.chain] at hch
            | unit => simp [Sh.chain] at hch
            | _ => exact ih _ _ _ ht
          obtain ⟨avs, q1, q2⟩ := this
          exact ⟨avs, q1, ws, hw, q2⟩
        by_cases h0 : len = 0
        · subst h0
          refine ⟨[.isl e.size [] 0], ⟨[], rfl, by simp, fun x hx => by cases hx⟩, RowsVS.one ?_⟩
          exact .isl _ _ _ 0 0 _ _ (fun e => absurd rfl e) (fun e => by cases e) (fun _ => undef) (fun e => absurd rfl e) (fun e => absurd rfl e) hl
        · obtain ⟨av0, _, ws0, hw0, _⟩ := each 0 (by omega)
          have hc0 := (World.cells?_some hw0).2.2 0 hpos
          have hl0 := (World.cells?_some hw0).2.1
          have hsp : a.spot = none := by
            rw [List.getElem?_eq_getElem (by omega)] at hc0
            have := World.cell?_spot hc0
            simpa [Addr.add] using this
          obtain ⟨b, o, sp⟩ := a
          have hsp' : sp = none := hsp
          subst hsp'
          let els : List (List AV) := (List.range len).map fun i => if h : i < len then Classical.choose (each i h) else []
          have hels : els.length = len := by simp [els]
          have hget : ∀ i (hi : i < els.length), e.Is els[i] ∧ ∃ ws : List Value, W.cells? 0 ((Addr.mk b o none).add (i * e.size)) e.size = some ws ∧ RowsVS (start W) els[i] ws := by
            intro i hi
            have hi' : i < len := hels ▸ hi
            have : els[i] = Classical.choose (each i hi') := by simp [els, hi']
            rw [this]
            exact Classical.choose_spec (each i hi')
          have hsize : ∀ x ∈ els, x.length = e.size := by
            intro x hx
            obtain ⟨i, hi, rfl⟩ := List.getElem_of_mem hx
            exact (hget i hi).1.size_eq
          have hfl := flatten_size hsize
          refine ⟨[.isl e.size els.flatten els.length], ⟨els, rfl, by omega, fun x hx => ?_⟩, RowsVS.one ?_⟩
          · obtain ⟨i, hi, rfl⟩ := List.getElem_of_mem hx
            exact (hget i hi).1
          · have key : ∀ k (hk : k < els.flatten.length), ∃ v, W.cell? ⟨b, o + k, none⟩ = some v ∧ VS (start W) els.flatten[k] v := by
              intro k hk
              have hk1 : k / e.size < els.length := Nat.div_lt_of_lt_mul (by rw [Nat.mul_comm]; omega)
              have hk2 : k % e.size < e.size := Nat.mod_lt _ hpos
              have hk3 : k / e.size * e.size + k % e.size = k := by rw [Nat.mul_comm]; exact Nat.div_add_mod _ _
              obtain ⟨i1, ws, i2, i3, i4⟩ := hget _ hk1
              have hc := (World.cells?_some i2).2.2 _ hk2
              have hwl := (World.cells?_some i2).2.1
              have hfa := flatten_at hsize hk1 hk2
              rw [hk3, List.getElem?_eq_getElem hk, List.getElem?_eq_getElem (by rw [hsize _ (List.getElem_mem hk1)]; exact hk2)] at hfa
              have hcell : W.cell? ⟨b, o + k, none⟩ = ws[k % e.size]? := by
                rw [← hc]
                rw [addr_add, addr_add, Nat.add_assoc, hk3]
              refine ⟨ws[k % e.size]'(by omega), by rw [hcell]; exact List.getElem?_eq_getElem _, ?_⟩
              have hv := i4 (k % e.size) (by rw [hsize _ (List.getElem_mem hk1)]; exact hk2)
              injection hfa with hfa
              rw [hfa]
              have : ws.getD (k % e.size) undef = ws[k % e.size]'(by omega) := by
                rw [List.getD_eq_getElem?_getD, List.getElem?_eq_getElem (by omega)]; rfl
              rwa [this] at hv
            rw [← hels] at hl ⊢
            refine .isl _ _ _ b o cap _ (fun _ => rfl) (fun e => by cases e) (fun k => (W.cell? ⟨b, o + k, none⟩).getD undef) (fun _ k hk => ?_) (fun _ k hk => ?_) hl
            · obtain ⟨v, h1, _⟩ := key k hk
              show W.cell? _ = _
              rw [h1]; rfl
            · obtain ⟨v, h1, h2⟩ := key k hk
              rw [h1]; exact h2
    · cases hf
  | .strct f, t, _, _, hf => by
    intro n cs x h
    simp only [Sh.fits] at hf
    split at hf
    · rename_i fs hu
      simp only [Bool.and_eq_true, beq_iff_eq] at hf
      obtain ⟨⟨hff, hsz⟩, hch⟩ := hf
      obtain ⟨xs, m, rfl, _, hl, hxl, hx⟩ := DataW.trod_struct hu h
      have ih := shape_read f 0 fs.toList 0 hff
      have : ∀ fd ∈ fs.toList, ∃ y, DataW.trod enc P W 0 spare held m fd.type ((cs.drop fd.offset).take (P.cellsOf fd.type)) = some y := by
        intro fd hfd
        obtain ⟨i, hi, rfl⟩ := List.getElem_of_mem hfd
        have hi' : i < fs.size := by simpa using hi
        have := hx i fs[i] (by simp [hi'])
        rw [List.getElem?_eq_getElem (by omega)] at this
        exact ⟨_, by simpa using this⟩
      cases f with
      | cons a b =>
        obtain ⟨avs, h1, h2⟩ := ih m cs (by rw [hl, hsz]; omega) this
        exact ⟨avs, h1, h2⟩
      | unit =>
        obtain ⟨avs, h1, h2⟩ := ih m cs (by rw [hl, hsz]; omega) this
        exact ⟨avs, h1, h2⟩
      | _ => simp [Sh.chain] at hch
    · cases hf
  | .cons a b, t, fds, off, hf => by
    intro n cs hl hx
    cases fds with
    | nil => simp [Sh.fits] at hf
    | cons fd fds =>
      simp only [Sh.fits, Bool.and_eq_true, beq_iff_eq] at hf
      obtain ⟨⟨⟨⟨⟨h1, h2⟩, h3⟩, h4⟩, h5⟩, h6⟩ := hf
      obtain ⟨y, hy⟩ := hx fd (by simp)
      have ih1 := shape_read a fd.type [] 0 h1
      have ih2 := shape_read b 0 fds (off + a.size) h4
      rw [h3, h2] at hy
      have e1 : ∃ avs, a.Is avs ∧ RowsVS (start W) avs ((cs.drop off).take a.size) := by
        cases a with
        | cons x y => simp [Sh.chain] at h5
        | unit => simp [Sh.chain] at h5
        | _ => exact ih1 _ _ _ hy
      have e2 : ∃ avs, b.Is avs ∧ RowsVS (start W) avs (cs.drop (off + a.size)) := by
        have hl' : cs.length = off + a.size + b.size := by rw [hl]; simp only [Sh.size]; omega
        have hx' : ∀ fd ∈ fds, ∃ y, DataW.trod enc P W 0 spare held n fd.type ((cs.drop fd.offset).take (P.cellsOf fd.type)) = some y := fun fd hfd => hx fd (by simp [hfd])
        cases b with
        | cons x y => exact ih2 _ _ hl' hx'
        | unit => exact ih2 _ _ hl' hx'
        | _ => simp [Sh.chain] at h6
      obtain ⟨x, q1, q2⟩ := e1
      obtain ⟨z, q3, q4⟩ := e2
      refine ⟨x ++ z, ⟨x, z, rfl, q1, q3⟩, ?_⟩
      have := q2.append q4
      rwa [← List.drop_drop, List.take_append_drop] at this
  | .unit, t, fds, off, hf => by
    intro n cs hl hx
    refine ⟨[], rfl, ?_, fun i hi => absurd hi (by simp)⟩
    simp [Sh.size] at hl
    simp [hl]
end
section
variable {P : Program} {W : World}

/-- An argument of a shape. -/
def Sh.Arg (s : Sh) (a : AV) : Prop := match s with
  | .strct f => ∃ cs, a = .agg cs ∧ f.Is cs
  | s => s.Is [a]

def ArgsOf : List Sh → List AV → Prop
  | [], [] => True
  | s :: ss, a :: al => s.Arg a ∧ ArgsOf ss al
  | _, _ => False

def fitsAll (P : Program) : List Sh → List TypeId → Bool
  | [], [] => true
  | s :: ss, t :: ts => s.fits P t [] 0 && !s.chain && fitsAll P ss ts
  | _, _ => false

theorem arg_read {H : Type} {enc : TypeId × Value → H} {spare : Nat → Bool} {held : Bool} {s : Sh} {t : TypeId} {v : Value} {d : DataW H} {ps : List MemPlace} {r : Reach} {base : Nat} (hf : s.fits P t [] 0 = true) (hch : (!s.chain) = true)
    (hok : Value.okWide P W r base t v) (h : DataW.Trod enc P W 0 spare held t v d ps) : ∃ a, s.Arg a ∧ VS (start W) a v := by
  obtain ⟨n, h⟩ := h
  have hr := shape_read (enc := enc) (P := P) (W := W) (spare := spare) (held := held) s t [] 0 hf
  have one : ∀ {avs : List AV}, avs.length = 1 → v.cells = #[v] → RowsVS (start W) avs v.cells.toList → ∃ a, avs = [a] ∧ VS (start W) a v := by
    intro avs h1 h2 h3
    obtain ⟨a, rfl⟩ := List.length_eq_one_iff.mp h1
    refine ⟨a, rfl, ?_⟩
    have := h3.2 0 (by simp)
    simpa [h2] using this
  cases s with
  | int k =>
    obtain ⟨avs, h1, h2⟩ := hr n _ _ h
    simp only [Sh.fits] at hf
    split at hf
    · rename_i k' hu
      obtain ⟨m, rfl⟩ := okWide_int hu hok
      obtain ⟨a, rfl, ha⟩ := one h1.size_eq rfl h2
      exact ⟨a, h1, ha⟩
    · cases hf
  | bool =>
    obtain ⟨avs, h1, h2⟩ := hr n _ _ h
    simp only [Sh.fits] at hf
    split at hf
    · rename_i hu
      obtain ⟨m, rfl⟩ := okWide_bool hu hok
      obtain ⟨a, rfl, ha⟩ := one h1.size_eq rfl h2
      exact ⟨a, h1, ha⟩
    · cases hf
  | slice e =>
    obtain ⟨avs, h1, h2⟩ := hr n _ _ h
    simp only [Sh.fits] at hf
    split at hf
    · rename_i u hu
      obtain ⟨x, y, z, rfl⟩ := okWide_slice hu hok
      obtain ⟨a, rfl, ha⟩ := one h1.size_eq rfl h2
      exact ⟨a, h1, ha⟩
    · cases hf
  | strct f =>
    obtain ⟨avs, h1, h2⟩ := hr n _ _ h
    simp only [Sh.fits] at hf
    split at hf
    · rename_i fs hu
      simp only [Value.okWide, hu] at hok
      obtain ⟨cs, rfl, _⟩ := hok
      refine ⟨.agg avs, ⟨avs, rfl, h1⟩, .agg _ _ ?_ ?_⟩
      · have := h2.1; simpa [Value.cells] using this.symm
      · intro i hi
        have := h2.2 i hi
        simpa [Value.cells] using this
    · cases hf
  | cons a b => simp [Sh.chain] at hch
  | unit => simp [Sh.chain] at hch

theorem args_read {H : Type} {enc : TypeId × Value → H} {spare : Nat → Bool} {held : Bool} {r : Reach} {base : Nat} : ∀ {ss : List Sh} {ts : List TypeId} {vs : List Value} {ds : List (DataW H)} {ps : List MemPlace}, fitsAll P ss ts = true →
    (∀ (j : Nat) t v, ts[j]? = some t → vs[j]? = some v → Value.okWide P W r base t v) → DataW.TrodAll enc P W 0 spare held ts vs ds ps →
    ∃ al, ArgsOf ss al ∧ al.length = vs.length ∧ ∀ i (h : i < al.length), VS (start W) al[i] (vs.getD i undef)
  | [], [], vs, ds, ps, _, _, h => by
    cases vs <;> cases ds <;> simp only [DataW.TrodAll] at h
    exact ⟨[], trivial, rfl, fun i hi => absurd hi (by simp)⟩
  | s :: ss, t :: ts, vs, ds, ps, hf, hv, h => by
    cases vs with
    | nil => cases ds <;> simp [DataW.TrodAll] at h
    | cons v vs =>
      cases ds with
      | nil => simp [DataW.TrodAll] at h
      | cons d ds =>
        obtain ⟨p, q, h1, h2, _⟩ := h
        simp only [fitsAll, Bool.and_eq_true] at hf
        obtain ⟨⟨f1, f2⟩, f3⟩ := hf
        obtain ⟨a, a1, a2⟩ := arg_read f1 f2 (hv 0 t v rfl rfl) h1
        obtain ⟨al, b1, b2, b3⟩ := args_read f3 (fun j t v h1 h2 => hv (j + 1) t v (by simpa using h1) (by simpa using h2)) h2
        refine ⟨a :: al, ⟨a1, b1⟩, by simp [b2], fun i hi => ?_⟩
        cases i with
        | zero => exact a2
        | succ i =>
          have := b3 i (by simpa using hi)
          simpa using this
  | [], _ :: _, _, _, _, hf, _, _ => by simp [fitsAll] at hf
  | _ :: _, [], _, _, _, hf, _, _ => by simp [fitsAll] at hf

theorem trodAll_length {H : Type} {enc : TypeId × Value → H} {spare : Nat → Bool} {held : Bool} {base : Nat} : ∀ {ts : List TypeId} {vs : List Value} {ds : List (DataW H)} {ps : List MemPlace}, DataW.TrodAll enc P W base spare held ts vs ds ps → ds.length = ts.length
  | [], vs, ds, ps, h => by cases vs <;> cases ds <;> simp [DataW.TrodAll] at h ⊢
  | t :: ts, vs, ds, ps, h => by
    cases vs with
    | nil => cases ds <;> simp [DataW.TrodAll] at h
    | cons v vs =>
      cases ds with
      | nil => simp [DataW.TrodAll] at h
      | cons d ds =>
        obtain ⟨p, q, h1, h2, _⟩ := h
        simp [trodAll_length h2]

theorem trodAll_below {H : Type} {enc : TypeId × Value → H} (hl : laidOutB P = true) {W' : World} (hb : Below W.heap.size W W') : ∀ {ts : List TypeId} {vs : List Value} {ds : List (DataW H)} {ps : List MemPlace},
    (ts.all fun t => P.readableRec t && decide (t < P.types.size)) = true → DataW.TrodAll enc P W 0 (fun _ => true) true ts vs ds ps → DataW.TrodAll enc P W' 0 (fun b => decide (b < W.heap.size)) true ts vs ds ps
  | [], vs, ds, ps, _, h => by cases vs <;> cases ds <;> simp only [DataW.TrodAll] at h ⊢; exact h
  | t :: ts, vs, ds, ps, hr, h => by
    cases vs with
    | nil => cases ds <;> simp [DataW.TrodAll] at h
    | cons v vs =>
      cases ds with
      | nil => simp [DataW.TrodAll] at h
      | cons d ds =>
        obtain ⟨p, q, h1, h2, e⟩ := h
        simp only [List.all_cons, Bool.and_eq_true, decide_eq_true_eq] at hr
        refine ⟨p, q, Below.trod hl hr.1.1 hr.1.2 h1 hb ?_, trodAll_below hl hb hr.2 h2, e⟩
        obtain ⟨n, hn⟩ := h1
        exact fun x hx => DataW.trod_lt n _ _ _ hn x hx

/-- A call at the start of all: nothing is owned, all that lies there stays. -/
theorem calls_start {f : Nat} {al : List AV} {vs : Array Value} (h : ACalls P f al ⟨fun _ => none⟩ fun v _ => v = .bool true) (hl : vs.size = al.length) (hv : ∀ i (h : i < al.length), VS (start W) al[i] (vs.getD i undef)) :
    Calls P f vs W fun e w' => e = .returned (.bool true) ∧ Below W.heap.size W w' := by
  refine (h W.heap.size W (fun _ => False) W (start W) W vs ?_ hl hv).mono ?_
  · exact
      { live := fun i hi => absurd rfl hi
        below := Below.refl _ _
        hB := Nat.le_refl _
        inj := fun i j hi => absurd rfl hi
        lo := fun i hi => absurd rfl hi
        obj := fun i o ho => by cases ho
        imm := fun b o v hk => ⟨hk, id, fun i hi => absurd rfl hi⟩
        res := fun b hb => hb.elim }
  · rintro e w' ⟨C', v, st', rv, _, s, rfl, hrv, rfl⟩
    cases hrv
    exact ⟨rfl, s.below⟩

/-- What a statement's step wants. -/
theorem contract_of {H : Type} {enc : TypeId × Value → H} {f : FuncId} {fn : Func} {s : ChangeSpec} {ss : List Sh} {tb : TypeId} (hlaid : laidOutB P = true) (hvars : s.vars = [])
    (hs : ∀ ds : List (DataW H), ds.length = fn.params.size → s.fn H ds = { results := [.lit (.bool true)], args := ds }) (hfit : fitsAll P ss fn.params.toList = true)
    (hrec : (fn.params.toList.all fun t => P.readableRec t && decide (t < P.types.size)) = true) (hres : fn.resultTypes = #[tb]) (hb : P.underlying tb = some .bool)
    (h : ∀ al, ArgsOf ss al → ACalls P f al ⟨fun _ => none⟩ fun v _ => v = .bool true) (W : World) (base : Nat) (args : Array Value) (ds gs : List (DataW H)) (before : List MemPlace)
    (hval : ∀ (j : Nat) t v, fn.params[j]? = some t → args[j]? = some v → Value.okWide P W .any base t v) (hW : DataW.Whole enc P fn.params.toList s.vars false W args.toList ds gs before) :
    Calls P f args W fun e W' => ∃ v, e = .returned v ∧ s.post enc P fn false true false false W args v W' := by
  have hW' := hW
  obtain ⟨p, q, hA, hV, rfl, hfz, hnd⟩ := hW
  rw [hvars] at hV
  obtain ⟨rfl, rfl⟩ := trodVars_none hV
  obtain ⟨al, a1, a2, a3⟩ := args_read hfit (fun j t v h1 h2 => hval j t v (by simpa using h1) (by simpa using h2)) hA
  refine (calls_start (W := W) (h al a1) (by simpa using a2.symm) (fun i hi => by simpa using a3 i hi)).mono fun e W' ⟨he, bel⟩ => ?_
  subst he
  have hdl : ds.length = fn.params.size := by rw [trodAll_length hA]; simp
  have hfn := hs (ds ++ []) (by simpa using hdl)
  refine ⟨_, rfl, _, _, _, [], p, [], hW', ?_, ?_, ?_, bel.frame _, fun h => by cases h⟩
  · rw [hfn, hres]
    exact trodAll_mk1 (shut_bool hb _)
  · rw [hfn, List.append_nil]
    exact trodAll_below hlaid bel hrec hA
  · rw [hfn, hvars]; rfl
end

theorem els_map {α : Type} {e : Sh} (enc : α → List AV) (ok : α → Prop) (hdec : ∀ cs, e.Is cs → ∃ x, cs = enc x ∧ ok x) : ∀ {els : List (List AV)}, (∀ x ∈ els, e.Is x) → ∃ l : List α, els = l.map enc ∧ ∀ x ∈ l, ok x
  | [], _ => ⟨[], rfl, fun x hx => by cases hx⟩
  | x :: els, h => by
    obtain ⟨y, rfl, hy⟩ := hdec x (h x (by simp))
    obtain ⟨l, rfl, hl⟩ := els_map enc ok hdec (els := els) (fun z hz => h z (by simp [hz]))
    exact ⟨y :: l, rfl, fun z hz => by
      rcases List.mem_cons.mp hz with rfl | hz
      · exact hy
      · exact hl z hz⟩

/-- A slice that came in, of whatever it is a slice. -/
theorem slice_arg {α : Type} {e : Sh} (enc : α → List AV) (ok : α → Prop) (hdec : ∀ cs, e.Is cs → ∃ x, cs = enc x ∧ ok x) {a : AV} (h : (Sh.slice e).Is [a]) :
    ∃ l : List α, a = .isl e.size (l.flatMap enc) l.length ∧ (∀ x ∈ l, ok x) ∧ l.length ≤ maxLen := by
  obtain ⟨els, h, hm, he⟩ := h
  injection h with h
  subst h
  obtain ⟨l, rfl, hl⟩ := els_map enc ok hdec he
  refine ⟨l, ?_, hl, by simpa using hm⟩
  rw [List.length_map, List.flatMap_def]

theorem wf_i64 {n : Int} (h : (Lit.int .i64 n).wf = true) : -9223372036854775808 ≤ n ∧ n ≤ 9223372036854775807 := by
  simp only [Lit.wf, Bool.and_eq_true, decide_eq_true_eq] at h
  exact h
theorem wf_u32 {n : Int} (h : (Lit.int .u32 n).wf = true) : 0 ≤ n ∧ n ≤ 4294967295 := by
  simp only [Lit.wf, Bool.and_eq_true, decide_eq_true_eq] at h
  exact h
end Go.Proofs.Ytjamidgdhmjhaaa.Cn
