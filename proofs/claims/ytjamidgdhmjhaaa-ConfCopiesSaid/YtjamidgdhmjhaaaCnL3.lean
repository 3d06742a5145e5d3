/- Ytjamidgdhmjhaaa: the abstract layer, texts CnGraphM, CnChip: what each shows stands at its theorems; no condition. -/
import Derived.Test.YtjamidgdhmjhaaaCnL2
/- Graphs, plain: orders, and what is above and under a node. No conditions. -/
set_option linter.unusedSimpArgs false
set_option linter.unusedVariables false
set_option linter.unusedSectionVars false
namespace Go.Proofs.Ytjamidgdhmjhaaa.Cn
open Go

abbrev Gr := List (List Int)

def deps (g : Gr) (v : Nat) : List Nat := ((g[v]?).getD []).map Int.toNat

/-- All numbers are those of nodes. -/
def Gr.ok (g : Gr) : Prop := ∀ r ∈ g, ∀ u ∈ r, 0 ≤ u ∧ u < g.length
instance (g : Gr) : Decidable g.ok := by unfold Gr.ok; infer_instance

theorem deps_at {g : Gr} {v : Nat} (h : v < g.length) : deps g v = g[v].map Int.toNat := by simp [deps, h]
theorem deps_lt {g : Gr} (h : g.ok) {u v : Nat} (hu : u ∈ deps g v) : u < g.length := by
  by_cases hv : v < g.length
  · rw [deps_at hv, List.mem_map] at hu
    obtain ⟨x, hx, rfl⟩ := hu
    have := h _ (List.getElem_mem hv) x hx
    omega
  · simp [deps, hv] at hu
theorem deps_of {g : Gr} {u v : Nat} (hu : u ∈ deps g v) : v < g.length := by
  by_cases hv : v < g.length
  · exact hv
  · simp [deps, hv] at hu

def ready (g : Gr) (out : List Nat) (v : Nat) : Bool := !out.contains v && (deps g v).all fun u => out.contains u
def next (g : Gr) (out : List Nat) : Option Nat := (List.range g.length).find? (ready g out)
def ordGo (g : Gr) : Nat → List Nat → List Nat
  | 0, out => out
  | f + 1, out => match next g out with
    | none => out
    | some v => ordGo g f (out ++ [v])
def ord (g : Gr) : List Nat := ordGo g g.length []

theorem ready_iff {g : Gr} {out : List Nat} {v : Nat} : ready g out v = true ↔ v ∉ out ∧ ∀ u ∈ deps g v, u ∈ out := by simp [ready]
theorem next_some {g : Gr} {out : List Nat} {v : Nat} : next g out = some v ↔ ready g out v = true ∧ v < g.length ∧ ∀ j, j < v → ready g out j = false := by
  simp [next, List.find?_range_eq_some]
theorem next_none {g : Gr} {out : List Nat} : next g out = none ↔ ∀ j, j < g.length → ready g out j = false := by
  simp [next, List.find?_range_eq_none]

inductive Topo (g : Gr) : List Nat → Prop
  | nil : Topo g []
  | snoc {out : List Nat} {v : Nat} (h : Topo g out) (hv : next g out = some v) : Topo g (out ++ [v])

theorem Topo.lt {g : Gr} {out : List Nat} (h : Topo g out) : ∀ v ∈ out, v < g.length := by
  induction h with
  | nil => intro v hv; cases hv
  | snoc h hv ih =>
    intro w hw
    rcases List.mem_append.mp hw with hw | hw
    · exact ih w hw
    · rw [List.mem_singleton] at hw; subst hw; exact (next_some.mp hv).2.1
theorem Topo.nodup {g : Gr} {out : List Nat} (h : Topo g out) : out.Nodup := by
  induction h with
  | nil => exact List.nodup_nil
  | snoc h hv ih =>
    rw [List.nodup_append]
    refine ⟨ih, by simp, fun a ha b hb => ?_⟩
    rw [List.mem_singleton] at hb; subst hb
    rintro rfl
    exact (ready_iff.mp (next_some.mp hv).1).1 ha
theorem Topo.deps {g : Gr} {out : List Nat} (h : Topo g out) : ∀ v ∈ out, ∀ u ∈ deps g v, u ∈ out ∧ out.idxOf u < out.idxOf v := by
  induction h with
  | nil => intro v hv; cases hv
  | @snoc out v h hv ih =>
    have hr := ready_iff.mp (next_some.mp hv).1
    intro w hw u hu
    rcases List.mem_append.mp hw with hw | hw
    · obtain ⟨h1, h2⟩ := ih w hw u hu
      exact ⟨List.mem_append_left _ h1, by rw [List.idxOf_append, List.idxOf_append, if_pos h1, if_pos hw]; exact h2⟩
    · rw [List.mem_singleton] at hw; subst hw
      have h1 := hr.2 u hu
      refine ⟨List.mem_append_left _ h1, ?_⟩
      rw [List.idxOf_append, List.idxOf_append, if_pos h1, if_neg hr.1]
      have := List.idxOf_lt_length_of_mem h1
      omega

theorem nodup_len {l k : List Nat} (h : l.Nodup) (hs : ∀ x ∈ l, x ∈ k) : l.length ≤ k.length := by
  induction l generalizing k with
  | nil => simp
  | cons x l ih =>
    rw [List.nodup_cons] at h
    have hx : x ∈ k := hs x (by simp)
    have := ih (k := k.erase x) h.2 (fun y hy => by
      have hne : y ≠ x := by rintro rfl; exact h.1 hy
      exact (List.mem_erase_of_ne hne).mpr (hs y (by simp [hy])))
    rw [List.length_erase_of_mem hx] at this
    have : 0 < k.length := List.length_pos_of_mem hx
    simp only [List.length_cons]; omega
theorem nodup_full {l : List Nat} {n : Nat} (h : l.Nodup) (hl : ∀ x ∈ l, x < n) (hn : l.length = n) : ∀ w, w < n → w ∈ l := by
  intro w hw
  refine Classical.byContradiction fun hc => ?_
  have := nodup_len (l := w :: l) (k := List.range n) (by rw [List.nodup_cons]; exact ⟨hc, h⟩) (fun x hx => by
    rcases List.mem_cons.mp hx with rfl | hx
    · simpa using hw
    · simpa using hl x hx)
  simp at this; omega
theorem full_len {l : List Nat} {n : Nat} (h : ∀ w, w < n → w ∈ l) : n ≤ l.length := by
  have := nodup_len (l := List.range n) (k := l) List.nodup_range (fun x hx => h x (by simpa using hx))
  simpa using this
theorem Topo.len {g : Gr} {out : List Nat} (h : Topo g out) : out.length ≤ g.length := by
  have := nodup_len (k := List.range g.length) h.nodup (fun x hx => by simpa using h.lt x hx)
  simpa using this

theorem ordGo_topo {g : Gr} : ∀ (f : Nat) {out : List Nat}, Topo g out → Topo g (ordGo g f out)
  | 0, _, h => h
  | f + 1, out, h => by
    unfold ordGo
    split
    · exact h
    · rename_i v hv; exact ordGo_topo f (.snoc h hv)
theorem ord_topo (g : Gr) : Topo g (ord g) := ordGo_topo _ .nil

theorem Topo.stuck {g : Gr} {out : List Nat} (h : Topo g out) (hl : out.length = g.length) : next g out = none := by
  rw [next_none]
  intro j hj
  have := nodup_full h.nodup h.lt hl j hj
  simp [ready, this]

/-- An order of all there is where each hangs on lesser ones, by some rank. -/
theorem next_rank {g : Gr} (hg : g.ok) (r : Nat → Nat) (hr : ∀ v, v < g.length → ∀ u ∈ deps g v, r u < r v) {out : List Nat} (hl : out.length < g.length) : next g out ≠ none := by
  intro hn
  rw [next_none] at hn
  have key : ∀ m w, r w = m → w < g.length → w ∉ out → False := by
    intro m
    induction m using Nat.strongRecOn with
    | _ m ih =>
      intro w hw hwl hwo
      by_cases hd : ∀ u ∈ deps g w, u ∈ out
      · have := hn w hwl
        have h2 := ready_iff.mpr ⟨hwo, hd⟩
        rw [this] at h2; cases h2
      · have : ∃ u ∈ deps g w, u ∉ out := by
          refine Classical.byContradiction fun hc => hd fun u hu => ?_
          refine Classical.byContradiction fun hx => hc ⟨u, hu, hx⟩
        obtain ⟨u, hu, huo⟩ := this
        exact ih (r u) (by rw [← hw]; exact hr w hwl u hu) u rfl (deps_lt hg hu) huo
  have : g.length ≤ out.length := full_len fun w hw => Classical.byContradiction fun hc => key _ w rfl hw hc
  omega

theorem ordGo_full {g : Gr} (hg : g.ok) (r : Nat → Nat) (hr : ∀ v, v < g.length → ∀ u ∈ deps g v, r u < r v) : ∀ (f : Nat) (out : List Nat), Topo g out → out.length + f = g.length → (ordGo g f out).length = g.length
  | 0, out, _, h => by simpa [ordGo] using h
  | f + 1, out, ht, h => by
    unfold ordGo
    split
    · rename_i hn; exact absurd hn (next_rank hg r hr (by omega))
    · rename_i v hv
      exact ordGo_full hg r hr f _ (.snoc ht hv) (by simp; omega)
theorem ord_full {g : Gr} (hg : g.ok) (r : Nat → Nat) (hr : ∀ v, v < g.length → ∀ u ∈ deps g v, r u < r v) : (ord g).length = g.length :=
  ordGo_full hg r hr _ _ .nil (by simp)

/-- What is above a node: what it hangs on, and what is above that. -/
inductive Up (g : Gr) : Nat → Nat → Prop
  | one {v u : Nat} (h : u ∈ deps g v) : Up g v u
  | more {v w u : Nat} (h : w ∈ deps g v) (k : Up g w u) : Up g v u

theorem Up.trans {g : Gr} {a b c : Nat} (h : Up g a b) (k : Up g b c) : Up g a c := by
  induction h with
  | one h => exact .more h k
  | more h _ ih => exact .more h (ih k)
theorem Up.snoc {g : Gr} {a b c : Nat} (h : Up g a b) (k : c ∈ deps g b) : Up g a c := h.trans (.one k)
theorem Up.last {g : Gr} {a c : Nat} (h : Up g a c) : ∃ b, (b = a ∨ Up g a b) ∧ c ∈ deps g b := by
  induction h with
  | @one v u h => exact ⟨v, .inl rfl, h⟩
  | @more v w u h k ih =>
    obtain ⟨b, hb, hc⟩ := ih
    rcases hb with rfl | hb
    · exact ⟨_, .inr (.one h), hc⟩
    · exact ⟨b, .inr (.more h hb), hc⟩
theorem Up.lt {g : Gr} (hg : g.ok) {a b : Nat} (h : Up g a b) : a < g.length ∧ b < g.length := by
  induction h with
  | one h => exact ⟨deps_of h, deps_lt hg h⟩
  | more h _ ih => exact ⟨deps_of h, ih.2⟩
theorem Up.rank {g : Gr} {r : Nat → Nat} (hr : ∀ v, v < g.length → ∀ u ∈ deps g v, r u < r v) {a b : Nat} (h : Up g a b) : r b < r a := by
  induction h with
  | one h => exact hr _ (deps_of h) _ h
  | more h _ ih => exact Nat.lt_trans ih (hr _ (deps_of h) _ h)

/-- A right graph's order: where each node stands. -/
structure Right (g : Gr) : Prop where
  ok : g.ok
  full : (ord g).length = g.length

theorem Right.mem {g : Gr} (h : Right g) {v : Nat} (hv : v < g.length) : v ∈ ord g := nodup_full (ord_topo g).nodup (ord_topo g).lt h.full v hv
theorem Right.pos {g : Gr} (h : Right g) {v u : Nat} (hu : u ∈ deps g v) : (ord g).idxOf u < (ord g).idxOf v := ((ord_topo g).deps v (h.mem (deps_of hu)) u hu).2
theorem Right.up_pos {g : Gr} (h : Right g) {v u : Nat} (hu : Up g v u) : (ord g).idxOf u < (ord g).idxOf v := Up.rank (r := fun v => (ord g).idxOf v) (fun v _ u hu => h.pos hu) hu
theorem Right.irrefl {g : Gr} (h : Right g) (v : Nat) : ¬ Up g v v := fun hu => Nat.lt_irrefl _ (h.up_pos hu)
theorem Right.idx {g : Gr} (h : Right g) {i : Nat} (hi : i < (ord g).length) : (ord g).idxOf (ord g)[i] = i := (ord_topo g).nodup.idxOf_getElem i hi
theorem Right.at {g : Gr} (h : Right g) {v : Nat} (hv : v < g.length) : (ord g)[(ord g).idxOf v]'(List.idxOf_lt_length_of_mem (h.mem hv)) = v := List.getElem_idxOf _

/-- An error of a graph, or none. -/
def grErr (g : Gr) : Int := if 100 < g.length then 1 else if g.ok then (if (ord g).length < g.length then 5 else 0) else 4

theorem grErr_zero {g : Gr} : grErr g = 0 ↔ g.length ≤ 100 ∧ Right g := by
  unfold grErr
  have hl := (ord_topo g).len
  constructor
  · intro h
    by_cases h1 : 100 < g.length
    · simp [h1] at h
    · by_cases h2 : g.ok
      · by_cases h3 : (ord g).length < g.length
        · simp [h1, h2, h3] at h
        · exact ⟨by omega, h2, by omega⟩
      · simp [h1, h2] at h
  · rintro ⟨h1, h2, h3⟩
    have : ¬ 100 < g.length := by omega
    simp [this, h2, h3]

def nats (l : List Nat) : List Int := l.map Int.ofNat
theorem nats_length (l : List Nat) : (nats l).length = l.length := by simp [nats]
theorem nats_append (l k : List Nat) : nats (l ++ k) = nats l ++ nats k := by simp [nats]

open Classical in
/-- What is above a node, and what is under it, in order. -/
noncomputable def aboveL (g : Gr) (v : Nat) : List Nat := (ord g).filter fun u => decide (u ≠ v ∧ Up g v u)
open Classical in
noncomputable def underL (g : Gr) (v : Nat) : List Nat := (ord g).filter fun u => decide (u ≠ v ∧ Up g u v)

theorem mem_aboveL {g : Gr} (h : Right g) {v u : Nat} : u ∈ aboveL g v ↔ Up g v u := by
  unfold aboveL
  simp only [List.mem_filter, decide_eq_true_eq]
  constructor
  · exact fun x => x.2.2
  · exact fun x => ⟨h.mem (x.lt h.ok).2, fun e => h.irrefl v (e ▸ x), x⟩
theorem mem_underL {g : Gr} (h : Right g) {v u : Nat} : u ∈ underL g v ↔ Up g u v := by
  unfold underL
  simp only [List.mem_filter, decide_eq_true_eq]
  constructor
  · exact fun x => x.2.2
  · exact fun x => ⟨h.mem (x.lt h.ok).1, fun e => h.irrefl v (e ▸ x), x⟩

/-- On how many nodes that are not out yet a node hangs. -/
def wcnt (g : Gr) (out : List Nat) (v : Nat) : Nat := (List.range g.length).countP fun u => decide (u ∈ deps g v ∧ u ∉ out)

theorem mem_deps {g : Gr} (h : g.ok) {v : Nat} (hv : v < g.length) {u : Nat} : u ∈ deps g v ↔ (u : Int) ∈ g[v] := by
  rw [deps_at hv, List.mem_map]
  constructor
  · rintro ⟨x, hx, rfl⟩
    have := h _ (List.getElem_mem hv) x hx
    rwa [Int.toNat_of_nonneg this.1]
  · exact fun hx => ⟨_, hx, by simp⟩

theorem countP_range_add {p q : Nat → Bool} {x : Nat} : ∀ {n : Nat}, x < n → p x = false → q x = true → (∀ y, y ≠ x → q y = p y) → (List.range n).countP q = (List.range n).countP p + 1
  | 0, hx, _, _, _ => by omega
  | n + 1, hx, hp, hq, h => by
    rw [List.range_succ, List.countP_append, List.countP_append, List.countP_singleton, List.countP_singleton]
    by_cases e : x = n
    · subst e
      have : (List.range x).countP q = (List.range x).countP p := by
        apply List.countP_congr
        intro y hy
        rw [h y (by simp at hy; omega)]
      rw [this, hp, hq]; simp
    · rw [countP_range_add (by omega) hp hq h, h n (Ne.symm e)]; omega

theorem wcnt_snoc {g : Gr} (hg : g.ok) {out : List Nat} {v u : Nat} (hv : v ∉ out) : wcnt g out u = wcnt g (out ++ [v]) u + if v ∈ deps g u then 1 else 0 := by
  unfold wcnt
  by_cases h : v ∈ deps g u
  · rw [if_pos h]
    refine countP_range_add (x := v) (deps_lt hg h) ?_ ?_ ?_
    · simp
    · simp [h, hv]
    · intro y hy
      simp [hy]
  · rw [if_neg h, Nat.add_zero]
    apply List.countP_congr
    intro y _
    have : y ∈ deps g u → y ≠ v := fun h1 h2 => h (h2 ▸ h1)
    simp only [List.mem_append, List.mem_singleton, not_or, decide_eq_true_eq]
    constructor
    · rintro ⟨a, b⟩; exact ⟨a, b, this a⟩
    · rintro ⟨a, b, _⟩; exact ⟨a, b⟩

theorem wcnt_zero {g : Gr} (hg : g.ok) {out : List Nat} {v : Nat} : wcnt g out v = 0 ↔ ∀ u ∈ deps g v, u ∈ out := by
  unfold wcnt
  rw [List.countP_eq_zero]
  constructor
  · intro h u hu
    have := h u (by simpa using deps_lt hg hu)
    simp only [decide_eq_true_eq, not_and, Classical.not_not] at this
    exact this hu
  · intro h u _
    simp only [decide_eq_true_eq, not_and, Classical.not_not]
    exact h u

/-- Its order, if it is right. -/
def ordL (g : Gr) : List Nat := if grErr g = 0 then ord g else []
def nodeErr (g : Gr) (v : Int) : Int := if grErr g = 0 then (if v < 0 ∨ (g.length : Int) ≤ v then 4 else 0) else grErr g
theorem nodeErr_zero {g : Gr} {v : Int} : nodeErr g v = 0 ↔ grErr g = 0 ∧ 0 ≤ v ∧ v < g.length := by
  unfold nodeErr
  by_cases h : grErr g = 0
  · by_cases h2 : v < 0 ∨ (g.length : Int) ≤ v
    · rw [if_pos h, if_pos h2]; exact ⟨fun e => absurd e (by decide), fun ⟨_, a, b⟩ => by omega⟩
    · rw [if_pos h, if_neg h2]; exact ⟨fun _ => ⟨h, by omega, by omega⟩, fun _ => rfl⟩
  · simp only [h, if_false, false_and]

/-- What is met on the way up from v, when all that stand from k on have been looked at. -/
def MetA (g : Gr) (v k w : Nat) : Prop := w = v ∨ ∃ x, (x = v ∨ Up g v x) ∧ k ≤ (ord g).idxOf x ∧ w ∈ deps g x
/-- The same, on the way down. -/
def MetU (g : Gr) (v k w : Nat) : Prop := w = v ∨ ((ord g).idxOf w < k ∧ Up g w v)
/-- What is near on the way up from v, when all that stand from k on have been looked at. -/
def NearA (g : Gr) (v k w : Nat) : Prop := w = v ∨ (k ≤ (ord g).idxOf w ∧ Up g v w)

section
variable {g : Gr} (h : Right g) {v : Nat}
include h

theorem pos_lt {x : Nat} (hx : x < g.length) : (ord g).idxOf x < g.length := by rw [← h.full]; exact List.idxOf_lt_length_of_mem (h.mem hx)
theorem ord_lt {k : Nat} (hk : k < (ord g).length) : (ord g)[k] < g.length := (ord_topo g).lt _ (List.getElem_mem hk)
theorem pos_eq {k : Nat} (hk : k < (ord g).length) {x : Nat} (hx : x < g.length) (e : (ord g).idxOf x = k) : x = (ord g)[k] := by
  subst e; exact (h.at hx).symm

theorem metA_start {w : Nat} : MetA g v g.length w ↔ w = v := by
  unfold MetA
  constructor
  · rintro (h1 | ⟨x, _, h2, h3⟩)
    · exact h1
    · have := pos_lt h (deps_of h3); omega
  · exact .inl
theorem metA_here {k : Nat} (hk : k < (ord g).length) : MetA g v (k + 1) (ord g)[k] ↔ (ord g)[k] = v ∨ Up g v (ord g)[k] := by
  unfold MetA
  constructor
  · rintro (h1 | ⟨x, h1, h2, h3⟩)
    · exact .inl h1
    · rcases h1 with rfl | h1
      · exact .inr (.one h3)
      · exact .inr (h1.snoc h3)
  · rintro (h1 | h1)
    · exact .inl h1
    · obtain ⟨b, hb, hc⟩ := h1.last
      refine .inr ⟨b, hb, ?_, hc⟩
      have := h.pos hc
      rw [h.idx hk] at this
      omega
theorem metA_step {k w : Nat} (hk : k < (ord g).length) : MetA g v k w ↔ MetA g v (k + 1) w ∨ (MetA g v (k + 1) (ord g)[k] ∧ w ∈ deps g (ord g)[k]) := by
  rw [metA_here h hk]
  unfold MetA
  constructor
  · rintro (h1 | ⟨x, h1, h2, h3⟩)
    · exact .inl (.inl h1)
    · by_cases e : (ord g).idxOf x = k
      · have := pos_eq h hk (deps_of h3) e
        subst this
        exact .inr ⟨h1, h3⟩
      · exact .inl (.inr ⟨x, h1, by omega, h3⟩)
  · rintro ((h1 | ⟨x, h1, h2, h3⟩) | ⟨h1, h2⟩)
    · exact .inl h1
    · exact .inr ⟨x, h1, by omega, h3⟩
    · exact .inr ⟨_, h1, by rw [h.idx hk]; exact Nat.le_refl _, h2⟩
theorem metA_end {w : Nat} : MetA g v 0 w ↔ w = v ∨ Up g v w := by
  unfold MetA
  constructor
  · rintro (h1 | ⟨x, h1, _, h3⟩)
    · exact .inl h1
    · rcases h1 with rfl | h1
      · exact .inr (.one h3)
      · exact .inr (h1.snoc h3)
  · rintro (h1 | h1)
    · exact .inl h1
    · obtain ⟨b, hb, hc⟩ := h1.last
      exact .inr ⟨b, hb, Nat.zero_le _, hc⟩

theorem metU_start {w : Nat} : MetU g v 0 w ↔ w = v := by
  unfold MetU
  constructor
  · rintro (h1 | ⟨h1, _⟩)
    · exact h1
    · omega
  · exact .inl
theorem metU_step {k w : Nat} (hk : k < (ord g).length) : MetU g v (k + 1) w ↔ MetU g v k w ∨ (w = (ord g)[k] ∧ ∃ u ∈ deps g w, MetU g v k u) := by
  unfold MetU
  constructor
  · rintro (h1 | ⟨h1, h2⟩)
    · exact .inl (.inl h1)
    · by_cases e : (ord g).idxOf w = k
      · refine .inr ⟨pos_eq h hk (h2.lt h.ok).1 e, ?_⟩
        cases h2 with
        | one h3 => exact ⟨v, h3, .inl rfl⟩
        | more h3 h4 => exact ⟨_, h3, .inr ⟨by have := h.pos h3; omega, h4⟩⟩
      · exact .inl (.inr ⟨by omega, h2⟩)
  · rintro ((h1 | ⟨h1, h2⟩) | ⟨h1, u, h2, h3⟩)
    · exact .inl h1
    · exact .inr ⟨by omega, h2⟩
    · refine .inr ⟨by rw [h1, h.idx hk]; omega, ?_⟩
      rcases h3 with rfl | ⟨_, h3⟩
      · exact .one h2
      · exact .more h2 h3
theorem metU_end {w : Nat} : MetU g v g.length w ↔ w = v ∨ Up g w v := by
  unfold MetU
  constructor
  · rintro (h1 | ⟨_, h1⟩)
    · exact .inl h1
    · exact .inr h1
  · rintro (h1 | h1)
    · exact .inl h1
    · exact .inr ⟨pos_lt h (h1.lt h.ok).1, h1⟩

theorem nearA_start {w : Nat} : NearA g v g.length w ↔ w = v := by
  unfold NearA
  constructor
  · rintro (h1 | ⟨h1, h2⟩)
    · exact h1
    · have := pos_lt h (h2.lt h.ok).2; omega
  · exact .inl
theorem nearA_step {k w : Nat} (hk : k < (ord g).length) : NearA g v k w ↔ NearA g v (k + 1) w ∨ (w = (ord g)[k] ∧ ∃ u, NearA g v (k + 1) u ∧ w ∈ deps g u) := by
  unfold NearA
  constructor
  · rintro (h1 | ⟨h1, h2⟩)
    · exact .inl (.inl h1)
    · by_cases e : (ord g).idxOf w = k
      · refine .inr ⟨pos_eq h hk (h2.lt h.ok).2 e, ?_⟩
        obtain ⟨b, hb, hc⟩ := h2.last
        refine ⟨b, ?_, hc⟩
        rcases hb with rfl | hb
        · exact .inl rfl
        · exact .inr ⟨by have := h.pos hc; omega, hb⟩
      · exact .inl (.inr ⟨by omega, h2⟩)
  · rintro ((h1 | ⟨h1, h2⟩) | ⟨h1, u, h2, h3⟩)
    · exact .inl h1
    · exact .inr ⟨by omega, h2⟩
    · refine .inr ⟨by rw [h1, h.idx hk]; exact Nat.le_refl _, ?_⟩
      rcases h2 with rfl | ⟨_, h2⟩
      · exact .one h3
      · exact h2.snoc h3
theorem nearA_end {w : Nat} : NearA g v 0 w ↔ w = v ∨ Up g v w := by
  unfold NearA
  constructor
  · rintro (h1 | ⟨_, h1⟩)
    · exact .inl h1
    · exact .inr h1
  · rintro (h1 | h1)
    · exact .inl h1
    · exact .inr ⟨Nat.zero_le _, h1⟩
end

/-- What Above and Under hand back. -/
noncomputable def aboveR (g : Gr) (v : Int) : List Nat := if nodeErr g v = 0 then aboveL g v.toNat else []
noncomputable def underR (g : Gr) (v : Int) : List Nat := if nodeErr g v = 0 then underL g v.toNat else []
end Go.Proofs.Ytjamidgdhmjhaaa.Cn
/- What a chip is made of raw numbers: as the statements draw it. No conditions. -/
set_option linter.unusedSimpArgs false
set_option linter.unusedVariables false
namespace Go.Proofs.Ytjamidgdhmjhaaa.Cn
open Go Go.RowKit

/-- Which of n things a number speaks of. -/
def pickI (c : Int) (n : Nat) : Nat := (if c < 0 then -(c + 1) else c).toNat % n
theorem pickI_lt (c : Int) {n : Nat} (h : 0 < n) : pickI c n < n := Nat.mod_lt _ h

theorem wrapU64 {n : Int} (h0 : 0 ≤ n) (h1 : n ≤ 18446744073709551615) : IntKind.u64.wrap n = n := by
  have e : IntKind.bits .u64 = 64 := rfl
  have hs : IntKind.signed .u64 = false := rfl
  simp only [IntKind.wrap, e, hs, Bool.false_and, decide_eq_true_eq]
  simp; omega
theorem wrapU32 {n : Int} (h0 : 0 ≤ n) (h1 : n ≤ 4294967295) : IntKind.u32.wrap n = n := by
  have e : IntKind.bits .u32 = 32 := rfl
  have hs : IntKind.signed .u32 = false := rfl
  simp only [IntKind.wrap, e, hs, Bool.false_and, decide_eq_true_eq]
  simp; omega
/-- The numbers that are drawn of a list. -/
def drawN (l : List Int) (i : Nat) : Nat := if l.length = 0 then 0 else pickI ((l.getD (i % l.length) 0).tdiv (1 + ((i / l.length : Nat) : Int))) 1000000
def kindN : Nat → Int
  | 0 => 112
  | 1 => 100
  | 2 => 103
  | 3 => 109
  | _ => 103
theorem drawN_lt (l : List Int) (i : Nat) : drawN l i < 1000000 := by
  unfold drawN; split
  · decide
  · exact pickI_lt _ (by decide)
/-- The clocks, by what is drawn: an oscillator, and others, each from lesser ones. -/
def chClk (d : Nat → Nat) : Nat → Clk
  | 0 => ⟨111, [], 1 + (d 0 : Nat), 0, 0, 0⟩
  | i + 1 =>
    let k := 10 + 3 * i
    let kind := kindN (d k % 5)
    let x : Int := (d (k + 1) % (i + 1) : Nat)
    if kind = 112 then ⟨kind, [x], 0, 1 + (d (k + 2) % 8 : Nat), 1 + (d (k + 2) / 8 % 4 : Nat), (d (k + 2) / 32 % 4 : Nat)⟩
    else if kind = 100 then ⟨kind, [x], 0, 0, 1 + (d (k + 2) % 8 : Nat), 0⟩
    else if kind = 109 then ⟨kind, [x, (d (k + 2) % (i + 1) : Nat)], 0, 0, 0, 0⟩
    else ⟨kind, [x], 0, 0, 0, 0⟩
def chDom (d : Nat → Nat) (i : Nat) : Dom := ⟨if 0 < i ∧ 0 < d (44 + i) % 3 then (d (44 + i) / 3 % i : Nat) else -1, (d (40 + i) % 4 : Nat), decide (d (40 + i) / 4 % 2 = 1)⟩
def chRst (d : Nat → Nat) (i : Nat) : Int := (d (50 + i) % 4 : Nat)
def nClk (d : Nat → Nat) : Nat := d 1 % 9 + 1
def nDom (d : Nat → Nat) : Nat := d 2 % 4 + 1
def nRst (d : Nat → Nat) : Nat := d 3 % 3 + 1
def nDev (d : Nat → Nat) : Nat := d 4 % 4 + 1
def chReg (d : Nat → Nat) (k j : Nat) : Reg := ⟨(d (k + 5 + j) % 7 : Nat), decide (d (k + 5 + j) / 7 % 2 = 0)⟩
def chNeeds (d : Nat → Nat) (i k : Nat) : List Int :=
  (if 0 < i ∧ d (k + 9) % 2 = 1 then [((d (k + 10) % i : Nat) : Int)] else []) ++ (if 1 < i ∧ d (k + 11) % 3 = 1 then [((d (k + 11) / 3 % i : Nat) : Int)] else [])
def chDev (d : Nat → Nat) (i : Nat) : Dev :=
  let k := 60 + 12 * i
  ⟨(d k % nClk d : Nat), (d (k + 1) % nDom d : Nat), (d (k + 2) % nRst d : Nat), (d (k + 3) % 3 : Nat), (List.range (d (k + 4) % 5)).map (chReg d k), chNeeds d i k⟩
def chipD (d : Nat → Nat) : Soc := ⟨(List.range (nClk d)).map (chClk d), (List.range (nDom d)).map (chDom d), (List.range (nRst d)).map (chRst d), (List.range (nDev d)).map (chDev d)⟩
def chipS (l : List Int) : Soc := chipD (drawN l)
end Go.Proofs.Ytjamidgdhmjhaaa.Cn
