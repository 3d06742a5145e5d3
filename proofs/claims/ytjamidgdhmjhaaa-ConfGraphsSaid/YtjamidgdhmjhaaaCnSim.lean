/- The abstract layer, part 4: how a like world stays like an abstract heap. -/
import Derived.Test.YtjamidgdhmjhaaaCnComp
namespace Go.Proofs.Ytjamidgdhmjhaaa.Cn
open Go Go.RowKit

section
variable {B : Nat} {w0 : World} {R : Nat → Prop} {wr : World} {C : ACx} {st : ASt} {w : World}

theorem ASim.lt (s : ASim B w0 R wr C st w) {i : Nat} {o : AObj} (h : st.h i = some o) : i < C.N := s.live i (by rw [h]; simp)

theorem ASim.fresh (s : ASim B w0 R wr C st w) : st.h C.N = none := by
  cases h : st.h C.N with
  | none => rfl
  | some o => exact absurd (s.lt h) (Nat.lt_irrefl _)

/-- A cell of an owned block. -/
theorem ASim.cell (s : ASim B w0 R wr C st w) {id : Nat} {cs : List AV} (h : st.h id = some (.cells cs)) {off : Nat} (ho : off < cs.length) :
    ∃ v, w.cell? ⟨(C.φ id).1, (C.φ id).2 + off, none⟩ = some v ∧ VS C cs[off] v ∧ w.frozen? ⟨(C.φ id).1, (C.φ id).2 + off, none⟩ = false := by
  obtain ⟨hl, c, t, hw, hs, hv⟩ := s.obj id _ h
  have hlt : (C.φ id).2 + off < c.size := by omega
  refine ⟨c.getD ((C.φ id).2 + off) undef, ?_, hv off ho, ?_⟩
  · simp [World.cell?, hw, hlt]
  · simp [World.frozen?, hw]

theorem ASim.draw (s : ASim B w0 R wr C st w) (n : Nat) : ASim B w0 R wr C st { w with drawn := n } :=
  { live := s.live, below := ⟨s.below.os, s.below.tape, s.below.output, s.below.size, s.below.block⟩, hB := s.hB, inj := s.inj, lo := s.lo
    obj := fun i o h => by have := s.obj i o h; cases o <;> exact this
    imm := s.imm
    res := s.res }

theorem ObjSim.mono {C C' : ACx} {id : Nat} {w : World} {o : AObj} (h : C.le C') (hi : id < C.N) (x : ObjSim C id w o) : ObjSim C' id w o := by
  cases o with
  | cells cs =>
    obtain ⟨hl, c, t, hw, hs, hv⟩ := x
    refine ⟨by rw [h.bs id hi]; exact hl, c, t, by rw [h.φ id hi]; exact hw, by rw [h.φ id hi, h.bs id hi]; exact hs, fun i hi' => ?_⟩
    rw [h.φ id hi]; exact (hv i hi').mono h
  | map es =>
    obtain ⟨rs, hw, hs, hv⟩ := x
    refine ⟨rs, by rw [h.φ id hi]; exact hw, hs, fun i hi' => ?_⟩
    obtain ⟨a, b, c⟩ := hv i hi'
    exact ⟨a, b.mono h, c⟩

theorem ObjSim.world {C : ACx} {id : Nat} {w w' : World} {o : AObj} (hw : w'.heap[(C.φ id).1]? = w.heap[(C.φ id).1]?) (x : ObjSim C id w o) : ObjSim C id w' o := by
  cases o with
  | cells cs => obtain ⟨hl, c, t, h, hs, hv⟩ := x; exact ⟨hl, c, t, hw.trans h, hs, hv⟩
  | map es => obtain ⟨rs, h, hs, hv⟩ := x; exact ⟨rs, hw.trans h, hs, hv⟩

theorem heap_lt {w : World} {b : Nat} {o : Obj} (h : w.heap[b]? = some o) : b < w.heap.size := by
  rcases Nat.lt_or_ge b w.heap.size with h' | h'
  · exact h'
  · rw [Array.getElem?_eq_none h'] at h; cases h

theorem ASim.block_lt (s : ASim B w0 R wr C st w) {id : Nat} (h : st.h id ≠ none) : (C.φ id).1 < w.heap.size := by
  cases ho : st.h id with
  | none => exact absurd ho h
  | some o =>
    have x := s.obj id o ho
    cases o with
    | cells cs => obtain ⟨_, c, t, hw, _⟩ := x; exact heap_lt hw
    | map es => obtain ⟨rs, hw, _⟩ := x; exact heap_lt hw

theorem cell_lt {w : World} {b o : Nat} {v : Value} (h : w.cell? ⟨b, o, none⟩ = some v) : b < w.heap.size := by
  rcases Nat.lt_or_ge b w.heap.size with h' | h'
  · exact h'
  · simp [World.cell?, Array.getElem?_eq_none h'] at h

/-- A new block, new number: where it lies and how large it is. -/
def ACx.push (C : ACx) (p : Nat × Nat) (n : Nat) : ACx :=
  { N := C.N + 1, φ := fun i => if i = C.N then p else C.φ i, bs := fun i => if i = C.N then n else C.bs i, K := C.K }

theorem ACx.push_le (C : ACx) (p : Nat × Nat) (n : Nat) : C.le (C.push p n) :=
  ⟨Nat.le_succ _, fun i hi => by simp [ACx.push, Nat.ne_of_lt hi], fun i hi => by simp [ACx.push, Nat.ne_of_lt hi], fun _ _ _ h => h⟩

theorem ACx.push_φ (C : ACx) (p : Nat × Nat) (n : Nat) : (C.push p n).φ C.N = p := by simp [ACx.push]
theorem ACx.push_bs (C : ACx) (p : Nat × Nat) (n : Nat) : (C.push p n).bs C.N = n := by simp [ACx.push]
theorem ACx.push_N (C : ACx) (p : Nat × Nat) (n : Nat) : (C.push p n).N = C.N + 1 := rfl
theorem ACx.push_K (C : ACx) (p : Nat × Nat) (n : Nat) : (C.push p n).K = C.K := rfl
theorem ACx.push_φ_ne (C : ACx) (p : Nat × Nat) (n : Nat) {i : Nat} (h : i ≠ C.N) : (C.push p n).φ i = C.φ i := by simp [ACx.push, h]

theorem heap_push_lt (w : World) (o : Obj) {b : Nat} (h : b < w.heap.size) : ({ w with heap := w.heap.push o } : World).heap[b]? = w.heap[b]? := by
  show (w.heap.push o)[b]? = _
  rw [Array.getElem?_push, if_neg (by omega)]

theorem heap_push_eq (w : World) (o : Obj) : ({ w with heap := w.heap.push o } : World).heap[w.heap.size]? = some o := by
  show (w.heap.push o)[w.heap.size]? = _
  rw [Array.getElem?_push, if_pos rfl]

theorem cell_of_heap {w w' : World} {b o : Nat} (h : w'.heap[b]? = w.heap[b]?) : w'.cell? ⟨b, o, none⟩ = w.cell? ⟨b, o, none⟩ := by
  simp [World.cell?, h]

/-- A new block behind the others: the world grows by it, and so does the abstract heap. -/
theorem ASim.alloc (s : ASim B w0 R wr C st w) (o : Obj) (ao : AObj) (m : Nat)
    (ho : ObjSim (C.push (w.heap.size, 0) m) C.N { w with heap := w.heap.push o } ao) :
    ASim B w0 R wr (C.push (w.heap.size, 0) m) (st.new C.N ao) { w with heap := w.heap.push o } where
  live := by
    intro i hi
    rw [C.push_N]
    by_cases e : i = C.N
    · omega
    · rw [ASt.new_ne _ e] at hi; have := s.live i hi; omega
  below := s.below.trans ⟨rfl, rfl, rfl, by simp, fun k hk => heap_push_lt w o (Nat.lt_of_lt_of_le hk s.hB)⟩
  hB := by have := s.hB; simp; omega
  inj := by
    intro i j hi hj h
    by_cases ei : i = C.N
    · by_cases ej : j = C.N
      · rw [ei, ej]
      · rw [ASt.new_ne _ ej] at hj
        have := s.block_lt hj
        rw [ei, C.push_φ, C.push_φ_ne _ _ ej] at h
        simp only at h
        omega
    · rw [ASt.new_ne _ ei] at hi
      have hb := s.block_lt hi
      by_cases ej : j = C.N
      · rw [ej, C.push_φ, C.push_φ_ne _ _ ei] at h
        simp only at h
        omega
      · rw [ASt.new_ne _ ej] at hj
        rw [C.push_φ_ne _ _ ei, C.push_φ_ne _ _ ej] at h
        exact s.inj i j hi hj h
  lo := by
    intro i hi
    by_cases ei : i = C.N
    · rw [ei, C.push_φ]; exact s.hB
    · rw [ASt.new_ne _ ei] at hi; rw [C.push_φ_ne _ _ ei]; exact s.lo i hi
  obj := by
    intro i x hx
    by_cases ei : i = C.N
    · rw [ei, ASt.new_self _ s.fresh] at hx; cases hx; rw [ei]; exact ho
    · rw [ASt.new_ne _ ei] at hx
      have y := s.obj i x hx
      refine ObjSim.mono (C.push_le _ _) (s.lt hx) (y.world (heap_push_lt w o (s.block_lt (by rw [hx]; simp))))
  imm := by
    intro b p v hv
    obtain ⟨h1, h0, h2⟩ := s.imm b p v hv
    have hb := cell_lt h1
    refine ⟨(cell_of_heap (heap_push_lt w o hb)).trans h1, h0, fun i hi => ?_⟩
    by_cases ei : i = C.N
    · rw [ei, C.push_φ]; simp only; omega
    · rw [ASt.new_ne _ ei] at hi; rw [C.push_φ_ne _ _ ei]; exact h2 i hi
  res := by
    intro b hb
    obtain ⟨h1, h2, h3⟩ := s.res b hb
    refine ⟨by simp; omega, (heap_push_lt w o h1).trans h2, fun i hi => ?_⟩
    by_cases ei : i = C.N
    · rw [ei, C.push_φ]; simp only; omega
    · rw [ASt.new_ne _ ei] at hi; rw [C.push_φ_ne _ _ ei]; exact h3 i hi

/-- An owned block is written: its block of the world alone turns. -/
theorem ASim.wrote (s : ASim B w0 R wr C st w) {id : Nat} {old : AObj} (h : st.h id = some old) (w' : World) (o : AObj)
    (hos : w'.os = w.os) (ht : w'.tape = w.tape) (hout : w'.output = w.output) (hsz : w'.heap.size = w.heap.size)
    (hk : ∀ k, k ≠ (C.φ id).1 → w'.heap[k]? = w.heap[k]?) (ho : ObjSim C id w' o) : ASim B w0 R wr C (st.set id o) w' where
  live := by
    intro i hi
    refine s.live i ?_
    rw [ASt.set_h] at hi; split at hi <;> simp_all
  below := s.below.trans ⟨hos, ht, hout, by omega, fun k hk' => hk k (by have := s.lo id (by rw [h]; simp); omega)⟩
  hB := by rw [hsz]; exact s.hB
  inj := by
    intro i j hi hj e
    refine s.inj i j ?_ ?_ e
    · rw [ASt.set_h] at hi; split at hi <;> simp_all
    · rw [ASt.set_h] at hj; split at hj <;> simp_all
  lo := by
    intro i hi
    refine s.lo i ?_
    rw [ASt.set_h] at hi; split at hi <;> simp_all
  obj := by
    intro i x hx
    rw [ASt.set_h] at hx
    by_cases e : i = id
    · rw [if_pos e, e, h] at hx; simp at hx; rw [e, ← hx]; exact ho
    · rw [if_neg e] at hx
      refine (s.obj i x hx).world (hk _ fun e' => e (s.inj i id (by rw [hx]; simp) (by rw [h]; simp) e'))
  imm := by
    intro b p v hv
    obtain ⟨h1, h0, h2⟩ := s.imm b p v hv
    have hne := h2 id (by rw [h]; simp)
    refine ⟨(cell_of_heap (hk b fun e => hne e.symm)).trans h1, h0, fun i hi => h2 i ?_⟩
    rw [ASt.set_h] at hi; split at hi <;> simp_all
  res := by
    intro b hb
    obtain ⟨h1, h2, h3⟩ := s.res b hb
    have hne := h3 id (by rw [h]; simp)
    refine ⟨by rw [hsz]; exact h1, (hk b fun e => hne e.symm).trans h2, fun i hi => h3 i ?_⟩
    rw [ASt.set_h] at hi; split at hi <;> simp_all

end
end Go.Proofs.Ytjamidgdhmjhaaa.Cn
