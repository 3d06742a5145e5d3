/- Count: maps.Clone, over the program's own code: a new block with the old entries. -/
import Derived.Test.YtoblpialfhfdgaaCnL2
import Derived.Test.YtoblpialfhfdgaaCnLk
import Derived.WalkKit
import Derived.ProofKit
import Derived.Laws.Externs
import Derived.MapKept
import Derived.Below
set_option linter.unusedSimpArgs false
set_option linter.unusedVariables false
namespace Go.Proofs.Ytoblpialfhfdgaa.Cn
open Go Go.Proofs Go.RowKit

theorem wclone_eqIn (P : Program) (w : World) (d : Nat) (t k e : TypeId) (b : Nat) (h : P.underlying t = some (.map k e)) : (Op.equalIn (d + 1) t (.map (some b)) (.map none)).run P w = .ok false w := by
  simp [Op.equalIn, run_underlying h]
theorem wclone_eql (P : Program) (w : World) (t k e : TypeId) (b : Nat) (h : P.underlying t = some (.map k e)) : (binOp .eql t (.map (some b)) (.map none)).run P w = .ok (.bool false) w := by
  simp only [binOp]
  simp [show Op.equal t (.map (some b)) (.map none) = Op.equalIn (9999 + 1) t (.map (some b)) (.map none) from rfl, wclone_eqIn P w 9999 t k e b h]
theorem wclone_assert (P : Program) (w : World) (t xT k e : TypeId) (v : Value) (h : P.underlying t = some (.map k e)) : (Instr.typeAssert (.iface t v) xT t false).run P w = .ok v w := by
  simp [Instr.typeAssert, run_underlying h, go_sem, Result.andThen]
theorem wclone_run (P : Program) (w : World) {r : Nat} {es : Array MapEntry} {clock : Nat} (t : TypeId) (hb : w.heap[r]? = some (.map es clock)) :
    (Extern.MapsClone.clone #[.iface t (.map (some r))]).run P w = .ok (.iface t (.map (some w.heap.size))) (w.alloc (.map es clock)) := by
  obtain ⟨z, e⟩ : ∃ z : String, Extern.MapsClone.clone #[.iface t (.map (some r))] = (getObj r >>= fun o => match o with
      | .map es clock => (newObj (.map es clock) >>= fun n => pure (.iface t (.map (some n))))
      | _ => stuck z) := ⟨_, rfl⟩
  rw [e]
  simp [MapKept.run_getObj_map hb, Result.andThen, go_sem]
set_option maxRecDepth 100000 in
set_option maxHeartbeats 2000000 in
theorem wclone (b : Nat) (es : Array MapEntry) (clock : Nat) (w : World) (hb : w.heap[b]? = some (.map es clock)) :
    Calls Try.prog F.maps_Clone_map_int_int_int_int #[.map (some b)] w fun e w' => e = .returned (.map (some w.heap.size)) ∧ w' = w.alloc (.map es clock) := by
  have hq := fun w => wclone_eql Try.prog w 74 _ _ b Try.underlying74
  go_enter Try.func56, Try.ntmps56
  go_wp2
  rw [run_callFunc_extern Try.func86 (by kernel_rfl) (by kernel_rfl) (by kernel_rfl) (e := Extern.MapsClone.clone) (by kernel_rfl), wclone_run Try.prog w 74 hb]
  simp only [Result.andThen]
  rw [Oper.upon_value]
  go_wp2
  rw [wclone_assert Try.prog _ 74 20 _ _ _ Try.underlying74]
  simp only [Result.andThen]
  rw [Oper.upon_value]
  go_wp2
  go_ret
  exact ⟨rfl, rfl⟩
/-- maps.Clone in the layer's word. -/
theorem clone_spec {st : ASt} {m : Nat} {es : List (Int × AV)} (hm : st.h m = some (.map es)) : ACalls Try.prog F.maps_Clone_map_int_int_int_int [.map m] st fun r s => ∃ id, st.h id = none ∧ r = .map id ∧ s = st.new id (.map es) := by
  intro B w0 R wr C w vs s hl hv
  have hv0 := hv 0 (by simp)
  have hvs : vs = #[.map (some (C.φ m).1)] := by
    have h1 : vs.size = 1 := hl
    obtain ⟨x, rfl⟩ : ∃ x, vs = #[x] := ⟨vs[0], by
      refine Array.ext (by simp [h1]) fun i h2 h3 => ?_
      have : i = 0 := by simpa using h3
      subst this; rfl⟩
    have hv1 : VS C (.map m) x := by simpa using hv0
    cases hv1
    rfl
  subst hvs
  obtain ⟨rs, h1, h2, h3⟩ := s.obj m _ hm
  refine (wclone _ rs es.length w h1).mono ?_
  rintro e w' ⟨rfl, rfl⟩
  refine ⟨C.push (w.heap.size, 0) 0, .map C.N, st.new C.N (.map es), _, C.push_le (w.heap.size, 0) 0, s.alloc (.map rs es.length) (.map es) 0 ⟨rs, by rw [C.push_φ]; exact heap_push_eq _ _, h2, fun i hi => ?_⟩, rfl, ?_, C.N, s.fresh, rfl, rfl⟩
  · obtain ⟨a, b, c⟩ := h3 i hi
    exact ⟨a, b.mono (C.push_le (w.heap.size, 0) 0), c⟩
  · have := VS.map (C := C.push (w.heap.size, 0) 0) C.N (by rw [C.push_N]; omega)
    rw [C.push_φ] at this
    exact this
end Go.Proofs.Ytoblpialfhfdgaa.Cn
