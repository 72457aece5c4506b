/- A list of numbers that came in, opened. -/
import Derived.Test.YtkhpifjhnkknbaaDoorLawLng
import Derived.Test.YtkhpifjhnkknbaaDoorOpp
import Derived.ChangeSlices
namespace Go.Proofs.YtkhpifjhnkknbaaDoor
set_option linter.unusedSimpArgs false
set_option linter.unusedVariables false
open Go.ChangeShapes Go.WideShapes Go.ChangeAt Go.RowKit

theorem Tryd.cellsInt : Tryd.prog.cellsOf 3 = 1 := by kernel_rfl
theorem Tryd.bytesInt : Tryd.prog.bytesOf 3 = 8 := by kernel_rfl
theorem argI_of {H : Type} {enc : TypeId × Value → H} {W : World} {base : Nat} {v : Value} {d : DataW H} {p : List MemPlace} (hv : Value.okWide Tryd.prog W .any base 41 v)
    (h : DataW.Trod enc Tryd.prog W 0 (fun _ => true) true 41 v d p) (hw : (DataW.weights Tryd.prog 41 d).all (fun x => decide (x ≤ reachBytes)) = true) : ∃ N, ArgI W v N := by
  obtain ⟨a0, len0, cap0, rfl⟩ := okWide_slice Tryd.underlying41 hv
  obtain ⟨fuel, hf⟩ := h
  rcases open_ints Tryd.underlying41 Tryd.underlying3 Tryd.cellsInt hf with ⟨hcs, hx⟩ | ⟨a, len, cap, zs, hcs, -, hl, hm, hz, hx, hcell, hwf⟩
  · have e : (Value.slice a0 len0 cap0) = .slice none 0 0 := by simpa [Value.cells] using hcs
    rw [e]
    exact ⟨0, none, 0, rfl, by simp, by simp, fun j hj => by omega⟩
  · have e : (Value.slice a0 len0 cap0) = .slice (some a) len cap := by simpa [Value.cells] using hcs
    rw [e]
    simp only [if_true] at hz
    simp only [Prod.mk.injEq] at hx
    obtain ⟨rfl, -⟩ := hx
    have hll : (zs.take len).length = len := by simp; omega
    simp only [DataW.weights, Tryd.underlying41, List.all_cons, Bool.and_eq_true, decide_eq_true_eq, Tryd.bytesInt] at hw
    have hw1 := hw.1
    have h1 : (lits (H := H) .i64 (zs.take len)).length = len := by unfold lits; rw [List.length_map, hll]
    rw [h1] at hw1
    have hr : reachBytes = 140737488351232 := by decide
    refine ⟨len, some a, cap, rfl, hl, by omega, fun j hj => ?_⟩
    have hjs : j < zs.length := by omega
    have hc := hcell j hjs
    obtain ⟨b, off, spot⟩ := a
    have hspot : spot = none := by
      have h0 := hcell 0 (by omega)
      simpa [Addr.add] using World.cell?_spot h0
    subst hspot
    rw [Go.WideShapes.add_plain] at hc
    have hm := hwf (zs.getD j 0) (by rw [List.getD_eq_getElem?_getD, List.getElem?_eq_getElem hjs]; exact List.getElem_mem hjs)
    generalize zs.getD j 0 = z at *
    refine ⟨b, off, z, rfl, ?_, hc, ?_, ?_⟩
    · unfold World.cell? at hc
      cases hh : W.heap[b]? with
      | none => simp [hh] at hc
      | some o => exact (Array.getElem?_eq_some_iff.1 hh).1
    · simp [Lit.wf, IntKind.min, IntKind.max, IntKind.signed, IntKind.bits] at hm; omega
    · simp [Lit.wf, IntKind.min, IntKind.max, IntKind.signed, IntKind.bits] at hm; omega
end Go.Proofs.YtkhpifjhnkknbaaDoor
