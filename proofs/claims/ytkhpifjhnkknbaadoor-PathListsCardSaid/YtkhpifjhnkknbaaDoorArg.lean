/- A list of texts that came in, opened. -/
import Derived.Test.YtkhpifjhnkknbaaDoorFew
import Derived.Test.YtkhpifjhnkknbaaDoorOpp
import Derived.SliceStrings
namespace Go.Proofs.YtkhpifjhnkknbaaDoor
set_option linter.unusedSimpArgs false
set_option linter.unusedVariables false
open Go.ChangeShapes Go.WideShapes Go.ChangeAt Go.RowKit

theorem Tryd.cellsStr : Tryd.prog.cellsOf 9 = 1 := by kernel_rfl
theorem Tryd.bytesStr : Tryd.prog.bytesOf 9 = 16 := by kernel_rfl
theorem arg_of {H : Type} {enc : TypeId × Value → H} {W : World} {base : Nat} {v : Value} {d : DataW H} {p : List MemPlace} (hv : Value.okWide Tryd.prog W .any base 25 v)
    (h : DataW.Trod enc Tryd.prog W 0 (fun _ => true) true 25 v d p) (hw : (DataW.weights Tryd.prog 25 d).all (fun x => decide (x ≤ reachBytes)) = true) : ∃ ls, Arg W v ls := by
  obtain ⟨a0, len0, cap0, rfl⟩ := okWide_slice Tryd.underlying25 hv
  obtain ⟨fuel, hf⟩ := h
  rcases open_strings Tryd.underlying25 Tryd.underlying9 Tryd.cellsStr hf with ⟨hcs, hx⟩ | ⟨a, len, cap, ss, hcs, -, hl, hm, hz, hx, hcell, -⟩
  · have e : (Value.slice a0 len0 cap0) = .slice none 0 0 := by simpa [Value.cells] using hcs
    rw [e]
    exact ⟨[], none, 0, rfl, by simp, by simp, fun j x hx => by simp at hx⟩
  · have e : (Value.slice a0 len0 cap0) = .slice (some a) len cap := by simpa [Value.cells] using hcs
    rw [e]
    simp only [if_true] at hz
    simp only [Prod.mk.injEq] at hx
    obtain ⟨rfl, -⟩ := hx
    have hll : (ss.take len).length = len := by simp; omega
    simp only [DataW.weights, Tryd.underlying25, List.all_cons, Bool.and_eq_true, decide_eq_true_eq, Tryd.bytesStr] at hw
    have hw1 := hw.1
    have h1 : (strs (H := H) (ss.take len)).length = len := by unfold strs; rw [List.length_map, hll]
    rw [h1] at hw1
    have hr : reachBytes = 140737488351232 := by decide
    refine ⟨ss.take len, some a, cap, by rw [hll], by rw [hll]; exact hl, by rw [hll]; omega, fun j x hx => ?_⟩
    rw [List.getElem?_take] at hx
    split at hx
    · rename_i hj
      have hjs : j < ss.length := by omega
      have hc := hcell j hjs
      have hx' : ss.getD j ByteArray.empty = x := by rw [List.getD_eq_getElem?_getD, hx]; rfl
      rw [hx'] at hc
      obtain ⟨b, off, spot⟩ := a
      have hspot : spot = none := by
        have h0 := hcell 0 (by omega)
        simpa [Addr.add] using World.cell?_spot h0
      subst hspot
      rw [Go.WideShapes.add_plain] at hc
      refine ⟨b, off, rfl, ?_, hc⟩
      unfold World.cell? at hc
      cases hh : W.heap[b]? with
      | none => simp [hh] at hc
      | some o => exact (Array.getElem?_eq_some_iff.1 hh).1
    · cases hx
end Go.Proofs.YtkhpifjhnkknbaaDoor
