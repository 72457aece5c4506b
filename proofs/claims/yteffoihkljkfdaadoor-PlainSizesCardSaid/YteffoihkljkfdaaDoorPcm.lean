/- maps.Clone: the walks. -/
import Derived.Test.YteffoihkljkfdaaDoorPmp
import Derived.Shelf.SlMaps.Clone
namespace Go.Proofs.YteffoihkljkfdaaDoor
set_option linter.unusedSimpArgs false
set_option linter.unusedVariables false
open Go.RowKit Go.Maps Go.Shelf

theorem MG.copy {k : TypeId} {κ : Type} {E : KE k κ} {w w' : World} {b b' c : Nat} {m : κ → Option Value} (h : MG E w b m c) (he : hat w' b' = hat w b) : MG E w' b' m c := by
  obtain ⟨D, ⟨es, clock, hb, h1⟩, h2⟩ := h
  exact ⟨D, ⟨es, clock, he.trans hb, h1⟩, h2⟩
theorem MG.obj {k : TypeId} {κ : Type} {E : KE k κ} {w : World} {b c : Nat} {m : κ → Option Value} (h : MG E w b m c) : ∃ es clock, w.heap[b]? = some (.map es clock) := by
  obtain ⟨D, ⟨es, clock, hb, h1⟩, h2⟩ := h
  exact ⟨es, clock, hb⟩
set_option maxHeartbeats 4000000 in
set_option maxRecDepth 100000 in
theorem cloneD_any {w : World} {v : Value} {ob : Option Nat} {m : Int → Option Value} {c : Nat} (h : MO kInt w v ob m c) :
    Calls Tryd.prog 39 #[v] w fun e w' => ∃ v' ob', e = .returned v' ∧ MO kInt w' v' ob' m c ∧ (∀ g, ob' = some g → w.heap.size ≤ g) ∧ (ob.isSome = true → ob'.isSome = true) ∧ Below w.heap.size w w' := by
  rcases h with ⟨rfl, rfl, h1, h2⟩ | ⟨b, rfl, rfl, h⟩
  · have hq := fun w => run_eql_map_nil_sl (P := Tryd.prog) w 71 _ _ none Tryd.underlying71
    go_enter Tryd.func39, Tryd.ntmps39
    go_wp2
    go_ret
    exact ⟨_, none, rfl, .inl ⟨rfl, rfl, h1, h2⟩, fun g hg => (nomatch hg), fun h => (nomatch h), Below.refl _ _⟩
  · obtain ⟨es, clock, hb⟩ := h.obj
    have H := Lib.hid h
    have hq := fun w => run_eql_map_nil_sl (P := Tryd.prog) w 71 _ _ (some b) Tryd.underlying71
    clear h
    go_enter Tryd.func39, Tryd.ntmps39
    go_wp2
    rw [run_callFunc_extern Tryd.func56 (by kernel_rfl) (by kernel_rfl) (by kernel_rfl) (e := Extern.MapsClone.clone) (by kernel_rfl), run_maps_clone_sl w 71 hb]
    simp only [Result.andThen]
    rw [Oper.upon_value]
    go_wp2
    rw [run_typeAssert_map_sl _ 71 20 _ _ _ Tryd.underlying71]
    simp only [Result.andThen]
    rw [Oper.upon_value]
    go_wp2
    go_ret
    exact ⟨_, some w.heap.size, rfl, .inr ⟨_, rfl, rfl, H.out.copy ((hopN w _).1.trans (show some _ = w.heap[b]? from hb.symm))⟩, fun g hg => by cases hg; exact Nat.le_refl _, fun _ => rfl, (Below.refl _ _).alloc (Nat.le_refl _) _⟩
set_option maxHeartbeats 4000000 in
set_option maxRecDepth 100000 in
theorem cloneN_any {w : World} {v : Value} {ob : Option Nat} {m : ByteArray → Option Value} {c : Nat} (h : MO kStr w v ob m c) :
    Calls Tryd.prog 41 #[v] w fun e w' => ∃ v' ob', e = .returned v' ∧ MO kStr w' v' ob' m c ∧ (∀ g, ob' = some g → w.heap.size ≤ g) ∧ (ob.isSome = true → ob'.isSome = true) ∧ Below w.heap.size w w' := by
  rcases h with ⟨rfl, rfl, h1, h2⟩ | ⟨b, rfl, rfl, h⟩
  · have hq := fun w => run_eql_map_nil_sl (P := Tryd.prog) w 70 _ _ none Tryd.underlying70
    go_enter Tryd.func41, Tryd.ntmps41
    go_wp2
    go_ret
    exact ⟨_, none, rfl, .inl ⟨rfl, rfl, h1, h2⟩, fun g hg => (nomatch hg), fun h => (nomatch h), Below.refl _ _⟩
  · obtain ⟨es, clock, hb⟩ := h.obj
    have H := Lib.hid h
    have hq := fun w => run_eql_map_nil_sl (P := Tryd.prog) w 70 _ _ (some b) Tryd.underlying70
    clear h
    go_enter Tryd.func41, Tryd.ntmps41
    go_wp2
    rw [run_callFunc_extern Tryd.func56 (by kernel_rfl) (by kernel_rfl) (by kernel_rfl) (e := Extern.MapsClone.clone) (by kernel_rfl), run_maps_clone_sl w 70 hb]
    simp only [Result.andThen]
    rw [Oper.upon_value]
    go_wp2
    rw [run_typeAssert_map_sl _ 70 20 _ _ _ Tryd.underlying70]
    simp only [Result.andThen]
    rw [Oper.upon_value]
    go_wp2
    go_ret
    exact ⟨_, some w.heap.size, rfl, .inr ⟨_, rfl, rfl, H.out.copy ((hopN w _).1.trans (show some _ = w.heap[b]? from hb.symm))⟩, fun g hg => by cases hg; exact Nat.le_refl _, fun _ => rfl, (Below.refl _ _).alloc (Nat.le_refl _) _⟩
end Go.Proofs.YteffoihkljkfdaaDoor
