/- Lists of texts; sameTexts: the walk. -/
import Derived.Test.YteffoihkljkfdaaDoorChk
namespace Go.Proofs.YteffoihkljkfdaaDoor
set_option linter.unusedSimpArgs false
set_option linter.unusedVariables false
open Go.RowKit

/-- v is a list of the texts xs in world w, at block B or above -/
def Strs (w : World) (B : Nat) (v : Value) (xs : List ByteArray) : Prop :=
  (v = .slice none 0 0 ∧ xs = []) ∨ ∃ g o c, v = .slice (some ⟨g, o, none⟩) xs.length c ∧ xs.length ≤ c ∧ xs.length ≤ 140737488355328 ∧ B ≤ g ∧ g < w.heap.size ∧ ∀ j x, xs[j]? = some x → w.cell? ⟨g, o + j, none⟩ = some (.string x)
theorem Strs.len {w : World} {B : Nat} {v : Value} {xs : List ByteArray} (h : Strs w B v xs) : ∃ a c, v = .slice a xs.length c := by
  rcases h with ⟨rfl, rfl⟩ | ⟨g, o, c, rfl, -⟩
  · exact ⟨_, _, rfl⟩
  · exact ⟨_, _, rfl⟩
theorem Strs.small {w : World} {B : Nat} {v : Value} {xs : List ByteArray} (h : Strs w B v xs) : xs.length ≤ 140737488355328 := by
  rcases h with ⟨-, rfl⟩ | ⟨g, o, c, -, -, h, -⟩
  · simp
  · exact h
theorem Strs.call {w w' : World} {B : Nat} {v : Value} {xs : List ByteArray} (h : Strs w B v xs) (hb : Below w.heap.size w w') : Strs w' B v xs := by
  rcases h with h | ⟨g, o, c, h1, h2, h3, h4, h5, h6⟩
  · exact .inl h
  · exact .inr ⟨g, o, c, h1, h2, h3, h4, Nat.lt_of_lt_of_le h5 hb.size, fun j x hx => by rw [hb.cell (p := ⟨g, o + j, none⟩) h5]; exact h6 j x hx⟩
theorem Strs.alloc {w : World} {B : Nat} {v : Value} {xs : List ByteArray} (h : Strs w B v xs) (ob : Obj) : Strs (w.alloc ob) B v xs := h.call ((Below.refl _ _).alloc (Nat.le_refl _) ob)
theorem Strs.le {w : World} {B B' : Nat} {v : Value} {xs : List ByteArray} (h : Strs w B v xs) (hb : B' ≤ B) : Strs w B' v xs := by
  rcases h with h | ⟨g, o, c, h1, h2, h3, h4, h5⟩
  · exact .inl h
  · exact .inr ⟨g, o, c, h1, h2, h3, by omega, h5⟩
theorem getElem_opt {α : Type} {l : List α} {k : Nat} (h : k < l.length) : ∃ x, l[k]? = some x := ⟨_, List.getElem?_eq_getElem h⟩
theorem same_upto {xs ys : List ByteArray} (hl : xs.length = ys.length) (h : ∀ j, j < xs.length → xs[j]? = ys[j]?) : xs = ys := by
  apply List.ext_getElem?
  intro j
  by_cases hj : j < xs.length
  · exact h j hj
  · rw [List.getElem?_eq_none (by omega), List.getElem?_eq_none (by omega)]
theorem str_inj {s t : ByteArray} (h : s.toList = t.toList) : s = t := by
  rw [Lib.toList_data, Lib.toList_data] at h
  obtain ⟨⟨a⟩⟩ := s
  obtain ⟨⟨b⟩⟩ := t
  obtain rfl : a = b := h
  rfl
theorem ret_bool {a b : Bool} (h : a = b) : Ending.returned (.bool a) = .returned (.bool b) := by rw [h]
end Go.Proofs.YteffoihkljkfdaaDoor
