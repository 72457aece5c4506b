/- The document's Split: the walk. -/
import Derived.Test.YtkhpifjhnkknbaaDoorRfw
import Derived.Test.YtkhpifjhnkknbaaDoorFew
import Derived.StillTailTactics
namespace Go.Proofs.YtkhpifjhnkknbaaDoor
set_option linter.unusedSimpArgs false
set_option linter.unusedVariables false
open Go.RowKit

theorem cut_snoc {x : UInt8} (hx : x ≠ 47) : ∀ t : List UInt8, ∃ a z, cut47 t = a ++ [z] ∧ cut47 (t ++ [x]) = a ++ [z ++ [x]]
  | [] => ⟨[], [], rfl, by simp [cut47, hx]⟩
  | b :: t => by
    obtain ⟨a, z, h1, h2⟩ := cut_snoc hx t
    by_cases hb : b = 47
    · exact ⟨[] :: a, z, by rw [cut47, if_pos hb, h1]; rfl, by rw [List.cons_append, cut47, if_pos hb, h2]; rfl⟩
    · cases a with
      | nil => exact ⟨[], b :: z, by rw [cut47, if_neg hb, h1]; rfl, by rw [List.cons_append, cut47, if_neg hb, h2]; rfl⟩
      | cons y r => exact ⟨(b :: y) :: r, z, by rw [cut47, if_neg hb, h1]; rfl, by rw [List.cons_append, cut47, if_neg hb, h2]; rfl⟩
theorem cut_slash : ∀ t : List UInt8, cut47 (t ++ [47]) = cut47 t ++ [[]]
  | [] => by decide
  | b :: t => by
    have ih := cut_slash t
    by_cases hb : b = 47
    · rw [List.cons_append, cut47, if_pos hb, ih, cut47, if_pos hb]; rfl
    · rw [List.cons_append, cut47, if_neg hb, ih, cut47, if_neg hb]
      cases hc : cut47 t with
      | nil => exact absurd hc (cut47_ne t)
      | cons y r => rfl
def tk (l : List UInt8) (k : Nat) : List UInt8 := (l.take k).drop 1
theorem tk_succ {l : List UInt8} {k : Nat} {x : UInt8} (hk : 1 ≤ k) (h : l[k]? = some x) : tk l (k + 1) = tk l k ++ [x] := by
  have hl : k < l.length := (List.getElem?_eq_some_iff.1 h).1
  unfold tk
  rw [take_snoc h, List.drop_append_of_le_length (by simp; omega)]
/-- the pieces that stand when k bytes have been looked at -/
def st (l : List UInt8) (k : Nat) : List (List UInt8) := if l[k - 1]? = some 47 then (cut47 (tk l k)).dropLast else cut47 (tk l k)
theorem st_new {l : List UInt8} {k : Nat} (hk : 1 ≤ k) (h : l[k - 1]? = some 47) : st l k ++ [[]] = cut47 (tk l k) := by
  unfold st
  rw [if_pos h]
  by_cases h1 : k = 1
  · subst h1
    have : tk l 1 = [] := by unfold tk; cases l <;> simp
    rw [this]; rfl
  · obtain ⟨q, rfl⟩ : ∃ q, k = q + 1 := ⟨k - 1, by omega⟩
    rw [Nat.add_sub_cancel] at h
    rw [tk_succ (by omega) h, cut_slash]; simp
theorem st_slash {l : List UInt8} {k : Nat} (hk : 1 ≤ k) (h : l[k]? = some 47) : st l (k + 1) = cut47 (tk l k) := by
  unfold st
  rw [Nat.add_sub_cancel, if_pos h, tk_succ hk h, cut_slash]; simp
theorem st_byte {l : List UInt8} {k : Nat} {x : UInt8} (hk : 1 ≤ k) (h : l[k]? = some x) (hx : x ≠ 47) : ∃ a z, cut47 (tk l k) = a ++ [z] ∧ st l (k + 1) = a ++ [z ++ [x]] := by
  obtain ⟨a, z, h1, h2⟩ := cut_snoc hx (tk l k)
  refine ⟨a, z, h1, ?_⟩
  unfold st
  rw [Nat.add_sub_cancel, if_neg (by rw [h]; simpa using hx), tk_succ hk h, h2]
theorem own_store {w : World} {B n g cap q : Nat} {e : TypeId} {xs : List Value} {u : Value} (h : w.ownsRow B e 1 (.slice (some ⟨g, 0, none⟩) n cap) n xs) :
    (w.setCell ⟨g, q, none⟩ u).ownsRow B e 1 (.slice (some ⟨g, 0, none⟩) n cap) n (xs.set q u) := by
  obtain ⟨hl, h⟩ := h
  rcases h with ⟨h1, -⟩ | ⟨g', cap', cur, he, h1, h2, h3, h4, h5, h6⟩
  · cases h1
  · injection he with e1 e2 e3
    injection e1 with e1
    injection e1 with e1 _ _
    subst e1 e3
    refine ⟨by simpa using hl, .inr ⟨g, cap, cur.setIfInBounds q u, rfl, h1, hat_setCell_at _ _ _ _ _ _ _ h2, h3, h4, by simpa using h5, ?_⟩⟩
    rw [← h6, Array.toList_setIfInBounds, List.take_set]
theorem own_cell {w : World} {B n : Nat} {v : Value} {ys : List ByteArray} (h : w.ownsRow B 9 1 v n (ys.map Value.string)) (hn : 1 ≤ n) :
    ∃ g cap cur, v = .slice (some ⟨g, 0, none⟩) n cap ∧ B ≤ g ∧ n ≤ cap ∧ hat w g = some (.cells cur 9) ∧ ∀ j x, j < n → ys[j]? = some x → cur[j]? = some (.string x) := by
  obtain ⟨hl, h⟩ := h
  rcases h with ⟨-, h1⟩ | ⟨g, cap, cur, he, h1, h2, h3, h4, h5, h6⟩
  · omega
  · refine ⟨g, cap, cur, he, h1, h3, h2, fun j x hj hx => ?_⟩
    have e : (cur.toList.take (n * 1))[j]? = some (.string x) := by rw [h6]; simp [hx]
    rw [List.getElem?_take, if_pos (by omega)] at e
    simpa using e
theorem last_split {ys : List ByteArray} {a : List (List UInt8)} {z : List UInt8} (h : ys.map (·.data.toList) = a ++ [z]) : ∃ la zs, ys = la ++ [zs] ∧ la.map (·.data.toList) = a ∧ zs.data.toList = z := by
  have hne : ys ≠ [] := by intro e; rw [e] at h; simp at h
  refine ⟨ys.dropLast, ys.getLast hne, (List.dropLast_concat_getLast hne).symm, ?_, ?_⟩
  · have := congrArg List.dropLast h
    rw [List.dropLast_concat] at this
    rw [← this, List.map_dropLast]
  · have := congrArg (·.getLast?) h
    simp only [List.getLast?_map, List.getLast?_append, List.getLast?_singleton, Option.some_or] at this
    rw [List.getLast?_eq_some_getLast hne] at this
    simpa using this
end Go.Proofs.YtkhpifjhnkknbaaDoor
