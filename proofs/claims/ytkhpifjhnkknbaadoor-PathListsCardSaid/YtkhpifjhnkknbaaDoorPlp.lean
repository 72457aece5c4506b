/- A path is its names': plain laws. -/
import Derived.Test.YtkhpifjhnkknbaaDoorJoi
namespace Go.Proofs.YtkhpifjhnkknbaaDoor
set_option linter.unusedSimpArgs false
set_option linter.unusedVariables false
open Go.RowKit

theorem ba_ext {s t : ByteArray} (h : s.data.toList = t.data.toList) : s = t := by
  obtain ⟨⟨a⟩⟩ := s
  obtain ⟨⟨b⟩⟩ := t
  obtain rfl : a = b := h
  rfl
theorem pieces_data (p : ByteArray) : (pieces p).map (·.data.toList) = cut47 (p.data.toList.drop 1) := by
  have e : (p.extract 1 p.size).data.toList = p.data.toList.drop 1 := by
    have hl : p.data.toList.length = p.size := len_data p
    rw [ByteArray.data_extract, Array.toList_extract]
    simp only [List.extract_eq_take_drop]
    rw [List.take_of_length_le (by simp)]
  unfold pieces
  rw [Lib.splitB_data]
  rw [show slash.data.toList = [47] from rfl, e]
  have hc : Lib.countB (p.extract 1 p.size) slash = Lib.count (p.data.toList.drop 1) [47] := by
    show Lib.count (p.extract 1 p.size).data.toList slash.data.toList = _
    rw [e]; rfl
  rw [hc]
  exact split_cut _
theorem pieces_ne (p : ByteArray) : pieces p ≠ [] := by
  intro h
  have := pieces_len p
  rw [h] at this; simp at this
theorem formed_cons {p : ByteArray} (h : formed p) : p.data.toList = 47 :: p.data.toList.drop 1 := by
  have h2 := h.2
  cases hd : p.data.toList with
  | nil => rw [hd] at h2; cases h2
  | cons b l =>
    rw [hd] at h2
    have hb : b = 47 := by
      unfold Lib.hasPrefix at h2
      simp only [List.isPrefixOf, Bool.and_true, beq_iff_eq] at h2
      exact h2.symm
    rw [hb]; rfl
theorem joined_pieces {p : ByteArray} (h : formed p) : joined (pieces p) = p := by
  apply ba_ext
  unfold joined
  rw [pieces_data, join_cut]
  conv => rhs; rw [formed_cons h]
  simp [slash]
theorem tot_pieces {p : ByteArray} (h : formed p) : tot (pieces p) = p.size := by
  have h1 := join_len (pieces_ne p)
  rw [pieces_data, join_cut] at h1
  rw [← h1, ← len_data p]
  conv => rhs; rw [formed_cons h]
  rfl
theorem spl_cases (p : ByteArray) : ((spl p).2 = 70 ∧ (spl p).1 = []) ∨ ((spl p).2 = 71 ∧ (spl p).1 = []) ∨ (spl p = ([], 0) ∧ p = slash) ∨
    (spl p = (pieces p, 0) ∧ formed p ∧ ∀ n ∈ pieces p, NameMay n.data.toList) := by
  by_cases hf : formed p
  · by_cases hr : p.toList = [47]
    · right; right; left
      refine ⟨spl_root hf hr, str_inj ?_⟩
      rw [hr]; decide +kernel
    · by_cases h2 : split2 p
      · by_cases hn : ∀ n ∈ pieces p, NameMay n.data.toList
        · right; right; right; exact ⟨spl_yes hf hr h2 hn, hf, hn⟩
        · right; left; rw [spl_no hf hr h2 hn]; exact ⟨rfl, rfl⟩
      · left; rw [spl_form2 hf hr h2]; exact ⟨rfl, rfl⟩
  · left; rw [spl_form hf]; exact ⟨rfl, rfl⟩
theorem join_pieces {p : ByteArray} (hf : formed p) (hn : ∀ n ∈ pieces p, NameMay n.data.toList) : joinR (pieces p) = (p, 0) := by
  have ht := tot_pieces hf
  have h4 := hf.1
  rw [joinR_yes (pieces_ne p) hn (by omega), joined_pieces hf]
end Go.Proofs.YtkhpifjhnkknbaaDoor
