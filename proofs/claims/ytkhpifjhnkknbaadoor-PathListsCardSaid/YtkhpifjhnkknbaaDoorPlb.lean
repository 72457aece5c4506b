/- What joins is split again: plain laws. -/
import Derived.Test.YtkhpifjhnkknbaaDoorLawApt
import Derived.Lib.IndexMore
import Derived.Lib.IndexLaws
namespace Go.Proofs.YtkhpifjhnkknbaaDoor
set_option linter.unusedSimpArgs false
set_option linter.unusedVariables false
open Go.RowKit

/-! no empty piece -/
theorem cut_tail : ∀ (a t : List UInt8), [] ∈ (cut47 t).tail → [] ∈ (cut47 (a ++ t)).tail
  | [], t, h => h
  | b :: a, t, h => by
    have ih := cut_tail a t h
    rw [List.cons_append]
    by_cases hb : b = 47
    · rw [cut47, if_pos hb, List.tail_cons]
      exact List.mem_of_mem_tail ih
    · rw [cut47, if_neg hb]
      cases hc : cut47 (a ++ t) with
      | nil => exact absurd hc (cut47_ne _)
      | cons x r => rw [hc] at ih; exact ih
theorem cut_end (a : List UInt8) : [] ∈ (cut47 (a ++ [47])).tail := cut_tail a [47] (by decide)
theorem cut_twice (a b : List UInt8) : [] ∈ (cut47 (a ++ 47 :: 47 :: b)).tail := cut_tail a _ (by
  rw [cut47, if_pos rfl, List.tail_cons, cut47, if_pos rfl]
  simp)
/-- a path of pieces, none of them empty, has no slash at its end and no two that stand together -/
theorem path_ends {J : List UInt8} (h : ∀ x ∈ cut47 J, x ≠ []) : Lib.hasSuffix (47 :: J) [47] = false ∧ Lib.contains (47 :: J) [47, 47] = false := by
  have hJ : J ≠ [] := by
    intro e
    subst e
    exact h [] (by simp [cut47]) rfl
  constructor
  · cases hs : Lib.hasSuffix (47 :: J) [47]
    · rfl
    · exfalso
      have h1 : [47] <:+ (47 :: J) := by
        unfold Lib.hasSuffix at hs
        exact List.isSuffixOf_iff_suffix.1 hs
      obtain ⟨l, hl⟩ := h1
      cases l with
      | nil => simp at hl; exact hJ hl
      | cons c l =>
        simp at hl
        have := cut_end l
        rw [hl.2] at this
        exact h [] (List.mem_of_mem_tail this) rfl
  · cases hs : Lib.contains (47 :: J) [47, 47]
    · rfl
    · exfalso
      unfold Lib.contains at hs
      simp only [decide_eq_true_eq] at hs
      rcases Lib.index_spec (47 :: J) [47, 47] with ⟨h1, -⟩ | ⟨i, h1, h2, h3, -⟩
      · omega
      · have h4 : [47, 47] <+: (47 :: J).drop i := by
          unfold Lib.occAt at h3
          exact List.isPrefixOf_iff_prefix.1 h3
        obtain ⟨b, hb⟩ := h4
        have hd := List.take_append_drop i (47 :: J)
        rw [← hb] at hd
        cases ht : (47 :: J).take i with
        | nil =>
          rw [ht] at hd
          simp at hd
          rw [← hd] at h
          exact h [] (by rw [cut47, if_pos rfl]; simp) rfl
        | cons c l =>
          rw [ht] at hd
          simp at hd
          have := cut_twice l b
          rw [hd.2] at this
          exact h [] (List.mem_of_mem_tail this) rfl

theorem spl_names {xs : List ByteArray} (h : Names xs) : spl (pth xs) = (xs, 0) := by
  unfold pth
  by_cases h0 : xs = []
  · subst h0; rw [if_pos rfl]; decide +kernel
  · rw [if_neg h0]
    have hd := joined_data xs
    have hc := names_cut h h0
    have hs := joined_size h0
    have h2 := names_two h h0
    have hf : formed (joined xs) := ⟨by rw [hs]; have := h.2; omega, by rw [hd]; unfold Lib.hasPrefix; rfl⟩
    have hp : pieces (joined xs) = xs := by
      apply map_data
      rw [pieces_data, hd]
      exact hc
    have hr : (joined xs).toList ≠ [47] := by
      intro e
      rw [Lib.toList_data, ] at e
      have := len_data (joined xs)
      rw [e, hs] at this
      simp at this
      omega
    have hsp : split2 (joined xs) := by
      have := path_ends (J := Lib.join (xs.map (·.data.toList)) [47]) (fun x hx => by
        rw [hc] at hx
        obtain ⟨n, hn, rfl⟩ := List.mem_map.1 hx
        have := (h.1 n hn).1
        intro e
        rw [e] at this
        simp at this)
      unfold split2
      rw [hd]
      exact this
    rw [spl_yes hf hr hsp (by rw [hp]; exact h.1), hp]
theorem joinTail_snoc (r : List (List UInt8)) (y : List UInt8) : Lib.joinTail [47] (r ++ [y]) = Lib.joinTail [47] r ++ 47 :: y := by
  induction r with
  | nil => simp [Lib.joinTail]
  | cons x r ih =>
    rw [List.cons_append]
    simp only [Lib.joinTail] at *
    simp_all
theorem want_more {xs : List ByteArray} (h0 : xs ≠ []) (n : ByteArray) : (pth xs ++ ({ data := #[47] } : ByteArray)) ++ n = joined (xs ++ [n]) := by
  unfold pth
  rw [if_neg h0]
  apply ba_ext
  rw [joined_data, ByteArray.data_append, ByteArray.data_append]
  simp only [Array.toList_append, joined_data]
  cases xs with
  | nil => exact absurd rfl h0
  | cons x r =>
    simp only [List.map_cons, List.map_append, List.map_nil, List.cons_append, Lib.join_cons, joinTail_snoc]
    simp
theorem want_one (n : ByteArray) : (({ data := #[47] } : ByteArray)) ++ n = joined [n] := by
  apply ba_ext
  rw [joined_data, ByteArray.data_append]
  simp [Lib.join_one]
theorem more_all {xs : List ByteArray} (h : Names xs) {n : ByteArray} (hn : NameMay n.data.toList) : ∀ x ∈ xs ++ [n], NameMay x.data.toList := fun x hx => by
  rcases List.mem_append.1 hx with h1 | h1
  · exact h.1 x h1
  · rw [List.mem_singleton.1 h1]; exact hn
theorem pth_small {xs : List ByteArray} (h : Names xs) : (pth xs).size ≤ 400 := by
  unfold pth
  by_cases h0 : xs = []
  · rw [if_pos h0]; decide
  · rw [if_neg h0, joined_size h0]; exact h.2
end Go.Proofs.YtkhpifjhnkknbaaDoor
