/- What may not be in a path: plain laws; the law's pick. -/
import Derived.Test.YtkhpifjhnkknbaaDoorPlg
namespace Go.Proofs.YtkhpifjhnkknbaaDoor
set_option linter.unusedSimpArgs false
set_option linter.unusedVariables false
open Go.RowKit

theorem pickN (c : Int) (n : Nat) (hn : 1 ≤ n) (hn2 : n ≤ 1000) (h0 : -9223372036854775808 ≤ c) (h1 : c ≤ 9223372036854775807) : ∃ k : Nat, k < n ∧ ∀ w : World, Calls Tryd.prog 22 #[.int .i64 c, .int .i64 n] w fun e w' => e = .returned (.int .i64 k) ∧ w = w' := by
  have hn3 : ¬ (n : Int) = 0 := by omega
  by_cases h : c < 0
  · have hm0 := Int.emod_nonneg (-(c + 1)) (b := (n : Int)) (by omega)
    have hm1 := Int.emod_lt_of_pos (-(c + 1)) (b := (n : Int)) (by omega)
    refine ⟨((-(c + 1)) % (n : Int)).toNat, by omega, fun w => ?_⟩
    have ht : (c + 1).tmod (n : Int) = -((-(c + 1)) % (n : Int)) := by
      rw [← Int.tmod_eq_emod_of_nonneg (show 0 ≤ -(c + 1) by omega), Int.neg_tmod]; omega
    generalize (-(c + 1)) % (n : Int) = M at *
    have d : decide (c < 0) = true := by simpa using h
    have HT := Lib.hid ht
    clear ht
    go_enter Tryd.func22, Tryd.ntmps22
    go_wp2_with fail
    go_ret
    exact ⟨ret_int (by have := HT.out; omega), rfl⟩
  · have hm0 := Int.emod_nonneg c (b := (n : Int)) (by omega)
    have hm1 := Int.emod_lt_of_pos c (b := (n : Int)) (by omega)
    refine ⟨(c % (n : Int)).toNat, by omega, fun w => ?_⟩
    have d : decide (c < 0) = false := by simpa using h
    have ht : c.tmod (n : Int) = c % (n : Int) := Int.tmod_eq_emod_of_nonneg (by omega)
    have HT := Lib.hid ht
    clear ht
    go_enter Tryd.func22, Tryd.ntmps22
    go_wp2_with fail
    go_ret
    exact ⟨ret_int (by have := HT.out; first | omega | (trace_state; omega)), rfl⟩

theorem data_app (a b : ByteArray) : (a ++ b).data.toList = a.data.toList ++ b.data.toList := by simp
theorem pth_data {xs : List ByteArray} : ∃ J : List UInt8, (pth xs).data.toList = 47 :: J ∧ ((xs = [] ∧ J = []) ∨ (xs ≠ [] ∧ J = Lib.join (xs.map (·.data.toList)) [47])) := by
  unfold pth
  by_cases h : xs = []
  · rw [if_pos h]; exact ⟨[], rfl, .inl ⟨h, rfl⟩⟩
  · rw [if_neg h]; exact ⟨_, joined_data xs, .inr ⟨h, rfl⟩⟩
theorem ref_2 (P : ByteArray) (h : 1 ≤ P.size) : spl (P ++ ({ data := #[47] } : ByteArray)) = ([], 70) := by
  by_cases hf : formed (P ++ ({ data := #[47] } : ByteArray))
  · refine spl_form2 hf ?_ ?_
    · intro e
      rw [Lib.toList_data, data_app] at e
      have := congrArg List.length e
      rw [List.length_append, len_data] at this
      simp at this
      rw [this] at h; simp at h
    · rintro ⟨h1, -⟩
      rw [data_app] at h1
      unfold Lib.hasSuffix at h1
      have : List.isSuffixOf [47] (P.data.toList ++ [47]) = true := by rw [List.isSuffixOf_iff_suffix]; exact ⟨P.data.toList, rfl⟩
      have h2 : ({ data := #[47] } : ByteArray).data.toList = [47] := rfl
      rw [h2, this] at h1
      cases h1
  · exact spl_form hf
theorem has_two (J : List UInt8) : Lib.contains (47 :: 47 :: J) [47, 47] = true := by
  unfold Lib.contains
  simp only [decide_eq_true_eq]
  rcases Lib.index_spec (47 :: 47 :: J) [47, 47] with ⟨h1, h2⟩ | ⟨i, h1, -⟩
  · exfalso
    have := h2 0
    unfold Lib.occAt at this
    simp at this
  · rw [h1]; omega
theorem ref_3 (P : ByteArray) (J : List UInt8) (h : P.data.toList = 47 :: J) : spl (({ data := #[47] } : ByteArray) ++ P) = ([], 70) := by
  have hd : (({ data := #[47] } : ByteArray) ++ P).data.toList = 47 :: 47 :: J := by rw [data_app, h]; rfl
  by_cases hf : formed (({ data := #[47] } : ByteArray) ++ P)
  · refine spl_form2 hf ?_ ?_
    · intro e
      rw [Lib.toList_data, hd] at e
      cases e
    · rintro ⟨-, h1⟩
      rw [hd, has_two] at h1
      cases h1
  · exact spl_form hf
theorem ref_n (P : ByteArray) (b : UInt8) (J : List UInt8) (h : P.data.toList = b :: J) (hb : b ≠ 47) : spl P = ([], 70) := by
  refine spl_form fun hf => ?_
  have := hf.2
  rw [h] at this
  unfold Lib.hasPrefix at this
  simp at this
  exact hb this.symm
theorem join_head {xs : List ByteArray} (h : Names xs) (h0 : xs ≠ []) : ∃ b J, Lib.join (xs.map (·.data.toList)) [47] = b :: J ∧ b ≠ 47 := by
  cases xs with
  | nil => exact absurd rfl h0
  | cons x r =>
    have hx := h.1 x (by simp)
    cases hd : x.data.toList with
    | nil => have := hx.1; rw [hd] at this; simp at this
    | cons b l =>
      refine ⟨b, l ++ Lib.joinTail [47] (r.map (·.data.toList)), ?_, ?_⟩
      · rw [List.map_cons, hd]
        show Lib.join ((b :: l) :: _) _ = _
        rw [Lib.join_cons]; rfl
      · exact (hx.2.2.1 b (by rw [hd]; simp)).2
/-- the text behind its first byte, and one more -/
theorem ref_4 {xs : List ByteArray} (h : Names xs) : spl ((pth xs).extract 1 (pth xs).size ++ ({ data := #[97] } : ByteArray)) = ([], 70) := by
  obtain ⟨J, hJ, hc⟩ := pth_data (xs := xs)
  have he : ((pth xs).extract 1 (pth xs).size ++ ({ data := #[97] } : ByteArray)).data.toList = J ++ [97] := by
    rw [data_app]
    have : ((pth xs).extract 1 (pth xs).size).data.toList = J := by
      have hs : (pth xs).size = J.length + 1 := by rw [← len_data, hJ]; rfl
      simp [ByteArray.data_extract, hs, hJ]
    rw [this]
  rcases hc with ⟨-, rfl⟩ | ⟨h0, rfl⟩
  · exact ref_n _ 97 [] he (by decide)
  · obtain ⟨b, K, hb, hb2⟩ := join_head h h0
    rw [hb] at he
    exact ref_n _ b (K ++ [97]) (by rw [he]; rfl) hb2
theorem ref_5 (P : ByteArray) : spl (({ data := #[97] } : ByteArray) ++ P) = ([], 70) := ref_n _ 97 P.data.toList (by rw [data_app]; rfl) (by decide)
/-- what may not be a name -/
def bads : List ByteArray := [{ data := #[] }, { data := #[46] }, { data := #[46, 46] }, { data := #[97, 47, 98] }, { data := #[47] }, { data := #[0] }, { data := #[97, 0] }, { data := #[48, 49, 50, 51, 52, 53, 54, 55, 56, 57, 48, 49, 50, 51, 52, 53, 54, 55, 56, 57, 48, 49, 50, 51, 52, 53, 54, 55, 56, 57, 48, 49, 50, 51, 52, 53, 54, 55, 56, 57, 120] }]
theorem bads_71 : ∀ x ∈ bads, chk x = 71 := by decide +kernel
theorem bad_not {x : ByteArray} (h : x ∈ bads) : ¬ NameMay x.data.toList := fun hn => by
  have := bads_71 x h
  rw [chk_yes hn] at this
  exact absurd this (by decide)
theorem len_pos_pth (xs : List ByteArray) : 1 ≤ (pth xs).size := by
  obtain ⟨J, hJ, -⟩ := pth_data (xs := xs)
  rw [← len_data, hJ]; simp
end Go.Proofs.YtkhpifjhnkknbaaDoor
