/- The form of a path, by the document: the walk. -/
import Derived.Test.YtkhpifjhnkknbaaDoorRck
import Derived.Test.YtkhpifjhnkknbaaDoorPlb
namespace Go.Proofs.YtkhpifjhnkknbaaDoor
set_option linter.unusedSimpArgs false
set_option linter.unusedVariables false
open Go.RowKit

/-- no slash behind a slash, none at the end, up to k -/
def okTo (l : List UInt8) (k : Nat) : Prop := ∀ i, 1 ≤ i → i < k → l[i]? = some 47 → l[i - 1]? ≠ some 47 ∧ i ≠ l.length - 1
def rform (l : List UInt8) : Prop := 1 ≤ l.length ∧ l.length ≤ 400 ∧ l[0]? = some 47 ∧ okTo l l.length
theorem rform_iff (p : ByteArray) : rform p.data.toList ↔ formed p ∧ (p.toList = [47] ∨ split2 p) := by
  have hl := len_data p
  unfold rform formed split2
  rw [Lib.toList_data]
  generalize p.data.toList = l at *
  constructor
  · rintro ⟨h1, h2, h3, h4⟩
    cases l with
    | nil => simp at h1
    | cons b J =>
      simp at h3
      subst h3
      refine ⟨⟨by omega, by simp [Lib.hasPrefix, List.isPrefixOf]⟩, ?_⟩
      by_cases hJ : J = []
      · left; rw [hJ]
      · right
        constructor
        · cases hs : Lib.hasSuffix (47 :: J) [47]
          · rfl
          · exfalso
            have h5 : [47] <:+ (47 :: J) := by
              unfold Lib.hasSuffix at hs
              exact List.isSuffixOf_iff_suffix.1 hs
            obtain ⟨t, ht⟩ := h5
            have hJl : 1 ≤ J.length := List.length_pos_iff.2 hJ
            have hlen : (47 :: J).length = J.length + 1 := rfl
            have hi : (47 :: J)[J.length]? = some 47 := by
              have htl : t.length = J.length := by have := congrArg List.length ht; simp at this; omega
              rw [← ht, ← htl, List.getElem?_append_right (Nat.le_refl _), Nat.sub_self]; rfl
            exact (h4 J.length hJl (by rw [hlen]; omega) hi).2 (by rw [hlen]; omega)
        · cases hs : Lib.contains (47 :: J) [47, 47]
          · rfl
          · exfalso
            unfold Lib.contains at hs
            simp only [decide_eq_true_eq] at hs
            rcases Lib.index_spec (47 :: J) [47, 47] with ⟨h5, -⟩ | ⟨i, h5, h6, h7, -⟩
            · omega
            · have a1 := Lib.occAt_head rfl h7
              have a2 := Lib.occAt_second rfl h7
              have hlt : i + 1 < (47 :: J).length := by
                have := (List.getElem?_eq_some_iff.1 a2).1
                exact this
              exact (h4 (i + 1) (by omega) hlt a2).1 (by rw [Nat.add_sub_cancel]; exact a1)
  · rintro ⟨⟨h1, h2⟩, h3⟩
    cases l with
    | nil => cases h2
    | cons b J =>
      have hb : b = 47 := by
        unfold Lib.hasPrefix at h2
        simp only [List.isPrefixOf, Bool.and_true, beq_iff_eq] at h2
        exact h2.symm
      subst hb
      refine ⟨by simp, by omega, rfl, ?_⟩
      intro i i1 i2 i3
      rcases h3 with h3 | ⟨h3, h4⟩
      · rw [h3] at i2; simp at i2; omega
      · constructor
        · intro e
          have ho : Lib.occAt (47 :: J) [47, 47] (i - 1) = true := by
            rw [Lib.occAt_iff_take _ _ _ (by simp at i2 ⊢; omega)]
            have hd : (47 :: J).drop (i - 1) = 47 :: 47 :: (47 :: J).drop (i + 1) := by
              have e1 : i - 1 < (47 :: J).length := by omega
              have e2 : i < (47 :: J).length := i2
              rw [List.drop_eq_getElem_cons e1, show i - 1 + 1 = i by omega, List.drop_eq_getElem_cons e2]
              rw [List.getElem?_eq_getElem e1] at e
              rw [List.getElem?_eq_getElem e2] at i3
              rw [Option.some.inj e, Option.some.inj i3]
            rw [hd]; rfl
          rcases Lib.index_spec (47 :: J) [47, 47] with ⟨-, h6⟩ | ⟨q, h6, -⟩
          · have := h6 (i - 1) (by omega)
            rw [ho] at this; cases this
          · unfold Lib.contains at h4
            simp only [decide_eq_false_iff_not] at h4
            omega
        · intro e
          have : [47] <:+ (47 :: J) := by
            refine ⟨(47 :: J).take i, ?_⟩
            have e2 : i < (47 :: J).length := i2
            have hd : (47 :: J).drop i = [47] := by
              rw [List.drop_eq_getElem_cons e2, List.drop_eq_nil_of_le (by omega)]
              rw [List.getElem?_eq_getElem e2] at i3
              rw [Option.some.inj i3]
            rw [← hd, List.take_append_drop]
          unfold Lib.hasSuffix at h3
          rw [List.isSuffixOf_iff_suffix.2 this] at h3
          cases h3
end Go.Proofs.YtkhpifjhnkknbaaDoor
