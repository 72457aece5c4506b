/- One thing of each kind as an argument. -/
import Derived.Test.YthgiolofnkdfoaaPl3
import Derived.Test.YthgiolofnkdfoaaOp1
namespace Go.Proofs.Ythgiolofnkdfoaa
set_option linter.unusedSimpArgs false
set_option linter.unusedVariables false
open Go.RowKit
theorem things_of {l : List Int} (s : ByteArray) (h : l.length = 53) (hw : ∀ x ∈ l, (Lit.int .i64 x).wf = true) :
    ∃ x y li lp i, IV .i64 l ++ #[.string s] = thiC x y li lp i s ∧ li.length = 18 ∧ lp.length = 32 ∧ In64 x ∧ In64 y := by
  have e : l = nth l 0 :: nth l 1 :: ((l.drop 2).take 18 ++ ((l.drop 20).take 32 ++ [nth l 52])) := by
    refine nth_ext (by simp [h]) fun j hj => ?_
    rw [h] at hj
    by_cases h0 : j = 0
    · subst h0; rfl
    · by_cases h1 : j = 1
      · subst h1; rfl
      · obtain ⟨k, rfl⟩ : ∃ k, j = k + 2 := ⟨j - 2, by omega⟩
        have e2 : nth (nth l 0 :: nth l 1 :: ((l.drop 2).take 18 ++ ((l.drop 20).take 32 ++ [nth l 52]))) (k + 2) = nth ((l.drop 2).take 18 ++ ((l.drop 20).take 32 ++ [nth l 52])) k := rfl
        rw [e2]
        by_cases h2 : k < 18
        · rw [nth_append_left (by simp [h]; omega)]
          unfold nth; rw [List.getElem?_take, if_pos h2, List.getElem?_drop, Nat.add_comm]
        · rw [nth_append_right (by simp [h]; omega)]
          have hl : (List.take 18 (List.drop 2 l)).length = 18 := by simp [h]
          rw [hl]
          by_cases h3 : k < 50
          · rw [nth_append_left (by simp [h]; omega)]
            unfold nth; rw [List.getElem?_take, if_pos (by omega), List.getElem?_drop]; congr 2; omega
          · rw [nth_append_right (by simp [h]; omega)]
            obtain rfl : k = 50 := by omega
            have hl2 : (List.take 32 (List.drop 20 l)).length = 32 := by simp [h]
            rw [hl2]; rfl
  refine ⟨nth l 0, nth l 1, (l.drop 2).take 18, (l.drop 20).take 32, nth l 52, ?_, by simp [h], by simp [h], ints_i64 hw 0, ints_i64 hw 1⟩
  unfold thiC IV
  conv => lhs; rw [e]
  simp
end Go.Proofs.Ythgiolofnkdfoaa
