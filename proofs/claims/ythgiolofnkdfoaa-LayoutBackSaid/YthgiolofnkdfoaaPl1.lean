/- What a sector says, read back: plain laws on bytes; no program in sight. -/
import Derived.Test.YthgiolofnkdfoaaUni
namespace Go.Proofs.Ythgiolofnkdfoaa
set_option linter.unusedSimpArgs false
set_option linter.unusedVariables false
open Go.RowKit

theorem getB_congr (s t : List Int) : ∀ (n a : Nat), (∀ j, a ≤ j → j < a + n → nth s j = nth t j) → getB s a n = getB t a n
  | 0, _, _ => rfl
  | n + 1, a, h => by
    simp only [getB]
    rw [h a (by omega) (by omega), getB_congr s t n (a + 1) (fun j h1 h2 => h j (by omega) (by omega))]
theorem getB_digits (s : List Int) : ∀ (n a : Nat) (v : Int), (∀ j, j < n → nth s (a + j) = v / 2 ^ (8 * j) % 256) → getB s a n = v % 256 ^ n
  | 0, _, v, _ => by simp [getB, Int.emod_one]
  | n + 1, a, v, h => by
    have h0 := h 0 (by omega)
    have ih := getB_digits s n (a + 1) (v / 256) (fun j hj => by
      have := h (j + 1) (by omega)
      rw [show a + 1 + j = a + (j + 1) by omega, this]
      rw [Int.ediv_ediv_of_nonneg (by omega : (0 : Int) ≤ 256)]
      congr 2
      rw [show 8 * (j + 1) = 8 + 8 * j by omega, Int.pow_add]
      rfl)
    simp only [getB]
    rw [ih]
    simp only [Nat.add_zero, Nat.mul_zero, Int.pow_zero, Int.ediv_one] at h0
    rw [h0, show (256 : Int) ^ (n + 1) = 256 * 256 ^ n by rw [Int.pow_succ]; omega, Int.mul_comm 256 ((v / 256) % 256 ^ n)]
    rw [Int.emod_def v (256 * 256 ^ n), Int.emod_def (v / 256) (256 ^ n), Int.emod_def v 256, ← Int.ediv_ediv_of_nonneg (by omega : (0 : Int) ≤ 256)]
    rw [Int.sub_mul, Int.mul_comm (v / 256) 256, Int.mul_assoc 256, Int.mul_comm 256 (256 ^ n * _)]
    omega
theorem getB_setB (s : List Int) (a n : Nat) (v : Int) (h : a + n ≤ s.length) (h0 : 0 ≤ v) (hv : v < 256 ^ n) : getB (setB s a n v) a n = v := by
  rw [getB_digits _ n a v (fun j hj => by rw [nth_setB _ _ _ _ h, if_pos (by omega), show a + j - a = j by omega])]
  exact Int.emod_eq_of_lt h0 hv
theorem getB_setB_off (s : List Int) (a n b m : Nat) (v : Int) (h : b + m ≤ s.length) (hd : a + n ≤ b ∨ b + m ≤ a) : getB (setB s b m v) a n = getB s a n :=
  getB_congr _ _ _ _ fun j h1 h2 => by rw [nth_setB _ _ _ _ h, if_neg (by omega)]
theorem bytes_of_nth {s : List Int} (h : ∀ j, j < s.length → 0 ≤ nth s j ∧ nth s j < 256) : Bytes s := by
  intro x hx
  obtain ⟨i, hi, rfl⟩ := List.getElem_of_mem hx
  rw [nth_getElem hi]; exact h i hi
theorem Bytes.setB {s : List Int} (hb : Bytes s) (a n : Nat) (v : Int) (h : a + n ≤ s.length) : Bytes (setB s a n v) := by
  refine bytes_of_nth fun j _ => ?_
  rw [nth_setB _ _ _ _ h]
  split
  · omega
  · exact hb.at j
theorem Bytes.putL {s bs : List Int} (hb : Bytes s) (hs : Bytes bs) (a : Nat) (h : a + bs.length ≤ s.length) : Bytes (putL s a bs) := by
  refine bytes_of_nth fun j _ => ?_
  rw [nth_putL _ _ _ _ h]
  split
  · exact hs.at _
  · exact hb.at j
theorem bytes_zl (n : Nat) : Bytes (zl n) := by
  refine bytes_of_nth fun j _ => ?_
  rw [zl_get]; omega

/-! a super's sector -/
theorem markL_bytes : Bytes markL := by unfold Bytes markL; decide
theorem mark_len : (putL (zl 128) 0 markL).length = 128 := by rw [putL_length _ _ _ (by rw [zl_length]; decide)]; exact zl_length _
theorem supSec_bytes (x y : Int) : Bytes (supSec x y) := by
  unfold supSec
  refine Bytes.setB (Bytes.setB (Bytes.putL (bytes_zl _) markL_bytes _ (by rw [zl_length]; decide)) _ _ _ ?_) _ _ _ ?_
  · rw [mark_len]; decide
  · rw [setB_length, mark_len]; decide
theorem supSec_x (x y : Int) (h0 : 0 ≤ x) (h1 : x < 4294967296) : getB (supSec x y) 4 4 = x := by
  unfold supSec
  rw [getB_setB_off _ _ _ _ _ _ (by rw [setB_length, mark_len]; decide) (by omega)]
  exact getB_setB _ _ _ _ (by rw [mark_len]; decide) h0 h1
theorem supSec_y (x y : Int) (h0 : 0 ≤ y) (h1 : y < 4294967296) : getB (supSec x y) 8 4 = y := by
  unfold supSec
  exact getB_setB _ _ _ _ (by rw [setB_length, mark_len]; decide) h0 h1
theorem supSec_mark (x y : Int) : getB (supSec x y) 0 1 = 66 ∧ getB (supSec x y) 0 4 = 1464554050 := by
  unfold supSec
  constructor
  · rw [getB_setB_off _ _ _ _ _ _ (by rw [setB_length, mark_len]; decide) (by omega), getB_setB_off _ _ _ _ _ _ (by rw [mark_len]; decide) (by omega)]
    decide
  · rw [getB_setB_off _ _ _ _ _ _ (by rw [setB_length, mark_len]; decide) (by omega), getB_setB_off _ _ _ _ _ _ (by rw [mark_len]; decide) (by omega)]
    decide

/-! an inode's sector -/
theorem fields_apart : ∀ j, j < 18 → ∀ k, k < 18 → j ≠ k → fAt j + fWd j ≤ fAt k ∨ fAt k + fWd k ≤ fAt j := by decide
theorem inoSecN_bytes (l : List Int) : ∀ n, n ≤ 18 → Bytes (inoSecN l n)
  | 0, _ => bytes_zl _
  | n + 1, h => by
    rw [inoSecN_succ]
    exact Bytes.setB (inoSecN_bytes l n (by omega)) _ _ _ (by rw [inoSecN_length]; exact fAt_le n (by omega))
theorem inoSecN_get (l : List Int) (hf : ∀ j, j < 18 → 0 ≤ nth l (fCell j) ∧ nth l (fCell j) < 256 ^ fWd j) : ∀ n, n ≤ 18 → ∀ j, j < n → getB (inoSecN l n) (fAt j) (fWd j) = nth l (fCell j)
  | 0, _, j, hj => by omega
  | n + 1, h, j, hj => by
    rw [inoSecN_succ]
    by_cases hjn : j = n
    · subst hjn
      exact getB_setB _ _ _ _ (by rw [inoSecN_length]; exact fAt_le j (by omega)) (hf j (by omega)).1 (hf j (by omega)).2
    · rw [getB_setB_off _ _ _ _ _ _ (by rw [inoSecN_length]; exact fAt_le n (by omega)) (fields_apart j (by omega) n (by omega) hjn)]
      exact inoSecN_get l hf n (by omega) j (by omega)
theorem list18 {l : List Int} (h : l.length = 18) : l = [nth l 0, nth l 1, nth l 2, nth l 3, nth l 4, nth l 5, nth l 6, nth l 7, nth l 8, nth l 9, nth l 10, nth l 11, nth l 12, nth l 13, nth l 14, nth l 15, nth l 16, nth l 17] := by
  refine nth_ext (by simp [h]) fun i hi => ?_
  rw [h] at hi
  have : i = 0 ∨ i = 1 ∨ i = 2 ∨ i = 3 ∨ i = 4 ∨ i = 5 ∨ i = 6 ∨ i = 7 ∨ i = 8 ∨ i = 9 ∨ i = 10 ∨ i = 11 ∨ i = 12 ∨ i = 13 ∨ i = 14 ∨ i = 15 ∨ i = 16 ∨ i = 17 := by omega
  rcases this with rfl | rfl | rfl | rfl | rfl | rfl | rfl | rfl | rfl | rfl | rfl | rfl | rfl | rfl | rfl | rfl | rfl | rfl <;> rfl
theorem inoSec_back (l : List Int) (hl : l.length = 18) (hf : ∀ j, j < 18 → 0 ≤ nth l (fCell j) ∧ nth l (fCell j) < 256 ^ fWd j) : rdIno (getB (inoSec l) 8 8) (inoSec l) = l := by
  have g := inoSecN_get l hf 18 (by omega)
  have g0 := g 0 (by omega); have g1 := g 1 (by omega); have g2 := g 2 (by omega); have g3 := g 3 (by omega); have g4 := g 4 (by omega); have g5 := g 5 (by omega)
  have g6 := g 6 (by omega); have g7 := g 7 (by omega); have g8 := g 8 (by omega); have g9 := g 9 (by omega); have g10 := g 10 (by omega); have g11 := g 11 (by omega)
  have g12 := g 12 (by omega); have g13 := g 13 (by omega); have g14 := g 14 (by omega); have g15 := g 15 (by omega); have g16 := g 16 (by omega); have g17 := g 17 (by omega)
  clear g
  change getB (inoSec l) _ _ = _ at g0 g1 g2 g3 g4 g5 g6 g7 g8 g9 g10 g11 g12 g13 g14 g15 g16 g17
  generalize inoSec l = s at *
  simp only [fAt, fWd, fCell] at *
  conv => rhs; rw [list18 hl]
  simp only [rdIno, List.range, List.range.loop, List.map_cons, List.map_nil, List.cons_append, List.nil_append]
  simp only [Nat.mul_zero, Nat.add_zero, g0, g1, g2, g3, g4, g5, g6, g7, g8, g9, g10, g11, g12, g13, g14, g15, g16, g17]

/-! pointers' sector -/
theorem ptrSecN_bytes (x : List Int) : ∀ n, n ≤ 32 → Bytes (ptrSecN x n)
  | 0, _ => bytes_zl _
  | n + 1, h => by
    rw [ptrSecN_succ]
    exact Bytes.setB (ptrSecN_bytes x n (by omega)) _ _ _ (by rw [ptrSecN_length]; omega)
theorem ptrSecN_get (x : List Int) (hf : PtrMay x) : ∀ n, n ≤ 32 → ∀ j, j < n → getB (ptrSecN x n) (4 * j) 4 = nth x j
  | 0, _, j, hj => by omega
  | n + 1, h, j, hj => by
    rw [ptrSecN_succ]
    by_cases hjn : j = n
    · subst hjn
      have := hf j (by omega)
      have p4 : (256 : Int) ^ 4 = 4294967296 := by decide
      exact getB_setB _ _ _ _ (by rw [ptrSecN_length]; omega) this.1 (by rw [p4]; omega)
    · rw [getB_setB_off _ _ _ _ _ _ (by rw [ptrSecN_length]; omega) (by omega)]
      exact ptrSecN_get x hf n (by omega) j (by omega)
theorem ptr_back (x : List Int) (hx : x.length = 32) (hf : PtrMay x) : rdPtr (ptrSecN x 32) = x := by
  refine nth_ext (by simp [hx]) fun i hi => ?_
  simp at hi
  rw [rdPtr_nth _ _ hi, ptrSecN_get x hf 32 (by omega) i hi]
theorem ptrSecN_nth (x : List Int) : ∀ n, n ≤ 32 → ∀ j k, k < 4 → nth (ptrSecN x n) (4 * j + k) = if j < n then nth x j / 2 ^ (8 * k) % 256 else 0
  | 0, _, j, k, _ => by simp [ptrSecN, zl_get]
  | n + 1, h, j, k, hk => by
    rw [ptrSecN_succ, nth_setB _ _ _ _ (by rw [ptrSecN_length]; omega)]
    by_cases hjn : j = n
    · subst hjn
      rw [if_pos (by omega), if_pos (by omega), show 4 * j + k - 4 * j = k by omega]
    · rw [if_neg (by omega), ptrSecN_nth x n (by omega) j k hk]
      by_cases hlt : j < n
      · rw [if_pos hlt, if_pos (by omega)]
      · rw [if_neg hlt, if_neg (by omega)]
theorem getB4_digit {s : List Int} (hb : Bytes s) (a k : Nat) (hk : k < 4) : getB s a 4 / 2 ^ (8 * k) % 256 = nth s (a + k) := by
  have h0 := hb.at a; have h1 := hb.at (a + 1); have h2 := hb.at (a + 2); have h3 := hb.at (a + 3)
  have e : getB s a 4 = nth s a + 256 * (nth s (a + 1) + 256 * (nth s (a + 2) + 256 * nth s (a + 3))) := by
    simp only [getB, Int.mul_zero, Int.add_zero]
  rw [e]
  have p1 : (2 : Int) ^ (8 * 1) = 256 := by decide
  have p2 : (2 : Int) ^ (8 * 2) = 65536 := by decide
  have p3 : (2 : Int) ^ (8 * 3) = 16777216 := by decide
  have : k = 0 ∨ k = 1 ∨ k = 2 ∨ k = 3 := by omega
  rcases this with rfl | rfl | rfl | rfl
  · simp only [Nat.mul_zero, Int.pow_zero, Int.ediv_one, Nat.add_zero]
    omega
  · rw [p1]; omega
  · rw [p2]; omega
  · rw [p3]; omega
theorem getB4_lt {s : List Int} (hb : Bytes s) (a : Nat) : 0 ≤ getB s a 4 ∧ getB s a 4 ≤ 4294967295 := by
  have h0 := hb.at a; have h1 := hb.at (a + 1); have h2 := hb.at (a + 2); have h3 := hb.at (a + 3)
  have e : getB s a 4 = nth s a + 256 * (nth s (a + 1) + 256 * (nth s (a + 2) + 256 * nth s (a + 3))) := by
    simp only [getB, Int.mul_zero, Int.add_zero]
  rw [e]; omega
theorem ptr_one {s : List Int} (hs : s.length = 128) (hb : Bytes s) : PtrMay (rdPtr s) ∧ ptrSecN (rdPtr s) 32 = s := by
  constructor
  · intro j hj
    rw [rdPtr_nth _ _ hj]; exact getB4_lt hb _
  · refine nth_ext (by rw [ptrSecN_length, hs]) fun i hi => ?_
    rw [ptrSecN_length] at hi
    have := ptrSecN_nth (rdPtr s) 32 (by omega) (i / 4) (i % 4) (by omega)
    have e : 4 * (i / 4) + i % 4 = i := by omega
    rw [if_pos (by omega), rdPtr_nth _ _ (by omega), getB4_digit hb _ _ (by omega), e] at this
    exact this
end Go.Proofs.Ythgiolofnkdfoaa
