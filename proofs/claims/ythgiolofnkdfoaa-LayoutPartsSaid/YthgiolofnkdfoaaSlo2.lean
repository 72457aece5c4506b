/- The reference: the sector of a slot. -/
import Derived.Test.YthgiolofnkdfoaaSlo1
namespace Go.Proofs.Ythgiolofnkdfoaa
set_option linter.unusedSimpArgs false
set_option linter.unusedVariables false
open Go.RowKit

/-- the reference's sector behind k bytes of the name -/
def rslN (x : Int) (s : ByteArray) : Nat → List Int
  | 0 => setB (setB (zl 128) 0 4 x) 4 1 s.size
  | k + 1 => (rslN x s k).set (5 + k) (nth (nmL s) k)
@[go_sem, simp] theorem rslN_length (x : Int) (s : ByteArray) (k : Nat) : (rslN x s k).length = 128 := by
  induction k with
  | zero => simp [rslN]
  | succ k ih => simp [rslN, ih]
theorem nth_putL (s bs : List Int) (a j : Nat) (h : a + bs.length ≤ s.length) : nth (putL s a bs) j = if a ≤ j ∧ j < a + bs.length then nth bs (j - a) else nth s j := by
  unfold nth putL
  rw [List.getElem?_append, List.getElem?_append, List.length_take, List.getElem?_take, List.getElem?_drop, Nat.min_eq_left (by omega)]
  by_cases h1 : j < a
  · rw [if_pos h1, if_pos h1, if_neg (by omega)]
  · rw [if_neg h1]
    by_cases h2 : j - a < bs.length
    · rw [if_pos h2, if_pos (by omega)]
    · rw [if_neg h2, if_neg (by omega), show a + bs.length + (j - a - bs.length) = j by omega]
theorem rslN_nth (x : Int) (s : ByteArray) (k j : Nat) (hk : k ≤ 40) : nth (rslN x s k) j = if 5 ≤ j ∧ j < 5 + k then nth (nmL s) (j - 5) else nth (setB (setB (zl 128) 0 4 x) 4 1 s.size) j := by
  induction k with
  | zero => simp only [rslN]; rw [if_neg (by omega)]
  | succ k ih =>
    simp only [rslN]
    rw [nth_set (by simp; omega), ih (by omega)]
    by_cases h : j = 5 + k
    · rw [if_pos h, if_pos (by omega), h, show 5 + k - 5 = k by omega]
    · rw [if_neg h]
      by_cases h2 : 5 ≤ j ∧ j < 5 + k
      · rw [if_pos h2, if_pos (by omega)]
      · rw [if_neg h2, if_neg (by omega)]
theorem rslN_all (x : Int) (s : ByteArray) (hs : s.size ≤ 40) : rslN x s s.size = slotSec x s := by
  have hpl : (putL (zl 128) 5 (nmL s)).length = 128 := by rw [putL_length _ _ _ (by simp; omega)]; simp
  refine nth_ext (by simp [slotSec, hpl]) (fun j hj => ?_)
  rw [rslN_nth x s _ j hs, nth_setB (setB (zl 128) 0 4 x) 4 1 _ (by simp), nth_setB (zl 128) 0 4 x (by simp)]
  unfold slotSec
  rw [nth_setB (setB (putL (zl 128) 5 (nmL s)) 0 4 x) 4 1 _ (by simp [hpl]), nth_setB (putL (zl 128) 5 (nmL s)) 0 4 x (by simp [hpl]), nth_putL _ _ _ _ (by simp; omega), nmL_length]
  by_cases h1 : 4 ≤ j ∧ j < 4 + 1
  · rw [if_neg (by omega), if_pos h1, if_pos h1]
  · rw [if_neg h1, if_neg h1]
    by_cases h2 : 0 ≤ j ∧ j < 0 + 4
    · rw [if_neg (by omega), if_pos h2, if_pos h2]
    · rw [if_neg h2, if_neg h2]

set_option maxHeartbeats 1000000 in
set_option maxRecDepth 100000 in
theorem rslotSector_zero (s : ByteArray) (w : World) (hs : s.toList = []) :
    Calls Try.prog 13 #[.agg #[.int .i64 0, .string s]] w fun e w' => e = .returned (.tuple #[.agg (IV .u8 (zl 128)), .int .i64 0]) ∧ Below w.heap.size w w' := by
  go_enter Try.func13, Try.ntmps13
  go_wp2_with fail
  refine ret_ct row25 rfl (cs := IV .u8 (zl 128)) rfl (by simp [go_sem]) (by simp) rfl ⟨rfl, ?_⟩
  exact (((Below.refl _ _).alloc (Nat.le_refl _) _).alloc (by simp) _).alloc (by simp; omega) _

set_option maxHeartbeats 1000000 in
set_option maxRecDepth 100000 in
theorem rslotSector_no (x : Int) (s : ByteArray) (w : World) (hz : x = 0 → ¬ s.toList = []) (h : ¬ SlotMay x s) (hss : s.size < 4611686018427387904) :
    Calls Try.prog 13 #[.agg #[.int .i64 x, .string s]] w fun e w' => e = .returned (.tuple #[.agg (IV .u8 (zl 128)), .int .i64 63]) ∧ Below w.heap.size w w' := by
  have H := Lib.hid h
  clear h
  by_cases hx : x = 0
  · subst hx
    have hs := hz rfl
    have hs1 : s.toList.isEmpty = false := by
      cases h : s.toList with
      | nil => exact absurd h hs
      | cons _ _ => rfl
    have hs2 : (s.toList == []) = false := beq_eq_false_iff_ne.2 hs
    clear hz
    go_enter Try.func13, Try.ntmps13
    go_wp2_with fail
    refine (rwithin_any _ _ _ _).mono ?_; rintro e w' ⟨rfl, rfl⟩
    go_wp2_with fail
    refine ret_ct row25 rfl (cs := IV .u8 (zl 128)) rfl (by simp [go_sem]) (by simp) rfl ⟨rfl, ?_⟩
    exact (((Below.refl _ _).alloc (Nat.le_refl _) _).alloc (by simp) _).alloc (by simp; omega) _
  · clear hz
    go_enter Try.func13, Try.ntmps13
    go_wp2_with fail
    refine (rwithin_any _ _ _ _).mono ?_; rintro e w' ⟨rfl, rfl⟩
    cases h1 : decide (1 ≤ x ∧ x ≤ 512)
    · go_wp2_with fail
      refine ret_ct row25 rfl (cs := IV .u8 (zl 128)) rfl (by simp [go_sem]) (by simp) rfl ⟨rfl, ?_⟩
      exact (((Below.refl _ _).alloc (Nat.le_refl _) _).alloc (by simp) _).alloc (by simp; omega) _
    · go_wp2_with fail
      refine (risName_any _ _ hss).mono ?_; rintro e w1 ⟨rfl, hw⟩
      rw [hw, decide_eq_false (fun h => H.out ⟨of_decide_eq_true h1, h⟩)]
      go_wp2_with fail
      refine ret_ct row25 rfl (cs := IV .u8 (zl 128)) rfl (by simp [go_sem]) (by simp) rfl ⟨rfl, ?_⟩
      exact (((Below.refl _ _).alloc (Nat.le_refl _) _).alloc (by simp) _).alloc (by simp; omega) _

set_option maxHeartbeats 1000000 in
set_option maxRecDepth 100000 in
theorem rslotSector_ok (x : Int) (s : ByteArray) (w : World) (h : SlotMay x s) :
    Calls Try.prog 13 #[.agg #[.int .i64 x, .string s]] w fun e w' => e = .returned (.tuple #[.agg (IV .u8 (slotSec x s)), .int .i64 0]) ∧ Below w.heap.size w w' := by
  obtain ⟨s1, s40⟩ := h.size
  have H := Lib.hid h
  obtain ⟨⟨x1, x2⟩, hn⟩ := h
  have hx : ¬ x = 0 := by omega
  clear hn
  go_enter Try.func13, Try.ntmps13
  go_wp2_with fail
  refine (rwithin_yes _ _ _ _ (by omega)).mono ?_; rintro e w' ⟨rfl, rfl⟩
  go_wp2_with fail
  refine (risName_any _ _ (by omega)).mono ?_; rintro e w1 ⟨rfl, hw⟩; rw [hw, decide_eq_true H.out.2]
  have hb := (((Below.refl w.heap.size w).alloc (Nat.le_refl _) (.cells #[.int .i64 x, .string s] 23)).alloc (by simp) (.cells (IV .u8 (zl 128)) 25)).alloc (by simp; omega) (.cells (IV .u8 (zl 128)) 25)
  have f0 : hat (((w.alloc (.cells #[.int .i64 x, .string s] 23)).alloc (.cells (IV .u8 (zl 128)) 25)).alloc (.cells (IV .u8 (zl 128)) 25)) w.heap.size = some (.cells #[.int .i64 x, .string s] 23) := by simp [go_sem]
  have f1 : hat (((w.alloc (.cells #[.int .i64 x, .string s] 23)).alloc (.cells (IV .u8 (zl 128)) 25)).alloc (.cells (IV .u8 (zl 128)) 25)) (w.heap.size + 1) = some (.cells (IV .u8 (zl 128)) 25) := by simp [go_sem]
  have f4 : hat (((w.alloc (.cells #[.int .i64 x, .string s] 23)).alloc (.cells (IV .u8 (zl 128)) 25)).alloc (.cells (IV .u8 (zl 128)) 25)) (w.heap.size + 1 + 1) = some (.cells (IV .u8 (zl 128)) 25) := by simp [go_sem]
  go_wp2_with fail
  refine (lay_ok (zl 128) (by simp) 0 4 x _ (by omega) (by omega) (by omega) (by omega)).mono ?_; rintro e w3 ⟨rfl, hb3⟩
  have hb := below_call hb hb3 hb.size
  obtain ⟨f0, z0⟩ := hop hb3 f0
  obtain ⟨f1, z1⟩ := hop hb3 f1
  obtain ⟨f4, z4⟩ := hop hb3 f4
  clear hb3
  go_wp2_with fail
  obtain ⟨f0, z0⟩ := hopR f0 (w.heap.size + 1 + 1) (IV .u8 (setB (zl 128) 0 4 x)) (by omega)
  obtain ⟨f1, z1⟩ := hopR f1 (w.heap.size + 1 + 1) (IV .u8 (setB (zl 128) 0 4 x)) (by omega)
  obtain ⟨f4, z4⟩ := hopS f4 (IV .u8 (setB (zl 128) 0 4 x))
  have hb := below_setRow hb (g := w.heap.size + 1 + 1) (by omega) (IV .u8 (setB (zl 128) 0 4 x))
  generalize w3.setRow (w.heap.size + 1 + 1) (IV .u8 (setB (zl 128) 0 4 x)) = w4 at *
  refine (lay_ok (setB (zl 128) 0 4 x) (by simp) 4 1 s.size _ (by omega) (by omega) (by omega) (by omega)).mono ?_; rintro e w5 ⟨rfl, hb3⟩
  have hb := below_call hb hb3 hb.size
  obtain ⟨f0, z0⟩ := hop hb3 f0
  obtain ⟨f1, z1⟩ := hop hb3 f1
  obtain ⟨f4, z4⟩ := hop hb3 f4
  clear hb3
  have HA := Lib.hid (rslN_all x s s40)
  go_wp2_with fail
  obtain ⟨f0, z0⟩ := hopR f0 (w.heap.size + 1 + 1) (IV .u8 (rslN x s 0)) (by omega)
  obtain ⟨f1, z1⟩ := hopR f1 (w.heap.size + 1 + 1) (IV .u8 (rslN x s 0)) (by omega)
  obtain ⟨f4, z4⟩ := hopS f4 (IV .u8 (rslN x s 0))
  have hb := below_setRow hb (g := w.heap.size + 1 + 1) (by omega) (IV .u8 (rslN x s 0))
  go_loopw [5] (fun i wr => ∃ k : Nat, k ≤ s.size ∧ i = .int .i64 k ∧ hat wr w.heap.size = some (.cells #[.int .i64 x, .string s] 23) ∧ hat wr (w.heap.size + 1) = some (.cells (IV .u8 (zl 128)) 25)
      ∧ hat wr (w.heap.size + 1 + 1) = some (.cells (IV .u8 (rslN x s k)) 25) ∧ Below w.heap.size w wr) (fun i _ => s.size - (intOf i).toNat)
  case atStart => exact ⟨0, by omega, rfl, f0, f1, f4, hb⟩
  case round =>
    clear f0 f1 f4 hb
    obtain ⟨k, hk, rfl, f0, f1, f4, hb⟩ := hrel
    have z0 := hat_lt f0
    have z1 := hat_lt f1
    have z4 := hat_lt f4
    by_cases hkw : k < s.size
    · have HN := Lib.hid (nmL_nth s k hkw)
      obtain ⟨y, hy⟩ : ∃ y : UInt8, s[k]'hkw = y := ⟨_, rfl⟩
      have gi : ∀ w, (Instr.index 9 (.string s) (.int .i64 k)).run Try.prog w = .ok (.int .u8 y.toNat) w := fun w => by
        rw [run_index_string w 9 s .i64 k Try.underlying9, dif_pos ⟨by omega, by omega⟩]
        show Result.ok (Value.int .u8 (s[k]'hkw).toNat) w = _
        rw [hy]
      rw [hy] at HN
      clear hy
      have h5 : 5 + k < 128 := by omega
      have h5' : (5 : Int) + k < 128 := by omega
      go_wp2_with fail
      go_roundw
      case rel =>
        refine ⟨k + 1, by omega, by go_num, (hopCo f0 _ _ _ (by omega)).1, (hopCo f1 _ _ _ (by omega)).1, ?_, hb.setCell (by simp; omega) _⟩
        simp only [rslN]
        rw [HN.out]
        exact (hopC f4 _ _).1
      case measure => (show s.size - (k + 1) < s.size - k); omega
    · obtain rfl : k = s.size := by omega
      go_wp2_with fail
      exact ret_ct row25 rfl (cs := IV .u8 (rslN x s s.size)) rfl (hat_setRow_at _ _ _ _ _ _ f1) (by simp) rfl ⟨by rw [HA.out]; rfl, below_setRow hb (by omega) _⟩
end Go.Proofs.Ythgiolofnkdfoaa
