/- What is written is read back; what is read has just that sector: plain laws, thing by thing. -/
import Derived.Test.YthgiolofnkdfoaaPl1
namespace Go.Proofs.Ythgiolofnkdfoaa
set_option linter.unusedSimpArgs false
set_option linter.unusedVariables false
open Go.RowKit

theorem sup_yes {x y : Int} (h : (supR x y).2 = 0) : SupMay x y := by
  by_cases hm : SupMay x y
  · exact hm
  · rw [supR_no hm] at h; cases h
theorem supSec_reads {x y : Int} (h : SupMay x y) : rdSupR (supSec x y) = (x, y, 0) := by
  obtain ⟨⟨h1, h2⟩, ⟨h3, h4⟩, h5⟩ := id h
  unfold rdSupR
  rw [supSec_x x y (by omega) (by omega), supSec_y x y (by omega) (by omega), if_pos ⟨h, rfl⟩]
theorem sup_bytes (x y : Int) : Bytes (supR x y).1 := by
  by_cases h : SupMay x y
  · simp only [supR_yes h]; exact supSec_bytes x y
  · simp only [supR_no h]; exact bytes_zl _
theorem sup_one {s : List Int} (h : (rdSupR s).2.2 = 0) : SupMay (rdSupR s).1 (rdSupR s).2.1 ∧ supSec (rdSupR s).1 (rdSupR s).2.1 = s := by
  unfold rdSupR at *
  split at h
  · rename_i hc; rw [if_pos hc]; exact hc
  · cases h
theorem rdSup_no {s : List Int} (h : (rdSupR s).2.2 ≠ 0) : rdSupR s = (0, 0, 60) := by
  unfold rdSupR at *
  split at h
  · exact absurd rfl h
  · rename_i hc; rw [if_neg hc]
theorem getB_zl (n a : Nat) : ∀ m, getB (zl n) a m = 0
  | 0 => rfl
  | m + 1 => by
    simp only [getB, zl_get]
    have := getB_congr (zl n) (zl n) m (a + 1) (fun _ _ _ => rfl)
    have h : ∀ m a, getB (zl n) a m = 0 := by
      intro m; induction m with
      | zero => intro a; rfl
      | succ m ih => intro a; simp only [getB, zl_get, ih]; omega
    rw [h]; omega
theorem sup_zero : rdSupR (zl 128) = (0, 0, 60) := by
  refine rdSup_no fun h => ?_
  have := (sup_one h).1
  unfold rdSupR at this
  split at this
  · obtain ⟨⟨h1, -⟩, -⟩ := this
    rw [getB_zl] at h1; omega
  · obtain ⟨⟨h1, -⟩, -⟩ := this
    simp at h1

/-! inodes -/
theorem ino_yes {l : List Int} (h : (inoR l).2 = 0) : InoMay l := by
  by_cases hm : InoMay l
  · exact hm
  · rw [inoR_no hm] at h; cases h
theorem ino_fits {l : List Int} (h : InoMay l) (j : Nat) (hj : j < 18) : 0 ≤ nth l (fCell j) ∧ nth l (fCell j) < 256 ^ fWd j := by
  obtain ⟨h1, h2, h3⟩ := inoMay_fits l h j hj
  refine ⟨h1, ?_⟩
  by_cases h8 : fWd j < 8
  · have := h3 h8
    rwa [Int.pow_mul] at this
  · have : fWd j = 8 := by have := fWd_pos j; omega
    rw [this]
    have p8 : (256 : Int) ^ 8 = 18446744073709551616 := by decide
    rw [p8]; omega
theorem inoSec_reads {l : List Int} (hl : l.length = 18) (h : InoMay l) : rdInoR (inoSec l) = (l, 0) := by
  have e := inoSec_back l hl (ino_fits h)
  unfold rdInoR
  rw [e, if_pos ⟨h, rfl⟩]
theorem inoSec_bytes (l : List Int) : Bytes (inoSec l) := inoSecN_bytes l 18 (by omega)
theorem ino_one {s : List Int} (h : (rdInoR s).2 = 0) : InoMay (rdInoR s).1 ∧ inoSec (rdInoR s).1 = s := by
  unfold rdInoR at *
  split at h
  · rename_i hc; rw [if_pos hc]; exact hc
  · cases h
theorem rdIno_no {s : List Int} (h : (rdInoR s).2 ≠ 0) : rdInoR s = (zl 18, 61) := by
  unfold rdInoR at *
  split at h
  · exact absurd rfl h
  · rename_i hc; rw [if_neg hc]
theorem ino_zero : rdInoR (zl 128) = (zl 18, 0) := by
  have hm : InoMay (zl 18) := by unfold InoMay; rw [if_pos (zl_get _ _)]
  have e : inoSec (zl 18) = zl 128 := by decide +kernel
  have := inoSec_reads (zl_length 18) hm
  rwa [e] at this

/-! pointers -/
theorem ptr_yes {x : List Int} (h : (ptrR x).2 = 0) : PtrMay x := by
  by_cases hm : PtrMay x
  · exact hm
  · rw [ptrR_no hm] at h; cases h
theorem ptr_one' {s : List Int} (hs : s.length = 128) (hb : Bytes s) : ptrR (rdPtr s) = (s, 0) := by
  obtain ⟨h1, h2⟩ := ptr_one hs hb
  rw [ptrR_yes h1, h2]

/-! slots -/
theorem nmL_bytes (s : ByteArray) : Bytes (nmL s) := by
  intro x hx
  unfold nmL at hx
  obtain ⟨b, -, rfl⟩ := List.mem_map.1 hx
  have := b.toNat_lt
  omega
theorem slot_len {s : ByteArray} (h : s.size ≤ 40) : (putL (zl 128) 5 (nmL s)).length = 128 := by
  rw [putL_length _ _ _ (by rw [zl_length, nmL_length]; omega)]; exact zl_length _
theorem slotSec_bytes (x : Int) (s : ByteArray) (h : s.size ≤ 40) : Bytes (slotSec x s) := by
  unfold slotSec
  refine Bytes.setB (Bytes.setB (Bytes.putL (bytes_zl _) (nmL_bytes s) _ (by rw [zl_length, nmL_length]; omega)) _ _ _ ?_) _ _ _ ?_
  · rw [slot_len h]; omega
  · rw [setB_length, slot_len h]; omega
theorem slotSec_x (x : Int) (s : ByteArray) (h : s.size ≤ 40) (h0 : 0 ≤ x) (h1 : x < 4294967296) : getB (slotSec x s) 0 4 = x := by
  unfold slotSec
  rw [getB_setB_off _ _ _ _ _ _ (by rw [setB_length, slot_len h]; omega) (by omega)]
  exact getB_setB _ _ _ _ (by rw [slot_len h]; omega) h0 h1
theorem slotSec_n (x : Int) (s : ByteArray) (h : s.size ≤ 40) : nth (slotSec x s) 4 = s.size := by
  unfold slotSec
  rw [nth_setB _ _ _ _ (by rw [setB_length, slot_len h]; omega), if_pos (by omega)]
  simp only [Nat.sub_self, Nat.mul_zero, Int.pow_zero, Int.ediv_one]
  omega
theorem slotSec_raw (x : Int) (s : ByteArray) (h : s.size ≤ 40) (i : Nat) (hi : i < s.size) : nth (slotSec x s) (5 + i) = nth (nmL s) i := by
  unfold slotSec
  rw [nth_setB _ _ _ _ (by rw [setB_length, slot_len h]; omega), if_neg (by omega), nth_setB _ _ _ _ (by rw [slot_len h]; omega), if_neg (by omega),
    nth_putL _ _ _ _ (by rw [zl_length, nmL_length]; omega), if_pos (by rw [nmL_length]; omega), show 5 + i - 5 = i by omega]
theorem slotSec_nm (x : Int) (s : ByteArray) (h : s.size ≤ 40) : rdNm (slotSec x s) = s := by
  unfold rdNm
  rw [slotSec_n x s h, if_pos (by omega)]
  have e : rawNm (slotSec x s) ((s.size : Int)).toNat = s.data.toList := by
    apply List.ext_getElem
    · rw [rawNm_length, len_data]; omega
    · intro i h1 h2
      have hi : i < s.size := by rw [len_data] at h2; exact h2
      have hr : ∀ (t : List Int) (n : Nat) (h1 : i < (rawNm t n).length), (rawNm t n)[i] = UInt8.ofNat (nth t (5 + i)).toNat := fun t n h1 => by simp [rawNm]
      rw [hr, slotSec_raw x s h i hi]
      have hn : nth (nmL s) i = ((s.data.toList[i]'h2).toNat : Int) := by
        unfold nth nmL
        rw [List.getElem?_map, List.getElem?_eq_getElem h2]
        rfl
      rw [hn, Int.toNat_natCast, UInt8.ofNat_toNat]
  rw [e]
theorem slot_yes {x : Int} {s : ByteArray} (h : (slotR x s).2 = 0) : (x = 0 ∧ s.toList = []) ∨ SlotMay x s := by
  unfold slotR at h
  by_cases h1 : x = 0 ∧ s.toList = []
  · exact .inl h1
  · rw [if_neg h1] at h
    by_cases h2 : SlotMay x s
    · exact .inr h2
    · rw [if_neg h2] at h; cases h
theorem slot_no {x : Int} {s : ByteArray} (h : (slotR x s).2 ≠ 0) : slotR x s = (zl 128, 63) := by
  unfold slotR at *
  by_cases h1 : x = 0 ∧ s.toList = []
  · rw [if_pos h1] at h; exact absurd rfl h
  · rw [if_neg h1] at *
    by_cases h2 : SlotMay x s
    · rw [if_pos h2] at h; exact absurd rfl h
    · rw [if_neg h2]
theorem empty_of {s : ByteArray} (h : s.toList = []) : s = { data := #[] } := by
  rw [Lib.toList_data] at h
  obtain ⟨⟨l⟩⟩ := s
  obtain rfl : l = [] := h
  rfl
theorem rdNm_zero : rdNm (zl 128) = { data := #[] } := by decide +kernel
theorem slot_bytes (x : Int) (s : ByteArray) : Bytes (slotR x s).1 := by
  unfold slotR
  split
  · exact bytes_zl _
  · split
    · rename_i h; exact slotSec_bytes x s h.size.2
    · exact bytes_zl _
theorem slot_reads {x : Int} {s : ByteArray} (h : (slotR x s).2 = 0) : rdSloR (slotR x s).1 = (x, s, 0) := by
  rcases slot_yes h with ⟨rfl, he⟩ | hm
  · obtain rfl := empty_of he
    have e : slotR 0 { data := #[] } = (zl 128, 0) := by unfold slotR; rw [if_pos ⟨rfl, he⟩]
    simp only [e]
    unfold rdSloR
    rw [getB_zl, rdNm_zero, if_pos e]
  · have hz : ¬ (x = 0 ∧ s.toList = []) := fun hc => by have := hm.1.1; omega
    have e : slotR x s = (slotSec x s, 0) := by unfold slotR; rw [if_neg hz, if_pos hm]
    simp only [e]
    unfold rdSloR
    have h40 := hm.size.2
    have h1 := hm.1.1
    have h2 := hm.1.2
    rw [slotSec_x x s h40 (by omega) (by omega), slotSec_nm x s h40, if_pos e]
theorem slot_one {s : List Int} (h : (rdSloR s).2.2 = 0) : slotR (rdSloR s).1 (rdSloR s).2.1 = (s, 0) := by
  unfold rdSloR at *
  split at h
  · rename_i hc; rw [if_pos hc]; exact hc
  · cases h
theorem rdSlo_no {s : List Int} (h : (rdSloR s).2.2 ≠ 0) : rdSloR s = (0, { data := #[] }, 63) := by
  unfold rdSloR at *
  split at h
  · exact absurd rfl h
  · rename_i hc; rw [if_neg hc]
theorem slot_zero : rdSloR (zl 128) = (0, { data := #[] }, 0) := by
  have he : slotR 0 { data := #[] } = (zl 128, 0) := by unfold slotR; rw [if_pos ⟨rfl, by decide +kernel⟩]
  have := slot_reads (x := 0) (s := { data := #[] }) (by rw [he])
  rwa [he] at this

/-! no super is read as another thing -/
theorem sup_ino {s : List Int} (h : (rdSupR s).2.2 = 0) : rdInoR s = (zl 18, 61) := by
  refine rdIno_no fun hi => ?_
  obtain ⟨-, hs⟩ := sup_one h
  have hm := (supSec_mark (rdSupR s).1 (rdSupR s).2.1).1
  rw [hs] at hm
  unfold rdInoR at hi
  split at hi
  · rename_i hc
    have hc := hc.1
    have h0 : nth (rdIno (getB s 8 8) s) 0 = 66 := hm
    have := (inoMay_else (by rw [h0]; omega)).1 hc
    have := this.1.1.2
    rw [h0] at this; omega
  · cases hi
theorem sup_slo {s : List Int} (h : (rdSupR s).2.2 = 0) : rdSloR s = (0, { data := #[] }, 63) := by
  refine rdSlo_no fun hi => ?_
  obtain ⟨-, hs⟩ := sup_one h
  have hm := (supSec_mark (rdSupR s).1 (rdSupR s).2.1).2
  rw [hs] at hm
  have h1 := slot_one hi
  have hx : (rdSloR s).1 = getB s 0 4 := by
    unfold rdSloR at *
    split at hi
    · rename_i hc; rw [if_pos hc]
    · cases hi
  rcases slot_yes (by rw [h1]) with ⟨h2, -⟩ | ⟨⟨-, h2⟩, -⟩ <;> (rw [hx, hm] at h2; omega)

/-! one byte turned -/
theorem sup_turned {x y : Int} {s : List Int} (hm : SupMay x y) (hs : s ≠ supSec x y) (h : (rdSupR s).2.2 = 0) : ¬ ((rdSupR s).1 = x ∧ (rdSupR s).2.1 = y) := by
  rintro ⟨h1, h2⟩
  have := (sup_one h).2
  rw [h1, h2] at this
  exact hs this.symm
theorem ino_turned {l s : List Int} (hs : s ≠ inoSec l) (h : (rdInoR s).2 = 0) : (rdInoR s).1 ≠ l := by
  intro h1
  have := (ino_one h).2
  rw [h1] at this
  exact hs this.symm
theorem ptr_turned {x s : List Int} (hl : s.length = 128) (hb : Bytes s) (hs : s ≠ ptrSecN x 32) : rdPtr s ≠ x := by
  intro h1
  have := (ptr_one hl hb).2
  rw [h1] at this
  exact hs this.symm
theorem slo_turned {x : Int} {nm : ByteArray} {s : List Int} (hs : s ≠ (slotR x nm).1) (h : (rdSloR s).2.2 = 0) : ¬ ((rdSloR s).1 = x ∧ (rdSloR s).2.1 = nm) := by
  rintro ⟨h1, h2⟩
  have := slot_one h
  rw [h1, h2] at this
  rw [this] at hs
  exact hs rfl
end Go.Proofs.Ythgiolofnkdfoaa
