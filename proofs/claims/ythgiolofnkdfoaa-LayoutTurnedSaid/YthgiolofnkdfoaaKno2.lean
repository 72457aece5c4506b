/- The document's examples are as they must be: the walk. -/
import Derived.Test.YthgiolofnkdfoaaKno
namespace Go.Proofs.Ythgiolofnkdfoaa
set_option linter.unusedSimpArgs false
set_option linter.unusedVariables false
open Go.RowKit

def inoX : List Int := (((zl 18).set 0 1).set 2 300).set 16 30
theorem kn_imay : InoMay inoX := by
  unfold InoMay
  rw [if_neg (by decide)]
  refine ⟨by decide, fun j h1 h2 => ?_, Or.inl (by decide)⟩
  have : j = 4 ∨ j = 5 ∨ j = 6 ∨ j = 7 ∨ j = 8 ∨ j = 9 ∨ j = 10 ∨ j = 11 ∨ j = 12 ∨ j = 13 ∨ j = 14 ∨ j = 15 ∨ j = 16 ∨ j = 17 := by omega
  rcases this with rfl | rfl | rfl | rfl | rfl | rfl | rfl | rfl | rfl | rfl | rfl | rfl | rfl | rfl <;> decide
theorem kn_sb : Bytes (supSec 64 16) := by
  intro x hx
  have h : ∀ x ∈ supSec 64 16, 0 ≤ x ∧ x < 256 := by decide +kernel
  exact h x hx
theorem kn_slb : Bytes (slotSec 7 abS) := by
  intro x hx
  have h : ∀ x ∈ slotSec 7 abS, 0 ≤ x ∧ x < 256 := by decide +kernel
  exact h x hx
theorem kn_sl : (supSec 64 16).length = 128 := by decide +kernel
theorem kn_sll : (slotSec 7 abS).length = 128 := by decide +kernel
theorem kn_i5 : nth (inoSec inoX) 5 = 1 := by decide +kernel
theorem kn_i64 : nth (inoSec inoX) 64 = 30 := by decide +kernel

def pref (s : List Int) (n : Nat) : List UInt8 := (List.range n).map fun i => UInt8.ofNat (nth s i).toNat
theorem conv_pref (s : List Int) (hs : s.length = 128) (hb : Bytes s) (n : Nat) (hn : n ≤ 128) {w : World} {g : Nat} (f : hat w g = some (.cells (IV .u8 s) 25)) :
    (convert 59 9 (.slice (some ⟨g, 0, none⟩) n 128)).run Try.prog w = .ok (.string ⟨(pref s n).toArray⟩) w := by
  have h := run_convert_bytes_back (P := Try.prog) w 59 9 5 ⟨g, 0, none⟩ 128 (pref s n) Try.underlying59 Try.underlying5 Try.underlying9 (fun j hj => by
    have hadd : (⟨g, 0, none⟩ : Addr).add j = ⟨g, j, none⟩ := by unfold Addr.add; split <;> simp_all
    have hj' : j < n := by simpa [pref] using hj
    obtain ⟨b0, b1⟩ := hb.at j
    rw [hadd, cell_hat f, IV_get _ _ _ (by omega)]
    simp only [pref, List.getElem_map, List.getElem_range]
    rw [u8_back b0 b1])
  rw [show (pref s n).length = n by simp [pref]] at h
  exact h
theorem kn_p9 : (⟨(pref (supSec 64 16) 9).toArray⟩ : ByteArray) = { data := #[66, 82, 75, 87, 64, 0, 0, 0, 16] } := by decide +kernel
theorem kn_p8 : (⟨(pref (slotSec 7 abS) 8).toArray⟩ : ByteArray) = { data := #[7, 0, 0, 0, 2, 97, 98, 0] } := by decide +kernel

set_option maxHeartbeats 1000000 in
set_option maxRecDepth 100000 in
theorem known_true (w : World) : Calls Try.prog 11 #[] w fun e w' => e = .returned (.bool true) ∧ Below w.heap.size w w' := by
  go_enter Try.func11, Try.ntmps11
  go_wp2_with fail
  refine (superSector_ok 64 16 _ kn_may).mono ?_; rintro e w1 ⟨rfl, hb⟩
  have hsl := kn_sl
  have hsll := kn_sll
  have hil := (show (inoSec inoX).length = 128 from inoSecN_length _ _)
  go_wp2_with fail
  have hb := below_new hb hb.size (.cells (IV .u8 (supSec 64 16)) 25)
  obtain ⟨f1, z1⟩ := hopN w1 (.cells (IV .u8 (supSec 64 16)) 25)
  refine (lreadSuper_any (supSec 64 16) kn_sl kn_sb _).mono ?_; rintro e w2 ⟨rfl, hb2⟩
  rw [kn_read]
  have hb := below_call hb hb2 hb.size
  obtain ⟨f1, z1⟩ := hop hb2 f1
  clear hb2
  generalize w1.heap.size = g1 at *
  go_wp2_with fail
  have hb := below_new hb hb.size (.cells #[.int .i64 64, .int .i64 16] 34)
  obtain ⟨f1, z1⟩ := hopA w2 (.cells #[.int .i64 64, .int .i64 16] 34) f1
  obtain ⟨f3, z3⟩ := hopN w2 (.cells #[.int .i64 64, .int .i64 16] 34)
  refine (lslotSector_ok 7 abS _ kn_smay).mono ?_; rintro e w3 ⟨rfl, hb2⟩
  have hb := below_call hb hb2 hb.size
  obtain ⟨f1, z1⟩ := hop hb2 f1
  obtain ⟨f3, z3⟩ := hop hb2 f3
  clear hb2
  generalize w2.heap.size = g3 at *
  go_wp2_with fail
  have hb := below_new hb hb.size (.cells (IV .u8 (slotSec 7 abS)) 25)
  obtain ⟨f1, z1⟩ := hopA w3 (.cells (IV .u8 (slotSec 7 abS)) 25) f1
  obtain ⟨f3, z3⟩ := hopA w3 (.cells (IV .u8 (slotSec 7 abS)) 25) f3
  obtain ⟨f5, z5⟩ := hopN w3 (.cells (IV .u8 (slotSec 7 abS)) 25)
  refine (lreadSlot_any (slotSec 7 abS) kn_sll kn_slb _).mono ?_; rintro e w4 ⟨rfl, hb2⟩
  rw [kn_rslot]
  have hb := below_call hb hb2 hb.size
  obtain ⟨f1, z1⟩ := hop hb2 f1
  obtain ⟨f3, z3⟩ := hop hb2 f3
  obtain ⟨f5, z5⟩ := hop hb2 f5
  clear hb2
  generalize w3.heap.size = g5 at *
  go_wp2_with fail
  have hb := below_new hb hb.size (.cells #[.int .i64 7, .string abS] 23)
  obtain ⟨f1, z1⟩ := hopA w4 (.cells #[.int .i64 7, .string abS] 23) f1
  obtain ⟨f3, z3⟩ := hopA w4 (.cells #[.int .i64 7, .string abS] 23) f3
  obtain ⟨f5, z5⟩ := hopA w4 (.cells #[.int .i64 7, .string abS] 23) f5
  obtain ⟨f7, z7⟩ := hopN w4 (.cells #[.int .i64 7, .string abS] 23)
  refine (linodeSector_ok inoX (by decide) kn_imay _).mono ?_; rintro e w5 ⟨rfl, hb2⟩
  have hb := below_call hb hb2 hb.size
  obtain ⟨f1, z1⟩ := hop hb2 f1
  obtain ⟨f3, z3⟩ := hop hb2 f3
  obtain ⟨f5, z5⟩ := hop hb2 f5
  obtain ⟨f7, z7⟩ := hop hb2 f7
  clear hb2
  generalize w4.heap.size = g7 at *
  have hb := below_new hb hb.size (.cells (IV .u8 (inoSec inoX)) 25)
  obtain ⟨f1, z1⟩ := hopA w5 (.cells (IV .u8 (inoSec inoX)) 25) f1
  obtain ⟨f3, z3⟩ := hopA w5 (.cells (IV .u8 (inoSec inoX)) 25) f3
  obtain ⟨f5, z5⟩ := hopA w5 (.cells (IV .u8 (inoSec inoX)) 25) f5
  obtain ⟨f7, z7⟩ := hopA w5 (.cells (IV .u8 (inoSec inoX)) 25) f7
  have k5 := kn_i5
  have k64 := kn_i64
  have c9 := conv_pref (supSec 64 16) kn_sl kn_sb 9 (by decide) f1
  have c8 := conv_pref (slotSec 7 abS) kn_sll kn_slb 8 (by decide) f5
  rw [kn_p9] at c9
  rw [kn_p8] at c8
  have hab : abS = { data := #[97, 98] } := rfl
  go_wp2_with fail
  go_ret
  exact ⟨rfl, hb⟩
end Go.Proofs.Ythgiolofnkdfoaa
