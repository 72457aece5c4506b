/- Package strings at the separators that no name may hold: a rune that is none of them is not found. -/
import Derived.Test.YthgiolofnkdfoaaShelf
import Derived.Test.YthgiolofnkdfoaaSec
import Derived.Laws.RangeAny
import Derived.Laws.Runes
import Derived.WalkMore
import Derived.Deep.QuietTactic
import Derived.BigQuiet
namespace Go.Proofs.Ythgiolofnkdfoaa
set_option linter.unusedSimpArgs false
set_option linter.unusedVariables false
open Go.RowKit

def sepB : ByteArray := { data := #[0, 47] }

set_option maxHeartbeats 1000000 in
set_option maxRecDepth 100000 in
theorem sepRune_bad (r : Int) (w : World) (h : 128 ≤ r) (hne : r ≠ 65533) (hv : Lib.validRune r = false) :
    Calls Try.prog 56 #[.string { data := #[0, 47] }, .int .i32 r] w fun e w' => e = .returned (.int .i64 (-1)) ∧ Below w.heap.size w w' := by
  have d2 : decide (r < 128) = false := by simp; omega
  have d1 : decide (0 ≤ r) = true := by simp; omega
  have d3 : (r == 65533) = false := by simp; omega
  go_enter Try.func56, Try.ntmps56
  go_wp2_with fail
  refine (Try.utf8_ValidRune _ _).mono ?_; rintro e w' ⟨rfl, hw⟩; rw [hw, hv]
  go_wp2_with fail
  go_ret
  exact ⟨rfl, Below.refl _ _⟩

set_option maxHeartbeats 1000000 in
set_option maxRecDepth 100000 in
theorem sepRune_err (w : World) :
    Calls Try.prog 56 #[.string { data := #[0, 47] }, .int .i32 65533] w fun e w' => e = .returned (.int .i64 (-1)) ∧ Below w.heap.size w w' := by
  go_enter Try.func56, Try.ntmps56
  have n0 := fun ty => run_next_ascii (P := Try.prog) w { data := #[0, 47] } 0 ty (by decide) (by decide)
  have n1 := fun ty => run_next_ascii (P := Try.prog) w { data := #[0, 47] } 1 ty (by decide) (by decide)
  have n2 := fun ty => run_next_end (P := Try.prog) w { data := #[0, 47] } 2 ty (by decide)
  go_wp2_with fail
  go_loopg [5, 6] 2 (fun g _ _ wx => ∃ i : Nat, i + g = 2 ∧ wx = w.iter { data := #[0, 47] } i)
  case atStart => exact ⟨0, by omega, rfl⟩
  case round =>
    obtain ⟨i, hig, rfl⟩ := hrel
    obtain rfl | rfl | rfl : i = 0 ∨ i = 1 ∨ i = 2 := by omega
    · obtain rfl : gk = 2 := by omega
      go_wp2_with fail
      go_roundg 1
      case measure => omega
      case rel => exact ⟨1, by omega, rfl⟩
    · obtain rfl : gk = 1 := by omega
      go_wp2_with fail
      go_roundg 0
      case measure => omega
      case rel => exact ⟨2, by omega, rfl⟩
    · go_wp2_with fail
      go_ret
      exact ⟨rfl, (Below.refl _ _).alloc (Nat.le_refl _) _⟩

set_option maxHeartbeats 1000000 in
set_option maxRecDepth 100000 in
theorem sepRune_valid (r : Int) (w : World) (h : 128 ≤ r) (h2 : r ≤ 2147483647) (hne : r ≠ 65533) (hv : Lib.validRune r = true) :
    Calls Try.prog 56 #[.string { data := #[0, 47] }, .int .i32 r] w fun e w' => e = .returned (.int .i64 (-1)) ∧ Below w.heap.size w w' := by
  have d2 : decide (r < 128) = false := by simp; omega
  have d1 : decide (0 ≤ r) = true := by simp; omega
  have d3 : (r == 65533) = false := by simp; omega
  have hcv := fun w => run_convert_int_string (P := Try.prog) w 21 9 .i32 r (by rw [Try.underlying21]; rfl) Try.underlying9
  obtain ⟨e2, e4, eh⟩ := encode_facts r (by rw [validRune_eq]; exact hv) h
  generalize Utf8.encode r = rs at *
  have eL := eh (by omega)
  obtain ⟨c, hc⟩ : ∃ c : UInt8, rs[rs.size - 1]'(by omega) = c := ⟨_, rfl⟩
  rw [hc] at eL
  have hz : rs.size = 2 ∨ rs.size = 3 ∨ rs.size = 4 := by omega
  go_enter Try.func56, Try.ntmps56
  go_wp2_with fail
  refine (Try.utf8_ValidRune _ _).mono ?_; rintro e w' ⟨rfl, hw⟩; rw [hw, hv]
  rcases hz with hz | hz | hz
  · have gz : ((rs.size : Int)) = 2 := by omega
    have gx : rs[1]'(by omega) = c := by have := hc; simp only [hz] at this; exact this
    clear hc eh hv e2 e4
    have cn : ((47 : Int) != (c.toNat : Int)) = true := by simp; omega
    have gi : ∀ w, (Instr.index 9 (.string rs) (.int .i64 1)).run Try.prog w = .ok (.int .u8 c.toNat) w := fun w => by
      rw [run_index_string w 9 rs .i64 1 Try.underlying9, dif_pos ⟨by omega, by omega⟩]
      show Result.ok (Value.int .u8 (rs[1]'(by omega)).toNat) w = _
      rw [gx]
    have gj : ∀ w, (Instr.index 9 (.string { data := #[0, 47] }) (.int .i64 1)).run Try.prog w = .ok (.int .u8 47) w := fun w => by
      rw [run_index_string w 9 _ .i64 1 Try.underlying9]; rfl
    have hsl : ∀ w, (Instr.slice 9 (.string { data := #[0, 47] }) (some (.int .i64 2)) none none).run Try.prog w = .ok (.string { data := #[] }) w := fun w => by
      rw [run_slice_string_from_if w 9 _ .i64 2 Try.underlying9]; rfl
    go_wp2_with fail
    go_step3
    go_wp2_with fail
    go_loopw [9, 10] (fun a b wr => a = .int .i64 1 ∧ b = .int .i64 0 ∧ wr = w) (fun _ _ _ => 1)
    case atStart => exact ⟨rfl, rfl, rfl⟩
    case round =>
      obtain ⟨rfl, rfl, rfl⟩ := hrel
      go_wp2_with fail
      go_step3
      go_wp2_with fail
      go_quiet (fail)
      go_wp2_with fail
      go_quiet (exact (Try.strings_IndexByte _ _ _).mono (fun e w' h => ⟨h.1, _, h.2⟩))
      have ib : Lib.indexByte (({ data := #[] } : ByteArray).data.toList) ((c.toNat : Int)).toNat.toUInt8 = -1 := rfl
      go_wp2_with fail
      rw [Exit.noGoto_ret]
      go_ret
      exact ⟨rfl, below_drewN (Below.refl _ _) _⟩
  · have gz : ((rs.size : Int)) = 3 := by omega
    go_wp2_with fail
    go_step3
    go_wp2_with fail
    go_loopw [9, 10] (fun a b wr => a = .int .i64 2 ∧ b = .int .i64 0 ∧ wr = w) (fun _ _ _ => 1)
    case atStart => exact ⟨rfl, rfl, rfl⟩
    case round =>
      obtain ⟨rfl, rfl, rfl⟩ := hrel
      go_wp2_with fail
      rw [Exit.noGoto_ret]
      go_ret
      exact ⟨rfl, Below.refl _ _⟩
  · have gz : ((rs.size : Int)) = 4 := by omega
    go_wp2_with fail
    go_step3
    go_wp2_with fail
    go_loopw [9, 10] (fun a b wr => a = .int .i64 3 ∧ b = .int .i64 0 ∧ wr = w) (fun _ _ _ => 1)
    case atStart => exact ⟨rfl, rfl, rfl⟩
    case round =>
      obtain ⟨rfl, rfl, rfl⟩ := hrel
      go_wp2_with fail
      rw [Exit.noGoto_ret]
      go_ret
      exact ⟨rfl, Below.refl _ _⟩
end Go.Proofs.Ythgiolofnkdfoaa
