/- A byte turned, and the laws' pick. -/
import Derived.Test.YthgiolofnkdfoaaPl3
import Derived.OpenShut
namespace Go.Proofs.Ythgiolofnkdfoaa
set_option linter.unusedSimpArgs false
set_option linter.unusedVariables false
open Go.RowKit

theorem xor_byte (a M : Int) (h0 : 0 ≤ a) (h1 : a < 256) (h2 : 1 ≤ M) (h3 : M ≤ 255) : 0 ≤ bits BinOp.xor IntKind.u8 a M ∧ bits BinOp.xor IntKind.u8 a M < 256 ∧ bits BinOp.xor IntKind.u8 a M ≠ a := by
  obtain ⟨n, rfl⟩ := Int.eq_ofNat_of_zero_le h0
  obtain ⟨m, rfl⟩ := Int.eq_ofNat_of_zero_le (show 0 ≤ M by omega)
  have hn : n < 256 := by omega
  have hm : m < 256 := by omega
  have hm0 : 1 ≤ m := by omega
  have e : bits BinOp.xor IntKind.u8 (n : Int) (m : Int) = ((n ^^^ m : Nat) : Int) := by
    have hx : n ^^^ m < 2 ^ 8 := Nat.xor_lt_two_pow hn hm
    have o : ∀ a : Nat, a < 256 → (BitVec.ofInt 8 (a : Int)).toNat = a := fun a ha => by
      rw [BitVec.toNat_ofInt]; omega
    show IntKind.u8.wrap ((BitVec.ofInt 8 (n : Int) ^^^ BitVec.ofInt 8 (m : Int)).toNat : Int) = _
    rw [BitVec.toNat_xor, o n hn, o m hm, IntKind.wrap_u8]
    omega
  rw [e]
  have h5 : n ^^^ m < 2 ^ 8 := Nat.xor_lt_two_pow hn hm
  refine ⟨by omega, by omega, fun h => ?_⟩
  have h6 : n ^^^ m = n := by omega
  have h7 : n ^^^ (n ^^^ m) = n ^^^ n := by rw [h6]
  rw [← Nat.xor_assoc, Nat.xor_self, Nat.zero_xor] at h7
  omega
theorem str_inj {s t : ByteArray} (h : s.toList = t.toList) : s = t := by
  rw [Lib.toList_data, Lib.toList_data] at h
  obtain ⟨⟨a⟩⟩ := s
  obtain ⟨⟨b⟩⟩ := t
  obtain rfl : a = b := h
  rfl
theorem ret_int {a b : Int} (h : a = b) : Ending.returned (.int .i64 a) = .returned (.int .i64 b) := by rw [h]
theorem turn_bytes {s : List Int} (hb : Bytes s) (k : Nat) (M : Int) (h2 : 1 ≤ M) (h3 : M ≤ 255) : Bytes (s.set k (bits BinOp.xor .u8 (nth s k) M)) := by
  intro x hx
  rcases List.mem_or_eq_of_mem_set hx with h | rfl
  · exact hb x h
  · have := hb.at k
    have := xor_byte (nth s k) M (by omega) (by omega) h2 h3
    exact ⟨this.1, this.2.1⟩
theorem turn_ne {s : List Int} (hb : Bytes s) {k : Nat} (hk : k < s.length) {M : Int} (h2 : 1 ≤ M) (h3 : M ≤ 255) : s.set k (bits BinOp.xor .u8 (nth s k) M) ≠ s := by
  intro h
  have h1 : nth (s.set k (bits BinOp.xor .u8 (nth s k) M)) k = nth s k := by rw [h]
  rw [nth_set hk, if_pos rfl] at h1
  have := hb.at k
  exact (xor_byte (nth s k) M (by omega) (by omega) h2 h3).2.2 h1
theorem ino_bytes (l : List Int) : Bytes (inoR l).1 := by
  by_cases h : InoMay l
  · simp only [inoR_yes h]; exact inoSec_bytes l
  · simp only [inoR_no h]; exact bytes_zl _
theorem ptr_bytes (l : List Int) : Bytes (ptrR l).1 := by
  by_cases h : PtrMay l
  · simp only [ptrR_yes h]; exact ptrSecN_bytes l 32 (by omega)
  · simp only [ptrR_no h]; exact bytes_zl _

theorem pick_any (c : Int) (h0 : -9223372036854775808 ≤ c) (h1 : c ≤ 9223372036854775807) : ∃ k : Nat, k < 128 ∧ ∀ w : World, Calls Try.prog 30 #[.int .i64 c, .int .i64 128] w fun e w' => e = .returned (.int .i64 k) ∧ w = w' := by
  by_cases h : c < 0
  · refine ⟨((-(c + 1)) % 128).toNat, by omega, fun w => ?_⟩
    have d : decide (c < 0) = true := by simpa using h
    go_enter Try.func30, Try.ntmps30
    go_wp2_with fail
    go_ret
    have ht : (c + 1).tmod 128 = -((-(c + 1)) % 128) := by
      rw [← Int.tmod_eq_emod_of_nonneg (show 0 ≤ -(c + 1) by omega), Int.neg_tmod]; omega
    exact ⟨ret_int (by rw [ht]; omega), rfl⟩
  · refine ⟨(c % 128).toNat, by omega, fun w => ?_⟩
    have d : decide (c < 0) = false := by simpa using h
    go_enter Try.func30, Try.ntmps30
    go_wp2_with fail
    go_ret
    exact ⟨ret_int (by omega), rfl⟩
end Go.Proofs.Ythgiolofnkdfoaa
