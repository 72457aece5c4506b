/- Each sector is one of three: the law's walk. -/
import Derived.Test.YthgiolofnkdfoaaUni
namespace Go.Proofs.Ythgiolofnkdfoaa
set_option linter.unusedSimpArgs false
set_option linter.unusedVariables false
open Go.RowKit

/-- how many numbers of data lie below n -/
def dataIs (x y n d : Int) : Prop := (n ≤ y + 1 → d = 0) ∧ (y + 1 ≤ n → n ≤ x → d = n - (y + 1)) ∧ (x ≤ n → d = x - (y + 1))
theorem dataIs_in {x y n d : Int} (h : dataIs x y n d) (h1 : y < n) (h2 : n < x) : dataIs x y (n + 1) (d + 1) := by
  unfold dataIs at *; omega
theorem dataIs_out {x y n d : Int} (h : dataIs x y n d) (h1 : ¬ (y < n ∧ n < x)) (h2 : y + 2 ≤ x) : dataIs x y (n + 1) d := by
  unfold dataIs at *; omega
theorem dataIs_small {x y n d : Int} (h : dataIs x y n d) (h1 : y + 2 ≤ x) (h2 : x ≤ 4096) (h3 : 1 ≤ y) : 0 ≤ d ∧ d ≤ 4096 := by
  unfold dataIs at *; omega

theorem isData_yes (x y n : Int) (w : World) (h : y < n ∧ n < x) :
    Calls Try.prog 20 #[.agg #[.int .i64 x, .int .i64 y], .int .i64 n] w fun e w' => e = .returned (.bool true) ∧ Below w.heap.size w w' := by
  have := lisData_any x y n w
  rwa [show isD x y n = true by simp [isD, h]] at this
theorem isData_no (x y n : Int) (w : World) (h : ¬ (y < n ∧ n < x)) :
    Calls Try.prog 20 #[.agg #[.int .i64 x, .int .i64 y], .int .i64 n] w fun e w' => e = .returned (.bool false) ∧ Below w.heap.size w w' := by
  have := lisData_any x y n w
  rwa [show isD x y n = false by unfold isD; exact decide_eq_false h] at this

set_option maxHeartbeats 1000000 in
set_option maxRecDepth 100000 in
theorem layoutParts_any (x y : Int) (w : World) (hx : In64 x) (hy : In64 y) :
    Calls Try.prog 5 #[.agg #[.int .i64 x, .int .i64 y]] w fun e w' => e = .returned (.bool true) ∧ Below w.heap.size w w' := by
  have HX := Lib.hid hx
  have HY := Lib.hid hy
  clear hx hy
  by_cases hm : SupMay x y
  · have HM := Lib.hid hm
    obtain ⟨⟨q1, q2⟩, ⟨q3, q4⟩, q5⟩ := hm
    go_enter Try.func5, Try.ntmps5
    go_wp2_with fail
    have hbw := (Below.refl w.heap.size w).alloc (Nat.le_refl _) (.cells #[.int .i64 x, .int .i64 y] 34)
    have f1 : hat (w.alloc (.cells #[.int .i64 x, .int .i64 y] 34)) w.heap.size = some (.cells #[.int .i64 x, .int .i64 y] 34) := by simp [go_sem]
    generalize w.alloc (.cells #[.int .i64 x, .int .i64 y] 34) = w1 at *
    refine (known_true _).mono ?_; rintro e w2 ⟨rfl, hb2⟩
    have hbw := below_call hbw hb2 hbw.size
    obtain ⟨f1, z1⟩ := hop hb2 f1
    clear hb2
    go_wp2_with fail
    refine (superSector_ok _ _ _ HM.out).mono ?_; rintro e w3 ⟨rfl, hb2⟩
    have hbw := below_call hbw hb2 hbw.size
    obtain ⟨f1, z1⟩ := hop hb2 f1
    have hsl := supSec_length x y
    clear hb2
    go_wp2_with fail
    have hbw := below_new hbw hbw.size (.cells (IV .u8 (supSec x y)) 25)
    obtain ⟨f1, z1⟩ := hopA w3 (.cells (IV .u8 (supSec x y)) 25) f1
    generalize w3.alloc (.cells (IV .u8 (supSec x y)) 25) = w4 at *
    go_loopw [6, 7] (fun d i wr => ∃ (k : Nat) (D : Int), (k : Int) ≤ x + 4 ∧ i = .int .i64 (-2 + k) ∧ d = .int .i64 D ∧ dataIs x y (-2 + k) D ∧ hat wr w.heap.size = some (.cells #[.int .i64 x, .int .i64 y] 34) ∧ Below w.heap.size w wr) (fun _ i _ => (x + 2 - intOf i).toNat)
    case atStart => exact ⟨0, 0, by omega, by simp, rfl, by unfold dataIs; omega, f1, hbw⟩
    case round =>
      clear f1 hbw z1
      obtain ⟨k, D, hk, rfl, rfl, hD, f1, hbw⟩ := hrel
      have HD := Lib.hid hD
      obtain ⟨d0, d1⟩ := dataIs_small hD q5 q2 q3
      by_cases hkw : (k : Int) < x + 4
      · by_cases hin : y < -2 + (k : Int) ∧ -2 + (k : Int) < x
        · have HN := Lib.hid hin
          obtain ⟨n1, n2⟩ := hin
          clear hD
          go_wp2_with fail
          refine (isData_yes x y (-2 + (k : Int)) _ HN.out).mono ?_; rintro e w5 ⟨rfl, hb2⟩
          have hbw := below_call hbw hb2 hbw.size
          obtain ⟨f1, z1⟩ := hop hb2 f1
          clear hb2
          go_wp2_with fail
          go_roundw
          case rel => exact ⟨k + 1, D + 1, by omega, by (first | go_num | (congr 1; omega)), rfl, by (have h := dataIs_in HD.out n1 n2; rwa [show -2 + ((k + 1 : Nat) : Int) = -2 + (k : Int) + 1 by omega]), f1, hbw⟩
          case measure => (show (x + 2 - (-2 + (k : Int) + 1)).toNat < (x + 2 - (-2 + (k : Int))).toNat); omega
        · have HN := Lib.hid hin
          clear hin hD
          go_wp2_with fail
          refine (isData_no x y (-2 + (k : Int)) _ HN.out).mono ?_; rintro e w5 ⟨rfl, hb2⟩
          have hbw := below_call hbw hb2 hbw.size
          obtain ⟨f1, z1⟩ := hop hb2 f1
          clear hb2
          go_wp2_with fail
          go_roundw
          case rel => exact ⟨k + 1, D, by omega, by (first | go_num | (congr 1; omega)), rfl, by (have h := dataIs_out HD.out HN.out q5; rwa [show -2 + ((k + 1 : Nat) : Int) = -2 + (k : Int) + 1 by omega]), f1, hbw⟩
          case measure => (show (x + 2 - (-2 + (k : Int) + 1)).toNat < (x + 2 - (-2 + (k : Int))).toNat); omega
      · have hD3 := hD.2.2 (by omega)
        clear hD HD
        go_wp2_with fail
        go_ret
        exact ⟨ret_bool (a := 1 + y + (x - (y + 1)) == x) (by simp; omega), hbw⟩
  · go_enter Try.func5, Try.ntmps5
    have HM := Lib.hid hm
    clear hm
    go_wp2_with fail
    have hbw := (Below.refl w.heap.size w).alloc (Nat.le_refl _) (.cells #[.int .i64 x, .int .i64 y] 34)
    have f1 : hat (w.alloc (.cells #[.int .i64 x, .int .i64 y] 34)) w.heap.size = some (.cells #[.int .i64 x, .int .i64 y] 34) := by simp [go_sem]
    generalize w.alloc (.cells #[.int .i64 x, .int .i64 y] 34) = w1 at *
    refine (known_true _).mono ?_; rintro e w2 ⟨rfl, hb2⟩
    have hbw := below_call hbw hb2 hbw.size
    obtain ⟨f1, z1⟩ := hop hb2 f1
    clear hb2
    go_wp2_with fail
    refine (superSector_no _ _ _ HM.out HX.out.2 HY.out.2 HX.out.1 HY.out.1).mono ?_; rintro e w3 ⟨rfl, hb2⟩
    have hbw := below_call hbw hb2 hbw.size
    clear hb2
    go_wp2_with fail
    go_ret
    exact ⟨rfl, below_new hbw hbw.size _⟩
end Go.Proofs.Ythgiolofnkdfoaa
