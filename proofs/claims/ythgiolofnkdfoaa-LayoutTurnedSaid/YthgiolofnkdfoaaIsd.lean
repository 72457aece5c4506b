/- IsData of both sides, and the laws' pick. -/
import Derived.Test.YthgiolofnkdfoaaSlo4
namespace Go.Proofs.Ythgiolofnkdfoaa
set_option linter.unusedSimpArgs false
set_option linter.unusedVariables false
open Go.RowKit

def isD (x y n : Int) : Bool := decide (y < n ∧ n < x)

set_option maxHeartbeats 1000000 in
theorem lisData_any (x y n : Int) (w : World) :
    Calls Try.prog 20 #[.agg #[.int .i64 x, .int .i64 y], .int .i64 n] w fun e w' => e = .returned (.bool (isD x y n)) ∧ Below w.heap.size w w' := by
  cases h1 : decide (y < n)
  all_goals cases h2 : decide (n < x)
  all_goals
    go_enter Try.func20, Try.ntmps20
    go_wp2_with fail
    go_ret
    refine ⟨ret_bool ?_, (Below.refl _ _).alloc (Nat.le_refl _) _⟩
    simp at h1 h2 ⊢
    simp [isD, h1, h2]
    try omega

set_option maxHeartbeats 1000000 in
theorem risData_any (x y n : Int) (w : World) :
    Calls Try.prog 21 #[.agg #[.int .i64 x, .int .i64 y], .int .i64 n] w fun e w' => e = .returned (.bool (isD x y n)) ∧ Below w.heap.size w w' := by
  cases h1 : decide (y < n)
  all_goals cases h2 : decide (n < x)
  all_goals
    go_enter Try.func21, Try.ntmps21
    go_wp2_with fail
    go_ret
    refine ⟨ret_bool ?_, (Below.refl _ _).alloc (Nat.le_refl _) _⟩
    simp at h1 h2 ⊢
    simp [isD, h1, h2]
    try omega

end Go.Proofs.Ythgiolofnkdfoaa
