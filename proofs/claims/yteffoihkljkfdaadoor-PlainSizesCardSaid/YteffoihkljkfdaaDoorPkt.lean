/- The law's own example: plain. -/
import Derived.Test.YteffoihkljkfdaaDoorPdi
namespace Go.Proofs.YteffoihkljkfdaaDoor
set_option linter.unusedSimpArgs false
set_option linter.unusedVariables false
open Go.RowKit
set_option maxRecDepth 100000
set_option maxHeartbeats 4000000
theorem kR1_eq : kR1.2 = ⟨0, ⟨2, 1, 1, 0, 5, 0⟩, [], []⟩ := by kernel_rfl
theorem kR2_code : kR2.2.code = 0 := by kernel_rfl
theorem kR3_eq : kR3.2 = ⟨0, Sta.zero, [0, 0, 120, 121, 122], []⟩ := by kernel_rfl
theorem kR4_code : kR4.2.code = 113 := by kernel_rfl
theorem kR4_room : kR4.1.free = 29 ∧ kR4.1.left = 6 := ⟨by kernel_rfl, by kernel_rfl⟩
end Go.Proofs.YteffoihkljkfdaaDoor
