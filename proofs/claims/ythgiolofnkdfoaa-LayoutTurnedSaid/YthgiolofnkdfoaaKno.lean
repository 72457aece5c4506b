/- The document's examples: numbers. -/
import Derived.Test.YthgiolofnkdfoaaIsd
namespace Go.Proofs.Ythgiolofnkdfoaa
set_option linter.unusedSimpArgs false
set_option linter.unusedVariables false
open Go.RowKit

theorem kn_sup1 : getB (supSec 64 16) 4 4 = 64 := by decide +kernel
theorem kn_sup2 : getB (supSec 64 16) 8 4 = 16 := by decide +kernel
theorem kn_may : SupMay 64 16 := by unfold SupMay; omega
theorem kn_read : rdSuperV (supSec 64 16) = .tuple #[.agg #[.int .i64 64, .int .i64 16], .int .i64 0] := by
  unfold rdSuperV
  rw [kn_sup1, kn_sup2, if_pos ⟨kn_may, rfl⟩]
def abS : ByteArray := { data := #[97, 98] }
theorem kn_smay : SlotMay 7 abS := by decide +kernel
theorem kn_slot : slotR 7 abS = (slotSec 7 abS, 0) := by
  unfold slotR
  rw [if_neg (by omega), if_pos kn_smay]
theorem kn_nm : rdNm (slotSec 7 abS) = abS := by decide +kernel
theorem kn_ino : getB (slotSec 7 abS) 0 4 = 7 := by decide +kernel
theorem kn_rslot : rdSlotV (slotSec 7 abS) = .tuple #[.agg #[.int .i64 7, .string abS], .int .i64 0] := by
  unfold rdSlotV
  rw [kn_nm, kn_ino, if_pos kn_slot]
end Go.Proofs.Ythgiolofnkdfoaa
