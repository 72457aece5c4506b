/- The law's tags. -/
import Derived.Test.YtkhpifjhnkknbaaDoorSam
import Derived.Test.YtkhpifjhnkknbaaDoorNme
namespace Go.Proofs.YtkhpifjhnkknbaaDoor
set_option linter.unusedSimpArgs false
set_option linter.unusedVariables false
open Go.RowKit

def tg (i : Nat) : ByteArray := { data := #[109, UInt8.ofNat (65 + i)] }
theorem tag_conv (w : World) (b : UInt8) :
    (convert 42 9 (.slice (some ⟨w.heap.size, 0, none⟩) 1 1)).run Tryd.prog (w.alloc (.cells #[.int .u8 b.toNat] 5)) = .ok (.string ⟨#[b]⟩) (w.alloc (.cells #[.int .u8 b.toNat] 5)) := by
  have h := run_convert_bytes_back (P := Tryd.prog) (w.alloc (.cells #[.int .u8 b.toNat] 5)) 42 9 5 ⟨w.heap.size, 0, none⟩ 1 [b] Tryd.underlying42 Tryd.underlying5 Tryd.underlying9 (fun j hj => by
    have hj0 : j = 0 := by simpa using hj
    subst hj0
    have hadd : (⟨w.heap.size, 0, none⟩ : Addr).add 0 = ⟨w.heap.size, 0, none⟩ := by unfold Addr.add; split <;> simp_all
    rw [hadd, cell_hat (hopN w _).1]
    rfl)
  exact h
theorem tag_any (i : Nat) (hi : i < 5) (w : World) :
    Calls Tryd.prog 18 #[.int .i64 i] w fun e w' => e = .returned (.string (tg i)) ∧ Below w.heap.size w w' := by
  have hcase : i = 0 ∨ i = 1 ∨ i = 2 ∨ i = 3 ∨ i = 4 := by omega
  have c0 : (convert 42 9 (.slice (some ⟨w.heap.size, 0, none⟩) 1 1)).run Tryd.prog (w.alloc (.cells #[.int .u8 65] 5)) = .ok (.string ⟨#[65]⟩) (w.alloc (.cells #[.int .u8 65] 5)) := tag_conv w 65
  have c1 : (convert 42 9 (.slice (some ⟨w.heap.size, 0, none⟩) 1 1)).run Tryd.prog (w.alloc (.cells #[.int .u8 66] 5)) = .ok (.string ⟨#[66]⟩) (w.alloc (.cells #[.int .u8 66] 5)) := tag_conv w 66
  have c2 : (convert 42 9 (.slice (some ⟨w.heap.size, 0, none⟩) 1 1)).run Tryd.prog (w.alloc (.cells #[.int .u8 67] 5)) = .ok (.string ⟨#[67]⟩) (w.alloc (.cells #[.int .u8 67] 5)) := tag_conv w 67
  have c3 : (convert 42 9 (.slice (some ⟨w.heap.size, 0, none⟩) 1 1)).run Tryd.prog (w.alloc (.cells #[.int .u8 68] 5)) = .ok (.string ⟨#[68]⟩) (w.alloc (.cells #[.int .u8 68] 5)) := tag_conv w 68
  have c4 : (convert 42 9 (.slice (some ⟨w.heap.size, 0, none⟩) 1 1)).run Tryd.prog (w.alloc (.cells #[.int .u8 69] 5)) = .ok (.string ⟨#[69]⟩) (w.alloc (.cells #[.int .u8 69] 5)) := tag_conv w 69
  rcases hcase with rfl | rfl | rfl | rfl | rfl
  all_goals
    go_enter Tryd.func18, Tryd.ntmps18
    go_wp2_with fail
    go_ret
    exact ⟨by first | rfl | decide +kernel, (Below.refl _ _).alloc (Nat.le_refl _) _⟩
end Go.Proofs.YtkhpifjhnkknbaaDoor
