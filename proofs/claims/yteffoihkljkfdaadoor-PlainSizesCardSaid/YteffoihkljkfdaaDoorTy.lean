/- The whole loads and stores of this program's arrays and structs. -/
import Derived.Test.YteffoihkljkfdaaDoorRows
import Derived.Test.YteffoihkljkfdaaDoorBk
namespace Go.Proofs.YteffoihkljkfdaaDoor
set_option linter.unusedSimpArgs false
set_option linter.unusedVariables false
open Go.RowKit
theorem lv101 (a : Addr) : loadVar 101 a = Ld 128 101 a := rfl
theorem sv101 (a : Addr) (v : Value) : storeVar 101 a v = St 128 101 a v := rfl
theorem rl101 (g off : Nat) (w : World) : (Ld 128 101 ⟨g, off, none⟩).run Tryd.prog w = ldRow (rawL Tryd.prog 101 ⟨g, off, none⟩ w) 128 off w (hat w g) := run_Ld Tryd.underlying101 rfl (by kernel_rfl) g off w
theorem rs101 (g off : Nat) (cs : Array Value) (w : World) : (St 128 101 ⟨g, off, none⟩ (.agg cs)).run Tryd.prog w = stRow (rawS Tryd.prog 101 ⟨g, off, none⟩ (.agg cs) w) 128 off g cs w (hat w g) := run_St (by kernel_rfl) g off cs w
theorem row101 : RowTy Tryd.prog 101 128 := rowTy Tryd.underlying101 rfl (by kernel_rfl)
attribute [go_sem ↓] lv101 sv101
attribute [go_sem] rl101 rs101
def Zv101 : Sem Value := zeroValue 101
theorem zv101 : zeroValue 101 = Zv101 := rfl
theorem rz101 (w : World) : (Zv101).run Tryd.prog w = .ok (.agg (IV .u8 (zl 128))) w := by kernel_rfl
attribute [go_sem ↓] zv101
attribute [go_sem] rz101
def Bz101 : Sem Value := Instr.build 101 #[]
theorem bz101 : Instr.build 101 #[] = Bz101 := rfl
theorem rb101 (w : World) : (Bz101).run Tryd.prog w = .ok (.agg (IV .u8 (zl 128))) w := by kernel_rfl
attribute [go_sem ↓] bz101
attribute [go_sem] rb101
theorem celli : CellTy Tryd.prog 3 := cellTy Tryd.underlying3 rfl
theorem cells : CellTy Tryd.prog 9 := cellTy Tryd.underlying9 rfl
theorem sl_lo (g off : Nat) (x : Int) (h0 : 0 ≤ x) (h1 : x < 128) (w : World) :
    (Instr.sliceAt 101 (.pointer (some ⟨g, off, none⟩)) (some (.int .i64 x)) none none).run Tryd.prog w = .ok (.slice (some ⟨g, off + x.toNat, none⟩) (128 - x.toNat) (128 - x.toNat)) w :=
  run_sliceAt_lo Tryd.underlying101 (by kernel_rfl) g off x h0 h1 w
theorem sl_lohi (g off : Nat) (x y : Int) (h0 : 0 ≤ x) (h1 : x < 128) (h2 : x ≤ y) (h3 : y ≤ 128) (w : World) :
    (Instr.sliceAt 101 (.pointer (some ⟨g, off, none⟩)) (some (.int .i64 x)) (some (.int .i64 y)) none).run Tryd.prog w = .ok (.slice (some ⟨g, off + x.toNat, none⟩) (y.toNat - x.toNat) (128 - x.toNat)) w :=
  run_sliceAt_lohi Tryd.underlying101 (by kernel_rfl) g off x y h0 h1 h2 h3 w
theorem sl_hi (g off : Nat) (y : Int) (h2 : 0 ≤ y) (h3 : y ≤ 128) (w : World) :
    (Instr.sliceAt 101 (.pointer (some ⟨g, off, none⟩)) none (some (.int .i64 y)) none).run Tryd.prog w = .ok (.slice (some ⟨g, off, none⟩) y.toNat 128) w :=
  run_sliceAt_hi Tryd.underlying101 (by kernel_rfl) g off y (by omega) h2 h3 w
attribute [go_sem] sl_lo sl_lohi sl_hi
end Go.Proofs.YteffoihkljkfdaaDoor
