/- The whole loads and stores of this program's structs. -/
import Derived.Test.YteffoihkljkfdaaDoorTy
namespace Go.Proofs.YteffoihkljkfdaaDoor
set_option linter.unusedSimpArgs false
set_option linter.unusedVariables false
open Go.RowKit
theorem lv37 (a : Addr) : loadVar 37 a = Ld 10 37 a := rfl
theorem sv37 (a : Addr) (v : Value) : storeVar 37 a v = St 10 37 a v := rfl
theorem rl37 (g off : Nat) (w : World) : (Ld 10 37 ⟨g, off, none⟩).run Tryd.prog w = ldRow (rawL Tryd.prog 37 ⟨g, off, none⟩ w) 10 off w (hat w g) := run_Ld Tryd.underlying37 rfl (by kernel_rfl) g off w
theorem rs37 (g off : Nat) (cs : Array Value) (w : World) : (St 10 37 ⟨g, off, none⟩ (.agg cs)).run Tryd.prog w = stRow (rawS Tryd.prog 37 ⟨g, off, none⟩ (.agg cs) w) 10 off g cs w (hat w g) := run_St (by kernel_rfl) g off cs w
theorem row37 : RowTy Tryd.prog 37 10 := rowTy Tryd.underlying37 rfl (by kernel_rfl)
attribute [go_sem ↓] lv37 sv37
attribute [go_sem] rl37 rs37
theorem lv33 (a : Addr) : loadVar 33 a = Ld 6 33 a := rfl
theorem sv33 (a : Addr) (v : Value) : storeVar 33 a v = St 6 33 a v := rfl
theorem rl33 (g off : Nat) (w : World) : (Ld 6 33 ⟨g, off, none⟩).run Tryd.prog w = ldRow (rawL Tryd.prog 33 ⟨g, off, none⟩ w) 6 off w (hat w g) := run_Ld Tryd.underlying33 rfl (by kernel_rfl) g off w
theorem rs33 (g off : Nat) (cs : Array Value) (w : World) : (St 6 33 ⟨g, off, none⟩ (.agg cs)).run Tryd.prog w = stRow (rawS Tryd.prog 33 ⟨g, off, none⟩ (.agg cs) w) 6 off g cs w (hat w g) := run_St (by kernel_rfl) g off cs w
theorem row33 : RowTy Tryd.prog 33 6 := rowTy Tryd.underlying33 rfl (by kernel_rfl)
attribute [go_sem ↓] lv33 sv33
attribute [go_sem] rl33 rs33
theorem lv74 (a : Addr) : loadVar 74 a = Ld 7 74 a := rfl
theorem sv74 (a : Addr) (v : Value) : storeVar 74 a v = St 7 74 a v := rfl
theorem rl74 (g off : Nat) (w : World) : (Ld 7 74 ⟨g, off, none⟩).run Tryd.prog w = ldRow (rawL Tryd.prog 74 ⟨g, off, none⟩ w) 7 off w (hat w g) := run_Ld Tryd.underlying74 rfl (by kernel_rfl) g off w
theorem rs74 (g off : Nat) (cs : Array Value) (w : World) : (St 7 74 ⟨g, off, none⟩ (.agg cs)).run Tryd.prog w = stRow (rawS Tryd.prog 74 ⟨g, off, none⟩ (.agg cs) w) 7 off g cs w (hat w g) := run_St (by kernel_rfl) g off cs w
theorem row74 : RowTy Tryd.prog 74 7 := rowTy Tryd.underlying74 rfl (by kernel_rfl)
attribute [go_sem ↓] lv74 sv74
attribute [go_sem] rl74 rs74
theorem lv40 (a : Addr) : loadVar 40 a = Ld 8 40 a := rfl
theorem sv40 (a : Addr) (v : Value) : storeVar 40 a v = St 8 40 a v := rfl
theorem rl40 (g off : Nat) (w : World) : (Ld 8 40 ⟨g, off, none⟩).run Tryd.prog w = ldRow (rawL Tryd.prog 40 ⟨g, off, none⟩ w) 8 off w (hat w g) := run_Ld Tryd.underlying40 rfl (by kernel_rfl) g off w
theorem rs40 (g off : Nat) (cs : Array Value) (w : World) : (St 8 40 ⟨g, off, none⟩ (.agg cs)).run Tryd.prog w = stRow (rawS Tryd.prog 40 ⟨g, off, none⟩ (.agg cs) w) 8 off g cs w (hat w g) := run_St (by kernel_rfl) g off cs w
theorem row40 : RowTy Tryd.prog 40 8 := rowTy Tryd.underlying40 rfl (by kernel_rfl)
attribute [go_sem ↓] lv40 sv40
attribute [go_sem] rl40 rs40
theorem row42 : RowTy Tryd.prog 42 3 := rowTy Tryd.underlying42 rfl (by kernel_rfl)
end Go.Proofs.YteffoihkljkfdaaDoor
