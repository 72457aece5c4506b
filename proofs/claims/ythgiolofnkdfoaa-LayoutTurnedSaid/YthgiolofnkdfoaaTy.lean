/- The whole loads and stores of this program's arrays and structs. -/
import Derived.Test.YthgiolofnkdfoaaRows
import Derived.Test.YthgiolofnkdfoaaBk
namespace Go.Proofs.Ythgiolofnkdfoaa
set_option linter.unusedSimpArgs false
set_option linter.unusedVariables false
open Go.RowKit
theorem lv25 (a : Addr) : loadVar 25 a = Ld 128 25 a := rfl
theorem sv25 (a : Addr) (v : Value) : storeVar 25 a v = St 128 25 a v := rfl
theorem rl25 (g off : Nat) (w : World) : (Ld 128 25 ⟨g, off, none⟩).run Try.prog w = ldRow (rawL Try.prog 25 ⟨g, off, none⟩ w) 128 off w (hat w g) := run_Ld Try.underlying25 rfl (by kernel_rfl) g off w
theorem rs25 (g off : Nat) (cs : Array Value) (w : World) : (St 128 25 ⟨g, off, none⟩ (.agg cs)).run Try.prog w = stRow (rawS Try.prog 25 ⟨g, off, none⟩ (.agg cs) w) 128 off g cs w (hat w g) := run_St (by kernel_rfl) g off cs w
theorem row25 : RowTy Try.prog 25 128 := rowTy Try.underlying25 rfl (by kernel_rfl)
attribute [go_sem ↓] lv25 sv25
attribute [go_sem] rl25 rs25
def Zv25 : Sem Value := zeroValue 25
theorem zv25 : zeroValue 25 = Zv25 := rfl
theorem rz25 (w : World) : (Zv25).run Try.prog w = .ok (.agg (IV .u8 (zl 128))) w := by kernel_rfl
attribute [go_sem ↓] zv25
attribute [go_sem] rz25
def Bz25 : Sem Value := Instr.build 25 #[]
theorem bz25 : Instr.build 25 #[] = Bz25 := rfl
theorem rb25 (w : World) : (Bz25).run Try.prog w = .ok (.agg (IV .u8 (zl 128))) w := by kernel_rfl
attribute [go_sem ↓] bz25
attribute [go_sem] rb25
theorem lv23 (a : Addr) : loadVar 23 a = Ld 2 23 a := rfl
theorem sv23 (a : Addr) (v : Value) : storeVar 23 a v = St 2 23 a v := rfl
theorem rl23 (g off : Nat) (w : World) : (Ld 2 23 ⟨g, off, none⟩).run Try.prog w = ldRow (rawL Try.prog 23 ⟨g, off, none⟩ w) 2 off w (hat w g) := run_Ld Try.underlying23 rfl (by kernel_rfl) g off w
theorem rs23 (g off : Nat) (cs : Array Value) (w : World) : (St 2 23 ⟨g, off, none⟩ (.agg cs)).run Try.prog w = stRow (rawS Try.prog 23 ⟨g, off, none⟩ (.agg cs) w) 2 off g cs w (hat w g) := run_St (by kernel_rfl) g off cs w
theorem row23 : RowTy Try.prog 23 2 := rowTy Try.underlying23 rfl (by kernel_rfl)
attribute [go_sem ↓] lv23 sv23
attribute [go_sem] rl23 rs23
theorem lv34 (a : Addr) : loadVar 34 a = Ld 2 34 a := rfl
theorem sv34 (a : Addr) (v : Value) : storeVar 34 a v = St 2 34 a v := rfl
theorem rl34 (g off : Nat) (w : World) : (Ld 2 34 ⟨g, off, none⟩).run Try.prog w = ldRow (rawL Try.prog 34 ⟨g, off, none⟩ w) 2 off w (hat w g) := run_Ld Try.underlying34 rfl (by kernel_rfl) g off w
theorem rs34 (g off : Nat) (cs : Array Value) (w : World) : (St 2 34 ⟨g, off, none⟩ (.agg cs)).run Try.prog w = stRow (rawS Try.prog 34 ⟨g, off, none⟩ (.agg cs) w) 2 off g cs w (hat w g) := run_St (by kernel_rfl) g off cs w
theorem row34 : RowTy Try.prog 34 2 := rowTy Try.underlying34 rfl (by kernel_rfl)
attribute [go_sem ↓] lv34 sv34
attribute [go_sem] rl34 rs34
theorem lv43 (a : Addr) : loadVar 43 a = Ld 18 43 a := rfl
theorem sv43 (a : Addr) (v : Value) : storeVar 43 a v = St 18 43 a v := rfl
theorem rl43 (g off : Nat) (w : World) : (Ld 18 43 ⟨g, off, none⟩).run Try.prog w = ldRow (rawL Try.prog 43 ⟨g, off, none⟩ w) 18 off w (hat w g) := run_Ld Try.underlying43 rfl (by kernel_rfl) g off w
theorem rs43 (g off : Nat) (cs : Array Value) (w : World) : (St 18 43 ⟨g, off, none⟩ (.agg cs)).run Try.prog w = stRow (rawS Try.prog 43 ⟨g, off, none⟩ (.agg cs) w) 18 off g cs w (hat w g) := run_St (by kernel_rfl) g off cs w
theorem row43 : RowTy Try.prog 43 18 := rowTy Try.underlying43 rfl (by kernel_rfl)
attribute [go_sem ↓] lv43 sv43
attribute [go_sem] rl43 rs43
def Zv43 : Sem Value := zeroValue 43
theorem zv43 : zeroValue 43 = Zv43 := rfl
theorem rz43 (w : World) : (Zv43).run Try.prog w = .ok (.agg (IV .i64 (zl 18))) w := by kernel_rfl
attribute [go_sem ↓] zv43
attribute [go_sem] rz43
def Bz43 : Sem Value := Instr.build 43 #[]
theorem bz43 : Instr.build 43 #[] = Bz43 := rfl
theorem rb43 (w : World) : (Bz43).run Try.prog w = .ok (.agg (IV .i64 (zl 18))) w := by kernel_rfl
attribute [go_sem ↓] bz43
attribute [go_sem] rb43
theorem lv49 (a : Addr) : loadVar 49 a = Ld 32 49 a := rfl
theorem sv49 (a : Addr) (v : Value) : storeVar 49 a v = St 32 49 a v := rfl
theorem rl49 (g off : Nat) (w : World) : (Ld 32 49 ⟨g, off, none⟩).run Try.prog w = ldRow (rawL Try.prog 49 ⟨g, off, none⟩ w) 32 off w (hat w g) := run_Ld Try.underlying49 rfl (by kernel_rfl) g off w
theorem rs49 (g off : Nat) (cs : Array Value) (w : World) : (St 32 49 ⟨g, off, none⟩ (.agg cs)).run Try.prog w = stRow (rawS Try.prog 49 ⟨g, off, none⟩ (.agg cs) w) 32 off g cs w (hat w g) := run_St (by kernel_rfl) g off cs w
theorem row49 : RowTy Try.prog 49 32 := rowTy Try.underlying49 rfl (by kernel_rfl)
attribute [go_sem ↓] lv49 sv49
attribute [go_sem] rl49 rs49
def Zv49 : Sem Value := zeroValue 49
theorem zv49 : zeroValue 49 = Zv49 := rfl
theorem rz49 (w : World) : (Zv49).run Try.prog w = .ok (.agg (IV .i64 (zl 32))) w := by kernel_rfl
attribute [go_sem ↓] zv49
attribute [go_sem] rz49
def Bz49 : Sem Value := Instr.build 49 #[]
theorem bz49 : Instr.build 49 #[] = Bz49 := rfl
theorem rb49 (w : World) : (Bz49).run Try.prog w = .ok (.agg (IV .i64 (zl 32))) w := by kernel_rfl
attribute [go_sem ↓] bz49
attribute [go_sem] rb49
theorem lv41 (a : Addr) : loadVar 41 a = Ld 12 41 a := rfl
theorem sv41 (a : Addr) (v : Value) : storeVar 41 a v = St 12 41 a v := rfl
theorem rl41 (g off : Nat) (w : World) : (Ld 12 41 ⟨g, off, none⟩).run Try.prog w = ldRow (rawL Try.prog 41 ⟨g, off, none⟩ w) 12 off w (hat w g) := run_Ld Try.underlying41 rfl (by kernel_rfl) g off w
theorem rs41 (g off : Nat) (cs : Array Value) (w : World) : (St 12 41 ⟨g, off, none⟩ (.agg cs)).run Try.prog w = stRow (rawS Try.prog 41 ⟨g, off, none⟩ (.agg cs) w) 12 off g cs w (hat w g) := run_St (by kernel_rfl) g off cs w
theorem row41 : RowTy Try.prog 41 12 := rowTy Try.underlying41 rfl (by kernel_rfl)
attribute [go_sem ↓] lv41 sv41
attribute [go_sem] rl41 rs41
def Zv41 : Sem Value := zeroValue 41
theorem zv41 : zeroValue 41 = Zv41 := rfl
theorem rz41 (w : World) : (Zv41).run Try.prog w = .ok (.agg (IV .i64 (zl 12))) w := by kernel_rfl
attribute [go_sem ↓] zv41
attribute [go_sem] rz41
def Bz41 : Sem Value := Instr.build 41 #[]
theorem bz41 : Instr.build 41 #[] = Bz41 := rfl
theorem rb41 (w : World) : (Bz41).run Try.prog w = .ok (.agg (IV .i64 (zl 12))) w := by kernel_rfl
attribute [go_sem ↓] bz41
attribute [go_sem] rb41
theorem lv70 (a : Addr) : loadVar 70 a = Ld 3 70 a := rfl
theorem sv70 (a : Addr) (v : Value) : storeVar 70 a v = St 3 70 a v := rfl
theorem rl70 (g off : Nat) (w : World) : (Ld 3 70 ⟨g, off, none⟩).run Try.prog w = ldRow (rawL Try.prog 70 ⟨g, off, none⟩ w) 3 off w (hat w g) := run_Ld Try.underlying70 rfl (by kernel_rfl) g off w
theorem rs70 (g off : Nat) (cs : Array Value) (w : World) : (St 3 70 ⟨g, off, none⟩ (.agg cs)).run Try.prog w = stRow (rawS Try.prog 70 ⟨g, off, none⟩ (.agg cs) w) 3 off g cs w (hat w g) := run_St (by kernel_rfl) g off cs w
theorem row70 : RowTy Try.prog 70 3 := rowTy Try.underlying70 rfl (by kernel_rfl)
attribute [go_sem ↓] lv70 sv70
attribute [go_sem] rl70 rs70
theorem cellf : CellTy Try.prog 68 := cellTy Try.underlying68 rfl
theorem celli : CellTy Try.prog 3 := cellTy Try.underlying3 rfl
theorem cells : CellTy Try.prog 9 := cellTy Try.underlying9 rfl
theorem sl_lo (g off : Nat) (x : Int) (h0 : 0 ≤ x) (h1 : x < 128) (w : World) :
    (Instr.sliceAt 25 (.pointer (some ⟨g, off, none⟩)) (some (.int .i64 x)) none none).run Try.prog w = .ok (.slice (some ⟨g, off + x.toNat, none⟩) (128 - x.toNat) (128 - x.toNat)) w :=
  run_sliceAt_lo Try.underlying25 (by kernel_rfl) g off x h0 h1 w
theorem sl_lohi (g off : Nat) (x y : Int) (h0 : 0 ≤ x) (h1 : x < 128) (h2 : x ≤ y) (h3 : y ≤ 128) (w : World) :
    (Instr.sliceAt 25 (.pointer (some ⟨g, off, none⟩)) (some (.int .i64 x)) (some (.int .i64 y)) none).run Try.prog w = .ok (.slice (some ⟨g, off + x.toNat, none⟩) (y.toNat - x.toNat) (128 - x.toNat)) w :=
  run_sliceAt_lohi Try.underlying25 (by kernel_rfl) g off x y h0 h1 h2 h3 w
theorem sl_hi (g off : Nat) (y : Int) (h2 : 0 ≤ y) (h3 : y ≤ 128) (w : World) :
    (Instr.sliceAt 25 (.pointer (some ⟨g, off, none⟩)) none (some (.int .i64 y)) none).run Try.prog w = .ok (.slice (some ⟨g, off, none⟩) y.toNat 128) w :=
  run_sliceAt_hi Try.underlying25 (by kernel_rfl) g off y (by omega) h2 h3 w
attribute [go_sem] sl_lo sl_lohi sl_hi
end Go.Proofs.Ythgiolofnkdfoaa
