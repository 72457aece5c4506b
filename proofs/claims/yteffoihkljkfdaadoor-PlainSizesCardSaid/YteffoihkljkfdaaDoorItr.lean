/- Stepping over a text's runes; names. No program is named here but for its import. -/
import Derived.Test.YteffoihkljkfdaaDoorRows
import Derived.Test.YteffoihkljkfdaaDoorRg
import Derived.Test.YteffoihkljkfdaaDoorShelf
import Derived.Deep.LoopGhost
namespace Go.Proofs.YteffoihkljkfdaaDoor
set_option linter.unusedSimpArgs false
set_option linter.unusedVariables false
open Go.RowKit

theorem decode_wide (s : ByteArray) (pos : Nat) (h : pos < s.size) (ha : 128 ≤ (s[pos]'h).toNat) :
    ∀ j, j < (Utf8.decode s pos).2 → pos + j < s.size ∧ 128 ≤ (s.get! (pos + j)).toNat := by
  have hn : ¬ (s[pos]'h).toNat < 128 := by omega
  have g0 := get_at s pos h
  have c0 : pos + 0 < s.size ∧ 128 ≤ (s.get! (pos + 0)).toNat := ⟨by omega, by rw [g0]; exact ha⟩
  intro j hj
  simp only [Utf8.decode, g0, hn, if_false] at hj
  repeat' split at hj
  all_goals
    simp only [Bool.and_eq_true, decide_eq_true_eq, beq_iff_eq] at *
    by_cases j0 : j = 0
    · rw [j0]; exact c0
    by_cases j1 : j = 1
    · subst j1; omega
    by_cases j2 : j = 2
    · subst j2; omega
    by_cases j3 : j = 3
    · subst j3; omega
    omega

def iterAt (w : World) (b : Nat) (s : ByteArray) (p : Nat) : World := { w with heap := w.heap.setIfInBounds b (.stringIter s p) }
theorem run_next_hat {P : Program} (w : World) (b : Nat) (s : ByteArray) (pos : Nat) (ty : TypeId) (h : hat w b = some (.stringIter s pos)) (hp : pos < s.size) :
    (Instr.next (.pointer (some ⟨b, 0, none⟩)) true ty).run P w = .ok (.tuple #[.bool true, .int .i64 pos, .int .i32 (Utf8.decode s pos).1]) (iterAt w b s (pos + (Utf8.decode s pos).2)) := by
  have h' : w.heap[b]? = some (.stringIter s pos) := h
  simp only [Instr.next, getObj, setObj, Sem.run_bind, Sem.run, h', Result.andThen, hp, if_true]
  simp [goInt, iterAt]
theorem run_next_hat_end {P : Program} (w : World) (b : Nat) (s : ByteArray) (pos : Nat) (ty : TypeId) (h : hat w b = some (.stringIter s pos)) (hp : ¬ pos < s.size) :
    (Instr.next (.pointer (some ⟨b, 0, none⟩)) true ty).run P w = .ok (.tuple #[.bool false]) w := by
  have h' : w.heap[b]? = some (.stringIter s pos) := h
  simp [Instr.next, getObj, Sem.run, h', hp]
theorem hat_iterAt (w : World) (b : Nat) (s : ByteArray) (p : Nat) (h : b < w.heap.size) : hat (iterAt w b s p) b = some (.stringIter s p) := by
  show (w.heap.setIfInBounds b _)[b]? = _
  simp [h]
theorem below_iterAt {B : Nat} {a w : World} (h : Below B a w) {b : Nat} (hB : B ≤ b) (s : ByteArray) (p : Nat) : Below B a (iterAt w b s p) :=
  ⟨h.os, h.tape, h.output, by show a.heap.size ≤ (w.heap.setIfInBounds b _).size; rw [Array.size_setIfInBounds]; exact h.size,
   fun k hk => by
    show (w.heap.setIfInBounds b _)[k]? = _
    rw [Array.getElem?_setIfInBounds_ne (by omega)]
    exact h.block k hk⟩
theorem size_iterAt (w : World) (b : Nat) (s : ByteArray) (p : Nat) : (iterAt w b s p).heap.size = w.heap.size := by
  show (w.heap.setIfInBounds b _).size = _
  rw [Array.size_setIfInBounds]

def NameMay (l : List UInt8) : Prop := 1 ≤ l.length ∧ l.length ≤ 40 ∧ (∀ b ∈ l, b ≠ 0 ∧ b ≠ 47) ∧ l ≠ [46] ∧ l ≠ [46, 46]
instance (l : List UInt8) : Decidable (NameMay l) := by unfold NameMay; infer_instance

theorem len_data (s : ByteArray) : s.data.toList.length = s.size := (Lib.size_eq s).symm
theorem eqb {s : ByteArray} {l : List UInt8} {b : Bool} (h : (s.toList == l) = b) : (s.data.toList == l) = b := by rw [← Lib.toList_data]; exact h

end Go.Proofs.YteffoihkljkfdaaDoor
