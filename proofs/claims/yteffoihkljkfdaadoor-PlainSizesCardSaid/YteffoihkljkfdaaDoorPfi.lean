/- uses; fine: up to the letters. -/
import Derived.Test.YteffoihkljkfdaaDoorPne
namespace Go.Proofs.YteffoihkljkfdaaDoor
set_option linter.unusedSimpArgs false
set_option linter.unusedVariables false
open Go.RowKit Go.Maps

def i32ok (p : Int) : Prop := -2147483648 ≤ p ∧ p ≤ 2147483647
theorem i32wf {p : Int} (h : i32ok p) : (Lit.int .i32 p).wf = true := by
  unfold i32ok at h
  simp [Lit.wf, IntKind.min, IntKind.max, IntKind.signed, IntKind.bits]; omega
theorem i32wf_ok {p : Int} (h : (Lit.int .i32 p).wf = true) : i32ok p := by
  unfold i32ok
  simp [Lit.wf, IntKind.min, IntKind.max, IntKind.signed, IntKind.bits] at h; omega
def kRune : KE 21 Int where
  kv := Value.int .i32
  kl := Lit.int .i32
  ok := i32ok
  K := int_keyed Tryd.underlying21
  key := fun h => keyOf_int_mk Tryd.underlying21 (i32wf h)
  inj := fun h => by injection h
  inv := fun {v l} h => by
    obtain ⟨x, rfl, rfl, hx⟩ := keyOf_int_inv Tryd.underlying21 h
    exact ⟨x, i32wf_ok hx, rfl, rfl⟩
/-- which fields a kind uses -/
def usesZ (k : Int) : ByteArray :=
  ByteArray.mk (if k = 1 ∨ k = 2 then #[112, 109] else if k = 3 ∨ k = 6 then #[112, 116] else if k = 4 ∨ k = 5 ∨ k = 10 ∨ k = 11 ∨ k = 13 then #[112] else if k = 7 then #[112, 111, 100] else if k = 8 then #[112, 111] else if k = 9 then #[112, 111, 108] else if k = 14 then #[102] else #[])
set_option maxHeartbeats 8000000 in
set_option maxRecDepth 100000 in
theorem uses_any {w : World} {k : Int} (h : 1 ≤ k ∧ k ≤ 14) : Calls Tryd.prog 42 #[.int .i64 k] w fun e w' => e = .returned (.string (usesZ k)) ∧ Below w.heap.size w w' := by
  have hk : k = 1 ∨ k = 2 ∨ k = 3 ∨ k = 4 ∨ k = 5 ∨ k = 6 ∨ k = 7 ∨ k = 8 ∨ k = 9 ∨ k = 10 ∨ k = 11 ∨ k = 12 ∨ k = 13 ∨ k = 14 := by omega
  clear h
  rcases hk with rfl | rfl | rfl | rfl | rfl | rfl | rfl | rfl | rfl | rfl | rfl | rfl | rfl | rfl
  all_goals
    go_enter Tryd.func42, Tryd.ntmps42
    go_wp2_with fail
    go_ret
    exact ⟨rfl, (Below.refl _ _).alloc (Nat.le_refl _) _⟩
theorem usesZ_ascii (k : Int) (j : Nat) (hj : j < (usesZ k).size) : ((usesZ k)[j]'hj).toNat < 128 := by
  have key : ∀ b ∈ (usesZ k).data.toList, b.toNat < 128 := by
    unfold usesZ
    repeat' split
    all_goals (intro b hb; revert b hb; decide)
  refine key _ ?_
  exact List.getElem_mem (l := (usesZ k).data.toList) (n := j) (by simpa using hj)
/-- the first letters of a text -/
def lets (s : ByteArray) (i : Nat) (r : Int) : Bool := (s.data.toList.take i).any fun b => (b.toNat : Int) == r
theorem lets_succ {s : ByteArray} {i : Nat} {x : UInt8} (hx : s.data.toList[i]? = some x) (r : Int) : lets s (i + 1) r = (lets s i r || ((x.toNat : Int) == r)) := by
  unfold lets
  rw [List.take_add_one, hx]
  simp
def runeM (f : Int → Bool) : Int → Option Value := fun r => if f r = true then some (.bool true) else none
end Go.Proofs.YteffoihkljkfdaaDoor
