/- Inodes: their sector. -/
import Derived.Test.YthgiolofnkdfoaaIno3
namespace Go.Proofs.Ythgiolofnkdfoaa
set_option linter.unusedSimpArgs false
set_option linter.unusedVariables false
open Go.RowKit

theorem ptrs_ok (l : List Int) (hl : l.length = 18) : (∀ j, j < 14 → 0 ≤ nth (ptrs l) j ∧ nth (ptrs l) j ≤ 4294967295) ↔ (∀ j, 4 ≤ j → j < 18 → 0 ≤ nth l j ∧ nth l j ≤ 4294967295) := by
  have e0 : nth (ptrs l) 0 = nth l 16 := rfl
  have e1 : nth (ptrs l) 1 = nth l 17 := rfl
  have e2 : ∀ j, j < 12 → nth (ptrs l) (j + 2) = nth l (j + 4) := by
    intro j hj
    simp only [ptrs, nth, List.getElem?_cons_succ, List.getElem?_take, if_pos hj, List.getElem?_drop, Nat.add_comm 4 j]
  constructor
  · intro h j h1 h2
    by_cases h16 : j = 16
    · subst h16; rw [← e0]; exact h 0 (by omega)
    · by_cases h17 : j = 17
      · subst h17; rw [← e1]; exact h 1 (by omega)
      · have := h (j - 4 + 2) (by omega)
        rw [e2 (j - 4) (by omega), show j - 4 + 4 = j by omega] at this
        exact this
  · intro h j hj
    match j with
    | 0 => rw [e0]; exact h 16 (by omega) (by omega)
    | 1 => rw [e1]; exact h 17 (by omega) (by omega)
    | j + 2 => rw [e2 j (by omega)]; exact h (j + 4) (by omega) (by omega)

theorem linodeMay_any (l : List Int) (hl : l.length = 18) (b : Bool) (hb : b = true ↔ InoMay l) (w : World) :
    Calls Try.prog 41 #[.agg (IV .i64 l)] w fun e w' => e = .returned (.bool b) ∧ Below w.heap.size w w' := by
  by_cases h0 : nth l 0 = 0
  · rw [inoMay_zero h0] at hb
    refine (linodeMay_zero l hl h0 w).mono fun e w' ⟨he, hw⟩ => ⟨?_, hw⟩
    rw [he]
    congr 2
    rw [Bool.eq_iff_iff, hb]; simp
  · rw [inoMay_else h0] at hb
    by_cases h1 : 1 ≤ nth l 0 ∧ nth l 0 ≤ 2
    · by_cases h2 : 0 ≤ nth l 1 ∧ nth l 1 ≤ 100
      · by_cases h3 : 0 ≤ nth l 2 ∧ nth l 2 ≤ 136704
        · by_cases h4 : 0 ≤ nth l 3 ∧ nth l 3 ≤ 1099511627776
          · refine linodeMay_else l hl h0 h1 h2 h3 h4 b ?_ w
            rw [hb, ptrs_ok l hl]
            exact ⟨fun h => h.2, fun h => ⟨⟨h1, h2, h3, h4⟩, h⟩⟩
          · rw [bool_false hb (fun h => h4 h.1.2.2.2)]; exact linodeMay_no3 l hl h0 h1 h2 h3 h4 w
        · rw [bool_false hb (fun h => h3 h.1.2.2.1)]; exact linodeMay_no2 l hl h0 h1 h2 h3 w
      · rw [bool_false hb (fun h => h2 h.1.2.1)]; exact linodeMay_no1 l hl h0 h1 h2 w
    · rw [bool_false hb (fun h => h1 h.1.1)]; exact linodeMay_no0 l hl h0 h1 w

-- the closures of the table
theorem fld1 (x : Nat) (w : World) : Calls Try.prog 48 #[.pointer (some ⟨x, 0, none⟩)] w fun e w' => e = .returned (.pointer (some ⟨x, 0, none⟩)) ∧ Below w.heap.size w w' := by
  go_enter Try.func48, Try.ntmps48
  go_wp2_with fail
  go_ret
  exact ⟨rfl, Below.refl _ _⟩
theorem fld2 (x : Nat) (w : World) : Calls Try.prog 49 #[.pointer (some ⟨x, 0, none⟩)] w fun e w' => e = .returned (.pointer (some ⟨x, 1, none⟩)) ∧ Below w.heap.size w w' := by
  go_enter Try.func49, Try.ntmps49
  go_wp2_with fail
  go_ret
  exact ⟨rfl, Below.refl _ _⟩
theorem fld3 (x : Nat) (w : World) : Calls Try.prog 50 #[.pointer (some ⟨x, 0, none⟩)] w fun e w' => e = .returned (.pointer (some ⟨x, 2, none⟩)) ∧ Below w.heap.size w w' := by
  go_enter Try.func50, Try.ntmps50
  go_wp2_with fail
  go_ret
  exact ⟨rfl, Below.refl _ _⟩
theorem fld4 (x : Nat) (w : World) : Calls Try.prog 51 #[.pointer (some ⟨x, 0, none⟩)] w fun e w' => e = .returned (.pointer (some ⟨x, 3, none⟩)) ∧ Below w.heap.size w w' := by
  go_enter Try.func51, Try.ntmps51
  go_wp2_with fail
  go_ret
  exact ⟨rfl, Below.refl _ _⟩
theorem fld5 (x : Nat) (w : World) : Calls Try.prog 52 #[.pointer (some ⟨x, 0, none⟩)] w fun e w' => e = .returned (.pointer (some ⟨x, 16, none⟩)) ∧ Below w.heap.size w w' := by
  go_enter Try.func52, Try.ntmps52
  go_wp2_with fail
  go_ret
  exact ⟨rfl, Below.refl _ _⟩
theorem fld6 (x : Nat) (w : World) : Calls Try.prog 53 #[.pointer (some ⟨x, 0, none⟩)] w fun e w' => e = .returned (.pointer (some ⟨x, 17, none⟩)) ∧ Below w.heap.size w w' := by
  go_enter Try.func53, Try.ntmps53
  go_wp2_with fail
  go_ret
  exact ⟨rfl, Below.refl _ _⟩
theorem fld7 (x c : Nat) (i : Nat) (hi : i < 12) (w : World) (hc : hat w c = some (.cells #[.int .i64 i] 3)) :
    Calls Try.prog 54 #[.pointer (some ⟨x, 0, none⟩), .pointer (some ⟨c, 0, none⟩)] w fun e w' => e = .returned (.pointer (some ⟨x, 4 + i, none⟩)) ∧ Below w.heap.size w w' := by
  have hi' : (i : Int) < 12 := by omega
  go_enter Try.func54, Try.ntmps54
  go_wp2_with fail
  go_quiet (fail)
  go_wp2_with fail
  go_ret
  exact ⟨rfl, below_drewN (Below.refl _ _) _⟩

/-- the fields' tables: what each is asked for -/
theorem fFn_call (c : Nat → Nat) (j : Nat) (hj : j < 18) (x : Nat) (w : World) (hc : ∀ j, j < 12 → hat w (c j) = some (.cells #[.int .i64 j] 3)) :
    ∃ f args, (∀ (ρ : Operand → Value) (t u : Tmp) (ats : Array TypeId) (ty : TypeId) (pos : String) (after : Array Edge) (d : Option Tmp), ρ (.tmp t) = fFn c j → ρ (.tmp u) = .pointer (some ⟨x, 0, none⟩) →
      (execOp ρ { dst := d, op := .call { callee := .value (.tmp t), args := #[.tmp u], argTypes := ats }, type := ty, pos := pos, after := after, guard := none }).run Try.prog w = .ok (.enter f args) w) ∧
      Calls Try.prog f args w fun e w' => e = .returned (.pointer (some ⟨x, fCell j, none⟩)) ∧ Below w.heap.size w w' := by
  match j, hj with
  | 0, _ => exact ⟨48, #[.pointer (some ⟨x, 0, none⟩)], fun ρ t u ats ty pos after d h1 h2 => by simp only [fFn] at h1; simp [go_sem, h1, h2], fld1 x w⟩
  | 1, _ => exact ⟨49, #[.pointer (some ⟨x, 0, none⟩)], fun ρ t u ats ty pos after d h1 h2 => by simp only [fFn] at h1; simp [go_sem, h1, h2], fld2 x w⟩
  | 2, _ => exact ⟨50, #[.pointer (some ⟨x, 0, none⟩)], fun ρ t u ats ty pos after d h1 h2 => by simp only [fFn] at h1; simp [go_sem, h1, h2], fld3 x w⟩
  | 3, _ => exact ⟨51, #[.pointer (some ⟨x, 0, none⟩)], fun ρ t u ats ty pos after d h1 h2 => by simp only [fFn] at h1; simp [go_sem, h1, h2], fld4 x w⟩
  | 4, _ => exact ⟨52, #[.pointer (some ⟨x, 0, none⟩)], fun ρ t u ats ty pos after d h1 h2 => by simp only [fFn] at h1; simp [go_sem, h1, h2], fld5 x w⟩
  | 5, _ => exact ⟨53, #[.pointer (some ⟨x, 0, none⟩)], fun ρ t u ats ty pos after d h1 h2 => by simp only [fFn] at h1; simp [go_sem, h1, h2], fld6 x w⟩
  | j + 6, hj => exact ⟨54, #[.pointer (some ⟨x, 0, none⟩), .pointer (some ⟨c j, 0, none⟩)], fun ρ t u ats ty pos after d h1 h2 => by simp only [fFn] at h1; simp [go_sem, h1, h2], fld7 x (c j) j (by omega) w (hc j (by omega))⟩
end Go.Proofs.Ythgiolofnkdfoaa
