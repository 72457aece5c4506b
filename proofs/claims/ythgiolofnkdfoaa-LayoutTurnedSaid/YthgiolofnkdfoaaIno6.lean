/- Inodes: the document's inodeMay. -/
import Derived.Test.YthgiolofnkdfoaaIno5
namespace Go.Proofs.Ythgiolofnkdfoaa
set_option linter.unusedSimpArgs false
set_option linter.unusedVariables false
open Go.RowKit

set_option maxRecDepth 100000 in
theorem rinodeMay_zero (l : List Int) (hl : l.length = 18) (h0 : nth l 0 = 0) (w : World) :
    Calls Try.prog 43 #[.agg (IV .i64 l)] w fun e w' => e = .returned (.bool (decide (l = zl 18))) ∧ Below w.heap.size w w' := by
  have d0 : (nth l 0 == 0) = true := by simpa using h0
  clear h0
  go_enter Try.func43, Try.ntmps43
  go_wp2_with fail
  go_ret
  exact ⟨rfl, (Below.refl _ _).alloc (Nat.le_refl _) _⟩

set_option maxHeartbeats 400000 in
set_option maxRecDepth 100000 in
theorem rinodeMay_kind (l : List Int) (hl : l.length = 18) (h0 : nth l 0 ≠ 0) (h1 : ¬ (1 ≤ nth l 0 ∧ nth l 0 ≤ 2)) (w : World) :
    Calls Try.prog 43 #[.agg (IV .i64 l)] w fun e w' => e = .returned (.bool false) ∧ Below w.heap.size w w' := by
  have d0 : (nth l 0 == 0) = false := by simpa using h0
  have d1 : (nth l 0 != 1) = true := by simp; omega
  have d2 : (nth l 0 != 2) = true := by simp; omega
  clear h0 h1
  go_enter Try.func43, Try.ntmps43
  go_wp2_with fail
  go_ret
  exact ⟨rfl, (Below.refl _ _).alloc (Nat.le_refl _) _⟩

set_option maxHeartbeats 400000 in
set_option maxRecDepth 100000 in
theorem rinodeMay_no10 (l : List Int) (hl : l.length = 18) (hk : nth l 0 = 1) (h1 : ¬ (0 ≤ nth l 1 ∧ nth l 1 ≤ 100)) (w : World) :
    Calls Try.prog 43 #[.agg (IV .i64 l)] w fun e w' => e = .returned (.bool false) ∧ Below w.heap.size w w' := by
  have d1 : (nth l 0 != 1) = false := by simp [hk]
  have d0 : (nth l 0 == 0) = false := by simp [hk]
  have H1 := Lib.hid h1
  clear hk h1
  go_enter Try.func43, Try.ntmps43
  go_wp2_with fail
  refine (rwithin_no _ _ _ _ H1.out).mono ?_; rintro e w' ⟨rfl, rfl⟩
  go_wp2_with fail
  go_ret
  exact ⟨rfl, (Below.refl _ _).alloc (Nat.le_refl _) _⟩

set_option maxHeartbeats 400000 in
set_option maxRecDepth 100000 in
theorem rinodeMay_no11 (l : List Int) (hl : l.length = 18) (hk : nth l 0 = 1) (h1 : 0 ≤ nth l 1 ∧ nth l 1 ≤ 100) (h2 : ¬ (0 ≤ nth l 2 ∧ nth l 2 ≤ 136704)) (w : World) :
    Calls Try.prog 43 #[.agg (IV .i64 l)] w fun e w' => e = .returned (.bool false) ∧ Below w.heap.size w w' := by
  have d1 : (nth l 0 != 1) = false := by simp [hk]
  have d0 : (nth l 0 == 0) = false := by simp [hk]
  have H1 := Lib.hid h1
  have H2 := Lib.hid h2
  clear hk h1 h2
  go_enter Try.func43, Try.ntmps43
  go_wp2_with fail
  refine (rwithin_yes _ _ _ _ H1.out).mono ?_; rintro e w' ⟨rfl, rfl⟩
  go_wp2_with fail
  refine (rwithin_no _ _ _ _ H2.out).mono ?_; rintro e w' ⟨rfl, rfl⟩
  go_wp2_with fail
  go_ret
  exact ⟨rfl, (Below.refl _ _).alloc (Nat.le_refl _) _⟩

set_option maxHeartbeats 400000 in
set_option maxRecDepth 100000 in
theorem rinodeMay_no12 (l : List Int) (hl : l.length = 18) (hk : nth l 0 = 1) (h1 : 0 ≤ nth l 1 ∧ nth l 1 ≤ 100) (h2 : 0 ≤ nth l 2 ∧ nth l 2 ≤ 136704) (h3 : ¬ (0 ≤ nth l 3 ∧ nth l 3 ≤ 1099511627776)) (w : World) :
    Calls Try.prog 43 #[.agg (IV .i64 l)] w fun e w' => e = .returned (.bool false) ∧ Below w.heap.size w w' := by
  have d1 : (nth l 0 != 1) = false := by simp [hk]
  have d0 : (nth l 0 == 0) = false := by simp [hk]
  have H1 := Lib.hid h1
  have H2 := Lib.hid h2
  have H3 := Lib.hid h3
  clear hk h1 h2 h3
  go_enter Try.func43, Try.ntmps43
  go_wp2_with fail
  refine (rwithin_yes _ _ _ _ H1.out).mono ?_; rintro e w' ⟨rfl, rfl⟩
  go_wp2_with fail
  refine (rwithin_yes _ _ _ _ H2.out).mono ?_; rintro e w' ⟨rfl, rfl⟩
  go_wp2_with fail
  refine (rwithin_no _ _ _ _ H3.out).mono ?_; rintro e w' ⟨rfl, rfl⟩
  go_wp2_with fail
  go_ret
  exact ⟨rfl, (Below.refl _ _).alloc (Nat.le_refl _) _⟩

set_option maxHeartbeats 400000 in
set_option maxRecDepth 100000 in
theorem rinodeMay_no20 (l : List Int) (hl : l.length = 18) (hk : nth l 0 = 2) (h1 : ¬ (0 ≤ nth l 1 ∧ nth l 1 ≤ 100)) (w : World) :
    Calls Try.prog 43 #[.agg (IV .i64 l)] w fun e w' => e = .returned (.bool false) ∧ Below w.heap.size w w' := by
  have d1 : (nth l 0 != 1) = true := by simp [hk]
  have d2 : (nth l 0 != 2) = false := by simp [hk]
  have d0 : (nth l 0 == 0) = false := by simp [hk]
  have H1 := Lib.hid h1
  clear hk h1
  go_enter Try.func43, Try.ntmps43
  go_wp2_with fail
  refine (rwithin_no _ _ _ _ H1.out).mono ?_; rintro e w' ⟨rfl, rfl⟩
  go_wp2_with fail
  go_ret
  exact ⟨rfl, (Below.refl _ _).alloc (Nat.le_refl _) _⟩

set_option maxHeartbeats 400000 in
set_option maxRecDepth 100000 in
theorem rinodeMay_no21 (l : List Int) (hl : l.length = 18) (hk : nth l 0 = 2) (h1 : 0 ≤ nth l 1 ∧ nth l 1 ≤ 100) (h2 : ¬ (0 ≤ nth l 2 ∧ nth l 2 ≤ 136704)) (w : World) :
    Calls Try.prog 43 #[.agg (IV .i64 l)] w fun e w' => e = .returned (.bool false) ∧ Below w.heap.size w w' := by
  have d1 : (nth l 0 != 1) = true := by simp [hk]
  have d2 : (nth l 0 != 2) = false := by simp [hk]
  have d0 : (nth l 0 == 0) = false := by simp [hk]
  have H1 := Lib.hid h1
  have H2 := Lib.hid h2
  clear hk h1 h2
  go_enter Try.func43, Try.ntmps43
  go_wp2_with fail
  refine (rwithin_yes _ _ _ _ H1.out).mono ?_; rintro e w' ⟨rfl, rfl⟩
  go_wp2_with fail
  refine (rwithin_no _ _ _ _ H2.out).mono ?_; rintro e w' ⟨rfl, rfl⟩
  go_wp2_with fail
  go_ret
  exact ⟨rfl, (Below.refl _ _).alloc (Nat.le_refl _) _⟩

set_option maxHeartbeats 400000 in
set_option maxRecDepth 100000 in
theorem rinodeMay_no22 (l : List Int) (hl : l.length = 18) (hk : nth l 0 = 2) (h1 : 0 ≤ nth l 1 ∧ nth l 1 ≤ 100) (h2 : 0 ≤ nth l 2 ∧ nth l 2 ≤ 136704) (h3 : ¬ (0 ≤ nth l 3 ∧ nth l 3 ≤ 1099511627776)) (w : World) :
    Calls Try.prog 43 #[.agg (IV .i64 l)] w fun e w' => e = .returned (.bool false) ∧ Below w.heap.size w w' := by
  have d1 : (nth l 0 != 1) = true := by simp [hk]
  have d2 : (nth l 0 != 2) = false := by simp [hk]
  have d0 : (nth l 0 == 0) = false := by simp [hk]
  have H1 := Lib.hid h1
  have H2 := Lib.hid h2
  have H3 := Lib.hid h3
  clear hk h1 h2 h3
  go_enter Try.func43, Try.ntmps43
  go_wp2_with fail
  refine (rwithin_yes _ _ _ _ H1.out).mono ?_; rintro e w' ⟨rfl, rfl⟩
  go_wp2_with fail
  refine (rwithin_yes _ _ _ _ H2.out).mono ?_; rintro e w' ⟨rfl, rfl⟩
  go_wp2_with fail
  refine (rwithin_no _ _ _ _ H3.out).mono ?_; rintro e w' ⟨rfl, rfl⟩
  go_wp2_with fail
  go_ret
  exact ⟨rfl, (Below.refl _ _).alloc (Nat.le_refl _) _⟩

set_option maxHeartbeats 1000000 in
set_option maxRecDepth 100000 in
theorem rinodeMay_else1 (l : List Int) (hl : l.length = 18) (hk : nth l 0 = 1) (h1 : 0 ≤ nth l 1 ∧ nth l 1 ≤ 100) (h2 : 0 ≤ nth l 2 ∧ nth l 2 ≤ 136704) (h3 : 0 ≤ nth l 3 ∧ nth l 3 ≤ 1099511627776) (b : Bool) (hb : b = true ↔ (∀ j, 4 ≤ j → j < 18 → 0 ≤ nth l j ∧ nth l j ≤ 4294967295)) (w : World) :
    Calls Try.prog 43 #[.agg (IV .i64 l)] w fun e w' => e = .returned (.bool b) ∧ Below w.heap.size w w' := by
  have d1 : (nth l 0 != 1) = false := by simp [hk]
  have d0 : (nth l 0 == 0) = false := by simp [hk]
  have d3 : (nth l 0 == 2) = false := by simp [hk]
  have H1 := Lib.hid h1
  have H2 := Lib.hid h2
  have H3 := Lib.hid h3
  have HB := Lib.hid hb
  have hz : 0 ≤ nth l 2 := h2.1
  clear hk hb h1 h2 h3
  have hbw := (Below.refl w.heap.size w).alloc (Nat.le_refl _) (.cells (IV .i64 l) 43)
  have HBW := Lib.hid hbw
  clear hbw
  go_enter Try.func43, Try.ntmps43
  go_wp2_with fail
  refine (rwithin_yes _ _ _ _ H1.out).mono ?_; rintro e w' ⟨rfl, rfl⟩
  go_wp2_with fail
  refine (rwithin_yes _ _ _ _ H2.out).mono ?_; rintro e w' ⟨rfl, rfl⟩
  go_wp2_with fail
  refine (rwithin_yes _ _ _ _ H3.out).mono ?_; rintro e w' ⟨rfl, rfl⟩
  go_wp2_with fail
  go_loop [3] (fun i => ∃ k : Nat, k ≤ 12 ∧ i = .int .i64 k ∧ ∀ j, 4 ≤ j → j < 4 + k → 0 ≤ nth l j ∧ nth l j ≤ 4294967295) (fun i => 12 - (intOf i).toNat)
  case atStart => exact ⟨0, by omega, rfl, fun j _ hj => by omega⟩
  case round =>
    obtain ⟨k, hk, rfl, hok⟩ := hrel
    have HOK := Lib.hid hok
    clear hok
    by_cases hkw : k < 12
    · have hkl : 4 + k < 18 := by omega
      by_cases hp : 0 ≤ nth l (4 + k) ∧ nth l (4 + k) ≤ 4294967295
      · have HP := Lib.hid hp
        clear hp
        go_wp2_with fail
        refine (rwithin_yes _ _ _ _ HP.out).mono ?_; rintro e w' ⟨rfl, rfl⟩
        go_wp2_with fail
        go_round
        case rel =>
          refine ⟨k + 1, by omega, by go_num, fun j h1 hj => ?_⟩
          by_cases hjk : j = 4 + k
          · subst hjk; exact HP.out
          · exact HOK.out j h1 (by omega)
        case measure => (show 12 - (k + 1) < 12 - k); omega
      · have HP := Lib.hid hp
        clear hp
        have hbf : b = false := bool_false HB.out (fun h => HP.out (h (4 + k) (by omega) (by omega)))
        have HBF := Lib.hid hbf
        clear hbf
        go_wp2_with fail
        refine (rwithin_no _ _ _ _ HP.out).mono ?_; rintro e w' ⟨rfl, rfl⟩
        go_wp2_with fail
        go_ret
        exact ⟨by rw [HBF.out]; rfl, HBW.out⟩
    · obtain rfl : k = 12 := by omega
      by_cases h16 : 0 ≤ nth l 16 ∧ nth l 16 ≤ 4294967295
      · have H16 := Lib.hid h16
        clear h16
        by_cases h17 : 0 ≤ nth l 17 ∧ nth l 17 ≤ 4294967295
        · have H17 := Lib.hid h17
          clear h17
          have hall : ∀ j, 4 ≤ j → j < 18 → 0 ≤ nth l j ∧ nth l j ≤ 4294967295 := by
            intro j h1 h2
            by_cases e16 : j = 16
            · subst e16; exact H16.out
            · by_cases e17 : j = 17
              · subst e17; exact H17.out
              · exact HOK.out j h1 (by omega)
          have hbf : b = true := bool_true HB.out hall
          have HBF := Lib.hid hbf
          clear hbf hall
          go_wp2_with fail
          refine (rwithin_yes _ _ _ _ H16.out).mono ?_; rintro e w' ⟨rfl, rfl⟩
          go_wp2_with fail
          refine (rwithin_yes _ _ _ _ H17.out).mono ?_; rintro e w' ⟨rfl, rfl⟩
          go_wp2_with fail
          go_ret
          exact ⟨by rw [HBF.out]; rfl, HBW.out⟩
        · have H17 := Lib.hid h17
          clear h17
          have hbf : b = false := bool_false HB.out (fun h => H17.out (h 17 (by omega) (by omega)))
          have HBF := Lib.hid hbf
          clear hbf
          go_wp2_with fail
          refine (rwithin_yes _ _ _ _ H16.out).mono ?_; rintro e w' ⟨rfl, rfl⟩
          go_wp2_with fail
          refine (rwithin_no _ _ _ _ H17.out).mono ?_; rintro e w' ⟨rfl, rfl⟩
          go_wp2_with fail
          go_ret
          exact ⟨by rw [HBF.out]; rfl, HBW.out⟩
      · have H16 := Lib.hid h16
        clear h16
        have hbf : b = false := bool_false HB.out (fun h => H16.out (h 16 (by omega) (by omega)))
        have HBF := Lib.hid hbf
        clear hbf
        go_wp2_with fail
        refine (rwithin_no _ _ _ _ H16.out).mono ?_; rintro e w' ⟨rfl, rfl⟩
        go_wp2_with fail
        go_ret
        exact ⟨by rw [HBF.out]; rfl, HBW.out⟩

set_option maxHeartbeats 1000000 in
set_option maxRecDepth 100000 in
theorem rinodeMay_else2 (l : List Int) (hl : l.length = 18) (hk : nth l 0 = 2) (h1 : 0 ≤ nth l 1 ∧ nth l 1 ≤ 100) (h2 : 0 ≤ nth l 2 ∧ nth l 2 ≤ 136704) (h3 : 0 ≤ nth l 3 ∧ nth l 3 ≤ 1099511627776) (b : Bool) (hb : b = true ↔ (∀ j, 4 ≤ j → j < 18 → 0 ≤ nth l j ∧ nth l j ≤ 4294967295) ∧ nth l 2 % 128 = 0) (w : World) :
    Calls Try.prog 43 #[.agg (IV .i64 l)] w fun e w' => e = .returned (.bool b) ∧ Below w.heap.size w w' := by
  have d1 : (nth l 0 != 1) = true := by simp [hk]
  have d2 : (nth l 0 != 2) = false := by simp [hk]
  have d0 : (nth l 0 == 0) = false := by simp [hk]
  have d3 : (nth l 0 == 2) = true := by simp [hk]
  have H1 := Lib.hid h1
  have H2 := Lib.hid h2
  have H3 := Lib.hid h3
  have HB := Lib.hid hb
  have hz : 0 ≤ nth l 2 := h2.1
  clear hk hb h1 h2 h3
  have hbw := (Below.refl w.heap.size w).alloc (Nat.le_refl _) (.cells (IV .i64 l) 43)
  have HBW := Lib.hid hbw
  clear hbw
  by_cases hm : nth l 2 % 128 = 0
  rotate_left
  · have dm : (nth l 2 % 128 != 0) = true := by simp [hm]
    have hbf : b = false := bool_false HB.out (fun h => hm h.2)
    have HBF := Lib.hid hbf
    clear hbf hm
    go_enter Try.func43, Try.ntmps43
    go_wp2_with fail
    refine (rwithin_yes _ _ _ _ H1.out).mono ?_; rintro e w' ⟨rfl, rfl⟩
    go_wp2_with fail
    refine (rwithin_yes _ _ _ _ H2.out).mono ?_; rintro e w' ⟨rfl, rfl⟩
    go_wp2_with fail
    refine (rwithin_yes _ _ _ _ H3.out).mono ?_; rintro e w' ⟨rfl, rfl⟩
    go_wp2_with fail
    go_ret
    exact ⟨by rw [HBF.out]; rfl, HBW.out⟩
  have dm : (nth l 2 % 128 != 0) = false := by simp [hm]
  have HM := Lib.hid hm
  clear hm
  go_enter Try.func43, Try.ntmps43
  go_wp2_with fail
  refine (rwithin_yes _ _ _ _ H1.out).mono ?_; rintro e w' ⟨rfl, rfl⟩
  go_wp2_with fail
  refine (rwithin_yes _ _ _ _ H2.out).mono ?_; rintro e w' ⟨rfl, rfl⟩
  go_wp2_with fail
  refine (rwithin_yes _ _ _ _ H3.out).mono ?_; rintro e w' ⟨rfl, rfl⟩
  go_wp2_with fail
  go_loop [3] (fun i => ∃ k : Nat, k ≤ 12 ∧ i = .int .i64 k ∧ ∀ j, 4 ≤ j → j < 4 + k → 0 ≤ nth l j ∧ nth l j ≤ 4294967295) (fun i => 12 - (intOf i).toNat)
  case atStart => exact ⟨0, by omega, rfl, fun j _ hj => by omega⟩
  case round =>
    obtain ⟨k, hk, rfl, hok⟩ := hrel
    have HOK := Lib.hid hok
    clear hok
    by_cases hkw : k < 12
    · have hkl : 4 + k < 18 := by omega
      by_cases hp : 0 ≤ nth l (4 + k) ∧ nth l (4 + k) ≤ 4294967295
      · have HP := Lib.hid hp
        clear hp
        go_wp2_with fail
        refine (rwithin_yes _ _ _ _ HP.out).mono ?_; rintro e w' ⟨rfl, rfl⟩
        go_wp2_with fail
        go_round
        case rel =>
          refine ⟨k + 1, by omega, by go_num, fun j h1 hj => ?_⟩
          by_cases hjk : j = 4 + k
          · subst hjk; exact HP.out
          · exact HOK.out j h1 (by omega)
        case measure => (show 12 - (k + 1) < 12 - k); omega
      · have HP := Lib.hid hp
        clear hp
        have hbf : b = false := bool_false HB.out (fun h => HP.out (h.1 (4 + k) (by omega) (by omega)))
        have HBF := Lib.hid hbf
        clear hbf
        go_wp2_with fail
        refine (rwithin_no _ _ _ _ HP.out).mono ?_; rintro e w' ⟨rfl, rfl⟩
        go_wp2_with fail
        go_ret
        exact ⟨by rw [HBF.out]; rfl, HBW.out⟩
    · obtain rfl : k = 12 := by omega
      by_cases h16 : 0 ≤ nth l 16 ∧ nth l 16 ≤ 4294967295
      · have H16 := Lib.hid h16
        clear h16
        by_cases h17 : 0 ≤ nth l 17 ∧ nth l 17 ≤ 4294967295
        · have H17 := Lib.hid h17
          clear h17
          have hall : ∀ j, 4 ≤ j → j < 18 → 0 ≤ nth l j ∧ nth l j ≤ 4294967295 := by
            intro j h1 h2
            by_cases e16 : j = 16
            · subst e16; exact H16.out
            · by_cases e17 : j = 17
              · subst e17; exact H17.out
              · exact HOK.out j h1 (by omega)
          have hbf : b = true := bool_true HB.out ⟨hall, HM.out⟩
          have HBF := Lib.hid hbf
          clear hbf hall
          go_wp2_with fail
          refine (rwithin_yes _ _ _ _ H16.out).mono ?_; rintro e w' ⟨rfl, rfl⟩
          go_wp2_with fail
          refine (rwithin_yes _ _ _ _ H17.out).mono ?_; rintro e w' ⟨rfl, rfl⟩
          go_wp2_with fail
          go_ret
          exact ⟨by rw [HBF.out]; rfl, HBW.out⟩
        · have H17 := Lib.hid h17
          clear h17
          have hbf : b = false := bool_false HB.out (fun h => H17.out (h.1 17 (by omega) (by omega)))
          have HBF := Lib.hid hbf
          clear hbf
          go_wp2_with fail
          refine (rwithin_yes _ _ _ _ H16.out).mono ?_; rintro e w' ⟨rfl, rfl⟩
          go_wp2_with fail
          refine (rwithin_no _ _ _ _ H17.out).mono ?_; rintro e w' ⟨rfl, rfl⟩
          go_wp2_with fail
          go_ret
          exact ⟨by rw [HBF.out]; rfl, HBW.out⟩
      · have H16 := Lib.hid h16
        clear h16
        have hbf : b = false := bool_false HB.out (fun h => H16.out (h.1 16 (by omega) (by omega)))
        have HBF := Lib.hid hbf
        clear hbf
        go_wp2_with fail
        refine (rwithin_no _ _ _ _ H16.out).mono ?_; rintro e w' ⟨rfl, rfl⟩
        go_wp2_with fail
        go_ret
        exact ⟨by rw [HBF.out]; rfl, HBW.out⟩

theorem rinodeMay_any (l : List Int) (hl : l.length = 18) (b : Bool) (hb : b = true ↔ InoMay l) (w : World) :
    Calls Try.prog 43 #[.agg (IV .i64 l)] w fun e w' => e = .returned (.bool b) ∧ Below w.heap.size w w' := by
  by_cases h0 : nth l 0 = 0
  · rw [inoMay_zero h0] at hb
    refine (rinodeMay_zero l hl h0 w).mono fun e w' ⟨he, hw⟩ => ⟨?_, hw⟩
    rw [he]
    congr 2
    rw [Bool.eq_iff_iff, hb]; simp
  · rw [inoMay_else h0] at hb
    by_cases h1 : 1 ≤ nth l 0 ∧ nth l 0 ≤ 2
    · have hk : nth l 0 = 1 ∨ nth l 0 = 2 := by omega
      by_cases h2 : 0 ≤ nth l 1 ∧ nth l 1 ≤ 100
      · by_cases h3 : 0 ≤ nth l 2 ∧ nth l 2 ≤ 136704
        · by_cases h4 : 0 ≤ nth l 3 ∧ nth l 3 ≤ 1099511627776
          · rcases hk with hk | hk
            · refine rinodeMay_else1 l hl hk h2 h3 h4 b ?_ w
              rw [hb]
              exact ⟨fun h => h.2.1, fun h => ⟨⟨h1, h2, h3, h4⟩, h, .inl hk⟩⟩
            · refine rinodeMay_else2 l hl hk h2 h3 h4 b ?_ w
              rw [hb]
              exact ⟨fun h => ⟨h.2.1, h.2.2.elim (fun h => by omega) id⟩, fun h => ⟨⟨h1, h2, h3, h4⟩, h.1, .inr h.2⟩⟩
          · rw [bool_false hb (fun h => h4 h.1.2.2.2)]
            rcases hk with hk | hk
            · exact rinodeMay_no12 l hl hk h2 h3 h4 w
            · exact rinodeMay_no22 l hl hk h2 h3 h4 w
        · rw [bool_false hb (fun h => h3 h.1.2.2.1)]
          rcases hk with hk | hk
          · exact rinodeMay_no11 l hl hk h2 h3 w
          · exact rinodeMay_no21 l hl hk h2 h3 w
      · rw [bool_false hb (fun h => h2 h.1.2.1)]
        rcases hk with hk | hk
        · exact rinodeMay_no10 l hl hk h2 w
        · exact rinodeMay_no20 l hl hk h2 w
    · rw [bool_false hb (fun h => h1 h.1.1)]; exact rinodeMay_kind l hl h0 h1 w
end Go.Proofs.Ythgiolofnkdfoaa
