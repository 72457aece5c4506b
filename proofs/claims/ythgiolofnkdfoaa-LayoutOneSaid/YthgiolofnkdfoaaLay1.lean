/- Layout: within, superMay, splice. -/
import Derived.Test.YthgiolofnkdfoaaSec
namespace Go.Proofs.Ythgiolofnkdfoaa
set_option linter.unusedSimpArgs false
set_option linter.unusedVariables false
open Go.RowKit

set_option maxHeartbeats 400000 in
set_option maxRecDepth 100000 in
theorem splice_ok (s bs : List Int) (hs : s.length = 128) (a g cap : Nat) (t : TypeId) (fr : Nat × Nat) (src : List Int) (w : World) (hg : hat w g = some (.cells (IV .u8 src) t fr)) (hsrc : ∀ j, j < bs.length → src[j]? = bs[j]?)
    (h0 : 0 < bs.length) (ha : a + bs.length ≤ 128) :
    Calls Try.prog 33 #[.agg (IV .u8 s), .int .i64 a, .slice (some ⟨g, 0, none⟩) bs.length cap] w fun e w' => e = .returned (.tuple #[.agg (IV .u8 (putL s a bs)), .int .i64 0]) ∧ Below w.heap.size w w' := by
  have hgl := hat_lt hg
  go_enter Try.func33, Try.ntmps33
  go_wp2_with fail
  refine (swithin_yes _ _ _ (by omega) (by omega) (by omega)).mono ?_; rintro e w' ⟨rfl, rfl⟩
  have hgw : hat ((w.alloc (.cells (IV .u8 s) 25)).alloc (.cells (IV .u8 (zl 128)) 25)) g = some (.cells (IV .u8 src) t fr) := by
    rw [hat_alloc_past _ _ _ (by simp only [World.size_alloc]; omega), hat_alloc_past _ _ _ hgl, hg]
  have hsw : hat ((w.alloc (.cells (IV .u8 s) 25)).alloc (.cells (IV .u8 (zl 128)) 25)) w.heap.size = some (.cells (IV .u8 s) 25) := by
    rw [hat_alloc_past _ _ _ (by simp only [World.size_alloc]; omega), hat_alloc_at _ _ _ rfl]
  have ha2 : (a : Int) < 128 := by omega
  clear hg
  go_wp2_with (refine wpList_copy_IV rfl (.tmp 15) (.tmp 16) 59 59 rfl 5 Try.underlying59 (by kernel_rfl) w.heap.size a (128 - a) (128 - a) g 0 bs.length cap rfl rfl .u8 s src bs 25 t fr hsw hgw ?_ ?_ ?_ ?_)
  · simp only [Nat.min_def]; split <;> omega
  · intro j hj; rw [Nat.zero_add]; exact hsrc j hj
  · omega
  · refine ret_ct row25 rfl (cs := IV .u8 (putL s a bs)) rfl (hat_alloc_at _ _ _ (by simp)) (by simp [hs, ha]) rfl ⟨rfl, ?_⟩
    exact ((Below.refl _ _).alloc (Nat.le_refl _) _).alloc (by simp) _

theorem rwithin_any (n lo hi : Int) (w : World) :
    Calls Try.prog 35 #[.int .i64 n, .int .i64 lo, .int .i64 hi] w fun e w' => e = .returned (.bool (decide (lo ≤ n ∧ n ≤ hi))) ∧ w = w' := by
  go_enter Try.func35, Try.ntmps35
  go_wp2
  all_goals
    go_ret
    exact ⟨ret_bool (by simp [*] <;> omega), rfl⟩

theorem lwithin_yes (n lo hi : Int) (w : World) (h : lo ≤ n ∧ n ≤ hi) :
    Calls Try.prog 31 #[.int .i64 n, .int .i64 lo, .int .i64 hi] w fun e w' => e = .returned (.bool true) ∧ w = w' :=
  (lwithin_any n lo hi w).mono fun e w' ⟨he, hw⟩ => ⟨by rw [he]; simp [h], hw⟩
theorem lwithin_no (n lo hi : Int) (w : World) (h : ¬ (lo ≤ n ∧ n ≤ hi)) :
    Calls Try.prog 31 #[.int .i64 n, .int .i64 lo, .int .i64 hi] w fun e w' => e = .returned (.bool false) ∧ w = w' :=
  (lwithin_any n lo hi w).mono fun e w' ⟨he, hw⟩ => ⟨by rw [he]; simp only [decide_eq_false h], hw⟩
theorem rwithin_yes (n lo hi : Int) (w : World) (h : lo ≤ n ∧ n ≤ hi) :
    Calls Try.prog 35 #[.int .i64 n, .int .i64 lo, .int .i64 hi] w fun e w' => e = .returned (.bool true) ∧ w = w' :=
  (rwithin_any n lo hi w).mono fun e w' ⟨he, hw⟩ => ⟨by rw [he]; simp [h], hw⟩
theorem rwithin_no (n lo hi : Int) (w : World) (h : ¬ (lo ≤ n ∧ n ≤ hi)) :
    Calls Try.prog 35 #[.int .i64 n, .int .i64 lo, .int .i64 hi] w fun e w' => e = .returned (.bool false) ∧ w = w' :=
  (rwithin_any n lo hi w).mono fun e w' ⟨he, hw⟩ => ⟨by rw [he]; simp only [decide_eq_false h], hw⟩

/-- may a super be -/
def SupMay (x y : Int) : Prop := (8 ≤ x ∧ x ≤ 4096) ∧ (1 ≤ y ∧ y ≤ 512) ∧ y + 2 ≤ x

set_option maxHeartbeats 400000 in
theorem superMay_yes (x y : Int) (w : World) (h : SupMay x y) :
    Calls Try.prog 40 #[.agg #[.int .i64 x, .int .i64 y]] w fun e w' => e = .returned (.bool true) ∧ Below w.heap.size w w' := by
  obtain ⟨h1, h2, h3⟩ := h
  have H1 := Lib.hid h1
  have H2 := Lib.hid h2
  obtain ⟨a1, a2⟩ := h1
  obtain ⟨b1, b2⟩ := h2
  go_enter Try.func40, Try.ntmps40
  go_wp2_with fail
  refine (lwithin_yes _ _ _ _ H1.out).mono ?_; rintro e w' ⟨rfl, rfl⟩
  go_wp2_with fail
  refine (lwithin_yes _ _ _ _ H2.out).mono ?_; rintro e w' ⟨rfl, rfl⟩
  go_wp2_with fail
  go_ret
  exact ⟨rfl, (Below.refl _ _).alloc (Nat.le_refl _) _⟩
set_option maxHeartbeats 400000 in
theorem superMay_no (x y : Int) (w : World) (h : ¬ SupMay x y) (hx : x ≤ 9223372036854775807) (hy : y ≤ 9223372036854775807) (hx' : -9223372036854775808 ≤ x) (hy' : -9223372036854775808 ≤ y) :
    Calls Try.prog 40 #[.agg #[.int .i64 x, .int .i64 y]] w fun e w' => e = .returned (.bool false) ∧ Below w.heap.size w w' := by
  by_cases h1 : 8 ≤ x ∧ x ≤ 4096
  · by_cases h2 : 1 ≤ y ∧ y ≤ 512
    · have h3 : x < y + 2 := by
        false_or_by_contra
        exact h ⟨h1, h2, by omega⟩
      have H1 := Lib.hid h1
      have H2 := Lib.hid h2
      clear h
      obtain ⟨a1, a2⟩ := h1
      obtain ⟨b1, b2⟩ := h2
      go_enter Try.func40, Try.ntmps40
      go_wp2_with fail
      refine (lwithin_yes _ _ _ _ H1.out).mono ?_; rintro e w' ⟨rfl, rfl⟩
      go_wp2_with fail
      refine (lwithin_yes _ _ _ _ H2.out).mono ?_; rintro e w' ⟨rfl, rfl⟩
      go_wp2_with fail
      go_ret
      exact ⟨ret_bool (by simp; omega), (Below.refl _ _).alloc (Nat.le_refl _) _⟩
    · have H1 := Lib.hid h1
      have H2 := Lib.hid h2
      clear h h1 h2
      go_enter Try.func40, Try.ntmps40
      go_wp2_with fail
      refine (lwithin_yes _ _ _ _ H1.out).mono ?_; rintro e w' ⟨rfl, rfl⟩
      go_wp2_with fail
      refine (lwithin_no _ _ _ _ H2.out).mono ?_; rintro e w' ⟨rfl, rfl⟩
      go_wp2_with fail
      go_ret
      exact ⟨rfl, (Below.refl _ _).alloc (Nat.le_refl _) _⟩
  · have H1 := Lib.hid h1
    clear h h1
    go_enter Try.func40, Try.ntmps40
    go_wp2_with fail
    refine (lwithin_no _ _ _ _ H1.out).mono ?_; rintro e w' ⟨rfl, rfl⟩
    go_wp2_with fail
    go_ret
    exact ⟨rfl, (Below.refl _ _).alloc (Nat.le_refl _) _⟩
end Go.Proofs.Ythgiolofnkdfoaa
