/- Inodes: the document's sector of one. -/
import Derived.Test.YthgiolofnkdfoaaIno6
namespace Go.Proofs.Ythgiolofnkdfoaa
set_option linter.unusedSimpArgs false
set_option linter.unusedVariables false
open Go.RowKit

theorem nth_setB (s : List Int) (a n : Nat) (v : Int) (h : a + n ≤ s.length) (j : Nat) : nth (setB s a n v) j = if a ≤ j ∧ j < a + n then v / 2 ^ (8 * (j - a)) % 256 else nth s j := by
  induction n with
  | zero => simp only [setB]; rw [if_neg (by omega)]
  | succ n ih =>
    simp only [setB]
    rw [nth_set (by simp; omega), ih (by omega)]
    by_cases hj : j = a + n
    · subst hj; rw [if_pos rfl, if_pos ⟨by omega, by omega⟩, show a + n - a = n by omega]
    · rw [if_neg hj]
      by_cases h2 : a ≤ j ∧ j < a + n
      · rw [if_pos h2, if_pos ⟨by omega, by omega⟩]
      · rw [if_neg h2, if_neg (by omega)]
theorem setB_comm (s : List Int) (a n b m : Nat) (v u : Int) (h1 : a + n ≤ s.length) (h2 : b + m ≤ s.length) (hd : a + n ≤ b ∨ b + m ≤ a) : setB (setB s a n v) b m u = setB (setB s b m u) a n v := by
  refine nth_ext (by simp) (fun j _ => ?_)
  rw [nth_setB _ _ _ _ (by simpa using h2), nth_setB _ _ _ _ h1, nth_setB _ _ _ _ (by simpa using h1), nth_setB _ _ _ _ h2]
  by_cases hb : b ≤ j ∧ j < b + m
  · rw [if_pos hb, if_neg (by omega), if_pos hb]
  · rw [if_neg hb, if_neg hb]
def dirN (l : List Int) (s : List Int) (n : Nat) : List Int := (List.range n).foldl (fun s j => setB s (16 + 4 * j) 4 (nth l (4 + j))) s
theorem dirN_succ (l s : List Int) (n : Nat) : dirN l s (n + 1) = setB (dirN l s n) (16 + 4 * n) 4 (nth l (4 + n)) := by
  unfold dirN; rw [List.range_succ, List.foldl_append]; rfl
@[go_sem, simp] theorem dirN_length (l s : List Int) (n : Nat) : (dirN l s n).length = s.length := by
  induction n with
  | zero => rfl
  | succ n ih => rw [dirN_succ, setB_length, ih]
theorem dirN_setB (l s : List Int) (hs : s.length = 128) (b m : Nat) (v : Int) (hb : 64 ≤ b) (hm : b + m ≤ 128) (n : Nat) (hn : n ≤ 12) : dirN l (setB s b m v) n = setB (dirN l s n) b m v := by
  induction n with
  | zero => rfl
  | succ n ih =>
    rw [dirN_succ, dirN_succ, ih (by omega), setB_comm _ _ _ _ _ _ _ (by simp; omega) (by simp; omega) (by omega)]
theorem inoSecN_dir (l : List Int) (n : Nat) : inoSecN l (6 + n) = dirN l (inoSecN l 6) n := by
  induction n with
  | zero => rw [Nat.add_zero]; unfold dirN; rw [List.range_zero, List.foldl_nil]
  | succ n ih =>
    rw [show 6 + (n + 1) = (n + 6) + 1 by omega, inoSecN_succ, dirN_succ, ← ih, show 6 + n = n + 6 by omega]
    simp only [fAt, fWd, fCell]
def headSec (l : List Int) : List Int := setB (setB (setB (setB (zl 128) 0 1 (nth l 0)) 1 1 (nth l 1)) 4 4 (nth l 2)) 8 8 (nth l 3)
@[go_sem, simp] theorem headSec_length (l : List Int) : (headSec l).length = 128 := by simp [headSec]
theorem inoSec_ref (l : List Int) : inoSec l = setB (setB (dirN l (headSec l) 12) 64 4 (nth l 16)) 68 4 (nth l 17) := by
  unfold inoSec
  rw [show (18 : Nat) = 6 + 12 from rfl, inoSecN_dir]
  have e : inoSecN l 6 = setB (setB (headSec l) 64 4 (nth l 16)) 68 4 (nth l 17) := by
    unfold headSec
    rw [inoSecN_succ, inoSecN_succ, inoSecN_succ, inoSecN_succ, inoSecN_succ, inoSecN_succ]
    simp only [fAt, fWd, fCell]
    rfl
  rw [e, dirN_setB _ _ (by simp) _ _ _ (by omega) (by omega) _ (by omega), dirN_setB _ _ (by simp) _ _ _ (by omega) (by omega) _ (by omega)]

set_option maxHeartbeats 400000 in
set_option maxRecDepth 100000 in
theorem rinodeSector_no (l : List Int) (hl : l.length = 18) (h : ¬ InoMay l) (w : World) :
    Calls Try.prog 23 #[.agg (IV .i64 l)] w fun e w' => e = .returned (.tuple #[.agg (IV .u8 (zl 128)), .int .i64 61]) ∧ Below w.heap.size w w' := by
  have H := Lib.hid h
  clear h
  go_enter Try.func23, Try.ntmps23
  go_wp2_with fail
  refine (rinodeMay_any l hl false (by simp; exact H.out) _).mono ?_; rintro e w1 ⟨rfl, hb1⟩
  have hb := below_call (((Below.refl w.heap.size w).alloc (Nat.le_refl _) _).alloc (by simp) _) hb1 (by simp; omega)
  obtain ⟨f1, z1⟩ := hop hb1 (k := w.heap.size + 1) (o := .cells (IV .u8 (zl 128)) 25) (by simp [go_sem])
  clear hb1
  go_wp2_with fail
  exact ret_ct row25 rfl (cs := IV .u8 (zl 128)) rfl (hat_setRow_at _ _ _ _ _ _ f1) (by simp) rfl ⟨rfl, below_setRow hb (by omega) _⟩

theorem fit_of (l : List Int) (h : InoMay l) : (∀ i, i < 18 → 0 ≤ nth l i ∧ nth l i ≤ 1099511627776) := by
  have hc : ∀ i, i < 18 → ∃ j, j < 18 ∧ fCell j = i := by decide
  intro i hi
  obtain ⟨j, hj, rfl⟩ := hc i hi
  have := inoMay_fits l h j hj
  exact ⟨this.1, this.2.1⟩

set_option maxHeartbeats 2000000 in
set_option maxRecDepth 100000 in
theorem rinodeSector_ok (l : List Int) (hl : l.length = 18) (h : InoMay l) (w : World) :
    Calls Try.prog 23 #[.agg (IV .i64 l)] w fun e w' => e = .returned (.tuple #[.agg (IV .u8 (inoSec l)), .int .i64 0]) ∧ Below w.heap.size w w' := by
  have HFIT := Lib.hid (fit_of l h)
  have H := Lib.hid h
  clear h
  go_enter Try.func23, Try.ntmps23
  go_wp2_with fail
  refine (rinodeMay_any l hl true (by simp; exact H.out) _).mono ?_; rintro e w1 ⟨rfl, hb1⟩
  have hb := below_call (((Below.refl w.heap.size w).alloc (Nat.le_refl _) _).alloc (by simp) _) hb1 (by simp; omega)
  obtain ⟨f0, z0⟩ := hop hb1 (k := w.heap.size) (o := .cells (IV .i64 l) 43) (by simp [go_sem])
  obtain ⟨f1, z1⟩ := hop hb1 (k := w.heap.size + 1) (o := .cells (IV .u8 (zl 128)) 25) (by simp [go_sem])
  clear hb1
  go_wp2_with fail
  have hb := below_new hb (by omega) (.cells (IV .u8 (zl 128)) 25)
  have hg1 := z1
  obtain ⟨f0, z0⟩ := hopA w1 (.cells (IV .u8 (zl 128)) 25) f0
  obtain ⟨f1, z1⟩ := hopA w1 (.cells (IV .u8 (zl 128)) 25) f1
  obtain ⟨f4, z4⟩ := hopN w1 (.cells (IV .u8 (zl 128)) 25)
  generalize w1.alloc (.cells (IV .u8 (zl 128)) 25) = wa at *
  generalize w1.heap.size = g4 at *
  refine (lay_ok (zl 128) (by simp) 0 1 (nth l 0) _ (by omega) (by omega) (HFIT.out 0 (by omega)).1 (Int.le_trans (HFIT.out 0 (by omega)).2 (by omega))).mono ?_; rintro e wn0 ⟨rfl, hbn⟩
  have hb := below_call hb hbn hb.size
  obtain ⟨f0, z0⟩ := hop hbn f0
  obtain ⟨f1, z1⟩ := hop hbn f1
  obtain ⟨f4, z4⟩ := hop hbn f4
  clear hbn
  have hb := below_setRow hb (g := g4) (by omega) (IV .u8 (setB (zl 128) 0 1 (nth l 0)))
  obtain ⟨f0, z0⟩ := hopR f0 g4 (IV .u8 (setB (zl 128) 0 1 (nth l 0))) (by omega)
  obtain ⟨f1, z1⟩ := hopR f1 g4 (IV .u8 (setB (zl 128) 0 1 (nth l 0))) (by omega)
  have f4o := f4
  obtain ⟨f4, z4⟩ := hopS f4 (IV .u8 (setB (zl 128) 0 1 (nth l 0)))
  go_wp2_with fail
  clear f4o
  generalize wn0.setRow g4 (IV .u8 (setB (zl 128) 0 1 (nth l 0))) = wm0 at *
  refine (lay_ok (setB (zl 128) 0 1 (nth l 0)) (by simp) 1 1 (nth l 1) _ (by omega) (by omega) (HFIT.out 1 (by omega)).1 (Int.le_trans (HFIT.out 1 (by omega)).2 (by omega))).mono ?_; rintro e wn1 ⟨rfl, hbn⟩
  have hb := below_call hb hbn hb.size
  obtain ⟨f0, z0⟩ := hop hbn f0
  obtain ⟨f1, z1⟩ := hop hbn f1
  obtain ⟨f4, z4⟩ := hop hbn f4
  clear hbn
  have hb := below_setRow hb (g := g4) (by omega) (IV .u8 (setB (setB (zl 128) 0 1 (nth l 0)) 1 1 (nth l 1)))
  obtain ⟨f0, z0⟩ := hopR f0 g4 (IV .u8 (setB (setB (zl 128) 0 1 (nth l 0)) 1 1 (nth l 1))) (by omega)
  obtain ⟨f1, z1⟩ := hopR f1 g4 (IV .u8 (setB (setB (zl 128) 0 1 (nth l 0)) 1 1 (nth l 1))) (by omega)
  have f4o := f4
  obtain ⟨f4, z4⟩ := hopS f4 (IV .u8 (setB (setB (zl 128) 0 1 (nth l 0)) 1 1 (nth l 1)))
  go_wp2_with fail
  clear f4o
  generalize wn1.setRow g4 (IV .u8 (setB (setB (zl 128) 0 1 (nth l 0)) 1 1 (nth l 1))) = wm1 at *
  refine (lay_ok (setB (setB (zl 128) 0 1 (nth l 0)) 1 1 (nth l 1)) (by simp) 4 4 (nth l 2) _ (by omega) (by omega) (HFIT.out 2 (by omega)).1 (Int.le_trans (HFIT.out 2 (by omega)).2 (by omega))).mono ?_; rintro e wn2 ⟨rfl, hbn⟩
  have hb := below_call hb hbn hb.size
  obtain ⟨f0, z0⟩ := hop hbn f0
  obtain ⟨f1, z1⟩ := hop hbn f1
  obtain ⟨f4, z4⟩ := hop hbn f4
  clear hbn
  have hb := below_setRow hb (g := g4) (by omega) (IV .u8 (setB (setB (setB (zl 128) 0 1 (nth l 0)) 1 1 (nth l 1)) 4 4 (nth l 2)))
  obtain ⟨f0, z0⟩ := hopR f0 g4 (IV .u8 (setB (setB (setB (zl 128) 0 1 (nth l 0)) 1 1 (nth l 1)) 4 4 (nth l 2))) (by omega)
  obtain ⟨f1, z1⟩ := hopR f1 g4 (IV .u8 (setB (setB (setB (zl 128) 0 1 (nth l 0)) 1 1 (nth l 1)) 4 4 (nth l 2))) (by omega)
  have f4o := f4
  obtain ⟨f4, z4⟩ := hopS f4 (IV .u8 (setB (setB (setB (zl 128) 0 1 (nth l 0)) 1 1 (nth l 1)) 4 4 (nth l 2)))
  go_wp2_with fail
  clear f4o
  generalize wn2.setRow g4 (IV .u8 (setB (setB (setB (zl 128) 0 1 (nth l 0)) 1 1 (nth l 1)) 4 4 (nth l 2))) = wm2 at *
  refine (lay_ok (setB (setB (setB (zl 128) 0 1 (nth l 0)) 1 1 (nth l 1)) 4 4 (nth l 2)) (by simp) 8 8 (nth l 3) _ (by omega) (by omega) (HFIT.out 3 (by omega)).1 (Int.le_trans (HFIT.out 3 (by omega)).2 (by omega))).mono ?_; rintro e wn3 ⟨rfl, hbn⟩
  have hb := below_call hb hbn hb.size
  obtain ⟨f0, z0⟩ := hop hbn f0
  obtain ⟨f1, z1⟩ := hop hbn f1
  obtain ⟨f4, z4⟩ := hop hbn f4
  clear hbn
  have hb := below_setRow hb (g := g4) (by omega) (IV .u8 (setB (setB (setB (setB (zl 128) 0 1 (nth l 0)) 1 1 (nth l 1)) 4 4 (nth l 2)) 8 8 (nth l 3)))
  obtain ⟨f0, z0⟩ := hopR f0 g4 (IV .u8 (setB (setB (setB (setB (zl 128) 0 1 (nth l 0)) 1 1 (nth l 1)) 4 4 (nth l 2)) 8 8 (nth l 3))) (by omega)
  obtain ⟨f1, z1⟩ := hopR f1 g4 (IV .u8 (setB (setB (setB (setB (zl 128) 0 1 (nth l 0)) 1 1 (nth l 1)) 4 4 (nth l 2)) 8 8 (nth l 3))) (by omega)
  have f4o := f4
  obtain ⟨f4, z4⟩ := hopS f4 (IV .u8 (setB (setB (setB (setB (zl 128) 0 1 (nth l 0)) 1 1 (nth l 1)) 4 4 (nth l 2)) 8 8 (nth l 3)))
  go_wp2_with fail
  clear f4o
  generalize wn3.setRow g4 (IV .u8 (setB (setB (setB (setB (zl 128) 0 1 (nth l 0)) 1 1 (nth l 1)) 4 4 (nth l 2)) 8 8 (nth l 3))) = wm3 at *
  have eh : (setB (setB (setB (setB (zl 128) 0 1 (nth l 0)) 1 1 (nth l 1)) 4 4 (nth l 2)) 8 8 (nth l 3)) = headSec l := rfl
  rw [eh] at f4
  clear eh
  go_loopw [5] (fun i wr => ∃ k : Nat, k ≤ 12 ∧ i = .int .i64 k ∧ hat wr w.heap.size = some (.cells (IV .i64 l) 43) ∧ hat wr (w.heap.size + 1) = some (.cells (IV .u8 (zl 128)) 25) ∧ hat wr g4 = some (.cells (IV .u8 (dirN l (headSec l) k)) 25)
      ∧ Below w.heap.size w wr) (fun i _ => 12 - (intOf i).toNat)
  case atStart => exact ⟨0, by omega, rfl, f0, f1, f4, hb⟩
  case round =>
    clear f0 f1 f4 hb z0 z1 z4
    obtain ⟨k, hk, rfl, f0, f1, f4, hb⟩ := hrel
    have z0 := hat_lt f0
    have z1 := hat_lt f1
    have z4 := hat_lt f4
    by_cases hkw : k < 12
    · have hk12 : 4 + k < 18 := by omega
      have HK1 := Lib.hid (dirN_succ l (headSec l) k)
      go_wp2_with fail
      refine wp_region_vals (by kernel_rfl) 9 (by decide) rfl (fun i => match i with
        | 0 => .agg (IV .u8 (dirN l (headSec l) k)) | 1 => .int .i64 k | 2 => .int .i64 (4 * k) | 3 => .int .i64 (16 + 4 * k) | 4 => .int .i64 k
        | 5 => .pointer (some ⟨w.heap.size, 4, none⟩) | 6 => .pointer (some ⟨w.heap.size, 4 + k, none⟩) | 7 => .int .i64 (nth l (4 + k)) | _ => .agg (IV .u8 (dirN l (headSec l) (k + 1)))) ?_ ?_
      · intro i o hi ho a' w' hB hS hF
        have hi' : i = 0 ∨ i = 1 ∨ i = 2 ∨ i = 3 ∨ i = 4 ∨ i = 5 ∨ i = 6 ∨ i = 7 ∨ i = 8 := by omega
        have f4 := (hop hB f4).1
        have f0 := (hop hB f0).1
        have e1 := gtx ((hS 1 (by decide)).trans rfl : gt a' 1 = .pointer (some ⟨w.heap.size, 0, none⟩))
        rcases hi' with rfl | rfl | rfl | rfl | rfl | rfl | rfl | rfl | rfl
        all_goals (have ho' := Option.some.inj ho; subst ho')
        · exact wpOp_load_row 25 128 row25 (.tmp 4) rfl rfl rfl g4 _ ((hS 4 (by decide)).trans rfl) f4 (by simp) ⟨rfl, hB⟩
        · exact wpOp_move (.tmp 5) rfl rfl rfl _ ((hS 5 (by decide)).trans rfl) ⟨rfl, hB⟩
        · have e0 := gtx (hF 1 (by decide) _ 31 rfl rfl)
          refine wpOp_val rfl rfl (v := .int .i64 (4 * k)) (w1 := w') ?_ ⟨rfl, hB⟩
          simp [go_sem, e0]
          exact IntWalk.i64_in _ ⟨by omega, by omega⟩
        · have e0 := gtx (hF 2 (by decide) _ 32 rfl rfl)
          refine wpOp_val rfl rfl (v := .int .i64 (16 + 4 * k)) (w1 := w') ?_ ⟨rfl, hB⟩
          simp [go_sem, e0]
          exact IntWalk.i64_in _ ⟨by omega, by omega⟩
        · exact wpOp_move (.tmp 5) rfl rfl rfl _ ((hS 5 (by decide)).trans rfl) ⟨rfl, hB⟩
        · refine wpOp_val rfl rfl (v := .pointer (some ⟨w.heap.size, 4, none⟩)) (w1 := w') ?_ ⟨rfl, hB⟩
          simp [go_sem, e1]
        · have e0 := gtx (hF 5 (by decide) _ 35 rfl rfl)
          have e2 := gtx (hF 4 (by decide) _ 34 rfl rfl)
          refine wpOp_val rfl rfl (v := .pointer (some ⟨w.heap.size, 4 + k, none⟩)) (w1 := w') ?_ ⟨rfl, hB⟩
          simp [go_sem, e0, e2]
          intro hc; omega
        · exact wpOp_load_cell 3 celli (.tmp 36) rfl rfl rfl w.heap.size (4 + k) _ _ (hF 6 (by decide) _ 36 rfl rfl) f0 (IV_get _ _ _ (by omega)) ⟨rfl, hB⟩
        · have e0 := gtx (hF 0 (by decide) _ 30 rfl rfl)
          have e2 := gtx (hF 3 (by decide) _ 33 rfl rfl)
          have e3 := gtx (hF 7 (by decide) _ 37 rfl rfl)
          refine wpOp_call (f := 37) (args := #[.agg (IV .u8 (dirN l (headSec l) k)), .int .i64 ((16 + 4 * k : Nat) : Int), .int .i64 4, .int .i64 (nth l (4 + k))]) rfl rfl (by simp [go_sem, e0, e2, e3])
            (lay_ok _ (by simp) (16 + 4 * k) 4 (nth l (4 + k)) w' (by omega) (by omega) (HFIT.out _ hk12).1 (Int.le_trans (HFIT.out _ hk12).2 (by omega))) ?_
          rintro e w'' ⟨rfl, hb'⟩
          exact ⟨_, rfl, (by rw [HK1.out]; rfl), below_call hB hb' hB.size⟩
      · intro w' hB
        obtain ⟨f0, z0⟩ := hop hB f0
        obtain ⟨f1, z1⟩ := hop hB f1
        obtain ⟨f4, z4⟩ := hop hB f4
        have hb := below_call hb hB hb.size
        clear hB
        simp only [putAll, List.take, List.drop, List.take_succ_cons, List.drop_succ_cons, Act.put, List.setIfInBounds_toArray, List.set_cons_zero, List.set_cons_succ]
        go_wp2_with fail
        go_roundw
        case rel => exact ⟨k + 1, by omega, by go_num, (hopR f0 _ _ (by omega)).1, (hopR f1 _ _ (by omega)).1, (hopS f4 _).1, below_setRow hb (by omega) _⟩
        case measure => (show 12 - (k + 1) < 12 - k); omega
    · obtain rfl : k = 12 := by omega
      have HR := Lib.hid (inoSec_ref l)
      go_wp2_with fail
      refine (lay_ok (dirN l (headSec l) 12) (by simp) 64 4 (nth l 16) _ (by omega) (by omega) (HFIT.out 16 (by omega)).1 (Int.le_trans (HFIT.out 16 (by omega)).2 (by omega))).mono ?_; rintro e wz0 ⟨rfl, hbn⟩
      have hb := below_call hb hbn hb.size
      obtain ⟨f0, z0⟩ := hop hbn f0
      obtain ⟨f1, z1⟩ := hop hbn f1
      obtain ⟨f4, z4⟩ := hop hbn f4
      clear hbn
      have hb := below_setRow hb (g := g4) (by omega) (IV .u8 (setB (dirN l (headSec l) 12) 64 4 (nth l 16)))
      obtain ⟨f0, z0⟩ := hopR f0 g4 (IV .u8 (setB (dirN l (headSec l) 12) 64 4 (nth l 16))) (by omega)
      obtain ⟨f1, z1⟩ := hopR f1 g4 (IV .u8 (setB (dirN l (headSec l) 12) 64 4 (nth l 16))) (by omega)
      have f4o := f4
      obtain ⟨f4, z4⟩ := hopS f4 (IV .u8 (setB (dirN l (headSec l) 12) 64 4 (nth l 16)))
      go_wp2_with fail
      clear f4o
      generalize wz0.setRow g4 (IV .u8 (setB (dirN l (headSec l) 12) 64 4 (nth l 16))) = wy0 at *
      refine (lay_ok (setB (dirN l (headSec l) 12) 64 4 (nth l 16)) (by simp) 68 4 (nth l 17) _ (by omega) (by omega) (HFIT.out 17 (by omega)).1 (Int.le_trans (HFIT.out 17 (by omega)).2 (by omega))).mono ?_; rintro e wz1 ⟨rfl, hbn⟩
      have hb := below_call hb hbn hb.size
      obtain ⟨f0, z0⟩ := hop hbn f0
      obtain ⟨f1, z1⟩ := hop hbn f1
      obtain ⟨f4, z4⟩ := hop hbn f4
      clear hbn
      go_wp2_with fail
      exact ret_ct row25 rfl (cs := IV .u8 (setB (setB (dirN l (headSec l) 12) 64 4 (nth l 16)) 68 4 (nth l 17))) rfl (hat_setRow_at _ _ _ _ _ _ f1) (by simp) rfl ⟨by rw [HR.out]; rfl, below_setRow hb (by omega) _⟩
end Go.Proofs.Ythgiolofnkdfoaa
