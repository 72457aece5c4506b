import Derived.Lib.ConvBytes
import Derived.Laws.IdiomStrings
import Derived.Lib.BufferRead
import Derived.Maps.OwnSet
import Derived.Maps.RangeWalk
import Derived.Test.YtmnecpnkkapflaaGreatM01
import Derived.Test.YtmnecpnkkapflaaGreatM02
namespace Go.Proofs.YtmnecpnkkapflaaGreat
set_option maxHeartbeats 16000000
set_option maxRecDepth 1000000
set_option linter.unusedSimpArgs false
set_option linter.unusedVariables false
open Go.RowKit
theorem nth_setB (s : List Int) (a n : Nat) (v : Int) (h : a + n ≤ s.length) (j : Nat) : nth (setB s a n v) j = if a ≤ j ∧ j < a + n then v / 2 ^ (8 * (j - a)) % 256 else nth s j := by
 induction n with
 | zero => simp only [setB]; rw [if_neg (by omega)]
 | succ n ih =>
  simp only [setB]
  rw [nth_set (by simp; omega), ih (by omega)]
  by_cases hj : j = a + n
  ·subst hj; rw [if_pos rfl, if_pos ⟨by omega, by omega⟩, show a + n - a = n by omega]
  ·rw [if_neg hj]
   by_cases h2 : a ≤ j ∧ j < a + n
   ·rw [if_pos h2, if_pos ⟨by omega, by omega⟩]
   ·rw [if_neg h2, if_neg (by omega)]
theorem setB_comm (s : List Int) (a n b m : Nat) (v u : Int) (h1 : a + n ≤ s.length) (h2 : b + m ≤ s.length) (hd : a + n ≤ b ∨ b + m ≤ a) : setB (setB s a n v) b m u = setB (setB s b m u) a n v := by
 refine nth_ext (by simp) (fun j _ => ?_)
 rw [nth_setB _ _ _ _ (by simpa using h2), nth_setB _ _ _ _ h1, nth_setB _ _ _ _ (by simpa using h1), nth_setB _ _ _ _ h2]
 by_cases hb : b ≤ j ∧ j < b + m
 ·rw [if_pos hb, if_neg (by omega), if_pos hb]
 ·rw [if_neg hb, if_neg hb]
def dirN (l : List Int) (s : List Int) (n : Nat) : List Int := (List.range n).foldl (fun s j => setB s (16 + 4 * j) 4 (nth l (4 + j))) s
theorem dirN_succ (l s : List Int) (n : Nat) : dirN l s (n + 1) = setB (dirN l s n) (16 + 4 * n) 4 (nth l (4 + n)) := by
 unfold dirN; rw [List.range_succ, List.foldl_append]; rfl
@[go_sem, simp] theorem dirN_length (l s : List Int) (n : Nat) : (dirN l s n).length = s.length := by
 induction n with
 | zero => rfl
 | succ n ih => rw [dirN_succ, setB_length, ih]
theorem dirN_setB (l s : List Int) (hs : s.length = 128) (b m : Nat) (v : Int) (hb : 64 ≤ b) (hm : b + m ≤ 128) (n : Nat) (hn : n ≤ 12) : dirN l (setB s b m v) n = setB (dirN l s n) b m v := by
 induction n with
 | zero => rfl
 | succ n ih =>
  rw [dirN_succ, dirN_succ, ih (by omega), setB_comm _ _ _ _ _ _ _ (by simp; omega) (by simp; omega) (by omega)]
theorem inoSecN_dir (l : List Int) (n : Nat) : inoSecN l (6 + n) = dirN l (inoSecN l 6) n := by
 induction n with
 | zero => rw [Nat.add_zero]; unfold dirN; rw [List.range_zero, List.foldl_nil]
 | succ n ih =>
  rw [show 6 + (n + 1) = (n + 6) + 1 by omega, inoSecN_succ, dirN_succ, ← ih, show 6 + n = n + 6 by omega]
  simp only [fAt, fWd, fCell]
def headSec (l : List Int) : List Int := setB (setB (setB (setB (zl 128) 0 1 (nth l 0)) 1 1 (nth l 1)) 4 4 (nth l 2)) 8 8 (nth l 3)
@[go_sem, simp] theorem headSec_length (l : List Int) : (headSec l).length = 128 := by simp [headSec]
theorem inoSec_ref (l : List Int) : inoSec l = setB (setB (dirN l (headSec l) 12) 64 4 (nth l 16)) 68 4 (nth l 17) := by
 unfold inoSec
 rw [show (18 : Nat) = 6 + 12 from rfl, inoSecN_dir]
 have e : inoSecN l 6 = setB (setB (headSec l) 64 4 (nth l 16)) 68 4 (nth l 17) := by
  unfold headSec
  rw [inoSecN_succ, inoSecN_succ, inoSecN_succ, inoSecN_succ, inoSecN_succ, inoSecN_succ]
  simp only [fAt, fWd, fCell]
  rfl
 rw [e, dirN_setB _ _ (by simp) _ _ _ (by omega) (by omega) _ (by omega), dirN_setB _ _ (by simp) _ _ _ (by omega) (by omega) _ (by omega)]
theorem rinodeSector_no (l : List Int) (hl : l.length = 18) (h : ¬ InoMay l) (w : World) :
  Calls Tryz.prog 59 #[.agg (IV .i64 l)] w fun e w' => e = .returned (.tuple #[.agg (IV .u8 (zl 128)), .int .i64 61]) ∧ Below w.heap.size w w' := by
 have H := Lib.hid h
 clear h
 go_enter Tryz.func59, Tryz.ntmps59
 go_wp2_with fail
 refine (rinodeMay_any l hl false (by simp; exact H.out) _).mono ?_; rintro e w1 ⟨rfl, hb1⟩
 have hb := below_call (((Below.refl w.heap.size w).alloc (Nat.le_refl _) _).alloc (by simp) _) hb1 (by simp; omega)
 obtain ⟨f1, z1⟩ := hop hb1 (k := w.heap.size + 1) (o := .cells (IV .u8 (zl 128)) 47) (by simp [go_sem])
 clear hb1
 go_wp2_with fail
 exact ret_ct row47 rfl (cs := IV .u8 (zl 128)) rfl (hat_setRow_at _ _ _ _ _ _ f1) (by simp) rfl ⟨rfl, below_setRow hb (by omega) _⟩
theorem fit_of (l : List Int) (h : InoMay l) : (∀ i, i < 18 → 0 ≤ nth l i ∧ nth l i ≤ 1099511627776) := by
 have hc : ∀ i, i < 18 → ∃ j, j < 18 ∧ fCell j = i := by decide
 intro i hi
 obtain ⟨j, hj, rfl⟩ := hc i hi
 have := inoMay_fits l h j hj
 exact ⟨this.1, this.2.1⟩
theorem rinodeSector_ok (l : List Int) (hl : l.length = 18) (h : InoMay l) (w : World) :
  Calls Tryz.prog 59 #[.agg (IV .i64 l)] w fun e w' => e = .returned (.tuple #[.agg (IV .u8 (inoSec l)), .int .i64 0]) ∧ Below w.heap.size w w' := by
 have HFIT := Lib.hid (fit_of l h)
 have H := Lib.hid h
 clear h
 go_enter Tryz.func59, Tryz.ntmps59
 go_wp2_with fail
 refine (rinodeMay_any l hl true (by simp; exact H.out) _).mono ?_; rintro e w1 ⟨rfl, hb1⟩
 have hb := below_call (((Below.refl w.heap.size w).alloc (Nat.le_refl _) _).alloc (by simp) _) hb1 (by simp; omega)
 obtain ⟨f0, z0⟩ := hop hb1 (k := w.heap.size) (o := .cells (IV .i64 l) 78) (by simp [go_sem])
 obtain ⟨f1, z1⟩ := hop hb1 (k := w.heap.size + 1) (o := .cells (IV .u8 (zl 128)) 47) (by simp [go_sem])
 clear hb1
 go_wp2_with fail
 have hb := below_new hb (by omega) (.cells (IV .u8 (zl 128)) 47)
 have hg1 := z1
 obtain ⟨f0, z0⟩ := hopA w1 (.cells (IV .u8 (zl 128)) 47) f0
 obtain ⟨f1, z1⟩ := hopA w1 (.cells (IV .u8 (zl 128)) 47) f1
 obtain ⟨f4, z4⟩ := hopN w1 (.cells (IV .u8 (zl 128)) 47)
 generalize w1.alloc (.cells (IV .u8 (zl 128)) 47) = wa at *
 generalize w1.heap.size = g4 at *
 refine (lay_ok (zl 128) (by simp) 0 1 (nth l 0) _ (by omega) (by omega) (HFIT.out 0 (by omega)).1 (Int.le_trans (HFIT.out 0 (by omega)).2 (by omega))).mono ?_; rintro e wn0 ⟨rfl, hbn⟩
 have hb := below_call hb hbn hb.size
 obtain ⟨f0, z0⟩ := hop hbn f0
 obtain ⟨f1, z1⟩ := hop hbn f1
 obtain ⟨f4, z4⟩ := hop hbn f4
 clear hbn
 have hb := below_setRow hb (g := g4) (by omega) (IV .u8 (setB (zl 128) 0 1 (nth l 0)))
 obtain ⟨f0, z0⟩ := hopR f0 g4 (IV .u8 (setB (zl 128) 0 1 (nth l 0))) (by omega)
 obtain ⟨f1, z1⟩ := hopR f1 g4 (IV .u8 (setB (zl 128) 0 1 (nth l 0))) (by omega)
 have f4o := f4
 obtain ⟨f4, z4⟩ := hopS f4 (IV .u8 (setB (zl 128) 0 1 (nth l 0)))
 go_wp2_with fail
 clear f4o
 generalize wn0.setRow g4 (IV .u8 (setB (zl 128) 0 1 (nth l 0))) = wm0 at *
 refine (lay_ok (setB (zl 128) 0 1 (nth l 0)) (by simp) 1 1 (nth l 1) _ (by omega) (by omega) (HFIT.out 1 (by omega)).1 (Int.le_trans (HFIT.out 1 (by omega)).2 (by omega))).mono ?_; rintro e wn1 ⟨rfl, hbn⟩
 have hb := below_call hb hbn hb.size
 obtain ⟨f0, z0⟩ := hop hbn f0
 obtain ⟨f1, z1⟩ := hop hbn f1
 obtain ⟨f4, z4⟩ := hop hbn f4
 clear hbn
 have hb := below_setRow hb (g := g4) (by omega) (IV .u8 (setB (setB (zl 128) 0 1 (nth l 0)) 1 1 (nth l 1)))
 obtain ⟨f0, z0⟩ := hopR f0 g4 (IV .u8 (setB (setB (zl 128) 0 1 (nth l 0)) 1 1 (nth l 1))) (by omega)
 obtain ⟨f1, z1⟩ := hopR f1 g4 (IV .u8 (setB (setB (zl 128) 0 1 (nth l 0)) 1 1 (nth l 1))) (by omega)
 have f4o := f4
 obtain ⟨f4, z4⟩ := hopS f4 (IV .u8 (setB (setB (zl 128) 0 1 (nth l 0)) 1 1 (nth l 1)))
 go_wp2_with fail
 clear f4o
 generalize wn1.setRow g4 (IV .u8 (setB (setB (zl 128) 0 1 (nth l 0)) 1 1 (nth l 1))) = wm1 at *
 refine (lay_ok (setB (setB (zl 128) 0 1 (nth l 0)) 1 1 (nth l 1)) (by simp) 4 4 (nth l 2) _ (by omega) (by omega) (HFIT.out 2 (by omega)).1 (Int.le_trans (HFIT.out 2 (by omega)).2 (by omega))).mono ?_; rintro e wn2 ⟨rfl, hbn⟩
 have hb := below_call hb hbn hb.size
 obtain ⟨f0, z0⟩ := hop hbn f0
 obtain ⟨f1, z1⟩ := hop hbn f1
 obtain ⟨f4, z4⟩ := hop hbn f4
 clear hbn
 have hb := below_setRow hb (g := g4) (by omega) (IV .u8 (setB (setB (setB (zl 128) 0 1 (nth l 0)) 1 1 (nth l 1)) 4 4 (nth l 2)))
 obtain ⟨f0, z0⟩ := hopR f0 g4 (IV .u8 (setB (setB (setB (zl 128) 0 1 (nth l 0)) 1 1 (nth l 1)) 4 4 (nth l 2))) (by omega)
 obtain ⟨f1, z1⟩ := hopR f1 g4 (IV .u8 (setB (setB (setB (zl 128) 0 1 (nth l 0)) 1 1 (nth l 1)) 4 4 (nth l 2))) (by omega)
 have f4o := f4
 obtain ⟨f4, z4⟩ := hopS f4 (IV .u8 (setB (setB (setB (zl 128) 0 1 (nth l 0)) 1 1 (nth l 1)) 4 4 (nth l 2)))
 go_wp2_with fail
 clear f4o
 generalize wn2.setRow g4 (IV .u8 (setB (setB (setB (zl 128) 0 1 (nth l 0)) 1 1 (nth l 1)) 4 4 (nth l 2))) = wm2 at *
 refine (lay_ok (setB (setB (setB (zl 128) 0 1 (nth l 0)) 1 1 (nth l 1)) 4 4 (nth l 2)) (by simp) 8 8 (nth l 3) _ (by omega) (by omega) (HFIT.out 3 (by omega)).1 (Int.le_trans (HFIT.out 3 (by omega)).2 (by omega))).mono ?_; rintro e wn3 ⟨rfl, hbn⟩
 have hb := below_call hb hbn hb.size
 obtain ⟨f0, z0⟩ := hop hbn f0
 obtain ⟨f1, z1⟩ := hop hbn f1
 obtain ⟨f4, z4⟩ := hop hbn f4
 clear hbn
 have hb := below_setRow hb (g := g4) (by omega) (IV .u8 (setB (setB (setB (setB (zl 128) 0 1 (nth l 0)) 1 1 (nth l 1)) 4 4 (nth l 2)) 8 8 (nth l 3)))
 obtain ⟨f0, z0⟩ := hopR f0 g4 (IV .u8 (setB (setB (setB (setB (zl 128) 0 1 (nth l 0)) 1 1 (nth l 1)) 4 4 (nth l 2)) 8 8 (nth l 3))) (by omega)
 obtain ⟨f1, z1⟩ := hopR f1 g4 (IV .u8 (setB (setB (setB (setB (zl 128) 0 1 (nth l 0)) 1 1 (nth l 1)) 4 4 (nth l 2)) 8 8 (nth l 3))) (by omega)
 have f4o := f4
 obtain ⟨f4, z4⟩ := hopS f4 (IV .u8 (setB (setB (setB (setB (zl 128) 0 1 (nth l 0)) 1 1 (nth l 1)) 4 4 (nth l 2)) 8 8 (nth l 3)))
 go_wp2_with fail
 clear f4o
 generalize wn3.setRow g4 (IV .u8 (setB (setB (setB (setB (zl 128) 0 1 (nth l 0)) 1 1 (nth l 1)) 4 4 (nth l 2)) 8 8 (nth l 3))) = wm3 at *
 have eh : (setB (setB (setB (setB (zl 128) 0 1 (nth l 0)) 1 1 (nth l 1)) 4 4 (nth l 2)) 8 8 (nth l 3)) = headSec l := rfl
 rw [eh] at f4
 clear eh
 go_loopw [5] (fun i wr => ∃ k : Nat, k ≤ 12 ∧ i = .int .i64 k ∧ hat wr w.heap.size = some (.cells (IV .i64 l) 78) ∧ hat wr (w.heap.size + 1) = some (.cells (IV .u8 (zl 128)) 47) ∧ hat wr g4 = some (.cells (IV .u8 (dirN l (headSec l) k)) 47)
   ∧ Below w.heap.size w wr) (fun i _ => 12 - (intOf i).toNat)
 case atStart => exact ⟨0, by omega, rfl, f0, f1, f4, hb⟩
 case round =>
  clear f0 f1 f4 hb z0 z1 z4
  obtain ⟨k, hk, rfl, f0, f1, f4, hb⟩ := hrel
  have z0 := hat_lt f0
  have z1 := hat_lt f1
  have z4 := hat_lt f4
  by_cases hkw : k < 12
  ·have hk12 : 4 + k < 18 := by omega
   have HK1 := Lib.hid (dirN_succ l (headSec l) k)
   go_wp2_with fail
   refine wp_region_vals (by kernel_rfl) 9 (by decide) rfl (fun i => match i with
    | 0 => .agg (IV .u8 (dirN l (headSec l) k)) | 1 => .int .i64 k | 2 => .int .i64 (4 * k) | 3 => .int .i64 (16 + 4 * k) | 4 => .int .i64 k
    | 5 => .pointer (some ⟨w.heap.size, 4, none⟩) | 6 => .pointer (some ⟨w.heap.size, 4 + k, none⟩) | 7 => .int .i64 (nth l (4 + k)) | _ => .agg (IV .u8 (dirN l (headSec l) (k + 1)))) ?_ ?_
   ·intro i o hi ho a' w' hB hS hF
    have hi' : i = 0 ∨ i = 1 ∨ i = 2 ∨ i = 3 ∨ i = 4 ∨ i = 5 ∨ i = 6 ∨ i = 7 ∨ i = 8 := by omega
    have f4 := (hop hB f4).1
    have f0 := (hop hB f0).1
    have e1 := gtx ((hS 1 (by decide)).trans rfl : gt a' 1 = .pointer (some ⟨w.heap.size, 0, none⟩))
    rcases hi' with rfl | rfl | rfl | rfl | rfl | rfl | rfl | rfl | rfl
    all_goals (have ho' := Option.some.inj ho; subst ho')
    ·exact wpOp_load_row 47 128 row47 (.tmp 4) rfl rfl rfl g4 _ ((hS 4 (by decide)).trans rfl) f4 (by simp) ⟨rfl, hB⟩
    ·exact wpOp_move (.tmp 5) rfl rfl rfl _ ((hS 5 (by decide)).trans rfl) ⟨rfl, hB⟩
    ·have e0 := gtx (hF 1 (by decide) _ 31 rfl rfl)
     refine wpOp_val rfl rfl (v := .int .i64 (4 * k)) (w1 := w') ?_ ⟨rfl, hB⟩
     simp [go_sem, e0]
     exact IntWalk.i64_in _ ⟨by omega, by omega⟩
    ·have e0 := gtx (hF 2 (by decide) _ 32 rfl rfl)
     refine wpOp_val rfl rfl (v := .int .i64 (16 + 4 * k)) (w1 := w') ?_ ⟨rfl, hB⟩
     simp [go_sem, e0]
     exact IntWalk.i64_in _ ⟨by omega, by omega⟩
    ·exact wpOp_move (.tmp 5) rfl rfl rfl _ ((hS 5 (by decide)).trans rfl) ⟨rfl, hB⟩
    ·refine wpOp_val rfl rfl (v := .pointer (some ⟨w.heap.size, 4, none⟩)) (w1 := w') ?_ ⟨rfl, hB⟩
     simp [go_sem, e1]
    ·have e0 := gtx (hF 5 (by decide) _ 35 rfl rfl)
     have e2 := gtx (hF 4 (by decide) _ 34 rfl rfl)
     refine wpOp_val rfl rfl (v := .pointer (some ⟨w.heap.size, 4 + k, none⟩)) (w1 := w') ?_ ⟨rfl, hB⟩
     simp [go_sem, e0, e2]
     intro hc; omega
    ·exact wpOp_load_cell 3 celli (.tmp 36) rfl rfl rfl w.heap.size (4 + k) _ _ (hF 6 (by decide) _ 36 rfl rfl) f0 (IV_get _ _ _ (by omega)) ⟨rfl, hB⟩
    ·have e0 := gtx (hF 0 (by decide) _ 30 rfl rfl)
     have e2 := gtx (hF 3 (by decide) _ 33 rfl rfl)
     have e3 := gtx (hF 7 (by decide) _ 37 rfl rfl)
     refine wpOp_call (f := 92) (args := #[.agg (IV .u8 (dirN l (headSec l) k)), .int .i64 ((16 + 4 * k : Nat) : Int), .int .i64 4, .int .i64 (nth l (4 + k))]) rfl rfl (by simp [go_sem, e0, e2, e3])
      (lay_ok _ (by simp) (16 + 4 * k) 4 (nth l (4 + k)) w' (by omega) (by omega) (HFIT.out _ hk12).1 (Int.le_trans (HFIT.out _ hk12).2 (by omega))) ?_
     rintro e w'' ⟨rfl, hb'⟩
     exact ⟨_, rfl, (by rw [HK1.out]; rfl), below_call hB hb' hB.size⟩
   ·intro w' hB
    obtain ⟨f0, z0⟩ := hop hB f0
    obtain ⟨f1, z1⟩ := hop hB f1
    obtain ⟨f4, z4⟩ := hop hB f4
    have hb := below_call hb hB hb.size
    clear hB
    simp only [putAll, List.take, List.drop, List.take_succ_cons, List.drop_succ_cons, Act.put, List.setIfInBounds_toArray, List.set_cons_zero, List.set_cons_succ]
    go_wp2_with fail
    go_roundw
    case rel => exact ⟨k + 1, by omega, by go_num, (hopR f0 _ _ (by omega)).1, (hopR f1 _ _ (by omega)).1, (hopS f4 _).1, below_setRow hb (by omega) _⟩
    case measure => (show 12 - (k + 1) < 12 - k); omega
  ·obtain rfl : k = 12 := by omega
   have HR := Lib.hid (inoSec_ref l)
   go_wp2_with fail
   refine (lay_ok (dirN l (headSec l) 12) (by simp) 64 4 (nth l 16) _ (by omega) (by omega) (HFIT.out 16 (by omega)).1 (Int.le_trans (HFIT.out 16 (by omega)).2 (by omega))).mono ?_; rintro e wz0 ⟨rfl, hbn⟩
   have hb := below_call hb hbn hb.size
   obtain ⟨f0, z0⟩ := hop hbn f0
   obtain ⟨f1, z1⟩ := hop hbn f1
   obtain ⟨f4, z4⟩ := hop hbn f4
   clear hbn
   have hb := below_setRow hb (g := g4) (by omega) (IV .u8 (setB (dirN l (headSec l) 12) 64 4 (nth l 16)))
   obtain ⟨f0, z0⟩ := hopR f0 g4 (IV .u8 (setB (dirN l (headSec l) 12) 64 4 (nth l 16))) (by omega)
   obtain ⟨f1, z1⟩ := hopR f1 g4 (IV .u8 (setB (dirN l (headSec l) 12) 64 4 (nth l 16))) (by omega)
   have f4o := f4
   obtain ⟨f4, z4⟩ := hopS f4 (IV .u8 (setB (dirN l (headSec l) 12) 64 4 (nth l 16)))
   go_wp2_with fail
   clear f4o
   generalize wz0.setRow g4 (IV .u8 (setB (dirN l (headSec l) 12) 64 4 (nth l 16))) = wy0 at *
   refine (lay_ok (setB (dirN l (headSec l) 12) 64 4 (nth l 16)) (by simp) 68 4 (nth l 17) _ (by omega) (by omega) (HFIT.out 17 (by omega)).1 (Int.le_trans (HFIT.out 17 (by omega)).2 (by omega))).mono ?_; rintro e wz1 ⟨rfl, hbn⟩
   have hb := below_call hb hbn hb.size
   obtain ⟨f0, z0⟩ := hop hbn f0
   obtain ⟨f1, z1⟩ := hop hbn f1
   obtain ⟨f4, z4⟩ := hop hbn f4
   clear hbn
   go_wp2_with fail
   exact ret_ct row47 rfl (cs := IV .u8 (setB (setB (dirN l (headSec l) 12) 64 4 (nth l 16)) 68 4 (nth l 17))) rfl (hat_setRow_at _ _ _ _ _ _ f1) (by simp) rfl ⟨by rw [HR.out]; rfl, below_setRow hb (by omega) _⟩
def rdIno (m : Int) (s : List Int) : List Int := [getB s 0 1, getB s 1 1, getB s 4 4, m] ++ ((List.range 12).map fun j => getB s (16 + 4 * j) 4) ++ [getB s 64 4, getB s 68 4]
theorem rdIno_length (m : Int) (s : List Int) : (rdIno m s).length = 18 := by simp [rdIno]
theorem rdIno_made (m : Int) (s : List Int) : nth (rdIno m s) 3 = m := rfl
open Classical in
noncomputable def rdInoV (s : List Int) : Value :=
 if InoMay (rdIno (getB s 8 8) s) ∧ inoSec (rdIno (getB s 8 8) s) = s then .tuple #[.agg (IV .i64 (rdIno (getB s 8 8) s)), .int .i64 0]
 else .tuple #[.agg (IV .i64 (zl 18)), .int .i64 61]
theorem inoMay_made {l : List Int} (h : InoMay l) : 0 ≤ nth l 3 ∧ nth l 3 ≤ 1099511627776 := by
 by_cases h0 : nth l 0 = 0
 ·rw [(inoMay_zero h0).1 h, zl_get]; omega
 ·exact ((inoMay_else h0).1 h).1.2.2.2
theorem rdInoV_yes {m : Int} {s : List Int} (hm : m = getB s 8 8 ∨ m = -1 ∧ 1099511627776 < getB s 8 8) (h1 : InoMay (rdIno m s)) (h2 : inoSec (rdIno m s) = s) :
  rdInoV s = .tuple #[.agg (IV .i64 (rdIno m s)), .int .i64 0] := by
 rcases hm with rfl | ⟨rfl, -⟩
 ·unfold rdInoV; rw [if_pos ⟨h1, h2⟩]
 ·have := inoMay_made h1
  rw [rdIno_made] at this; omega
theorem rdInoV_no {m : Int} {s : List Int} (hm : m = getB s 8 8 ∨ m = -1 ∧ 1099511627776 < getB s 8 8) (h : ¬ (InoMay (rdIno m s) ∧ inoSec (rdIno m s) = s)) :
  rdInoV s = .tuple #[.agg (IV .i64 (zl 18)), .int .i64 61] := by
 unfold rdInoV
 rw [if_neg]
 rcases hm with rfl | ⟨-, h2⟩
 ·exact h
 ·rintro ⟨h1, -⟩
  have := inoMay_made h1
  rw [rdIno_made] at this; omega
theorem getL_made (s : List Int) : getL s 8 8 = getB s 8 8 ∨ getL s 8 8 = -1 ∧ 1099511627776 < getB s 8 8 := by
 unfold getL
 split
 ·exact .inr ⟨rfl, by omega⟩
 ·exact .inl rfl
theorem getL_small {s : List Int} (hb : Bytes s) (a n : Nat) (hn : n ≤ 7) : getL s a n = getB s a n := by
 unfold getL
 have h1 := getB_lt hb n a
 have h2 := pow7 n hn
 rw [if_neg (by omega)]
def rdN (s : List Int) (n : Nat) : List Int := (List.range n).foldl (fun x j => x.set (fCell j) (getL s (fAt j) (fWd j))) (zl 18)
theorem rdN_succ (s : List Int) (n : Nat) : rdN s (n + 1) = (rdN s n).set (fCell n) (getL s (fAt n) (fWd n)) := by
 unfold rdN; rw [List.range_succ, List.foldl_append]; rfl
@[go_sem, simp] theorem rdN_length (s : List Int) (n : Nat) : (rdN s n).length = 18 := by
 induction n with
 | zero => rfl
 | succ n ih => rw [rdN_succ, List.length_set, ih]
theorem inoTabs : (List.range 18).map (fun j => (fCell j, fAt j, fWd j)) = [(0,0,1),(1,1,1),(2,4,4),(3,8,8),(16,64,4),(17,68,4),(4,16,4),(5,20,4),(6,24,4),(7,28,4),(8,32,4),(9,36,4),(10,40,4),(11,44,4),(12,48,4),(13,52,4),(14,56,4),(15,60,4)] := by decide
theorem rdN_all {s : List Int} (hb : Bytes s) : rdN s 18 = rdIno (getL s 8 8) s := by
 have e : rdN s 18 = [getL s 0 1, getL s 1 1, getL s 4 4, getL s 8 8, getL s 16 4, getL s 20 4, getL s 24 4, getL s 28 4, getL s 32 4, getL s 36 4, getL s 40 4, getL s 44 4, getL s 48 4, getL s 52 4, getL s 56 4, getL s 60 4, getL s 64 4, getL s 68 4] := by
  have e : rdN s 18 = ((List.range 18).map (fun j => (fCell j, fAt j, fWd j))).foldl (fun x (p : Nat × Nat × Nat) => x.set p.1 (getL s p.2.1 p.2.2)) (zl 18) := by
   unfold rdN; rw [List.foldl_map]
  rw [e, inoTabs]
  simp only [List.foldl_cons, List.foldl_nil, zl, List.replicate, List.set_cons_zero, List.set_cons_succ]
 rw [e]
 simp only [getL_small hb _ 1 (by omega), getL_small hb _ 4 (by omega)]
 rfl
theorem lreadInode_any (s : List Int) (hs : s.length = 128) (hb : Bytes s) (w : World) :
  Calls Tryz.prog 73 #[.agg (IV .u8 s)] w fun e w' => e = .returned (rdInoV s) ∧ Below w.heap.size w w' := by
 have HBY := Lib.hid hb
 clear hb
 go_enter Tryz.func73, Tryz.ntmps73
 go_wp2_with fail
 have hb := (((Below.refl w.heap.size w).alloc (Nat.le_refl _) (.cells (IV .u8 s) 47)).alloc (by simp) (.cells (IV .i64 (zl 18)) 78)).alloc (by simp; omega) (.cells (IV .i64 (zl 18)) 78)
 obtain ⟨f1, z1⟩ := hopN w (.cells (IV .u8 s) 47)
 obtain ⟨f1, z1⟩ := hopA _ (.cells (IV .i64 (zl 18)) 78) f1
 obtain ⟨f1, z1⟩ := hopA _ (.cells (IV .i64 (zl 18)) 78) f1
 have f2 : hat (((w.alloc (.cells (IV .u8 s) 47)).alloc (.cells (IV .i64 (zl 18)) 78)).alloc (.cells (IV .i64 (zl 18)) 78)) (w.heap.size + 1) = some (.cells (IV .i64 (zl 18)) 78) := by simp [go_sem]
 have f4 : hat (((w.alloc (.cells (IV .u8 s) 47)).alloc (.cells (IV .i64 (zl 18)) 78)).alloc (.cells (IV .i64 (zl 18)) 78)) (w.heap.size + 1 + 1) = some (.cells (IV .i64 (zl 18)) 78) := by simp [go_sem]
 refine (fields_any _).mono ?_; rintro e w2 ⟨gf, cap, c, cur, rfl, hb2, hgf, ff, hcur, hc⟩
 have hb := below_call hb hb2 hb.size
 obtain ⟨f1, z1⟩ := hop hb2 f1
 obtain ⟨f2, z2⟩ := hop hb2 f2
 obtain ⟨f4, z4⟩ := hop hb2 f4
 have zf := hat_lt ff
 have hgf4 : w.heap.size + 1 + 1 < gf := by simp only [World.size_alloc] at hgf; omega
 clear hb2 hgf
 have hcs : 54 ≤ cur.size := by
  have := congrArg List.length hcur
  rw [frows_length] at this
  simp at this; omega
 have hrow : ∀ k, k < 18 → cur.extract (k * 3) (k * 3 + 3) = #[.int .i64 (fAt k), .int .i64 (fWd k), fFn c k] := by
  intro k hk
  have e := frows_at c 18 k hk
  rw [← hcur] at e
  apply Array.ext'
  have e2 : (cur.toList.drop (k * 3)).take 3 = frow c k := by
   rw [← e, List.drop_take, List.take_take, show min 3 (54 - k * 3) = 3 by omega]
  simp only [Array.toList_extract, List.extract_eq_take_drop, show k * 3 + 3 - k * 3 = 3 by omega, e2]
  rfl
 have HROW := Lib.hid hrow
 have HC := Lib.hid hc
 clear hrow hc hcur
 go_wp2_with fail
 go_loopw [11] (fun i wr => ∃ k : Nat, k ≤ 18 ∧ i = .int .i64 k ∧ hat wr w.heap.size = some (.cells (IV .u8 s) 47) ∧ hat wr (w.heap.size + 1) = some (.cells (IV .i64 (zl 18)) 78) ∧ hat wr (w.heap.size + 1 + 1) = some (.cells (IV .i64 (rdN s k)) 78)
   ∧ hat wr gf = some (.cells cur 178) ∧ (∀ j, j < 12 → hat wr (c j) = some (.cells #[.int .i64 j] 3)) ∧ Below w.heap.size w wr) (fun i _ => 18 - (intOf i).toNat)
 case atStart => exact ⟨0, by omega, rfl, f1, f2, f4, ff, HC.out, hb⟩
 case round =>
  clear f1 f2 f4 ff HC hb z1 z2 z4 zf
  obtain ⟨k, hk, rfl, f1, f2, f4, ff, hc, hb⟩ := hrel
  have HC := Lib.hid hc
  clear hc
  by_cases hkw : k < 18
  ·have hrk := HROW.out k hkw
   have hk3 : k * 3 + 3 ≤ cur.size := by omega
   have z1 := hat_lt f1
   have z2 := hat_lt f2
   have z4 := hat_lt f4
   have hfc := fCell_lt k hkw
   have HK1 := Lib.hid (rdN_succ s k)
   go_wp2_with fail
   have hbn := below_new hb (by omega) (.cells #[.int .i64 (fAt k), .int .i64 (fWd k), fFn c k] 178)
   obtain ⟨f1, z1⟩ := hopA wr (.cells #[.int .i64 (fAt k), .int .i64 (fWd k), fFn c k] 178) f1
   obtain ⟨f2, z2⟩ := hopA wr (.cells #[.int .i64 (fAt k), .int .i64 (fWd k), fFn c k] 178) f2
   obtain ⟨f4, z4⟩ := hopA wr (.cells #[.int .i64 (fAt k), .int .i64 (fWd k), fFn c k] 178) f4
   obtain ⟨ff, zf⟩ := hopA wr (.cells #[.int .i64 (fAt k), .int .i64 (fWd k), fFn c k] 178) ff
   obtain ⟨f6, z6⟩ := hopN wr (.cells #[.int .i64 (fAt k), .int .i64 (fWd k), fFn c k] 178)
   have HC2 := Lib.hid (fun j hj => (hopA wr (.cells #[.int .i64 (fAt k), .int .i64 (fWd k), fFn c k] 178) (HC.out j hj)).1)
   clear hb HC
   generalize wr.alloc (.cells #[.int .i64 (fAt k), .int .i64 (fWd k), fFn c k] 178) = w3 at *
   generalize wr.heap.size = g6 at *
   refine wp_region_vals (by kernel_rfl) 10 (by decide) rfl (fun i => match i with
    | 0 => .pointer (some ⟨g6, 2, none⟩) | 1 => fFn c k | 2 => .pointer (some ⟨w.heap.size + 1 + 1, fCell k, none⟩) | 3 => .agg (IV .u8 s) | 4 => .pointer (some ⟨g6, 0, none⟩) | 5 => .int .i64 (fAt k)
    | 6 => .pointer (some ⟨g6, 1, none⟩) | 7 => .int .i64 (fWd k) | 8 => .int .i64 (getL s (fAt k) (fWd k)) | _ => .pointer (some ⟨w.heap.size + 1 + 1, fCell k, none⟩)) ?_ ?_
   ·intro i o hi ho a' w' hB hS hF
    have hi' : i = 0 ∨ i = 1 ∨ i = 2 ∨ i = 3 ∨ i = 4 ∨ i = 5 ∨ i = 6 ∨ i = 7 ∨ i = 8 ∨ i = 9 := by omega
    have e6 := gtx ((hS 6 (by decide)).trans rfl : gt a' 6 = .pointer (some ⟨g6, 0, none⟩))
    have f6 := (hop hB f6).1
    have f1 := (hop hB f1).1
    rcases hi' with rfl | rfl | rfl | rfl | rfl | rfl | rfl | rfl | rfl | rfl
    all_goals (have ho' := Option.some.inj ho; subst ho')
    ·refine wpOp_val rfl rfl (v := .pointer (some ⟨g6, 2, none⟩)) (w1 := w') ?_ ⟨rfl, hB⟩
     simp [go_sem, e6]
    ·exact wpOp_load_cell 176 cellf (.tmp 15) rfl rfl rfl g6 2 _ _ (hF 0 (by decide) _ 15 rfl rfl) f6 rfl ⟨rfl, hB⟩
    ·have e0 := hF 1 (by decide) _ 16 rfl rfl
     have e1 := ((hS 4 (by decide)).trans rfl : gt a' 4 = .pointer (some ⟨w.heap.size + 1 + 1, 0, none⟩))
     obtain ⟨f, args, hr, hcall⟩ := fFn_call c k hkw (w.heap.size + 1 + 1) w' (fun j hj => (hop hB (HC2.out j hj)).1)
     refine wpOp_call rfl rfl (hr _ 16 4 _ _ _ _ _ e0 e1) hcall ?_
     rintro e w'' ⟨rfl, hb'⟩
     exact ⟨_, rfl, rfl, below_call hB hb' hB.size⟩
    ·exact wpOp_load_row 47 128 row47 (.tmp 1) rfl rfl rfl w.heap.size _ ((hS 1 (by decide)).trans rfl) f1 (by simp [hs]) ⟨rfl, hB⟩
    ·refine wpOp_val rfl rfl (v := .pointer (some ⟨g6, 0, none⟩)) (w1 := w') ?_ ⟨rfl, hB⟩
     simp [go_sem, e6]
    ·exact wpOp_load_cell 3 celli (.tmp 19) rfl rfl rfl g6 0 _ _ (hF 4 (by decide) _ 19 rfl rfl) f6 rfl ⟨rfl, hB⟩
    ·refine wpOp_val rfl rfl (v := .pointer (some ⟨g6, 1, none⟩)) (w1 := w') ?_ ⟨rfl, hB⟩
     simp [go_sem, e6]
    ·exact wpOp_load_cell 3 celli (.tmp 21) rfl rfl rfl g6 1 _ _ (hF 6 (by decide) _ 21 rfl rfl) f6 rfl ⟨rfl, hB⟩
    ·have e0 := gtx (hF 3 (by decide) _ 18 rfl rfl)
     have e1 := gtx (hF 5 (by decide) _ 20 rfl rfl)
     have e2 := gtx (hF 7 (by decide) _ 22 rfl rfl)
     refine wpOp_call (f := 71) (args := #[.agg (IV .u8 s), .int .i64 (fAt k), .int .i64 (fWd k)]) rfl rfl (by simp [go_sem, e0, e1, e2])
      (lget_any s hs HBY.out (fAt k) (fWd k) w' (fWd_pos k).1 (fWd_pos k).2 (fAt_le k hkw)) ?_
     rintro e w'' ⟨rfl, hb'⟩
     exact ⟨_, rfl, rfl, below_call hB hb' hB.size⟩
    ·have e0 := gtx (hF 2 (by decide) _ 17 rfl rfl)
     refine wpOp_val rfl rfl (v := .pointer (some ⟨w.heap.size + 1 + 1, fCell k, none⟩)) (w1 := w') ?_ ⟨rfl, hB⟩
     simp [go_sem, e0]
   ·intro w' hB
    obtain ⟨f1, z1⟩ := hop hB f1
    obtain ⟨f2, z2⟩ := hop hB f2
    obtain ⟨f4, z4⟩ := hop hB f4
    obtain ⟨ff, zf⟩ := hop hB ff
    have HC3 := Lib.hid (fun j hj => (hop hB (HC2.out j hj)).1)
    have hb := below_call hbn hB hbn.size
    clear hB HC2 f6 hbn
    simp only [putAll, List.take, List.drop, List.take_succ_cons, List.drop_succ_cons, Act.put, List.setIfInBounds_toArray, List.set_cons_zero, List.set_cons_succ]
    go_wp2_with fail
    go_roundw
    case rel =>
     refine ⟨k + 1, by omega, by go_num, (hopCo f1 _ _ _ (by omega)).1, (hopCo f2 _ _ _ (by omega)).1, by rw [HK1.out]; exact (hopC f4 _ _).1, (hopCo ff _ _ _ (by omega)).1, fun j hj => ?_, hb.setCell (by simp; omega) _⟩
     have := HC3.out j hj
     refine (hopCo this _ _ _ ?_).1
     intro e
     rw [e, f4] at this
     simp at this
    case measure => (show 18 - (k + 1) < 18 - k); omega
  ·obtain rfl : k = 18 := by omega
   have ea := rdN_all HBY.out
   rw [ea] at f4
   clear ea
   have hml := rdIno_length (getL s 8 8) s
   have HM := Lib.hid (getL_made s)
   have z1 := hat_lt f1
   have z2 := hat_lt f2
   have z4 := hat_lt f4
   have hbw := hb
   by_cases hm : InoMay (rdIno (getL s 8 8) s)
   ·go_wp2_with fail
    refine (linodeSector_ok _ hml hm _).mono ?_; rintro e w3 ⟨rfl, hb3⟩
    have hbw := below_call hbw hb3 hbw.size
    obtain ⟨f1, z1⟩ := hop hb3 f1
    obtain ⟨f2, z2⟩ := hop hb3 f2
    obtain ⟨f4, z4⟩ := hop hb3 f4
    have hsl : (inoSec (rdIno (getL s 8 8) s)).length = 128 := inoSecN_length _ _
    clear hb3
    by_cases he : inoSec (rdIno (getL s 8 8) s) = s
    ·have HD := Lib.hid (rdInoV_yes HM.out hm he)
     have he' : decide (inoSec (rdIno (getL s 8 8) s) = s) = true := by simpa using he
     clear he hm
     go_wp2_with fail
     exact ret_ct row78 rfl (cs := IV .i64 (rdIno (getL s 8 8) s)) rfl (hopA _ _ (hopS f2 _).1).1 (by simp [hml]) rfl ⟨by rw [HD.out]; rfl, below_new (below_setRow hbw (by omega) _) (by simp; omega) _⟩
    ·have HD := Lib.hid (rdInoV_no HM.out (fun h => he h.2))
     clear hm
     go_wp2_with fail
     exact ret_ct row78 rfl (cs := IV .i64 (zl 18)) rfl (hopA _ _ (hopS f2 _).1).1 (by simp) rfl ⟨by rw [HD.out]; rfl, below_new (below_setRow hbw (by omega) _) (by simp; omega) _⟩
   ·have HD := Lib.hid (rdInoV_no HM.out (fun h => hm h.1))
    have HMM := Lib.hid hm
    clear hm
    go_wp2_with fail
    refine (linodeSector_no _ hml HMM.out _).mono ?_; rintro e w3 ⟨rfl, hb3⟩
    have hbw := below_call hbw hb3 hbw.size
    obtain ⟨f1, z1⟩ := hop hb3 f1
    obtain ⟨f2, z2⟩ := hop hb3 f2
    obtain ⟨f4, z4⟩ := hop hb3 f4
    clear hb3
    go_wp2_with fail
    exact ret_ct row78 rfl (cs := IV .i64 (zl 18)) rfl (hopA _ _ (hopS f2 _).1).1 (by simp) rfl ⟨by rw [HD.out]; rfl, below_new (below_setRow hbw (by omega) _) (by simp; omega) _⟩
def sayM (s : List Int) : Int := if nth s 15 = 0 then getB s 8 8 else -1
theorem sayM_made {s : List Int} (hb : Bytes s) : sayM s = getB s 8 8 ∨ sayM s = -1 ∧ 1099511627776 < getB s 8 8 := by
 unfold sayM
 split
 ·exact .inl rfl
 ·rename_i h
  refine .inr ⟨rfl, ?_⟩
  have h1 := getB_snoc s 7 8
  have h2 := getB_nonneg hb 7 8
  have h3 := hb.at 15
  have h4 : (256 : Int) ^ 7 = 72057594037927936 := by decide
  rw [h4] at h1
  show _ < getB s 8 (7 + 1)
  rw [h1]
  show 1099511627776 < getB s 8 7 + 72057594037927936 * nth s 15
  omega
theorem says8 (s : List Int) (hs : s.length = 128) (hb : Bytes s) (w : World) :
  Calls Tryz.prog 57 #[.agg (IV .u8 s), .int .i64 8, .int .i64 8] w fun e w' => e = .returned (.int .i64 (sayM s)) ∧ Below w.heap.size w w' := by
 unfold sayM
 split
 ·rename_i h; exact says_ok s hs hb 8 8 w (by omega) (by omega) (fun _ => h)
 ·rename_i h; exact says_big s hs hb 8 w (by omega) h
def baseI (m : Int) (s : List Int) : List Int := (((((((zl 18).set 0 (getB s 0 1)).set 1 (getB s 1 1)).set 2 (getB s 4 4)).set 3 m).set 16 (getB s 64 4)).set 17 (getB s 68 4))
theorem baseI_length (m : Int) (s : List Int) : (baseI m s).length = 18 := rfl
def fillD (m : Int) (s : List Int) (n : Nat) : List Int := (List.range n).foldl (fun x j => x.set (4 + j) (getB s (16 + 4 * j) 4)) (baseI m s)
theorem fillD_succ (m : Int) (s : List Int) (n : Nat) : fillD m s (n + 1) = (fillD m s n).set (4 + n) (getB s (16 + 4 * n) 4) := by
 unfold fillD; rw [List.range_succ, List.foldl_append]; rfl
@[go_sem, simp] theorem fillD_length (m : Int) (s : List Int) (n : Nat) : (fillD m s n).length = 18 := by
 induction n with
 | zero => rfl
 | succ n ih => rw [fillD_succ, List.length_set, ih]
theorem fillD_all (m : Int) (s : List Int) : fillD m s 12 = rdIno m s := by
 have e : fillD m s 12 = ((List.range 12).map (fun j => (4 + j, 16 + 4 * j))).foldl (fun x (p : Nat × Nat) => x.set p.1 (getB s p.2 4)) (baseI m s) := by
  unfold fillD; rw [List.foldl_map]
 have t : (List.range 12).map (fun j => (4 + j, 16 + 4 * j)) = [(4,16),(5,20),(6,24),(7,28),(8,32),(9,36),(10,40),(11,44),(12,48),(13,52),(14,56),(15,60)] := by decide
 rw [e, t]
 simp only [List.foldl_cons, List.foldl_nil, baseI, zl, List.replicate, List.set_cons_zero, List.set_cons_succ]
 rfl
theorem rreadInode_any (s : List Int) (hs : s.length = 128) (hb : Bytes s) (w : World) :
  Calls Tryz.prog 38 #[.agg (IV .u8 s)] w fun e w' => e = .returned (rdInoV s) ∧ Below w.heap.size w w' := by
 have HBY := Lib.hid hb
 clear hb
 go_enter Tryz.func38, Tryz.ntmps38
 go_wp2_with fail
 have hbw := ((Below.refl w.heap.size w).alloc (Nat.le_refl _) (.cells (IV .u8 s) 47)).alloc (by simp) (.cells (IV .i64 (zl 18)) 78)
 have f1 : hat ((w.alloc (.cells (IV .u8 s) 47)).alloc (.cells (IV .i64 (zl 18)) 78)) w.heap.size = some (.cells (IV .u8 s) 47) := by simp [go_sem]
 have f2 : hat ((w.alloc (.cells (IV .u8 s) 47)).alloc (.cells (IV .i64 (zl 18)) 78)) (w.heap.size + 1) = some (.cells (IV .i64 (zl 18)) 78) := by simp [go_sem]
 have hz1 := hat_lt f2
 generalize (w.alloc (.cells (IV .u8 s) 47)).alloc (.cells (IV .i64 (zl 18)) 78) = w1 at *
 refine wp_region_G (by kernel_rfl) 14 (by decide) rfl (fun w' => Below w1.heap.size w1 w') (fun w w' => Below w.heap.size w w')
  (fun i v w' => match i with
   | 0 => v = .agg (IV .u8 s)
   | 1 => v = .int .i64 (getB s 0 1)
   | 2 => v = .agg (IV .u8 s)
   | 3 => v = .int .i64 (getB s 1 1)
   | 4 => v = .agg (IV .u8 s)
   | 5 => v = .int .i64 (getB s 4 4)
   | 6 => v = .agg (IV .u8 s)
   | 7 => v = .int .i64 (sayM s)
   | 8 => v = .agg (IV .u8 s)
   | 9 => v = .int .i64 (getB s 64 4)
   | 10 => v = .agg (IV .u8 s)
   | 11 => v = .int .i64 (getB s 68 4)
   | 12 => v = .agg (IV .i64 (baseI (sayM s) s))
   | _ => ∃ g, v = .pointer (some ⟨g, 0, none⟩) ∧ w1.heap.size ≤ g ∧ hat w' g = some (.cells (IV .i64 (zl 18)) 78)) ((Below.refl _ _).drew) ?_ ?_ ?_
 ·intro i v wa wb hi _ _ hE hG
  have hi' : i = 0 ∨ i = 1 ∨ i = 2 ∨ i = 3 ∨ i = 4 ∨ i = 5 ∨ i = 6 ∨ i = 7 ∨ i = 8 ∨ i = 9 ∨ i = 10 ∨ i = 11 ∨ i = 12 ∨ i = 13 := by omega
  rcases hi' with rfl | rfl | rfl | rfl | rfl | rfl | rfl | rfl | rfl | rfl | rfl | rfl | rfl | rfl <;> try exact hG
  obtain ⟨g, h1, h2, h3⟩ := hG
  exact ⟨g, h1, h2, (hop hE h3).1⟩
 ·intro i o hi ho a' w' hB hS hF
  have hi' : i = 0 ∨ i = 1 ∨ i = 2 ∨ i = 3 ∨ i = 4 ∨ i = 5 ∨ i = 6 ∨ i = 7 ∨ i = 8 ∨ i = 9 ∨ i = 10 ∨ i = 11 ∨ i = 12 ∨ i = 13 := by omega
  have f1 := (hop hB f1).1
  rcases hi' with rfl | rfl | rfl | rfl | rfl | rfl | rfl | rfl | rfl | rfl | rfl | rfl | rfl | rfl
  all_goals (have ho' := Option.some.inj ho; subst ho')
  ·exact wpOp_load_row 47 128 row47 (.tmp 1) rfl rfl rfl w.heap.size _ ((hS 1 (by decide)).trans rfl) f1 (by simp [hs]) ⟨_, rfl, hB, Below.refl _ _, rfl⟩
  ·have e0 := gtx (hF 0 (by decide) _ 8 rfl rfl)
   refine wpOp_call (f := 57) (args := #[.agg (IV .u8 s), .int .i64 0, .int .i64 1]) rfl rfl (by simp [go_sem, e0]) (says_ok s hs HBY.out 0 1 w' (by omega) (by omega) (by omega)) ?_
   rintro e w'' ⟨rfl, hb'⟩
   exact ⟨_, rfl, _, rfl, below_call hB hb' hB.size, hb', rfl⟩
  ·exact wpOp_load_row 47 128 row47 (.tmp 1) rfl rfl rfl w.heap.size _ ((hS 1 (by decide)).trans rfl) f1 (by simp [hs]) ⟨_, rfl, hB, Below.refl _ _, rfl⟩
  ·have e0 := gtx (hF 2 (by decide) _ 10 rfl rfl)
   refine wpOp_call (f := 57) (args := #[.agg (IV .u8 s), .int .i64 1, .int .i64 1]) rfl rfl (by simp [go_sem, e0]) (says_ok s hs HBY.out 1 1 w' (by omega) (by omega) (by omega)) ?_
   rintro e w'' ⟨rfl, hb'⟩
   exact ⟨_, rfl, _, rfl, below_call hB hb' hB.size, hb', rfl⟩
  ·exact wpOp_load_row 47 128 row47 (.tmp 1) rfl rfl rfl w.heap.size _ ((hS 1 (by decide)).trans rfl) f1 (by simp [hs]) ⟨_, rfl, hB, Below.refl _ _, rfl⟩
  ·have e0 := gtx (hF 4 (by decide) _ 12 rfl rfl)
   refine wpOp_call (f := 57) (args := #[.agg (IV .u8 s), .int .i64 4, .int .i64 4]) rfl rfl (by simp [go_sem, e0]) (says_ok s hs HBY.out 4 4 w' (by omega) (by omega) (by omega)) ?_
   rintro e w'' ⟨rfl, hb'⟩
   exact ⟨_, rfl, _, rfl, below_call hB hb' hB.size, hb', rfl⟩
  ·exact wpOp_load_row 47 128 row47 (.tmp 1) rfl rfl rfl w.heap.size _ ((hS 1 (by decide)).trans rfl) f1 (by simp [hs]) ⟨_, rfl, hB, Below.refl _ _, rfl⟩
  ·have e0 := gtx (hF 6 (by decide) _ 14 rfl rfl)
   refine wpOp_call (f := 57) (args := #[.agg (IV .u8 s), .int .i64 8, .int .i64 8]) rfl rfl (by simp [go_sem, e0]) (says8 s hs HBY.out w') ?_
   rintro e w'' ⟨rfl, hb'⟩
   exact ⟨_, rfl, _, rfl, below_call hB hb' hB.size, hb', rfl⟩
  ·exact wpOp_load_row 47 128 row47 (.tmp 1) rfl rfl rfl w.heap.size _ ((hS 1 (by decide)).trans rfl) f1 (by simp [hs]) ⟨_, rfl, hB, Below.refl _ _, rfl⟩
  ·have e0 := gtx (hF 8 (by decide) _ 16 rfl rfl)
   refine wpOp_call (f := 57) (args := #[.agg (IV .u8 s), .int .i64 64, .int .i64 4]) rfl rfl (by simp [go_sem, e0]) (says_ok s hs HBY.out 64 4 w' (by omega) (by omega) (by omega)) ?_
   rintro e w'' ⟨rfl, hb'⟩
   exact ⟨_, rfl, _, rfl, below_call hB hb' hB.size, hb', rfl⟩
  ·exact wpOp_load_row 47 128 row47 (.tmp 1) rfl rfl rfl w.heap.size _ ((hS 1 (by decide)).trans rfl) f1 (by simp [hs]) ⟨_, rfl, hB, Below.refl _ _, rfl⟩
  ·have e0 := gtx (hF 10 (by decide) _ 18 rfl rfl)
   refine wpOp_call (f := 57) (args := #[.agg (IV .u8 s), .int .i64 68, .int .i64 4]) rfl rfl (by simp [go_sem, e0]) (says_ok s hs HBY.out 68 4 w' (by omega) (by omega) (by omega)) ?_
   rintro e w'' ⟨rfl, hb'⟩
   exact ⟨_, rfl, _, rfl, below_call hB hb' hB.size, hb', rfl⟩
  ·have e1 := gtx (hF 1 (by decide) _ 9 rfl rfl)
   have e3 := gtx (hF 3 (by decide) _ 11 rfl rfl)
   have e5 := gtx (hF 5 (by decide) _ 13 rfl rfl)
   have e7 := gtx (hF 7 (by decide) _ 15 rfl rfl)
   have e9 := gtx (hF 9 (by decide) _ 17 rfl rfl)
   have e11 := gtx (hF 11 (by decide) _ 19 rfl rfl)
   refine wpOp_val rfl rfl (v := .agg (IV .i64 (baseI (sayM s) s))) (w1 := w') ?_ ⟨_, rfl, hB, Below.refl _ _, rfl⟩
   simp [go_sem, e1, e3, e5, e7, e9, e11, baseI, IV_ne .i64 (zl 18) 17 rfl]
  ·refine wpOp_val rfl rfl (v := .pointer (some ⟨w'.heap.size, 0, none⟩)) (w1 := w'.alloc (.cells (IV .i64 (zl 18)) 78)) ?_ ⟨_, rfl, below_new hB hB.size _, (Below.refl _ _).alloc (Nat.le_refl _) _, w'.heap.size, rfl, hB.size, (hopN _ _).1⟩
   simp [go_sem]
 ·intro val w2 hB hF
  have e0 := hF 0 _ 8 (by decide) rfl rfl
  have e1 := hF 1 _ 9 (by decide) rfl rfl
  have e2 := hF 2 _ 10 (by decide) rfl rfl
  have e3 := hF 3 _ 11 (by decide) rfl rfl
  have e4 := hF 4 _ 12 (by decide) rfl rfl
  have e5 := hF 5 _ 13 (by decide) rfl rfl
  have e6 := hF 6 _ 14 (by decide) rfl rfl
  have e7 := hF 7 _ 15 (by decide) rfl rfl
  have e8 := hF 8 _ 16 (by decide) rfl rfl
  have e9 := hF 9 _ 17 (by decide) rfl rfl
  have e10 := hF 10 _ 18 (by decide) rfl rfl
  have e11 := hF 11 _ 19 (by decide) rfl rfl
  have e12 := hF 12 _ 20 (by decide) rfl rfl
  obtain ⟨g, e13, hg, f4⟩ := hF 13 _ 4 (by decide) rfl rfl
  simp only [] at e0 e1 e2 e3 e4 e5 e6 e7 e8 e9 e10 e11 e12
  obtain ⟨f1, z1⟩ := hop hB f1
  obtain ⟨f2, z2⟩ := hop hB f2
  have hb := below_call hbw hB hbw.size
  have hg1 : w.heap.size + 1 < g := by omega
  have hbl := baseI_length (sayM s) s
  clear hF hB hbw
  simp only [putAll, List.take, List.drop, List.take_succ_cons, List.drop_succ_cons, e0, e1, e2, e3, e4, e5, e6, e7, e8, e9, e10, e11, e12, e13, Act.put, List.setIfInBounds_toArray, List.set_cons_zero, List.set_cons_succ]
  clear e0 e1 e2 e3 e4 e5 e6 e7 e8 e9 e10 e11 e12 e13
  go_wp2_with fail
  obtain ⟨f1, z1⟩ := hopR f1 g (IV .i64 (baseI (sayM s) s)) (by omega)
  obtain ⟨f2, z2⟩ := hopR f2 g (IV .i64 (baseI (sayM s) s)) (by omega)
  obtain ⟨f4, z4⟩ := hopS f4 (IV .i64 (baseI (sayM s) s))
  have hb := below_setRow hb (g := g) (by omega) (IV .i64 (baseI (sayM s) s))
  go_loopw [5] (fun i wr => ∃ k : Nat, k ≤ 12 ∧ i = .int .i64 k ∧ hat wr w.heap.size = some (.cells (IV .u8 s) 47) ∧ hat wr (w.heap.size + 1) = some (.cells (IV .i64 (zl 18)) 78) ∧ hat wr g = some (.cells (IV .i64 (fillD (sayM s) s k)) 78)
   ∧ Below w.heap.size w wr) (fun i _ => 12 - (intOf i).toNat)
  case atStart => exact ⟨0, by omega, rfl, f1, f2, f4, hb⟩
  case round =>
   clear f1 f2 f4 hb z1 z2 z4
   obtain ⟨k, hk, rfl, f1, f2, f4, hb⟩ := hrel
   have z1 := hat_lt f1
   have z2 := hat_lt f2
   have z4 := hat_lt f4
   by_cases hkw : k < 12
   ·have hk18 : 4 + k < 18 := by omega
    have HK1 := Lib.hid (fillD_succ (sayM s) s k)
    have HC := Lib.hid (fun (wx : World) => says_ok s hs HBY.out (16 + 4 * k) 4 wx (by omega) (by omega) (by omega))
    go_wp2_with fail
    refine (HC.out _).mono ?_; rintro e w3 ⟨rfl, hb3⟩
    have hb := below_call hb hb3 hb.size
    obtain ⟨f1, z1⟩ := hop hb3 f1
    obtain ⟨f2, z2⟩ := hop hb3 f2
    obtain ⟨f4, z4⟩ := hop hb3 f4
    clear hb3
    go_wp2_with fail
    go_roundw
    case rel => exact ⟨k + 1, by omega, by go_num, (hopCo f1 _ _ _ (by omega)).1, (hopCo f2 _ _ _ (by omega)).1, by rw [HK1.out]; exact (hopC f4 _ _).1, hb.setCell (by simp; omega) _⟩
    case measure => (show 12 - (k + 1) < 12 - k); omega
   ·obtain rfl : k = 12 := by omega
    rw [fillD_all] at f4
    have hml := rdIno_length (sayM s) s
    have HM := Lib.hid (sayM_made HBY.out)
    have z1 := hat_lt f1
    have z2 := hat_lt f2
    have z4 := hat_lt f4
    have hbw := hb
    by_cases hm : InoMay (rdIno (sayM s) s)
    ·go_wp2_with fail
     refine (rinodeSector_ok _ hml hm _).mono ?_; rintro e w3 ⟨rfl, hb3⟩
     have hbw := below_call hbw hb3 hbw.size
     obtain ⟨f1, z1⟩ := hop hb3 f1
     obtain ⟨f2, z2⟩ := hop hb3 f2
     obtain ⟨f4, z4⟩ := hop hb3 f4
     have hsl : (inoSec (rdIno (sayM s) s)).length = 128 := inoSecN_length _ _
     clear hb3
     by_cases he : inoSec (rdIno (sayM s) s) = s
     ·have HD := Lib.hid (rdInoV_yes HM.out hm he)
      have he' : decide (inoSec (rdIno (sayM s) s) = s) = true := by simpa using he
      clear he hm
      go_wp2_with fail
      exact ret_ct row78 rfl (cs := IV .i64 (rdIno (sayM s) s)) rfl (hopA _ _ (hopS f2 _).1).1 (by simp [hml]) rfl ⟨by rw [HD.out]; rfl, below_new (below_setRow hbw (by omega) _) (by simp; omega) _⟩
     ·have HD := Lib.hid (rdInoV_no HM.out (fun h => he h.2))
      clear hm
      go_wp2_with fail
      exact ret_ct row78 rfl (cs := IV .i64 (zl 18)) rfl (hopA _ _ (hopS f2 _).1).1 (by simp) rfl ⟨by rw [HD.out]; rfl, below_new (below_setRow hbw (by omega) _) (by simp; omega) _⟩
    ·have HD := Lib.hid (rdInoV_no HM.out (fun h => hm h.1))
     have HMM := Lib.hid hm
     clear hm
     go_wp2_with fail
     refine (rinodeSector_no _ hml HMM.out _).mono ?_; rintro e w3 ⟨rfl, hb3⟩
     have hbw := below_call hbw hb3 hbw.size
     obtain ⟨f1, z1⟩ := hop hb3 f1
     obtain ⟨f2, z2⟩ := hop hb3 f2
     obtain ⟨f4, z4⟩ := hop hb3 f4
     clear hb3
     go_wp2_with fail
     exact ret_ct row78 rfl (cs := IV .i64 (zl 18)) rfl (hopA _ _ (hopS f2 _).1).1 (by simp) rfl ⟨by rw [HD.out]; rfl, below_new (below_setRow hbw (by omega) _) (by simp; omega) _⟩
def PtrMay (x : List Int) : Prop := ∀ j, j < 32 → 0 ≤ nth x j ∧ nth x j ≤ 4294967295
def ptrSecN (x : List Int) (n : Nat) : List Int := (List.range n).foldl (fun s j => setB s (4 * j) 4 (nth x j)) (zl 128)
theorem ptrSecN_succ (x : List Int) (n : Nat) : ptrSecN x (n + 1) = setB (ptrSecN x n) (4 * n) 4 (nth x n) := by
 unfold ptrSecN; rw [List.range_succ, List.foldl_append]; rfl
@[go_sem, simp] theorem ptrSecN_length (x : List Int) (n : Nat) : (ptrSecN x n).length = 128 := by
 induction n with
 | zero => rfl
 | succ n ih => rw [ptrSecN_succ, setB_length, ih]
open Classical in
noncomputable def ptrV (x : List Int) : Value :=
 if PtrMay x then .tuple #[.agg (IV .u8 (ptrSecN x 32)), .int .i64 0] else .tuple #[.agg (IV .u8 (zl 128)), .int .i64 62]
theorem ptrV_yes {x : List Int} (h : PtrMay x) : ptrV x = .tuple #[.agg (IV .u8 (ptrSecN x 32)), .int .i64 0] := by unfold ptrV; rw [if_pos h]
theorem ptrV_no {x : List Int} (h : ¬ PtrMay x) : ptrV x = .tuple #[.agg (IV .u8 (zl 128)), .int .i64 62] := by unfold ptrV; rw [if_neg h]
def rdPtr (s : List Int) : List Int := (List.range 32).map fun i => getB s (4 * i) 4
@[go_sem, simp] theorem rdPtr_length (s : List Int) : (rdPtr s).length = 32 := by simp [rdPtr]
def rdPtrN (s : List Int) (n : Nat) : List Int := (List.range n).foldl (fun x j => x.set j (getB s (4 * j) 4)) (zl 32)
theorem rdPtrN_succ (s : List Int) (n : Nat) : rdPtrN s (n + 1) = (rdPtrN s n).set n (getB s (4 * n) 4) := by
 unfold rdPtrN; rw [List.range_succ, List.foldl_append]; rfl
@[go_sem, simp] theorem rdPtrN_length (s : List Int) (n : Nat) : (rdPtrN s n).length = 32 := by
 induction n with
 | zero => rfl
 | succ n ih => rw [rdPtrN_succ, List.length_set, ih]
theorem rdPtrN_nth (s : List Int) (n j : Nat) (hn : n ≤ 32) : nth (rdPtrN s n) j = if j < n then getB s (4 * j) 4 else 0 := by
 induction n with
 | zero => simp [rdPtrN, zl_get]
 | succ n ih =>
  rw [rdPtrN_succ, nth_set (by simp; omega), ih (by omega)]
  by_cases h : j = n
  ·subst h; simp
  ·rw [if_neg h]
   by_cases h2 : j < n
   ·rw [if_pos h2, if_pos (by omega)]
   ·rw [if_neg h2, if_neg (by omega)]
theorem rdPtr_nth (s : List Int) (j : Nat) (hj : j < 32) : nth (rdPtr s) j = getB s (4 * j) 4 := by
 simp [rdPtr, nth, hj]
theorem rdPtrN_all (s : List Int) : rdPtrN s 32 = rdPtr s := by
 refine nth_ext (by simp) (fun j hj => ?_)
 simp at hj
 rw [rdPtrN_nth _ _ _ (by omega), if_pos hj, rdPtr_nth _ _ hj]
theorem lpointersSector_any (x : List Int) (hx : x.length = 32) (w : World) :
  Calls Tryz.prog 111 #[.agg (IV .i64 x)] w fun e w' => e = .returned (ptrV x) ∧ Below w.heap.size w w' := by
 go_enter Tryz.func111, Tryz.ntmps111
 go_wp2_with fail
 have hb := (((Below.refl w.heap.size w).alloc (Nat.le_refl _) (.cells (IV .i64 x) 119)).alloc (by simp) (.cells (IV .u8 (zl 128)) 47)).alloc (by simp; omega) (.cells (IV .u8 (zl 128)) 47)
 have f1 : hat (((w.alloc (.cells (IV .i64 x) 119)).alloc (.cells (IV .u8 (zl 128)) 47)).alloc (.cells (IV .u8 (zl 128)) 47)) w.heap.size = some (.cells (IV .i64 x) 119) := by simp [go_sem]
 have f2 : hat (((w.alloc (.cells (IV .i64 x) 119)).alloc (.cells (IV .u8 (zl 128)) 47)).alloc (.cells (IV .u8 (zl 128)) 47)) (w.heap.size + 1) = some (.cells (IV .u8 (zl 128)) 47) := by simp [go_sem]
 have f4 : hat (((w.alloc (.cells (IV .i64 x) 119)).alloc (.cells (IV .u8 (zl 128)) 47)).alloc (.cells (IV .u8 (zl 128)) 47)) (w.heap.size + 1 + 1) = some (.cells (IV .u8 (zl 128)) 47) := by simp [go_sem]
 go_loopw [8] (fun i wr => ∃ k : Nat, k ≤ 32 ∧ i = .int .i64 k ∧ (∀ j, j < k → 0 ≤ nth x j ∧ nth x j ≤ 4294967295) ∧ hat wr w.heap.size = some (.cells (IV .i64 x) 119) ∧ hat wr (w.heap.size + 1) = some (.cells (IV .u8 (zl 128)) 47)
   ∧ hat wr (w.heap.size + 1 + 1) = some (.cells (IV .u8 (ptrSecN x k)) 47) ∧ Below w.heap.size w wr) (fun i _ => 32 - (intOf i).toNat)
 case atStart => exact ⟨0, by omega, rfl, fun j hj => by omega, f1, f2, f4, hb⟩
 case round =>
  clear f1 f2 f4 hb
  obtain ⟨k, hk, rfl, hok, f1, f2, f4, hb⟩ := hrel
  have HOK := Lib.hid hok
  clear hok
  have z1 := hat_lt f1
  have z2 := hat_lt f2
  have z4 := hat_lt f4
  by_cases hkw : k < 32
  ·by_cases hp : 0 ≤ nth x k ∧ nth x k ≤ 4294967295
   ·have HP := Lib.hid hp
    have HK1 := Lib.hid (ptrSecN_succ x k)
    obtain ⟨p0, p1⟩ := hp
    go_wp2_with fail
    refine (lwithin_yes _ _ _ _ HP.out).mono ?_; rintro e w' ⟨rfl, rfl⟩
    go_wp2_with fail
    refine (put_ok (ptrSecN x k) (by simp) (4 * k) 4 (nth x k) _ (by omega) (by omega) (by omega) p0 (by omega) (fun _ => by omega)).mono ?_; rintro e w3 ⟨rfl, hb3⟩
    have hb := below_call hb hb3 hb.size
    obtain ⟨f1, z1⟩ := hop hb3 f1
    obtain ⟨f2, z2⟩ := hop hb3 f2
    obtain ⟨f4, z4⟩ := hop hb3 f4
    clear hb3
    go_wp2_with fail
    go_roundw
    case rel => exact ⟨k + 1, by omega, by go_num, fun j hj => (by by_cases h : j = k; (subst h; exact HP.out); exact HOK.out j (by omega)), (hopR f1 _ _ (by omega)).1, (hopR f2 _ _ (by omega)).1, by rw [HK1.out]; exact (hopS f4 _).1, below_setRow hb (by omega) _⟩
    case measure => (show 32 - (k + 1) < 32 - k); omega
   ·have HP := Lib.hid hp
    have HV := Lib.hid (ptrV_no (x := x) (fun h => hp (h k hkw)))
    clear hp
    go_wp2_with fail
    refine (lwithin_no _ _ _ _ HP.out).mono ?_; rintro e w' ⟨rfl, rfl⟩
    go_wp2_with fail
    exact ret_ct row47 rfl (cs := IV .u8 (zl 128)) rfl (hat_setRow_at _ _ _ _ _ _ f2) (by simp) rfl ⟨by rw [HV.out]; rfl, below_setRow hb (by omega) _⟩
  ·obtain rfl : k = 32 := by omega
   have HV := Lib.hid (ptrV_yes (x := x) HOK.out)
   go_wp2_with fail
   exact ret_ct row47 rfl (cs := IV .u8 (ptrSecN x 32)) rfl (hat_setRow_at _ _ _ _ _ _ f2) (by simp) rfl ⟨by rw [HV.out]; rfl, below_setRow hb (by omega) _⟩
theorem lreadPointers_any (s : List Int) (hs : s.length = 128) (hb : Bytes s) (w : World) :
  Calls Tryz.prog 110 #[.agg (IV .u8 s)] w fun e w' => e = .returned (.agg (IV .i64 (rdPtr s))) ∧ Below w.heap.size w w' := by
 have HBY := Lib.hid hb
 clear hb
 go_enter Tryz.func110, Tryz.ntmps110
 go_wp2_with fail
 have hb := (((Below.refl w.heap.size w).alloc (Nat.le_refl _) (.cells (IV .u8 s) 47)).alloc (by simp) (.cells (IV .i64 (zl 32)) 119)).alloc (by simp; omega) (.cells (IV .i64 (zl 32)) 119)
 have f1 : hat (((w.alloc (.cells (IV .u8 s) 47)).alloc (.cells (IV .i64 (zl 32)) 119)).alloc (.cells (IV .i64 (zl 32)) 119)) w.heap.size = some (.cells (IV .u8 s) 47) := by simp [go_sem]
 have f2 : hat (((w.alloc (.cells (IV .u8 s) 47)).alloc (.cells (IV .i64 (zl 32)) 119)).alloc (.cells (IV .i64 (zl 32)) 119)) (w.heap.size + 1) = some (.cells (IV .i64 (zl 32)) 119) := by simp [go_sem]
 have f4 : hat (((w.alloc (.cells (IV .u8 s) 47)).alloc (.cells (IV .i64 (zl 32)) 119)).alloc (.cells (IV .i64 (zl 32)) 119)) (w.heap.size + 1 + 1) = some (.cells (IV .i64 (zl 32)) 119) := by simp [go_sem]
 go_loopw [5] (fun i wr => ∃ k : Nat, k ≤ 32 ∧ i = .int .i64 k ∧ hat wr w.heap.size = some (.cells (IV .u8 s) 47) ∧ hat wr (w.heap.size + 1) = some (.cells (IV .i64 (zl 32)) 119)
   ∧ hat wr (w.heap.size + 1 + 1) = some (.cells (IV .i64 (rdPtrN s k)) 119) ∧ Below w.heap.size w wr) (fun i _ => 32 - (intOf i).toNat)
 case atStart => exact ⟨0, by omega, rfl, f1, f2, f4, hb⟩
 case round =>
  clear f1 f2 f4 hb
  obtain ⟨k, hk, rfl, f1, f2, f4, hb⟩ := hrel
  have z1 := hat_lt f1
  have z2 := hat_lt f2
  have z4 := hat_lt f4
  by_cases hkw : k < 32
  ·have HK1 := Lib.hid (rdPtrN_succ s k)
   have HC := Lib.hid (fun (wx : World) => lget4 s hs HBY.out (4 * k) wx (by omega))
   go_wp2_with fail
   refine (HC.out _).mono ?_; rintro e w3 ⟨rfl, hb3⟩
   have hb := below_call hb hb3 hb.size
   obtain ⟨f1, z1⟩ := hop hb3 f1
   obtain ⟨f2, z2⟩ := hop hb3 f2
   obtain ⟨f4, z4⟩ := hop hb3 f4
   clear hb3
   go_wp2_with fail
   go_roundw
   case rel => exact ⟨k + 1, by omega, by go_num, (hopCo f1 _ _ _ (by omega)).1, (hopCo f2 _ _ _ (by omega)).1, by rw [HK1.out]; exact (hopC f4 _ _).1, hb.setCell (by simp; omega) _⟩
   case measure => (show 32 - (k + 1) < 32 - k); omega
  ·obtain rfl : k = 32 := by omega
   go_wp2_with fail
   exact ret_c row119 rfl (cs := IV .i64 (rdPtrN s 32)) rfl (hat_setRow_at _ _ _ _ _ _ f2) (by simp) rfl ⟨by rw [rdPtrN_all], below_setRow hb (by omega) _⟩
theorem rreadPointers_any (s : List Int) (hs : s.length = 128) (hb : Bytes s) (w : World) :
  Calls Tryz.prog 63 #[.agg (IV .u8 s)] w fun e w' => e = .returned (.agg (IV .i64 (rdPtr s))) ∧ Below w.heap.size w w' := by
 have HBY := Lib.hid hb
 clear hb
 go_enter Tryz.func63, Tryz.ntmps63
 go_wp2_with fail
 have hb := (((Below.refl w.heap.size w).alloc (Nat.le_refl _) (.cells (IV .u8 s) 47)).alloc (by simp) (.cells (IV .i64 (zl 32)) 119)).alloc (by simp; omega) (.cells (IV .i64 (zl 32)) 119)
 have f1 : hat (((w.alloc (.cells (IV .u8 s) 47)).alloc (.cells (IV .i64 (zl 32)) 119)).alloc (.cells (IV .i64 (zl 32)) 119)) w.heap.size = some (.cells (IV .u8 s) 47) := by simp [go_sem]
 have f2 : hat (((w.alloc (.cells (IV .u8 s) 47)).alloc (.cells (IV .i64 (zl 32)) 119)).alloc (.cells (IV .i64 (zl 32)) 119)) (w.heap.size + 1) = some (.cells (IV .i64 (zl 32)) 119) := by simp [go_sem]
 have f4 : hat (((w.alloc (.cells (IV .u8 s) 47)).alloc (.cells (IV .i64 (zl 32)) 119)).alloc (.cells (IV .i64 (zl 32)) 119)) (w.heap.size + 1 + 1) = some (.cells (IV .i64 (zl 32)) 119) := by simp [go_sem]
 go_loopw [4] (fun i wr => ∃ k : Nat, k ≤ 32 ∧ i = .int .i64 k ∧ hat wr w.heap.size = some (.cells (IV .u8 s) 47) ∧ hat wr (w.heap.size + 1) = some (.cells (IV .i64 (zl 32)) 119)
   ∧ hat wr (w.heap.size + 1 + 1) = some (.cells (IV .i64 (rdPtrN s k)) 119) ∧ Below w.heap.size w wr) (fun i _ => 32 - (intOf i).toNat)
 case atStart => exact ⟨0, by omega, rfl, f1, f2, f4, hb⟩
 case round =>
  clear f1 f2 f4 hb
  obtain ⟨k, hk, rfl, f1, f2, f4, hb⟩ := hrel
  have z1 := hat_lt f1
  have z2 := hat_lt f2
  have z4 := hat_lt f4
  by_cases hkw : k < 32
  ·have HK1 := Lib.hid (rdPtrN_succ s k)
   have HC := Lib.hid (fun (wx : World) => says_ok s hs HBY.out (4 * k) 4 wx (by omega) (by omega) (by omega))
   go_wp2_with fail
   refine (HC.out _).mono ?_; rintro e w3 ⟨rfl, hb3⟩
   have hb := below_call hb hb3 hb.size
   obtain ⟨f1, z1⟩ := hop hb3 f1
   obtain ⟨f2, z2⟩ := hop hb3 f2
   obtain ⟨f4, z4⟩ := hop hb3 f4
   clear hb3
   go_wp2_with fail
   go_roundw
   case rel => exact ⟨k + 1, by omega, by go_num, (hopCo f1 _ _ _ (by omega)).1, (hopCo f2 _ _ _ (by omega)).1, by rw [HK1.out]; exact (hopC f4 _ _).1, hb.setCell (by simp; omega) _⟩
   case measure => (show 32 - (k + 1) < 32 - k); omega
  ·obtain rfl : k = 32 := by omega
   go_wp2_with fail
   exact ret_c row119 rfl (cs := IV .i64 (rdPtrN s 32)) rfl (hat_setRow_at _ _ _ _ _ _ f2) (by simp) rfl ⟨by rw [rdPtrN_all], below_setRow hb (by omega) _⟩
def nmL (s : ByteArray) : List Int := s.data.toList.map fun b => (b.toNat : Int)
@[go_sem, simp] theorem nmL_length (s : ByteArray) : (nmL s).length = s.size := by simp [nmL]
theorem nmL_nth (s : ByteArray) (j : Nat) (h : j < s.size) : nth (nmL s) j = ((s[j]'h).toNat : Int) := by
 unfold nth nmL
 rw [List.getElem?_map, Lib.data_getElem? s j h]; rfl
def slotSec (x : Int) (s : ByteArray) : List Int := setB (setB (putL (zl 128) 5 (nmL s)) 0 4 x) 4 1 s.size
def SlotMay (x : Int) (s : ByteArray) : Prop := (1 ≤ x ∧ x ≤ 512) ∧ NameMay s.data.toList
instance (x : Int) (s : ByteArray) : Decidable (SlotMay x s) := by unfold SlotMay; infer_instance
theorem SlotMay.size {x : Int} {s : ByteArray} (h : SlotMay x s) : 1 ≤ s.size ∧ s.size ≤ 40 := by
 have h1 := h.2.1; have h2 := h.2.2.1; rw [len_data] at *; omega
theorem below_bytes {B : Nat} {a w : World} (h : Below B a w) (hB : B ≤ w.heap.size) (e : TypeId) (s : ByteArray) : Below B a (Lib.bytesWorld w e s) := by
 refine h.trans ⟨rfl, rfl, rfl, by rw [Lib.bytesWorld_size]; omega, fun k hk => Lib.bytesWorld_at_old w e s k (by omega)⟩
def slotR (x : Int) (s : ByteArray) : List Int × Int :=
 if x = 0 ∧ s.toList = [] then (zl 128, 0) else if SlotMay x s then (slotSec x s, 0) else (zl 128, 63)
def slotV (x : Int) (s : ByteArray) : Value := .tuple #[.agg (IV .u8 (slotR x s).1), .int .i64 (slotR x s).2]
theorem bytesCells_IV (w : World) (e : TypeId) (s : ByteArray) : Lib.bytesCells w e s = IV .u8 (nmL s ++ List.replicate (grownCap w s.size 0 e - s.size) 0) := by
 apply Array.ext'
 simp [Lib.bytesCells, IV, nmL]
theorem hat_bytes (w : World) (e : TypeId) (s : ByteArray) : ∃ fr, hat (Lib.bytesWorld w e s) w.heap.size = some (.cells (IV .u8 (nmL s ++ List.replicate (grownCap w s.size 0 e - s.size) 0)) e fr) :=
 ⟨_, by rw [← bytesCells_IV]; exact Lib.bytesWorld_at_new w e s⟩
theorem hat_bytes_old (w : World) (e : TypeId) (s : ByteArray) {k : Nat} {o : Obj} (h : hat w k = some o) : hat (Lib.bytesWorld w e s) k = some o ∧ k < (Lib.bytesWorld w e s).heap.size :=
 ⟨(Lib.bytesWorld_at_old w e s k (hat_lt h)).trans h, by rw [Lib.bytesWorld_size]; have := hat_lt h; omega⟩
theorem lslotSector_zero (s : ByteArray) (w : World) (hs : s.toList = []) :
  Calls Tryz.prog 112 #[.agg #[.int .i64 0, .string s]] w fun e w' => e = .returned (.tuple #[.agg (IV .u8 (zl 128)), .int .i64 0]) ∧ Below w.heap.size w w' := by
 go_enter Tryz.func112, Tryz.ntmps112
 go_wp2_with fail
 refine ret_ct row47 rfl (cs := IV .u8 (zl 128)) rfl (hat_alloc_at _ _ _ (by simp)) (by simp) rfl ⟨rfl, ?_⟩
 exact ((Below.refl _ _).alloc (Nat.le_refl _) _).alloc (by simp) _
theorem lslotSector_no (x : Int) (s : ByteArray) (w : World) (hz : x = 0 → ¬ s.toList = []) (h : ¬ SlotMay x s) :
  Calls Tryz.prog 112 #[.agg #[.int .i64 x, .string s]] w fun e w' => e = .returned (.tuple #[.agg (IV .u8 (zl 128)), .int .i64 63]) ∧ Below w.heap.size w w' := by
 have H := Lib.hid h
 clear h
 by_cases hx : x = 0
 ·subst hx
  have hs := hz rfl
  clear hz
  go_enter Tryz.func112, Tryz.ntmps112
  go_wp2_with fail
  refine (lwithin_no _ _ _ _ (by omega)).mono ?_; rintro e w' ⟨rfl, rfl⟩
  go_wp2_with fail
  refine ret_ct row47 rfl (cs := IV .u8 (zl 128)) rfl (hat_alloc_at _ _ _ (by simp)) (by simp) rfl ⟨rfl, ?_⟩
  exact ((Below.refl _ _).alloc (Nat.le_refl _) _).alloc (by simp) _
 ·clear hz
  go_enter Tryz.func112, Tryz.ntmps112
  go_wp2_with fail
  refine (lwithin_any _ _ _ _).mono ?_; rintro e w' ⟨rfl, rfl⟩
  cases h1 : decide (1 ≤ x ∧ x ≤ 512)
  ·go_wp2_with fail
   refine ret_ct row47 rfl (cs := IV .u8 (zl 128)) rfl (hat_alloc_at _ _ _ (by simp)) (by simp) rfl ⟨rfl, ?_⟩
   exact ((Below.refl _ _).alloc (Nat.le_refl _) _).alloc (by simp) _
  ·go_wp2_with fail
   refine (lnameMay_any _ _).mono ?_; rintro e w1 ⟨rfl, hb1⟩
   rw [decide_eq_false (fun h => H.out ⟨of_decide_eq_true h1, h⟩)]
   have hb := below_call (((Below.refl w.heap.size w).alloc (Nat.le_refl _) _).alloc (by simp) _) hb1 (by simp; omega)
   obtain ⟨f1, z1⟩ := hop hb1 (k := w.heap.size + 1) (o := .cells (IV .u8 (zl 128)) 47) (by simp [go_sem])
   clear hb1
   go_wp2_with fail
   refine ret_ct row47 rfl (cs := IV .u8 (zl 128)) rfl (hat_setRow_at _ _ _ _ _ _ f1) (by simp) rfl ⟨rfl, ?_⟩
   exact below_setRow hb (by omega) _
theorem lslotSector_ok (x : Int) (s : ByteArray) (w : World) (h : SlotMay x s) :
  Calls Tryz.prog 112 #[.agg #[.int .i64 x, .string s]] w fun e w' => e = .returned (.tuple #[.agg (IV .u8 (slotSec x s)), .int .i64 0]) ∧ Below w.heap.size w w' := by
 have hcv := fun w => Lib.run_convert_string_bytes (P := Tryz.prog) w 9 42 5 s Tryz.underlying9 Tryz.underlying42 Tryz.underlying5
 obtain ⟨s1, s40⟩ := h.size
 have H := Lib.hid h
 obtain ⟨⟨x1, x2⟩, hn⟩ := h
 have hx : ¬ x = 0 := by omega
 clear hn
 go_enter Tryz.func112, Tryz.ntmps112
 go_wp2_with fail
 refine (lwithin_yes _ _ _ _ (by omega)).mono ?_; rintro e w' ⟨rfl, rfl⟩
 go_wp2_with fail
 refine (lnameMay_any _ _).mono ?_; rintro e w1 ⟨rfl, hb1⟩
 rw [decide_eq_true H.out.2]
 have hb := below_call (((Below.refl w.heap.size w).alloc (Nat.le_refl _) _).alloc (by simp) _) hb1 (by simp; omega)
 obtain ⟨f0, z0⟩ := hop hb1 (k := w.heap.size) (o := .cells #[.int .i64 x, .string s] 125) (by simp [go_sem])
 obtain ⟨f1, z1⟩ := hop hb1 (k := w.heap.size + 1) (o := .cells (IV .u8 (zl 128)) 47) (by simp [go_sem])
 clear hb1
 go_wp2_with fail
 obtain ⟨fr, fb⟩ := hat_bytes w1 5 s
 have hsp := splice_ok (zl 128) (nmL s) (by simp) 5 w1.heap.size (grownCap w1 s.size 0 5) 5 fr (nmL s ++ List.replicate (grownCap w1 s.size 0 5 - s.size) 0) (Lib.bytesWorld w1 5 s) fb
  (fun j hj => by rw [List.getElem?_append_left hj]) (by simp; omega) (by simp; omega)
 rw [nmL_length] at hsp
 refine hsp.mono ?_; rintro e w2 ⟨rfl, hb2⟩
 clear hsp fb
 have hb := below_call (below_bytes hb (by omega) 5 s) hb2 (by rw [Lib.bytesWorld_size]; omega)
 obtain ⟨f0, z0⟩ := hop hb2 (hat_bytes_old w1 5 s f0).1
 obtain ⟨f1, z1⟩ := hop hb2 (hat_bytes_old w1 5 s f1).1
 clear hb2
 have hpl : (putL (zl 128) 5 (nmL s)).length = 128 := by rw [putL_length _ _ _ (by simp; omega)]; simp
 go_wp2_with fail
 have hb := below_new hb (by omega) (.cells (IV .u8 (putL (zl 128) 5 (nmL s))) 47)
 obtain ⟨f0, z0⟩ := hopA w2 (.cells (IV .u8 (putL (zl 128) 5 (nmL s))) 47) f0
 obtain ⟨f1, z1⟩ := hopA w2 (.cells (IV .u8 (putL (zl 128) 5 (nmL s))) 47) f1
 obtain ⟨f4, z4⟩ := hopN w2 (.cells (IV .u8 (putL (zl 128) 5 (nmL s))) 47)
 generalize w2.alloc (.cells (IV .u8 (putL (zl 128) 5 (nmL s))) 47) = w3 at *
 generalize w2.heap.size = g4 at *
 refine wp_region_vals (by kernel_rfl) 8 (by decide) rfl (fun i => match i with
  | 0 => .agg (IV .u8 (putL (zl 128) 5 (nmL s))) | 1 => .pointer (some ⟨w.heap.size, 0, none⟩) | 2 => .int .i64 x | 3 => .agg (IV .u8 (setB (putL (zl 128) 5 (nmL s)) 0 4 x))
  | 4 => .pointer (some ⟨w.heap.size, 1, none⟩) | 5 => .string s | 6 => .int .i64 s.size | _ => .agg (IV .u8 (slotSec x s))) ?_ ?_
 ·intro i o hi ho a' w' hB hS hF
  have hi' : i = 0 ∨ i = 1 ∨ i = 2 ∨ i = 3 ∨ i = 4 ∨ i = 5 ∨ i = 6 ∨ i = 7 := by omega
  rcases hi' with rfl | rfl | rfl | rfl | rfl | rfl | rfl | rfl
  all_goals (have ho' := Option.some.inj ho; subst ho')
  ·exact wpOp_load_row 47 128 row47 (.tmp 4) rfl rfl rfl g4 _ ((hS 4 (by decide)).trans rfl) ((hat_below hB z4).trans f4) (by simp [hpl]) ⟨rfl, hB⟩
  ·have e1 : gt a' 1 = .pointer (some ⟨w.heap.size, 0, none⟩) := (hS 1 (by decide)).trans rfl
   unfold gt at e1
   refine wpOp_val rfl rfl (v := .pointer (some ⟨w.heap.size, 0, none⟩)) (w1 := w') ?_ ⟨rfl, hB⟩
   simp [go_sem, e1]
  ·have e := hF 1 (by decide) _ 30 rfl rfl
   exact wpOp_load_cell 3 celli (.tmp 30) rfl rfl rfl w.heap.size 0 _ _ e ((hat_below hB (hat_lt f0)).trans f0) rfl ⟨rfl, hB⟩
  ·have e0 := hF 0 (by decide) _ 29 rfl rfl
   have e2 := hF 2 (by decide) _ 31 rfl rfl
   unfold gt at e0 e2
   refine wpOp_call (f := 107) (args := #[.agg (IV .u8 (putL (zl 128) 5 (nmL s))), .int .i64 0, .int .i64 4, .int .i64 x]) rfl rfl (by simp [go_sem, e0, e2]) (put_ok _ hpl 0 4 x w' (by omega) (by omega) (by omega) (by omega) (by omega) (by omega)) ?_
   rintro e w'' ⟨rfl, hb'⟩
   exact ⟨_, rfl, rfl, below_call hB hb' hB.size⟩
  ·have e1 : gt a' 1 = .pointer (some ⟨w.heap.size, 0, none⟩) := (hS 1 (by decide)).trans rfl
   unfold gt at e1
   refine wpOp_val rfl rfl (v := .pointer (some ⟨w.heap.size, 1, none⟩)) (w1 := w') ?_ ⟨rfl, hB⟩
   simp [go_sem, e1]
  ·have e := hF 4 (by decide) _ 33 rfl rfl
   exact wpOp_load_cell 9 cells (.tmp 33) rfl rfl rfl w.heap.size 1 _ _ e ((hat_below hB (hat_lt f0)).trans f0) rfl ⟨rfl, hB⟩
  ·have e := hF 5 (by decide) _ 34 rfl rfl
   unfold gt at e
   refine wpOp_val rfl rfl (v := .int .i64 s.size) (w1 := w') ?_ ⟨rfl, hB⟩
   simp [go_sem, e]
  ·have e0 := hF 3 (by decide) _ 32 rfl rfl
   have e2 := hF 6 (by decide) _ 35 rfl rfl
   unfold gt at e0 e2
   refine wpOp_call (f := 107) (args := #[.agg (IV .u8 (setB (putL (zl 128) 5 (nmL s)) 0 4 x)), .int .i64 4, .int .i64 1, .int .i64 s.size]) rfl rfl (by simp [go_sem, e0, e2]) (put_ok _ (by simp [hpl]) 4 1 s.size w' (by omega) (by omega) (by omega) (by omega) (by omega) (by omega)) ?_
   rintro e w'' ⟨rfl, hb'⟩
   exact ⟨_, rfl, rfl, below_call hB hb' hB.size⟩
 ·intro w' hB
  obtain ⟨f1, z1⟩ := hop hB f1
  have hb := below_call hb hB (by omega)
  have hsl : (slotSec x s).length = 128 := by simp [slotSec, hpl]
  clear hB f0 f4 hpl
  simp only [putAll, List.take, List.drop, List.take_succ_cons, List.drop_succ_cons]
  go_wp2_with fail
  refine ret_ct row47 rfl (cs := IV .u8 (slotSec x s)) rfl (hat_setRow_at _ _ _ _ _ _ f1) (by simp [hsl]) rfl ⟨rfl, ?_⟩
  exact below_setRow hb (by omega) _
def rslN (x : Int) (s : ByteArray) : Nat → List Int
 | 0 => setB (setB (zl 128) 0 4 x) 4 1 s.size
 | k + 1 => (rslN x s k).set (5 + k) (nth (nmL s) k)
@[go_sem, simp] theorem rslN_length (x : Int) (s : ByteArray) (k : Nat) : (rslN x s k).length = 128 := by
 induction k with
 | zero => simp [rslN]
 | succ k ih => simp [rslN, ih]
theorem nth_putL (s bs : List Int) (a j : Nat) (h : a + bs.length ≤ s.length) : nth (putL s a bs) j = if a ≤ j ∧ j < a + bs.length then nth bs (j - a) else nth s j := by
 unfold nth putL
 rw [List.getElem?_append, List.getElem?_append, List.length_take, List.getElem?_take, List.getElem?_drop, Nat.min_eq_left (by omega)]
 by_cases h1 : j < a
 ·rw [if_pos h1, if_pos h1, if_neg (by omega)]
 ·rw [if_neg h1]
  by_cases h2 : j - a < bs.length
  ·rw [if_pos h2, if_pos (by omega)]
  ·rw [if_neg h2, if_neg (by omega), show a + bs.length + (j - a - bs.length) = j by omega]
theorem rslN_nth (x : Int) (s : ByteArray) (k j : Nat) (hk : k ≤ 40) : nth (rslN x s k) j = if 5 ≤ j ∧ j < 5 + k then nth (nmL s) (j - 5) else nth (setB (setB (zl 128) 0 4 x) 4 1 s.size) j := by
 induction k with
 | zero => simp only [rslN]; rw [if_neg (by omega)]
 | succ k ih =>
  simp only [rslN]
  rw [nth_set (by simp; omega), ih (by omega)]
  by_cases h : j = 5 + k
  ·rw [if_pos h, if_pos (by omega), h, show 5 + k - 5 = k by omega]
  ·rw [if_neg h]
   by_cases h2 : 5 ≤ j ∧ j < 5 + k
   ·rw [if_pos h2, if_pos (by omega)]
   ·rw [if_neg h2, if_neg (by omega)]
theorem rslN_all (x : Int) (s : ByteArray) (hs : s.size ≤ 40) : rslN x s s.size = slotSec x s := by
 have hpl : (putL (zl 128) 5 (nmL s)).length = 128 := by rw [putL_length _ _ _ (by simp; omega)]; simp
 refine nth_ext (by simp [slotSec, hpl]) (fun j hj => ?_)
 rw [rslN_nth x s _ j hs, nth_setB (setB (zl 128) 0 4 x) 4 1 _ (by simp), nth_setB (zl 128) 0 4 x (by simp)]
 unfold slotSec
 rw [nth_setB (setB (putL (zl 128) 5 (nmL s)) 0 4 x) 4 1 _ (by simp [hpl]), nth_setB (putL (zl 128) 5 (nmL s)) 0 4 x (by simp [hpl]), nth_putL _ _ _ _ (by simp; omega), nmL_length]
 by_cases h1 : 4 ≤ j ∧ j < 4 + 1
 ·rw [if_neg (by omega), if_pos h1, if_pos h1]
 ·rw [if_neg h1, if_neg h1]
  by_cases h2 : 0 ≤ j ∧ j < 0 + 4
  ·rw [if_neg (by omega), if_pos h2, if_pos h2]
  ·rw [if_neg h2, if_neg h2]
theorem rslotSector_zero (s : ByteArray) (w : World) (hs : s.toList = []) :
  Calls Tryz.prog 115 #[.agg #[.int .i64 0, .string s]] w fun e w' => e = .returned (.tuple #[.agg (IV .u8 (zl 128)), .int .i64 0]) ∧ Below w.heap.size w w' := by
 go_enter Tryz.func115, Tryz.ntmps115
 go_wp2_with fail
 refine ret_ct row47 rfl (cs := IV .u8 (zl 128)) rfl (by simp [go_sem]) (by simp) rfl ⟨rfl, ?_⟩
 exact (((Below.refl _ _).alloc (Nat.le_refl _) _).alloc (by simp) _).alloc (by simp; omega) _
theorem rslotSector_no (x : Int) (s : ByteArray) (w : World) (hz : x = 0 → ¬ s.toList = []) (h : ¬ SlotMay x s) (hss : s.size < 4611686018427387904) :
  Calls Tryz.prog 115 #[.agg #[.int .i64 x, .string s]] w fun e w' => e = .returned (.tuple #[.agg (IV .u8 (zl 128)), .int .i64 63]) ∧ Below w.heap.size w w' := by
 have H := Lib.hid h
 clear h
 by_cases hx : x = 0
 ·subst hx
  have hs := hz rfl
  have hs1 : s.toList.isEmpty = false := by
   cases h : s.toList with
   | nil => exact absurd h hs
   | cons _ _ => rfl
  have hs2 : (s.toList == []) = false := beq_eq_false_iff_ne.2 hs
  clear hz
  go_enter Tryz.func115, Tryz.ntmps115
  go_wp2_with fail
  refine (rwithin_any _ _ _ _).mono ?_; rintro e w' ⟨rfl, rfl⟩
  go_wp2_with fail
  refine ret_ct row47 rfl (cs := IV .u8 (zl 128)) rfl (by simp [go_sem]) (by simp) rfl ⟨rfl, ?_⟩
  exact (((Below.refl _ _).alloc (Nat.le_refl _) _).alloc (by simp) _).alloc (by simp; omega) _
 ·clear hz
  go_enter Tryz.func115, Tryz.ntmps115
  go_wp2_with fail
  refine (rwithin_any _ _ _ _).mono ?_; rintro e w' ⟨rfl, rfl⟩
  cases h1 : decide (1 ≤ x ∧ x ≤ 512)
  ·go_wp2_with fail
   refine ret_ct row47 rfl (cs := IV .u8 (zl 128)) rfl (by simp [go_sem]) (by simp) rfl ⟨rfl, ?_⟩
   exact (((Below.refl _ _).alloc (Nat.le_refl _) _).alloc (by simp) _).alloc (by simp; omega) _
  ·go_wp2_with fail
   refine (risName_any _ _ hss).mono ?_; rintro e w1 ⟨rfl, hw⟩
   rw [hw, decide_eq_false (fun h => H.out ⟨of_decide_eq_true h1, h⟩)]
   go_wp2_with fail
   refine ret_ct row47 rfl (cs := IV .u8 (zl 128)) rfl (by simp [go_sem]) (by simp) rfl ⟨rfl, ?_⟩
   exact (((Below.refl _ _).alloc (Nat.le_refl _) _).alloc (by simp) _).alloc (by simp; omega) _
theorem rslotSector_ok (x : Int) (s : ByteArray) (w : World) (h : SlotMay x s) :
  Calls Tryz.prog 115 #[.agg #[.int .i64 x, .string s]] w fun e w' => e = .returned (.tuple #[.agg (IV .u8 (slotSec x s)), .int .i64 0]) ∧ Below w.heap.size w w' := by
 obtain ⟨s1, s40⟩ := h.size
 have H := Lib.hid h
 obtain ⟨⟨x1, x2⟩, hn⟩ := h
 have hx : ¬ x = 0 := by omega
 clear hn
 go_enter Tryz.func115, Tryz.ntmps115
 go_wp2_with fail
 refine (rwithin_yes _ _ _ _ (by omega)).mono ?_; rintro e w' ⟨rfl, rfl⟩
 go_wp2_with fail
 refine (risName_any _ _ (by omega)).mono ?_; rintro e w1 ⟨rfl, hw⟩; rw [hw, decide_eq_true H.out.2]
 have hb := (((Below.refl w.heap.size w).alloc (Nat.le_refl _) (.cells #[.int .i64 x, .string s] 125)).alloc (by simp) (.cells (IV .u8 (zl 128)) 47)).alloc (by simp; omega) (.cells (IV .u8 (zl 128)) 47)
 have f0 : hat (((w.alloc (.cells #[.int .i64 x, .string s] 125)).alloc (.cells (IV .u8 (zl 128)) 47)).alloc (.cells (IV .u8 (zl 128)) 47)) w.heap.size = some (.cells #[.int .i64 x, .string s] 125) := by simp [go_sem]
 have f1 : hat (((w.alloc (.cells #[.int .i64 x, .string s] 125)).alloc (.cells (IV .u8 (zl 128)) 47)).alloc (.cells (IV .u8 (zl 128)) 47)) (w.heap.size + 1) = some (.cells (IV .u8 (zl 128)) 47) := by simp [go_sem]
 have f4 : hat (((w.alloc (.cells #[.int .i64 x, .string s] 125)).alloc (.cells (IV .u8 (zl 128)) 47)).alloc (.cells (IV .u8 (zl 128)) 47)) (w.heap.size + 1 + 1) = some (.cells (IV .u8 (zl 128)) 47) := by simp [go_sem]
 go_wp2_with fail
 refine (lay_ok (zl 128) (by simp) 0 4 x _ (by omega) (by omega) (by omega) (by omega)).mono ?_; rintro e w3 ⟨rfl, hb3⟩
 have hb := below_call hb hb3 hb.size
 obtain ⟨f0, z0⟩ := hop hb3 f0
 obtain ⟨f1, z1⟩ := hop hb3 f1
 obtain ⟨f4, z4⟩ := hop hb3 f4
 clear hb3
 go_wp2_with fail
 obtain ⟨f0, z0⟩ := hopR f0 (w.heap.size + 1 + 1) (IV .u8 (setB (zl 128) 0 4 x)) (by omega)
 obtain ⟨f1, z1⟩ := hopR f1 (w.heap.size + 1 + 1) (IV .u8 (setB (zl 128) 0 4 x)) (by omega)
 obtain ⟨f4, z4⟩ := hopS f4 (IV .u8 (setB (zl 128) 0 4 x))
 have hb := below_setRow hb (g := w.heap.size + 1 + 1) (by omega) (IV .u8 (setB (zl 128) 0 4 x))
 generalize w3.setRow (w.heap.size + 1 + 1) (IV .u8 (setB (zl 128) 0 4 x)) = w4 at *
 refine (lay_ok (setB (zl 128) 0 4 x) (by simp) 4 1 s.size _ (by omega) (by omega) (by omega) (by omega)).mono ?_; rintro e w5 ⟨rfl, hb3⟩
 have hb := below_call hb hb3 hb.size
 obtain ⟨f0, z0⟩ := hop hb3 f0
 obtain ⟨f1, z1⟩ := hop hb3 f1
 obtain ⟨f4, z4⟩ := hop hb3 f4
 clear hb3
 have HA := Lib.hid (rslN_all x s s40)
 go_wp2_with fail
 obtain ⟨f0, z0⟩ := hopR f0 (w.heap.size + 1 + 1) (IV .u8 (rslN x s 0)) (by omega)
 obtain ⟨f1, z1⟩ := hopR f1 (w.heap.size + 1 + 1) (IV .u8 (rslN x s 0)) (by omega)
 obtain ⟨f4, z4⟩ := hopS f4 (IV .u8 (rslN x s 0))
 have hb := below_setRow hb (g := w.heap.size + 1 + 1) (by omega) (IV .u8 (rslN x s 0))
 go_loopw [5] (fun i wr => ∃ k : Nat, k ≤ s.size ∧ i = .int .i64 k ∧ hat wr w.heap.size = some (.cells #[.int .i64 x, .string s] 125) ∧ hat wr (w.heap.size + 1) = some (.cells (IV .u8 (zl 128)) 47)
   ∧ hat wr (w.heap.size + 1 + 1) = some (.cells (IV .u8 (rslN x s k)) 47) ∧ Below w.heap.size w wr) (fun i _ => s.size - (intOf i).toNat)
 case atStart => exact ⟨0, by omega, rfl, f0, f1, f4, hb⟩
 case round =>
  clear f0 f1 f4 hb
  obtain ⟨k, hk, rfl, f0, f1, f4, hb⟩ := hrel
  have z0 := hat_lt f0
  have z1 := hat_lt f1
  have z4 := hat_lt f4
  by_cases hkw : k < s.size
  ·have HN := Lib.hid (nmL_nth s k hkw)
   obtain ⟨y, hy⟩ : ∃ y : UInt8, s[k]'hkw = y := ⟨_, rfl⟩
   have gi : ∀ w, (Instr.index 9 (.string s) (.int .i64 k)).run Tryz.prog w = .ok (.int .u8 y.toNat) w := fun w => by
    rw [run_index_string w 9 s .i64 k Tryz.underlying9, dif_pos ⟨by omega, by omega⟩]
    show Result.ok (Value.int .u8 (s[k]'hkw).toNat) w = _
    rw [hy]
   rw [hy] at HN
   clear hy
   have h5 : 5 + k < 128 := by omega
   have h5' : (5 : Int) + k < 128 := by omega
   go_wp2_with fail
   go_roundw
   case rel =>
    refine ⟨k + 1, by omega, by go_num, (hopCo f0 _ _ _ (by omega)).1, (hopCo f1 _ _ _ (by omega)).1, ?_, hb.setCell (by simp; omega) _⟩
    simp only [rslN]
    rw [HN.out]
    exact (hopC f4 _ _).1
   case measure => (show s.size - (k + 1) < s.size - k); omega
  ·obtain rfl : k = s.size := by omega
   go_wp2_with fail
   exact ret_ct row47 rfl (cs := IV .u8 (rslN x s s.size)) rfl (hat_setRow_at _ _ _ _ _ _ f1) (by simp) rfl ⟨by rw [HA.out]; rfl, below_setRow hb (by omega) _⟩
theorem slotSec_length (x : Int) (s : ByteArray) (h : s.size ≤ 40) : (slotSec x s).length = 128 := by
 have hpl : (putL (zl 128) 5 (nmL s)).length = 128 := by rw [putL_length _ _ _ (by simp; omega)]; simp
 simp [slotSec, hpl]
@[go_sem, simp] theorem slotR_length (x : Int) (s : ByteArray) : (slotR x s).1.length = 128 := by
 unfold slotR
 split
 ·simp
 ·split
  ·rename_i h; exact slotSec_length x s h.size.2
  ·simp
theorem lslotSector_any (x : Int) (s : ByteArray) (w : World) :
  Calls Tryz.prog 112 #[.agg #[.int .i64 x, .string s]] w fun e w' => e = .returned (slotV x s) ∧ Below w.heap.size w w' := by
 by_cases hz : x = 0 ∧ s.toList = []
 ·obtain ⟨rfl, hs⟩ := hz
  have e : slotR 0 s = (zl 128, 0) := by unfold slotR; rw [if_pos ⟨rfl, hs⟩]
  unfold slotV; rw [e]
  exact lslotSector_zero s w hs
 ·by_cases h : SlotMay x s
  ·have e : slotR x s = (slotSec x s, 0) := by unfold slotR; rw [if_neg hz, if_pos h]
   unfold slotV; rw [e]
   exact lslotSector_ok x s w h
  ·have e : slotR x s = (zl 128, 63) := by unfold slotR; rw [if_neg hz, if_neg h]
   unfold slotV; rw [e]
   exact lslotSector_no x s w (fun h1 h2 => hz ⟨h1, h2⟩) h
theorem rslotSector_any (x : Int) (s : ByteArray) (w : World) (hss : s.size < 4611686018427387904) :
  Calls Tryz.prog 115 #[.agg #[.int .i64 x, .string s]] w fun e w' => e = .returned (slotV x s) ∧ Below w.heap.size w w' := by
 by_cases hz : x = 0 ∧ s.toList = []
 ·obtain ⟨rfl, hs⟩ := hz
  have e : slotR 0 s = (zl 128, 0) := by unfold slotR; rw [if_pos ⟨rfl, hs⟩]
  unfold slotV; rw [e]
  exact rslotSector_zero s w hs
 ·by_cases h : SlotMay x s
  ·have e : slotR x s = (slotSec x s, 0) := by unfold slotR; rw [if_neg hz, if_pos h]
   unfold slotV; rw [e]
   exact rslotSector_ok x s w h
  ·have e : slotR x s = (zl 128, 63) := by unfold slotR; rw [if_neg hz, if_neg h]
   unfold slotV; rw [e]
   exact rslotSector_no x s w (fun h1 h2 => hz ⟨h1, h2⟩) h hss
def rawNm (s : List Int) (n : Nat) : List UInt8 := (List.range n).map fun i => UInt8.ofNat (nth s (5 + i)).toNat
@[simp] theorem rawNm_length (s : List Int) (n : Nat) : (rawNm s n).length = n := by simp [rawNm]
def rdNm (s : List Int) : ByteArray := if nth s 4 ≤ 40 then ⟨(rawNm s (nth s 4).toNat).toArray⟩ else ⟨#[]⟩
def rdSlotV (s : List Int) : Value :=
 if slotR (getB s 0 4) (rdNm s) = (s, 0) then .tuple #[.agg #[.int .i64 (getB s 0 4), .string (rdNm s)], .int .i64 0]
 else .tuple #[.agg #[.int .i64 0, .string { data := #[] }], .int .i64 63]
theorem u8_back {x : Int} (h0 : 0 ≤ x) (h1 : x < 256) : ((UInt8.ofNat x.toNat).toNat : Int) = x := by
 simp; omega
theorem lreadSlot_any (s : List Int) (hs : s.length = 128) (hb : Bytes s) (w : World) :
  Calls Tryz.prog 86 #[.agg (IV .u8 s)] w fun e w' => e = .returned (rdSlotV s) ∧ Below w.heap.size w w' := by
 have HBY := Lib.hid hb
 obtain ⟨n0, n1⟩ := hb.at 4
 have g41 : getL s 4 1 = nth s 4 := by
  have h := getB_lt hb 1 4
  have e : getB s 4 1 = nth s 4 := by simp [getB]
  rw [getL, if_neg (by omega), e]
 have G41 := Lib.hid g41
 have hx0 := getB_nonneg hb 4 0
 have hx1 : getB s 0 4 < 4294967296 := getB_lt hb 4 0
 clear hb g41
 go_enter Tryz.func86, Tryz.ntmps86
 have hbw := ((Below.refl w.heap.size w).alloc (Nat.le_refl _) (.cells (IV .u8 s) 47)).alloc (by simp) (.cells #[.int .i64 0, .string { data := #[] }] 125)
 have f1 : hat ((w.alloc (.cells (IV .u8 s) 47)).alloc (.cells #[.int .i64 0, .string { data := #[] }] 125)) w.heap.size = some (.cells (IV .u8 s) 47) := by simp [go_sem]
 have f2 : hat ((w.alloc (.cells (IV .u8 s) 47)).alloc (.cells #[.int .i64 0, .string { data := #[] }] 125)) (w.heap.size + 1) = some (.cells #[.int .i64 0, .string { data := #[] }] 125) := by simp [go_sem]
 go_wp2_with fail
 refine (lget4 s hs HBY.out 0 _ (by omega)).mono ?_; rintro e w3 ⟨rfl, hb3⟩
 have hbw := below_call hbw hb3 hbw.size
 obtain ⟨f1, z1⟩ := hop hb3 f1
 obtain ⟨f2, z2⟩ := hop hb3 f2
 clear hb3
 go_wp2_with fail
 have hbw := below_new hbw (by omega) (.cells #[.int .i64 (getB s 0 4), .string { data := #[] }] 125)
 obtain ⟨f1, z1⟩ := hopA w3 (.cells #[.int .i64 (getB s 0 4), .string { data := #[] }] 125) f1
 obtain ⟨f2, z2⟩ := hopA w3 (.cells #[.int .i64 (getB s 0 4), .string { data := #[] }] 125) f2
 obtain ⟨f4, z4⟩ := hopN w3 (.cells #[.int .i64 (getB s 0 4), .string { data := #[] }] 125)
 generalize w3.alloc (.cells #[.int .i64 (getB s 0 4), .string { data := #[] }] 125) = w4 at *
 have hg4 : w.heap.size + 1 < w3.heap.size := by omega
 generalize w3.heap.size = g4 at *
 refine (lget_any s hs HBY.out 4 1 _ (by omega) (by omega) (by omega)).mono ?_; rintro e w5 ⟨rfl, hb3⟩
 rw [G41.out]
 have hbw := below_call hbw hb3 hbw.size
 obtain ⟨f1, z1⟩ := hop hb3 f1
 obtain ⟨f2, z2⟩ := hop hb3 f2
 obtain ⟨f4, z4⟩ := hop hb3 f4
 clear hb3
 obtain ⟨n, hn⟩ : ∃ n : Nat, nth s 4 = n := ⟨(nth s 4).toNat, by omega⟩
 have HNN := Lib.hid hn
 rw [hn] at n0 n1 ⊢
 clear hn
 by_cases h40 : n ≤ 40
 ·have h40' : (n : Int) ≤ 40 := by omega
  have h128 : 5 + (n : Int) ≤ 128 := by omega
  have hsl : ∀ w', (Instr.sliceAt 47 (.pointer (some ⟨w.heap.size, 0, none⟩)) (some (.int .i64 5)) (some (.int .i64 (5 + (n : Int)))) none).run Tryz.prog w' = .ok (.slice (some ⟨w.heap.size, 5, none⟩) n 123) w' := fun w' => by
   rw [sl_lohi w.heap.size 0 5 (5 + n) (by omega) (by omega) (by omega) h128 w']
   rw [show ((5 : Int) + (n : Int)).toNat - (5 : Int).toNat = n by omega]
   rfl
  have hcv : (convert 42 9 (.slice (some ⟨w.heap.size, 5, none⟩) n 123)).run Tryz.prog w5 = .ok (.string ⟨(rawNm s n).toArray⟩) w5 := by
   have h := run_convert_bytes_back (P := Tryz.prog) w5 42 9 5 ⟨w.heap.size, 5, none⟩ 123 (rawNm s n) Tryz.underlying42 Tryz.underlying5 Tryz.underlying9 (fun j hj => by
    have hadd : (⟨w.heap.size, 5, none⟩ : Addr).add j = ⟨w.heap.size, 5 + j, none⟩ := by unfold Addr.add; split <;> simp_all
    have hj' : j < n := by simpa using hj
    obtain ⟨b0, b1⟩ := HBY.out.at (5 + j)
    rw [hadd, cell_hat f1, IV_get _ _ _ (by omega)]
    simp only [rawNm, List.getElem_map, List.getElem_range]
    rw [u8_back b0 b1])
   rw [rawNm_length] at h
   exact h
  generalize hnm : (⟨(rawNm s n).toArray⟩ : ByteArray) = nm at *
  go_wp2_with fail
  obtain ⟨f1, z1⟩ := hopCo f1 g4 1 (.string nm) (by omega)
  obtain ⟨f2, z2⟩ := hopCo f2 g4 1 (.string nm) (by omega)
  have f4 : hat (w5.setCell ⟨g4, 1, none⟩ (.string nm)) g4 = some (.cells #[.int .i64 (getB s 0 4), .string nm] 125) := by rw [hat_setCell_at _ _ _ _ _ _ _ f4]; rfl
  have hbw : Below w.heap.size w (w5.setCell ⟨g4, 1, none⟩ (.string nm)) := hbw.setCell (by simp; omega) _
  generalize w5.setCell ⟨g4, 1, none⟩ (.string nm) = w7 at *
  refine (lslotSector_any (getB s 0 4) nm _).mono ?_; rintro e w6 ⟨rfl, hb3⟩
  have hbw := below_call hbw hb3 hbw.size
  obtain ⟨f1, z1⟩ := hop hb3 f1
  obtain ⟨f2, z2⟩ := hop hb3 f2
  obtain ⟨f4, z4⟩ := hop hb3 f4
  clear hb3
  have HNM := Lib.hid (show rdNm s = nm from by unfold rdNm; rw [HNN.out, if_pos h40', Int.toNat_natCast]; exact hnm)
  by_cases he : slotR (getB s 0 4) nm = (s, 0)
  ·have hd : rdSlotV s = .tuple #[.agg #[.int .i64 (getB s 0 4), .string nm], .int .i64 0] := by unfold rdSlotV; rw [HNM.out, if_pos he]
   have HD := Lib.hid hd
   rw [show slotV (getB s 0 4) nm = .tuple #[.agg (IV .u8 s), .int .i64 0] from by unfold slotV; rw [he]]
   clear he hd
   go_wp2_with fail
   exact ret_ct row125 rfl (cs := #[.int .i64 (getB s 0 4), .string nm]) rfl (hopA _ _ (hopS f2 #[.int .i64 (getB s 0 4), .string nm]).1).1 rfl rfl ⟨by rw [HD.out]; rfl, below_new (below_setRow hbw (by omega) _) (by simp; omega) _⟩
  ·have hd : rdSlotV s = .tuple #[.agg #[.int .i64 0, .string { data := #[] }], .int .i64 63] := by unfold rdSlotV; rw [HNM.out, if_neg he]
   have HD := Lib.hid hd
   have hrl : (slotR (getB s 0 4) nm).1.length = 128 := slotR_length _ _
   unfold slotV
   clear hd HNM
   generalize slotR (getB s 0 4) nm = rr at *
   obtain ⟨r1, r2⟩ := rr
   simp only [] at hrl ⊢
   by_cases h2 : r2 = 0
   ·subst h2
    have hne : ¬ r1 = s := fun h => he (by rw [h])
    clear he
    go_wp2_with fail
    exact ret_ct row125 rfl (cs := #[.int .i64 0, .string { data := #[] }]) rfl (hopA _ _ (hopS f2 #[.int .i64 0, .string { data := #[] }]).1).1 rfl rfl ⟨by rw [HD.out]; rfl, below_new (below_setRow hbw (by omega) _) (by simp; omega) _⟩
   ·have h2' : (r2 == 0) = false := beq_eq_false_iff_ne.2 h2
    clear he
    go_wp2_with fail
    exact ret_ct row125 rfl (cs := #[.int .i64 0, .string { data := #[] }]) rfl (hopA _ _ (hopS f2 #[.int .i64 0, .string { data := #[] }]).1).1 rfl rfl ⟨by rw [HD.out]; rfl, below_new (below_setRow hbw (by omega) _) (by simp; omega) _⟩
 ·have h40' : decide ((n : Int) ≤ 40) = false := by simp; omega
  go_wp2_with fail
  refine (lslotSector_any (getB s 0 4) { data := #[] } _).mono ?_; rintro e w6 ⟨rfl, hb3⟩
  have hbw := below_call hbw hb3 hbw.size
  obtain ⟨f1, z1⟩ := hop hb3 f1
  obtain ⟨f2, z2⟩ := hop hb3 f2
  obtain ⟨f4, z4⟩ := hop hb3 f4
  clear hb3
  have HNM := Lib.hid (show rdNm s = { data := #[] } from by unfold rdNm; rw [HNN.out, if_neg (by omega)])
  by_cases he : slotR (getB s 0 4) { data := #[] } = (s, 0)
  ·have hd : rdSlotV s = .tuple #[.agg #[.int .i64 (getB s 0 4), .string { data := #[] }], .int .i64 0] := by unfold rdSlotV; rw [HNM.out, if_pos he]
   have HD := Lib.hid hd
   rw [show slotV (getB s 0 4) { data := #[] } = .tuple #[.agg (IV .u8 s), .int .i64 0] from by unfold slotV; rw [he]]
   clear he hd
   go_wp2_with fail
   exact ret_ct row125 rfl (cs := #[.int .i64 (getB s 0 4), .string { data := #[] }]) rfl (hopA _ _ (hopS f2 #[.int .i64 (getB s 0 4), .string { data := #[] }]).1).1 rfl rfl ⟨by rw [HD.out]; rfl, below_new (below_setRow hbw (by omega) _) (by simp; omega) _⟩
  ·have hd : rdSlotV s = .tuple #[.agg #[.int .i64 0, .string { data := #[] }], .int .i64 63] := by unfold rdSlotV; rw [HNM.out, if_neg he]
   have HD := Lib.hid hd
   have hrl : (slotR (getB s 0 4) { data := #[] }).1.length = 128 := slotR_length _ _
   unfold slotV
   clear hd HNM
   generalize slotR (getB s 0 4) { data := #[] } = rr at *
   obtain ⟨r1, r2⟩ := rr
   simp only [] at hrl ⊢
   by_cases h2 : r2 = 0
   ·subst h2
    have hne : ¬ r1 = s := fun h => he (by rw [h])
    clear he
    go_wp2_with fail
    exact ret_ct row125 rfl (cs := #[.int .i64 0, .string { data := #[] }]) rfl (hopA _ _ (hopS f2 #[.int .i64 0, .string { data := #[] }]).1).1 rfl rfl ⟨by rw [HD.out]; rfl, below_new (below_setRow hbw (by omega) _) (by simp; omega) _⟩
   ·have h2' : (r2 == 0) = false := beq_eq_false_iff_ne.2 h2
    clear he
    go_wp2_with fail
    exact ret_ct row125 rfl (cs := #[.int .i64 0, .string { data := #[] }]) rfl (hopA _ _ (hopS f2 #[.int .i64 0, .string { data := #[] }]).1).1 rfl rfl ⟨by rw [HD.out]; rfl, below_new (below_setRow hbw (by omega) _) (by simp; omega) _⟩
theorem Tryz.info5 : (Tryz.prog.info? 5).map (fun i => (i.zero, i.size, i.bytes)) = some (some (.int .u8 0), 1, 1) := by kernel_rfl
def rawV (s : List Int) (k : Nat) : List Value := (List.range k).map fun j => .int .u8 (nth s (5 + j))
@[simp] theorem rawV_length (s : List Int) (k : Nat) : (rawV s k).length = k := by simp [rawV]
theorem rawV_succ (s : List Int) (k : Nat) : rawV s (k + 1) = rawV s k ++ [.int .u8 (nth s (5 + k))] := by
 unfold rawV; rw [List.range_succ, List.map_append]; rfl
theorem ownsRow_ne {w : World} {base : Nat} {e : TypeId} {size : Nat} {v : Value} {n : Nat} {xs : List Value} (h : w.ownsRow base e size v n xs) {k : Nat} (hk : k < base) : v.ownBlock ≠ some k := by
 obtain ⟨-, h⟩ := h
 rcases h with ⟨rfl, -⟩ | ⟨g, cap, cur, rfl, h1, -⟩
 ·intro h; cases h
 ·intro h
  have : g = k := by simpa [Value.ownBlock] using h
  omega
theorem rreadSlot_any (s : List Int) (hs : s.length = 128) (hb : Bytes s) (w : World) :
  Calls Tryz.prog 95 #[.agg (IV .u8 s)] w fun e w' => e = .returned (rdSlotV s) ∧ Below w.heap.size w w' := by
 have HBY := Lib.hid hb
 obtain ⟨n0, n1⟩ := hb.at 4
 have g41 : getB s 4 1 = nth s 4 := by simp [getB]
 have G41 := Lib.hid g41
 have hx0 := getB_nonneg hb 4 0
 have hx1 : getB s 0 4 < 4294967296 := getB_lt hb 4 0
 clear hb g41
 go_enter Tryz.func95, Tryz.ntmps95
 have hbw := ((Below.refl w.heap.size w).alloc (Nat.le_refl _) (.cells (IV .u8 s) 47)).alloc (by simp) (.cells #[.int .i64 0, .string { data := #[] }] 125)
 have f1 : hat ((w.alloc (.cells (IV .u8 s) 47)).alloc (.cells #[.int .i64 0, .string { data := #[] }] 125)) w.heap.size = some (.cells (IV .u8 s) 47) := by simp [go_sem]
 have f2 : hat ((w.alloc (.cells (IV .u8 s) 47)).alloc (.cells #[.int .i64 0, .string { data := #[] }] 125)) (w.heap.size + 1) = some (.cells #[.int .i64 0, .string { data := #[] }] 125) := by simp [go_sem]
 go_wp2_with fail
 refine (says_ok s hs HBY.out 0 4 _ (by omega) (by omega) (by omega)).mono ?_; rintro e w3 ⟨rfl, hb3⟩
 have hbw := below_call hbw hb3 hbw.size
 obtain ⟨f1, z1⟩ := hop hb3 f1
 obtain ⟨f2, z2⟩ := hop hb3 f2
 clear hb3
 go_wp2_with fail
 have hbw := below_new hbw (by omega) (.cells #[.int .i64 (getB s 0 4), .string { data := #[] }] 125)
 obtain ⟨f1, z1⟩ := hopA w3 (.cells #[.int .i64 (getB s 0 4), .string { data := #[] }] 125) f1
 obtain ⟨f2, z2⟩ := hopA w3 (.cells #[.int .i64 (getB s 0 4), .string { data := #[] }] 125) f2
 obtain ⟨f4, z4⟩ := hopN w3 (.cells #[.int .i64 (getB s 0 4), .string { data := #[] }] 125)
 generalize w3.alloc (.cells #[.int .i64 (getB s 0 4), .string { data := #[] }] 125) = w4 at *
 have hg4 : w.heap.size + 1 < w3.heap.size := by omega
 generalize w3.heap.size = g4 at *
 refine (says_ok s hs HBY.out 4 1 _ (by omega) (by omega) (by omega)).mono ?_; rintro e w5 ⟨rfl, hb3⟩
 rw [G41.out]
 have hbw := below_call hbw hb3 hbw.size
 obtain ⟨f1, z1⟩ := hop hb3 f1
 obtain ⟨f2, z2⟩ := hop hb3 f2
 obtain ⟨f4, z4⟩ := hop hb3 f4
 clear hb3
 obtain ⟨n, hn⟩ : ∃ n : Nat, nth s 4 = n := ⟨(nth s 4).toNat, by omega⟩
 have HNN := Lib.hid hn
 rw [hn] at n0 n1 ⊢
 clear hn
 by_cases h40 : n ≤ 40
 ·have h40' : (n : Int) ≤ 40 := by omega
  obtain ⟨i0, hi, hz0, hz1, hz2⟩ := info_parts Tryz.info5
  go_wp2_with fail
  go_loopw [6, 7] (fun v i wr => ∃ k : Nat, k ≤ n ∧ i = .int .i64 k ∧ wr.ownsRow w5.heap.size 5 1 v k (rawV s k) ∧ w5.heap.size ≤ wr.heap.size ∧ hat wr w.heap.size = some (.cells (IV .u8 s) 47)
   ∧ hat wr (w.heap.size + 1) = some (.cells #[.int .i64 0, .string { data := #[] }] 125) ∧ hat wr g4 = some (.cells #[.int .i64 (getB s 0 4), .string { data := #[] }] 125) ∧ Below w.heap.size w wr) (fun _ i _ => n - (intOf i).toNat)
  case atStart => exact ⟨0, by omega, rfl, ⟨by simp, .inl ⟨rfl, rfl⟩⟩, Nat.le_refl _, f1, f2, f4, hbw⟩
  case round =>
   have y1 := z1
   have y2 := z2
   have y4 := z4
   clear f1 f2 f4 hbw z1 z2 z4
   obtain ⟨k, hk, rfl, hown, hsz, f1, f2, f4, hbw⟩ := hrel
   have z1 := hat_lt f1
   have z2 := hat_lt f2
   have z4 := hat_lt f4
   have HO := Lib.hid hown
   clear hown
   by_cases hkn : k < n
   ·have hk5 : 5 + k < 128 := by omega
    have hk5' : 5 + (k : Int) < 128 := by omega
    have hkn' : (k : Int) < n := by omega
    go_wp2_with (at_builtin; refine wpList_append_own _ rfl (.tmp 22) (.tmp 27) 42 rfl w5.heap.size 5 i0 _ 1 1 Tryz.underlying42 hi hz0 hz1 hz2 rfl (by decide) u6 k (rawV s k) rfl (HO.out.alloc _) ⟨wr.heap.size, 0, none⟩ 1 1 [.int .u8 (nth s (5 + k))] rfl rfl ?c1 ?c2 ?c3 ?c4 ?c5 (fun v' w1 hown' hgrow _ => ?_))
    case c1 =>
     intro j u hj
     have hj3 : j < 1 := by
      have := (List.getElem?_eq_some_iff.1 hj).1
      simpa using this
     have hadd : (⟨wr.heap.size, 0, none⟩ : Addr).add j = ⟨wr.heap.size, j, none⟩ := by unfold Addr.add; split <;> simp_all
     rw [hadd, cell_hat (hat_alloc_at _ _ _ rfl)]
     simpa using hj
    case c2 =>
     intro u hu
     simp at hu
     subst hu
     rfl
    case c3 => unfold maxLen; omega
    case c4 => omega
    case c5 => simp only [World.size_alloc]; omega
    go_roundw
    case rel =>
     have hh : ∀ {b : Nat} {o : Obj}, b < w5.heap.size → hat wr b = some o → hat w1 b = some o := fun {b o} hb h => by
      show w1.heap[b]? = _
      rw [hgrow.block _ (by simp only [World.size_alloc]; have := hat_lt h; omega) (Ne.symm (ownsRow_ne HO.out hb))]
      show hat _ _ = _
      rw [hat_alloc_past _ _ _ (hat_lt h), h]
     refine ⟨k + 1, by omega, by go_num, by rw [rawV_succ]; exact hown', ?_, hh y1 f1, hh y2 f2, hh y4 f4, ?_⟩
     ·have h1 := hgrow.size
      simp only [World.size_alloc] at h1
      omega
     ·exact (hbw.alloc (by omega) _).grown hgrow (by simp only [World.size_alloc]; omega) (fun k hk => by
       have h1 : ¬ k < w5.heap.size := fun h => ownsRow_ne HO.out h hk
       omega)
    case measure => (show n - (k + 1) < n - k); omega
   ·obtain rfl : k = n := by omega
    have hcv : ∃ nm : ByteArray, (⟨(rawNm s k).toArray⟩ : ByteArray) = nm ∧ nm.size < 4611686018427387904 ∧ (convert 42 9 u6).run Tryz.prog wr = .ok (.string nm) wr := by
     obtain ⟨-, h⟩ := HO.out
     refine ⟨_, rfl, ?_, ?_⟩
     ·show (rawNm s k).toArray.size < _
      simp; omega
     ·rcases h with ⟨rfl, rfl⟩ | ⟨g, cap, cur, rfl, h1, h2, h3, h4, h5, h6⟩
      ·exact Lib.run_convert_nil_bytes wr 42 9 5 0 Tryz.underlying42 Tryz.underlying5 Tryz.underlying9
      ·have h := run_convert_bytes_back (P := Tryz.prog) wr 42 9 5 ⟨g, 0, none⟩ cap (rawNm s k) Tryz.underlying42 Tryz.underlying5 Tryz.underlying9 (fun j hj => by
        have hadd : (⟨g, 0, none⟩ : Addr).add j = ⟨g, j, none⟩ := by unfold Addr.add; split <;> simp_all
        have hj' : j < k := by simpa using hj
        obtain ⟨b0, b1⟩ := HBY.out.at (5 + j)
        rw [hadd, cell_hat h2]
        have e : (cur.toList.take (k * 1))[j]? = some (.int .u8 (nth s (5 + j))) := by rw [h6]; simp [rawV, hj']
        rw [List.getElem?_take, if_pos (by omega)] at e
        simp only [rawNm, List.getElem_map, List.getElem_range]
        rw [u8_back b0 b1]
        simpa using e)
       rw [rawNm_length] at h
       exact h
    obtain ⟨nm, hnm, hnz, hcv⟩ := hcv
    go_wp2_with fail
    obtain ⟨f1, z1⟩ := hopCo f1 g4 1 (.string nm) (by omega)
    obtain ⟨f2, z2⟩ := hopCo f2 g4 1 (.string nm) (by omega)
    have f4 : hat (wr.setCell ⟨g4, 1, none⟩ (.string nm)) g4 = some (.cells #[.int .i64 (getB s 0 4), .string nm] 125) := by rw [hat_setCell_at _ _ _ _ _ _ _ f4]; rfl
    have hbw : Below w.heap.size w (wr.setCell ⟨g4, 1, none⟩ (.string nm)) := hbw.setCell (by simp; omega) _
    generalize wr.setCell ⟨g4, 1, none⟩ (.string nm) = w7 at *
    refine (rslotSector_any (getB s 0 4) nm _ hnz).mono ?_; rintro e w6 ⟨rfl, hb3⟩
    have hbw := below_call hbw hb3 hbw.size
    obtain ⟨f1, z1⟩ := hop hb3 f1
    obtain ⟨f2, z2⟩ := hop hb3 f2
    obtain ⟨f4, z4⟩ := hop hb3 f4
    clear hb3
    have HNM := Lib.hid (show rdNm s = nm from by unfold rdNm; rw [HNN.out, if_pos h40', Int.toNat_natCast]; exact hnm)
    by_cases he : slotR (getB s 0 4) nm = (s, 0)
    ·have hd : rdSlotV s = .tuple #[.agg #[.int .i64 (getB s 0 4), .string nm], .int .i64 0] := by unfold rdSlotV; rw [HNM.out, if_pos he]
     have HD := Lib.hid hd
     rw [show slotV (getB s 0 4) nm = .tuple #[.agg (IV .u8 s), .int .i64 0] from by unfold slotV; rw [he]]
     clear he hd
     go_wp2_with fail
     exact ret_ct row125 rfl (cs := #[.int .i64 (getB s 0 4), .string nm]) rfl (hopA _ _ (hopS f2 #[.int .i64 (getB s 0 4), .string nm]).1).1 rfl rfl ⟨by rw [HD.out]; rfl, below_new (below_setRow hbw (by omega) _) (by simp; omega) _⟩
    ·have hd : rdSlotV s = .tuple #[.agg #[.int .i64 0, .string { data := #[] }], .int .i64 63] := by unfold rdSlotV; rw [HNM.out, if_neg he]
     have HD := Lib.hid hd
     have hrl : (slotR (getB s 0 4) nm).1.length = 128 := slotR_length _ _
     unfold slotV
     clear hd HNM
     generalize slotR (getB s 0 4) nm = rr at *
     obtain ⟨r1, r2⟩ := rr
     simp only [] at hrl ⊢
     by_cases h2 : r2 = 0
     ·subst h2
      have hne : ¬ r1 = s := fun h => he (by rw [h])
      clear he
      go_wp2_with fail
      exact ret_ct row125 rfl (cs := #[.int .i64 0, .string { data := #[] }]) rfl (hopA _ _ (hopS f2 #[.int .i64 0, .string { data := #[] }]).1).1 rfl rfl ⟨by rw [HD.out]; rfl, below_new (below_setRow hbw (by omega) _) (by simp; omega) _⟩
     ·have h2' : (r2 == 0) = false := beq_eq_false_iff_ne.2 h2
      clear he
      go_wp2_with fail
      exact ret_ct row125 rfl (cs := #[.int .i64 0, .string { data := #[] }]) rfl (hopA _ _ (hopS f2 #[.int .i64 0, .string { data := #[] }]).1).1 rfl rfl ⟨by rw [HD.out]; rfl, below_new (below_setRow hbw (by omega) _) (by simp; omega) _⟩
 ·have h40' : decide ((n : Int) ≤ 40) = false := by simp; omega
  go_wp2_with fail
  refine (rslotSector_any (getB s 0 4) { data := #[] } _ (by decide)).mono ?_; rintro e w6 ⟨rfl, hb3⟩
  have hbw := below_call hbw hb3 hbw.size
  obtain ⟨f1, z1⟩ := hop hb3 f1
  obtain ⟨f2, z2⟩ := hop hb3 f2
  obtain ⟨f4, z4⟩ := hop hb3 f4
  clear hb3
  have HNM := Lib.hid (show rdNm s = { data := #[] } from by unfold rdNm; rw [HNN.out, if_neg (by omega)])
  by_cases he : slotR (getB s 0 4) { data := #[] } = (s, 0)
  ·have hd : rdSlotV s = .tuple #[.agg #[.int .i64 (getB s 0 4), .string { data := #[] }], .int .i64 0] := by unfold rdSlotV; rw [HNM.out, if_pos he]
   have HD := Lib.hid hd
   rw [show slotV (getB s 0 4) { data := #[] } = .tuple #[.agg (IV .u8 s), .int .i64 0] from by unfold slotV; rw [he]]
   clear he hd
   go_wp2_with fail
   exact ret_ct row125 rfl (cs := #[.int .i64 (getB s 0 4), .string { data := #[] }]) rfl (hopA _ _ (hopS f2 #[.int .i64 (getB s 0 4), .string { data := #[] }]).1).1 rfl rfl ⟨by rw [HD.out]; rfl, below_new (below_setRow hbw (by omega) _) (by simp; omega) _⟩
  ·have hd : rdSlotV s = .tuple #[.agg #[.int .i64 0, .string { data := #[] }], .int .i64 63] := by unfold rdSlotV; rw [HNM.out, if_neg he]
   have HD := Lib.hid hd
   have hrl : (slotR (getB s 0 4) { data := #[] }).1.length = 128 := slotR_length _ _
   unfold slotV
   clear hd HNM
   generalize slotR (getB s 0 4) { data := #[] } = rr at *
   obtain ⟨r1, r2⟩ := rr
   simp only [] at hrl ⊢
   by_cases h2 : r2 = 0
   ·subst h2
    have hne : ¬ r1 = s := fun h => he (by rw [h])
    clear he
    go_wp2_with fail
    exact ret_ct row125 rfl (cs := #[.int .i64 0, .string { data := #[] }]) rfl (hopA _ _ (hopS f2 #[.int .i64 0, .string { data := #[] }]).1).1 rfl rfl ⟨by rw [HD.out]; rfl, below_new (below_setRow hbw (by omega) _) (by simp; omega) _⟩
   ·have h2' : (r2 == 0) = false := beq_eq_false_iff_ne.2 h2
    clear he
    go_wp2_with fail
    exact ret_ct row125 rfl (cs := #[.int .i64 0, .string { data := #[] }]) rfl (hopA _ _ (hopS f2 #[.int .i64 0, .string { data := #[] }]).1).1 rfl rfl ⟨by rw [HD.out]; rfl, below_new (below_setRow hbw (by omega) _) (by simp; omega) _⟩
def isD (x y n : Int) : Bool := decide (y < n ∧ n < x)
theorem lisData_any (x y n : Int) (w : World) :
  Calls Tryz.prog 130 #[.agg #[.int .i64 x, .int .i64 y], .int .i64 n] w fun e w' => e = .returned (.bool (isD x y n)) ∧ Below w.heap.size w w' := by
 cases h1 : decide (y < n)
 all_goals cases h2 : decide (n < x)
 all_goals
  go_enter Tryz.func130, Tryz.ntmps130
  go_wp2_with fail
  go_ret
  refine ⟨ret_bool ?_, (Below.refl _ _).alloc (Nat.le_refl _) _⟩
  simp at h1 h2 ⊢
  simp [isD, h1, h2]
  try omega
theorem risData_any (x y n : Int) (w : World) :
  Calls Tryz.prog 94 #[.agg #[.int .i64 x, .int .i64 y], .int .i64 n] w fun e w' => e = .returned (.bool (isD x y n)) ∧ Below w.heap.size w w' := by
 cases h1 : decide (y < n)
 all_goals cases h2 : decide (n < x)
 all_goals
  go_enter Tryz.func94, Tryz.ntmps94
  go_wp2_with fail
  go_ret
  refine ⟨ret_bool ?_, (Below.refl _ _).alloc (Nat.le_refl _) _⟩
  simp at h1 h2 ⊢
  simp [isD, h1, h2]
  try omega
theorem ret_int {a b : Int} {k : IntKind} (h : a = b) : Ending.returned (.int k a) = .returned (.int k b) := by rw [h]
def i64ok (p : Int) : Prop := -9223372036854775808 ≤ p ∧ p ≤ 9223372036854775807
theorem i64wf {p : Int} (h : i64ok p) : (Lit.int .i64 p).wf = true := by
 unfold i64ok at h
 simp [Lit.wf, IntKind.min, IntKind.max, IntKind.signed, IntKind.bits]; omega
theorem keyInt {p : Int} (h : i64ok p) : keyOf Tryz.prog 3 (.int .i64 p) = some (.int .i64 p) := Go.Maps.keyOf_int_mk Tryz.underlying3 (i64wf h)
theorem keyInt_is {p : Int} (h : i64ok p) : WideAt.IsKeyLit (.int .i64 p) := (Go.Maps.int_keyed Tryz.underlying3).key (keyInt h)
theorem litInt_ne {p q : Int} (h : p ≠ q) : (Lit.int .i64 p) ≠ .int .i64 q := fun e => h (by injection e)
def MB (w : World) (b n : Nat) (s : Int → Bool) : Prop :=
 ∃ D : DataW Unit, w.ownsMap Tryz.prog 3 (plainElem Tryz.prog 4) b n D ∧ Go.Maps.IsMap D ∧ (∀ p, i64ok p → Go.Maps.has D (.int .i64 p) = s p) ∧ ∀ p, i64ok p → D.atKey (.int .i64 p) (.lit (.bool false)) = .lit (.bool (s p))
theorem MB.lt {w : World} {b n : Nat} {s : Int → Bool} (h : MB w b n s) : b < w.heap.size := by
 obtain ⟨D, h1, -⟩ := h; exact h1.lt
theorem MB.same {w w' : World} {b n : Nat} {s : Int → Bool} (h : MB w b n s) (he : hat w' b = hat w b) : MB w' b n s := by
 obtain ⟨D, ⟨es, clock, hb, h1⟩, h2⟩ := h
 exact ⟨D, ⟨es, clock, he.trans hb, h1⟩, h2⟩
theorem MB.made (w : World) : MB (w.alloc (.map #[] 0)) w.heap.size 0 (fun _ => false) :=
 ⟨.map [], World.ownsMap_made w _ _ _, Go.Maps.isMap_empty, fun _ _ => rfl, fun _ _ => rfl⟩
theorem zeroBool (w : World) : (zeroValue 4).run Tryz.prog w = .ok (.bool false) w := by kernel_rfl
theorem plainBool_inv {v : Value} {x : Bool} {ps : List MemPlace} (h : plainElem (H := Unit) Tryz.prog 4 v = some (.lit (.bool x), ps)) : v = .bool x := by
 cases v <;> simp [plainElem, Tryz.underlying4] at h
 rw [h.1]
theorem MB.look {w : World} {b n : Nat} {s : Int → Bool} (h : MB w b n s) {p : Int} (hp : i64ok p) : (Instr.lookup 91 (.map (some b)) (.int .i64 p) false).run Tryz.prog w = .ok (.bool (s p)) w := by
 obtain ⟨D, h1, -, -, h3⟩ := h
 obtain ⟨v, ps, hr, hv⟩ := h1.lookup (Go.Maps.int_keyed Tryz.underlying3) Tryz.underlying91 (zeroBool w) (zd := .lit (.bool false)) (zp := []) (by simp [plainElem, Tryz.underlying4]) (keyInt hp)
 rw [h3 p hp] at hv
 rw [plainBool_inv hv] at hr
 exact hr
theorem MB.put {w : World} {b n : Nat} {s : Int → Bool} (h : MB w b n s) (hn : n < maxLen) {p : Int} (hp : i64ok p) :
  ∃ w', (Instr.mapUpdate 91 (.map (some b)) (.int .i64 p) (.bool true)).run Tryz.prog w = .ok () w' ∧ MB w' b (n + 1) (fun q => s q || decide (q = p)) ∧ w.mapTurned w' b := by
 obtain ⟨D, h1, h0, h2, h3⟩ := h
 obtain ⟨w', hr, ho, ht⟩ := h1.store (Go.Maps.int_keyed Tryz.underlying3) Tryz.underlying91 hn (keyInt hp) (d := .lit (.bool true)) (ps := []) (val := .bool true) (by simp [plainElem, Tryz.underlying4])
 refine ⟨w', hr, ⟨_, ho, h0.put _ _, fun q hq => ?_, fun q hq => ?_⟩, ht⟩
 ·by_cases hqp : q = p
  ·subst hqp
   rw [Go.Maps.has_put_same h0 (keyInt_is hq)]; simp
  ·rw [Go.Maps.has_put_other (litInt_ne hqp), h2 q hq]; simp [hqp]
 ·by_cases hqp : q = p
  ·subst hqp
   rw [Go.Maps.atKey_put_same h0 (keyInt_is hq)]; simp
  ·rw [Go.Maps.atKey_put_other (litInt_ne hqp), h3 q hq]; simp [hqp]
theorem MB.del {w : World} {b n : Nat} {s : Int → Bool} (h : MB w b n s) {p : Int} (hp : i64ok p) (ty : TypeId) :
  ∃ w', (Builtin.delete_ #[91, 3] ty #[.map (some b), .int .i64 p]).run Tryz.prog w = .ok (.tuple #[]) w' ∧ MB w' b n (fun q => s q && !decide (q = p)) ∧ w.mapTurned w' b := by
 obtain ⟨D, h1, h0, h2, h3⟩ := h
 obtain ⟨w', hr, ho, ht⟩ := h1.drop (Go.Maps.int_keyed Tryz.underlying3) Tryz.underlying91 (keyInt hp) ty
 refine ⟨w', hr, ⟨_, ho, h0.del _, fun q hq => ?_, fun q hq => ?_⟩, ht⟩
 ·by_cases hqp : q = p
  ·subst hqp
   rw [Go.Maps.has_del_same]; simp
  ·rw [Go.Maps.has_del_other (litInt_ne hqp), h2 q hq]; simp [hqp]
 ·by_cases hqp : q = p
  ·subst hqp
   rw [Go.Maps.atKey_del_same]; simp
  ·rw [Go.Maps.atKey_del_other (litInt_ne hqp), h3 q hq]; simp [hqp]
theorem turned_hat {w w' : World} {b k : Nat} (h : w.mapTurned w' b) (hk : k ≠ b) (hl : k < w.heap.size) : hat w' k = hat w k := h.grown.block k hl (fun e => hk (by injection e))
section
variable {P : Program} {ops : Array Oper} {Q : Exit → Act → World → Prop}
theorem wanted_of {o : Oper} {a : Act} {j d : Nat} {b : Bool} (ho : o.guard = some (j, b)) {oj : Oper} (hj : ops[j]? = some oj) (hd : oj.dst = some d) (h : gt a d = .bool b) : Region.wanted o (yielded ops a.tmps) = true := by
 have h1 : a.tmps[d]? = some (.bool b) := by
  unfold gt at h
  rw [Array.getD_eq_getD_getElem?] at h
  cases hx : a.tmps[d]? with
  | none => rw [hx] at h; cases h
  | some v => rw [hx] at h; exact congrArg some h
 have h2 : yielded ops a.tmps j = some b := by
  unfold yielded
  rw [hj]
  simp [hd, h1]
 simp [Region.wanted, ho, h2]
theorem wanted_free {o : Oper} {a : Act} (ho : o.guard = none) : Region.wanted o (yielded ops a.tmps) = true := by simp [Region.wanted, ho]
theorem wpOp_val_g {i : Nat} {o : Oper} {K : Act → World → Prop} {a : Act} {w w1 : World} {v : Value} (ho : ops[i]? = some o) (hg : Region.wanted o (yielded ops a.tmps) = true)
  (hr : (execOp a.eval o).run P w = .ok (.value v) w1) (hk : K (a.put o.dst v) w1) : wpOp P ops Q i K a w := by
 unfold wpOp
 simp only [ho]
 rw [if_pos hg]
 refine .inl ?_
 unfold Oper.wp
 rw [hr]
 exact hk
end
end Go.Proofs.YtmnecpnkkapflaaGreat
