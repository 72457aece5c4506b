/- Inodes: laid into a sector. -/
import Derived.Test.YthgiolofnkdfoaaIno4
namespace Go.Proofs.Ythgiolofnkdfoaa
set_option linter.unusedSimpArgs false
set_option linter.unusedVariables false
open Go.RowKit

def inoStep (l : List Int) (s : List Int) (j : Nat) : List Int := setB s (fAt j) (fWd j) (nth l (fCell j))
def inoSecN (l : List Int) (n : Nat) : List Int := (List.range n).foldl (inoStep l) (zl 128)
def inoSec (l : List Int) : List Int := inoSecN l 18
theorem inoSecN_succ (l : List Int) (n : Nat) : inoSecN l (n + 1) = setB (inoSecN l n) (fAt n) (fWd n) (nth l (fCell n)) := by
  unfold inoSecN; rw [List.range_succ, List.foldl_append]; rfl
@[go_sem, simp] theorem inoSecN_length (l : List Int) (n : Nat) : (inoSecN l n).length = 128 := by
  induction n with
  | zero => rfl
  | succ n ih => rw [inoSecN_succ, setB_length, ih]
theorem fWd_pos : ∀ j, 1 ≤ fWd j ∧ fWd j ≤ 8
  | 0 => by decide | 1 => by decide | 2 => by decide | 3 => by decide | 4 => by decide | 5 => by decide | _ + 6 => by simp [fWd]
theorem fAt_le (j : Nat) (hj : j < 18) : fAt j + fWd j ≤ 128 := by
  have : ∀ j, j < 18 → fAt j + fWd j ≤ 128 := by decide
  exact this j hj
theorem fCell_lt (j : Nat) (hj : j < 18) : fCell j < 18 := by
  have : ∀ j, j < 18 → fCell j < 18 := by decide
  exact this j hj
theorem inoMay_fits (l : List Int) (h : InoMay l) (j : Nat) (hj : j < 18) : 0 ≤ nth l (fCell j) ∧ nth l (fCell j) ≤ 1099511627776 ∧ (fWd j < 8 → nth l (fCell j) < 2 ^ (8 * fWd j)) := by
  by_cases h0 : nth l 0 = 0
  · rw [(inoMay_zero h0).1 h, zl_get]
    refine ⟨by omega, by omega, fun _ => ?_⟩
    exact Int.pow_pos (by omega)
  · obtain ⟨⟨h1, h2, h3, h4⟩, h5, -⟩ := (inoMay_else h0).1 h
    match j, hj with
    | 0, _ => exact ⟨by simp only [fCell]; omega, by simp only [fCell]; omega, fun _ => by simp only [fCell, fWd]; omega⟩
    | 1, _ => exact ⟨by simp only [fCell]; omega, by simp only [fCell]; omega, fun _ => by simp only [fCell, fWd]; omega⟩
    | 2, _ => exact ⟨by simp only [fCell]; omega, by simp only [fCell]; omega, fun _ => by simp only [fCell, fWd]; omega⟩
    | 3, _ => exact ⟨by simp only [fCell]; omega, by simp only [fCell]; omega, fun h => by simp only [fWd] at h; omega⟩
    | 4, _ => have := h5 16 (by omega) (by omega); exact ⟨by simp only [fCell]; omega, by simp only [fCell]; omega, fun _ => by simp only [fCell, fWd]; omega⟩
    | 5, _ => have := h5 17 (by omega) (by omega); exact ⟨by simp only [fCell]; omega, by simp only [fCell]; omega, fun _ => by simp only [fCell, fWd]; omega⟩
    | j + 6, hj => have := h5 (4 + j) (by omega) (by omega); exact ⟨by simp only [fCell]; omega, by simp only [fCell]; omega, fun _ => by simp only [fCell, fWd]; omega⟩
@[go_sem] theorem fFn_one (c : Nat → Nat) : ∀ k, (fFn c k).oneCell' = true
  | 0 => rfl | 1 => rfl | 2 => rfl | 3 => rfl | 4 => rfl | 5 => rfl | _ + 6 => rfl
theorem frows_at (c : Nat → Nat) (n k : Nat) (hk : k < n) : ((frows c n).drop (k * 3)).take 3 = frow c k := by
  induction n with
  | zero => omega
  | succ n ih =>
    rw [frows_succ]
    have hl := frows_length c n
    by_cases h : k = n
    · subst h
      rw [List.drop_append_of_le_length (by omega), List.drop_of_length_le (by omega)]
      rfl
    · have h3 : k * 3 + 3 ≤ n * 3 := by omega
      rw [List.drop_append_of_le_length (by omega), List.take_append_of_le_length (by simp; omega)]
      exact ih (by omega)

set_option maxHeartbeats 400000 in
set_option maxRecDepth 100000 in
theorem linodeSector_no (l : List Int) (hl : l.length = 18) (h : ¬ InoMay l) (w : World) :
    Calls Try.prog 22 #[.agg (IV .i64 l)] w fun e w' => e = .returned (.tuple #[.agg (IV .u8 (zl 128)), .int .i64 61]) ∧ Below w.heap.size w w' := by
  have H := Lib.hid h
  clear h
  go_enter Try.func22, Try.ntmps22
  go_wp2_with fail
  refine (linodeMay_any l hl false (by simp; exact H.out) _).mono ?_; rintro e w1 ⟨rfl, hb1⟩
  have hb := below_call (((Below.refl w.heap.size w).alloc (Nat.le_refl _) _).alloc (by simp) _) hb1 (by simp; omega)
  obtain ⟨f1, z1⟩ := hop hb1 (k := w.heap.size + 1) (o := .cells (IV .u8 (zl 128)) 25) (by simp [go_sem])
  clear hb1
  go_wp2_with fail
  exact ret_ct row25 rfl (cs := IV .u8 (zl 128)) rfl (hat_setRow_at _ _ _ _ _ _ f1) (by simp) rfl ⟨rfl, below_setRow hb (by omega) _⟩

set_option maxHeartbeats 2000000 in
set_option maxRecDepth 100000 in
theorem linodeSector_ok (l : List Int) (hl : l.length = 18) (h : InoMay l) (w : World) :
    Calls Try.prog 22 #[.agg (IV .i64 l)] w fun e w' => e = .returned (.tuple #[.agg (IV .u8 (inoSec l)), .int .i64 0]) ∧ Below w.heap.size w w' := by
  have H := Lib.hid h
  clear h
  go_enter Try.func22, Try.ntmps22
  go_wp2_with fail
  refine (linodeMay_any l hl true (by simp; exact H.out) _).mono ?_; rintro e w1 ⟨rfl, hb1⟩
  have hb := below_call (((Below.refl w.heap.size w).alloc (Nat.le_refl _) _).alloc (by simp) _) hb1 (by simp; omega)
  obtain ⟨f0, z0⟩ := hop hb1 (k := w.heap.size) (o := .cells (IV .i64 l) 43) (by simp [go_sem])
  obtain ⟨f1, z1⟩ := hop hb1 (k := w.heap.size + 1) (o := .cells (IV .u8 (zl 128)) 25) (by simp [go_sem])
  clear hb1
  go_wp2_with fail
  have hb := below_new hb (by omega) (.cells (IV .u8 (zl 128)) 25)
  obtain ⟨f0, z0⟩ := hopA w1 (.cells (IV .u8 (zl 128)) 25) f0
  obtain ⟨f1, z1⟩ := hopA w1 (.cells (IV .u8 (zl 128)) 25) f1
  obtain ⟨f4, z4⟩ := hopN w1 (.cells (IV .u8 (zl 128)) 25)
  refine (fields_any _).mono ?_; rintro e w2 ⟨gf, cap, c, cur, rfl, hb2, hgf, ff, hcur, hc⟩
  have hb := below_call hb hb2 (by omega)
  obtain ⟨f0, z0⟩ := hop hb2 f0
  obtain ⟨f1, z1⟩ := hop hb2 f1
  obtain ⟨f4, z4⟩ := hop hb2 f4
  have zf := hat_lt ff
  have hg4 : w.heap.size + 1 < w1.heap.size := by omega
  have hgf4 : w1.heap.size < gf := by simp only [World.size_alloc] at hgf; omega
  clear hb2 hgf
  generalize w1.heap.size = g4 at *
  have hcs : 54 ≤ cur.size := by
    have := congrArg List.length hcur
    rw [frows_length] at this
    simp at this; omega
  have hrow : ∀ k, k < 18 → cur.extract (k * 3) (k * 3 + 3) = #[.int .i64 (fAt k), .int .i64 (fWd k), fFn c k] := by
    intro k hk
    have e := frows_at c 18 k hk
    rw [← hcur] at e
    apply Array.ext'
    have e2 : (cur.toList.drop (k * 3)).take 3 = frow c k := by
      rw [← e, List.drop_take, List.take_take, show min 3 (54 - k * 3) = 3 by omega]
    simp only [Array.toList_extract, List.extract_eq_take_drop, show k * 3 + 3 - k * 3 = 3 by omega, e2]
    rfl
  have HROW := Lib.hid hrow
  have HC := Lib.hid hc
  clear hrow hc hcur
  go_wp2_with fail
  go_loopw [13] (fun i wr => ∃ k : Nat, k ≤ 18 ∧ i = .int .i64 k ∧ hat wr w.heap.size = some (.cells (IV .i64 l) 43) ∧ hat wr (w.heap.size + 1) = some (.cells (IV .u8 (zl 128)) 25) ∧ hat wr g4 = some (.cells (IV .u8 (inoSecN l k)) 25)
      ∧ hat wr gf = some (.cells cur 70) ∧ (∀ j, j < 12 → hat wr (c j) = some (.cells #[.int .i64 j] 3)) ∧ Below w.heap.size w wr) (fun i _ => 18 - (intOf i).toNat)
  case atStart => exact ⟨0, by omega, rfl, f0, f1, f4, ff, HC.out, hb⟩
  case round =>
    clear f0 f1 f4 ff HC hb z0 z1 z4 zf
    obtain ⟨k, hk, rfl, f0, f1, f4, ff, hc, hb⟩ := hrel
    have HC := Lib.hid hc
    clear hc
    by_cases hkw : k < 18
    · have hrk := HROW.out k hkw
      have hk3 : k * 3 + 3 ≤ cur.size := by omega
      have z0 := hat_lt f0
      have z1 := hat_lt f1
      have z4 := hat_lt f4
      have hv := inoMay_fits l H.out k hkw
      have hfc := fCell_lt k hkw
      have HV := Lib.hid hv
      clear hv
      have HK1 := Lib.hid (inoSecN_succ l k)
      go_wp2_with fail
      have hbn := below_new hb (by omega) (.cells #[.int .i64 (fAt k), .int .i64 (fWd k), fFn c k] 70)
      obtain ⟨f0, z0⟩ := hopA wr (.cells #[.int .i64 (fAt k), .int .i64 (fWd k), fFn c k] 70) f0
      obtain ⟨f1, z1⟩ := hopA wr (.cells #[.int .i64 (fAt k), .int .i64 (fWd k), fFn c k] 70) f1
      obtain ⟨f4, z4⟩ := hopA wr (.cells #[.int .i64 (fAt k), .int .i64 (fWd k), fFn c k] 70) f4
      obtain ⟨ff, zf⟩ := hopA wr (.cells #[.int .i64 (fAt k), .int .i64 (fWd k), fFn c k] 70) ff
      obtain ⟨f6, z6⟩ := hopN wr (.cells #[.int .i64 (fAt k), .int .i64 (fWd k), fFn c k] 70)
      have HC2 := Lib.hid (fun j hj => (hopA wr (.cells #[.int .i64 (fAt k), .int .i64 (fWd k), fFn c k] 70) (HC.out j hj)).1)
      clear hb HC
      generalize wr.alloc (.cells #[.int .i64 (fAt k), .int .i64 (fWd k), fFn c k] 70) = w3 at *
      generalize wr.heap.size = g6 at *
      refine wp_region_vals (by kernel_rfl) 11 (by decide) rfl (fun i => match i with
        | 0 => .agg (IV .u8 (inoSecN l k)) | 1 => .pointer (some ⟨g6, 0, none⟩) | 2 => .int .i64 (fAt k) | 3 => .pointer (some ⟨g6, 1, none⟩) | 4 => .int .i64 (fWd k)
        | 5 => .pointer (some ⟨g6, 2, none⟩) | 6 => fFn c k | 7 => .pointer (some ⟨w.heap.size, fCell k, none⟩) | 8 => .pointer (some ⟨w.heap.size, fCell k, none⟩)
        | 9 => .int .i64 (nth l (fCell k)) | _ => .agg (IV .u8 (inoSecN l (k + 1)))) ?_ ?_
      · intro i o hi ho a' w' hB hS hF
        have hi' : i = 0 ∨ i = 1 ∨ i = 2 ∨ i = 3 ∨ i = 4 ∨ i = 5 ∨ i = 6 ∨ i = 7 ∨ i = 8 ∨ i = 9 ∨ i = 10 := by omega
        have e6 := gtx ((hS 6 (by decide)).trans rfl : gt a' 6 = .pointer (some ⟨g6, 0, none⟩))
        have f6 := (hop hB f6).1
        have f4 := (hop hB f4).1
        have f0 := (hop hB f0).1
        rcases hi' with rfl | rfl | rfl | rfl | rfl | rfl | rfl | rfl | rfl | rfl | rfl
        all_goals (have ho' := Option.some.inj ho; subst ho')
        · exact wpOp_load_row 25 128 row25 (.tmp 4) rfl rfl rfl g4 _ ((hS 4 (by decide)).trans rfl) f4 (by simp) ⟨rfl, hB⟩
        · refine wpOp_val rfl rfl (v := .pointer (some ⟨g6, 0, none⟩)) (w1 := w') ?_ ⟨rfl, hB⟩
          simp [go_sem, e6]
        · exact wpOp_load_cell 3 celli (.tmp 18) rfl rfl rfl g6 0 _ _ (hF 1 (by decide) _ 18 rfl rfl) f6 rfl ⟨rfl, hB⟩
        · refine wpOp_val rfl rfl (v := .pointer (some ⟨g6, 1, none⟩)) (w1 := w') ?_ ⟨rfl, hB⟩
          simp [go_sem, e6]
        · exact wpOp_load_cell 3 celli (.tmp 20) rfl rfl rfl g6 1 _ _ (hF 3 (by decide) _ 20 rfl rfl) f6 rfl ⟨rfl, hB⟩
        · refine wpOp_val rfl rfl (v := .pointer (some ⟨g6, 2, none⟩)) (w1 := w') ?_ ⟨rfl, hB⟩
          simp [go_sem, e6]
        · exact wpOp_load_cell 68 cellf (.tmp 22) rfl rfl rfl g6 2 _ _ (hF 5 (by decide) _ 22 rfl rfl) f6 rfl ⟨rfl, hB⟩
        · have e0 := hF 6 (by decide) _ 23 rfl rfl
          have e1 := ((hS 1 (by decide)).trans rfl : gt a' 1 = .pointer (some ⟨w.heap.size, 0, none⟩))
          obtain ⟨f, args, hr, hcall⟩ := fFn_call c k hkw w.heap.size w' (fun j hj => (hop hB (HC2.out j hj)).1)
          refine wpOp_call rfl rfl (hr _ 23 1 _ _ _ _ _ e0 e1) hcall ?_
          rintro e w'' ⟨rfl, hb'⟩
          exact ⟨_, rfl, rfl, below_call hB hb' hB.size⟩
        · have e0 := gtx (hF 7 (by decide) _ 24 rfl rfl)
          refine wpOp_val rfl rfl (v := .pointer (some ⟨w.heap.size, fCell k, none⟩)) (w1 := w') ?_ ⟨rfl, hB⟩
          simp [go_sem, e0]
        · exact wpOp_load_cell 3 celli (.tmp 25) rfl rfl rfl w.heap.size (fCell k) _ _ (hF 8 (by decide) _ 25 rfl rfl) f0 (IV_get _ _ _ (by omega)) ⟨rfl, hB⟩
        · have e0 := gtx (hF 0 (by decide) _ 17 rfl rfl)
          have e1 := gtx (hF 2 (by decide) _ 19 rfl rfl)
          have e2 := gtx (hF 4 (by decide) _ 21 rfl rfl)
          have e3 := gtx (hF 9 (by decide) _ 26 rfl rfl)
          refine wpOp_call (f := 34) (args := #[.agg (IV .u8 (inoSecN l k)), .int .i64 (fAt k), .int .i64 (fWd k), .int .i64 (nth l (fCell k))]) rfl rfl (by simp [go_sem, e0, e1, e2, e3])
            (put_ok _ (by simp) (fAt k) (fWd k) (nth l (fCell k)) w' (fWd_pos k).1 (fWd_pos k).2 (fAt_le k hkw) HV.out.1 (by have := HV.out.2.1; omega) HV.out.2.2) ?_
          rintro e w'' ⟨rfl, hb'⟩
          exact ⟨_, rfl, (by rw [HK1.out]; rfl), below_call hB hb' hB.size⟩
      · intro w' hB
        obtain ⟨f0, z0⟩ := hop hB f0
        obtain ⟨f1, z1⟩ := hop hB f1
        obtain ⟨f4, z4⟩ := hop hB f4
        obtain ⟨ff, zf⟩ := hop hB ff
        have HC3 := Lib.hid (fun j hj => (hop hB (HC2.out j hj)).1)
        have hb := below_call hbn hB hbn.size
        clear hB HC2 f6 hbn
        simp only [putAll, List.take, List.drop, List.take_succ_cons, List.drop_succ_cons, Act.put, List.setIfInBounds_toArray, List.set_cons_zero, List.set_cons_succ]
        go_wp2_with fail
        go_roundw
        case rel =>
          refine ⟨k + 1, by omega, by go_num, (hopR f0 _ _ (by omega)).1, (hopR f1 _ _ (by omega)).1, (hopS f4 _).1, (hopR ff _ _ (by omega)).1, fun j hj => ?_, below_setRow hb (by omega) _⟩
          have := HC3.out j hj
          refine (hopR this _ _ ?_).1
          intro e
          rw [e, f4] at this
          simp at this
        case measure => (show 18 - (k + 1) < 18 - k); omega
    · obtain rfl : k = 18 := by omega
      go_wp2_with fail
      exact ret_ct row25 rfl (cs := IV .u8 (inoSecN l 18)) rfl (hat_setRow_at _ _ _ _ _ _ f1) (by simp) rfl ⟨rfl, below_setRow hb (by omega) _⟩
end Go.Proofs.Ythgiolofnkdfoaa
