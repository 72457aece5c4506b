/- Layout: the first sector. -/
import Derived.Test.YthgiolofnkdfoaaLay1
import Derived.Test.YthgiolofnkdfoaaEq
import Derived.Lib.SlBytesConst
namespace Go.Proofs.Ythgiolofnkdfoaa
set_option linter.unusedSimpArgs false
set_option linter.unusedVariables false
open Go.RowKit

def markL : List Int := [66, 82, 75, 87]
def supSec (x y : Int) : List Int := setB (setB (putL (zl 128) 0 markL) 4 4 x) 8 4 y

set_option maxHeartbeats 400000 in
set_option maxRecDepth 100000 in
theorem superSector_ok (x y : Int) (w : World) (h : SupMay x y) :
    Calls Try.prog 16 #[.agg #[.int .i64 x, .int .i64 y]] w fun e w' => e = .returned (.tuple #[.agg (IV .u8 (supSec x y)), .int .i64 0]) ∧ Below w.heap.size w w' := by
  have kc := fun (w : World) (C : Array Value) (n c : Nat) => Lib.run_convert_bytes_const (P := Try.prog) w 59 5 C n c Try.underlying59 Try.underlying5
  obtain ⟨⟨q1, q2⟩, ⟨q3, q4⟩, q5⟩ := id h
  have hpl : (putL (zl 128) 0 markL).length = 128 := by decide
  go_enter Try.func16, Try.ntmps16
  go_wp2_with fail
  refine (superMay_yes _ _ _ h).mono ?_; rintro e w1 ⟨rfl, hb1⟩
  have hb := below_call (((Below.refl w.heap.size w).alloc (Nat.le_refl _) _).alloc (by simp) _) hb1 (by simp; omega)
  obtain ⟨f0, z0⟩ := hop hb1 (k := w.heap.size) (o := .cells #[.int .i64 x, .int .i64 y] 34) (by simp [go_sem])
  obtain ⟨f1, z1⟩ := hop hb1 (k := w.heap.size + 1) (o := .cells (IV .u8 (zl 128)) 25) (by simp [go_sem])
  clear hb1
  go_wp2_with fail
  refine (splice_ok (zl 128) markL (by simp) 0 w1.heap.size 4 5 (4, 5) markL _ (hat_alloc_at _ _ _ rfl) (fun _ _ => rfl) (by decide) (by decide)).mono ?_; rintro e w2 ⟨rfl, hb2⟩
  have hb := below_call (below_new hb (by omega) _) hb2 (by simp; omega)
  obtain ⟨f0, z0⟩ := hop hb2 (hopA _ _ f0).1
  obtain ⟨f1, z1⟩ := hop hb2 (hopA _ _ f1).1
  clear hb2
  go_wp2_with fail
  have hb := below_new hb (by omega) (.cells (IV .u8 (putL (zl 128) 0 markL)) 25)
  obtain ⟨f0, z0⟩ := hopA w2 (.cells (IV .u8 (putL (zl 128) 0 markL)) 25) f0
  obtain ⟨f1, z1⟩ := hopA w2 (.cells (IV .u8 (putL (zl 128) 0 markL)) 25) f1
  obtain ⟨f4, z4⟩ := hopN w2 (.cells (IV .u8 (putL (zl 128) 0 markL)) 25)
  generalize w2.alloc (.cells (IV .u8 (putL (zl 128) 0 markL)) 25) = w3 at *
  generalize w2.heap.size = g4 at *
  refine wp_region_vals (by kernel_rfl) 7 (by decide) rfl (fun i => match i with
    | 0 => .agg (IV .u8 (putL (zl 128) 0 markL)) | 1 => .pointer (some ⟨w.heap.size, 0, none⟩) | 2 => .int .i64 x | 3 => .agg (IV .u8 (setB (putL (zl 128) 0 markL) 4 4 x))
    | 4 => .pointer (some ⟨w.heap.size, 1, none⟩) | 5 => .int .i64 y | _ => .agg (IV .u8 (supSec x y))) ?_ ?_
  · intro i o hi ho a' w' hB hS hF
    have hi' : i = 0 ∨ i = 1 ∨ i = 2 ∨ i = 3 ∨ i = 4 ∨ i = 5 ∨ i = 6 := by omega
    rcases hi' with rfl | rfl | rfl | rfl | rfl | rfl | rfl
    all_goals (have ho' := Option.some.inj ho; subst ho')
    · exact wpOp_load_row 25 128 row25 (.tmp 4) rfl rfl rfl g4 _ ((hS 4 (by decide)).trans rfl) ((hat_below hB z4).trans f4) (by simp [hpl]) ⟨rfl, hB⟩
    · have e1 : gt a' 1 = .pointer (some ⟨w.heap.size, 0, none⟩) := (hS 1 (by decide)).trans rfl
      unfold gt at e1
      refine wpOp_val rfl rfl (v := .pointer (some ⟨w.heap.size, 0, none⟩)) (w1 := w') ?_ ⟨rfl, hB⟩
      simp [go_sem, e1]
    · have e := hF 1 (by decide) _ 18 rfl rfl
      exact wpOp_load_cell 3 celli (.tmp 18) rfl rfl rfl w.heap.size 0 _ _ e ((hat_below hB (hat_lt f0)).trans f0) rfl ⟨rfl, hB⟩
    · have e0 := hF 0 (by decide) _ 17 rfl rfl
      have e2 := hF 2 (by decide) _ 19 rfl rfl
      unfold gt at e0 e2
      refine wpOp_call (f := 34) (args := #[.agg (IV .u8 (putL (zl 128) 0 markL)), .int .i64 4, .int .i64 4, .int .i64 x]) rfl rfl (by simp [go_sem, e0, e2]) (put_ok _ hpl 4 4 x w' (by omega) (by omega) (by omega) (by omega) (by omega) (by omega)) ?_
      rintro e w'' ⟨rfl, hb'⟩
      exact ⟨_, rfl, rfl, below_call hB hb' hB.size⟩
    · have e1 : gt a' 1 = .pointer (some ⟨w.heap.size, 0, none⟩) := (hS 1 (by decide)).trans rfl
      unfold gt at e1
      refine wpOp_val rfl rfl (v := .pointer (some ⟨w.heap.size, 1, none⟩)) (w1 := w') ?_ ⟨rfl, hB⟩
      simp [go_sem, e1]
    · have e := hF 4 (by decide) _ 21 rfl rfl
      exact wpOp_load_cell 3 celli (.tmp 21) rfl rfl rfl w.heap.size 1 _ _ e ((hat_below hB (hat_lt f0)).trans f0) rfl ⟨rfl, hB⟩
    · have e0 := hF 3 (by decide) _ 20 rfl rfl
      have e2 := hF 5 (by decide) _ 22 rfl rfl
      unfold gt at e0 e2
      refine wpOp_call (f := 34) (args := #[.agg (IV .u8 (setB (putL (zl 128) 0 markL) 4 4 x)), .int .i64 8, .int .i64 4, .int .i64 y]) rfl rfl (by simp [go_sem, e0, e2]) (put_ok _ (by simp [hpl]) 8 4 y w' (by omega) (by omega) (by omega) (by omega) (by omega) (by omega)) ?_
      rintro e w'' ⟨rfl, hb'⟩
      exact ⟨_, rfl, rfl, below_call hB hb' hB.size⟩
  · intro w' hB
    obtain ⟨f1, z1⟩ := hop hB f1
    have hb := below_call hb hB (by omega)
    have hsl : (supSec x y).length = 128 := by simp [supSec, hpl]
    clear hB f0 f4 hpl
    simp only [putAll, List.take, List.drop, List.take_succ_cons, List.drop_succ_cons]
    go_wp2_with fail
    refine ret_ct row25 rfl (cs := IV .u8 (supSec x y)) rfl (hat_setRow_at _ _ _ _ _ _ f1) (by simp [hsl]) rfl ⟨rfl, ?_⟩
    exact below_setRow hb (by omega) _

set_option maxHeartbeats 400000 in
theorem superSector_no (x y : Int) (w : World) (h : ¬ SupMay x y) (hx : x ≤ 9223372036854775807) (hy : y ≤ 9223372036854775807) (hx' : -9223372036854775808 ≤ x) (hy' : -9223372036854775808 ≤ y) :
    Calls Try.prog 16 #[.agg #[.int .i64 x, .int .i64 y]] w fun e w' => e = .returned (.tuple #[.agg (IV .u8 (zl 128)), .int .i64 60]) ∧ Below w.heap.size w w' := by
  have H := Lib.hid h
  have HX := Lib.hid (And.intro hx (And.intro hy (And.intro hx' hy')))
  clear h hx hy hx' hy'
  go_enter Try.func16, Try.ntmps16
  go_wp2_with fail
  refine (superMay_no _ _ _ H.out HX.out.1 HX.out.2.1 HX.out.2.2.1 HX.out.2.2.2).mono ?_; rintro e w1 ⟨rfl, hb1⟩
  have hb := below_call (((Below.refl w.heap.size w).alloc (Nat.le_refl _) _).alloc (by simp) _) hb1 (by simp; omega)
  obtain ⟨f1, z1⟩ := hop hb1 (k := w.heap.size + 1) (o := .cells (IV .u8 (zl 128)) 25) (by simp [go_sem])
  clear hb1
  go_wp2_with fail
  refine ret_ct row25 rfl (cs := IV .u8 (zl 128)) rfl (hat_setRow_at _ _ _ _ _ _ f1) (by simp) rfl ⟨rfl, ?_⟩
  exact below_setRow hb (by omega) _

-- the document's
set_option maxHeartbeats 400000 in
set_option maxRecDepth 100000 in
theorem lay_ok (s : List Int) (hs : s.length = 128) (a wd : Nat) (v : Int) (w : World) (h8 : wd ≤ 8) (hw : a + wd ≤ 128) (hv : 0 ≤ v) (hv2 : v ≤ 4611686018427387904) :
    Calls Try.prog 37 #[.agg (IV .u8 s), .int .i64 a, .int .i64 wd, .int .i64 v] w fun e w' => e = .returned (.agg (IV .u8 (setB s a wd v))) ∧ Below w.heap.size w w' := by
  have H := Lib.hid hv2
  clear hv2
  go_enter Try.func37, Try.ntmps37
  go_wp2_with fail
  go_loopw [9, 10] (fun x i wr => ∃ k : Nat, k ≤ wd ∧ i = .int .i64 k ∧ x = .int .i64 (v / 2 ^ (8 * k)) ∧ wr = (w.alloc (.cells (IV .u8 (setB s a k v)) 25)).alloc (.cells (IV .u8 (zl 128)) 25)) (fun _ i _ => wd - (intOf i).toNat)
  case atStart => exact ⟨0, Nat.zero_le _, rfl, by simp, rfl⟩
  case round =>
    obtain ⟨k, hk, rfl, rfl, rfl⟩ := hrel
    by_cases hkw : k < wd
    · have hak : a + k < 128 := by omega
      have hp : 0 < (2 : Int) ^ (8 * k) := Int.pow_pos (by omega)
      have hq0 : 0 ≤ v / 2 ^ (8 * k) := Int.ediv_nonneg hv (by omega)
      have hq1 : v / 2 ^ (8 * k) ≤ 4611686018427387904 := Int.le_trans (Int.ediv_le_self _ hv) H.out
      have hstep : v / 2 ^ (8 * (k + 1)) = v / 2 ^ (8 * k) / 256 := by
        rw [Int.ediv_ediv_of_nonneg (by omega), show 8 * (k + 1) = 8 * k + 8 by omega, Int.pow_add]; rfl
      have HS := Lib.hid hstep
      clear hstep hp
      go_wp2_with fail
      go_roundw
      case rel => exact ⟨k + 1, by omega, by go_num, by rw [HS.out], rfl⟩
      case measure => (show wd - (k + 1) < wd - k); omega
    · obtain rfl : k = wd := by omega
      go_wp2_with fail
      refine ret_c row25 rfl (cs := IV .u8 (setB s a k v)) rfl (hat_alloc_at _ _ _ (by simp)) (by simp [hs]) rfl ⟨rfl, ?_⟩
      exact ((Below.refl _ _).alloc (Nat.le_refl _) _).alloc (by simp) _

theorem getB_snoc (s : List Int) (n : Nat) : ∀ a, getB s a (n + 1) = getB s a n + 256 ^ n * nth s (a + n) := by
  induction n with
  | zero => intro a; simp [getB]
  | succ n ih =>
    intro a
    have h1 : getB s a (n + 1 + 1) = nth s a + 256 * getB s (a + 1) (n + 1) := rfl
    have h2 : getB s a (n + 1) = nth s a + 256 * getB s (a + 1) n := rfl
    rw [h1, h2, ih (a + 1), Int.pow_succ, show a + 1 + n = a + (n + 1) by omega]
    generalize nth s (a + (n + 1)) = z
    generalize getB s (a + 1) n = y
    rw [Int.mul_add, ← Int.mul_assoc, Int.mul_comm 256 ((256 : Int) ^ n)]
    omega
theorem says_lt {s : List Int} (hb : Bytes s) (a wd k : Nat) (h8 : wd ≤ 8) (hk : k < wd) (hz : wd = 8 → nth s (a + 7) = 0) : getB s (a + wd - k) k < 72057594037927936 := by
  have p7 : (256 : Int) ^ 7 = 72057594037927936 := by decide
  have h1 := getB_lt hb k (a + wd - k)
  by_cases h : k ≤ 7
  · have h2 := pow7 k h
    omega
  · omega
theorem says_lt' {s : List Int} (hb : Bytes s) (a wd k : Nat) (h8 : wd ≤ 8) (hk : k < wd) (hz : wd = 8 → nth s (a + 7) = 0) : getB s (a + wd - k) k < 281474976710656 := by
  have p6 : (256 : Int) ^ 6 = 281474976710656 := by decide
  have pk : ∀ k, k ≤ 6 → (256 : Int) ^ k ≤ 256 ^ 6 := by decide
  by_cases h : k ≤ 6
  · have h1 := getB_lt hb k (a + wd - k)
    have h2 := pk k h
    omega
  · have hk7 : k = 7 := by omega
    have hw : wd = 8 := by omega
    subst hk7; subst hw
    have h1 := getB_lt hb 6 (a + 8 - 7)
    have h2 := getB_snoc s 6 (a + 8 - 7)
    rw [show a + 8 - 7 + 6 = a + 7 by omega, hz rfl] at h2
    show getB s (a + 8 - 7) (6 + 1) < _
    rw [h2, ← p6]
    simpa using h1

set_option maxHeartbeats 400000 in
set_option maxRecDepth 100000 in
theorem says_ok (s : List Int) (hs : s.length = 128) (hb : Bytes s) (a wd : Nat) (w : World) (h8 : wd ≤ 8) (hw : a + wd ≤ 128) (hz : wd = 8 → nth s (a + 7) = 0) :
    Calls Try.prog 39 #[.agg (IV .u8 s), .int .i64 a, .int .i64 wd] w fun e w' => e = .returned (.int .i64 (getB s a wd)) ∧ Below w.heap.size w w' := by
  have HZ := Lib.hid hz
  clear hz
  go_enter Try.func39, Try.ntmps39
  go_wp2_with fail
  go_loop [7, 8] (fun n i => ∃ k : Nat, k ≤ wd ∧ i = .int .i64 ((wd : Int) - 1 - k) ∧ n = .int .i64 (getB s (a + wd - k) k)) (fun _ i => (intOf i + 1).toNat)
  case atStart => exact ⟨0, Nat.zero_le _, by go_num, rfl⟩
  case round =>
    obtain ⟨k, hk, rfl, rfl⟩ := hrel
    by_cases hkw : k < wd
    · have hak : a + wd - 1 - k < 128 := by omega
      have hak' : a + (wd - 1 - k) < 128 := by omega
      have hx := hb.at (a + (wd - 1 - k))
      obtain ⟨hx0, hx1⟩ := hx
      have hn0 := getB_nonneg hb k (a + wd - k)
      have hn1 := says_lt' hb a wd k h8 hkw HZ.out
      have hstep : getB s (a + wd - (k + 1)) (k + 1) = getB s (a + wd - k) k * 256 + nth s (a + (wd - 1 - k)) := by
        simp only [getB]
        rw [show a + wd - (k + 1) = a + (wd - 1 - k) by omega, show a + (wd - 1 - k) + 1 = a + wd - k by omega]
        omega
      have HS := Lib.hid hstep
      clear hstep
      by_cases h7 : (wd : Int) - 1 - k = 7
      · obtain rfl : k = 0 := by omega
        obtain rfl : wd = 8 := by omega
        have hz7 := HZ.out rfl
        have g0 : getB s (a + 8) 0 = 0 := rfl
        clear h7
        go_wp2_with fail
        go_round
        case rel => exact ⟨1, by omega, rfl, by rw [HS.out]; simp [g0, hz7]⟩
        case measure => decide
      · have d7 : (((wd : Int) - 1 - k) == 7) = false := by simpa using h7
        clear h7
        go_wp2_with fail
        go_round
        case rel => exact ⟨k + 1, by omega, by go_num, by rw [HS.out]⟩
        case measure => (show ((wd : Int) - 1 - k - 1 + 1).toNat < ((wd : Int) - 1 - k + 1).toNat); omega
    · obtain rfl : k = wd := by omega
      have e1 : a + k - k = a := by omega
      rw [e1]
      go_wp2_with fail
      go_ret
      exact ⟨rfl, (Below.refl _ _).alloc (Nat.le_refl _) _⟩

set_option maxHeartbeats 400000 in
set_option maxRecDepth 100000 in
theorem says_big (s : List Int) (hs : s.length = 128) (hb : Bytes s) (a : Nat) (w : World) (hw : a + 8 ≤ 128) (hz : nth s (a + 7) ≠ 0) :
    Calls Try.prog 39 #[.agg (IV .u8 s), .int .i64 a, .int .i64 8] w fun e w' => e = .returned (.int .i64 (-1)) ∧ Below w.heap.size w w' := by
  have hz1 : (nth s (a + 7) != 0) = true := by simpa using hz
  have hak : a + 7 < 128 := by omega
  clear hz
  go_enter Try.func39, Try.ntmps39
  go_wp2_with fail
  refine wp_loop_rounds 1 ?_
  rw [rounds_succ]
  go_wp2_with fail
  go_ret
  exact ⟨rfl, (Below.refl _ _).alloc (Nat.le_refl _) _⟩
end Go.Proofs.Ythgiolofnkdfoaa
