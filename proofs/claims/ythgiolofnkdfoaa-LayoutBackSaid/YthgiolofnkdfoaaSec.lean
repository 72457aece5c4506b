/- Package sector, and what layout makes of it: numbers and bytes in a sector. -/
import Derived.Test.YthgiolofnkdfoaaTy
import Derived.Test.YthgiolofnkdfoaaRg
namespace Go.Proofs.Ythgiolofnkdfoaa
set_option linter.unusedSimpArgs false
set_option linter.unusedVariables false
open Go.RowKit

theorem ret_bool {a b : Bool} (h : a = b) : Ending.returned (.bool a) = .returned (.bool b) := by rw [h]

set_option maxHeartbeats 400000 in
theorem lwithin_any (n lo hi : Int) (w : World) :
    Calls Try.prog 31 #[.int .i64 n, .int .i64 lo, .int .i64 hi] w fun e w' => e = .returned (.bool (decide (lo ≤ n ∧ n ≤ hi))) ∧ w = w' := by
  go_enter Try.func31, Try.ntmps31
  go_wp2
  all_goals
    go_ret
    exact ⟨ret_bool (by simp [*] <;> omega), rfl⟩

set_option maxHeartbeats 400000 in
theorem swithin_yes (a n : Int) (w : World) (ha : 0 ≤ a) (hn : 0 ≤ n) (h : a + n ≤ 128) :
    Calls Try.prog 45 #[.int .i64 a, .int .i64 n] w fun e w' => e = .returned (.bool true) ∧ w = w' := by
  go_enter Try.func45, Try.ntmps45
  go_wp2
  all_goals
    go_ret
    exact ⟨ret_bool (by simp; omega), rfl⟩

/-- n bytes of v are laid from a on -/
def setB (s : List Int) (a : Nat) : Nat → Int → List Int
  | 0, _ => s
  | n + 1, v => (setB s a n v).set (a + n) (v / 2 ^ (8 * n) % 256)
@[go_sem, simp] theorem setB_length (s : List Int) (a n : Nat) (v : Int) : (setB s a n v).length = s.length := by
  induction n with
  | zero => rfl
  | succ n ih => simp [setB, ih]

set_option maxHeartbeats 400000 in
set_option maxRecDepth 100000 in
theorem set_ok (s : List Int) (hs : s.length = 128) (a wd : Nat) (v : Int) (w : World) (h1 : 1 ≤ wd) (h8 : wd ≤ 8) (hw : a + wd ≤ 128) (hv : 0 ≤ v) (hv2 : v ≤ 4611686018427387904)
    (hv3 : wd < 8 → v < 2 ^ (8 * wd)) :
    Calls Try.prog 46 #[.agg (IV .u8 s), .int .i64 a, .int .i64 wd, .int .i64 v] w fun e w' => e = .returned (.tuple #[.agg (IV .u8 (setB s a wd v)), .int .i64 0]) ∧ Below w.heap.size w w' := by
  have d1 : decide (v < 0) = false := by simp; omega
  have d2 : decide (4611686018427387904 < v) = false := by simp; omega
  have d3 : wd < 8 → v / 2 ^ (8 * wd) = 0 := fun h => by
    exact Int.ediv_eq_zero_of_lt hv (by simpa using hv3 h)
  have D3 := Lib.hid d3
  clear hv2 d3 hv3
  go_enter Try.func46, Try.ntmps46
  go_wp2_with fail
  refine (swithin_yes _ _ _ (by omega) (by omega) (by omega)).mono ?_; rintro e w' ⟨rfl, rfl⟩
  have d5 : decide ((wd : Int) < 1) = false := by simp; omega
  have d6 : decide (8 < (wd : Int)) = false := by simp; omega
  by_cases hlt : wd < 8
  all_goals
    first
      | (have d4 : decide (0 < v / 2 ^ (8 * wd)) = false := by (rw [D3.out hlt]; rfl))
      | skip
    go_wp2_with fail
    go_loopw [43] (fun i wr => ∃ k : Nat, k ≤ wd ∧ i = .int .i64 k ∧ wr = (w.alloc (.cells (IV .u8 (setB s a k v)) 25)).alloc (.cells (IV .u8 (zl 128)) 25)) (fun i _ => wd - (intOf i).toNat)
    case atStart => exact ⟨0, Nat.zero_le _, rfl, rfl⟩
    case round =>
      obtain ⟨k, hk, rfl, rfl⟩ := hrel
      by_cases hkw : k < wd
      · have hak : a + k < 128 := by omega
        go_wp2_with fail
        go_roundw
        case rel => exact ⟨k + 1, by omega, by go_num, rfl⟩
        case measure => (show wd - (k + 1) < wd - k); omega
      · obtain rfl : k = wd := by omega
        go_wp2_with fail
        refine ret_ct row25 rfl (cs := IV .u8 (setB s a k v)) rfl (hat_alloc_at _ _ _ (by simp)) (by simp [hs]) rfl ⟨rfl, ?_⟩
        exact ((Below.refl _ _).alloc (Nat.le_refl _) _).alloc (by simp) _


/-- the number that stands in n bytes from a on -/
def getB (s : List Int) (a : Nat) : Nat → Int
  | 0 => 0
  | n + 1 => nth s a + 256 * getB s (a + 1) n
def Bytes (s : List Int) : Prop := ∀ x ∈ s, 0 ≤ x ∧ x < 256
theorem Bytes.at {s : List Int} (h : Bytes s) (i : Nat) : 0 ≤ nth s i ∧ nth s i < 256 := by
  unfold nth
  cases hs : s[i]? with
  | none => simp
  | some x => exact h x (List.mem_of_getElem? hs)
theorem getB_nonneg {s : List Int} (h : Bytes s) (n : Nat) : ∀ a, 0 ≤ getB s a n := by
  induction n with
  | zero => intro a; exact Int.le_refl _
  | succ n ih => intro a; have := ih (a + 1); have := h.at a; simp only [getB]; omega
theorem getB_lt {s : List Int} (h : Bytes s) (n : Nat) : ∀ a, getB s a n < 256 ^ n := by
  induction n with
  | zero => intro a; simp [getB]
  | succ n ih => intro a; have := ih (a + 1); have := h.at a; have e : (256 : Int) ^ (n + 1) = 256 * 256 ^ n := by rw [Int.pow_succ]; omega
                 simp only [getB]; omega


theorem pow7 : ∀ k, k ≤ 7 → (256 : Int) ^ k ≤ 256 ^ 7 := by decide
theorem pow8 : ∀ k, k ≤ 8 → (256 : Int) ^ k ≤ 256 ^ 8 := by decide
theorem or_byte (v b : Int) (h0 : 0 ≤ v) (h1 : v < 72057594037927936) (h2 : 0 ≤ b) (h3 : b < 256) :
    bits BinOp.or IntKind.u64 (IntKind.u64.wrap (v * 256)) b = b + 256 * v := by
  rw [IntWalk.u64_in _ ⟨by omega, by omega⟩]
  obtain ⟨n, rfl⟩ := Int.eq_ofNat_of_zero_le h0
  obtain ⟨m, rfl⟩ := Int.eq_ofNat_of_zero_le h2
  have e : ((n : Int) * 256) = ((n * 256 : Nat) : Int) := by omega
  rw [e, u64_or_nat _ _ (by omega) (by omega), nat_join 8 (n * 256) m (by omega) (by omega)]
  omega
theorem getB_step {s : List Int} (h : Bytes s) (a wd k : Nat) (hk : k < wd) (h8 : wd ≤ 8) (hl : a + wd - 1 - k < s.length) :
    bits BinOp.or IntKind.u64 (IntKind.u64.wrap (getB s (a + wd - k) k * 256)) (nth s (a + wd - 1 - k)) = getB s (a + wd - (k + 1)) (k + 1) := by
  have hx := h.at (a + wd - 1 - k)
  have h0 := getB_nonneg h k (a + wd - k)
  have h1 := getB_lt h k (a + wd - k)
  have h2 : (256 : Int) ^ k ≤ 256 ^ 7 := pow7 k (by omega)
  rw [or_byte _ _ h0 (by omega) hx.1 hx.2]
  simp only [getB]
  rw [show a + wd - (k + 1) = a + wd - 1 - k by omega, show a + wd - 1 - k + 1 = a + wd - k by omega]

def getR (s : List Int) (a wd : Nat) : Bool → Value
  | true => .tuple #[.int .i64 0, .int .i64 11]
  | false => .tuple #[.int .i64 (getB s a wd), .int .i64 0]
set_option maxHeartbeats 400000 in
set_option maxRecDepth 100000 in
theorem get_any (s : List Int) (hs : s.length = 128) (hb : Bytes s) (a wd : Nat) (w : World) (h1 : 1 ≤ wd) (h8 : wd ≤ 8) (hw : a + wd ≤ 128) (big : Bool) (hbig : big = decide (4611686018427387904 < getB s a wd)) :
    Calls Try.prog 47 #[.agg (IV .u8 s), .int .i64 a, .int .i64 wd] w fun e w' => e = .returned (getR s a wd big) ∧ Below w.heap.size w w' := by
  have d5 : decide ((wd : Int) < 1) = false := by simp; omega
  have d6 : decide (8 < (wd : Int)) = false := by simp; omega
  have d7 : decide (4611686018427387904 < getB s a wd) = big := hbig.symm
  clear hbig
  have D7 := Lib.hid d7
  clear d7
  go_enter Try.func47, Try.ntmps47
  go_wp2_with fail
  refine (swithin_yes _ _ _ (by omega) (by omega) (by omega)).mono ?_; rintro e w' ⟨rfl, rfl⟩
  go_wp2_with fail
  go_loop [8, 23] (fun v i => ∃ k : Nat, k ≤ wd ∧ i = .int .i64 k ∧ v = .int .u64 (getB s (a + wd - k) k)) (fun _ i => wd - (intOf i).toNat)
  case atStart => exact ⟨0, Nat.zero_le _, rfl, rfl⟩
  case round =>
    obtain ⟨k, hk, rfl, rfl⟩ := hrel
    by_cases hkw : k < wd
    · have hak : a + wd - 1 - k < 128 := by omega
      obtain ⟨hx0, hx1⟩ := hb.at (a + wd - 1 - k)
      go_wp2_with fail
      go_round
      case rel => exact ⟨k + 1, by omega, by go_num, by rw [← getB_step hb a wd k hkw h8 (by omega)]⟩
      case measure => (show wd - (k + 1) < wd - k); omega
    · obtain rfl : k = wd := by omega
      have e1 : a + k - k = a := by omega
      rw [e1]
      cases big
      all_goals
        have d7 := D7.out
        have h0 := getB_nonneg hb k a
        have hlt : getB s a k < 18446744073709551616 := by
          have := getB_lt hb k a
          have h2 : (256 : Int) ^ k ≤ 256 ^ 8 := pow8 k h8
          omega
        first
          | (have hle : getB s a k ≤ 4611686018427387904 := by simpa using d7)
          | skip
        go_wp2_with fail
        refine bodyPost_ret (results_tmp2 rfl _ _ _) rfl ?_
        exact ⟨rfl, (Below.refl _ _).alloc (Nat.le_refl _) _⟩
theorem get_big (s : List Int) (hs : s.length = 128) (hb : Bytes s) (a wd : Nat) (w : World) (h1 : 1 ≤ wd) (h8 : wd ≤ 8) (hw : a + wd ≤ 128) (hbig : 4611686018427387904 < getB s a wd) :
    Calls Try.prog 47 #[.agg (IV .u8 s), .int .i64 a, .int .i64 wd] w fun e w' => e = .returned (.tuple #[.int .i64 0, .int .i64 11]) ∧ Below w.heap.size w w' :=
  get_any s hs hb a wd w h1 h8 hw true (by simp [hbig])
theorem get_ok (s : List Int) (hs : s.length = 128) (hb : Bytes s) (a wd : Nat) (w : World) (h1 : 1 ≤ wd) (h8 : wd ≤ 8) (hw : a + wd ≤ 128) (hbig : ¬ 4611686018427387904 < getB s a wd) :
    Calls Try.prog 47 #[.agg (IV .u8 s), .int .i64 a, .int .i64 wd] w fun e w' => e = .returned (.tuple #[.int .i64 (getB s a wd), .int .i64 0]) ∧ Below w.heap.size w w' :=
  get_any s hs hb a wd w h1 h8 hw false (by simp; omega)

/-- layout's number that stands at a place -/
def getL (s : List Int) (a n : Nat) : Int := if 4611686018427387904 < getB s a n then -1 else getB s a n
set_option maxHeartbeats 400000 in
theorem lget_any (s : List Int) (hs : s.length = 128) (hb : Bytes s) (a wd : Nat) (w : World) (h1 : 1 ≤ wd) (h8 : wd ≤ 8) (hw : a + wd ≤ 128) :
    Calls Try.prog 38 #[.agg (IV .u8 s), .int .i64 a, .int .i64 wd] w fun e w' => e = .returned (.int .i64 (getL s a wd)) ∧ Below w.heap.size w w' := by
  by_cases hbig : 4611686018427387904 < getB s a wd
  · have hL : getL s a wd = -1 := by unfold getL; rw [if_pos hbig]
    rw [hL]
    have H := Lib.hid hbig
    clear hbig hL
    go_enter Try.func38, Try.ntmps38
    go_wp2_with fail
    refine (get_big s hs hb a wd _ h1 h8 hw H.out).mono ?_; rintro e w1 ⟨rfl, hb1⟩
    go_wp2_with fail
    go_ret
    exact ⟨rfl, ((Below.refl _ _).alloc (Nat.le_refl _) _).trans (hb1.mono (by simp))⟩
  · have hL : getL s a wd = getB s a wd := by unfold getL; rw [if_neg hbig]
    rw [hL]
    have H := Lib.hid hbig
    clear hbig hL
    go_enter Try.func38, Try.ntmps38
    go_wp2_with fail
    refine (get_ok s hs hb a wd _ h1 h8 hw (Int.not_lt.2 H.out)).mono ?_; rintro e w1 ⟨rfl, hb1⟩
    go_wp2_with fail
    go_ret
    exact ⟨rfl, ((Below.refl _ _).alloc (Nat.le_refl _) _).trans (hb1.mono (by simp))⟩

set_option maxHeartbeats 400000 in
set_option maxRecDepth 100000 in
theorem put_ok (s : List Int) (hs : s.length = 128) (a wd : Nat) (v : Int) (w : World) (h1 : 1 ≤ wd) (h8 : wd ≤ 8) (hw : a + wd ≤ 128) (hv : 0 ≤ v) (hv2 : v ≤ 4611686018427387904)
    (hv3 : wd < 8 → v < 2 ^ (8 * wd)) :
    Calls Try.prog 34 #[.agg (IV .u8 s), .int .i64 a, .int .i64 wd, .int .i64 v] w fun e w' => e = .returned (.agg (IV .u8 (setB s a wd v))) ∧ Below w.heap.size w w' := by
  have H := Lib.hid hv2
  have H3 := Lib.hid hv3
  clear hv2 hv3
  go_enter Try.func34, Try.ntmps34
  go_wp2_with fail
  refine (set_ok s hs a wd v _ h1 h8 hw hv H.out H3.out).mono ?_; rintro e w1 ⟨rfl, hb⟩
  have f0 := hat_below hb (k := w.heap.size) (by simp only [World.size_alloc]; omega)
  have f1 := hat_below hb (k := w.heap.size + 1) (by simp only [World.size_alloc]; omega)
  have z0 : w.heap.size < w1.heap.size := by have := hb.size; simp only [World.size_alloc] at this; omega
  have z1 : w.heap.size + 1 < w1.heap.size := by have := hb.size; simp only [World.size_alloc] at this; omega
  simp [go_sem] at f0 f1
  go_wp2_with fail
  refine ret_c row25 rfl (cs := IV .u8 (setB s a wd v)) rfl ((hat_alloc_past _ _ _ (by simpa using z1)).trans (hat_setRow_at _ _ _ _ _ _ f1)) (by simp [hs]) rfl ⟨rfl, ?_⟩
  exact (below_setRow ((((Below.refl _ _).alloc (Nat.le_refl _) _).alloc (by simp) _).trans (hb.mono (by simp only [World.size_alloc]; omega))) (by omega) _).alloc (by simp; omega) _

end Go.Proofs.Ythgiolofnkdfoaa
