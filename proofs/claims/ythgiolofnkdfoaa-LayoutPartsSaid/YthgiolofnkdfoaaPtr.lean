/- Sectors of pointers. -/
import Derived.Test.YthgiolofnkdfoaaIno9
namespace Go.Proofs.Ythgiolofnkdfoaa
set_option linter.unusedSimpArgs false
set_option linter.unusedVariables false
open Go.RowKit

def PtrMay (x : List Int) : Prop := ∀ j, j < 32 → 0 ≤ nth x j ∧ nth x j ≤ 4294967295
def ptrSecN (x : List Int) (n : Nat) : List Int := (List.range n).foldl (fun s j => setB s (4 * j) 4 (nth x j)) (zl 128)
theorem ptrSecN_succ (x : List Int) (n : Nat) : ptrSecN x (n + 1) = setB (ptrSecN x n) (4 * n) 4 (nth x n) := by
  unfold ptrSecN; rw [List.range_succ, List.foldl_append]; rfl
@[go_sem, simp] theorem ptrSecN_length (x : List Int) (n : Nat) : (ptrSecN x n).length = 128 := by
  induction n with
  | zero => rfl
  | succ n ih => rw [ptrSecN_succ, setB_length, ih]
open Classical in
noncomputable def ptrV (x : List Int) : Value :=
  if PtrMay x then .tuple #[.agg (IV .u8 (ptrSecN x 32)), .int .i64 0] else .tuple #[.agg (IV .u8 (zl 128)), .int .i64 62]
theorem ptrV_yes {x : List Int} (h : PtrMay x) : ptrV x = .tuple #[.agg (IV .u8 (ptrSecN x 32)), .int .i64 0] := by unfold ptrV; rw [if_pos h]
theorem ptrV_no {x : List Int} (h : ¬ PtrMay x) : ptrV x = .tuple #[.agg (IV .u8 (zl 128)), .int .i64 62] := by unfold ptrV; rw [if_neg h]
def rdPtr (s : List Int) : List Int := (List.range 32).map fun i => getB s (4 * i) 4
@[go_sem, simp] theorem rdPtr_length (s : List Int) : (rdPtr s).length = 32 := by simp [rdPtr]
def rdPtrN (s : List Int) (n : Nat) : List Int := (List.range n).foldl (fun x j => x.set j (getB s (4 * j) 4)) (zl 32)
theorem rdPtrN_succ (s : List Int) (n : Nat) : rdPtrN s (n + 1) = (rdPtrN s n).set n (getB s (4 * n) 4) := by
  unfold rdPtrN; rw [List.range_succ, List.foldl_append]; rfl
@[go_sem, simp] theorem rdPtrN_length (s : List Int) (n : Nat) : (rdPtrN s n).length = 32 := by
  induction n with
  | zero => rfl
  | succ n ih => rw [rdPtrN_succ, List.length_set, ih]
theorem rdPtrN_nth (s : List Int) (n j : Nat) (hn : n ≤ 32) : nth (rdPtrN s n) j = if j < n then getB s (4 * j) 4 else 0 := by
  induction n with
  | zero => simp [rdPtrN, zl_get]
  | succ n ih =>
    rw [rdPtrN_succ, nth_set (by simp; omega), ih (by omega)]
    by_cases h : j = n
    · subst h; simp
    · rw [if_neg h]
      by_cases h2 : j < n
      · rw [if_pos h2, if_pos (by omega)]
      · rw [if_neg h2, if_neg (by omega)]
theorem rdPtr_nth (s : List Int) (j : Nat) (hj : j < 32) : nth (rdPtr s) j = getB s (4 * j) 4 := by
  simp [rdPtr, nth, hj]
theorem rdPtrN_all (s : List Int) : rdPtrN s 32 = rdPtr s := by
  refine nth_ext (by simp) (fun j hj => ?_)
  simp at hj
  rw [rdPtrN_nth _ _ _ (by omega), if_pos hj, rdPtr_nth _ _ hj]

set_option maxHeartbeats 2000000 in
set_option maxRecDepth 100000 in
theorem lpointersSector_any (x : List Int) (hx : x.length = 32) (w : World) :
    Calls Try.prog 26 #[.agg (IV .i64 x)] w fun e w' => e = .returned (ptrV x) ∧ Below w.heap.size w w' := by
  go_enter Try.func26, Try.ntmps26
  go_wp2_with fail
  have hb := (((Below.refl w.heap.size w).alloc (Nat.le_refl _) (.cells (IV .i64 x) 49)).alloc (by simp) (.cells (IV .u8 (zl 128)) 25)).alloc (by simp; omega) (.cells (IV .u8 (zl 128)) 25)
  have f1 : hat (((w.alloc (.cells (IV .i64 x) 49)).alloc (.cells (IV .u8 (zl 128)) 25)).alloc (.cells (IV .u8 (zl 128)) 25)) w.heap.size = some (.cells (IV .i64 x) 49) := by simp [go_sem]
  have f2 : hat (((w.alloc (.cells (IV .i64 x) 49)).alloc (.cells (IV .u8 (zl 128)) 25)).alloc (.cells (IV .u8 (zl 128)) 25)) (w.heap.size + 1) = some (.cells (IV .u8 (zl 128)) 25) := by simp [go_sem]
  have f4 : hat (((w.alloc (.cells (IV .i64 x) 49)).alloc (.cells (IV .u8 (zl 128)) 25)).alloc (.cells (IV .u8 (zl 128)) 25)) (w.heap.size + 1 + 1) = some (.cells (IV .u8 (zl 128)) 25) := by simp [go_sem]
  go_loopw [8] (fun i wr => ∃ k : Nat, k ≤ 32 ∧ i = .int .i64 k ∧ (∀ j, j < k → 0 ≤ nth x j ∧ nth x j ≤ 4294967295) ∧ hat wr w.heap.size = some (.cells (IV .i64 x) 49) ∧ hat wr (w.heap.size + 1) = some (.cells (IV .u8 (zl 128)) 25)
      ∧ hat wr (w.heap.size + 1 + 1) = some (.cells (IV .u8 (ptrSecN x k)) 25) ∧ Below w.heap.size w wr) (fun i _ => 32 - (intOf i).toNat)
  case atStart => exact ⟨0, by omega, rfl, fun j hj => by omega, f1, f2, f4, hb⟩
  case round =>
    clear f1 f2 f4 hb
    obtain ⟨k, hk, rfl, hok, f1, f2, f4, hb⟩ := hrel
    have HOK := Lib.hid hok
    clear hok
    have z1 := hat_lt f1
    have z2 := hat_lt f2
    have z4 := hat_lt f4
    by_cases hkw : k < 32
    · by_cases hp : 0 ≤ nth x k ∧ nth x k ≤ 4294967295
      · have HP := Lib.hid hp
        have HK1 := Lib.hid (ptrSecN_succ x k)
        obtain ⟨p0, p1⟩ := hp
        go_wp2_with fail
        refine (lwithin_yes _ _ _ _ HP.out).mono ?_; rintro e w' ⟨rfl, rfl⟩
        go_wp2_with fail
        refine (put_ok (ptrSecN x k) (by simp) (4 * k) 4 (nth x k) _ (by omega) (by omega) (by omega) p0 (by omega) (fun _ => by omega)).mono ?_; rintro e w3 ⟨rfl, hb3⟩
        have hb := below_call hb hb3 hb.size
        obtain ⟨f1, z1⟩ := hop hb3 f1
        obtain ⟨f2, z2⟩ := hop hb3 f2
        obtain ⟨f4, z4⟩ := hop hb3 f4
        clear hb3
        go_wp2_with fail
        go_roundw
        case rel => exact ⟨k + 1, by omega, by go_num, fun j hj => (by by_cases h : j = k; (subst h; exact HP.out); exact HOK.out j (by omega)), (hopR f1 _ _ (by omega)).1, (hopR f2 _ _ (by omega)).1, by rw [HK1.out]; exact (hopS f4 _).1, below_setRow hb (by omega) _⟩
        case measure => (show 32 - (k + 1) < 32 - k); omega
      · have HP := Lib.hid hp
        have HV := Lib.hid (ptrV_no (x := x) (fun h => hp (h k hkw)))
        clear hp
        go_wp2_with fail
        refine (lwithin_no _ _ _ _ HP.out).mono ?_; rintro e w' ⟨rfl, rfl⟩
        go_wp2_with fail
        exact ret_ct row25 rfl (cs := IV .u8 (zl 128)) rfl (hat_setRow_at _ _ _ _ _ _ f2) (by simp) rfl ⟨by rw [HV.out]; rfl, below_setRow hb (by omega) _⟩
    · obtain rfl : k = 32 := by omega
      have HV := Lib.hid (ptrV_yes (x := x) HOK.out)
      go_wp2_with fail
      exact ret_ct row25 rfl (cs := IV .u8 (ptrSecN x 32)) rfl (hat_setRow_at _ _ _ _ _ _ f2) (by simp) rfl ⟨by rw [HV.out]; rfl, below_setRow hb (by omega) _⟩

set_option maxHeartbeats 2000000 in
set_option maxRecDepth 100000 in
theorem rpointersSector_any (x : List Int) (hx : x.length = 32) (w : World) :
    Calls Try.prog 27 #[.agg (IV .i64 x)] w fun e w' => e = .returned (ptrV x) ∧ Below w.heap.size w w' := by
  go_enter Try.func27, Try.ntmps27
  go_wp2_with fail
  have hb := (((Below.refl w.heap.size w).alloc (Nat.le_refl _) (.cells (IV .i64 x) 49)).alloc (by simp) (.cells (IV .u8 (zl 128)) 25)).alloc (by simp; omega) (.cells (IV .u8 (zl 128)) 25)
  have f1 : hat (((w.alloc (.cells (IV .i64 x) 49)).alloc (.cells (IV .u8 (zl 128)) 25)).alloc (.cells (IV .u8 (zl 128)) 25)) w.heap.size = some (.cells (IV .i64 x) 49) := by simp [go_sem]
  have f2 : hat (((w.alloc (.cells (IV .i64 x) 49)).alloc (.cells (IV .u8 (zl 128)) 25)).alloc (.cells (IV .u8 (zl 128)) 25)) (w.heap.size + 1) = some (.cells (IV .u8 (zl 128)) 25) := by simp [go_sem]
  have f4 : hat (((w.alloc (.cells (IV .i64 x) 49)).alloc (.cells (IV .u8 (zl 128)) 25)).alloc (.cells (IV .u8 (zl 128)) 25)) (w.heap.size + 1 + 1) = some (.cells (IV .u8 (zl 128)) 25) := by simp [go_sem]
  go_loopw [5] (fun i wr => ∃ k : Nat, k ≤ 32 ∧ i = .int .i64 k ∧ (∀ j, j < k → 0 ≤ nth x j ∧ nth x j ≤ 4294967295) ∧ hat wr w.heap.size = some (.cells (IV .i64 x) 49) ∧ hat wr (w.heap.size + 1) = some (.cells (IV .u8 (zl 128)) 25)
      ∧ hat wr (w.heap.size + 1 + 1) = some (.cells (IV .u8 (ptrSecN x k)) 25) ∧ Below w.heap.size w wr) (fun i _ => 32 - (intOf i).toNat)
  case atStart => exact ⟨0, by omega, rfl, fun j hj => by omega, f1, f2, f4, hb⟩
  case round =>
    clear f1 f2 f4 hb
    obtain ⟨k, hk, rfl, hok, f1, f2, f4, hb⟩ := hrel
    have HOK := Lib.hid hok
    clear hok
    have z1 := hat_lt f1
    have z2 := hat_lt f2
    have z4 := hat_lt f4
    by_cases hkw : k < 32
    · by_cases hp : 0 ≤ nth x k ∧ nth x k ≤ 4294967295
      · have HP := Lib.hid hp
        have HK1 := Lib.hid (ptrSecN_succ x k)
        obtain ⟨p0, p1⟩ := hp
        go_wp2_with fail
        refine (rwithin_yes _ _ _ _ HP.out).mono ?_; rintro e w' ⟨rfl, rfl⟩
        go_wp2_with fail
        refine wp_region_vals (by kernel_rfl) 7 (by decide) rfl (fun i => match i with
          | 0 => .agg (IV .u8 (ptrSecN x k)) | 1 => .int .i64 k | 2 => .int .i64 (4 * k) | 3 => .int .i64 k | 4 => .pointer (some ⟨w.heap.size, k, none⟩) | 5 => .int .i64 (nth x k) | _ => .agg (IV .u8 (ptrSecN x (k + 1)))) ?_ ?_
        · intro i o hi ho a' w' hB hS hF
          have hi' : i = 0 ∨ i = 1 ∨ i = 2 ∨ i = 3 ∨ i = 4 ∨ i = 5 ∨ i = 6 := by omega
          have f4 := (hop hB f4).1
          have f1 := (hop hB f1).1
          have e1 := gtx ((hS 1 (by decide)).trans rfl : gt a' 1 = .pointer (some ⟨w.heap.size, 0, none⟩))
          rcases hi' with rfl | rfl | rfl | rfl | rfl | rfl | rfl
          all_goals (have ho' := Option.some.inj ho; subst ho')
          · exact wpOp_load_row 25 128 row25 (.tmp 4) rfl rfl rfl (w.heap.size + 1 + 1) _ ((hS 4 (by decide)).trans rfl) f4 (by simp) ⟨rfl, hB⟩
          · exact wpOp_move (.tmp 5) rfl rfl rfl _ ((hS 5 (by decide)).trans rfl) ⟨rfl, hB⟩
          · have e0 := gtx (hF 1 (by decide) _ 17 rfl rfl)
            refine wpOp_val rfl rfl (v := .int .i64 (4 * k)) (w1 := w') ?_ ⟨rfl, hB⟩
            simp [go_sem, e0]
            exact IntWalk.i64_in _ ⟨by omega, by omega⟩
          · exact wpOp_move (.tmp 5) rfl rfl rfl _ ((hS 5 (by decide)).trans rfl) ⟨rfl, hB⟩
          · have e0 := gtx (hF 3 (by decide) _ 19 rfl rfl)
            refine wpOp_val rfl rfl (v := .pointer (some ⟨w.heap.size, k, none⟩)) (w1 := w') ?_ ⟨rfl, hB⟩
            simp [go_sem, e0, e1]
            intro hc; omega
          · exact wpOp_load_cell 3 celli (.tmp 20) rfl rfl rfl w.heap.size k _ _ (hF 4 (by decide) _ 20 rfl rfl) f1 (IV_get _ _ _ (by omega)) ⟨rfl, hB⟩
          · have e0 := gtx (hF 0 (by decide) _ 16 rfl rfl)
            have e2 := gtx (hF 2 (by decide) _ 18 rfl rfl)
            have e3 := gtx (hF 5 (by decide) _ 21 rfl rfl)
            refine wpOp_call (f := 37) (args := #[.agg (IV .u8 (ptrSecN x k)), .int .i64 ((4 * k : Nat) : Int), .int .i64 4, .int .i64 (nth x k)]) rfl rfl (by simp [go_sem, e0, e2, e3])
              (lay_ok _ (by simp) (4 * k) 4 (nth x k) w' (by omega) (by omega) p0 (by omega)) ?_
            rintro e w'' ⟨rfl, hb'⟩
            exact ⟨_, rfl, (by rw [HK1.out]; rfl), below_call hB hb' hB.size⟩
        · intro w' hB
          obtain ⟨f1, z1⟩ := hop hB f1
          obtain ⟨f2, z2⟩ := hop hB f2
          obtain ⟨f4, z4⟩ := hop hB f4
          have hb := below_call hb hB hb.size
          clear hB
          simp only [putAll, List.take, List.drop, List.take_succ_cons, List.drop_succ_cons, Act.put, List.setIfInBounds_toArray, List.set_cons_zero, List.set_cons_succ]
          go_wp2_with fail
          go_roundw
          case rel => exact ⟨k + 1, by omega, by go_num, fun j hj => (by by_cases h : j = k; (subst h; exact HP.out); exact HOK.out j (by omega)), (hopR f1 _ _ (by omega)).1, (hopR f2 _ _ (by omega)).1, (hopS f4 _).1, below_setRow hb (by omega) _⟩
          case measure => (show 32 - (k + 1) < 32 - k); omega
      · have HP := Lib.hid hp
        have HV := Lib.hid (ptrV_no (x := x) (fun h => hp (h k hkw)))
        clear hp
        go_wp2_with fail
        refine (rwithin_no _ _ _ _ HP.out).mono ?_; rintro e w' ⟨rfl, rfl⟩
        go_wp2_with fail
        exact ret_ct row25 rfl (cs := IV .u8 (zl 128)) rfl (hat_setRow_at _ _ _ _ _ _ f2) (by simp) rfl ⟨by rw [HV.out]; rfl, below_setRow hb (by omega) _⟩
    · obtain rfl : k = 32 := by omega
      have HV := Lib.hid (ptrV_yes (x := x) HOK.out)
      go_wp2_with fail
      exact ret_ct row25 rfl (cs := IV .u8 (ptrSecN x 32)) rfl (hat_setRow_at _ _ _ _ _ _ f2) (by simp) rfl ⟨by rw [HV.out]; rfl, below_setRow hb (by omega) _⟩

set_option maxHeartbeats 2000000 in
set_option maxRecDepth 100000 in
theorem lreadPointers_any (s : List Int) (hs : s.length = 128) (hb : Bytes s) (w : World) :
    Calls Try.prog 28 #[.agg (IV .u8 s)] w fun e w' => e = .returned (.agg (IV .i64 (rdPtr s))) ∧ Below w.heap.size w w' := by
  have HBY := Lib.hid hb
  clear hb
  go_enter Try.func28, Try.ntmps28
  go_wp2_with fail
  have hb := (((Below.refl w.heap.size w).alloc (Nat.le_refl _) (.cells (IV .u8 s) 25)).alloc (by simp) (.cells (IV .i64 (zl 32)) 49)).alloc (by simp; omega) (.cells (IV .i64 (zl 32)) 49)
  have f1 : hat (((w.alloc (.cells (IV .u8 s) 25)).alloc (.cells (IV .i64 (zl 32)) 49)).alloc (.cells (IV .i64 (zl 32)) 49)) w.heap.size = some (.cells (IV .u8 s) 25) := by simp [go_sem]
  have f2 : hat (((w.alloc (.cells (IV .u8 s) 25)).alloc (.cells (IV .i64 (zl 32)) 49)).alloc (.cells (IV .i64 (zl 32)) 49)) (w.heap.size + 1) = some (.cells (IV .i64 (zl 32)) 49) := by simp [go_sem]
  have f4 : hat (((w.alloc (.cells (IV .u8 s) 25)).alloc (.cells (IV .i64 (zl 32)) 49)).alloc (.cells (IV .i64 (zl 32)) 49)) (w.heap.size + 1 + 1) = some (.cells (IV .i64 (zl 32)) 49) := by simp [go_sem]
  go_loopw [5] (fun i wr => ∃ k : Nat, k ≤ 32 ∧ i = .int .i64 k ∧ hat wr w.heap.size = some (.cells (IV .u8 s) 25) ∧ hat wr (w.heap.size + 1) = some (.cells (IV .i64 (zl 32)) 49)
      ∧ hat wr (w.heap.size + 1 + 1) = some (.cells (IV .i64 (rdPtrN s k)) 49) ∧ Below w.heap.size w wr) (fun i _ => 32 - (intOf i).toNat)
  case atStart => exact ⟨0, by omega, rfl, f1, f2, f4, hb⟩
  case round =>
    clear f1 f2 f4 hb
    obtain ⟨k, hk, rfl, f1, f2, f4, hb⟩ := hrel
    have z1 := hat_lt f1
    have z2 := hat_lt f2
    have z4 := hat_lt f4
    by_cases hkw : k < 32
    · have HK1 := Lib.hid (rdPtrN_succ s k)
      have HC := Lib.hid (fun (wx : World) => lget4 s hs HBY.out (4 * k) wx (by omega))
      go_wp2_with fail
      refine (HC.out _).mono ?_; rintro e w3 ⟨rfl, hb3⟩
      have hb := below_call hb hb3 hb.size
      obtain ⟨f1, z1⟩ := hop hb3 f1
      obtain ⟨f2, z2⟩ := hop hb3 f2
      obtain ⟨f4, z4⟩ := hop hb3 f4
      clear hb3
      go_wp2_with fail
      go_roundw
      case rel => exact ⟨k + 1, by omega, by go_num, (hopCo f1 _ _ _ (by omega)).1, (hopCo f2 _ _ _ (by omega)).1, by rw [HK1.out]; exact (hopC f4 _ _).1, hb.setCell (by simp; omega) _⟩
      case measure => (show 32 - (k + 1) < 32 - k); omega
    · obtain rfl : k = 32 := by omega
      go_wp2_with fail
      exact ret_c row49 rfl (cs := IV .i64 (rdPtrN s 32)) rfl (hat_setRow_at _ _ _ _ _ _ f2) (by simp) rfl ⟨by rw [rdPtrN_all], below_setRow hb (by omega) _⟩

set_option maxHeartbeats 2000000 in
set_option maxRecDepth 100000 in
theorem rreadPointers_any (s : List Int) (hs : s.length = 128) (hb : Bytes s) (w : World) :
    Calls Try.prog 29 #[.agg (IV .u8 s)] w fun e w' => e = .returned (.agg (IV .i64 (rdPtr s))) ∧ Below w.heap.size w w' := by
  have HBY := Lib.hid hb
  clear hb
  go_enter Try.func29, Try.ntmps29
  go_wp2_with fail
  have hb := (((Below.refl w.heap.size w).alloc (Nat.le_refl _) (.cells (IV .u8 s) 25)).alloc (by simp) (.cells (IV .i64 (zl 32)) 49)).alloc (by simp; omega) (.cells (IV .i64 (zl 32)) 49)
  have f1 : hat (((w.alloc (.cells (IV .u8 s) 25)).alloc (.cells (IV .i64 (zl 32)) 49)).alloc (.cells (IV .i64 (zl 32)) 49)) w.heap.size = some (.cells (IV .u8 s) 25) := by simp [go_sem]
  have f2 : hat (((w.alloc (.cells (IV .u8 s) 25)).alloc (.cells (IV .i64 (zl 32)) 49)).alloc (.cells (IV .i64 (zl 32)) 49)) (w.heap.size + 1) = some (.cells (IV .i64 (zl 32)) 49) := by simp [go_sem]
  have f4 : hat (((w.alloc (.cells (IV .u8 s) 25)).alloc (.cells (IV .i64 (zl 32)) 49)).alloc (.cells (IV .i64 (zl 32)) 49)) (w.heap.size + 1 + 1) = some (.cells (IV .i64 (zl 32)) 49) := by simp [go_sem]
  go_loopw [4] (fun i wr => ∃ k : Nat, k ≤ 32 ∧ i = .int .i64 k ∧ hat wr w.heap.size = some (.cells (IV .u8 s) 25) ∧ hat wr (w.heap.size + 1) = some (.cells (IV .i64 (zl 32)) 49)
      ∧ hat wr (w.heap.size + 1 + 1) = some (.cells (IV .i64 (rdPtrN s k)) 49) ∧ Below w.heap.size w wr) (fun i _ => 32 - (intOf i).toNat)
  case atStart => exact ⟨0, by omega, rfl, f1, f2, f4, hb⟩
  case round =>
    clear f1 f2 f4 hb
    obtain ⟨k, hk, rfl, f1, f2, f4, hb⟩ := hrel
    have z1 := hat_lt f1
    have z2 := hat_lt f2
    have z4 := hat_lt f4
    by_cases hkw : k < 32
    · have HK1 := Lib.hid (rdPtrN_succ s k)
      have HC := Lib.hid (fun (wx : World) => says_ok s hs HBY.out (4 * k) 4 wx (by omega) (by omega) (by omega))
      go_wp2_with fail
      refine (HC.out _).mono ?_; rintro e w3 ⟨rfl, hb3⟩
      have hb := below_call hb hb3 hb.size
      obtain ⟨f1, z1⟩ := hop hb3 f1
      obtain ⟨f2, z2⟩ := hop hb3 f2
      obtain ⟨f4, z4⟩ := hop hb3 f4
      clear hb3
      go_wp2_with fail
      go_roundw
      case rel => exact ⟨k + 1, by omega, by go_num, (hopCo f1 _ _ _ (by omega)).1, (hopCo f2 _ _ _ (by omega)).1, by rw [HK1.out]; exact (hopC f4 _ _).1, hb.setCell (by simp; omega) _⟩
      case measure => (show 32 - (k + 1) < 32 - k); omega
    · obtain rfl : k = 32 := by omega
      go_wp2_with fail
      exact ret_c row49 rfl (cs := IV .i64 (rdPtrN s 32)) rfl (hat_setRow_at _ _ _ _ _ _ f2) (by simp) rfl ⟨by rw [rdPtrN_all], below_setRow hb (by omega) _⟩

end Go.Proofs.Ythgiolofnkdfoaa
