/- Package strings: whether a text has a separator, whatever its bytes are. -/
import Derived.Test.YthgiolofnkdfoaaNam
import Derived.Deep.LoopGhost
namespace Go.Proofs.Ythgiolofnkdfoaa
set_option linter.unusedSimpArgs false
set_option linter.unusedVariables false
open Go.RowKit

theorem decode_wide (s : ByteArray) (pos : Nat) (h : pos < s.size) (ha : 128 ≤ (s[pos]'h).toNat) :
    ∀ j, j < (Utf8.decode s pos).2 → pos + j < s.size ∧ 128 ≤ (s.get! (pos + j)).toNat := by
  have hn : ¬ (s[pos]'h).toNat < 128 := by omega
  have g0 := get_at s pos h
  have c0 : pos + 0 < s.size ∧ 128 ≤ (s.get! (pos + 0)).toNat := ⟨by omega, by rw [g0]; exact ha⟩
  intro j hj
  simp only [Utf8.decode, g0, hn, if_false] at hj
  repeat' split at hj
  all_goals
    simp only [Bool.and_eq_true, decide_eq_true_eq, beq_iff_eq] at *
    by_cases j0 : j = 0
    · rw [j0]; exact c0
    by_cases j1 : j = 1
    · subst j1; omega
    by_cases j2 : j = 2
    · subst j2; omega
    by_cases j3 : j = 3
    · subst j3; omega
    omega

def iterAt (w : World) (b : Nat) (s : ByteArray) (p : Nat) : World := { w with heap := w.heap.setIfInBounds b (.stringIter s p) }
theorem run_next_hat {P : Program} (w : World) (b : Nat) (s : ByteArray) (pos : Nat) (ty : TypeId) (h : hat w b = some (.stringIter s pos)) (hp : pos < s.size) :
    (Instr.next (.pointer (some ⟨b, 0, none⟩)) true ty).run P w = .ok (.tuple #[.bool true, .int .i64 pos, .int .i32 (Utf8.decode s pos).1]) (iterAt w b s (pos + (Utf8.decode s pos).2)) := by
  have h' : w.heap[b]? = some (.stringIter s pos) := h
  simp only [Instr.next, getObj, setObj, Sem.run_bind, Sem.run, h', Result.andThen, hp, if_true]
  simp [goInt, iterAt]
theorem run_next_hat_end {P : Program} (w : World) (b : Nat) (s : ByteArray) (pos : Nat) (ty : TypeId) (h : hat w b = some (.stringIter s pos)) (hp : ¬ pos < s.size) :
    (Instr.next (.pointer (some ⟨b, 0, none⟩)) true ty).run P w = .ok (.tuple #[.bool false]) w := by
  have h' : w.heap[b]? = some (.stringIter s pos) := h
  simp [Instr.next, getObj, Sem.run, h', hp]
theorem hat_iterAt (w : World) (b : Nat) (s : ByteArray) (p : Nat) (h : b < w.heap.size) : hat (iterAt w b s p) b = some (.stringIter s p) := by
  show (w.heap.setIfInBounds b _)[b]? = _
  simp [h]
theorem below_iterAt {B : Nat} {a w : World} (h : Below B a w) {b : Nat} (hB : B ≤ b) (s : ByteArray) (p : Nat) : Below B a (iterAt w b s p) :=
  ⟨h.os, h.tape, h.output, by show a.heap.size ≤ (w.heap.setIfInBounds b _).size; rw [Array.size_setIfInBounds]; exact h.size,
   fun k hk => by
    show (w.heap.setIfInBounds b _)[k]? = _
    rw [Array.getElem?_setIfInBounds_ne (by omega)]
    exact h.block k hk⟩
theorem size_iterAt (w : World) (b : Nat) (s : ByteArray) (p : Nat) : (iterAt w b s p).heap.size = w.heap.size := by
  show (w.heap.setIfInBounds b _).size = _
  rw [Array.size_setIfInBounds]

theorem sepRune_any (r : Int) (w : World) (h : 128 ≤ r) (h2 : r ≤ 2147483647) :
    Calls Try.prog 56 #[.string { data := #[0, 47] }, .int .i32 r] w fun e w' => e = .returned (.int .i64 (-1)) ∧ Below w.heap.size w w' := by
  by_cases hne : r = 65533
  · subst hne; exact sepRune_err w
  · cases hv : Lib.validRune r
    · exact sepRune_bad r w h hne hv
    · exact sepRune_valid r w h h2 hne hv

set_option maxHeartbeats 4000000 in
set_option maxRecDepth 100000 in
theorem sepAny_short (s : ByteArray) (w : World) (h8 : s.size ≤ 8) :
    Calls Try.prog 55 #[.string s, .string { data := #[0, 47] }] w fun e w' => e = .returned (.int .i64 (Lib.indexAny s.data.toList [0, 47])) ∧ Below w.heap.size w w' := by
  have h8z : decide ((8 : Int) < (s.size : Int)) = false := decide_eq_false (by omega)
  go_enter Try.func55, Try.ntmps55
  go_wp2_with fail
  refine (Try.strings_shouldUseASCIISet _ _).mono ?_; rintro e w' ⟨rfl, hw⟩; rw [hw, h8z]
  go_wp2_with fail
  have f0 : hat (w.iter s 0) w.heap.size = some (.stringIter s 0) := World.iter_heap w s 0
  have hb : Below w.heap.size w (w.iter s 0) := (Below.refl _ _).alloc (Nat.le_refl _) _
  go_loopg [9, 10] s.size (fun g _ _ wx => ∃ i : Nat, i + g = s.size ∧ hat wx w.heap.size = some (.stringIter s i) ∧ Below w.heap.size w wx ∧ Lib.NoAny s.data.toList [0, 47] i)
  case atStart => exact ⟨0, by omega, f0, hb, Lib.NoAny.zero _ _⟩
  case round =>
    clear f0 hb
    obtain ⟨i, hig, f0, hb, hno⟩ := hrel
    have HN := Lib.hid hno
    clear hno
    have z0 := hat_lt f0
    cases gk with
    | zero =>
      obtain rfl : i = s.size := by omega
      have hnx := fun ty => run_next_hat_end (P := Try.prog) _ w.heap.size s s.size ty f0 (by omega)
      go_wp2_with fail
      go_ret
      exact ⟨by rw [Lib.indexAny_none (by rw [← Lib.size_eq]; exact HN.out)]; rfl, hb⟩
    | succ g =>
      have hi : i < s.size := by omega
      have hnx := fun ty => run_next_hat (P := Try.prog) _ w.heap.size s i ty f0 hi
      by_cases h128 : (s[i]'hi).toNat < 128
      · have hd := decode_ascii s i hi h128
        rw [hd] at hnx
        obtain ⟨x, hx⟩ : ∃ x : UInt8, s[i]'hi = x := ⟨_, rfl⟩
        have hxl : s.data.toList[i]? = some x := by rw [← hx]; exact Lib.data_getElem? s i hi
        rw [hx] at h128 hnx
        have Hx := Lib.hid hxl
        have f1 := hat_iterAt wr w.heap.size s (i + 1) z0
        have hb := below_iterAt hb (Nat.le_refl _) s (i + 1)
        have hcon := Lib.contains_iff_indexByte [0, 47] x
        have hback : ((x.toNat : Int)).toNat.toUInt8 = x := by simp
        clear hxl hx hd
        cases hin : ([0, 47] : List UInt8).contains x
        · rw [hin] at hcon
          have hlt : decide ((0 : Int) ≤ Lib.indexByte [0, 47] x) = false := hcon.symm
          clear hcon
          go_wp2_with fail
          refine (Try.strings_IndexRune_ascii _ _ _ (by omega) (by omega)).mono ?_; rintro e w' ⟨rfl, hw⟩; rw [hw, hback]
          go_wp2_with fail
          go_roundg g
          case measure => omega
          case rel => exact ⟨i + 1, by omega, f1, hb, HN.out.succ Hx.out hin⟩
        · rw [hin] at hcon
          have hge : decide ((0 : Int) ≤ Lib.indexByte [0, 47] x) = true := hcon.symm
          clear hcon
          go_wp2_with fail
          refine (Try.strings_IndexRune_ascii _ _ _ (by omega) (by omega)).mono ?_; rintro e w' ⟨rfl, hw⟩; rw [hw, hback]
          go_wp2_with fail
          go_ret
          exact ⟨by rw [Lib.indexAny_hit HN.out Hx.out hin]; rfl, hb⟩
      · have hd1 := decode_high s i hi (by omega)
        have hd2 := decode_le s i
        have hd3 := Lib.hid (decode_wide s i hi (by omega))
        generalize Utf8.decode s i = dd at *
        obtain ⟨r, k⟩ := dd
        simp only [] at hd1 hd2 hd3 hnx
        have f1 := hat_iterAt wr w.heap.size s (i + k) z0
        have hb := below_iterAt hb (Nat.le_refl _) s (i + k)
        have zi := size_iterAt wr w.heap.size s (i + k)
        generalize iterAt wr w.heap.size s (i + k) = w2 at *
        go_wp2_with fail
        refine (sepRune_any _ _ (by omega) (by omega)).mono ?_; rintro e w3 ⟨rfl, hb3⟩
        have hb := below_call hb hb3 hb.size
        obtain ⟨f1, z1⟩ := hop hb3 f1
        go_wp2_with fail
        go_roundg (s.size - (i + k))
        case measure => omega
        case rel =>
          have hik : i + k ≤ s.size := by
            have := hd3.out (k - 1) (by omega)
            omega
          refine ⟨i + k, by omega, f1, hb, ?_⟩
          intro j b hj hb
          by_cases hji : j < i
          · exact HN.out j b hji hb
          · obtain ⟨q1, q2⟩ := hd3.out (j - i) (by omega)
            rw [show i + (j - i) = j by omega] at q1 q2
            rw [show s.get! j = s[j]'q1 from get_at s j q1] at q2
            rw [Lib.data_getElem? s j q1] at hb
            obtain rfl := Option.some.inj hb
            generalize s[j] = b at q2
            show (b == 0 || (b == 47 || false)) = false
            have h0 : b ≠ 0 := fun h => by subst h; exact absurd q2 (by decide)
            have h47 : b ≠ 47 := fun h => by subst h; exact absurd q2 (by decide)
            simp [h0, h47]

def NameMay (l : List UInt8) : Prop := 1 ≤ l.length ∧ l.length ≤ 40 ∧ (∀ b ∈ l, b ≠ 0 ∧ b ≠ 47) ∧ l ≠ [46] ∧ l ≠ [46, 46]
instance (l : List UInt8) : Decidable (NameMay l) := by unfold NameMay; infer_instance

theorem sepAny_any (s : ByteArray) (w : World) (hs : s.size < 4294967281) :
    Calls Try.prog 55 #[.string s, .string { data := #[0, 47] }] w fun e w' => e = .returned (.int .i64 (Lib.indexAny s.data.toList [0, 47])) ∧ Below w.heap.size w w' := by
  by_cases h8 : s.size ≤ 8
  · exact sepAny_short s w h8
  · refine (Try.strings_IndexAny_long (fun w => by kernel_rfl) s { data := #[0, 47] } w (by decide) (by omega) hs (by decide) ?_).mono ?_
    · intro j b hj
      match j, hj with
      | 0, hj => cases hj; decide
      | 1, hj => cases hj; decide
    · rintro e w' ⟨rfl, rfl⟩
      exact ⟨rfl, ((Below.refl _ _).alloc (Nat.le_refl _) _).alloc (by simp) _⟩

set_option maxHeartbeats 1000000 in
set_option maxRecDepth 100000 in
theorem sepContains (s : ByteArray) (w : World) (hs : s.size < 4294967281) :
    Calls Try.prog 44 #[.string s, .string { data := #[0, 47] }] w fun e w' => e = .returned (.bool (decide (0 ≤ Lib.indexAny s.data.toList [0, 47]))) ∧ Below w.heap.size w w' := by
  go_enter Try.func44, Try.ntmps44
  go_wp2_with fail
  refine (sepAny_any _ _ hs).mono ?_; rintro e w' ⟨rfl, hb⟩
  go_wp2_with fail
  go_ret
  exact ⟨rfl, hb⟩
end Go.Proofs.Ythgiolofnkdfoaa
