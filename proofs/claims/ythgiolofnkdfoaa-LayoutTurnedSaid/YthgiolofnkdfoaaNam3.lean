/- Names: layout.nameMay and the reference's isName. -/
import Derived.Test.YthgiolofnkdfoaaNam2
import Derived.Test.YthgiolofnkdfoaaLay3
namespace Go.Proofs.Ythgiolofnkdfoaa
set_option linter.unusedSimpArgs false
set_option linter.unusedVariables false
open Go.RowKit

theorem idx_none : ∀ {l : List UInt8}, decide (0 ≤ Lib.indexAny l [0, 47]) = false → ∀ b ∈ l, b ≠ 0 ∧ b ≠ 47
  | [], _, b, hb => by simp at hb
  | a :: l, h, b, hb => by
    have hge := Lib.indexAny_ge [0, 47] l
    have h' := of_decide_eq_false h
    unfold Lib.indexAny at h'
    split at h'
    · exact absurd (Int.le_refl 0) h'
    · rename_i hc
      have ha : a ≠ 0 ∧ a ≠ 47 := by
        constructor <;> (intro h0; subst h0; exact hc (by decide))
      have ht : decide (0 ≤ Lib.indexAny l [0, 47]) = false := by
        refine decide_eq_false (fun h0 => ?_)
        split at h'
        · rename_i h1; have := beq_iff_eq.1 h1; omega
        · omega
      rcases List.mem_cons.1 hb with rfl | hb
      · exact ha
      · exact idx_none ht b hb
theorem idx_some : ∀ {l : List UInt8}, decide (0 ≤ Lib.indexAny l [0, 47]) = true → ¬ ∀ b ∈ l, b ≠ 0 ∧ b ≠ 47
  | [], h, _ => absurd h (by decide)
  | a :: l, h, hall => by
    have h' := of_decide_eq_true h
    unfold Lib.indexAny at h'
    split at h'
    · rename_i hc
      have ha := hall a (List.mem_cons_self ..)
      simp at hc
      rcases hc with rfl | rfl
      · exact ha.1 rfl
      · exact ha.2 rfl
    · split at h'
      · exact absurd h' (by decide)
      · rename_i h1
        have hge := Lib.indexAny_ge [0, 47] l
        refine idx_some (l := l) (decide_eq_true ?_) (fun b hb => hall b (List.mem_cons_of_mem _ hb))
        have : Lib.indexAny l [0, 47] ≠ -1 := fun h => h1 (beq_iff_eq.2 h)
        omega
theorem len_data (s : ByteArray) : s.data.toList.length = s.size := (Lib.size_eq s).symm
theorem eqb {s : ByteArray} {l : List UInt8} {b : Bool} (h : (s.toList == l) = b) : (s.data.toList == l) = b := by rw [← Lib.toList_data]; exact h

set_option maxHeartbeats 1000000 in
set_option maxRecDepth 100000 in
theorem lnameMay_any (s : ByteArray) (w : World) :
    Calls Try.prog 32 #[.string s] w fun e w' => e = .returned (.bool (decide (NameMay s.data.toList))) ∧ Below w.heap.size w w' := by
  go_enter Try.func32, Try.ntmps32
  go_wp2_with fail
  refine (lwithin_any _ _ _ _).mono ?_; rintro e w' ⟨rfl, rfl⟩
  by_cases h1 : 1 ≤ (s.size : Int) ∧ (s.size : Int) ≤ 40
  · rw [decide_eq_true h1]
    go_wp2_with fail
    refine (sepContains _ _ (by omega)).mono ?_; rintro e w' ⟨rfl, hb⟩
    cases h2 : decide (0 ≤ Lib.indexAny s.data.toList [0, 47])
    · cases h3 : s.toList == [46]
      · cases h4 : s.toList == [46, 46]
        · go_wp2_with fail
          go_ret
          refine ⟨ret_bool ((decide_eq_true ?_).symm), hb⟩
          exact ⟨by rw [len_data]; omega, by rw [len_data]; omega, idx_none h2, beq_eq_false_iff_ne.1 (eqb h3), beq_eq_false_iff_ne.1 (eqb h4)⟩
        · go_wp2_with fail
          go_ret
          refine ⟨ret_bool ((decide_eq_false ?_).symm), hb⟩
          exact fun h => h.2.2.2.2 (beq_iff_eq.1 (eqb h4))
      · go_wp2_with fail
        go_ret
        refine ⟨ret_bool ((decide_eq_false ?_).symm), hb⟩
        exact fun h => h.2.2.2.1 (beq_iff_eq.1 (eqb h3))
    · go_wp2_with fail
      go_ret
      refine ⟨ret_bool ((decide_eq_false ?_).symm), hb⟩
      exact fun h => idx_some h2 h.2.2.1
  · rw [decide_eq_false h1]
    go_wp2_with fail
    go_ret
    refine ⟨ret_bool ((decide_eq_false ?_).symm), Below.refl _ _⟩
    exact fun h => h1 (by have := h.1; have := h.2.1; rw [len_data] at *; omega)

set_option maxHeartbeats 1000000 in
set_option maxRecDepth 100000 in
theorem risName_any (s : ByteArray) (w : World) (hs : s.size < 4611686018427387904) :
    Calls Try.prog 36 #[.string s] w fun e w' => e = .returned (.bool (decide (NameMay s.data.toList))) ∧ w' = w := by
  go_enter Try.func36, Try.ntmps36
  go_wp2_with fail
  go_loopw [3] (fun i wr => ∃ k : Nat, k ≤ s.size ∧ i = .int .i64 k ∧ wr = w ∧ (∀ j, j < k → ∀ b, s.data.toList[j]? = some b → b ≠ 0 ∧ b ≠ 47)) (fun i _ => s.size - (intOf i).toNat)
  case atStart => exact ⟨0, Nat.zero_le _, rfl, rfl, fun j hj => by omega⟩
  case round =>
    obtain ⟨k, hk, rfl, rfl, hno⟩ := hrel
    have HN := Lib.hid hno
    clear hno
    by_cases hkw : k < s.size
    · obtain ⟨x, hx⟩ : ∃ x : UInt8, s[k]'hkw = x := ⟨_, rfl⟩
      have Hx := Lib.hid (show s.data.toList[k]? = some x by rw [← hx]; exact Lib.data_getElem? s k hkw)
      have gi : ∀ w, (Instr.index 9 (.string s) (.int .i64 k)).run Try.prog w = .ok (.int .u8 x.toNat) w := fun w => by
        rw [run_index_string w 9 s .i64 k Try.underlying9, dif_pos ⟨by omega, by omega⟩]
        show Result.ok (Value.int .u8 (s[k]'hkw).toNat) w = _
        rw [hx]
      clear hx
      by_cases x0 : x = 0
      · subst x0
        go_wp2_with fail
        go_ret
        refine ⟨ret_bool ((decide_eq_false ?_).symm), rfl⟩
        exact fun h => (h.2.2.1 _ (List.mem_of_getElem? Hx.out)).1 rfl
      by_cases x1 : x = 47
      · subst x1
        go_wp2_with fail
        go_ret
        refine ⟨ret_bool ((decide_eq_false ?_).symm), rfl⟩
        exact fun h => (h.2.2.1 _ (List.mem_of_getElem? Hx.out)).2 rfl
      have d0 : ((x.toNat : Int) == 0) = false := by
        refine beq_eq_false_iff_ne.2 (fun h => x0 ?_)
        exact UInt8.toNat_inj.1 (by show x.toNat = 0; omega)
      have d1 : ((x.toNat : Int) == 47) = false := by
        refine beq_eq_false_iff_ne.2 (fun h => x1 ?_)
        exact UInt8.toNat_inj.1 (by show x.toNat = 47; omega)
      go_wp2_with fail
      go_roundw
      case rel =>
        refine ⟨k + 1, hkw, by go_num, by trivial, fun j hj b hb => ?_⟩
        by_cases hjk : j = k
        · subst hjk
          rw [Hx.out] at hb
          obtain rfl := Option.some.inj hb
          exact ⟨x0, x1⟩
        · exact HN.out j (by omega) b hb
      case measure =>
        show s.size - (k + 1) < s.size - k
        omega
    · obtain rfl : k = s.size := by omega
      have hall : ∀ b ∈ s.data.toList, b ≠ 0 ∧ b ≠ 47 := by
        intro b hb
        obtain ⟨j, hj⟩ := List.getElem?_of_mem hb
        refine HN.out j ?_ b hj
        have := (List.getElem?_eq_some_iff.1 hj).1
        rw [len_data] at this; exact this
      have HA := Lib.hid hall
      clear hall
      go_wp2_with fail
      refine (rwithin_any _ _ _ _).mono ?_; rintro e w' ⟨rfl, rfl⟩
      by_cases h1 : 1 ≤ (s.size : Int) ∧ (s.size : Int) ≤ 40
      · rw [decide_eq_true h1]
        cases h3 : s.toList == [46]
        · cases h4 : s.toList == [46, 46]
          · go_wp2_with fail
            go_ret
            refine ⟨ret_bool ((decide_eq_true ?_).symm), rfl⟩
            exact ⟨by rw [len_data]; omega, by rw [len_data]; omega, HA.out, beq_eq_false_iff_ne.1 (eqb h3), beq_eq_false_iff_ne.1 (eqb h4)⟩
          · go_wp2_with fail
            go_ret
            refine ⟨ret_bool ((decide_eq_false ?_).symm), rfl⟩
            exact fun h => h.2.2.2.2 (beq_iff_eq.1 (eqb h4))
        · go_wp2_with fail
          go_ret
          refine ⟨ret_bool ((decide_eq_false ?_).symm), rfl⟩
          exact fun h => h.2.2.2.1 (beq_iff_eq.1 (eqb h3))
      · rw [decide_eq_false h1]
        go_wp2_with fail
        go_ret
        refine ⟨ret_bool ((decide_eq_false ?_).symm), rfl⟩
        exact fun h => h1 (by have := h.1; have := h.2.1; rw [len_data] at *; omega)
end Go.Proofs.Ythgiolofnkdfoaa
