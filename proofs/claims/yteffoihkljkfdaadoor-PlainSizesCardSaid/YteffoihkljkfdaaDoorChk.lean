/- path.Check: may a name be: the walk. -/
import Derived.Test.YteffoihkljkfdaaDoorItr
namespace Go.Proofs.YteffoihkljkfdaaDoor
set_option linter.unusedSimpArgs false
set_option linter.unusedVariables false
open Go.RowKit

def chk (s : ByteArray) : Int := if NameMay s.data.toList then 0 else 71
theorem chk_yes {s : ByteArray} (h : NameMay s.data.toList) : chk s = 0 := by unfold chk; rw [if_pos h]
theorem chk_no {s : ByteArray} (h : ¬ NameMay s.data.toList) : chk s = 71 := by unfold chk; rw [if_neg h]
theorem ret_int {a b : Int} (h : a = b) : Ending.returned (.int .i64 a) = .returned (.int .i64 b) := by rw [h]

set_option maxHeartbeats 2000000 in
set_option maxRecDepth 100000 in
theorem check_any (s : ByteArray) (w : World) :
    Calls Tryd.prog 47 #[.string s] w fun e w' => e = .returned (.int .i64 (chk s)) ∧ Below w.heap.size w w' := by
  cases h0 : s.toList == []
  · cases h1 : decide (40 < (s.size : Int))
    · cases h3 : s.toList == [46]
      · cases h4 : s.toList == [46, 46]
        · go_enter Tryd.func47, Tryd.ntmps47
          go_wp2_with fail
          have f0 : hat (w.iter s 0) w.heap.size = some (.stringIter s 0) := World.iter_heap w s 0
          have hb : Below w.heap.size w (w.iter s 0) := (Below.refl _ _).alloc (Nat.le_refl _) _
          have H1 := Lib.hid h1
          have H0 := Lib.hid h0
          have H3 := Lib.hid h3
          have H4 := Lib.hid h4
          clear h0 h1 h3 h4
          go_loopg [4] s.size (fun g _ wx => ∃ i : Nat, i + g = s.size ∧ hat wx w.heap.size = some (.stringIter s i) ∧ Below w.heap.size w wx ∧ ∀ j, j < i → ∀ b, s.data.toList[j]? = some b → b ≠ 0 ∧ b ≠ 47)
          case atStart => exact ⟨0, by omega, f0, hb, fun j hj => by omega⟩
          case round =>
            clear f0 hb
            obtain ⟨i, hig, f0, hb, hno⟩ := hrel
            have HN := Lib.hid hno
            clear hno
            have z0 := hat_lt f0
            cases gk with
            | zero =>
              obtain rfl : i = s.size := by omega
              have hnx := fun ty => run_next_hat_end (P := Tryd.prog) _ w.heap.size s s.size ty f0 (by omega)
              go_wp2_with fail
              go_ret
              refine ⟨ret_int (chk_yes ?_).symm, hb⟩
              have h1 := H1.out
              simp only [decide_eq_false_iff_not] at h1
              refine ⟨?_, by rw [len_data]; omega, ?_, beq_eq_false_iff_ne.1 (eqb H3.out), beq_eq_false_iff_ne.1 (eqb H4.out)⟩
              · have := beq_eq_false_iff_ne.1 (eqb H0.out)
                have := List.length_pos_iff.2 this
                omega
              · intro b hb
                obtain ⟨j, hj, rfl⟩ := List.getElem_of_mem hb
                exact HN.out j (by rw [len_data] at hj; exact hj) _ (List.getElem?_eq_getElem hj)
            | succ g =>
              have hi : i < s.size := by omega
              have hnx := fun ty => run_next_hat (P := Tryd.prog) _ w.heap.size s i ty f0 hi
              by_cases h128 : (s[i]'hi).toNat < 128
              · have hd := decode_ascii s i hi h128
                rw [hd] at hnx
                obtain ⟨x, hx⟩ : ∃ x : UInt8, s[i]'hi = x := ⟨_, rfl⟩
                have hxl : s.data.toList[i]? = some x := by rw [← hx]; exact Lib.data_getElem? s i hi
                rw [hx] at h128 hnx
                have Hx := Lib.hid hxl
                have f1 := hat_iterAt wr w.heap.size s (i + 1) z0
                have hb := below_iterAt hb (Nat.le_refl _) s (i + 1)
                clear hxl hx hd
                by_cases x0 : x = 0
                · have e0 : ((x.toNat : Int) == 0) = true := by subst x0; rfl
                  have HX := Lib.hid x0
                  clear x0
                  go_wp2_with fail
                  go_ret
                  exact ⟨ret_int (chk_no fun h => (h.2.2.1 x (List.mem_of_getElem? Hx.out)).1 HX.out).symm, hb⟩
                · have e0 : ((x.toNat : Int) == 0) = false := by
                    simp only [beq_eq_false_iff_ne, ne_eq]
                    intro h; exact x0 (UInt8.toNat_inj.1 (by have : (0 : UInt8).toNat = 0 := rfl
                                                             omega))
                  have HX := Lib.hid x0
                  clear x0
                  by_cases x7 : x = 47
                  · have e7 : ((x.toNat : Int) == 47) = true := by subst x7; rfl
                    have H7 := Lib.hid x7
                    clear x7
                    go_wp2_with fail
                    go_ret
                    exact ⟨ret_int (chk_no fun h => (h.2.2.1 x (List.mem_of_getElem? Hx.out)).2 H7.out).symm, hb⟩
                  · have e7 : ((x.toNat : Int) == 47) = false := by
                      simp only [beq_eq_false_iff_ne, ne_eq]
                      intro h; exact x7 (UInt8.toNat_inj.1 (by have : (47 : UInt8).toNat = 47 := rfl
                                                               omega))
                    have H7 := Lib.hid x7
                    clear x7
                    go_wp2_with fail
                    go_roundg g
                    case measure => omega
                    case rel =>
                      refine ⟨i + 1, by omega, f1, hb, fun j hj b hjb => ?_⟩
                      by_cases hji : j < i
                      · exact HN.out j hji b hjb
                      · obtain rfl : j = i := by omega
                        rw [Hx.out] at hjb
                        obtain rfl := Option.some.inj hjb
                        exact ⟨HX.out, H7.out⟩
              · have hd1 := decode_high s i hi (by omega)
                have hd3 := Lib.hid (decode_wide s i hi (by omega))
                generalize Utf8.decode s i = dd at *
                obtain ⟨r, k⟩ := dd
                simp only [] at hd1 hd3 hnx
                have f1 := hat_iterAt wr w.heap.size s (i + k) z0
                have hb := below_iterAt hb (Nat.le_refl _) s (i + k)
                generalize iterAt wr w.heap.size s (i + k) = w2 at *
                have e0 : ((r : Int) == 0) = false := by simp; omega
                have e7 : ((r : Int) == 47) = false := by simp; omega
                go_wp2_with fail
                go_roundg (s.size - (i + k))
                case measure => omega
                case rel =>
                  have hik : i + k ≤ s.size := by
                    have := hd3.out (k - 1) (by omega)
                    omega
                  refine ⟨i + k, by omega, f1, hb, ?_⟩
                  intro j b hj hb
                  by_cases hji : j < i
                  · exact HN.out j hji _ hb
                  · obtain ⟨q1, q2⟩ := hd3.out (j - i) (by omega)
                    rw [show i + (j - i) = j by omega] at q1 q2
                    rw [show s.get! j = s[j]'q1 from get_at s j q1] at q2
                    rw [Lib.data_getElem? s j q1] at hb
                    obtain rfl := Option.some.inj hb
                    generalize s[j] = b at q2
                    exact ⟨fun h => by subst h; exact absurd q2 (by decide), fun h => by subst h; exact absurd q2 (by decide)⟩
        · go_enter Tryd.func47, Tryd.ntmps47
          go_wp2_with fail
          go_ret
          exact ⟨ret_int (chk_no fun h => h.2.2.2.2 (beq_iff_eq.1 (eqb h4))).symm, Below.refl _ _⟩
      · go_enter Tryd.func47, Tryd.ntmps47
        go_wp2_with fail
        go_ret
        exact ⟨ret_int (chk_no fun h => h.2.2.2.1 (beq_iff_eq.1 (eqb h3))).symm, Below.refl _ _⟩
    · go_enter Tryd.func47, Tryd.ntmps47
      go_wp2_with fail
      go_ret
      exact ⟨ret_int (chk_no fun h => by have := h.2.1; rw [len_data] at this; simp at h1; omega).symm, Below.refl _ _⟩
  · go_enter Tryd.func47, Tryd.ntmps47
    go_wp2_with fail
    go_ret
    exact ⟨ret_int (chk_no fun h => by have := h.1; rw [beq_iff_eq.1 (eqb h0)] at this; simp at this).symm, Below.refl _ _⟩
end Go.Proofs.YteffoihkljkfdaaDoor
