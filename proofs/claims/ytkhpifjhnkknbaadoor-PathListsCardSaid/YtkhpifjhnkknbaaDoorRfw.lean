/- The document's look at a path's form: the walk. -/
import Derived.Test.YtkhpifjhnkknbaaDoorRfm
namespace Go.Proofs.YtkhpifjhnkknbaaDoor
set_option linter.unusedSimpArgs false
set_option linter.unusedVariables false
open Go.RowKit

theorem okTo_succ {l : List UInt8} {k : Nat} (h : okTo l k) (h2 : l[k]? = some 47 → l[k - 1]? ≠ some 47 ∧ k ≠ l.length - 1) : okTo l (k + 1) := fun i h1 hi h3 => by
  by_cases e : i = k
  · subst e; exact h2 h3
  · exact h i h1 (by omega) h3
theorem index_at (s : ByteArray) (k : Nat) (h : k < s.size) : ∃ x : UInt8, s.data.toList[k]? = some x ∧ ∀ w, (Instr.index 9 (.string s) (.int .i64 k)).run Tryd.prog w = .ok (.int .u8 x.toNat) w :=
  ⟨s[k]'h, Lib.data_getElem? s k h, fun w => by
    rw [run_index_string w 9 s .i64 k Tryd.underlying9, dif_pos ⟨by omega, by omega⟩]
    rfl⟩

set_option maxHeartbeats 2000000 in
set_option maxRecDepth 100000 in
theorem rformed_any (p : ByteArray) (b : Bool) (hb : b = true ↔ rform p.data.toList) (w : World) :
    Calls Tryd.prog 29 #[.string p] w fun e w' => e = .returned (.bool b) ∧ w' = w := by
  have hl := len_data p
  have HB := Lib.hid hb
  have hno : ∀ (h : ¬ rform p.data.toList), b = false := fun h => by
    cases hbb : b
    · rfl
    · exact absurd (hb.1 hbb) h
  have HNO := Lib.hid hno
  clear hb hno
  by_cases h1 : p.size < 1
  · have hb := HNO.out (fun h => by have := h.1; omega)
    subst hb
    go_enter Tryd.func29, Tryd.ntmps29
    clear hl
    go_wp2_with fail
    go_ret
    exact ⟨rfl, rfl⟩
  · by_cases h2 : 400 < p.size
    · have hb := HNO.out (fun h => by have := h.2.1; omega)
      subst hb
      go_enter Tryd.func29, Tryd.ntmps29
      clear hl
      go_wp2_with fail
      go_ret
      exact ⟨rfl, rfl⟩
    · obtain ⟨x0, hx0, g0⟩ := index_at p 0 (by omega)
      have g0' : ∀ w, (Instr.index 9 (.string p) (.int .i64 0)).run Tryd.prog w = .ok (.int .u8 x0.toNat) w := g0
      have q0 : ((x0.toNat : Int) == 47) = (x0 == 47) := u8_eqb x0 47
      have Hx0 := Lib.hid hx0
      clear g0 hx0
      cases e0 : (x0 == 47)
      · have hb := HNO.out (fun h => by
          have h3 := h.2.2.1
          rw [Hx0.out] at h3
          rw [Option.some.inj h3] at e0
          simp at e0)
        subst hb
        rw [e0] at q0
        have q1 : ((x0.toNat : Int) != 47) = true := by simp only [bne, q0]; rfl
        clear e0
        go_enter Tryd.func29, Tryd.ntmps29
        clear hl
        go_wp2_with fail
        go_ret
        exact ⟨rfl, rfl⟩
      · rw [e0] at q0
        have q1 : ((x0.toNat : Int) != 47) = false := by simp only [bne, q0]; rfl
        have E0 := Lib.hid (beq_iff_eq.1 e0)
        have HL := Lib.hid hl
        clear e0 hl
        go_enter Tryd.func29, Tryd.ntmps29
        go_wp2_with fail
        clear q0 q1 g0'
        go_loopw [3] (fun i wr => ∃ k : Nat, 1 ≤ k ∧ k ≤ p.size ∧ i = .int .i64 k ∧ wr = w ∧ okTo p.data.toList k) (fun i _ => p.size - (intOf i).toNat)
        case atStart => exact ⟨1, Nat.le_refl _, by omega, rfl, rfl, fun i a b => by omega⟩
        case round =>
          obtain ⟨k, hk1, hk, rfl, rfl, hok⟩ := hrel
          have HO := Lib.hid hok
          clear hok
          by_cases hkw : k < p.size
          · obtain ⟨x, hx, gx⟩ := index_at p k hkw
            obtain ⟨y, hy, gy0⟩ := index_at p (k - 1) (by omega)
            have gy : ∀ w, (Instr.index 9 (.string p) (.int .i64 ((k : Int) - 1))).run Tryd.prog w = .ok (.int .u8 y.toNat) w := fun w => by
              rw [show ((k : Int) - 1) = ((k - 1 : Nat) : Int) by omega]; exact gy0 w
            clear gy0
            have qx : ((x.toNat : Int) == 47) = (x == 47) := u8_eqb x 47
            have qy : ((y.toNat : Int) == 47) = (y == 47) := u8_eqb y 47
            have Hx := Lib.hid hx
            have Hy := Lib.hid hy
            clear hx hy
            cases ex : (x == 47)
            · rw [ex] at qx
              have EX := Lib.hid (beq_eq_false_iff_ne.1 ex)
              clear ex qy
              go_wp2_with fail
              go_roundw
              case rel => exact ⟨k + 1, by omega, by omega, by go_num, by first | rfl | trivial, okTo_succ HO.out (fun h => by rw [Hx.out] at h; exact absurd (Option.some.inj h) EX.out)⟩
              case measure => (show p.size - (k + 1) < p.size - k); omega
            · rw [ex] at qx
              have EX := Lib.hid (beq_iff_eq.1 ex)
              clear ex
              cases ey : (y == 47)
              · rw [ey] at qy
                have EY := Lib.hid (beq_eq_false_iff_ne.1 ey)
                clear ey
                by_cases hend : k = p.size - 1
                · have hb := HNO.out (fun h => (h.2.2.2 k hk1 (by rw [HL.out]; omega) (by rw [Hx.out, EX.out])).2 (by rw [HL.out]; exact hend))
                  subst hb
                  have qe : ((k : Int) == (p.size : Int) - 1) = true := by simp; omega
                  clear hend
                  go_wp2_with fail
                  go_ret
                  exact ⟨rfl, rfl⟩
                · have qe : ((k : Int) == (p.size : Int) - 1) = false := by simp; omega
                  go_wp2_with fail
                  go_roundw
                  case rel => exact ⟨k + 1, by omega, by omega, by go_num, by first | rfl | trivial, okTo_succ HO.out (fun _ => ⟨fun h => by rw [Hy.out] at h; exact EY.out (Option.some.inj h), by rw [HL.out]; exact hend⟩)⟩
                  case measure => (show p.size - (k + 1) < p.size - k); omega
              · rw [ey] at qy
                have EY := Lib.hid (beq_iff_eq.1 ey)
                clear ey
                have hb := HNO.out (fun h => (h.2.2.2 k hk1 (by rw [HL.out]; omega) (by rw [Hx.out, EX.out])).1 (by rw [Hy.out, EY.out]))
                subst hb
                go_wp2_with fail
                go_ret
                exact ⟨rfl, rfl⟩
          · have hkk : k = p.size := by omega
            have hb := HB.out.2 ⟨by rw [HL.out]; omega, by rw [HL.out]; omega, by rw [Hx0.out, E0.out], by rw [HL.out, ← hkk]; exact HO.out⟩
            subst hb
            clear hkk
            go_wp2_with fail
            go_ret
            exact ⟨rfl, rfl⟩
end Go.Proofs.YtkhpifjhnkknbaaDoor
