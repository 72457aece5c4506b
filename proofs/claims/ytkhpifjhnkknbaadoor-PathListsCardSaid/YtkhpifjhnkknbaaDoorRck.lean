/- The document's Check and the form of a path: the walks. -/
import Derived.Test.YtkhpifjhnkknbaaDoorChk
namespace Go.Proofs.YtkhpifjhnkknbaaDoor
set_option linter.unusedSimpArgs false
set_option linter.unusedVariables false
open Go.RowKit

theorem u8_eqb (x y : UInt8) : ((x.toNat : Int) == (y.toNat : Int)) = (x == y) := by
  by_cases h : x = y
  · subst h; simp
  · rw [beq_eq_false_iff_ne.2 h]
    simp only [beq_eq_false_iff_ne, ne_eq]
    intro e
    exact h (UInt8.toNat_inj.1 (by omega))
theorem take_snoc {l : List UInt8} {k : Nat} {x : UInt8} (h : l[k]? = some x) : l.take (k + 1) = l.take k ++ [x] := by
  rw [List.take_add_one, h]; rfl
def dotsL (l : List UInt8) (k : Nat) : Bool := (l.take k).all (· == 46)
theorem dotsL_succ {l : List UInt8} {k : Nat} {x : UInt8} (h : l[k]? = some x) : dotsL l (k + 1) = (dotsL l k && (x == 46)) := by
  unfold dotsL; rw [take_snoc h]; simp
theorem chk_dots {s : ByteArray} (h1 : 1 ≤ s.size) (h2 : s.size ≤ 40) (h3 : ∀ b ∈ s.data.toList, b ≠ 0 ∧ b ≠ 47) :
    chk s = if (dotsL s.data.toList s.size && decide (s.size ≤ 2)) = true then 71 else 0 := by
  have hl := len_data s
  generalize hL : s.data.toList = l at *
  have hall : dotsL l s.size = l.all (· == 46) := by unfold dotsL; rw [List.take_of_length_le (by omega)]
  rw [hall]
  split
  · rename_i h
    simp only [Bool.and_eq_true, List.all_eq_true, beq_iff_eq, decide_eq_true_eq] at h
    refine chk_no fun hn => ?_
    rw [hL] at hn
    match l, hl, h, hn with
    | [], hl, _, _ => simp at hl; omega
    | [a], _, h, hn => exact hn.2.2.2.1 (by rw [h.1 a (by simp)])
    | [a, b], _, h, hn => exact hn.2.2.2.2 (by rw [h.1 a (by simp), h.1 b (by simp)])
    | a :: b :: c :: r, hl, h, _ => simp at hl; omega
  · rename_i h
    refine chk_yes ?_
    rw [hL]
    refine ⟨by omega, by omega, h3, ?_, ?_⟩
    · intro e; subst e
      apply h; simp at hl; simp; omega
    · intro e; subst e
      apply h; simp at hl; simp; omega

set_option maxHeartbeats 2000000 in
set_option maxRecDepth 100000 in
theorem rcheck_any (s : ByteArray) (w : World) :
    Calls Tryd.prog 23 #[.string s] w fun e w' => e = .returned (.int .i64 (chk s)) ∧ w' = w := by
  by_cases h1 : 1 ≤ s.size ∧ s.size ≤ 40
  · obtain ⟨h1, h2⟩ := h1
    go_enter Tryd.func23, Tryd.ntmps23
    go_wp2_with fail
    go_loopw [3, 4] (fun d i wr => ∃ k : Nat, k ≤ s.size ∧ i = .int .i64 k ∧ d = .bool (dotsL s.data.toList k) ∧ wr = w ∧ (∀ j, j < k → ∀ b, s.data.toList[j]? = some b → b ≠ 0 ∧ b ≠ 47)) (fun _ i _ => s.size - (intOf i).toNat)
    case atStart => exact ⟨0, Nat.zero_le _, rfl, rfl, rfl, fun j hj => by omega⟩
    case round =>
      obtain ⟨k, hk, rfl, rfl, rfl, hno⟩ := hrel
      have HN := Lib.hid hno
      clear hno
      by_cases hkw : k < s.size
      · obtain ⟨x, hx⟩ : ∃ x : UInt8, s[k]'hkw = x := ⟨_, rfl⟩
        have Hx := Lib.hid (show s.data.toList[k]? = some x by rw [← hx]; exact Lib.data_getElem? s k hkw)
        have gi : ∀ w, (Instr.index 9 (.string s) (.int .i64 k)).run Tryd.prog w = .ok (.int .u8 x.toNat) w := fun w => by
          rw [run_index_string w 9 s .i64 k Tryd.underlying9, dif_pos ⟨by omega, by omega⟩]
          show Result.ok (Value.int .u8 (s[k]'hkw).toNat) w = _
          rw [hx]
        clear hx
        have q0 : ((x.toNat : Int) == 0) = (x == 0) := u8_eqb x 0
        have q7 : ((x.toNat : Int) == 47) = (x == 47) := u8_eqb x 47
        have q6 : ((x.toNat : Int) == 46) = (x == 46) := u8_eqb x 46
        have HD := Lib.hid (dotsL_succ Hx.out)
        cases e0 : (x == 0)
        · cases e7 : (x == 47)
          · rw [e0] at q0
            rw [e7] at q7
            have H0 := Lib.hid e0
            have H7 := Lib.hid e7
            clear e0 e7
            generalize (x == 46) = b6 at *
            cases hd : dotsL s.data.toList k
            · go_wp2_with fail
              go_roundw
              case rel =>
                refine ⟨k + 1, by omega, by go_num, by rw [HD.out, hd]; rfl, by first | rfl | trivial, fun j hj b hjb => ?_⟩
                by_cases h : j = k
                · subst h
                  rw [Hx.out] at hjb
                  obtain rfl := Option.some.inj hjb
                  exact ⟨beq_eq_false_iff_ne.1 H0.out, beq_eq_false_iff_ne.1 H7.out⟩
                · exact HN.out j (by omega) b hjb
              case measure => (show s.size - (k + 1) < s.size - k); omega
            · go_wp2_with fail
              go_roundw
              case rel =>
                refine ⟨k + 1, by omega, by go_num, by rw [HD.out, hd]; rfl, by first | rfl | trivial, fun j hj b hjb => ?_⟩
                by_cases h : j = k
                · subst h
                  rw [Hx.out] at hjb
                  obtain rfl := Option.some.inj hjb
                  exact ⟨beq_eq_false_iff_ne.1 H0.out, beq_eq_false_iff_ne.1 H7.out⟩
                · exact HN.out j (by omega) b hjb
              case measure => (show s.size - (k + 1) < s.size - k); omega
          · rw [e0] at q0
            rw [e7] at q7
            have H7 := Lib.hid e7
            clear e0 e7
            go_wp2_with fail
            go_ret
            exact ⟨ret_int (chk_no fun h => (h.2.2.1 x (List.mem_of_getElem? Hx.out)).2 (beq_iff_eq.1 H7.out)).symm, rfl⟩
        · rw [e0] at q0
          have H0 := Lib.hid e0
          clear e0
          go_wp2_with fail
          go_ret
          exact ⟨ret_int (chk_no fun h => (h.2.2.1 x (List.mem_of_getElem? Hx.out)).1 (beq_iff_eq.1 H0.out)).symm, rfl⟩
      · have hkk : k = s.size := by omega
        have hc := chk_dots h1 h2 (fun b hb => by
          obtain ⟨j, hj, rfl⟩ := List.getElem_of_mem hb
          exact HN.out j (by rw [len_data] at hj; omega) _ (List.getElem?_eq_getElem hj))
        rw [← hkk] at hc
        have HC := Lib.hid hc
        clear hc hkk
        cases hd : dotsL s.data.toList k
        · go_wp2_with fail
          go_ret
          exact ⟨ret_int (by rw [HC.out, hd]; rfl), rfl⟩
        · by_cases h22 : k ≤ 2
          · have hs2 : s.size ≤ 2 := by omega
            go_wp2_with fail
            go_ret
            exact ⟨ret_int (by rw [HC.out, hd, decide_eq_true h22]; rfl), rfl⟩
          · have hs2 : 2 < s.size := by omega
            go_wp2_with fail
            go_ret
            exact ⟨ret_int (by rw [HC.out, hd, decide_eq_false h22]; rfl), rfl⟩
  · have hc := chk_no (s := s) (fun h => h1 (by have := h.1; have := h.2.1; rw [len_data] at *; omega))
    have HC := Lib.hid hc
    clear hc
    by_cases h2 : s.size < 1
    · go_enter Tryd.func23, Tryd.ntmps23
      go_wp2_with fail
      go_ret
      exact ⟨ret_int HC.out.symm, rfl⟩
    · have h3 : 40 < s.size := by omega
      go_enter Tryd.func23, Tryd.ntmps23
      go_wp2_with fail
      go_ret
      exact ⟨ret_int HC.out.symm, rfl⟩
end Go.Proofs.YtkhpifjhnkknbaaDoor
