/- walk, last: the walks. -/
import Derived.Test.YteffoihkljkfdaaDoorPro
import Derived.Test.YteffoihkljkfdaaDoorSpl
namespace Go.Proofs.YteffoihkljkfdaaDoor
set_option linter.unusedSimpArgs false
set_option linter.unusedVariables false
open Go.RowKit

theorem look_name_yes {w : World} {a : NA} {n : Nd} (h : NodeAt w a n) {s : ByteArray} {j : Int} (hj : n.names s = some j) : (Instr.lookup 70 a.nv (.string s) true).run Tryd.prog w = .ok (.tuple #[.int .i64 j, .bool true]) w := by
  have hk : kStr.ok s := by
    have h2 := h.m
    rcases h2 with ⟨-, -, h2, -⟩ | ⟨b, -, -, h2⟩
    · have := h2 s
      unfold Nd.namesM at this
      rw [hj] at this; cases this
    · exact h2.okey (x := s) (by unfold Nd.namesM; rw [hj]; rfl)
  have h1 := h.m.look_ok (e := 3) Tryd.underlying70 (z := .int .i64 0) (by kernel_rfl) hk
  unfold Nd.namesM at h1
  rw [hj] at h1
  exact h1
theorem look_name_no {w : World} {a : NA} {n : Nd} (h : NodeAt w a n) {s : ByteArray} (hs : s.size ≤ maxLen) (hj : n.names s = none) : (Instr.lookup 70 a.nv (.string s) true).run Tryd.prog w = .ok (.tuple #[.int .i64 0, .bool false]) w := by
  have h1 := h.m.look_ok (e := 3) Tryd.underlying70 (z := .int .i64 0) (by kernel_rfl) (x := s) hs
  unfold Nd.namesM at h1
  rw [hj] at h1
  exact h1
theorem ret_tup {a b c d : Value} (h1 : a = c) (h2 : b = d) : Ending.returned (.tuple #[a, b]) = .returned (.tuple #[c, d]) := by rw [h1, h2]
set_option maxHeartbeats 8000000 in
set_option maxRecDepth 100000 in
theorem walk_any {w : World} {gp bn c : Nat} {S : PS} {A : Int → NA} {own : Nat → Option (Int × Nat)} (h : PT w gp bn c S A own) (hW : PWf S) {v : Value} {l : List ByteArray} {B : Nat} (hv : Strs w B v l) (hl : ∀ s ∈ l, s.size ≤ 40) :
    Calls Tryd.prog 53 #[.pointer (some ⟨gp, 0, none⟩), v] w fun e w' => e = .returned (.tuple #[.int .i64 (S.walk l 1).1, .int .i64 (S.walk l 1).2]) ∧ w' = w := by
  have H := Lib.hid h
  have hp := h.p
  have hpl := hat_lt hp
  clear h
  rcases hv with ⟨rfl, rfl⟩ | ⟨g, o, cp, rfl, -, hsm, -, hgl, hx⟩
  · go_enter Tryd.func53, Tryd.ntmps53
    go_wp2_with fail
    go_loopw [6, 14] (fun u v wr => u = .int .i64 1 ∧ v = .int .i64 0 ∧ wr = w) (fun _ _ _ => 0)
    case atStart => exact ⟨rfl, rfl, rfl⟩
    case round =>
      obtain ⟨rfl, rfl, rfl⟩ := hrel
      go_wp2_with fail
      go_ret2
      exact ⟨rfl, rfl⟩
  · have HX := Lib.hid hx
    clear hx
    go_enter Tryd.func53, Tryd.ntmps53
    go_wp2_with fail
    go_loopw [6, 14] (fun u v wr => ∃ (k : Nat) (i : Int), u = .int .i64 i ∧ v = .int .i64 k ∧ k ≤ l.length ∧ Hid (S.walk l 1 = S.walk (l.drop k) i) ∧ Hid ((S.nodes i).isSome = true) ∧ wr = w) (fun _ v _ => l.length - (intOf v).toNat)
    case atStart => exact ⟨0, 1, rfl, rfl, by omega, Lib.hid rfl, Lib.hid (root_there hW), rfl⟩
    case round =>
      obtain ⟨k, i, rfl, rfl, hk, HE, HI, rfl⟩ := hrel
      by_cases hlt : k < l.length
      · have hk1 : (k : Int) < (l.length : Int) := by omega
        have hk0 : (0 : Int) ≤ (k : Int) := by omega
        have hn := PS.nd_get HI.out
        have hlk := H.out.look_yes hn
        have HN := Lib.hid (H.out.n i _ hn)
        have hh := HN.out.h
        have hhl := hat_lt hh
        obtain ⟨x, hxk⟩ := getElem_opt hlt
        have hcx := HX.out k x hxk
        rw [cell?_of_hat] at hcx
        have hxm : x ∈ l := List.mem_of_getElem? hxk
        have hd : l.drop k = x :: l.drop (k + 1) := by
          rw [List.drop_eq_getElem_cons hlt]
          rw [List.getElem?_eq_getElem hlt] at hxk
          rw [Option.some.inj hxk]
        have hxs := hl x hxm
        by_cases hkd : (S.nd i).kind = 2
        · cases hnm : (S.nd i).names x with
          | none =>
            have hln := look_name_no HN.out (s := x) (by unfold maxLen; omega) hnm
            have HR : Hid (S.walk l 1 = (0, 110)) := Lib.hid (by
              rw [HE.out, hd]
              unfold PS.walk
              rw [if_neg (by simp [hkd]), hnm])
            rw [hkd] at hh
            clear hn hxk hd hnm
            go_wp2_with fail
            go_ret2
            rw [HR.out]
            exact ⟨rfl, rfl⟩
          | some j =>
            have hln := look_name_yes HN.out hnm
            have HR : Hid (S.walk l 1 = S.walk (l.drop (k + 1)) j) := Lib.hid (by
              rw [HE.out, hd]
              rw [PS.walk, if_neg (by simp [hkd]), hnm])
            have HJ : Hid ((S.nodes j).isSome = true) := Lib.hid ((hW.n i _ hn).nm x j hnm).2.2.2
            rw [hkd] at hh
            clear hn hxk hd hnm
            go_wp2_with fail
            go_roundw
            case rel => exact ⟨k + 1, j, rfl, by go_num, by omega, HR, HJ, by trivial⟩
            case measure => (show l.length - (k + 1) < l.length - k); omega
        · have HR : Hid (S.walk l 1 = (0, 113)) := Lib.hid (by
            rw [HE.out, hd]
            unfold PS.walk
            rw [if_pos hkd])
          clear hn hxk hd
          go_wp2_with fail
          go_ret2
          rw [HR.out]
          exact ⟨rfl, rfl⟩
      · obtain rfl : k = l.length := by omega
        have HR : Hid (S.walk l 1 = (i, 0)) := Lib.hid (by rw [HE.out, List.drop_length]; rfl)
        go_wp2_with fail
        go_ret2
        rw [HR.out]
        exact ⟨rfl, rfl⟩
end Go.Proofs.YteffoihkljkfdaaDoor
