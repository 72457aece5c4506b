/- A text as a name and as a path, as the document has it: the laws' walks. -/
import Derived.Test.YtkhpifjhnkknbaaDoorRsw
import Derived.Test.YtkhpifjhnkknbaaDoorKnp
namespace Go.Proofs.YtkhpifjhnkknbaaDoor
set_option linter.unusedSimpArgs false
set_option linter.unusedVariables false
open Go.RowKit

set_option maxHeartbeats 2000000 in
set_option maxRecDepth 100000 in
theorem told_true (s : ByteArray) (m : Int) (w : World) (hm : MaxAt w m) :
    Calls Tryd.prog 12 #[.string s] w fun e w' => e = .returned (.bool true) ∧ Below w.heap.size w w' := by
  have HM := Lib.hid hm
  clear hm
  go_enter Tryd.func12, Tryd.ntmps12
  go_wp2_with fail
  refine (split_any _ m _ HM.out).mono ?_; rintro e w1 ⟨v1, rfl, hs1, hb⟩
  have HS1 := Lib.hid hs1
  clear hs1
  go_wp2_with fail
  refine (rsplit_any _ _).mono ?_; rintro e w2 ⟨v2, rfl, hs2, hb2⟩
  have hb := below_call hb hb2 hb.size
  have HS1 := Lib.hid (HS1.out.call hb2)
  have HS2 := Lib.hid hs2
  clear hs2 hb2
  go_wp2_with fail
  refine (check_any _ _).mono ?_; rintro e w3 ⟨rfl, hb2⟩
  have hb := below_call hb hb2 hb.size
  have HS1 := Lib.hid (HS1.out.call hb2)
  have HS2 := Lib.hid (HS2.out.call hb2)
  clear hb2
  go_wp2_with fail
  refine (rcheck_any _ _).mono ?_; rintro e w4 ⟨rfl, rfl⟩
  go_wp2_with fail
  refine (sameTexts_any _ _ _ _ _ _ _ HS1.out HS2.out).mono ?_; rintro e w5 ⟨rfl, hb2⟩
  rw [decide_eq_true rfl]
  have hb := below_call hb hb2 hb.size
  clear hb2
  go_wp2_with fail
  go_ret
  exact ⟨rfl, hb⟩

set_option maxHeartbeats 4000000 in
set_option maxRecDepth 100000 in
theorem pathTells_any (a b : ByteArray) (m : Int) (w : World) (hm : MaxAt w m) (ha : a.size ≤ 140737488355328) (hb0 : b.size ≤ 140737488355328) :
    Calls Tryd.prog 4 #[.string a, .string b] w fun e w' => e = .returned (.bool true) ∧ Below w.heap.size w w' := by
  have HM := Lib.hid hm
  clear hm
  go_enter Tryd.func4, Tryd.ntmps4
  go_wp2_with fail
  refine (told_true _ m _ HM.out).mono ?_; rintro e w1 ⟨rfl, hb⟩
  have HM := Lib.hid (HM.out.call hb)
  go_wp2_with fail
  refine (told_true _ m _ HM.out).mono ?_; rintro e w2 ⟨rfl, hb2⟩
  have hb := below_call hb hb2 hb.size
  have HM := Lib.hid (HM.out.call hb2)
  clear hb2
  go_wp2_with fail
  refine (told_true _ m _ HM.out).mono ?_; rintro e w3 ⟨rfl, hb2⟩
  have hb := below_call hb hb2 hb.size
  have HM := Lib.hid (HM.out.call hb2)
  clear hb2
  go_wp2_with fail
  go_loopw [5] (fun i wr => ∃ k : Nat, k ≤ a.size + 1 ∧ i = .int .i64 k ∧ Below w.heap.size w wr ∧ MaxAt wr m) (fun i _ => a.size + 1 - (intOf i).toNat)
  case atStart => exact ⟨0, by omega, rfl, hb, HM.out⟩
  case round =>
    clear hb HM
    obtain ⟨k, hk, rfl, hb, hm⟩ := hrel
    have HM := Lib.hid hm
    clear hm
    by_cases hkw : k ≤ a.size ∧ a.size ≤ 500
    · obtain ⟨hk1, hk2⟩ := hkw
      go_wp2_with fail
      refine (told_true _ m _ HM.out).mono ?_; rintro e w4 ⟨rfl, hb2⟩
      have hb := below_call hb hb2 hb.size
      have HM := Lib.hid (HM.out.call hb2)
      clear hb2
      go_wp2_with fail
      refine (told_true _ m _ HM.out).mono ?_; rintro e w5 ⟨rfl, hb2⟩
      have hb := below_call hb hb2 hb.size
      have HM := Lib.hid (HM.out.call hb2)
      clear hb2
      go_wp2_with fail
      go_roundw
      case rel => exact ⟨k + 1, by omega, by go_num, hb, HM.out⟩
      case measure => (show a.size + 1 - (k + 1) < a.size + 1 - k); omega
    · by_cases hk1 : k ≤ a.size
      · have hk2 : 500 < a.size := by omega
        clear hkw
        go_wp2_with fail
        refine (told_true _ m _ HM.out).mono ?_; rintro e w4 ⟨rfl, hb2⟩
        have hb := below_call hb hb2 hb.size
        have HM := Lib.hid (HM.out.call hb2)
        clear hb2
        go_wp2_with fail
        refine (known_true m _ HM.out).mono ?_; rintro e w5 ⟨rfl, hb2⟩
        have hb := below_call hb hb2 hb.size
        clear hb2
        go_wp2_with fail
        go_ret
        exact ⟨rfl, hb⟩
      · clear hkw
        go_wp2_with fail
        refine (told_true _ m _ HM.out).mono ?_; rintro e w4 ⟨rfl, hb2⟩
        have hb := below_call hb hb2 hb.size
        have HM := Lib.hid (HM.out.call hb2)
        clear hb2
        go_wp2_with fail
        refine (known_true m _ HM.out).mono ?_; rintro e w5 ⟨rfl, hb2⟩
        have hb := below_call hb hb2 hb.size
        clear hb2
        go_wp2_with fail
        go_ret
        exact ⟨rfl, hb⟩
end Go.Proofs.YtkhpifjhnkknbaaDoor
