/- The chapter's examples: the walk of known. -/
import Derived.Test.YtkhpifjhnkknbaaDoorJoi
namespace Go.Proofs.YtkhpifjhnkknbaaDoor
set_option linter.unusedSimpArgs false
set_option linter.unusedVariables false
open Go.RowKit

def MaxAt (w : World) (m : Int) : Prop := w.cell? ⟨0, 0, none⟩ = some (.int .i64 m)
theorem MaxAt.lt {w : World} {m : Int} (h : MaxAt w m) : 0 < w.heap.size := by
  unfold MaxAt World.cell? at h
  cases hh : w.heap[0]? with
  | none => simp [hh] at h
  | some o => exact (Array.getElem?_eq_some_iff.1 hh).1
theorem MaxAt.call {w w' : World} {m : Int} (h : MaxAt w m) (hb : Below w.heap.size w w') : MaxAt w' m := (hb.cell (p := ⟨0, 0, none⟩) h.lt).trans h

theorem kp_1 : spl { data := #[47, 97, 47, 98, 46, 99] } = ([{ data := #[97] }, { data := #[98, 46, 99] }], 0) := by decide +kernel
theorem kp_2 : joinR [{ data := #[97] }, { data := #[98] }] = ({ data := #[47, 97, 47, 98] }, 0) := by decide +kernel
theorem kp_3 : spl { data := #[47, 97, 47] } = ([], 70) := by decide +kernel
theorem kp_4 : chk { data := #[46, 46] } = 71 := by decide +kernel
theorem kp_5 : chk { data := #[46, 46, 46] } = 0 := by decide +kernel

theorem strs_two {w : World} {g : Nat} {a b : ByteArray} {t : TypeId} {fr : Nat × Nat} (h : hat w g = some (.cells #[.string a, .string b] t fr)) : Strs w 0 (.slice (some ⟨g, 0, none⟩) 2 2) [a, b] := by
  refine .inr ⟨g, 0, 2, rfl, by simp, by simp, Nat.zero_le _, hat_lt h, fun j x hx => ?_⟩
  rw [Nat.zero_add, cell_hat h]
  match j, hx with
  | 0, hx => simp at hx; subst hx; rfl
  | 1, hx => simp at hx; subst hx; rfl
  | j + 2, hx => simp at hx

set_option maxHeartbeats 2000000 in
set_option maxRecDepth 100000 in
theorem known_true (m : Int) (w : World) (hm : MaxAt w m) :
    Calls Tryd.prog 11 #[] w fun e w' => e = .returned (.bool true) ∧ Below w.heap.size w w' := by
  have HM := Lib.hid hm
  clear hm
  go_enter Tryd.func11, Tryd.ntmps11
  go_wp2_with fail
  refine (split_any _ m _ HM.out).mono ?_; rintro e w1 ⟨v1, rfl, hs1, hb⟩
  rw [kp_1] at hs1 ⊢
  have HM := Lib.hid (HM.out.call hb)
  have HS1 := Lib.hid hs1
  clear hs1
  go_wp2_with fail
  have hb := below_new hb hb.size (.cells #[.string { data := #[97] }, .string { data := #[98] }] 9)
  obtain ⟨f2, z2⟩ := hopN w1 (.cells #[.string { data := #[97] }, .string { data := #[98] }] 9)
  have HM := Lib.hid (HM.out.call ((Below.refl _ _).alloc (Nat.le_refl _) (.cells #[.string { data := #[97] }, .string { data := #[98] }] 9)))
  have HS1 := Lib.hid (HS1.out.alloc (.cells #[.string { data := #[97] }, .string { data := #[98] }] 9))
  generalize w1.alloc (.cells #[.string { data := #[97] }, .string { data := #[98] }] 9) = w2 at *
  refine (join_any _ _ 0 _ (strs_two f2)).mono ?_; rintro e w3 ⟨rfl, hb2⟩
  rw [kp_2]
  have hb := below_call hb hb2 hb.size
  have HM := Lib.hid (HM.out.call hb2)
  have HS1 := Lib.hid (HS1.out.call hb2)
  clear hb2 f2 z2
  go_wp2_with fail
  refine (split_any _ m _ HM.out).mono ?_; rintro e w4 ⟨v4, rfl, hs4, hb2⟩
  rw [kp_3]
  have hb := below_call hb hb2 hb.size
  have HS1 := Lib.hid (HS1.out.call hb2)
  clear hb2 hs4
  go_wp2_with fail
  have hb := below_new hb hb.size (.cells #[.string { data := #[97] }, .string { data := #[98, 46, 99] }] 9)
  obtain ⟨f2, z2⟩ := hopN w4 (.cells #[.string { data := #[97] }, .string { data := #[98, 46, 99] }] 9)
  have HS1 := Lib.hid (HS1.out.alloc (.cells #[.string { data := #[97] }, .string { data := #[98, 46, 99] }] 9))
  generalize w4.alloc (.cells #[.string { data := #[97] }, .string { data := #[98, 46, 99] }] 9) = w5 at *
  refine (sameTexts_any _ _ _ _ _ _ _ HS1.out (strs_two f2)).mono ?_; rintro e w6 ⟨rfl, hb2⟩
  rw [decide_eq_true rfl]
  have hb := below_call hb hb2 hb.size
  clear hb2 f2 z2
  go_wp2_with fail
  refine (check_any _ _).mono ?_; rintro e w7 ⟨rfl, hb2⟩
  rw [kp_4]
  have hb := below_call hb hb2 hb.size
  clear hb2
  go_wp2_with fail
  refine (check_any _ _).mono ?_; rintro e w8 ⟨rfl, hb2⟩
  rw [kp_5]
  have hb := below_call hb hb2 hb.size
  clear hb2
  go_wp2_with fail
  go_ret
  exact ⟨rfl, hb⟩
end Go.Proofs.YtkhpifjhnkknbaaDoor
