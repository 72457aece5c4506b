/- The statement Rows.LookLooksSaid is proved: for every list of sectors: what the look comes to is what the document's look comes to; no conditions. -/
import Derived.SizedLaws
import Derived.Lib.SmallJoins
import Derived.JoinedOf
import Derived.JoinedAt
import Derived.Test.YthioepdgnbdohaaGreatM10
import Derived.Test.YthioepdgnbdohaaGreatM16
namespace Go.Proofs.YthioepdgnbdohaaGreat
set_option linter.unusedSimpArgs false
set_option linter.unusedVariables false
open Go.ChangeShapes Go.WideShapes Go.ChangeAt Go.RowKit

theorem lookLooks_own : ownKnob Tryz.prog.godebug = none := by kernel_rfl
theorem lookLooks_laid : laidOutB Tryz.prog = true := by kernel_rfl

set_option maxRecDepth 100000 in
theorem lookLooks_lifted (os : Os) (started : os.Started) (H : Type) (enc : TypeId × Value → H) :
    ReturnsInHanded {} Tryz.checked os 3 .any (Rows.lookLooksSpec.pre6 enc Tryz.prog Tryz.f3 Rows.lookLooksRow.domain false) (Rows.lookLooksSpec.post enc Tryz.prog Tryz.f3 false true false false) := by
  refine returnsInHanded_of_change (C := Tryz.checked) lookLooks_own started (by kernel_rfl) Tryz.func3
    (ChangeSpec.witness6 (enc := enc) (C := Tryz.checked) false ⟨#[], #[.slice none 0 0], []⟩ 8 (by kernel_rfl) (by kernel_rfl) (by kernel_rfl) (by kernel_rfl)) ?_
  intro W base args ds gs before hval0 hW hcnd _
  have hval : ∀ (j : Nat) t v, Tryz.f3.params[j]? = some t → args[j]? = some v → Value.okWide Tryz.prog W .any base t v := hval0
  have hW' := hW
  obtain ⟨p, q, hA0, hV, rfl, hfz, hnd⟩ := hW
  have hA : DataW.TrodAll enc Tryz.prog W 0 (fun _ => true) true Tryz.f3.params.toList args.toList ds p := hA0
  rw [Tryz.params3] at hA hval
  obtain ⟨v0, d0, rfl, rfl, h0⟩ := trodAll_one hA
  obtain ⟨rfl, rfl⟩ := trodVars_none hV
  have q0 := hval 0 22 v0 rfl rfl
  obtain ⟨N0, S0, hI0⟩ := img_of q0 h0
  simp only [List.append_nil] at hW'
  refine (lookLooks_any hI0).mono fun e W' ⟨he, hg⟩ => ⟨_, he, ?_⟩
  exact post_law (T := 4) lookLooks_laid hW' rfl rfl rfl rfl (by kernel_rfl) (by kernel_rfl) Tryz.underlying4 hg

theorem lookLooks_holds : Rows.LookLooksSaid :=
  OpenClaim.holds_of_wide 3 Tryz.f3 rfl rfl rfl rfl rfl rfl rfl ⟨rfl, rfl, rfl, rfl, rfl⟩ rfl rfl rfl rfl rfl (by kernel_rfl) Tryz.func3 (by kernel_rfl)
    (of_decide_eq_true (by kernel_rfl)) (by unfold Func.isWrapper; rw [if_neg (of_decide_eq_false (by kernel_rfl))]; exact ⟨rfl, rfl⟩)
    (fun os started H enc _ => lookLooks_lifted os started H enc)

#print axioms lookLooks_holds
end Go.Proofs.YthioepdgnbdohaaGreat
