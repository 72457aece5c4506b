/- The statement Rows.LookUsesSaid is proved: for every list of sectors: if it is not refused, the inodes and the blocks that are told are those in use in what it should be; no conditions. -/
import Derived.SizedLaws
import Derived.Lib.SmallJoins
import Derived.JoinedOf
import Derived.JoinedAt
import Derived.Test.YthioepdgnbdohaaGreatM04
import Derived.Test.YthioepdgnbdohaaGreatM15
namespace Go.Proofs.YthioepdgnbdohaaGreat
set_option linter.unusedSimpArgs false
set_option linter.unusedVariables false
open Go.ChangeShapes Go.WideShapes Go.ChangeAt Go.RowKit

theorem lookUses_own : ownKnob Tryz.prog.godebug = none := by kernel_rfl
theorem lookUses_laid : laidOutB Tryz.prog = true := by kernel_rfl

set_option maxRecDepth 100000 in
theorem lookUses_lifted (os : Os) (started : os.Started) (H : Type) (enc : TypeId × Value → H) :
    ReturnsInHanded {} Tryz.checked os 8 .any (Rows.lookUsesSpec.pre6 enc Tryz.prog Tryz.f8 Rows.lookUsesRow.domain false) (Rows.lookUsesSpec.post enc Tryz.prog Tryz.f8 false true false false) := by
  refine returnsInHanded_of_change (C := Tryz.checked) lookUses_own started (by kernel_rfl) Tryz.func8
    (ChangeSpec.witness6 (enc := enc) (C := Tryz.checked) false ⟨#[], #[.slice none 0 0], []⟩ 8 (by kernel_rfl) (by kernel_rfl) (by kernel_rfl) (by kernel_rfl)) ?_
  intro W base args ds gs before hval0 hW hcnd _
  have hval : ∀ (j : Nat) t v, Tryz.f8.params[j]? = some t → args[j]? = some v → Value.okWide Tryz.prog W .any base t v := hval0
  have hW' := hW
  obtain ⟨p, q, hA0, hV, rfl, hfz, hnd⟩ := hW
  have hA : DataW.TrodAll enc Tryz.prog W 0 (fun _ => true) true Tryz.f8.params.toList args.toList ds p := hA0
  rw [Tryz.params8] at hA hval
  obtain ⟨v0, d0, rfl, rfl, h0⟩ := trodAll_one hA
  obtain ⟨rfl, rfl⟩ := trodVars_none hV
  have q0 := hval 0 22 v0 rfl rfl
  obtain ⟨N0, S0, hI0⟩ := img_of q0 h0
  simp only [List.append_nil] at hW'
  refine (lookUses_any hI0).mono fun e W' ⟨he, hg⟩ => ⟨_, he, ?_⟩
  exact post_law (T := 4) lookUses_laid hW' rfl rfl rfl rfl (by kernel_rfl) (by kernel_rfl) Tryz.underlying4 hg

theorem lookUses_holds : Rows.LookUsesSaid :=
  OpenClaim.holds_of_wide 8 Tryz.f8 rfl rfl rfl rfl rfl rfl rfl ⟨rfl, rfl, rfl, rfl, rfl⟩ rfl rfl rfl rfl rfl (by kernel_rfl) Tryz.func8 (by kernel_rfl)
    (of_decide_eq_true (by kernel_rfl)) (by unfold Func.isWrapper; rw [if_neg (of_decide_eq_false (by kernel_rfl))]; exact ⟨rfl, rfl⟩)
    (fun os started H enc _ => lookUses_lifted os started H enc)

#print axioms lookUses_holds
end Go.Proofs.YthioepdgnbdohaaGreat
