/- The statement Rows.LayoutPartsSaid is proved: of every super that may be each sector is the first one, an inode's or one of data, as many as it says; no conditions. -/
import Derived.Test.YthgiolofnkdfoaaLawPrt
import Derived.Test.YthgiolofnkdfoaaOp1
import Derived.SizedLaws
import Derived.Lib.SmallJoins
import Derived.JoinedOf
import Derived.JoinedAt
namespace Go.Proofs.Ythgiolofnkdfoaa
set_option linter.unusedSimpArgs false
set_option linter.unusedVariables false
open Go.ChangeShapes Go.WideShapes Go.ChangeAt Go.RowKit

theorem layoutParts_own : ownKnob Try.prog.godebug = none := by kernel_rfl
theorem layoutParts_laid : laidOutB Try.prog = true := by kernel_rfl

set_option maxRecDepth 100000 in
theorem layoutParts_lifted (os : Os) (started : os.Started) (H : Type) (enc : TypeId × Value → H) :
    ReturnsInHanded {} Try.checked os 5 .any (Rows.layoutPartsSpec.pre6 enc Try.prog Try.f5 Rows.layoutPartsRow.domain false) (Rows.layoutPartsSpec.post enc Try.prog Try.f5 false true false false) := by
  refine returnsInHanded_of_change (C := Try.checked) layoutParts_own started (by kernel_rfl) Try.func5
    (ChangeSpec.witness6 (enc := enc) (C := Try.checked) false ⟨#[], #[.agg #[.int .i64 0, .int .i64 0]], []⟩ 8 (by kernel_rfl) (by kernel_rfl) (by kernel_rfl) (by kernel_rfl)) ?_
  intro W base args ds gs before hval0 hW hcnd _
  have hval : ∀ (j : Nat) t v, Try.f5.params[j]? = some t → args[j]? = some v → Value.okWide Try.prog W .any base t v := hval0
  have hW' := hW
  obtain ⟨p, q, hA0, hV, rfl, hfz, hnd⟩ := hW
  have hA : DataW.TrodAll enc Try.prog W 0 (fun _ => true) true Try.f5.params.toList args.toList ds p := hA0
  rw [Try.params5] at hA hval
  obtain ⟨v0, d0, rfl, rfl, h0⟩ := trodAll_one hA
  obtain ⟨rfl, rfl⟩ := trodVars_none hV
  have q0 := hval 0 34 v0 rfl rfl
  simp only [Value.okWide, Try.underlying34] at q0
  obtain ⟨l0, rfl, hl0, hw0⟩ := open_IV (n := 2) Try.underlying3 (by kernel_rfl) (by kernel_rfl) q0
  obtain ⟨x0, y0, rfl⟩ := list_two hl0
  simp only [List.append_nil] at hW'
  refine (layoutParts_any x0 y0 W (show In64 x0 from ints_i64 hw0 0) (show In64 y0 from ints_i64 hw0 1)).mono fun e W' ⟨he, hg⟩ => ⟨_, he, ?_⟩
  exact post_law (T := 4) layoutParts_laid hW' rfl rfl rfl rfl (by kernel_rfl) (by kernel_rfl) Try.underlying4 hg

theorem layoutParts_holds : Rows.LayoutPartsSaid :=
  OpenClaim.holds_of_wide 5 Try.f5 rfl rfl rfl rfl rfl rfl rfl ⟨rfl, rfl, rfl, rfl, rfl⟩ rfl rfl rfl rfl rfl (by kernel_rfl) Try.func5 (by kernel_rfl)
    (of_decide_eq_true (by kernel_rfl)) (by unfold Func.isWrapper; rw [if_neg (of_decide_eq_false (by kernel_rfl))]; exact ⟨rfl, rfl⟩)
    (fun os started H enc _ => layoutParts_lifted os started H enc)

#print axioms layoutParts_holds
end Go.Proofs.Ythgiolofnkdfoaa
