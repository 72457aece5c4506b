/- The statement Rows.LayoutOneSaid is proved: what is read of any sector has just that sector, no super is read as another thing, and zeros are the free inode, the empty slot and no super; no conditions. -/
import Derived.Test.YthgiolofnkdfoaaLawOne
import Derived.Test.YthgiolofnkdfoaaOp1
import Derived.SizedLaws
import Derived.Lib.SmallJoins
import Derived.JoinedOf
import Derived.JoinedAt
namespace Go.Proofs.Ythgiolofnkdfoaa
set_option linter.unusedSimpArgs false
set_option linter.unusedVariables false
open Go.ChangeShapes Go.WideShapes Go.ChangeAt Go.RowKit

theorem layoutOne_own : ownKnob Try.prog.godebug = none := by kernel_rfl
theorem layoutOne_laid : laidOutB Try.prog = true := by kernel_rfl

set_option maxRecDepth 100000 in
theorem layoutOne_lifted (os : Os) (started : os.Started) (H : Type) (enc : TypeId × Value → H) :
    ReturnsInHanded {} Try.checked os 9 .any (Rows.layoutOneSpec.pre6 enc Try.prog Try.f9 Rows.layoutOneRow.domain false) (Rows.layoutOneSpec.post enc Try.prog Try.f9 false true false false) := by
  refine returnsInHanded_of_change (C := Try.checked) layoutOne_own started (by kernel_rfl) Try.func9
    (ChangeSpec.witness6 (enc := enc) (C := Try.checked) false ⟨#[], #[.agg (IV .u8 (zl 128))], []⟩ 8 (by kernel_rfl) (by kernel_rfl) (by kernel_rfl) (by kernel_rfl)) ?_
  intro W base args ds gs before hval0 hW hcnd _
  have hval : ∀ (j : Nat) t v, Try.f9.params[j]? = some t → args[j]? = some v → Value.okWide Try.prog W .any base t v := hval0
  have hW' := hW
  obtain ⟨p, q, hA0, hV, rfl, hfz, hnd⟩ := hW
  have hA : DataW.TrodAll enc Try.prog W 0 (fun _ => true) true Try.f9.params.toList args.toList ds p := hA0
  rw [Try.params9] at hA hval
  obtain ⟨v0, d0, rfl, rfl, h0⟩ := trodAll_one hA
  obtain ⟨rfl, rfl⟩ := trodVars_none hV
  have q0 := hval 0 25 v0 rfl rfl
  simp only [Value.okWide, Try.underlying25] at q0
  obtain ⟨l0, rfl, hl0, hw0⟩ := open_IV (n := 128) Try.underlying5 (by kernel_rfl) (by kernel_rfl) q0
  simp only [List.append_nil] at hW'
  refine (layoutOne_any l0 W hl0 (ints_bytes hw0)).mono fun e W' ⟨he, hg⟩ => ⟨_, he, ?_⟩
  exact post_law (T := 4) layoutOne_laid hW' rfl rfl rfl rfl (by kernel_rfl) (by kernel_rfl) Try.underlying4 hg

theorem layoutOne_holds : Rows.LayoutOneSaid :=
  OpenClaim.holds_of_wide 9 Try.f9 rfl rfl rfl rfl rfl rfl rfl ⟨rfl, rfl, rfl, rfl, rfl⟩ rfl rfl rfl rfl rfl (by kernel_rfl) Try.func9 (by kernel_rfl)
    (of_decide_eq_true (by kernel_rfl)) (by unfold Func.isWrapper; rw [if_neg (of_decide_eq_false (by kernel_rfl))]; exact ⟨rfl, rfl⟩)
    (fun os started H enc _ => layoutOne_lifted os started H enc)

#print axioms layoutOne_holds
end Go.Proofs.Ythgiolofnkdfoaa
