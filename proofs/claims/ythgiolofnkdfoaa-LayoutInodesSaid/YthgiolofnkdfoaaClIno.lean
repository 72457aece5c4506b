/- The statement Rows.LayoutInodesSaid is proved: for every inode and every sector the sector written and what is read are the document's; no conditions. -/
import Derived.Test.YthgiolofnkdfoaaLawIno
import Derived.Test.YthgiolofnkdfoaaOp1
import Derived.SizedLaws
import Derived.Lib.SmallJoins
import Derived.JoinedOf
import Derived.JoinedAt
namespace Go.Proofs.Ythgiolofnkdfoaa
set_option linter.unusedSimpArgs false
set_option linter.unusedVariables false
open Go.ChangeShapes Go.WideShapes Go.ChangeAt Go.RowKit

theorem layoutInodes_own : ownKnob Try.prog.godebug = none := by kernel_rfl
theorem layoutInodes_laid : laidOutB Try.prog = true := by kernel_rfl

set_option maxRecDepth 100000 in
theorem layoutInodes_lifted (os : Os) (started : os.Started) (H : Type) (enc : TypeId × Value → H) :
    ReturnsInHanded {} Try.checked os 6 .any (Rows.layoutInodesSpec.pre6 enc Try.prog Try.f6 Rows.layoutInodesRow.domain false) (Rows.layoutInodesSpec.post enc Try.prog Try.f6 false true false false) := by
  refine returnsInHanded_of_change (C := Try.checked) layoutInodes_own started (by kernel_rfl) Try.func6
    (ChangeSpec.witness6 (enc := enc) (C := Try.checked) false ⟨#[], #[.agg (IV .i64 (zl 18)), .agg (IV .u8 (zl 128))], []⟩ 8 (by kernel_rfl) (by kernel_rfl) (by kernel_rfl) (by kernel_rfl)) ?_
  intro W base args ds gs before hval0 hW hcnd _
  have hval : ∀ (j : Nat) t v, Try.f6.params[j]? = some t → args[j]? = some v → Value.okWide Try.prog W .any base t v := hval0
  have hW' := hW
  obtain ⟨p, q, hA0, hV, rfl, hfz, hnd⟩ := hW
  have hA : DataW.TrodAll enc Try.prog W 0 (fun _ => true) true Try.f6.params.toList args.toList ds p := hA0
  rw [Try.params6] at hA hval
  obtain ⟨v0, v1, d0, d1, p0, p1, rfl, rfl, rfl, h0, h1⟩ := trodAll_two hA
  obtain ⟨rfl, rfl⟩ := trodVars_none hV
  have q0 := hval 0 43 v0 rfl rfl
  simp only [Value.okWide, Try.underlying43] at q0
  obtain ⟨l0, rfl, hl0, hw0⟩ := open_IV (n := 18) Try.underlying3 (by kernel_rfl) (by kernel_rfl) q0
  have q1 := hval 1 25 v1 rfl rfl
  simp only [Value.okWide, Try.underlying25] at q1
  obtain ⟨l1, rfl, hl1, hw1⟩ := open_IV (n := 128) Try.underlying5 (by kernel_rfl) (by kernel_rfl) q1
  simp only [List.append_nil] at hW'
  refine (layoutInodes_any l0 l1 W hl0 hl1 (ints_bytes hw1)).mono fun e W' ⟨he, hg⟩ => ⟨_, he, ?_⟩
  exact post_law (T := 4) layoutInodes_laid hW' rfl rfl rfl rfl (by kernel_rfl) (by kernel_rfl) Try.underlying4 hg

theorem layoutInodes_holds : Rows.LayoutInodesSaid :=
  OpenClaim.holds_of_wide 6 Try.f6 rfl rfl rfl rfl rfl rfl rfl ⟨rfl, rfl, rfl, rfl, rfl⟩ rfl rfl rfl rfl rfl (by kernel_rfl) Try.func6 (by kernel_rfl)
    (of_decide_eq_true (by kernel_rfl)) (by unfold Func.isWrapper; rw [if_neg (of_decide_eq_false (by kernel_rfl))]; exact ⟨rfl, rfl⟩)
    (fun os started H enc _ => layoutInodes_lifted os started H enc)

#print axioms layoutInodes_holds
end Go.Proofs.Ythgiolofnkdfoaa
