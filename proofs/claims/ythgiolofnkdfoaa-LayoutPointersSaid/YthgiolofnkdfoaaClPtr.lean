/- The statement Rows.LayoutPointersSaid is proved: for any pointers and any sector the sector written and what is read are the document's; no conditions. -/
import Derived.Test.YthgiolofnkdfoaaLawPtr
import Derived.Test.YthgiolofnkdfoaaOp1
import Derived.SizedLaws
import Derived.Lib.SmallJoins
import Derived.JoinedOf
import Derived.JoinedAt
namespace Go.Proofs.Ythgiolofnkdfoaa
set_option linter.unusedSimpArgs false
set_option linter.unusedVariables false
open Go.ChangeShapes Go.WideShapes Go.ChangeAt Go.RowKit

theorem layoutPointers_own : ownKnob Try.prog.godebug = none := by kernel_rfl
theorem layoutPointers_laid : laidOutB Try.prog = true := by kernel_rfl

set_option maxRecDepth 100000 in
theorem layoutPointers_lifted (os : Os) (started : os.Started) (H : Type) (enc : TypeId × Value → H) :
    ReturnsInHanded {} Try.checked os 7 .any (Rows.layoutPointersSpec.pre6 enc Try.prog Try.f7 Rows.layoutPointersRow.domain false) (Rows.layoutPointersSpec.post enc Try.prog Try.f7 false true false false) := by
  refine returnsInHanded_of_change (C := Try.checked) layoutPointers_own started (by kernel_rfl) Try.func7
    (ChangeSpec.witness6 (enc := enc) (C := Try.checked) false ⟨#[], #[.agg (IV .i64 (zl 32)), .agg (IV .u8 (zl 128))], []⟩ 8 (by kernel_rfl) (by kernel_rfl) (by kernel_rfl) (by kernel_rfl)) ?_
  intro W base args ds gs before hval0 hW hcnd _
  have hval : ∀ (j : Nat) t v, Try.f7.params[j]? = some t → args[j]? = some v → Value.okWide Try.prog W .any base t v := hval0
  have hW' := hW
  obtain ⟨p, q, hA0, hV, rfl, hfz, hnd⟩ := hW
  have hA : DataW.TrodAll enc Try.prog W 0 (fun _ => true) true Try.f7.params.toList args.toList ds p := hA0
  rw [Try.params7] at hA hval
  obtain ⟨v0, v1, d0, d1, p0, p1, rfl, rfl, rfl, h0, h1⟩ := trodAll_two hA
  obtain ⟨rfl, rfl⟩ := trodVars_none hV
  have q0 := hval 0 49 v0 rfl rfl
  simp only [Value.okWide, Try.underlying49] at q0
  obtain ⟨l0, rfl, hl0, hw0⟩ := open_IV (n := 32) Try.underlying3 (by kernel_rfl) (by kernel_rfl) q0
  have q1 := hval 1 25 v1 rfl rfl
  simp only [Value.okWide, Try.underlying25] at q1
  obtain ⟨l1, rfl, hl1, hw1⟩ := open_IV (n := 128) Try.underlying5 (by kernel_rfl) (by kernel_rfl) q1
  simp only [List.append_nil] at hW'
  refine (layoutPointers_any l0 l1 W hl0 hl1 (ints_bytes hw1)).mono fun e W' ⟨he, hg⟩ => ⟨_, he, ?_⟩
  exact post_law (T := 4) layoutPointers_laid hW' rfl rfl rfl rfl (by kernel_rfl) (by kernel_rfl) Try.underlying4 hg

theorem layoutPointers_holds : Rows.LayoutPointersSaid :=
  OpenClaim.holds_of_wide 7 Try.f7 rfl rfl rfl rfl rfl rfl rfl ⟨rfl, rfl, rfl, rfl, rfl⟩ rfl rfl rfl rfl rfl (by kernel_rfl) Try.func7 (by kernel_rfl)
    (of_decide_eq_true (by kernel_rfl)) (by unfold Func.isWrapper; rw [if_neg (of_decide_eq_false (by kernel_rfl))]; exact ⟨rfl, rfl⟩)
    (fun os started H enc _ => layoutPointers_lifted os started H enc)

#print axioms layoutPointers_holds
end Go.Proofs.Ythgiolofnkdfoaa
