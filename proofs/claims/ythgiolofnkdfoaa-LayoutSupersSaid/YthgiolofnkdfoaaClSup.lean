/- The statement Rows.LayoutSupersSaid is proved: for every super, every sector and every number the first sector, what is read of a sector, and which sector is one of data are the document's; no conditions. -/
import Derived.Test.YthgiolofnkdfoaaLawSup
import Derived.Test.YthgiolofnkdfoaaOp1
import Derived.JoinedOf
import Derived.JoinedAt
namespace Go.Proofs.Ythgiolofnkdfoaa
set_option linter.unusedSimpArgs false
set_option linter.unusedVariables false
open Go.ChangeShapes Go.WideShapes Go.ChangeAt Go.RowKit

theorem layoutSupers_own : ownKnob Try.prog.godebug = none := by kernel_rfl
theorem layoutSupers_laid : laidOutB Try.prog = true := by kernel_rfl

set_option maxRecDepth 100000 in
theorem layoutSupers_lifted (os : Os) (started : os.Started) (H : Type) (enc : TypeId × Value → H) :
    ReturnsInHanded {} Try.checked os 4 .any (Rows.layoutSupersSpec.pre6 enc Try.prog Try.f4 Rows.layoutSupersRow.domain false) (Rows.layoutSupersSpec.post enc Try.prog Try.f4 false true false false) := by
  refine returnsInHanded_of_change (C := Try.checked) layoutSupers_own started (by kernel_rfl) Try.func4
    (ChangeSpec.witness6 (enc := enc) (C := Try.checked) false ⟨#[], #[.agg #[.int .i64 0, .int .i64 0], .agg (IV .u8 (zl 128)), .int .i64 0], []⟩ 8 (by kernel_rfl) (by kernel_rfl) (by kernel_rfl) (by kernel_rfl)) ?_
  intro W base args ds gs before hval0 hW hcnd _
  have hval : ∀ (j : Nat) t v, Try.f4.params[j]? = some t → args[j]? = some v → Value.okWide Try.prog W .any base t v := hval0
  have hW' := hW
  obtain ⟨p, q, hA0, hV, rfl, hfz, hnd⟩ := hW
  have hA : DataW.TrodAll enc Try.prog W 0 (fun _ => true) true Try.f4.params.toList args.toList ds p := hA0
  rw [Try.params4] at hA hval
  obtain ⟨v0, v1, v2, d0, d1, d2, p0, p1, p2, rfl, rfl, rfl, h0, h1, h2⟩ := trodAll_three hA
  obtain ⟨rfl, rfl⟩ := trodVars_none hV
  have q0 := hval 0 34 v0 rfl rfl
  simp only [Value.okWide, Try.underlying34] at q0
  obtain ⟨l0, rfl, hl0, hw0⟩ := open_IV (n := 2) Try.underlying3 (by kernel_rfl) (by kernel_rfl) q0
  obtain ⟨x0, y0, rfl⟩ := list_two hl0
  have q1 := hval 1 25 v1 rfl rfl
  simp only [Value.okWide, Try.underlying25] at q1
  obtain ⟨l1, rfl, hl1, hw1⟩ := open_IV (n := 128) Try.underlying5 (by kernel_rfl) (by kernel_rfl) q1
  have q2 := hval 2 3 v2 rfl rfl
  obtain ⟨x2, rfl, -, -, hw2⟩ := open_int Try.underlying3 q2 h2
  simp only [List.append_nil] at hW'
  refine (layoutSupers_any x0 y0 x2 l1 W (show In64 x0 from ints_i64 hw0 0) (show In64 y0 from ints_i64 hw0 1) hl1 (ints_bytes hw1)).mono fun e W' ⟨he, hg⟩ => ⟨_, he, ?_⟩
  exact post_law (T := 4) layoutSupers_laid hW' rfl rfl rfl rfl (by kernel_rfl) (by kernel_rfl) Try.underlying4 hg

theorem layoutSupers_holds : Rows.LayoutSupersSaid :=
  OpenClaim.holds_of_wide 4 Try.f4 rfl rfl rfl rfl rfl rfl rfl ⟨rfl, rfl, rfl, rfl, rfl⟩ rfl rfl rfl rfl rfl (by kernel_rfl) Try.func4 (by kernel_rfl)
    (of_decide_eq_true (by kernel_rfl)) (by unfold Func.isWrapper; rw [if_neg (of_decide_eq_false (by kernel_rfl))]; exact ⟨rfl, rfl⟩)
    (fun os started H enc _ => layoutSupers_lifted os started H enc)

#print axioms layoutSupers_holds
end Go.Proofs.Ythgiolofnkdfoaa
