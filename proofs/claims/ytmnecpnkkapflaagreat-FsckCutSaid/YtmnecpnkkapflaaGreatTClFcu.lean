/- The statement Rows.FsckCutSaid is proved: for every picture and every list of numbers: the power goes at any write of Run, and of the next one, and so on: the first that is answered OK leaves the image that one Run leaves, by as many writes together; no conditions. -/
import Derived.SizedLaws
import Derived.Lib.SmallJoins
import Derived.JoinedOf
import Derived.JoinedAt
import Derived.Test.YtmnecpnkkapflaaGreatM04
import Derived.Test.YtmnecpnkkapflaaGreatM17
import Derived.Test.YtmnecpnkkapflaaGreatM18
namespace Go.Proofs.YtmnecpnkkapflaaGreat
set_option linter.unusedSimpArgs false
set_option linter.unusedVariables false
open Go.ChangeShapes Go.WideShapes Go.ChangeAt Go.RowKit

theorem fsckCut_own : ownKnob Tryz.prog.godebug = none := by kernel_rfl
theorem fsckCut_laid : laidOutB Tryz.prog = true := by kernel_rfl

set_option maxRecDepth 100000 in
theorem fsckCut_lifted (os : Os) (started : os.Started) (H : Type) (enc : TypeId × Value → H) :
    ReturnsInHanded {} Tryz.checked os 9 .any (Rows.fsckCutSpec.pre6 enc Tryz.prog Tryz.f9 Rows.fsckCutRow.domain false) (Rows.fsckCutSpec.post enc Tryz.prog Tryz.f9 false true false false) := by
  refine returnsInHanded_of_change (C := Tryz.checked) fsckCut_own started (by kernel_rfl) Tryz.func9
    (ChangeSpec.witness6 (enc := enc) (C := Tryz.checked) false ⟨#[], #[.agg #[.int .i64 0, .slice none 0 0], .slice none 0 0], []⟩ 8 (by kernel_rfl) (by kernel_rfl) (by kernel_rfl) (by kernel_rfl)) ?_
  intro W base args ds gs before hval0 hW hcnd _
  have hval : ∀ (j : Nat) t v, Tryz.f9.params[j]? = some t → args[j]? = some v → Value.okWide Tryz.prog W .any base t v := hval0
  have hW' := hW
  obtain ⟨p, q, hA0, hV, rfl, hfz, hnd⟩ := hW
  have hA : DataW.TrodAll enc Tryz.prog W 0 (fun _ => true) true Tryz.f9.params.toList args.toList ds p := hA0
  rw [Tryz.params9] at hA hval
  obtain ⟨v0, v1, d0, d1, p0, p1, rfl, rfl, rfl, h0, h1⟩ := trodAll_two hA
  obtain ⟨rfl, rfl⟩ := trodVars_none hV
  have q0 := hval 0 25 v0 rfl rfl
  obtain ⟨sec0, sp0, hP0⟩ := pic_of q0 h0
  have q1 := hval 1 32 v1 rfl rfl
  obtain ⟨l1, hL1⟩ := irow_of q1 h1
  simp only [List.append_nil] at hW'
  refine (fsckCut_any hP0 hL1).mono fun e W' ⟨he, hg⟩ => ⟨_, he, ?_⟩
  exact post_law (T := 4) fsckCut_laid hW' rfl rfl rfl rfl (by kernel_rfl) (by kernel_rfl) Tryz.underlying4 hg

theorem fsckCut_holds : Rows.FsckCutSaid :=
  OpenClaim.holds_of_wide 9 Tryz.f9 rfl rfl rfl rfl rfl rfl rfl ⟨rfl, rfl, rfl, rfl, rfl⟩ rfl rfl rfl rfl rfl (by kernel_rfl) Tryz.func9 (by kernel_rfl)
    (of_decide_eq_true (by kernel_rfl)) (by unfold Func.isWrapper; rw [if_neg (of_decide_eq_false (by kernel_rfl))]; exact ⟨rfl, rfl⟩)
    (fun os started H enc _ => fsckCut_lifted os started H enc)

#print axioms fsckCut_holds
end Go.Proofs.YtmnecpnkkapflaaGreat
