/- The statement Rows.LayoutBackSaid is proved: for every super, inode, pointers and slot what is written is read back as it was, and what is refused is told by no sector; no conditions. -/
import Derived.Test.YthgiolofnkdfoaaLawBck
import Derived.Test.YthgiolofnkdfoaaOp1
import Derived.SizedLaws
import Derived.Lib.SmallJoins
import Derived.Test.YthgiolofnkdfoaaOp2
import Derived.JoinedOf
import Derived.JoinedAt
namespace Go.Proofs.Ythgiolofnkdfoaa
set_option linter.unusedSimpArgs false
set_option linter.unusedVariables false
open Go.ChangeShapes Go.WideShapes Go.ChangeAt Go.RowKit

theorem layoutBack_own : ownKnob Try.prog.godebug = none := by kernel_rfl
theorem layoutBack_laid : laidOutB Try.prog = true := by kernel_rfl

set_option maxRecDepth 100000 in
theorem layoutBack_lifted (os : Os) (started : os.Started) (H : Type) (enc : TypeId × Value → H) :
    ReturnsInHanded {} Try.checked os 8 .any (Rows.layoutBackSpec.pre6 enc Try.prog Try.f8 Rows.layoutBackRow.domain false) (Rows.layoutBackSpec.post enc Try.prog Try.f8 false true false false) := by
  refine returnsInHanded_of_change (C := Try.checked) layoutBack_own started (by kernel_rfl) Try.func8
    (ChangeSpec.witness6 (enc := enc) (C := Try.checked) false ⟨#[], #[.agg (IV .i64 (zl 53) ++ #[.string { data := #[] }])], []⟩ 8 (by kernel_rfl) (by kernel_rfl) (by kernel_rfl) (by kernel_rfl)) ?_
  intro W base args ds gs before hval0 hW hcnd _
  have hval : ∀ (j : Nat) t v, Try.f8.params[j]? = some t → args[j]? = some v → Value.okWide Try.prog W .any base t v := hval0
  have hW' := hW
  obtain ⟨p, q, hA0, hV, rfl, hfz, hnd⟩ := hW
  have hA : DataW.TrodAll enc Try.prog W 0 (fun _ => true) true Try.f8.params.toList args.toList ds p := hA0
  rw [Try.params8] at hA hval
  obtain ⟨v0, d0, rfl, rfl, h0⟩ := trodAll_one hA
  obtain ⟨rfl, rfl⟩ := trodVars_none hV
  have q0 := hval 0 54 v0 rfl rfl
  simp only [Value.okWide, Try.underlying54] at q0
  obtain ⟨l0, nm, rfl, hl0, hw0, hnm⟩ := open_IVS (n := 53) Try.underlying3 Try.underlying9 (by kernel_rfl) (by kernel_rfl) q0
  obtain ⟨x, y, li, lp, i, ethi, hli, hlp, hx, hy⟩ := things_of nm hl0 hw0
  simp only [List.append_nil] at hW'
  have hcall := layoutBack_any x y li lp i nm W hx hy hli hlp
  rw [← ethi] at hcall
  refine (hcall).mono fun e W' ⟨he, hg⟩ => ⟨_, he, ?_⟩
  exact post_law (T := 4) layoutBack_laid hW' rfl rfl rfl rfl (by kernel_rfl) (by kernel_rfl) Try.underlying4 hg

theorem layoutBack_holds : Rows.LayoutBackSaid :=
  OpenClaim.holds_of_wide 8 Try.f8 rfl rfl rfl rfl rfl rfl rfl ⟨rfl, rfl, rfl, rfl, rfl⟩ rfl rfl rfl rfl rfl (by kernel_rfl) Try.func8 (by kernel_rfl)
    (of_decide_eq_true (by kernel_rfl)) (by unfold Func.isWrapper; rw [if_neg (of_decide_eq_false (by kernel_rfl))]; exact ⟨rfl, rfl⟩)
    (fun os started H enc _ => layoutBack_lifted os started H enc)

#print axioms layoutBack_holds
end Go.Proofs.Ythgiolofnkdfoaa
