/- The statement Rows.LayoutTurnedSaid is proved: for every thing of each kind, every place and every mask a sector with one byte turned is read as another thing or as none; no conditions. -/
import Derived.Test.YthgiolofnkdfoaaLawTrn
import Derived.Test.YthgiolofnkdfoaaOp1
import Derived.SizedLaws
import Derived.Lib.SmallJoins
import Derived.Test.YthgiolofnkdfoaaOp2
import Derived.JoinedOf
import Derived.JoinedAt
namespace Go.Proofs.Ythgiolofnkdfoaa
set_option linter.unusedSimpArgs false
set_option linter.unusedVariables false
open Go.ChangeShapes Go.WideShapes Go.ChangeAt Go.RowKit

theorem layoutTurned_own : ownKnob Try.prog.godebug = none := by kernel_rfl
theorem layoutTurned_laid : laidOutB Try.prog = true := by kernel_rfl

set_option maxRecDepth 100000 in
theorem layoutTurned_lifted (os : Os) (started : os.Started) (H : Type) (enc : TypeId × Value → H) :
    ReturnsInHanded {} Try.checked os 10 .any (Rows.layoutTurnedSpec.pre6 enc Try.prog Try.f10 Rows.layoutTurnedRow.domain false) (Rows.layoutTurnedSpec.post enc Try.prog Try.f10 false true false false) := by
  refine returnsInHanded_of_change (C := Try.checked) layoutTurned_own started (by kernel_rfl) Try.func10
    (ChangeSpec.witness6 (enc := enc) (C := Try.checked) false ⟨#[], #[.agg (IV .i64 (zl 53) ++ #[.string { data := #[] }]), .int .i64 0, .int .u8 0], []⟩ 8 (by kernel_rfl) (by kernel_rfl) (by kernel_rfl) (by kernel_rfl)) ?_
  intro W base args ds gs before hval0 hW hcnd _
  have hval : ∀ (j : Nat) t v, Try.f10.params[j]? = some t → args[j]? = some v → Value.okWide Try.prog W .any base t v := hval0
  have hW' := hW
  obtain ⟨p, q, hA0, hV, rfl, hfz, hnd⟩ := hW
  have hA : DataW.TrodAll enc Try.prog W 0 (fun _ => true) true Try.f10.params.toList args.toList ds p := hA0
  rw [Try.params10] at hA hval
  obtain ⟨v0, v1, v2, d0, d1, d2, p0, p1, p2, rfl, rfl, rfl, h0, h1, h2⟩ := trodAll_three hA
  obtain ⟨rfl, rfl⟩ := trodVars_none hV
  have q0 := hval 0 54 v0 rfl rfl
  simp only [Value.okWide, Try.underlying54] at q0
  obtain ⟨l0, nm, rfl, hl0, hw0, hnm⟩ := open_IVS (n := 53) Try.underlying3 Try.underlying9 (by kernel_rfl) (by kernel_rfl) q0
  obtain ⟨x, y, li, lp, i, ethi, hli, hlp, hx, hy⟩ := things_of nm hl0 hw0
  have q1 := hval 1 3 v1 rfl rfl
  obtain ⟨x1, rfl, -, -, hw1⟩ := open_int Try.underlying3 q1 h1
  have q2 := hval 2 5 v2 rfl rfl
  obtain ⟨x2, rfl, -, -, hw2⟩ := open_int Try.underlying5 q2 h2
  simp only [List.append_nil] at hW'
  have hcall := layoutTurned_any x y li lp i nm x1 x2 W hx hy hli hlp hw1 hw2
  rw [← ethi] at hcall
  refine (hcall).mono fun e W' ⟨he, hg⟩ => ⟨_, he, ?_⟩
  exact post_law (T := 4) layoutTurned_laid hW' rfl rfl rfl rfl (by kernel_rfl) (by kernel_rfl) Try.underlying4 hg

theorem layoutTurned_holds : Rows.LayoutTurnedSaid :=
  OpenClaim.holds_of_wide 10 Try.f10 rfl rfl rfl rfl rfl rfl rfl ⟨rfl, rfl, rfl, rfl, rfl⟩ rfl rfl rfl rfl rfl (by kernel_rfl) Try.func10 (by kernel_rfl)
    (of_decide_eq_true (by kernel_rfl)) (by unfold Func.isWrapper; rw [if_neg (of_decide_eq_false (by kernel_rfl))]; exact ⟨rfl, rfl⟩)
    (fun os started H enc _ => layoutTurned_lifted os started H enc)

#print axioms layoutTurned_holds
end Go.Proofs.Ythgiolofnkdfoaa
