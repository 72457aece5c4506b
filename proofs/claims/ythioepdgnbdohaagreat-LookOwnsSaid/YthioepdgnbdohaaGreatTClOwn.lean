/- The statement Rows.LookOwnsSaid is proved: for every two lists of sectors: the list that is handed in stays and is not kept,and the lists of all reports are their owner's; no conditions. -/
import Derived.SizedLaws
import Derived.Lib.SmallJoins
import Derived.JoinedOf
import Derived.JoinedAt
import Derived.Test.YthioepdgnbdohaaGreatM04
import Derived.Test.YthioepdgnbdohaaGreatM17
namespace Go.Proofs.YthioepdgnbdohaaGreat
set_option linter.unusedSimpArgs false
set_option linter.unusedVariables false
open Go.ChangeShapes Go.WideShapes Go.ChangeAt Go.RowKit

theorem U9 : ownKnob Tryz.prog.godebug = none := by kernel_rfl
theorem Tg : laidOutB Tryz.prog = true := by kernel_rfl

set_option maxRecDepth 100000 in
theorem Px (os : Os) (started : os.Started) (H : Type) (enc : TypeId × Value -> H) :
    ReturnsInHanded {} Tryz.checked os 4 .any (Rows.lookOwnsSpec.pre6 enc Tryz.prog Tryz.f4 Rows.lookOwnsRow.domain false) (Rows.lookOwnsSpec.post enc Tryz.prog Tryz.f4 false true false false) := by
  refine returnsInHanded_of_change_sized (C := Tryz.checked) U9 started (by kernel_rfl) Tryz.func4
    (ChangeSpec.witness6 (enc := enc) (C := Tryz.checked) false ⟨#[], #[.slice none 0 0,.slice none 0 0],[]⟩ 8 (by kernel_rfl) (by kernel_rfl) (by kernel_rfl) (by kernel_rfl)) ?_
  intro W base args ds gs before hval0 hW hcnd hsz0 _;have hval : ∀ (j : Nat) t v,Tryz.f4.params[j]? = some t -> args[j]? = some v -> Value.okWide Tryz.prog W .any base t v := hval0;have hW' := hW;obtain ⟨p,q,hA0,hV,rfl,hfz,hnd⟩ := hW;have hA : DataW.TrodAll enc Tryz.prog W 0 (fun _ => true) true Tryz.f4.params.toList args.toList ds p := hA0;rw [Tryz.params4] at hA hval;obtain ⟨v0,v1,d0,d1,p0,p1,rfl,rfl,rfl,h0,h1⟩ := trodAll_two hA;obtain ⟨rfl,rfl⟩ := trodVars_none hV;have q0 := hval 0 22 v0 rfl rfl;obtain ⟨N0,S0,hI0⟩ := gL q0 h0;have hB0 := Ty h0 hI0 hsz0 (j := 0) rfl rfl;have q1 := hval 1 22 v1 rfl rfl;obtain ⟨N1,S1,hI1⟩ := gL q1 h1;have hB1 := Ty h1 hI1 hsz0 (j := 1) rfl rfl;simp only [List.append_nil] at hW';refine (U8 hI0.zero hI1.zero hB0 hB1).mono fun e W' ⟨he,hg⟩ => ⟨_,he,?_⟩
  exact iI (T := 4) Tg hW' rfl rfl rfl rfl (by kernel_rfl) (by kernel_rfl) Tryz.underlying4 hg

theorem lookOwns_holds : Rows.LookOwnsSaid :=
  OpenClaim.holds_of_wide 4 Tryz.f4 rfl rfl rfl rfl rfl rfl rfl ⟨rfl,rfl,rfl,rfl,rfl⟩ rfl rfl rfl rfl rfl (by kernel_rfl) Tryz.func4 (by kernel_rfl)
    (of_decide_eq_true (by kernel_rfl)) (by unfold Func.isWrapper; rw [if_neg (of_decide_eq_false (by kernel_rfl))]; exact ⟨rfl,rfl⟩)
    (fun os started H enc _ => Px os started H enc)

#print axioms lookOwns_holds
end Go.Proofs.YthioepdgnbdohaaGreat
