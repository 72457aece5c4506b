/- The statement Rows.PathRefusesCardSaid is proved: one thing that may not be in a list of names or in a text is told; the card is tied to the pruned copy of the program. -/
import Derived.Test.YtkhpifjhnkknbaaDoorLawRef
import Derived.Test.YtkhpifjhnkknbaaDoorOpp
import Derived.Test.YtkhpifjhnkknbaaDoorArg
import Derived.Test.YtkhpifjhnkknbaaDoorTie
import Derived.Test.YtkhpifjhnkknbaaDoorCards
namespace Go.Proofs.YtkhpifjhnkknbaaDoor
set_option linter.unusedSimpArgs false
set_option linter.unusedVariables false
open Go.ChangeShapes Go.WideShapes Go.ChangeAt Go.RowKit
open Go.ChangeMaps (open_string)

set_option maxRecDepth 100000 in
theorem pathRefuses_lifted (os : Os) (started : os.Started) (H : Type) (enc : TypeId × Value → H) :
    ReturnsInHanded {} Tryd.checked os 9 .any (fun w args => (Rows.pathRefusesSpec.pre enc Tryd.prog Tryd.f9 Rows.pathRefusesRow.domain false w args ∧ laidMetH Tryd.prog laidL w) ∧ sizedMet enc Tryd.prog Tryd.f9 (OpenSpec.ofChange Rows.pathRefusesSpec) false w args)
      (Rows.pathRefusesSpec.post enc Tryd.prog Tryd.f9 false true false false) := by
  refine handed_shaped_and (C := Tryd.checked) (X := fun w _ => laidMetH Tryd.prog laidL w) own started (by kernel_rfl) Tryd.func9
    (ChangeSpec.witness_shaped (enc := enc) (C := Tryd.checked) (os := os) (X := fun w _ => laidMetH Tryd.prog laidL w) false (World.laidAll Tryd.prog os laidL) #[.slice none 0 0, .int .i64 0, .int .i64 0] 8 (World.laidAll_os _ _ _)
      (World.shaped_of_ZipB (by kernel_rfl) (by kernel_rfl)) (by kernel_rfl) (by kernel_rfl) (by kernel_rfl)
      (by rw [MakeChecks.laidMetH_plain _ _ _ (by kernel_rfl)]; exact laidMet_laidAll _ (by kernel_rfl) (by kernel_rfl))) ?_
  intro W base args ds gs before hval0 hW hsz0 hsh
  have hval : ∀ (j : Nat) t v, Tryd.f9.params[j]? = some t → args[j]? = some v → Value.okWide Tryd.prog W .any base t v := hval0
  have hW' := hW
  obtain ⟨p, q, hA0, hV, rfl, hfz, hnd⟩ := hW
  have hA : DataW.TrodAll enc Tryd.prog W 0 (fun _ => true) true Tryd.f9.params.toList args.toList ds p := hA0
  rw [Tryd.params9] at hA hval
  obtain ⟨v0, v1, v2, d0, d1, d2, p0, p1, p2, rfl, rfl, rfl, h0, h1, h2⟩ := trodAll_three hA
  obtain ⟨rfl, rfl⟩ := trodVars_none hV
  obtain ⟨m, hm⟩ := max_of hsh
  have hsz : (DataW.weightsEach Tryd.prog ([25, 3, 3] ++ Rows.pathRefusesSpec.plain.varTypes Tryd.prog) ([d0, d1, d2] ++ [])).all (fun x => decide (x ≤ reachBytes)) = true := hsz0
  simp only [List.cons_append, List.nil_append, DataW.weightsEach, List.all_append, Bool.and_eq_true] at hsz
  obtain ⟨la, ha⟩ := arg_of (hval 0 25 v0 rfl rfl) h0 hsz.1
  obtain ⟨n1, rfl, -, -, hw1⟩ := open_int Tryd.underlying3 (hval 1 3 v1 rfl rfl) h1
  obtain ⟨n2, rfl, -, -, hw2⟩ := open_int Tryd.underlying3 (hval 2 3 v2 rfl rfl) h2
  simp [Lit.wf, IntKind.min, IntKind.max, IntKind.signed, IntKind.bits] at hw1 hw2
  simp only [List.append_nil] at hW'
  refine (pathRefuses_any _ la n1 n2 m W hm ha hw1.1 hw1.2 hw2.1 hw2.2).mono fun e W' ⟨he, hg⟩ => ⟨_, he, ?_⟩
  exact post_law (T := 4) laidOut hW' rfl rfl rfl rfl (by kernel_rfl) (by kernel_rfl) Tryd.underlying4 hg

theorem pathRefuses_holds : Rows.PathRefusesSaid :=
  OpenClaim.holds_of_wide 9 Tryd.f9 rfl rfl rfl rfl rfl rfl rfl ⟨rfl, rfl, rfl, rfl, rfl⟩ rfl rfl rfl rfl rfl (by kernel_rfl) Tryd.func9 (by kernel_rfl)
    (of_decide_eq_true (by kernel_rfl)) (by unfold Func.isWrapper; rw [if_neg (of_decide_eq_false (by kernel_rfl))]; exact ⟨rfl, rfl⟩)
    (fun os started H enc _ => pathRefuses_lifted os started H enc)

theorem pathRefuses_card : Rows.PathRefusesCardSaid :=
  Claim7.holds_tied_plain_at .later [] [.data, .pinned] true (true, "ed466fa0af40fe2d2d19c2ac8f57de2d346d026336482c78e76cc0e9d429e15d") false
    pathRefuses_holds (fun _ h => by cases h) (by kernel_rfl) (fun _ h => by cases h) pathRefuses_row_tie rfl ⟨rfl, rfl⟩ (by kernel_rfl) rfl
    (fun f fn hf hfn => by
      obtain rfl : f = 9 := Option.some.inj ((show Tryd.prog.funcNamed Rows.pathRefusesRow.func = some 9 by kernel_rfl).symm.trans hf) |>.symm
      obtain rfl : fn = Tryd.f9 := (Option.some.inj (Tryd.func9.symm.trans hfn)).symm
      exact ⟨by kernel_rfl, fun j t ht => by
        rw [Tryd.params9] at ht
        have hmm : t ∈ [25, 3, 3] := by simpa using Array.mem_of_getElem? ht
        have hall : ([25, 3, 3].all fun u => !Tryd.prog.wantsStandIn u) = true := by kernel_rfl
        exact (show Tryd.prog.wantsStandIn t = false by simpa using List.all_eq_true.1 hall t hmm)⟩)
    (by kernel_rfl)

#print axioms pathRefuses_card
end Go.Proofs.YtkhpifjhnkknbaaDoor
