/- The statement Rows.PathTellsCardSaid is proved: any texts, and each beginning and end of the first one, are names and paths as the document has them; the card is tied to the pruned copy of the program. -/
import Derived.Test.YtkhpifjhnkknbaaDoorLawTel
import Derived.Test.YtkhpifjhnkknbaaDoorOpp
import Derived.Test.YtkhpifjhnkknbaaDoorArg
import Derived.Test.YtkhpifjhnkknbaaDoorTie
import Derived.Test.YtkhpifjhnkknbaaDoorCards
namespace Go.Proofs.YtkhpifjhnkknbaaDoor
set_option linter.unusedSimpArgs false
set_option linter.unusedVariables false
open Go.ChangeShapes Go.WideShapes Go.ChangeAt Go.RowKit
open Go.ChangeMaps (open_string)

set_option maxRecDepth 100000 in
theorem pathTells_lifted (os : Os) (started : os.Started) (H : Type) (enc : TypeId × Value → H) :
    ReturnsInHanded {} Tryd.checked os 4 .any (fun w args => (Rows.pathTellsSpec.pre enc Tryd.prog Tryd.f4 Rows.pathTellsRow.domain false w args ∧ laidMetH Tryd.prog laidL w) ∧ sizedMet enc Tryd.prog Tryd.f4 (OpenSpec.ofChange Rows.pathTellsSpec) false w args)
      (Rows.pathTellsSpec.post enc Tryd.prog Tryd.f4 false true false false) := by
  refine handed_shaped_and (C := Tryd.checked) (X := fun w _ => laidMetH Tryd.prog laidL w) own started (by kernel_rfl) Tryd.func4
    (ChangeSpec.witness_shaped (enc := enc) (C := Tryd.checked) (os := os) (X := fun w _ => laidMetH Tryd.prog laidL w) false (World.laidAll Tryd.prog os laidL) #[.string { data := #[] }, .string { data := #[] }] 8 (World.laidAll_os _ _ _)
      (World.shaped_of_ZipB (by kernel_rfl) (by kernel_rfl)) (by kernel_rfl) (by kernel_rfl) (by kernel_rfl)
      (by rw [MakeChecks.laidMetH_plain _ _ _ (by kernel_rfl)]; exact laidMet_laidAll _ (by kernel_rfl) (by kernel_rfl))) ?_
  intro W base args ds gs before hval0 hW hsz0 hsh
  have hval : ∀ (j : Nat) t v, Tryd.f4.params[j]? = some t → args[j]? = some v → Value.okWide Tryd.prog W .any base t v := hval0
  have hW' := hW
  obtain ⟨p, q, hA0, hV, rfl, hfz, hnd⟩ := hW
  have hA : DataW.TrodAll enc Tryd.prog W 0 (fun _ => true) true Tryd.f4.params.toList args.toList ds p := hA0
  rw [Tryd.params4] at hA hval
  obtain ⟨v0, v1, d0, d1, p0, p1, rfl, rfl, rfl, h0, h1⟩ := trodAll_two hA
  obtain ⟨rfl, rfl⟩ := trodVars_none hV
  obtain ⟨m, hm⟩ := max_of hsh
  obtain ⟨a0, rfl, rfl, rfl, hs0⟩ := open_string Tryd.underlying9 (hval 0 9 v0 rfl rfl) h0
  obtain ⟨a1, rfl, rfl, rfl, hs1⟩ := open_string Tryd.underlying9 (hval 1 9 v1 rfl rfl) h1
  have hsz : (DataW.weightsEach Tryd.prog ([9, 9] ++ Rows.pathTellsSpec.plain.varTypes Tryd.prog) ([.lit (.string a0.data.toList), .lit (.string a1.data.toList)] ++ ([] : List (DataW H)))).all (fun x => decide (x ≤ reachBytes)) = true := hsz0
  simp only [List.cons_append, List.nil_append, DataW.weightsEach, DataW.weights, List.all_append, List.all_cons, Bool.and_eq_true, decide_eq_true_eq, len_data] at hsz
  have hr : reachBytes ≤ 140737488355328 := by decide
  simp only [List.append_nil] at hW'
  refine (pathTells_any a0 a1 m W hm (by have := hsz.1; omega) (by have := hsz.2.1; omega)).mono fun e W' ⟨he, hg⟩ => ⟨_, he, ?_⟩
  exact post_law (T := 4) laidOut hW' rfl rfl rfl rfl (by kernel_rfl) (by kernel_rfl) Tryd.underlying4 hg

theorem pathTells_holds : Rows.PathTellsSaid :=
  OpenClaim.holds_of_wide 4 Tryd.f4 rfl rfl rfl rfl rfl rfl rfl ⟨rfl, rfl, rfl, rfl, rfl⟩ rfl rfl rfl rfl rfl (by kernel_rfl) Tryd.func4 (by kernel_rfl)
    (of_decide_eq_true (by kernel_rfl)) (by unfold Func.isWrapper; rw [if_neg (of_decide_eq_false (by kernel_rfl))]; exact ⟨rfl, rfl⟩)
    (fun os started H enc _ => pathTells_lifted os started H enc)

theorem pathTells_card : Rows.PathTellsCardSaid :=
  Claim7.holds_tied_plain_at .later [] [.data, .pinned] true (true, "ed466fa0af40fe2d2d19c2ac8f57de2d346d026336482c78e76cc0e9d429e15d") false
    pathTells_holds (fun _ h => by cases h) (by kernel_rfl) (fun _ h => by cases h) pathTells_row_tie rfl ⟨rfl, rfl⟩ (by kernel_rfl) rfl
    (fun f fn hf hfn => by
      obtain rfl : f = 4 := Option.some.inj ((show Tryd.prog.funcNamed Rows.pathTellsRow.func = some 4 by kernel_rfl).symm.trans hf) |>.symm
      obtain rfl : fn = Tryd.f4 := (Option.some.inj (Tryd.func4.symm.trans hfn)).symm
      exact ⟨by kernel_rfl, fun j t ht => by
        rw [Tryd.params4] at ht
        have hmm : t ∈ [9, 9] := by simpa using Array.mem_of_getElem? ht
        have hall : ([9, 9].all fun u => !Tryd.prog.wantsStandIn u) = true := by kernel_rfl
        exact (show Tryd.prog.wantsStandIn t = false by simpa using List.all_eq_true.1 hall t hmm)⟩)
    (by kernel_rfl)

#print axioms pathTells_card
end Go.Proofs.YtkhpifjhnkknbaaDoor
