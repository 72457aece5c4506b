/- The statement Rows.PathOneFormUptoCardSaid is proved: a text that is a path is its names' path, where what it reads is of bulk at most 1048576; the card is tied to the pruned copy of the program. -/
import Derived.Test.YtkhpifjhnkknbaaDoorLawOnf
import Derived.Test.YtkhpifjhnkknbaaDoorOpp
import Derived.Deep.DeepHandedRow
import Derived.Test.YtkhpifjhnkknbaaDoorTie
import Derived.Test.YtkhpifjhnkknbaaDoorCards
namespace Go.Proofs.YtkhpifjhnkknbaaDoor
set_option linter.unusedSimpArgs false
set_option linter.unusedVariables false
open Go.ChangeShapes Go.WideShapes Go.ChangeAt Go.RowKit
open Go.ChangeMaps (open_string)

theorem pathOneForm_laid (os : Os) : laidMet Tryd.prog Rows.pathOneFormUptoRow.laid ((World.laidAll Tryd.prog os laidL).forCall (fun _ _ => 0) ⟨#[], #[.string { data := #[] }], []⟩).memory := laidMet_laidAll _ (by kernel_rfl) (by kernel_rfl)
theorem pathOneForm_reads (os : Os) {H : Type} (enc : TypeId × Value → H) : ∃ places, DataW.whole enc Tryd.prog ((World.laidAll Tryd.prog os laidL).forCall (fun _ _ => 0) ⟨#[], #[.string { data := #[] }], []⟩).memory Tryd.f7.params.toList Rows.pathOneFormSpec.vars false (#[.string { data := #[] }] : Array Value).toList 8 = some ([.lit (.string [])], [], places) :=
  ⟨[], by kernel_rfl⟩

set_option maxRecDepth 100000 in
theorem pathOneForm_lifted (os : Os) (started : os.Started) (H : Type) (enc : TypeId × Value → H) (F : Stop.Interp) :
    ReturnsInHanded {} Tryd.checked os 7 .any ((Rows.OpenSpec.upto Rows.pathOneFormSpec).preRow enc Tryd.prog Tryd.f7 Rows.pathOneFormUptoRow.domain false Rows.pathOneFormUptoRow.laid)
      (((Rows.OpenSpec.upto Rows.pathOneFormSpec).at F).post enc Tryd.prog Tryd.f7 false true false false) := by
  obtain ⟨places, hx⟩ := pathOneForm_reads os enc
  refine returnsInHanded_of_row (C := Tryd.checked) (s := Rows.OpenSpec.upto Rows.pathOneFormSpec) own started (by kernel_rfl) Tryd.func7
    (witness_row_at (enc := enc) (C := Tryd.checked) false (World.laidAll Tryd.prog os laidL) #[.string { data := #[] }] (World.laidAll_os _ _ _) (by kernel_rfl) (by kernel_rfl) (by kernel_rfl)
      (OpenSpec.preRow_of_cond 8 hx (by kernel_rfl) (fun k hk => by cases hk; kernel_rfl) (by kernel_rfl) (pathOneForm_laid os))) ?_
  intro W base args ds gs before hval0 hW _ hcond hsz0 _ hsh _
  have hval : ∀ (j : Nat) t v, Tryd.f7.params[j]? = some t → args[j]? = some v → Value.okWide Tryd.prog W .any base t v := hval0
  have hW1 : DataW.Whole enc Tryd.prog Tryd.f7.params.toList Rows.pathOneFormSpec.vars false W args.toList ds gs before := hW
  clear hW
  have hW := hW1
  have hW' := hW1
  clear hW1
  obtain ⟨p, q, hA0, hV, rfl, hfz, hnd⟩ := hW
  have hA : DataW.TrodAll enc Tryd.prog W 0 (fun _ => true) true Tryd.f7.params.toList args.toList ds p := hA0
  rw [Tryd.params7] at hA hval
  obtain ⟨v0, d0, rfl, rfl, h0⟩ := trodAll_one hA
  obtain ⟨rfl, rfl⟩ := trodVars_none hV
  obtain ⟨m, hm⟩ := max_of hsh
  obtain ⟨s, rfl, rfl, rfl, hs⟩ := open_string Tryd.underlying9 (hval 0 9 v0 rfl rfl) h0
  simp only [List.append_nil] at hW'
  refine (pathOneForm_any s m W hm (by unfold maxLen at hs; omega)).mono fun e W' ⟨he, hg⟩ => ⟨_, he, ?_⟩
  exact post_law (s := Rows.pathOneFormSpec) (T := 4) laidOut hW' rfl rfl rfl rfl (by kernel_rfl) (by kernel_rfl) Tryd.underlying4 hg

theorem pathOneForm_holds : Rows.PathOneFormUptoSaid :=
  OpenClaim.holds_of_cond 7 Tryd.f7 rfl rfl rfl rfl rfl rfl rfl ⟨rfl, rfl, rfl, rfl, rfl⟩ rfl rfl rfl rfl rfl (by kernel_rfl) Tryd.func7 (by kernel_rfl)
    (of_decide_eq_true (by kernel_rfl)) (by unfold Func.isWrapper; rw [if_neg (of_decide_eq_false (by kernel_rfl))]; exact ⟨rfl, rfl⟩)
    (fun os started H enc _ F => by rw [OpenClaim.pre_eq_preRow]; exact pathOneForm_lifted os started H enc F)

theorem pathOneForm_card : Rows.PathOneFormUptoCardSaid :=
  Claim7.holds_tied_plain_at .later [] [.data, .pinned] true (true, "ed466fa0af40fe2d2d19c2ac8f57de2d346d026336482c78e76cc0e9d429e15d") false
    pathOneForm_holds (fun _ h => by cases h) (by kernel_rfl) (fun _ h => by cases h) pathOneFormUpto_row_tie rfl ⟨rfl, rfl⟩ (by kernel_rfl) rfl
    (fun f fn hf hfn => by
      obtain rfl : f = 7 := Option.some.inj ((show Tryd.prog.funcNamed Rows.pathOneFormUptoRow.func = some 7 by kernel_rfl).symm.trans hf) |>.symm
      obtain rfl : fn = Tryd.f7 := (Option.some.inj (Tryd.func7.symm.trans hfn)).symm
      exact ⟨by kernel_rfl, fun j t ht => by
        rw [Tryd.params7] at ht
        have hmm : t ∈ [9] := by simpa using Array.mem_of_getElem? ht
        have hall : ([9].all fun u => !Tryd.prog.wantsStandIn u) = true := by kernel_rfl
        exact (show Tryd.prog.wantsStandIn t = false by simpa using List.all_eq_true.1 hall t hmm)⟩)
    (by kernel_rfl)

#print axioms pathOneForm_card
end Go.Proofs.YtkhpifjhnkknbaaDoor
