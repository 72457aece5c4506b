/- The statement Rows.PlainBackCardSaid is proved: what is made, linked or renamed and then taken back leaves everything that is listed as it was; the card is tied to the pruned copy of the program. -/
import Derived.Test.YteffoihkljkfdaaDoorTie
import Derived.Test.YteffoihkljkfdaaDoorCards
import Derived.Test.YteffoihkljkfdaaDoorM10
import Derived.Test.YteffoihkljkfdaaDoorM11
namespace Go.Proofs.YteffoihkljkfdaaDoor
set_option linter.unusedSimpArgs false
set_option linter.unusedVariables false
open Go.ChangeShapes Go.WideShapes Go.ChangeAt Go.RowKit
open Go.ChangeMaps (open_string)

set_option maxRecDepth 100000 in
theorem plainBack_lifted (os : Os) (started : os.Started) (H : Type) (enc : TypeId × Value → H) :
    ReturnsInHanded {} Tryd.checked os 7 .any (fun w args => (Rows.plainBackSpec.pre enc Tryd.prog Tryd.f7 Rows.plainBackRow.domain false w args ∧ laidMetH Tryd.prog laidL w) ∧ sizedMet enc Tryd.prog Tryd.f7 (OpenSpec.ofChange Rows.plainBackSpec) false w args)
      (Rows.plainBackSpec.post enc Tryd.prog Tryd.f7 false true false false) := by
  refine handed_shaped_and (C := Tryd.checked) (X := fun w _ => laidMetH Tryd.prog laidL w) own started (by kernel_rfl) Tryd.func7
    (ChangeSpec.witness_shaped (enc := enc) (C := Tryd.checked) (os := os) (X := fun w _ => laidMetH Tryd.prog laidL w) false (World.laidAll Tryd.prog os laidL) #[.int .i64 0, .slice none 0 0, .agg #[.int .i64 0, .int .i64 0, .int .i64 0, .int .i64 0, .int .i64 0, .slice none 0 0]] 8 (World.laidAll_os _ _ _)
      (World.shaped_of_ZipB (by kernel_rfl) (by kernel_rfl)) (by kernel_rfl) (by kernel_rfl) (by kernel_rfl)
      (by rw [MakeChecks.laidMetH_plain _ _ _ (by kernel_rfl)]; exact laidMet_laidAll _ (by kernel_rfl) (by kernel_rfl))) ?_
  intro W base args ds gs before hval0 hW hsz0 hsh
  have hval : ∀ (j : Nat) t v, Tryd.f7.params[j]? = some t → args[j]? = some v → Value.okWide Tryd.prog W .any base t v := hval0
  have hW' := hW
  obtain ⟨p, q, hA0, hV, rfl, hfz, hnd⟩ := hW
  have hA : DataW.TrodAll enc Tryd.prog W 0 (fun _ => true) true Tryd.f7.params.toList args.toList ds p := hA0
  rw [Tryd.params7] at hA hval
  obtain ⟨v0, v1, v2, d0, d1, d2, p0, p1, p2, rfl, rfl, rfl, h0, h1, h2⟩ := trodAll_three hA
  obtain ⟨rfl, rfl⟩ := trodVars_none hV
  obtain ⟨m, hm⟩ := max_of hsh
  obtain ⟨n0, rfl, -, -, hw0⟩ := open_int Tryd.underlying3 (hval 0 3 v0 rfl rfl) h0
  obtain ⟨dl, hdl⟩ := deeds_of (hval 1 45 v1 rfl rfl) h1
  obtain ⟨x, qa, qn, qc, rfl, hdk⟩ := deed_of (hval 2 54 v2 rfl rfl) h2
  simp only [List.append_nil] at hW'
  refine (plainBack_any (i64ok_of hw0) hdl hdk hm).mono fun e W' ⟨he, hg⟩ => ⟨_, he, ?_⟩
  exact post_law (T := 4) laidOut hW' rfl rfl rfl rfl (by kernel_rfl) (by kernel_rfl) Tryd.underlying4 hg

theorem plainBack_holds : Rows.PlainBackSaid :=
  OpenClaim.holds_of_wide 7 Tryd.f7 rfl rfl rfl rfl rfl rfl rfl ⟨rfl, rfl, rfl, rfl, rfl⟩ rfl rfl rfl rfl rfl (by kernel_rfl) Tryd.func7 (by kernel_rfl)
    (of_decide_eq_true (by kernel_rfl)) (by unfold Func.isWrapper; rw [if_neg (of_decide_eq_false (by kernel_rfl))]; exact ⟨rfl, rfl⟩)
    (fun os started H enc _ => plainBack_lifted os started H enc)

theorem plainBack_card : Rows.PlainBackCardSaid :=
  Claim7.holds_tied_plain_at .later [] [.data, .pinned] true (true, "6500d98ce12c72b63a026778c00b307fdfd51c49811d7e866151e5bf29a9a3dc") true
    plainBack_holds (fun _ h => by cases h) (by kernel_rfl) (fun _ h => by cases h) plainBack_row_tie rfl ⟨rfl, rfl⟩ (by kernel_rfl) rfl
    (fun f fn hf hfn => by
      obtain rfl : f = 7 := Option.some.inj ((show Tryd.prog.funcNamed Rows.plainBackRow.func = some 7 by kernel_rfl).symm.trans hf) |>.symm
      obtain rfl : fn = Tryd.f7 := (Option.some.inj (Tryd.func7.symm.trans hfn)).symm
      exact ⟨by kernel_rfl, fun j t ht => by
        rw [Tryd.params7] at ht
        have hmm : t ∈ [3, 45, 54] := by simpa using Array.mem_of_getElem? ht
        have hall : ([3, 45, 54].all fun u => !Tryd.prog.wantsStandIn u) = true := by kernel_rfl
        exact (show Tryd.prog.wantsStandIn t = false by simpa using List.all_eq_true.1 hall t hmm)⟩)
    (by kernel_rfl)

#print axioms plainBack_card
end Go.Proofs.YteffoihkljkfdaaDoor
