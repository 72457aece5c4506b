/- The statement Rows.LayoutSlotsSaid is proved: for every slot and every sector the sector written and what is read are the document's; no conditions. -/
import Derived.Test.YthgiolofnkdfoaaLawSlo
import Derived.Test.YthgiolofnkdfoaaOp1
import Derived.SizedLaws
import Derived.Lib.SmallJoins
import Derived.JoinedOf
import Derived.JoinedAt
namespace Go.Proofs.Ythgiolofnkdfoaa
set_option linter.unusedSimpArgs false
set_option linter.unusedVariables false
open Go.ChangeShapes Go.WideShapes Go.ChangeAt Go.RowKit

theorem layoutSlots_own : ownKnob Try.prog.godebug = none := by kernel_rfl
theorem layoutSlots_laid : laidOutB Try.prog = true := by kernel_rfl

set_option maxRecDepth 100000 in
theorem layoutSlots_lifted (os : Os) (started : os.Started) (H : Type) (enc : TypeId × Value → H) :
    ReturnsInHanded {} Try.checked os 3 .any (Rows.layoutSlotsSpec.pre6 enc Try.prog Try.f3 Rows.layoutSlotsRow.domain false) (Rows.layoutSlotsSpec.post enc Try.prog Try.f3 false true false false) := by
  refine returnsInHanded_of_change_sized (C := Try.checked) layoutSlots_own started (by kernel_rfl) Try.func3
    (ChangeSpec.witness6 (enc := enc) (C := Try.checked) false ⟨#[], #[.agg #[.int .i64 0, .string { data := #[] }], .agg (IV .u8 (zl 128))], []⟩ 8 (by kernel_rfl) (by kernel_rfl) (by kernel_rfl) (by kernel_rfl)) ?_
  intro W base args ds gs before hval0 hW hcnd hsz0 _
  have hval : ∀ (j : Nat) t v, Try.f3.params[j]? = some t → args[j]? = some v → Value.okWide Try.prog W .any base t v := hval0
  have hW' := hW
  obtain ⟨p, q, hA0, hV, rfl, hfz, hnd⟩ := hW
  have hA : DataW.TrodAll enc Try.prog W 0 (fun _ => true) true Try.f3.params.toList args.toList ds p := hA0
  rw [Try.params3] at hA hval
  obtain ⟨v0, v1, d0, d1, p0, p1, rfl, rfl, rfl, h0, h1⟩ := trodAll_two hA
  obtain ⟨rfl, rfl⟩ := trodVars_none hV
  obtain ⟨c0, c1, y0, y1, m, rfl, rfl, rfl, hy0, hy1⟩ := Joins.open_agg2 Try.underlying23 (by kernel_rfl) (by kernel_rfl) (hval 0 23 v0 rfl rfl) h0
  obtain ⟨a0, e0, rfl, wa⟩ := DataW.trod_int Try.underlying3 hy0
  obtain ⟨nm, e1, rfl, wb⟩ := DataW.trod_string Try.underlying9 hy1
  simp only [List.cons.injEq, and_true] at e0 e1
  subst e0 e1
  have q1 := hval 1 25 v1 rfl rfl
  simp only [Value.okWide, Try.underlying25] at q1
  obtain ⟨l1, rfl, hl1, hw1⟩ := open_IV (n := 128) Try.underlying5 (by kernel_rfl) (by kernel_rfl) q1
  have hsz : (DataW.weightsEach Try.prog ([23, 25] ++ Rows.layoutSlotsSpec.plain.varTypes Try.prog) ([DataW.agg [.lit (.int .i64 a0), .lit (.string nm.data.toList)], d1] ++ [])).all (fun x => decide (x ≤ reachBytes)) = true := hsz0
  have hn : nm.size < 4611686018427387904 := by
    simp only [List.cons_append, List.nil_append, DataW.weightsEach, DataW.weights, Try.underlying23, List.map_cons, List.map_nil, List.all_append, List.all_cons, Bool.and_eq_true, decide_eq_true_eq, len_data] at hsz
    exact Nat.lt_of_le_of_lt hsz.1 (by decide)
  simp only [List.append_nil] at hW'
  refine (layoutSlots_any a0 nm l1 W hn hl1 (ints_bytes hw1)).mono fun e W' ⟨he, hg⟩ => ⟨_, he, ?_⟩
  exact post_law (T := 4) layoutSlots_laid hW' rfl rfl rfl rfl (by kernel_rfl) (by kernel_rfl) Try.underlying4 hg

theorem layoutSlots_holds : Rows.LayoutSlotsSaid :=
  OpenClaim.holds_of_wide 3 Try.f3 rfl rfl rfl rfl rfl rfl rfl ⟨rfl, rfl, rfl, rfl, rfl⟩ rfl rfl rfl rfl rfl (by kernel_rfl) Try.func3 (by kernel_rfl)
    (of_decide_eq_true (by kernel_rfl)) (by unfold Func.isWrapper; rw [if_neg (of_decide_eq_false (by kernel_rfl))]; exact ⟨rfl, rfl⟩)
    (fun os started H enc _ => layoutSlots_lifted os started H enc)

#print axioms layoutSlots_holds
end Go.Proofs.Ythgiolofnkdfoaa
