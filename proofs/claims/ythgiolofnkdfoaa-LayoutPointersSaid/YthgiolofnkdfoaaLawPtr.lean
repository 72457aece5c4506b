/- Pointers both ways: the law's walk. -/
import Derived.Test.YthgiolofnkdfoaaUni
import Derived.Test.YthgiolofnkdfoaaRgg
namespace Go.Proofs.Ythgiolofnkdfoaa
set_option linter.unusedSimpArgs false
set_option linter.unusedVariables false
open Go.RowKit

set_option maxHeartbeats 1000000 in
set_option maxRecDepth 100000 in
theorem layoutPointers_any (x : List Int) (s : List Int) (w : World) (hx : x.length = 32) (hs : s.length = 128) (hb : Bytes s) :
    Calls Try.prog 7 #[.agg (IV .i64 x), .agg (IV .u8 s)] w fun e w' => e = .returned (.bool true) ∧ Below w.heap.size w w' := by
  have HB := Lib.hid hb
  clear hb
  go_enter Try.func7, Try.ntmps7
  go_wp2_with fail
  have hbw := (((Below.refl w.heap.size w).alloc (by simp) (.cells (IV .i64 x) 49)).alloc (by simp) (.cells (IV .u8 s) 25))
  have f1 : hat ((w.alloc (.cells (IV .i64 x) 49)).alloc (.cells (IV .u8 s) 25)) w.heap.size = some (.cells (IV .i64 x) 49) := by simp [go_sem]
  have f2 : hat ((w.alloc (.cells (IV .i64 x) 49)).alloc (.cells (IV .u8 s) 25)) (w.heap.size + 1) = some (.cells (IV .u8 s) 25) := by simp [go_sem]
  generalize ((w.alloc (.cells (IV .i64 x) 49)).alloc (.cells (IV .u8 s) 25)) = w1 at *
  refine (known_true _).mono ?_; rintro e w2 ⟨rfl, hb2⟩
  have hbw := below_call hbw hb2 hbw.size
  obtain ⟨f1, zf1⟩ := hop hb2 f1
  obtain ⟨f2, zf2⟩ := hop hb2 f2
  clear hb2
  go_wp2_with fail
  refine (lptr_any _ hx _).mono ?_; rintro e w3 ⟨rfl, hb2⟩
  have hbw := below_call hbw hb2 hbw.size
  obtain ⟨f1, zf1⟩ := hop hb2 f1
  obtain ⟨f2, zf2⟩ := hop hb2 f2
  clear hb2
  go_wp2_with fail
  have hbw := below_new hbw hbw.size (.cells (IV .u8 (ptrR x).1) 25)
  obtain ⟨f1, zf1⟩ := hopA w3 (.cells (IV .u8 (ptrR x).1) 25) f1
  obtain ⟨f2, zf2⟩ := hopA w3 (.cells (IV .u8 (ptrR x).1) 25) f2
  obtain ⟨f3, zf3⟩ := hopN w3 (.cells (IV .u8 (ptrR x).1) 25)
  generalize w3.alloc (.cells (IV .u8 (ptrR x).1) 25) = w4 at *
  generalize w3.heap.size = gf3 at *
  refine (rptr_any _ hx _).mono ?_; rintro e w5 ⟨rfl, hb2⟩
  have hbw := below_call hbw hb2 hbw.size
  obtain ⟨f1, zf1⟩ := hop hb2 f1
  obtain ⟨f2, zf2⟩ := hop hb2 f2
  obtain ⟨f3, zf3⟩ := hop hb2 f3
  clear hb2
  go_wp2_with fail
  have hbw := below_new hbw hbw.size (.cells (IV .u8 (ptrR x).1) 25)
  obtain ⟨f1, zf1⟩ := hopA w5 (.cells (IV .u8 (ptrR x).1) 25) f1
  obtain ⟨f2, zf2⟩ := hopA w5 (.cells (IV .u8 (ptrR x).1) 25) f2
  obtain ⟨f3, zf3⟩ := hopA w5 (.cells (IV .u8 (ptrR x).1) 25) f3
  obtain ⟨f4, zf4⟩ := hopN w5 (.cells (IV .u8 (ptrR x).1) 25)
  generalize w5.alloc (.cells (IV .u8 (ptrR x).1) 25) = w6 at *
  generalize w5.heap.size = gf4 at *
  refine wp_region_vals (by kernel_rfl) 18 (by decide) rfl (fun i => match i with | 0 => .bool true | 1 => .bool true | 2 => .agg (IV .u8 (ptrR x).1) | 3 => .agg (IV .u8 (ptrR x).1) | 4 => .bool true | 5 => .bool true | 6 => .bool true | 7 => .int .i64 (ptrR x).2 | 8 => .int .i64 (ptrR x).2 | 9 => .bool true | 10 => .bool true | 11 => .bool true | 12 => .agg (IV .u8 s) | 13 => .agg (IV .i64 (rdPtr s)) | 14 => .agg (IV .u8 s) | 15 => .agg (IV .i64 (rdPtr s)) | 16 => .bool true | _ => .bool true) ?_ ?_
  · intro i o hi ho a' w' hB hS hF
    have hi' : i = 0 ∨ i = 1 ∨ i = 2 ∨ i = 3 ∨ i = 4 ∨ i = 5 ∨ i = 6 ∨ i = 7 ∨ i = 8 ∨ i = 9 ∨ i = 10 ∨ i = 11 ∨ i = 12 ∨ i = 13 ∨ i = 14 ∨ i = 15 ∨ i = 16 ∨ i = 17 := by omega
    rcases hi' with rfl | rfl | rfl | rfl | rfl | rfl | rfl | rfl | rfl | rfl | rfl | rfl | rfl | rfl | rfl | rfl | rfl | rfl
    all_goals (have ho' := Option.some.inj ho; subst ho')
    · have e5 : a'.tmps[5]?.getD undef = .bool true := gtx ((hS 5 (by decide)).trans rfl)
      refine wpOp_val_g rfl (wanted_free rfl) (v := .bool true) (w1 := w') ?_ ⟨rfl, hB⟩
      simp [go_sem, e5]
    · have e23 : a'.tmps[23]?.getD undef = .bool true := gtx ((hF 0 (by decide) _ 23 rfl rfl).trans rfl)
      refine wpOp_val_g rfl (wanted_free rfl) (v := .bool true) (w1 := w') ?_ ⟨rfl, hB⟩
      simp [go_sem, e23]
    · exact wpOp_load_row_g 25 128 row25 (.tmp 6) rfl (wanted_of (j := 1) (d := 24) (b := true) rfl rfl rfl ((hF 1 (by decide) _ 24 rfl rfl).trans rfl)) rfl _ _ ((hS 6 (by decide)).trans rfl) (hop hB f3).1 (by simp) ⟨rfl, hB⟩
    · exact wpOp_load_row_g 25 128 row25 (.tmp 8) rfl (wanted_of (j := 1) (d := 24) (b := true) rfl rfl rfl ((hF 1 (by decide) _ 24 rfl rfl).trans rfl)) rfl _ _ ((hS 8 (by decide)).trans rfl) (hop hB f4).1 (by simp) ⟨rfl, hB⟩
    · have e25 : a'.tmps[25]?.getD undef = .agg (IV .u8 (ptrR x).1) := gtx ((hF 2 (by decide) _ 25 rfl rfl).trans rfl)
      have e26 : a'.tmps[26]?.getD undef = .agg (IV .u8 (ptrR x).1) := gtx ((hF 3 (by decide) _ 26 rfl rfl).trans rfl)
      refine wpOp_val_g rfl (wanted_of (j := 1) (d := 24) (b := true) rfl rfl rfl ((hF 1 (by decide) _ 24 rfl rfl).trans rfl)) (v := .bool true) (w1 := w') ?_ ⟨rfl, hB⟩
      simp [go_sem, e25, e26]
    · have e24 : a'.tmps[24]?.getD undef = .bool true := gtx ((hF 1 (by decide) _ 24 rfl rfl).trans rfl)
      have e27 : a'.tmps[27]?.getD undef = .bool true := gtx ((hF 4 (by decide) _ 27 rfl rfl).trans rfl)
      refine wpOp_val_g rfl (wanted_free rfl) (v := .bool true) (w1 := w') ?_ ⟨rfl, hB⟩
      simp [go_sem, e24, e27]
    · have e28 : a'.tmps[28]?.getD undef = .bool true := gtx ((hF 5 (by decide) _ 28 rfl rfl).trans rfl)
      refine wpOp_val_g rfl (wanted_free rfl) (v := .bool true) (w1 := w') ?_ ⟨rfl, hB⟩
      simp [go_sem, e28]
    · have e7 : a'.tmps[7]?.getD undef = .int .i64 (ptrR x).2 := gtx ((hS 7 (by decide)).trans rfl)
      refine wpOp_val_g rfl (wanted_of (j := 6) (d := 29) (b := true) rfl rfl rfl ((hF 6 (by decide) _ 29 rfl rfl).trans rfl)) (v := .int .i64 (ptrR x).2) (w1 := w') ?_ ⟨rfl, hB⟩
      simp [go_sem, e7]
    · have e9 : a'.tmps[9]?.getD undef = .int .i64 (ptrR x).2 := gtx ((hS 9 (by decide)).trans rfl)
      refine wpOp_val_g rfl (wanted_of (j := 6) (d := 29) (b := true) rfl rfl rfl ((hF 6 (by decide) _ 29 rfl rfl).trans rfl)) (v := .int .i64 (ptrR x).2) (w1 := w') ?_ ⟨rfl, hB⟩
      simp [go_sem, e9]
    · have e30 : a'.tmps[30]?.getD undef = .int .i64 (ptrR x).2 := gtx ((hF 7 (by decide) _ 30 rfl rfl).trans rfl)
      have e31 : a'.tmps[31]?.getD undef = .int .i64 (ptrR x).2 := gtx ((hF 8 (by decide) _ 31 rfl rfl).trans rfl)
      refine wpOp_val_g rfl (wanted_of (j := 6) (d := 29) (b := true) rfl rfl rfl ((hF 6 (by decide) _ 29 rfl rfl).trans rfl)) (v := .bool true) (w1 := w') ?_ ⟨rfl, hB⟩
      simp [go_sem, e30, e31]
    · have e29 : a'.tmps[29]?.getD undef = .bool true := gtx ((hF 6 (by decide) _ 29 rfl rfl).trans rfl)
      have e32 : a'.tmps[32]?.getD undef = .bool true := gtx ((hF 9 (by decide) _ 32 rfl rfl).trans rfl)
      refine wpOp_val_g rfl (wanted_free rfl) (v := .bool true) (w1 := w') ?_ ⟨rfl, hB⟩
      simp [go_sem, e29, e32]
    · have e33 : a'.tmps[33]?.getD undef = .bool true := gtx ((hF 10 (by decide) _ 33 rfl rfl).trans rfl)
      refine wpOp_val_g rfl (wanted_free rfl) (v := .bool true) (w1 := w') ?_ ⟨rfl, hB⟩
      simp [go_sem, e33]
    · exact wpOp_load_row_g 25 128 row25 (.tmp 3) rfl (wanted_of (j := 11) (d := 34) (b := true) rfl rfl rfl ((hF 11 (by decide) _ 34 rfl rfl).trans rfl)) rfl _ _ ((hS 3 (by decide)).trans rfl) (hop hB f2).1 (by simp [hs]) ⟨rfl, hB⟩
    · have e35 : a'.tmps[35]?.getD undef = .agg (IV .u8 s) := gtx ((hF 12 (by decide) _ 35 rfl rfl).trans rfl)
      refine wpOp_call_g (f := 28) (args := #[.agg (IV .u8 s)]) rfl (wanted_of (j := 11) (d := 34) (b := true) rfl rfl rfl ((hF 11 (by decide) _ 34 rfl rfl).trans rfl)) (by simp [go_sem, e35]) (lreadPointers_any s hs HB.out w') ?_
      rintro e w'' ⟨rfl, hb'⟩
      exact ⟨_, rfl, rfl, below_call hB hb' hB.size⟩
    · exact wpOp_load_row_g 25 128 row25 (.tmp 3) rfl (wanted_of (j := 11) (d := 34) (b := true) rfl rfl rfl ((hF 11 (by decide) _ 34 rfl rfl).trans rfl)) rfl _ _ ((hS 3 (by decide)).trans rfl) (hop hB f2).1 (by simp [hs]) ⟨rfl, hB⟩
    · have e37 : a'.tmps[37]?.getD undef = .agg (IV .u8 s) := gtx ((hF 14 (by decide) _ 37 rfl rfl).trans rfl)
      refine wpOp_call_g (f := 29) (args := #[.agg (IV .u8 s)]) rfl (wanted_of (j := 11) (d := 34) (b := true) rfl rfl rfl ((hF 11 (by decide) _ 34 rfl rfl).trans rfl)) (by simp [go_sem, e37]) (rreadPointers_any s hs HB.out w') ?_
      rintro e w'' ⟨rfl, hb'⟩
      exact ⟨_, rfl, rfl, below_call hB hb' hB.size⟩
    · have e36 : a'.tmps[36]?.getD undef = .agg (IV .i64 (rdPtr s)) := gtx ((hF 13 (by decide) _ 36 rfl rfl).trans rfl)
      have e38 : a'.tmps[38]?.getD undef = .agg (IV .i64 (rdPtr s)) := gtx ((hF 15 (by decide) _ 38 rfl rfl).trans rfl)
      refine wpOp_val_g rfl (wanted_of (j := 11) (d := 34) (b := true) rfl rfl rfl ((hF 11 (by decide) _ 34 rfl rfl).trans rfl)) (v := .bool true) (w1 := w') ?_ ⟨rfl, hB⟩
      simp [go_sem, e36, e38]
    · have e34 : a'.tmps[34]?.getD undef = .bool true := gtx ((hF 11 (by decide) _ 34 rfl rfl).trans rfl)
      have e39 : a'.tmps[39]?.getD undef = .bool true := gtx ((hF 16 (by decide) _ 39 rfl rfl).trans rfl)
      refine wpOp_val_g rfl (wanted_free rfl) (v := .bool true) (w1 := w') ?_ ⟨rfl, hB⟩
      simp [go_sem, e34, e39]
  · intro w' hB
    have hbw := below_call hbw hB hbw.size
    simp only [putAll, List.take, List.drop, List.take_succ_cons, List.drop_succ_cons]
    go_wp2_with fail
    go_ret
    exact ⟨rfl, hbw⟩
end Go.Proofs.Ythgiolofnkdfoaa
