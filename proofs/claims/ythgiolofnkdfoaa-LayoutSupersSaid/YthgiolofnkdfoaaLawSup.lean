/- First sectors both ways: the law's walk. -/
import Derived.Test.YthgiolofnkdfoaaUni
import Derived.Test.YthgiolofnkdfoaaRgg
namespace Go.Proofs.Ythgiolofnkdfoaa
set_option linter.unusedSimpArgs false
set_option linter.unusedVariables false
open Go.RowKit

set_option maxHeartbeats 1000000 in
set_option maxRecDepth 100000 in
theorem layoutSupers_any (x y n : Int) (s : List Int) (w : World) (hx : In64 x) (hy : In64 y) (hs : s.length = 128) (hb : Bytes s) :
    Calls Try.prog 4 #[.agg #[.int .i64 x, .int .i64 y], .agg (IV .u8 s), .int .i64 n] w fun e w' => e = .returned (.bool true) ∧ Below w.heap.size w w' := by
  have HX := Lib.hid hx
  have HY := Lib.hid hy
  have HB := Lib.hid hb
  clear hx hy hb
  go_enter Try.func4, Try.ntmps4
  go_wp2_with fail
  have hbw := (((Below.refl w.heap.size w).alloc (by simp) (.cells #[.int .i64 x, .int .i64 y] 34)).alloc (by simp) (.cells (IV .u8 s) 25))
  have f1 : hat ((w.alloc (.cells #[.int .i64 x, .int .i64 y] 34)).alloc (.cells (IV .u8 s) 25)) w.heap.size = some (.cells #[.int .i64 x, .int .i64 y] 34) := by simp [go_sem]
  have f2 : hat ((w.alloc (.cells #[.int .i64 x, .int .i64 y] 34)).alloc (.cells (IV .u8 s) 25)) (w.heap.size + 1) = some (.cells (IV .u8 s) 25) := by simp [go_sem]
  generalize ((w.alloc (.cells #[.int .i64 x, .int .i64 y] 34)).alloc (.cells (IV .u8 s) 25)) = w1 at *
  refine (known_true _).mono ?_; rintro e w2 ⟨rfl, hb2⟩
  have hbw := below_call hbw hb2 hbw.size
  obtain ⟨f1, zf1⟩ := hop hb2 f1
  obtain ⟨f2, zf2⟩ := hop hb2 f2
  clear hb2
  go_wp2_with fail
  refine (lsup_any _ _ _ HX.out HY.out).mono ?_; rintro e w3 ⟨rfl, hb2⟩
  have hbw := below_call hbw hb2 hbw.size
  obtain ⟨f1, zf1⟩ := hop hb2 f1
  obtain ⟨f2, zf2⟩ := hop hb2 f2
  clear hb2
  go_wp2_with fail
  have hbw := below_new hbw hbw.size (.cells (IV .u8 (supR x y).1) 25)
  obtain ⟨f1, zf1⟩ := hopA w3 (.cells (IV .u8 (supR x y).1) 25) f1
  obtain ⟨f2, zf2⟩ := hopA w3 (.cells (IV .u8 (supR x y).1) 25) f2
  obtain ⟨f3, zf3⟩ := hopN w3 (.cells (IV .u8 (supR x y).1) 25)
  generalize w3.alloc (.cells (IV .u8 (supR x y).1) 25) = w4 at *
  generalize w3.heap.size = gf3 at *
  refine (rsup_any _ _ _ HX.out HY.out).mono ?_; rintro e w5 ⟨rfl, hb2⟩
  have hbw := below_call hbw hb2 hbw.size
  obtain ⟨f1, zf1⟩ := hop hb2 f1
  obtain ⟨f2, zf2⟩ := hop hb2 f2
  obtain ⟨f3, zf3⟩ := hop hb2 f3
  clear hb2
  go_wp2_with fail
  have hbw := below_new hbw hbw.size (.cells (IV .u8 (supR x y).1) 25)
  obtain ⟨f1, zf1⟩ := hopA w5 (.cells (IV .u8 (supR x y).1) 25) f1
  obtain ⟨f2, zf2⟩ := hopA w5 (.cells (IV .u8 (supR x y).1) 25) f2
  obtain ⟨f3, zf3⟩ := hopA w5 (.cells (IV .u8 (supR x y).1) 25) f3
  obtain ⟨f4, zf4⟩ := hopN w5 (.cells (IV .u8 (supR x y).1) 25)
  generalize w5.alloc (.cells (IV .u8 (supR x y).1) 25) = w6 at *
  generalize w5.heap.size = gf4 at *
  refine (lrdSup_any _ hs HB.out _).mono ?_; rintro e w7 ⟨rfl, hb2⟩
  have hbw := below_call hbw hb2 hbw.size
  obtain ⟨f1, zf1⟩ := hop hb2 f1
  obtain ⟨f2, zf2⟩ := hop hb2 f2
  obtain ⟨f3, zf3⟩ := hop hb2 f3
  obtain ⟨f4, zf4⟩ := hop hb2 f4
  clear hb2
  go_wp2_with fail
  have hbw := below_new hbw hbw.size (.cells #[.int .i64 (rdSupR s).1, .int .i64 (rdSupR s).2.1] 34)
  obtain ⟨f1, zf1⟩ := hopA w7 (.cells #[.int .i64 (rdSupR s).1, .int .i64 (rdSupR s).2.1] 34) f1
  obtain ⟨f2, zf2⟩ := hopA w7 (.cells #[.int .i64 (rdSupR s).1, .int .i64 (rdSupR s).2.1] 34) f2
  obtain ⟨f3, zf3⟩ := hopA w7 (.cells #[.int .i64 (rdSupR s).1, .int .i64 (rdSupR s).2.1] 34) f3
  obtain ⟨f4, zf4⟩ := hopA w7 (.cells #[.int .i64 (rdSupR s).1, .int .i64 (rdSupR s).2.1] 34) f4
  obtain ⟨f5, zf5⟩ := hopN w7 (.cells #[.int .i64 (rdSupR s).1, .int .i64 (rdSupR s).2.1] 34)
  generalize w7.alloc (.cells #[.int .i64 (rdSupR s).1, .int .i64 (rdSupR s).2.1] 34) = w8 at *
  generalize w7.heap.size = gf5 at *
  refine (rrdSup_any _ hs HB.out _).mono ?_; rintro e w9 ⟨rfl, hb2⟩
  have hbw := below_call hbw hb2 hbw.size
  obtain ⟨f1, zf1⟩ := hop hb2 f1
  obtain ⟨f2, zf2⟩ := hop hb2 f2
  obtain ⟨f3, zf3⟩ := hop hb2 f3
  obtain ⟨f4, zf4⟩ := hop hb2 f4
  obtain ⟨f5, zf5⟩ := hop hb2 f5
  clear hb2
  go_wp2_with fail
  have hbw := below_new hbw hbw.size (.cells #[.int .i64 (rdSupR s).1, .int .i64 (rdSupR s).2.1] 34)
  obtain ⟨f1, zf1⟩ := hopA w9 (.cells #[.int .i64 (rdSupR s).1, .int .i64 (rdSupR s).2.1] 34) f1
  obtain ⟨f2, zf2⟩ := hopA w9 (.cells #[.int .i64 (rdSupR s).1, .int .i64 (rdSupR s).2.1] 34) f2
  obtain ⟨f3, zf3⟩ := hopA w9 (.cells #[.int .i64 (rdSupR s).1, .int .i64 (rdSupR s).2.1] 34) f3
  obtain ⟨f4, zf4⟩ := hopA w9 (.cells #[.int .i64 (rdSupR s).1, .int .i64 (rdSupR s).2.1] 34) f4
  obtain ⟨f5, zf5⟩ := hopA w9 (.cells #[.int .i64 (rdSupR s).1, .int .i64 (rdSupR s).2.1] 34) f5
  obtain ⟨f6, zf6⟩ := hopN w9 (.cells #[.int .i64 (rdSupR s).1, .int .i64 (rdSupR s).2.1] 34)
  generalize w9.alloc (.cells #[.int .i64 (rdSupR s).1, .int .i64 (rdSupR s).2.1] 34) = w10 at *
  generalize w9.heap.size = gf6 at *
  refine wp_region_vals (by kernel_rfl) 30 (by decide) rfl (fun i => match i with | 0 => .bool true | 1 => .bool true | 2 => .agg (IV .u8 (supR x y).1) | 3 => .agg (IV .u8 (supR x y).1) | 4 => .bool true | 5 => .bool true | 6 => .bool true | 7 => .int .i64 (supR x y).2 | 8 => .int .i64 (supR x y).2 | 9 => .bool true | 10 => .bool true | 11 => .bool true | 12 => .agg #[.int .i64 (rdSupR s).1, .int .i64 (rdSupR s).2.1] | 13 => .agg #[.int .i64 (rdSupR s).1, .int .i64 (rdSupR s).2.1] | 14 => .bool true | 15 => .bool true | 16 => .bool true | 17 => .int .i64 (rdSupR s).2.2 | 18 => .int .i64 (rdSupR s).2.2 | 19 => .bool true | 20 => .bool true | 21 => .bool true | 22 => .agg #[.int .i64 x, .int .i64 y] | 23 => .int .i64 n | 24 => .bool (isD x y n) | 25 => .agg #[.int .i64 x, .int .i64 y] | 26 => .int .i64 n | 27 => .bool (isD x y n) | 28 => .bool true | _ => .bool true) ?_ ?_
  · intro i o hi ho a' w' hB hS hF
    have hi' : i = 0 ∨ i = 1 ∨ i = 2 ∨ i = 3 ∨ i = 4 ∨ i = 5 ∨ i = 6 ∨ i = 7 ∨ i = 8 ∨ i = 9 ∨ i = 10 ∨ i = 11 ∨ i = 12 ∨ i = 13 ∨ i = 14 ∨ i = 15 ∨ i = 16 ∨ i = 17 ∨ i = 18 ∨ i = 19 ∨ i = 20 ∨ i = 21 ∨ i = 22 ∨ i = 23 ∨ i = 24 ∨ i = 25 ∨ i = 26 ∨ i = 27 ∨ i = 28 ∨ i = 29 := by omega
    rcases hi' with rfl | rfl | rfl | rfl | rfl | rfl | rfl | rfl | rfl | rfl | rfl | rfl | rfl | rfl | rfl | rfl | rfl | rfl | rfl | rfl | rfl | rfl | rfl | rfl | rfl | rfl | rfl | rfl | rfl | rfl
    all_goals (have ho' := Option.some.inj ho; subst ho')
    · have e7 : a'.tmps[7]?.getD undef = .bool true := gtx ((hS 7 (by decide)).trans rfl)
      refine wpOp_val_g rfl (wanted_free rfl) (v := .bool true) (w1 := w') ?_ ⟨rfl, hB⟩
      simp [go_sem, e7]
    · have e39 : a'.tmps[39]?.getD undef = .bool true := gtx ((hF 0 (by decide) _ 39 rfl rfl).trans rfl)
      refine wpOp_val_g rfl (wanted_free rfl) (v := .bool true) (w1 := w') ?_ ⟨rfl, hB⟩
      simp [go_sem, e39]
    · exact wpOp_load_row_g 25 128 row25 (.tmp 8) rfl (wanted_of (j := 1) (d := 40) (b := true) rfl rfl rfl ((hF 1 (by decide) _ 40 rfl rfl).trans rfl)) rfl _ _ ((hS 8 (by decide)).trans rfl) (hop hB f3).1 (by simp) ⟨rfl, hB⟩
    · exact wpOp_load_row_g 25 128 row25 (.tmp 10) rfl (wanted_of (j := 1) (d := 40) (b := true) rfl rfl rfl ((hF 1 (by decide) _ 40 rfl rfl).trans rfl)) rfl _ _ ((hS 10 (by decide)).trans rfl) (hop hB f4).1 (by simp) ⟨rfl, hB⟩
    · have e41 : a'.tmps[41]?.getD undef = .agg (IV .u8 (supR x y).1) := gtx ((hF 2 (by decide) _ 41 rfl rfl).trans rfl)
      have e42 : a'.tmps[42]?.getD undef = .agg (IV .u8 (supR x y).1) := gtx ((hF 3 (by decide) _ 42 rfl rfl).trans rfl)
      refine wpOp_val_g rfl (wanted_of (j := 1) (d := 40) (b := true) rfl rfl rfl ((hF 1 (by decide) _ 40 rfl rfl).trans rfl)) (v := .bool true) (w1 := w') ?_ ⟨rfl, hB⟩
      simp [go_sem, e41, e42]
    · have e40 : a'.tmps[40]?.getD undef = .bool true := gtx ((hF 1 (by decide) _ 40 rfl rfl).trans rfl)
      have e43 : a'.tmps[43]?.getD undef = .bool true := gtx ((hF 4 (by decide) _ 43 rfl rfl).trans rfl)
      refine wpOp_val_g rfl (wanted_free rfl) (v := .bool true) (w1 := w') ?_ ⟨rfl, hB⟩
      simp [go_sem, e40, e43]
    · have e44 : a'.tmps[44]?.getD undef = .bool true := gtx ((hF 5 (by decide) _ 44 rfl rfl).trans rfl)
      refine wpOp_val_g rfl (wanted_free rfl) (v := .bool true) (w1 := w') ?_ ⟨rfl, hB⟩
      simp [go_sem, e44]
    · have e9 : a'.tmps[9]?.getD undef = .int .i64 (supR x y).2 := gtx ((hS 9 (by decide)).trans rfl)
      refine wpOp_val_g rfl (wanted_of (j := 6) (d := 45) (b := true) rfl rfl rfl ((hF 6 (by decide) _ 45 rfl rfl).trans rfl)) (v := .int .i64 (supR x y).2) (w1 := w') ?_ ⟨rfl, hB⟩
      simp [go_sem, e9]
    · have e11 : a'.tmps[11]?.getD undef = .int .i64 (supR x y).2 := gtx ((hS 11 (by decide)).trans rfl)
      refine wpOp_val_g rfl (wanted_of (j := 6) (d := 45) (b := true) rfl rfl rfl ((hF 6 (by decide) _ 45 rfl rfl).trans rfl)) (v := .int .i64 (supR x y).2) (w1 := w') ?_ ⟨rfl, hB⟩
      simp [go_sem, e11]
    · have e46 : a'.tmps[46]?.getD undef = .int .i64 (supR x y).2 := gtx ((hF 7 (by decide) _ 46 rfl rfl).trans rfl)
      have e47 : a'.tmps[47]?.getD undef = .int .i64 (supR x y).2 := gtx ((hF 8 (by decide) _ 47 rfl rfl).trans rfl)
      refine wpOp_val_g rfl (wanted_of (j := 6) (d := 45) (b := true) rfl rfl rfl ((hF 6 (by decide) _ 45 rfl rfl).trans rfl)) (v := .bool true) (w1 := w') ?_ ⟨rfl, hB⟩
      simp [go_sem, e46, e47]
    · have e45 : a'.tmps[45]?.getD undef = .bool true := gtx ((hF 6 (by decide) _ 45 rfl rfl).trans rfl)
      have e48 : a'.tmps[48]?.getD undef = .bool true := gtx ((hF 9 (by decide) _ 48 rfl rfl).trans rfl)
      refine wpOp_val_g rfl (wanted_free rfl) (v := .bool true) (w1 := w') ?_ ⟨rfl, hB⟩
      simp [go_sem, e45, e48]
    · have e49 : a'.tmps[49]?.getD undef = .bool true := gtx ((hF 10 (by decide) _ 49 rfl rfl).trans rfl)
      refine wpOp_val_g rfl (wanted_free rfl) (v := .bool true) (w1 := w') ?_ ⟨rfl, hB⟩
      simp [go_sem, e49]
    · exact wpOp_load_row_g 34 2 row34 (.tmp 12) rfl (wanted_of (j := 11) (d := 50) (b := true) rfl rfl rfl ((hF 11 (by decide) _ 50 rfl rfl).trans rfl)) rfl _ _ ((hS 12 (by decide)).trans rfl) (hop hB f5).1 rfl ⟨rfl, hB⟩
    · exact wpOp_load_row_g 34 2 row34 (.tmp 14) rfl (wanted_of (j := 11) (d := 50) (b := true) rfl rfl rfl ((hF 11 (by decide) _ 50 rfl rfl).trans rfl)) rfl _ _ ((hS 14 (by decide)).trans rfl) (hop hB f6).1 rfl ⟨rfl, hB⟩
    · have e51 : a'.tmps[51]?.getD undef = .agg #[.int .i64 (rdSupR s).1, .int .i64 (rdSupR s).2.1] := gtx ((hF 12 (by decide) _ 51 rfl rfl).trans rfl)
      have e52 : a'.tmps[52]?.getD undef = .agg #[.int .i64 (rdSupR s).1, .int .i64 (rdSupR s).2.1] := gtx ((hF 13 (by decide) _ 52 rfl rfl).trans rfl)
      refine wpOp_val_g rfl (wanted_of (j := 11) (d := 50) (b := true) rfl rfl rfl ((hF 11 (by decide) _ 50 rfl rfl).trans rfl)) (v := .bool true) (w1 := w') ?_ ⟨rfl, hB⟩
      simp [go_sem, e51, e52]
    · have e50 : a'.tmps[50]?.getD undef = .bool true := gtx ((hF 11 (by decide) _ 50 rfl rfl).trans rfl)
      have e53 : a'.tmps[53]?.getD undef = .bool true := gtx ((hF 14 (by decide) _ 53 rfl rfl).trans rfl)
      refine wpOp_val_g rfl (wanted_free rfl) (v := .bool true) (w1 := w') ?_ ⟨rfl, hB⟩
      simp [go_sem, e50, e53]
    · have e54 : a'.tmps[54]?.getD undef = .bool true := gtx ((hF 15 (by decide) _ 54 rfl rfl).trans rfl)
      refine wpOp_val_g rfl (wanted_free rfl) (v := .bool true) (w1 := w') ?_ ⟨rfl, hB⟩
      simp [go_sem, e54]
    · have e13 : a'.tmps[13]?.getD undef = .int .i64 (rdSupR s).2.2 := gtx ((hS 13 (by decide)).trans rfl)
      refine wpOp_val_g rfl (wanted_of (j := 16) (d := 55) (b := true) rfl rfl rfl ((hF 16 (by decide) _ 55 rfl rfl).trans rfl)) (v := .int .i64 (rdSupR s).2.2) (w1 := w') ?_ ⟨rfl, hB⟩
      simp [go_sem, e13]
    · have e15 : a'.tmps[15]?.getD undef = .int .i64 (rdSupR s).2.2 := gtx ((hS 15 (by decide)).trans rfl)
      refine wpOp_val_g rfl (wanted_of (j := 16) (d := 55) (b := true) rfl rfl rfl ((hF 16 (by decide) _ 55 rfl rfl).trans rfl)) (v := .int .i64 (rdSupR s).2.2) (w1 := w') ?_ ⟨rfl, hB⟩
      simp [go_sem, e15]
    · have e56 : a'.tmps[56]?.getD undef = .int .i64 (rdSupR s).2.2 := gtx ((hF 17 (by decide) _ 56 rfl rfl).trans rfl)
      have e57 : a'.tmps[57]?.getD undef = .int .i64 (rdSupR s).2.2 := gtx ((hF 18 (by decide) _ 57 rfl rfl).trans rfl)
      refine wpOp_val_g rfl (wanted_of (j := 16) (d := 55) (b := true) rfl rfl rfl ((hF 16 (by decide) _ 55 rfl rfl).trans rfl)) (v := .bool true) (w1 := w') ?_ ⟨rfl, hB⟩
      simp [go_sem, e56, e57]
    · have e55 : a'.tmps[55]?.getD undef = .bool true := gtx ((hF 16 (by decide) _ 55 rfl rfl).trans rfl)
      have e58 : a'.tmps[58]?.getD undef = .bool true := gtx ((hF 19 (by decide) _ 58 rfl rfl).trans rfl)
      refine wpOp_val_g rfl (wanted_free rfl) (v := .bool true) (w1 := w') ?_ ⟨rfl, hB⟩
      simp [go_sem, e55, e58]
    · have e59 : a'.tmps[59]?.getD undef = .bool true := gtx ((hF 20 (by decide) _ 59 rfl rfl).trans rfl)
      refine wpOp_val_g rfl (wanted_free rfl) (v := .bool true) (w1 := w') ?_ ⟨rfl, hB⟩
      simp [go_sem, e59]
    · exact wpOp_load_row_g 34 2 row34 (.tmp 3) rfl (wanted_of (j := 21) (d := 60) (b := true) rfl rfl rfl ((hF 21 (by decide) _ 60 rfl rfl).trans rfl)) rfl _ _ ((hS 3 (by decide)).trans rfl) (hop hB f1).1 rfl ⟨rfl, hB⟩
    · have e2 : a'.tmps[2]?.getD undef = .int .i64 n := gtx ((hS 2 (by decide)).trans rfl)
      refine wpOp_val_g rfl (wanted_of (j := 21) (d := 60) (b := true) rfl rfl rfl ((hF 21 (by decide) _ 60 rfl rfl).trans rfl)) (v := .int .i64 n) (w1 := w') ?_ ⟨rfl, hB⟩
      simp [go_sem, e2]
    · have e61 : a'.tmps[61]?.getD undef = .agg #[.int .i64 x, .int .i64 y] := gtx ((hF 22 (by decide) _ 61 rfl rfl).trans rfl)
      have e62 : a'.tmps[62]?.getD undef = .int .i64 n := gtx ((hF 23 (by decide) _ 62 rfl rfl).trans rfl)
      refine wpOp_call_g (f := 20) (args := #[.agg #[.int .i64 x, .int .i64 y], .int .i64 n]) rfl (wanted_of (j := 21) (d := 60) (b := true) rfl rfl rfl ((hF 21 (by decide) _ 60 rfl rfl).trans rfl)) (by simp [go_sem, e61, e62]) (lisData_any x y n w') ?_
      rintro e w'' ⟨rfl, hb'⟩
      exact ⟨_, rfl, rfl, below_call hB hb' hB.size⟩
    · exact wpOp_load_row_g 34 2 row34 (.tmp 3) rfl (wanted_of (j := 21) (d := 60) (b := true) rfl rfl rfl ((hF 21 (by decide) _ 60 rfl rfl).trans rfl)) rfl _ _ ((hS 3 (by decide)).trans rfl) (hop hB f1).1 rfl ⟨rfl, hB⟩
    · have e2 : a'.tmps[2]?.getD undef = .int .i64 n := gtx ((hS 2 (by decide)).trans rfl)
      refine wpOp_val_g rfl (wanted_of (j := 21) (d := 60) (b := true) rfl rfl rfl ((hF 21 (by decide) _ 60 rfl rfl).trans rfl)) (v := .int .i64 n) (w1 := w') ?_ ⟨rfl, hB⟩
      simp [go_sem, e2]
    · have e64 : a'.tmps[64]?.getD undef = .agg #[.int .i64 x, .int .i64 y] := gtx ((hF 25 (by decide) _ 64 rfl rfl).trans rfl)
      have e65 : a'.tmps[65]?.getD undef = .int .i64 n := gtx ((hF 26 (by decide) _ 65 rfl rfl).trans rfl)
      refine wpOp_call_g (f := 21) (args := #[.agg #[.int .i64 x, .int .i64 y], .int .i64 n]) rfl (wanted_of (j := 21) (d := 60) (b := true) rfl rfl rfl ((hF 21 (by decide) _ 60 rfl rfl).trans rfl)) (by simp [go_sem, e64, e65]) (risData_any x y n w') ?_
      rintro e w'' ⟨rfl, hb'⟩
      exact ⟨_, rfl, rfl, below_call hB hb' hB.size⟩
    · have e63 : a'.tmps[63]?.getD undef = .bool (isD x y n) := gtx ((hF 24 (by decide) _ 63 rfl rfl).trans rfl)
      have e66 : a'.tmps[66]?.getD undef = .bool (isD x y n) := gtx ((hF 27 (by decide) _ 66 rfl rfl).trans rfl)
      refine wpOp_val_g rfl (wanted_of (j := 21) (d := 60) (b := true) rfl rfl rfl ((hF 21 (by decide) _ 60 rfl rfl).trans rfl)) (v := .bool true) (w1 := w') ?_ ⟨rfl, hB⟩
      simp [go_sem, e63, e66]
    · have e60 : a'.tmps[60]?.getD undef = .bool true := gtx ((hF 21 (by decide) _ 60 rfl rfl).trans rfl)
      have e67 : a'.tmps[67]?.getD undef = .bool true := gtx ((hF 28 (by decide) _ 67 rfl rfl).trans rfl)
      refine wpOp_val_g rfl (wanted_free rfl) (v := .bool true) (w1 := w') ?_ ⟨rfl, hB⟩
      simp [go_sem, e60, e67]
  · intro w' hB
    have hbw := below_call hbw hB hbw.size
    simp only [putAll, List.take, List.drop, List.take_succ_cons, List.drop_succ_cons]
    go_wp2_with fail
    go_ret
    exact ⟨rfl, hbw⟩
end Go.Proofs.Ythgiolofnkdfoaa
