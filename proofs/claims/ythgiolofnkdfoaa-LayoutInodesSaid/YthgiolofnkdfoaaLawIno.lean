/- Inodes both ways: the law's walk. -/
import Derived.Test.YthgiolofnkdfoaaUni
import Derived.Test.YthgiolofnkdfoaaRgg
namespace Go.Proofs.Ythgiolofnkdfoaa
set_option linter.unusedSimpArgs false
set_option linter.unusedVariables false
open Go.RowKit

set_option maxHeartbeats 1000000 in
set_option maxRecDepth 100000 in
theorem layoutInodes_any (x : List Int) (s : List Int) (w : World) (hx : x.length = 18) (hs : s.length = 128) (hb : Bytes s) :
    Calls Try.prog 6 #[.agg (IV .i64 x), .agg (IV .u8 s)] w fun e w' => e = .returned (.bool true) ∧ Below w.heap.size w w' := by
  have HB := Lib.hid hb
  clear hb
  go_enter Try.func6, Try.ntmps6
  go_wp2_with fail
  have hbw := (((Below.refl w.heap.size w).alloc (by simp) (.cells (IV .i64 x) 43)).alloc (by simp) (.cells (IV .u8 s) 25))
  have f1 : hat ((w.alloc (.cells (IV .i64 x) 43)).alloc (.cells (IV .u8 s) 25)) w.heap.size = some (.cells (IV .i64 x) 43) := by simp [go_sem]
  have f2 : hat ((w.alloc (.cells (IV .i64 x) 43)).alloc (.cells (IV .u8 s) 25)) (w.heap.size + 1) = some (.cells (IV .u8 s) 25) := by simp [go_sem]
  generalize ((w.alloc (.cells (IV .i64 x) 43)).alloc (.cells (IV .u8 s) 25)) = w1 at *
  refine (known_true _).mono ?_; rintro e w2 ⟨rfl, hb2⟩
  have hbw := below_call hbw hb2 hbw.size
  obtain ⟨f1, zf1⟩ := hop hb2 f1
  obtain ⟨f2, zf2⟩ := hop hb2 f2
  clear hb2
  go_wp2_with fail
  refine (lino_any _ hx _).mono ?_; rintro e w3 ⟨rfl, hb2⟩
  have hbw := below_call hbw hb2 hbw.size
  obtain ⟨f1, zf1⟩ := hop hb2 f1
  obtain ⟨f2, zf2⟩ := hop hb2 f2
  clear hb2
  go_wp2_with fail
  have hbw := below_new hbw hbw.size (.cells (IV .u8 (inoR x).1) 25)
  obtain ⟨f1, zf1⟩ := hopA w3 (.cells (IV .u8 (inoR x).1) 25) f1
  obtain ⟨f2, zf2⟩ := hopA w3 (.cells (IV .u8 (inoR x).1) 25) f2
  obtain ⟨f3, zf3⟩ := hopN w3 (.cells (IV .u8 (inoR x).1) 25)
  generalize w3.alloc (.cells (IV .u8 (inoR x).1) 25) = w4 at *
  generalize w3.heap.size = gf3 at *
  refine (rino_any _ hx _).mono ?_; rintro e w5 ⟨rfl, hb2⟩
  have hbw := below_call hbw hb2 hbw.size
  obtain ⟨f1, zf1⟩ := hop hb2 f1
  obtain ⟨f2, zf2⟩ := hop hb2 f2
  obtain ⟨f3, zf3⟩ := hop hb2 f3
  clear hb2
  go_wp2_with fail
  have hbw := below_new hbw hbw.size (.cells (IV .u8 (inoR x).1) 25)
  obtain ⟨f1, zf1⟩ := hopA w5 (.cells (IV .u8 (inoR x).1) 25) f1
  obtain ⟨f2, zf2⟩ := hopA w5 (.cells (IV .u8 (inoR x).1) 25) f2
  obtain ⟨f3, zf3⟩ := hopA w5 (.cells (IV .u8 (inoR x).1) 25) f3
  obtain ⟨f4, zf4⟩ := hopN w5 (.cells (IV .u8 (inoR x).1) 25)
  generalize w5.alloc (.cells (IV .u8 (inoR x).1) 25) = w6 at *
  generalize w5.heap.size = gf4 at *
  refine (lrdIno_any _ hs HB.out _).mono ?_; rintro e w7 ⟨rfl, hb2⟩
  have hbw := below_call hbw hb2 hbw.size
  obtain ⟨f1, zf1⟩ := hop hb2 f1
  obtain ⟨f2, zf2⟩ := hop hb2 f2
  obtain ⟨f3, zf3⟩ := hop hb2 f3
  obtain ⟨f4, zf4⟩ := hop hb2 f4
  clear hb2
  go_wp2_with fail
  have hbw := below_new hbw hbw.size (.cells (IV .i64 (rdInoR s).1) 43)
  obtain ⟨f1, zf1⟩ := hopA w7 (.cells (IV .i64 (rdInoR s).1) 43) f1
  obtain ⟨f2, zf2⟩ := hopA w7 (.cells (IV .i64 (rdInoR s).1) 43) f2
  obtain ⟨f3, zf3⟩ := hopA w7 (.cells (IV .i64 (rdInoR s).1) 43) f3
  obtain ⟨f4, zf4⟩ := hopA w7 (.cells (IV .i64 (rdInoR s).1) 43) f4
  obtain ⟨f5, zf5⟩ := hopN w7 (.cells (IV .i64 (rdInoR s).1) 43)
  generalize w7.alloc (.cells (IV .i64 (rdInoR s).1) 43) = w8 at *
  generalize w7.heap.size = gf5 at *
  refine (rrdIno_any _ hs HB.out _).mono ?_; rintro e w9 ⟨rfl, hb2⟩
  have hbw := below_call hbw hb2 hbw.size
  obtain ⟨f1, zf1⟩ := hop hb2 f1
  obtain ⟨f2, zf2⟩ := hop hb2 f2
  obtain ⟨f3, zf3⟩ := hop hb2 f3
  obtain ⟨f4, zf4⟩ := hop hb2 f4
  obtain ⟨f5, zf5⟩ := hop hb2 f5
  clear hb2
  go_wp2_with fail
  have hbw := below_new hbw hbw.size (.cells (IV .i64 (rdInoR s).1) 43)
  go_ret
  exact ⟨rfl, hbw⟩
end Go.Proofs.Ythgiolofnkdfoaa
