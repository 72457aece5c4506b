/- What is read of any sector has just that sector: the law's walk, way by way. -/
import Derived.Test.YthgiolofnkdfoaaPl3
namespace Go.Proofs.Ythgiolofnkdfoaa
set_option linter.unusedSimpArgs false
set_option linter.unusedVariables false
open Go.RowKit

set_option maxHeartbeats 1000000 in
set_option maxRecDepth 100000 in
theorem layoutOne_sup_any {s : List Int} (w : World) (hs : s.length = 128) (hb : Bytes s) (hz : s ≠ zl 128) (hS : (rdSupR s).2.2 = 0) (hI : (rdInoR s).2 ≠ 0) (hL : (rdSloR s).2.2 ≠ 0) :
    Calls Try.prog 9 #[.agg (IV .u8 s)] w fun e w' => e = .returned (.bool true) ∧ Below w.heap.size w w' := by
  have HB := Lib.hid hb
  have HS := Lib.hid hS
  have HI := Lib.hid hI
  have HL := Lib.hid hL
  have hd : decide (s = zl 128) = false := by simpa using hz
  clear hb hS hI hL hz
  go_enter Try.func9, Try.ntmps9
  go_wp2_with fail
  have hbw := ((Below.refl w.heap.size w).alloc (by simp) (.cells (IV .u8 s) 25))
  have f1 : hat (w.alloc (.cells (IV .u8 s) 25)) w.heap.size = some (.cells (IV .u8 s) 25) := by simp [go_sem]
  generalize (w.alloc (.cells (IV .u8 s) 25)) = w1 at *
  refine (known_true _).mono ?_; rintro e w2 ⟨rfl, hb2⟩
  have hbw := below_call hbw hb2 hbw.size
  obtain ⟨f1, zf1⟩ := hop hb2 f1
  clear hb2
  go_wp2_with fail
  refine (rdSup_ok hs HB.out HS.out _).mono ?_; rintro e w3 ⟨rfl, hb2⟩
  have hbw := below_call hbw hb2 hbw.size
  obtain ⟨f1, zf1⟩ := hop hb2 f1
  clear hb2
  go_wp2_with fail
  have hbw := below_new hbw hbw.size (.cells #[.int .i64 (rdSupR s).1, .int .i64 (rdSupR s).2.1] 34)
  obtain ⟨f1, zf1⟩ := hopA w3 (.cells #[.int .i64 (rdSupR s).1, .int .i64 (rdSupR s).2.1] 34) f1
  obtain ⟨fa, zfa⟩ := hopN w3 (.cells #[.int .i64 (rdSupR s).1, .int .i64 (rdSupR s).2.1] 34)
  generalize w3.alloc (.cells #[.int .i64 (rdSupR s).1, .int .i64 (rdSupR s).2.1] 34) = w4 at *
  generalize w3.heap.size = gfa at *
  refine (supSec_one HS.out _).mono ?_; rintro e w5 ⟨rfl, hb2⟩
  have hbw := below_call hbw hb2 hbw.size
  obtain ⟨f1, zf1⟩ := hop hb2 f1
  obtain ⟨fa, zfa⟩ := hop hb2 fa
  clear hb2
  go_wp2_with fail
  have hbw := below_new hbw hbw.size (.cells (IV .u8 s) 25)
  obtain ⟨f1, zf1⟩ := hopA w5 (.cells (IV .u8 s) 25) f1
  obtain ⟨fa, zfa⟩ := hopA w5 (.cells (IV .u8 s) 25) fa
  obtain ⟨ft, zft⟩ := hopN w5 (.cells (IV .u8 s) 25)
  generalize w5.alloc (.cells (IV .u8 s) 25) = w6 at *
  generalize w5.heap.size = gft at *
  refine (rdIno_bad hs HB.out HI.out _).mono ?_; rintro e w7 ⟨rfl, hb2⟩
  have hbw := below_call hbw hb2 hbw.size
  obtain ⟨f1, zf1⟩ := hop hb2 f1
  obtain ⟨fa, zfa⟩ := hop hb2 fa
  obtain ⟨ft, zft⟩ := hop hb2 ft
  clear hb2
  go_wp2_with fail
  have hbw := below_new hbw hbw.size (.cells (IV .i64 (zl 18)) 43)
  obtain ⟨f1, zf1⟩ := hopA w7 (.cells (IV .i64 (zl 18)) 43) f1
  obtain ⟨fa, zfa⟩ := hopA w7 (.cells (IV .i64 (zl 18)) 43) fa
  obtain ⟨ft, zft⟩ := hopA w7 (.cells (IV .i64 (zl 18)) 43) ft
  obtain ⟨fb, zfb⟩ := hopN w7 (.cells (IV .i64 (zl 18)) 43)
  generalize w7.alloc (.cells (IV .i64 (zl 18)) 43) = w8 at *
  generalize w7.heap.size = gfb at *
  refine (rdSlo_bad hs HB.out HL.out _).mono ?_; rintro e w9 ⟨rfl, hb2⟩
  have hbw := below_call hbw hb2 hbw.size
  obtain ⟨f1, zf1⟩ := hop hb2 f1
  obtain ⟨fa, zfa⟩ := hop hb2 fa
  obtain ⟨ft, zft⟩ := hop hb2 ft
  obtain ⟨fb, zfb⟩ := hop hb2 fb
  clear hb2
  go_wp2_with fail
  have hbw := below_new hbw hbw.size (.cells #[.int .i64 0, .string { data := #[] }] 23)
  obtain ⟨f1, zf1⟩ := hopA w9 (.cells #[.int .i64 0, .string { data := #[] }] 23) f1
  obtain ⟨fa, zfa⟩ := hopA w9 (.cells #[.int .i64 0, .string { data := #[] }] 23) fa
  obtain ⟨ft, zft⟩ := hopA w9 (.cells #[.int .i64 0, .string { data := #[] }] 23) ft
  obtain ⟨fb, zfb⟩ := hopA w9 (.cells #[.int .i64 0, .string { data := #[] }] 23) fb
  obtain ⟨fc, zfc⟩ := hopN w9 (.cells #[.int .i64 0, .string { data := #[] }] 23)
  generalize w9.alloc (.cells #[.int .i64 0, .string { data := #[] }] 23) = w10 at *
  generalize w9.heap.size = gfc at *
  refine (lreadPointers_any _ hs HB.out _).mono ?_; rintro e w11 ⟨rfl, hb2⟩
  have hbw := below_call hbw hb2 hbw.size
  obtain ⟨f1, zf1⟩ := hop hb2 f1
  obtain ⟨fa, zfa⟩ := hop hb2 fa
  obtain ⟨ft, zft⟩ := hop hb2 ft
  obtain ⟨fb, zfb⟩ := hop hb2 fb
  obtain ⟨fc, zfc⟩ := hop hb2 fc
  clear hb2
  go_wp2_with fail
  refine (ptrSec_one hs HB.out _).mono ?_; rintro e w12 ⟨rfl, hb2⟩
  have hbw := below_call hbw hb2 hbw.size
  obtain ⟨f1, zf1⟩ := hop hb2 f1
  obtain ⟨fa, zfa⟩ := hop hb2 fa
  obtain ⟨ft, zft⟩ := hop hb2 ft
  obtain ⟨fb, zfb⟩ := hop hb2 fb
  obtain ⟨fc, zfc⟩ := hop hb2 fc
  clear hb2
  go_wp2_with fail
  go_ret
  exact ⟨rfl, below_new hbw hbw.size _⟩

set_option maxHeartbeats 1000000 in
set_option maxRecDepth 100000 in
theorem layoutOne_11_any {s : List Int} (w : World) (hs : s.length = 128) (hb : Bytes s) (hz : s ≠ zl 128) (hS : (rdSupR s).2.2 ≠ 0) (hI : (rdInoR s).2 = 0) (hL : (rdSloR s).2.2 = 0) :
    Calls Try.prog 9 #[.agg (IV .u8 s)] w fun e w' => e = .returned (.bool true) ∧ Below w.heap.size w w' := by
  have HB := Lib.hid hb
  have HS := Lib.hid hS
  have HI := Lib.hid hI
  have HL := Lib.hid hL
  have hd : decide (s = zl 128) = false := by simpa using hz
  clear hb hS hI hL hz
  go_enter Try.func9, Try.ntmps9
  go_wp2_with fail
  have hbw := ((Below.refl w.heap.size w).alloc (by simp) (.cells (IV .u8 s) 25))
  have f1 : hat (w.alloc (.cells (IV .u8 s) 25)) w.heap.size = some (.cells (IV .u8 s) 25) := by simp [go_sem]
  generalize (w.alloc (.cells (IV .u8 s) 25)) = w1 at *
  refine (known_true _).mono ?_; rintro e w2 ⟨rfl, hb2⟩
  have hbw := below_call hbw hb2 hbw.size
  obtain ⟨f1, zf1⟩ := hop hb2 f1
  clear hb2
  go_wp2_with fail
  refine (rdSup_bad hs HB.out HS.out _).mono ?_; rintro e w3 ⟨rfl, hb2⟩
  have hbw := below_call hbw hb2 hbw.size
  obtain ⟨f1, zf1⟩ := hop hb2 f1
  clear hb2
  go_wp2_with fail
  have hbw := below_new hbw hbw.size (.cells #[.int .i64 0, .int .i64 0] 34)
  obtain ⟨f1, zf1⟩ := hopA w3 (.cells #[.int .i64 0, .int .i64 0] 34) f1
  obtain ⟨fa, zfa⟩ := hopN w3 (.cells #[.int .i64 0, .int .i64 0] 34)
  generalize w3.alloc (.cells #[.int .i64 0, .int .i64 0] 34) = w4 at *
  generalize w3.heap.size = gfa at *
  refine (rdIno_ok hs HB.out HI.out _).mono ?_; rintro e w5 ⟨rfl, hb2⟩
  have hbw := below_call hbw hb2 hbw.size
  obtain ⟨f1, zf1⟩ := hop hb2 f1
  obtain ⟨fa, zfa⟩ := hop hb2 fa
  clear hb2
  go_wp2_with fail
  have hbw := below_new hbw hbw.size (.cells (IV .i64 (rdInoR s).1) 43)
  obtain ⟨f1, zf1⟩ := hopA w5 (.cells (IV .i64 (rdInoR s).1) 43) f1
  obtain ⟨fa, zfa⟩ := hopA w5 (.cells (IV .i64 (rdInoR s).1) 43) fa
  obtain ⟨fb, zfb⟩ := hopN w5 (.cells (IV .i64 (rdInoR s).1) 43)
  generalize w5.alloc (.cells (IV .i64 (rdInoR s).1) 43) = w6 at *
  generalize w5.heap.size = gfb at *
  refine (inoSec_one HI.out _).mono ?_; rintro e w7 ⟨rfl, hb2⟩
  have hbw := below_call hbw hb2 hbw.size
  obtain ⟨f1, zf1⟩ := hop hb2 f1
  obtain ⟨fa, zfa⟩ := hop hb2 fa
  obtain ⟨fb, zfb⟩ := hop hb2 fb
  clear hb2
  go_wp2_with fail
  have hbw := below_new hbw hbw.size (.cells (IV .u8 s) 25)
  obtain ⟨f1, zf1⟩ := hopA w7 (.cells (IV .u8 s) 25) f1
  obtain ⟨fa, zfa⟩ := hopA w7 (.cells (IV .u8 s) 25) fa
  obtain ⟨fb, zfb⟩ := hopA w7 (.cells (IV .u8 s) 25) fb
  obtain ⟨fu, zfu⟩ := hopN w7 (.cells (IV .u8 s) 25)
  generalize w7.alloc (.cells (IV .u8 s) 25) = w8 at *
  generalize w7.heap.size = gfu at *
  refine (rdSlo_ok hs HB.out HL.out _).mono ?_; rintro e w9 ⟨rfl, hb2⟩
  have hbw := below_call hbw hb2 hbw.size
  obtain ⟨f1, zf1⟩ := hop hb2 f1
  obtain ⟨fa, zfa⟩ := hop hb2 fa
  obtain ⟨fb, zfb⟩ := hop hb2 fb
  obtain ⟨fu, zfu⟩ := hop hb2 fu
  clear hb2
  go_wp2_with fail
  have hbw := below_new hbw hbw.size (.cells #[.int .i64 (rdSloR s).1, .string (rdSloR s).2.1] 23)
  obtain ⟨f1, zf1⟩ := hopA w9 (.cells #[.int .i64 (rdSloR s).1, .string (rdSloR s).2.1] 23) f1
  obtain ⟨fa, zfa⟩ := hopA w9 (.cells #[.int .i64 (rdSloR s).1, .string (rdSloR s).2.1] 23) fa
  obtain ⟨fb, zfb⟩ := hopA w9 (.cells #[.int .i64 (rdSloR s).1, .string (rdSloR s).2.1] 23) fb
  obtain ⟨fu, zfu⟩ := hopA w9 (.cells #[.int .i64 (rdSloR s).1, .string (rdSloR s).2.1] 23) fu
  obtain ⟨fc, zfc⟩ := hopN w9 (.cells #[.int .i64 (rdSloR s).1, .string (rdSloR s).2.1] 23)
  generalize w9.alloc (.cells #[.int .i64 (rdSloR s).1, .string (rdSloR s).2.1] 23) = w10 at *
  generalize w9.heap.size = gfc at *
  refine (sloSec_one HL.out _).mono ?_; rintro e w11 ⟨rfl, hb2⟩
  have hbw := below_call hbw hb2 hbw.size
  obtain ⟨f1, zf1⟩ := hop hb2 f1
  obtain ⟨fa, zfa⟩ := hop hb2 fa
  obtain ⟨fb, zfb⟩ := hop hb2 fb
  obtain ⟨fu, zfu⟩ := hop hb2 fu
  obtain ⟨fc, zfc⟩ := hop hb2 fc
  clear hb2
  go_wp2_with fail
  have hbw := below_new hbw hbw.size (.cells (IV .u8 s) 25)
  obtain ⟨f1, zf1⟩ := hopA w11 (.cells (IV .u8 s) 25) f1
  obtain ⟨fa, zfa⟩ := hopA w11 (.cells (IV .u8 s) 25) fa
  obtain ⟨fb, zfb⟩ := hopA w11 (.cells (IV .u8 s) 25) fb
  obtain ⟨fu, zfu⟩ := hopA w11 (.cells (IV .u8 s) 25) fu
  obtain ⟨fc, zfc⟩ := hopA w11 (.cells (IV .u8 s) 25) fc
  obtain ⟨fv, zfv⟩ := hopN w11 (.cells (IV .u8 s) 25)
  generalize w11.alloc (.cells (IV .u8 s) 25) = w12 at *
  generalize w11.heap.size = gfv at *
  refine (lreadPointers_any _ hs HB.out _).mono ?_; rintro e w13 ⟨rfl, hb2⟩
  have hbw := below_call hbw hb2 hbw.size
  obtain ⟨f1, zf1⟩ := hop hb2 f1
  obtain ⟨fa, zfa⟩ := hop hb2 fa
  obtain ⟨fb, zfb⟩ := hop hb2 fb
  obtain ⟨fu, zfu⟩ := hop hb2 fu
  obtain ⟨fc, zfc⟩ := hop hb2 fc
  obtain ⟨fv, zfv⟩ := hop hb2 fv
  clear hb2
  go_wp2_with fail
  refine (ptrSec_one hs HB.out _).mono ?_; rintro e w14 ⟨rfl, hb2⟩
  have hbw := below_call hbw hb2 hbw.size
  obtain ⟨f1, zf1⟩ := hop hb2 f1
  obtain ⟨fa, zfa⟩ := hop hb2 fa
  obtain ⟨fb, zfb⟩ := hop hb2 fb
  obtain ⟨fu, zfu⟩ := hop hb2 fu
  obtain ⟨fc, zfc⟩ := hop hb2 fc
  obtain ⟨fv, zfv⟩ := hop hb2 fv
  clear hb2
  go_wp2_with fail
  go_ret
  exact ⟨rfl, below_new hbw hbw.size _⟩

set_option maxHeartbeats 1000000 in
set_option maxRecDepth 100000 in
theorem layoutOne_10_any {s : List Int} (w : World) (hs : s.length = 128) (hb : Bytes s) (hz : s ≠ zl 128) (hS : (rdSupR s).2.2 ≠ 0) (hI : (rdInoR s).2 = 0) (hL : (rdSloR s).2.2 ≠ 0) :
    Calls Try.prog 9 #[.agg (IV .u8 s)] w fun e w' => e = .returned (.bool true) ∧ Below w.heap.size w w' := by
  have HB := Lib.hid hb
  have HS := Lib.hid hS
  have HI := Lib.hid hI
  have HL := Lib.hid hL
  have hd : decide (s = zl 128) = false := by simpa using hz
  clear hb hS hI hL hz
  go_enter Try.func9, Try.ntmps9
  go_wp2_with fail
  have hbw := ((Below.refl w.heap.size w).alloc (by simp) (.cells (IV .u8 s) 25))
  have f1 : hat (w.alloc (.cells (IV .u8 s) 25)) w.heap.size = some (.cells (IV .u8 s) 25) := by simp [go_sem]
  generalize (w.alloc (.cells (IV .u8 s) 25)) = w1 at *
  refine (known_true _).mono ?_; rintro e w2 ⟨rfl, hb2⟩
  have hbw := below_call hbw hb2 hbw.size
  obtain ⟨f1, zf1⟩ := hop hb2 f1
  clear hb2
  go_wp2_with fail
  refine (rdSup_bad hs HB.out HS.out _).mono ?_; rintro e w3 ⟨rfl, hb2⟩
  have hbw := below_call hbw hb2 hbw.size
  obtain ⟨f1, zf1⟩ := hop hb2 f1
  clear hb2
  go_wp2_with fail
  have hbw := below_new hbw hbw.size (.cells #[.int .i64 0, .int .i64 0] 34)
  obtain ⟨f1, zf1⟩ := hopA w3 (.cells #[.int .i64 0, .int .i64 0] 34) f1
  obtain ⟨fa, zfa⟩ := hopN w3 (.cells #[.int .i64 0, .int .i64 0] 34)
  generalize w3.alloc (.cells #[.int .i64 0, .int .i64 0] 34) = w4 at *
  generalize w3.heap.size = gfa at *
  refine (rdIno_ok hs HB.out HI.out _).mono ?_; rintro e w5 ⟨rfl, hb2⟩
  have hbw := below_call hbw hb2 hbw.size
  obtain ⟨f1, zf1⟩ := hop hb2 f1
  obtain ⟨fa, zfa⟩ := hop hb2 fa
  clear hb2
  go_wp2_with fail
  have hbw := below_new hbw hbw.size (.cells (IV .i64 (rdInoR s).1) 43)
  obtain ⟨f1, zf1⟩ := hopA w5 (.cells (IV .i64 (rdInoR s).1) 43) f1
  obtain ⟨fa, zfa⟩ := hopA w5 (.cells (IV .i64 (rdInoR s).1) 43) fa
  obtain ⟨fb, zfb⟩ := hopN w5 (.cells (IV .i64 (rdInoR s).1) 43)
  generalize w5.alloc (.cells (IV .i64 (rdInoR s).1) 43) = w6 at *
  generalize w5.heap.size = gfb at *
  refine (inoSec_one HI.out _).mono ?_; rintro e w7 ⟨rfl, hb2⟩
  have hbw := below_call hbw hb2 hbw.size
  obtain ⟨f1, zf1⟩ := hop hb2 f1
  obtain ⟨fa, zfa⟩ := hop hb2 fa
  obtain ⟨fb, zfb⟩ := hop hb2 fb
  clear hb2
  go_wp2_with fail
  have hbw := below_new hbw hbw.size (.cells (IV .u8 s) 25)
  obtain ⟨f1, zf1⟩ := hopA w7 (.cells (IV .u8 s) 25) f1
  obtain ⟨fa, zfa⟩ := hopA w7 (.cells (IV .u8 s) 25) fa
  obtain ⟨fb, zfb⟩ := hopA w7 (.cells (IV .u8 s) 25) fb
  obtain ⟨fu, zfu⟩ := hopN w7 (.cells (IV .u8 s) 25)
  generalize w7.alloc (.cells (IV .u8 s) 25) = w8 at *
  generalize w7.heap.size = gfu at *
  refine (rdSlo_bad hs HB.out HL.out _).mono ?_; rintro e w9 ⟨rfl, hb2⟩
  have hbw := below_call hbw hb2 hbw.size
  obtain ⟨f1, zf1⟩ := hop hb2 f1
  obtain ⟨fa, zfa⟩ := hop hb2 fa
  obtain ⟨fb, zfb⟩ := hop hb2 fb
  obtain ⟨fu, zfu⟩ := hop hb2 fu
  clear hb2
  go_wp2_with fail
  have hbw := below_new hbw hbw.size (.cells #[.int .i64 0, .string { data := #[] }] 23)
  obtain ⟨f1, zf1⟩ := hopA w9 (.cells #[.int .i64 0, .string { data := #[] }] 23) f1
  obtain ⟨fa, zfa⟩ := hopA w9 (.cells #[.int .i64 0, .string { data := #[] }] 23) fa
  obtain ⟨fb, zfb⟩ := hopA w9 (.cells #[.int .i64 0, .string { data := #[] }] 23) fb
  obtain ⟨fu, zfu⟩ := hopA w9 (.cells #[.int .i64 0, .string { data := #[] }] 23) fu
  obtain ⟨fc, zfc⟩ := hopN w9 (.cells #[.int .i64 0, .string { data := #[] }] 23)
  generalize w9.alloc (.cells #[.int .i64 0, .string { data := #[] }] 23) = w10 at *
  generalize w9.heap.size = gfc at *
  refine (lreadPointers_any _ hs HB.out _).mono ?_; rintro e w11 ⟨rfl, hb2⟩
  have hbw := below_call hbw hb2 hbw.size
  obtain ⟨f1, zf1⟩ := hop hb2 f1
  obtain ⟨fa, zfa⟩ := hop hb2 fa
  obtain ⟨fb, zfb⟩ := hop hb2 fb
  obtain ⟨fu, zfu⟩ := hop hb2 fu
  obtain ⟨fc, zfc⟩ := hop hb2 fc
  clear hb2
  go_wp2_with fail
  refine (ptrSec_one hs HB.out _).mono ?_; rintro e w12 ⟨rfl, hb2⟩
  have hbw := below_call hbw hb2 hbw.size
  obtain ⟨f1, zf1⟩ := hop hb2 f1
  obtain ⟨fa, zfa⟩ := hop hb2 fa
  obtain ⟨fb, zfb⟩ := hop hb2 fb
  obtain ⟨fu, zfu⟩ := hop hb2 fu
  obtain ⟨fc, zfc⟩ := hop hb2 fc
  clear hb2
  go_wp2_with fail
  go_ret
  exact ⟨rfl, below_new hbw hbw.size _⟩

set_option maxHeartbeats 1000000 in
set_option maxRecDepth 100000 in
theorem layoutOne_01_any {s : List Int} (w : World) (hs : s.length = 128) (hb : Bytes s) (hz : s ≠ zl 128) (hS : (rdSupR s).2.2 ≠ 0) (hI : (rdInoR s).2 ≠ 0) (hL : (rdSloR s).2.2 = 0) :
    Calls Try.prog 9 #[.agg (IV .u8 s)] w fun e w' => e = .returned (.bool true) ∧ Below w.heap.size w w' := by
  have HB := Lib.hid hb
  have HS := Lib.hid hS
  have HI := Lib.hid hI
  have HL := Lib.hid hL
  have hd : decide (s = zl 128) = false := by simpa using hz
  clear hb hS hI hL hz
  go_enter Try.func9, Try.ntmps9
  go_wp2_with fail
  have hbw := ((Below.refl w.heap.size w).alloc (by simp) (.cells (IV .u8 s) 25))
  have f1 : hat (w.alloc (.cells (IV .u8 s) 25)) w.heap.size = some (.cells (IV .u8 s) 25) := by simp [go_sem]
  generalize (w.alloc (.cells (IV .u8 s) 25)) = w1 at *
  refine (known_true _).mono ?_; rintro e w2 ⟨rfl, hb2⟩
  have hbw := below_call hbw hb2 hbw.size
  obtain ⟨f1, zf1⟩ := hop hb2 f1
  clear hb2
  go_wp2_with fail
  refine (rdSup_bad hs HB.out HS.out _).mono ?_; rintro e w3 ⟨rfl, hb2⟩
  have hbw := below_call hbw hb2 hbw.size
  obtain ⟨f1, zf1⟩ := hop hb2 f1
  clear hb2
  go_wp2_with fail
  have hbw := below_new hbw hbw.size (.cells #[.int .i64 0, .int .i64 0] 34)
  obtain ⟨f1, zf1⟩ := hopA w3 (.cells #[.int .i64 0, .int .i64 0] 34) f1
  obtain ⟨fa, zfa⟩ := hopN w3 (.cells #[.int .i64 0, .int .i64 0] 34)
  generalize w3.alloc (.cells #[.int .i64 0, .int .i64 0] 34) = w4 at *
  generalize w3.heap.size = gfa at *
  refine (rdIno_bad hs HB.out HI.out _).mono ?_; rintro e w5 ⟨rfl, hb2⟩
  have hbw := below_call hbw hb2 hbw.size
  obtain ⟨f1, zf1⟩ := hop hb2 f1
  obtain ⟨fa, zfa⟩ := hop hb2 fa
  clear hb2
  go_wp2_with fail
  have hbw := below_new hbw hbw.size (.cells (IV .i64 (zl 18)) 43)
  obtain ⟨f1, zf1⟩ := hopA w5 (.cells (IV .i64 (zl 18)) 43) f1
  obtain ⟨fa, zfa⟩ := hopA w5 (.cells (IV .i64 (zl 18)) 43) fa
  obtain ⟨fb, zfb⟩ := hopN w5 (.cells (IV .i64 (zl 18)) 43)
  generalize w5.alloc (.cells (IV .i64 (zl 18)) 43) = w6 at *
  generalize w5.heap.size = gfb at *
  refine (rdSlo_ok hs HB.out HL.out _).mono ?_; rintro e w7 ⟨rfl, hb2⟩
  have hbw := below_call hbw hb2 hbw.size
  obtain ⟨f1, zf1⟩ := hop hb2 f1
  obtain ⟨fa, zfa⟩ := hop hb2 fa
  obtain ⟨fb, zfb⟩ := hop hb2 fb
  clear hb2
  go_wp2_with fail
  have hbw := below_new hbw hbw.size (.cells #[.int .i64 (rdSloR s).1, .string (rdSloR s).2.1] 23)
  obtain ⟨f1, zf1⟩ := hopA w7 (.cells #[.int .i64 (rdSloR s).1, .string (rdSloR s).2.1] 23) f1
  obtain ⟨fa, zfa⟩ := hopA w7 (.cells #[.int .i64 (rdSloR s).1, .string (rdSloR s).2.1] 23) fa
  obtain ⟨fb, zfb⟩ := hopA w7 (.cells #[.int .i64 (rdSloR s).1, .string (rdSloR s).2.1] 23) fb
  obtain ⟨fc, zfc⟩ := hopN w7 (.cells #[.int .i64 (rdSloR s).1, .string (rdSloR s).2.1] 23)
  generalize w7.alloc (.cells #[.int .i64 (rdSloR s).1, .string (rdSloR s).2.1] 23) = w8 at *
  generalize w7.heap.size = gfc at *
  refine (sloSec_one HL.out _).mono ?_; rintro e w9 ⟨rfl, hb2⟩
  have hbw := below_call hbw hb2 hbw.size
  obtain ⟨f1, zf1⟩ := hop hb2 f1
  obtain ⟨fa, zfa⟩ := hop hb2 fa
  obtain ⟨fb, zfb⟩ := hop hb2 fb
  obtain ⟨fc, zfc⟩ := hop hb2 fc
  clear hb2
  go_wp2_with fail
  have hbw := below_new hbw hbw.size (.cells (IV .u8 s) 25)
  obtain ⟨f1, zf1⟩ := hopA w9 (.cells (IV .u8 s) 25) f1
  obtain ⟨fa, zfa⟩ := hopA w9 (.cells (IV .u8 s) 25) fa
  obtain ⟨fb, zfb⟩ := hopA w9 (.cells (IV .u8 s) 25) fb
  obtain ⟨fc, zfc⟩ := hopA w9 (.cells (IV .u8 s) 25) fc
  obtain ⟨fv, zfv⟩ := hopN w9 (.cells (IV .u8 s) 25)
  generalize w9.alloc (.cells (IV .u8 s) 25) = w10 at *
  generalize w9.heap.size = gfv at *
  refine (lreadPointers_any _ hs HB.out _).mono ?_; rintro e w11 ⟨rfl, hb2⟩
  have hbw := below_call hbw hb2 hbw.size
  obtain ⟨f1, zf1⟩ := hop hb2 f1
  obtain ⟨fa, zfa⟩ := hop hb2 fa
  obtain ⟨fb, zfb⟩ := hop hb2 fb
  obtain ⟨fc, zfc⟩ := hop hb2 fc
  obtain ⟨fv, zfv⟩ := hop hb2 fv
  clear hb2
  go_wp2_with fail
  refine (ptrSec_one hs HB.out _).mono ?_; rintro e w12 ⟨rfl, hb2⟩
  have hbw := below_call hbw hb2 hbw.size
  obtain ⟨f1, zf1⟩ := hop hb2 f1
  obtain ⟨fa, zfa⟩ := hop hb2 fa
  obtain ⟨fb, zfb⟩ := hop hb2 fb
  obtain ⟨fc, zfc⟩ := hop hb2 fc
  obtain ⟨fv, zfv⟩ := hop hb2 fv
  clear hb2
  go_wp2_with fail
  go_ret
  exact ⟨rfl, below_new hbw hbw.size _⟩

set_option maxHeartbeats 1000000 in
set_option maxRecDepth 100000 in
theorem layoutOne_00_any {s : List Int} (w : World) (hs : s.length = 128) (hb : Bytes s) (hz : s ≠ zl 128) (hS : (rdSupR s).2.2 ≠ 0) (hI : (rdInoR s).2 ≠ 0) (hL : (rdSloR s).2.2 ≠ 0) :
    Calls Try.prog 9 #[.agg (IV .u8 s)] w fun e w' => e = .returned (.bool true) ∧ Below w.heap.size w w' := by
  have HB := Lib.hid hb
  have HS := Lib.hid hS
  have HI := Lib.hid hI
  have HL := Lib.hid hL
  have hd : decide (s = zl 128) = false := by simpa using hz
  clear hb hS hI hL hz
  go_enter Try.func9, Try.ntmps9
  go_wp2_with fail
  have hbw := ((Below.refl w.heap.size w).alloc (by simp) (.cells (IV .u8 s) 25))
  have f1 : hat (w.alloc (.cells (IV .u8 s) 25)) w.heap.size = some (.cells (IV .u8 s) 25) := by simp [go_sem]
  generalize (w.alloc (.cells (IV .u8 s) 25)) = w1 at *
  refine (known_true _).mono ?_; rintro e w2 ⟨rfl, hb2⟩
  have hbw := below_call hbw hb2 hbw.size
  obtain ⟨f1, zf1⟩ := hop hb2 f1
  clear hb2
  go_wp2_with fail
  refine (rdSup_bad hs HB.out HS.out _).mono ?_; rintro e w3 ⟨rfl, hb2⟩
  have hbw := below_call hbw hb2 hbw.size
  obtain ⟨f1, zf1⟩ := hop hb2 f1
  clear hb2
  go_wp2_with fail
  have hbw := below_new hbw hbw.size (.cells #[.int .i64 0, .int .i64 0] 34)
  obtain ⟨f1, zf1⟩ := hopA w3 (.cells #[.int .i64 0, .int .i64 0] 34) f1
  obtain ⟨fa, zfa⟩ := hopN w3 (.cells #[.int .i64 0, .int .i64 0] 34)
  generalize w3.alloc (.cells #[.int .i64 0, .int .i64 0] 34) = w4 at *
  generalize w3.heap.size = gfa at *
  refine (rdIno_bad hs HB.out HI.out _).mono ?_; rintro e w5 ⟨rfl, hb2⟩
  have hbw := below_call hbw hb2 hbw.size
  obtain ⟨f1, zf1⟩ := hop hb2 f1
  obtain ⟨fa, zfa⟩ := hop hb2 fa
  clear hb2
  go_wp2_with fail
  have hbw := below_new hbw hbw.size (.cells (IV .i64 (zl 18)) 43)
  obtain ⟨f1, zf1⟩ := hopA w5 (.cells (IV .i64 (zl 18)) 43) f1
  obtain ⟨fa, zfa⟩ := hopA w5 (.cells (IV .i64 (zl 18)) 43) fa
  obtain ⟨fb, zfb⟩ := hopN w5 (.cells (IV .i64 (zl 18)) 43)
  generalize w5.alloc (.cells (IV .i64 (zl 18)) 43) = w6 at *
  generalize w5.heap.size = gfb at *
  refine (rdSlo_bad hs HB.out HL.out _).mono ?_; rintro e w7 ⟨rfl, hb2⟩
  have hbw := below_call hbw hb2 hbw.size
  obtain ⟨f1, zf1⟩ := hop hb2 f1
  obtain ⟨fa, zfa⟩ := hop hb2 fa
  obtain ⟨fb, zfb⟩ := hop hb2 fb
  clear hb2
  go_wp2_with fail
  have hbw := below_new hbw hbw.size (.cells #[.int .i64 0, .string { data := #[] }] 23)
  obtain ⟨f1, zf1⟩ := hopA w7 (.cells #[.int .i64 0, .string { data := #[] }] 23) f1
  obtain ⟨fa, zfa⟩ := hopA w7 (.cells #[.int .i64 0, .string { data := #[] }] 23) fa
  obtain ⟨fb, zfb⟩ := hopA w7 (.cells #[.int .i64 0, .string { data := #[] }] 23) fb
  obtain ⟨fc, zfc⟩ := hopN w7 (.cells #[.int .i64 0, .string { data := #[] }] 23)
  generalize w7.alloc (.cells #[.int .i64 0, .string { data := #[] }] 23) = w8 at *
  generalize w7.heap.size = gfc at *
  refine (lreadPointers_any _ hs HB.out _).mono ?_; rintro e w9 ⟨rfl, hb2⟩
  have hbw := below_call hbw hb2 hbw.size
  obtain ⟨f1, zf1⟩ := hop hb2 f1
  obtain ⟨fa, zfa⟩ := hop hb2 fa
  obtain ⟨fb, zfb⟩ := hop hb2 fb
  obtain ⟨fc, zfc⟩ := hop hb2 fc
  clear hb2
  go_wp2_with fail
  refine (ptrSec_one hs HB.out _).mono ?_; rintro e w10 ⟨rfl, hb2⟩
  have hbw := below_call hbw hb2 hbw.size
  obtain ⟨f1, zf1⟩ := hop hb2 f1
  obtain ⟨fa, zfa⟩ := hop hb2 fa
  obtain ⟨fb, zfb⟩ := hop hb2 fb
  obtain ⟨fc, zfc⟩ := hop hb2 fc
  clear hb2
  go_wp2_with fail
  go_ret
  exact ⟨rfl, below_new hbw hbw.size _⟩

set_option maxHeartbeats 1000000 in
set_option maxRecDepth 100000 in
theorem layoutOne_zero_any  (w : World)  :
    Calls Try.prog 9 #[.agg (IV .u8 (zl 128))] w fun e w' => e = .returned (.bool true) ∧ Below w.heap.size w w' := by
  go_enter Try.func9, Try.ntmps9
  go_wp2_with fail
  have hbw := ((Below.refl w.heap.size w).alloc (by simp) (.cells (IV .u8 (zl 128)) 25))
  have f1 : hat (w.alloc (.cells (IV .u8 (zl 128)) 25)) w.heap.size = some (.cells (IV .u8 (zl 128)) 25) := by simp [go_sem]
  generalize (w.alloc (.cells (IV .u8 (zl 128)) 25)) = w1 at *
  refine (known_true _).mono ?_; rintro e w2 ⟨rfl, hb2⟩
  have hbw := below_call hbw hb2 hbw.size
  obtain ⟨f1, zf1⟩ := hop hb2 f1
  clear hb2
  go_wp2_with fail
  refine (rdSup_zero _).mono ?_; rintro e w3 ⟨rfl, hb2⟩
  have hbw := below_call hbw hb2 hbw.size
  obtain ⟨f1, zf1⟩ := hop hb2 f1
  clear hb2
  go_wp2_with fail
  have hbw := below_new hbw hbw.size (.cells #[.int .i64 0, .int .i64 0] 34)
  obtain ⟨f1, zf1⟩ := hopA w3 (.cells #[.int .i64 0, .int .i64 0] 34) f1
  obtain ⟨fa, zfa⟩ := hopN w3 (.cells #[.int .i64 0, .int .i64 0] 34)
  generalize w3.alloc (.cells #[.int .i64 0, .int .i64 0] 34) = w4 at *
  generalize w3.heap.size = gfa at *
  refine (rdIno_zero _).mono ?_; rintro e w5 ⟨rfl, hb2⟩
  have hbw := below_call hbw hb2 hbw.size
  obtain ⟨f1, zf1⟩ := hop hb2 f1
  obtain ⟨fa, zfa⟩ := hop hb2 fa
  clear hb2
  go_wp2_with fail
  have hbw := below_new hbw hbw.size (.cells (IV .i64 (zl 18)) 43)
  obtain ⟨f1, zf1⟩ := hopA w5 (.cells (IV .i64 (zl 18)) 43) f1
  obtain ⟨fa, zfa⟩ := hopA w5 (.cells (IV .i64 (zl 18)) 43) fa
  obtain ⟨fb, zfb⟩ := hopN w5 (.cells (IV .i64 (zl 18)) 43)
  generalize w5.alloc (.cells (IV .i64 (zl 18)) 43) = w6 at *
  generalize w5.heap.size = gfb at *
  refine (inoSec_zero _).mono ?_; rintro e w7 ⟨rfl, hb2⟩
  have hbw := below_call hbw hb2 hbw.size
  obtain ⟨f1, zf1⟩ := hop hb2 f1
  obtain ⟨fa, zfa⟩ := hop hb2 fa
  obtain ⟨fb, zfb⟩ := hop hb2 fb
  clear hb2
  go_wp2_with fail
  have hbw := below_new hbw hbw.size (.cells (IV .u8 (zl 128)) 25)
  obtain ⟨f1, zf1⟩ := hopA w7 (.cells (IV .u8 (zl 128)) 25) f1
  obtain ⟨fa, zfa⟩ := hopA w7 (.cells (IV .u8 (zl 128)) 25) fa
  obtain ⟨fb, zfb⟩ := hopA w7 (.cells (IV .u8 (zl 128)) 25) fb
  obtain ⟨fu, zfu⟩ := hopN w7 (.cells (IV .u8 (zl 128)) 25)
  generalize w7.alloc (.cells (IV .u8 (zl 128)) 25) = w8 at *
  generalize w7.heap.size = gfu at *
  refine (rdSlo_zero _).mono ?_; rintro e w9 ⟨rfl, hb2⟩
  have hbw := below_call hbw hb2 hbw.size
  obtain ⟨f1, zf1⟩ := hop hb2 f1
  obtain ⟨fa, zfa⟩ := hop hb2 fa
  obtain ⟨fb, zfb⟩ := hop hb2 fb
  obtain ⟨fu, zfu⟩ := hop hb2 fu
  clear hb2
  go_wp2_with fail
  have hbw := below_new hbw hbw.size (.cells #[.int .i64 0, .string { data := #[] }] 23)
  obtain ⟨f1, zf1⟩ := hopA w9 (.cells #[.int .i64 0, .string { data := #[] }] 23) f1
  obtain ⟨fa, zfa⟩ := hopA w9 (.cells #[.int .i64 0, .string { data := #[] }] 23) fa
  obtain ⟨fb, zfb⟩ := hopA w9 (.cells #[.int .i64 0, .string { data := #[] }] 23) fb
  obtain ⟨fu, zfu⟩ := hopA w9 (.cells #[.int .i64 0, .string { data := #[] }] 23) fu
  obtain ⟨fc, zfc⟩ := hopN w9 (.cells #[.int .i64 0, .string { data := #[] }] 23)
  generalize w9.alloc (.cells #[.int .i64 0, .string { data := #[] }] 23) = w10 at *
  generalize w9.heap.size = gfc at *
  refine (sloSec_zero _).mono ?_; rintro e w11 ⟨rfl, hb2⟩
  have hbw := below_call hbw hb2 hbw.size
  obtain ⟨f1, zf1⟩ := hop hb2 f1
  obtain ⟨fa, zfa⟩ := hop hb2 fa
  obtain ⟨fb, zfb⟩ := hop hb2 fb
  obtain ⟨fu, zfu⟩ := hop hb2 fu
  obtain ⟨fc, zfc⟩ := hop hb2 fc
  clear hb2
  go_wp2_with fail
  have hbw := below_new hbw hbw.size (.cells (IV .u8 (zl 128)) 25)
  obtain ⟨f1, zf1⟩ := hopA w11 (.cells (IV .u8 (zl 128)) 25) f1
  obtain ⟨fa, zfa⟩ := hopA w11 (.cells (IV .u8 (zl 128)) 25) fa
  obtain ⟨fb, zfb⟩ := hopA w11 (.cells (IV .u8 (zl 128)) 25) fb
  obtain ⟨fu, zfu⟩ := hopA w11 (.cells (IV .u8 (zl 128)) 25) fu
  obtain ⟨fc, zfc⟩ := hopA w11 (.cells (IV .u8 (zl 128)) 25) fc
  obtain ⟨fv, zfv⟩ := hopN w11 (.cells (IV .u8 (zl 128)) 25)
  generalize w11.alloc (.cells (IV .u8 (zl 128)) 25) = w12 at *
  generalize w11.heap.size = gfv at *
  refine (lreadPointers_any _ (zl_length 128) (bytes_zl 128) _).mono ?_; rintro e w13 ⟨rfl, hb2⟩
  have hbw := below_call hbw hb2 hbw.size
  obtain ⟨f1, zf1⟩ := hop hb2 f1
  obtain ⟨fa, zfa⟩ := hop hb2 fa
  obtain ⟨fb, zfb⟩ := hop hb2 fb
  obtain ⟨fu, zfu⟩ := hop hb2 fu
  obtain ⟨fc, zfc⟩ := hop hb2 fc
  obtain ⟨fv, zfv⟩ := hop hb2 fv
  clear hb2
  go_wp2_with fail
  refine (ptrSec_one (zl_length 128) (bytes_zl 128) _).mono ?_; rintro e w14 ⟨rfl, hb2⟩
  have hbw := below_call hbw hb2 hbw.size
  obtain ⟨f1, zf1⟩ := hop hb2 f1
  obtain ⟨fa, zfa⟩ := hop hb2 fa
  obtain ⟨fb, zfb⟩ := hop hb2 fb
  obtain ⟨fu, zfu⟩ := hop hb2 fu
  obtain ⟨fc, zfc⟩ := hop hb2 fc
  obtain ⟨fv, zfv⟩ := hop hb2 fv
  clear hb2
  go_wp2_with fail
  go_ret
  exact ⟨rfl, below_new hbw hbw.size _⟩

theorem layoutOne_any (s : List Int) (w : World) (hs : s.length = 128) (hb : Bytes s) :
    Calls Try.prog 9 #[.agg (IV .u8 s)] w fun e w' => e = .returned (.bool true) ∧ Below w.heap.size w w' := by
  by_cases hz : s = zl 128
  · subst hz; exact layoutOne_zero_any w
  · by_cases hS : (rdSupR s).2.2 = 0
    · exact layoutOne_sup_any w hs hb hz hS (by rw [sup_ino hS]; decide) (by rw [sup_slo hS]; decide)
    · by_cases hI : (rdInoR s).2 = 0
      · by_cases hL : (rdSloR s).2.2 = 0
        · exact layoutOne_11_any w hs hb hz hS hI hL
        · exact layoutOne_10_any w hs hb hz hS hI hL
      · by_cases hL : (rdSloR s).2.2 = 0
        · exact layoutOne_01_any w hs hb hz hS hI hL
        · exact layoutOne_00_any w hs hb hz hS hI hL
end Go.Proofs.Ythgiolofnkdfoaa
