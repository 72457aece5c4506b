/- Written and read back: the law's walk. -/
import Derived.Test.YthgiolofnkdfoaaPl3
namespace Go.Proofs.Ythgiolofnkdfoaa
set_option linter.unusedSimpArgs false
set_option linter.unusedVariables false
open Go.RowKit

set_option maxHeartbeats 8000000 in
set_option maxRecDepth 100000 in
theorem layoutBack_any (x y : Int) (li lp : List Int) (i : Int) (nm : ByteArray) (w : World) (hx : In64 x) (hy : In64 y) (hli : li.length = 18) (hlp : lp.length = 32) :
    Calls Try.prog 8 #[.agg (thiC x y li lp i nm)] w fun e w' => e = .returned (.bool true) ∧ Below w.heap.size w w' := by
  have HX := Lib.hid hx
  have HY := Lib.hid hy
  clear hx hy
  go_enter Try.func8, Try.ntmps8
  go_wp2_with fail
  have hbw := ((Below.refl w.heap.size w).alloc (by simp) (.cells (thiC x y li lp i nm) 54))
  have f1 : hat (w.alloc (.cells (thiC x y li lp i nm) 54)) w.heap.size = some (.cells (thiC x y li lp i nm) 54) := by simp [go_sem]
  generalize (w.alloc (.cells (thiC x y li lp i nm) 54)) = w1 at *
  refine (known_true _).mono ?_; rintro e w2 ⟨rfl, hb2⟩
  have hbw := below_call hbw hb2 hbw.size
  obtain ⟨f1, zf1⟩ := hop hb2 f1
  clear hb2
  go_wp2_with fail
  have hsl := supSec_length x y
  have hil := (show (inoSec li).length = 128 from inoSecN_length li 18)
  by_cases hS : SupMay x y
  · have HS := Lib.hid hS
    clear hS
    refine (superSector_ok _ _ _ HS.out).mono ?_; rintro e w3 ⟨rfl, hb2⟩
    have hbw := below_call hbw hb2 hbw.size
    obtain ⟨f1, zf1⟩ := hop hb2 f1
    clear hb2
    go_wp2_with fail
    have hbw := below_new hbw hbw.size (.cells (IV .u8 (supSec x y)) 25)
    obtain ⟨f1, zf1⟩ := hopA w3 (.cells (IV .u8 (supSec x y)) 25) f1
    obtain ⟨fS, zfS⟩ := hopN w3 (.cells (IV .u8 (supSec x y)) 25)
    generalize w3.alloc (.cells (IV .u8 (supSec x y)) 25) = w4 at *
    generalize w3.heap.size = gfS at *
    refine (rdSup_back HS.out _).mono ?_; rintro e w5 ⟨rfl, hb2⟩
    have hbw := below_call hbw hb2 hbw.size
    obtain ⟨f1, zf1⟩ := hop hb2 f1
    obtain ⟨fS, zfS⟩ := hop hb2 fS
    clear hb2
    go_wp2_with fail
    have hbw := below_new hbw hbw.size (.cells #[.int .i64 x, .int .i64 y] 34)
    obtain ⟨f1, zf1⟩ := hopA w5 (.cells #[.int .i64 x, .int .i64 y] 34) f1
    obtain ⟨fS, zfS⟩ := hopA w5 (.cells #[.int .i64 x, .int .i64 y] 34) fS
    generalize w5.alloc (.cells #[.int .i64 x, .int .i64 y] 34) = w6 at *
    by_cases hI : InoMay li
    · have HI := Lib.hid hI
      clear hI
      refine (linodeSector_ok _ hli HI.out _).mono ?_; rintro e w7 ⟨rfl, hb2⟩
      have hbw := below_call hbw hb2 hbw.size
      obtain ⟨f1, zf1⟩ := hop hb2 f1
      obtain ⟨fS, zfS⟩ := hop hb2 fS
      clear hb2
      go_wp2_with fail
      have hbw := below_setRow hbw (g := gfS) (by omega) (IV .u8 (inoSec li))
      obtain ⟨f1, zf1⟩ := hopR f1 gfS (IV .u8 (inoSec li)) (by omega)
      obtain ⟨fS, zfS⟩ := hopS fS (IV .u8 (inoSec li))
      generalize w7.setRow gfS (IV .u8 (inoSec li)) = w8 at *
      refine (rdIno_back hli HI.out _).mono ?_; rintro e w9 ⟨rfl, hb2⟩
      have hbw := below_call hbw hb2 hbw.size
      obtain ⟨f1, zf1⟩ := hop hb2 f1
      obtain ⟨fS, zfS⟩ := hop hb2 fS
      clear hb2
      go_wp2_with fail
      have hbw := below_new hbw hbw.size (.cells (IV .i64 li) 43)
      obtain ⟨f1, zf1⟩ := hopA w9 (.cells (IV .i64 li) 43) f1
      obtain ⟨fS, zfS⟩ := hopA w9 (.cells (IV .i64 li) 43) fS
      generalize w9.alloc (.cells (IV .i64 li) 43) = w10 at *
      by_cases hP : PtrMay lp
      · have HP := Lib.hid hP
        clear hP
        refine (ptrSec_ok hlp HP.out _).mono ?_; rintro e w11 ⟨rfl, hb2⟩
        have hbw := below_call hbw hb2 hbw.size
        obtain ⟨f1, zf1⟩ := hop hb2 f1
        obtain ⟨fS, zfS⟩ := hop hb2 fS
        clear hb2
        go_wp2_with fail
        have hbw := below_setRow hbw (g := gfS) (by omega) (IV .u8 (ptrSecN lp 32))
        obtain ⟨f1, zf1⟩ := hopR f1 gfS (IV .u8 (ptrSecN lp 32)) (by omega)
        obtain ⟨fS, zfS⟩ := hopS fS (IV .u8 (ptrSecN lp 32))
        generalize w11.setRow gfS (IV .u8 (ptrSecN lp 32)) = w12 at *
        refine (rdPtr_back hlp HP.out _).mono ?_; rintro e w13 ⟨rfl, hb2⟩
        have hbw := below_call hbw hb2 hbw.size
        obtain ⟨f1, zf1⟩ := hop hb2 f1
        obtain ⟨fS, zfS⟩ := hop hb2 fS
        clear hb2
        go_wp2_with fail
        have hbw := below_new hbw hbw.size (.cells (IV .i64 lp) 49)
        obtain ⟨f1, zf1⟩ := hopA w13 (.cells (IV .i64 lp) 49) f1
        obtain ⟨fS, zfS⟩ := hopA w13 (.cells (IV .i64 lp) 49) fS
        generalize w13.alloc (.cells (IV .i64 lp) 49) = w14 at *
        by_cases hL : (slotR i nm).2 = 0
        · have HL := Lib.hid hL
          clear hL
          refine (sloSec_ok HL.out _).mono ?_; rintro e w15 ⟨rfl, hb2⟩
          have hbw := below_call hbw hb2 hbw.size
          obtain ⟨f1, zf1⟩ := hop hb2 f1
          obtain ⟨fS, zfS⟩ := hop hb2 fS
          clear hb2
          go_wp2_with fail
          have hbw := below_setRow hbw (g := gfS) (by omega) (IV .u8 (slotR i nm).1)
          obtain ⟨f1, zf1⟩ := hopR f1 gfS (IV .u8 (slotR i nm).1) (by omega)
          obtain ⟨fS, zfS⟩ := hopS fS (IV .u8 (slotR i nm).1)
          generalize w15.setRow gfS (IV .u8 (slotR i nm).1) = w16 at *
          refine (rdSlo_back HL.out _).mono ?_; rintro e w17 ⟨rfl, hb2⟩
          have hbw := below_call hbw hb2 hbw.size
          obtain ⟨f1, zf1⟩ := hop hb2 f1
          obtain ⟨fS, zfS⟩ := hop hb2 fS
          clear hb2
          go_wp2_with fail
          go_ret
          exact ⟨rfl, below_new hbw hbw.size (.cells #[.int .i64 i, .string nm] 23)⟩
        · have HL := Lib.hid hL
          clear hL
          refine (sloSec_no HL.out _).mono ?_; rintro e w15 ⟨rfl, hb2⟩
          have hbw := below_call hbw hb2 hbw.size
          obtain ⟨f1, zf1⟩ := hop hb2 f1
          obtain ⟨fS, zfS⟩ := hop hb2 fS
          clear hb2
          go_wp2_with fail
          have hbw := below_setRow hbw (g := gfS) (by omega) (IV .u8 (zl 128))
          obtain ⟨f1, zf1⟩ := hopR f1 gfS (IV .u8 (zl 128)) (by omega)
          obtain ⟨fS, zfS⟩ := hopS fS (IV .u8 (zl 128))
          generalize w15.setRow gfS (IV .u8 (zl 128)) = w16 at *
          refine (rdSlo_zero _).mono ?_; rintro e w17 ⟨rfl, hb2⟩
          have hbw := below_call hbw hb2 hbw.size
          obtain ⟨f1, zf1⟩ := hop hb2 f1
          obtain ⟨fS, zfS⟩ := hop hb2 fS
          clear hb2
          go_wp2_with fail
          go_ret
          exact ⟨rfl, below_new hbw hbw.size (.cells #[.int .i64 0, .string { data := #[] }] 23)⟩
      · have HP := Lib.hid hP
        clear hP
        refine (ptrSec_no hlp HP.out _).mono ?_; rintro e w11 ⟨rfl, hb2⟩
        have hbw := below_call hbw hb2 hbw.size
        obtain ⟨f1, zf1⟩ := hop hb2 f1
        obtain ⟨fS, zfS⟩ := hop hb2 fS
        clear hb2
        go_wp2_with fail
        have hbw := below_setRow hbw (g := gfS) (by omega) (IV .u8 (zl 128))
        obtain ⟨f1, zf1⟩ := hopR f1 gfS (IV .u8 (zl 128)) (by omega)
        obtain ⟨fS, zfS⟩ := hopS fS (IV .u8 (zl 128))
        generalize w11.setRow gfS (IV .u8 (zl 128)) = w12 at *
        refine (lreadPointers_any (zl 128) (zl_length 128) (bytes_zl 128) _).mono ?_; rintro e w13 ⟨rfl, hb2⟩
        have hbw := below_call hbw hb2 hbw.size
        obtain ⟨f1, zf1⟩ := hop hb2 f1
        obtain ⟨fS, zfS⟩ := hop hb2 fS
        clear hb2
        go_wp2_with fail
        have hbw := below_new hbw hbw.size (.cells (IV .i64 (rdPtr (zl 128))) 49)
        obtain ⟨f1, zf1⟩ := hopA w13 (.cells (IV .i64 (rdPtr (zl 128))) 49) f1
        obtain ⟨fS, zfS⟩ := hopA w13 (.cells (IV .i64 (rdPtr (zl 128))) 49) fS
        generalize w13.alloc (.cells (IV .i64 (rdPtr (zl 128))) 49) = w14 at *
        by_cases hL : (slotR i nm).2 = 0
        · have HL := Lib.hid hL
          clear hL
          refine (sloSec_ok HL.out _).mono ?_; rintro e w15 ⟨rfl, hb2⟩
          have hbw := below_call hbw hb2 hbw.size
          obtain ⟨f1, zf1⟩ := hop hb2 f1
          obtain ⟨fS, zfS⟩ := hop hb2 fS
          clear hb2
          go_wp2_with fail
          have hbw := below_setRow hbw (g := gfS) (by omega) (IV .u8 (slotR i nm).1)
          obtain ⟨f1, zf1⟩ := hopR f1 gfS (IV .u8 (slotR i nm).1) (by omega)
          obtain ⟨fS, zfS⟩ := hopS fS (IV .u8 (slotR i nm).1)
          generalize w15.setRow gfS (IV .u8 (slotR i nm).1) = w16 at *
          refine (rdSlo_back HL.out _).mono ?_; rintro e w17 ⟨rfl, hb2⟩
          have hbw := below_call hbw hb2 hbw.size
          obtain ⟨f1, zf1⟩ := hop hb2 f1
          obtain ⟨fS, zfS⟩ := hop hb2 fS
          clear hb2
          go_wp2_with fail
          go_ret
          exact ⟨rfl, below_new hbw hbw.size (.cells #[.int .i64 i, .string nm] 23)⟩
        · have HL := Lib.hid hL
          clear hL
          refine (sloSec_no HL.out _).mono ?_; rintro e w15 ⟨rfl, hb2⟩
          have hbw := below_call hbw hb2 hbw.size
          obtain ⟨f1, zf1⟩ := hop hb2 f1
          obtain ⟨fS, zfS⟩ := hop hb2 fS
          clear hb2
          go_wp2_with fail
          have hbw := below_setRow hbw (g := gfS) (by omega) (IV .u8 (zl 128))
          obtain ⟨f1, zf1⟩ := hopR f1 gfS (IV .u8 (zl 128)) (by omega)
          obtain ⟨fS, zfS⟩ := hopS fS (IV .u8 (zl 128))
          generalize w15.setRow gfS (IV .u8 (zl 128)) = w16 at *
          refine (rdSlo_zero _).mono ?_; rintro e w17 ⟨rfl, hb2⟩
          have hbw := below_call hbw hb2 hbw.size
          obtain ⟨f1, zf1⟩ := hop hb2 f1
          obtain ⟨fS, zfS⟩ := hop hb2 fS
          clear hb2
          go_wp2_with fail
          go_ret
          exact ⟨rfl, below_new hbw hbw.size (.cells #[.int .i64 0, .string { data := #[] }] 23)⟩
    · have HI := Lib.hid hI
      clear hI
      refine (linodeSector_no _ hli HI.out _).mono ?_; rintro e w7 ⟨rfl, hb2⟩
      have hbw := below_call hbw hb2 hbw.size
      obtain ⟨f1, zf1⟩ := hop hb2 f1
      obtain ⟨fS, zfS⟩ := hop hb2 fS
      clear hb2
      go_wp2_with fail
      have hbw := below_setRow hbw (g := gfS) (by omega) (IV .u8 (zl 128))
      obtain ⟨f1, zf1⟩ := hopR f1 gfS (IV .u8 (zl 128)) (by omega)
      obtain ⟨fS, zfS⟩ := hopS fS (IV .u8 (zl 128))
      generalize w7.setRow gfS (IV .u8 (zl 128)) = w8 at *
      refine (rdIno_zero _).mono ?_; rintro e w9 ⟨rfl, hb2⟩
      have hbw := below_call hbw hb2 hbw.size
      obtain ⟨f1, zf1⟩ := hop hb2 f1
      obtain ⟨fS, zfS⟩ := hop hb2 fS
      clear hb2
      go_wp2_with fail
      have hbw := below_new hbw hbw.size (.cells (IV .i64 (zl 18)) 43)
      obtain ⟨f1, zf1⟩ := hopA w9 (.cells (IV .i64 (zl 18)) 43) f1
      obtain ⟨fS, zfS⟩ := hopA w9 (.cells (IV .i64 (zl 18)) 43) fS
      generalize w9.alloc (.cells (IV .i64 (zl 18)) 43) = w10 at *
      by_cases hP : PtrMay lp
      · have HP := Lib.hid hP
        clear hP
        refine (ptrSec_ok hlp HP.out _).mono ?_; rintro e w11 ⟨rfl, hb2⟩
        have hbw := below_call hbw hb2 hbw.size
        obtain ⟨f1, zf1⟩ := hop hb2 f1
        obtain ⟨fS, zfS⟩ := hop hb2 fS
        clear hb2
        go_wp2_with fail
        have hbw := below_setRow hbw (g := gfS) (by omega) (IV .u8 (ptrSecN lp 32))
        obtain ⟨f1, zf1⟩ := hopR f1 gfS (IV .u8 (ptrSecN lp 32)) (by omega)
        obtain ⟨fS, zfS⟩ := hopS fS (IV .u8 (ptrSecN lp 32))
        generalize w11.setRow gfS (IV .u8 (ptrSecN lp 32)) = w12 at *
        refine (rdPtr_back hlp HP.out _).mono ?_; rintro e w13 ⟨rfl, hb2⟩
        have hbw := below_call hbw hb2 hbw.size
        obtain ⟨f1, zf1⟩ := hop hb2 f1
        obtain ⟨fS, zfS⟩ := hop hb2 fS
        clear hb2
        go_wp2_with fail
        have hbw := below_new hbw hbw.size (.cells (IV .i64 lp) 49)
        obtain ⟨f1, zf1⟩ := hopA w13 (.cells (IV .i64 lp) 49) f1
        obtain ⟨fS, zfS⟩ := hopA w13 (.cells (IV .i64 lp) 49) fS
        generalize w13.alloc (.cells (IV .i64 lp) 49) = w14 at *
        by_cases hL : (slotR i nm).2 = 0
        · have HL := Lib.hid hL
          clear hL
          refine (sloSec_ok HL.out _).mono ?_; rintro e w15 ⟨rfl, hb2⟩
          have hbw := below_call hbw hb2 hbw.size
          obtain ⟨f1, zf1⟩ := hop hb2 f1
          obtain ⟨fS, zfS⟩ := hop hb2 fS
          clear hb2
          go_wp2_with fail
          have hbw := below_setRow hbw (g := gfS) (by omega) (IV .u8 (slotR i nm).1)
          obtain ⟨f1, zf1⟩ := hopR f1 gfS (IV .u8 (slotR i nm).1) (by omega)
          obtain ⟨fS, zfS⟩ := hopS fS (IV .u8 (slotR i nm).1)
          generalize w15.setRow gfS (IV .u8 (slotR i nm).1) = w16 at *
          refine (rdSlo_back HL.out _).mono ?_; rintro e w17 ⟨rfl, hb2⟩
          have hbw := below_call hbw hb2 hbw.size
          obtain ⟨f1, zf1⟩ := hop hb2 f1
          obtain ⟨fS, zfS⟩ := hop hb2 fS
          clear hb2
          go_wp2_with fail
          go_ret
          exact ⟨rfl, below_new hbw hbw.size (.cells #[.int .i64 i, .string nm] 23)⟩
        · have HL := Lib.hid hL
          clear hL
          refine (sloSec_no HL.out _).mono ?_; rintro e w15 ⟨rfl, hb2⟩
          have hbw := below_call hbw hb2 hbw.size
          obtain ⟨f1, zf1⟩ := hop hb2 f1
          obtain ⟨fS, zfS⟩ := hop hb2 fS
          clear hb2
          go_wp2_with fail
          have hbw := below_setRow hbw (g := gfS) (by omega) (IV .u8 (zl 128))
          obtain ⟨f1, zf1⟩ := hopR f1 gfS (IV .u8 (zl 128)) (by omega)
          obtain ⟨fS, zfS⟩ := hopS fS (IV .u8 (zl 128))
          generalize w15.setRow gfS (IV .u8 (zl 128)) = w16 at *
          refine (rdSlo_zero _).mono ?_; rintro e w17 ⟨rfl, hb2⟩
          have hbw := below_call hbw hb2 hbw.size
          obtain ⟨f1, zf1⟩ := hop hb2 f1
          obtain ⟨fS, zfS⟩ := hop hb2 fS
          clear hb2
          go_wp2_with fail
          go_ret
          exact ⟨rfl, below_new hbw hbw.size (.cells #[.int .i64 0, .string { data := #[] }] 23)⟩
      · have HP := Lib.hid hP
        clear hP
        refine (ptrSec_no hlp HP.out _).mono ?_; rintro e w11 ⟨rfl, hb2⟩
        have hbw := below_call hbw hb2 hbw.size
        obtain ⟨f1, zf1⟩ := hop hb2 f1
        obtain ⟨fS, zfS⟩ := hop hb2 fS
        clear hb2
        go_wp2_with fail
        have hbw := below_setRow hbw (g := gfS) (by omega) (IV .u8 (zl 128))
        obtain ⟨f1, zf1⟩ := hopR f1 gfS (IV .u8 (zl 128)) (by omega)
        obtain ⟨fS, zfS⟩ := hopS fS (IV .u8 (zl 128))
        generalize w11.setRow gfS (IV .u8 (zl 128)) = w12 at *
        refine (lreadPointers_any (zl 128) (zl_length 128) (bytes_zl 128) _).mono ?_; rintro e w13 ⟨rfl, hb2⟩
        have hbw := below_call hbw hb2 hbw.size
        obtain ⟨f1, zf1⟩ := hop hb2 f1
        obtain ⟨fS, zfS⟩ := hop hb2 fS
        clear hb2
        go_wp2_with fail
        have hbw := below_new hbw hbw.size (.cells (IV .i64 (rdPtr (zl 128))) 49)
        obtain ⟨f1, zf1⟩ := hopA w13 (.cells (IV .i64 (rdPtr (zl 128))) 49) f1
        obtain ⟨fS, zfS⟩ := hopA w13 (.cells (IV .i64 (rdPtr (zl 128))) 49) fS
        generalize w13.alloc (.cells (IV .i64 (rdPtr (zl 128))) 49) = w14 at *
        by_cases hL : (slotR i nm).2 = 0
        · have HL := Lib.hid hL
          clear hL
          refine (sloSec_ok HL.out _).mono ?_; rintro e w15 ⟨rfl, hb2⟩
          have hbw := below_call hbw hb2 hbw.size
          obtain ⟨f1, zf1⟩ := hop hb2 f1
          obtain ⟨fS, zfS⟩ := hop hb2 fS
          clear hb2
          go_wp2_with fail
          have hbw := below_setRow hbw (g := gfS) (by omega) (IV .u8 (slotR i nm).1)
          obtain ⟨f1, zf1⟩ := hopR f1 gfS (IV .u8 (slotR i nm).1) (by omega)
          obtain ⟨fS, zfS⟩ := hopS fS (IV .u8 (slotR i nm).1)
          generalize w15.setRow gfS (IV .u8 (slotR i nm).1) = w16 at *
          refine (rdSlo_back HL.out _).mono ?_; rintro e w17 ⟨rfl, hb2⟩
          have hbw := below_call hbw hb2 hbw.size
          obtain ⟨f1, zf1⟩ := hop hb2 f1
          obtain ⟨fS, zfS⟩ := hop hb2 fS
          clear hb2
          go_wp2_with fail
          go_ret
          exact ⟨rfl, below_new hbw hbw.size (.cells #[.int .i64 i, .string nm] 23)⟩
        · have HL := Lib.hid hL
          clear hL
          refine (sloSec_no HL.out _).mono ?_; rintro e w15 ⟨rfl, hb2⟩
          have hbw := below_call hbw hb2 hbw.size
          obtain ⟨f1, zf1⟩ := hop hb2 f1
          obtain ⟨fS, zfS⟩ := hop hb2 fS
          clear hb2
          go_wp2_with fail
          have hbw := below_setRow hbw (g := gfS) (by omega) (IV .u8 (zl 128))
          obtain ⟨f1, zf1⟩ := hopR f1 gfS (IV .u8 (zl 128)) (by omega)
          obtain ⟨fS, zfS⟩ := hopS fS (IV .u8 (zl 128))
          generalize w15.setRow gfS (IV .u8 (zl 128)) = w16 at *
          refine (rdSlo_zero _).mono ?_; rintro e w17 ⟨rfl, hb2⟩
          have hbw := below_call hbw hb2 hbw.size
          obtain ⟨f1, zf1⟩ := hop hb2 f1
          obtain ⟨fS, zfS⟩ := hop hb2 fS
          clear hb2
          go_wp2_with fail
          go_ret
          exact ⟨rfl, below_new hbw hbw.size (.cells #[.int .i64 0, .string { data := #[] }] 23)⟩
  · have HS := Lib.hid hS
    clear hS
    refine (superSector_no _ _ _ HS.out HX.out.2 HY.out.2 HX.out.1 HY.out.1).mono ?_; rintro e w3 ⟨rfl, hb2⟩
    have hbw := below_call hbw hb2 hbw.size
    obtain ⟨f1, zf1⟩ := hop hb2 f1
    clear hb2
    go_wp2_with fail
    have hbw := below_new hbw hbw.size (.cells (IV .u8 (zl 128)) 25)
    obtain ⟨f1, zf1⟩ := hopA w3 (.cells (IV .u8 (zl 128)) 25) f1
    obtain ⟨fS, zfS⟩ := hopN w3 (.cells (IV .u8 (zl 128)) 25)
    generalize w3.alloc (.cells (IV .u8 (zl 128)) 25) = w4 at *
    generalize w3.heap.size = gfS at *
    refine (rdSup_zero _).mono ?_; rintro e w5 ⟨rfl, hb2⟩
    have hbw := below_call hbw hb2 hbw.size
    obtain ⟨f1, zf1⟩ := hop hb2 f1
    obtain ⟨fS, zfS⟩ := hop hb2 fS
    clear hb2
    go_wp2_with fail
    have hbw := below_new hbw hbw.size (.cells #[.int .i64 0, .int .i64 0] 34)
    obtain ⟨f1, zf1⟩ := hopA w5 (.cells #[.int .i64 0, .int .i64 0] 34) f1
    obtain ⟨fS, zfS⟩ := hopA w5 (.cells #[.int .i64 0, .int .i64 0] 34) fS
    generalize w5.alloc (.cells #[.int .i64 0, .int .i64 0] 34) = w6 at *
    by_cases hI : InoMay li
    · have HI := Lib.hid hI
      clear hI
      refine (linodeSector_ok _ hli HI.out _).mono ?_; rintro e w7 ⟨rfl, hb2⟩
      have hbw := below_call hbw hb2 hbw.size
      obtain ⟨f1, zf1⟩ := hop hb2 f1
      obtain ⟨fS, zfS⟩ := hop hb2 fS
      clear hb2
      go_wp2_with fail
      have hbw := below_setRow hbw (g := gfS) (by omega) (IV .u8 (inoSec li))
      obtain ⟨f1, zf1⟩ := hopR f1 gfS (IV .u8 (inoSec li)) (by omega)
      obtain ⟨fS, zfS⟩ := hopS fS (IV .u8 (inoSec li))
      generalize w7.setRow gfS (IV .u8 (inoSec li)) = w8 at *
      refine (rdIno_back hli HI.out _).mono ?_; rintro e w9 ⟨rfl, hb2⟩
      have hbw := below_call hbw hb2 hbw.size
      obtain ⟨f1, zf1⟩ := hop hb2 f1
      obtain ⟨fS, zfS⟩ := hop hb2 fS
      clear hb2
      go_wp2_with fail
      have hbw := below_new hbw hbw.size (.cells (IV .i64 li) 43)
      obtain ⟨f1, zf1⟩ := hopA w9 (.cells (IV .i64 li) 43) f1
      obtain ⟨fS, zfS⟩ := hopA w9 (.cells (IV .i64 li) 43) fS
      generalize w9.alloc (.cells (IV .i64 li) 43) = w10 at *
      by_cases hP : PtrMay lp
      · have HP := Lib.hid hP
        clear hP
        refine (ptrSec_ok hlp HP.out _).mono ?_; rintro e w11 ⟨rfl, hb2⟩
        have hbw := below_call hbw hb2 hbw.size
        obtain ⟨f1, zf1⟩ := hop hb2 f1
        obtain ⟨fS, zfS⟩ := hop hb2 fS
        clear hb2
        go_wp2_with fail
        have hbw := below_setRow hbw (g := gfS) (by omega) (IV .u8 (ptrSecN lp 32))
        obtain ⟨f1, zf1⟩ := hopR f1 gfS (IV .u8 (ptrSecN lp 32)) (by omega)
        obtain ⟨fS, zfS⟩ := hopS fS (IV .u8 (ptrSecN lp 32))
        generalize w11.setRow gfS (IV .u8 (ptrSecN lp 32)) = w12 at *
        refine (rdPtr_back hlp HP.out _).mono ?_; rintro e w13 ⟨rfl, hb2⟩
        have hbw := below_call hbw hb2 hbw.size
        obtain ⟨f1, zf1⟩ := hop hb2 f1
        obtain ⟨fS, zfS⟩ := hop hb2 fS
        clear hb2
        go_wp2_with fail
        have hbw := below_new hbw hbw.size (.cells (IV .i64 lp) 49)
        obtain ⟨f1, zf1⟩ := hopA w13 (.cells (IV .i64 lp) 49) f1
        obtain ⟨fS, zfS⟩ := hopA w13 (.cells (IV .i64 lp) 49) fS
        generalize w13.alloc (.cells (IV .i64 lp) 49) = w14 at *
        by_cases hL : (slotR i nm).2 = 0
        · have HL := Lib.hid hL
          clear hL
          refine (sloSec_ok HL.out _).mono ?_; rintro e w15 ⟨rfl, hb2⟩
          have hbw := below_call hbw hb2 hbw.size
          obtain ⟨f1, zf1⟩ := hop hb2 f1
          obtain ⟨fS, zfS⟩ := hop hb2 fS
          clear hb2
          go_wp2_with fail
          have hbw := below_setRow hbw (g := gfS) (by omega) (IV .u8 (slotR i nm).1)
          obtain ⟨f1, zf1⟩ := hopR f1 gfS (IV .u8 (slotR i nm).1) (by omega)
          obtain ⟨fS, zfS⟩ := hopS fS (IV .u8 (slotR i nm).1)
          generalize w15.setRow gfS (IV .u8 (slotR i nm).1) = w16 at *
          refine (rdSlo_back HL.out _).mono ?_; rintro e w17 ⟨rfl, hb2⟩
          have hbw := below_call hbw hb2 hbw.size
          obtain ⟨f1, zf1⟩ := hop hb2 f1
          obtain ⟨fS, zfS⟩ := hop hb2 fS
          clear hb2
          go_wp2_with fail
          go_ret
          exact ⟨rfl, below_new hbw hbw.size (.cells #[.int .i64 i, .string nm] 23)⟩
        · have HL := Lib.hid hL
          clear hL
          refine (sloSec_no HL.out _).mono ?_; rintro e w15 ⟨rfl, hb2⟩
          have hbw := below_call hbw hb2 hbw.size
          obtain ⟨f1, zf1⟩ := hop hb2 f1
          obtain ⟨fS, zfS⟩ := hop hb2 fS
          clear hb2
          go_wp2_with fail
          have hbw := below_setRow hbw (g := gfS) (by omega) (IV .u8 (zl 128))
          obtain ⟨f1, zf1⟩ := hopR f1 gfS (IV .u8 (zl 128)) (by omega)
          obtain ⟨fS, zfS⟩ := hopS fS (IV .u8 (zl 128))
          generalize w15.setRow gfS (IV .u8 (zl 128)) = w16 at *
          refine (rdSlo_zero _).mono ?_; rintro e w17 ⟨rfl, hb2⟩
          have hbw := below_call hbw hb2 hbw.size
          obtain ⟨f1, zf1⟩ := hop hb2 f1
          obtain ⟨fS, zfS⟩ := hop hb2 fS
          clear hb2
          go_wp2_with fail
          go_ret
          exact ⟨rfl, below_new hbw hbw.size (.cells #[.int .i64 0, .string { data := #[] }] 23)⟩
      · have HP := Lib.hid hP
        clear hP
        refine (ptrSec_no hlp HP.out _).mono ?_; rintro e w11 ⟨rfl, hb2⟩
        have hbw := below_call hbw hb2 hbw.size
        obtain ⟨f1, zf1⟩ := hop hb2 f1
        obtain ⟨fS, zfS⟩ := hop hb2 fS
        clear hb2
        go_wp2_with fail
        have hbw := below_setRow hbw (g := gfS) (by omega) (IV .u8 (zl 128))
        obtain ⟨f1, zf1⟩ := hopR f1 gfS (IV .u8 (zl 128)) (by omega)
        obtain ⟨fS, zfS⟩ := hopS fS (IV .u8 (zl 128))
        generalize w11.setRow gfS (IV .u8 (zl 128)) = w12 at *
        refine (lreadPointers_any (zl 128) (zl_length 128) (bytes_zl 128) _).mono ?_; rintro e w13 ⟨rfl, hb2⟩
        have hbw := below_call hbw hb2 hbw.size
        obtain ⟨f1, zf1⟩ := hop hb2 f1
        obtain ⟨fS, zfS⟩ := hop hb2 fS
        clear hb2
        go_wp2_with fail
        have hbw := below_new hbw hbw.size (.cells (IV .i64 (rdPtr (zl 128))) 49)
        obtain ⟨f1, zf1⟩ := hopA w13 (.cells (IV .i64 (rdPtr (zl 128))) 49) f1
        obtain ⟨fS, zfS⟩ := hopA w13 (.cells (IV .i64 (rdPtr (zl 128))) 49) fS
        generalize w13.alloc (.cells (IV .i64 (rdPtr (zl 128))) 49) = w14 at *
        by_cases hL : (slotR i nm).2 = 0
        · have HL := Lib.hid hL
          clear hL
          refine (sloSec_ok HL.out _).mono ?_; rintro e w15 ⟨rfl, hb2⟩
          have hbw := below_call hbw hb2 hbw.size
          obtain ⟨f1, zf1⟩ := hop hb2 f1
          obtain ⟨fS, zfS⟩ := hop hb2 fS
          clear hb2
          go_wp2_with fail
          have hbw := below_setRow hbw (g := gfS) (by omega) (IV .u8 (slotR i nm).1)
          obtain ⟨f1, zf1⟩ := hopR f1 gfS (IV .u8 (slotR i nm).1) (by omega)
          obtain ⟨fS, zfS⟩ := hopS fS (IV .u8 (slotR i nm).1)
          generalize w15.setRow gfS (IV .u8 (slotR i nm).1) = w16 at *
          refine (rdSlo_back HL.out _).mono ?_; rintro e w17 ⟨rfl, hb2⟩
          have hbw := below_call hbw hb2 hbw.size
          obtain ⟨f1, zf1⟩ := hop hb2 f1
          obtain ⟨fS, zfS⟩ := hop hb2 fS
          clear hb2
          go_wp2_with fail
          go_ret
          exact ⟨rfl, below_new hbw hbw.size (.cells #[.int .i64 i, .string nm] 23)⟩
        · have HL := Lib.hid hL
          clear hL
          refine (sloSec_no HL.out _).mono ?_; rintro e w15 ⟨rfl, hb2⟩
          have hbw := below_call hbw hb2 hbw.size
          obtain ⟨f1, zf1⟩ := hop hb2 f1
          obtain ⟨fS, zfS⟩ := hop hb2 fS
          clear hb2
          go_wp2_with fail
          have hbw := below_setRow hbw (g := gfS) (by omega) (IV .u8 (zl 128))
          obtain ⟨f1, zf1⟩ := hopR f1 gfS (IV .u8 (zl 128)) (by omega)
          obtain ⟨fS, zfS⟩ := hopS fS (IV .u8 (zl 128))
          generalize w15.setRow gfS (IV .u8 (zl 128)) = w16 at *
          refine (rdSlo_zero _).mono ?_; rintro e w17 ⟨rfl, hb2⟩
          have hbw := below_call hbw hb2 hbw.size
          obtain ⟨f1, zf1⟩ := hop hb2 f1
          obtain ⟨fS, zfS⟩ := hop hb2 fS
          clear hb2
          go_wp2_with fail
          go_ret
          exact ⟨rfl, below_new hbw hbw.size (.cells #[.int .i64 0, .string { data := #[] }] 23)⟩
    · have HI := Lib.hid hI
      clear hI
      refine (linodeSector_no _ hli HI.out _).mono ?_; rintro e w7 ⟨rfl, hb2⟩
      have hbw := below_call hbw hb2 hbw.size
      obtain ⟨f1, zf1⟩ := hop hb2 f1
      obtain ⟨fS, zfS⟩ := hop hb2 fS
      clear hb2
      go_wp2_with fail
      have hbw := below_setRow hbw (g := gfS) (by omega) (IV .u8 (zl 128))
      obtain ⟨f1, zf1⟩ := hopR f1 gfS (IV .u8 (zl 128)) (by omega)
      obtain ⟨fS, zfS⟩ := hopS fS (IV .u8 (zl 128))
      generalize w7.setRow gfS (IV .u8 (zl 128)) = w8 at *
      refine (rdIno_zero _).mono ?_; rintro e w9 ⟨rfl, hb2⟩
      have hbw := below_call hbw hb2 hbw.size
      obtain ⟨f1, zf1⟩ := hop hb2 f1
      obtain ⟨fS, zfS⟩ := hop hb2 fS
      clear hb2
      go_wp2_with fail
      have hbw := below_new hbw hbw.size (.cells (IV .i64 (zl 18)) 43)
      obtain ⟨f1, zf1⟩ := hopA w9 (.cells (IV .i64 (zl 18)) 43) f1
      obtain ⟨fS, zfS⟩ := hopA w9 (.cells (IV .i64 (zl 18)) 43) fS
      generalize w9.alloc (.cells (IV .i64 (zl 18)) 43) = w10 at *
      by_cases hP : PtrMay lp
      · have HP := Lib.hid hP
        clear hP
        refine (ptrSec_ok hlp HP.out _).mono ?_; rintro e w11 ⟨rfl, hb2⟩
        have hbw := below_call hbw hb2 hbw.size
        obtain ⟨f1, zf1⟩ := hop hb2 f1
        obtain ⟨fS, zfS⟩ := hop hb2 fS
        clear hb2
        go_wp2_with fail
        have hbw := below_setRow hbw (g := gfS) (by omega) (IV .u8 (ptrSecN lp 32))
        obtain ⟨f1, zf1⟩ := hopR f1 gfS (IV .u8 (ptrSecN lp 32)) (by omega)
        obtain ⟨fS, zfS⟩ := hopS fS (IV .u8 (ptrSecN lp 32))
        generalize w11.setRow gfS (IV .u8 (ptrSecN lp 32)) = w12 at *
        refine (rdPtr_back hlp HP.out _).mono ?_; rintro e w13 ⟨rfl, hb2⟩
        have hbw := below_call hbw hb2 hbw.size
        obtain ⟨f1, zf1⟩ := hop hb2 f1
        obtain ⟨fS, zfS⟩ := hop hb2 fS
        clear hb2
        go_wp2_with fail
        have hbw := below_new hbw hbw.size (.cells (IV .i64 lp) 49)
        obtain ⟨f1, zf1⟩ := hopA w13 (.cells (IV .i64 lp) 49) f1
        obtain ⟨fS, zfS⟩ := hopA w13 (.cells (IV .i64 lp) 49) fS
        generalize w13.alloc (.cells (IV .i64 lp) 49) = w14 at *
        by_cases hL : (slotR i nm).2 = 0
        · have HL := Lib.hid hL
          clear hL
          refine (sloSec_ok HL.out _).mono ?_; rintro e w15 ⟨rfl, hb2⟩
          have hbw := below_call hbw hb2 hbw.size
          obtain ⟨f1, zf1⟩ := hop hb2 f1
          obtain ⟨fS, zfS⟩ := hop hb2 fS
          clear hb2
          go_wp2_with fail
          have hbw := below_setRow hbw (g := gfS) (by omega) (IV .u8 (slotR i nm).1)
          obtain ⟨f1, zf1⟩ := hopR f1 gfS (IV .u8 (slotR i nm).1) (by omega)
          obtain ⟨fS, zfS⟩ := hopS fS (IV .u8 (slotR i nm).1)
          generalize w15.setRow gfS (IV .u8 (slotR i nm).1) = w16 at *
          refine (rdSlo_back HL.out _).mono ?_; rintro e w17 ⟨rfl, hb2⟩
          have hbw := below_call hbw hb2 hbw.size
          obtain ⟨f1, zf1⟩ := hop hb2 f1
          obtain ⟨fS, zfS⟩ := hop hb2 fS
          clear hb2
          go_wp2_with fail
          go_ret
          exact ⟨rfl, below_new hbw hbw.size (.cells #[.int .i64 i, .string nm] 23)⟩
        · have HL := Lib.hid hL
          clear hL
          refine (sloSec_no HL.out _).mono ?_; rintro e w15 ⟨rfl, hb2⟩
          have hbw := below_call hbw hb2 hbw.size
          obtain ⟨f1, zf1⟩ := hop hb2 f1
          obtain ⟨fS, zfS⟩ := hop hb2 fS
          clear hb2
          go_wp2_with fail
          have hbw := below_setRow hbw (g := gfS) (by omega) (IV .u8 (zl 128))
          obtain ⟨f1, zf1⟩ := hopR f1 gfS (IV .u8 (zl 128)) (by omega)
          obtain ⟨fS, zfS⟩ := hopS fS (IV .u8 (zl 128))
          generalize w15.setRow gfS (IV .u8 (zl 128)) = w16 at *
          refine (rdSlo_zero _).mono ?_; rintro e w17 ⟨rfl, hb2⟩
          have hbw := below_call hbw hb2 hbw.size
          obtain ⟨f1, zf1⟩ := hop hb2 f1
          obtain ⟨fS, zfS⟩ := hop hb2 fS
          clear hb2
          go_wp2_with fail
          go_ret
          exact ⟨rfl, below_new hbw hbw.size (.cells #[.int .i64 0, .string { data := #[] }] 23)⟩
      · have HP := Lib.hid hP
        clear hP
        refine (ptrSec_no hlp HP.out _).mono ?_; rintro e w11 ⟨rfl, hb2⟩
        have hbw := below_call hbw hb2 hbw.size
        obtain ⟨f1, zf1⟩ := hop hb2 f1
        obtain ⟨fS, zfS⟩ := hop hb2 fS
        clear hb2
        go_wp2_with fail
        have hbw := below_setRow hbw (g := gfS) (by omega) (IV .u8 (zl 128))
        obtain ⟨f1, zf1⟩ := hopR f1 gfS (IV .u8 (zl 128)) (by omega)
        obtain ⟨fS, zfS⟩ := hopS fS (IV .u8 (zl 128))
        generalize w11.setRow gfS (IV .u8 (zl 128)) = w12 at *
        refine (lreadPointers_any (zl 128) (zl_length 128) (bytes_zl 128) _).mono ?_; rintro e w13 ⟨rfl, hb2⟩
        have hbw := below_call hbw hb2 hbw.size
        obtain ⟨f1, zf1⟩ := hop hb2 f1
        obtain ⟨fS, zfS⟩ := hop hb2 fS
        clear hb2
        go_wp2_with fail
        have hbw := below_new hbw hbw.size (.cells (IV .i64 (rdPtr (zl 128))) 49)
        obtain ⟨f1, zf1⟩ := hopA w13 (.cells (IV .i64 (rdPtr (zl 128))) 49) f1
        obtain ⟨fS, zfS⟩ := hopA w13 (.cells (IV .i64 (rdPtr (zl 128))) 49) fS
        generalize w13.alloc (.cells (IV .i64 (rdPtr (zl 128))) 49) = w14 at *
        by_cases hL : (slotR i nm).2 = 0
        · have HL := Lib.hid hL
          clear hL
          refine (sloSec_ok HL.out _).mono ?_; rintro e w15 ⟨rfl, hb2⟩
          have hbw := below_call hbw hb2 hbw.size
          obtain ⟨f1, zf1⟩ := hop hb2 f1
          obtain ⟨fS, zfS⟩ := hop hb2 fS
          clear hb2
          go_wp2_with fail
          have hbw := below_setRow hbw (g := gfS) (by omega) (IV .u8 (slotR i nm).1)
          obtain ⟨f1, zf1⟩ := hopR f1 gfS (IV .u8 (slotR i nm).1) (by omega)
          obtain ⟨fS, zfS⟩ := hopS fS (IV .u8 (slotR i nm).1)
          generalize w15.setRow gfS (IV .u8 (slotR i nm).1) = w16 at *
          refine (rdSlo_back HL.out _).mono ?_; rintro e w17 ⟨rfl, hb2⟩
          have hbw := below_call hbw hb2 hbw.size
          obtain ⟨f1, zf1⟩ := hop hb2 f1
          obtain ⟨fS, zfS⟩ := hop hb2 fS
          clear hb2
          go_wp2_with fail
          go_ret
          exact ⟨rfl, below_new hbw hbw.size (.cells #[.int .i64 i, .string nm] 23)⟩
        · have HL := Lib.hid hL
          clear hL
          refine (sloSec_no HL.out _).mono ?_; rintro e w15 ⟨rfl, hb2⟩
          have hbw := below_call hbw hb2 hbw.size
          obtain ⟨f1, zf1⟩ := hop hb2 f1
          obtain ⟨fS, zfS⟩ := hop hb2 fS
          clear hb2
          go_wp2_with fail
          have hbw := below_setRow hbw (g := gfS) (by omega) (IV .u8 (zl 128))
          obtain ⟨f1, zf1⟩ := hopR f1 gfS (IV .u8 (zl 128)) (by omega)
          obtain ⟨fS, zfS⟩ := hopS fS (IV .u8 (zl 128))
          generalize w15.setRow gfS (IV .u8 (zl 128)) = w16 at *
          refine (rdSlo_zero _).mono ?_; rintro e w17 ⟨rfl, hb2⟩
          have hbw := below_call hbw hb2 hbw.size
          obtain ⟨f1, zf1⟩ := hop hb2 f1
          obtain ⟨fS, zfS⟩ := hop hb2 fS
          clear hb2
          go_wp2_with fail
          go_ret
          exact ⟨rfl, below_new hbw hbw.size (.cells #[.int .i64 0, .string { data := #[] }] 23)⟩
end Go.Proofs.Ythgiolofnkdfoaa
