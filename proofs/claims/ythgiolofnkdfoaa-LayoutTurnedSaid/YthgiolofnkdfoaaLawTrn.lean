/- One byte turned: the law's walk. -/
import Derived.Test.YthgiolofnkdfoaaTrn0
import Derived.Deep.CutRange
namespace Go.Proofs.Ythgiolofnkdfoaa
set_option linter.unusedSimpArgs false
set_option linter.unusedVariables false
open Go.RowKit

set_option maxHeartbeats 8000000 in
set_option maxRecDepth 100000 in
theorem layoutTurned_any (x y : Int) (li lp : List Int) (i : Int) (nm : ByteArray) (c m : Int) (w : World) (hx : In64 x) (hy : In64 y) (hli : li.length = 18) (hlp : lp.length = 32) (hc : (Lit.int .i64 c).wf = true) (hm : (Lit.int .u8 m).wf = true) :
    Calls Try.prog 10 #[.agg (thiC x y li lp i nm), .int .i64 c, .int .u8 m] w fun e w' => e = .returned (.bool true) ∧ Below w.heap.size w w' := by
  have HX := Lib.hid hx
  have HY := Lib.hid hy
  have HC := Lib.hid (bounds_i64 hc)
  have hm1 := (bounds_u8 hm).1
  have hm2 := (bounds_u8 hm).2
  clear hx hy hm hc
  go_enter Try.func10, Try.ntmps10
  go_wp2_with fail
  have hbw := ((Below.refl w.heap.size w).alloc (by simp) (.cells (thiC x y li lp i nm) 54))
  have f1 : hat (w.alloc (.cells (thiC x y li lp i nm) 54)) w.heap.size = some (.cells (thiC x y li lp i nm) 54) := by simp [go_sem]
  generalize (w.alloc (.cells (thiC x y li lp i nm) 54)) = w1 at *
  refine (known_true _).mono ?_; rintro e w2 ⟨rfl, hb2⟩
  have hbw := below_call hbw hb2 hbw.size
  obtain ⟨f1, zf1⟩ := hop hb2 f1
  clear hb2
  go_wp2_with fail
  obtain ⟨k, hk, hpick⟩ := pick_any c HC.out.1 HC.out.2
  refine (hpick _).mono ?_; rintro e w' ⟨rfl, rfl⟩
  go_upto_if 21 with fail
  go_cut [2] from 20 to 21 (fun s2 wx => ∃ M : Int, s2 = .int .u8 M ∧ 1 ≤ M ∧ M ≤ 255 ∧ wx = w2)
  case first =>
    by_cases h0 : m = 0
    · subst h0; go_wp2_with fail; go_meet; exact ⟨1, rfl, by omega, by omega, rfl⟩
    · have d0 : (m == 0) = false := by simpa using h0
      go_wp2_with fail; go_meet; exact ⟨m, rfl, by omega, by omega, rfl⟩
  case rest =>
  obtain ⟨M, rfl, hM1, hM2, rfl⟩ := hcut
  have HM := Lib.hid (And.intro hM1 hM2)
  go_wp2_with fail
  refine (lsup_any x y _ HX.out HY.out).mono ?_; rintro e w3 ⟨rfl, hb2⟩
  have hbw := below_call hbw hb2 hbw.size
  obtain ⟨f1, zf1⟩ := hop hb2 f1
  clear hb2
  go_wp2_with fail
  have hTl : ((supR x y).1.set k (bits BinOp.xor .u8 (nth (supR x y).1 k) M)).length = 128 := by rw [List.length_set]; exact supR_length x y
  have HT := Lib.hid (turn_bytes (sup_bytes x y) k M HM.out.1 HM.out.2)
  have hne : ((supR x y).1.set k (bits BinOp.xor .u8 (nth (supR x y).1 k) M)) ≠ (supR x y).1 := turn_ne (sup_bytes x y) (by rw [supR_length]; exact hk) HM.out.1 HM.out.2
  have HNE := Lib.hid hne
  clear hne
  have hbw := below_new hbw hbw.size (.cells (IV .u8 ((supR x y).1.set k (bits BinOp.xor .u8 (nth (supR x y).1 k) M))) 25)
  obtain ⟨f1, zf1⟩ := hopA w3 (.cells (IV .u8 ((supR x y).1.set k (bits BinOp.xor .u8 (nth (supR x y).1 k) M))) 25) f1
  obtain ⟨fS, zfS⟩ := hopN w3 (.cells (IV .u8 ((supR x y).1.set k (bits BinOp.xor .u8 (nth (supR x y).1 k) M))) 25)
  generalize w3.alloc (.cells (IV .u8 ((supR x y).1.set k (bits BinOp.xor .u8 (nth (supR x y).1 k) M))) 25) = w4 at *
  generalize w3.heap.size = gfS at *
  refine (lrdSup_any ((supR x y).1.set k (bits BinOp.xor .u8 (nth (supR x y).1 k) M)) hTl HT.out _).mono ?_; rintro e w5 ⟨rfl, hb2⟩
  have hbw := below_call hbw hb2 hbw.size
  obtain ⟨f1, zf1⟩ := hop hb2 f1
  obtain ⟨fS, zfS⟩ := hop hb2 fS
  clear hb2
  go_upto_region 10 with fail
  have hbw := below_new hbw hbw.size (.cells #[.int .i64 (rdSupR ((supR x y).1.set k (bits BinOp.xor .u8 (nth (supR x y).1 k) M))).1, .int .i64 (rdSupR ((supR x y).1.set k (bits BinOp.xor .u8 (nth (supR x y).1 k) M))).2.1] 34)
  obtain ⟨f1, zf1⟩ := hopA w5 (.cells #[.int .i64 (rdSupR ((supR x y).1.set k (bits BinOp.xor .u8 (nth (supR x y).1 k) M))).1, .int .i64 (rdSupR ((supR x y).1.set k (bits BinOp.xor .u8 (nth (supR x y).1 k) M))).2.1] 34) f1
  obtain ⟨fS, zfS⟩ := hopA w5 (.cells #[.int .i64 (rdSupR ((supR x y).1.set k (bits BinOp.xor .u8 (nth (supR x y).1 k) M))).1, .int .i64 (rdSupR ((supR x y).1.set k (bits BinOp.xor .u8 (nth (supR x y).1 k) M))).2.1] 34) fS
  obtain ⟨fa, zfa⟩ := hopN w5 (.cells #[.int .i64 (rdSupR ((supR x y).1.set k (bits BinOp.xor .u8 (nth (supR x y).1 k) M))).1, .int .i64 (rdSupR ((supR x y).1.set k (bits BinOp.xor .u8 (nth (supR x y).1 k) M))).2.1] 34)
  generalize w5.alloc (.cells #[.int .i64 (rdSupR ((supR x y).1.set k (bits BinOp.xor .u8 (nth (supR x y).1 k) M))).1, .int .i64 (rdSupR ((supR x y).1.set k (bits BinOp.xor .u8 (nth (supR x y).1 k) M))).2.1] 34) = w6 at *
  generalize w5.heap.size = gfa at *
  go_cut [51] from 40 to 50 (fun s51 wx => s51 = .bool false ∧ wx = w6)
  case first =>
    have hne := HNE.out
    by_cases hE : (supR x y).2 = 0
    · have HE := Lib.hid hE
      have d1 : ((supR x y).2 == 0) = true := by simpa using hE
      clear hE
      by_cases hF : (rdSupR ((supR x y).1.set k (bits BinOp.xor .u8 (nth (supR x y).1 k) M))).2.2 = 0
      · have HF := Lib.hid hF
        have d2 : ((rdSupR ((supR x y).1.set k (bits BinOp.xor .u8 (nth (supR x y).1 k) M))).2.2 == 0) = true := by simpa using hF
        clear hF
        have hn := sup_turned (sup_yes HE.out) (by rw [← (show (supR x y).1 = supSec x y by simp only [supR_yes (sup_yes HE.out)])]; exact hne) HF.out
        by_cases h1 : (rdSupR ((supR x y).1.set k (bits BinOp.xor .u8 (nth (supR x y).1 k) M))).1 = x
        · have h2 : ¬ (rdSupR ((supR x y).1.set k (bits BinOp.xor .u8 (nth (supR x y).1 k) M))).2.1 = y := fun h => hn ⟨h1, h⟩
          have d3 : ((rdSupR ((supR x y).1.set k (bits BinOp.xor .u8 (nth (supR x y).1 k) M))).1 == x) = true := by simpa using h1
          have d4 : ((rdSupR ((supR x y).1.set k (bits BinOp.xor .u8 (nth (supR x y).1 k) M))).2.1 == y) = false := by simpa using h2
          clear h1 hn
          go_wp2_with fail
          go_meet
          exact ⟨rfl, rfl⟩
        · have d3 : ((rdSupR ((supR x y).1.set k (bits BinOp.xor .u8 (nth (supR x y).1 k) M))).1 == x) = false := by simpa using h1
          clear hn
          go_wp2_with fail
          go_meet
          exact ⟨rfl, rfl⟩
      · have d2 : ((rdSupR ((supR x y).1.set k (bits BinOp.xor .u8 (nth (supR x y).1 k) M))).2.2 == 0) = false := by simpa using hF
        go_wp2_with fail
        go_meet
        exact ⟨rfl, rfl⟩
    · have d1 : ((supR x y).2 == 0) = false := by simpa using hE
      go_wp2_with fail
      go_meet
      exact ⟨rfl, rfl⟩
  case rest =>
  obtain ⟨rfl, rfl⟩ := hcut
  clear fa zfa HNE HT hTl
  go_wp2_with fail
  refine (lino_any li hli _).mono ?_; rintro e w7 ⟨rfl, hb2⟩
  have hbw := below_call hbw hb2 hbw.size
  obtain ⟨f1, zf1⟩ := hop hb2 f1
  obtain ⟨fS, zfS⟩ := hop hb2 fS
  clear hb2
  go_wp2_with fail
  have hTl : ((inoR li).1.set k (bits BinOp.xor .u8 (nth (inoR li).1 k) M)).length = 128 := by rw [List.length_set]; exact inoR_length li
  have HT := Lib.hid (turn_bytes (ino_bytes li) k M HM.out.1 HM.out.2)
  have hne : ((inoR li).1.set k (bits BinOp.xor .u8 (nth (inoR li).1 k) M)) ≠ (inoR li).1 := turn_ne (ino_bytes li) (by rw [inoR_length]; exact hk) HM.out.1 HM.out.2
  have HNE := Lib.hid hne
  clear hne
  have hbw := below_setRow hbw (g := gfS) (by omega) (IV .u8 (inoR li).1)
  obtain ⟨f1, zf1⟩ := hopR f1 gfS (IV .u8 (inoR li).1) (by omega)
  obtain ⟨fS, zfS⟩ := hopS fS (IV .u8 (inoR li).1)
  generalize w7.setRow gfS (IV .u8 (inoR li).1) = w8 at *
  have hbw := hbw.setCell (p := ⟨gfS, k, none⟩) (show w.heap.size ≤ gfS by omega) (.int .u8 (bits BinOp.xor .u8 (nth (inoR li).1 k) M))
  obtain ⟨f1, zf1⟩ := hopCo f1 gfS k (.int .u8 (bits BinOp.xor .u8 (nth (inoR li).1 k) M)) (by omega)
  obtain ⟨fS, zfS⟩ := hopC fS k (bits BinOp.xor .u8 (nth (inoR li).1 k) M)
  generalize w8.setCell ⟨gfS, k, none⟩ (.int .u8 (bits BinOp.xor .u8 (nth (inoR li).1 k) M)) = w9 at *
  refine (lrdIno_any ((inoR li).1.set k (bits BinOp.xor .u8 (nth (inoR li).1 k) M)) hTl HT.out _).mono ?_; rintro e w10 ⟨rfl, hb2⟩
  have hbw := below_call hbw hb2 hbw.size
  obtain ⟨f1, zf1⟩ := hop hb2 f1
  obtain ⟨fS, zfS⟩ := hop hb2 fS
  clear hb2
  go_upto_region 15 with fail
  have hbw := below_new hbw hbw.size (.cells (IV .i64 (rdInoR ((inoR li).1.set k (bits BinOp.xor .u8 (nth (inoR li).1 k) M))).1) 43)
  obtain ⟨f1, zf1⟩ := hopA w10 (.cells (IV .i64 (rdInoR ((inoR li).1.set k (bits BinOp.xor .u8 (nth (inoR li).1 k) M))).1) 43) f1
  obtain ⟨fS, zfS⟩ := hopA w10 (.cells (IV .i64 (rdInoR ((inoR li).1.set k (bits BinOp.xor .u8 (nth (inoR li).1 k) M))).1) 43) fS
  obtain ⟨fa, zfa⟩ := hopN w10 (.cells (IV .i64 (rdInoR ((inoR li).1.set k (bits BinOp.xor .u8 (nth (inoR li).1 k) M))).1) 43)
  generalize w10.alloc (.cells (IV .i64 (rdInoR ((inoR li).1.set k (bits BinOp.xor .u8 (nth (inoR li).1 k) M))).1) 43) = w11 at *
  generalize w10.heap.size = gfa at *
  go_cut [81] from 70 to 80 (fun s81 wx => s81 = .bool false ∧ wx = w11)
  case first =>
    have hne := HNE.out
    by_cases hE : (inoR li).2 = 0
    · have HE := Lib.hid hE
      have d1 : ((inoR li).2 == 0) = true := by simpa using hE
      clear hE
      by_cases hF : (rdInoR ((inoR li).1.set k (bits BinOp.xor .u8 (nth (inoR li).1 k) M))).2 = 0
      · have HF := Lib.hid hF
        have d2 : ((rdInoR ((inoR li).1.set k (bits BinOp.xor .u8 (nth (inoR li).1 k) M))).2 == 0) = true := by simpa using hF
        clear hF
        have hn := ino_turned (l := li) (by rw [← (show (inoR li).1 = inoSec li by simp only [inoR_yes (ino_yes HE.out)])]; exact hne) HF.out
        · have d3 : decide ((rdInoR ((inoR li).1.set k (bits BinOp.xor .u8 (nth (inoR li).1 k) M))).1 = li) = false := by simpa using hn
          clear hn
          go_wp2_with fail
          go_meet
          exact ⟨rfl, rfl⟩
      · have d2 : ((rdInoR ((inoR li).1.set k (bits BinOp.xor .u8 (nth (inoR li).1 k) M))).2 == 0) = false := by simpa using hF
        go_wp2_with fail
        go_meet
        exact ⟨rfl, rfl⟩
    · have d1 : ((inoR li).2 == 0) = false := by simpa using hE
      go_wp2_with fail
      go_meet
      exact ⟨rfl, rfl⟩
  case rest =>
  obtain ⟨rfl, rfl⟩ := hcut
  clear fa zfa HNE HT hTl
  go_wp2_with fail
  refine (lptr_any lp hlp _).mono ?_; rintro e w12 ⟨rfl, hb2⟩
  have hbw := below_call hbw hb2 hbw.size
  obtain ⟨f1, zf1⟩ := hop hb2 f1
  obtain ⟨fS, zfS⟩ := hop hb2 fS
  clear hb2
  go_wp2_with fail
  have hTl : ((ptrR lp).1.set k (bits BinOp.xor .u8 (nth (ptrR lp).1 k) M)).length = 128 := by rw [List.length_set]; exact ptrR_length lp
  have HT := Lib.hid (turn_bytes (ptr_bytes lp) k M HM.out.1 HM.out.2)
  have hne : ((ptrR lp).1.set k (bits BinOp.xor .u8 (nth (ptrR lp).1 k) M)) ≠ (ptrR lp).1 := turn_ne (ptr_bytes lp) (by rw [ptrR_length]; exact hk) HM.out.1 HM.out.2
  have HNE := Lib.hid hne
  clear hne
  have hbw := below_setRow hbw (g := gfS) (by omega) (IV .u8 (ptrR lp).1)
  obtain ⟨f1, zf1⟩ := hopR f1 gfS (IV .u8 (ptrR lp).1) (by omega)
  obtain ⟨fS, zfS⟩ := hopS fS (IV .u8 (ptrR lp).1)
  generalize w12.setRow gfS (IV .u8 (ptrR lp).1) = w13 at *
  have hbw := hbw.setCell (p := ⟨gfS, k, none⟩) (show w.heap.size ≤ gfS by omega) (.int .u8 (bits BinOp.xor .u8 (nth (ptrR lp).1 k) M))
  obtain ⟨f1, zf1⟩ := hopCo f1 gfS k (.int .u8 (bits BinOp.xor .u8 (nth (ptrR lp).1 k) M)) (by omega)
  obtain ⟨fS, zfS⟩ := hopC fS k (bits BinOp.xor .u8 (nth (ptrR lp).1 k) M)
  generalize w13.setCell ⟨gfS, k, none⟩ (.int .u8 (bits BinOp.xor .u8 (nth (ptrR lp).1 k) M)) = w14 at *
  refine (lreadPointers_any ((ptrR lp).1.set k (bits BinOp.xor .u8 (nth (ptrR lp).1 k) M)) hTl HT.out _).mono ?_; rintro e w15 ⟨rfl, hb2⟩
  have hbw := below_call hbw hb2 hbw.size
  obtain ⟨f1, zf1⟩ := hop hb2 f1
  obtain ⟨fS, zfS⟩ := hop hb2 fS
  clear hb2
  go_upto_region 20 with fail
  have hbw := below_new hbw hbw.size (.cells (IV .i64 (rdPtr ((ptrR lp).1.set k (bits BinOp.xor .u8 (nth (ptrR lp).1 k) M)))) 49)
  obtain ⟨f1, zf1⟩ := hopA w15 (.cells (IV .i64 (rdPtr ((ptrR lp).1.set k (bits BinOp.xor .u8 (nth (ptrR lp).1 k) M)))) 49) f1
  obtain ⟨fS, zfS⟩ := hopA w15 (.cells (IV .i64 (rdPtr ((ptrR lp).1.set k (bits BinOp.xor .u8 (nth (ptrR lp).1 k) M)))) 49) fS
  obtain ⟨fa, zfa⟩ := hopN w15 (.cells (IV .i64 (rdPtr ((ptrR lp).1.set k (bits BinOp.xor .u8 (nth (ptrR lp).1 k) M)))) 49)
  generalize w15.alloc (.cells (IV .i64 (rdPtr ((ptrR lp).1.set k (bits BinOp.xor .u8 (nth (ptrR lp).1 k) M)))) 49) = w16 at *
  generalize w15.heap.size = gfa at *
  go_cut [104] from 97 to 103 (fun s104 wx => s104 = .bool false ∧ wx = w16)
  case first =>
    have hne := HNE.out
    by_cases hE : (ptrR lp).2 = 0
    · have HE := Lib.hid hE
      have d1 : ((ptrR lp).2 == 0) = true := by simpa using hE
      clear hE
      have hn := ptr_turned (x := lp) hTl HT.out (by rw [← (show (ptrR lp).1 = ptrSecN lp 32 by simp only [ptrR_yes (ptr_yes HE.out)])]; exact hne)
      · have d3 : decide (rdPtr ((ptrR lp).1.set k (bits BinOp.xor .u8 (nth (ptrR lp).1 k) M)) = lp) = false := by simpa using hn
        clear hn
        go_wp2_with fail
        go_meet
        exact ⟨rfl, rfl⟩
    · have d1 : ((ptrR lp).2 == 0) = false := by simpa using hE
      go_wp2_with fail
      go_meet
      exact ⟨rfl, rfl⟩
  case rest =>
  obtain ⟨rfl, rfl⟩ := hcut
  clear fa zfa HNE HT hTl
  go_wp2_with fail
  refine (lslo_any i nm _).mono ?_; rintro e w17 ⟨rfl, hb2⟩
  have hbw := below_call hbw hb2 hbw.size
  obtain ⟨f1, zf1⟩ := hop hb2 f1
  obtain ⟨fS, zfS⟩ := hop hb2 fS
  clear hb2
  go_wp2_with fail
  have hTl : ((slotR i nm).1.set k (bits BinOp.xor .u8 (nth (slotR i nm).1 k) M)).length = 128 := by rw [List.length_set]; exact slotR_length i nm
  have HT := Lib.hid (turn_bytes (slot_bytes i nm) k M HM.out.1 HM.out.2)
  have hne : ((slotR i nm).1.set k (bits BinOp.xor .u8 (nth (slotR i nm).1 k) M)) ≠ (slotR i nm).1 := turn_ne (slot_bytes i nm) (by rw [slotR_length]; exact hk) HM.out.1 HM.out.2
  have HNE := Lib.hid hne
  clear hne
  have hbw := below_setRow hbw (g := gfS) (by omega) (IV .u8 (slotR i nm).1)
  obtain ⟨f1, zf1⟩ := hopR f1 gfS (IV .u8 (slotR i nm).1) (by omega)
  obtain ⟨fS, zfS⟩ := hopS fS (IV .u8 (slotR i nm).1)
  generalize w17.setRow gfS (IV .u8 (slotR i nm).1) = w18 at *
  have hbw := hbw.setCell (p := ⟨gfS, k, none⟩) (show w.heap.size ≤ gfS by omega) (.int .u8 (bits BinOp.xor .u8 (nth (slotR i nm).1 k) M))
  obtain ⟨f1, zf1⟩ := hopCo f1 gfS k (.int .u8 (bits BinOp.xor .u8 (nth (slotR i nm).1 k) M)) (by omega)
  obtain ⟨fS, zfS⟩ := hopC fS k (bits BinOp.xor .u8 (nth (slotR i nm).1 k) M)
  generalize w18.setCell ⟨gfS, k, none⟩ (.int .u8 (bits BinOp.xor .u8 (nth (slotR i nm).1 k) M)) = w19 at *
  refine (lrdSlo_any ((slotR i nm).1.set k (bits BinOp.xor .u8 (nth (slotR i nm).1 k) M)) hTl HT.out _).mono ?_; rintro e w20 ⟨rfl, hb2⟩
  have hbw := below_call hbw hb2 hbw.size
  obtain ⟨f1, zf1⟩ := hop hb2 f1
  obtain ⟨fS, zfS⟩ := hop hb2 fS
  clear hb2
  go_upto_region 25 with fail
  have hbw := below_new hbw hbw.size (.cells #[.int .i64 (rdSloR ((slotR i nm).1.set k (bits BinOp.xor .u8 (nth (slotR i nm).1 k) M))).1, .string (rdSloR ((slotR i nm).1.set k (bits BinOp.xor .u8 (nth (slotR i nm).1 k) M))).2.1] 23)
  obtain ⟨f1, zf1⟩ := hopA w20 (.cells #[.int .i64 (rdSloR ((slotR i nm).1.set k (bits BinOp.xor .u8 (nth (slotR i nm).1 k) M))).1, .string (rdSloR ((slotR i nm).1.set k (bits BinOp.xor .u8 (nth (slotR i nm).1 k) M))).2.1] 23) f1
  obtain ⟨fS, zfS⟩ := hopA w20 (.cells #[.int .i64 (rdSloR ((slotR i nm).1.set k (bits BinOp.xor .u8 (nth (slotR i nm).1 k) M))).1, .string (rdSloR ((slotR i nm).1.set k (bits BinOp.xor .u8 (nth (slotR i nm).1 k) M))).2.1] 23) fS
  obtain ⟨fa, zfa⟩ := hopN w20 (.cells #[.int .i64 (rdSloR ((slotR i nm).1.set k (bits BinOp.xor .u8 (nth (slotR i nm).1 k) M))).1, .string (rdSloR ((slotR i nm).1.set k (bits BinOp.xor .u8 (nth (slotR i nm).1 k) M))).2.1] 23)
  generalize w20.alloc (.cells #[.int .i64 (rdSloR ((slotR i nm).1.set k (bits BinOp.xor .u8 (nth (slotR i nm).1 k) M))).1, .string (rdSloR ((slotR i nm).1.set k (bits BinOp.xor .u8 (nth (slotR i nm).1 k) M))).2.1] 23) = w21 at *
  generalize w20.heap.size = gfa at *
  have hne := HNE.out
  by_cases hE : (slotR i nm).2 = 0
  · have HE := Lib.hid hE
    have d1 : ((slotR i nm).2 == 0) = true := by simpa using hE
    clear hE
    by_cases hF : (rdSloR ((slotR i nm).1.set k (bits BinOp.xor .u8 (nth (slotR i nm).1 k) M))).2.2 = 0
    · have HF := Lib.hid hF
      have d2 : ((rdSloR ((slotR i nm).1.set k (bits BinOp.xor .u8 (nth (slotR i nm).1 k) M))).2.2 == 0) = true := by simpa using hF
      clear hF
      have hn := slo_turned hne HF.out
      by_cases h1 : (rdSloR ((slotR i nm).1.set k (bits BinOp.xor .u8 (nth (slotR i nm).1 k) M))).1 = i
      · have h2 : ¬ (rdSloR ((slotR i nm).1.set k (bits BinOp.xor .u8 (nth (slotR i nm).1 k) M))).2.1 = nm := fun h => hn ⟨h1, h⟩
        have d3 : ((rdSloR ((slotR i nm).1.set k (bits BinOp.xor .u8 (nth (slotR i nm).1 k) M))).1 == i) = true := by simpa using h1
        have d4 : ((rdSloR ((slotR i nm).1.set k (bits BinOp.xor .u8 (nth (slotR i nm).1 k) M))).2.1.toList == nm.toList) = false := by simpa using fun h => h2 (str_inj h)
        clear hn
        go_wp2_with fail
        go_ret
        exact ⟨rfl, hbw⟩
      · have d3 : ((rdSloR ((slotR i nm).1.set k (bits BinOp.xor .u8 (nth (slotR i nm).1 k) M))).1 == i) = false := by simpa using h1
        clear hn
        go_wp2_with fail
        go_ret
        exact ⟨rfl, hbw⟩
    · have d2 : ((rdSloR ((slotR i nm).1.set k (bits BinOp.xor .u8 (nth (slotR i nm).1 k) M))).2.2 == 0) = false := by simpa using hF
      go_wp2_with fail
      go_ret
      exact ⟨rfl, hbw⟩
  · have d1 : ((slotR i nm).2 == 0) = false := by simpa using hE
    go_wp2_with fail
    go_ret
    exact ⟨rfl, hbw⟩
end Go.Proofs.Ythgiolofnkdfoaa
