/- Slots of any content, both sides; ReadSlot of layout. -/
import Derived.Test.YthgiolofnkdfoaaSlo2
import Derived.Laws.IdiomStrings
namespace Go.Proofs.Ythgiolofnkdfoaa
set_option linter.unusedSimpArgs false
set_option linter.unusedVariables false
open Go.RowKit

theorem slotSec_length (x : Int) (s : ByteArray) (h : s.size ≤ 40) : (slotSec x s).length = 128 := by
  have hpl : (putL (zl 128) 5 (nmL s)).length = 128 := by rw [putL_length _ _ _ (by simp; omega)]; simp
  simp [slotSec, hpl]
@[go_sem, simp] theorem slotR_length (x : Int) (s : ByteArray) : (slotR x s).1.length = 128 := by
  unfold slotR
  split
  · simp
  · split
    · rename_i h; exact slotSec_length x s h.size.2
    · simp
theorem lslotSector_any (x : Int) (s : ByteArray) (w : World) :
    Calls Try.prog 12 #[.agg #[.int .i64 x, .string s]] w fun e w' => e = .returned (slotV x s) ∧ Below w.heap.size w w' := by
  by_cases hz : x = 0 ∧ s.toList = []
  · obtain ⟨rfl, hs⟩ := hz
    have e : slotR 0 s = (zl 128, 0) := by unfold slotR; rw [if_pos ⟨rfl, hs⟩]
    unfold slotV; rw [e]
    exact lslotSector_zero s w hs
  · by_cases h : SlotMay x s
    · have e : slotR x s = (slotSec x s, 0) := by unfold slotR; rw [if_neg hz, if_pos h]
      unfold slotV; rw [e]
      exact lslotSector_ok x s w h
    · have e : slotR x s = (zl 128, 63) := by unfold slotR; rw [if_neg hz, if_neg h]
      unfold slotV; rw [e]
      exact lslotSector_no x s w (fun h1 h2 => hz ⟨h1, h2⟩) h
theorem rslotSector_any (x : Int) (s : ByteArray) (w : World) (hss : s.size < 4611686018427387904) :
    Calls Try.prog 13 #[.agg #[.int .i64 x, .string s]] w fun e w' => e = .returned (slotV x s) ∧ Below w.heap.size w w' := by
  by_cases hz : x = 0 ∧ s.toList = []
  · obtain ⟨rfl, hs⟩ := hz
    have e : slotR 0 s = (zl 128, 0) := by unfold slotR; rw [if_pos ⟨rfl, hs⟩]
    unfold slotV; rw [e]
    exact rslotSector_zero s w hs
  · by_cases h : SlotMay x s
    · have e : slotR x s = (slotSec x s, 0) := by unfold slotR; rw [if_neg hz, if_pos h]
      unfold slotV; rw [e]
      exact rslotSector_ok x s w h
    · have e : slotR x s = (zl 128, 63) := by unfold slotR; rw [if_neg hz, if_neg h]
      unfold slotV; rw [e]
      exact rslotSector_no x s w (fun h1 h2 => hz ⟨h1, h2⟩) h hss

def rawNm (s : List Int) (n : Nat) : List UInt8 := (List.range n).map fun i => UInt8.ofNat (nth s (5 + i)).toNat
@[simp] theorem rawNm_length (s : List Int) (n : Nat) : (rawNm s n).length = n := by simp [rawNm]
/-- the name that a slot's sector has -/
def rdNm (s : List Int) : ByteArray := if nth s 4 ≤ 40 then ⟨(rawNm s (nth s 4).toNat).toArray⟩ else ⟨#[]⟩
def rdSlotV (s : List Int) : Value :=
  if slotR (getB s 0 4) (rdNm s) = (s, 0) then .tuple #[.agg #[.int .i64 (getB s 0 4), .string (rdNm s)], .int .i64 0]
  else .tuple #[.agg #[.int .i64 0, .string { data := #[] }], .int .i64 63]
theorem u8_back {x : Int} (h0 : 0 ≤ x) (h1 : x < 256) : ((UInt8.ofNat x.toNat).toNat : Int) = x := by
  simp; omega

set_option maxHeartbeats 1000000 in
set_option maxRecDepth 100000 in
theorem lreadSlot_any (s : List Int) (hs : s.length = 128) (hb : Bytes s) (w : World) :
    Calls Try.prog 14 #[.agg (IV .u8 s)] w fun e w' => e = .returned (rdSlotV s) ∧ Below w.heap.size w w' := by
  have HBY := Lib.hid hb
  obtain ⟨n0, n1⟩ := hb.at 4
  have g41 : getL s 4 1 = nth s 4 := by
    have h := getB_lt hb 1 4
    have e : getB s 4 1 = nth s 4 := by simp [getB]
    rw [getL, if_neg (by omega), e]
  have G41 := Lib.hid g41
  have hx0 := getB_nonneg hb 4 0
  have hx1 : getB s 0 4 < 4294967296 := getB_lt hb 4 0
  clear hb g41
  go_enter Try.func14, Try.ntmps14
  have hbw := ((Below.refl w.heap.size w).alloc (Nat.le_refl _) (.cells (IV .u8 s) 25)).alloc (by simp) (.cells #[.int .i64 0, .string { data := #[] }] 23)
  have f1 : hat ((w.alloc (.cells (IV .u8 s) 25)).alloc (.cells #[.int .i64 0, .string { data := #[] }] 23)) w.heap.size = some (.cells (IV .u8 s) 25) := by simp [go_sem]
  have f2 : hat ((w.alloc (.cells (IV .u8 s) 25)).alloc (.cells #[.int .i64 0, .string { data := #[] }] 23)) (w.heap.size + 1) = some (.cells #[.int .i64 0, .string { data := #[] }] 23) := by simp [go_sem]
  go_wp2_with fail
  refine (lget4 s hs HBY.out 0 _ (by omega)).mono ?_; rintro e w3 ⟨rfl, hb3⟩
  have hbw := below_call hbw hb3 hbw.size
  obtain ⟨f1, z1⟩ := hop hb3 f1
  obtain ⟨f2, z2⟩ := hop hb3 f2
  clear hb3
  go_wp2_with fail
  have hbw := below_new hbw (by omega) (.cells #[.int .i64 (getB s 0 4), .string { data := #[] }] 23)
  obtain ⟨f1, z1⟩ := hopA w3 (.cells #[.int .i64 (getB s 0 4), .string { data := #[] }] 23) f1
  obtain ⟨f2, z2⟩ := hopA w3 (.cells #[.int .i64 (getB s 0 4), .string { data := #[] }] 23) f2
  obtain ⟨f4, z4⟩ := hopN w3 (.cells #[.int .i64 (getB s 0 4), .string { data := #[] }] 23)
  generalize w3.alloc (.cells #[.int .i64 (getB s 0 4), .string { data := #[] }] 23) = w4 at *
  have hg4 : w.heap.size + 1 < w3.heap.size := by omega
  generalize w3.heap.size = g4 at *
  refine (lget_any s hs HBY.out 4 1 _ (by omega) (by omega) (by omega)).mono ?_; rintro e w5 ⟨rfl, hb3⟩
  rw [G41.out]
  have hbw := below_call hbw hb3 hbw.size
  obtain ⟨f1, z1⟩ := hop hb3 f1
  obtain ⟨f2, z2⟩ := hop hb3 f2
  obtain ⟨f4, z4⟩ := hop hb3 f4
  clear hb3
  obtain ⟨n, hn⟩ : ∃ n : Nat, nth s 4 = n := ⟨(nth s 4).toNat, by omega⟩
  have HNN := Lib.hid hn
  rw [hn] at n0 n1 ⊢
  clear hn
  by_cases h40 : n ≤ 40
  · have h40' : (n : Int) ≤ 40 := by omega
    have h128 : 5 + (n : Int) ≤ 128 := by omega
    have hsl : ∀ w', (Instr.sliceAt 25 (.pointer (some ⟨w.heap.size, 0, none⟩)) (some (.int .i64 5)) (some (.int .i64 (5 + (n : Int)))) none).run Try.prog w' = .ok (.slice (some ⟨w.heap.size, 5, none⟩) n 123) w' := fun w' => by
      rw [sl_lohi w.heap.size 0 5 (5 + n) (by omega) (by omega) (by omega) h128 w']
      rw [show ((5 : Int) + (n : Int)).toNat - (5 : Int).toNat = n by omega]
      rfl
    have hcv : (convert 59 9 (.slice (some ⟨w.heap.size, 5, none⟩) n 123)).run Try.prog w5 = .ok (.string ⟨(rawNm s n).toArray⟩) w5 := by
      have h := run_convert_bytes_back (P := Try.prog) w5 59 9 5 ⟨w.heap.size, 5, none⟩ 123 (rawNm s n) Try.underlying59 Try.underlying5 Try.underlying9 (fun j hj => by
        have hadd : (⟨w.heap.size, 5, none⟩ : Addr).add j = ⟨w.heap.size, 5 + j, none⟩ := by unfold Addr.add; split <;> simp_all
        have hj' : j < n := by simpa using hj
        obtain ⟨b0, b1⟩ := HBY.out.at (5 + j)
        rw [hadd, cell_hat f1, IV_get _ _ _ (by omega)]
        simp only [rawNm, List.getElem_map, List.getElem_range]
        rw [u8_back b0 b1])
      rw [rawNm_length] at h
      exact h
    generalize hnm : (⟨(rawNm s n).toArray⟩ : ByteArray) = nm at *
    go_wp2_with fail
    obtain ⟨f1, z1⟩ := hopCo f1 g4 1 (.string nm) (by omega)
    obtain ⟨f2, z2⟩ := hopCo f2 g4 1 (.string nm) (by omega)
    have f4 : hat (w5.setCell ⟨g4, 1, none⟩ (.string nm)) g4 = some (.cells #[.int .i64 (getB s 0 4), .string nm] 23) := by rw [hat_setCell_at _ _ _ _ _ _ _ f4]; rfl
    have hbw : Below w.heap.size w (w5.setCell ⟨g4, 1, none⟩ (.string nm)) := hbw.setCell (by simp; omega) _
    generalize w5.setCell ⟨g4, 1, none⟩ (.string nm) = w7 at *
    refine (lslotSector_any (getB s 0 4) nm _).mono ?_; rintro e w6 ⟨rfl, hb3⟩
    have hbw := below_call hbw hb3 hbw.size
    obtain ⟨f1, z1⟩ := hop hb3 f1
    obtain ⟨f2, z2⟩ := hop hb3 f2
    obtain ⟨f4, z4⟩ := hop hb3 f4
    clear hb3
    have HNM := Lib.hid (show rdNm s = nm from by unfold rdNm; rw [HNN.out, if_pos h40', Int.toNat_natCast]; exact hnm)
    by_cases he : slotR (getB s 0 4) nm = (s, 0)
    · have hd : rdSlotV s = .tuple #[.agg #[.int .i64 (getB s 0 4), .string nm], .int .i64 0] := by unfold rdSlotV; rw [HNM.out, if_pos he]
      have HD := Lib.hid hd
      rw [show slotV (getB s 0 4) nm = .tuple #[.agg (IV .u8 s), .int .i64 0] from by unfold slotV; rw [he]]
      clear he hd
      go_wp2_with fail
      exact ret_ct row23 rfl (cs := #[.int .i64 (getB s 0 4), .string nm]) rfl (hopA _ _ (hopS f2 #[.int .i64 (getB s 0 4), .string nm]).1).1 rfl rfl ⟨by rw [HD.out]; rfl, below_new (below_setRow hbw (by omega) _) (by simp; omega) _⟩
    · have hd : rdSlotV s = .tuple #[.agg #[.int .i64 0, .string { data := #[] }], .int .i64 63] := by unfold rdSlotV; rw [HNM.out, if_neg he]
      have HD := Lib.hid hd
      have hrl : (slotR (getB s 0 4) nm).1.length = 128 := slotR_length _ _
      unfold slotV
      clear hd HNM
      generalize slotR (getB s 0 4) nm = rr at *
      obtain ⟨r1, r2⟩ := rr
      simp only [] at hrl ⊢
      by_cases h2 : r2 = 0
      · subst h2
        have hne : ¬ r1 = s := fun h => he (by rw [h])
        clear he
        go_wp2_with fail
        exact ret_ct row23 rfl (cs := #[.int .i64 0, .string { data := #[] }]) rfl (hopA _ _ (hopS f2 #[.int .i64 0, .string { data := #[] }]).1).1 rfl rfl ⟨by rw [HD.out]; rfl, below_new (below_setRow hbw (by omega) _) (by simp; omega) _⟩
      · have h2' : (r2 == 0) = false := beq_eq_false_iff_ne.2 h2
        clear he
        go_wp2_with fail
        exact ret_ct row23 rfl (cs := #[.int .i64 0, .string { data := #[] }]) rfl (hopA _ _ (hopS f2 #[.int .i64 0, .string { data := #[] }]).1).1 rfl rfl ⟨by rw [HD.out]; rfl, below_new (below_setRow hbw (by omega) _) (by simp; omega) _⟩
  · have h40' : decide ((n : Int) ≤ 40) = false := by simp; omega
    go_wp2_with fail
    refine (lslotSector_any (getB s 0 4) { data := #[] } _).mono ?_; rintro e w6 ⟨rfl, hb3⟩
    have hbw := below_call hbw hb3 hbw.size
    obtain ⟨f1, z1⟩ := hop hb3 f1
    obtain ⟨f2, z2⟩ := hop hb3 f2
    obtain ⟨f4, z4⟩ := hop hb3 f4
    clear hb3
    have HNM := Lib.hid (show rdNm s = { data := #[] } from by unfold rdNm; rw [HNN.out, if_neg (by omega)])
    by_cases he : slotR (getB s 0 4) { data := #[] } = (s, 0)
    · have hd : rdSlotV s = .tuple #[.agg #[.int .i64 (getB s 0 4), .string { data := #[] }], .int .i64 0] := by unfold rdSlotV; rw [HNM.out, if_pos he]
      have HD := Lib.hid hd
      rw [show slotV (getB s 0 4) { data := #[] } = .tuple #[.agg (IV .u8 s), .int .i64 0] from by unfold slotV; rw [he]]
      clear he hd
      go_wp2_with fail
      exact ret_ct row23 rfl (cs := #[.int .i64 (getB s 0 4), .string { data := #[] }]) rfl (hopA _ _ (hopS f2 #[.int .i64 (getB s 0 4), .string { data := #[] }]).1).1 rfl rfl ⟨by rw [HD.out]; rfl, below_new (below_setRow hbw (by omega) _) (by simp; omega) _⟩
    · have hd : rdSlotV s = .tuple #[.agg #[.int .i64 0, .string { data := #[] }], .int .i64 63] := by unfold rdSlotV; rw [HNM.out, if_neg he]
      have HD := Lib.hid hd
      have hrl : (slotR (getB s 0 4) { data := #[] }).1.length = 128 := slotR_length _ _
      unfold slotV
      clear hd HNM
      generalize slotR (getB s 0 4) { data := #[] } = rr at *
      obtain ⟨r1, r2⟩ := rr
      simp only [] at hrl ⊢
      by_cases h2 : r2 = 0
      · subst h2
        have hne : ¬ r1 = s := fun h => he (by rw [h])
        clear he
        go_wp2_with fail
        exact ret_ct row23 rfl (cs := #[.int .i64 0, .string { data := #[] }]) rfl (hopA _ _ (hopS f2 #[.int .i64 0, .string { data := #[] }]).1).1 rfl rfl ⟨by rw [HD.out]; rfl, below_new (below_setRow hbw (by omega) _) (by simp; omega) _⟩
      · have h2' : (r2 == 0) = false := beq_eq_false_iff_ne.2 h2
        clear he
        go_wp2_with fail
        exact ret_ct row23 rfl (cs := #[.int .i64 0, .string { data := #[] }]) rfl (hopA _ _ (hopS f2 #[.int .i64 0, .string { data := #[] }]).1).1 rfl rfl ⟨by rw [HD.out]; rfl, below_new (below_setRow hbw (by omega) _) (by simp; omega) _⟩
end Go.Proofs.Ythgiolofnkdfoaa
