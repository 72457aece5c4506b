/- Inodes: read from a sector. -/
import Derived.Test.YthgiolofnkdfoaaIno7
namespace Go.Proofs.Ythgiolofnkdfoaa
set_option linter.unusedSimpArgs false
set_option linter.unusedVariables false
open Go.RowKit

/-- what stands in a sector, taken for an inode's; m: what stands for Made -/
def rdIno (m : Int) (s : List Int) : List Int := [getB s 0 1, getB s 1 1, getB s 4 4, m] ++ ((List.range 12).map fun j => getB s (16 + 4 * j) 4) ++ [getB s 64 4, getB s 68 4]
theorem rdIno_length (m : Int) (s : List Int) : (rdIno m s).length = 18 := by simp [rdIno]
theorem rdIno_made (m : Int) (s : List Int) : nth (rdIno m s) 3 = m := rfl
open Classical in
noncomputable def rdInoV (s : List Int) : Value :=
  if InoMay (rdIno (getB s 8 8) s) ∧ inoSec (rdIno (getB s 8 8) s) = s then .tuple #[.agg (IV .i64 (rdIno (getB s 8 8) s)), .int .i64 0]
  else .tuple #[.agg (IV .i64 (zl 18)), .int .i64 61]
theorem inoMay_made {l : List Int} (h : InoMay l) : 0 ≤ nth l 3 ∧ nth l 3 ≤ 1099511627776 := by
  by_cases h0 : nth l 0 = 0
  · rw [(inoMay_zero h0).1 h, zl_get]; omega
  · exact ((inoMay_else h0).1 h).1.2.2.2
theorem rdInoV_yes {m : Int} {s : List Int} (hm : m = getB s 8 8 ∨ m = -1 ∧ 1099511627776 < getB s 8 8) (h1 : InoMay (rdIno m s)) (h2 : inoSec (rdIno m s) = s) :
    rdInoV s = .tuple #[.agg (IV .i64 (rdIno m s)), .int .i64 0] := by
  rcases hm with rfl | ⟨rfl, -⟩
  · unfold rdInoV; rw [if_pos ⟨h1, h2⟩]
  · have := inoMay_made h1
    rw [rdIno_made] at this; omega
theorem rdInoV_no {m : Int} {s : List Int} (hm : m = getB s 8 8 ∨ m = -1 ∧ 1099511627776 < getB s 8 8) (h : ¬ (InoMay (rdIno m s) ∧ inoSec (rdIno m s) = s)) :
    rdInoV s = .tuple #[.agg (IV .i64 (zl 18)), .int .i64 61] := by
  unfold rdInoV
  rw [if_neg]
  rcases hm with rfl | ⟨-, h2⟩
  · exact h
  · rintro ⟨h1, -⟩
    have := inoMay_made h1
    rw [rdIno_made] at this; omega
theorem getL_made (s : List Int) : getL s 8 8 = getB s 8 8 ∨ getL s 8 8 = -1 ∧ 1099511627776 < getB s 8 8 := by
  unfold getL
  split
  · exact .inr ⟨rfl, by omega⟩
  · exact .inl rfl
theorem getL_small {s : List Int} (hb : Bytes s) (a n : Nat) (hn : n ≤ 7) : getL s a n = getB s a n := by
  unfold getL
  have h1 := getB_lt hb n a
  have h2 := pow7 n hn
  rw [if_neg (by omega)]

/-- the inode behind n of the fields -/
def rdN (s : List Int) (n : Nat) : List Int := (List.range n).foldl (fun x j => x.set (fCell j) (getL s (fAt j) (fWd j))) (zl 18)
theorem rdN_succ (s : List Int) (n : Nat) : rdN s (n + 1) = (rdN s n).set (fCell n) (getL s (fAt n) (fWd n)) := by
  unfold rdN; rw [List.range_succ, List.foldl_append]; rfl
@[go_sem, simp] theorem rdN_length (s : List Int) (n : Nat) : (rdN s n).length = 18 := by
  induction n with
  | zero => rfl
  | succ n ih => rw [rdN_succ, List.length_set, ih]
theorem inoTabs : (List.range 18).map (fun j => (fCell j, fAt j, fWd j)) = [(0,0,1),(1,1,1),(2,4,4),(3,8,8),(16,64,4),(17,68,4),(4,16,4),(5,20,4),(6,24,4),(7,28,4),(8,32,4),(9,36,4),(10,40,4),(11,44,4),(12,48,4),(13,52,4),(14,56,4),(15,60,4)] := by decide
theorem rdN_all {s : List Int} (hb : Bytes s) : rdN s 18 = rdIno (getL s 8 8) s := by
  have e : rdN s 18 = [getL s 0 1, getL s 1 1, getL s 4 4, getL s 8 8, getL s 16 4, getL s 20 4, getL s 24 4, getL s 28 4, getL s 32 4, getL s 36 4, getL s 40 4, getL s 44 4, getL s 48 4, getL s 52 4, getL s 56 4, getL s 60 4, getL s 64 4, getL s 68 4] := by
    have e : rdN s 18 = ((List.range 18).map (fun j => (fCell j, fAt j, fWd j))).foldl (fun x (p : Nat × Nat × Nat) => x.set p.1 (getL s p.2.1 p.2.2)) (zl 18) := by
      unfold rdN; rw [List.foldl_map]
    rw [e, inoTabs]
    simp only [List.foldl_cons, List.foldl_nil, zl, List.replicate, List.set_cons_zero, List.set_cons_succ]
  rw [e]
  simp only [getL_small hb _ 1 (by omega), getL_small hb _ 4 (by omega)]
  rfl

set_option maxHeartbeats 2000000 in
set_option maxRecDepth 100000 in
theorem lreadInode_any (s : List Int) (hs : s.length = 128) (hb : Bytes s) (w : World) :
    Calls Try.prog 24 #[.agg (IV .u8 s)] w fun e w' => e = .returned (rdInoV s) ∧ Below w.heap.size w w' := by
  have HBY := Lib.hid hb
  clear hb
  go_enter Try.func24, Try.ntmps24
  go_wp2_with fail
  have hb := (((Below.refl w.heap.size w).alloc (Nat.le_refl _) (.cells (IV .u8 s) 25)).alloc (by simp) (.cells (IV .i64 (zl 18)) 43)).alloc (by simp; omega) (.cells (IV .i64 (zl 18)) 43)
  obtain ⟨f1, z1⟩ := hopN w (.cells (IV .u8 s) 25)
  obtain ⟨f1, z1⟩ := hopA _ (.cells (IV .i64 (zl 18)) 43) f1
  obtain ⟨f1, z1⟩ := hopA _ (.cells (IV .i64 (zl 18)) 43) f1
  have f2 : hat (((w.alloc (.cells (IV .u8 s) 25)).alloc (.cells (IV .i64 (zl 18)) 43)).alloc (.cells (IV .i64 (zl 18)) 43)) (w.heap.size + 1) = some (.cells (IV .i64 (zl 18)) 43) := by simp [go_sem]
  have f4 : hat (((w.alloc (.cells (IV .u8 s) 25)).alloc (.cells (IV .i64 (zl 18)) 43)).alloc (.cells (IV .i64 (zl 18)) 43)) (w.heap.size + 1 + 1) = some (.cells (IV .i64 (zl 18)) 43) := by simp [go_sem]
  refine (fields_any _).mono ?_; rintro e w2 ⟨gf, cap, c, cur, rfl, hb2, hgf, ff, hcur, hc⟩
  have hb := below_call hb hb2 hb.size
  obtain ⟨f1, z1⟩ := hop hb2 f1
  obtain ⟨f2, z2⟩ := hop hb2 f2
  obtain ⟨f4, z4⟩ := hop hb2 f4
  have zf := hat_lt ff
  have hgf4 : w.heap.size + 1 + 1 < gf := by simp only [World.size_alloc] at hgf; omega
  clear hb2 hgf
  have hcs : 54 ≤ cur.size := by
    have := congrArg List.length hcur
    rw [frows_length] at this
    simp at this; omega
  have hrow : ∀ k, k < 18 → cur.extract (k * 3) (k * 3 + 3) = #[.int .i64 (fAt k), .int .i64 (fWd k), fFn c k] := by
    intro k hk
    have e := frows_at c 18 k hk
    rw [← hcur] at e
    apply Array.ext'
    have e2 : (cur.toList.drop (k * 3)).take 3 = frow c k := by
      rw [← e, List.drop_take, List.take_take, show min 3 (54 - k * 3) = 3 by omega]
    simp only [Array.toList_extract, List.extract_eq_take_drop, show k * 3 + 3 - k * 3 = 3 by omega, e2]
    rfl
  have HROW := Lib.hid hrow
  have HC := Lib.hid hc
  clear hrow hc hcur
  go_wp2_with fail
  go_loopw [11] (fun i wr => ∃ k : Nat, k ≤ 18 ∧ i = .int .i64 k ∧ hat wr w.heap.size = some (.cells (IV .u8 s) 25) ∧ hat wr (w.heap.size + 1) = some (.cells (IV .i64 (zl 18)) 43) ∧ hat wr (w.heap.size + 1 + 1) = some (.cells (IV .i64 (rdN s k)) 43)
      ∧ hat wr gf = some (.cells cur 70) ∧ (∀ j, j < 12 → hat wr (c j) = some (.cells #[.int .i64 j] 3)) ∧ Below w.heap.size w wr) (fun i _ => 18 - (intOf i).toNat)
  case atStart => exact ⟨0, by omega, rfl, f1, f2, f4, ff, HC.out, hb⟩
  case round =>
    clear f1 f2 f4 ff HC hb z1 z2 z4 zf
    obtain ⟨k, hk, rfl, f1, f2, f4, ff, hc, hb⟩ := hrel
    have HC := Lib.hid hc
    clear hc
    by_cases hkw : k < 18
    · have hrk := HROW.out k hkw
      have hk3 : k * 3 + 3 ≤ cur.size := by omega
      have z1 := hat_lt f1
      have z2 := hat_lt f2
      have z4 := hat_lt f4
      have hfc := fCell_lt k hkw
      have HK1 := Lib.hid (rdN_succ s k)
      go_wp2_with fail
      have hbn := below_new hb (by omega) (.cells #[.int .i64 (fAt k), .int .i64 (fWd k), fFn c k] 70)
      obtain ⟨f1, z1⟩ := hopA wr (.cells #[.int .i64 (fAt k), .int .i64 (fWd k), fFn c k] 70) f1
      obtain ⟨f2, z2⟩ := hopA wr (.cells #[.int .i64 (fAt k), .int .i64 (fWd k), fFn c k] 70) f2
      obtain ⟨f4, z4⟩ := hopA wr (.cells #[.int .i64 (fAt k), .int .i64 (fWd k), fFn c k] 70) f4
      obtain ⟨ff, zf⟩ := hopA wr (.cells #[.int .i64 (fAt k), .int .i64 (fWd k), fFn c k] 70) ff
      obtain ⟨f6, z6⟩ := hopN wr (.cells #[.int .i64 (fAt k), .int .i64 (fWd k), fFn c k] 70)
      have HC2 := Lib.hid (fun j hj => (hopA wr (.cells #[.int .i64 (fAt k), .int .i64 (fWd k), fFn c k] 70) (HC.out j hj)).1)
      clear hb HC
      generalize wr.alloc (.cells #[.int .i64 (fAt k), .int .i64 (fWd k), fFn c k] 70) = w3 at *
      generalize wr.heap.size = g6 at *
      refine wp_region_vals (by kernel_rfl) 10 (by decide) rfl (fun i => match i with
        | 0 => .pointer (some ⟨g6, 2, none⟩) | 1 => fFn c k | 2 => .pointer (some ⟨w.heap.size + 1 + 1, fCell k, none⟩) | 3 => .agg (IV .u8 s) | 4 => .pointer (some ⟨g6, 0, none⟩) | 5 => .int .i64 (fAt k)
        | 6 => .pointer (some ⟨g6, 1, none⟩) | 7 => .int .i64 (fWd k) | 8 => .int .i64 (getL s (fAt k) (fWd k)) | _ => .pointer (some ⟨w.heap.size + 1 + 1, fCell k, none⟩)) ?_ ?_
      · intro i o hi ho a' w' hB hS hF
        have hi' : i = 0 ∨ i = 1 ∨ i = 2 ∨ i = 3 ∨ i = 4 ∨ i = 5 ∨ i = 6 ∨ i = 7 ∨ i = 8 ∨ i = 9 := by omega
        have e6 := gtx ((hS 6 (by decide)).trans rfl : gt a' 6 = .pointer (some ⟨g6, 0, none⟩))
        have f6 := (hop hB f6).1
        have f1 := (hop hB f1).1
        rcases hi' with rfl | rfl | rfl | rfl | rfl | rfl | rfl | rfl | rfl | rfl
        all_goals (have ho' := Option.some.inj ho; subst ho')
        · refine wpOp_val rfl rfl (v := .pointer (some ⟨g6, 2, none⟩)) (w1 := w') ?_ ⟨rfl, hB⟩
          simp [go_sem, e6]
        · exact wpOp_load_cell 68 cellf (.tmp 15) rfl rfl rfl g6 2 _ _ (hF 0 (by decide) _ 15 rfl rfl) f6 rfl ⟨rfl, hB⟩
        · have e0 := hF 1 (by decide) _ 16 rfl rfl
          have e1 := ((hS 4 (by decide)).trans rfl : gt a' 4 = .pointer (some ⟨w.heap.size + 1 + 1, 0, none⟩))
          obtain ⟨f, args, hr, hcall⟩ := fFn_call c k hkw (w.heap.size + 1 + 1) w' (fun j hj => (hop hB (HC2.out j hj)).1)
          refine wpOp_call rfl rfl (hr _ 16 4 _ _ _ _ _ e0 e1) hcall ?_
          rintro e w'' ⟨rfl, hb'⟩
          exact ⟨_, rfl, rfl, below_call hB hb' hB.size⟩
        · exact wpOp_load_row 25 128 row25 (.tmp 1) rfl rfl rfl w.heap.size _ ((hS 1 (by decide)).trans rfl) f1 (by simp [hs]) ⟨rfl, hB⟩
        · refine wpOp_val rfl rfl (v := .pointer (some ⟨g6, 0, none⟩)) (w1 := w') ?_ ⟨rfl, hB⟩
          simp [go_sem, e6]
        · exact wpOp_load_cell 3 celli (.tmp 19) rfl rfl rfl g6 0 _ _ (hF 4 (by decide) _ 19 rfl rfl) f6 rfl ⟨rfl, hB⟩
        · refine wpOp_val rfl rfl (v := .pointer (some ⟨g6, 1, none⟩)) (w1 := w') ?_ ⟨rfl, hB⟩
          simp [go_sem, e6]
        · exact wpOp_load_cell 3 celli (.tmp 21) rfl rfl rfl g6 1 _ _ (hF 6 (by decide) _ 21 rfl rfl) f6 rfl ⟨rfl, hB⟩
        · have e0 := gtx (hF 3 (by decide) _ 18 rfl rfl)
          have e1 := gtx (hF 5 (by decide) _ 20 rfl rfl)
          have e2 := gtx (hF 7 (by decide) _ 22 rfl rfl)
          refine wpOp_call (f := 38) (args := #[.agg (IV .u8 s), .int .i64 (fAt k), .int .i64 (fWd k)]) rfl rfl (by simp [go_sem, e0, e1, e2])
            (lget_any s hs HBY.out (fAt k) (fWd k) w' (fWd_pos k).1 (fWd_pos k).2 (fAt_le k hkw)) ?_
          rintro e w'' ⟨rfl, hb'⟩
          exact ⟨_, rfl, rfl, below_call hB hb' hB.size⟩
        · have e0 := gtx (hF 2 (by decide) _ 17 rfl rfl)
          refine wpOp_val rfl rfl (v := .pointer (some ⟨w.heap.size + 1 + 1, fCell k, none⟩)) (w1 := w') ?_ ⟨rfl, hB⟩
          simp [go_sem, e0]
      · intro w' hB
        obtain ⟨f1, z1⟩ := hop hB f1
        obtain ⟨f2, z2⟩ := hop hB f2
        obtain ⟨f4, z4⟩ := hop hB f4
        obtain ⟨ff, zf⟩ := hop hB ff
        have HC3 := Lib.hid (fun j hj => (hop hB (HC2.out j hj)).1)
        have hb := below_call hbn hB hbn.size
        clear hB HC2 f6 hbn
        simp only [putAll, List.take, List.drop, List.take_succ_cons, List.drop_succ_cons, Act.put, List.setIfInBounds_toArray, List.set_cons_zero, List.set_cons_succ]
        go_wp2_with fail
        go_roundw
        case rel =>
          refine ⟨k + 1, by omega, by go_num, (hopCo f1 _ _ _ (by omega)).1, (hopCo f2 _ _ _ (by omega)).1, by rw [HK1.out]; exact (hopC f4 _ _).1, (hopCo ff _ _ _ (by omega)).1, fun j hj => ?_, hb.setCell (by simp; omega) _⟩
          have := HC3.out j hj
          refine (hopCo this _ _ _ ?_).1
          intro e
          rw [e, f4] at this
          simp at this
        case measure => (show 18 - (k + 1) < 18 - k); omega
    · obtain rfl : k = 18 := by omega
      have ea := rdN_all HBY.out
      rw [ea] at f4
      clear ea
      have hml := rdIno_length (getL s 8 8) s
      have HM := Lib.hid (getL_made s)
      have z1 := hat_lt f1
      have z2 := hat_lt f2
      have z4 := hat_lt f4
      have hbw := hb
      by_cases hm : InoMay (rdIno (getL s 8 8) s)
      · go_wp2_with fail
        refine (linodeSector_ok _ hml hm _).mono ?_; rintro e w3 ⟨rfl, hb3⟩
        have hbw := below_call hbw hb3 hbw.size
        obtain ⟨f1, z1⟩ := hop hb3 f1
        obtain ⟨f2, z2⟩ := hop hb3 f2
        obtain ⟨f4, z4⟩ := hop hb3 f4
        have hsl : (inoSec (rdIno (getL s 8 8) s)).length = 128 := inoSecN_length _ _
        clear hb3
        by_cases he : inoSec (rdIno (getL s 8 8) s) = s
        · have HD := Lib.hid (rdInoV_yes HM.out hm he)
          have he' : decide (inoSec (rdIno (getL s 8 8) s) = s) = true := by simpa using he
          clear he hm
          go_wp2_with fail
          exact ret_ct row43 rfl (cs := IV .i64 (rdIno (getL s 8 8) s)) rfl (hopA _ _ (hopS f2 _).1).1 (by simp [hml]) rfl ⟨by rw [HD.out]; rfl, below_new (below_setRow hbw (by omega) _) (by simp; omega) _⟩
        · have HD := Lib.hid (rdInoV_no HM.out (fun h => he h.2))
          clear hm
          go_wp2_with fail
          exact ret_ct row43 rfl (cs := IV .i64 (zl 18)) rfl (hopA _ _ (hopS f2 _).1).1 (by simp) rfl ⟨by rw [HD.out]; rfl, below_new (below_setRow hbw (by omega) _) (by simp; omega) _⟩
      · have HD := Lib.hid (rdInoV_no HM.out (fun h => hm h.1))
        have HMM := Lib.hid hm
        clear hm
        go_wp2_with fail
        refine (linodeSector_no _ hml HMM.out _).mono ?_; rintro e w3 ⟨rfl, hb3⟩
        have hbw := below_call hbw hb3 hbw.size
        obtain ⟨f1, z1⟩ := hop hb3 f1
        obtain ⟨f2, z2⟩ := hop hb3 f2
        obtain ⟨f4, z4⟩ := hop hb3 f4
        clear hb3
        go_wp2_with fail
        exact ret_ct row43 rfl (cs := IV .i64 (zl 18)) rfl (hopA _ _ (hopS f2 _).1).1 (by simp) rfl ⟨by rw [HD.out]; rfl, below_new (below_setRow hbw (by omega) _) (by simp; omega) _⟩
end Go.Proofs.Ythgiolofnkdfoaa
