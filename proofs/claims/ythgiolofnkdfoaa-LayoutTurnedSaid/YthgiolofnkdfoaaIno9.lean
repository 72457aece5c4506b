/- Inodes: the document's reading of one. -/
import Derived.Test.YthgiolofnkdfoaaIno8
namespace Go.Proofs.Ythgiolofnkdfoaa
set_option linter.unusedSimpArgs false
set_option linter.unusedVariables false
open Go.RowKit

/-- what the document's reader says of Made -/
def sayM (s : List Int) : Int := if nth s 15 = 0 then getB s 8 8 else -1
theorem sayM_made {s : List Int} (hb : Bytes s) : sayM s = getB s 8 8 ∨ sayM s = -1 ∧ 1099511627776 < getB s 8 8 := by
  unfold sayM
  split
  · exact .inl rfl
  · rename_i h
    refine .inr ⟨rfl, ?_⟩
    have h1 := getB_snoc s 7 8
    have h2 := getB_nonneg hb 7 8
    have h3 := hb.at 15
    have h4 : (256 : Int) ^ 7 = 72057594037927936 := by decide
    rw [h4] at h1
    show _ < getB s 8 (7 + 1)
    rw [h1]
    show 1099511627776 < getB s 8 7 + 72057594037927936 * nth s 15
    omega
theorem says8 (s : List Int) (hs : s.length = 128) (hb : Bytes s) (w : World) :
    Calls Try.prog 39 #[.agg (IV .u8 s), .int .i64 8, .int .i64 8] w fun e w' => e = .returned (.int .i64 (sayM s)) ∧ Below w.heap.size w w' := by
  unfold sayM
  split
  · rename_i h; exact says_ok s hs hb 8 8 w (by omega) (by omega) (fun _ => h)
  · rename_i h; exact says_big s hs hb 8 w (by omega) h
def baseI (m : Int) (s : List Int) : List Int := (((((((zl 18).set 0 (getB s 0 1)).set 1 (getB s 1 1)).set 2 (getB s 4 4)).set 3 m).set 16 (getB s 64 4)).set 17 (getB s 68 4))
theorem baseI_length (m : Int) (s : List Int) : (baseI m s).length = 18 := rfl
def fillD (m : Int) (s : List Int) (n : Nat) : List Int := (List.range n).foldl (fun x j => x.set (4 + j) (getB s (16 + 4 * j) 4)) (baseI m s)
theorem fillD_succ (m : Int) (s : List Int) (n : Nat) : fillD m s (n + 1) = (fillD m s n).set (4 + n) (getB s (16 + 4 * n) 4) := by
  unfold fillD; rw [List.range_succ, List.foldl_append]; rfl
@[go_sem, simp] theorem fillD_length (m : Int) (s : List Int) (n : Nat) : (fillD m s n).length = 18 := by
  induction n with
  | zero => rfl
  | succ n ih => rw [fillD_succ, List.length_set, ih]
theorem fillD_all (m : Int) (s : List Int) : fillD m s 12 = rdIno m s := by
  have e : fillD m s 12 = ((List.range 12).map (fun j => (4 + j, 16 + 4 * j))).foldl (fun x (p : Nat × Nat) => x.set p.1 (getB s p.2 4)) (baseI m s) := by
    unfold fillD; rw [List.foldl_map]
  have t : (List.range 12).map (fun j => (4 + j, 16 + 4 * j)) = [(4,16),(5,20),(6,24),(7,28),(8,32),(9,36),(10,40),(11,44),(12,48),(13,52),(14,56),(15,60)] := by decide
  rw [e, t]
  simp only [List.foldl_cons, List.foldl_nil, baseI, zl, List.replicate, List.set_cons_zero, List.set_cons_succ]
  rfl

set_option maxHeartbeats 2000000 in
set_option maxRecDepth 100000 in
theorem rreadInode_any (s : List Int) (hs : s.length = 128) (hb : Bytes s) (w : World) :
    Calls Try.prog 25 #[.agg (IV .u8 s)] w fun e w' => e = .returned (rdInoV s) ∧ Below w.heap.size w w' := by
  have HBY := Lib.hid hb
  clear hb
  go_enter Try.func25, Try.ntmps25
  go_wp2_with fail
  have hbw := ((Below.refl w.heap.size w).alloc (Nat.le_refl _) (.cells (IV .u8 s) 25)).alloc (by simp) (.cells (IV .i64 (zl 18)) 43)
  have f1 : hat ((w.alloc (.cells (IV .u8 s) 25)).alloc (.cells (IV .i64 (zl 18)) 43)) w.heap.size = some (.cells (IV .u8 s) 25) := by simp [go_sem]
  have f2 : hat ((w.alloc (.cells (IV .u8 s) 25)).alloc (.cells (IV .i64 (zl 18)) 43)) (w.heap.size + 1) = some (.cells (IV .i64 (zl 18)) 43) := by simp [go_sem]
  have hz1 := hat_lt f2
  generalize (w.alloc (.cells (IV .u8 s) 25)).alloc (.cells (IV .i64 (zl 18)) 43) = w1 at *
  refine wp_region_G (by kernel_rfl) 14 (by decide) rfl (fun w' => Below w1.heap.size w1 w') (fun w w' => Below w.heap.size w w')
    (fun i v w' => match i with
      | 0 => v = .agg (IV .u8 s)
      | 1 => v = .int .i64 (getB s 0 1)
      | 2 => v = .agg (IV .u8 s)
      | 3 => v = .int .i64 (getB s 1 1)
      | 4 => v = .agg (IV .u8 s)
      | 5 => v = .int .i64 (getB s 4 4)
      | 6 => v = .agg (IV .u8 s)
      | 7 => v = .int .i64 (sayM s)
      | 8 => v = .agg (IV .u8 s)
      | 9 => v = .int .i64 (getB s 64 4)
      | 10 => v = .agg (IV .u8 s)
      | 11 => v = .int .i64 (getB s 68 4)
      | 12 => v = .agg (IV .i64 (baseI (sayM s) s))
      | _ => ∃ g, v = .pointer (some ⟨g, 0, none⟩) ∧ w1.heap.size ≤ g ∧ hat w' g = some (.cells (IV .i64 (zl 18)) 43)) ((Below.refl _ _).drew) ?_ ?_ ?_
  · intro i v wa wb hi _ _ hE hG
    have hi' : i = 0 ∨ i = 1 ∨ i = 2 ∨ i = 3 ∨ i = 4 ∨ i = 5 ∨ i = 6 ∨ i = 7 ∨ i = 8 ∨ i = 9 ∨ i = 10 ∨ i = 11 ∨ i = 12 ∨ i = 13 := by omega
    rcases hi' with rfl | rfl | rfl | rfl | rfl | rfl | rfl | rfl | rfl | rfl | rfl | rfl | rfl | rfl <;> try exact hG
    obtain ⟨g, h1, h2, h3⟩ := hG
    exact ⟨g, h1, h2, (hop hE h3).1⟩
  · intro i o hi ho a' w' hB hS hF
    have hi' : i = 0 ∨ i = 1 ∨ i = 2 ∨ i = 3 ∨ i = 4 ∨ i = 5 ∨ i = 6 ∨ i = 7 ∨ i = 8 ∨ i = 9 ∨ i = 10 ∨ i = 11 ∨ i = 12 ∨ i = 13 := by omega
    have f1 := (hop hB f1).1
    rcases hi' with rfl | rfl | rfl | rfl | rfl | rfl | rfl | rfl | rfl | rfl | rfl | rfl | rfl | rfl
    all_goals (have ho' := Option.some.inj ho; subst ho')
    · exact wpOp_load_row 25 128 row25 (.tmp 1) rfl rfl rfl w.heap.size _ ((hS 1 (by decide)).trans rfl) f1 (by simp [hs]) ⟨_, rfl, hB, Below.refl _ _, rfl⟩
    · have e0 := gtx (hF 0 (by decide) _ 8 rfl rfl)
      refine wpOp_call (f := 39) (args := #[.agg (IV .u8 s), .int .i64 0, .int .i64 1]) rfl rfl (by simp [go_sem, e0]) (says_ok s hs HBY.out 0 1 w' (by omega) (by omega) (by omega)) ?_
      rintro e w'' ⟨rfl, hb'⟩
      exact ⟨_, rfl, _, rfl, below_call hB hb' hB.size, hb', rfl⟩
    · exact wpOp_load_row 25 128 row25 (.tmp 1) rfl rfl rfl w.heap.size _ ((hS 1 (by decide)).trans rfl) f1 (by simp [hs]) ⟨_, rfl, hB, Below.refl _ _, rfl⟩
    · have e0 := gtx (hF 2 (by decide) _ 10 rfl rfl)
      refine wpOp_call (f := 39) (args := #[.agg (IV .u8 s), .int .i64 1, .int .i64 1]) rfl rfl (by simp [go_sem, e0]) (says_ok s hs HBY.out 1 1 w' (by omega) (by omega) (by omega)) ?_
      rintro e w'' ⟨rfl, hb'⟩
      exact ⟨_, rfl, _, rfl, below_call hB hb' hB.size, hb', rfl⟩
    · exact wpOp_load_row 25 128 row25 (.tmp 1) rfl rfl rfl w.heap.size _ ((hS 1 (by decide)).trans rfl) f1 (by simp [hs]) ⟨_, rfl, hB, Below.refl _ _, rfl⟩
    · have e0 := gtx (hF 4 (by decide) _ 12 rfl rfl)
      refine wpOp_call (f := 39) (args := #[.agg (IV .u8 s), .int .i64 4, .int .i64 4]) rfl rfl (by simp [go_sem, e0]) (says_ok s hs HBY.out 4 4 w' (by omega) (by omega) (by omega)) ?_
      rintro e w'' ⟨rfl, hb'⟩
      exact ⟨_, rfl, _, rfl, below_call hB hb' hB.size, hb', rfl⟩
    · exact wpOp_load_row 25 128 row25 (.tmp 1) rfl rfl rfl w.heap.size _ ((hS 1 (by decide)).trans rfl) f1 (by simp [hs]) ⟨_, rfl, hB, Below.refl _ _, rfl⟩
    · have e0 := gtx (hF 6 (by decide) _ 14 rfl rfl)
      refine wpOp_call (f := 39) (args := #[.agg (IV .u8 s), .int .i64 8, .int .i64 8]) rfl rfl (by simp [go_sem, e0]) (says8 s hs HBY.out w') ?_
      rintro e w'' ⟨rfl, hb'⟩
      exact ⟨_, rfl, _, rfl, below_call hB hb' hB.size, hb', rfl⟩
    · exact wpOp_load_row 25 128 row25 (.tmp 1) rfl rfl rfl w.heap.size _ ((hS 1 (by decide)).trans rfl) f1 (by simp [hs]) ⟨_, rfl, hB, Below.refl _ _, rfl⟩
    · have e0 := gtx (hF 8 (by decide) _ 16 rfl rfl)
      refine wpOp_call (f := 39) (args := #[.agg (IV .u8 s), .int .i64 64, .int .i64 4]) rfl rfl (by simp [go_sem, e0]) (says_ok s hs HBY.out 64 4 w' (by omega) (by omega) (by omega)) ?_
      rintro e w'' ⟨rfl, hb'⟩
      exact ⟨_, rfl, _, rfl, below_call hB hb' hB.size, hb', rfl⟩
    · exact wpOp_load_row 25 128 row25 (.tmp 1) rfl rfl rfl w.heap.size _ ((hS 1 (by decide)).trans rfl) f1 (by simp [hs]) ⟨_, rfl, hB, Below.refl _ _, rfl⟩
    · have e0 := gtx (hF 10 (by decide) _ 18 rfl rfl)
      refine wpOp_call (f := 39) (args := #[.agg (IV .u8 s), .int .i64 68, .int .i64 4]) rfl rfl (by simp [go_sem, e0]) (says_ok s hs HBY.out 68 4 w' (by omega) (by omega) (by omega)) ?_
      rintro e w'' ⟨rfl, hb'⟩
      exact ⟨_, rfl, _, rfl, below_call hB hb' hB.size, hb', rfl⟩
    · have e1 := gtx (hF 1 (by decide) _ 9 rfl rfl)
      have e3 := gtx (hF 3 (by decide) _ 11 rfl rfl)
      have e5 := gtx (hF 5 (by decide) _ 13 rfl rfl)
      have e7 := gtx (hF 7 (by decide) _ 15 rfl rfl)
      have e9 := gtx (hF 9 (by decide) _ 17 rfl rfl)
      have e11 := gtx (hF 11 (by decide) _ 19 rfl rfl)
      refine wpOp_val rfl rfl (v := .agg (IV .i64 (baseI (sayM s) s))) (w1 := w') ?_ ⟨_, rfl, hB, Below.refl _ _, rfl⟩
      simp [go_sem, e1, e3, e5, e7, e9, e11, baseI, IV_ne .i64 (zl 18) 17 rfl]
    · refine wpOp_val rfl rfl (v := .pointer (some ⟨w'.heap.size, 0, none⟩)) (w1 := w'.alloc (.cells (IV .i64 (zl 18)) 43)) ?_ ⟨_, rfl, below_new hB hB.size _, (Below.refl _ _).alloc (Nat.le_refl _) _, w'.heap.size, rfl, hB.size, (hopN _ _).1⟩
      simp [go_sem]
  · intro val w2 hB hF
    have e0 := hF 0 _ 8 (by decide) rfl rfl
    have e1 := hF 1 _ 9 (by decide) rfl rfl
    have e2 := hF 2 _ 10 (by decide) rfl rfl
    have e3 := hF 3 _ 11 (by decide) rfl rfl
    have e4 := hF 4 _ 12 (by decide) rfl rfl
    have e5 := hF 5 _ 13 (by decide) rfl rfl
    have e6 := hF 6 _ 14 (by decide) rfl rfl
    have e7 := hF 7 _ 15 (by decide) rfl rfl
    have e8 := hF 8 _ 16 (by decide) rfl rfl
    have e9 := hF 9 _ 17 (by decide) rfl rfl
    have e10 := hF 10 _ 18 (by decide) rfl rfl
    have e11 := hF 11 _ 19 (by decide) rfl rfl
    have e12 := hF 12 _ 20 (by decide) rfl rfl
    obtain ⟨g, e13, hg, f4⟩ := hF 13 _ 4 (by decide) rfl rfl
    simp only [] at e0 e1 e2 e3 e4 e5 e6 e7 e8 e9 e10 e11 e12
    obtain ⟨f1, z1⟩ := hop hB f1
    obtain ⟨f2, z2⟩ := hop hB f2
    have hb := below_call hbw hB hbw.size
    have hg1 : w.heap.size + 1 < g := by omega
    have hbl := baseI_length (sayM s) s
    clear hF hB hbw
    simp only [putAll, List.take, List.drop, List.take_succ_cons, List.drop_succ_cons, e0, e1, e2, e3, e4, e5, e6, e7, e8, e9, e10, e11, e12, e13, Act.put, List.setIfInBounds_toArray, List.set_cons_zero, List.set_cons_succ]
    clear e0 e1 e2 e3 e4 e5 e6 e7 e8 e9 e10 e11 e12 e13
    go_wp2_with fail
    obtain ⟨f1, z1⟩ := hopR f1 g (IV .i64 (baseI (sayM s) s)) (by omega)
    obtain ⟨f2, z2⟩ := hopR f2 g (IV .i64 (baseI (sayM s) s)) (by omega)
    obtain ⟨f4, z4⟩ := hopS f4 (IV .i64 (baseI (sayM s) s))
    have hb := below_setRow hb (g := g) (by omega) (IV .i64 (baseI (sayM s) s))
    go_loopw [5] (fun i wr => ∃ k : Nat, k ≤ 12 ∧ i = .int .i64 k ∧ hat wr w.heap.size = some (.cells (IV .u8 s) 25) ∧ hat wr (w.heap.size + 1) = some (.cells (IV .i64 (zl 18)) 43) ∧ hat wr g = some (.cells (IV .i64 (fillD (sayM s) s k)) 43)
      ∧ Below w.heap.size w wr) (fun i _ => 12 - (intOf i).toNat)
    case atStart => exact ⟨0, by omega, rfl, f1, f2, f4, hb⟩
    case round =>
      clear f1 f2 f4 hb z1 z2 z4
      obtain ⟨k, hk, rfl, f1, f2, f4, hb⟩ := hrel
      have z1 := hat_lt f1
      have z2 := hat_lt f2
      have z4 := hat_lt f4
      by_cases hkw : k < 12
      · have hk18 : 4 + k < 18 := by omega
        have HK1 := Lib.hid (fillD_succ (sayM s) s k)
        have HC := Lib.hid (fun (wx : World) => says_ok s hs HBY.out (16 + 4 * k) 4 wx (by omega) (by omega) (by omega))
        go_wp2_with fail
        refine (HC.out _).mono ?_; rintro e w3 ⟨rfl, hb3⟩
        have hb := below_call hb hb3 hb.size
        obtain ⟨f1, z1⟩ := hop hb3 f1
        obtain ⟨f2, z2⟩ := hop hb3 f2
        obtain ⟨f4, z4⟩ := hop hb3 f4
        clear hb3
        go_wp2_with fail
        go_roundw
        case rel => exact ⟨k + 1, by omega, by go_num, (hopCo f1 _ _ _ (by omega)).1, (hopCo f2 _ _ _ (by omega)).1, by rw [HK1.out]; exact (hopC f4 _ _).1, hb.setCell (by simp; omega) _⟩
        case measure => (show 12 - (k + 1) < 12 - k); omega
      · obtain rfl : k = 12 := by omega
        rw [fillD_all] at f4
        have hml := rdIno_length (sayM s) s
        have HM := Lib.hid (sayM_made HBY.out)
        have z1 := hat_lt f1
        have z2 := hat_lt f2
        have z4 := hat_lt f4
        have hbw := hb
        by_cases hm : InoMay (rdIno (sayM s) s)
        · go_wp2_with fail
          refine (rinodeSector_ok _ hml hm _).mono ?_; rintro e w3 ⟨rfl, hb3⟩
          have hbw := below_call hbw hb3 hbw.size
          obtain ⟨f1, z1⟩ := hop hb3 f1
          obtain ⟨f2, z2⟩ := hop hb3 f2
          obtain ⟨f4, z4⟩ := hop hb3 f4
          have hsl : (inoSec (rdIno (sayM s) s)).length = 128 := inoSecN_length _ _
          clear hb3
          by_cases he : inoSec (rdIno (sayM s) s) = s
          · have HD := Lib.hid (rdInoV_yes HM.out hm he)
            have he' : decide (inoSec (rdIno (sayM s) s) = s) = true := by simpa using he
            clear he hm
            go_wp2_with fail
            exact ret_ct row43 rfl (cs := IV .i64 (rdIno (sayM s) s)) rfl (hopA _ _ (hopS f2 _).1).1 (by simp [hml]) rfl ⟨by rw [HD.out]; rfl, below_new (below_setRow hbw (by omega) _) (by simp; omega) _⟩
          · have HD := Lib.hid (rdInoV_no HM.out (fun h => he h.2))
            clear hm
            go_wp2_with fail
            exact ret_ct row43 rfl (cs := IV .i64 (zl 18)) rfl (hopA _ _ (hopS f2 _).1).1 (by simp) rfl ⟨by rw [HD.out]; rfl, below_new (below_setRow hbw (by omega) _) (by simp; omega) _⟩
        · have HD := Lib.hid (rdInoV_no HM.out (fun h => hm h.1))
          have HMM := Lib.hid hm
          clear hm
          go_wp2_with fail
          refine (rinodeSector_no _ hml HMM.out _).mono ?_; rintro e w3 ⟨rfl, hb3⟩
          have hbw := below_call hbw hb3 hbw.size
          obtain ⟨f1, z1⟩ := hop hb3 f1
          obtain ⟨f2, z2⟩ := hop hb3 f2
          obtain ⟨f4, z4⟩ := hop hb3 f4
          clear hb3
          go_wp2_with fail
          exact ret_ct row43 rfl (cs := IV .i64 (zl 18)) rfl (hopA _ _ (hopS f2 _).1).1 (by simp) rfl ⟨by rw [HD.out]; rfl, below_new (below_setRow hbw (by omega) _) (by simp; omega) _⟩

end Go.Proofs.Ythgiolofnkdfoaa
