/- Inodes: which may be. -/
import Derived.Test.YthgiolofnkdfoaaIno2
namespace Go.Proofs.Ythgiolofnkdfoaa
set_option linter.unusedSimpArgs false
set_option linter.unusedVariables false
open Go.RowKit

/-- may an inode be: its cells are kind, links, size, made, twelve direct ones, single, double -/
def InoMay (l : List Int) : Prop :=
  if nth l 0 = 0 then l = zl 18 else
    ((1 ≤ nth l 0 ∧ nth l 0 ≤ 2) ∧ (0 ≤ nth l 1 ∧ nth l 1 ≤ 100) ∧ (0 ≤ nth l 2 ∧ nth l 2 ≤ 136704) ∧ (0 ≤ nth l 3 ∧ nth l 3 ≤ 1099511627776)) ∧
    (∀ j, 4 ≤ j → j < 18 → 0 ≤ nth l j ∧ nth l j ≤ 4294967295) ∧ (nth l 0 = 1 ∨ nth l 2 % 128 = 0)
/-- the numbers are int's -/
def Ints (l : List Int) : Prop := ∀ i, -9223372036854775808 ≤ nth l i ∧ nth l i ≤ 9223372036854775807

theorem inoMay_zero {l : List Int} (h : nth l 0 = 0) : InoMay l ↔ l = zl 18 := by unfold InoMay; rw [if_pos h]
theorem inoMay_else {l : List Int} (h : nth l 0 ≠ 0) : InoMay l ↔ ((1 ≤ nth l 0 ∧ nth l 0 ≤ 2) ∧ (0 ≤ nth l 1 ∧ nth l 1 ≤ 100) ∧ (0 ≤ nth l 2 ∧ nth l 2 ≤ 136704) ∧ (0 ≤ nth l 3 ∧ nth l 3 ≤ 1099511627776)) ∧
    (∀ j, 4 ≤ j → j < 18 → 0 ≤ nth l j ∧ nth l j ≤ 4294967295) ∧ (nth l 0 = 1 ∨ nth l 2 % 128 = 0) := by unfold InoMay; rw [if_neg h]
theorem bool_false {b : Bool} {p : Prop} (h : b = true ↔ p) (hp : ¬ p) : b = false := by
  cases b with
  | false => rfl
  | true => exact (hp (h.1 rfl)).elim
theorem bool_true {b : Bool} {p : Prop} (h : b = true ↔ p) (hp : p) : b = true := h.2 hp

set_option maxRecDepth 100000 in
/-- layout's inodeMay, where the kind is 0 -/
theorem linodeMay_zero (l : List Int) (hl : l.length = 18) (h0 : nth l 0 = 0) (w : World) :
    Calls Try.prog 41 #[.agg (IV .i64 l)] w fun e w' => e = .returned (.bool (decide (l = zl 18))) ∧ Below w.heap.size w w' := by
  have d0 : (nth l 0 == 0) = true := by simpa using h0
  clear h0
  go_enter Try.func41, Try.ntmps41
  go_wp2_with fail
  go_ret
  exact ⟨rfl, (Below.refl _ _).alloc (Nat.le_refl _) _⟩

set_option maxHeartbeats 400000 in
set_option maxRecDepth 100000 in
theorem linodeMay_no0 (l : List Int) (hl : l.length = 18) (h0 : nth l 0 ≠ 0) (h1 : ¬ (1 ≤ nth l 0 ∧ nth l 0 ≤ 2)) (w : World) :
    Calls Try.prog 41 #[.agg (IV .i64 l)] w fun e w' => e = .returned (.bool false) ∧ Below w.heap.size w w' := by
  have d0 : (nth l 0 == 0) = false := by simpa using h0
  have H1 := Lib.hid h1
  clear h0 h1
  go_enter Try.func41, Try.ntmps41
  go_wp2_with fail
  refine (lwithin_no _ _ _ _ H1.out).mono ?_; rintro e w' ⟨rfl, rfl⟩
  go_wp2_with fail
  go_ret
  exact ⟨rfl, (Below.refl _ _).alloc (Nat.le_refl _) _⟩

set_option maxHeartbeats 400000 in
set_option maxRecDepth 100000 in
theorem linodeMay_no1 (l : List Int) (hl : l.length = 18) (h0 : nth l 0 ≠ 0) (h1 : 1 ≤ nth l 0 ∧ nth l 0 ≤ 2) (h2 : ¬ (0 ≤ nth l 1 ∧ nth l 1 ≤ 100)) (w : World) :
    Calls Try.prog 41 #[.agg (IV .i64 l)] w fun e w' => e = .returned (.bool false) ∧ Below w.heap.size w w' := by
  have d0 : (nth l 0 == 0) = false := by simpa using h0
  have H1 := Lib.hid h1
  have H2 := Lib.hid h2
  clear h0 h1 h2
  go_enter Try.func41, Try.ntmps41
  go_wp2_with fail
  refine (lwithin_yes _ _ _ _ H1.out).mono ?_; rintro e w' ⟨rfl, rfl⟩
  go_wp2_with fail
  refine (lwithin_no _ _ _ _ H2.out).mono ?_; rintro e w' ⟨rfl, rfl⟩
  go_wp2_with fail
  go_ret
  exact ⟨rfl, (Below.refl _ _).alloc (Nat.le_refl _) _⟩

set_option maxHeartbeats 400000 in
set_option maxRecDepth 100000 in
theorem linodeMay_no2 (l : List Int) (hl : l.length = 18) (h0 : nth l 0 ≠ 0) (h1 : 1 ≤ nth l 0 ∧ nth l 0 ≤ 2) (h2 : 0 ≤ nth l 1 ∧ nth l 1 ≤ 100) (h3 : ¬ (0 ≤ nth l 2 ∧ nth l 2 ≤ 136704)) (w : World) :
    Calls Try.prog 41 #[.agg (IV .i64 l)] w fun e w' => e = .returned (.bool false) ∧ Below w.heap.size w w' := by
  have d0 : (nth l 0 == 0) = false := by simpa using h0
  have H1 := Lib.hid h1
  have H2 := Lib.hid h2
  have H3 := Lib.hid h3
  clear h0 h1 h2 h3
  go_enter Try.func41, Try.ntmps41
  go_wp2_with fail
  refine (lwithin_yes _ _ _ _ H1.out).mono ?_; rintro e w' ⟨rfl, rfl⟩
  go_wp2_with fail
  refine (lwithin_yes _ _ _ _ H2.out).mono ?_; rintro e w' ⟨rfl, rfl⟩
  go_wp2_with fail
  refine (lwithin_no _ _ _ _ H3.out).mono ?_; rintro e w' ⟨rfl, rfl⟩
  go_wp2_with fail
  go_ret
  exact ⟨rfl, (Below.refl _ _).alloc (Nat.le_refl _) _⟩

set_option maxHeartbeats 400000 in
set_option maxRecDepth 100000 in
theorem linodeMay_no3 (l : List Int) (hl : l.length = 18) (h0 : nth l 0 ≠ 0) (h1 : 1 ≤ nth l 0 ∧ nth l 0 ≤ 2) (h2 : 0 ≤ nth l 1 ∧ nth l 1 ≤ 100) (h3 : 0 ≤ nth l 2 ∧ nth l 2 ≤ 136704) (h4 : ¬ (0 ≤ nth l 3 ∧ nth l 3 ≤ 1099511627776)) (w : World) :
    Calls Try.prog 41 #[.agg (IV .i64 l)] w fun e w' => e = .returned (.bool false) ∧ Below w.heap.size w w' := by
  have d0 : (nth l 0 == 0) = false := by simpa using h0
  have H1 := Lib.hid h1
  have H2 := Lib.hid h2
  have H3 := Lib.hid h3
  have H4 := Lib.hid h4
  clear h0 h1 h2 h3 h4
  go_enter Try.func41, Try.ntmps41
  go_wp2_with fail
  refine (lwithin_yes _ _ _ _ H1.out).mono ?_; rintro e w' ⟨rfl, rfl⟩
  go_wp2_with fail
  refine (lwithin_yes _ _ _ _ H2.out).mono ?_; rintro e w' ⟨rfl, rfl⟩
  go_wp2_with fail
  refine (lwithin_yes _ _ _ _ H3.out).mono ?_; rintro e w' ⟨rfl, rfl⟩
  go_wp2_with fail
  refine (lwithin_no _ _ _ _ H4.out).mono ?_; rintro e w' ⟨rfl, rfl⟩
  go_wp2_with fail
  go_ret
  exact ⟨rfl, (Below.refl _ _).alloc (Nat.le_refl _) _⟩

theorem Try.infoi : (Try.prog.info? 3).map (fun i => (i.zero, i.size, i.bytes)) = some (some (.int .i64 0), 1, 8) := by kernel_rfl
/-- the pointers, as the loop goes through them -/
def ptrs (l : List Int) : List Int := nth l 16 :: nth l 17 :: (l.drop 4).take 12
set_option maxHeartbeats 1000000 in
set_option maxRecDepth 100000 in
theorem linodeMay_else (l : List Int) (hl : l.length = 18) (h0 : nth l 0 ≠ 0) (h1 : 1 ≤ nth l 0 ∧ nth l 0 ≤ 2) (h2 : 0 ≤ nth l 1 ∧ nth l 1 ≤ 100) (h3 : 0 ≤ nth l 2 ∧ nth l 2 ≤ 136704) (h4 : 0 ≤ nth l 3 ∧ nth l 3 ≤ 1099511627776) (b : Bool) (hb : b = true ↔ (∀ j, j < 14 → 0 ≤ nth (ptrs l) j ∧ nth (ptrs l) j ≤ 4294967295) ∧ (nth l 0 = 1 ∨ nth l 2 % 128 = 0)) (w : World) :
    Calls Try.prog 41 #[.agg (IV .i64 l)] w fun e w' => e = .returned (.bool b) ∧ Below w.heap.size w w' := by
  obtain ⟨ii, hii, hz0, hz1, hz2⟩ := info_parts Try.infoi
  have d0 : (nth l 0 == 0) = false := by simpa using h0
  have H0 := Lib.hid h0
  have H1 := Lib.hid h1
  have H2 := Lib.hid h2
  have H3 := Lib.hid h3
  have H4 := Lib.hid h4
  have HBB := Lib.hid hb
  clear h0 hb h1 h2 h3 h4
  go_enter Try.func41, Try.ntmps41
  go_wp2_with fail
  refine (lwithin_yes _ _ _ _ H1.out).mono ?_; rintro e w' ⟨rfl, rfl⟩
  go_wp2_with fail
  refine (lwithin_yes _ _ _ _ H2.out).mono ?_; rintro e w' ⟨rfl, rfl⟩
  go_wp2_with fail
  refine (lwithin_yes _ _ _ _ H3.out).mono ?_; rintro e w' ⟨rfl, rfl⟩
  go_wp2_with fail
  refine (lwithin_yes _ _ _ _ H4.out).mono ?_; rintro e w' ⟨rfl, rfl⟩
  go_wp2_with fail
  have hbw := (Below.refl w.heap.size w).alloc (Nat.le_refl _) (.cells (IV .i64 l) 43)
  obtain ⟨f1, z1⟩ := hopN w (.cells (IV .i64 l) 43)
  generalize w.alloc (.cells (IV .i64 l) 43) = w1 at *
  refine wp_region_G (by kernel_rfl) 10 (by decide) rfl (fun w' => Below w1.heap.size w1 w') (fun w w' => Below w.heap.size w w')
    (fun i v w' => match i with
      | 0 => v = .pointer (some ⟨w.heap.size, 16, none⟩) | 1 => v = .int .i64 (nth l 16) | 2 => v = .pointer (some ⟨w.heap.size, 17, none⟩) | 3 => v = .int .i64 (nth l 17)
      | 4 => ∃ g, v = .slice (some ⟨g, 0, none⟩) 2 2 ∧ hat w' g = some (.cells (IV .i64 [nth l 16, nth l 17]) 3)
      | 5 => v = .pointer (some ⟨w.heap.size, 4, none⟩) | 6 => v = .slice (some ⟨w.heap.size, 4, none⟩) 12 12
      | 7 => ∃ g cap cur, v = .slice (some ⟨g, 0, none⟩) 14 cap ∧ hat w' g = some (.cells cur 3) ∧ cur.toList.take 14 = (ptrs l).map (Value.int .i64)
      | 8 => v = .int .i64 14 | _ => v = .int .i64 0) ((Below.refl _ _).drew) ?_ ?_ ?_
  · intro i v wa wb hi _ _ hE hG
    have hi' : i = 0 ∨ i = 1 ∨ i = 2 ∨ i = 3 ∨ i = 4 ∨ i = 5 ∨ i = 6 ∨ i = 7 ∨ i = 8 ∨ i = 9 := by omega
    rcases hi' with rfl | rfl | rfl | rfl | rfl | rfl | rfl | rfl | rfl | rfl <;> try exact hG
    · obtain ⟨g, h1, h2⟩ := hG
      exact ⟨g, h1, (hop hE h2).1⟩
    · obtain ⟨g, cap, cur, h1, h2, h3⟩ := hG
      exact ⟨g, cap, cur, h1, (hop hE h2).1, h3⟩
  · intro i o hi ho a' w' hB hS hF
    have hi' : i = 0 ∨ i = 1 ∨ i = 2 ∨ i = 3 ∨ i = 4 ∨ i = 5 ∨ i = 6 ∨ i = 7 ∨ i = 8 ∨ i = 9 := by omega
    have e1 := gtx ((hS 1 (by decide)).trans rfl : gt a' 1 = .pointer (some ⟨w.heap.size, 0, none⟩))
    have f1 := (hop hB f1).1
    rcases hi' with rfl | rfl | rfl | rfl | rfl | rfl | rfl | rfl | rfl | rfl
    all_goals (have ho' := Option.some.inj ho; subst ho')
    · refine wpOp_val rfl rfl (v := .pointer (some ⟨w.heap.size, 16, none⟩)) (w1 := w') ?_ ⟨_, rfl, hB, Below.refl _ _, rfl⟩
      simp [go_sem, e1]
    · exact wpOp_load_cell 3 celli (.tmp 33) rfl rfl rfl w.heap.size 16 _ _ (hF 0 (by decide) _ 33 rfl rfl) f1 (IV_get _ _ _ (by omega)) ⟨_, rfl, hB, Below.refl _ _, rfl⟩
    · refine wpOp_val rfl rfl (v := .pointer (some ⟨w.heap.size, 17, none⟩)) (w1 := w') ?_ ⟨_, rfl, hB, Below.refl _ _, rfl⟩
      simp [go_sem, e1]
    · exact wpOp_load_cell 3 celli (.tmp 35) rfl rfl rfl w.heap.size 17 _ _ (hF 2 (by decide) _ 35 rfl rfl) f1 (IV_get _ _ _ (by omega)) ⟨_, rfl, hB, Below.refl _ _, rfl⟩
    · have e2 := gtx (hF 1 (by decide) _ 34 rfl rfl)
      have e3 := gtx (hF 3 (by decide) _ 36 rfl rfl)
      refine wpOp_val rfl rfl (v := .slice (some ⟨w'.heap.size, 0, none⟩) 2 2) (w1 := w'.alloc (.cells (IV .i64 [nth l 16, nth l 17]) 3)) ?_ ⟨_, rfl, below_new hB hB.size _, (Below.refl _ _).alloc (Nat.le_refl _) _, _, rfl, (hopN _ _).1⟩
      simp [go_sem, e2, e3, IV]
    · refine wpOp_val rfl rfl (v := .pointer (some ⟨w.heap.size, 4, none⟩)) (w1 := w') ?_ ⟨_, rfl, hB, Below.refl _ _, rfl⟩
      simp [go_sem, e1]
    · have e2 := gtx (hF 5 (by decide) _ 38 rfl rfl)
      have hsl := run_sliceAt_all (P := Try.prog) Try.underlying41 (by kernel_rfl) w.heap.size 4 (by omega) w'
      refine wpOp_val rfl rfl (v := .slice (some ⟨w.heap.size, 4, none⟩) 12 12) (w1 := w') ?_ ⟨_, rfl, hB, Below.refl _ _, rfl⟩
      simp [go_sem, e2, hsl]
    · obtain ⟨g, e2, hg⟩ := hF 4 (by decide) _ 37 rfl rfl
      have e3 := hF 6 (by decide) _ 39 rfl rfl
      refine wpOp_append_grows rfl rfl (.tmp 37) (.tmp 39) 78 rfl 3 ii _ 1 8 Try.underlying78 hii hz0 hz1 hz2 rfl (by decide) ⟨g, 0, none⟩ 2 2 ([nth l 16, nth l 17].map (Value.int .i64)) e2 rfl ?_
        ⟨w.heap.size, 4, none⟩ 12 12 (((l.drop 4).take 12).map (Value.int .i64)) e3 (by simp; omega) ?_ (by decide) (by decide) (by decide) ?_
      · intro j u hj
        have hadd : (⟨g, 0, none⟩ : Addr).add j = ⟨g, j, none⟩ := by unfold Addr.add; split <;> simp_all
        rw [hadd, cell_hat hg]
        simpa [IV] using hj
      · intro j u hj
        have hadd : (⟨w.heap.size, 4, none⟩ : Addr).add j = ⟨w.heap.size, 4 + j, none⟩ := by unfold Addr.add; split <;> simp_all
        rw [hadd, cell_hat f1, IV_get?]
        have hj12 : j < 12 := by
          have := (List.getElem?_eq_some_iff.1 hj).1
          simp at this; omega
        rw [List.getElem?_map, List.getElem?_take, if_pos hj12, List.getElem?_drop] at hj
        exact hj
      · intro v' w2 hown hgr
        have hbg := below_grown hgr
        refine ⟨_, rfl, below_call hB hbg hB.size, hbg, ?_⟩
        obtain ⟨-, hv | ⟨g2, cap, cur, rfl, q1, q2, q3, q4, q5, q6⟩⟩ := hown
        · exact (by simp at hv)
        · exact ⟨g2, cap, cur, rfl, q2, by simpa [ptrs] using q6⟩
    · obtain ⟨g, cap, cur, e2, hg, hcur⟩ := hF 7 (by decide) _ 40 rfl rfl
      have e2 := gtx e2
      refine wpOp_val rfl rfl (v := .int .i64 14) (w1 := w') ?_ ⟨_, rfl, hB, Below.refl _ _, rfl⟩
      simp [go_sem, e2]
    · exact wpOp_move (.const (.int .i64 0)) rfl rfl rfl _ rfl ⟨_, rfl, hB, Below.refl _ _, rfl⟩
  · intro val w2 hB hF
    have e0 := hF 0 _ 33 (by decide) rfl rfl
    have e1 := hF 1 _ 34 (by decide) rfl rfl
    have e2 := hF 2 _ 35 (by decide) rfl rfl
    have e3 := hF 3 _ 36 (by decide) rfl rfl
    obtain ⟨g4, e4, -⟩ := hF 4 _ 37 (by decide) rfl rfl
    have e5 := hF 5 _ 38 (by decide) rfl rfl
    have e6 := hF 6 _ 39 (by decide) rfl rfl
    obtain ⟨g, cap, cur, e7, hg, hcur⟩ := hF 7 _ 40 (by decide) rfl rfl
    have e8 := hF 8 _ 41 (by decide) rfl rfl
    have e9 := hF 9 _ 42 (by decide) rfl rfl
    simp only [] at e0 e1 e2 e3 e5 e6 e8 e9
    obtain ⟨f1, z1⟩ := hop hB f1
    have hbw := below_call hbw hB (by omega)
    clear hF hB
    simp only [putAll, List.take, List.drop, List.take_succ_cons, List.drop_succ_cons, e0, e1, e2, e3, e4, e5, e6, e7, e8, e9, Act.put, List.setIfInBounds_toArray, List.set_cons_zero, List.set_cons_succ]
    clear e0 e1 e2 e3 e4 e5 e6 e7 e8 e9
    have hpl : (ptrs l).length = 14 := by simp [ptrs, hl]
    have hcell : ∀ k, k < 14 → cur[k]? = some (.int .i64 (nth (ptrs l) k)) := by
      intro k hk
      have e := congrArg (fun m => m[k]?) hcur
      simp only [List.getElem?_take, if_pos hk, Array.getElem?_toList, List.getElem?_map, nth_getElem? (show k < (ptrs l).length by omega), Option.map_some] at e
      exact e
    have HCELL := Lib.hid hcell
    clear hcell hcur
    go_wp2_with fail
    go_loop [42] (fun i => ∃ k : Nat, k ≤ 14 ∧ i = .int .i64 k ∧ ∀ j, j < k → 0 ≤ nth (ptrs l) j ∧ nth (ptrs l) j ≤ 4294967295) (fun i => 14 - (intOf i).toNat)
    case atStart => exact ⟨0, by omega, rfl, fun j hj => by omega⟩
    case round =>
      obtain ⟨k, hk, rfl, hok⟩ := hrel
      have HOK := Lib.hid hok
      clear hok
      by_cases hkw : k < 14
      · have hck := HCELL.out k hkw
        by_cases hp : 0 ≤ nth (ptrs l) k ∧ nth (ptrs l) k ≤ 4294967295
        · have HP := Lib.hid hp
          clear hp
          go_wp2_with fail
          refine (lwithin_yes _ _ _ _ HP.out).mono ?_; rintro e w' ⟨rfl, rfl⟩
          go_wp2_with fail
          go_round
          case rel =>
            refine ⟨k + 1, by omega, by go_num, fun j hj => ?_⟩
            by_cases hjk : j = k
            · subst hjk; exact HP.out
            · exact HOK.out j (by omega)
          case measure => (show 14 - (k + 1) < 14 - k); omega
        · have HP := Lib.hid hp
          clear hp
          have hbf : b = false := bool_false HBB.out (fun h => HP.out (h.1 k hkw))
          have HBF := Lib.hid hbf
          clear hbf
          go_wp2_with fail
          refine (lwithin_no _ _ _ _ HP.out).mono ?_; rintro e w' ⟨rfl, rfl⟩
          go_wp2_with fail
          go_ret
          exact ⟨by rw [HBF.out]; rfl, hbw⟩
      · obtain rfl : k = 14 := by omega
        by_cases hk1 : nth l 0 = 1
        · have hbt : b = true := bool_true HBB.out ⟨HOK.out, .inl hk1⟩
          have d1 : (nth l 0 == 1) = true := by simpa using hk1
          have HBT := Lib.hid hbt
          clear hbt hk1
          go_wp2_with fail
          go_ret
          exact ⟨by rw [HBT.out]; rfl, hbw⟩
        · have hz : 0 ≤ nth l 2 := H3.out.1
          have hz2 : nth l 2 ≤ 136704 := H3.out.2
          have d1 : (nth l 0 == 1) = false := by simpa using hk1
          by_cases hs : nth l 2 % 128 = 0
          · have hbt : b = true := bool_true HBB.out ⟨HOK.out, .inr hs⟩
            have d2 : (nth l 2 % 128 == 0) = true := by simpa using hs
            have HBT := Lib.hid hbt
            clear hbt hk1 hs
            go_wp2_with fail
            go_ret
            exact ⟨by rw [HBT.out]; rfl, hbw⟩
          · have hbt : b = false := bool_false HBB.out (fun h => h.2.elim hk1 hs)
            have d2 : (nth l 2 % 128 == 0) = false := by simpa using hs
            have HBT := Lib.hid hbt
            clear hbt hk1 hs
            go_wp2_with fail
            go_ret
            exact ⟨by rw [HBT.out]; rfl, hbw⟩
end Go.Proofs.Ythgiolofnkdfoaa
