/- Layout: the first sector, read. -/
import Derived.Test.YthgiolofnkdfoaaLay2
namespace Go.Proofs.Ythgiolofnkdfoaa
set_option linter.unusedSimpArgs false
set_option linter.unusedVariables false
open Go.RowKit

set_option maxHeartbeats 400000 in
set_option maxRecDepth 100000 in
theorem rsuperSector_ok (x y : Int) (w : World) (h : SupMay x y) :
    Calls Try.prog 17 #[.agg #[.int .i64 x, .int .i64 y]] w fun e w' => e = .returned (.tuple #[.agg (IV .u8 (supSec x y)), .int .i64 0]) ∧ Below w.heap.size w w' := by
  obtain ⟨h1, h2, q5⟩ := id h
  have H1 := Lib.hid h1
  have H2 := Lib.hid h2
  obtain ⟨q1, q2⟩ := h1
  obtain ⟨q3, q4⟩ := h2
  clear h
  go_enter Try.func17, Try.ntmps17
  go_wp2_with fail
  refine (rwithin_yes _ _ _ _ H1.out).mono ?_; rintro e w' ⟨rfl, rfl⟩
  go_wp2_with fail
  refine (rwithin_yes _ _ _ _ H2.out).mono ?_; rintro e w' ⟨rfl, rfl⟩
  go_wp2_with fail
  have hms : (((((zl 128).set 0 66).set 1 82).set 2 75).set 3 87) = putL (zl 128) 0 markL := by decide
  have hpl : (putL (zl 128) 0 markL).length = 128 := by decide
  rw [hms]
  refine (lay_ok (putL (zl 128) 0 markL) hpl 4 4 x _ (by omega) (by omega) (by omega) (by omega)).mono ?_; rintro e w1 ⟨rfl, hb1⟩
  have hb := below_call ((((Below.refl w.heap.size w).alloc (Nat.le_refl _) _).alloc (by simp) _).alloc (by simp; omega) _) hb1 (by simp; omega)
  obtain ⟨f0, z0⟩ := hop hb1 (k := w.heap.size) (o := .cells #[.int .i64 x, .int .i64 y] 34) (by simp [go_sem])
  obtain ⟨f1, z1⟩ := hop hb1 (k := w.heap.size + 1) (o := .cells (IV .u8 (zl 128)) 25) (by simp [go_sem])
  obtain ⟨f2, z2⟩ := hop hb1 (k := w.heap.size + 1 + 1) (o := .cells (IV .u8 (putL (zl 128) 0 markL)) 25) (by simp [go_sem])
  have hl2 : (setB (putL (zl 128) 0 markL) 4 4 x).length = 128 := by simp [hpl]
  clear hb1 hms
  go_wp2_with fail
  refine (lay_ok _ hl2 8 4 y _ (by omega) (by omega) (by omega) (by omega)).mono ?_; rintro e w2 ⟨rfl, hb2⟩
  have hb := below_call (below_setRow hb (g := w.heap.size + 1 + 1) (by omega) (IV .u8 (setB (putL (zl 128) 0 markL) 4 4 x))) hb2 (by simp; omega)
  obtain ⟨f1, z1⟩ := hop hb2 (k := w.heap.size + 1) (o := .cells (IV .u8 (zl 128)) 25) (by simp [go_sem, f1])
  have hsl : (supSec x y).length = 128 := by simp [supSec, hpl]
  clear hb2
  rw [show setB (setB (putL (zl 128) 0 markL) 4 4 x) 8 4 y = supSec x y from rfl]
  go_wp2_with fail
  refine ret_ct row25 rfl (cs := IV .u8 (supSec x y)) rfl (hat_setRow_at _ _ _ _ _ _ f1) (by simp [hsl]) rfl ⟨rfl, ?_⟩
  exact below_setRow hb (by omega) _

set_option maxHeartbeats 400000 in
set_option maxRecDepth 100000 in
theorem rsuperSector_no (x y : Int) (w : World) (h : ¬ SupMay x y) (hx : x ≤ 9223372036854775807) (hy : y ≤ 9223372036854775807) (hx' : -9223372036854775808 ≤ x) (hy' : -9223372036854775808 ≤ y) :
    Calls Try.prog 17 #[.agg #[.int .i64 x, .int .i64 y]] w fun e w' => e = .returned (.tuple #[.agg (IV .u8 (zl 128)), .int .i64 60]) ∧ Below w.heap.size w w' := by
  have hB := ((Below.refl w.heap.size w).alloc (Nat.le_refl _) (.cells #[.int .i64 x, .int .i64 y] 34)).alloc (by simp) (.cells (IV .u8 (zl 128)) 25)
  by_cases h1 : 8 ≤ x ∧ x ≤ 4096
  · by_cases h2 : 1 ≤ y ∧ y ≤ 512
    · have h3 : x < y + 2 := by
        false_or_by_contra
        exact h ⟨h1, h2, by omega⟩
      have H1 := Lib.hid h1
      have H2 := Lib.hid h2
      have HB := Lib.hid hB
      clear h hB
      obtain ⟨a1, a2⟩ := h1
      obtain ⟨b1, b2⟩ := h2
      go_enter Try.func17, Try.ntmps17
      go_wp2_with fail
      refine (rwithin_yes _ _ _ _ H1.out).mono ?_; rintro e w' ⟨rfl, rfl⟩
      go_wp2_with fail
      refine (rwithin_yes _ _ _ _ H2.out).mono ?_; rintro e w' ⟨rfl, rfl⟩
      go_wp2_with fail
      exact ret_ct row25 rfl (cs := IV .u8 (zl 128)) rfl (hat_alloc_at _ _ _ (by simp)) (by simp) rfl ⟨rfl, HB.out⟩
    · have H1 := Lib.hid h1
      have H2 := Lib.hid h2
      have HB := Lib.hid hB
      clear h h1 h2 hB
      go_enter Try.func17, Try.ntmps17
      go_wp2_with fail
      refine (rwithin_yes _ _ _ _ H1.out).mono ?_; rintro e w' ⟨rfl, rfl⟩
      go_wp2_with fail
      refine (rwithin_no _ _ _ _ H2.out).mono ?_; rintro e w' ⟨rfl, rfl⟩
      go_wp2_with fail
      exact ret_ct row25 rfl (cs := IV .u8 (zl 128)) rfl (hat_alloc_at _ _ _ (by simp)) (by simp) rfl ⟨rfl, HB.out⟩
  · have H1 := Lib.hid h1
    have HB := Lib.hid hB
    clear h h1 hB
    go_enter Try.func17, Try.ntmps17
    go_wp2_with fail
    refine (rwithin_no _ _ _ _ H1.out).mono ?_; rintro e w' ⟨rfl, rfl⟩
    go_wp2_with fail
    exact ret_ct row25 rfl (cs := IV .u8 (zl 128)) rfl (hat_alloc_at _ _ _ (by simp)) (by simp) rfl ⟨rfl, HB.out⟩

open Classical in
/-- what ReadSuper answers -/
noncomputable def rdSuperV (s : List Int) : Value :=
  if SupMay (getB s 4 4) (getB s 8 4) ∧ supSec (getB s 4 4) (getB s 8 4) = s then .tuple #[.agg #[.int .i64 (getB s 4 4), .int .i64 (getB s 8 4)], .int .i64 0]
  else .tuple #[.agg #[.int .i64 0, .int .i64 0], .int .i64 60]
theorem lget4 (s : List Int) (hs : s.length = 128) (hb : Bytes s) (a : Nat) (w : World) (hw : a + 4 ≤ 128) :
    Calls Try.prog 38 #[.agg (IV .u8 s), .int .i64 a, .int .i64 4] w fun e w' => e = .returned (.int .i64 (getB s a 4)) ∧ Below w.heap.size w w' :=
  (lget_any s hs hb a 4 w (by omega) (by omega) hw).mono fun e w' ⟨he, hB⟩ => ⟨by
    have := getB_lt hb 4 a
    rw [he, getL, if_neg (by omega)], hB⟩

set_option maxHeartbeats 1000000 in
set_option maxRecDepth 100000 in
theorem lreadSuper_any (s : List Int) (hs : s.length = 128) (hb : Bytes s) (w : World) :
    Calls Try.prog 18 #[.agg (IV .u8 s)] w fun e w' => e = .returned (rdSuperV s) ∧ Below w.heap.size w w' := by
  have hx0 := getB_nonneg hb 4 4
  have hy0 := getB_nonneg hb 4 8
  have hx1 : getB s 4 4 < 4294967296 := getB_lt hb 4 4
  have hy1 : getB s 8 4 < 4294967296 := getB_lt hb 4 8
  go_enter Try.func18, Try.ntmps18
  go_wp2_with fail
  have hbw := ((Below.refl w.heap.size w).alloc (Nat.le_refl _) (.cells (IV .u8 s) 25)).alloc (by simp) (.cells #[.int .i64 0, .int .i64 0] 34)
  have f1 : hat ((w.alloc (.cells (IV .u8 s) 25)).alloc (.cells #[.int .i64 0, .int .i64 0] 34)) w.heap.size = some (.cells (IV .u8 s) 25) := by simp [go_sem]
  have f2 : hat ((w.alloc (.cells (IV .u8 s) 25)).alloc (.cells #[.int .i64 0, .int .i64 0] 34)) (w.heap.size + 1) = some (.cells #[.int .i64 0, .int .i64 0] 34) := by simp [go_sem]
  have hz1 := hat_lt f2
  generalize (w.alloc (.cells (IV .u8 s) 25)).alloc (.cells #[.int .i64 0, .int .i64 0] 34) = w1 at *
  refine wp_region_G (by kernel_rfl) 6 (by decide) rfl (fun w' => Below w1.heap.size w1 w') (fun w w' => Below w.heap.size w w')
    (fun i v w' => match i with
      | 0 => v = .agg (IV .u8 s) | 1 => v = .int .i64 (getB s 4 4) | 2 => v = .agg (IV .u8 s) | 3 => v = .int .i64 (getB s 8 4)
      | 4 => v = .agg #[.int .i64 (getB s 4 4), .int .i64 (getB s 8 4)]
      | _ => ∃ g, v = .pointer (some ⟨g, 0, none⟩) ∧ w1.heap.size ≤ g ∧ hat w' g = some (.cells #[.int .i64 0, .int .i64 0] 34)) ((Below.refl _ _).drew) ?_ ?_ ?_
  · intro i v wa wb hi _ _ hE hG
    have hi' : i = 0 ∨ i = 1 ∨ i = 2 ∨ i = 3 ∨ i = 4 ∨ i = 5 := by omega
    rcases hi' with rfl | rfl | rfl | rfl | rfl | rfl <;> try exact hG
    obtain ⟨g, h1, h2, h3⟩ := hG
    exact ⟨g, h1, h2, (hop hE h3).1⟩
  · intro i o hi ho a' w' hB hS hF
    have hi' : i = 0 ∨ i = 1 ∨ i = 2 ∨ i = 3 ∨ i = 4 ∨ i = 5 := by omega
    rcases hi' with rfl | rfl | rfl | rfl | rfl | rfl
    all_goals (have ho' := Option.some.inj ho; subst ho')
    · exact wpOp_load_row 25 128 row25 (.tmp 1) rfl rfl rfl w.heap.size _ ((hS 1 (by decide)).trans rfl) (hop hB f1).1 (by simp [hs]) ⟨_, rfl, hB, Below.refl _ _, rfl⟩
    · have e0 := hF 0 (by decide) _ 7 rfl rfl
      have e0 := gtx e0
      refine wpOp_call (f := 38) (args := #[.agg (IV .u8 s), .int .i64 4, .int .i64 4]) rfl rfl (by simp [go_sem, e0]) (lget4 s hs hb 4 w' (by omega)) ?_
      rintro e w'' ⟨rfl, hb'⟩
      exact ⟨_, rfl, _, rfl, below_call hB hb' hB.size, hb', rfl⟩
    · exact wpOp_load_row 25 128 row25 (.tmp 1) rfl rfl rfl w.heap.size _ ((hS 1 (by decide)).trans rfl) (hop hB f1).1 (by simp [hs]) ⟨_, rfl, hB, Below.refl _ _, rfl⟩
    · have e0 := hF 2 (by decide) _ 9 rfl rfl
      have e0 := gtx e0
      refine wpOp_call (f := 38) (args := #[.agg (IV .u8 s), .int .i64 8, .int .i64 4]) rfl rfl (by simp [go_sem, e0]) (lget4 s hs hb 8 w' (by omega)) ?_
      rintro e w'' ⟨rfl, hb'⟩
      exact ⟨_, rfl, _, rfl, below_call hB hb' hB.size, hb', rfl⟩
    · have e0 := hF 1 (by decide) _ 8 rfl rfl
      have e1 := hF 3 (by decide) _ 10 rfl rfl
      have e0 := gtx e0
      have e1 := gtx e1
      refine wpOp_val rfl rfl (v := .agg #[.int .i64 (getB s 4 4), .int .i64 (getB s 8 4)]) (w1 := w') ?_ ⟨_, rfl, hB, Below.refl _ _, rfl⟩
      simp [go_sem, e0, e1]
    · refine wpOp_val rfl rfl (v := .pointer (some ⟨w'.heap.size, 0, none⟩)) (w1 := w'.alloc (.cells #[.int .i64 0, .int .i64 0] 34)) ?_ ⟨_, rfl, below_new hB hB.size _, (Below.refl _ _).alloc (Nat.le_refl _) _, w'.heap.size, rfl, hB.size, (hopN _ _).1⟩
      simp [go_sem]
  · intro val w2 hB hF
    have e0 := hF 0 _ 7 (by decide) rfl rfl
    have e1 := hF 1 _ 8 (by decide) rfl rfl
    have e2 := hF 2 _ 9 (by decide) rfl rfl
    have e3 := hF 3 _ 10 (by decide) rfl rfl
    have e4 := hF 4 _ 11 (by decide) rfl rfl
    obtain ⟨g, e5, hg, f3⟩ := hF 5 _ 4 (by decide) rfl rfl
    simp only [] at e0 e1 e2 e3 e4
    obtain ⟨f1, z1⟩ := hop hB f1
    obtain ⟨f2, z2⟩ := hop hB f2
    have hbw := below_call hbw hB hbw.size
    have hg1 : w.heap.size + 1 < g := by omega
    clear hF hB
    simp only [putAll, List.take, List.drop, List.take_succ_cons, List.drop_succ_cons, e0, e1, e2, e3, e4, e5]
    clear e0 e1 e2 e3 e4 e5
    have hsw := (hopS f3 #[.int .i64 (getB s 4 4), .int .i64 (getB s 8 4)])
    obtain ⟨f1, z1⟩ := hopR f1 g #[.int .i64 (getB s 4 4), .int .i64 (getB s 8 4)] (by omega)
    obtain ⟨f2, z2⟩ := hopR f2 g #[.int .i64 (getB s 4 4), .int .i64 (getB s 8 4)] (by omega)
    have hbw := below_setRow hbw (g := g) (by omega) #[.int .i64 (getB s 4 4), .int .i64 (getB s 8 4)]
    obtain ⟨f3, z3⟩ := hsw
    by_cases hm : SupMay (getB s 4 4) (getB s 8 4)
    · go_wp2_with fail
      refine (superSector_ok (getB s 4 4) (getB s 8 4) _ hm).mono ?_; rintro e w3 ⟨rfl, hb3⟩
      have hbw := below_call hbw hb3 hbw.size
      obtain ⟨f1, z1⟩ := hop hb3 f1
      obtain ⟨f2, z2⟩ := hop hb3 f2
      obtain ⟨f3, z3⟩ := hop hb3 f3
      have hsl : (supSec (getB s 4 4) (getB s 8 4)).length = 128 := by simp [supSec]; decide
      clear hb3
      by_cases he : supSec (getB s 4 4) (getB s 8 4) = s
      · have hd : rdSuperV s = .tuple #[.agg #[.int .i64 (getB s 4 4), .int .i64 (getB s 8 4)], .int .i64 0] := by unfold rdSuperV; rw [if_pos ⟨hm, he⟩]
        have HD := Lib.hid hd
        have he' : decide (supSec (getB s 4 4) (getB s 8 4) = s) = true := by simpa using he
        have HE := Lib.hid he
        clear he hm hd
        go_wp2_with fail
        exact ret_ct row34 rfl (cs := #[.int .i64 (getB s 4 4), .int .i64 (getB s 8 4)]) rfl (hopA _ _ (hopS f2 #[.int .i64 (getB s 4 4), .int .i64 (getB s 8 4)]).1).1 rfl rfl ⟨by rw [HD.out]; rfl, below_new (below_setRow hbw (by omega) _) (by simp; omega) _⟩
      · have hd : rdSuperV s = .tuple #[.agg #[.int .i64 0, .int .i64 0], .int .i64 60] := by unfold rdSuperV; rw [if_neg (fun h => he h.2)]
        have HD := Lib.hid hd
        clear hm hd
        go_wp2_with fail
        exact ret_ct row34 rfl (cs := #[.int .i64 0, .int .i64 0]) rfl (hopA _ _ (hopS f2 #[.int .i64 0, .int .i64 0]).1).1 rfl rfl ⟨by rw [HD.out]; rfl, below_new (below_setRow hbw (by omega) _) (by simp; omega) _⟩
    · have hd : rdSuperV s = .tuple #[.agg #[.int .i64 0, .int .i64 0], .int .i64 60] := by unfold rdSuperV; rw [if_neg (fun h => hm h.1)]
      have HD := Lib.hid hd
      clear hd
      have HM := Lib.hid hm
      clear hm
      go_wp2_with fail
      refine (superSector_no (getB s 4 4) (getB s 8 4) _ HM.out (by omega) (by omega) (by omega) (by omega)).mono ?_; rintro e w3 ⟨rfl, hb3⟩
      have hbw := below_call hbw hb3 hbw.size
      obtain ⟨f1, z1⟩ := hop hb3 f1
      obtain ⟨f2, z2⟩ := hop hb3 f2
      obtain ⟨f3, z3⟩ := hop hb3 f3
      clear hb3
      go_wp2_with fail
      exact ret_ct row34 rfl (cs := #[.int .i64 0, .int .i64 0]) rfl (hopA _ _ (hopS f2 #[.int .i64 0, .int .i64 0]).1).1 rfl rfl ⟨by rw [HD.out]; rfl, below_new (below_setRow hbw (by omega) _) (by simp; omega) _⟩

set_option maxHeartbeats 1000000 in
set_option maxRecDepth 100000 in
theorem rreadSuper_any (s : List Int) (hs : s.length = 128) (hb : Bytes s) (w : World) :
    Calls Try.prog 19 #[.agg (IV .u8 s)] w fun e w' => e = .returned (rdSuperV s) ∧ Below w.heap.size w w' := by
  have hx0 := getB_nonneg hb 4 4
  have hy0 := getB_nonneg hb 4 8
  have hx1 : getB s 4 4 < 4294967296 := getB_lt hb 4 4
  have hy1 : getB s 8 4 < 4294967296 := getB_lt hb 4 8
  go_enter Try.func19, Try.ntmps19
  go_wp2_with fail
  have hbw := ((Below.refl w.heap.size w).alloc (Nat.le_refl _) (.cells (IV .u8 s) 25)).alloc (by simp) (.cells #[.int .i64 0, .int .i64 0] 34)
  have f1 : hat ((w.alloc (.cells (IV .u8 s) 25)).alloc (.cells #[.int .i64 0, .int .i64 0] 34)) w.heap.size = some (.cells (IV .u8 s) 25) := by simp [go_sem]
  have f2 : hat ((w.alloc (.cells (IV .u8 s) 25)).alloc (.cells #[.int .i64 0, .int .i64 0] 34)) (w.heap.size + 1) = some (.cells #[.int .i64 0, .int .i64 0] 34) := by simp [go_sem]
  have hz1 := hat_lt f2
  generalize (w.alloc (.cells (IV .u8 s) 25)).alloc (.cells #[.int .i64 0, .int .i64 0] 34) = w1 at *
  refine wp_region_G (by kernel_rfl) 6 (by decide) rfl (fun w' => Below w1.heap.size w1 w') (fun w w' => Below w.heap.size w w')
    (fun i v w' => match i with
      | 0 => v = .agg (IV .u8 s) | 1 => v = .int .i64 (getB s 4 4) | 2 => v = .agg (IV .u8 s) | 3 => v = .int .i64 (getB s 8 4)
      | 4 => v = .agg #[.int .i64 (getB s 4 4), .int .i64 (getB s 8 4)]
      | _ => ∃ g, v = .pointer (some ⟨g, 0, none⟩) ∧ w1.heap.size ≤ g ∧ hat w' g = some (.cells #[.int .i64 0, .int .i64 0] 34)) ((Below.refl _ _).drew) ?_ ?_ ?_
  · intro i v wa wb hi _ _ hE hG
    have hi' : i = 0 ∨ i = 1 ∨ i = 2 ∨ i = 3 ∨ i = 4 ∨ i = 5 := by omega
    rcases hi' with rfl | rfl | rfl | rfl | rfl | rfl <;> try exact hG
    obtain ⟨g, h1, h2, h3⟩ := hG
    exact ⟨g, h1, h2, (hop hE h3).1⟩
  · intro i o hi ho a' w' hB hS hF
    have hi' : i = 0 ∨ i = 1 ∨ i = 2 ∨ i = 3 ∨ i = 4 ∨ i = 5 := by omega
    rcases hi' with rfl | rfl | rfl | rfl | rfl | rfl
    all_goals (have ho' := Option.some.inj ho; subst ho')
    · exact wpOp_load_row 25 128 row25 (.tmp 1) rfl rfl rfl w.heap.size _ ((hS 1 (by decide)).trans rfl) (hop hB f1).1 (by simp [hs]) ⟨_, rfl, hB, Below.refl _ _, rfl⟩
    · have e0 := hF 0 (by decide) _ 7 rfl rfl
      have e0 := gtx e0
      refine wpOp_call (f := 39) (args := #[.agg (IV .u8 s), .int .i64 4, .int .i64 4]) rfl rfl (by simp [go_sem, e0]) (says_ok s hs hb 4 4 w' (by omega) (by omega) (by omega)) ?_
      rintro e w'' ⟨rfl, hb'⟩
      exact ⟨_, rfl, _, rfl, below_call hB hb' hB.size, hb', rfl⟩
    · exact wpOp_load_row 25 128 row25 (.tmp 1) rfl rfl rfl w.heap.size _ ((hS 1 (by decide)).trans rfl) (hop hB f1).1 (by simp [hs]) ⟨_, rfl, hB, Below.refl _ _, rfl⟩
    · have e0 := hF 2 (by decide) _ 9 rfl rfl
      have e0 := gtx e0
      refine wpOp_call (f := 39) (args := #[.agg (IV .u8 s), .int .i64 8, .int .i64 4]) rfl rfl (by simp [go_sem, e0]) (says_ok s hs hb 8 4 w' (by omega) (by omega) (by omega)) ?_
      rintro e w'' ⟨rfl, hb'⟩
      exact ⟨_, rfl, _, rfl, below_call hB hb' hB.size, hb', rfl⟩
    · have e0 := hF 1 (by decide) _ 8 rfl rfl
      have e1 := hF 3 (by decide) _ 10 rfl rfl
      have e0 := gtx e0
      have e1 := gtx e1
      refine wpOp_val rfl rfl (v := .agg #[.int .i64 (getB s 4 4), .int .i64 (getB s 8 4)]) (w1 := w') ?_ ⟨_, rfl, hB, Below.refl _ _, rfl⟩
      simp [go_sem, e0, e1]
    · refine wpOp_val rfl rfl (v := .pointer (some ⟨w'.heap.size, 0, none⟩)) (w1 := w'.alloc (.cells #[.int .i64 0, .int .i64 0] 34)) ?_ ⟨_, rfl, below_new hB hB.size _, (Below.refl _ _).alloc (Nat.le_refl _) _, w'.heap.size, rfl, hB.size, (hopN _ _).1⟩
      simp [go_sem]
  · intro val w2 hB hF
    have e0 := hF 0 _ 7 (by decide) rfl rfl
    have e1 := hF 1 _ 8 (by decide) rfl rfl
    have e2 := hF 2 _ 9 (by decide) rfl rfl
    have e3 := hF 3 _ 10 (by decide) rfl rfl
    have e4 := hF 4 _ 11 (by decide) rfl rfl
    obtain ⟨g, e5, hg, f3⟩ := hF 5 _ 4 (by decide) rfl rfl
    simp only [] at e0 e1 e2 e3 e4
    obtain ⟨f1, z1⟩ := hop hB f1
    obtain ⟨f2, z2⟩ := hop hB f2
    have hbw := below_call hbw hB hbw.size
    have hg1 : w.heap.size + 1 < g := by omega
    clear hF hB
    simp only [putAll, List.take, List.drop, List.take_succ_cons, List.drop_succ_cons, e0, e1, e2, e3, e4, e5]
    clear e0 e1 e2 e3 e4 e5
    have hsw := (hopS f3 #[.int .i64 (getB s 4 4), .int .i64 (getB s 8 4)])
    obtain ⟨f1, z1⟩ := hopR f1 g #[.int .i64 (getB s 4 4), .int .i64 (getB s 8 4)] (by omega)
    obtain ⟨f2, z2⟩ := hopR f2 g #[.int .i64 (getB s 4 4), .int .i64 (getB s 8 4)] (by omega)
    have hbw := below_setRow hbw (g := g) (by omega) #[.int .i64 (getB s 4 4), .int .i64 (getB s 8 4)]
    obtain ⟨f3, z3⟩ := hsw
    by_cases hm : SupMay (getB s 4 4) (getB s 8 4)
    · go_wp2_with fail
      refine (rsuperSector_ok (getB s 4 4) (getB s 8 4) _ hm).mono ?_; rintro e w3 ⟨rfl, hb3⟩
      have hbw := below_call hbw hb3 hbw.size
      obtain ⟨f1, z1⟩ := hop hb3 f1
      obtain ⟨f2, z2⟩ := hop hb3 f2
      obtain ⟨f3, z3⟩ := hop hb3 f3
      have hsl : (supSec (getB s 4 4) (getB s 8 4)).length = 128 := by simp [supSec]; decide
      clear hb3
      by_cases he : supSec (getB s 4 4) (getB s 8 4) = s
      · have hd : rdSuperV s = .tuple #[.agg #[.int .i64 (getB s 4 4), .int .i64 (getB s 8 4)], .int .i64 0] := by unfold rdSuperV; rw [if_pos ⟨hm, he⟩]
        have HD := Lib.hid hd
        have he' : decide (supSec (getB s 4 4) (getB s 8 4) = s) = true := by simpa using he
        have HE := Lib.hid he
        clear he hm hd
        go_wp2_with fail
        exact ret_ct row34 rfl (cs := #[.int .i64 (getB s 4 4), .int .i64 (getB s 8 4)]) rfl (hopA _ _ (hopS f2 #[.int .i64 (getB s 4 4), .int .i64 (getB s 8 4)]).1).1 rfl rfl ⟨by rw [HD.out]; rfl, below_new (below_setRow hbw (by omega) _) (by simp; omega) _⟩
      · have hd : rdSuperV s = .tuple #[.agg #[.int .i64 0, .int .i64 0], .int .i64 60] := by unfold rdSuperV; rw [if_neg (fun h => he h.2)]
        have HD := Lib.hid hd
        clear hm hd
        go_wp2_with fail
        exact ret_ct row34 rfl (cs := #[.int .i64 0, .int .i64 0]) rfl (hopA _ _ (hopS f2 #[.int .i64 0, .int .i64 0]).1).1 rfl rfl ⟨by rw [HD.out]; rfl, below_new (below_setRow hbw (by omega) _) (by simp; omega) _⟩
    · have hd : rdSuperV s = .tuple #[.agg #[.int .i64 0, .int .i64 0], .int .i64 60] := by unfold rdSuperV; rw [if_neg (fun h => hm h.1)]
      have HD := Lib.hid hd
      clear hd
      have HM := Lib.hid hm
      clear hm
      go_wp2_with fail
      refine (rsuperSector_no (getB s 4 4) (getB s 8 4) _ HM.out (by omega) (by omega) (by omega) (by omega)).mono ?_; rintro e w3 ⟨rfl, hb3⟩
      have hbw := below_call hbw hb3 hbw.size
      obtain ⟨f1, z1⟩ := hop hb3 f1
      obtain ⟨f2, z2⟩ := hop hb3 f2
      obtain ⟨f3, z3⟩ := hop hb3 f3
      clear hb3
      go_wp2_with fail
      exact ret_ct row34 rfl (cs := #[.int .i64 0, .int .i64 0]) rfl (hopA _ _ (hopS f2 #[.int .i64 0, .int .i64 0]).1).1 rfl rfl ⟨by rw [HD.out]; rfl, below_new (below_setRow hbw (by omega) _) (by simp; omega) _⟩
end Go.Proofs.Ythgiolofnkdfoaa
