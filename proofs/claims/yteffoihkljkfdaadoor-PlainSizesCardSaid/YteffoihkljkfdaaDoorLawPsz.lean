/- Which sizes may be, and what a new one has: the law's walk. -/
import Derived.Test.YteffoihkljkfdaaDoorPkn
import Derived.Test.YteffoihkljkfdaaDoorPli
namespace Go.Proofs.YteffoihkljkfdaaDoor
set_option linter.unusedSimpArgs false
set_option linter.unusedVariables false
open Go.RowKit

theorem lv29 (a : Addr) : loadVar 29 a = Ld 4 29 a := rfl
theorem sv29 (a : Addr) (v : Value) : storeVar 29 a v = St 4 29 a v := rfl
theorem rl29 (g off : Nat) (w : World) : (Ld 4 29 ⟨g, off, none⟩).run Tryd.prog w = ldRow (rawL Tryd.prog 29 ⟨g, off, none⟩ w) 4 off w (hat w g) := run_Ld Tryd.underlying29 rfl (by kernel_rfl) g off w
theorem rs29 (g off : Nat) (cs : Array Value) (w : World) : (St 4 29 ⟨g, off, none⟩ (.agg cs)).run Tryd.prog w = stRow (rawS Tryd.prog 29 ⟨g, off, none⟩ (.agg cs) w) 4 off g cs w (hat w g) := run_St (by kernel_rfl) g off cs w
theorem row29 : RowTy Tryd.prog 29 4 := rowTy Tryd.underlying29 rfl (by kernel_rfl)
attribute [go_sem ↓] lv29 sv29
attribute [go_sem] rl29 rs29
/-- the document's tree, as a value -/
def TreeV (v : Value) : Prop := ∃ (a b c : Int) (p : Option Addr) (q r : Nat), v = .agg #[.int .i64 a, .int .i64 b, .int .i64 c, .slice p q r]
set_option maxHeartbeats 4000000 in
set_option maxRecDepth 100000 in
theorem refnew_bad {w : World} {s n : Int} (h : badS s n) : Calls Tryd.prog 11 #[.int .i64 s, .int .i64 n] w fun e w' => ∃ v, e = .returned (.tuple #[v, .int .i64 160]) ∧ TreeV v ∧ Below w.heap.size w w' := by
  unfold badS at h
  by_cases h1 : s < 8
  · go_enter Tryd.func11, Tryd.ntmps11
    clear h
    go_wp2_with fail
    exact ret_ct row29 rfl (cs := #[.int .i64 0, .int .i64 0, .int .i64 0, .slice none 0 0]) rfl (hopN w _).1 rfl rfl ⟨_, rfl, ⟨_, _, _, _, _, _, rfl⟩, (Below.refl _ _).alloc (Nat.le_refl _) _⟩
  · by_cases h2 : 4096 < s
    · go_enter Tryd.func11, Tryd.ntmps11
      clear h
      go_wp2_with fail
      exact ret_ct row29 rfl (cs := #[.int .i64 0, .int .i64 0, .int .i64 0, .slice none 0 0]) rfl (hopN w _).1 rfl rfl ⟨_, rfl, ⟨_, _, _, _, _, _, rfl⟩, (Below.refl _ _).alloc (Nat.le_refl _) _⟩
    · by_cases h3 : n < 1
      · go_enter Tryd.func11, Tryd.ntmps11
        clear h
        go_wp2_with fail
        exact ret_ct row29 rfl (cs := #[.int .i64 0, .int .i64 0, .int .i64 0, .slice none 0 0]) rfl (hopN w _).1 rfl rfl ⟨_, rfl, ⟨_, _, _, _, _, _, rfl⟩, (Below.refl _ _).alloc (Nat.le_refl _) _⟩
      · by_cases h4 : 512 < n
        · go_enter Tryd.func11, Tryd.ntmps11
          clear h
          go_wp2_with fail
          exact ret_ct row29 rfl (cs := #[.int .i64 0, .int .i64 0, .int .i64 0, .slice none 0 0]) rfl (hopN w _).1 rfl rfl ⟨_, rfl, ⟨_, _, _, _, _, _, rfl⟩, (Below.refl _ _).alloc (Nat.le_refl _) _⟩
        · have h5 : s < n + 2 := by omega
          go_enter Tryd.func11, Tryd.ntmps11
          clear h
          go_wp2_with fail
          exact ret_ct row29 rfl (cs := #[.int .i64 0, .int .i64 0, .int .i64 0, .slice none 0 0]) rfl (hopN w _).1 rfl rfl ⟨_, rfl, ⟨_, _, _, _, _, _, rfl⟩, (Below.refl _ _).alloc (Nat.le_refl _) _⟩
set_option maxHeartbeats 4000000 in
set_option maxRecDepth 100000 in
theorem refnew_ok {w : World} {s n : Int} (h : ¬ badS s n) : Calls Tryd.prog 11 #[.int .i64 s, .int .i64 n] w fun e w' => ∃ v, e = .returned (.tuple #[v, .int .i64 0]) ∧ TreeV v ∧ Below w.heap.size w w' := by
  unfold badS at h
  have h1 : ¬ s < 8 := by omega
  have h2 : ¬ 4096 < s := by omega
  have h3 : ¬ n < 1 := by omega
  have h4 : ¬ 512 < n := by omega
  have h5 : ¬ s < n + 2 := by omega
  go_enter Tryd.func11, Tryd.ntmps11
  clear h
  go_wp2_with fail
  exact ret_ct row29 rfl (cs := #[.int .i64 s, .int .i64 n, .int .i64 0, .slice (some ⟨w.heap.size + 1, 0, none⟩) 1 1]) rfl (hopA _ _ (hopN w _).1).1 rfl rfl ⟨_, rfl, ⟨_, _, _, _, _, _, rfl⟩, (((Below.refl _ _).alloc (Nat.le_refl _) _).alloc (by simp) _)⟩
def kO5 : OpV := ⟨10, ByteArray.mk #[47], ByteArray.mk #[], 0, 0, [], 0, 0⟩
def kO6 : OpV := ⟨11, ByteArray.mk #[47], ByteArray.mk #[], 0, 0, [], 0, 0⟩
theorem kO5_may : mayZ kO5 = true := by kernel_rfl
theorem kO6_may : mayZ kO6 = true := by kernel_rfl
theorem root_count : rootN.count = 0 := by kernel_rfl
theorem new_nd (s n : Int) : (newS s n).nd 1 = rootN := rfl
theorem new_stat (s n : Int) : (newS s n).stat 1 = ⟨1, 2, 1, 0, 0, 0⟩ := by
  unfold PS.stat
  rw [new_nd, root_count]; rfl
theorem kR5_eq (s n : Int) : (newS s n).do1 kO5 ((newS s n).asked kO5) = (newS s n, ⟨0, ⟨1, 2, 1, 0, 0, 0⟩, [], []⟩) := by
  have e1 : spl kO5.path = ([], 0) := spl_top
  unfold PS.do1
  rw [kO5_may, if_neg (by simp), e1, if_neg (by simp)]
  have e2 : (newS s n).asked kO5 [] = (newS s n, ⟨0, ⟨1, 2, 1, 0, 0, 0⟩, [], []⟩) := by
    have e3 : (newS s n).asked kO5 [] = (newS s n, ⟨0, (newS s n).stat 1, [], []⟩) := rfl
    rw [e3, new_stat]
  show PS.told1 ((newS s n).asked kO5 []) = _
  rw [e2]; rfl
theorem kR6_eq (s n : Int) : (newS s n).do1 kO6 ((newS s n).asked kO6) = (newS s n, ⟨0, Sta.zero, [], []⟩) := by
  have e1 : spl kO6.path = ([], 0) := spl_top
  unfold PS.do1
  rw [kO6_may, if_neg (by simp), e1, if_neg (by simp)]
  have e2 : (newS s n).asked kO6 [] = (newS s n, ⟨0, Sta.zero, [], []⟩) := by
    have e3 : (newS s n).asked kO6 [] = (newS s n).ask kO6 1 := rfl
    rw [e3]
    exact ask_bare (by rw [new_nd]; exact ⟨rfl, rfl, fun _ => rfl⟩) rfl
  show PS.told1 ((newS s n).asked kO6 []) = _
  rw [e2]; rfl
theorem new_used (s n : Int) : (newS s n).used = 0 := by
  have e : (newS s n).used = (newS 40 8).used := rfl
  exact e.trans (by kernel_rfl)
theorem new_left (s n : Int) : (newS s n).left = n - 1 := by
  have e : (newS s n).left = n - ((cntB 513 (fun i => ((newS 40 8).nodes i).isSome) : Nat) : Int) := rfl
  have e2 : cntB 513 (fun i => ((newS 40 8).nodes i).isSome) = 1 := by kernel_rfl
  rw [e, e2]; rfl
theorem new_free (s n : Int) : (newS s n).free = s - 1 - n := by
  unfold PS.free
  rw [new_used]
  show s - 1 - n - 0 = s - 1 - n
  omega
set_option maxHeartbeats 16000000 in
set_option maxRecDepth 100000 in
theorem plainSizes_any (s n m : Int) (w : World) (hm : w.cell? ⟨0, 0, none⟩ = some (.int .i64 m)) :
    Calls Tryd.prog 4 #[.int .i64 s, .int .i64 n] w fun e w' => e = .returned (.bool true) ∧ Below w.heap.size w w' := by
  have HM := Lib.hid hm
  have H00 := Lib.hid (cell0_lt hm)
  clear hm
  by_cases hb : badS s n
  · have HB := Lib.hid hb
    clear hb
    go_enter Tryd.func4, Tryd.ntmps4
    go_wp2_with fail
    refine (new_bad HB.out).mono ?_; rintro e w1 ⟨rfl, rfl⟩
    go_wp2_with fail
    refine (refnew_bad HB.out).mono ?_; rintro e w2 ⟨v, rfl, ⟨a, b, c, p, q, r, rfl⟩, hb2⟩
    have hone : oneAll #[.int .i64 a, .int .i64 b, .int .i64 c, .slice p q r] = true := by simp [oneAll, Value.oneCell']
    have HF2 := Lib.hid (fr_below hb2 [])
    clear hb2
    go_wp2_with fail
    have hf3 := fr_new w2 (.cells #[.int .i64 a, .int .i64 b, .int .i64 c, .slice p q r] 29) []
    have HF3 := Lib.hid (HF2.out.trans hf3)
    have HM3 := Lib.hid (cell0_fr HM.out (HF3.out.un (own := fun _ => none) (by simp)) rfl)
    clear hf3
    refine (known_any HM3.out).mono ?_; rintro e w4 ⟨rfl, hb4⟩
    have HF4 := Lib.hid (HF3.out.trans (fr_below hb4 []))
    clear hb4
    go_wp2_with fail
    go_ret
    exact ⟨rfl, HF4.out.bl⟩
  · have HB := Lib.hid hb
    have hbn : 8 ≤ s ∧ s ≤ 4096 ∧ 1 ≤ n ∧ n ≤ 512 := by unfold badS at hb; omega
    obtain ⟨q1, q2, q3, q4⟩ := hbn
    clear hb
    go_enter Tryd.func4, Tryd.ntmps4
    go_wp2_with fail
    refine (new_any HB.out).mono ?_; rintro e w1 ⟨gp, rfl, hnew⟩
    obtain ⟨own1, hh1⟩ := Here.new hnew
    have HH1 := Lib.hid hh1
    clear hnew hh1
    go_wp2_with fail
    refine (refnew_ok HB.out).mono ?_; rintro e w2 ⟨v, rfl, ⟨a, b, c, p, q, r, rfl⟩, hb2⟩
    have hone : oneAll #[.int .i64 a, .int .i64 b, .int .i64 c, .slice p q r] = true := by simp [oneAll, Value.oneCell']
    have HH2 := Lib.hid (HH1.out.fr (fr_below hb2 []))
    clear hb2
    go_wp2_with fail
    have HH3 := Lib.hid (HH2.out.fr (fr_new w2 (.cells #[.int .i64 a, .int .i64 b, .int .i64 c, .slice p q r] 29) []))
    have HM3 := Lib.hid (cell0_fr HM.out (HH3.out.u.un (own := fun _ => none) (by simp)) rfl)
    refine (known_any HM3.out).mono ?_; rintro e w4 ⟨rfl, hb4⟩
    have HH4 := Lib.hid (HH3.out.fr (fr_below hb4 []))
    have HM4 := Lib.hid (cell0_fr HM.out (HH4.out.u.un (own := fun _ => none) (by simp)) rfl)
    clear hb4
    generalize nrm _ (nrm _ (nrm _ own1)) = own4 at *
    go_wp2_with fail
    obtain ⟨bn4, c4, A4, hp4⟩ := HH4.out.p
    refine (do_ask10 (o := kO5) hp4 rfl (dv := .slice none 0 0) (opAt_nil _ _ _ _ _ _ _ _ _) HM4.out).mono ?_; rintro e w5 ⟨own5, av, rfl, ha, hmv⟩
    rw [kR5_eq] at ha hmv
    have HH5 := Lib.hid (show Here w w5 gp (newS s n) own5 from HH4.out.moved hmv)
    obtain ⟨dv1, ev1, od1, oe1, rfl, hd1, he1, -⟩ := ha
    obtain ⟨d1, dc1, rfl⟩ := hd1.slice
    obtain ⟨e1, ec1, rfl⟩ := he1.slice
    unfold ansV
    simp only [List.length_nil]
    clear hmv hp4 hd1 he1
    go_upto_region 8 with fail
    obtain ⟨g1, hg1⟩ : ∃ x, x = w5.heap.size := ⟨_, rfl⟩
    obtain ⟨w6, hw6⟩ : ∃ x, x = w5.alloc (.cells #[.int .i64 0, .int .i64 1, .int .i64 2, .int .i64 1, .int .i64 0, .int .i64 0, .int .i64 0, .slice d1 0 dc1, .slice e1 0 ec1, .bool false] 37) := ⟨_, rfl⟩
    have hf6 : Fr [] w5 w6 := by rw [hw6]; exact fr_new _ _ _
    have HH6 := Lib.hid (HH5.out.fr hf6)
    have HM6 := Lib.hid (cell0_fr HM.out (HH6.out.u.un (own := fun _ => none) (by simp)) rfl)
    have HL1 := Lib.hid (show hat w6 g1 = some (.cells #[.int .i64 0, .int .i64 1, .int .i64 2, .int .i64 1, .int .i64 0, .int .i64 0, .int .i64 0, .slice d1 0 dc1, .slice e1 0 ec1, .bool false] 37) by rw [hw6, hg1]; exact (hopN w5 _).1)
    have HN1 := Lib.hid (show nrm w5 own5 g1 = none from nrm_ge (by omega))
    rw [← hw6, ← hg1]
    clear hw6 hg1 hf6
    go_wp2_with fail
    obtain ⟨bn6, c6, A6, hp6⟩ := HH6.out.p
    refine (do_bare (o := kO6) hp6 (by rw [new_nd]; exact ⟨rfl, rfl, fun _ => rfl⟩) rfl rfl (dv := .slice none 0 0) (opAt_nil _ _ _ _ _ _ _ _ _) HM6.out).mono ?_; rintro e w7 ⟨own7, av, rfl, ha, hmv⟩
    rw [kR6_eq] at ha hmv
    have HH7 := Lib.hid (show Here w w7 gp (newS s n) own7 from HH6.out.moved hmv)
    have HL17 := Lib.hid ((hmv.2.1.block g1 (hat_lt HL1.out) HN1.out).trans HL1.out)
    obtain ⟨dv2, ev2, od2, oe2, rfl, hd2, he2, -⟩ := ha
    obtain ⟨d2, dc2, rfl⟩ := hd2.slice
    obtain ⟨e2, ec2, rfl⟩ := he2.slice
    unfold ansV Sta.zero
    simp only [List.length_nil]
    clear hmv hp6 hd2 he2
    go_upto_region 9 with fail
    obtain ⟨g2, hg2⟩ : ∃ x, x = w7.heap.size := ⟨_, rfl⟩
    obtain ⟨w8, hw8⟩ : ∃ x, x = w7.alloc (.cells #[.int .i64 0, .int .i64 0, .int .i64 0, .int .i64 0, .int .i64 0, .int .i64 0, .int .i64 0, .slice d2 0 dc2, .slice e2 0 ec2, .bool false] 37) := ⟨_, rfl⟩
    have hf8 : Fr [] w7 w8 := by rw [hw8]; exact fr_new _ _ _
    have HH8 := Lib.hid (HH7.out.fr hf8)
    have hL1 := (hf8.block _ (hat_lt HL17.out) (by simp)).trans HL17.out
    have hL2 : hat w8 g2 = some (.cells #[.int .i64 0, .int .i64 0, .int .i64 0, .int .i64 0, .int .i64 0, .int .i64 0, .int .i64 0, .slice d2 0 dc2, .slice e2 0 ec2, .bool false] 37) := by rw [hw8, hg2]; exact (hopN w7 _).1
    rw [← hw8, ← hg2]
    clear hw8 hg2 hf8
    have l1 := hat_lt hL1
    have l2 := hat_lt hL2
    have hld : ∀ (raw : Result Value) (w : World) (T : TypeId) (fr : Nat × Nat), ldRow raw 6 1 w (some (.cells #[.int .i64 0, .int .i64 1, .int .i64 2, .int .i64 1, .int .i64 0, .int .i64 0, .int .i64 0, .slice d1 0 dc1, .slice e1 0 ec1, .bool false] T fr)) = .ok (.agg #[.int .i64 1, .int .i64 2, .int .i64 1, .int .i64 0, .int .i64 0, .int .i64 0]) w := fun raw w T fr => ldRow_part (by show 1 + 6 ≤ 10; omega)
    go_wp2_with fail
    obtain ⟨bn8, c8, A8, hp8⟩ := HH8.out.p
    refine (room_any hp8.t hp8.o).mono ?_; rintro e w9 ⟨rfl, hb9⟩
    rw [new_free, new_left]
    have HF9 := Lib.hid (HH8.out.u.trans (fr_below hb9 []))
    clear hp8 hb9
    go_wp2_with fail
    go_ret
    exact ⟨rfl, HF9.out.bl⟩
end Go.Proofs.YteffoihkljkfdaaDoor
