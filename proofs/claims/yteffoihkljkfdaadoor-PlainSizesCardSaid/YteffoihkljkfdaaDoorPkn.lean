/- known: the walk. -/
import Derived.Test.YteffoihkljkfdaaDoorPkt
import Derived.Lib.SlBytesConst
namespace Go.Proofs.YteffoihkljkfdaaDoor
set_option linter.unusedSimpArgs false
set_option linter.unusedVariables false
open Go.RowKit

theorem cell0_fr {w w' : World} {m : Int} {own : Nat → Option (Int × Nat)} (h : w.cell? ⟨0, 0, none⟩ = some (.int .i64 m)) (hu : Un own w w') (ho : own 0 = none) : w'.cell? ⟨0, 0, none⟩ = some (.int .i64 m) := by
  rw [cell?_of_hat] at h ⊢
  have hlt : 0 < w.heap.size := by
    rcases Nat.lt_or_ge 0 w.heap.size with h1 | h1
    · exact h1
    · have : hat w 0 = none := Array.getElem?_eq_none h1
      rw [this] at h; cases h
  rw [hu.block 0 hlt ho]
  exact h
theorem cell0_lt {w : World} {m : Int} (h : w.cell? ⟨0, 0, none⟩ = some (.int .i64 m)) : 0 < w.heap.size := by
  rw [cell?_of_hat] at h
  rcases Nat.lt_or_ge 0 w.heap.size with h1 | h1
  · exact h1
  · have : hat w 0 = none := Array.getElem?_eq_none h1
    rw [this] at h; cases h
/-- a plain file system S in world w, at gp; what was there in w0 is nobody's -/
structure Here (w0 w : World) (gp : Nat) (S : PS) (own : Nat → Option (Int × Nat)) : Prop where
  p : ∃ bn c A, PW w gp bn c S A own
  u : Fr [] w0 w
  n : ∀ b, b < w0.heap.size → own b = none
theorem Here.new {w w' : World} {gp : Nat} {S : PS} (h : NewAt w w' gp S) : ∃ own, Here w w' gp S own := by
  obtain ⟨bn, c, A, own, h1, h2, h3⟩ := h
  exact ⟨own, ⟨bn, c, A, h1⟩, fr_below h2 [], h3⟩
theorem Here.fr {w0 w w' : World} {gp : Nat} {S : PS} {own : Nat → Option (Int × Nat)} (h : Here w0 w gp S own) (hf : Fr [] w w') : Here w0 w' gp S (nrm w own) := by
  obtain ⟨bn, c, A, h1⟩ := h.p
  exact ⟨⟨bn, c, A, h1.nrm.fr hf (by simp)⟩, h.u.trans hf, fun b hb => by
    unfold nrm
    split
    · exact h.n b hb
    · rfl⟩
theorem Here.moved {w0 w w' : World} {gp bn : Nat} {S S' : PS} {own own' : Nat → Option (Int × Nat)} (h : Here w0 w gp S own) (hm : Mvd w w' gp bn own S' own') : Here w0 w' gp S' own' := by
  obtain ⟨⟨c', A', h1⟩, h2, h3⟩ := hm
  refine ⟨⟨bn, c', A', h1⟩, ⟨h2.os.trans h.u.os, h2.tape.trans h.u.tape, h2.output.trans h.u.output, Nat.le_trans h.u.size h2.size, fun b hb _ => ?_⟩, fun b hb => ?_⟩
  · exact (h2.block b (Nat.lt_of_lt_of_le hb h.u.size) (h.n b hb)).trans (h.u.block b hb (by simp))
  · exact (h3 b (Nat.lt_of_lt_of_le hb h.u.size)).trans (h.n b hb)
theorem opAt_nil (w : World) (own : Nat → Option (Int × Nat)) (k : Int) (p q : ByteArray) (a b c d : Int) : OpAt w own ⟨k, p, q, a, b, [], c, d⟩ (.slice none 0 0) :=
  ⟨⟨none, .inl ⟨rfl, rfl, rfl⟩, fun b hb => (nomatch hb)⟩, fun a l c h => by cases h; exact Nat.le_refl _, fun x hx => (nomatch hx), Nat.zero_le _⟩
set_option maxHeartbeats 16000000 in
set_option maxRecDepth 100000 in
theorem known_any {w : World} {m : Int} (hm : w.cell? ⟨0, 0, none⟩ = some (.int .i64 m)) : Calls Tryd.prog 9 #[] w fun e w' => e = .returned (.bool true) ∧ Below w.heap.size w w' := by
  have HM := Lib.hid hm
  have h00 := cell0_lt hm
  have H00 := Lib.hid h00
  have kc := fun (w : World) (C : Array Value) (n c : Nat) => Lib.run_convert_bytes_const (P := Tryd.prog) w 34 5 C n c Tryd.underlying34 Tryd.underlying5
  clear hm h00
  go_enter Tryd.func9, Tryd.ntmps9
  go_wp2_with fail
  refine (new_any (s := 40) (n := 8) (by unfold badS; omega)).mono ?_; rintro e w1 ⟨gp, rfl, hnew⟩
  obtain ⟨own1, hh1⟩ := Here.new hnew
  have HH1 := Lib.hid hh1
  have HM1 := Lib.hid (cell0_fr HM.out (hh1.u.un (own := fun _ => none) (by simp)) rfl)
  clear hnew hh1
  go_wp2_with fail
  obtain ⟨bn1, c1, A1, hp1⟩ := HH1.out.p
  refine (do_create (o := kO1) hp1 rfl (dv := .slice none 0 0) (opAt_nil _ _ _ _ _ _ _ _ _) HM1.out).mono ?_; rintro e w2 ⟨own2, av, rfl, ha, hmv⟩
  have HH2 := Lib.hid (show Here w w2 gp kR1.1 own2 from HH1.out.moved hmv)
  have ha1 : AnsAt w2 w1.heap.size own2 av kR1.2 := ha
  rw [kR1_eq] at ha1
  obtain ⟨dv1, ev1, od1, oe1, rfl, hd1, he1, -⟩ := ha1
  obtain ⟨d1, dc1, rfl⟩ := hd1.slice
  obtain ⟨e1, ec1, rfl⟩ := he1.slice
  have HM2 := Lib.hid (cell0_fr HM.out (HH2.out.u.un (own := fun _ => none) (by simp)) rfl)
  unfold ansV
  simp only [List.length_nil]
  clear ha hmv hp1 hd1 he1
  go_upto_region 5 with fail
  obtain ⟨g1, hg1⟩ : ∃ x, x = w2.heap.size := ⟨_, rfl⟩
  obtain ⟨w3, hw3⟩ : ∃ x, x = w2.alloc (.cells #[.int .i64 0, .int .i64 2, .int .i64 1, .int .i64 1, .int .i64 0, .int .i64 5, .int .i64 0, .slice d1 0 dc1, .slice e1 0 ec1, .bool false] 37) := ⟨_, rfl⟩
  have L1 : hat w3 g1 = some (.cells #[.int .i64 0, .int .i64 2, .int .i64 1, .int .i64 1, .int .i64 0, .int .i64 5, .int .i64 0, .slice d1 0 dc1, .slice e1 0 ec1, .bool false] 37) := by rw [hw3, hg1]; exact (hopN w2 _).1
  have HH3 := Lib.hid (HH2.out.fr (show Fr [] w2 w3 by rw [hw3]; exact fr_new _ _ _))
  have N1 : nrm w2 own2 g1 = none := nrm_ge (by omega)
  rw [← hw3, ← hg1]
  have HL1 := Lib.hid L1
  have HN1 := Lib.hid N1
  clear hw3 hg1 L1 N1
  obtain ⟨gd, hgd⟩ : ∃ x, x = w3.heap.size := ⟨_, rfl⟩
  obtain ⟨w4, hw4⟩ : ∃ x, x = w3.alloc (.cells #[.int .u8 120, .int .u8 121, .int .u8 122] 5 (3, 4)) := ⟨_, rfl⟩
  have hD4 : hat w4 gd = some (.cells #[.int .u8 120, .int .u8 121, .int .u8 122] 5 (3, 4)) := by rw [hw4, hgd]; exact (hopN w3 _).1
  have hf4 : Fr [] w3 w4 := by rw [hw4]; exact fr_new _ _ _
  have HH4 := Lib.hid (HH3.out.fr hf4)
  have HM4 := Lib.hid (cell0_fr HM.out (HH4.out.u.un (own := fun _ => none) (by simp)) rfl)
  have HL14 := Lib.hid ((hf4.block _ (hat_lt HL1.out) (by simp)).trans HL1.out)
  have HN14 := Lib.hid ((nrm_lt (own := nrm w2 own2) (hat_lt HL1.out)).trans HN1.out)
  have HND := Lib.hid (show nrm w3 (nrm w2 own2) gd = none from nrm_ge (by omega))
  have HOP := Lib.hid (show OpAt w4 (nrm w3 (nrm w2 own2)) kO2 (.slice (some ⟨gd, 0, none⟩) 3 3) from ⟨⟨some gd, .inr ⟨gd, 0, 3, _, _, _, rfl, rfl, hD4, fun k x hk => by
    have hk3 : k < 3 := (List.getElem?_eq_some_iff.1 hk).1
    match k, hk3 with
    | 0, _ => cases hk; rfl
    | 1, _ => cases hk; rfl
    | 2, _ => cases hk; rfl⟩, fun b hb => by cases hb; exact HND.out⟩, fun a l c h => by cases h; exact Nat.le_refl _, by decide, by decide⟩)
  clear hD4 hf4
  go_wp2_with fail
  rw [← hw4, ← hgd]
  clear hw4 hgd
  obtain ⟨bn4, c4, A4, hp4⟩ := HH4.out.p
  refine (do_ask7 (o := kO2) hp4 rfl (dv := .slice (some ⟨gd, 0, none⟩) 3 3) HOP.out HM4.out).mono ?_; rintro e w5 ⟨own5, av, rfl, ha, hmv⟩
  have HH5 := Lib.hid (show Here w w5 gp kR2.1 own5 from HH4.out.moved hmv)
  have HL15 := Lib.hid ((hmv.2.1.block g1 (hat_lt HL14.out) HN14.out).trans HL14.out)
  have HN15 := Lib.hid ((hmv.2.2 g1 (hat_lt HL14.out)).trans HN14.out)
  have ha2 : AnsAt w5 w4.heap.size own5 av kR2.2 := ha
  obtain ⟨dv2, ev2, od2, oe2, rfl, hd2, he2, -⟩ := ha2
  obtain ⟨d2, dc2, rfl⟩ := hd2.slice
  obtain ⟨e2, ec2, rfl⟩ := he2.slice
  unfold ansV
  rw [kR2_code]
  generalize kR2.2.stat = st2
  generalize kR2.2.data.length = n2
  generalize kR2.2.ents.length = m2
  obtain ⟨x1, x2, x3, x4, x5, x6⟩ := st2
  simp only
  clear ha hmv hp4 hd2 he2
  go_upto_region 6 with fail
  obtain ⟨g2, hg2⟩ : ∃ x, x = w5.heap.size := ⟨_, rfl⟩
  obtain ⟨w6, hw6⟩ : ∃ x, x = w5.alloc (.cells #[.int .i64 0, .int .i64 x1, .int .i64 x2, .int .i64 x3, .int .i64 x4, .int .i64 x5, .int .i64 x6, .slice d2 n2 dc2, .slice e2 m2 ec2, .bool false] 37) := ⟨_, rfl⟩
  have hf6 : Fr [] w5 w6 := by rw [hw6]; exact fr_new _ _ _
  have HH6 := Lib.hid (HH5.out.fr hf6)
  have HM6 := Lib.hid (cell0_fr HM.out (HH6.out.u.un (own := fun _ => none) (by simp)) rfl)
  have HL16 := Lib.hid ((hf6.block _ (hat_lt HL15.out) (by simp)).trans HL15.out)
  have HN16 := Lib.hid ((nrm_lt (own := own5) (hat_lt HL15.out)).trans HN15.out)
  have HL26 := Lib.hid (show hat w6 g2 = some (.cells #[.int .i64 0, .int .i64 x1, .int .i64 x2, .int .i64 x3, .int .i64 x4, .int .i64 x5, .int .i64 x6, .slice d2 n2 dc2, .slice e2 m2 ec2, .bool false] 37) by rw [hw6, hg2]; exact (hopN w5 _).1)
  have HN26 := Lib.hid (show nrm w5 own5 g2 = none from nrm_ge (by omega))
  rw [← hw6, ← hg2]
  clear hw6 hg2 hf6
  go_wp2_with fail
  obtain ⟨bn6, c6, A6, hp6⟩ := HH6.out.p
  refine (do_ask9 (o := kO3) hp6 rfl (dv := .slice none 0 0) (opAt_nil _ _ _ _ _ _ _ _ _) HM6.out).mono ?_; rintro e w7 ⟨own7, av, rfl, ha, hmv⟩
  have HH7 := Lib.hid (show Here w w7 gp kR3.1 own7 from HH6.out.moved hmv)
  have HL17 := Lib.hid ((hmv.2.1.block g1 (hat_lt HL16.out) HN16.out).trans HL16.out)
  have HN17 := Lib.hid ((hmv.2.2 g1 (hat_lt HL16.out)).trans HN16.out)
  have HL27 := Lib.hid ((hmv.2.1.block g2 (hat_lt HL26.out) HN26.out).trans HL26.out)
  have HN27 := Lib.hid ((hmv.2.2 g2 (hat_lt HL26.out)).trans HN26.out)
  have ha3 : AnsAt w7 w6.heap.size own7 av kR3.2 := ha
  rw [kR3_eq] at ha3
  obtain ⟨dv3, ev3, od3, oe3, rfl, hd3, he3, hn3⟩ := ha3
  obtain ⟨d3, dc3, rfl⟩ := hd3.slice
  obtain ⟨e3, ec3, rfl⟩ := he3.slice
  have HD3 := Lib.hid hd3
  have HN3 := Lib.hid (fun g (hg : od3 = some g) => (hn3 g (.inl hg)).2)
  unfold ansV Sta.zero
  simp only [List.length_nil, List.length_cons]
  clear ha hmv hp6 hd3 he3 hn3
  go_upto_region 7 with fail
  obtain ⟨g3, hg3⟩ : ∃ x, x = w7.heap.size := ⟨_, rfl⟩
  obtain ⟨w8, hw8⟩ : ∃ x, x = w7.alloc (.cells #[.int .i64 0, .int .i64 0, .int .i64 0, .int .i64 0, .int .i64 0, .int .i64 0, .int .i64 0, .slice d3 5 dc3, .slice e3 0 ec3, .bool false] 37) := ⟨_, rfl⟩
  have hf8 : Fr [] w7 w8 := by rw [hw8]; exact fr_new _ _ _
  have HH8 := Lib.hid (HH7.out.fr hf8)
  have HM8 := Lib.hid (cell0_fr HM.out (HH8.out.u.un (own := fun _ => none) (by simp)) rfl)
  have HL18 := Lib.hid ((hf8.block _ (hat_lt HL17.out) (by simp)).trans HL17.out)
  have HN18 := Lib.hid ((nrm_lt (own := own7) (hat_lt HL17.out)).trans HN17.out)
  have HL28 := Lib.hid ((hf8.block _ (hat_lt HL27.out) (by simp)).trans HL27.out)
  have HN28 := Lib.hid ((nrm_lt (own := own7) (hat_lt HL27.out)).trans HN27.out)
  have HD8 := Lib.hid (HD3.out.fr hf8 (by simp))
  have HN8 := Lib.hid (fun g (hg : od3 = some g) => (nrm_lt (own := own7) (HD3.out.lt g hg)).trans (HN3.out g hg))
  have HL38 := Lib.hid (show hat w8 g3 = some (.cells #[.int .i64 0, .int .i64 0, .int .i64 0, .int .i64 0, .int .i64 0, .int .i64 0, .int .i64 0, .slice d3 5 dc3, .slice e3 0 ec3, .bool false] 37) by rw [hw8, hg3]; exact (hopN w7 _).1)
  have HN38 := Lib.hid (show nrm w7 own7 g3 = none from nrm_ge (by omega))
  have hw8' : w8 = w7.alloc (.cells #[.int .i64 0, .int .i64 0, .int .i64 0, .int .i64 0, .int .i64 0, .int .i64 0, .int .i64 0, .slice d3 (0 + 1 + 1 + 1 + 1 + 1) dc3, .slice e3 0 ec3, .bool false] 37) := hw8
  first
    | rw [← hw8, ← hg3]
    | rw [← hw8', ← hg3]
  clear hw8 hg3 hf8 hw8'
  go_wp2_with fail
  obtain ⟨bn8, c8, A8, hp8⟩ := HH8.out.p
  refine (do_mkdir (o := kO4) hp8 rfl (dv := .slice none 0 0) (opAt_nil _ _ _ _ _ _ _ _ _) HM8.out).mono ?_; rintro e w9 ⟨own9, av, rfl, ha, hmv⟩
  have HH9 := Lib.hid (show Here w w9 gp kR4.1 own9 from HH8.out.moved hmv)
  have HL19 := Lib.hid ((hmv.2.1.block g1 (hat_lt HL18.out) HN18.out).trans HL18.out)
  have HL29 := Lib.hid ((hmv.2.1.block g2 (hat_lt HL28.out) HN28.out).trans HL28.out)
  have HL39 := Lib.hid ((hmv.2.1.block g3 (hat_lt HL38.out) HN38.out).trans HL38.out)
  have HD9 : Hid (BRow w9 (.slice d3 5 dc3) od3 [0, 0, 120, 121, 122]) := Lib.hid (by
    have h1 : BRow w8 (.slice d3 5 dc3) od3 [0, 0, 120, 121, 122] := GRow.brow HD8.out
    rcases h1 with h1 | ⟨g, off, c, cs, T, fr, e1, e2, e3, e4⟩
    · exact .inl h1
    · exact .inr ⟨g, off, c, cs, T, fr, e1, e2, (hmv.2.1.block g (hat_lt e3) (HN8.out g e2)).trans e3, e4⟩)
  have ha4 : AnsAt w9 w8.heap.size own9 av kR4.2 := ha
  obtain ⟨dv4, ev4, od4, oe4, rfl, hd4, he4, -⟩ := ha4
  obtain ⟨d4, dc4, rfl⟩ := hd4.slice
  obtain ⟨e4, ec4, rfl⟩ := he4.slice
  unfold ansV
  rw [kR4_code]
  generalize kR4.2.stat = st4
  generalize kR4.2.data.length = n4
  generalize kR4.2.ents.length = m4
  obtain ⟨y1, y2, y3, y4, y5, y6⟩ := st4
  simp only
  clear ha hmv hp8 hd4 he4
  go_upto_region 8 with fail
  obtain ⟨g4, hg4⟩ : ∃ x, x = w9.heap.size := ⟨_, rfl⟩
  obtain ⟨wA, hwA⟩ : ∃ x, x = w9.alloc (.cells #[.int .i64 113, .int .i64 y1, .int .i64 y2, .int .i64 y3, .int .i64 y4, .int .i64 y5, .int .i64 y6, .slice d4 n4 dc4, .slice e4 m4 ec4, .bool false] 37) := ⟨_, rfl⟩
  have hfA : Fr [] w9 wA := by rw [hwA]; exact fr_new _ _ _
  have HHA := Lib.hid (HH9.out.fr hfA)
  have hL1 := (hfA.block _ (hat_lt HL19.out) (by simp)).trans HL19.out
  have hL2 := (hfA.block _ (hat_lt HL29.out) (by simp)).trans HL29.out
  have hL3 := (hfA.block _ (hat_lt HL39.out) (by simp)).trans HL39.out
  have hL4 : hat wA g4 = some (.cells #[.int .i64 113, .int .i64 y1, .int .i64 y2, .int .i64 y3, .int .i64 y4, .int .i64 y5, .int .i64 y6, .slice d4 n4 dc4, .slice e4 m4 ec4, .bool false] 37) := by rw [hwA, hg4]; exact (hopN w9 _).1
  have HDA := Lib.hid (HD9.out.fr hfA (by simp))
  rw [← hwA, ← hg4]
  clear hwA hg4 hfA
  have l1 := hat_lt hL1
  have l2 := hat_lt hL2
  have l3 := hat_lt hL3
  have l4 := hat_lt hL4
  have hld : ∀ (raw : Result Value) (w : World) (T : TypeId) (fr : Nat × Nat), ldRow raw 6 1 w (some (.cells #[.int .i64 0, .int .i64 2, .int .i64 1, .int .i64 1, .int .i64 0, .int .i64 5, .int .i64 0, .slice d1 0 dc1, .slice e1 0 ec1, .bool false] T fr)) = .ok (.agg #[.int .i64 2, .int .i64 1, .int .i64 1, .int .i64 0, .int .i64 5, .int .i64 0]) w := fun raw w T fr => ldRow_part (by show 1 + 6 ≤ 10; omega)
  have hcv : (convert 34 9 (.slice d3 5 dc3)).run Tryd.prog wA = .ok (.string (ByteArray.mk #[0, 0, 120, 121, 122])) wA := by
    rcases HDA.out with ⟨-, -, h0⟩ | ⟨g, off, c, cs, T, fr, e1, e2, e3, e4⟩
    · cases h0
    · injection e1 with q1 q2 q3
      subst q1 q3
      refine run_convert_bytes_back (P := Tryd.prog) wA 34 9 5 ⟨g, off, none⟩ dc3 [0, 0, 120, 121, 122] Tryd.underlying34 Tryd.underlying5 Tryd.underlying9 (fun j hj => ?_)
      rw [add_none, cell_hat e3]
      have hj5 : j < 5 := hj
      match j, hj5 with
      | 0, _ => exact e4 0 _ rfl
      | 1, _ => exact e4 1 _ rfl
      | 2, _ => exact e4 2 _ rfl
      | 3, _ => exact e4 3 _ rfl
      | 4, _ => exact e4 4 _ rfl
  go_wp2_with fail
  obtain ⟨bnA, cA, AA, hpA⟩ := HHA.out.p
  refine (room_any hpA.t hpA.o).mono ?_; rintro e wB ⟨rfl, hbB⟩
  rw [kR4_room.1, kR4_room.2]
  have HFB := Lib.hid (HHA.out.u.trans (fr_below hbB []))
  clear hpA hbB
  go_wp2_with fail
  go_ret
  exact ⟨rfl, HFB.out.bl⟩
end Go.Proofs.YteffoihkljkfdaaDoor
