/- place: the walk. -/
import Derived.Test.YteffoihkljkfdaaDoorPss
namespace Go.Proofs.YteffoihkljkfdaaDoor
set_option linter.unusedSimpArgs false
set_option linter.unusedVariables false
open Go.RowKit

theorem more_ok {n : Nd} (h : n.slots.length < 1068) : NOk (moreN n) := ⟨fun k h => (nomatch h), fun k s h => (nomatch h), by show (n.slots ++ [emp]).length ≤ 1068; simp; omega⟩
set_option maxHeartbeats 8000000 in
set_option maxRecDepth 100000 in
theorem place_any {w : World} {gp bn c : Nat} {S : PS} {A : Int → NA} {own : Nat → Option (Int × Nat)} (h : PT w gp bn c S A own) (hS : POk S) {a : NA} {n : Nd} (hn : NodeAt w a n) (hk : NOk n) :
    Calls Tryd.prog 63 #[.pointer (some ⟨gp, 0, none⟩), .pointer (some ⟨a.g, 0, none⟩)] w fun e w' => e = .returned (.tuple #[.int .i64 (S.place n).1, .int .i64 (S.place n).2]) ∧ Below w.heap.size w w' := by
  have H := Lib.hid h
  have HN := Lib.hid hn
  have hh := hn.h
  have hhl := hat_lt hh
  obtain ⟨sa, sc, hsv⟩ := hn.s.slice
  have hix := idx_g (show GRow 9 1 w a.sv a.sb n.slots.length (strC n.slots) from hn.s) (by have := hk.sl; omega) emp
  have hcl := clone_g (show GRow 9 1 w a.sv a.sb n.slots.length (strC n.slots) from hn.s) (by have := hk.sl; omega)
  rw [hsv] at hix hcl hh
  have HIX := Lib.hid hix
  have HCL := Lib.hid hcl
  have HSV := Lib.hid hsv
  have hsm := hk.sl
  clear h hn hix hcl hsv
  go_enter Tryd.func63, Tryd.ntmps63
  go_wp2_with fail
  refine HIX.out.mono ?_; rintro e w1 ⟨rfl, rfl⟩
  have HPL : Hid (S.place n = if 0 ≤ Lib.idxOfS n.slots emp then (Lib.idxOfS n.slots emp, 0) else if n.slots.length = 1068 then (0, 112) else if S.free < (moreN n).count - n.count then (0, 80) else (n.slots.length, 0)) := Lib.hid rfl
  generalize Lib.idxOfS n.slots emp = k at *
  by_cases hk0 : 0 ≤ k
  · have HQ : Hid (S.place n = (k, 0)) := Lib.hid (by rw [HPL.out, if_pos hk0])
    go_wp2_with fail
    go_ret2
    rw [HQ.out]
    exact ⟨rfl, Below.refl _ _⟩
  · by_cases hlen : n.slots.length = 1068
    · have HQ : Hid (S.place n = (0, 112)) := Lib.hid (by rw [HPL.out, if_neg hk0, if_pos hlen])
      have hlz : ((n.slots.length : Nat) : Int) = 1068 := by omega
      go_wp2_with fail
      go_ret2
      rw [HQ.out]
      exact ⟨rfl, Below.refl _ _⟩
    · have hlz : ¬ ((n.slots.length : Nat) : Int) = 1068 := by omega
      have HL := Lib.hid hlen
      have hk1 : k < 0 := by omega
      go_wp2_with fail
      refine HCL.out.mono ?_; rintro e w2 ⟨v2, ob2, rfl, hg2, hge2, hb2⟩
      have HB2 := Lib.hid hb2
      obtain ⟨a3, c3, w3, ob3, hr3, hg3, hf3, ho3⟩ := push_g hg2 (by omega) emp 72
      have HG3 := Lib.hid hg3
      have HF3 := Lib.hid (((fr_below hb2 []).mono (ex' := ob2.toList) (by simp)).trans hf3 |>.past (ex' := []) (fun g hg => .inr (by
        simp at hg
        exact hge2 g hg)))
      have HR3 := Lib.hid hr3
      clear hg2 hge2 hb2 hg3 hf3 ho3 hr3
      go_wp2_with (first | (at_builtin; refine wpList_append_run _ rfl _ _ 72 rfl _ _ rfl rfl _ _ HR3.out ?_) | fail)
      have HF4 := Lib.hid (HF3.out.trans (fr_new w3 (.cells #[.int .i64 0, .int .i64 0, .int .i64 0, .int .i64 0, .map none, .slice a3 (n.slots.length + 1) c3, .map none] 74) []))
      have HM := Lib.hid (show NodeAt (w3.alloc (.cells #[.int .i64 0, .int .i64 0, .int .i64 0, .int .i64 0, .map none, .slice a3 (n.slots.length + 1) c3, .map none] 74)) ⟨w3.heap.size, none, none, ob3, .map none, .map none, .slice a3 (n.slots.length + 1) c3, 0, 0⟩ (moreN n) from
        ⟨(hopN w3 _).1, .inl ⟨rfl, rfl, fun _ => rfl, rfl⟩, HG3.out.fr (fr_new w3 _ []) (by simp), .inl ⟨rfl, rfl, fun _ => rfl, rfl⟩⟩)
      have HMO := Lib.hid (more_ok (n := n) (by have := HL.out; omega))
      generalize hgm : w3.heap.size = gm at *
      generalize w3.alloc (.cells #[.int .i64 0, .int .i64 0, .int .i64 0, .int .i64 0, .map none, .slice a3 (n.slots.length + 1) c3, .map none] 74) = w4 at *
      refine (fits_any (H.out.fr HF4.out (by simp)) hS (HN.out.fr HF4.out (by simp) (by simp) (by simp) (by simp)) hk HM.out HMO.out).mono ?_; rintro e w5 ⟨rfl, hb5⟩
      have HF5 := Lib.hid (HF4.out.trans (fr_below hb5 []))
      have hh5 := (HF5.out.block _ (hat_lt hh) (by simp)).trans hh
      have hhl5 := hat_lt hh5
      clear hb5 hgm hh hhl
      have hk2 : ¬ 0 ≤ k := by omega
      cases hft : decide ((moreN n).count - n.count ≤ S.free)
      · have HQ : Hid (S.place n = (0, 80)) := Lib.hid (by rw [HPL.out, if_neg hk2, if_neg HL.out, if_pos (by have := of_decide_eq_false hft; omega)])
        clear hft
        go_wp2_with fail
        go_ret2
        rw [HQ.out]
        exact ⟨rfl, HF5.out.bl⟩
      · have HQ : Hid (S.place n = ((n.slots.length : Int), 0)) := Lib.hid (by rw [HPL.out, if_neg hk2, if_neg HL.out, if_neg (by have := of_decide_eq_true hft; omega)])
        clear hft
        go_wp2_with fail
        go_ret2
        rw [HQ.out]
        exact ⟨rfl, HF5.out.bl⟩
end Go.Proofs.YteffoihkljkfdaaDoor
