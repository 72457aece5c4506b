/- last: the walk. -/
import Derived.Test.YteffoihkljkfdaaDoorPwk
namespace Go.Proofs.YteffoihkljkfdaaDoor
set_option linter.unusedSimpArgs false
set_option linter.unusedVariables false
open Go.RowKit

theorem walk_node {S : PS} (hS : PWf S) (l : List ByteArray) (h : (S.walk l 1).2 = 0) : S.nodes (S.walk l 1).1 = some (S.nd (S.walk l 1).1) := PS.nd_get (walk_there hS l 1 (root_there hS) h)
set_option maxHeartbeats 8000000 in
set_option maxRecDepth 100000 in
theorem last_any {w : World} {gp bn c : Nat} {S : PS} {A : Int → NA} {own : Nat → Option (Int × Nat)} (h : PT w gp bn c S A own) (hW : PWf S) {v : Value} {l : List ByteArray} {B : Nat} (hv : Strs w B v l) (hl : ∀ s ∈ l, s.size ≤ 40) :
    Calls Tryd.prog 61 #[.pointer (some ⟨gp, 0, none⟩), v] w fun e w' => e = .returned (.tuple #[.int .i64 (S.last l).d, .string (S.last l).name, .int .i64 (S.last l).e]) ∧ Below w.heap.size w w' := by
  have H := Lib.hid h
  have hp := h.p
  have hpl := hat_lt hp
  clear h
  by_cases h0 : l = []
  · subst h0
    obtain ⟨a, cp, rfl⟩ := hv.len
    clear hv
    go_enter Tryd.func61, Tryd.ntmps61
    go_wp2_with fail
    go_ret3
    exact ⟨rfl, Below.refl _ _⟩
  · have HL0 := Lib.hid h0
    rcases hv with ⟨-, rfl⟩ | ⟨g, o, cp, rfl, hcp, hsm, -, hgl, hx⟩
    · exact absurd rfl h0
    · have HX := Lib.hid hx
      obtain ⟨k, hk⟩ : ∃ k, l.length = k + 1 := ⟨l.length - 1, by have : l.length ≠ 0 := fun e => h0 (List.eq_nil_of_length_eq_zero e); omega⟩
      have HK := Lib.hid hk
      have HCP := Lib.hid hcp
      have hkc : (k : Int) ≤ (cp : Int) := by omega
      have hkc2 : (k : Int) + 1 ≤ (cp : Int) := by omega
      have hkb : (k : Int) ≤ 140737488355328 := by omega
      have hk0 : (0 : Int) ≤ (k : Int) := by omega
      have hne : ¬ ((k : Int) + 1 = 0) := by omega
      have hdr : Strs w 0 (.slice (some ⟨g, o, none⟩) k cp) l.dropLast := .inr ⟨g, o, cp, by rw [List.length_dropLast, hk]; rfl, by rw [List.length_dropLast, hk]; omega, by rw [List.length_dropLast]; omega, Nat.zero_le _, hgl, fun j x hj => by
        rw [List.dropLast_eq_take, List.getElem?_take] at hj
        split at hj
        · exact hx j x hj
        · cases hj⟩
      have HDR := Lib.hid hdr
      obtain ⟨s, hs⟩ := getElem_opt (l := l) (k := k) (by omega)
      have HSN : Hid (l.getLastD emp = s) := Lib.hid (by
        rw [List.getLastD_eq_getLast?, List.getLast?_eq_getElem?, hk, show k + 1 - 1 = k from rfl, hs]; rfl)
      have hcs := hx k s hs
      rw [cell?_of_hat] at hcs
      have hlen : ((l.length : Nat) : Int) = (k : Int) + 1 := by omega
      rw [hk]
      clear h0 hx hk hcp hs hdr hlen
      go_enter Tryd.func61, Tryd.ntmps61
      go_wp2_with fail
      refine (walk_any H.out hW HDR.out (fun x hx => hl x (List.dropLast_subset _ hx))).mono ?_; rintro e w1 ⟨rfl, rfl⟩
      have HWC := Lib.hid (walk_code S l.dropLast 1)
      have HWT := Lib.hid (fun h => walk_there hW l.dropLast 1 (root_there hW) h)
      have HLA : Hid (S.last l = ⟨(S.walk l.dropLast 1).1, s, if (S.walk l.dropLast 1).2 = 0 ∧ (S.nd (S.walk l.dropLast 1).1).kind ≠ 2 then 113 else (S.walk l.dropLast 1).2⟩) := Lib.hid (by
        unfold PS.last
        rw [if_neg HL0.out, HSN.out])
      generalize S.walk l.dropLast 1 = r at *
      obtain ⟨i, e⟩ := r
      rcases HWC.out.1 with he | he | he
      · simp only at he
        subst he
        have hn := PS.nd_get (HWT.out rfl)
        have hlk := H.out.look_yes hn
        have HN := Lib.hid (H.out.n i _ hn)
        have hh := HN.out.h
        have hhl := hat_lt hh
        by_cases hkd : (S.nd i).kind = 2
        · have HQ : Hid (S.last l = ⟨i, s, 0⟩) := Lib.hid (by rw [HLA.out, if_neg (by simp [hkd])])
          rw [hkd] at hh
          clear hn
          go_wp2_with fail
          have hw1 : IntKind.i64.wrap ((k : Int) + 1 - 1) = k := by rw [Int.add_sub_cancel]; exact IntWalk.i64_in _ ⟨by omega, by omega⟩
          have hw2 : IntKind.i64.wrap (k : Int) = k := IntWalk.i64_in _ ⟨by omega, by omega⟩
          have hw3 : (k : Int) < (k : Int) + 1 := by omega
          have hw4 : (k : Int) < ((k + 1 : Nat) : Int) := by omega
          go_region_held3 (fun w' => cellOf (o + k) (hat w' g) = some (.string s)) (first | assumption | fail) (first | fail | fail)
          go_wp2_with fail
          go_ret3
          rw [HQ.out]
          exact ⟨rfl, (fr_drew (Fr.refl [] _)).bl⟩
        · have HQ : Hid (S.last l = ⟨i, s, 113⟩) := Lib.hid (by rw [HLA.out, if_pos ⟨rfl, hkd⟩])
          clear hn
          go_wp2_with fail
          have hw1 : IntKind.i64.wrap ((k : Int) + 1 - 1) = k := by rw [Int.add_sub_cancel]; exact IntWalk.i64_in _ ⟨by omega, by omega⟩
          have hw2 : IntKind.i64.wrap (k : Int) = k := IntWalk.i64_in _ ⟨by omega, by omega⟩
          have hw3 : (k : Int) < (k : Int) + 1 := by omega
          have hw4 : (k : Int) < ((k + 1 : Nat) : Int) := by omega
          go_region_held3 (fun w' => cellOf (o + k) (hat w' g) = some (.string s)) (first | assumption | fail) (first | fail | fail)
          go_wp2_with fail
          go_ret3
          rw [HQ.out]
          exact ⟨rfl, (fr_drew (Fr.refl [] _)).bl⟩
      · simp only at he
        subst he
        have HQ : Hid (S.last l = ⟨i, s, 110⟩) := Lib.hid (by rw [HLA.out, if_neg (by simp)])
        go_wp2_with fail
        have hw1 : IntKind.i64.wrap ((k : Int) + 1 - 1) = k := by rw [Int.add_sub_cancel]; exact IntWalk.i64_in _ ⟨by omega, by omega⟩
        have hw2 : IntKind.i64.wrap (k : Int) = k := IntWalk.i64_in _ ⟨by omega, by omega⟩
        have hw3 : (k : Int) < (k : Int) + 1 := by omega
        have hw4 : (k : Int) < ((k + 1 : Nat) : Int) := by omega
        go_region_held3 (fun w' => cellOf (o + k) (hat w' g) = some (.string s)) (first | assumption | fail) (first | fail | fail)
        go_wp2_with fail
        go_ret3
        rw [HQ.out]
        exact ⟨rfl, (fr_drew (Fr.refl [] _)).bl⟩
      · simp only at he
        subst he
        have HQ : Hid (S.last l = ⟨i, s, 113⟩) := Lib.hid (by rw [HLA.out, if_neg (by simp)])
        go_wp2_with fail
        have hw1 : IntKind.i64.wrap ((k : Int) + 1 - 1) = k := by rw [Int.add_sub_cancel]; exact IntWalk.i64_in _ ⟨by omega, by omega⟩
        have hw2 : IntKind.i64.wrap (k : Int) = k := IntWalk.i64_in _ ⟨by omega, by omega⟩
        have hw3 : (k : Int) < (k : Int) + 1 := by omega
        have hw4 : (k : Int) < ((k + 1 : Nat) : Int) := by omega
        go_region_held3 (fun w' => cellOf (o + k) (hat w' g) = some (.string s)) (first | assumption | fail) (first | fail | fail)
        go_wp2_with fail
        go_ret3
        rw [HQ.out]
        exact ⟨rfl, (fr_drew (Fr.refl [] _)).bl⟩
end Go.Proofs.YteffoihkljkfdaaDoor
