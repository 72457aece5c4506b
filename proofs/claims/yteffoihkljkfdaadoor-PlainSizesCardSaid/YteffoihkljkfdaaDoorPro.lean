/- room, free: the walks. -/
import Derived.Test.YteffoihkljkfdaaDoorPwf
import Derived.Test.YteffoihkljkfdaaDoorPty
namespace Go.Proofs.YteffoihkljkfdaaDoor
set_option linter.unusedSimpArgs false
set_option linter.unusedVariables false
open Go.RowKit

theorem PS.free_le {S : PS} (hS : POk S) : -2000000 ≤ S.free ∧ S.free ≤ 4096 := by
  have h1 := PS.used_le hS
  have h2 := hS.s
  have h3 := hS.i
  unfold PS.free
  omega
set_option maxHeartbeats 8000000 in
set_option maxRecDepth 100000 in
theorem fits_any {w : World} {gp bn c : Nat} {S : PS} {A : Int → NA} {own : Nat → Option (Int × Nat)} (h : PT w gp bn c S A own) (hS : POk S) {a a' : NA} {n n' : Nd} (hn : NodeAt w a n) (hk : NOk n) (hn' : NodeAt w a' n') (hk' : NOk n') :
    Calls Tryd.prog 79 #[.pointer (some ⟨gp, 0, none⟩), .pointer (some ⟨a.g, 0, none⟩), .pointer (some ⟨a'.g, 0, none⟩)] w fun e w' => e = .returned (.bool (decide (n'.count - n.count ≤ S.free))) ∧ Below w.heap.size w w' := by
  have H := Lib.hid h
  have HN := Lib.hid hn
  have HN' := Lib.hid hn'
  have hfr := PS.free_le hS
  have hc1 := Nd.count_le hk
  have hc2 := Nd.count_le hk'
  clear h hn hn'
  have hfd : ∀ (x y z : Value) (w : World), (Instr.field 42 (.agg #[x, y, z]) 0).run Tryd.prog w = .ok x w := fun _ _ _ _ => by kernel_rfl
  go_enter Tryd.func79, Tryd.ntmps79
  go_wp2_with fail
  refine (room_any H.out hS).mono ?_; rintro e w1 ⟨rfl, hb1⟩
  have HB1 := Lib.hid hb1
  clear hb1
  go_wp2_with fail
  refine (count_any (HN'.out.fr (fr_below HB1.out []) (by simp) (by simp) (by simp) (by simp)) hk').mono ?_; rintro e w2 ⟨rfl, hb2⟩
  have HF2 := Lib.hid ((fr_below HB1.out []).trans (fr_below hb2 []))
  clear hb2
  go_wp2_with fail
  refine (count_any (HN.out.fr HF2.out (by simp) (by simp) (by simp) (by simp)) hk).mono ?_; rintro e w3 ⟨rfl, hb3⟩
  have HF3 := Lib.hid (HF2.out.trans (fr_below hb3 []))
  clear hb3
  go_wp2_with fail
  go_ret
  exact ⟨rfl, HF3.out.bl⟩
theorem ptrM_key {S : PS} {A : Int → NA} (i : Int) : ptrM S A i = (S.nodes i).map fun _ => .pointer (some ⟨(A i).g, 0, none⟩) := rfl
theorem PT.look {w : World} {gp bn c : Nat} {S : PS} {A : Int → NA} {own : Nat → Option (Int × Nat)} (h : PT w gp bn c S A own) (k : Int) (hk : i64ok k) : (Instr.lookup 75 (.map (some bn)) (.int .i64 k) false).run Tryd.prog w = .ok ((ptrM S A k).getD (.pointer none)) w :=
  h.m.lookc Tryd.underlying75 (z := .pointer none) (by kernel_rfl) hk
theorem PT.look_yes {w : World} {gp bn c : Nat} {S : PS} {A : Int → NA} {own : Nat → Option (Int × Nat)} (h : PT w gp bn c S A own) {k : Int} {n : Nd} (hk : S.nodes k = some n) : (Instr.lookup 75 (.map (some bn)) (.int .i64 k) false).run Tryd.prog w = .ok (.pointer (some ⟨(A k).g, 0, none⟩)) w := by
  have h1 := h.look k (h.m.okey (x := k) (by rw [ptrM_key, hk]; rfl))
  rw [ptrM_key, hk] at h1
  exact h1
theorem PT.look_no {w : World} {gp bn c : Nat} {S : PS} {A : Int → NA} {own : Nat → Option (Int × Nat)} (h : PT w gp bn c S A own) {k : Int} (hi : i64ok k) (hk : S.nodes k = none) : (Instr.lookup 75 (.map (some bn)) (.int .i64 k) false).run Tryd.prog w = .ok (.pointer none) w := by
  have h1 := h.look k hi
  rw [ptrM_key, hk] at h1
  exact h1
theorem freeI_hit {S : PS} {k : Int} (h0 : 2 ≤ k ∧ k ≤ S.inodes) (hi : S.inodes ≤ 512) (hk : S.nodes k = none) (hb : ∀ j : Int, 2 ≤ j → j < k → (S.nodes j).isSome = true) : S.freeI = k := by
  unfold PS.freeI
  have e : (List.range 513).find? (fun (i : Nat) => decide (2 ≤ i) && decide ((i : Int) ≤ S.inodes) && (S.nodes i).isNone) = some k.toNat := by
    rw [List.find?_range_eq_some]
    refine ⟨?_, by rw [List.mem_range]; omega, fun j hj => ?_⟩
    · rw [show ((k.toNat : Nat) : Int) = k by omega, hk]
      simp; omega
    · by_cases h2 : 2 ≤ j
      · have := hb j (by omega) (by omega)
        cases hn : S.nodes j with
        | none => rw [hn] at this; cases this
        | some n => simp
      · simp; omega
  rw [e]
  show ((k.toNat : Nat) : Int) = k
  omega
theorem freeI_miss {S : PS} (hb : ∀ j : Int, 2 ≤ j → j ≤ S.inodes → (S.nodes j).isSome = true) : S.freeI = 0 := by
  unfold PS.freeI
  have e : (List.range 513).find? (fun (i : Nat) => decide (2 ≤ i) && decide ((i : Int) ≤ S.inodes) && (S.nodes i).isNone) = none := by
    rw [List.find?_eq_none]
    intro j hj
    by_cases h2 : 2 ≤ j ∧ (j : Int) ≤ S.inodes
    · have := hb j (by omega) (by omega)
      cases hn : S.nodes j with
      | none => rw [hn] at this; cases this
      | some n => simp
    · simp
      intro a b
      exact absurd ⟨a, b⟩ h2
  rw [e]; rfl
set_option maxHeartbeats 8000000 in
set_option maxRecDepth 100000 in
theorem free_any {w : World} {gp bn c : Nat} {S : PS} {A : Int → NA} {own : Nat → Option (Int × Nat)} (h : PT w gp bn c S A own) (hS : POk S) :
    Calls Tryd.prog 62 #[.pointer (some ⟨gp, 0, none⟩)] w fun e w' => e = .returned (.int .i64 S.freeI) ∧ w' = w := by
  have H := Lib.hid h
  have hp := h.p
  have hpl := hat_lt hp
  obtain ⟨hi1, hi2⟩ := hS.i
  clear h
  go_enter Tryd.func62, Tryd.ntmps62
  go_wp2_with fail
  go_loopw [3] (fun v wr => ∃ k : Int, v = .int .i64 k ∧ 2 ≤ k ∧ k ≤ 513 ∧ Hid (∀ j : Int, 2 ≤ j → j < k → (S.nodes j).isSome = true) ∧ wr = w) (fun v _ => 514 - (intOf v).toNat)
  case atStart => exact ⟨2, rfl, by omega, by omega, Lib.hid (fun j h1 h2 => by omega), rfl⟩
  case round =>
    obtain ⟨k, rfl, h2, h3, HB, rfl⟩ := hrel
    by_cases hle : k ≤ S.inodes
    · cases hn : S.nodes k with
      | none =>
        have hlk := H.out.look_no (k := k) ⟨by omega, by omega⟩ hn
        have HE := Lib.hid (freeI_hit ⟨h2, hle⟩ hi2 hn HB.out)
        clear hn
        go_wp2_with fail
        go_ret
        exact ⟨by rw [HE.out]; rfl, rfl⟩
      | some n =>
        have hlk := H.out.look_yes (k := k) hn
        have HB2 : Hid (∀ j : Int, 2 ≤ j → j < k + 1 → (S.nodes j).isSome = true) := Lib.hid (fun j h1 h2 => by
          by_cases he : j = k
          · rw [he, hn]; rfl
          · exact HB.out j h1 (by omega))
        clear hn
        go_wp2_with fail
        go_roundw
        case rel => exact ⟨k + 1, rfl, by omega, by omega, HB2, by trivial⟩
        case measure => (show 514 - (k + 1).toNat < 514 - k.toNat); omega
    · have HE := Lib.hid (freeI_miss (S := S) (fun j h1 h2 => HB.out j h1 (by omega)))
      go_wp2_with fail
      go_ret
      exact ⟨by rw [HE.out]; rfl, rfl⟩
end Go.Proofs.YteffoihkljkfdaaDoor
