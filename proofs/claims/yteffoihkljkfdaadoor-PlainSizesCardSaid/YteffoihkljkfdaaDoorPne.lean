/- New: the walk. -/
import Derived.Test.YteffoihkljkfdaaDoorPmk
namespace Go.Proofs.YteffoihkljkfdaaDoor
set_option linter.unusedSimpArgs false
set_option linter.unusedVariables false
open Go.RowKit

def rootN : Nd := ⟨2, 1, 0, 0, fun _ => none, [], fun _ => none⟩
def newS (s n : Int) : PS := ⟨s, n, fun i => if i = 1 then some rootN else none⟩
def badS (s n : Int) : Prop := s < 8 ∨ 4096 < s ∨ n < 1 ∨ 512 < n ∨ s < n + 2
theorem newS_ok {s n : Int} (h : ¬ badS s n) : POk (newS s n) ∧ PWf (newS s n) := by
  unfold badS at h
  have hn : ∀ i m, (newS s n).nodes i = some m → i = 1 ∧ m = rootN := fun i m hm => by
    have hm' : (if i = 1 then some rootN else none) = some m := hm
    split at hm'
    · rename_i h1; cases hm'; exact ⟨h1, rfl⟩
    · cases hm'
  refine ⟨⟨⟨by show 8 ≤ s; omega, by show s ≤ 4096; omega⟩, ⟨by show 1 ≤ n; omega, by show n ≤ 512; omega⟩, fun i hi => ?_, fun i m hm => ?_⟩, ⟨⟨rootN, rfl, rfl⟩, fun i m hm => ?_⟩⟩
  · obtain ⟨m, hm⟩ := Option.isSome_iff_exists.1 hi
    obtain ⟨rfl, -⟩ := hn i m hm
    exact ⟨by omega, by show 1 ≤ n; omega⟩
  · obtain ⟨-, rfl⟩ := hn i m hm
    exact ⟨fun k h => (nomatch h), fun k s h => (nomatch h), Nat.zero_le _⟩
  · obtain ⟨-, rfl⟩ := hn i m hm
    exact ⟨.inr rfl, ⟨by show (1 : Int) ≤ 1; omega, by show (1 : Int) ≤ 100; omega⟩, ⟨Int.le_refl 0, by show (0 : Int) ≤ _; omega⟩, ⟨Int.le_refl 0, by show (0 : Int) ≤ _; omega⟩, fun h => (nomatch h), fun _ => ⟨fun _ => rfl, rfl⟩, fun s j h => (nomatch h), fun s h => (nomatch h), by show ([] : List ByteArray).Nodup; simp, fun k s h => (nomatch h)⟩
set_option maxHeartbeats 8000000 in
set_option maxRecDepth 100000 in
theorem new_bad {w : World} {s n : Int} (h : badS s n) : Calls Tryd.prog 10 #[.int .i64 s, .int .i64 n] w fun e w' => e = .returned (.tuple #[.pointer none, .int .i64 160]) ∧ w' = w := by
  unfold badS at h
  by_cases h1 : s < 8
  · go_enter Tryd.func10, Tryd.ntmps10
    clear h
    go_wp2_with fail
    go_ret2
    exact ⟨rfl, rfl⟩
  · by_cases h2 : 4096 < s
    · go_enter Tryd.func10, Tryd.ntmps10
      clear h
      go_wp2_with fail
      go_ret2
      exact ⟨rfl, rfl⟩
    · by_cases h3 : n < 1
      · go_enter Tryd.func10, Tryd.ntmps10
        clear h
        go_wp2_with fail
        go_ret2
        exact ⟨rfl, rfl⟩
      · by_cases h4 : 512 < n
        · go_enter Tryd.func10, Tryd.ntmps10
          clear h
          go_wp2_with fail
          go_ret2
          exact ⟨rfl, rfl⟩
        · have h5 : s < n + 2 := by omega
          go_enter Tryd.func10, Tryd.ntmps10
          clear h
          go_wp2_with fail
          go_ret2
          exact ⟨rfl, rfl⟩
/-- a plain file system that is new -/
def NewAt (w w' : World) (gp : Nat) (S : PS) : Prop := ∃ bn c A own, PW w' gp bn c S A own ∧ Below w.heap.size w w' ∧ ∀ b, b < w.heap.size → own b = none
set_option maxHeartbeats 8000000 in
set_option maxRecDepth 100000 in
theorem new_any {w : World} {s n : Int} (h : ¬ badS s n) : Calls Tryd.prog 10 #[.int .i64 s, .int .i64 n] w fun e w' => ∃ gp, e = .returned (.tuple #[.pointer (some ⟨gp, 0, none⟩), .int .i64 0]) ∧ NewAt w w' gp (newS s n) := by
  have hok := newS_ok h
  have HOK := Lib.hid hok
  unfold badS at h
  have h1 : ¬ s < 8 := by omega
  have h2 : ¬ 4096 < s := by omega
  have h3 : ¬ n < 1 := by omega
  have h4 : ¬ 512 < n := by omega
  have h5 : ¬ s < n + 2 := by omega
  have hmm := @run_makeMap Tryd.prog
  obtain ⟨w3, hw3⟩ : ∃ x, x = ((w.alloc (.map #[] 0)).alloc (.map #[] 0)).alloc (.cells #[.int .i64 2, .int .i64 1, .int .i64 0, .int .i64 0, .map none, .slice none 0 0, .map (some (w.heap.size + 1))] 74) := ⟨_, rfl⟩
  have hf3 : Fr [] w w3 := by rw [hw3]; exact ((fr_new _ _ []).trans (fr_new _ _ [])).trans (fr_new _ _ [])
  have hm3 : MG kInt w3 w.heap.size (fun _ => none) 0 := by rw [hw3]; exact (MG.made (E := kInt) w).fr ((fr_new _ _ []).trans (fr_new _ _ [])) (by simp)
  have hnm3 : MG kStr w3 (w.heap.size + 1) (fun _ => none) 0 := by
    have e2 := MG.made (E := kStr) (w.alloc (.map #[] 0))
    rw [show (w.alloc (.map #[] 0)).heap.size = w.heap.size + 1 by simp] at e2
    rw [hw3]; exact e2.fr (fr_new _ _ []) (by simp)
  have hg3 : hat w3 (w.heap.size + 1 + 1) = some (.cells #[.int .i64 2, .int .i64 1, .int .i64 0, .int .i64 0, .map none, .slice none 0 0, .map (some (w.heap.size + 1))] 74) := by
    have e := (hopN ((w.alloc (.map #[] 0)).alloc (.map #[] 0)) (.cells #[.int .i64 2, .int .i64 1, .int .i64 0, .int .i64 0, .map none, .slice none 0 0, .map (some (w.heap.size + 1))] 74)).1
    rw [show ((w.alloc (.map #[] 0)).alloc (.map #[] 0)).heap.size = w.heap.size + 1 + 1 by simp] at e
    rw [hw3]; exact e
  obtain ⟨w4, hr4, hm4, ht4⟩ := hm3.put (t := 75) (e := 69) Tryd.underlying75 (by unfold maxLen; omega) (x := 1) (show i64ok 1 from ⟨by omega, by omega⟩) (.pointer (some ⟨w.heap.size + 1 + 1, 0, none⟩))
  have hf4 := fr_turned ht4
  have hr4 : (Instr.mapUpdate 75 (.map (some w.heap.size)) (.int .i64 1) (.pointer (some ⟨w.heap.size + 1 + 1, 0, none⟩))).run Tryd.prog w3 = .ok () w4 := hr4
  rw [hw3] at hr4
  have HM4 := Lib.hid (show MG kInt w4 w.heap.size (fun y => if y = 1 then some (.pointer (some ⟨w.heap.size + 1 + 1, 0, none⟩)) else none) 1 from hm4)
  have HN4 := Lib.hid (hnm3.fr hf4 (by simp))
  have HG4 := Lib.hid ((hf4.block _ (hat_lt hg3) (by simp; omega)).trans hg3)
  have HF4 := Lib.hid (((hf3.mono (ex' := [w.heap.size]) (by simp)).trans hf4).past (ex' := []) (fun g hg => .inr (by simp at hg; omega)))
  have HL4 := Lib.hid (show w.heap.size + 1 + 1 < w4.heap.size from hat_lt HG4.out)
  clear hm4 ht4 hf4 hf3 hm3 hnm3 hg3 hok hw3 h
  go_enter Tryd.func10, Tryd.ntmps10
  go_wp2_with fail
  go_ret2
  have hpa := hopN w4 (.cells #[.int .i64 s, .int .i64 n, .map (some w.heap.size)] 77)
  have hfp := fr_new w4 (.cells #[.int .i64 s, .int .i64 n, .map (some w.heap.size)] 77) []
  have hsz := HL4.out
  refine ⟨w4.heap.size, rfl, w.heap.size, 1, fun _ => ⟨w.heap.size + 1 + 1, none, some (w.heap.size + 1), none, .map none, .map (some (w.heap.size + 1)), .slice none 0 0, 0, 0⟩,
    fun b => if b = w4.heap.size then some (-1, 0) else if b = w.heap.size then some (-1, 1) else if b = w.heap.size + 1 + 1 then some (1, 0) else if b = w.heap.size + 1 then some (1, 3) else none, ⟨⟨hpa.1, ?_, fun i m hm => ?_, ⟨by simp, ?_⟩, fun i m hm => ?_⟩, HOK.out.1, HOK.out.2, fun i m hm => ?_⟩, (HF4.out.trans hfp).bl, fun b hb => ?_⟩
  · have e : ptrM (newS s n) (fun _ => ⟨w.heap.size + 1 + 1, none, some (w.heap.size + 1), none, .map none, .map (some (w.heap.size + 1)), .slice none 0 0, 0, 0⟩) = fun y => if y = 1 then some (.pointer (some ⟨w.heap.size + 1 + 1, 0, none⟩)) else none := by
      funext y
      show (if y = 1 then some rootN else none).map _ = _
      split <;> rfl
    rw [e]
    exact HM4.out.fr hfp (by simp)
  · have hm' : (if i = 1 then some rootN else none) = some m := hm
    split at hm'
    · cases hm'
      exact ⟨((hfp.block _ HL4.out (by simp)).trans HG4.out), .inl ⟨rfl, rfl, fun _ => rfl, rfl⟩, .inl ⟨rfl, rfl, rfl⟩, .inr ⟨_, rfl, rfl, HN4.out.fr hfp (by simp)⟩⟩
    · cases hm'
  · show (if w.heap.size = w4.heap.size then _ else if w.heap.size = w.heap.size then _ else _) = _
    rw [if_neg (by omega), if_pos rfl]
  · have hm' : (if i = 1 then some rootN else none) = some m := hm
    split at hm'
    · rename_i h1
      subst h1
      refine ⟨?_, fun b hb => (nomatch hb), fun b hb => (nomatch hb), fun b hb => ?_⟩
      · show (if w.heap.size + 1 + 1 = w4.heap.size then _ else if w.heap.size + 1 + 1 = w.heap.size then _ else if w.heap.size + 1 + 1 = w.heap.size + 1 + 1 then _ else _) = _
        rw [if_neg (by omega), if_neg (by omega), if_pos rfl]
      · cases hb
        show (if w.heap.size + 1 = w4.heap.size then _ else if w.heap.size + 1 = w.heap.size then _ else if w.heap.size + 1 = w.heap.size + 1 + 1 then _ else if w.heap.size + 1 = w.heap.size + 1 then _ else _) = _
        rw [if_neg (by omega), if_neg (by omega), if_neg (by omega), if_pos rfl]
    · cases hm'
  · have hm' : (if i = 1 then some rootN else none) = some m := hm
    split at hm'
    · cases hm'
      exact ⟨fun _ => rfl, fun h => (nomatch h)⟩
    · cases hm'
  · show (if b = w4.heap.size then _ else if b = w.heap.size then _ else if b = w.heap.size + 1 + 1 then _ else if b = w.heap.size + 1 then _ else none) = none
    rw [if_neg (by omega), if_neg (by omega), if_neg (by omega), if_neg (by omega)]
end Go.Proofs.YteffoihkljkfdaaDoor
