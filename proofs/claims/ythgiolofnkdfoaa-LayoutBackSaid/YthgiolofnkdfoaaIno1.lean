/- Layout: the table of an inode's fields. -/
import Derived.Test.YthgiolofnkdfoaaLay3
namespace Go.Proofs.Ythgiolofnkdfoaa
set_option linter.unusedSimpArgs false
set_option linter.unusedVariables false
open Go.RowKit

/-- where an inode's field stands, in how many bytes, and which cell of the inode it is -/
def fAt : Nat → Nat
  | 0 => 0 | 1 => 1 | 2 => 4 | 3 => 8 | 4 => 64 | 5 => 68 | j + 6 => 16 + 4 * j
def fWd : Nat → Nat
  | 0 => 1 | 1 => 1 | 2 => 4 | 3 => 8 | 4 => 4 | 5 => 4 | _ + 6 => 4
def fCell : Nat → Nat
  | 0 => 0 | 1 => 1 | 2 => 2 | 3 => 3 | 4 => 16 | 5 => 17 | j + 6 => 4 + j
def fFn (c : Nat → Nat) : Nat → Value
  | 0 => .func (.func 48) #[] #[] | 1 => .func (.func 49) #[] #[] | 2 => .func (.func 50) #[] #[]
  | 3 => .func (.func 51) #[] #[] | 4 => .func (.func 52) #[] #[] | 5 => .func (.func 53) #[] #[]
  | j + 6 => .func (.func 54) #[] #[.pointer (some ⟨c j, 0, none⟩)]
def frow (c : Nat → Nat) (j : Nat) : List Value := [.int .i64 (fAt j), .int .i64 (fWd j), fFn c j]
def frows (c : Nat → Nat) (n : Nat) : List Value := (List.range n).flatMap (frow c)

theorem frows_length (c : Nat → Nat) (n : Nat) : (frows c n).length = n * 3 := by
  induction n with
  | zero => rfl
  | succ n ih => unfold frows at ih ⊢; rw [List.range_succ, List.flatMap_append, List.length_append, ih]; simp [frow]; omega
theorem frows_succ (c : Nat → Nat) (n : Nat) : frows c (n + 1) = frows c n ++ frow c n := by
  unfold frows; rw [List.range_succ, List.flatMap_append]; simp
theorem frows_congr (c c' : Nat → Nat) (n : Nat) (h : ∀ j, j + 6 < n → c j = c' j) : frows c n = frows c' n := by
  induction n with
  | zero => rfl
  | succ n ih =>
    rw [frows_succ, frows_succ, ih (fun j hj => h j (by omega))]
    congr 1
    unfold frow
    match n with
    | 0 | 1 | 2 | 3 | 4 | 5 => rfl
    | j + 6 => simp only [fFn]; rw [h j (by omega)]

theorem Try.info70 : (Try.prog.info? 70).map (fun i => (i.zero, i.size, i.bytes)) = some (some (.agg #[.int .i64 0, .int .i64 0, .nilFunc]), 3, 24) := by kernel_rfl

set_option maxHeartbeats 1000000 in
set_option maxRecDepth 100000 in
theorem fields_any (w : World) :
    Calls Try.prog 42 #[] w fun e w' => ∃ g cap c cur, e = .returned (.slice (some ⟨g, 0, none⟩) 18 cap) ∧ Below w.heap.size w w' ∧ w.heap.size ≤ g ∧ hat w' g = some (.cells cur 70) ∧ cur.toList.take 54 = frows c 18 ∧
      ∀ j, j < 12 → hat w' (c j) = some (.cells #[.int .i64 j] 3) := by
  obtain ⟨i0, hi, hz0, hz1, hz2⟩ := info_parts Try.info70
  go_enter Try.func42, Try.ntmps42
  go_wp2_with fail
  go_loopw [1, 10] (fun v i wr => ∃ (k : Nat) (c : Nat → Nat), k ≤ 12 ∧ i = .int .i64 k ∧ wr.ownsRow w.heap.size 70 3 v (6 + k) (frows c (6 + k)) ∧ (∀ j, j < k → hat wr (c j) = some (.cells #[.int .i64 j] 3)) ∧ Below w.heap.size w wr) (fun _ i _ => 12 - (intOf i).toNat)
  case atStart =>
    refine ⟨0, fun _ => 0, Nat.zero_le _, rfl, ⟨frows_length _ _, .inr ⟨w.heap.size, 6, _, rfl, Nat.le_refl _, heap_alloc_new w _, Nat.le_refl _, by decide, rfl, rfl⟩⟩, fun j hj => by omega, (Below.refl _ _).alloc (Nat.le_refl _) _⟩
  case round =>
    obtain ⟨k, c, hk, rfl, hown, hc, hb⟩ := hrel
    by_cases hkw : k < 12
    · have hwr : w.heap.size ≤ wr.heap.size := hb.size
      let c' : Nat → Nat := fun j => if j = k then wr.heap.size else c j
      have hc'k : c' k = wr.heap.size := if_pos rfl
      have hc'j : ∀ j, j < k → c' j = c j := fun j hj => if_neg (by omega)
      have hfr : frows c (6 + k) = frows c' (6 + k) := frows_congr _ _ _ (fun j hj => (hc'j j (by omega)).symm)
      have hrow : frow c' (6 + k) = [.int .i64 (16 + 4 * (k : Int)), .int .i64 4, .func (.func 54) #[] #[.pointer (some ⟨wr.heap.size, 0, none⟩)]] := by
        rw [Nat.add_comm 6 k]
        simp only [frow, fAt, fWd, fFn, hc'k]
        simp
      have HR := Lib.hid hrow
      have HF := Lib.hid hfr
      have HC := Lib.hid hc
      have HB := Lib.hid hb
      have HJ := Lib.hid hc'j
      have HK := Lib.hid hc'k
      have HO := Lib.hid hown
      clear_value c'
      clear hrow hfr hc hb hc'j hc'k hown
      go_wp2_with (at_builtin; refine wpList_append_own _ rfl (.tmp 13) (.tmp 19) 66 rfl w.heap.size 70 i0 _ 3 24 Try.underlying66 hi hz0 hz1 hz2 rfl (by decide) u1 (6 + k) (frows c (6 + k)) rfl ((HO.out.alloc _).alloc _) ⟨wr.heap.size + 1, 0, none⟩ 1 1 [.int .i64 (16 + 4 * (k : Int)), .int .i64 4, .func (.func 54) #[] #[.pointer (some ⟨wr.heap.size, 0, none⟩)]] rfl rfl ?c1 ?c2 ?c3 ?c4 ?c5 (fun v' w1 hown' hgrow _ => ?_))
      case c1 =>
        intro j u hj
        have hj3 : j < 3 := by
          have := (List.getElem?_eq_some_iff.1 hj).1
          simpa using this
        have hadd : (⟨wr.heap.size + 1, 0, none⟩ : Addr).add j = ⟨wr.heap.size + 1, j, none⟩ := by unfold Addr.add; split <;> simp_all
        rw [hadd, cell_hat (hat_alloc_at _ _ _ (by simp))]
        simpa using hj
      case c2 =>
        intro u hu
        simp at hu
        rcases hu with rfl | rfl | rfl <;> rfl
      case c3 => unfold maxLen; omega
      case c4 => omega
      case c5 => simp only [World.size_alloc]; omega
      go_roundw
      case rel =>
        have hg : ∃ g, u1.ownBlock = some g ∧ g < wr.heap.size ∧ w.heap.size ≤ g ∧ ∃ cur, hat wr g = some (.cells cur 70) := by
          obtain ⟨-, h⟩ := HO.out
          rcases h with ⟨-, h⟩ | ⟨g, cap, cur, rfl, h1, h2, -⟩
          · omega
          · exact ⟨g, rfl, hat_lt h2, h1, cur, h2⟩
        obtain ⟨g, hg1, hg2, hg3, cur, hg4⟩ := hg
        refine ⟨k + 1, c', by omega, by go_num, ?_, ?_, ?_⟩
        · have e : frows c' (6 + (k + 1)) = frows c (6 + k) ++ [.int .i64 (16 + 4 * (k : Int)), .int .i64 4, .func (.func 54) #[] #[.pointer (some ⟨wr.heap.size, 0, none⟩)]] := by
            rw [show 6 + (k + 1) = 6 + k + 1 by omega, frows_succ, HF.out, HR.out]
          rw [e]
          exact hown'
        · intro j hj
          by_cases hjk : j = k
          · subst hjk
            rw [HK.out]
            show w1.heap[_]? = _
            rw [hgrow.block _ (by simp only [World.size_alloc]; omega) (by rw [hg1]; simp; omega)]
            show hat _ _ = _
            rw [hat_alloc_past _ _ _ (by simp), hat_alloc_at _ _ _ rfl]
          · rw [HJ.out j (by omega)]
            have h1 := HC.out j (by omega)
            have h2 := hat_lt h1
            show w1.heap[_]? = _
            rw [hgrow.block _ (by simp only [World.size_alloc]; omega) ?_]
            · show hat _ _ = _
              rw [hat_alloc_past _ _ _ (by simp only [World.size_alloc]; omega), hat_alloc_past _ _ _ h2, h1]
            · rw [hg1]
              intro e
              have e' : c j = g := by simpa using e
              rw [e', hg4] at h1
              simp at h1
        · exact (((HB.out.alloc (by omega) _).alloc (by simp only [World.size_alloc]; omega) _)).grown hgrow (by simp only [World.size_alloc]; omega) (fun k hk => by rw [hg1] at hk; simp at hk; omega)
      case measure => (show 12 - (k + 1) < 12 - k); omega
    · obtain rfl : k = 12 := by omega
      have HC := Lib.hid hc
      have HB := Lib.hid hb
      obtain ⟨hl, h⟩ := hown
      rcases h with ⟨-, h⟩ | ⟨g, cap, cur, rfl, h1, h2, h3, h4, h5, h6⟩
      · omega
      · have H2 := Lib.hid h2
        have H6 := Lib.hid h6
        clear hc hb h2 h6 h5 hl
        go_wp2_with fail
        go_ret
        exact ⟨g, cap, c, cur, rfl, HB.out, h1, H2.out, H6.out, HC.out⟩
end Go.Proofs.Ythgiolofnkdfoaa
