/- Lists of texts; sameTexts: the walk. -/
import Derived.Test.YtkhpifjhnkknbaaDoorChk
namespace Go.Proofs.YtkhpifjhnkknbaaDoor
set_option linter.unusedSimpArgs false
set_option linter.unusedVariables false
open Go.RowKit

/-- v is a list of the texts xs in world w, at block B or above -/
def Strs (w : World) (B : Nat) (v : Value) (xs : List ByteArray) : Prop :=
  (v = .slice none 0 0 ∧ xs = []) ∨ ∃ g o c, v = .slice (some ⟨g, o, none⟩) xs.length c ∧ xs.length ≤ c ∧ xs.length ≤ 140737488355328 ∧ B ≤ g ∧ g < w.heap.size ∧ ∀ j x, xs[j]? = some x → w.cell? ⟨g, o + j, none⟩ = some (.string x)
theorem Strs.len {w : World} {B : Nat} {v : Value} {xs : List ByteArray} (h : Strs w B v xs) : ∃ a c, v = .slice a xs.length c := by
  rcases h with ⟨rfl, rfl⟩ | ⟨g, o, c, rfl, -⟩
  · exact ⟨_, _, rfl⟩
  · exact ⟨_, _, rfl⟩
theorem Strs.small {w : World} {B : Nat} {v : Value} {xs : List ByteArray} (h : Strs w B v xs) : xs.length ≤ 140737488355328 := by
  rcases h with ⟨-, rfl⟩ | ⟨g, o, c, -, -, h, -⟩
  · simp
  · exact h
theorem Strs.call {w w' : World} {B : Nat} {v : Value} {xs : List ByteArray} (h : Strs w B v xs) (hb : Below w.heap.size w w') : Strs w' B v xs := by
  rcases h with h | ⟨g, o, c, h1, h2, h3, h4, h5, h6⟩
  · exact .inl h
  · exact .inr ⟨g, o, c, h1, h2, h3, h4, Nat.lt_of_lt_of_le h5 hb.size, fun j x hx => by rw [hb.cell (p := ⟨g, o + j, none⟩) h5]; exact h6 j x hx⟩
theorem Strs.alloc {w : World} {B : Nat} {v : Value} {xs : List ByteArray} (h : Strs w B v xs) (ob : Obj) : Strs (w.alloc ob) B v xs := h.call ((Below.refl _ _).alloc (Nat.le_refl _) ob)
theorem Strs.le {w : World} {B B' : Nat} {v : Value} {xs : List ByteArray} (h : Strs w B v xs) (hb : B' ≤ B) : Strs w B' v xs := by
  rcases h with h | ⟨g, o, c, h1, h2, h3, h4, h5⟩
  · exact .inl h
  · exact .inr ⟨g, o, c, h1, h2, h3, by omega, h5⟩
theorem getElem_opt {α : Type} {l : List α} {k : Nat} (h : k < l.length) : ∃ x, l[k]? = some x := ⟨_, List.getElem?_eq_getElem h⟩
theorem same_upto {xs ys : List ByteArray} (hl : xs.length = ys.length) (h : ∀ j, j < xs.length → xs[j]? = ys[j]?) : xs = ys := by
  apply List.ext_getElem?
  intro j
  by_cases hj : j < xs.length
  · exact h j hj
  · rw [List.getElem?_eq_none (by omega), List.getElem?_eq_none (by omega)]
theorem str_inj {s t : ByteArray} (h : s.toList = t.toList) : s = t := by
  rw [Lib.toList_data, Lib.toList_data] at h
  obtain ⟨⟨a⟩⟩ := s
  obtain ⟨⟨b⟩⟩ := t
  obtain rfl : a = b := h
  rfl
theorem ret_bool {a b : Bool} (h : a = b) : Ending.returned (.bool a) = .returned (.bool b) := by rw [h]

set_option maxHeartbeats 2000000 in
set_option maxRecDepth 100000 in
theorem sameTexts_any (u v : Value) (xs ys : List ByteArray) (B C : Nat) (w : World) (hu : Strs w B u xs) (hv : Strs w C v ys) :
    Calls Tryd.prog 15 #[u, v] w fun e w' => e = .returned (.bool (decide (xs = ys))) ∧ Below w.heap.size w w' := by
  have sx := hu.small
  have sy := hv.small
  by_cases hl : xs.length = ys.length
  · have HL := Lib.hid hl
    rcases hu with ⟨rfl, rfl⟩ | ⟨g, o, c, rfl, hc, -, -, hgl, hx⟩
    · obtain rfl : ys = [] := List.eq_nil_of_length_eq_zero hl.symm
      obtain ⟨a, c, rfl⟩ := hv.len
      go_enter Tryd.func15, Tryd.ntmps15
      clear hl HL hv sx sy
      go_wp2_with fail
      go_loopw [5] (fun i wr => i = .int .i64 0 ∧ wr = w) (fun _ _ => 0)
      case atStart => exact ⟨rfl, rfl⟩
      case round =>
        obtain ⟨rfl, rfl⟩ := hrel
        go_wp2_with fail
        go_ret
        exact ⟨rfl, Below.refl _ _⟩
    · rcases hv with ⟨rfl, rfl⟩ | ⟨g2, o2, c2, rfl, hc2, -, -, hgl2, hy⟩
      · obtain rfl : xs = [] := List.eq_nil_of_length_eq_zero hl
        go_enter Tryd.func15, Tryd.ntmps15
        clear hl HL hx sx sy
        go_wp2_with fail
        go_loopw [5] (fun i wr => i = .int .i64 0 ∧ wr = w) (fun _ _ => 0)
        case atStart => exact ⟨rfl, rfl⟩
        case round =>
          obtain ⟨rfl, rfl⟩ := hrel
          go_wp2_with fail
          go_ret
          exact ⟨rfl, Below.refl _ _⟩
      · have HX := Lib.hid hx
        have HY := Lib.hid hy
        rw [← hl] at hc2 ⊢
        clear hx hy
        go_enter Tryd.func15, Tryd.ntmps15
        clear hl
        generalize hN : xs.length = N at *
        have HNN := Lib.hid hN
        clear hN
        go_wp2_with fail
        go_loopw [5] (fun i wr => ∃ k : Nat, k ≤ N ∧ i = .int .i64 k ∧ Below w.heap.size w wr ∧ ∀ j, j < k → xs[j]? = ys[j]?) (fun i _ => N - (intOf i).toNat)
        case atStart => exact ⟨0, Nat.zero_le _, rfl, Below.refl _ _, fun j hj => by omega⟩
        case round =>
          obtain ⟨k, hk, rfl, hbw, hsame⟩ := hrel
          have HS := Lib.hid hsame
          clear hsame
          by_cases hkw : k < N
          · obtain ⟨x, hx⟩ := getElem_opt (l := xs) (k := k) (by rw [HNN.out]; exact hkw)
            obtain ⟨y, hy⟩ := getElem_opt (l := ys) (k := k) (by rw [← HL.out, ]; exact hkw)
            have cx := (hbw.cell (p := ⟨g, o + k, none⟩) hgl).trans (HX.out k x hx)
            have cy := (hbw.cell (p := ⟨g2, o2 + k, none⟩) hgl2).trans (HY.out k y hy)
            rw [cell?_of_hat] at cx cy
            have Hx := Lib.hid hx
            have Hy := Lib.hid hy
            clear hx hy
            cases hxy : x.toList == y.toList
            · go_wp2_with fail
              go_quiet (fail)
              go_wp2_with fail
              go_ret
              refine ⟨ret_bool (decide_eq_false fun h => ?_).symm, below_drewN hbw _⟩
              have h1 := Hx.out
              rw [h, Hy.out] at h1
              rw [Option.some.inj h1] at hxy
              simp at hxy
            · go_wp2_with fail
              go_quiet (fail)
              go_wp2_with fail
              go_roundw
              case rel =>
                refine ⟨k + 1, by omega, by go_num, below_drewN hbw _, fun j hj => ?_⟩
                by_cases h : j = k
                · subst h; rw [Hx.out, Hy.out, str_inj (beq_iff_eq.1 hxy)]
                · exact HS.out j (by omega)
              case measure => (show N - (k + 1) < N - k); omega
          · obtain rfl : k = N := by omega
            go_wp2_with fail
            go_ret
            exact ⟨ret_bool (decide_eq_true (same_upto (by rw [HNN.out]; exact HL.out) (fun j hj => HS.out j (by rw [← HNN.out]; exact hj)))).symm, hbw⟩
  · go_enter Tryd.func15, Tryd.ntmps15
    obtain ⟨a, c, rfl⟩ := hu.len
    obtain ⟨a2, c2, rfl⟩ := hv.len
    have hne : ((xs.length : Int) != (ys.length : Int)) = true := by simp; omega
    have HL := Lib.hid hl
    clear hl hu hv
    go_wp2_with fail
    go_ret
    exact ⟨ret_bool (decide_eq_false fun h => HL.out (by rw [h])).symm, Below.refl _ _⟩
end Go.Proofs.YtkhpifjhnkknbaaDoor
