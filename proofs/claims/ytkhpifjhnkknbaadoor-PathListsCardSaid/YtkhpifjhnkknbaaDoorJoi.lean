/- path.Join: the walk. -/
import Derived.Test.YtkhpifjhnkknbaaDoorSpl
namespace Go.Proofs.YtkhpifjhnkknbaaDoor
set_option linter.unusedSimpArgs false
set_option linter.unusedVariables false
open Go.RowKit

/-- a path's bytes: each name's and one more -/
def tot : List ByteArray → Nat
  | [] => 0
  | x :: r => 1 + x.size + tot r
theorem tot_append (a b : List ByteArray) : tot (a ++ b) = tot a + tot b := by
  induction a with
  | nil => simp [tot]
  | cons x a ih => simp only [List.cons_append, tot, ih]; omega
theorem tot_take {xs : List ByteArray} {k : Nat} {x : ByteArray} (h : xs[k]? = some x) : tot (xs.take (k + 1)) = tot (xs.take k) + (1 + x.size) := by
  rw [List.take_add_one, h, tot_append]; simp [tot]
theorem tot_small {xs : List ByteArray} : ∀ {k : Nat}, (∀ j, j < k → ∀ n, xs[j]? = some n → NameMay n.data.toList) → tot (xs.take k) ≤ 41 * k := by
  intro k
  induction k with
  | zero => intro _; simp [tot]
  | succ k ih =>
    intro h
    have ih := ih (fun j hj n hn => h j (by omega) n hn)
    cases hx : xs[k]? with
    | none =>
      rw [List.take_add_one, hx]; simp; omega
    | some x =>
      have := (h k (by omega) x hx).2.1
      rw [len_data] at this
      rw [tot_take hx]; omega
theorem tot_lens (xs : List ByteArray) : tot xs = xs.length + Lib.lens (xs.map (·.data.toList)) := by
  induction xs with
  | nil => rfl
  | cons x r ih => simp only [tot, ih, List.length_cons, List.map_cons, Lib.lens, List.sum_cons, len_data]; omega
theorem join_len {xs : List ByteArray} (h : xs ≠ []) : (Lib.join (xs.map (·.data.toList)) [47]).length + 1 = tot xs := by
  cases xs with
  | nil => exact absurd rfl h
  | cons x r =>
    rw [tot_lens, List.map_cons, Lib.join_length]
    simp only [List.length_cons, List.length_nil, List.length_map]
    omega
def joined (xs : List ByteArray) : ByteArray := slash ++ ⟨(Lib.join (xs.map (·.data.toList)) [47]).toArray⟩
def joinR (xs : List ByteArray) : ByteArray × Int :=
  if xs = [] then (slash, 0) else if ¬ ∀ n ∈ xs, NameMay n.data.toList then ({ data := #[] }, 71) else if 400 < tot xs then ({ data := #[] }, 70) else (joined xs, 0)
theorem joinR_root : joinR [] = (slash, 0) := by unfold joinR; rw [if_pos rfl]
theorem joinR_no {xs : List ByteArray} (h : xs ≠ []) (h2 : ¬ ∀ n ∈ xs, NameMay n.data.toList) : joinR xs = ({ data := #[] }, 71) := by unfold joinR; rw [if_neg h, if_pos h2]
theorem joinR_long {xs : List ByteArray} (h : xs ≠ []) (h2 : ∀ n ∈ xs, NameMay n.data.toList) (h3 : 400 < tot xs) : joinR xs = ({ data := #[] }, 70) := by unfold joinR; rw [if_neg h, if_neg (by simpa using h2), if_pos h3]
theorem joinR_yes {xs : List ByteArray} (h : xs ≠ []) (h2 : ∀ n ∈ xs, NameMay n.data.toList) (h3 : ¬ 400 < tot xs) : joinR xs = (joined xs, 0) := by unfold joinR; rw [if_neg h, if_neg (by simpa using h2), if_neg h3]
theorem all_of {xs : List ByteArray} {P : ByteArray → Prop} (h : ∀ j, j < xs.length → ∀ n, xs[j]? = some n → P n) : ∀ n ∈ xs, P n := fun n hn => by
  obtain ⟨j, hj, rfl⟩ := List.getElem_of_mem hn
  exact h j hj _ (List.getElem?_eq_getElem hj)

set_option maxHeartbeats 2000000 in
set_option maxRecDepth 100000 in
theorem join_any (v : Value) (xs : List ByteArray) (B : Nat) (w : World) (hv : Strs w B v xs) :
    Calls Tryd.prog 13 #[v] w fun e w' => e = .returned (.tuple #[.string (joinR xs).1, .int .i64 (joinR xs).2]) ∧ Below w.heap.size w w' := by
  by_cases hx0 : xs = []
  · subst hx0
    rw [joinR_root]
    obtain ⟨a, c, rfl⟩ := hv.len
    go_enter Tryd.func13, Tryd.ntmps13
    clear hv
    go_wp2_with fail
    go_ret2
    exact ⟨rfl, Below.refl _ _⟩
  · have sx := hv.small
    rcases hv with ⟨rfl, rfl⟩ | ⟨g, o, c, rfl, hc, -, -, hgl, hx⟩
    · exact absurd rfl hx0
    · have HX := Lib.hid hx
      have HNE := Lib.hid hx0
      have hpos : 1 ≤ xs.length := by
        cases xs with
        | nil => exact absurd rfl hx0
        | cons x r => simp
      clear hx hx0
      go_enter Tryd.func13, Tryd.ntmps13
      generalize hN : xs.length = N at *
      have HN := Lib.hid hN
      clear hN
      have hz : ((N : Int) == 0) = false := by simp; omega
      go_wp2_with fail
      go_loopw [4, 13] (fun z i wr => ∃ k : Nat, k ≤ N ∧ i = .int .i64 k ∧ z = .int .i64 (tot (xs.take k)) ∧ Below w.heap.size w wr ∧ ∀ j, j < k → ∀ n, xs[j]? = some n → NameMay n.data.toList) (fun _ i _ => N - (intOf i).toNat)
      case atStart => exact ⟨0, Nat.zero_le _, rfl, rfl, Below.refl _ _, fun j hj => by omega⟩
      case round =>
        obtain ⟨k, hk, rfl, rfl, hb, hok⟩ := hrel
        have hts := tot_small hok
        have HK := Lib.hid hok
        clear hok
        generalize hT : tot (xs.take k) = T at *
        have HT := Lib.hid hT
        clear hT
        by_cases hkw : k < N
        · obtain ⟨x, hx⟩ := getElem_opt (l := xs) (k := k) (by rw [HN.out]; exact hkw)
          have cx := (hb.cell (p := ⟨g, o + k, none⟩) hgl).trans (HX.out k x hx)
          rw [cell?_of_hat] at cx
          have Hx := Lib.hid hx
          clear hx
          go_wp2_with fail
          refine (check_any x _).mono ?_; rintro e w2 ⟨rfl, hb2⟩
          have hb := below_call hb hb2 hb.size
          clear hb2 cx
          by_cases hn : NameMay x.data.toList
          · rw [chk_yes hn]
            have h40 : x.size ≤ 40 := by have := hn.2.1; rwa [len_data] at this
            have HX2 := Lib.hid hn
            clear hn
            go_wp2_with fail
            go_roundw
            case rel =>
              refine ⟨k + 1, by omega, by go_num, ?_, hb, fun j hj n hjn => ?_⟩
              · rw [tot_take Hx.out, HT.out]; congr 1
              · by_cases h : j = k
                · subst h; rw [Hx.out] at hjn; rw [← Option.some.inj hjn]; exact HX2.out
                · exact HK.out j (by omega) n hjn
            case measure => (show N - (k + 1) < N - k); omega
          · rw [chk_no hn]
            have he := joinR_no HNE.out (fun h => hn (h x (List.mem_of_getElem? Hx.out)))
            have HE := Lib.hid he
            clear hn he
            go_wp2_with fail
            go_ret2
            exact ⟨by rw [HE.out]; rfl, hb⟩
        · obtain rfl : k = N := by omega
          have hall : ∀ n ∈ xs, NameMay n.data.toList := all_of (fun j hj n hn => HK.out j (by rw [← HN.out]; exact hj) n hn)
          have hTT : tot xs = T := by rw [← HT.out, List.take_of_length_le (by rw [HN.out]; exact Nat.le_refl _)]
          by_cases hbig : 400 < T
          · have he := joinR_long HNE.out hall (by rw [hTT]; exact hbig)
            have HE := Lib.hid he
            clear he hall hTT
            go_wp2_with fail
            go_ret2
            exact ⟨by rw [HE.out]; rfl, hb⟩
          · have he := joinR_yes HNE.out hall (by rw [hTT]; exact hbig)
            have hj := join_len HNE.out
            rw [hTT] at hj
            have hcells : ∀ (j : Nat) x, xs[j]? = some x → wr.cell? ⟨g, o + j, none⟩ = some (.string x) := fun j x hx => (hb.cell (p := ⟨g, o + j, none⟩) hgl).trans (HX.out j x hx)
            have HC := Lib.hid hcells
            have HE := Lib.hid he
            have HJ := Lib.hid hj
            clear he hall hTT hj hcells
            go_wp2_with fail
            have hcall := Tryd.strings_Join g o c xs slash wr HC.out (Nat.lt_of_lt_of_le hgl hb.size) (by rw [HN.out]; exact sx) (by rw [HN.out]; exact hc) (by have := HJ.out; rw [show slash.data.toList = [47] from rfl]; omega)
            rw [HN.out] at hcall
            refine hcall.mono ?_; rintro e w2 ⟨rfl, hb2⟩
            have hb := below_call hb hb2 hb.size
            clear hb2 hcall
            have hq : (⟨(Lib.join (xs.map (·.data.toList)) slash.data.toList).toArray⟩ : ByteArray).size ≤ 400 := by
              have h := HJ.out
              rw [show slash.data.toList = [47] from rfl, ← len_data]
              simp only []
              omega
            generalize hJq : (⟨(Lib.join (xs.map (·.data.toList)) slash.data.toList).toArray⟩ : ByteArray) = J at *
            have HJJ := Lib.hid hJq
            clear hJq
            go_wp2_with fail
            go_ret2
            refine ⟨?_, hb⟩
            rw [HE.out]
            unfold joined
            rw [← show slash.data.toList = [47] from rfl, HJJ.out]
            rfl
end Go.Proofs.YtkhpifjhnkknbaaDoor
