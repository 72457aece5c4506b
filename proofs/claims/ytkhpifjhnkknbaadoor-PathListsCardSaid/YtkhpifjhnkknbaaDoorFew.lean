/- The law's few: names out of texts, as many as have room in a path: the walk. -/
import Derived.Test.YtkhpifjhnkknbaaDoorNme
import Derived.Test.YtkhpifjhnkknbaaDoorJoi
namespace Go.Proofs.YtkhpifjhnkknbaaDoor
set_option linter.unusedSimpArgs false
set_option linter.unusedVariables false
open Go.RowKit

theorem Tryd.infoS : (Tryd.prog.info? 9).map (fun i => (i.zero, i.size, i.bytes)) = some (some (.string ByteArray.empty), 1, 16) := by kernel_rfl
theorem strs_own {w : World} {B : Nat} {v : Value} {xs : List ByteArray} (h : w.ownsRow B 9 1 v xs.length (xs.map Value.string)) (hs : xs.length ≤ 140737488355328) : Strs w B v xs := by
  obtain ⟨-, h⟩ := h
  rcases h with ⟨rfl, h0⟩ | ⟨g, cap, cur, rfl, h1, h2, h3, h4, h5, h6⟩
  · exact .inl ⟨rfl, List.eq_nil_of_length_eq_zero h0⟩
  · refine .inr ⟨g, 0, cap, rfl, h3, hs, h1, hat_lt h2, fun j x hx => ?_⟩
    have hj : j < xs.length := (List.getElem?_eq_some_iff.1 hx).1
    rw [Nat.zero_add, cell_hat h2]
    have e : (cur.toList.take (xs.length * 1))[j]? = some (.string x) := by rw [h6]; simp [hx]
    rw [List.getElem?_take, if_pos (by omega)] at e
    simpa using e
theorem tot_len (xs : List ByteArray) : xs.length ≤ tot xs := by
  induction xs with
  | nil => simp
  | cons x r ih => simp only [tot, List.length_cons]; omega
/-- u is a list of texts that came in -/
def Arg (w : World) (u : Value) (ls : List ByteArray) : Prop := ∃ a c, u = .slice a ls.length c ∧ ls.length ≤ c ∧ ls.length ≤ 140737488355328 ∧
  ∀ j x, ls[j]? = some x → ∃ g o, a = some ⟨g, o, none⟩ ∧ g < w.heap.size ∧ w.cell? ⟨g, o + j, none⟩ = some (.string x)
theorem Arg.call {w w' : World} {u : Value} {ls : List ByteArray} (h : Arg w u ls) (hb : Below w.heap.size w w') : Arg w' u ls := by
  obtain ⟨a, c, h1, h2, h3, h4⟩ := h
  refine ⟨a, c, h1, h2, h3, fun j x hx => ?_⟩
  obtain ⟨g, o, e, hg, hc⟩ := h4 j x hx
  exact ⟨g, o, e, Nat.lt_of_lt_of_le hg hb.size, (hb.cell (p := ⟨g, o + j, none⟩) hg).trans hc⟩
/-- names that have room in a path -/
def Names (xs : List ByteArray) : Prop := (∀ n ∈ xs, NameMay n.data.toList) ∧ tot xs ≤ 400

set_option maxHeartbeats 4000000 in
set_option maxRecDepth 100000 in
theorem few_any (u : Value) (ls : List ByteArray) (w : World) (hu : Arg w u ls) :
    Calls Tryd.prog 19 #[u] w fun e w' => ∃ v xs, e = .returned v ∧ Strs w' w.heap.size v xs ∧ Names xs ∧ Below w.heap.size w w' := by
  obtain ⟨i0, hi, hz0, hz1, hz2⟩ := info_parts Tryd.infoS
  obtain ⟨a, c, rfl, hc, hsm, hu⟩ := hu
  have HU := Lib.hid hu
  clear hu
  generalize hN : ls.length = N at *
  have HN := Lib.hid hN
  clear hN
  go_enter Tryd.func19, Tryd.ntmps19
  go_wp2_with fail
  go_loopw [3, 4, 5] (fun v n i wr => ∃ (k : Nat) (xs : List ByteArray), k ≤ N ∧ k ≤ 400 ∧ i = .int .i64 k ∧ n = .int .i64 (tot xs) ∧ wr.ownsRow w.heap.size 9 1 v xs.length (xs.map Value.string) ∧ Below w.heap.size w wr ∧ Names xs) (fun _ _ i _ => N - (intOf i).toNat)
  case atStart => exact ⟨0, [], by omega, by omega, rfl, rfl, ⟨by simp, .inl ⟨rfl, rfl⟩⟩, Below.refl _ _, by simp [Names, tot]⟩
  case round =>
    obtain ⟨k, xs, hk, hk4, rfl, rfl, hown, hbw, hxs⟩ := hrel
    have hsz := hbw.size
    have h400 := hxs.2
    have hlen := tot_len xs
    have HO := Lib.hid hown
    have HX := Lib.hid hxs
    obtain ⟨va, vc, hv⟩ := own_len hown
    clear hown hxs
    subst hv
    generalize hL : xs.length = L at *
    have HL := Lib.hid hL
    generalize hT : tot xs = T at *
    have HT := Lib.hid hT
    clear hL hT
    by_cases hkn : k < N
    · by_cases hk5 : k < 400
      · obtain ⟨x, hxk⟩ := getElem_opt (l := ls) (k := k) (by rw [HN.out]; exact hkn)
        obtain ⟨g, o, rfl, hgl, hx⟩ := HU.out k x hxk
        · have cx := (hbw.cell (p := ⟨g, o + k, none⟩) hgl).trans hx
          rw [cell?_of_hat] at cx
          clear hx hxk
          go_wp2_with fail
          refine (name_any x _).mono ?_; rintro e w2 ⟨n, rfl, hn, hb2⟩
          have hn40 : n.size ≤ 40 := by have := hn.2.1; rwa [len_data] at this
          have hbw2 := below_call hbw hb2 hbw.size
          have HO2 : Hid (w2.ownsRow w.heap.size 9 1 (.slice va L vc) L (xs.map Value.string)) := by
            have h := HO.out
            obtain ⟨ha, h⟩ := h
            rcases h with ⟨h1, h2⟩ | ⟨g1, cap, cur, h1, h2, h3, h4⟩
            · exact ⟨ha, .inl ⟨h1, h2⟩⟩
            · exact ⟨ha, .inr ⟨g1, cap, cur, h1, h2, (hop hb2 h3).1, h4⟩⟩
          have HNM := Lib.hid hn
          have hsz2 := hbw2.size
          clear hn hb2 cx
          by_cases hbig : 400 < T + 1 + n.size
          · go_wp2_with fail
            go_ret
            exact ⟨_, xs, rfl, strs_own (by rw [HL.out]; exact HO2.out) (by rw [HL.out]; omega), HX.out, hbw2⟩
          · go_wp2_with (at_builtin; refine wpList_append_own _ rfl (.tmp 30) (.tmp 32) 25 rfl w.heap.size 9 i0 _ 1 16 Tryd.underlying25 hi hz0 hz1 hz2 rfl (by decide) (.slice va L vc) L (xs.map Value.string) rfl (HO2.out.alloc _) ⟨w2.heap.size, 0, none⟩ 1 1 [.string n] rfl rfl ?c1 ?c2 ?c3 ?c4 ?c5 (fun v' w1 hown' hgrow _ => ?_))
            case c1 =>
              intro j u hj
              have hj3 : j < 1 := by
                have := (List.getElem?_eq_some_iff.1 hj).1
                simpa using this
              have hadd : (⟨w2.heap.size, 0, none⟩ : Addr).add j = ⟨w2.heap.size, j, none⟩ := by unfold Addr.add; split <;> simp_all
              rw [hadd, cell_hat (hat_alloc_at _ _ _ rfl)]
              simpa using hj
            case c2 =>
              intro u hu
              simp at hu
              subst hu
              rfl
            case c3 => unfold maxLen; omega
            case c4 => omega
            case c5 => simp only [World.size_alloc]; omega
            go_roundw
            case rel =>
              have e1 : tot (xs ++ [n]) = T + 1 + n.size := by rw [tot_append, HT.out]; simp only [tot]; omega
              refine ⟨k + 1, xs ++ [n], by omega, by omega, by go_num, by rw [e1]; simp, by rw [List.map_append, List.length_append, HL.out]; exact hown', ?_, ?_⟩
              · exact (hbw2.alloc (by omega) _).grown hgrow (by simp only [World.size_alloc]; omega) (fun q hq => by
                  have h1 : ¬ q < w.heap.size := fun h => ownsRow_ne HO2.out h hq
                  omega)
              · refine ⟨fun m hm => ?_, by rw [e1]; omega⟩
                rcases List.mem_append.1 hm with h | h
                · exact HX.out.1 m h
                · rw [List.mem_singleton.1 h]; exact HNM.out
            case measure => (show N - (k + 1) < N - k); omega
      · have hk6 : k = 400 := by omega
        go_wp2_with fail
        go_ret
        exact ⟨_, xs, rfl, strs_own (by rw [HL.out]; exact HO.out) (by rw [HL.out]; omega), HX.out, hbw⟩
    · have hk6 : k = N := by omega
      go_wp2_with fail
      go_ret
      exact ⟨_, xs, rfl, strs_own (by rw [HL.out]; exact HO.out) (by rw [HL.out]; omega), HX.out, hbw⟩
end Go.Proofs.YtkhpifjhnkknbaaDoor
