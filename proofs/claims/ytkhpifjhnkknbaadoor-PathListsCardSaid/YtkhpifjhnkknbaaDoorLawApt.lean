/- Unlike lists of names have unlike paths: the law's walk. -/
import Derived.Test.YtkhpifjhnkknbaaDoorFew
import Derived.Test.YtkhpifjhnkknbaaDoorPlp
import Derived.Test.YtkhpifjhnkknbaaDoorKnp
namespace Go.Proofs.YtkhpifjhnkknbaaDoor
set_option linter.unusedSimpArgs false
set_option linter.unusedVariables false
open Go.RowKit

/-- the path of names -/
def pth (xs : List ByteArray) : ByteArray := if xs = [] then slash else joined xs
theorem join_names {xs : List ByteArray} (h : Names xs) : joinR xs = (pth xs, 0) := by
  unfold pth
  by_cases h0 : xs = []
  · subst h0; rw [joinR_root, if_pos rfl]
  · rw [joinR_yes h0 h.1 (by have := h.2; omega), if_neg h0]
theorem joined_data (xs : List ByteArray) : (joined xs).data.toList = 47 :: Lib.join (xs.map (·.data.toList)) [47] := by
  unfold joined; simp [slash]
theorem joined_size {xs : List ByteArray} (h : xs ≠ []) : (joined xs).size = tot xs := by
  rw [← len_data, joined_data, ← join_len h]; simp
theorem names_cut {xs : List ByteArray} (h : Names xs) (h0 : xs ≠ []) : cut47 (Lib.join (xs.map (·.data.toList)) [47]) = xs.map (·.data.toList) :=
  cut_join _ (by simpa using h0) (fun x hx b hb => by
    obtain ⟨n, hn, rfl⟩ := List.mem_map.1 hx
    exact ((h.1 n hn).2.2.1 b hb).2)
theorem map_data {xs ys : List ByteArray} (h : xs.map (·.data.toList) = ys.map (·.data.toList)) : xs = ys := by
  have hl : xs.length = ys.length := by have := congrArg List.length h; simpa using this
  apply List.ext_getElem hl
  intro i h1 h2
  have := congrArg (·[i]?) h
  simp only [List.getElem?_map, List.getElem?_eq_getElem h1, List.getElem?_eq_getElem h2, Option.map_some, Option.some.injEq] at this
  exact ba_ext this
theorem names_two {xs : List ByteArray} (h : Names xs) (h0 : xs ≠ []) : 2 ≤ tot xs := by
  cases xs with
  | nil => exact absurd rfl h0
  | cons x r =>
    have := (h.1 x (by simp)).1
    rw [len_data] at this
    simp only [tot]; omega
theorem pth_inj {xs ys : List ByteArray} (hx : Names xs) (hy : Names ys) (h : pth xs = pth ys) : xs = ys := by
  unfold pth at h
  by_cases h1 : xs = []
  · by_cases h2 : ys = []
    · rw [h1, h2]
    · rw [if_pos h1, if_neg h2] at h
      have h3 := joined_size h2
      rw [← h] at h3
      have h4 : slash.size = 1 := by decide
      have := names_two hy h2
      omega
  · by_cases h2 : ys = []
    · rw [if_neg h1, if_pos h2] at h
      have h3 := joined_size h1
      rw [h] at h3
      have h4 : slash.size = 1 := by decide
      have := names_two hx h1
      omega
    · rw [if_neg h1, if_neg h2] at h
      have h3 := joined_data xs
      rw [h, joined_data ys] at h3
      have h4 := (List.cons.inj h3).2
      have h5 := names_cut hx h1
      rw [← h4, names_cut hy h2] at h5
      exact (map_data h5).symm

set_option maxHeartbeats 4000000 in
set_option maxRecDepth 100000 in
theorem pathApart_any (u v : Value) (la lb : List ByteArray) (m : Int) (w : World) (hm : MaxAt w m) (hu : Arg w u la) (hv : Arg w v lb) :
    Calls Tryd.prog 8 #[u, v] w fun e w' => e = .returned (.bool true) ∧ Below w.heap.size w w' := by
  have HM := Lib.hid hm
  have HU := Lib.hid hu
  have HV := Lib.hid hv
  clear hm hu hv
  go_enter Tryd.func8, Tryd.ntmps8
  go_wp2_with fail
  refine (few_any _ _ _ HU.out).mono ?_; rintro e w1 ⟨v1, xs, rfl, hs1, hx, hb⟩
  have HM := Lib.hid (HM.out.call hb)
  have HV := Lib.hid (HV.out.call hb)
  have HS1 := Lib.hid hs1
  have HX := Lib.hid hx
  clear hs1 hx
  go_wp2_with fail
  refine (few_any _ _ _ HV.out).mono ?_; rintro e w2 ⟨v2, ys, rfl, hs2, hy, hb2⟩
  have hb := below_call hb hb2 hb.size
  have HM := Lib.hid (HM.out.call hb2)
  have HS1 := Lib.hid (HS1.out.call hb2)
  have HS2 := Lib.hid hs2
  have HY := Lib.hid hy
  clear hs2 hy hb2
  go_wp2_with fail
  refine (join_any _ _ _ _ HS1.out).mono ?_; rintro e w3 ⟨rfl, hb2⟩
  rw [join_names HX.out]
  have hb := below_call hb hb2 hb.size
  have HM := Lib.hid (HM.out.call hb2)
  have HS1 := Lib.hid (HS1.out.call hb2)
  have HS2 := Lib.hid (HS2.out.call hb2)
  clear hb2
  go_wp2_with fail
  refine (join_any _ _ _ _ HS2.out).mono ?_; rintro e w4 ⟨rfl, hb2⟩
  rw [join_names HY.out]
  have hb := below_call hb hb2 hb.size
  have HM := Lib.hid (HM.out.call hb2)
  have HS1 := Lib.hid (HS1.out.call hb2)
  have HS2 := Lib.hid (HS2.out.call hb2)
  clear hb2
  go_wp2_with fail
  refine (sameTexts_any _ _ _ _ _ _ _ HS1.out HS2.out).mono ?_; rintro e w5 ⟨rfl, hb2⟩
  have hb := below_call hb hb2 hb.size
  have HM := Lib.hid (HM.out.call hb2)
  clear hb2
  have hq : ((pth xs).toList == (pth ys).toList) = decide (xs = ys) := by
    by_cases h : xs = ys
    · subst h; simp
    · rw [decide_eq_false h]
      simp only [beq_eq_false_iff_ne, ne_eq]
      exact fun hh => h (pth_inj HX.out HY.out (str_inj hh))
  generalize decide (xs = ys) = bq at *
  generalize pth xs = P1 at *
  generalize pth ys = P2 at *
  go_wp2_with fail
  refine (known_true m _ HM.out).mono ?_; rintro e w6 ⟨rfl, hb2⟩
  have hb := below_call hb hb2 hb.size
  clear hb2
  go_wp2_with fail
  go_ret
  exact ⟨rfl, hb⟩
end Go.Proofs.YtkhpifjhnkknbaaDoor
