/- Names are told by their path; with one more: the law's walk. -/
import Derived.Test.YtkhpifjhnkknbaaDoorPlb
namespace Go.Proofs.YtkhpifjhnkknbaaDoor
set_option linter.unusedSimpArgs false
set_option linter.unusedVariables false
open Go.RowKit

theorem own0 (w : World) (B : Nat) (hB : B ≤ w.heap.size) : (w.alloc (.cells #[] 9)).ownsRow B 9 1 (.slice (some ⟨w.heap.size, 0, none⟩) 0 0) 0 [] :=
  ⟨rfl, .inr ⟨w.heap.size, 0, #[], rfl, hB, (hopN w (.cells #[] 9)).1, Nat.le_refl _, Nat.zero_le _, rfl, rfl⟩⟩

set_option maxHeartbeats 8000000 in
set_option maxRecDepth 100000 in
theorem pathBack_any (u : Value) (la : List ByteArray) (more : ByteArray) (m : Int) (w : World) (hm : MaxAt w m) (hu : Arg w u la) :
    Calls Tryd.prog 6 #[u, .string more] w fun e w' => e = .returned (.bool true) ∧ Below w.heap.size w w' := by
  have HM := Lib.hid hm
  have HU := Lib.hid hu
  clear hm hu
  obtain ⟨i0, hi, hz0, hz1, hz2⟩ := info_parts Tryd.infoS
  go_enter Tryd.func6, Tryd.ntmps6
  go_wp2_with fail
  refine (few_any _ _ _ HU.out).mono ?_; rintro e w1 ⟨v, xs, rfl, hs1, hx, hb⟩
  have HM := Lib.hid (HM.out.call hb)
  have hps := pth_small hx
  have hlen : xs.length ≤ 400 := Nat.le_trans (tot_len xs) hx.2
  have hsn := spl_names hx
  have HSN := Lib.hid hsn
  have HS1 := Lib.hid hs1
  have HX := Lib.hid hx
  clear hs1 hx hsn
  go_wp2_with fail
  refine (join_any _ _ _ _ HS1.out).mono ?_; rintro e w2 ⟨rfl, hb2⟩
  rw [join_names HX.out]
  have hb := below_call hb hb2 hb.size
  have HM := Lib.hid (HM.out.call hb2)
  have HS1 := Lib.hid (HS1.out.call hb2)
  clear hb2
  go_wp2_with fail
  refine (split_any _ m _ HM.out).mono ?_; rintro e w3 ⟨v2, rfl, hs2, hb2⟩
  rw [HSN.out] at hs2 ⊢
  have hb := below_call hb hb2 hb.size
  have HM := Lib.hid (HM.out.call hb2)
  have HS1 := Lib.hid (HS1.out.call hb2)
  have HS2 := Lib.hid hs2
  clear hb2 hs2
  go_wp2_with fail
  refine (sameTexts_any _ _ _ _ _ _ _ HS2.out HS1.out).mono ?_; rintro e w4 ⟨rfl, hb2⟩
  rw [decide_eq_true rfl]
  have hb := below_call hb hb2 hb.size
  have HM := Lib.hid (HM.out.call hb2)
  have HS1 := Lib.hid (HS1.out.call hb2)
  clear hb2
  go_wp2_with fail
  refine (name_any more _).mono ?_; rintro e w5 ⟨n, rfl, hn, hb2⟩
  have hn40 : n.size ≤ 40 := by have := hn.2.1; rwa [len_data] at this
  have hb := below_call hb hb2 hb.size
  have HM := Lib.hid (HM.out.call hb2)
  have hs1 := HS1.out.call hb2
  have HNM := Lib.hid hn
  have hall := more_all HX.out hn
  have HALL := Lib.hid hall
  have hck := chk_yes hn
  have HCK := Lib.hid hck
  have hsz5 := hb.size
  clear hb2 hn hall hck HS1 HS2 HSN
  have hne2 : xs ++ [n] ≠ [] := by simp
  have HNE2 := Lib.hid hne2
  clear hne2
  by_cases h0 : xs = []
  · have HW := Lib.hid (show ({ data := #[47] } : ByteArray) ++ n = joined (xs ++ [n]) by rw [h0]; exact want_one n)
    rcases hs1 with ⟨rfl, -⟩ | ⟨g, o, c, rfl, hc, -, -, hgl, hcell⟩
    · subst h0
      go_wp2_with (at_builtin; refine wpList_append_own _ rfl (.tmp 59) (.tmp 61) 25 rfl w5.heap.size 9 i0 _ 1 16 Tryd.underlying25 hi hz0 hz1 hz2 rfl (by decide) (.slice (some ⟨w5.heap.size, 0, none⟩) 0 0) (0) ([]) rfl ((own0 w5 w5.heap.size (Nat.le_refl _)).alloc _) _ 1 1 [.string n] rfl rfl ?p1 ?p2 ?p3 ?p4 ?p5 (fun v7 w7 hown7 hgrow7 _ => ?_))
      case p1 =>
        intro j u hj
        have hj3 : j < 1 := by
          have := (List.getElem?_eq_some_iff.1 hj).1
          simpa using this
        have hadd : ∀ b, (⟨b, 0, none⟩ : Addr).add j = ⟨b, j, none⟩ := fun b => by unfold Addr.add; split <;> simp_all
        rw [hadd, cell_hat (hat_alloc_at _ _ _ (by simp))]
        simpa using hj
      case p2 =>
        intro u hu
        simp at hu
        subst hu
        rfl
      case p3 => unfold maxLen; omega
      case p4 => omega
      case p5 => first | omega | (simp only [World.size_alloc]; omega) | (have h1 := hgrow6.size; simp only [World.size_alloc] at h1 ⊢; omega)
      have HS7 : Hid (Strs w7 w5.heap.size v7 ([] ++ [n])) := Lib.hid (strs_own (xs := [n]) hown7 (by simp))
      have hb7 : Below w.heap.size w w7 := ((hb.alloc hsz5 (.cells #[] 9)).alloc (by simp only [World.size_alloc]; omega) (.cells #[.string n] 9)).grown hgrow7 (by simp only [World.size_alloc]; omega) (fun q hq => by (have : w5.heap.size = q := by simpa [Value.ownBlock] using hq); omega)
      have HM : Hid (MaxAt w7 m) := Lib.hid (HM.out.call (Below.grown (((Below.refl w5.heap.size w5).alloc (Nat.le_refl _) (.cells #[] 9)).alloc (by simp only [World.size_alloc]; omega) (.cells #[.string n] 9)) hgrow7 (by simp only [World.size_alloc]; omega) (fun q hq => by (have : w5.heap.size = q := by simpa [Value.ownBlock] using hq); omega)))
      clear hown7 hgrow7
      refine (join_any _ _ _ _ HS7.out).mono ?_; rintro e w8 ⟨rfl, hb2⟩
      have hb := below_call hb7 hb2 hb7.size
      have HM := Lib.hid (HM.out.call hb2)
      clear hb2
      have hws : (({ data := #[47] } : ByteArray) ++ n).size = tot ([] ++ [n]) := by rw [HW.out, joined_size HNE2.out]
      by_cases hbig : 400 < tot ([] ++ [n])
      · rw [joinR_long HNE2.out HALL.out hbig]
        generalize ({ data := #[47] } : ByteArray) ++ n = WW at *
        generalize tot ([] ++ [n]) = TT at *
        go_wp2_with fail
        refine (known_true m _ HM.out).mono ?_; rintro e w9 ⟨rfl, hb2⟩
        have hb := below_call hb hb2 hb.size
        clear hb2
        go_wp2_with fail
        go_ret
        exact ⟨rfl, hb⟩
      · rw [joinR_yes HNE2.out HALL.out hbig, ← HW.out]
        have hsp : spl (({ data := #[47] } : ByteArray) ++ n) = ([] ++ [n], 0) := by
          rw [HW.out]
          have := spl_names (xs := [] ++ [n]) ⟨HALL.out, by omega⟩
          unfold pth at this
          rwa [if_neg HNE2.out] at this
        have HSP := Lib.hid hsp
        clear hsp
        generalize ({ data := #[47] } : ByteArray) ++ n = WW at *
        generalize tot ([] ++ [n]) = TT at *
        go_wp2_with fail
        refine (split_any _ m _ HM.out).mono ?_; rintro e w9 ⟨v9, rfl, hs9, hb2⟩
        rw [HSP.out] at hs9 ⊢
        have hb := below_call hb hb2 hb.size
        have HM := Lib.hid (HM.out.call hb2)
        clear hb2
        rcases hs9 with ⟨-, hq⟩ | ⟨g9, o9, c9, rfl, hc9, -, -, hgl9, hcell9⟩
        · exact absurd hq HNE2.out
        · have cx := hcell9 0 n (by rfl)
          have hl9 : ([] ++ [n]).length = 0 + 1 := by rfl
          rw [hl9] at hc9 ⊢
          rw [cell?_of_hat] at cx
          rw [Nat.add_zero] at cx
          have HC9 := Lib.hid hl9
          clear hcell9 hl9
          go_wp2_with fail
          refine (check_any _ _).mono ?_; rintro e w10 ⟨rfl, hb2⟩
          rw [HCK.out]
          have hb := below_call hb hb2 hb.size
          have HM := Lib.hid (HM.out.call hb2)
          clear hb2 cx
          go_wp2_with fail
          refine (known_true m _ HM.out).mono ?_; rintro e w11 ⟨rfl, hb2⟩
          have hb := below_call hb hb2 hb.size
          clear hb2
          go_wp2_with fail
          go_ret
          exact ⟨rfl, hb⟩
    · have hL0 : xs.length = 0 := by rw [h0]; rfl
      have HC := Lib.hid hcell
      have H0 := Lib.hid h0
      clear h0 hcell
      generalize hL : xs.length = L at *
      have HL := Lib.hid hL
      clear hL
      subst hL0
      go_wp2_with (first | (at_builtin; refine wpList_append_own _ rfl (.tmp 57) (.tmp 58) 25 rfl w5.heap.size 9 i0 _ 1 16 Tryd.underlying25 hi hz0 hz1 hz2 rfl (by decide) (.slice (some ⟨w5.heap.size, 0, none⟩) 0 0) 0 [] rfl (own0 w5 w5.heap.size (Nat.le_refl _)) ⟨g, o, none⟩ 0 c (xs.map Value.string) rfl (by rw [List.length_map, HL.out, Nat.mul_one]) ?b1 ?b2 ?b3 ?b4 ?b5 (fun v6 w6 hown6 hgrow6 _ => ?_)) | (at_builtin; refine wpList_append_own _ rfl (.tmp 59) (.tmp 61) 25 rfl w5.heap.size 9 i0 _ 1 16 Tryd.underlying25 hi hz0 hz1 hz2 rfl (by decide) v6 (0 + 0) ([] ++ xs.map Value.string) rfl (hown6.alloc _) _ 1 1 [.string n] rfl rfl ?bq1 ?bq2 ?bq3 ?bq4 ?bq5 (fun v7 w7 hown7 hgrow7 _ => ?_)))
      case b1 =>
        intro j u hj
        have hadd : (⟨g, o, none⟩ : Addr).add j = ⟨g, o + j, none⟩ := by unfold Addr.add; split <;> simp_all
        rw [List.getElem?_map] at hj
        cases hx : xs[j]? with
        | none => rw [hx] at hj; cases hj
        | some x =>
          rw [hx] at hj
          obtain rfl := Option.some.inj hj
          rw [hadd, ((Below.refl w5.heap.size w5).alloc (Nat.le_refl _) (.cells #[] 9)).cell (p := ⟨g, o + j, none⟩) hgl]
          exact HC.out j x hx
      case b2 =>
        intro u hu
        obtain ⟨x, -, rfl⟩ := List.mem_map.1 hu
        rfl
      case b3 => unfold maxLen; omega
      case b4 => omega
      case b5 => simp only [World.size_alloc]; omega
      case bq3 => unfold maxLen; omega
      case bq5 => first | omega | (simp only [World.size_alloc]; omega) | (have h1 := hgrow6.size; simp only [World.size_alloc] at h1 ⊢; omega)
      have HS7 : Hid (Strs w7 w5.heap.size v7 (xs ++ [n])) := Lib.hid (strs_own (xs := xs ++ [n]) (by rw [List.map_append, List.length_append, HL.out]; simpa using hown7) (by rw [List.length_append, HL.out]; first | (simp; done) | (simp; omega)))
      have hb7 : Below w.heap.size w w7 := ((((hb).alloc (by omega) (.cells #[] 9)).grown hgrow6 (by simp only [World.size_alloc]; omega) (fun q hq => by (have : w5.heap.size = q := by simpa [Value.ownBlock] using hq); omega)).alloc (by have h1 := hgrow6.size; simp only [World.size_alloc] at h1 ⊢; omega) (.cells #[.string n] 9)).grown hgrow7 (by have h1 := hgrow6.size; simp only [World.size_alloc] at h1 ⊢; omega) (fun q hq => by (have h1 : ¬ q < w5.heap.size := fun h => ownsRow_ne hown6 h hq); omega)
      have HM : Hid (MaxAt w7 m) := Lib.hid (HM.out.call (((((Below.refl w5.heap.size w5).alloc (by omega) (.cells #[] 9)).grown hgrow6 (by simp only [World.size_alloc]; omega) (fun q hq => by (have : w5.heap.size = q := by simpa [Value.ownBlock] using hq); omega)).alloc (by have h1 := hgrow6.size; simp only [World.size_alloc] at h1 ⊢; omega) (.cells #[.string n] 9)).grown hgrow7 (by have h1 := hgrow6.size; simp only [World.size_alloc] at h1 ⊢; omega) (fun q hq => by (have h1 : ¬ q < w5.heap.size := fun h => ownsRow_ne hown6 h hq); omega)))
      clear hown7 hgrow7
      refine (join_any _ _ _ _ HS7.out).mono ?_; rintro e w8 ⟨rfl, hb2⟩
      have hb := below_call hb7 hb2 hb7.size
      have HM := Lib.hid (HM.out.call hb2)
      clear hb2
      have hws : (({ data := #[47] } : ByteArray) ++ n).size = tot (xs ++ [n]) := by rw [HW.out, joined_size HNE2.out]
      by_cases hbig : 400 < tot (xs ++ [n])
      · rw [joinR_long HNE2.out HALL.out hbig]
        generalize ({ data := #[47] } : ByteArray) ++ n = WW at *
        generalize tot (xs ++ [n]) = TT at *
        go_wp2_with fail
        refine (known_true m _ HM.out).mono ?_; rintro e w9 ⟨rfl, hb2⟩
        have hb := below_call hb hb2 hb.size
        clear hb2
        go_wp2_with fail
        go_ret
        exact ⟨rfl, hb⟩
      · rw [joinR_yes HNE2.out HALL.out hbig, ← HW.out]
        have hsp : spl (({ data := #[47] } : ByteArray) ++ n) = (xs ++ [n], 0) := by
          rw [HW.out]
          have := spl_names (xs := xs ++ [n]) ⟨HALL.out, by omega⟩
          unfold pth at this
          rwa [if_neg HNE2.out] at this
        have HSP := Lib.hid hsp
        clear hsp
        generalize ({ data := #[47] } : ByteArray) ++ n = WW at *
        generalize tot (xs ++ [n]) = TT at *
        go_wp2_with fail
        refine (split_any _ m _ HM.out).mono ?_; rintro e w9 ⟨v9, rfl, hs9, hb2⟩
        rw [HSP.out] at hs9 ⊢
        have hb := below_call hb hb2 hb.size
        have HM := Lib.hid (HM.out.call hb2)
        clear hb2
        rcases hs9 with ⟨-, hq⟩ | ⟨g9, o9, c9, rfl, hc9, -, -, hgl9, hcell9⟩
        · exact absurd hq HNE2.out
        · have cx := hcell9 0 n (by rw [List.getElem?_append_right (by rw [HL.out]; exact Nat.le_refl _), HL.out, Nat.sub_self]; rfl)
          have hl9 : (xs ++ [n]).length = 0 + 1 := by rw [List.length_append, HL.out]; rfl
          rw [hl9] at hc9 ⊢
          rw [cell?_of_hat] at cx
          rw [Nat.add_zero] at cx
          have HC9 := Lib.hid hl9
          clear hcell9 hl9
          go_wp2_with fail
          refine (check_any _ _).mono ?_; rintro e w10 ⟨rfl, hb2⟩
          rw [HCK.out]
          have hb := below_call hb hb2 hb.size
          have HM := Lib.hid (HM.out.call hb2)
          clear hb2 cx
          go_wp2_with fail
          refine (known_true m _ HM.out).mono ?_; rintro e w11 ⟨rfl, hb2⟩
          have hb := below_call hb hb2 hb.size
          clear hb2
          go_wp2_with fail
          go_ret
          exact ⟨rfl, hb⟩
  · have HW := Lib.hid (want_more h0 n)
    rcases hs1 with ⟨rfl, rfl⟩ | ⟨g, o, c, rfl, hc, -, -, hgl, hcell⟩
    · exact absurd rfl h0
    · have hL0 : 1 ≤ xs.length := List.length_pos_iff.2 h0
      have HC := Lib.hid hcell
      have H0 := Lib.hid h0
      clear h0 hcell
      generalize hL : xs.length = L at *
      have HL := Lib.hid hL
      clear hL
      have e0 : ((L : Int) == 0) = false := by simp; omega
      go_wp2_with (first | (at_builtin; refine wpList_append_own _ rfl (.tmp 57) (.tmp 58) 25 rfl w5.heap.size 9 i0 _ 1 16 Tryd.underlying25 hi hz0 hz1 hz2 rfl (by decide) (.slice (some ⟨w5.heap.size, 0, none⟩) 0 0) 0 [] rfl (own0 w5 w5.heap.size (Nat.le_refl _)) ⟨g, o, none⟩ L c (xs.map Value.string) rfl (by rw [List.length_map, HL.out, Nat.mul_one]) ?c1 ?c2 ?c3 ?c4 ?c5 (fun v6 w6 hown6 hgrow6 _ => ?_)) | (at_builtin; refine wpList_append_own _ rfl (.tmp 59) (.tmp 61) 25 rfl w5.heap.size 9 i0 _ 1 16 Tryd.underlying25 hi hz0 hz1 hz2 rfl (by decide) v6 (0 + L) ([] ++ xs.map Value.string) rfl (hown6.alloc _) _ 1 1 [.string n] rfl rfl ?cq1 ?cq2 ?cq3 ?cq4 ?cq5 (fun v7 w7 hown7 hgrow7 _ => ?_)))
      case c1 =>
        intro j u hj
        have hadd : (⟨g, o, none⟩ : Addr).add j = ⟨g, o + j, none⟩ := by unfold Addr.add; split <;> simp_all
        rw [List.getElem?_map] at hj
        cases hx : xs[j]? with
        | none => rw [hx] at hj; cases hj
        | some x =>
          rw [hx] at hj
          obtain rfl := Option.some.inj hj
          rw [hadd, ((Below.refl w5.heap.size w5).alloc (Nat.le_refl _) (.cells #[] 9)).cell (p := ⟨g, o + j, none⟩) hgl]
          exact HC.out j x hx
      case c2 =>
        intro u hu
        obtain ⟨x, -, rfl⟩ := List.mem_map.1 hu
        rfl
      case c3 => unfold maxLen; omega
      case c4 => omega
      case c5 => simp only [World.size_alloc]; omega
      case cq1 =>
        intro j u hj
        have hj3 : j < 1 := by
          have := (List.getElem?_eq_some_iff.1 hj).1
          simpa using this
        have hadd : ∀ b, (⟨b, 0, none⟩ : Addr).add j = ⟨b, j, none⟩ := fun b => by unfold Addr.add; split <;> simp_all
        rw [hadd, cell_hat (hat_alloc_at _ _ _ (by simp))]
        simpa using hj
      case cq2 =>
        intro u hu
        simp at hu
        subst hu
        rfl
      case cq3 => unfold maxLen; omega
      case cq4 => omega
      case cq5 => first | omega | (simp only [World.size_alloc]; omega) | (have h1 := hgrow6.size; simp only [World.size_alloc] at h1 ⊢; omega)
      have HS7 : Hid (Strs w7 w5.heap.size v7 (xs ++ [n])) := Lib.hid (strs_own (xs := xs ++ [n]) (by rw [List.map_append, List.length_append, HL.out]; simpa using hown7) (by rw [List.length_append, HL.out]; first | (simp; done) | (simp; omega)))
      have hb7 : Below w.heap.size w w7 := ((((hb).alloc (by omega) (.cells #[] 9)).grown hgrow6 (by simp only [World.size_alloc]; omega) (fun q hq => by (have : w5.heap.size = q := by simpa [Value.ownBlock] using hq); omega)).alloc (by have h1 := hgrow6.size; simp only [World.size_alloc] at h1 ⊢; omega) (.cells #[.string n] 9)).grown hgrow7 (by have h1 := hgrow6.size; simp only [World.size_alloc] at h1 ⊢; omega) (fun q hq => by (have h1 : ¬ q < w5.heap.size := fun h => ownsRow_ne hown6 h hq); omega)
      have HM : Hid (MaxAt w7 m) := Lib.hid (HM.out.call (((((Below.refl w5.heap.size w5).alloc (by omega) (.cells #[] 9)).grown hgrow6 (by simp only [World.size_alloc]; omega) (fun q hq => by (have : w5.heap.size = q := by simpa [Value.ownBlock] using hq); omega)).alloc (by have h1 := hgrow6.size; simp only [World.size_alloc] at h1 ⊢; omega) (.cells #[.string n] 9)).grown hgrow7 (by have h1 := hgrow6.size; simp only [World.size_alloc] at h1 ⊢; omega) (fun q hq => by (have h1 : ¬ q < w5.heap.size := fun h => ownsRow_ne hown6 h hq); omega)))
      clear hown7 hgrow7
      refine (join_any _ _ _ _ HS7.out).mono ?_; rintro e w8 ⟨rfl, hb2⟩
      have hb := below_call hb7 hb2 hb7.size
      have HM := Lib.hid (HM.out.call hb2)
      clear hb2
      have hws : ((pth xs ++ ({ data := #[47] } : ByteArray)) ++ n).size = tot (xs ++ [n]) := by rw [HW.out, joined_size HNE2.out]
      by_cases hbig : 400 < tot (xs ++ [n])
      · rw [joinR_long HNE2.out HALL.out hbig]
        generalize (pth xs ++ ({ data := #[47] } : ByteArray)) ++ n = WW at *
        generalize tot (xs ++ [n]) = TT at *
        go_wp2_with fail
        refine (known_true m _ HM.out).mono ?_; rintro e w9 ⟨rfl, hb2⟩
        have hb := below_call hb hb2 hb.size
        clear hb2
        go_wp2_with fail
        go_ret
        exact ⟨rfl, hb⟩
      · rw [joinR_yes HNE2.out HALL.out hbig, ← HW.out]
        have hsp : spl ((pth xs ++ ({ data := #[47] } : ByteArray)) ++ n) = (xs ++ [n], 0) := by
          rw [HW.out]
          have := spl_names (xs := xs ++ [n]) ⟨HALL.out, by omega⟩
          unfold pth at this
          rwa [if_neg HNE2.out] at this
        have HSP := Lib.hid hsp
        clear hsp
        generalize (pth xs ++ ({ data := #[47] } : ByteArray)) ++ n = WW at *
        generalize tot (xs ++ [n]) = TT at *
        go_wp2_with fail
        refine (split_any _ m _ HM.out).mono ?_; rintro e w9 ⟨v9, rfl, hs9, hb2⟩
        rw [HSP.out] at hs9 ⊢
        have hb := below_call hb hb2 hb.size
        have HM := Lib.hid (HM.out.call hb2)
        clear hb2
        rcases hs9 with ⟨-, hq⟩ | ⟨g9, o9, c9, rfl, hc9, -, -, hgl9, hcell9⟩
        · exact absurd hq HNE2.out
        · have cx := hcell9 L n (by rw [List.getElem?_append_right (by rw [HL.out]; exact Nat.le_refl _), HL.out, Nat.sub_self]; rfl)
          have hl9 : (xs ++ [n]).length = L + 1 := by rw [List.length_append, HL.out]; rfl
          rw [hl9] at hc9 ⊢
          rw [cell?_of_hat] at cx
          have HC9 := Lib.hid hl9
          clear hcell9 hl9
          go_wp2_with fail
          refine (check_any _ _).mono ?_; rintro e w10 ⟨rfl, hb2⟩
          rw [HCK.out]
          have hb := below_call hb hb2 hb.size
          have HM := Lib.hid (HM.out.call hb2)
          clear hb2 cx
          go_wp2_with fail
          refine (known_true m _ HM.out).mono ?_; rintro e w11 ⟨rfl, hb2⟩
          have hb := below_call hb hb2 hb.size
          clear hb2
          go_wp2_with fail
          go_ret
          exact ⟨rfl, hb⟩
end Go.Proofs.YtkhpifjhnkknbaaDoor
