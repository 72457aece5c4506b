/- Contracts and laws that the claim leans on, laid together in the order in which they build. -/
import Derived.Laws.MakeOwn
import Derived.Test.YthioepdgnbdohaaGreatM04
import Derived.Test.YthioepdgnbdohaaGreatM05
import Derived.Test.YthioepdgnbdohaaGreatM09

/- Is an image well-formed? The pointers of an inode. -/
namespace Go.Proofs.YthioepdgnbdohaaGreat
set_option linter.unusedSimpArgs false
set_option linter.unusedVariables false
open Go.RowKit

/-- a pointer to a table -/
def oneW (X Y n idx p : Int) (f : (Int → Bool) → Option (Int → Bool)) (s : Int → Bool) : Option (Int → Bool) := if p = 0 then some s else if aimW X Y idx n p s = true then f (addS s p) else none
/-- the tables below the double one -/
def dblRowW (X Y : Int) (S : Nat → List Int) (n : Int) : Nat → List Int → (Int → Bool) → Option (Int → Bool)
  | _, [], s => some s
  | k, p :: r, s => match oneW X Y n (44 + 32 * k) p (tabW X Y S n (44 + 32 * k) p.toNat) s with | none => none | some s' => dblRowW X Y S n (k + 1) r s'
theorem dblRowW_cons (X Y : Int) (S : Nat → List Int) (n : Int) (k : Nat) (p : Int) (r : List Int) (s : Int → Bool) : dblRowW X Y S n k (p :: r) s = match oneW X Y n (44 + 32 * k) p (tabW X Y S n (44 + 32 * k) p.toNat) s with | none => none | some s' => dblRowW X Y S n (k + 1) r s' := rfl
def dblW (X Y : Int) (S : Nat → List Int) (n : Int) (at' : Nat) (s : Int → Bool) : Option (Int → Bool) :=
  match dblRowW X Y S n 0 (rdPtr (S at')) s with | none => none | some s' => if someL (rdPtr (S at')) = true then some s' else none
/-- the pointers of an inode -/
def dirL (raw : List Int) : List Int := (raw.drop 4).take 12
def ptrsW (X Y : Int) (S : Nat → List Int) (n : Int) (raw : List Int) (s : Int → Bool) : Option (Int → Bool) :=
  match rowW X Y n 0 0 (dirL raw) s with
  | none => none
  | some s1 => match oneW X Y n 12 (nth raw 16) (tabW X Y S n 12 (nth raw 16).toNat) s1 with
    | none => none
    | some s2 => oneW X Y n 44 (nth raw 17) (dblW X Y S n (nth raw 17).toNat) s2
set_option maxHeartbeats 1000000 in
set_option maxRecDepth 100000 in
theorem count_w (raw : List Int) (hr : raw.length = 18) (h0 : 0 ≤ nth raw 2) (h1 : nth raw 2 ≤ 136704) (w : World) :
    Calls Tryz.prog 64 #[.agg (IV .i64 raw)] w fun e w' => e = .returned (.int .i64 (cntX (nth raw 2))) ∧ Below w.heap.size w w' := by
  have hc : (IV .i64 raw)[2]? = some (.int .i64 (nth raw 2)) := by rw [IV_get?, nth_getElem? (by omega)]; rfl
  have HR : Hid (∀ x : Int, x = (nth raw 2 + 127) / 128 → x = cntX (nth raw 2)) := Lib.hid (fun x h => h)
  go_enter Tryz.func64, Tryz.ntmps64
  go_wp2_with fail
  go_ret
  exact ⟨ret_int (HR.out _ (by omega)), (Below.refl _ _).alloc (Nat.le_refl _) _⟩
set_option maxHeartbeats 4000000 in
set_option maxRecDepth 100000 in
theorem pointers_w {E : SEnv} (hE : SOk E) (raw : List Int) (hr : raw.length = 18) (hz0 : 0 ≤ nth raw 2) (hz1 : nth raw 2 ≤ 136704) (hp : ∀ p ∈ raw.drop 4, 0 ≤ p ∧ p ≤ 4294967295) (seen : Int → Bool) (w : World) (h : SG E w seen) :
    Calls Tryz.prog 36 #[.pointer (some ⟨E.g, 0, none⟩), .agg (IV .i64 raw)] w fun e w' =>
      e = .returned (.bool (ptrsW E.X E.Y E.S (cntX (nth raw 2)) raw seen).isSome) ∧ (∀ s', ptrsW E.X E.Y E.S (cntX (nth raw 2)) raw seen = some s' → SG E w' s') ∧ Fr [E.gs] w w' := by
  have HS := Lib.hid h
  have hgs := h.b.lt
  have hnn : 0 ≤ cntX (nth raw 2) ∧ cntX (nth raw 2) ≤ 1068 := by unfold cntX; omega
  obtain ⟨hn0, hn1⟩ := hnn
  have HC := Lib.hid (fun W => count_w raw hr hz0 hz1 W)
  have HP := Lib.hid hp
  have hld : ∀ r w' t fr, ldRow r 18 0 w' (some (.cells (IV .i64 raw) t fr)) = .ok (.agg (IV .i64 raw)) w' := fun r w' t fr => by rw [ldRow_part (by simp [hr])]; simp [← hr]
  have hgx := (hopN w (.cells (IV .i64 raw) 45)).1
  have hf1 : Fr [] w (w.alloc (.cells (IV .i64 raw) 45)) := fr_new w _ _
  have hgn : w.heap.size ≠ E.gs := by omega
  clear h hp hz0 hz1
  generalize hN : cntX (nth raw 2) = n at *
  have HPT : Hid (ptrsW E.X E.Y E.S n raw seen = match rowW E.X E.Y n 0 0 (dirL raw) seen with
    | none => none
    | some s1 => match oneW E.X E.Y n 12 (nth raw 16) (tabW E.X E.Y E.S n 12 (nth raw 16).toNat) s1 with
      | none => none
      | some s2 => oneW E.X E.Y n 44 (nth raw 17) (dblW E.X E.Y E.S n (nth raw 17).toNat) s2) := Lib.hid rfl
  generalize hPW : ptrsW E.X E.Y E.S n raw seen = PW at *
  clear hN hPW
  go_enter Tryz.func36, Tryz.ntmps36
  go_wp2_with fail
  refine (HC.out _).mono ?_; rintro e w2 ⟨rfl, hb2⟩
  have hgx2 := (hop hb2 hgx).1
  have hf2 := hf1.trans (fr_below hb2 [])
  have HSG := Lib.hid (HS.out.fr hf2 (by simp) (by simp) (by simp))
  have HF2 := Lib.hid hf2
  have hgl2 := hat_lt hgx2
  generalize w.heap.size = gx at *
  clear hb2 hf1 hf2 hgx HC
  have HDL : Hid (∀ k, k < 12 → (dirL raw)[k]? = some (nth raw (4 + k))) := Lib.hid (fun k hk => by
    unfold dirL
    rw [List.getElem?_take, if_pos hk, List.getElem?_drop, nth_getElem? (by omega)])
  have HPB : Hid (∀ j, 4 ≤ j → j < 18 → 0 ≤ nth raw j ∧ nth raw j ≤ 4294967295) := Lib.hid (fun j h1 h2 => HP.out _ (by
    refine List.mem_iff_getElem?.2 ⟨j - 4, ?_⟩
    rw [List.getElem?_drop, show 4 + (j - 4) = j by omega, nth_getElem? (by omega)]))
  have hdl : (dirL raw).length = 12 := by simp [dirL, hr]
  have HEND : Hid (∀ (b : Bool) W, Fr [E.gs] w W → b = PW.isSome → (∀ s', PW = some s' → SG E W s') → (Ending.returned (.bool b) = Ending.returned (.bool PW.isSome) ∧ (∀ s', PW = some s' → SG E W s') ∧ Fr [E.gs] w W)) := Lib.hid (fun b W h1 h2 h3 => ⟨by rw [h2], h3, h1⟩)
  go_wp2_with fail
  go_loopw [6] (fun v wr => ∃ (k : Nat) (s : Int → Bool), v = .int .i64 k ∧ k ≤ 12 ∧ Hid (SG E wr s) ∧ Hid (Fr [E.gs] w2 wr) ∧ Hid (rowW E.X E.Y n 0 0 (dirL raw) seen = rowW E.X E.Y n 0 k ((dirL raw).drop k) s)) (fun v _ => 12 - (intOf v).toNat)
  case atStart => exact ⟨0, seen, rfl, by omega, HSG, Lib.hid (Fr.refl _ _), Lib.hid rfl⟩
  case round =>
    obtain ⟨k, s, rfl, hk, HG, HF, HE⟩ := hrel
    have hgr := (HF.out.block gx hgl2 (by simpa using hgn)).trans hgx2
    have hgrl := hat_lt hgr
    by_cases hk12 : k < 12
    · have hpk := HDL.out k hk12
      have hk0 : (0 : Int) ≤ (k : Int) := Int.natCast_nonneg _
      have hk1 : (k : Int) < 12 := by omega
      have hpp := HPB.out (4 + k) (by omega) (by omega)
      have hE1 := HE.out
      rw [drop_cons hpk, rowW_cons, Int.zero_add] at hE1
      have hcell : (IV .i64 raw)[4 + k]? = some (.int .i64 (nth raw (4 + k))) := by rw [IV_get?, nth_getElem? (by omega)]; rfl
      by_cases hp0 : nth raw (4 + k) = 0
      · rw [if_pos hp0] at hE1
        have HE2 := Lib.hid hE1
        clear hE1
        go_wp2_with fail
        go_roundw
        case rel => exact ⟨k + 1, s, by go_num, by omega, HG, HF, HE2⟩
        case measure => (show 12 - (k + 1) < 12 - k); omega
      · rw [if_neg hp0] at hE1
        have HE1 := Lib.hid hE1
        have HC := Lib.hid (aim_any hE (nth raw (4 + k)) k n s wr HG.out hpp.1 hpp.2)
        clear hE1
        go_wp2_with fail
        refine HC.out.mono ?_; rintro e w3 ⟨rfl, hsg, hf3⟩
        have hgr3 := (hf3.block gx (hat_lt hgr) (by simpa using hgn)).trans hgr
        have hgl3 := hat_lt hgr3
        cases haim : aimW E.X E.Y k n (nth raw (4 + k)) s with
        | false =>
          have hE2 := HE1.out
          rw [if_neg (by rw [haim]; simp)] at hE2
          have HN : Hid (PW = none) := Lib.hid (by rw [HPT.out, hE2])
          have HFF := Lib.hid (((HF2.out.mono (ex' := [E.gs]) (by simp)).trans HF.out).trans hf3)
          clear hE2 hsg hf3 HC
          go_wp2_with fail
          go_ret
          refine HEND.out false _ HFF.out ?_ (fun s' hs' => by rw [HN.out] at hs'; cases hs')
          rw [HN.out]; rfl
        | true =>
          have hE2 := HE1.out
          rw [if_pos haim] at hE2
          have HE2 := Lib.hid hE2
          unfold aimS at hsg
          rw [if_pos haim] at hsg
          have HG3 := Lib.hid hsg
          have HF3 := Lib.hid (HF.out.trans hf3)
          clear hE2 hsg hf3 HC
          go_wp2_with fail
          go_roundw
          case rel => exact ⟨k + 1, _, by go_num, by omega, HG3, HF3, HE2⟩
          case measure => (show 12 - (k + 1) < 12 - k); omega
    · obtain rfl : k = 12 := by omega
      have hE2 := HE.out
      rw [show (dirL raw).drop 12 = [] from List.drop_of_length_le (by omega)] at hE2
      have hPT := HPT.out
      rw [hE2] at hPT
      have HPT2 : Hid (PW = match oneW E.X E.Y n 12 (nth raw 16) (tabW E.X E.Y E.S n 12 (nth raw 16).toNat) s with
        | none => none
        | some s2 => oneW E.X E.Y n 44 (nth raw 17) (dblW E.X E.Y E.S n (nth raw 17).toNat) s2) := Lib.hid hPT
      have HFA := Lib.hid ((HF2.out.mono (ex' := [E.gs]) (by simp)).trans HF.out)
      have hc16 : (IV .i64 raw)[16]? = some (.int .i64 (nth raw 16)) := by rw [IV_get?, nth_getElem? (by omega)]; rfl
      have hc17 : (IV .i64 raw)[17]? = some (.int .i64 (nth raw 17)) := by rw [IV_get?, nth_getElem? (by omega)]; rfl
      have hp16 := HPB.out 16 (by omega) (by omega)
      have hp17 := HPB.out 17 (by omega) (by omega)
      clear hE2 hPT HPT HE HDL HF2 HSG hgx2 hgl2
      go_upto_region 7 with fail
      go_cut [50] from 10 (fun b wx => ∃ c : Bool, b = .bool c ∧ Hid (Fr [E.gs] wr wx) ∧ Hid ((c = false ∧ ∃ s2, oneW E.X E.Y n 12 (nth raw 16) (tabW E.X E.Y E.S n 12 (nth raw 16).toNat) s = some s2 ∧ SG E wx s2) ∨ (c = true ∧ oneW E.X E.Y n 12 (nth raw 16) (tabW E.X E.Y E.S n 12 (nth raw 16).toNat) s = none)))
      case first =>
        by_cases h16 : nth raw 16 = 0
        · have d16 : (nth raw 16 != 0) = false := by simpa using h16
          go_wp2_with fail
          go_meet
          case rel => exact ⟨false, rfl, Lib.hid (Fr.refl _ _), Lib.hid (.inl ⟨rfl, s, by unfold oneW; rw [if_pos h16], HG.out⟩)⟩
        · have d16 : (nth raw 16 != 0) = true := by simpa using h16
          have HC := Lib.hid (aim_any hE (nth raw 16) 12 n s wr HG.out hp16.1 hp16.2)
          go_wp2_with fail
          refine HC.out.mono ?_; rintro e w3 ⟨rfl, hsg, hf3⟩
          have hgr3 := (hf3.block gx (hat_lt hgr) (by simpa using hgn)).trans hgr
          have hgl3 := hat_lt hgr3
          cases haim : aimW E.X E.Y 12 n (nth raw 16) s with
          | false =>
            have HF3 := Lib.hid hf3
            clear hsg hf3 HC
            go_wp2_with fail
            go_meet
            case rel => exact ⟨true, rfl, HF3, Lib.hid (.inr ⟨rfl, by unfold oneW; rw [if_neg h16, if_neg (by rw [haim]; simp)]⟩)⟩
          | true =>
            unfold aimS at hsg
            rw [if_pos haim] at hsg
            have HF3 := Lib.hid hf3
            have hlt : (nth raw 16).toNat < E.N ∧ ((nth raw 16).toNat : Int) = nth raw 16 := by
              have hd : isD E.X E.Y (nth raw 16) = true := by
                unfold aimW at haim
                simp only [Bool.and_eq_true] at haim
                exact haim.1.2
              unfold isD at hd
              have := of_decide_eq_true hd
              have := hE.X
              omega
            have hcall := table_w hE (nth raw 16).toNat 12 n (addS s (nth raw 16)) w3 hsg hlt.1 (by omega) (by omega)
            rw [hlt.2] at hcall
            have HC2 := Lib.hid hcall
            clear hsg hf3 HC hcall hlt
            go_wp2_with fail
            refine HC2.out.mono ?_; rintro e w4 ⟨rfl, hsg4, hf4⟩
            have HF4 := Lib.hid (HF3.out.trans hf4)
            cases hT : tabW E.X E.Y E.S n 12 (nth raw 16).toNat (addS s (nth raw 16)) with
            | none =>
              clear hsg4 hf4 HC2
              simp only [Option.isSome_none]
              go_wp2_with fail
              go_meet
              case rel => exact ⟨true, rfl, HF4, Lib.hid (.inr ⟨rfl, by unfold oneW; rw [if_neg h16, if_pos haim, hT]⟩)⟩
            | some s4 =>
              have HG4 := Lib.hid (hsg4 s4 hT)
              clear hsg4 hf4 HC2
              simp only [Option.isSome_some]
              go_wp2_with fail
              go_meet
              case rel => exact ⟨false, rfl, HF4, Lib.hid (.inl ⟨rfl, s4, by unfold oneW; rw [if_neg h16, if_pos haim, hT], HG4.out⟩)⟩
      case rest =>
        obtain ⟨c, rfl, HFc, HOR⟩ := hcut
        have HFT := Lib.hid (HFA.out.trans HFc.out)
        have hgrc := (HFc.out.block gx hgrl (by simpa using hgn)).trans hgr
        have hgcl := hat_lt hgrc
        cases c with
        | true =>
          have HN : Hid (PW = none) := Lib.hid (by
            rw [HPT2.out]
            rcases HOR.out with ⟨h, -⟩ | ⟨-, h⟩
            · cases h
            · rw [h])
          clear HOR
          go_wp2_with fail
          go_ret
          refine HEND.out false _ HFT.out ?_ (fun s' hs' => by rw [HN.out] at hs'; cases hs')
          rw [HN.out]; rfl
        | false =>
          obtain ⟨s2, HSS⟩ : ∃ s2, Hid (PW = oneW E.X E.Y n 44 (nth raw 17) (dblW E.X E.Y E.S n (nth raw 17).toNat) s2 ∧ SG E wc s2) := by
            rcases HOR.out with ⟨-, s2, h1, h2⟩ | ⟨h, -⟩
            · exact ⟨s2, Lib.hid ⟨by rw [HPT2.out, h1], h2⟩⟩
            · cases h
          clear HOR
          by_cases h17 : nth raw 17 = 0
          · have d17 : (nth raw 17 == 0) = true := by simpa using h17
            have HN : Hid (PW = some s2) := Lib.hid (by rw [HSS.out.1]; unfold oneW; rw [if_pos h17])
            go_wp2_with fail
            go_ret
            refine HEND.out true _ HFT.out ?_ (fun s' hs' => by rw [HN.out] at hs'; cases hs'; exact HSS.out.2)
            rw [HN.out]; rfl
          · have d17 : (nth raw 17 == 0) = false := by simpa using h17
            have HC := Lib.hid (aim_any hE (nth raw 17) 44 n s2 wc HSS.out.2 hp17.1 hp17.2)
            go_wp2_with fail
            refine HC.out.mono ?_; rintro e w3 ⟨rfl, hsg, hf3⟩
            have hgr3 := (hf3.block gx (hat_lt hgrc) (by simpa using hgn)).trans hgrc
            have hgl3 := hat_lt hgr3
            have HF3 := Lib.hid (HFT.out.trans hf3)
            cases haim : aimW E.X E.Y 44 n (nth raw 17) s2 with
            | false =>
              have HN : Hid (PW = none) := Lib.hid (by rw [HSS.out.1]; unfold oneW; rw [if_neg h17, if_neg (by rw [haim]; simp)])
              clear hsg hf3 HC
              go_wp2_with fail
              go_ret
              refine HEND.out false _ HF3.out ?_ (fun s' hs' => by rw [HN.out] at hs'; cases hs')
              rw [HN.out]; rfl
            | true =>
              unfold aimS at hsg
              rw [if_pos haim] at hsg
              have hlt : (nth raw 17).toNat < E.N ∧ ((nth raw 17).toNat : Int) = nth raw 17 := by
                have hd : isD E.X E.Y (nth raw 17) = true := by
                  unfold aimW at haim
                  simp only [Bool.and_eq_true] at haim
                  exact haim.1.2
                unfold isD at hd
                have := of_decide_eq_true hd
                have := hE.X
                omega
              have HPW : Hid (PW = dblW E.X E.Y E.S n (nth raw 17).toNat (addS s2 (nth raw 17))) := Lib.hid (by rw [HSS.out.1]; unfold oneW; rw [if_neg h17, if_pos haim])
              have HG3 := Lib.hid hsg
              have hs3 := hsg.s
              obtain ⟨csI, tI, frI, hcI, hlI⟩ := hsg.i.load hlt.1
              obtain ⟨lI, bI⟩ := hsg.i.len hlt.1
              have HPB2 := Lib.hid (rdPtr_small bI)
              have HRP := Lib.hid (fun W => rreadPointers_any (E.S (nth raw 17).toNat) lI bI W)
              have hps : (rdPtr (E.S (nth raw 17).toNat)).length = 32 := by simp
              obtain ⟨hlt1, hlt2⟩ := hlt
              have hat0 : (0 : Int) ≤ nth raw 17 := hp17.1
              have hat1 : nth raw 17 < (E.N : Int) := by omega
              generalize hA17 : (nth raw 17).toNat = at' at *
              have hat2 : nth raw 17 = (at' : Int) := hlt2.symm
              have hsl3 := hat_lt hs3
              have hcl3 := hat_lt hcI
              clear hsg hf3 HC bI hlt2 hA17
              go_wp2_with fail
              refine wp_region_G (by kernel_rfl) 10 (by decide) rfl (fun W => Below w3.heap.size w3 W) (fun W W' => Below W.heap.size W W') (fun i v W => match i with | 0 => v = (.pointer (some ⟨E.g, 0, none⟩)) | 1 => v = (.pointer (some ⟨E.g, 0, none⟩)) | 2 => v = (.pointer (some ⟨E.g, 2, none⟩)) | 3 => v = (.slice (some ⟨E.gi, E.oi, none⟩) E.N E.ci) | 4 => v = (.pointer (some ⟨gx, 17, none⟩)) | 5 => v = (.int .i64 (at' : Int)) | 6 => v = (.pointer (some ⟨E.gi, E.oi + at' * 128, none⟩)) | 7 => v = (.agg (IV .u8 (E.S at'))) | 8 => v = (.agg (IV .i64 (rdPtr (E.S at')))) | _ => ∃ g7, v = .pointer (some ⟨g7, 0, none⟩) ∧ w3.heap.size ≤ g7 ∧ hat W g7 = some (.cells (IV .i64 (zl 32)) 89)) ((Below.refl _ _).drew) ?_ ?_ ?_
              · intro i v wa wb hi _ _ hE5 hG
                have hi' : i = 0 ∨ i = 1 ∨ i = 2 ∨ i = 3 ∨ i = 4 ∨ i = 5 ∨ i = 6 ∨ i = 7 ∨ i = 8 ∨ i = 9 := by omega
                rcases hi' with rfl | rfl | rfl | rfl | rfl | rfl | rfl | rfl | rfl | rfl <;> try exact hG
                obtain ⟨g7, q1, q2, q3⟩ := hG
                exact ⟨g7, q1, q2, (hop hE5 q3).1⟩
              · intro i o hi ho a' w' hB hS hF
                have hi' : i = 0 ∨ i = 1 ∨ i = 2 ∨ i = 3 ∨ i = 4 ∨ i = 5 ∨ i = 6 ∨ i = 7 ∨ i = 8 ∨ i = 9 := by omega
                have hs5 := (hop hB hs3).1
                have hg5 := (hop hB hgr3).1
                have hI5 := (hop hB hcI).1
                have hat0' : (0 : Int) ≤ (at' : Int) := Int.natCast_nonneg _
                have hc17' : (IV .i64 raw)[17]? = some (.int .i64 (at' : Int)) := by rw [hc17, hat2]
                rcases hi' with rfl | rfl | rfl | rfl | rfl | rfl | rfl | rfl | rfl | rfl
                all_goals (have ho' := Option.some.inj ho; subst ho')
                · have q0 : a'.tmps[0]?.getD undef = (.pointer (some ⟨E.g, 0, none⟩)) := gtx ((hS 0 (by decide)).trans rfl)
                  refine wpOp_val rfl rfl (v := (.pointer (some ⟨E.g, 0, none⟩))) (w1 := w') ?_ ⟨_, rfl, hB, Below.refl _ _, rfl⟩
                  simp [go_sem, q0]
                · have q60 : a'.tmps[60]?.getD undef = (.pointer (some ⟨E.g, 0, none⟩)) := gtx ((hF 0 (by decide) _ 60 rfl rfl).trans rfl)
                  refine wpOp_val rfl rfl (v := (.pointer (some ⟨E.g, 0, none⟩))) (w1 := w') ?_ ⟨_, rfl, hB, Below.refl _ _, rfl⟩
                  simp [go_sem, q60]
                · have q61 : a'.tmps[61]?.getD undef = (.pointer (some ⟨E.g, 0, none⟩)) := gtx ((hF 1 (by decide) _ 61 rfl rfl).trans rfl)
                  refine wpOp_val rfl rfl (v := (.pointer (some ⟨E.g, 2, none⟩))) (w1 := w') ?_ ⟨_, rfl, hB, Below.refl _ _, rfl⟩
                  simp [go_sem, q61]
                · have q62 : a'.tmps[62]?.getD undef = (.pointer (some ⟨E.g, 2, none⟩)) := gtx ((hF 2 (by decide) _ 62 rfl rfl).trans rfl)
                  refine wpOp_val rfl rfl (v := (.slice (some ⟨E.gi, E.oi, none⟩) E.N E.ci)) (w1 := w') ?_ ⟨_, rfl, hB, Below.refl _ _, rfl⟩
                  simp [go_sem, q62, hs5]
                · have q3 : a'.tmps[3]?.getD undef = (.pointer (some ⟨gx, 0, none⟩)) := gtx ((hS 3 (by decide)).trans rfl)
                  refine wpOp_val rfl rfl (v := (.pointer (some ⟨gx, 17, none⟩))) (w1 := w') ?_ ⟨_, rfl, hB, Below.refl _ _, rfl⟩
                  simp [go_sem, q3]
                · have q64 : a'.tmps[64]?.getD undef = (.pointer (some ⟨gx, 17, none⟩)) := gtx ((hF 4 (by decide) _ 64 rfl rfl).trans rfl)
                  refine wpOp_val rfl rfl (v := (.int .i64 (at' : Int))) (w1 := w') ?_ ⟨_, rfl, hB, Below.refl _ _, rfl⟩
                  simp [go_sem, q64, hg5, hc17']
                · have q63 : a'.tmps[63]?.getD undef = (.slice (some ⟨E.gi, E.oi, none⟩) E.N E.ci) := gtx ((hF 3 (by decide) _ 63 rfl rfl).trans rfl)
                  have q65 : a'.tmps[65]?.getD undef = (.int .i64 (at' : Int)) := gtx ((hF 5 (by decide) _ 65 rfl rfl).trans rfl)
                  refine wpOp_val rfl rfl (v := (.pointer (some ⟨E.gi, E.oi + at' * 128, none⟩))) (w1 := w') ?_ ⟨_, rfl, hB, Below.refl _ _, rfl⟩
                  simp [go_sem, q63, q65, hlt1, hat0']
                · have q66 : a'.tmps[66]?.getD undef = (.pointer (some ⟨E.gi, E.oi + at' * 128, none⟩)) := gtx ((hF 6 (by decide) _ 66 rfl rfl).trans rfl)
                  refine wpOp_val rfl rfl (v := (.agg (IV .u8 (E.S at')))) (w1 := w') ?_ ⟨_, rfl, hB, Below.refl _ _, rfl⟩
                  simp [go_sem, q66, hI5, hlI]
                · have q67 : a'.tmps[67]?.getD undef = (.agg (IV .u8 (E.S at'))) := gtx ((hF 7 (by decide) _ 67 rfl rfl).trans rfl)
                  refine wpOp_call (f := 42) (args := #[.agg (IV .u8 (E.S at'))]) rfl rfl (by simp [go_sem, q67]) (HRP.out w') ?_
                  rintro e w'' ⟨rfl, hb'⟩
                  exact ⟨_, rfl, _, rfl, below_call hB hb' hB.size, hb', rfl⟩
                · refine wpOp_val rfl rfl (v := .pointer (some ⟨w'.heap.size, 0, none⟩)) (w1 := w'.alloc (.cells (IV .i64 (zl 32)) 89)) ?_ ⟨_, rfl, below_new hB hB.size _, (Below.refl _ _).alloc (Nat.le_refl _) _, _, rfl, hB.size, (hopN w' _).1⟩
                  simp [go_sem]
              · intro val w5 hB5 hF
                have y0 := hF 0 _ 60 (by decide) rfl rfl
                have y1 := hF 1 _ 61 (by decide) rfl rfl
                have y2 := hF 2 _ 62 (by decide) rfl rfl
                have y3 := hF 3 _ 63 (by decide) rfl rfl
                have y4 := hF 4 _ 64 (by decide) rfl rfl
                have y5 := hF 5 _ 65 (by decide) rfl rfl
                have y6 := hF 6 _ 66 (by decide) rfl rfl
                have y7 := hF 7 _ 67 (by decide) rfl rfl
                have y8 := hF 8 _ 68 (by decide) rfl rfl
                obtain ⟨gt, y9, hgt0, hgt5⟩ := hF 9 _ 7 (by decide) rfl rfl
                simp only [] at y0 y1 y2 y3 y4 y5 y6 y7 y8
                simp only [putAll, List.take, List.drop, List.take_succ_cons, List.drop_succ_cons, y0, y1, y2, y3, y4, y5, y6, y7, y8, y9, Act.put, List.setIfInBounds_toArray, List.set_cons_zero, List.set_cons_succ]
                clear y0 y1 y2 y3 y4 y5 y6 y7 y8 y9 hF
                have HG5 := Lib.hid (HG3.out.fr (fr_below hB5 []) (by simp) (by simp) (by simp))
                have HF5 := Lib.hid (HF3.out.trans (fr_below hB5 [E.gs]))
                have hgtl := hat_lt hgt5
                have hgsl := HG3.out.b.lt
                clear hB5 hs3 hgr3 hcI hlI lI HRP hgl3 hsl3 hcl3
                go_wp2_with fail
                have h6 : hat (w5.setRow gt (IV .i64 (rdPtr (E.S at')))) gt = some (.cells (IV .i64 (rdPtr (E.S at'))) 89) := hat_setRow_at _ _ _ _ _ _ hgt5
                have hf6 : Fr [gt] w5 (w5.setRow gt (IV .i64 (rdPtr (E.S at')))) := fr_setRow _ _ _
                have hgg : gt ≠ E.gs := by omega
                have hsg6 : SG E (w5.setRow gt (IV .i64 (rdPtr (E.S at')))) (addS s2 (nth raw 17)) := HG5.out.fr hf6 (by simp; have := HG3.out.s; have := hat_lt this; omega) (by simpa using Ne.symm hgg) (by simp; have := HG3.out.i.lt; omega)
                have HG6 := Lib.hid hsg6
                have HDW : Hid (PW = match dblRowW E.X E.Y E.S n 0 (rdPtr (E.S at')) (addS s2 (nth raw 17)) with | none => none | some s' => if someL (rdPtr (E.S at')) = true then some s' else none) := Lib.hid (HPW.out)
                have HF6 : Hid (Fr [E.gs, gt] w (w5.setRow gt (IV .i64 (rdPtr (E.S at'))))) := Lib.hid ((HF5.out.mono (ex' := [E.gs, gt]) (by simp)).trans (hf6.mono (by simp)))
                have HW0 : Hid (w.heap.size ≤ gt) := Lib.hid (by have := HF3.out.size; omega)
                clear hf6 hsg6 hgt5 hgtl
                generalize w5.setRow gt (IV .i64 (rdPtr (E.S at'))) = w6 at *
                generalize hPS : rdPtr (E.S at') = ps at *
                go_loopw [8, 9] (fun sm v wr => ∃ (k : Nat) (s : Int → Bool), v = .int .i64 k ∧ sm = .bool (someL (ps.take k)) ∧ k ≤ 32 ∧ Hid (SG E wr s) ∧ Hid (Fr [E.gs] w6 wr) ∧ Hid (dblRowW E.X E.Y E.S n 0 ps (addS s2 (nth raw 17)) = dblRowW E.X E.Y E.S n k (ps.drop k) s)) (fun _ v _ => 32 - (intOf v).toNat)
                case atStart => exact ⟨0, addS s2 (nth raw 17), rfl, rfl, by omega, HG6, Lib.hid (Fr.refl _ _), Lib.hid rfl⟩
                case round =>
                  obtain ⟨k, s3, rfl, rfl, hk, HGk, HFk, HEk⟩ := hrel
                  have hgk := (HFk.out.block gt (hat_lt h6) (by simpa using hgg)).trans h6
                  have HFALL : Hid (∀ W, Fr [E.gs] w6 W → Fr [E.gs] w W) := Lib.hid (fun W hW => ((HF6.out.trans (hW.mono (by simp))).past (ex' := [E.gs]) (by simp; exact .inr HW0.out)))
                  by_cases hk32 : k < 32
                  · obtain ⟨p, hpk⟩ := getElem_opt (l := ps) (k := k) (by omega)
                    have hnp : nth ps k = p := by unfold nth; rw [hpk]; rfl
                    subst hnp
                    have hk0 : (0 : Int) ≤ (k : Int) := Int.natCast_nonneg _
                    have hk1 : (k : Int) < 32 := by omega
                    have hpp := HPB2.out _ (List.mem_of_getElem? hpk)
                    have hE1 := HEk.out
                    rw [drop_cons hpk, dblRowW_cons] at hE1
                    have HE1 := Lib.hid hE1
                    have HSU := Lib.hid (someL_succ hpk)
                    clear hE1
                    by_cases hp0 : nth ps k = 0
                    · have HE2 : Hid (dblRowW E.X E.Y E.S n 0 ps (addS s2 (nth raw 17)) = dblRowW E.X E.Y E.S n (k + 1) (ps.drop (k + 1)) s3) := Lib.hid (by rw [HE1.out]; unfold oneW; rw [if_pos hp0])
                      have d1 : (nth ps k != 0) = false := by simpa using hp0
                      have HSM : Hid (someL (ps.take (k + 1)) = someL (ps.take k)) := Lib.hid (by rw [HSU.out, d1, Bool.or_false])
                      clear HE1 HSU
                      cases hsm : someL (ps.take k)
                      all_goals
                        go_wp2_with fail
                        go_roundw
                        case rel => exact ⟨k + 1, s3, by go_num, by rw [HSM.out, hsm], by omega, HGk, HFk, HE2⟩
                        case measure => (show 32 - (k + 1) < 32 - k); omega
                    · have d1 : (nth ps k != 0) = true := by simpa using hp0
                      have HSM : Hid (someL (ps.take (k + 1)) = true) := Lib.hid (by rw [HSU.out, d1, Bool.or_true])
                      have HC := Lib.hid (aim_any hE (nth ps k) (44 + 32 * k) n s3 wr HGk.out hpp.1 hpp.2)
                      clear HSU
                      go_wp2_with fail
                      refine HC.out.mono ?_; rintro e w7 ⟨rfl, hsg, hf7⟩
                      have hgk7 := (hf7.block gt (hat_lt hgk) (by simpa using hgg)).trans hgk
                      have hgl7 := hat_lt hgk7
                      have HF7 := Lib.hid (HFk.out.trans hf7)
                      cases haim2 : aimW E.X E.Y (44 + 32 * k) n (nth ps k) s3 with
                      | false =>
                        have HN : Hid (PW = none) := Lib.hid (by rw [HDW.out, HE1.out]; unfold oneW; rw [if_neg hp0, if_neg (by rw [haim2]; simp)])
                        have HFF := Lib.hid (HFALL.out _ HF7.out)
                        clear hsg hf7 HC
                        go_wp2_with fail
                        go_ret
                        refine HEND.out false _ HFF.out ?_ (fun s' hs' => by rw [HN.out] at hs'; cases hs')
                        rw [HN.out]; rfl
                      | true =>
                        unfold aimS at hsg
                        rw [if_pos haim2] at hsg
                        have hlt : (nth ps k).toNat < E.N ∧ ((nth ps k).toNat : Int) = nth ps k := by
                          have hd : isD E.X E.Y (nth ps k) = true := by
                            unfold aimW at haim2
                            simp only [Bool.and_eq_true] at haim2
                            exact haim2.1.2
                          unfold isD at hd
                          have := of_decide_eq_true hd
                          have := hE.X
                          omega
                        have hcall := table_w hE (nth ps k).toNat (44 + 32 * k) n (addS s3 (nth ps k)) w7 hsg hlt.1 (by omega) (by omega)
                        rw [hlt.2] at hcall
                        have HC2 := Lib.hid hcall
                        clear hsg hf7 HC hcall hlt
                        go_wp2_with fail
                        refine HC2.out.mono ?_; rintro e w8 ⟨rfl, hsg8, hf8⟩
                        have HF8 := Lib.hid (HF7.out.trans hf8)
                        have hgk8 := (hf8.block gt (hat_lt hgk7) (by simpa using hgg)).trans hgk7
                        have hgl8 := hat_lt hgk8
                        cases hT : tabW E.X E.Y E.S n (44 + 32 * k) (nth ps k).toNat (addS s3 (nth ps k)) with
                        | none =>
                          have HN : Hid (PW = none) := Lib.hid (by rw [HDW.out, HE1.out]; unfold oneW; rw [if_neg hp0, if_pos haim2, hT])
                          have HFF := Lib.hid (HFALL.out _ HF8.out)
                          clear hsg8 hf8 HC2
                          simp only [Option.isSome_none]
                          go_wp2_with fail
                          go_ret
                          refine HEND.out false _ HFF.out ?_ (fun s' hs' => by rw [HN.out] at hs'; cases hs')
                          rw [HN.out]; rfl
                        | some s4 =>
                          have HG8 := Lib.hid (hsg8 s4 hT)
                          have HE2 : Hid (dblRowW E.X E.Y E.S n 0 ps (addS s2 (nth raw 17)) = dblRowW E.X E.Y E.S n (k + 1) (ps.drop (k + 1)) s4) := Lib.hid (by rw [HE1.out]; unfold oneW; rw [if_neg hp0, if_pos haim2, hT])
                          clear hsg8 hf8 HC2
                          simp only [Option.isSome_some]
                          cases hsm : someL (ps.take k)
                          all_goals
                            go_wp2_with fail
                            go_roundw
                            case rel => exact ⟨k + 1, s4, by go_num, by rw [HSM.out], by omega, HG8, HF8, HE2⟩
                            case measure => (show 32 - (k + 1) < 32 - k); omega
                  · obtain rfl : k = 32 := by omega
                    have hE2 := HEk.out
                    rw [show ps.drop 32 = [] from List.drop_of_length_le (by omega)] at hE2
                    have hT : PW = if someL ps = true then some s3 else none := by rw [HDW.out, hE2]; rfl
                    rw [show ps.take 32 = ps from List.take_of_length_le (by omega)]
                    have HT := Lib.hid hT
                    have HFF := Lib.hid (HFALL.out _ HFk.out)
                    clear hE2 hT
                    go_wp2_with fail
                    go_ret
                    refine HEND.out (someL ps) _ HFF.out ?_ (fun s' hs' => ?_)
                    · rw [HT.out]
                      cases someL ps <;> rfl
                    · rw [HT.out] at hs'
                      split at hs'
                      · cases hs'; exact HGk.out
                      · cases hs'
end Go.Proofs.YthioepdgnbdohaaGreat

/- Is an image well-formed? The sector of a block. -/
namespace Go.Proofs.YthioepdgnbdohaaGreat
set_option linter.unusedSimpArgs false
set_option linter.unusedVariables false
open Go.RowKit

/-- what hangs at a table -/
def hangW (S : Nat → List Int) (p : Int) (i : Nat) : Int := if p = 0 then 0 else nth (rdPtr (S p.toNat)) i
/-- the sector of a block -/
def blkW (S : Nat → List Int) (raw : List Int) (k : Nat) : Int :=
  if k < 12 then nth raw (4 + k) else if k < 44 then hangW S (nth raw 16) (k - 12) else hangW S (if nth raw 17 = 0 then 0 else nth (rdPtr (S (nth raw 17).toNat)) ((k - 44) / 32)) ((k - 44) % 32)
set_option maxHeartbeats 4000000 in
set_option maxRecDepth 100000 in
theorem block1_w {E : SEnv} (raw : List Int) (hr : raw.length = 18) (k : Nat) (hk : k < 44) (h0 : 0 ≤ nth raw 16) (h1 : nth raw 16 < E.N) (seen : Int → Bool) (w : World) (h : SG E w seen) :
    Calls Tryz.prog 79 #[.pointer (some ⟨E.g, 0, none⟩), .agg (IV .i64 raw), .int .i64 k] w fun e w' =>
      e = .returned (.int .i64 (blkW E.S raw k)) ∧ Below w.heap.size w w' := by
  have hld : ∀ r w' t fr, ldRow r 18 0 w' (some (.cells (IV .i64 raw) t fr)) = .ok (.agg (IV .i64 raw)) w' := fun r w' t fr => by rw [ldRow_part (by simp [hr])]; simp [← hr]
  have hgx := (hopN w (.cells (IV .i64 raw) 45)).1
  have hB1 : Below w.heap.size w (w.alloc (.cells (IV .i64 raw) 45)) := (Below.refl _ _).alloc (Nat.le_refl _) _
  have hs := (hop hB1 h.s).1
  have hi := h.i.same ((fr_below hB1 []).block _ h.i.lt (by simp))
  have hk0 : (0 : Int) ≤ (k : Int) := Int.natCast_nonneg _
  have HB1 := Lib.hid hB1
  have HBZ := Lib.hid hB1.size
  clear hB1 h
  have hgl := hat_lt hgx
  have hsl := hat_lt hs
  by_cases hk12 : k < 12
  · have hcell : (IV .i64 raw)[4 + k]? = some (.int .i64 (nth raw (4 + k))) := by rw [IV_get?, nth_getElem? (by omega)]; rfl
    have hk1 : (k : Int) < 12 := by omega
    have HR : Hid (blkW E.S raw k = nth raw (4 + k)) := Lib.hid (if_pos hk12)
    go_enter Tryz.func79, Tryz.ntmps79
    go_wp2_with fail
    go_ret
    exact ⟨ret_int HR.out.symm, HB1.out⟩
  · have hk1 : ¬ (k : Int) < 12 := by omega
    have hk2 : ¬ (44 : Int) ≤ k := by omega
    have hc16 : (IV .i64 raw)[16]? = some (.int .i64 (nth raw 16)) := by rw [IV_get?, nth_getElem? (by omega)]; rfl
    have HR : Hid (blkW E.S raw k = hangW E.S (nth raw 16) (k - 12)) := Lib.hid (by unfold blkW; rw [if_neg hk12, if_pos hk])
    by_cases hp : nth raw 16 = 0
    · have hd : (nth raw 16 == 0) = true := by simpa using hp
      have HR2 : Hid (blkW E.S raw k = 0) := Lib.hid (by rw [HR.out]; exact if_pos hp)
      go_enter Tryz.func79, Tryz.ntmps79
      go_wp2_with fail
      go_ret
      exact ⟨ret_int HR2.out.symm, HB1.out⟩
    · have hd : (nth raw 16 == 0) = false := by simpa using hp
      obtain ⟨p, hpp⟩ := Int.eq_ofNat_of_zero_le h0
      have hpN : p < E.N := by omega
      have hpi : (p : Int) < (E.N : Int) := by omega
      have hp0 : (0 : Int) ≤ (p : Int) := Int.natCast_nonneg _
      have HR2 : Hid (blkW E.S raw k = nth (rdPtr (E.S p)) (k - 12)) := Lib.hid (by rw [HR.out]; unfold hangW; rw [if_neg hp, hpp]; rfl)
      rw [hpp] at hc16 hd h1 h0
      obtain ⟨csI, tI, frI, hcI, hlI⟩ := hi.load hpN
      obtain ⟨lI, bI⟩ := hi.len hpN
      have HRP := Lib.hid (fun W => rreadPointers_any (E.S p) lI bI W)
      have hki : ((k : Int) - 12) = ((k - 12 : Nat) : Int) := by omega
      have hcell : (IV .i64 (rdPtr (E.S p)))[k - 12]? = some (.int .i64 (nth (rdPtr (E.S p)) (k - 12))) := by rw [IV_get?, nth_getElem? (by simp; omega)]; rfl
      have hk3 : ((k - 12 : Nat) : Int) < 32 := by omega
      clear hi lI bI HR
      go_enter Tryz.func79, Tryz.ntmps79
      go_wp2_with fail
      refine (HRP.out _).mono ?_; rintro e w2 ⟨rfl, hb⟩
      have HB2 := Lib.hid (below_call HB1.out hb HBZ.out)
      clear hb
      go_wp2_with fail
      go_ret
      exact ⟨ret_int HR2.out.symm, HB2.out⟩
set_option maxHeartbeats 4000000 in
set_option maxRecDepth 100000 in
theorem block2_w {E : SEnv} (raw : List Int) (hr : raw.length = 18) (k : Nat) (hk : 44 ≤ k) (hk9 : k < 1068) (h0 : 0 ≤ nth raw 17) (h1 : nth raw 17 < E.N) (hT : nth raw 17 ≠ 0 → nth (rdPtr (E.S (nth raw 17).toNat)) ((k - 44) / 32) < E.N) (seen : Int → Bool) (w : World) (h : SG E w seen) :
    Calls Tryz.prog 79 #[.pointer (some ⟨E.g, 0, none⟩), .agg (IV .i64 raw), .int .i64 k] w fun e w' =>
      e = .returned (.int .i64 (blkW E.S raw k)) ∧ Below w.heap.size w w' := by
  have hld : ∀ r w' t fr, ldRow r 18 0 w' (some (.cells (IV .i64 raw) t fr)) = .ok (.agg (IV .i64 raw)) w' := fun r w' t fr => by rw [ldRow_part (by simp [hr])]; simp [← hr]
  have hgx := (hopN w (.cells (IV .i64 raw) 45)).1
  have hB1 : Below w.heap.size w (w.alloc (.cells (IV .i64 raw) 45)) := (Below.refl _ _).alloc (Nat.le_refl _) _
  have hs := (hop hB1 h.s).1
  have hi := h.i.same ((fr_below hB1 []).block _ h.i.lt (by simp))
  have hk0 : (0 : Int) ≤ (k : Int) := Int.natCast_nonneg _
  have HB1 := Lib.hid hB1
  have HBZ := Lib.hid hB1.size
  clear hB1 h
  have hgl := hat_lt hgx
  have hsl := hat_lt hs
  have hk1 : ¬ (k : Int) < 12 := by omega
  have hk2 : (44 : Int) ≤ k := by omega
  have hc16 : (IV .i64 raw)[16]? = some (.int .i64 (nth raw 16)) := by rw [IV_get?, nth_getElem? (by omega)]; rfl
  have hc17 : (IV .i64 raw)[17]? = some (.int .i64 (nth raw 17)) := by rw [IV_get?, nth_getElem? (by omega)]; rfl
  have HR : Hid (blkW E.S raw k = hangW E.S (if nth raw 17 = 0 then 0 else nth (rdPtr (E.S (nth raw 17).toNat)) ((k - 44) / 32)) ((k - 44) % 32)) := Lib.hid (by unfold blkW; rw [if_neg (by omega), if_neg (by omega)])
  by_cases hd0 : nth raw 17 = 0
  · have hd : (nth raw 17 != 0) = false := by simpa using hd0
    have HR2 : Hid (blkW E.S raw k = 0) := Lib.hid (by rw [HR.out, if_pos hd0]; exact if_pos rfl)
    go_enter Tryz.func79, Tryz.ntmps79
    go_wp2_with fail
    go_ret
    exact ⟨ret_int HR2.out.symm, HB1.out⟩
  · have hd : (nth raw 17 != 0) = true := by simpa using hd0
    obtain ⟨at', hpp⟩ := Int.eq_ofNat_of_zero_le h0
    have hT' := hT hd0
    have hlt1 : at' < E.N := by omega
    rw [hpp] at hT'
    have hc17' : (IV .i64 raw)[17]? = some (.int .i64 (at' : Int)) := by rw [hc17, hpp]
    obtain ⟨csI, tI, frI, hcI, hlI⟩ := hi.load hlt1
    obtain ⟨lI, bI⟩ := hi.len hlt1
    have HPB := Lib.hid (rdPtr_small bI)
    have HRP := Lib.hid (fun W => rreadPointers_any (E.S at') lI bI W)
    have hps : (rdPtr (E.S at')).length = 32 := by simp
    simp only [Int.toNat_natCast] at hT'
    have HR3 : Hid (blkW E.S raw k = hangW E.S (nth (rdPtr (E.S at')) ((k - 44) / 32)) ((k - 44) % 32)) := Lib.hid (by rw [HR.out, if_neg hd0, hpp]; rfl)
    have hkq : (k - 44) / 32 < 32 := by omega
    have hq0 := (HPB.out _ (List.mem_iff_getElem?.2 ⟨_, nth_getElem? (l := rdPtr (E.S at')) (i := (k - 44) / 32) (by omega)⟩)).1
    have hcq : (IV .i64 (rdPtr (E.S at')))[(k - 44) / 32]? = some (.int .i64 (nth (rdPtr (E.S at')) ((k - 44) / 32))) := by rw [IV_get?, nth_getElem? (by omega)]; rfl
    generalize hqd : nth (rdPtr (E.S at')) ((k - 44) / 32) = q at *
    obtain ⟨d, hdk⟩ : ∃ d, (k - 44) / 32 = d := ⟨_, rfl⟩
    rw [hdk] at hcq hkq hqd
    have hkq' : (d : Int) < 32 := by omega
    have hkq0 : (0 : Int) ≤ (d : Int) := Int.natCast_nonneg _
    have hat1 : (at' : Int) < (E.N : Int) := by omega
    have hat0 : (0 : Int) ≤ (at' : Int) := Int.natCast_nonneg _
    have HS0 := Lib.hid hs
    have HI0 := Lib.hid hi
    have HGX := Lib.hid hgx
    clear hT hd0 h0 h1 HR hi
    go_enter Tryz.func79, Tryz.ntmps79
    go_wp2_with fail
    generalize w.alloc (.cells (IV .i64 raw) 45) = w1 at *
    refine wp_region_G (by kernel_rfl) 14 (by decide) rfl (fun W => Below w1.heap.size w1 W) (fun W W' => Below W.heap.size W W') (fun i v W => match i with | 0 => v = (.pointer (some ⟨E.g, 0, none⟩)) | 1 => v = (.pointer (some ⟨E.g, 0, none⟩)) | 2 => v = (.pointer (some ⟨E.g, 2, none⟩)) | 3 => v = (.slice (some ⟨E.gi, E.oi, none⟩) E.N E.ci) | 4 => v = (.pointer (some ⟨w.heap.size, 17, none⟩)) | 5 => v = (.int .i64 (at' : Int)) | 6 => v = (.pointer (some ⟨E.gi, E.oi + at' * 128, none⟩)) | 7 => v = (.agg (IV .u8 (E.S at'))) | 8 => v = (.agg (IV .i64 (rdPtr (E.S at')))) | 9 => v = (.int .i64 (k : Int)) | 10 => v = (.int .i64 ((k : Int) - 44)) | 11 => v = (.int .i64 (d : Int)) | 12 => v = (.int .i64 q) | _ => v = (.int .i64 q)) ((Below.refl _ _).drew) ?_ ?_ ?_
    · intro i v wa wb hi _ _ hE5 hG
      have hi' : i = 0 ∨ i = 1 ∨ i = 2 ∨ i = 3 ∨ i = 4 ∨ i = 5 ∨ i = 6 ∨ i = 7 ∨ i = 8 ∨ i = 9 ∨ i = 10 ∨ i = 11 ∨ i = 12 ∨ i = 13 := by omega
      rcases hi' with rfl | rfl | rfl | rfl | rfl | rfl | rfl | rfl | rfl | rfl | rfl | rfl | rfl | rfl <;> exact hG
    · intro i o hi ho a' w' hB hS hF
      have hi' : i = 0 ∨ i = 1 ∨ i = 2 ∨ i = 3 ∨ i = 4 ∨ i = 5 ∨ i = 6 ∨ i = 7 ∨ i = 8 ∨ i = 9 ∨ i = 10 ∨ i = 11 ∨ i = 12 ∨ i = 13 := by omega
      have hs5 := (hop hB hs).1
      have hg5 := (hop hB hgx).1
      have hI5 := (hop hB hcI).1
      rcases hi' with rfl | rfl | rfl | rfl | rfl | rfl | rfl | rfl | rfl | rfl | rfl | rfl | rfl | rfl
      all_goals (have ho' := Option.some.inj ho; subst ho')
      · have q0 : a'.tmps[0]?.getD undef = (.pointer (some ⟨E.g, 0, none⟩)) := gtx ((hS 0 (by decide)).trans rfl)
        refine wpOp_val rfl rfl (v := (.pointer (some ⟨E.g, 0, none⟩))) (w1 := w') ?_ ⟨_, rfl, hB, Below.refl _ _, rfl⟩
        simp [go_sem, q0]
      · have q27 : a'.tmps[27]?.getD undef = (.pointer (some ⟨E.g, 0, none⟩)) := gtx ((hF 0 (by decide) _ 27 rfl rfl).trans rfl)
        refine wpOp_val rfl rfl (v := (.pointer (some ⟨E.g, 0, none⟩))) (w1 := w') ?_ ⟨_, rfl, hB, Below.refl _ _, rfl⟩
        simp [go_sem, q27]
      · have q28 : a'.tmps[28]?.getD undef = (.pointer (some ⟨E.g, 0, none⟩)) := gtx ((hF 1 (by decide) _ 28 rfl rfl).trans rfl)
        refine wpOp_val rfl rfl (v := (.pointer (some ⟨E.g, 2, none⟩))) (w1 := w') ?_ ⟨_, rfl, hB, Below.refl _ _, rfl⟩
        simp [go_sem, q28]
      · have q29 : a'.tmps[29]?.getD undef = (.pointer (some ⟨E.g, 2, none⟩)) := gtx ((hF 2 (by decide) _ 29 rfl rfl).trans rfl)
        refine wpOp_val rfl rfl (v := (.slice (some ⟨E.gi, E.oi, none⟩) E.N E.ci)) (w1 := w') ?_ ⟨_, rfl, hB, Below.refl _ _, rfl⟩
        simp [go_sem, q29, hs5]
      · have q4 : a'.tmps[4]?.getD undef = (.pointer (some ⟨w.heap.size, 0, none⟩)) := gtx ((hS 4 (by decide)).trans rfl)
        refine wpOp_val rfl rfl (v := (.pointer (some ⟨w.heap.size, 17, none⟩))) (w1 := w') ?_ ⟨_, rfl, hB, Below.refl _ _, rfl⟩
        simp [go_sem, q4]
      · have q31 : a'.tmps[31]?.getD undef = (.pointer (some ⟨w.heap.size, 17, none⟩)) := gtx ((hF 4 (by decide) _ 31 rfl rfl).trans rfl)
        refine wpOp_val rfl rfl (v := (.int .i64 (at' : Int))) (w1 := w') ?_ ⟨_, rfl, hB, Below.refl _ _, rfl⟩
        simp [go_sem, q31, hg5, hc17']
      · have q30 : a'.tmps[30]?.getD undef = (.slice (some ⟨E.gi, E.oi, none⟩) E.N E.ci) := gtx ((hF 3 (by decide) _ 30 rfl rfl).trans rfl)
        have q32 : a'.tmps[32]?.getD undef = (.int .i64 (at' : Int)) := gtx ((hF 5 (by decide) _ 32 rfl rfl).trans rfl)
        refine wpOp_val rfl rfl (v := (.pointer (some ⟨E.gi, E.oi + at' * 128, none⟩))) (w1 := w') ?_ ⟨_, rfl, hB, Below.refl _ _, rfl⟩
        simp [go_sem, q30, q32, hlt1, hat0]
      · have q33 : a'.tmps[33]?.getD undef = (.pointer (some ⟨E.gi, E.oi + at' * 128, none⟩)) := gtx ((hF 6 (by decide) _ 33 rfl rfl).trans rfl)
        refine wpOp_val rfl rfl (v := (.agg (IV .u8 (E.S at')))) (w1 := w') ?_ ⟨_, rfl, hB, Below.refl _ _, rfl⟩
        simp [go_sem, q33, hI5, hlI]
      · have q34 : a'.tmps[34]?.getD undef = (.agg (IV .u8 (E.S at'))) := gtx ((hF 7 (by decide) _ 34 rfl rfl).trans rfl)
        refine wpOp_call (f := 42) (args := #[.agg (IV .u8 (E.S at'))]) rfl rfl (by simp [go_sem, q34]) (HRP.out w') ?_
        rintro e w'' ⟨rfl, hb'⟩
        exact ⟨_, rfl, _, rfl, below_call hB hb' hB.size, hb', rfl⟩
      · have q2 : a'.tmps[2]?.getD undef = (.int .i64 (k : Int)) := gtx ((hS 2 (by decide)).trans rfl)
        refine wpOp_val rfl rfl (v := (.int .i64 (k : Int))) (w1 := w') ?_ ⟨_, rfl, hB, Below.refl _ _, rfl⟩
        simp [go_sem, q2]
      · have q36 : a'.tmps[36]?.getD undef = (.int .i64 (k : Int)) := gtx ((hF 9 (by decide) _ 36 rfl rfl).trans rfl)
        refine wpOp_val rfl rfl (v := (.int .i64 ((k : Int) - 44))) (w1 := w') ?_ ⟨_, rfl, hB, Below.refl _ _, rfl⟩
        simp [go_sem, q36]; rw [IntKind.wrap_i64]; omega
      · have q37 : a'.tmps[37]?.getD undef = (.int .i64 ((k : Int) - 44)) := gtx ((hF 10 (by decide) _ 37 rfl rfl).trans rfl)
        refine wpOp_val rfl rfl (v := (.int .i64 (d : Int))) (w1 := w') ?_ ⟨_, rfl, hB, Below.refl _ _, rfl⟩
        simp [go_sem, q37]; rw [Int.tdiv_eq_ediv_of_nonneg (by omega), IntKind.wrap_i64]; omega
      · have q35 : a'.tmps[35]?.getD undef = (.agg (IV .i64 (rdPtr (E.S at')))) := gtx ((hF 8 (by decide) _ 35 rfl rfl).trans rfl)
        have q38 : a'.tmps[38]?.getD undef = (.int .i64 (d : Int)) := gtx ((hF 11 (by decide) _ 38 rfl rfl).trans rfl)
        refine wpOp_val rfl rfl (v := (.int .i64 q)) (w1 := w') ?_ ⟨_, rfl, hB, Below.refl _ _, rfl⟩
        simp [go_sem, q35, q38, hkq, hkq', hkq0, hqd, hps]
      · have q39 : a'.tmps[39]?.getD undef = (.int .i64 q) := gtx ((hF 12 (by decide) _ 39 rfl rfl).trans rfl)
        refine wpOp_val rfl rfl (v := (.int .i64 q)) (w1 := w') ?_ ⟨_, rfl, hB, Below.refl _ _, rfl⟩
        simp [go_sem, q39]
    · intro val w5 hB5 hF
      have y0 := hF 0 _ 27 (by decide) rfl rfl
      have y1 := hF 1 _ 28 (by decide) rfl rfl
      have y2 := hF 2 _ 29 (by decide) rfl rfl
      have y3 := hF 3 _ 30 (by decide) rfl rfl
      have y4 := hF 4 _ 31 (by decide) rfl rfl
      have y5 := hF 5 _ 32 (by decide) rfl rfl
      have y6 := hF 6 _ 33 (by decide) rfl rfl
      have y7 := hF 7 _ 34 (by decide) rfl rfl
      have y8 := hF 8 _ 35 (by decide) rfl rfl
      have y9 := hF 9 _ 36 (by decide) rfl rfl
      have y10 := hF 10 _ 37 (by decide) rfl rfl
      have y11 := hF 11 _ 38 (by decide) rfl rfl
      have y12 := hF 12 _ 39 (by decide) rfl rfl
      have y13 := hF 13 _ 7 (by decide) rfl rfl
      simp only [] at y0 y1 y2 y3 y4 y5 y6 y7 y8 y9 y10 y11 y12 y13
      simp only [putAll, List.take, List.drop, List.take_succ_cons, List.drop_succ_cons, y0, y1, y2, y3, y4, y5, y6, y7, y8, y9, y10, y11, y12, y13, Act.put, List.setIfInBounds_toArray, List.set_cons_zero, List.set_cons_succ]
      clear y0 y1 y2 y3 y4 y5 y6 y7 y8 y9 y10 y11 y12 y13 hF
      have HB5 := Lib.hid (below_call HB1.out hB5 HBZ.out)
      have hs6 := (hop hB5 HS0.out).1
      have hi6 := HI0.out.same ((fr_below hB5 []).block _ HI0.out.lt (by simp))
      have hsl6 := hat_lt hs6
      clear hB5 hs hgx hcI HS0 HI0 HGX hsl hgl hlI HRP HPB
      by_cases hq : q = 0
      · have hdq : (q == 0) = true := by simpa using hq
        have HR4 : Hid (blkW E.S raw k = 0) := Lib.hid (by rw [HR3.out]; exact if_pos hq)
        go_wp2_with fail
        go_ret
        exact ⟨ret_int HR4.out.symm, HB5.out⟩
      · have hdq : (q == 0) = false := by simpa using hq
        obtain ⟨p, hpq⟩ := Int.eq_ofNat_of_zero_le hq0
        have hpN : p < E.N := by omega
        have hpi : (p : Int) < (E.N : Int) := by omega
        have hp0 : (0 : Int) ≤ (p : Int) := Int.natCast_nonneg _
        have HR4 : Hid (blkW E.S raw k = nth (rdPtr (E.S p)) ((k - 44) % 32)) := Lib.hid (by rw [HR3.out]; unfold hangW; rw [if_neg hq, hpq]; rfl)
        obtain ⟨csJ, tJ, frJ, hcJ, hlJ⟩ := hi6.load hpN
        obtain ⟨lJ, bJ⟩ := hi6.len hpN
        have HRP := Lib.hid (fun W => rreadPointers_any (E.S p) lJ bJ W)
        have hps2 : (rdPtr (E.S p)).length = 32 := by simp
        have hcell : (IV .i64 (rdPtr (E.S p)))[(k - 44) % 32]? = some (.int .i64 (nth (rdPtr (E.S p)) ((k - 44) % 32))) := by rw [IV_get?, nth_getElem? (by omega)]; rfl
        obtain ⟨m, hm⟩ : ∃ m, (k - 44) % 32 = m := ⟨_, rfl⟩
        rw [hm] at hcell HR4
        have hmi : ((k : Int) - 44) % 32 = (m : Int) := by omega
        have hm0 : (0 : Int) ≤ (m : Int) := Int.natCast_nonneg _
        have hm1 : (m : Int) < 32 := by omega
        clear hi6 lJ bJ hq0
        subst hpq
        simp only [hmi]
        go_wp2_with fail
        refine (HRP.out _).mono ?_; rintro e w6 ⟨rfl, hb⟩
        have HB6 := Lib.hid (below_call HB5.out hb HB5.out.size)
        clear hb
        go_wp2_with fail
        go_ret
        exact ⟨ret_int HR4.out.symm, HB6.out⟩
/-- may the pointers of an inode be followed? -/
structure Aims (N : Nat) (S : Nat → List Int) (raw : List Int) : Prop where
  r : raw.length = 18
  p16 : 0 ≤ nth raw 16 ∧ nth raw 16 < N
  p17 : 0 ≤ nth raw 17 ∧ nth raw 17 < N
  d : nth raw 17 ≠ 0 → ∀ p ∈ rdPtr (S (nth raw 17).toNat), p < N
theorem block_w {E : SEnv} {raw : List Int} (hA : Aims E.N E.S raw) (k : Nat) (hk : k < 1068) (seen : Int → Bool) (w : World) (h : SG E w seen) :
    Calls Tryz.prog 79 #[.pointer (some ⟨E.g, 0, none⟩), .agg (IV .i64 raw), .int .i64 k] w fun e w' =>
      e = .returned (.int .i64 (blkW E.S raw k)) ∧ Below w.heap.size w w' := by
  by_cases h44 : k < 44
  · exact block1_w raw hA.r k h44 hA.p16.1 hA.p16.2 seen w h
  · refine block2_w raw hA.r k (by omega) hk hA.p17.1 hA.p17.2 (fun h0 => hA.d h0 _ ?_) seen w h
    exact List.mem_iff_getElem?.2 ⟨_, nth_getElem? (by simp; omega)⟩
end Go.Proofs.YthioepdgnbdohaaGreat

/- Is an image well-formed? What lies behind a file's end. -/
namespace Go.Proofs.YthioepdgnbdohaaGreat
set_option linter.unusedSimpArgs false
set_option linter.unusedVariables false
open Go.RowKit

/-- the bytes from k on are 0 -/
def zeroFrom (l : List Int) (k : Nat) : Bool := (l.drop k).all fun b => b == 0
/-- may the tail of a file be? -/
def tailW (S : Nat → List Int) (raw : List Int) : Bool :=
  if nth raw 2 % 128 = 0 then true
  else if blkW S raw (cntX (nth raw 2) - 1).toNat = 0 then true else zeroFrom (S (blkW S raw (cntX (nth raw 2) - 1).toNat).toNat) (nth raw 2 % 128).toNat
set_option maxHeartbeats 4000000 in
set_option maxRecDepth 100000 in
theorem tail_w {E : SEnv} {raw : List Int} (hA : Aims E.N E.S raw) (hz0 : 0 ≤ nth raw 2) (hz1 : nth raw 2 ≤ 136704) (hlt : nth raw 2 % 128 ≠ 0 → 0 ≤ blkW E.S raw (cntX (nth raw 2) - 1).toNat ∧ blkW E.S raw (cntX (nth raw 2) - 1).toNat < E.N) (seen : Int → Bool) (w : World) (h : SG E w seen) :
    Calls Tryz.prog 38 #[.pointer (some ⟨E.g, 0, none⟩), .agg (IV .i64 raw)] w fun e w' =>
      e = .returned (.bool (tailW E.S raw)) ∧ Below w.heap.size w w' := by
  have hr := hA.r
  have hld : ∀ r w' t fr, ldRow r 18 0 w' (some (.cells (IV .i64 raw) t fr)) = .ok (.agg (IV .i64 raw)) w' := fun r w' t fr => by rw [ldRow_part (by simp [hr])]; simp [← hr]
  have hgx := (hopN w (.cells (IV .i64 raw) 45)).1
  have hB1 : Below w.heap.size w (w.alloc (.cells (IV .i64 raw) 45)) := (Below.refl _ _).alloc (Nat.le_refl _) _
  have HG1 := Lib.hid (h.fr (fr_below hB1 []) (by simp) (by simp) (by simp))
  have HB1 := Lib.hid hB1
  have HBZ := Lib.hid hB1.size
  clear hB1 h
  have hgl := hat_lt hgx
  have hc2 : (IV .i64 raw)[2]? = some (.int .i64 (nth raw 2)) := by rw [IV_get?, nth_getElem? (by omega)]; rfl
  by_cases h0 : nth raw 2 % 128 = 0
  · have HR : Hid (tailW E.S raw = true) := Lib.hid (if_pos h0)
    have hd0 : (nth raw 2 % 128 == 0) = true := by simpa using h0
    go_enter Tryz.func38, Tryz.ntmps38
    go_wp2_with fail
    go_ret
    exact ⟨by rw [HR.out]; rfl, HB1.out⟩
  · have hd0 : (nth raw 2 % 128 == 0) = false := by simpa using h0
    obtain ⟨h2, h3⟩ := hlt h0
    have HR : Hid (tailW E.S raw = if blkW E.S raw (cntX (nth raw 2) - 1).toNat = 0 then true else zeroFrom (E.S (blkW E.S raw (cntX (nth raw 2) - 1).toNat).toNat) (nth raw 2 % 128).toNat) := Lib.hid (if_neg h0)
    obtain ⟨d, hd⟩ : ∃ d : Nat, cntX (nth raw 2) - 1 = d := ⟨(cntX (nth raw 2) - 1).toNat, by unfold cntX; omega⟩
    have hd9 : d < 1068 := by unfold cntX at hd; omega
    have HC := Lib.hid (fun W => count_w raw hr hz0 hz1 W)
    simp only [hd, Int.toNat_natCast] at h2 h3 HR
    clear hlt
    go_enter Tryz.func38, Tryz.ntmps38
    go_wp2_with fail
    generalize w.alloc (.cells (IV .i64 raw) 45) = w1 at *
    refine wp_region_G (by kernel_rfl) 7 (by decide) rfl (fun W => Below w1.heap.size w1 W) (fun W W' => Below W.heap.size W W') (fun i v W => match i with | 0 => v = (.pointer (some ⟨E.g, 0, none⟩)) | 1 => v = (.agg (IV .i64 raw)) | 2 => v = (.agg (IV .i64 raw)) | 3 => v = (.int .i64 (cntX (nth raw 2))) | 4 => v = (.int .i64 (d : Int)) | 5 => v = (.int .i64 (blkW E.S raw d)) | _ => v = (.int .i64 (blkW E.S raw d))) ((Below.refl _ _).drew) ?_ ?_ ?_
    · intro i v wa wb hi _ _ hE5 hG
      have hi' : i = 0 ∨ i = 1 ∨ i = 2 ∨ i = 3 ∨ i = 4 ∨ i = 5 ∨ i = 6 := by omega
      rcases hi' with rfl | rfl | rfl | rfl | rfl | rfl | rfl <;> exact hG
    · intro i o hi ho a' w' hB hS hF
      have hi' : i = 0 ∨ i = 1 ∨ i = 2 ∨ i = 3 ∨ i = 4 ∨ i = 5 ∨ i = 6 := by omega
      have hg5 := (hop hB hgx).1
      rcases hi' with rfl | rfl | rfl | rfl | rfl | rfl | rfl
      all_goals (have ho' := Option.some.inj ho; subst ho')
      · have q0 : a'.tmps[0]?.getD undef = (.pointer (some ⟨E.g, 0, none⟩)) := gtx ((hS 0 (by decide)).trans rfl)
        refine wpOp_val rfl rfl (v := (.pointer (some ⟨E.g, 0, none⟩))) (w1 := w') ?_ ⟨_, rfl, hB, Below.refl _ _, rfl⟩
        simp [go_sem, q0]
      · have q3 : a'.tmps[3]?.getD undef = (.pointer (some ⟨w.heap.size, 0, none⟩)) := gtx ((hS 3 (by decide)).trans rfl)
        refine wpOp_val rfl rfl (v := (.agg (IV .i64 raw))) (w1 := w') ?_ ⟨_, rfl, hB, Below.refl _ _, rfl⟩
        simp [go_sem, q3, hg5, hld]
      · have q3 : a'.tmps[3]?.getD undef = (.pointer (some ⟨w.heap.size, 0, none⟩)) := gtx ((hS 3 (by decide)).trans rfl)
        refine wpOp_val rfl rfl (v := (.agg (IV .i64 raw))) (w1 := w') ?_ ⟨_, rfl, hB, Below.refl _ _, rfl⟩
        simp [go_sem, q3, hg5, hld]
      · have q13 : a'.tmps[13]?.getD undef = (.agg (IV .i64 raw)) := gtx ((hF 2 (by decide) _ 13 rfl rfl).trans rfl)
        refine wpOp_call (f := 64) (args := #[.agg (IV .i64 raw)]) rfl rfl (by simp [go_sem, q13]) (HC.out w') ?_
        rintro e w'' ⟨rfl, hb'⟩
        exact ⟨_, rfl, _, rfl, below_call hB hb' hB.size, hb', rfl⟩
      · have q14 : a'.tmps[14]?.getD undef = (.int .i64 (cntX (nth raw 2))) := gtx ((hF 3 (by decide) _ 14 rfl rfl).trans rfl)
        refine wpOp_val rfl rfl (v := (.int .i64 (d : Int))) (w1 := w') ?_ ⟨_, rfl, hB, Below.refl _ _, rfl⟩
        simp [go_sem, q14]; rw [IntKind.wrap_i64]; omega
      · have q11 : a'.tmps[11]?.getD undef = (.pointer (some ⟨E.g, 0, none⟩)) := gtx ((hF 0 (by decide) _ 11 rfl rfl).trans rfl)
        have q12 : a'.tmps[12]?.getD undef = (.agg (IV .i64 raw)) := gtx ((hF 1 (by decide) _ 12 rfl rfl).trans rfl)
        have q15 : a'.tmps[15]?.getD undef = (.int .i64 (d : Int)) := gtx ((hF 4 (by decide) _ 15 rfl rfl).trans rfl)
        refine wpOp_call (f := 79) (args := #[.pointer (some ⟨E.g, 0, none⟩), .agg (IV .i64 raw), .int .i64 (d : Int)]) rfl rfl (by simp [go_sem, q11, q12, q15]) (block_w hA d hd9 seen w' (HG1.out.fr (fr_below hB []) (by simp) (by simp) (by simp))) ?_
        rintro e w'' ⟨rfl, hb'⟩
        exact ⟨_, rfl, _, rfl, below_call hB hb' hB.size, hb', rfl⟩
      · have q16 : a'.tmps[16]?.getD undef = (.int .i64 (blkW E.S raw d)) := gtx ((hF 5 (by decide) _ 16 rfl rfl).trans rfl)
        refine wpOp_val rfl rfl (v := (.int .i64 (blkW E.S raw d))) (w1 := w') ?_ ⟨_, rfl, hB, Below.refl _ _, rfl⟩
        simp [go_sem, q16]
    · intro val w5 hB5 hF
      have y0 := hF 0 _ 11 (by decide) rfl rfl
      have y1 := hF 1 _ 12 (by decide) rfl rfl
      have y2 := hF 2 _ 13 (by decide) rfl rfl
      have y3 := hF 3 _ 14 (by decide) rfl rfl
      have y4 := hF 4 _ 15 (by decide) rfl rfl
      have y5 := hF 5 _ 16 (by decide) rfl rfl
      have y6 := hF 6 _ 5 (by decide) rfl rfl
      simp only [] at y0 y1 y2 y3 y4 y5 y6
      simp only [putAll, List.take, List.drop, List.take_succ_cons, List.drop_succ_cons, y0, y1, y2, y3, y4, y5, y6, Act.put, List.setIfInBounds_toArray, List.set_cons_zero, List.set_cons_succ]
      clear y0 y1 y2 y3 y4 y5 y6 hF
      have HB5 := Lib.hid (below_call HB1.out hB5 HBZ.out)
      have HG5 := Lib.hid (HG1.out.fr (fr_below hB5 []) (by simp) (by simp) (by simp))
      have hs5 := HG5.out.s
      have hg5 := (hop hB5 hgx).1
      clear hB5 hgx hgl
      obtain ⟨at', hat'⟩ := Int.eq_ofNat_of_zero_le h2
      obtain ⟨m, hm⟩ : ∃ m : Nat, nth raw 2 % 128 = m := ⟨(nth raw 2 % 128).toNat, by omega⟩
      simp only [hat', hm, Int.toNat_natCast] at HR h3 ⊢
      have hl := HG5.out.i
      obtain ⟨cs, tI, frI, hcI, hsz, hall⟩ := hl
      have hlN : at' < E.N := by omega
      have hai : (at' : Int) < (E.N : Int) := h3
      have ha0 : (0 : Int) ≤ (at' : Int) := Int.natCast_nonneg _
      obtain ⟨hlen, -, hext⟩ := hall at' hlN
      have HBY : Hid (∀ k, k < 128 → cs[E.oi + at' * 128 + k]? = some (.int .u8 (nth (E.S at') k))) := Lib.hid (fun k hk => by
        have := congrArg (fun a : Array Value => a[k]?) hext
        simp only [Array.getElem?_extract, IV_get?, nth_getElem? (l := E.S at') (i := k) (by omega)] at this
        rw [if_pos (by omega)] at this
        exact this)
      clear hall
      have hm1 : m < 128 := by omega
      go_wp2_with fail
      go_loopw [6] (fun v wr => ∃ k : Nat, v = .int .i64 k ∧ wr = w5 ∧ k ≤ 128 ∧ Hid (at' = 0 ∨ zeroFrom (E.S at') m = zeroFrom (E.S at') k)) (fun v _ => 128 - (intOf v).toNat)
      case atStart => exact ⟨m, by rw [hm], rfl, by omega, Lib.hid (.inr rfl)⟩
      case round =>
        obtain ⟨k, rfl, rfl, hk, HZ⟩ := hrel
        have hk0 : (0 : Int) ≤ (k : Int) := Int.natCast_nonneg _
        by_cases hz : at' = 0
        · subst hz
          have HR2 : Hid (tailW E.S raw = true) := Lib.hid (by rw [HR.out]; exact if_pos rfl)
          by_cases hk1 : k < 128
          all_goals
            have hki : ((k : Int) < 128) = (k < 128) := by simp; omega
            go_wp2_with fail
            go_ret
            exact ⟨by rw [HR2.out]; rfl, HB5.out⟩
        · have hzi : ((at' : Int) != 0) = true := by simpa using hz
          have HR2 : Hid (tailW E.S raw = zeroFrom (E.S at') m) := Lib.hid (by rw [HR.out]; exact if_neg (by omega))
          have HZ2 : Hid (tailW E.S raw = zeroFrom (E.S at') k) := Lib.hid (by rw [HR2.out]; exact HZ.out.resolve_left hz)
          by_cases hk1 : k < 128
          · have hb := HBY.out k hk1
            have hki : (k : Int) < 128 := by omega
            have HS1 : Hid (zeroFrom (E.S at') k = (nth (E.S at') k == 0 && zeroFrom (E.S at') (k + 1))) := Lib.hid (by
              unfold zeroFrom
              rw [drop_cons (nth_getElem? (l := E.S at') (i := k) (by omega)), List.all_cons])
            by_cases hx : nth (E.S at') k = 0
            · have hx1 : (nth (E.S at') k != 0) = false := by simpa using hx
              go_wp2_with fail
              go_roundw
              case rel => exact ⟨k + 1, by go_num, by first | rfl | trivial, by omega, Lib.hid (.inr (by rw [← HR2.out, HZ2.out, HS1.out, hx]; rfl))⟩
              case measure => (show 128 - (k + 1) < 128 - k); omega
            · have hx1 : (nth (E.S at') k != 0) = true := by simpa using hx
              go_wp2_with fail
              go_ret
              exact ⟨by rw [HZ2.out, HS1.out, beq_false_of_ne hx]; rfl, HB5.out⟩
          · obtain rfl : k = 128 := by omega
            have HS1 : Hid (zeroFrom (E.S at') 128 = true) := Lib.hid (by unfold zeroFrom; rw [List.drop_of_length_le (by omega)]; rfl)
            go_wp2_with fail
            go_ret
            exact ⟨by rw [HZ2.out, HS1.out]; rfl, HB5.out⟩
end Go.Proofs.YthioepdgnbdohaaGreat

/- Is an image well-formed? The slots of a directory. -/
namespace Go.Proofs.YthioepdgnbdohaaGreat
set_option linter.unusedSimpArgs false
set_option linter.unusedVariables false
open Go.RowKit

/-- the slots that lie in a row of sectors (0: a hole); none: one is none -/
def slotsW (S : Nat → List Int) : List Int → List (Int × ByteArray) → Option (List (Int × ByteArray))
  | [], a => some a
  | p :: r, a => if p = 0 then slotsW S r a else if (rdSloR (S p.toNat)).2.2 ≠ 0 then none else if (rdSloR (S p.toNat)).1 = 0 then slotsW S r a else slotsW S r (a ++ [((rdSloR (S p.toNat)).1, (rdSloR (S p.toNat)).2.1)])
theorem slotsW_cons (S : Nat → List Int) (p : Int) (r : List Int) (a : List (Int × ByteArray)) : slotsW S (p :: r) a = if p = 0 then slotsW S r a else if (rdSloR (S p.toNat)).2.2 ≠ 0 then none else if (rdSloR (S p.toNat)).1 = 0 then slotsW S r a else slotsW S r (a ++ [((rdSloR (S p.toNat)).1, (rdSloR (S p.toNat)).2.1)]) := rfl
/-- the cells of a list of slots -/
def slotRow (l : List (Int × ByteArray)) : List Value := l.flatMap fun x => [.int .i64 x.1, .string x.2]
theorem slotRow_snoc (l : List (Int × ByteArray)) (x : Int) (s : ByteArray) : slotRow (l ++ [(x, s)]) = slotRow l ++ [.int .i64 x, .string s] := by
  unfold slotRow; rw [List.flatMap_append]; rfl
/-- the sectors of a file's blocks -/
def blksW (S : Nat → List Int) (raw : List Int) : List Int := (List.range (cntX (nth raw 2)).toNat).map (blkW S raw)
theorem ownsRow_base {w : World} {b b' : Nat} {e : TypeId} {size : Nat} {v : Value} {n : Nat} {xs : List Value} (h : w.ownsRow b e size v n xs) (hb : b' ≤ b) : w.ownsRow b' e size v n xs := by
  obtain ⟨h0, h⟩ := h
  refine ⟨h0, h.imp_right ?_⟩
  rintro ⟨g, cap, cur, h1, h2, h3⟩
  exact ⟨g, cap, cur, h1, by omega, h3⟩
theorem ownsRow_below {w w' : World} {b : Nat} {e : TypeId} {size : Nat} {v : Value} {n : Nat} {xs : List Value} (h : w.ownsRow b e size v n xs) (hb : Below w.heap.size w w') : w'.ownsRow b e size v n xs := by
  obtain ⟨h0, h⟩ := h
  refine ⟨h0, h.imp_right ?_⟩
  rintro ⟨g, cap, cur, h1, h2, h3, h4⟩
  exact ⟨g, cap, cur, h1, h2, (hop hb h3).1, h4⟩
theorem blksW_get {S : Nat → List Int} {raw : List Int} {k : Nat} (hk : k < (cntX (nth raw 2)).toNat) : (blksW S raw)[k]? = some (blkW S raw k) := by
  unfold blksW; rw [List.getElem?_map, List.getElem?_range hk]; rfl
theorem Tryz.info93 : (Tryz.prog.info? 93).map (fun i => (i.zero, i.size, i.bytes)) = some (some (.agg #[.int .i64 0, .string { data := #[] }]), 2, 24) := by kernel_rfl
set_option maxHeartbeats 4000000 in
set_option maxRecDepth 100000 in
theorem slots_w {E : SEnv} {raw : List Int} (hA : Aims E.N E.S raw) (hz0 : 0 ≤ nth raw 2) (hz1 : nth raw 2 ≤ 136704) (hbk : ∀ p ∈ blksW E.S raw, 0 ≤ p ∧ p < E.N) (seen : Int → Bool) (w : World) (h : SG E w seen) :
    Calls Tryz.prog 78 #[.pointer (some ⟨E.g, 0, none⟩), .agg (IV .i64 raw)] w fun e w' =>
      ∃ v, e = .returned (.tuple #[v, .bool (slotsW E.S (blksW E.S raw) []).isSome]) ∧ Below w.heap.size w w' ∧ ∀ l, slotsW E.S (blksW E.S raw) [] = some l → w'.ownsRow w.heap.size 93 2 v l.length (slotRow l) := by
  have hr := hA.r
  have hld : ∀ r w' t fr, ldRow r 18 0 w' (some (.cells (IV .i64 raw) t fr)) = .ok (.agg (IV .i64 raw)) w' := fun r w' t fr => by rw [ldRow_part (by simp [hr])]; simp [← hr]
  have hgx := (hopN w (.cells (IV .i64 raw) 45)).1
  have hB1 : Below w.heap.size w (w.alloc (.cells (IV .i64 raw) 45)) := (Below.refl _ _).alloc (Nat.le_refl _) _
  have HS := Lib.hid h
  have HB1 := Lib.hid hB1
  have HBK := Lib.hid hbk
  have HBZ := Lib.hid hB1.size
  clear hB1 h hbk
  obtain ⟨n, hn⟩ : ∃ n : Nat, cntX (nth raw 2) = n := ⟨(cntX (nth raw 2)).toNat, by unfold cntX; omega⟩
  have hn9 : n ≤ 1068 := by unfold cntX at hn; omega
  have HC := Lib.hid (fun W => count_w raw hr hz0 hz1 W)
  rw [hn] at HC
  have HBG : Hid (∀ k, k < n → (blksW E.S raw)[k]? = some (blkW E.S raw k)) := Lib.hid (fun k hk => blksW_get (by rw [hn]; omega))
  have hbl : (blksW E.S raw).length = n := by unfold blksW; rw [List.length_map, List.length_range, hn]; rfl
  generalize blksW E.S raw = bs at *
  go_enter Tryz.func78, Tryz.ntmps78
  go_wp2_with fail
  go_loopw [6, 7] (fun v i wr => ∃ (k : Nat) (l : List (Int × ByteArray)), i = .int .i64 k ∧ k ≤ n ∧ l.length ≤ k ∧ Hid (wr.ownsRow (w.heap.size + 1) 93 2 v l.length (slotRow l)) ∧ Hid (Below w.heap.size w wr) ∧ hat wr w.heap.size = some (.cells (IV .i64 raw) 45) ∧ Hid (slotsW E.S bs [] = slotsW E.S (bs.drop k) l)) (fun _ i _ => n - (intOf i).toNat)
  case atStart => exact ⟨0, [], rfl, by omega, Nat.le_refl _, Lib.hid ⟨rfl, .inl ⟨rfl, rfl⟩⟩, HB1, hgx, Lib.hid rfl⟩
  case round =>
    obtain ⟨k, l, rfl, hk, hlk, HO, HB, hgr, HE⟩ := hrel
    have hk0 : (0 : Int) ≤ (k : Int) := Int.natCast_nonneg _
    have hgl := hat_lt hgr
    go_wp2_with fail
    refine (HC.out _).mono ?_; rintro e w2 ⟨rfl, hb2⟩
    have hgr2 := (hop hb2 hgr).1
    have HB2 := Lib.hid (below_call HB.out hb2 HB.out.size)
    have HO2 := Lib.hid (ownsRow_below HO.out hb2)
    clear hb2
    by_cases hkn : k < n
    · have hki : (k : Int) < (n : Int) := by omega
      have hpk := HBG.out k hkn
      have hpp := HBK.out _ (List.mem_of_getElem? hpk)
      have hE1 := HE.out
      rw [drop_cons hpk, slotsW_cons] at hE1
      have HBL := Lib.hid (block_w hA k (by omega) seen w2 (HS.out.fr (fr_below HB2.out []) (by simp) (by simp) (by simp)))
      have HE1 := Lib.hid hE1
      clear hE1 hpk HE
      go_wp2_with fail
      refine HBL.out.mono ?_; rintro e w3 ⟨rfl, hb3⟩
      have hgr3 := (hop hb3 hgr2).1
      have HB3 := Lib.hid (below_call HB2.out hb3 HB2.out.size)
      have HO3 := Lib.hid (ownsRow_below HO2.out hb3)
      clear hb3 HBL HB2 HO2 HB HO hgr
      generalize blkW E.S raw k = p at *
      by_cases hp0 : p = 0
      · have hd : (p == 0) = true := by simpa using hp0
        have HE2 : Hid (slotsW E.S bs [] = slotsW E.S (bs.drop (k + 1)) l) := Lib.hid (by rw [HE1.out, if_pos hp0])
        go_wp2_with fail
        go_roundw
        case rel => exact ⟨k + 1, l, by go_num, by omega, by omega, HO3, HB3, hgr3, HE2⟩
        case measure => (show n - (k + 1) < n - k); omega
      · have hd : (p == 0) = false := by simpa using hp0
        obtain ⟨pn, rfl⟩ := Int.eq_ofNat_of_zero_le hpp.1
        have hpN : pn < E.N := by omega
        have hpi : (pn : Int) < (E.N : Int) := hpp.2
        have hp00 : (0 : Int) ≤ (pn : Int) := Int.natCast_nonneg _
        have hsg := HS.out.fr (fr_below HB3.out []) (by simp) (by simp) (by simp)
        have hs3 := hsg.s
        obtain ⟨csI, tI, frI, hcI, hlI⟩ := hsg.i.load hpN
        obtain ⟨lI, bI⟩ := hsg.i.len hpN
        have HRS := Lib.hid (fun W => rrdSlo_any (E.S pn) lI bI W)
        have hE2 := HE1.out
        rw [if_neg hp0, Int.toNat_natCast] at hE2
        generalize (rdSloR (E.S pn)).1 = ino at *
        generalize (rdSloR (E.S pn)).2.1 = nm at *
        generalize (rdSloR (E.S pn)).2.2 = er at *
        have HE2 := Lib.hid hE2
        clear hsg hE2 HE1 lI bI
        go_wp2_with fail
        refine (HRS.out _).mono ?_; rintro e w4 ⟨rfl, hb4⟩
        have hgr4 := (hop hb4 hgr3).1
        have HB4 := Lib.hid (below_call HB3.out hb4 HB3.out.size)
        have HO4 := Lib.hid (ownsRow_below HO3.out hb4)
        clear hb4 HRS HB3 HO3 hgr3 hgr2 hs3 hcI hlI
        by_cases her : er = 0
        · have hd2 : (er != 0) = false := by simpa using her
          have hE3 := HE2.out
          rw [if_neg (by simpa using her)] at hE3
          have HE3 := Lib.hid hE3
          have hz4 : w.heap.size ≤ w4.heap.size := HB4.out.size
          have hl4 := hat_lt hgr4
          clear hE3 HE2
          by_cases hi0 : ino = 0
          · have hd3 : (ino != 0) = false := by simpa using hi0
            have HE4 : Hid (slotsW E.S bs [] = slotsW E.S (bs.drop (k + 1)) l) := Lib.hid (by rw [HE3.out, if_pos hi0])
            go_wp2_with fail
            go_roundw
            case rel => exact ⟨k + 1, l, by go_num, by omega, by omega, Lib.hid (HO4.out.alloc _), Lib.hid (HB4.out.alloc hz4 _), by rw [hat_alloc_past _ _ _ hl4]; exact hgr4, HE4⟩
            case measure => (show n - (k + 1) < n - k); omega
          · have hd3 : (ino != 0) = true := by simpa using hi0
            have HE4 : Hid (slotsW E.S bs [] = slotsW E.S (bs.drop (k + 1)) (l ++ [(ino, nm)])) := Lib.hid (by rw [HE3.out, if_neg hi0])
            obtain ⟨i0, hi, hz0', hz1', hz2'⟩ := info_parts Tryz.info93
            go_wp2_with (at_builtin; refine wpList_append_own _ rfl (.tmp 39) (.tmp 41) 126 rfl (w.heap.size + 1) 93 i0 _ 2 24 Tryz.underlying126 hi hz0' hz1' hz2' rfl (by decide) u6 l.length (slotRow l) rfl ((HO4.out.alloc _).alloc _) ⟨w4.heap.size + 1, 0, none⟩ 1 1 [.int .i64 ino, .string nm] rfl rfl ?c1 ?c2 ?c3 ?c4 ?c5 (fun v' w1 hown' hgrow _ => ?_))
            case c1 =>
              intro j u hj
              have hj3 : j < 2 := by
                have := (List.getElem?_eq_some_iff.1 hj).1
                simpa using this
              have hadd : (⟨w4.heap.size + 1, 0, none⟩ : Addr).add j = ⟨w4.heap.size + 1, j, none⟩ := by unfold Addr.add; split <;> simp_all
              rw [hadd, cell_hat (hat_alloc_at _ _ _ (by simp only [World.size_alloc]))]
              simpa using hj
            case c2 =>
              intro u hu
              simp at hu
              rcases hu with rfl | rfl <;> rfl
            case c3 => unfold maxLen; omega
            case c4 => omega
            case c5 => simp only [World.size_alloc]; omega
            go_roundw
            case rel =>
              have hh : ∀ {b : Nat} {o : Obj}, b < w.heap.size + 1 → hat w4 b = some o → hat w1 b = some o := fun {b o} hb h => by
                have hlt := hat_lt h
                show w1.heap[b]? = _
                rw [hgrow.block _ (by simp only [World.size_alloc]; omega) (Ne.symm (ownsRow_ne HO4.out hb))]
                show hat _ _ = _
                rw [hat_alloc_past _ _ _ (by simp only [World.size_alloc]; omega), hat_alloc_past _ _ _ hlt, h]
              refine ⟨k + 1, l ++ [(ino, nm)], by go_num, by omega, by simp; omega, Lib.hid ?_, Lib.hid ?_, hh (by omega) hgr4, HE4⟩
              · rw [slotRow_snoc, List.length_append]; exact hown'
              · exact ((HB4.out.alloc hz4 _).alloc (by simp only [World.size_alloc]; omega) _).grown hgrow (by simp only [World.size_alloc]; omega) (fun k hk => by
                  have h1 : ¬ k < w.heap.size + 1 := fun h => ownsRow_ne HO4.out h hk
                  omega)
            case measure => (show n - (k + 1) < n - k); omega
        · have hd2 : (er != 0) = true := by simpa using her
          have HN : Hid (slotsW E.S bs [] = none) := Lib.hid (by rw [HE2.out, if_pos her])
          go_wp2_with fail
          go_ret2
          exact ⟨_, by rw [HN.out]; rfl, HB4.out.alloc (by have := HB4.out.size; omega) _, fun l' hl' => by rw [HN.out] at hl'; cases hl'⟩
    · obtain rfl : k = n := by omega
      have HN : Hid (slotsW E.S bs [] = some l) := Lib.hid (by rw [HE.out, List.drop_of_length_le (by omega)]; rfl)
      go_wp2_with fail
      go_ret2
      exact ⟨_, by rw [HN.out]; rfl, HB2.out, fun l' hl' => by rw [HN.out] at hl'; cases hl'; exact ownsRow_base HO2.out (by omega)⟩
end Go.Proofs.YthioepdgnbdohaaGreat

/- Operations whose guard is shut, in a region that draws. -/
namespace Go.Proofs.YthioepdgnbdohaaGreat
set_option linter.unusedSimpArgs false
set_option linter.unusedVariables false
open Go.RowKit
section
variable {P : Program} {ops : Array Oper} {Q : Exit → Act → World → Prop}
theorem wpOp_shut {i : Nat} {o : Oper} {K : Act → World → Prop} {a : Act} {w : World} {j d : Nat} {b b' : Bool} (ho : ops[i]? = some o) (hg : o.guard = some (j, b)) {oj : Oper} (hj : ops[j]? = some oj) (hd : oj.dst = some d) (h : gt a d = .bool b') (hb : (b == b') = false) (hk : K (a.put o.dst undef) w) : wpOp P ops Q i K a w := by
  have h1 : a.tmps[d]? = some (.bool b') := by
    unfold gt at h
    rw [Array.getD_eq_getD_getElem?] at h
    cases hx : a.tmps[d]? with
    | none => rw [hx] at h; cases h
    | some v => rw [hx] at h; exact congrArg some h
  have h2 : yielded ops a.tmps j = some b' := by
    unfold yielded
    rw [hj]
    simp [hd, h1]
  have h3 : Region.wanted o (yielded ops a.tmps) = false := by
    simp [Region.wanted, hg, h2]
    intro e
    subst e
    cases b' <;> cases hb
  unfold wpOp
  simp only [ho]
  rw [if_neg (by rw [h3]; simp)]
  exact hk
theorem wpOp_skip {i : Nat} {o : Oper} {K : Act → World → Prop} {a : Act} {w w1 : World} (ho : ops[i]? = some o) (hg : o.guard = none)
    (hr : (execOp a.eval o).run P w = .ok .skip w1) (hk : K (a.put o.dst undef) w1) : wpOp P ops Q i K a w := by
  unfold wpOp
  simp only [ho]
  rw [if_pos (by simp [Region.wanted, hg])]
  refine .inl ?_
  unfold Oper.wp
  rw [hr]
  exact hk
end
end Go.Proofs.YthioepdgnbdohaaGreat

/- Entries counted, slots in a row: plain laws. -/
namespace Go.Proofs.YthioepdgnbdohaaGreat
set_option linter.unusedSimpArgs false
set_option linter.unusedVariables false
open Go.RowKit

abbrev Ent := Int × ByteArray
/-- how often j is named -/
def cntL (L : Nat → List Ent) (N j : Nat) : Nat := ((List.range (N + 1)).map fun i => (L i).countP fun e => decide (e.1 = (j : Int))).sum
def updE (L : Nat → List Ent) (c : Nat) (l : List Ent) : Nat → List Ent := fun i => if i = c then l else L i
theorem updE_eq (L : Nat → List Ent) (c : Nat) (l : List Ent) : updE L c l c = l := by unfold updE; rw [if_pos rfl]
theorem updE_ne (L : Nat → List Ent) {c i : Nat} (l : List Ent) (h : i ≠ c) : updE L c l i = L i := by unfold updE; rw [if_neg h]
theorem sum_one (f g : Nat → Nat) (c d : Nat) (h : ∀ i, i ≠ c → f i = g i) (hc : f c = g c + d) : ∀ n : Nat, ((List.range n).map f).sum = ((List.range n).map g).sum + if c < n then d else 0
  | 0 => rfl
  | n + 1 => by
    rw [List.range_succ, List.map_append, List.map_append, List.sum_append, List.sum_append, sum_one f g c d h hc n]
    simp only [List.map_cons, List.map_nil, List.sum_cons, List.sum_nil]
    by_cases hn : n = c
    · subst hn
      rw [if_neg (by omega), if_pos (by omega), hc]; omega
    · rw [h n hn]
      by_cases hl : c < n
      · rw [if_pos hl, if_pos (by omega)]; omega
      · rw [if_neg hl, if_neg (by omega)]; omega
theorem cntL_upd (L : Nat → List Ent) {N c : Nat} (hc : c ≤ N) (e : Ent) (j : Nat) : cntL (updE L c (L c ++ [e])) N j = cntL L N j + if e.1 = (j : Int) then 1 else 0 := by
  unfold cntL
  rw [sum_one (fun i => (updE L c (L c ++ [e]) i).countP fun e => decide (e.1 = (j : Int))) (fun i => (L i).countP fun e => decide (e.1 = (j : Int))) c (if e.1 = (j : Int) then 1 else 0)]
  · rw [if_pos (by omega)]
  · intro i hi
    simp only [updE_ne L _ hi]
  · simp only [updE_eq, List.countP_append, List.countP_cons, List.countP_nil, decide_eq_true_eq]
    omega
theorem sum_zero (f : Nat → Nat) : ∀ n : Nat, (∀ i, i < n → f i = 0) → ((List.range n).map f).sum = 0
  | 0, _ => rfl
  | n + 1, h => by
    rw [List.range_succ, List.map_append, List.sum_append, sum_zero f n (fun i hi => h i (by omega))]
    simp [h n (by omega)]
theorem cntL_zero {L : Nat → List Ent} {N j : Nat} (h : ∀ i e, e ∈ L i → e.1 ≠ (j : Int)) : cntL L N j = 0 :=
  sum_zero _ _ fun i _ => List.countP_eq_zero.2 fun e he => by simp [h i e he]
/-- the first n blocks -/
def bkL (bk : Int → Option Int) (n : Nat) : List Int := (List.range n).map fun (k : Nat) => (bk k).getD 0
theorem bkL_succ (bk : Int → Option Int) (n : Nat) : bkL bk (n + 1) = bkL bk n ++ [(bk n).getD 0] := by
  unfold bkL
  rw [List.range_succ, List.map_append]; rfl
theorem bkL_zero (bk : Int → Option Int) : bkL bk 0 = [] := rfl
theorem mem_bkL {bk : Int → Option Int} {n : Nat} {p : Int} (h : p ∈ bkL bk n) (hp : p ≠ 0) : ∃ k : Nat, k < n ∧ bk k = some p := by
  unfold bkL at h
  rw [List.mem_map] at h
  obtain ⟨k, hk, e⟩ := h
  refine ⟨k, List.mem_range.1 hk, ?_⟩
  cases hb : bk k with
  | none => rw [hb] at e; exact absurd e.symm hp
  | some q => rw [hb] at e; exact congrArg some e
theorem slotsW_app (S : Nat → List Int) : ∀ (a b : List Int) (l : List Ent), slotsW S (a ++ b) l = (slotsW S a l).bind (slotsW S b)
  | [], b, l => rfl
  | p :: r, b, l => by
    rw [List.cons_append, slotsW_cons, slotsW_cons]
    split
    · exact slotsW_app S r b l
    · split
      · rfl
      · split
        · exact slotsW_app S r b l
        · exact slotsW_app S r b _
theorem slotsW_same {S S' : Nat → List Int} : ∀ (a : List Int) (l : List Ent), (∀ p ∈ a, p ≠ 0 → S' p.toNat = S p.toNat) → slotsW S' a l = slotsW S a l
  | [], _, _ => rfl
  | p :: r, l, h => by
    have ih := fun l => slotsW_same r l (fun q hq => h q (List.mem_cons_of_mem _ hq))
    rw [slotsW_cons, slotsW_cons, ih, ih]
    by_cases hp : p = 0
    · rw [if_pos hp, if_pos hp]
    · rw [if_neg hp, if_neg hp, h p (List.mem_cons_self ..) hp]
/-- one sector more -/
theorem slotsW_snoc {S : Nat → List Int} {a : List Int} {l : List Ent} (h : slotsW S a [] = some l) (p : Int) : slotsW S (a ++ [p]) [] = if p = 0 then some l else if (rdSloR (S p.toNat)).2.2 ≠ 0 then none else if (rdSloR (S p.toNat)).1 = 0 then some l else some (l ++ [((rdSloR (S p.toNat)).1, (rdSloR (S p.toNat)).2.1)]) := by
  rw [slotsW_app, h]
  show slotsW S [p] l = _
  rw [slotsW_cons]
  rfl
end Go.Proofs.YthioepdgnbdohaaGreat

/- Is an image well-formed? Its inodes, its names: plain words; rows that are made. -/
namespace Go.Proofs.YthioepdgnbdohaaGreat
set_option linter.unusedSimpArgs false
set_option linter.unusedVariables false
open Go.RowKit

/-- N numbers lie in block g -/
def NumR (w : World) (g N : Nat) (f : Nat → Int) : Prop := ∃ cs, hat w g = some (.cells cs 3) ∧ N ≤ cs.size ∧ ∀ j : Nat, j < N → cs[j]? = some (.int .i64 (f j))
theorem NumR.lt {w : World} {g N : Nat} {f : Nat → Int} (h : NumR w g N f) : g < w.heap.size := by
  obtain ⟨cs, h1, -⟩ := h; exact hat_lt h1
theorem NumR.same {w w' : World} {g N : Nat} {f : Nat → Int} (h : NumR w g N f) (he : hat w' g = hat w g) : NumR w' g N f := by
  obtain ⟨cs, h1, h2⟩ := h
  exact ⟨cs, he.trans h1, h2⟩
theorem NumR.put {w : World} {g N : Nat} {f f' : Nat → Int} (h : NumR w g N f) {p : Nat} {x : Int} (hp : p < N) (hf : ∀ j, f' j = if p = j then x else f j) : NumR (w.setCell ⟨g, p, none⟩ (.int .i64 x)) g N f' := by
  obtain ⟨cs, h1, h2, h3⟩ := h
  refine ⟨cs.setIfInBounds p (.int .i64 x), hat_setCell_at _ _ _ _ _ _ _ h1, by simpa using h2, fun j hj => ?_⟩
  rw [Array.getElem?_setIfInBounds, hf]
  by_cases hjp : p = j
  · subst hjp
    rw [if_pos rfl, if_pos (by omega), if_pos rfl]
  · rw [if_neg hjp, if_neg hjp, h3 j hj]
/-- inodes lie in block g -/
def Inos (w : World) (g M : Nat) (I : Nat → List Int) : Prop := ∃ cs, hat w g = some (.cells cs 45) ∧ cs.size = M * 18 ∧ ∀ i, i < M → (I i).length = 18 ∧ cs.extract (i * 18) (i * 18 + 18) = IV .i64 (I i)
theorem Inos.lt {w : World} {g N : Nat} {I : Nat → List Int} (h : Inos w g N I) : g < w.heap.size := by
  obtain ⟨cs, h1, -⟩ := h; exact hat_lt h1
theorem Inos.same {w w' : World} {g N : Nat} {I : Nat → List Int} (h : Inos w g N I) (he : hat w' g = hat w g) : Inos w' g N I := by
  obtain ⟨cs, h1, h2⟩ := h
  exact ⟨cs, he.trans h1, h2⟩
theorem Inos.load {w : World} {g M : Nat} {I : Nat → List Int} (h : Inos w g M I) {i : Nat} (hi : i < M) :
    ∃ cs, hat w g = some (.cells cs 45) ∧ (I i).length = 18 ∧ (∀ raw w', ldRow raw 18 (i * 18) w' (some (.cells cs 45)) = .ok (.agg (IV .i64 (I i))) w') ∧ ∀ k, k < 18 → cs[i * 18 + k]? = some (.int .i64 (nth (I i) k)) := by
  obtain ⟨cs, h1, h2, h3⟩ := h
  obtain ⟨hl, hx⟩ := h3 i hi
  refine ⟨cs, h1, hl, fun raw w' => ?_, fun k hk => ?_⟩
  · rw [ldRow_part (by omega), hx]
  · have := congrArg (fun a : Array Value => a[k]?) hx
    simp only [Array.getElem?_extract, IV_get?, nth_getElem? (l := I i) (i := k) (by omega)] at this
    rw [if_pos (by omega)] at this
    exact this
theorem Tryz.infoW3 : (Tryz.prog.info? 3).map (fun i => (i.zero, i.size, i.bytes)) = some (some (.int .i64 0), 1, 8) := by kernel_rfl
theorem Tryz.infoW4 : (Tryz.prog.info? 4).map (fun i => (i.zero, i.size, i.bytes)) = some (some (.bool false), 1, 1) := by kernel_rfl
theorem made_get (z : Value) (n j : Nat) (hj : j < n) (hz : z.cells = #[z]) : (madeCells z.cells (n * 1))[j]? = some z := by
  rw [hz]
  unfold madeCells
  rw [Array.getElem?_map, Array.getElem?_range, if_pos (by omega)]
  simp [Nat.mod_one]
theorem make_numR (w : World) (N : Nat) (hN : N ≤ 5000) : ∃ w', (Instr.makeSlice 24 (.int .i64 N) (.int .i64 N)).run Tryz.prog w = .ok (.slice (some ⟨w.heap.size, 0, none⟩) N N) w' ∧ NumR w' w.heap.size N (fun _ => 0) ∧ Below w.heap.size w w' := by
  obtain ⟨i, h2, h3, h4, h5⟩ := info_parts Tryz.infoW3
  have hr := run_make (P := Tryz.prog) w 24 3 i (.int .i64 0) Tryz.underlying24 h2 h3 .i64 .i64 N N (by omega) (Int.le_refl _) (by rw [h5]; omega) (by omega)
  rw [Int.toNat_natCast, h4] at hr
  refine ⟨_, hr, ⟨_, (hopN w _).1, by rw [size_madeCells]; omega, fun j hj => made_get _ _ _ hj rfl⟩, (Below.refl _ _).alloc (Nat.le_refl _) _⟩
theorem make_bools (w : World) (N : Nat) (hN : N ≤ 5000) : ∃ w', (Instr.makeSlice 54 (.int .i64 N) (.int .i64 N)).run Tryz.prog w = .ok (.slice (some ⟨w.heap.size, 0, none⟩) N N) w' ∧ Bools w' w.heap.size N (fun _ => false) ∧ Below w.heap.size w w' := by
  obtain ⟨i, h2, h3, h4, h5⟩ := info_parts Tryz.infoW4
  have hr := run_make (P := Tryz.prog) w 54 4 i (.bool false) Tryz.underlying54 h2 h3 .i64 .i64 N N (by omega) (Int.le_refl _) (by rw [h5]; omega) (by omega)
  rw [Int.toNat_natCast, h4] at hr
  refine ⟨_, hr, ⟨_, (hopN w _).1, by rw [size_madeCells]; omega, fun j hj => made_get _ _ _ hj rfl⟩, (Below.refl _ _).alloc (Nat.le_refl _) _⟩
set_option maxRecDepth 100000 in
theorem info_inoz : ∃ i0 z, Tryz.prog.info? 45 = some i0 ∧ i0.zero = some z ∧ z.cells = IV .i64 (zl 18) ∧ i0.size = 18 ∧ i0.bytes = 144 := by
  have h : (Tryz.prog.info? 45).map (fun i => (i.zero.map (fun z => z.cells), i.size, i.bytes)) = some (some (IV .i64 (zl 18)), 18, 144) := by kernel_rfl
  cases hq : Tryz.prog.info? 45 with
  | none => rw [hq] at h; cases h
  | some inf =>
    rw [hq] at h
    simp only [Option.map_some, Option.some.injEq, Prod.mk.injEq] at h
    obtain ⟨h1, h2, h3⟩ := h
    cases hz : inf.zero with
    | none => rw [hz] at h1; cases h1
    | some z =>
      rw [hz] at h1
      simp only [Option.map_some, Option.some.injEq] at h1
      exact ⟨inf, z, rfl, hz, h1, h2, h3⟩
theorem make_inos (w : World) (N : Nat) (hN : N ≤ 5000) : ∃ w', (Instr.makeSlice 74 (.int .i64 N) (.int .i64 N)).run Tryz.prog w = .ok (.slice (some ⟨w.heap.size, 0, none⟩) N N) w' ∧ Inos w' w.heap.size N (fun _ => zl 18) ∧ Below w.heap.size w w' := by
  obtain ⟨i, z, h2, h3, hc, h4, h5⟩ := info_inoz
  have hr := run_make (P := Tryz.prog) w 74 45 i z Tryz.underlying74 h2 h3 .i64 .i64 N N (by omega) (Int.le_refl _) (by rw [h5]; omega) (by omega)
  rw [Int.toNat_natCast, h4, hc] at hr
  refine ⟨_, hr, ⟨_, (hopN w _).1, by rw [size_madeCells], fun j hj => ⟨zl_length _, ?_⟩⟩, (Below.refl _ _).alloc (Nat.le_refl _) _⟩
  apply Array.ext_getElem?
  intro k
  rw [Array.getElem?_extract, IV_get?, size_madeCells]
  by_cases hk : k < 18
  · rw [if_pos (by omega)]
    have hm : ((IV .i64 (zl 18)).size : Nat) = 18 := by simp
    have hlt : (j * 18 + k) % 18 < 18 := Nat.mod_lt _ (by omega)
    have hz : ∀ n, n < 18 → (IV .i64 (zl 18))[n]! = .int .i64 0 := fun n hn => by
      rw [getElem!_def, IV_get?]
      unfold zl
      rw [List.getElem?_replicate, if_pos hn]; rfl
    unfold madeCells
    rw [Array.getElem?_map, Array.getElem?_range, if_pos (by omega)]
    simp only [Option.map_some, hm, hz _ hlt]
    unfold zl
    rw [List.getElem?_replicate, if_pos hk]; rfl
  · rw [if_neg (by omega), List.getElem?_eq_none (by simp; omega)]; rfl
/-- slots lie in block g -/
def Slots (w : World) (g : Nat) (l : List Ent) : Prop := ∃ cs, hat w g = some (.cells cs 93) ∧ ∀ k x nm, l[k]? = some (x, nm) → cs[k * 2]? = some (.int .i64 x) ∧ cs[k * 2 + 1]? = some (.string nm)
theorem Slots.same {w w' : World} {g : Nat} {l : List Ent} (h : Slots w g l) (he : hat w' g = hat w g) : Slots w' g l := by
  obtain ⟨cs, h1, h2⟩ := h
  exact ⟨cs, he.trans h1, h2⟩
theorem slotRow_get : ∀ (l : List Ent) (k : Nat) (x : Int) (nm : ByteArray), l[k]? = some (x, nm) → (slotRow l)[k * 2]? = some (.int .i64 x) ∧ (slotRow l)[k * 2 + 1]? = some (.string nm)
  | [], k, x, nm, h => by simp at h
  | e :: r, 0, x, nm, h => by
    simp at h
    subst h
    exact ⟨rfl, rfl⟩
  | e :: r, k + 1, x, nm, h => by
    have h2 : r[k]? = some (x, nm) := by simpa using h
    obtain ⟨a, b⟩ := slotRow_get r k x nm h2
    have e1 : slotRow (e :: r) = [.int .i64 e.1, .string e.2] ++ slotRow r := rfl
    rw [e1]
    constructor
    · rw [List.getElem?_append_right (by show 2 ≤ (k + 1) * 2; omega)]
      rw [show (k + 1) * 2 - [Value.int .i64 e.1, Value.string e.2].length = k * 2 by show (k + 1) * 2 - 2 = _; omega]
      exact a
    · rw [List.getElem?_append_right (by show 2 ≤ (k + 1) * 2 + 1; omega)]
      rw [show (k + 1) * 2 + 1 - [Value.int .i64 e.1, Value.string e.2].length = k * 2 + 1 by show (k + 1) * 2 + 1 - 2 = _; omega]
      exact b
theorem slots_of {w : World} {base : Nat} {v : Value} {l : List Ent} (h : w.ownsRow base 93 2 v l.length (slotRow l)) : (l = [] ∧ ∃ a c, v = .slice a 0 c) ∨ ∃ g c, v = .slice (some ⟨g, 0, none⟩) l.length c ∧ base ≤ g ∧ Slots w g l := by
  obtain ⟨h0, ⟨rfl, hn⟩ | ⟨g, cap, cur, h1, h2, h3, h4, h5, h6, h7⟩⟩ := h
  · exact .inl ⟨List.length_eq_zero_iff.1 hn, none, 0, rfl⟩
  · refine .inr ⟨g, cap, h1, h2, cur, h3, fun k x nm hk => ?_⟩
    obtain ⟨a, b⟩ := slotRow_get l k x nm hk
    have hkl := (List.getElem?_eq_some_iff.1 hk).1
    rw [← h7, List.getElem?_take, if_pos (by omega)] at a
    rw [← h7, List.getElem?_take, if_pos (by omega)] at b
    exact ⟨by simpa using a, by simpa using b⟩
/-- may the slots of a directory be? -/
def EntOk (I : Nat → List Int) (M : Nat) (l : List Ent) : Prop := (∀ e ∈ l, 2 ≤ e.1 ∧ e.1 < M ∧ nth (I e.1.toNat) 0 ≠ 0) ∧ (l.map Prod.snd).Nodup
def dirOkW (S I : Nat → List Int) (M i : Nat) : Prop := nth (I i) 0 = 2 → ∃ l, slotsW S (blksW S (I i)) [] = some l ∧ EntOk I M l
def DirsOk (S I : Nat → List Int) (M : Nat) : Prop := ∀ i, 1 ≤ i → i < M → dirOkW S I M i
/-- the slots of directory i -/
def entL (S I : Nat → List Int) (M : Nat) (i : Nat) : List Ent := if 1 ≤ i ∧ i < M ∧ nth (I i) 0 = 2 then (slotsW S (blksW S (I i)) []).getD [] else []
theorem entL_yes {S I : Nat → List Int} {M i : Nat} (h1 : 1 ≤ i) (h2 : i < M) (h3 : nth (I i) 0 = 2) {l : List Ent} (h : slotsW S (blksW S (I i)) [] = some l) : entL S I M i = l := by
  unfold entL
  rw [if_pos ⟨h1, h2, h3⟩, h]; rfl
theorem entL_no {S I : Nat → List Int} {M i : Nat} (h3 : nth (I i) 0 ≠ 2) : entL S I M i = [] := by
  unfold entL
  rw [if_neg (fun h => h3 h.2.2)]
/-- how often j is named by the first i directories -/
def cntI (L : Nat → List Ent) (i j : Nat) : Nat := ((List.range i).map fun i' => (L i').countP fun e => decide (e.1 = (j : Int))).sum
theorem cntI_succ (L : Nat → List Ent) (i j : Nat) : cntI L (i + 1) j = cntI L i j + (L i).countP fun e => decide (e.1 = (j : Int)) := by
  unfold cntI
  rw [List.range_succ, List.map_append, List.sum_append]
  simp
theorem cntI_cntL (L : Nat → List Ent) (N j : Nat) : cntI L (N + 1) j = cntL L N j := rfl
/-- a set of inodes, closed under what directories name -/
def Closed (L : Nat → List Ent) (P : Nat → Prop) : Prop := ∀ i e, P i → e ∈ L i → P e.1.toNat
structure RchIs (L : Nat → List Ent) (M : Nat) (rch : Int → Bool) : Prop where
  one : rch 1 = true
  cl : ∀ i : Nat, i < M → rch i = true → ∀ e ∈ L i, rch e.1 = true
  low : ∀ P : Nat → Prop, P 1 → Closed L P → ∀ j : Nat, j < M → rch j = true → P j
/-- how many are not reached -/
def unr (M : Nat) (rch : Int → Bool) : Nat := ((List.range M).filter fun (j : Nat) => !rch (j : Int)).length
theorem unr_add {M : Nat} {rch : Int → Bool} {x : Nat} (hx : x < M) (h : rch x = false) : unr M (addS rch x) < unr M rch := by
  unfold unr
  have e : (List.range M).filter (fun (j : Nat) => !addS rch x (j : Int)) = ((List.range M).filter fun (j : Nat) => !rch (j : Int)).filter fun j => j != x := by
    rw [List.filter_filter]
    apply List.filter_congr
    intro j _
    by_cases hj : j = x
    · subst hj; simp [addS]
    · have : ¬ ((j : Int) = (x : Int)) := by omega
      simp [addS, hj, this]
  rw [e, List.length_filter_lt_length_iff_exists]
  exact ⟨x, List.mem_filter.2 ⟨List.mem_range.2 hx, by simp [h]⟩, by simp⟩
theorem unr_le (M : Nat) (rch : Int → Bool) : unr M rch ≤ M := by
  unfold unr
  exact Nat.le_trans (List.length_filter_le _ _) (by simp)
theorem take_count {l : List Ent} {k : Nat} {e : Ent} (h : l[k]? = some e) (f : Ent → Bool) : (l.take (k + 1)).countP f = (l.take k).countP f + if f e = true then 1 else 0 := by
  rw [List.take_add_one, h, List.countP_append]
  simp [List.countP_cons]
end Go.Proofs.YthioepdgnbdohaaGreat
