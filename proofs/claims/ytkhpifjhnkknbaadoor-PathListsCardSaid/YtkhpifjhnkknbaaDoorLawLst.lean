/- Lists of texts, joined and split: the law's walk. -/
import Derived.Test.YtkhpifjhnkknbaaDoorLsp
import Derived.Test.YtkhpifjhnkknbaaDoorKnp
import Derived.Test.YtkhpifjhnkknbaaDoorLawRef
namespace Go.Proofs.YtkhpifjhnkknbaaDoor
set_option linter.unusedSimpArgs false
set_option linter.unusedVariables false
open Go.RowKit

def spare : ByteArray := { data := #[115, 112, 97, 114, 101] }
def room : ByteArray := { data := #[114, 111, 111, 109] }
def two : List Value := [.string spare, .string room]
theorem two_one : ∀ u ∈ two, u.oneCell' = true := by
  intro u hu
  simp [two] at hu
  rcases hu with rfl | rfl <;> rfl
theorem cells_two (w : World) : ∀ (j : Nat) (u : Value), two[j]? = some u → (w.alloc (.cells #[.string spare, .string room] 9)).cell? ((⟨w.heap.size, 0, none⟩ : Addr).add j) = some u := by
  intro j u hj
  have hadd : (⟨w.heap.size, 0, none⟩ : Addr).add j = ⟨w.heap.size, j, none⟩ := by unfold Addr.add; split <;> simp_all
  rw [hadd, cell_hat (hopN w _).1]
  simpa [two] using hj
theorem own_at_least {w : World} {B n q : Nat} {e : TypeId} {v : Value} {xs : List Value} (h : w.ownsRow B e 1 v n xs) (hq : v.ownBlock = some q) : B ≤ q := by
  rcases h.2 with ⟨rfl, -⟩ | ⟨g, cap, cur, rfl, hB, -⟩
  · cases hq
  · have : g = q := by simpa [Value.ownBlock] using hq
    omega

theorem row_cell {w : World} {B g n c : Nat} {e : TypeId} {xs : List Value} (h : w.ownsRow B e 1 (.slice (some ⟨g, 0, none⟩) n c) n xs) {j : Nat} {x : Value} (hx : xs[j]? = some x) : cellOf j (hat w g) = some x := by
  rcases h.2 with ⟨h1, -⟩ | ⟨g1, cap, cur, h1, -, h2, -, -, -, h6⟩
  · cases h1
  · cases h1
    rw [← cell?_of_hat, cell_hat h2]
    rw [← h6, List.getElem?_take] at hx
    split at hx
    · simpa using hx
    · cases hx
theorem strs_pre {w : World} {g L c B : Nat} {la : List ByteArray} (hB : B ≤ g) (hg : g < w.heap.size) (hl : la.length = L) (hc : L ≤ c) (h48 : L ≤ 140737488355328) (h : ∀ j x, la[j]? = some x → cellOf j (hat w g) = some (.string x)) : Strs w B (.slice (some ⟨g, 0, none⟩) L c) la := by
  refine .inr ⟨g, 0, c, by rw [hl], by rw [hl]; exact hc, by rw [hl]; exact h48, hB, hg, fun j x hx => ?_⟩
  rw [Nat.zero_add, cell?_of_hat]; exact h j x hx
theorem MaxAt.keep {w w' : World} {m : Int} {B : Nat} (h : MaxAt w m) (hb : Below B w w') (hB : 0 < B) : MaxAt w' m := (hb.cell (p := ⟨0, 0, none⟩) hB).trans h
set_option maxHeartbeats 8000000 in
set_option maxRecDepth 100000 in
theorem pathLists_any (u : Value) (la : List ByteArray) (p : ByteArray) (m : Int) (w : World) (hm : MaxAt w m) (hu : Arg w u la) (h16 : la.length * 16 ≤ 140737488351232) :
    Calls Tryd.prog 5 #[u, .string p] w fun e w' => e = .returned (.bool true) ∧ Below w.heap.size w w' := by
  obtain ⟨i0, hi, hz0, hz1, hz2⟩ := info_parts Tryd.infoS
  obtain ⟨i1, hj, hy0, hy1, hy2⟩ := info_parts Tryd.infoL
  have HM := Lib.hid hm
  have HM0 := Lib.hid hm
  have hul : ∃ a c, u = .slice a la.length c := by obtain ⟨a, c, rfl, -⟩ := hu; exact ⟨a, c, rfl⟩
  obtain ⟨ua, uc, hue⟩ := hul
  have HU := Lib.hid hu
  clear hm hu
  generalize hL : la.length = L at *
  have HL := Lib.hid hL
  clear hL
  subst hue
  have hL0 : (0 : Int) ≤ (L : Int) := Int.natCast_nonneg _
  have hL1 : (L : Int) + 2 ≤ 9223372036854775807 := by omega
  go_enter Tryd.func5, Tryd.ntmps5
  go_wp2_with (first
    | (at_builtin; refine wpList_append_arg0 _ rfl (.tmp 29) (.tmp 30) 25 rfl 9 rfl Tryd.underlying25 i0 hi hz0 hz1 hz2 w.heap.size w.heap.size rfl (own0 w w.heap.size (Nat.le_refl _)) _ la rfl (HU.out.call ((Below.refl w.heap.size w).alloc (Nat.le_refl _) (.cells #[] 9))) (Nat.le_refl _) (by simp) (by rw [HL.out]; exact h16) (fun v1 w1 hown1 hb1 hb1' => ?_); have hb1 := hb1'.size; have hw1 : w.heap.size + 1 ≤ w1.heap.size := (by simpa using hb1); have HB1 := Lib.hid (((Below.refl w.heap.size w).alloc (Nat.le_refl _) (.cells #[] 9)).trans hb1'); have HO1 := Lib.hid hown1; clear hown1 hb1 hb1')
    | (at_builtin; go_loud (refine wpList_append_own _ rfl (.tmp 31) (.tmp 32) 25 rfl w.heap.size 9 i0 _ 1 16 Tryd.underlying25 hi hz0 hz1 hz2 rfl (by decide) v1 L (la.map Value.string) rfl (by rw [← HL.out]; exact HO1.out.alloc _) ⟨w1.heap.size, 0, none⟩ 2 2 two rfl rfl (cells_two w1) two_one (by unfold maxLen; omega) (by omega) (by simp; omega) (fun v2 w2 hown2 hgrow2 hiff => ?_); clear hiff; obtain ⟨gF, cF, rfl, hgF1, hgF2⟩ := hown2.form (by omega); have hcF := own_le hown2; have HB2 := Lib.hid ((HB1.out.alloc (by omega) (.cells #[.string spare, .string room] 9)).grown hgrow2 (by simp; omega) (fun q hq => own_at_least HO1.out hq)); have HO2 := Lib.hid hown2; clear hown2 hgrow2 HB1 HO1)))
  have hcl : ∀ j x, la[j]? = some x → cellOf j (hat w2 gF) = some (.string x) := fun j x hx => by
    have hj : j < la.length := (List.getElem?_eq_some_iff.1 hx).1
    exact row_cell HO2.out (by rw [List.getElem?_append_left (by simpa using hj), List.getElem?_map, hx]; rfl)
  have hcs : cellOf L (hat w2 gF) = some (.string spare) := row_cell HO2.out (by rw [List.getElem?_append_right (by simp [HL.out]), List.length_map, HL.out, Nat.sub_self]; rfl)
  have hcr : cellOf (L + 1) (hat w2 gF) = some (.string room) := row_cell HO2.out (by rw [List.getElem?_append_right (by simp [HL.out]), List.length_map, HL.out, Nat.add_sub_cancel_left]; rfl)
  have HCL := Lib.hid hcl
  have HCS := Lib.hid hcs
  have HCR := Lib.hid hcr
  clear hcl hcs hcr HO2
  have HM := Lib.hid (HM.out.call HB2.out)
  have HU := Lib.hid (HU.out.call HB2.out)
  have hb := HB2.out
  clear HB2
  refine (join_any _ la 0 _ (strs_pre (Nat.zero_le _) hgF2 HL.out (by omega) (by omega) HCL.out)).mono ?_; rintro e w3 ⟨rfl, hb2⟩
  have hb := below_call hb hb2 hb.size
  have HM := Lib.hid (HM.out.call hb2)
  have HU := Lib.hid (HU.out.call hb2)
  have HH := Lib.hid (hat_below hb2 hgF2)
  have hgF3 : gF < w3.heap.size := Nat.lt_of_lt_of_le hgF2 hb2.size
  clear hb2
  go_wp2_with fail
  refine (rjoin_arg _ la _ HU.out).mono ?_; rintro e w3' ⟨rfl, hw3⟩; rw [hw3]
  clear hw3
  generalize hJ1 : (joinR la).1 = JS at *
  generalize hJ2 : (joinR la).2 = JE at *
  clear hJ1 hJ2
  go_wp2_with fail
  refine (sameTexts_arg _ _ la 0 _ (strs_pre (Nat.zero_le _) hgF3 HL.out (by omega) (by omega) (by rw [HH.out]; exact HCL.out)) HU.out).mono ?_; rintro e w4 ⟨rfl, hb2⟩
  have hb := below_call hb hb2 hb.size
  have HM := Lib.hid (HM.out.call hb2)
  have hc1 : cellOf L (hat w4 gF) = some (.string spare) := by rw [hat_below hb2 hgF3, HH.out]; exact HCS.out
  have hc2 : cellOf (L + 1) (hat w4 gF) = some (.string room) := by rw [hat_below hb2 hgF3, HH.out]; exact HCR.out
  unfold spare at hc1
  unfold room at hc2
  clear hb2 HH HCL HCS HCR HU hgF3 hgF2
  go_wp2_with fail
  have hbase : w.heap.size ≤ w4.heap.size := hb.size
  have hz4 : 0 < w4.heap.size := HM.out.lt
  go_loopw [11, 12] (fun l i wr => ∃ (k : Nat) (es : List (Nat × Nat)), k ≤ 5 ∧ i = .int .i64 k ∧ es.length = k ∧ wr.ownsRow w4.heap.size 25 1 l k (es.map ev) ∧ Below w.heap.size w wr ∧ MaxAt wr m ∧ Txt wr w4.heap.size ∧ EsOk w4.heap.size wr es) (fun _ i _ => 5 - (intOf i).toNat)
  case atStart => exact ⟨0, [], by omega, rfl, rfl, ⟨rfl, .inl ⟨rfl, rfl⟩⟩, below_new hb hb.size _, HM.out.call ((Below.refl w4.heap.size w4).alloc (Nat.le_refl _) _), Txt.new w4 _ _ _ _ _, EsOk.nil _ _⟩
  case round =>
    clear hb HM hc1 hc2 hcF hgF1 hL1 hL0 h16 HL hb1 hw1
    obtain ⟨k, es, hk, rfl, hel, hown, hb, hm, htx, hes⟩ := hrel
    have HM := Lib.hid hm
    have HEL := Lib.hid hel
    have HO := Lib.hid hown
    have HT := Lib.hid htx
    have HE := Lib.hid hes
    clear hm hel hown htx hes
    by_cases hk5 : k < 5
    · obtain ⟨x, hx⟩ := HT.out.cell hk5
      go_wp2_with fail
      refine (split_own x m _ HM.out).mono ?_; rintro e w5 ⟨v5, rfl, hs5, hb5⟩
      have hx5 : cellOf k (hat w5 w4.heap.size) = some (.string x) := by rw [hat_below hb5 (by obtain ⟨cur, h1, -⟩ := HT.out; exact hat_lt h1)]; exact hx
      have HM := Lib.hid (HM.out.call hb5)
      have HK5 := Lib.hid hb5
      have hb := below_call hb hb5 hb.size
      have HS5 := Lib.hid hs5
      have hlt5 : w4.heap.size < w5.heap.size := by
        obtain ⟨cur, h1, -⟩ := HT.out
        have := hat_lt h1
        have := hb5.size
        omega
      clear hb5 hs5 hx
      go_wp2_with fail
      refine (rsplit_any x _).mono ?_; rintro e w6 ⟨v6, rfl, hs6, hb6⟩
      have HM := Lib.hid (HM.out.call hb6)
      have HK6 := Lib.hid (below_call HK5.out hb6 HK5.out.size)
      have hb := below_call hb hb6 hb.size
      have HS5 := Lib.hid (HS5.out.keeps (keeps_below hb6))
      have HS6 := Lib.hid hs6
      have hlt6 : w4.heap.size < w6.heap.size := Nat.lt_of_lt_of_le hlt5 hb6.size
      clear hb6 hs6 hx5 HK5 hlt5
      generalize hSE : (spl x).2 = SE at *
      clear hSE
      go_wp2_with fail
      refine (sameTexts_any _ _ _ _ _ _ _ HS5.out.strs HS6.out).mono ?_; rintro e w7 ⟨rfl, hb7⟩
      rw [decide_eq_true rfl]
      have HM := Lib.hid (HM.out.call hb7)
      have HK7 := Lib.hid (below_call HK6.out hb7 HK6.out.size)
      have hb := below_call hb hb7 hb.size
      have HS7 := Lib.hid (HS5.out.keeps (keeps_below hb7))
      have hlt7 : w4.heap.size < w7.heap.size := Nat.lt_of_lt_of_le hlt6 hb7.size
      obtain ⟨a5, rfl⟩ := HS5.out.slice
      clear hb7 HK6 HS5 HS6 hlt6
      have HO7 : Hid (w7.ownsRow w4.heap.size 25 1 u11 k (es.map ev)) := Lib.hid (own_call HO.out HK7.out)
      go_wp2_with (at_builtin; refine wpList_append_own _ rfl (.tmp 118) (.tmp 120) 31 rfl w4.heap.size 25 i1 _ 1 24 Tryd.underlying31 hj hy0 hy1 hy2 rfl (by decide) u11 k (es.map ev) rfl (HO7.out.alloc _) ⟨w7.heap.size, 0, none⟩ 1 1 [_] rfl rfl (cell_one _ 25) (slice_one ⟨_, _, _, rfl⟩) (by unfold maxLen; omega) (by omega) (by simp; omega) (fun l8 w8 hown8 hgrow8 hiff => ?_); clear hiff; have HOA := Lib.hid hown8; have HGA := Lib.hid hgrow8; clear hown8 hgrow8)
      have hkp : Keeps w7 w8 := (keeps_alloc w7 _).trans (keeps_grown (HO7.out.alloc _) HGA.out)
      have hlt8 : w7.heap.size < w8.heap.size := by
        have := HGA.out.size
        simp at this; omega
      obtain ⟨e8, he8, hn8, hes8⟩ := HE.out.one ((keeps_below HK7.out).trans hkp) (by obtain ⟨cur, h1, -⟩ := HT.out; exact Nat.le_of_lt (hat_lt h1)) (Nat.lt_of_le_of_lt HK7.out.size hlt8) (HS7.out.keeps hkp)
      have hb8 : Below w4.heap.size w7 w8 := ((Below.refl w4.heap.size w7).alloc (Nat.le_of_lt hlt7) _).grown HGA.out (by simp; omega) (fun q hq => own_at_least HO7.out hq)
      go_roundw
      case rel =>
        refine ⟨k + 1, es ++ [e8], by omega, by go_num, by simp [HEL.out], ?_, ?_, ?_, ?_, hes8⟩
        · rw [List.map_append, List.map_singleton, ← he8]; exact HOA.out
        · exact hb.trans (hb8.mono hbase)
        · exact HM.out.keep hb8 hz4
        · exact HT.out.keeps ((keeps_below HK7.out).trans hkp)
      case measure => (show 5 - (k + 1) < 5 - k); omega
    · obtain rfl : k = 5 := by omega
      obtain ⟨gl, cl, rfl, hgl1, hgl2⟩ := HO.out.form (by omega)
      have hll := LL.of_own HO.out
      have hcc := CC.start HE.out
      have HLL := Lib.hid hll
      have HCC := Lib.hid hcc
      have HB := Lib.hid hb
      have hW1 := hb.size
      clear hll hcc hk hk5 hb HM HO HT hgl1
      rw [show ((5 : Nat) : Int) = 5 from rfl]
      go_wp2_with fail
      go_loopw [17] (fun i w6 => ∃ k : Nat, k ≤ 5 ∧ i = .int .i64 k ∧ Below w.heap.size w w6 ∧ LL w6 gl es ∧ CC w6 es k 0) (fun i _ => 5 - (intOf i).toNat)
      case atStart => exact ⟨0, by omega, rfl, HB.out, HLL.out, HCC.out⟩
      case round =>
        clear HB HLL HCC hgl2
        obtain ⟨k, hk, rfl, hb, hll, hcc⟩ := hrel
        have HB := Lib.hid hb
        have HLL := Lib.hid hll
        have HCC := Lib.hid hcc
        clear hb hll hcc
        by_cases hk5 : k < 5
        · obtain ⟨e, he⟩ := getElem_opt (l := es) (k := k) (by rw [HEL.out]; exact hk5)
          have hlc := HLL.out.cell he
          have HE1 := Lib.hid he
          have hn401 := HE.out.small e (List.mem_of_getElem? he)
          clear he
          obtain ⟨g, n⟩ := e
          simp only at hlc hn401
          have d5 : decide ((k : Int) < 5) = true := decide_eq_true (by omega)
          go_wp2_with fail
          clear d5
          have hki0 : (0 : Int) ≤ (k : Int) := Int.natCast_nonneg _
          have hki1 : (k : Int) < 5 := by omega
          go_loopw [18] (fun i w7 => ∃ q : Nat, q ≤ n ∧ i = .int .i64 q ∧ Below w.heap.size w w7 ∧ LL w7 gl es ∧ CC w7 es k q) (fun i _ => n - (intOf i).toNat)
          case atStart => exact ⟨0, Nat.zero_le _, rfl, HB.out, HLL.out, HCC.out⟩
          case round =>
            clear HB HLL HCC hlc
            obtain ⟨q, hq, rfl, hb, hll, hcc⟩ := hrel
            have HB := Lib.hid hb
            have HLL := Lib.hid hll
            have HCC := Lib.hid hcc
            clear hb hll hcc
            have hlc := HLL.out.cell HE1.out
            simp only at hlc
            by_cases hqn : q < n
            · obtain ⟨cur, x, hcur, hcx⟩ := HCC.out.cell HE1.out hqn
              rw [ea_pos (by show n ≠ 0; omega)] at hlc
              simp only at hcur hlc
              have hne := HLL.out.ne hcur
              have hgle : gl < wr.heap.size := HLL.out.lt
              have hqi0 : (0 : Int) ≤ (q : Int) := Int.natCast_nonneg _
              have hqi1 : (q : Int) < (n : Int) := by omega
              go_wp2_with fail
              go_region_held3 (fun w' => cellOf k (hat w' gl) = some (.slice (some ⟨g, 0, none⟩) n n)) (first | assumption | (rw [hat_setCell_ne _ _ _ _ _ hne]; assumption))
                (first | (refine (tag_any k hk5 _).mono ?_; rintro e w8 ⟨rfl, hb8⟩; have hlc8 : cellOf k (hat w8 gl) = some (.slice (some ⟨g, 0, none⟩) n n) := (by rw [hat_below hb8 hgle]; exact hlc); have hcur8 := (hop hb8 hcur).1))
              have hb8 : Below wr.heap.size wr w8 := ⟨hb8.os, hb8.tape, hb8.output, hb8.size, hb8.block⟩
              have hb8' := (below_call HB.out hb8 HB.out.size).setCell (p := ⟨g, q, none⟩) (show w.heap.size ≤ g from Nat.le_trans hbase (HE.out.base _ (List.mem_of_getElem? HE1.out))) (.string (tg k))
              have hll8 := (HLL.out.below hb8).same (hat_setCell_ne w8 g q (.string (tg k)) gl hne)
              have hcc8 := CC.set HE.out.apart (HCC.out.below hb8) HE1.out hqn
              have H8 := Lib.hid hb8'
              have HL8 := Lib.hid hll8
              have HC8 := Lib.hid hcc8
              clear hb8 hb8' hll8 hcc8 hcur hcx hcur8 hlc8 hlc hne hgle HB HLL HCC
              simp only at HC8
              generalize w8.setCell ⟨g, q, none⟩ (.string (tg k)) = w9 at *
              go_wp2_with fail
              go_roundw
              case rel => exact ⟨q + 1, by omega, by go_num, H8.out, HL8.out, HC8.out⟩
              case measure => (show n - (q + 1) < n - q); omega
            · obtain rfl : q = n := by omega
              have hcn := HCC.out.next HE1.out rfl
              have HCN := Lib.hid hcn
              clear hcn
              go_wp2_with fail
              go_roundw
              case rel => exact ⟨k + 1, by omega, by go_num, HB.out, HLL.out, HCN.out⟩
              case measure => (show 5 - (k + 1) < 5 - k); omega
        · obtain rfl : k = 5 := by omega
          rw [show ((5 : Nat) : Int) = 5 from rfl]
          obtain ⟨W2, rfl⟩ : ∃ W2, W2 = wr := ⟨_, rfl⟩
          have hW2 := HB.out.size
          have hgl2 := HLL.out.lt
          clear hk hk5
          go_wp2_with fail
          go_loopw [19, 20] (fun gv i w9 => ∃ (k : Nat) (vs : List Value), k ≤ 5 ∧ i = .int .i64 k ∧ vs.length = k ∧ w9.ownsRow W2.heap.size 25 1 gv k vs ∧ Below W2.heap.size W2 w9 ∧ GG w9 es vs) (fun _ i _ => 5 - (intOf i).toNat)
          case atStart => exact ⟨0, [], by omega, rfl, rfl, ⟨rfl, .inl ⟨rfl, rfl⟩⟩, Below.refl _ _, fun j e v _ hv => by simp at hv⟩
          case round =>
            obtain ⟨k, vs, hk, rfl, hvl, hown, hb9, hgg⟩ := hrel
            have HVL := Lib.hid hvl
            have HVO := Lib.hid hown
            have HB9 := Lib.hid hb9
            have HGG := Lib.hid hgg
            have hW9 := hb9.size
            clear hvl hown hb9 hgg
            by_cases hk5 : k < 5
            · obtain ⟨e, he⟩ := getElem_opt (l := es) (k := k) (by rw [HEL.out]; exact hk5)
              have hlc : cellOf k (hat wr gl) = some (.slice (ea e) e.2 e.2) := by rw [hat_below HB9.out hgl2]; exact HLL.out.cell he
              have HE1 := Lib.hid he
              have hn401 := HE.out.small e (List.mem_of_getElem? he)
              have hfull : Full wr (ea e) e.2 (List.replicate e.2 (.string (tg k))) := (full_cc HCC.out hk5 he).below HB9.out
              have HF := Lib.hid hfull
              clear he hfull
              obtain ⟨g, n⟩ := e
              simp only at hlc hn401 HF
              generalize ea (g, n) = ao at *
              have d5 : decide ((k : Int) < 5) = true := decide_eq_true (by omega)
              go_wp2_with fail
              clear d5 hlc
              obtain ⟨W3, rfl⟩ : ∃ W3, W3 = wr := ⟨_, rfl⟩
              go_loopw [21, 22] (fun v i w10 => ∃ q : Nat, q ≤ 9 ∧ i = .int .i64 q ∧ Gr W3 w10 ao n (List.replicate n (.string (tg k))) (tg k) v q ∧ Below W3.heap.size W3 w10) (fun _ i _ => 9 - (intOf i).toNat)
              case atStart => exact ⟨0, by omega, rfl, .inl ⟨rfl, rfl⟩, Below.refl _ _⟩
              case round =>
                obtain ⟨q, hq, rfl, hgr, hb10⟩ := hrel
                have HGR := Lib.hid hgr
                have HB10 := Lib.hid hb10
                have hW10 := hb10.size
                clear hgr hb10
                by_cases hq9 : q < 9
                · go_wp2_with fail
                  refine (tag_any k hk5 _).mono ?_; rintro e w11 ⟨rfl, hb11⟩
                  have HGR := Lib.hid (HGR.out.below hb11)
                  have HB11 := Lib.hid (below_call HB10.out hb11 HB10.out.size)
                  have HF2 := Lib.hid (HF.out.below HB11.out)
                  have hW11 := hb11.size
                  clear hb11
                  go_wp2_with (at_builtin; refine wpList_append_gr _ rfl (.tmp 159) (.tmp 162) 25 rfl W3 9 rfl Tryd.underlying25 i0 hi hz0 hz1 hz2 ao n (List.replicate n (.string (tg k))) (tg k) u21 q rfl w11.heap.size 1 rfl (HGR.out.below ((Below.refl w11.heap.size w11).alloc (Nat.le_refl _) _)) (HF2.out.below ((Below.refl w11.heap.size w11).alloc (Nat.le_refl _) _)) (by omega) (by omega) (by first | omega | (simp; omega)) (hopN w11 _).1 (fun v12 w12 hown12 hb12 => ?_); have HOA := Lib.hid hown12; have HBA := Lib.hid (HB11.out.trans (((Below.refl W3.heap.size w11).alloc (by omega) _).trans hb12)); clear hown12 hb12)
                  go_roundw
                  case rel => exact ⟨q + 1, by omega, by go_num, .inr ⟨by omega, HOA.out⟩, HBA.out⟩
                  case measure => (show 9 - (q + 1) < 9 - q); omega
                · obtain rfl : q = 9 := by omega
                  have hown : wr.ownsRow W3.heap.size 9 1 u21 (n + 9) (List.replicate n (.string (tg k)) ++ List.replicate 9 (.string (tg k))) := by
                    rcases HGR.out with ⟨h0, -⟩ | ⟨-, h⟩
                    · omega
                    · exact h
                  have hhh := HH.of_own (e := (g, n)) hown
                  obtain ⟨h, c, rfl, -, -⟩ := hown.form (by omega)
                  have HHH := Lib.hid hhh
                  clear hown hhh HGR hq hq9
                  have hVO : wr.ownsRow W2.heap.size 25 1 u19 k vs := own_call HVO.out HB10.out
                  have HVR := Lib.hid hVO
                  clear hVO
                  rw [show ((9 : Nat) : Int) = 9 from rfl]
                  go_wp2_with (at_builtin; refine wpList_append_own _ rfl (.tmp 164) (.tmp 166) 31 rfl W2.heap.size 25 i1 _ 1 24 Tryd.underlying31 hj hy0 hy1 hy2 rfl (by decide) u19 k vs rfl (HVR.out.alloc _) ⟨wr.heap.size, 0, none⟩ 1 1 [_] rfl rfl (cell_one _ 25) (slice_one ⟨_, _, _, rfl⟩) (by unfold maxLen; omega) (by omega) (by simp; omega) (fun l8 w8 hown8 hgrow8 hiff => ?_); clear hiff; have HOA := Lib.hid hown8; have HGA := Lib.hid hgrow8; clear hown8 hgrow8)
                  have hkp : Keeps wr w8 := (keeps_alloc wr _).trans (keeps_grown (HVR.out.alloc _) HGA.out)
                  have hb8 : Below W2.heap.size wr w8 := ((Below.refl W2.heap.size wr).alloc (by omega) _).grown HGA.out (by simp; omega) (fun q hq => own_at_least HVR.out hq)
                  go_roundw
                  case rel =>
                    exact ⟨k + 1, vs ++ [_], by omega, by go_num, by simp [HVL.out], HOA.out, HB9.out.trans ((HB10.out.mono hW9).trans hb8), (HGG.out.keeps ((keeps_below HB10.out).trans hkp)).one HVL.out HE1.out (HHH.out.keeps hkp)⟩
                  case measure => (show 5 - (k + 1) < 5 - k); omega
            · obtain rfl : k = 5 := by omega
              obtain ⟨gg, cg, rfl, hgg1, hgg2⟩ := HVO.out.form (by omega)
              rw [show ((5 : Nat) : Int) = 5 from rfl]
              obtain ⟨W4, rfl⟩ : ∃ W4, W4 = wr := ⟨_, rfl⟩
              have hgl4 : gl < W4.heap.size := by omega
              have hvc : ∀ j v, vs[j]? = some v → cellOf j (hat W4 gg) = some v := fun j v hv => row_cell HVO.out hv
              have HVC := Lib.hid hvc
              have hBW := (HB.out.trans (HB9.out.mono hW2))
              have HBW := Lib.hid hBW
              have hll4 := HLL.out.below HB9.out
              have hcc4 := HCC.out.below HB9.out
              have HL4 := Lib.hid hll4
              have HC4 := Lib.hid hcc4
              have hW04 := hBW.size
              clear hvc hBW hll4 hcc4 hk hk5 HVO hgg1 HB HLL HCC HB9 hgl2
              go_wp2_with fail
              go_loopw [23] (fun i w9 => ∃ k : Nat, k ≤ 5 ∧ i = .int .i64 k ∧ Below W4.heap.size W4 w9) (fun i _ => 5 - (intOf i).toNat)
              case atStart => exact ⟨0, by omega, rfl, Below.refl _ _⟩
              case round =>
                obtain ⟨k, hk, rfl, hb9⟩ := hrel
                have HB9 := Lib.hid hb9
                have hW9 := hb9.size
                clear hb9
                by_cases hk5 : k < 5
                · obtain ⟨e, he⟩ := getElem_opt (l := es) (k := k) (by rw [HEL.out]; exact hk5)
                  obtain ⟨v, hv⟩ := getElem_opt (l := vs) (k := k) (by rw [HVL.out]; exact hk5)
                  have hn401 := HE.out.small e (List.mem_of_getElem? he)
                  obtain ⟨h, c, cur, rfl, hh2, hh3⟩ := HGG.out k e v he hv
                  have h4 : h < W4.heap.size := hat_lt hh2
                  have hl1 : cellOf k (hat W4 gl) = some (.slice (ea e) e.2 e.2) := HL4.out.cell he
                  have hl2 : cellOf k (hat W4 gg) = some (.slice (some ⟨h, 0, none⟩) (e.2 + 9) c) := HVC.out k _ hv
                  have hl3 : ∀ r, r < e.2 + 9 → cellOf r (hat W4 h) = some (.string (tg k)) := fun r hr => by rw [← cell?_of_hat, cell_hat hh2]; exact hh3 r hr
                  have hl4 : ∀ r, r < e.2 → ea e = some ⟨e.1, 0, none⟩ ∧ e.1 < W4.heap.size ∧ cellOf r (hat W4 e.1) = some (.string (tg k)) := fun r hr => by
                    have h5 := HC4.out.tag hk5 he (by omega)
                    refine ⟨ea_pos (by omega), hat_lt h5, ?_⟩
                    rw [← cell?_of_hat]
                    unfold texts at h5
                    rw [cell_hat h5]
                    simp [hr]
                  have HL1 := Lib.hid hl1
                  have HL2 := Lib.hid hl2
                  have HL3 := Lib.hid hl3
                  have HL4' := Lib.hid hl4
                  clear he hv hh2 hh3 hl3 hl4 hl1 hl2
                  obtain ⟨g, n⟩ := e
                  simp only at hn401 HL1 HL2 HL3 HL4'
                  generalize ea (g, n) = ao at *
                  have hlc : cellOf k (hat wr gg) = some (.slice (some ⟨h, 0, none⟩) (n + 9) c) := by rw [hat_below HB9.out hgg2]; exact HL2.out
                  have d5 : decide ((k : Int) < 5) = true := decide_eq_true (by omega)
                  go_wp2_with fail
                  clear d5 hlc
                  go_loopw [24] (fun i w10 => ∃ q : Nat, q ≤ n + 9 ∧ i = .int .i64 q ∧ Below W4.heap.size W4 w10) (fun i _ => n + 9 - (intOf i).toNat)
                  case atStart => exact ⟨0, by omega, rfl, HB9.out⟩
                  case round =>
                    clear HB9 hW9
                    obtain ⟨q, hq, rfl, hb9⟩ := hrel
                    have HB9 := Lib.hid hb9
                    have hW9 := hb9.size
                    clear hb9
                    have hki0 : (0 : Int) ≤ (k : Int) := Int.natCast_nonneg _
                    have hki1 : (k : Int) < 5 := by omega
                    have hqi0 : (0 : Int) ≤ (q : Int) := Int.natCast_nonneg _
                    have f1 : cellOf k (hat wr gl) = some (.slice ao n n) := by rw [hat_below HB9.out hgl4]; exact HL1.out
                    have f2 : cellOf k (hat wr gg) = some (.slice (some ⟨h, 0, none⟩) (n + 9) c) := by rw [hat_below HB9.out hgg2]; exact HL2.out
                    by_cases hqn : q < n + 9
                    · have f3 : cellOf q (hat wr h) = some (.string (tg k)) := by rw [hat_below HB9.out h4]; exact HL3.out q hqn
                      have hqi1 : (q : Int) < (n : Int) + 9 := by omega
                      by_cases hqm : q < n
                      · obtain ⟨rfl, hg4, f4'⟩ := HL4'.out q hqm
                        have f4 : cellOf q (hat wr g) = some (.string (tg k)) := by rw [hat_below HB9.out hg4]; exact f4'
                        have d6 : decide ((q : Int) < (n : Int)) = true := decide_eq_true (by omega)
                        have hqi2 : (q : Int) < (n : Int) := by omega
                        clear f4'
                        have fwr0 := f1
                        have fwr1 := f2
                        have fwr2 := f3
                        have fwr3 := f4
                        clear f1 f2 f3 f4
                        go_wp2_with fail
                        have hWr := HB9.out.size
                        have xwr0 : gl < wr.heap.size := by omega
                        have xwr1 : gg < wr.heap.size := by omega
                        have xwr2 : h < wr.heap.size := by omega
                        have xwr3 : g < wr.heap.size := by omega
                        go_region_held3 (fun w' => cellOf k (hat w' gl) = some (.slice (some ⟨g, 0, none⟩) n n) ∧ cellOf k (hat w' gg) = some (.slice (some ⟨h, 0, none⟩) (n + 9) c) ∧ cellOf q (hat w' h) = some (.string (tg k)) ∧ cellOf q (hat w' g) = some (.string (tg k))) (refine ⟨?_, ?_, ?_, ?_⟩ <;> assumption)
                          (first | (refine (tag_any k hk5 _).mono ?_; rintro e w11 ⟨rfl, hb11⟩; have hb11 : Below wr.heap.size wr w11 := ⟨hb11.os, hb11.tape, hb11.output, hb11.size, hb11.block⟩; have xw110 : gl < w11.heap.size := Nat.lt_of_lt_of_le xwr0 hb11.size; have xw111 : gg < w11.heap.size := Nat.lt_of_lt_of_le xwr1 hb11.size; have xw112 : h < w11.heap.size := Nat.lt_of_lt_of_le xwr2 hb11.size; have xw113 : g < w11.heap.size := Nat.lt_of_lt_of_le xwr3 hb11.size; have fw110 : cellOf k (hat w11 gl) = some (.slice (some ⟨g, 0, none⟩) n n) := (by rw [hat_below hb11 xwr0]; exact fwr0); have fw111 : cellOf k (hat w11 gg) = some (.slice (some ⟨h, 0, none⟩) (n + 9) c) := (by rw [hat_below hb11 xwr1]; exact fwr1); have fw112 : cellOf q (hat w11 h) = some (.string (tg k)) := (by rw [hat_below hb11 xwr2]; exact fwr2); have fw113 : cellOf q (hat w11 g) = some (.string (tg k)) := (by rw [hat_below hb11 xwr3]; exact fwr3)) | (refine (tag_any k hk5 _).mono ?_; rintro e w12 ⟨rfl, hb12⟩; have hb12 : Below w11.heap.size w11 w12 := ⟨hb12.os, hb12.tape, hb12.output, hb12.size, hb12.block⟩; have xw120 : gl < w12.heap.size := Nat.lt_of_lt_of_le xw110 hb12.size; have xw121 : gg < w12.heap.size := Nat.lt_of_lt_of_le xw111 hb12.size; have xw122 : h < w12.heap.size := Nat.lt_of_lt_of_le xw112 hb12.size; have xw123 : g < w12.heap.size := Nat.lt_of_lt_of_le xw113 hb12.size; have fw120 : cellOf k (hat w12 gl) = some (.slice (some ⟨g, 0, none⟩) n n) := (by rw [hat_below hb12 xw110]; exact fw110); have fw121 : cellOf k (hat w12 gg) = some (.slice (some ⟨h, 0, none⟩) (n + 9) c) := (by rw [hat_below hb12 xw111]; exact fw111); have fw122 : cellOf q (hat w12 h) = some (.string (tg k)) := (by rw [hat_below hb12 xw112]; exact fw112); have fw123 : cellOf q (hat w12 g) = some (.string (tg k)) := (by rw [hat_below hb12 xw113]; exact fw113)))
                        have hsz11 := hb11.size
                        have hbe := HB9.out.trans (hb11.mono (by omega))
                        have hbf := hbe.trans (hb12.mono (by omega))
                        have HBF := Lib.hid hbf
                        clear hbe hbf hb11 hb12 fwr0 fwr1 fwr2 fwr3
                        go_wp2_with fail
                        go_roundw
                        case rel => exact ⟨q + 1, by omega, by go_num, HBF.out⟩
                        case measure => (show n + 9 - (q + 1) < n + 9 - q); omega
                      · have d6 : decide ((q : Int) < (n : Int)) = false := decide_eq_false (by omega)
                        have fwr0 := f1
                        have fwr1 := f2
                        have fwr2 := f3
                        clear f1 f2 f3
                        go_wp2_with fail
                        have hWr := HB9.out.size
                        have xwr0 : gl < wr.heap.size := by omega
                        have xwr1 : gg < wr.heap.size := by omega
                        have xwr2 : h < wr.heap.size := by omega
                        --REGIONB
                        refine wp_region_noPanic ?_
                        refine wp_region_held_drew (S := (fun w' => cellOf k (hat w' gl) = some (.slice ao n n) ∧ cellOf k (hat w' gg) = some (.slice (some ⟨h, 0, none⟩) (n + 9) c) ∧ cellOf q (hat w' h) = some (.string (tg k)))) (by kernel_rfl) ⟨fwr0, fwr1, fwr2⟩ (fun hHeld => ?_)
                        refine wpAnyH_take (i := 0) (oi := { dst := some 183, op := Op.move (Operand.tmp 19), type := 31, pos := "law.go:100", after := #[], guard := none }) (v := ?v0) rfl (by kernel_rfl) (by kernel_rfl) (by kernel_rfl) (fun _ _ _ h => h) (Or.inl ⟨by rfl, ?hy0⟩) (by assumption) ?rest0
                        case hy0 => (intro w' hSw; (try dsimp only at hSw); go_simp; (try with_reducible rfl))
                        try simp only [Act.put, List.setIfInBounds_toArray, List.set_cons_zero, List.set_cons_succ]
                        refine wpAnyH_take (i := 1) (oi := { dst := some 184, op := Op.move (Operand.tmp 23), type := 3, pos := "law.go:100", after := #[], guard := none }) (v := ?v1) rfl (by kernel_rfl) (by kernel_rfl) (by kernel_rfl) (fun _ _ _ h => h) (Or.inl ⟨by rfl, ?hy1⟩) (by assumption) ?rest1
                        case hy1 => (intro w' hSw; (try dsimp only at hSw); go_simp; (try with_reducible rfl))
                        try simp only [Act.put, List.setIfInBounds_toArray, List.set_cons_zero, List.set_cons_succ]
                        refine wpAnyH_take (i := 2) (oi := { dst := some 185, op := Op.indexAddr 31 (Operand.tmp 183) (Operand.tmp 184), type := 0, pos := "law.go:100", after := #[{ on := 0, ground := Ground.data }, { on := 1, ground := Ground.data }], guard := none }) (v := ?v2) rfl (by kernel_rfl) (by kernel_rfl) (by kernel_rfl) (fun _ _ _ h => h) (Or.inl ⟨by rfl, ?hy2⟩) (by assumption) ?rest2
                        case hy2 => (intro w' hSw; (try dsimp only at hSw); go_simp; (try with_reducible rfl))
                        try simp only [Act.put, List.setIfInBounds_toArray, List.set_cons_zero, List.set_cons_succ]
                        refine wpAnyH_take (i := 3) (oi := { dst := some 186, op := Op.load 25 (Operand.tmp 185), type := 25, pos := "law.go:100", after := #[{ on := 2, ground := Ground.data }], guard := none }) (v := ?v3) rfl (by kernel_rfl) (by kernel_rfl) (by kernel_rfl) (fun _ _ _ h => h) (Or.inl ⟨by rfl, ?hy3⟩) (by assumption) ?rest3
                        case hy3 => (intro w' hSw; (try dsimp only at hSw); go_simp; (try with_reducible rfl))
                        try simp only [Act.put, List.setIfInBounds_toArray, List.set_cons_zero, List.set_cons_succ]
                        refine wpAnyH_take (i := 4) (oi := { dst := some 187, op := Op.move (Operand.tmp 24), type := 3, pos := "law.go:100", after := #[], guard := none }) (v := ?v4) rfl (by kernel_rfl) (by kernel_rfl) (by kernel_rfl) (fun _ _ _ h => h) (Or.inl ⟨by rfl, ?hy4⟩) (by assumption) ?rest4
                        case hy4 => (intro w' hSw; (try dsimp only at hSw); go_simp; (try with_reducible rfl))
                        try simp only [Act.put, List.setIfInBounds_toArray, List.set_cons_zero, List.set_cons_succ]
                        refine wpAnyH_take (i := 5) (oi := { dst := some 188, op := Op.indexAddr 25 (Operand.tmp 186) (Operand.tmp 187), type := 0, pos := "law.go:100", after := #[{ on := 3, ground := Ground.data }, { on := 4, ground := Ground.data }], guard := none }) (v := ?v5) rfl (by kernel_rfl) (by kernel_rfl) (by kernel_rfl) (fun _ _ _ h => h) (Or.inl ⟨by rfl, ?hy5⟩) (by assumption) ?rest5
                        case hy5 => (intro w' hSw; (try dsimp only at hSw); go_simp; (try with_reducible rfl))
                        try simp only [Act.put, List.setIfInBounds_toArray, List.set_cons_zero, List.set_cons_succ]
                        refine wpAnyH_take (i := 6) (oi := { dst := some 189, op := Op.load 9 (Operand.tmp 188), type := 9, pos := "law.go:100", after := #[{ on := 5, ground := Ground.data }], guard := none }) (v := ?v6) rfl (by kernel_rfl) (by kernel_rfl) (by kernel_rfl) (fun _ _ _ h => h) (Or.inl ⟨by rfl, ?hy6⟩) (by assumption) ?rest6
                        case hy6 => (intro w' hSw; (try dsimp only at hSw); go_simp; (try with_reducible rfl))
                        try simp only [Act.put, List.setIfInBounds_toArray, List.set_cons_zero, List.set_cons_succ]
                        refine wpAnyH_take (i := 7) (oi := { dst := some 190, op := Op.move (Operand.tmp 23), type := 3, pos := "law.go:100", after := #[], guard := none }) (v := ?v7) rfl (by kernel_rfl) (by kernel_rfl) (by kernel_rfl) (fun _ _ _ h => h) (Or.inl ⟨by rfl, ?hy7⟩) (by assumption) ?rest7
                        case hy7 => (intro w' hSw; (try dsimp only at hSw); go_simp; (try with_reducible rfl))
                        try simp only [Act.put, List.setIfInBounds_toArray, List.set_cons_zero, List.set_cons_succ]
                        refine wpAnyH_ready (rs := [8]) (by kernel_rfl) (by simp) ?_
                        refine AllReadyH.cons (o := { dst := some 191, op := Op.call { callee := Callee.value (Operand.func 18), args := #[Operand.tmp 190], argTypes := #[3] }, type := 9, pos := "law.go:100", after := #[{ on := 7, ground := Ground.data }], guard := none }) rfl (fun K hK => ?_) AllReadyH.nil
                        go_simp
                        refine (tag_any k hk5 _).mono ?_; rintro e w11 ⟨rfl, hb11⟩
                        have hb11 : Below wr.heap.size wr w11 := ⟨hb11.os, hb11.tape, hb11.output, hb11.size, hb11.block⟩
                        have xw110 : gl < w11.heap.size := Nat.lt_of_lt_of_le xwr0 hb11.size
                        have fw110 : cellOf k (hat w11 gl) = some (.slice ao n n) := (by rw [hat_below hb11 xwr0]; exact fwr0)
                        have fw111 : cellOf k (hat w11 gg) = some (.slice (some ⟨h, 0, none⟩) (n + 9) c) := (by rw [hat_below hb11 xwr1]; exact fwr1)
                        have fw112 : cellOf q (hat w11 h) = some (.string (tg k)) := (by rw [hat_below hb11 xwr2]; exact fwr2)
                        refine hK.out _ _ ⟨fw110, fw111, fw112⟩ (fun hHeld => ?_)
                        clear hK K
                        try simp only [Act.put, List.setIfInBounds_toArray, List.set_cons_zero, List.set_cons_succ]
                        refine wpAnyH_take (i := 9) (oi := { dst := some 192, op := Op.binOp BinOp.neq 9 (Operand.tmp 189) (Operand.tmp 191) 9, type := 4, pos := "law.go:100", after := #[{ on := 6, ground := Ground.data }, { on := 8, ground := Ground.data }], guard := none }) (v := ?v9) rfl (by kernel_rfl) (by kernel_rfl) (by kernel_rfl) (fun _ _ _ h => h) (Or.inl ⟨by rfl, ?hy9⟩) (by assumption) ?rest9
                        case hy9 => (intro w' hSw; (try dsimp only at hSw); go_simp; (try with_reducible rfl))
                        try simp only [Act.put, List.setIfInBounds_toArray, List.set_cons_zero, List.set_cons_succ]
                        refine wpAnyH_take (i := 10) (oi := { dst := some 193, op := Op.move (Operand.tmp 192), type := 4, pos := "law.go:100", after := #[{ on := 9, ground := Ground.data }, { on := 8, ground := Ground.chain }], guard := none }) (v := ?v10) rfl (by kernel_rfl) (by kernel_rfl) (by kernel_rfl) (fun _ _ _ h => h) (Or.inl ⟨by rfl, ?hy10⟩) (by assumption) ?rest10
                        case hy10 => (intro w' hSw; (try dsimp only at hSw); go_simp; (try with_reducible rfl))
                        try simp only [Act.put, List.setIfInBounds_toArray, List.set_cons_zero, List.set_cons_succ]
                        refine wpAnyH_take (i := 11) (oi := { dst := some 194, op := Op.move (Operand.tmp 24), type := 3, pos := "law.go:100", after := #[{ on := 10, ground := Ground.guard }], guard := some (10, false) }) (v := ?v11) rfl (by kernel_rfl) (by kernel_rfl) (by kernel_rfl) (fun _ _ _ h => h) (Or.inl ⟨by rfl, ?hy11⟩) (by assumption) ?rest11
                        case hy11 => (intro w' hSw; (try dsimp only at hSw); go_simp; (try with_reducible rfl))
                        try simp only [Act.put, List.setIfInBounds_toArray, List.set_cons_zero, List.set_cons_succ]
                        refine wpAnyH_take (i := 12) (oi := { dst := some 195, op := Op.move (Operand.tmp 11), type := 31, pos := "law.go:100", after := #[{ on := 10, ground := Ground.guard }], guard := some (10, false) }) (v := ?v12) rfl (by kernel_rfl) (by kernel_rfl) (by kernel_rfl) (fun _ _ _ h => h) (Or.inl ⟨by rfl, ?hy12⟩) (by assumption) ?rest12
                        case hy12 => (intro w' hSw; (try dsimp only at hSw); go_simp; (try with_reducible rfl))
                        try simp only [Act.put, List.setIfInBounds_toArray, List.set_cons_zero, List.set_cons_succ]
                        refine wpAnyH_take (i := 13) (oi := { dst := some 196, op := Op.move (Operand.tmp 23), type := 3, pos := "law.go:100", after := #[{ on := 10, ground := Ground.guard }], guard := some (10, false) }) (v := ?v13) rfl (by kernel_rfl) (by kernel_rfl) (by kernel_rfl) (fun _ _ _ h => h) (Or.inl ⟨by rfl, ?hy13⟩) (by assumption) ?rest13
                        case hy13 => (intro w' hSw; (try dsimp only at hSw); go_simp; (try with_reducible rfl))
                        try simp only [Act.put, List.setIfInBounds_toArray, List.set_cons_zero, List.set_cons_succ]
                        refine wpAnyH_take (i := 14) (oi := { dst := some 197, op := Op.indexAddr 31 (Operand.tmp 195) (Operand.tmp 196), type := 0, pos := "law.go:100", after := #[{ on := 12, ground := Ground.data }, { on := 13, ground := Ground.data }, { on := 10, ground := Ground.guard }], guard := some (10, false) }) (v := ?v14) rfl (by kernel_rfl) (by kernel_rfl) (by kernel_rfl) (fun _ _ _ h => h) (Or.inl ⟨by rfl, ?hy14⟩) (by assumption) ?rest14
                        case hy14 => (intro w' hSw; (try dsimp only at hSw); go_simp; (try with_reducible rfl))
                        try simp only [Act.put, List.setIfInBounds_toArray, List.set_cons_zero, List.set_cons_succ]
                        refine wpAnyH_take (i := 15) (oi := { dst := some 198, op := Op.load 25 (Operand.tmp 197), type := 25, pos := "law.go:100", after := #[{ on := 14, ground := Ground.data }, { on := 10, ground := Ground.guard }], guard := some (10, false) }) (v := ?v15) rfl (by kernel_rfl) (by kernel_rfl) (by kernel_rfl) (fun _ _ _ h => h) (Or.inl ⟨by rfl, ?hy15⟩) (by assumption) ?rest15
                        case hy15 => (intro w' hSw; (try dsimp only at hSw); go_simp; (try with_reducible rfl))
                        try simp only [Act.put, List.setIfInBounds_toArray, List.set_cons_zero, List.set_cons_succ]
                        refine wpAnyH_take (i := 16) (oi := { dst := some 199, op := Op.call { callee := Callee.builtin Builtin.len, args := #[Operand.tmp 198], argTypes := #[25] }, type := 3, pos := "law.go:100", after := #[{ on := 15, ground := Ground.data }, { on := 10, ground := Ground.guard }], guard := some (10, false) }) (v := ?v16) rfl (by kernel_rfl) (by kernel_rfl) (by kernel_rfl) (fun _ _ _ h => h) (Or.inl ⟨by rfl, ?hy16⟩) (by assumption) ?rest16
                        case hy16 => (intro w' hSw; (try dsimp only at hSw); go_simp; (try with_reducible rfl))
                        try simp only [Act.put, List.setIfInBounds_toArray, List.set_cons_zero, List.set_cons_succ]
                        refine wpAnyH_take (i := 17) (oi := { dst := some 200, op := Op.binOp BinOp.lss 3 (Operand.tmp 194) (Operand.tmp 199) 3, type := 4, pos := "law.go:100", after := #[{ on := 11, ground := Ground.data }, { on := 16, ground := Ground.data }, { on := 10, ground := Ground.guard }], guard := some (10, false) }) (v := ?v17) rfl (by kernel_rfl) (by kernel_rfl) (by kernel_rfl) (fun _ _ _ h => h) (Or.inl ⟨by rfl, ?hy17⟩) (by assumption) ?rest17
                        case hy17 => (intro w' hSw; (try dsimp only at hSw); go_simp; (try with_reducible rfl))
                        try simp only [Act.put, List.setIfInBounds_toArray, List.set_cons_zero, List.set_cons_succ]
                        refine wpAnyH_take (i := 18) (oi := { dst := some 201, op := Op.move (Operand.tmp 200), type := 4, pos := "law.go:100", after := #[{ on := 17, ground := Ground.data }, { on := 10, ground := Ground.chain }, { on := 10, ground := Ground.guard }], guard := some (10, false) }) (v := ?v18) rfl (by kernel_rfl) (by kernel_rfl) (by kernel_rfl) (fun _ _ _ h => h) (Or.inl ⟨by rfl, ?hy18⟩) (by assumption) ?rest18
                        case hy18 => (intro w' hSw; (try dsimp only at hSw); go_simp; (try with_reducible rfl))
                        try simp only [Act.put, List.setIfInBounds_toArray, List.set_cons_zero, List.set_cons_succ]
                        refine wpAnyH_take (i := 19) (oi := { dst := some 202, op := Op.move (Operand.tmp 11), type := 31, pos := "law.go:100", after := #[{ on := 18, ground := Ground.guard }], guard := some (18, true) }) (v := undef) rfl (by kernel_rfl) (by kernel_rfl) (by kernel_rfl) (fun _ _ _ h => h) (Or.inr ⟨by rfl, rfl⟩) (by assumption) ?_
                        try simp only [Act.put, List.setIfInBounds_toArray, List.set_cons_zero, List.set_cons_succ]
                        refine wpAnyH_take (i := 20) (oi := { dst := some 203, op := Op.move (Operand.tmp 23), type := 3, pos := "law.go:100", after := #[{ on := 18, ground := Ground.guard }], guard := some (18, true) }) (v := undef) rfl (by kernel_rfl) (by kernel_rfl) (by kernel_rfl) (fun _ _ _ h => h) (Or.inr ⟨by rfl, rfl⟩) (by assumption) ?_
                        try simp only [Act.put, List.setIfInBounds_toArray, List.set_cons_zero, List.set_cons_succ]
                        refine wpAnyH_take (i := 21) (oi := { dst := some 204, op := Op.indexAddr 31 (Operand.tmp 202) (Operand.tmp 203), type := 0, pos := "law.go:100", after := #[{ on := 19, ground := Ground.data }, { on := 20, ground := Ground.data }, { on := 18, ground := Ground.guard }], guard := some (18, true) }) (v := undef) rfl (by kernel_rfl) (by kernel_rfl) (by kernel_rfl) (fun _ _ _ h => h) (Or.inr ⟨by rfl, rfl⟩) (by assumption) ?_
                        try simp only [Act.put, List.setIfInBounds_toArray, List.set_cons_zero, List.set_cons_succ]
                        refine wpAnyH_take (i := 22) (oi := { dst := some 205, op := Op.load 25 (Operand.tmp 204), type := 25, pos := "law.go:100", after := #[{ on := 21, ground := Ground.data }, { on := 18, ground := Ground.guard }], guard := some (18, true) }) (v := undef) rfl (by kernel_rfl) (by kernel_rfl) (by kernel_rfl) (fun _ _ _ h => h) (Or.inr ⟨by rfl, rfl⟩) (by assumption) ?_
                        try simp only [Act.put, List.setIfInBounds_toArray, List.set_cons_zero, List.set_cons_succ]
                        refine wpAnyH_take (i := 23) (oi := { dst := some 206, op := Op.move (Operand.tmp 24), type := 3, pos := "law.go:100", after := #[{ on := 18, ground := Ground.guard }], guard := some (18, true) }) (v := undef) rfl (by kernel_rfl) (by kernel_rfl) (by kernel_rfl) (fun _ _ _ h => h) (Or.inr ⟨by rfl, rfl⟩) (by assumption) ?_
                        try simp only [Act.put, List.setIfInBounds_toArray, List.set_cons_zero, List.set_cons_succ]
                        refine wpAnyH_take (i := 24) (oi := { dst := some 207, op := Op.indexAddr 25 (Operand.tmp 205) (Operand.tmp 206), type := 0, pos := "law.go:100", after := #[{ on := 22, ground := Ground.data }, { on := 23, ground := Ground.data }, { on := 18, ground := Ground.guard }], guard := some (18, true) }) (v := undef) rfl (by kernel_rfl) (by kernel_rfl) (by kernel_rfl) (fun _ _ _ h => h) (Or.inr ⟨by rfl, rfl⟩) (by assumption) ?_
                        try simp only [Act.put, List.setIfInBounds_toArray, List.set_cons_zero, List.set_cons_succ]
                        refine wpAnyH_take (i := 25) (oi := { dst := some 208, op := Op.load 9 (Operand.tmp 207), type := 9, pos := "law.go:100", after := #[{ on := 24, ground := Ground.data }, { on := 18, ground := Ground.guard }], guard := some (18, true) }) (v := undef) rfl (by kernel_rfl) (by kernel_rfl) (by kernel_rfl) (fun _ _ _ h => h) (Or.inr ⟨by rfl, rfl⟩) (by assumption) ?_
                        try simp only [Act.put, List.setIfInBounds_toArray, List.set_cons_zero, List.set_cons_succ]
                        refine wpAnyH_take (i := 26) (oi := { dst := some 209, op := Op.move (Operand.tmp 23), type := 3, pos := "law.go:100", after := #[{ on := 18, ground := Ground.guard }], guard := some (18, true) }) (v := undef) rfl (by kernel_rfl) (by kernel_rfl) (by kernel_rfl) (fun _ _ _ h => h) (Or.inr ⟨by rfl, rfl⟩) (by assumption) ?_
                        try simp only [Act.put, List.setIfInBounds_toArray, List.set_cons_zero, List.set_cons_succ]
                        refine wpAnyH_take (i := 27) (oi := { dst := some 210, op := Op.call { callee := Callee.value (Operand.func 18), args := #[Operand.tmp 209], argTypes := #[3] }, type := 9, pos := "law.go:100", after := #[{ on := 26, ground := Ground.data }, { on := 18, ground := Ground.chain }, { on := 18, ground := Ground.guard }], guard := some (18, true) }) (v := undef) rfl (by kernel_rfl) (by kernel_rfl) (by kernel_rfl) (fun _ _ _ h => h) (Or.inr ⟨by rfl, rfl⟩) (by assumption) ?_
                        try simp only [Act.put, List.setIfInBounds_toArray, List.set_cons_zero, List.set_cons_succ]
                        refine wpAnyH_take (i := 28) (oi := { dst := some 211, op := Op.binOp BinOp.neq 9 (Operand.tmp 208) (Operand.tmp 210) 9, type := 4, pos := "law.go:100", after := #[{ on := 25, ground := Ground.data }, { on := 27, ground := Ground.data }, { on := 18, ground := Ground.guard }], guard := some (18, true) }) (v := undef) rfl (by kernel_rfl) (by kernel_rfl) (by kernel_rfl) (fun _ _ _ h => h) (Or.inr ⟨by rfl, rfl⟩) (by assumption) ?_
                        try simp only [Act.put, List.setIfInBounds_toArray, List.set_cons_zero, List.set_cons_succ]
                        refine wpAnyH_take (i := 29) (oi := { dst := some 212, op := Op.pick (Operand.tmp 201) (Operand.tmp 211) (Operand.const (Value.bool false)), type := 4, pos := "law.go:100", after := #[{ on := 18, ground := Ground.data }, { on := 28, ground := Ground.data }, { on := 10, ground := Ground.guard }], guard := some (10, false) }) (v := ?v29) rfl (by kernel_rfl) (by kernel_rfl) (by kernel_rfl) (fun _ _ _ h => h) (Or.inl ⟨by rfl, ?hy29⟩) (by assumption) ?rest29
                        case hy29 => (intro w' hSw; (try dsimp only at hSw); go_simp; (try with_reducible rfl))
                        try simp only [Act.put, List.setIfInBounds_toArray, List.set_cons_zero, List.set_cons_succ]
                        refine wpAnyH_take (i := 30) (oi := { dst := some 213, op := Op.pick (Operand.tmp 193) (Operand.const (Value.bool true)) (Operand.tmp 212), type := 4, pos := "law.go:100", after := #[{ on := 10, ground := Ground.data }, { on := 29, ground := Ground.data }], guard := none }) (v := ?v30) rfl (by kernel_rfl) (by kernel_rfl) (by kernel_rfl) (fun _ _ _ h => h) (Or.inl ⟨by rfl, ?hy30⟩) (by assumption) ?rest30
                        case hy30 => (intro w' hSw; (try dsimp only at hSw); go_simp; (try with_reducible rfl))
                        try simp only [Act.put, List.setIfInBounds_toArray, List.set_cons_zero, List.set_cons_succ]
                        refine wpAnyH_done (by kernel_rfl) (NoPanic.normal ?_) _
                        --ENDB
                        have hbf := HB9.out.trans (hb11.mono (by omega))
                        have HBF := Lib.hid hbf
                        clear hbf hb11 fwr0 fwr1 fwr2 d6
                        go_wp2_with fail
                        go_roundw
                        case rel => exact ⟨q + 1, by omega, by go_num, HBF.out⟩
                        case measure => (show n + 9 - (q + 1) < n + 9 - q); omega
                    · obtain rfl : q = n + 9 := by omega
                      go_wp2_with fail
                      go_roundw
                      case rel => exact ⟨k + 1, by omega, by go_num, HB9.out⟩
                      case measure => (show 5 - (k + 1) < 5 - k); omega
                · obtain rfl : k = 5 := by omega
                  rw [show ((5 : Nat) : Int) = 5 from rfl]
                  have hbz := HBW.out.trans (HB9.out.mono hW04)
                  have HM := Lib.hid (HM0.out.keep hbz HM0.out.lt)
                  have HBZ := Lib.hid hbz
                  clear hbz
                  go_wp2_with fail
                  refine (split_any p m _ HM.out).mono ?_; rintro e w12 ⟨v12, rfl, hs12, hb12⟩
                  have HBZ := Lib.hid (below_call HBZ.out hb12 HBZ.out.size)
                  have HM := Lib.hid (HM.out.call hb12)
                  have HS12 := Lib.hid hs12
                  clear hb12 hs12
                  go_wp2_with fail
                  refine (rsplit_any p _).mono ?_; rintro e w13 ⟨v13, rfl, hs13, hb13⟩
                  have HBZ := Lib.hid (below_call HBZ.out hb13 HBZ.out.size)
                  have HM := Lib.hid (HM.out.call hb13)
                  have HS12 := Lib.hid (HS12.out.call hb13)
                  have HS13 := Lib.hid hs13
                  clear hb13 hs13
                  generalize (spl p).2 = SE at *
                  go_wp2_with fail
                  refine (sameTexts_any _ _ _ _ _ _ _ HS12.out HS13.out).mono ?_; rintro e w14 ⟨rfl, hb14⟩
                  rw [decide_eq_true rfl]
                  have HBZ := Lib.hid (below_call HBZ.out hb14 HBZ.out.size)
                  have HM := Lib.hid (HM.out.call hb14)
                  clear hb14 HS12 HS13
                  go_wp2_with fail
                  refine (known_true m _ HM.out).mono ?_; rintro e w15 ⟨rfl, hb15⟩
                  have HBZ := Lib.hid (below_call HBZ.out hb15 HBZ.out.size)
                  clear hb15
                  go_wp2_with fail
                  go_ret
                  exact ⟨rfl, HBZ.out⟩
end Go.Proofs.YtkhpifjhnkknbaaDoor
