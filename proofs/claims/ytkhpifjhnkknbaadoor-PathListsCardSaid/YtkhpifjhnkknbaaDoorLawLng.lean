/- Lengths, to the byte: the law's walk. -/
import Derived.Test.YtkhpifjhnkknbaaDoorPlg
import Derived.Test.YtkhpifjhnkknbaaDoorRsw
import Derived.Test.YtkhpifjhnkknbaaDoorFew
import Derived.Test.YtkhpifjhnkknbaaDoorKnp
namespace Go.Proofs.YtkhpifjhnkknbaaDoor
set_option linter.unusedSimpArgs false
set_option linter.unusedVariables false
open Go.RowKit

theorem pick41 (c : Int) (h0 : -9223372036854775808 ≤ c) (h1 : c ≤ 9223372036854775807) : ∃ k : Nat, k < 41 ∧ ∀ w : World, Calls Tryd.prog 22 #[.int .i64 c, .int .i64 41] w fun e w' => e = .returned (.int .i64 k) ∧ w = w' := by
  by_cases h : c < 0
  · refine ⟨((-(c + 1)) % 41).toNat, by omega, fun w => ?_⟩
    have d : decide (c < 0) = true := by simpa using h
    go_enter Tryd.func22, Tryd.ntmps22
    go_wp2_with fail
    go_ret
    have ht : (c + 1).tmod 41 = -((-(c + 1)) % 41) := by
      rw [← Int.tmod_eq_emod_of_nonneg (show 0 ≤ -(c + 1) by omega), Int.neg_tmod]; omega
    exact ⟨ret_int (by rw [ht]; omega), rfl⟩
  · refine ⟨(c % 41).toNat, by omega, fun w => ?_⟩
    have d : decide (c < 0) = false := by simpa using h
    go_enter Tryd.func22, Tryd.ntmps22
    go_wp2_with fail
    go_ret
    exact ⟨ret_int (by omega), rfl⟩
/-- u is a list of N numbers that came in -/
def ArgI (w : World) (u : Value) (N : Nat) : Prop := ∃ a c, u = .slice a N c ∧ N ≤ c ∧ N ≤ 140737488355328 ∧
  ∀ j, j < N → ∃ g o z, a = some ⟨g, o, none⟩ ∧ g < w.heap.size ∧ w.cell? ⟨g, o + j, none⟩ = some (.int .i64 z) ∧ -9223372036854775808 ≤ z ∧ z ≤ 9223372036854775807
def longB (xs : List ByteArray) : Bool := xs.any fun x => decide (40 < x.size)
def fillL (n j : Nat) : List UInt8 := List.replicate j 97 ++ List.replicate (n - j) 0
theorem fill_set {n j : Nat} (h : j < n) : (fillL n j).set j 97 = fillL n (j + 1) := by
  unfold fillL
  rw [List.set_append_right _ _ (by simp)]
  simp only [List.length_replicate, Nat.sub_self]
  obtain ⟨q, hq⟩ : ∃ q, n - j = q + 1 := ⟨n - j - 1, by omega⟩
  rw [hq, List.replicate_succ, List.set_cons_zero, show n - (j + 1) = q by omega, List.replicate_succ' (n := j), List.append_assoc]
  rfl
theorem fill_all (n : Nat) : fillL n n = List.replicate n 97 := by unfold fillL; simp
theorem fill_len {n j : Nat} (h : j ≤ n) : (fillL n j).length = n := by unfold fillL; simp; omega
theorem byteV_set (L : List UInt8) (j : Nat) (b : UInt8) : (byteV L).set j (.int .u8 b.toNat) = byteV (L.set j b) := by unfold byteV; rw [List.map_set]

theorem own_old {w : World} {B n : Nat} {e : TypeId} {v : Value} {xs : List Value} (h : w.ownsRow B e 1 v n xs) : v.ownBlock ≠ some w.heap.size := by
  obtain ⟨-, h⟩ := h
  rcases h with ⟨rfl, -⟩ | ⟨g, cap, cur, rfl, h1, h2, -⟩
  · intro h; cases h
  · intro h
    have : g = w.heap.size := by simpa [Value.ownBlock] using h
    have := hat_lt h2
    omega
theorem own_other {w : World} {B n G q : Nat} {e : TypeId} {v u : Value} {xs : List Value} (h : w.ownsRow B e 1 v n xs) (hv : v.ownBlock ≠ some G) : (w.setCell ⟨G, q, none⟩ u).ownsRow B e 1 v n xs := by
  obtain ⟨ha, h⟩ := h
  rcases h with ⟨h1, h2⟩ | ⟨g1, cap, cur, h1, h2, h3, h4⟩
  · exact ⟨ha, .inl ⟨h1, h2⟩⟩
  · have hne : g1 ≠ G := fun e => hv (by rw [h1, e]; rfl)
    exact ⟨ha, .inr ⟨g1, cap, cur, h1, h2, (hat_setCell _ ⟨G, q, none⟩ u _ hne).trans h3, h4⟩⟩
theorem cell_new1 (w : World) (s : ByteArray) : ∀ (j : Nat) (u : Value), [Value.string s][j]? = some u → (w.alloc (.cells #[.string s] 9)).cell? ((⟨w.heap.size, 0, none⟩ : Addr).add j) = some u := by
  intro j u hj
  have hj3 : j < 1 := by
    have := (List.getElem?_eq_some_iff.1 hj).1
    simpa using this
  have hadd : (⟨w.heap.size, 0, none⟩ : Addr).add j = ⟨w.heap.size, j, none⟩ := by unfold Addr.add; split <;> simp_all
  rw [hadd, cell_hat (hat_alloc_at _ _ _ rfl)]
  simpa using hj
theorem one_str (s : ByteArray) : ∀ u ∈ [Value.string s], u.oneCell' = true := by
  intro u hu
  simp at hu
  subst hu
  rfl
theorem made_eq (q : Nat) : (madeCells (Value.int .u8 0).cells (q * 1)).toList = byteV (fillL q 0) := by
  unfold fillL byteV
  simp only [madeCells, Value.cells, List.replicate_zero, List.nil_append, Nat.sub_zero, Nat.mul_one, List.map_replicate]
  rw [List.eq_replicate_iff]
  refine ⟨by simp, fun b hb => ?_⟩
  simp at hb
  obtain ⟨x, -, hb⟩ := hb
  rw [Nat.mod_one] at hb
  exact hb.symm
theorem own_byte {w : World} {G q j : Nat} {L : List UInt8} (h : w.ownsRow G 5 1 (.slice (some ⟨G, 0, none⟩) q q) q (byteV L)) (hj : j < q) : ∃ cur : Array Value, hat w G = some (.cells cur 5) ∧ j < cur.size := by
  obtain ⟨-, h⟩ := h
  rcases h with ⟨h1, -⟩ | ⟨g', cap', cur, he, h1, h2, h3, h4, h5, h6⟩
  · cases h1
  · injection he with e1 e2 e3
    injection e1 with e1
    injection e1 with e1 _ _
    subst e1 e3
    exact ⟨cur, h2, by omega⟩

/-- a row of another block stays through an append -/
theorem own_grown {w w' : World} {B n : Nat} {e : TypeId} {v : Value} {xs : List Value} {x : Obj} {row : Option Nat} (h : w.ownsRow B e 1 v n xs) (hg : (w.alloc x).grownBy w' row) (hr : v.ownBlock ≠ row) : w'.ownsRow B e 1 v n xs := by
  obtain ⟨ha, h⟩ := h
  rcases h with ⟨h1, h2⟩ | ⟨g1, cap, cur, h1, h2, h3, h4⟩
  · exact ⟨ha, .inl ⟨h1, h2⟩⟩
  · have hlt := hat_lt h3
    have hA := hop ((Below.refl w.heap.size w).alloc (Nat.le_refl _) x) h3
    refine ⟨ha, .inr ⟨g1, cap, cur, h1, h2, ?_, h4⟩⟩
    exact (hg.block g1 hA.2 (fun e => hr (by rw [h1]; exact e))).trans hA.1
theorem lng_may {xs : List ByteArray} (hx : ∀ x ∈ xs, ∃ q, 1 ≤ q ∧ q ≤ 41 ∧ x = nmA q) (hl : longB xs = false) : ∀ n ∈ xs, NameMay n.data.toList := fun n hn => by
  obtain ⟨q, h1, -, rfl⟩ := hx n hn
  refine (nmA_may h1).2 ?_
  unfold longB at hl
  rw [List.any_eq_false] at hl
  have := hl _ hn
  rw [nmA_size] at this
  simpa using this
theorem lng_not {xs : List ByteArray} (hl : longB xs = true) : ¬ ∀ n ∈ xs, NameMay n.data.toList := fun h => by
  unfold longB at hl
  obtain ⟨n, hn, h4⟩ := List.any_eq_true.1 hl
  have := (h n hn).2.1
  rw [len_data] at this
  have h4 := of_decide_eq_true h4
  omega
theorem lng_piece {xs : List ByteArray} (hx : ∀ x ∈ xs, ∃ q, 1 ≤ q ∧ q ≤ 41 ∧ x = nmA q) : ∀ n ∈ xs, 1 ≤ n.size ∧ ∀ b ∈ n.data.toList, b ≠ 47 := fun n hn => by
  obtain ⟨q, h1, -, rfl⟩ := hx n hn
  exact ⟨by rw [nmA_size]; exact h1, fun b hb => by rw [nmA_byte q b hb]; decide⟩
theorem text_ne {xs : List ByteArray} (h : xs ≠ []) : textOf xs = joined xs := by
  cases xs with
  | nil => exact absurd rfl h
  | cons x r => rfl
theorem text_size (xs : List ByteArray) : (textOf xs).size ≤ tot xs := by
  by_cases h : xs = []
  · subst h; decide
  · rw [text_ne h, joined_size h]; exact Nat.le_refl _
theorem tot_le (xs : List ByteArray) (q : Nat) : tot (xs.take q) ≤ tot xs := by
  have h := tot_append (xs.take q) (xs.drop q)
  rw [List.take_append_drop] at h
  omega
theorem takeq_snoc {xs : List ByteArray} {q : Nat} {x : ByteArray} (h : xs[q]? = some x) : xs.take (q + 1) = xs.take q ++ [x] := by
  rw [List.take_add_one, h]; rfl
theorem lng_0 : spl (textOf []) = ([], 70) := by decide +kernel
theorem lng_over {xs : List ByteArray} (h0 : xs ≠ []) (ht : 400 < tot xs) : spl (textOf xs) = ([], 70) := by rw [text_ne h0]; exact spl_over h0 ht
theorem lng_bad {xs : List ByteArray} (h0 : xs ≠ []) (hx : ∀ x ∈ xs, ∃ q, 1 ≤ q ∧ q ≤ 41 ∧ x = nmA q) (hl : longB xs = true) (ht : ¬ 400 < tot xs) : spl (textOf xs) = ([], 71) := by
  rw [text_ne h0, spl_joined h0 (lng_piece hx) (by omega), if_neg (lng_not hl)]
theorem lng_good {xs : List ByteArray} (h0 : xs ≠ []) (hx : ∀ x ∈ xs, ∃ q, 1 ≤ q ∧ q ≤ 41 ∧ x = nmA q) (hl : longB xs = false) (ht : ¬ 400 < tot xs) : spl (textOf xs) = (xs, 0) := by
  rw [text_ne h0, spl_joined h0 (lng_piece hx) (by omega), if_pos (lng_may hx hl)]

set_option maxHeartbeats 8000000 in
set_option maxRecDepth 100000 in
theorem pathLong_any (u : Value) (N : Nat) (m : Int) (w : World) (hm : MaxAt w m) (hu : ArgI w u N) :
    Calls Tryd.prog 10 #[u] w fun e w' => e = .returned (.bool true) ∧ Below w.heap.size w w' := by
  have HM := Lib.hid hm
  obtain ⟨a, c, rfl, hc, hsm, hcell⟩ := hu
  have HC := Lib.hid hcell
  clear hm hcell
  obtain ⟨i0, hi, hz0, hz1, hz2⟩ := info_parts Tryd.infoS
  obtain ⟨j0, ji, jz0, jz1, jz2⟩ := info_parts Tryd.infoB
  go_enter Tryd.func10, Tryd.ntmps10
  go_wp2_with fail
  go_loopw [3, 4, 5, 6] (fun v n lg i wr => ∃ (k : Nat) (xs : List ByteArray), k ≤ N ∧ k ≤ 50 ∧ xs.length = k ∧ tot xs ≤ 42 * k ∧ i = .int .i64 k ∧ n = .int .i64 (tot xs) ∧ lg = .bool (longB xs) ∧ wr.ownsRow w.heap.size 9 1 v k (xs.map Value.string) ∧ Below w.heap.size w wr ∧ (∀ x ∈ xs, ∃ q, 1 ≤ q ∧ q ≤ 41 ∧ x = nmA q)) (fun _ _ _ i _ => N - (intOf i).toNat)
  case atStart => exact ⟨0, [], by omega, by omega, rfl, by simp [tot], rfl, rfl, rfl, ⟨by simp, .inl ⟨rfl, rfl⟩⟩, Below.refl _ _, by simp⟩
  case round =>
    obtain ⟨k, xs, hk, hk5, hxl, htot, rfl, rfl, rfl, hown, hb, hxs⟩ := hrel
    have hsz := hb.size
    have HO := Lib.hid hown
    have HX := Lib.hid hxs
    have HXL := Lib.hid hxl
    obtain ⟨va, vc, hv⟩ := own_len hown
    clear hown hxs hxl
    subst hv
    generalize hT : tot xs = T at *
    generalize hLB : longB xs = lb at *
    have HT := Lib.hid hT
    have HLB := Lib.hid hLB
    clear hT hLB
    by_cases hkn : k < N
    · by_cases hk50 : k < 50
      · obtain ⟨g, o, z, rfl, hg, hcz, z0, z1⟩ := HC.out k hkn
        have cx := (hb.cell (p := ⟨g, o + k, none⟩) hg).trans hcz
        rw [cell?_of_hat] at cx
        clear hcz
        obtain ⟨q0, hq0, hpick⟩ := pick41 z z0 z1
        go_wp2_with fail
        refine (hpick _).mono ?_; rintro e w1 ⟨rfl, rfl⟩
        obtain ⟨q, hq⟩ : ∃ q : Nat, q = 1 + q0 := ⟨_, rfl⟩
        have hq1 : 1 ≤ q := by omega
        have hq41 : q ≤ 41 := by omega
        have hqc : (1 : Int) + (q0 : Int) = (q : Int) := by omega
        clear cx hpick hq
        go_wp2_with (at_make; refine wpList_make_full _ rfl _ _ 42 rfl wr.heap.size 5 j0 (.int .u8 0) 1 Tryd.underlying42 ji jz0 jz1 .i64 .i64 _ _ q rfl rfl rfl rfl (by rw [jz2]; omega) (by unfold maxLen; omega) (Nat.le_refl _) ?_)
        intro w2 hown2 hgrow2
        have hbm : Below wr.heap.size wr w2 := (Below.refl _ _).grown hgrow2 (Nat.le_refl _) (fun k hk => by simp at hk)
        have hmade : (madeCells #[Value.int .u8 0] q).toList = byteV (fillL q 0) := by have := made_eq q; rw [Nat.mul_one] at this; exact this
        rw [hmade] at hown2
        clear hgrow2 hmade
        have hvb := own_old HO.out
        have HVB := Lib.hid hvb
        have HO2 := own_call HO.out hbm
        have hb2 := below_call hb hbm hb.size
        have hG2 := hbm.size
        clear hvb HO hb
        generalize wr.heap.size = G at *
        clear hbm
        go_wp2_with fail
        go_loopw [9] (fun i w3 => ∃ j : Nat, j ≤ q ∧ i = .int .i64 j ∧ w3.ownsRow G 5 1 (.slice (some ⟨G, 0, none⟩) q q) q (byteV (fillL q j)) ∧ w3.ownsRow w.heap.size 9 1 (.slice va k vc) k (xs.map Value.string) ∧ Below w.heap.size w w3) (fun i _ => q - (intOf i).toNat)
        case atStart => exact ⟨0, by omega, rfl, hown2, HO2, hb2⟩
        case round =>
          clear hown2 HO2 hb2 hG2
          obtain ⟨j, hjq, rfl, hown3, hO3, hb3⟩ := hrel
          have H3 := Lib.hid hown3
          have HO3 := Lib.hid hO3
          by_cases hjn : j < q
          · obtain ⟨cur, hcur, hcz⟩ := own_byte hown3 hjn
            clear hown3 hO3
            go_wp2_with fail
            go_roundw
            case rel =>
              refine ⟨j + 1, by omega, by go_num, ?_, own_other HO3.out HVB.out, hb3.setCell (show w.heap.size ≤ G from hsz) _⟩
              have h := own_store (q := j) (u := .int .u8 97) H3.out
              rw [← fill_set hjn, ← byteV_set]
              exact h
            case measure => (show q - (j + 1) < q - j); omega
          · obtain rfl : j = q := by omega
            rw [fill_all] at H3
            have hcv := conv_own (B := G) (v := .slice (some ⟨G, 0, none⟩) j j) (L := List.replicate j 97) (by rw [List.length_replicate]; exact H3.out)
            clear hown3 hO3
            have hg1 : (Value.slice (some ⟨G, 0, none⟩) j j).ownBlock ≠ (Value.slice va k vc).ownBlock := fun e => HVB.out (e.symm.trans rfl)
            have HG1 := Lib.hid hg1
            have hsz3 := hb3.size
            clear hg1
            rw [show (⟨(List.replicate j (97 : UInt8)).toArray⟩ : ByteArray) = nmA j from rfl] at hcv
            have hJs := nmA_size j
            have hck := chk_nmA hq1
            have hJx := nmA_size j
            have HJX := Lib.hid hJx
            have HJE := Lib.hid (show ∃ q, 1 ≤ q ∧ q ≤ 41 ∧ nmA j = nmA q from ⟨j, hq1, hq41, rfl⟩)
            have HCK := Lib.hid hck
            clear hck hJx hJs
            generalize hJ : nmA j = J at *
            have HJ := Lib.hid hJ
            clear hJ
            by_cases h40 : 40 < j <;> cases lb <;> (
              first | have d40 : decide ((j : Int) ≤ 40) = true := decide_eq_true (by omega) | have d40 : decide ((j : Int) ≤ 40) = false := decide_eq_false (by omega)
              go_wp2_with (
                at_builtin
                refine wpList_append_own _ rfl (.tmp 47) (.tmp 50) 25 rfl w.heap.size 9 i0 _ 1 16 Tryd.underlying25 hi hz0 hz1 hz2 rfl (by decide) (.slice va k vc) k (xs.map Value.string) rfl (HO3.out.alloc _) ⟨wr.heap.size, 0, none⟩ 1 1 [.string J] rfl rfl (cell_new1 wr J) (one_str J) (by unfold maxLen; omega) (by omega) (by simp only [World.size_alloc]; omega) (fun v' w5 hown5 hgrow5 _ => ?_)
                have H5 := own_grown H3.out hgrow5 HG1.out
                have hcv5 := conv_own (B := G) (v := .slice (some ⟨G, 0, none⟩) j j) (L := List.replicate j 97) (by rw [List.length_replicate]; exact H5)
                rw [show (⟨(List.replicate j (97 : UInt8)).toArray⟩ : ByteArray) = nmA j from rfl, HJ.out] at hcv5
                have HO5 := Lib.hid hown5
                have hb5 : Below w.heap.size w w5 := (hb3.alloc hsz3 _).grown hgrow5 (by simp only [World.size_alloc]; omega) (fun q hq => by
                      have h1 : ¬ q < w.heap.size := fun h => ownsRow_ne HO3.out h hq
                      omega)
                clear hown5 hgrow5 H5 hb3 hcv)
              refine (check_any _ _).mono ?_; rintro e w6 ⟨rfl, hb6⟩
              first | rw [HCK.out, if_pos (by omega)] | rw [HCK.out, if_neg (by omega)]
              have hb := below_call hb5 hb6 hb5.size
              have HO6 := Lib.hid (own_call HO5.out hb6)
              clear hcv5 hb6
              go_wp2_with fail
              go_roundw
              case rel =>
                have e1 : tot (xs ++ [J]) = T + 1 + j := by rw [tot_append, HT.out]; simp only [tot]; rw [HJX.out]; omega
                have e2 : longB (xs ++ [J]) = (longB xs || decide (40 < j)) := by unfold longB; rw [List.any_append]; simp [HJX.out]
                refine ⟨k + 1, xs ++ [J], by omega, by omega, by simp [HXL.out], by rw [e1]; omega, by go_num, by rw [e1]; simp, by rw [e2, HLB.out]; first | (simp [h40]; done) | (simp; omega), by rw [List.map_append]; exact HO6.out, hb, fun x hx => ?_⟩
                rcases List.mem_append.1 hx with h | h
                · exact HX.out x h
                · rw [List.mem_singleton.1 h]; exact HJE.out
              case measure => (show N - (k + 1) < N - k); omega)
      · have hms : MaxAt wr m := HM.out.call hb
        have HM := Lib.hid hms
        have hS : Strs wr w.heap.size (.slice va k vc) xs := by
          have h := strs_own (xs := xs) (by rw [HXL.out]; exact HO.out) (by rw [HXL.out]; omega)
          exact h
        have HS := Lib.hid hS
        clear hS HO hms
        have hE : 1 ≤ k → xs ≠ [] := fun h e => by rw [e] at HXL; have := HXL.out; simp at this; omega
        have HE := Lib.hid hE
        clear hE
        generalize hP : (joinR xs).1 = P at *
        generalize hF : (joinR xs).2 = F at *
        have HP := Lib.hid hP
        have HF := Lib.hid hF
        clear hP hF
        go_wp2_with fail
        refine (join_any _ _ _ _ HS.out).mono ?_; rintro e w3 ⟨rfl, hb2⟩
        have hb := below_call hb hb2 hb.size
        have HM := Lib.hid (HM.out.call hb2)
        have HS := Lib.hid (HS.out.call hb2)
        clear hb2
        rw [HP.out, HF.out]
        go_wp2_with fail
        go_loopw [12, 13] (fun t i w4 => ∃ q : Nat, q ≤ k ∧ i = .int .i64 q ∧ t = .string (textOf (xs.take q)) ∧ w4 = w3) (fun _ i _ => k - (intOf i).toNat)
        case atStart => exact ⟨0, by omega, rfl, rfl, rfl⟩
        case round =>
          obtain ⟨q, hq, rfl, rfl, rfl⟩ := hrel
          by_cases hqk : q < k
          · obtain ⟨x, hx⟩ := getElem_opt (l := xs) (k := q) (by rw [HXL.out]; exact hqk)
            have hts := text_size (xs.take q)
            have htt := tot_le xs q
            rw [HT.out] at htt
            have hx41 : x.size ≤ 41 := by
              obtain ⟨p, -, h2, e⟩ := HX.out x (List.mem_of_getElem? hx)
              rw [e, nmA_size]; exact h2
            have htx := (text_snoc (xs.take q) x).trans (by rw [← takeq_snoc hx])
            have HTX := Lib.hid htx
            have hS := HS.out
            clear htx
            rcases hS with ⟨-, h2⟩ | ⟨g3, o3, c3, h1, hc3, -, -, hgl3, hcell3⟩
            · exact absurd h2 (HE.out (by omega))
            · injection h1 with e1 e2 e3
              subst e1 e3
              have cx := hcell3 q x hx
              rw [cell?_of_hat] at cx
              clear hcell3 hx
              rw [HXL.out] at hc3
              clear e2
              generalize textOf (xs.take q) = TQ at *
              go_wp2_with fail
              go_roundw
              case rel => exact ⟨q + 1, by omega, by go_num, by rw [HTX.out], by first | rfl | trivial⟩
              case measure => (show k - (q + 1) < k - q); omega
          · obtain rfl : q = k := by omega
            rw [List.take_of_length_le (by rw [HXL.out]; exact Nat.le_refl _)]
            have hsz := text_size xs
            generalize hTX : textOf xs = TX at *
            have HTX := Lib.hid hTX
            clear hTX
            go_wp2_with fail
            refine (split_any _ m _ HM.out).mono ?_; rintro e w5 ⟨v2, rfl, hs2, hb2⟩
            have hb := below_call hb hb2 hb.size
            have HM := Lib.hid (HM.out.call hb2)
            have HS := Lib.hid (HS.out.call hb2)
            clear hb2
            by_cases hq0 : q = 0
            · exact absurd hq0 (by omega)
            · have e0 : ((q : Int) == 0) = false := by simp; omega
              have hne := HE.out (by omega)
              by_cases hbig : 400 < T
              · cases lb
                · rw [show spl TX = ([], 70) by rw [← HTX.out]; exact lng_over hne (by rw [HT.out]; exact hbig)] at hs2 ⊢
                  have hj := joinR_long hne (lng_may HX.out HLB.out) (by rw [HT.out]; exact hbig)
                  obtain rfl : ({ data := #[] } : ByteArray) = P := by rw [← HP.out, hj]
                  obtain rfl : 70 = F := by rw [← HF.out, hj]
                  obtain ⟨a2, c2, rfl⟩ := hs2.len
                  clear hs2 hne hj
                  go_wp2_with fail
                  refine (known_true m _ HM.out).mono ?_; rintro e w9 ⟨rfl, hb2⟩
                  have hb := below_call hb hb2 hb.size
                  clear hb2
                  go_wp2_with fail
                  go_ret
                  exact ⟨rfl, hb⟩
                · rw [show spl TX = ([], 70) by rw [← HTX.out]; exact lng_over hne (by rw [HT.out]; exact hbig)] at hs2 ⊢
                  have hj := joinR_no hne (lng_not HLB.out)
                  obtain rfl : 71 = F := by rw [← HF.out, hj]
                  clear hs2 hne hj
                  go_wp2_with fail
                  refine (known_true m _ HM.out).mono ?_; rintro e w9 ⟨rfl, hb2⟩
                  have hb := below_call hb hb2 hb.size
                  clear hb2
                  go_wp2_with fail
                  go_ret
                  exact ⟨rfl, hb⟩
              · cases lb
                · rw [show spl TX = (xs, 0) by rw [← HTX.out]; exact lng_good hne HX.out HLB.out (by rw [HT.out]; exact hbig)] at hs2 ⊢
                  have hj := joinR_yes hne (lng_may HX.out HLB.out) (by rw [HT.out]; exact hbig)
                  obtain rfl : TX = P := by rw [← HP.out, hj, ← HTX.out, text_ne hne]
                  obtain rfl : 0 = F := by rw [← HF.out, hj]
                  have HS2 := Lib.hid hs2
                  clear hs2 hne hj
                  go_wp2_with fail
                  refine (sameTexts_any _ _ _ _ _ _ _ HS2.out HS.out).mono ?_; rintro e w6 ⟨rfl, hb2⟩
                  rw [decide_eq_true rfl]
                  have hb := below_call hb hb2 hb.size
                  have HM := Lib.hid (HM.out.call hb2)
                  clear hb2
                  go_wp2_with fail
                  refine (known_true m _ HM.out).mono ?_; rintro e w9 ⟨rfl, hb2⟩
                  have hb := below_call hb hb2 hb.size
                  clear hb2
                  go_wp2_with fail
                  go_ret
                  exact ⟨rfl, hb⟩
                · rw [show spl TX = ([], 71) by rw [← HTX.out]; exact lng_bad hne HX.out HLB.out (by rw [HT.out]; exact hbig)] at hs2 ⊢
                  have hj := joinR_no hne (lng_not HLB.out)
                  obtain rfl : 71 = F := by rw [← HF.out, hj]
                  clear hs2 hne hj
                  go_wp2_with fail
                  refine (known_true m _ HM.out).mono ?_; rintro e w9 ⟨rfl, hb2⟩
                  have hb := below_call hb hb2 hb.size
                  clear hb2
                  go_wp2_with fail
                  go_ret
                  exact ⟨rfl, hb⟩
    · have hms : MaxAt wr m := HM.out.call hb
      have HM := Lib.hid hms
      have hS : Strs wr w.heap.size (.slice va k vc) xs := by
        have h := strs_own (xs := xs) (by rw [HXL.out]; exact HO.out) (by rw [HXL.out]; omega)
        exact h
      have HS := Lib.hid hS
      clear hS HO hms
      have hE : 1 ≤ k → xs ≠ [] := fun h e => by rw [e] at HXL; have := HXL.out; simp at this; omega
      have HE := Lib.hid hE
      clear hE
      generalize hP : (joinR xs).1 = P at *
      generalize hF : (joinR xs).2 = F at *
      have HP := Lib.hid hP
      have HF := Lib.hid hF
      clear hP hF
      go_wp2_with fail
      refine (join_any _ _ _ _ HS.out).mono ?_; rintro e w3 ⟨rfl, hb2⟩
      have hb := below_call hb hb2 hb.size
      have HM := Lib.hid (HM.out.call hb2)
      have HS := Lib.hid (HS.out.call hb2)
      clear hb2
      rw [HP.out, HF.out]
      go_wp2_with fail
      go_loopw [12, 13] (fun t i w4 => ∃ q : Nat, q ≤ k ∧ i = .int .i64 q ∧ t = .string (textOf (xs.take q)) ∧ w4 = w3) (fun _ i _ => k - (intOf i).toNat)
      case atStart => exact ⟨0, by omega, rfl, rfl, rfl⟩
      case round =>
        obtain ⟨q, hq, rfl, rfl, rfl⟩ := hrel
        by_cases hqk : q < k
        · obtain ⟨x, hx⟩ := getElem_opt (l := xs) (k := q) (by rw [HXL.out]; exact hqk)
          have hts := text_size (xs.take q)
          have htt := tot_le xs q
          rw [HT.out] at htt
          have hx41 : x.size ≤ 41 := by
            obtain ⟨p, -, h2, e⟩ := HX.out x (List.mem_of_getElem? hx)
            rw [e, nmA_size]; exact h2
          have htx := (text_snoc (xs.take q) x).trans (by rw [← takeq_snoc hx])
          have HTX := Lib.hid htx
          have hS := HS.out
          clear htx
          rcases hS with ⟨-, h2⟩ | ⟨g3, o3, c3, h1, hc3, -, -, hgl3, hcell3⟩
          · exact absurd h2 (HE.out (by omega))
          · injection h1 with e1 e2 e3
            subst e1 e3
            have cx := hcell3 q x hx
            rw [cell?_of_hat] at cx
            clear hcell3 hx
            rw [HXL.out] at hc3
            clear e2
            generalize textOf (xs.take q) = TQ at *
            go_wp2_with fail
            go_roundw
            case rel => exact ⟨q + 1, by omega, by go_num, by rw [HTX.out], by first | rfl | trivial⟩
            case measure => (show k - (q + 1) < k - q); omega
        · obtain rfl : q = k := by omega
          rw [List.take_of_length_le (by rw [HXL.out]; exact Nat.le_refl _)]
          have hsz := text_size xs
          generalize hTX : textOf xs = TX at *
          have HTX := Lib.hid hTX
          clear hTX
          go_wp2_with fail
          refine (split_any _ m _ HM.out).mono ?_; rintro e w5 ⟨v2, rfl, hs2, hb2⟩
          have hb := below_call hb hb2 hb.size
          have HM := Lib.hid (HM.out.call hb2)
          have HS := Lib.hid (HS.out.call hb2)
          clear hb2
          by_cases hq0 : q = 0
          · have hx0 : xs = [] := List.eq_nil_of_length_eq_zero (by rw [HXL.out]; exact hq0)
            rw [show spl TX = ([], 70) by rw [← HTX.out, hx0]; exact lng_0] at hs2 ⊢
            obtain rfl : slash = P := by rw [← HP.out, hx0, joinR_root]
            obtain rfl : 0 = F := by rw [← HF.out, hx0, joinR_root]
            subst hq0
            clear hs2 hx0
            have hsl : slash.toList = [47] := by rw [Lib.toList_data]; rfl
            go_wp2_with fail
            refine (known_true m _ HM.out).mono ?_; rintro e w9 ⟨rfl, hb2⟩
            have hb := below_call hb hb2 hb.size
            clear hb2
            go_wp2_with fail
            go_ret
            exact ⟨rfl, hb⟩
          · have e0 : ((q : Int) == 0) = false := by simp; omega
            have hne := HE.out (by omega)
            by_cases hbig : 400 < T
            · cases lb
              · rw [show spl TX = ([], 70) by rw [← HTX.out]; exact lng_over hne (by rw [HT.out]; exact hbig)] at hs2 ⊢
                have hj := joinR_long hne (lng_may HX.out HLB.out) (by rw [HT.out]; exact hbig)
                obtain rfl : ({ data := #[] } : ByteArray) = P := by rw [← HP.out, hj]
                obtain rfl : 70 = F := by rw [← HF.out, hj]
                obtain ⟨a2, c2, rfl⟩ := hs2.len
                clear hs2 hne hj
                go_wp2_with fail
                refine (known_true m _ HM.out).mono ?_; rintro e w9 ⟨rfl, hb2⟩
                have hb := below_call hb hb2 hb.size
                clear hb2
                go_wp2_with fail
                go_ret
                exact ⟨rfl, hb⟩
              · rw [show spl TX = ([], 70) by rw [← HTX.out]; exact lng_over hne (by rw [HT.out]; exact hbig)] at hs2 ⊢
                have hj := joinR_no hne (lng_not HLB.out)
                obtain rfl : 71 = F := by rw [← HF.out, hj]
                clear hs2 hne hj
                go_wp2_with fail
                refine (known_true m _ HM.out).mono ?_; rintro e w9 ⟨rfl, hb2⟩
                have hb := below_call hb hb2 hb.size
                clear hb2
                go_wp2_with fail
                go_ret
                exact ⟨rfl, hb⟩
            · cases lb
              · rw [show spl TX = (xs, 0) by rw [← HTX.out]; exact lng_good hne HX.out HLB.out (by rw [HT.out]; exact hbig)] at hs2 ⊢
                have hj := joinR_yes hne (lng_may HX.out HLB.out) (by rw [HT.out]; exact hbig)
                obtain rfl : TX = P := by rw [← HP.out, hj, ← HTX.out, text_ne hne]
                obtain rfl : 0 = F := by rw [← HF.out, hj]
                have HS2 := Lib.hid hs2
                clear hs2 hne hj
                go_wp2_with fail
                refine (sameTexts_any _ _ _ _ _ _ _ HS2.out HS.out).mono ?_; rintro e w6 ⟨rfl, hb2⟩
                rw [decide_eq_true rfl]
                have hb := below_call hb hb2 hb.size
                have HM := Lib.hid (HM.out.call hb2)
                clear hb2
                go_wp2_with fail
                refine (known_true m _ HM.out).mono ?_; rintro e w9 ⟨rfl, hb2⟩
                have hb := below_call hb hb2 hb.size
                clear hb2
                go_wp2_with fail
                go_ret
                exact ⟨rfl, hb⟩
              · rw [show spl TX = ([], 71) by rw [← HTX.out]; exact lng_bad hne HX.out HLB.out (by rw [HT.out]; exact hbig)] at hs2 ⊢
                have hj := joinR_no hne (lng_not HLB.out)
                obtain rfl : 71 = F := by rw [← HF.out, hj]
                clear hs2 hne hj
                go_wp2_with fail
                refine (known_true m _ HM.out).mono ?_; rintro e w9 ⟨rfl, hb2⟩
                have hb := below_call hb hb2 hb.size
                clear hb2
                go_wp2_with fail
                go_ret
                exact ⟨rfl, hb⟩
end Go.Proofs.YtkhpifjhnkknbaaDoor
