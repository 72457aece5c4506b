/- Slots: the reference's ReadSlot. -/
import Derived.Test.YthgiolofnkdfoaaSlo3
import Derived.Test.YthgiolofnkdfoaaIno1
import Derived.Lib.BufferRead
namespace Go.Proofs.Ythgiolofnkdfoaa
set_option linter.unusedSimpArgs false
set_option linter.unusedVariables false
open Go.RowKit

theorem Try.info5 : (Try.prog.info? 5).map (fun i => (i.zero, i.size, i.bytes)) = some (some (.int .u8 0), 1, 1) := by kernel_rfl
def rawV (s : List Int) (k : Nat) : List Value := (List.range k).map fun j => .int .u8 (nth s (5 + j))
@[simp] theorem rawV_length (s : List Int) (k : Nat) : (rawV s k).length = k := by simp [rawV]
theorem rawV_succ (s : List Int) (k : Nat) : rawV s (k + 1) = rawV s k ++ [.int .u8 (nth s (5 + k))] := by
  unfold rawV; rw [List.range_succ, List.map_append]; rfl

theorem ownsRow_ne {w : World} {base : Nat} {e : TypeId} {size : Nat} {v : Value} {n : Nat} {xs : List Value} (h : w.ownsRow base e size v n xs) {k : Nat} (hk : k < base) : v.ownBlock ≠ some k := by
  obtain ⟨-, h⟩ := h
  rcases h with ⟨rfl, -⟩ | ⟨g, cap, cur, rfl, h1, -⟩
  · intro h; cases h
  · intro h
    have : g = k := by simpa [Value.ownBlock] using h
    omega

set_option maxHeartbeats 1000000 in
set_option maxRecDepth 100000 in
theorem rreadSlot_any (s : List Int) (hs : s.length = 128) (hb : Bytes s) (w : World) :
    Calls Try.prog 15 #[.agg (IV .u8 s)] w fun e w' => e = .returned (rdSlotV s) ∧ Below w.heap.size w w' := by
  have HBY := Lib.hid hb
  obtain ⟨n0, n1⟩ := hb.at 4
  have g41 : getB s 4 1 = nth s 4 := by simp [getB]
  have G41 := Lib.hid g41
  have hx0 := getB_nonneg hb 4 0
  have hx1 : getB s 0 4 < 4294967296 := getB_lt hb 4 0
  clear hb g41
  go_enter Try.func15, Try.ntmps15
  have hbw := ((Below.refl w.heap.size w).alloc (Nat.le_refl _) (.cells (IV .u8 s) 25)).alloc (by simp) (.cells #[.int .i64 0, .string { data := #[] }] 23)
  have f1 : hat ((w.alloc (.cells (IV .u8 s) 25)).alloc (.cells #[.int .i64 0, .string { data := #[] }] 23)) w.heap.size = some (.cells (IV .u8 s) 25) := by simp [go_sem]
  have f2 : hat ((w.alloc (.cells (IV .u8 s) 25)).alloc (.cells #[.int .i64 0, .string { data := #[] }] 23)) (w.heap.size + 1) = some (.cells #[.int .i64 0, .string { data := #[] }] 23) := by simp [go_sem]
  go_wp2_with fail
  refine (says_ok s hs HBY.out 0 4 _ (by omega) (by omega) (by omega)).mono ?_; rintro e w3 ⟨rfl, hb3⟩
  have hbw := below_call hbw hb3 hbw.size
  obtain ⟨f1, z1⟩ := hop hb3 f1
  obtain ⟨f2, z2⟩ := hop hb3 f2
  clear hb3
  go_wp2_with fail
  have hbw := below_new hbw (by omega) (.cells #[.int .i64 (getB s 0 4), .string { data := #[] }] 23)
  obtain ⟨f1, z1⟩ := hopA w3 (.cells #[.int .i64 (getB s 0 4), .string { data := #[] }] 23) f1
  obtain ⟨f2, z2⟩ := hopA w3 (.cells #[.int .i64 (getB s 0 4), .string { data := #[] }] 23) f2
  obtain ⟨f4, z4⟩ := hopN w3 (.cells #[.int .i64 (getB s 0 4), .string { data := #[] }] 23)
  generalize w3.alloc (.cells #[.int .i64 (getB s 0 4), .string { data := #[] }] 23) = w4 at *
  have hg4 : w.heap.size + 1 < w3.heap.size := by omega
  generalize w3.heap.size = g4 at *
  refine (says_ok s hs HBY.out 4 1 _ (by omega) (by omega) (by omega)).mono ?_; rintro e w5 ⟨rfl, hb3⟩
  rw [G41.out]
  have hbw := below_call hbw hb3 hbw.size
  obtain ⟨f1, z1⟩ := hop hb3 f1
  obtain ⟨f2, z2⟩ := hop hb3 f2
  obtain ⟨f4, z4⟩ := hop hb3 f4
  clear hb3
  obtain ⟨n, hn⟩ : ∃ n : Nat, nth s 4 = n := ⟨(nth s 4).toNat, by omega⟩
  have HNN := Lib.hid hn
  rw [hn] at n0 n1 ⊢
  clear hn
  by_cases h40 : n ≤ 40
  · have h40' : (n : Int) ≤ 40 := by omega
    obtain ⟨i0, hi, hz0, hz1, hz2⟩ := info_parts Try.info5
    go_wp2_with fail
    go_loopw [6, 7] (fun v i wr => ∃ k : Nat, k ≤ n ∧ i = .int .i64 k ∧ wr.ownsRow w5.heap.size 5 1 v k (rawV s k) ∧ w5.heap.size ≤ wr.heap.size ∧ hat wr w.heap.size = some (.cells (IV .u8 s) 25)
      ∧ hat wr (w.heap.size + 1) = some (.cells #[.int .i64 0, .string { data := #[] }] 23) ∧ hat wr g4 = some (.cells #[.int .i64 (getB s 0 4), .string { data := #[] }] 23) ∧ Below w.heap.size w wr) (fun _ i _ => n - (intOf i).toNat)
    case atStart => exact ⟨0, by omega, rfl, ⟨by simp, .inl ⟨rfl, rfl⟩⟩, Nat.le_refl _, f1, f2, f4, hbw⟩
    case round =>
      have y1 := z1
      have y2 := z2
      have y4 := z4
      clear f1 f2 f4 hbw z1 z2 z4
      obtain ⟨k, hk, rfl, hown, hsz, f1, f2, f4, hbw⟩ := hrel
      have z1 := hat_lt f1
      have z2 := hat_lt f2
      have z4 := hat_lt f4
      have HO := Lib.hid hown
      clear hown
      by_cases hkn : k < n
      · have hk5 : 5 + k < 128 := by omega
        have hk5' : 5 + (k : Int) < 128 := by omega
        have hkn' : (k : Int) < n := by omega
        go_wp2_with (at_builtin; refine wpList_append_own _ rfl (.tmp 22) (.tmp 27) 59 rfl w5.heap.size 5 i0 _ 1 1 Try.underlying59 hi hz0 hz1 hz2 rfl (by decide) u6 k (rawV s k) rfl (HO.out.alloc _) ⟨wr.heap.size, 0, none⟩ 1 1 [.int .u8 (nth s (5 + k))] rfl rfl ?c1 ?c2 ?c3 ?c4 ?c5 (fun v' w1 hown' hgrow _ => ?_))
        case c1 =>
          intro j u hj
          have hj3 : j < 1 := by
            have := (List.getElem?_eq_some_iff.1 hj).1
            simpa using this
          have hadd : (⟨wr.heap.size, 0, none⟩ : Addr).add j = ⟨wr.heap.size, j, none⟩ := by unfold Addr.add; split <;> simp_all
          rw [hadd, cell_hat (hat_alloc_at _ _ _ rfl)]
          simpa using hj
        case c2 =>
          intro u hu
          simp at hu
          subst hu
          rfl
        case c3 => unfold maxLen; omega
        case c4 => omega
        case c5 => simp only [World.size_alloc]; omega
        go_roundw
        case rel =>
          have hh : ∀ {b : Nat} {o : Obj}, b < w5.heap.size → hat wr b = some o → hat w1 b = some o := fun {b o} hb h => by
            show w1.heap[b]? = _
            rw [hgrow.block _ (by simp only [World.size_alloc]; have := hat_lt h; omega) (Ne.symm (ownsRow_ne HO.out hb))]
            show hat _ _ = _
            rw [hat_alloc_past _ _ _ (hat_lt h), h]
          refine ⟨k + 1, by omega, by go_num, by rw [rawV_succ]; exact hown', ?_, hh y1 f1, hh y2 f2, hh y4 f4, ?_⟩
          · have h1 := hgrow.size
            simp only [World.size_alloc] at h1
            omega
          · exact (hbw.alloc (by omega) _).grown hgrow (by simp only [World.size_alloc]; omega) (fun k hk => by
              have h1 : ¬ k < w5.heap.size := fun h => ownsRow_ne HO.out h hk
              omega)
        case measure => (show n - (k + 1) < n - k); omega
      · obtain rfl : k = n := by omega
        have hcv : ∃ nm : ByteArray, (⟨(rawNm s k).toArray⟩ : ByteArray) = nm ∧ nm.size < 4611686018427387904 ∧ (convert 59 9 u6).run Try.prog wr = .ok (.string nm) wr := by
          obtain ⟨-, h⟩ := HO.out
          refine ⟨_, rfl, ?_, ?_⟩
          · show (rawNm s k).toArray.size < _
            simp; omega
          · rcases h with ⟨rfl, rfl⟩ | ⟨g, cap, cur, rfl, h1, h2, h3, h4, h5, h6⟩
            · exact Lib.run_convert_nil_bytes wr 59 9 5 0 Try.underlying59 Try.underlying5 Try.underlying9
            · have h := run_convert_bytes_back (P := Try.prog) wr 59 9 5 ⟨g, 0, none⟩ cap (rawNm s k) Try.underlying59 Try.underlying5 Try.underlying9 (fun j hj => by
                have hadd : (⟨g, 0, none⟩ : Addr).add j = ⟨g, j, none⟩ := by unfold Addr.add; split <;> simp_all
                have hj' : j < k := by simpa using hj
                obtain ⟨b0, b1⟩ := HBY.out.at (5 + j)
                rw [hadd, cell_hat h2]
                have e : (cur.toList.take (k * 1))[j]? = some (.int .u8 (nth s (5 + j))) := by rw [h6]; simp [rawV, hj']
                rw [List.getElem?_take, if_pos (by omega)] at e
                simp only [rawNm, List.getElem_map, List.getElem_range]
                rw [u8_back b0 b1]
                simpa using e)
              rw [rawNm_length] at h
              exact h
        obtain ⟨nm, hnm, hnz, hcv⟩ := hcv
        go_wp2_with fail
        obtain ⟨f1, z1⟩ := hopCo f1 g4 1 (.string nm) (by omega)
        obtain ⟨f2, z2⟩ := hopCo f2 g4 1 (.string nm) (by omega)
        have f4 : hat (wr.setCell ⟨g4, 1, none⟩ (.string nm)) g4 = some (.cells #[.int .i64 (getB s 0 4), .string nm] 23) := by rw [hat_setCell_at _ _ _ _ _ _ _ f4]; rfl
        have hbw : Below w.heap.size w (wr.setCell ⟨g4, 1, none⟩ (.string nm)) := hbw.setCell (by simp; omega) _
        generalize wr.setCell ⟨g4, 1, none⟩ (.string nm) = w7 at *
        refine (rslotSector_any (getB s 0 4) nm _ hnz).mono ?_; rintro e w6 ⟨rfl, hb3⟩
        have hbw := below_call hbw hb3 hbw.size
        obtain ⟨f1, z1⟩ := hop hb3 f1
        obtain ⟨f2, z2⟩ := hop hb3 f2
        obtain ⟨f4, z4⟩ := hop hb3 f4
        clear hb3
        have HNM := Lib.hid (show rdNm s = nm from by unfold rdNm; rw [HNN.out, if_pos h40', Int.toNat_natCast]; exact hnm)
        by_cases he : slotR (getB s 0 4) nm = (s, 0)
        · have hd : rdSlotV s = .tuple #[.agg #[.int .i64 (getB s 0 4), .string nm], .int .i64 0] := by unfold rdSlotV; rw [HNM.out, if_pos he]
          have HD := Lib.hid hd
          rw [show slotV (getB s 0 4) nm = .tuple #[.agg (IV .u8 s), .int .i64 0] from by unfold slotV; rw [he]]
          clear he hd
          go_wp2_with fail
          exact ret_ct row23 rfl (cs := #[.int .i64 (getB s 0 4), .string nm]) rfl (hopA _ _ (hopS f2 #[.int .i64 (getB s 0 4), .string nm]).1).1 rfl rfl ⟨by rw [HD.out]; rfl, below_new (below_setRow hbw (by omega) _) (by simp; omega) _⟩
        · have hd : rdSlotV s = .tuple #[.agg #[.int .i64 0, .string { data := #[] }], .int .i64 63] := by unfold rdSlotV; rw [HNM.out, if_neg he]
          have HD := Lib.hid hd
          have hrl : (slotR (getB s 0 4) nm).1.length = 128 := slotR_length _ _
          unfold slotV
          clear hd HNM
          generalize slotR (getB s 0 4) nm = rr at *
          obtain ⟨r1, r2⟩ := rr
          simp only [] at hrl ⊢
          by_cases h2 : r2 = 0
          · subst h2
            have hne : ¬ r1 = s := fun h => he (by rw [h])
            clear he
            go_wp2_with fail
            exact ret_ct row23 rfl (cs := #[.int .i64 0, .string { data := #[] }]) rfl (hopA _ _ (hopS f2 #[.int .i64 0, .string { data := #[] }]).1).1 rfl rfl ⟨by rw [HD.out]; rfl, below_new (below_setRow hbw (by omega) _) (by simp; omega) _⟩
          · have h2' : (r2 == 0) = false := beq_eq_false_iff_ne.2 h2
            clear he
            go_wp2_with fail
            exact ret_ct row23 rfl (cs := #[.int .i64 0, .string { data := #[] }]) rfl (hopA _ _ (hopS f2 #[.int .i64 0, .string { data := #[] }]).1).1 rfl rfl ⟨by rw [HD.out]; rfl, below_new (below_setRow hbw (by omega) _) (by simp; omega) _⟩
  · have h40' : decide ((n : Int) ≤ 40) = false := by simp; omega
    go_wp2_with fail
    refine (rslotSector_any (getB s 0 4) { data := #[] } _ (by decide)).mono ?_; rintro e w6 ⟨rfl, hb3⟩
    have hbw := below_call hbw hb3 hbw.size
    obtain ⟨f1, z1⟩ := hop hb3 f1
    obtain ⟨f2, z2⟩ := hop hb3 f2
    obtain ⟨f4, z4⟩ := hop hb3 f4
    clear hb3
    have HNM := Lib.hid (show rdNm s = { data := #[] } from by unfold rdNm; rw [HNN.out, if_neg (by omega)])
    by_cases he : slotR (getB s 0 4) { data := #[] } = (s, 0)
    · have hd : rdSlotV s = .tuple #[.agg #[.int .i64 (getB s 0 4), .string { data := #[] }], .int .i64 0] := by unfold rdSlotV; rw [HNM.out, if_pos he]
      have HD := Lib.hid hd
      rw [show slotV (getB s 0 4) { data := #[] } = .tuple #[.agg (IV .u8 s), .int .i64 0] from by unfold slotV; rw [he]]
      clear he hd
      go_wp2_with fail
      exact ret_ct row23 rfl (cs := #[.int .i64 (getB s 0 4), .string { data := #[] }]) rfl (hopA _ _ (hopS f2 #[.int .i64 (getB s 0 4), .string { data := #[] }]).1).1 rfl rfl ⟨by rw [HD.out]; rfl, below_new (below_setRow hbw (by omega) _) (by simp; omega) _⟩
    · have hd : rdSlotV s = .tuple #[.agg #[.int .i64 0, .string { data := #[] }], .int .i64 63] := by unfold rdSlotV; rw [HNM.out, if_neg he]
      have HD := Lib.hid hd
      have hrl : (slotR (getB s 0 4) { data := #[] }).1.length = 128 := slotR_length _ _
      unfold slotV
      clear hd HNM
      generalize slotR (getB s 0 4) { data := #[] } = rr at *
      obtain ⟨r1, r2⟩ := rr
      simp only [] at hrl ⊢
      by_cases h2 : r2 = 0
      · subst h2
        have hne : ¬ r1 = s := fun h => he (by rw [h])
        clear he
        go_wp2_with fail
        exact ret_ct row23 rfl (cs := #[.int .i64 0, .string { data := #[] }]) rfl (hopA _ _ (hopS f2 #[.int .i64 0, .string { data := #[] }]).1).1 rfl rfl ⟨by rw [HD.out]; rfl, below_new (below_setRow hbw (by omega) _) (by simp; omega) _⟩
      · have h2' : (r2 == 0) = false := beq_eq_false_iff_ne.2 h2
        clear he
        go_wp2_with fail
        exact ret_ct row23 rfl (cs := #[.int .i64 0, .string { data := #[] }]) rfl (hopA _ _ (hopS f2 #[.int .i64 0, .string { data := #[] }]).1).1 rfl rfl ⟨by rw [HD.out]; rfl, below_new (below_setRow hbw (by omega) _) (by simp; omega) _⟩
end Go.Proofs.Ythgiolofnkdfoaa
