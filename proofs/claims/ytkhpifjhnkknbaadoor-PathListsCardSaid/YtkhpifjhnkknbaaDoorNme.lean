/- The law's name: whatever the text, what comes out may be a name: the walk. -/
import Derived.Test.YtkhpifjhnkknbaaDoorSam
import Derived.Lib.BufferRead
namespace Go.Proofs.YtkhpifjhnkknbaaDoor
set_option linter.unusedSimpArgs false
set_option linter.unusedVariables false
open Go.RowKit

theorem Tryd.infoB : (Tryd.prog.info? 5).map (fun i => (i.zero, i.size, i.bytes)) = some (some (.int .u8 0), 1, 1) := by kernel_rfl
theorem info_parts {P : Program} {t : TypeId} {z : Value} {s b : Nat} (h : (P.info? t).map (fun i => (i.zero, i.size, i.bytes)) = some (some z, s, b)) : ∃ i, P.info? t = some i ∧ i.zero = some z ∧ i.size = s ∧ i.bytes = b := by
  cases hi : P.info? t with
  | none => simp [hi] at h
  | some i =>
    simp only [hi, Option.map_some, Option.some.injEq, Prod.mk.injEq] at h
    exact ⟨i, rfl, h.1, h.2.1, h.2.2⟩
theorem ownsRow_ne {w : World} {base : Nat} {e : TypeId} {size : Nat} {v : Value} {n : Nat} {xs : List Value} (h : w.ownsRow base e size v n xs) {k : Nat} (hk : k < base) : v.ownBlock ≠ some k := by
  obtain ⟨-, h⟩ := h
  rcases h with ⟨rfl, -⟩ | ⟨g, cap, cur, rfl, h1, -⟩
  · intro h; cases h
  · intro h
    have : g = k := by simpa [Value.ownBlock] using h
    omega
def byteV (L : List UInt8) : List Value := L.map fun b => .int .u8 b.toNat
@[simp] theorem byteV_length (L : List UInt8) : (byteV L).length = L.length := by simp [byteV]
theorem byteV_snoc (L : List UInt8) (b : UInt8) : byteV (L ++ [b]) = byteV L ++ [.int .u8 b.toNat] := by simp [byteV]
/-- bytes that a call has appended, as a text -/
theorem conv_own {w : World} {B : Nat} {v : Value} {L : List UInt8} (h : w.ownsRow B 5 1 v L.length (byteV L)) :
    (convert 42 9 v).run Tryd.prog w = .ok (.string ⟨L.toArray⟩) w := by
  obtain ⟨-, h⟩ := h
  rcases h with ⟨rfl, h0⟩ | ⟨g, cap, cur, rfl, h1, h2, h3, h4, h5, h6⟩
  · obtain rfl : L = [] := List.eq_nil_of_length_eq_zero h0
    exact Lib.run_convert_nil_bytes w 42 9 5 0 Tryd.underlying42 Tryd.underlying5 Tryd.underlying9
  · exact run_convert_bytes_back (P := Tryd.prog) w 42 9 5 ⟨g, 0, none⟩ cap L Tryd.underlying42 Tryd.underlying5 Tryd.underlying9 (fun j hj => by
      have hadd : (⟨g, 0, none⟩ : Addr).add j = ⟨g, j, none⟩ := by unfold Addr.add; split <;> simp_all
      rw [hadd, cell_hat h2]
      have e : (cur.toList.take (L.length * 1))[j]? = some (.int .u8 L[j].toNat) := by rw [h6]; simp [byteV, hj]
      rw [List.getElem?_take, if_pos (by omega)] at e
      simpa using e)
theorem own_len {w : World} {B : Nat} {e : TypeId} {n : Nat} {v : Value} {xs : List Value} (h : w.ownsRow B e 1 v n xs) : ∃ a c, v = .slice a n c := by
  obtain ⟨-, h⟩ := h
  rcases h with ⟨rfl, rfl⟩ | ⟨g, cap, cur, rfl, -⟩
  · exact ⟨_, _, rfl⟩
  · exact ⟨_, _, rfl⟩
theorem name_ok {L : List UInt8} (h1 : L ≠ []) (h2 : L.length ≤ 40) (h3 : ∀ b ∈ L, b ≠ 0 ∧ b ≠ 47) (h4 : L ≠ [46]) (h5 : L ≠ [46, 46]) : NameMay L :=
  ⟨List.length_pos_iff.2 h1, h2, h3, h4, h5⟩
theorem text_eq {L M : List UInt8} : ((⟨L.toArray⟩ : ByteArray).toList == M) = (L == M) := by rw [Lib.toList_data]

set_option maxHeartbeats 4000000 in
set_option maxRecDepth 100000 in
theorem name_any (s : ByteArray) (w : World) :
    Calls Tryd.prog 20 #[.string s] w fun e w' => ∃ n : ByteArray, e = .returned (.string n) ∧ NameMay n.data.toList ∧ Below w.heap.size w w' := by
  obtain ⟨i0, hi, hz0, hz1, hz2⟩ := info_parts Tryd.infoB
  go_enter Tryd.func20, Tryd.ntmps20
  go_wp2_with fail
  go_loopw [3, 4] (fun v i wr => ∃ L : List UInt8, L.length ≤ s.size ∧ L.length ≤ 40 ∧ i = .int .i64 L.length ∧ wr.ownsRow w.heap.size 5 1 v L.length (byteV L) ∧ Below w.heap.size w wr ∧ (∀ b ∈ L, b ≠ 0 ∧ b ≠ 47)) (fun _ i _ => s.size - (intOf i).toNat)
  case atStart => exact ⟨[], by simp, by simp, rfl, ⟨by simp, .inl ⟨rfl, rfl⟩⟩, Below.refl _ _, by simp⟩
  case round =>
    obtain ⟨L, hk, hk40, rfl, hown, hbw, hL⟩ := hrel
    have HO := Lib.hid hown
    have HL := Lib.hid hL
    have hsz := hbw.size
    obtain ⟨va, vc, hv⟩ := own_len hown
    have HV := Lib.hid hv
    clear hown hL
    subst hv
    generalize hkk : L.length = k at *
    have HK := Lib.hid hkk
    clear hkk
    by_cases hkn : k < s.size
    · by_cases hk4 : k < 40
      · obtain ⟨x, hx⟩ : ∃ x : UInt8, s[k]'hkn = x := ⟨_, rfl⟩
        have gi : ∀ w, (Instr.index 9 (.string s) (.int .i64 k)).run Tryd.prog w = .ok (.int .u8 x.toNat) w := fun w => by
          rw [run_index_string w 9 s .i64 k Tryd.underlying9, dif_pos ⟨by omega, by omega⟩]
          show Result.ok (Value.int .u8 (s[k]'hkn).toNat) w = _
          rw [hx]
        clear hx
        by_cases x0 : x = 0
        · have e0 : ((x.toNat : Int) == 0) = true := by subst x0; rfl
          clear x0
          go_wp2_with (at_builtin; refine wpList_append_own _ rfl (.tmp 26) (.tmp 28) 42 rfl w.heap.size 5 i0 _ 1 1 Tryd.underlying42 hi hz0 hz1 hz2 rfl (by decide) (.slice va k vc) k (byteV L) rfl (HO.out.alloc _) ⟨wr.heap.size, 0, none⟩ 1 1 [.int .u8 120] rfl rfl ?x1 ?x2 ?x3 ?x4 ?x5 (fun v' w1 hown' hgrow _ => ?_))
          case x3 => unfold maxLen; omega
          case x4 => omega
          case x5 => first | omega | (simp only [World.size_alloc]; omega)
          go_roundw
          case rel =>
            refine ⟨L ++ [120], by simp [HK.out]; omega, by simp [HK.out]; omega, by simp [HK.out], by rw [byteV_snoc, List.length_append, HK.out]; exact hown', ?_, ?_⟩
            · exact (hbw.alloc (by omega) _).grown hgrow (by simp only [World.size_alloc]; omega) (fun q hq => by
                have h1 : ¬ q < w.heap.size := fun h => ownsRow_ne HO.out h hq
                omega)
            · intro b hb
              rcases List.mem_append.1 hb with h | h
              · exact HL.out b h
              · rw [List.mem_singleton.1 h]; exact ⟨by decide, by decide⟩
          case measure => (show s.size - (k + 1) < s.size - k); omega
        · have e0 : ((x.toNat : Int) == 0) = false := by
            simp only [beq_eq_false_iff_ne, ne_eq]
            intro h; exact x0 (UInt8.toNat_inj.1 (by have : (0 : UInt8).toNat = 0 := rfl
                                                     omega))
          have HX0 := Lib.hid x0
          clear x0
          by_cases x7 : x = 47
          · have e7 : ((x.toNat : Int) == 47) = true := by subst x7; rfl
            clear x7
            go_wp2_with (at_builtin; refine wpList_append_own _ rfl (.tmp 26) (.tmp 28) 42 rfl w.heap.size 5 i0 _ 1 1 Tryd.underlying42 hi hz0 hz1 hz2 rfl (by decide) (.slice va k vc) k (byteV L) rfl (HO.out.alloc _) ⟨wr.heap.size, 0, none⟩ 1 1 [.int .u8 120] rfl rfl ?y1 ?y2 ?y3 ?y4 ?y5 (fun v' w1 hown' hgrow _ => ?_))
            case y3 => unfold maxLen; omega
            case y4 => omega
            case y5 => first | omega | (simp only [World.size_alloc]; omega)
            go_roundw
            case rel =>
              refine ⟨L ++ [120], by simp [HK.out]; omega, by simp [HK.out]; omega, by simp [HK.out], by rw [byteV_snoc, List.length_append, HK.out]; exact hown', ?_, ?_⟩
              · exact (hbw.alloc (by omega) _).grown hgrow (by simp only [World.size_alloc]; omega) (fun q hq => by
                  have h1 : ¬ q < w.heap.size := fun h => ownsRow_ne HO.out h hq
                  omega)
              · intro b hb
                rcases List.mem_append.1 hb with h | h
                · exact HL.out b h
                · rw [List.mem_singleton.1 h]; exact ⟨by decide, by decide⟩
            case measure => (show s.size - (k + 1) < s.size - k); omega
          · have e7 : ((x.toNat : Int) == 47) = false := by
              simp only [beq_eq_false_iff_ne, ne_eq]
              intro h; exact x7 (UInt8.toNat_inj.1 (by have : (47 : UInt8).toNat = 47 := rfl
                                                       omega))
            have HX7 := Lib.hid x7
            clear x7
            go_wp2_with (at_builtin; refine wpList_append_own _ rfl (.tmp 26) (.tmp 28) 42 rfl w.heap.size 5 i0 _ 1 1 Tryd.underlying42 hi hz0 hz1 hz2 rfl (by decide) (.slice va k vc) k (byteV L) rfl (HO.out.alloc _) ⟨wr.heap.size, 0, none⟩ 1 1 [.int .u8 x.toNat] rfl rfl ?z1 ?z2 ?z3 ?z4 ?z5 (fun v' w1 hown' hgrow _ => ?_))
            case z3 => unfold maxLen; omega
            case z4 => omega
            case z5 => first | omega | (simp only [World.size_alloc]; omega)
            go_roundw
            case rel =>
              refine ⟨L ++ [x], by simp [HK.out]; omega, by simp [HK.out]; omega, by simp [HK.out], by rw [byteV_snoc, List.length_append, HK.out]; exact hown', ?_, ?_⟩
              · exact (hbw.alloc (by omega) _).grown hgrow (by simp only [World.size_alloc]; omega) (fun q hq => by
                  have h1 : ¬ q < w.heap.size := fun h => ownsRow_ne HO.out h hq
                  omega)
              · intro b hb
                rcases List.mem_append.1 hb with h | h
                · exact HL.out b h
                · rw [List.mem_singleton.1 h]; exact ⟨HX0.out, HX7.out⟩
            case measure => (show s.size - (k + 1) < s.size - k); omega
      · skip
        have hcv := conv_own (by rw [HK.out]; exact HO.out)
        have ht := fun M => text_eq (L := L) (M := M)
        have HC := Lib.hid hcv
        cases h0 : L == []
        · cases h1 : L == [46]
          · cases h2 : L == [46, 46]
            · have e0 : ((k : Int) == 0) = false := by
                have := beq_eq_false_iff_ne.1 h0
                have := List.length_pos_iff.2 this
                simp only [beq_eq_false_iff_ne, ne_eq]
                have := HK.out
                omega
              have t1 := (ht [46]).trans h1
              have t2 := (ht [46, 46]).trans h2
              clear ht
              have H0 := Lib.hid h0
              have H1 := Lib.hid h1
              have H2 := Lib.hid h2
              clear h0 h1 h2
              generalize hJ : (⟨L.toArray⟩ : ByteArray) = J at *
              have HJ := Lib.hid hJ
              clear hJ HC
              go_wp2_with fail
              go_ret
              refine ⟨J, rfl, ?_, hbw⟩
              rw [← HJ.out]
              exact name_ok (beq_eq_false_iff_ne.1 H0.out) (by rw [HK.out]; exact hk40) HL.out (beq_eq_false_iff_ne.1 H1.out) (beq_eq_false_iff_ne.1 H2.out)
            · have e0 : ((k : Int) == 0) = false := by
                have := beq_eq_false_iff_ne.1 h0
                have := List.length_pos_iff.2 this
                simp only [beq_eq_false_iff_ne, ne_eq]
                have := HK.out
                omega
              have t1 := (ht [46]).trans h1
              have t2 := (ht [46, 46]).trans h2
              have hJs : (⟨L.toArray⟩ : ByteArray).size ≤ 40 := by rw [← len_data]; simp only []; rw [HK.out]; exact hk40
              clear ht
              have H2 := Lib.hid h2
              clear h0 h1 h2
              generalize hJ : (⟨L.toArray⟩ : ByteArray) = J at *
              have HJ := Lib.hid hJ
              clear hJ HC
              go_wp2_with fail
              go_ret
              refine ⟨_, rfl, ?_, hbw⟩
              rw [← HJ.out, beq_iff_eq.1 H2.out]
              decide +kernel
          · have e0 : ((k : Int) == 0) = false := by
              have := beq_eq_false_iff_ne.1 h0
              have := List.length_pos_iff.2 this
              simp only [beq_eq_false_iff_ne, ne_eq]
              have := HK.out
              omega
            have t1 := (ht [46]).trans h1
            have hJs : (⟨L.toArray⟩ : ByteArray).size ≤ 40 := by rw [← len_data]; simp only []; rw [HK.out]; exact hk40
            clear ht
            have H1 := Lib.hid h1
            clear h0 h1
            generalize hJ : (⟨L.toArray⟩ : ByteArray) = J at *
            have HJ := Lib.hid hJ
            clear hJ HC
            go_wp2_with fail
            go_ret
            refine ⟨_, rfl, ?_, hbw⟩
            rw [← HJ.out, beq_iff_eq.1 H1.out]
            decide +kernel
        · have e0 : ((k : Int) == 0) = true := by
            have h := HK.out
            rw [beq_iff_eq.1 h0] at h
            rw [← h]; rfl
          have hJs : (⟨L.toArray⟩ : ByteArray).size ≤ 40 := by rw [← len_data]; simp only []; rw [HK.out]; exact hk40
          clear ht
          have H0 := Lib.hid h0
          clear h0
          generalize hJ : (⟨L.toArray⟩ : ByteArray) = J at *
          have HJ := Lib.hid hJ
          clear hJ HC
          go_wp2_with fail
          go_ret
          refine ⟨_, rfl, ?_, hbw⟩
          rw [← HJ.out, beq_iff_eq.1 H0.out]
          decide +kernel
    · skip
      have hcv := conv_own (by rw [HK.out]; exact HO.out)
      have ht := fun M => text_eq (L := L) (M := M)
      have HC := Lib.hid hcv
      cases h0 : L == []
      · cases h1 : L == [46]
        · cases h2 : L == [46, 46]
          · have e0 : ((k : Int) == 0) = false := by
              have := beq_eq_false_iff_ne.1 h0
              have := List.length_pos_iff.2 this
              simp only [beq_eq_false_iff_ne, ne_eq]
              have := HK.out
              omega
            have t1 := (ht [46]).trans h1
            have t2 := (ht [46, 46]).trans h2
            clear ht
            have H0 := Lib.hid h0
            have H1 := Lib.hid h1
            have H2 := Lib.hid h2
            clear h0 h1 h2
            generalize hJ : (⟨L.toArray⟩ : ByteArray) = J at *
            have HJ := Lib.hid hJ
            clear hJ HC
            go_wp2_with fail
            go_ret
            refine ⟨J, rfl, ?_, hbw⟩
            rw [← HJ.out]
            exact name_ok (beq_eq_false_iff_ne.1 H0.out) (by rw [HK.out]; exact hk40) HL.out (beq_eq_false_iff_ne.1 H1.out) (beq_eq_false_iff_ne.1 H2.out)
          · have e0 : ((k : Int) == 0) = false := by
              have := beq_eq_false_iff_ne.1 h0
              have := List.length_pos_iff.2 this
              simp only [beq_eq_false_iff_ne, ne_eq]
              have := HK.out
              omega
            have t1 := (ht [46]).trans h1
            have t2 := (ht [46, 46]).trans h2
            have hJs : (⟨L.toArray⟩ : ByteArray).size ≤ 40 := by rw [← len_data]; simp only []; rw [HK.out]; exact hk40
            clear ht
            have H2 := Lib.hid h2
            clear h0 h1 h2
            generalize hJ : (⟨L.toArray⟩ : ByteArray) = J at *
            have HJ := Lib.hid hJ
            clear hJ HC
            go_wp2_with fail
            go_ret
            refine ⟨_, rfl, ?_, hbw⟩
            rw [← HJ.out, beq_iff_eq.1 H2.out]
            decide +kernel
        · have e0 : ((k : Int) == 0) = false := by
            have := beq_eq_false_iff_ne.1 h0
            have := List.length_pos_iff.2 this
            simp only [beq_eq_false_iff_ne, ne_eq]
            have := HK.out
            omega
          have t1 := (ht [46]).trans h1
          have hJs : (⟨L.toArray⟩ : ByteArray).size ≤ 40 := by rw [← len_data]; simp only []; rw [HK.out]; exact hk40
          clear ht
          have H1 := Lib.hid h1
          clear h0 h1
          generalize hJ : (⟨L.toArray⟩ : ByteArray) = J at *
          have HJ := Lib.hid hJ
          clear hJ HC
          go_wp2_with fail
          go_ret
          refine ⟨_, rfl, ?_, hbw⟩
          rw [← HJ.out, beq_iff_eq.1 H1.out]
          decide +kernel
      · have e0 : ((k : Int) == 0) = true := by
          have h := HK.out
          rw [beq_iff_eq.1 h0] at h
          rw [← h]; rfl
        have hJs : (⟨L.toArray⟩ : ByteArray).size ≤ 40 := by rw [← len_data]; simp only []; rw [HK.out]; exact hk40
        clear ht
        have H0 := Lib.hid h0
        clear h0
        generalize hJ : (⟨L.toArray⟩ : ByteArray) = J at *
        have HJ := Lib.hid hJ
        clear hJ HC
        go_wp2_with fail
        go_ret
        refine ⟨_, rfl, ?_, hbw⟩
        rw [← HJ.out, beq_iff_eq.1 H0.out]
        decide +kernel
end Go.Proofs.YtkhpifjhnkknbaaDoor
