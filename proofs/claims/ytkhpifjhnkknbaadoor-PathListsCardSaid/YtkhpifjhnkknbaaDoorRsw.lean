/- The document's Split: the walk. -/
import Derived.Test.YtkhpifjhnkknbaaDoorRsp
namespace Go.Proofs.YtkhpifjhnkknbaaDoor
set_option linter.unusedSimpArgs false
set_option linter.unusedVariables false
open Go.RowKit

theorem own_call {w w2 : World} {B n : Nat} {e : TypeId} {v : Value} {xs : List Value} (h : w.ownsRow B e 1 v n xs) (hb : Below w.heap.size w w2) : w2.ownsRow B e 1 v n xs := by
  obtain ⟨ha, h⟩ := h
  rcases h with ⟨h1, h2⟩ | ⟨g1, cap, cur, h1, h2, h3, h4⟩
  · exact ⟨ha, .inl ⟨h1, h2⟩⟩
  · exact ⟨ha, .inr ⟨g1, cap, cur, h1, h2, (hop hb h3).1, h4⟩⟩
theorem extract_one {p : ByteArray} {k : Nat} {x : UInt8} (h : p.data.toList[k]? = some x) : (p.extract k (k + 1)).data.toList = [x] := by
  have hk : k < p.data.toList.length := (List.getElem?_eq_some_iff.1 h).1
  rw [ByteArray.data_extract, Array.toList_extract]
  simp only [List.extract_eq_take_drop]
  rw [List.drop_eq_getElem_cons hk]
  have hx : p.data.toList[k] = x := (List.getElem?_eq_some_iff.1 h).2
  rw [hx]
  simp
theorem cellS : CellTy Tryd.prog 9 := cellTy Tryd.underlying9 rfl
theorem cut_len : ∀ (t z : List UInt8), z ∈ cut47 t → z.length ≤ t.length
  | [], z, h => by simp [cut47] at h; subst h; simp
  | b :: t, z, h => by
    by_cases hb : b = 47
    · rw [cut47, if_pos hb] at h
      rcases List.mem_cons.1 h with e | h
      · subst e; simp
      · have := cut_len t z h; simp; omega
    · rw [cut47, if_neg hb] at h
      cases hc : cut47 t with
      | nil => exact absurd hc (cut47_ne t)
      | cons y r =>
        rw [hc] at h
        rcases List.mem_cons.1 h with e | h
        · have := cut_len t y (by rw [hc]; simp)
          subst e; simp; omega
        · have := cut_len t z (by rw [hc]; simp [h]); simp; omega
theorem tk_len (l : List UInt8) (k : Nat) : (tk l k).length ≤ l.length := by unfold tk; simp; omega

set_option maxHeartbeats 8000000 in
set_option maxRecDepth 100000 in
theorem rsplit_names (p : ByteArray) (w : World) (hr : rform p.data.toList) (xs : List ByteArray) (hst : ∀ ys : List ByteArray, ys.map (·.data.toList) = st p.data.toList p.size → ys = xs) (hxl : xs.length ≤ 400)
    (hs : spl p = if ∀ n ∈ xs, NameMay n.data.toList then (xs, 0) else ([], 71)) :
    Calls Tryd.prog 17 #[.string p] w fun e w' => ∃ v, e = .returned (.tuple #[v, .int .i64 (spl p).2]) ∧ Strs w' w.heap.size v (spl p).1 ∧ Below w.heap.size w w' := by
  obtain ⟨i0, hi, hz0, hz1, hz2⟩ := info_parts Tryd.infoS
  have hl := len_data p
  have h1 := hr.1
  have h4 := hr.2.1
  rw [hl] at h1 h4
  have HR := Lib.hid hr
  have HS := Lib.hid hs
  have HST := Lib.hid hst
  have HL := Lib.hid hl
  clear hr hs hst hl
  go_enter Tryd.func17, Tryd.ntmps17
  go_wp2_with fail
  refine (rformed_any p true ⟨fun _ => HR.out, fun _ => rfl⟩ _).mono ?_; rintro e w' ⟨rfl, rfl⟩
  go_wp2_with fail
  go_loopw [4, 5] (fun v i wr => ∃ (k : Nat) (ys : List ByteArray), 1 ≤ k ∧ k ≤ p.size ∧ ys.length ≤ k ∧ i = .int .i64 k ∧ wr.ownsRow w'.heap.size 9 1 v ys.length (ys.map Value.string) ∧ Below w'.heap.size w' wr ∧ ys.map (·.data.toList) = st p.data.toList k) (fun _ i _ => p.size - (intOf i).toNat)
  case atStart =>
    refine ⟨1, [], Nat.le_refl _, h1, by simp, rfl, ⟨by simp, .inl ⟨rfl, rfl⟩⟩, Below.refl _ _, ?_⟩
    have h0 := HR.out.2.2.1
    unfold st
    rw [if_pos h0]
    have : tk p.data.toList 1 = [] := by unfold tk; cases p.data.toList <;> simp
    rw [this]; rfl
  case round =>
    obtain ⟨k, ys, hk1, hk, hyl, rfl, hown, hb, hys⟩ := hrel
    have hsz := hb.size
    by_cases hkn : k < p.size
    · obtain ⟨x, hx, gx⟩ := index_at p k hkn
      obtain ⟨y, hy, gy0⟩ := index_at p (k - 1) (by omega)
      have gy : ∀ w, (Instr.index 9 (.string p) (.int .i64 ((k : Int) - 1))).run Tryd.prog w = .ok (.int .u8 y.toNat) w := fun w => by
        rw [show ((k : Int) - 1) = ((k - 1 : Nat) : Int) by omega]; exact gy0 w
      clear gy0
      have qx : ((x.toNat : Int) == 47) = (x == 47) := u8_eqb x 47
      have qx2 : ((x.toNat : Int) != 47) = (x != 47) := by simp only [bne, qx]
      have qy : ((y.toNat : Int) == 47) = (y == 47) := u8_eqb y 47
      have Hx := Lib.hid hx
      have Hy := Lib.hid hy
      have hyx : x = 47 → y ≠ 47 := fun e e2 => by
        have := (HR.out.2.2.2 k hk1 (by rw [HL.out]; exact hkn) (by rw [hx, e])).1
        rw [hy, e2] at this
        exact this rfl
      have HYX := Lib.hid hyx
      have HO := Lib.hid hown
      have HYS := Lib.hid hys
      clear hx hy hyx hown hys qx
      cases ey : (y == 47)
      · rw [ey] at qy
        have EY := Lib.hid (beq_eq_false_iff_ne.1 ey)
        clear ey
        have hst : st p.data.toList k = cut47 (tk p.data.toList k) := by unfold st; rw [if_neg (by rw [Hy.out]; simpa using EY.out)]
        rw [hst] at HYS
        clear hst
        cases ex : (x == 47)
        · have hb2 : (x != 47) = true := by simp only [bne, ex]; rfl
          rw [hb2] at qx2
          have EX := Lib.hid (beq_eq_false_iff_ne.1 ex)
          clear ex hb2
          obtain ⟨a, z, hc, hst2⟩ := st_byte hk1 Hx.out EX.out
          obtain ⟨la, zs, hla, hla2, hzs⟩ := last_split (HYS.out.trans hc)
          have hq : (ys).length = la.length + 1 := by rw [hla]; simp
          obtain ⟨g, cap, cur, rfl, hg, hcap, hcur, hcells⟩ := own_cell HO.out (by omega)
          have hcq := hcells la.length zs (by omega) (by rw [hla]; simp)
          have HLA := Lib.hid hla
          rw [hq] at hcap HO ⊢
          have hz : zs.size ≤ 400 := by
            have h := cut_len (tk p.data.toList k) z (by rw [hc]; simp)
            have h2 := tk_len p.data.toList k
            rw [← len_data zs, hzs]
            have := HL.out
            omega
          have hql : la.length ≤ k := by omega
          generalize hlq : la.length = q at *
          have HLQ := Lib.hid hlq
          have zg := hat_lt hcur
          clear hcells hla hlq
          go_wp2_with fail
          refine wp_region_vals (by kernel_rfl) 17 (by decide) rfl (fun i => match i with | 0 => .slice (some ⟨g, 0, none⟩) (q + 1) cap | 1 => .slice (some ⟨g, 0, none⟩) (q + 1) cap | 2 => .int .i64 ((q + 1 : Nat) : Int) | 3 => .int .i64 (q : Int) | 4 => .slice (some ⟨g, 0, none⟩) (q + 1) cap | 5 => .slice (some ⟨g, 0, none⟩) (q + 1) cap | 6 => .int .i64 ((q + 1 : Nat) : Int) | 7 => .int .i64 (q : Int) | 8 => .pointer (some ⟨g, q, none⟩) | 9 => .string zs | 10 => .string p | 11 => .int .i64 (k : Int) | 12 => .int .i64 (k : Int) | 13 => .int .i64 ((k : Int) + 1) | 14 => .string (p.extract k (k + 1)) | 15 => .string (zs ++ p.extract k (k + 1)) | _ => .pointer (some ⟨g, q, none⟩)) ?_ ?_
          · intro i o hi ho a' w9 hB hS hF
            have hi' : i = 0 ∨ i = 1 ∨ i = 2 ∨ i = 3 ∨ i = 4 ∨ i = 5 ∨ i = 6 ∨ i = 7 ∨ i = 8 ∨ i = 9 ∨ i = 10 ∨ i = 11 ∨ i = 12 ∨ i = 13 ∨ i = 14 ∨ i = 15 ∨ i = 16 := by omega
            rcases hi' with rfl | rfl | rfl | rfl | rfl | rfl | rfl | rfl | rfl | rfl | rfl | rfl | rfl | rfl | rfl | rfl | rfl
            all_goals (have ho' := Option.some.inj ho; subst ho')
            · have e4 : a'.tmps[4]?.getD undef = .slice (some ⟨g, 0, none⟩) (q + 1) cap := gtx ((hS 4 (by decide)).trans rfl)
              refine wpOp_val rfl rfl (v := .slice (some ⟨g, 0, none⟩) (q + 1) cap) (w1 := w9) ?_ ⟨rfl, hB⟩
              first | (simp [go_sem, e4]; done) | (simp [go_sem, e4]; first | omega | (intro hh; omega) | (exact IntWalk.i64_in _ (by omega)) | (rw [if_pos (by omega), if_pos (by omega)]))
            · have e4 : a'.tmps[4]?.getD undef = .slice (some ⟨g, 0, none⟩) (q + 1) cap := gtx ((hS 4 (by decide)).trans rfl)
              refine wpOp_val rfl rfl (v := .slice (some ⟨g, 0, none⟩) (q + 1) cap) (w1 := w9) ?_ ⟨rfl, hB⟩
              first | (simp [go_sem, e4]; done) | (simp [go_sem, e4]; first | omega | (intro hh; omega) | (exact IntWalk.i64_in _ (by omega)) | (rw [if_pos (by omega), if_pos (by omega)]))
            · have e29 : a'.tmps[29]?.getD undef = .slice (some ⟨g, 0, none⟩) (q + 1) cap := gtx ((hF 1 (by decide) _ 29 rfl rfl).trans rfl)
              refine wpOp_val rfl rfl (v := .int .i64 ((q + 1 : Nat) : Int)) (w1 := w9) ?_ ⟨rfl, hB⟩
              first | (simp [go_sem, e29]; done) | (simp [go_sem, e29]; first | omega | (intro hh; omega) | (exact IntWalk.i64_in _ (by omega)) | (rw [if_pos (by omega), if_pos (by omega)]))
            · have e30 : a'.tmps[30]?.getD undef = .int .i64 ((q + 1 : Nat) : Int) := gtx ((hF 2 (by decide) _ 30 rfl rfl).trans rfl)
              refine wpOp_val rfl rfl (v := .int .i64 (q : Int)) (w1 := w9) ?_ ⟨rfl, hB⟩
              first | (simp [go_sem, e30]; done) | (simp [go_sem, e30]; first | omega | (intro hh; omega) | (exact IntWalk.i64_in _ (by omega)) | (rw [if_pos (by omega), if_pos (by omega)]))
            · have e4 : a'.tmps[4]?.getD undef = .slice (some ⟨g, 0, none⟩) (q + 1) cap := gtx ((hS 4 (by decide)).trans rfl)
              refine wpOp_val rfl rfl (v := .slice (some ⟨g, 0, none⟩) (q + 1) cap) (w1 := w9) ?_ ⟨rfl, hB⟩
              first | (simp [go_sem, e4]; done) | (simp [go_sem, e4]; first | omega | (intro hh; omega) | (exact IntWalk.i64_in _ (by omega)) | (rw [if_pos (by omega), if_pos (by omega)]))
            · have e4 : a'.tmps[4]?.getD undef = .slice (some ⟨g, 0, none⟩) (q + 1) cap := gtx ((hS 4 (by decide)).trans rfl)
              refine wpOp_val rfl rfl (v := .slice (some ⟨g, 0, none⟩) (q + 1) cap) (w1 := w9) ?_ ⟨rfl, hB⟩
              first | (simp [go_sem, e4]; done) | (simp [go_sem, e4]; first | omega | (intro hh; omega) | (exact IntWalk.i64_in _ (by omega)) | (rw [if_pos (by omega), if_pos (by omega)]))
            · have e33 : a'.tmps[33]?.getD undef = .slice (some ⟨g, 0, none⟩) (q + 1) cap := gtx ((hF 5 (by decide) _ 33 rfl rfl).trans rfl)
              refine wpOp_val rfl rfl (v := .int .i64 ((q + 1 : Nat) : Int)) (w1 := w9) ?_ ⟨rfl, hB⟩
              first | (simp [go_sem, e33]; done) | (simp [go_sem, e33]; first | omega | (intro hh; omega) | (exact IntWalk.i64_in _ (by omega)) | (rw [if_pos (by omega), if_pos (by omega)]))
            · have e34 : a'.tmps[34]?.getD undef = .int .i64 ((q + 1 : Nat) : Int) := gtx ((hF 6 (by decide) _ 34 rfl rfl).trans rfl)
              refine wpOp_val rfl rfl (v := .int .i64 (q : Int)) (w1 := w9) ?_ ⟨rfl, hB⟩
              first | (simp [go_sem, e34]; done) | (simp [go_sem, e34]; first | omega | (intro hh; omega) | (exact IntWalk.i64_in _ (by omega)) | (rw [if_pos (by omega), if_pos (by omega)]))
            · have e32 : a'.tmps[32]?.getD undef = .slice (some ⟨g, 0, none⟩) (q + 1) cap := gtx ((hF 4 (by decide) _ 32 rfl rfl).trans rfl)
              have e35 : a'.tmps[35]?.getD undef = .int .i64 (q : Int) := gtx ((hF 7 (by decide) _ 35 rfl rfl).trans rfl)
              refine wpOp_val rfl rfl (v := .pointer (some ⟨g, q, none⟩)) (w1 := w9) ?_ ⟨rfl, hB⟩
              first | (simp [go_sem, e32, e35]; done) | (simp [go_sem, e32, e35]; first | omega | (intro hh; omega) | (exact IntWalk.i64_in _ (by omega)) | (rw [if_pos (by omega), if_pos (by omega)]))
            · exact wpOp_load_cell 9 cellS (.tmp 36) rfl rfl rfl g q _ _ ((hF 8 (by decide) _ 36 rfl rfl).trans rfl) ((hat_below hB zg).trans hcur) hcq ⟨rfl, hB⟩
            · have e0 : a'.tmps[0]?.getD undef = .string p := gtx ((hS 0 (by decide)).trans rfl)
              refine wpOp_val rfl rfl (v := .string p) (w1 := w9) ?_ ⟨rfl, hB⟩
              first | (simp [go_sem, e0]; done) | (simp [go_sem, e0]; first | omega | (intro hh; omega) | (exact IntWalk.i64_in _ (by omega)) | (rw [if_pos (by omega), if_pos (by omega)]))
            · have e5 : a'.tmps[5]?.getD undef = .int .i64 (k : Int) := gtx ((hS 5 (by decide)).trans rfl)
              refine wpOp_val rfl rfl (v := .int .i64 (k : Int)) (w1 := w9) ?_ ⟨rfl, hB⟩
              first | (simp [go_sem, e5]; done) | (simp [go_sem, e5]; first | omega | (intro hh; omega) | (exact IntWalk.i64_in _ (by omega)) | (rw [if_pos (by omega), if_pos (by omega)]))
            · have e5 : a'.tmps[5]?.getD undef = .int .i64 (k : Int) := gtx ((hS 5 (by decide)).trans rfl)
              refine wpOp_val rfl rfl (v := .int .i64 (k : Int)) (w1 := w9) ?_ ⟨rfl, hB⟩
              first | (simp [go_sem, e5]; done) | (simp [go_sem, e5]; first | omega | (intro hh; omega) | (exact IntWalk.i64_in _ (by omega)) | (rw [if_pos (by omega), if_pos (by omega)]))
            · have e40 : a'.tmps[40]?.getD undef = .int .i64 (k : Int) := gtx ((hF 12 (by decide) _ 40 rfl rfl).trans rfl)
              refine wpOp_val rfl rfl (v := .int .i64 ((k : Int) + 1)) (w1 := w9) ?_ ⟨rfl, hB⟩
              first | (simp [go_sem, e40]; done) | (simp [go_sem, e40]; first | omega | (intro hh; omega) | (exact IntWalk.i64_in _ (by omega)) | (rw [if_pos (by omega), if_pos (by omega)]))
            · have e38 : a'.tmps[38]?.getD undef = .string p := gtx ((hF 10 (by decide) _ 38 rfl rfl).trans rfl)
              have e39 : a'.tmps[39]?.getD undef = .int .i64 (k : Int) := gtx ((hF 11 (by decide) _ 39 rfl rfl).trans rfl)
              have e41 : a'.tmps[41]?.getD undef = .int .i64 ((k : Int) + 1) := gtx ((hF 13 (by decide) _ 41 rfl rfl).trans rfl)
              refine wpOp_val rfl rfl (v := .string (p.extract k (k + 1))) (w1 := w9) ?_ ⟨rfl, hB⟩
              first | (simp [go_sem, e38, e39, e41]; done) | (simp [go_sem, e38, e39, e41]; first | omega | (intro hh; omega) | (exact IntWalk.i64_in _ (by omega)) | (rw [if_pos (by omega), if_pos (by omega)]))
            · have e37 : a'.tmps[37]?.getD undef = .string zs := gtx ((hF 9 (by decide) _ 37 rfl rfl).trans rfl)
              have e42 : a'.tmps[42]?.getD undef = .string (p.extract k (k + 1)) := gtx ((hF 14 (by decide) _ 42 rfl rfl).trans rfl)
              refine wpOp_val rfl rfl (v := .string (zs ++ p.extract k (k + 1))) (w1 := w9) ?_ ⟨rfl, hB⟩
              first | (simp [go_sem, e37, e42]; done) | (simp [go_sem, e37, e42]; first | omega | (intro hh; omega) | (exact IntWalk.i64_in _ (by omega)) | (rw [if_pos (by omega), if_pos (by omega)]))
            · have e28 : a'.tmps[28]?.getD undef = .slice (some ⟨g, 0, none⟩) (q + 1) cap := gtx ((hF 0 (by decide) _ 28 rfl rfl).trans rfl)
              have e31 : a'.tmps[31]?.getD undef = .int .i64 (q : Int) := gtx ((hF 3 (by decide) _ 31 rfl rfl).trans rfl)
              refine wpOp_val rfl rfl (v := .pointer (some ⟨g, q, none⟩)) (w1 := w9) ?_ ⟨rfl, hB⟩
              first | (simp [go_sem, e28, e31]; done) | (simp [go_sem, e28, e31]; first | omega | (intro hh; omega) | (exact IntWalk.i64_in _ (by omega)) | (rw [if_pos (by omega), if_pos (by omega)]))
          · intro w9 hB
            have hcur9 := (hat_below hB zg).trans hcur
            simp only [putAll, List.take, List.drop, List.take_succ_cons, List.drop_succ_cons]
            clear hcur
            go_wp2_with fail
            go_roundw
            case rel =>
              have hown9 := own_store (q := q) (u := .string (zs ++ p.extract k (k + 1))) (own_call HO.out hB)
              have hset : ((ys).map Value.string).set q (.string (zs ++ p.extract k (k + 1))) = (la ++ [zs ++ p.extract k (k + 1)]).map Value.string := by
                rw [HLA.out, ← HLQ.out]
                simp
              rw [hset] at hown9
              refine ⟨k + 1, la ++ [zs ++ p.extract k (k + 1)], by omega, by omega, by rw [List.length_append, HLQ.out]; simp; omega, by go_num, ?_, ?_, ?_⟩
              · rw [List.length_append, HLQ.out]; exact hown9
              · exact (below_call hb hB hb.size).setCell (show w'.heap.size ≤ g from hg) _
              · rw [List.map_append, hla2, hst2]
                simp only [List.map_cons, List.map_nil, ByteArray.data_append, Array.toList_append]
                rw [hzs, extract_one Hx.out]
            case measure => (show p.size - (k + 1) < p.size - k); omega
        · have hb2 : (x != 47) = false := by simp only [bne, ex]; rfl
          rw [hb2] at qx2
          have EX := Lib.hid (beq_iff_eq.1 ex)
          clear ex hb2
          obtain ⟨va, vc, hv⟩ := own_len HO.out
          subst hv
          go_wp2_with fail
          go_roundw
          case rel => exact ⟨k + 1, ys, by omega, by omega, by omega, by go_num, HO.out, hb, by rw [st_slash hk1 (by rw [Hx.out, EX.out])]; exact HYS.out⟩
          case measure => (show p.size - (k + 1) < p.size - k); omega
      · rw [ey] at qy
        have EY := Lib.hid (beq_iff_eq.1 ey)
        clear ey
        have hxn : x ≠ 47 := fun e => HYX.out e EY.out
        have hb2 : (x != 47) = true := by simpa using hxn
        rw [hb2] at qx2
        have EX := Lib.hid hxn
        clear hb2 hxn
        have hst := st_new hk1 (by rw [Hy.out, EY.out] : p.data.toList[k - 1]? = some 47)
        obtain ⟨va, vc, hv⟩ := own_len HO.out
        subst hv
        go_wp2_with (at_builtin; refine wpList_append_own _ rfl (.tmp 21) (.tmp 22) 25 rfl w'.heap.size 9 i0 _ 1 16 Tryd.underlying25 hi hz0 hz1 hz2 rfl (by decide) (.slice va ys.length vc) ys.length (ys.map Value.string) rfl (HO.out.alloc _) _ 1 1 [.string { data := #[] }] rfl rfl ?c1 ?c2 ?c3 ?c4 ?c5 (fun v7 w7 hown7 hgrow7 _ => ?_))
        case c1 =>
          intro j u hj
          have hj3 : j < 1 := by
            have := (List.getElem?_eq_some_iff.1 hj).1
            simpa using this
          have hadd : ∀ b, (⟨b, 0, none⟩ : Addr).add j = ⟨b, j, none⟩ := fun b => by unfold Addr.add; split <;> simp_all
          rw [hadd, cell_hat (hat_alloc_at _ _ _ (by simp))]
          simpa using hj
        case c2 =>
          intro u hu
          simp at hu
          subst hu
          rfl
        case c3 => unfold maxLen; omega
        case c4 => omega
        case c5 => first | omega | (simp only [World.size_alloc]; omega)
        have hb7 : Below w'.heap.size w' w7 := (hb.alloc (by omega) _).grown hgrow7 (by simp only [World.size_alloc]; omega) (fun q hq => by
          have h1 : ¬ q < w'.heap.size := fun h => ownsRow_ne HO.out h hq
          omega)
        have hys2 : (ys ++ [({ data := #[] } : ByteArray)]).map (·.data.toList) = cut47 (tk p.data.toList k) := by
          rw [List.map_append, HYS.out]; exact hst
        have HYS := Lib.hid hys2
        have hown2 : w7.ownsRow w'.heap.size 9 1 v7 (ys ++ [({ data := #[] } : ByteArray)]).length ((ys ++ [({ data := #[] } : ByteArray)]).map Value.string) := by
          rw [List.map_append, List.length_append]; exact hown7
        have HO := Lib.hid hown2
        have hyl2 : (ys ++ [({ data := #[] } : ByteArray)]).length ≤ k + 1 := by rw [List.length_append]; simp; omega
        clear hys2 hown2 hown7 hgrow7 hst
        generalize ys ++ [({ data := #[] } : ByteArray)] = ys2 at *
        obtain ⟨a, z, hc, hst2⟩ := st_byte hk1 Hx.out EX.out
        obtain ⟨la, zs, hla, hla2, hzs⟩ := last_split (HYS.out.trans hc)
        have hq : (ys2).length = la.length + 1 := by rw [hla]; simp
        obtain ⟨g, cap, cur, rfl, hg, hcap, hcur, hcells⟩ := own_cell HO.out (by omega)
        have hcq := hcells la.length zs (by omega) (by rw [hla]; simp)
        have HLA := Lib.hid hla
        rw [hq] at hcap HO ⊢
        have hz : zs.size ≤ 400 := by
          have h := cut_len (tk p.data.toList k) z (by rw [hc]; simp)
          have h2 := tk_len p.data.toList k
          rw [← len_data zs, hzs]
          have := HL.out
          omega
        have hql : la.length ≤ k := by omega
        generalize hlq : la.length = q at *
        have HLQ := Lib.hid hlq
        have zg := hat_lt hcur
        clear hcells hla hlq
        skip
        refine wp_region_vals (by kernel_rfl) 17 (by decide) rfl (fun i => match i with | 0 => .slice (some ⟨g, 0, none⟩) (q + 1) cap | 1 => .slice (some ⟨g, 0, none⟩) (q + 1) cap | 2 => .int .i64 ((q + 1 : Nat) : Int) | 3 => .int .i64 (q : Int) | 4 => .slice (some ⟨g, 0, none⟩) (q + 1) cap | 5 => .slice (some ⟨g, 0, none⟩) (q + 1) cap | 6 => .int .i64 ((q + 1 : Nat) : Int) | 7 => .int .i64 (q : Int) | 8 => .pointer (some ⟨g, q, none⟩) | 9 => .string zs | 10 => .string p | 11 => .int .i64 (k : Int) | 12 => .int .i64 (k : Int) | 13 => .int .i64 ((k : Int) + 1) | 14 => .string (p.extract k (k + 1)) | 15 => .string (zs ++ p.extract k (k + 1)) | _ => .pointer (some ⟨g, q, none⟩)) ?_ ?_
        · intro i o hi ho a' w9 hB hS hF
          have hi' : i = 0 ∨ i = 1 ∨ i = 2 ∨ i = 3 ∨ i = 4 ∨ i = 5 ∨ i = 6 ∨ i = 7 ∨ i = 8 ∨ i = 9 ∨ i = 10 ∨ i = 11 ∨ i = 12 ∨ i = 13 ∨ i = 14 ∨ i = 15 ∨ i = 16 := by omega
          rcases hi' with rfl | rfl | rfl | rfl | rfl | rfl | rfl | rfl | rfl | rfl | rfl | rfl | rfl | rfl | rfl | rfl | rfl
          all_goals (have ho' := Option.some.inj ho; subst ho')
          · have e4 : a'.tmps[4]?.getD undef = .slice (some ⟨g, 0, none⟩) (q + 1) cap := gtx ((hS 4 (by decide)).trans rfl)
            refine wpOp_val rfl rfl (v := .slice (some ⟨g, 0, none⟩) (q + 1) cap) (w1 := w9) ?_ ⟨rfl, hB⟩
            first | (simp [go_sem, e4]; done) | (simp [go_sem, e4]; first | omega | (intro hh; omega) | (exact IntWalk.i64_in _ (by omega)) | (rw [if_pos (by omega), if_pos (by omega)]))
          · have e4 : a'.tmps[4]?.getD undef = .slice (some ⟨g, 0, none⟩) (q + 1) cap := gtx ((hS 4 (by decide)).trans rfl)
            refine wpOp_val rfl rfl (v := .slice (some ⟨g, 0, none⟩) (q + 1) cap) (w1 := w9) ?_ ⟨rfl, hB⟩
            first | (simp [go_sem, e4]; done) | (simp [go_sem, e4]; first | omega | (intro hh; omega) | (exact IntWalk.i64_in _ (by omega)) | (rw [if_pos (by omega), if_pos (by omega)]))
          · have e29 : a'.tmps[29]?.getD undef = .slice (some ⟨g, 0, none⟩) (q + 1) cap := gtx ((hF 1 (by decide) _ 29 rfl rfl).trans rfl)
            refine wpOp_val rfl rfl (v := .int .i64 ((q + 1 : Nat) : Int)) (w1 := w9) ?_ ⟨rfl, hB⟩
            first | (simp [go_sem, e29]; done) | (simp [go_sem, e29]; first | omega | (intro hh; omega) | (exact IntWalk.i64_in _ (by omega)) | (rw [if_pos (by omega), if_pos (by omega)]))
          · have e30 : a'.tmps[30]?.getD undef = .int .i64 ((q + 1 : Nat) : Int) := gtx ((hF 2 (by decide) _ 30 rfl rfl).trans rfl)
            refine wpOp_val rfl rfl (v := .int .i64 (q : Int)) (w1 := w9) ?_ ⟨rfl, hB⟩
            first | (simp [go_sem, e30]; done) | (simp [go_sem, e30]; first | omega | (intro hh; omega) | (exact IntWalk.i64_in _ (by omega)) | (rw [if_pos (by omega), if_pos (by omega)]))
          · have e4 : a'.tmps[4]?.getD undef = .slice (some ⟨g, 0, none⟩) (q + 1) cap := gtx ((hS 4 (by decide)).trans rfl)
            refine wpOp_val rfl rfl (v := .slice (some ⟨g, 0, none⟩) (q + 1) cap) (w1 := w9) ?_ ⟨rfl, hB⟩
            first | (simp [go_sem, e4]; done) | (simp [go_sem, e4]; first | omega | (intro hh; omega) | (exact IntWalk.i64_in _ (by omega)) | (rw [if_pos (by omega), if_pos (by omega)]))
          · have e4 : a'.tmps[4]?.getD undef = .slice (some ⟨g, 0, none⟩) (q + 1) cap := gtx ((hS 4 (by decide)).trans rfl)
            refine wpOp_val rfl rfl (v := .slice (some ⟨g, 0, none⟩) (q + 1) cap) (w1 := w9) ?_ ⟨rfl, hB⟩
            first | (simp [go_sem, e4]; done) | (simp [go_sem, e4]; first | omega | (intro hh; omega) | (exact IntWalk.i64_in _ (by omega)) | (rw [if_pos (by omega), if_pos (by omega)]))
          · have e33 : a'.tmps[33]?.getD undef = .slice (some ⟨g, 0, none⟩) (q + 1) cap := gtx ((hF 5 (by decide) _ 33 rfl rfl).trans rfl)
            refine wpOp_val rfl rfl (v := .int .i64 ((q + 1 : Nat) : Int)) (w1 := w9) ?_ ⟨rfl, hB⟩
            first | (simp [go_sem, e33]; done) | (simp [go_sem, e33]; first | omega | (intro hh; omega) | (exact IntWalk.i64_in _ (by omega)) | (rw [if_pos (by omega), if_pos (by omega)]))
          · have e34 : a'.tmps[34]?.getD undef = .int .i64 ((q + 1 : Nat) : Int) := gtx ((hF 6 (by decide) _ 34 rfl rfl).trans rfl)
            refine wpOp_val rfl rfl (v := .int .i64 (q : Int)) (w1 := w9) ?_ ⟨rfl, hB⟩
            first | (simp [go_sem, e34]; done) | (simp [go_sem, e34]; first | omega | (intro hh; omega) | (exact IntWalk.i64_in _ (by omega)) | (rw [if_pos (by omega), if_pos (by omega)]))
          · have e32 : a'.tmps[32]?.getD undef = .slice (some ⟨g, 0, none⟩) (q + 1) cap := gtx ((hF 4 (by decide) _ 32 rfl rfl).trans rfl)
            have e35 : a'.tmps[35]?.getD undef = .int .i64 (q : Int) := gtx ((hF 7 (by decide) _ 35 rfl rfl).trans rfl)
            refine wpOp_val rfl rfl (v := .pointer (some ⟨g, q, none⟩)) (w1 := w9) ?_ ⟨rfl, hB⟩
            first | (simp [go_sem, e32, e35]; done) | (simp [go_sem, e32, e35]; first | omega | (intro hh; omega) | (exact IntWalk.i64_in _ (by omega)) | (rw [if_pos (by omega), if_pos (by omega)]))
          · exact wpOp_load_cell 9 cellS (.tmp 36) rfl rfl rfl g q _ _ ((hF 8 (by decide) _ 36 rfl rfl).trans rfl) ((hat_below hB zg).trans hcur) hcq ⟨rfl, hB⟩
          · have e0 : a'.tmps[0]?.getD undef = .string p := gtx ((hS 0 (by decide)).trans rfl)
            refine wpOp_val rfl rfl (v := .string p) (w1 := w9) ?_ ⟨rfl, hB⟩
            first | (simp [go_sem, e0]; done) | (simp [go_sem, e0]; first | omega | (intro hh; omega) | (exact IntWalk.i64_in _ (by omega)) | (rw [if_pos (by omega), if_pos (by omega)]))
          · have e5 : a'.tmps[5]?.getD undef = .int .i64 (k : Int) := gtx ((hS 5 (by decide)).trans rfl)
            refine wpOp_val rfl rfl (v := .int .i64 (k : Int)) (w1 := w9) ?_ ⟨rfl, hB⟩
            first | (simp [go_sem, e5]; done) | (simp [go_sem, e5]; first | omega | (intro hh; omega) | (exact IntWalk.i64_in _ (by omega)) | (rw [if_pos (by omega), if_pos (by omega)]))
          · have e5 : a'.tmps[5]?.getD undef = .int .i64 (k : Int) := gtx ((hS 5 (by decide)).trans rfl)
            refine wpOp_val rfl rfl (v := .int .i64 (k : Int)) (w1 := w9) ?_ ⟨rfl, hB⟩
            first | (simp [go_sem, e5]; done) | (simp [go_sem, e5]; first | omega | (intro hh; omega) | (exact IntWalk.i64_in _ (by omega)) | (rw [if_pos (by omega), if_pos (by omega)]))
          · have e40 : a'.tmps[40]?.getD undef = .int .i64 (k : Int) := gtx ((hF 12 (by decide) _ 40 rfl rfl).trans rfl)
            refine wpOp_val rfl rfl (v := .int .i64 ((k : Int) + 1)) (w1 := w9) ?_ ⟨rfl, hB⟩
            first | (simp [go_sem, e40]; done) | (simp [go_sem, e40]; first | omega | (intro hh; omega) | (exact IntWalk.i64_in _ (by omega)) | (rw [if_pos (by omega), if_pos (by omega)]))
          · have e38 : a'.tmps[38]?.getD undef = .string p := gtx ((hF 10 (by decide) _ 38 rfl rfl).trans rfl)
            have e39 : a'.tmps[39]?.getD undef = .int .i64 (k : Int) := gtx ((hF 11 (by decide) _ 39 rfl rfl).trans rfl)
            have e41 : a'.tmps[41]?.getD undef = .int .i64 ((k : Int) + 1) := gtx ((hF 13 (by decide) _ 41 rfl rfl).trans rfl)
            refine wpOp_val rfl rfl (v := .string (p.extract k (k + 1))) (w1 := w9) ?_ ⟨rfl, hB⟩
            first | (simp [go_sem, e38, e39, e41]; done) | (simp [go_sem, e38, e39, e41]; first | omega | (intro hh; omega) | (exact IntWalk.i64_in _ (by omega)) | (rw [if_pos (by omega), if_pos (by omega)]))
          · have e37 : a'.tmps[37]?.getD undef = .string zs := gtx ((hF 9 (by decide) _ 37 rfl rfl).trans rfl)
            have e42 : a'.tmps[42]?.getD undef = .string (p.extract k (k + 1)) := gtx ((hF 14 (by decide) _ 42 rfl rfl).trans rfl)
            refine wpOp_val rfl rfl (v := .string (zs ++ p.extract k (k + 1))) (w1 := w9) ?_ ⟨rfl, hB⟩
            first | (simp [go_sem, e37, e42]; done) | (simp [go_sem, e37, e42]; first | omega | (intro hh; omega) | (exact IntWalk.i64_in _ (by omega)) | (rw [if_pos (by omega), if_pos (by omega)]))
          · have e28 : a'.tmps[28]?.getD undef = .slice (some ⟨g, 0, none⟩) (q + 1) cap := gtx ((hF 0 (by decide) _ 28 rfl rfl).trans rfl)
            have e31 : a'.tmps[31]?.getD undef = .int .i64 (q : Int) := gtx ((hF 3 (by decide) _ 31 rfl rfl).trans rfl)
            refine wpOp_val rfl rfl (v := .pointer (some ⟨g, q, none⟩)) (w1 := w9) ?_ ⟨rfl, hB⟩
            first | (simp [go_sem, e28, e31]; done) | (simp [go_sem, e28, e31]; first | omega | (intro hh; omega) | (exact IntWalk.i64_in _ (by omega)) | (rw [if_pos (by omega), if_pos (by omega)]))
        · intro w9 hB
          have hcur9 := (hat_below hB zg).trans hcur
          simp only [putAll, List.take, List.drop, List.take_succ_cons, List.drop_succ_cons]
          clear hcur
          go_wp2_with fail
          go_roundw
          case rel =>
            have hown9 := own_store (q := q) (u := .string (zs ++ p.extract k (k + 1))) (own_call HO.out hB)
            have hset : ((ys2).map Value.string).set q (.string (zs ++ p.extract k (k + 1))) = (la ++ [zs ++ p.extract k (k + 1)]).map Value.string := by
              rw [HLA.out, ← HLQ.out]
              simp
            rw [hset] at hown9
            refine ⟨k + 1, la ++ [zs ++ p.extract k (k + 1)], by omega, by omega, by rw [List.length_append, HLQ.out]; simp; omega, by go_num, ?_, ?_, ?_⟩
            · rw [List.length_append, HLQ.out]; exact hown9
            · exact (below_call hb7 hB hb7.size).setCell (show w'.heap.size ≤ g from hg) _
            · rw [List.map_append, hla2, hst2]
              simp only [List.map_cons, List.map_nil, ByteArray.data_append, Array.toList_append]
              rw [hzs, extract_one Hx.out]
          case measure => (show p.size - (k + 1) < p.size - k); omega
    · have hkk : k = p.size := by omega
      subst hkk
      have hyx := HST.out ys hys
      subst hyx
      have hv := strs_own hown (by omega)
      have HSV := Lib.hid hv
      clear hown hys HST
      rcases hv with ⟨rfl, rfl⟩ | ⟨g, o, c, rfl, hc, -, -, hgl, hcell⟩
      · go_wp2_with fail
        go_loopw [6] (fun i w2 => i = .int .i64 0 ∧ w2 = wr) (fun _ _ => 0)
        case atStart => exact ⟨rfl, rfl⟩
        case round =>
          obtain ⟨rfl, rfl⟩ := hrel
          have he : spl p = ([], 0) := by rw [HS.out, if_pos (by simp)]
          have HE := Lib.hid he
          clear he
          go_wp2_with fail
          go_ret2
          exact ⟨.slice none 0 0, by rw [HE.out]; rfl, by rw [HE.out]; exact .inl ⟨rfl, rfl⟩, hb⟩
      · have HC := Lib.hid hcell
        clear hcell
        generalize hN : ys.length = N at *
        have HN := Lib.hid hN
        clear hN
        go_wp2_with fail
        go_loopw [6] (fun i w2 => ∃ j : Nat, j ≤ N ∧ i = .int .i64 j ∧ w2 = wr ∧ ∀ q, q < j → ∀ n, ys[q]? = some n → NameMay n.data.toList) (fun i _ => N - (intOf i).toNat)
        case atStart => exact ⟨0, Nat.zero_le _, rfl, rfl, fun q hq => by omega⟩
        case round =>
          obtain ⟨j, hj, rfl, rfl, hok⟩ := hrel
          have HK := Lib.hid hok
          clear hok
          by_cases hjn : j < N
          · obtain ⟨x, hx⟩ := getElem_opt (l := ys) (k := j) (by rw [HN.out]; exact hjn)
            have cx := HC.out j x hx
            rw [cell?_of_hat] at cx
            have Hx := Lib.hid hx
            clear hx
            by_cases hn : NameMay x.data.toList
            · have HX2 := Lib.hid hn
              have hck := chk_yes hn
              have HCK := Lib.hid hck
              clear hn hck
              go_wp2_with fail
              refine (rcheck_any x _).mono ?_; rintro e w3 ⟨rfl, rfl⟩
              rw [HCK.out]
              go_wp2_with fail
              go_roundw
              case rel =>
                refine ⟨j + 1, by omega, by go_num, by first | rfl | trivial, fun q hq n hqn => ?_⟩
                by_cases h : q = j
                · subst h; rw [Hx.out] at hqn; rw [← Option.some.inj hqn]; exact HX2.out
                · exact HK.out q (by omega) n hqn
              case measure => (show N - (j + 1) < N - j); omega
            · have hck := chk_no hn
              have HCK := Lib.hid hck
              have he : spl p = ([], 71) := by rw [HS.out, if_neg (fun h => hn (h x (List.mem_of_getElem? Hx.out)))]
              have HE := Lib.hid he
              clear hn hck he
              go_wp2_with fail
              refine (rcheck_any x _).mono ?_; rintro e w3 ⟨rfl, rfl⟩
              rw [HCK.out]
              go_wp2_with fail
              go_ret2
              exact ⟨.slice none 0 0, by rw [HE.out]; rfl, by rw [HE.out]; exact .inl ⟨rfl, rfl⟩, hb⟩
          · have he : spl p = (ys, 0) := by
              rw [HS.out, if_pos (all_of (fun q hq n hn => HK.out q (by rw [HN.out] at hq; omega) n hn))]
            have HE := Lib.hid he
            clear he
            go_wp2_with fail
            go_ret2
            exact ⟨.slice (some ⟨g, o, none⟩) N c, by rw [HE.out]; rfl, by rw [HE.out]; exact HSV.out, hb⟩

theorem rsplit_any (p : ByteArray) (w : World) :
    Calls Tryd.prog 17 #[.string p] w fun e w' => ∃ v, e = .returned (.tuple #[v, .int .i64 (spl p).2]) ∧ Strs w' w.heap.size v (spl p).1 ∧ Below w.heap.size w w' := by
  have hl := len_data p
  by_cases hr : rform p.data.toList
  · obtain ⟨hf, h2⟩ := (rform_iff p).1 hr
    have h4 := hr.2.1
    by_cases hroot : p.toList = [47]
    · have hd : p.data.toList = [47] := by rw [← Lib.toList_data]; exact hroot
      refine rsplit_names p w hr [] (fun ys hy => ?_) (by simp) (by rw [spl_root hf hroot, if_pos (by simp)])
      have hs1 : p.size = 1 := by rw [← hl, hd]; rfl
      rw [hd, hs1] at hy
      have : st [47] 1 = [] := by decide
      rw [this] at hy
      simpa using hy
    · have hsp : split2 p := by
        rcases h2 with h | h
        · exact absurd h hroot
        · exact h
      have hlast : p.data.toList[p.size - 1]? ≠ some 47 := fun e => by
        have h1 := hr.1
        have hne : p.size ≠ 1 := fun h1 => by
          have h0 := hr.2.2.1
          apply hroot
          rw [Lib.toList_data]
          match hq : p.data.toList, hl with
          | [], hl => simp at hl; omega
          | [b], _ => rw [hq] at h0; simp at h0; rw [h0]
          | b :: c :: r, hl => simp at hl; omega
        have := (hr.2.2.2 (p.size - 1) (by omega) (by omega) e).2
        omega
      refine rsplit_names p w hr (pieces p) (fun ys hy => ?_) ?_ ?_
      · apply map_data
        rw [hy, pieces_data]
        unfold st
        rw [if_neg hlast]
        unfold tk
        rw [List.take_of_length_le (by omega)]
      · have h1 := tot_len (pieces p)
        rw [tot_pieces hf] at h1
        omega
      · by_cases hn : ∀ n ∈ pieces p, NameMay n.data.toList
        · rw [spl_yes hf hroot hsp hn, if_pos hn]
        · rw [spl_no hf hroot hsp hn, if_neg hn]
  · have he : spl p = ([], 70) := by
      by_cases hf : formed p
      · have h3 : p.toList ≠ [47] := fun h => hr ((rform_iff p).2 ⟨hf, .inl h⟩)
        have h4 : ¬ split2 p := fun h => hr ((rform_iff p).2 ⟨hf, .inr h⟩)
        exact spl_form2 hf h3 h4
      · exact spl_form hf
    have HE := Lib.hid he
    clear he hl
    go_enter Tryd.func17, Tryd.ntmps17
    go_wp2_with fail
    refine (rformed_any p false ⟨fun h => (by cases h), fun h => absurd h hr⟩ _).mono ?_; rintro e w' ⟨rfl, rfl⟩
    go_wp2_with fail
    go_ret2
    exact ⟨.slice none 0 0, by rw [HE.out]; rfl, by rw [HE.out]; exact .inl ⟨rfl, rfl⟩, Below.refl _ _⟩
end Go.Proofs.YtkhpifjhnkknbaaDoor
