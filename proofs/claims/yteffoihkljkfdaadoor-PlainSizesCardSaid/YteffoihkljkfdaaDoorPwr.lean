/- write: the walk. -/
import Derived.Test.YteffoihkljkfdaaDoorPup
import Derived.Test.YteffoihkljkfdaaDoorPcm
import Derived.Test.YteffoihkljkfdaaDoorPrd
namespace Go.Proofs.YteffoihkljkfdaaDoor
set_option linter.unusedSimpArgs false
set_option linter.unusedVariables false
open Go.RowKit

def badW (off : Int) (data : List Int) : Prop := off < 0 ∨ 131072 < (data.length : Int) ∨ 136704 - (data.length : Int) < off
theorem write_e1 {S : PS} {i off : Int} {data : List Int} (h : badW off data) : S.write i off data = (S, 101) := by unfold PS.write; exact if_pos h
theorem write_e2 {S : PS} {i off : Int} {data : List Int} (h : ¬ badW off data) (h2 : S.free < ((S.nd i).wrote off data).count - (S.nd i).count) : S.write i off data = (S, 80) := by unfold PS.write; rw [if_neg (show ¬ (off < 0 ∨ 131072 < (data.length : Int) ∨ 136704 - (data.length : Int) < off) from h), if_pos h2]
theorem write_ok {S : PS} {i off : Int} {data : List Int} (h : ¬ badW off data) (h2 : ¬ S.free < ((S.nd i).wrote off data).count - (S.nd i).count) : S.write i off data = (S.put i (some ((S.nd i).wrote off data)), 0) := by unfold PS.write; rw [if_neg (show ¬ (off < 0 ∨ 131072 < (data.length : Int) ∨ 136704 - (data.length : Int) < off) from h), if_neg h2]
/-- so far written -/
def wroteK (n : Nd) (off : Int) (data : List Int) (k : Nat) : Nd := { n with data := (n.wrote off (data.take k)).data }
theorem wroteK_0 (n : Nd) (off : Int) (data : List Int) : wroteK n off data 0 = n := by
  unfold wroteK
  have e : (n.wrote off (data.take 0)).data = n.data := by
    funext x
    show (if touched off (data.take 0).length x = true then some (lay off (data.take 0) x ((n.data x).getD zero128)) else n.data x) = n.data x
    refine if_neg fun h => ?_
    rw [touched_iff] at h
    simp at h
  rw [e]
theorem wroteK_all (n : Nd) (off : Int) (data : List Int) : wroteK n off data data.length = { n.wrote off data with size := n.size } := by
  unfold wroteK
  rw [List.take_length]; rfl
theorem cnt_le {w : World} {b c : Nat} {m : Int → Option Value} (h : MG kInt w b m c) (hb : ∀ k, (m k).isSome = true → 0 ≤ k ∧ k < 1068) : c ≤ 1068 := by
  obtain ⟨l, h1, h2, h3⟩ := h.keys
  rw [← h2]
  have := nodup_le (l := l) (m := (List.range 1068).map fun (i : Nat) => (i : Int)) h1 (fun x hx => by
    obtain ⟨a, b⟩ := hb x ((h3 x).1 hx)
    exact List.mem_map.2 ⟨x.toNat, List.mem_range.2 (by omega), by omega⟩)
  simpa using this
theorem look_mg {w : World} {b c : Nat} {n : Nd} (h : MG kInt w b n.dataM c) (k : Int) (hk : i64ok k) : (Instr.lookup 71 (.map (some b)) (.int .i64 k) false).run Tryd.prog w = .ok (.agg (IV .u8 ((n.data k).getD zero128))) w := by
  have h1 := h.lookc (e := 101) Tryd.underlying71 (z := .agg (IV .u8 (zl 128))) (by show (Zv101).run Tryd.prog w = _; exact rz101 w) hk
  unfold Nd.dataM at h1
  cases hd : n.data k with
  | none => rw [hd] at h1; exact h1
  | some s => rw [hd] at h1; exact h1
theorem slice_rowG {g o N c k : Nat} (hk : k < N) (hc : N ≤ c) (w : World) : (Instr.slice 34 (.slice (some ⟨g, o, none⟩) N c) (some (.int .i64 k)) none none).run Tryd.prog w = .ok (.slice (some ⟨g, o + k, none⟩) (N - k) (c - k)) w := by
  obtain ⟨i, h2, h3, h4, h5⟩ := info_u8
  have hne : ¬ c = k := by omega
  have h0 : (0 : Int) ≤ (k : Int) := by omega
  have hle : (k : Int) ≤ (N : Int) := by omega
  have hadd : (⟨g, o, none⟩ : Addr).add k = ⟨g, o + k, none⟩ := add_none _ _ _
  simp [Instr.slice, run_underlying Tryd.underlying34, Instr.sliceBounds, Instr.sliceBound, asIntOf, hle, sizeOf, typeInfo, h2, h4, hne, hadd, show k ≤ N by omega]
/-- a sector, and a row of bytes beside it -/
def WbAt (w : World) (gs gd od : Nat) (data : List Int) : Prop := (∃ cur, hat w gs = some (.cells cur 101) ∧ cur.size = 128) ∧ ∃ cs T fr, hat w gd = some (.cells cs T fr) ∧ ∀ j x, data[j]? = some x → cs[od + j]? = some (.int .u8 x)
theorem wb_copy {w : World} {gs gd od : Nat} {data : List Int} (h : WbAt w gs gd od data) {k f m dc sc : Nat} (hk : k + m ≤ data.length) (hf : f + m ≤ 128) (hm : m = Nat.min (data.length - k) (128 - f)) (ty : TypeId) :
    (Builtin.copy_ #[34, 34] ty #[.slice (some ⟨gs, f, none⟩) (128 - f) dc, .slice (some ⟨gd, od + k, none⟩) (data.length - k) sc]).run Tryd.prog w = .ok (.int .i64 m) (w.setCells gs f (bytesV ((data.drop k).take m))) := by
  obtain ⟨⟨cur, h1, h2⟩, cs, T, fr, h3, h4⟩ := h
  have hl : (bytesV ((data.drop k).take m)).length = m := by unfold bytesV; rw [List.length_map, List.length_take, List.length_drop]; omega
  have := run_copy_cells (P := Tryd.prog) w 34 34 ty 5 gs f (128 - f) dc ⟨gd, od + k, none⟩ (data.length - k) sc (bytesV ((data.drop k).take m)) Tryd.underlying34 (by kernel_rfl) (by rw [hl]; exact hm) (fun j v hj => ?_) (fun j hj => ?_) (fun j hj => ?_) (fun v hv => ?_)
  · rw [this, hl]; rfl
  · rw [add_none, cell_hat h3]
    unfold bytesV at hj
    rw [List.getElem?_map, List.getElem?_take] at hj
    split at hj
    · rw [List.getElem?_drop] at hj
      cases hq : data[k + j]? with
      | none => rw [hq] at hj; cases hj
      | some x =>
        rw [hq] at hj
        rw [Nat.add_assoc, h4 (k + j) x hq]
        exact hj
    · cases hj
  · rw [hl] at hj
    rw [cell_hat h1, Array.getElem?_eq_getElem (by omega)]; rfl
  · exact frozen_hat h1 _
  · unfold bytesV at hv
    obtain ⟨x, -, rfl⟩ := List.mem_map.1 hv
    rfl
theorem wb_after {w : World} {gs gd od : Nat} {data : List Int} (h : WbAt w gs gd od data) (hne : gd ≠ gs) (f : Nat) (cs : List Value) : WbAt (w.setCells gs f cs) gs gd od data := by
  obtain ⟨⟨cur, h1, h2⟩, c2, T, fr, h3, h4⟩ := h
  obtain ⟨cs', a1, a2, -⟩ := hat_setCells gs 101 (0, 0) cs f w cur h1
  exact ⟨⟨cs', a1, a2.trans h2⟩, c2, T, fr, ((fr_setCells gs cs f w).block gd (hat_lt h3) (by simpa using hne)).trans h3, h4⟩
/-- bytes that can be read, frozen or not -/
def BRow (w : World) (v : Value) (ob : Option Nat) (l : List Int) : Prop :=
  (v = .slice none 0 0 ∧ ob = none ∧ l = []) ∨ ∃ g off c cs T fr, v = .slice (some ⟨g, off, none⟩) l.length c ∧ ob = some g ∧ hat w g = some (.cells cs T fr) ∧ ∀ j x, l[j]? = some x → cs[off + j]? = some (.int .u8 x)
theorem BRow.slice {w : World} {v : Value} {ob : Option Nat} {l : List Int} (h : BRow w v ob l) : ∃ a c, v = .slice a l.length c := by
  rcases h with ⟨rfl, -, rfl⟩ | ⟨g, off, c, cs, T, fr, rfl, -⟩
  · exact ⟨none, 0, rfl⟩
  · exact ⟨_, _, rfl⟩
theorem BRow.lt {w : World} {v : Value} {ob : Option Nat} {l : List Int} (h : BRow w v ob l) : ∀ g, ob = some g → g < w.heap.size := by
  rintro g rfl
  rcases h with ⟨-, h, -⟩ | ⟨g', off, c, cs, T, fr, -, h, h2, -⟩
  · cases h
  · cases h; exact hat_lt h2
theorem BRow.fr {w w' : World} {v : Value} {ob : Option Nat} {l : List Int} {ex : List Nat} (h : BRow w v ob l) (hf : Fr ex w w') (hn : ∀ g, ob = some g → g ∉ ex) : BRow w' v ob l := by
  rcases h with h | ⟨g, off, c, cs, T, fr, h1, h2, h3, h4⟩
  · exact .inl h
  · exact .inr ⟨g, off, c, cs, T, fr, h1, h2, (hf.block _ (hat_lt h3) (hn g h2)).trans h3, h4⟩
theorem GRow.brow {w : World} {v : Value} {ob : Option Nat} {l : List Int} (h : GRow 5 1 w v ob l.length (byC l)) : BRow w v ob l := by
  rcases h with ⟨h1, h2, h3⟩ | ⟨g, off, c, cs, h1, h2, h3, h4, h5, h6⟩
  · exact .inl ⟨h1, h2, List.eq_nil_of_length_eq_zero h3⟩
  · refine .inr ⟨g, off, c, cs, _, _, h1, h2, h3, fun j x hj => ?_⟩
    have hjl := (List.getElem?_eq_some_iff.1 hj).1
    rw [h6 j (by omega)]
    unfold byC
    rw [List.getD_eq_getElem?_getD, hj]; rfl
set_option maxHeartbeats 16000000 in
set_option maxRecDepth 100000 in
theorem write_any {w : World} {gp bn c : Nat} {S : PS} {A : Int → NA} {own : Nat → Option (Int × Nat)} (h : PW w gp bn c S A own) {i : Int} (hi : (S.nodes i).isSome = true) (hk1 : (S.nd i).kind = 1) {off : Int} {data : List Int} {dv : Value} {od : Option Nat} (hdv : BRow w dv od data) (hcap : ∀ a l c, dv = .slice a l c → l ≤ c) (hd : ∀ b ∈ data, 0 ≤ b ∧ b < 256) (hdl : data.length ≤ 140737488355328) :
    Calls Tryd.prog 72 #[.pointer (some ⟨gp, 0, none⟩), .pointer (some ⟨(A i).g, 0, none⟩), .int .i64 off, dv] w fun e w' => ∃ own', e = .returned (.int .i64 (S.write i off data).2) ∧ Mvd w w' gp bn own (S.write i off data).1 own' := by
  have H := Lib.hid h
  have hn := PS.nd_get hi
  have HD := Lib.hid hdv
  obtain ⟨da, dc, rfl⟩ := hdv.slice
  have hLc := hcap _ _ _ rfl
  clear hdv hcap h
  obtain ⟨L, hL⟩ : ∃ x, x = data.length := ⟨_, rfl⟩
  rw [← hL]
  have HLL := Lib.hid hL
  have hL64 : (L : Int) ≤ 140737488355328 := by omega
  have hL0 : (0 : Int) ≤ (L : Int) := by omega
  rw [← hL] at hLc
  by_cases hbad : badW off data
  · have HQ := Lib.hid (write_e1 (S := S) (i := i) hbad)
    unfold badW at hbad
    rw [← hL] at hbad
    clear hL
    by_cases h1 : off < 0
    · clear hbad
      go_enter Tryd.func72, Tryd.ntmps72
      go_wp2_with fail
      go_ret
      first
        | exact ⟨by rw [HQ.out]; rfl, own, by rw [HQ.out]; exact H.out.stay (Below.refl _ _)⟩
        | exact ⟨own, by rw [HQ.out]; rfl, by rw [HQ.out]; exact H.out.stay (Below.refl _ _)⟩
    · by_cases h2 : 131072 < (L : Int)
      · clear hbad
        go_enter Tryd.func72, Tryd.ntmps72
        go_wp2_with fail
        go_ret
        first
        | exact ⟨by rw [HQ.out]; rfl, own, by rw [HQ.out]; exact H.out.stay (Below.refl _ _)⟩
        | exact ⟨own, by rw [HQ.out]; rfl, by rw [HQ.out]; exact H.out.stay (Below.refl _ _)⟩
      · have h3 : 136704 - (L : Int) < off := by omega
        clear hbad
        go_enter Tryd.func72, Tryd.ntmps72
        go_wp2_with fail
        go_ret
        first
        | exact ⟨by rw [HQ.out]; rfl, own, by rw [HQ.out]; exact H.out.stay (Below.refl _ _)⟩
        | exact ⟨own, by rw [HQ.out]; rfl, by rw [HQ.out]; exact H.out.stay (Below.refl _ _)⟩
  · have HB := Lib.hid hbad
    unfold badW at hbad
    rw [← hL] at hbad
    have h1 : ¬ off < 0 := by omega
    have h2 : ¬ 131072 < (L : Int) := by omega
    have h3 : ¬ 136704 - (L : Int) < off := by omega
    have hnn := H.out.t.n i _ hn
    have hh := hnn.h
    have hhl := hat_lt hh
    obtain ⟨sa, sc, hsv⟩ := hnn.s.slice
    rw [hnn.d.map, hnn.m.map, hsv] at hh
    have HEV := Lib.hid (show (A i).dv = .map (A i).db ∧ (A i).nv = .map (A i).nb ∧ (A i).sv = .slice sa (S.nd i).slots.length sc from ⟨hnn.d.map, hnn.m.map, hsv⟩)
    rw [hk1] at hh
    have hone : oneAll #[.int .i64 1, .int .i64 (S.nd i).links, .int .i64 (S.nd i).size, .int .i64 (S.nd i).made, .map (A i).db, .slice sa (S.nd i).slots.length sc, .map (A i).nb] = true := by simp [oneAll, Value.oneCell']
    clear hbad hL hsv
    go_enter Tryd.func72, Tryd.ntmps72
    go_upto_region 4 with fail
    obtain ⟨kd, hkd⟩ : ∃ x, x = (S.nd i).kind := ⟨_, rfl⟩
    obtain ⟨w1, hw1⟩ : ∃ x, x = w.alloc (.cells #[.int .i64 1, .int .i64 (S.nd i).links, .int .i64 (S.nd i).size, .int .i64 (S.nd i).made, .map (A i).db, .slice sa (S.nd i).slots.length sc, .map (A i).nb] 74) := ⟨_, rfl⟩
    obtain ⟨gx, hgx⟩ : ∃ x, x = w.heap.size := ⟨_, rfl⟩
    have hf1 : Fr [] w w1 := by rw [hw1]; exact fr_new _ _ _
    have hx1 : hat w1 gx = some (.cells #[.int .i64 1, .int .i64 (S.nd i).links, .int .i64 (S.nd i).size, .int .i64 (S.nd i).made, .map (A i).db, .slice sa (S.nd i).slots.length sc, .map (A i).nb] 74) := by rw [hw1, hgx]; exact (hopN w _).1
    rw [← hw1, ← hgx]
    have HGX := Lib.hid hgx
    have hh1 := (hf1.block _ hhl (by simp)).trans hh
    have hhl1 := hat_lt hh1
    have hxl1 := hat_lt hx1
    have HX1 := Lib.hid hx1
    have HF1 := Lib.hid hf1
    have HMO := Lib.hid (show MO kInt w1 (.map (A i).db) (A i).db (S.nd i).dataM (A i).dc by rw [← HEV.out.1]; exact hnn.d.fr hf1 (by simp))
    have HNN := Lib.hid hnn
    have HHH := Lib.hid hh
    have HDB := Lib.hid ((H.out.h i _ hn).2 hk1)
    clear hw1 hgx hf1 hnn hkd hh hhl
    go_wp2_with fail
    refine (cloneD_any HMO.out).mono ?_; rintro e w2 ⟨v2, ob2, rfl, hm2, hge2, his2, hb2⟩
    obtain ⟨bx, hbx⟩ := Option.isSome_iff_exists.1 (his2 HDB.out)
    subst hbx
    have hv2 := hm2.map
    subst hv2
    have HMG2 := Lib.hid (show MG kInt w2 bx (S.nd i).dataM (A i).dc by
      rcases hm2 with ⟨h4, -⟩ | ⟨b, -, h4, h5⟩
      · cases h4
      · cases h4; exact h5)
    have HBX := Lib.hid (show gx < bx from by have h4 := hge2 bx rfl; omega)
    have hx2 := (hop hb2 hx1).1
    have hxl2 := hat_lt hx2
    have HF2 := Lib.hid (HF1.out.trans (fr_below hb2 []))
    clear hm2 hge2 his2 hb2 hx1 hh1 hhl1 hxl1 HX1 HMO
    go_upto_region 5 with fail
    have hx3 : hat (w2.setCell ⟨gx, 4, none⟩ (.map (some bx))) gx = some (.cells #[.int .i64 1, .int .i64 (S.nd i).links, .int .i64 (S.nd i).size, .int .i64 (S.nd i).made, .map (some bx), .slice sa (S.nd i).slots.length sc, .map (A i).nb] 74) := hat_setCell_at _ _ _ _ _ _ _ hx2
    have hf3 := fr_setCell w2 gx 4 (.map (some bx))
    generalize w2.setCell ⟨gx, 4, none⟩ (.map (some bx)) = w3 at *
    have HX3 := Lib.hid hx3
    have HM3 := Lib.hid (show MG kInt w3 bx (wroteK (S.nd i) off data 0).dataM (A i).dc by rw [wroteK_0]; exact HMG2.out.fr hf3 (by have := HBX.out; simp; omega))
    have HF3 := Lib.hid (((HF2.out.mono (ex' := [gx]) (by simp)).trans hf3).past (ex' := []) (fun b hb => .inr (by have := HGX.out; simp at hb; omega)))
    clear hx3 hf3 hx2 hxl2 HMG2 HF2
    go_wp2_with fail
    go_loopw [10] (fun v wr => ∃ (k c' : Nat), v = .int .i64 k ∧ k ≤ L ∧ Hid (hat wr gx = some (.cells #[.int .i64 1, .int .i64 (S.nd i).links, .int .i64 (S.nd i).size, .int .i64 (S.nd i).made, .map (some bx), .slice sa (S.nd i).slots.length sc, .map (A i).nb] 74)) ∧ Hid (MG kInt wr bx (wroteK (S.nd i) off data k).dataM c') ∧ Hid (Fr [] w wr)) (fun v _ => L - (intOf v).toNat)
    case atStart => exact ⟨0, _, rfl, by omega, HX3, HM3, HF3⟩
    case round =>
      obtain ⟨k, c', rfl, hkL, HX, HM, HF⟩ := hrel
      clear HX3 HM3 HF3
      have hk0 : (0 : Int) ≤ (k : Int) := by omega
      have hoff : 0 ≤ off := by omega
      have hsum : off + (L : Int) ≤ 136704 := by omega
      by_cases hlt : k < L
      · have hk1' : (k : Int) < (L : Int) := by omega
        have hwt := wrote_wf (S := S) (n := S.nd i) (off := off) (data := data.take k) (H.out.f.n i _ hn) (H.out.o.n i _ hn) hk1 hoff (by have := HLL.out; rw [List.length_take]; omega) (fun b hb => hd b (List.mem_of_mem_take hb))
        have hlk := look_mg HM.out ((off + k) / 128) ⟨by omega, by omega⟩
        obtain ⟨s, hs⟩ : ∃ x, x = ((wroteK (S.nd i) off data k).data ((off + k) / 128)).getD zero128 := ⟨_, rfl⟩
        have hsl : s.length = 128 := by
          rw [hs]
          cases hq : (wroteK (S.nd i) off data k).data ((off + k) / 128) with
          | none => simp [zero128]
          | some s => exact hwt.2.dl _ s hq
        rw [← hs] at hlk
        have HS := Lib.hid hs
        have HWT := Lib.hid hwt
        have hx := HX.out
        have hxl := hat_lt hx
        clear hs hwt
        obtain ⟨gd, od', rfl, hcells⟩ : ∃ gd od', da = some ⟨gd, od', none⟩ ∧ ∃ cs T fr, hat w gd = some (.cells cs T fr) ∧ ∀ j x, data[j]? = some x → cs[od' + j]? = some (.int .u8 x) := by
          rcases HD.out with ⟨-, -, h0⟩ | ⟨g, off', c, cs, T, fr, e, h2, h3, h4⟩
          · have := HLL.out; rw [h0] at this; simp at this; omega
          · injection e with e1 e2 e3
            exact ⟨g, off', e1, cs, T, fr, h3, h4⟩
        have HCE := Lib.hid hcells
        clear hcells
        go_upto_region 9 with fail
        obtain ⟨f, hf⟩ : ∃ f : Nat, (f : Int) = (off + k) % 128 := ⟨((off + k) % 128).toNat, by omega⟩
        rw [← hf]
        have hf128 : f < 128 := by omega
        have HFE := Lib.hid hf
        obtain ⟨m, hm⟩ : ∃ m, m = Nat.min (data.length - k) (128 - f) := ⟨_, rfl⟩
        have hmb : m ≤ 128 - f ∧ m ≤ L - k ∧ 0 < m ∧ (f + m = 128 ∨ k + m = L) := by
          have h4 : m = min (data.length - k) (128 - f) := hm
          have := HLL.out
          omega
        obtain ⟨w2', hw2⟩ : ∃ x, x = wr.alloc (.cells (IV .u8 s) 101) := ⟨_, rfl⟩
        obtain ⟨gs, hgs⟩ : ∃ x, x = wr.heap.size := ⟨_, rfl⟩
        have hfr2 : Fr [] wr w2' := by rw [hw2]; exact fr_new _ _ _
        have hgdl : gd < w.heap.size := by obtain ⟨cs, T, fr, h4, -⟩ := HCE.out; exact hat_lt h4
        have hne : gd ≠ gs := by have := HF.out.size; omega
        have hs0 : hat w2' gs = some (.cells (IV .u8 s) 101) := by rw [hw2, hgs]; exact (hopN wr _).1
        have HRB := Lib.hid (show WbAt w2'.drew gs gd od' data from ⟨⟨_, hs0, by simp [IV]; simpa using hsl⟩, by
          obtain ⟨cs, T, fr, h4, h5⟩ := HCE.out
          exact ⟨cs, T, fr, ((HF.out.trans hfr2).block _ hgdl (by simp)).trans h4, h5⟩⟩)
        have HF2 := Lib.hid hfr2
        have HS0 := Lib.hid (show hat w2'.drew gs = some (.cells (IV .u8 s) 101) from hs0)
        have HGS := Lib.hid (show w.heap.size ≤ gs ∧ gd ≠ gs ∧ gx < gs ∧ bx < gs ∧ gd < w.heap.size from ⟨by rw [hgs]; exact HF.out.size, hne, by rw [hgs]; exact hxl, by rw [hgs]; exact HM.out.lt, hgdl⟩)
        rw [← hw2, ← hgs]
        have hcp : (Builtin.copy_ #[34, 34] 3 #[.slice (some ⟨gs, f, none⟩) (128 - f) (128 - f), .slice (some ⟨gd, od' + k, none⟩) (L - k) (dc - k)]).run Tryd.prog w2'.drew = .ok (.int .i64 m) (w2'.drew.setCells gs f (bytesV ((data.drop k).take m))) := by rw [HLL.out]; exact wb_copy HRB.out (by have := HLL.out; omega) (by omega) hm 3
        have hs1 := fun w => slice_rowG (g := gd) (o := od') hlt hLc w
        have hs2 := fun w => slice_sec (g := gs) hf128 w
        have hmi : (m : Int) ≤ 128 ∧ 0 < (m : Int) := by omega
        obtain ⟨hmi1, hmi2⟩ := hmi
        have hwk : IntKind.i64.wrap ((k : Int) + (m : Int)) = (k : Int) + m := IntWalk.i64_in _ ⟨by omega, by omega⟩
        have HM' := Lib.hid hm
        have HMB := Lib.hid hmb
        clear hf hm hmb hw2 hgs hne hfr2 hlk hs0 hgdl hx hxl
        go_region_held3 (fun w' => (Builtin.copy_ #[34, 34] 3 #[.slice (some ⟨gs, f, none⟩) (128 - f) (128 - f), .slice (some ⟨gd, od' + k, none⟩) (L - k) (dc - k)]).run Tryd.prog w' = .ok (.int .i64 m) (w'.setCells gs f (bytesV ((data.drop k).take m))))
          (first | assumption | (rw [HLL.out]; exact wb_copy (wb_after HRB.out HGS.out.2.1 _ _) (by have := HMB.out; have := HLL.out; omega) (by have := HMB.out; omega) HM'.out 3) | fail) (first | fail | fail)
        have hstp := wrote_step (n := S.nd i) (H.out.o.n i _ hn) (off := off) (data := data) (a := k) (m := m) hoff (by have := HMB.out; have := HLL.out; omega) (by have := HMB.out; omega) (k := (off + k) / 128) (f := f) rfl HFE.out (by have := HMB.out; omega) (by have := HMB.out; have := HLL.out; omega)
        have hB : (((S.nd i).wrote off (data.take k)).data ((off + k) / 128)).getD zero128 = s := HS.out.symm
        rw [hB] at hstp
        have hcl : ((data.drop k).take m).length = m := by rw [List.length_take, List.length_drop]; have := HMB.out; have := HLL.out; omega
        have hS3 := set_bytes (k := f) (c := (data.drop k).take m) HS0.out (by rw [hcl, hsl]; have := HMB.out; omega)
        rw [hcl, ← List.append_assoc] at hS3
        obtain ⟨s', hs'⟩ : ∃ x, x = s.take f ++ (data.drop k).take m ++ s.drop (f + m) := ⟨_, rfl⟩
        rw [← hs'] at hS3 hstp
        have hs'l : s'.length = 128 := by rw [hs', List.length_append, List.length_append, List.length_take, List.length_drop, hcl, hsl]; have := HMB.out; omega
        have hf3 : Fr [gs] wr (w2'.drew.setCells gs f (bytesV ((data.drop k).take m))) := ((fr_drew HF2.out).mono (by simp)).trans (fr_setCells gs _ _ _)
        generalize w2'.drew.setCells gs f (bytesV ((data.drop k).take m)) = w3' at *
        have hx3 := (hf3.block _ (hat_lt HX.out) (by have := HGS.out; simp; omega)).trans HX.out
        have hm3 := HM.out.fr hf3 (by have := HGS.out; simp; omega)
        have hc4 := cnt_le HM.out (fun x hx => by
          refine HWT.out.2.dk x ?_
          unfold Nd.dataM at hx
          cases hq : (wroteK (S.nd i) off data k).data x with
          | none => rw [hq] at hx; cases hx
          | some y =>
            have hq' : ((S.nd i).wrote off (data.take k)).data x = some y := hq
            rw [hq']; rfl)
        obtain ⟨w4, hr4, hm4, ht4⟩ := hm3.put (t := 71) (e := 101) Tryd.underlying71 (by unfold maxLen; omega) (x := (off + k) / 128) (show i64ok _ from ⟨by omega, by omega⟩) (.agg (IV .u8 s'))
        have hr4 : (Instr.mapUpdate 71 (.map (some bx)) (.int .i64 ((off + k) / 128)) (.agg (IV .u8 s'))).run Tryd.prog w3' = .ok () w4 := hr4
        have hf4 := fr_turned ht4
        have e4 : (fun y => if y = (off + k) / 128 then some (Value.agg (IV .u8 s')) else (wroteK (S.nd i) off data k).dataM y) = (wroteK (S.nd i) off data (k + m)).dataM := by
          funext y
          show _ = (((S.nd i).wrote off (data.take (k + m))).data y).map _
          rw [hstp]
          show _ = (if y = (off + k) / 128 then some s' else ((S.nd i).wrote off (data.take k)).data y).map _
          by_cases hy : y = (off + k) / 128
          · rw [if_pos hy, if_pos hy]; rfl
          · rw [if_neg hy, if_neg hy]; rfl
        rw [e4] at hm4
        have HM4 := Lib.hid hm4
        have HX4 := Lib.hid ((hf4.block _ (hat_lt hx3) (by have := HBX.out; simp; omega)).trans hx3)
        have HF4 := Lib.hid (((HF.out.mono (ex' := [gs, bx]) (by simp)).trans ((hf3.mono (by simp)).trans (hf4.mono (by simp)))).past (ex' := []) (fun b hb => .inr (by have h4 := HGS.out; have h5 := HBX.out; have h6 := HGX.out; simp at hb; omega)))
        have HK := Lib.hid (show k + m ≤ L ∧ 0 < m from by have := HMB.out; omega)
        have hxl3 := hat_lt hx3
        have hsl3 := hat_lt hS3
        clear hm4 ht4 hf4 hf3 hm3 e4 hstp hs' hcl
        go_wp2_with fail
        go_roundw
        case rel => exact ⟨k + m, _, by go_num, HK.out.1, HX4, HM4, HF4⟩
        case measure => (show L - (k + m) < L - k); have := HK.out; omega
      · obtain rfl : k = L := by omega
        have hwt := wrote_wf (S := S) (n := S.nd i) (off := off) (data := data) (H.out.f.n i _ hn) (H.out.o.n i _ hn) hk1 hoff (by have := HLL.out; omega) hd
        have hnx : NodeAt wr { A i with g := gx, db := some bx, dv := .map (some bx), dc := c' } { (S.nd i).wrote off data with size := (S.nd i).size } := by
          refine ⟨?_, .inr ⟨bx, rfl, rfl, ?_⟩, (HNN.out.fr HF.out (by simp) (by simp) (by simp) (by simp)).s, (HNN.out.fr HF.out (by simp) (by simp) (by simp) (by simp)).m⟩
          · show hat wr gx = some (.cells #[.int .i64 (S.nd i).kind, .int .i64 (S.nd i).links, .int .i64 (S.nd i).size, .int .i64 (S.nd i).made, .map (some bx), (A i).sv, (A i).nv] 74)
            rw [hk1, HEV.out.2.1, HEV.out.2.2]
            exact HX.out
          · have h4 := HM.out
            rw [HLL.out, wroteK_all] at h4
            exact h4
        have HNX := Lib.hid hnx
        have HOX : Hid (NOk { (S.nd i).wrote off data with size := (S.nd i).size }) := Lib.hid ⟨hwt.2.dk, hwt.2.dl, hwt.2.sl⟩
        have HPT := Lib.hid (H.out.t.fr HF.out (by simp))
        have HNI := Lib.hid (HNN.out.fr HF.out (by simp) (by simp) (by simp) (by simp))
        have hct : ({ (S.nd i).wrote off data with size := (S.nd i).size } : Nd).count = ((S.nd i).wrote off data).count := rfl
        clear hwt hnx
        go_wp2_with fail
        refine (fits_any HPT.out H.out.o HNI.out (H.out.o.n i _ hn) HNX.out HOX.out).mono ?_; rintro e w5 ⟨rfl, hb5⟩
        rw [hct]
        have HF5 := Lib.hid (HF.out.trans (fr_below hb5 []))
        have hx5 := (hop hb5 HX.out).1
        have hm5 := (HM.out.fr (fr_below hb5 []) (by simp))
        rw [HLL.out, wroteK_all] at hm5
        have hm5' : MG kInt w5 bx ((S.nd i).wrote off data).dataM c' := hm5
        have HM5 := Lib.hid hm5'
        have hg5 := (HF5.out.block _ HNN.out.lts.1 (by simp)).trans HHH.out
        have hg5l := hat_lt hg5
        have hx5l := hat_lt hx5
        clear hm5 hm5' hb5 hct HPT HNI HNX HOX HM
        cases hft : decide (((S.nd i).wrote off data).count - (S.nd i).count ≤ S.free)
        · have HQ := Lib.hid (write_e2 (S := S) (i := i) HB.out (by have := of_decide_eq_false hft; omega))
          clear hft
          go_wp2_with fail
          go_ret
          rw [HQ.out]
          first
            | exact ⟨rfl, own, H.out.stay HF5.out.bl⟩
            | exact ⟨own, rfl, H.out.stay HF5.out.bl⟩
        · have HQ := Lib.hid (write_ok (S := S) (i := i) HB.out (by have := of_decide_eq_true hft; omega))
          have hsw := write_wf (S := S) (i := i) (off := off) (data := data) H.out.o H.out.f hi hk1 hd
          rw [HQ.out] at hsw
          have HSW := Lib.hid hsw
          clear hft hsw
          by_cases hL1 : 0 < k
          · have hL1i : 0 < (k : Int) := by omega
            obtain ⟨sz, hsz⟩ : ∃ x, x = max (S.nd i).size (off + k) := ⟨_, rfl⟩
            have HSZ := Lib.hid (show ((S.nd i).wrote off data).size = sz from by
              show (if data = [] then (S.nd i).size else max (S.nd i).size (off + data.length)) = sz
              rw [if_neg (by intro h4; have := HLL.out; rw [h4] at this; simp at this; omega), hsz, HLL.out])
            go_upto_region 15 with fail
            rw [← hsz]
            have hx6 : hat (w5.setCell ⟨gx, 2, none⟩ (.int .i64 sz)) gx = some (.cells #[.int .i64 1, .int .i64 (S.nd i).links, .int .i64 sz, .int .i64 (S.nd i).made, .map (some bx), .slice sa (S.nd i).slots.length sc, .map (A i).nb] 74) := hat_setCell_at _ _ _ _ _ _ _ hx5
            have hf6 : Fr [] w (w5.setCell ⟨gx, 2, none⟩ (.int .i64 sz)) := ((HF5.out.mono (ex' := [gx]) (by simp)).trans (fr_setCell _ _ _ _)).past (fun b hb => .inr (by have h5 := HGX.out; simp at hb; omega))
            have hg6 := (hf6.block _ HNN.out.lts.1 (by simp)).trans HHH.out
            have hm6 : MG kInt (w5.setCell ⟨gx, 2, none⟩ (.int .i64 sz)) bx ((S.nd i).wrote off data).dataM c' := HM5.out.fr (fr_setCell _ _ _ _) (by have := HBX.out; simp; omega)
            generalize w5.setCell ⟨gx, 2, none⟩ (.int .i64 sz) = w6 at *
            clear hx5 hg5 hx5l hg5l hsz
            have hx6l := hat_lt hx6
            have hg6l := hat_lt hg6
            have HX6 := Lib.hid hx6
            have HF6' := Lib.hid hf6
            have hone6 : oneAll #[.int .i64 1, .int .i64 (S.nd i).links, .int .i64 sz, .int .i64 (S.nd i).made, .map (some bx), .slice sa (S.nd i).slots.length sc, .map (A i).nb] = true := by simp [oneAll, Value.oneCell']
            have HM6 := Lib.hid hm6
            have HG6 := Lib.hid (hat_setRow_at w6 (A i).g #[.int .i64 1, .int .i64 (S.nd i).links, .int .i64 sz, .int .i64 (S.nd i).made, .map (some bx), .slice sa (S.nd i).slots.length sc, .map (A i).nb] _ _ _ hg6)
            clear hm6 hf6
            go_wp2_with fail
            go_ret
            have hfF : Fr [(A i).g] w (w6.setRow (A i).g #[.int .i64 1, .int .i64 (S.nd i).links, .int .i64 sz, .int .i64 (S.nd i).made, .map (some bx), .slice sa (S.nd i).slots.length sc, .map (A i).nb]) := (HF6'.out.mono (by simp)).trans (fr_setRow _ _ _)
            have hgi := (HNN.out.lts).1
            have hgb : bx ≠ (A i).g := by have h4 := HBX.out; have h5 := HGX.out; omega
            have hap := H.out.t.apart hn
            obtain ⟨own', hpw, ho, -, hun⟩ := upd_pw (w6 := w6.setRow (A i).g #[.int .i64 1, .int .i64 (S.nd i).links, .int .i64 sz, .int .i64 (S.nd i).made, .map (some bx), .slice sa (S.nd i).slots.length sc, .map (A i).nb]) H.out (i := i) (n := S.nd i) (n' := (S.nd i).wrote off data) (a' := { A i with db := some bx, dv := .map (some bx), dc := c' }) (ex := [(A i).g]) hn HSW.out hfF
              (fun b hb _ => ⟨(i, 0), by rw [show b = (A i).g by simpa using hb]; exact (H.out.t.og i _ hn).1, rfl⟩)
              ⟨by
                show hat _ (A i).g = some (.cells #[.int .i64 (S.nd i).kind, .int .i64 (S.nd i).links, .int .i64 ((S.nd i).wrote off data).size, .int .i64 (S.nd i).made, .map (some bx), (A i).sv, (A i).nv] 74)
                rw [HSZ.out, hk1, HEV.out.2.1, HEV.out.2.2]
                exact HG6.out, .inr ⟨bx, rfl, rfl, HM6.out.fr (fr_setRow _ _ _) (by simp; exact hgb)⟩, HNN.out.s.fr hfF (fun b hb => by simp; exact (hap.2.1 b hb).1), HNN.out.m.fr hfF (fun b hb => by simp; exact hap.1 b hb)⟩
              rfl (fun b hb => .inr (by cases hb; have h4 := HBX.out; have h5 := HGX.out; omega)) (fun b hb => .inl hb) (fun b hb => .inl hb)
              (fun b hb => ⟨fun _ => ⟨fun h4 => by have := HNN.out.lts.2.2.1 b h4; omega, fun h4 => by have := HNN.out.lts.2.2.2 b h4; omega⟩, fun h4 => by have := HNN.out.lts.2.2.1 b h4; omega⟩)
              ⟨fun h4 => absurd h4 (by show ¬ (S.nd i).kind = 2; rw [hk1]; decide), fun _ => rfl⟩
            obtain ⟨A', hpw⟩ := hpw
            rw [HQ.out]
            first
              | exact ⟨rfl, own', ⟨_, A', hpw⟩, hun, ho⟩
              | exact ⟨own', rfl, ⟨_, A', hpw⟩, hun, ho⟩
          · obtain rfl : k = 0 := by omega
            obtain ⟨sz, hsz⟩ : ∃ x, x = (S.nd i).size := ⟨_, rfl⟩
            have HSZ := Lib.hid (show ((S.nd i).wrote off data).size = sz from by
              show (if data = [] then (S.nd i).size else max (S.nd i).size (off + data.length)) = sz
              rw [if_pos (List.eq_nil_of_length_eq_zero HLL.out.symm), hsz])
            have hx6 := hx5
            rw [← hsz] at hx6
            have hg6 := hg5
            have hm6 := HM5.out
            have hf6 := HF5.out
            go_upto_region 15 with fail
            generalize w5 = w6 at *
            clear hx5 hg5 hx5l hg5l hsz
            have hx6l := hat_lt hx6
            have hg6l := hat_lt hg6
            have HX6 := Lib.hid hx6
            have HF6' := Lib.hid hf6
            have hone6 : oneAll #[.int .i64 1, .int .i64 (S.nd i).links, .int .i64 sz, .int .i64 (S.nd i).made, .map (some bx), .slice sa (S.nd i).slots.length sc, .map (A i).nb] = true := by simp [oneAll, Value.oneCell']
            have HM6 := Lib.hid hm6
            have HG6 := Lib.hid (hat_setRow_at w6 (A i).g #[.int .i64 1, .int .i64 (S.nd i).links, .int .i64 sz, .int .i64 (S.nd i).made, .map (some bx), .slice sa (S.nd i).slots.length sc, .map (A i).nb] _ _ _ hg6)
            clear hm6 hf6
            go_wp2_with fail
            go_ret
            have hfF : Fr [(A i).g] w (w6.setRow (A i).g #[.int .i64 1, .int .i64 (S.nd i).links, .int .i64 sz, .int .i64 (S.nd i).made, .map (some bx), .slice sa (S.nd i).slots.length sc, .map (A i).nb]) := (HF6'.out.mono (by simp)).trans (fr_setRow _ _ _)
            have hgi := (HNN.out.lts).1
            have hgb : bx ≠ (A i).g := by have h4 := HBX.out; have h5 := HGX.out; omega
            have hap := H.out.t.apart hn
            obtain ⟨own', hpw, ho, -, hun⟩ := upd_pw (w6 := w6.setRow (A i).g #[.int .i64 1, .int .i64 (S.nd i).links, .int .i64 sz, .int .i64 (S.nd i).made, .map (some bx), .slice sa (S.nd i).slots.length sc, .map (A i).nb]) H.out (i := i) (n := S.nd i) (n' := (S.nd i).wrote off data) (a' := { A i with db := some bx, dv := .map (some bx), dc := c' }) (ex := [(A i).g]) hn HSW.out hfF
              (fun b hb _ => ⟨(i, 0), by rw [show b = (A i).g by simpa using hb]; exact (H.out.t.og i _ hn).1, rfl⟩)
              ⟨by
                show hat _ (A i).g = some (.cells #[.int .i64 (S.nd i).kind, .int .i64 (S.nd i).links, .int .i64 ((S.nd i).wrote off data).size, .int .i64 (S.nd i).made, .map (some bx), (A i).sv, (A i).nv] 74)
                rw [HSZ.out, hk1, HEV.out.2.1, HEV.out.2.2]
                exact HG6.out, .inr ⟨bx, rfl, rfl, HM6.out.fr (fr_setRow _ _ _) (by simp; exact hgb)⟩, HNN.out.s.fr hfF (fun b hb => by simp; exact (hap.2.1 b hb).1), HNN.out.m.fr hfF (fun b hb => by simp; exact hap.1 b hb)⟩
              rfl (fun b hb => .inr (by cases hb; have h4 := HBX.out; have h5 := HGX.out; omega)) (fun b hb => .inl hb) (fun b hb => .inl hb)
              (fun b hb => ⟨fun _ => ⟨fun h4 => by have := HNN.out.lts.2.2.1 b h4; omega, fun h4 => by have := HNN.out.lts.2.2.2 b h4; omega⟩, fun h4 => by have := HNN.out.lts.2.2.1 b h4; omega⟩)
              ⟨fun h4 => absurd h4 (by show ¬ (S.nd i).kind = 2; rw [hk1]; decide), fun _ => rfl⟩
            obtain ⟨A', hpw⟩ := hpw
            rw [HQ.out]
            first
              | exact ⟨rfl, own', ⟨_, A', hpw⟩, hun, ho⟩
              | exact ⟨own', rfl, ⟨_, A', hpw⟩, hun, ho⟩
end Go.Proofs.YteffoihkljkfdaaDoor
