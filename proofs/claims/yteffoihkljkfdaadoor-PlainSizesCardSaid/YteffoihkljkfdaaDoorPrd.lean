/- read: the walk. -/
import Derived.Test.YteffoihkljkfdaaDoorPmp
import Derived.Test.YteffoihkljkfdaaDoorPww
import Derived.Laws.IdiomCopy
namespace Go.Proofs.YteffoihkljkfdaaDoor
set_option linter.unusedSimpArgs false
set_option linter.unusedVariables false
open Go.RowKit

theorem zl_zero : zl 128 = zero128 := rfl
theorem look_data {w : World} {a : NA} {n : Nd} (h : NodeAt w a n) (k : Int) (hk : i64ok k) : (Instr.lookup 71 a.dv (.int .i64 k) false).run Tryd.prog w = .ok (.agg (IV .u8 ((n.data k).getD zero128))) w := by
  have h1 := h.d.lookc (e := 101) Tryd.underlying71 (z := .agg (IV .u8 (zl 128))) (by show (Zv101).run Tryd.prog w = _; exact rz101 w) hk
  unfold Nd.dataM at h1
  cases hd : n.data k with
  | none => rw [hd] at h1; exact h1
  | some s => rw [hd] at h1; exact h1
/-- a row of bytes, and a sector beside it -/
def RbAt (w : World) (go N gs : Nat) (s : List Int) : Prop := (∃ cur, hat w go = some (.cells cur 5) ∧ cur.size = N) ∧ hat w gs = some (.cells (IV .u8 s) 101)
def bytesV (l : List Int) : List Value := l.map (Value.int .u8)
theorem rb_copy {w : World} {go N gs : Nat} {s : List Int} (h : RbAt w go N gs s) (hs : s.length = 128) {at_ f m dc sc : Nat} (ha : at_ + m ≤ N) (hf : f + m ≤ 128) (hm : m = Nat.min (128 - f) (N - at_)) (ty : TypeId) :
    (Builtin.copy_ #[34, 34] ty #[.slice (some ⟨go, at_, none⟩) (N - at_) dc, .slice (some ⟨gs, f, none⟩) (128 - f) sc]).run Tryd.prog w = .ok (.int .i64 m) (w.setCells go at_ (bytesV ((s.drop f).take m))) := by
  obtain ⟨⟨cur, h1, h2⟩, h3⟩ := h
  have hl : (bytesV ((s.drop f).take m)).length = m := by unfold bytesV; rw [List.length_map, List.length_take, List.length_drop]; omega
  have := run_copy_cells (P := Tryd.prog) w 34 34 ty 5 go at_ (N - at_) dc ⟨gs, f, none⟩ (128 - f) sc (bytesV ((s.drop f).take m)) Tryd.underlying34 (by kernel_rfl) (by rw [hl]; exact hm) (fun j v hj => ?_) (fun j hj => ?_) (fun j hj => ?_) (fun v hv => ?_)
  · rw [this, hl]; rfl
  · rw [add_none, cell_hat h3, IV_get?]
    unfold bytesV at hj
    rw [List.getElem?_map, List.getElem?_take] at hj
    split at hj
    · rw [List.getElem?_drop] at hj; exact hj
    · cases hj
  · rw [hl] at hj
    rw [cell_hat h1, Array.getElem?_eq_getElem (by omega)]; rfl
  · exact frozen_hat h1 _
  · unfold bytesV at hv
    obtain ⟨x, -, rfl⟩ := List.mem_map.1 hv
    rfl
theorem rb_after {w : World} {go N gs : Nat} {s : List Int} (h : RbAt w go N gs s) (hne : gs ≠ go) (at_ : Nat) (cs : List Value) : RbAt (w.setCells go at_ cs) go N gs s := by
  obtain ⟨⟨cur, h1, h2⟩, h3⟩ := h
  obtain ⟨cs', a1, a2, -⟩ := hat_setCells go 5 (0, 0) cs at_ w cur h1
  exact ⟨⟨cs', a1, a2.trans h2⟩, ((fr_setCells go cs at_ w).block gs (hat_lt h3) (by simpa using hne)).trans h3⟩
theorem info_u8 : ∃ i0, Tryd.prog.info? 5 = some i0 ∧ i0.zero = some (.int .u8 0) ∧ i0.size = 1 ∧ i0.bytes = 1 := by
  have h : (Tryd.prog.info? 5).map (fun i => (i.zero, i.size, i.bytes)) = some (some (.int .u8 0), 1, 1) := by kernel_rfl
  cases hq : Tryd.prog.info? 5 with
  | none => rw [hq] at h; cases h
  | some inf =>
    rw [hq] at h
    simp at h
    exact ⟨inf, rfl, h.1, h.2.1, h.2.2⟩
set_option maxRecDepth 100000 in
theorem make_bytes (w : World) (N : Nat) (hN : N ≤ 1000000) : ∃ w', (Instr.makeSlice 34 (.int .i64 N) (.int .i64 N)).run Tryd.prog w = .ok (.slice (some ⟨w.heap.size, 0, none⟩) N N) w' ∧ hat w' w.heap.size = some (.cells (IV .u8 (zl N)) 5) ∧ Fr [] w w' := by
  obtain ⟨i, h2, h3, h4, h5⟩ := info_u8
  have hr := run_make (P := Tryd.prog) w 34 5 i (.int .u8 0) Tryd.underlying34 h2 h3 .i64 .i64 N N (by omega) (Int.le_refl _) (by rw [h5]; omega) (by omega)
  rw [Int.toNat_natCast, h4] at hr
  refine ⟨_, hr, ?_, fr_new _ _ _⟩
  rw [(hopN w _).1]
  congr 2
  apply Array.ext_getElem?
  intro j
  rw [IV_get?]
  unfold zl
  rw [List.getElem?_replicate]
  by_cases hj : j < N
  · rw [if_pos hj]
    unfold madeCells
    rw [Array.getElem?_map, Array.getElem?_range, if_pos (by omega)]
    simp [Value.cells, Nat.mod_one]
  · rw [if_neg hj, Array.getElem?_eq_none (by rw [size_madeCells]; omega)]; rfl
theorem slice_row {g N k : Nat} (hk : k < N) (w : World) : (Instr.sliceAt 34 (.slice (some ⟨g, 0, none⟩) N N) (some (.int .i64 k)) none none).run Tryd.prog w = .ok (.slice (some ⟨g, k, none⟩) (N - k) (N - k)) w := by
  obtain ⟨i, h2, h3, h4, h5⟩ := info_u8
  have hne : ¬ N = k := by omega
  have h0 : (0 : Int) ≤ (k : Int) := by omega
  have hle : (k : Int) ≤ (N : Int) := by omega
  have hadd : (⟨g, 0, none⟩ : Addr).add k = ⟨g, k, none⟩ := by unfold Addr.add; split <;> simp_all
  simp [Instr.sliceAt, Instr.slice, run_underlying Tryd.underlying34, Instr.sliceBounds, Instr.sliceBound, asIntOf, hle, sizeOf, typeInfo, h2, h4, hne, hadd, show k ≤ N by omega]
theorem slice_sec {g f : Nat} (hf : f < 128) (w : World) : (Instr.sliceAt 101 (.pointer (some ⟨g, 0, none⟩)) (some (.int .i64 f)) none none).run Tryd.prog w = .ok (.slice (some ⟨g, f, none⟩) (128 - f) (128 - f)) w := by
  have := run_sliceAt_lo (P := Tryd.prog) (T := 101) Tryd.underlying101 (by kernel_rfl) g 0 f (by omega) (by omega) w
  simpa using this
def readL (n : Nd) (off : Int) (k : Nat) : List Int := (List.range k).map fun (j : Nat) => n.byte (off + j)
theorem readL_len (n : Nd) (off : Int) (k : Nat) : (readL n off k).length = k := by unfold readL; simp
theorem readL_add (n : Nd) (off : Int) (k m : Nat) : readL n off (k + m) = readL n off k ++ (List.range m).map fun (j : Nat) => n.byte (off + (k + j : Nat)) := by
  unfold readL
  rw [List.range_add, List.map_append, List.map_map]; rfl
theorem hat_setCells2 (g : Nat) (t : TypeId) (fr : Nat × Nat) : ∀ (vs : List Value) (o : Nat) (w : World) (cs : Array Value), hat w g = some (.cells cs t fr) → ∃ cs', hat (w.setCells g o vs) g = some (.cells cs' t fr) ∧ cs'.size = cs.size ∧
    (∀ j, j < o → cs'[j]? = cs[j]?) ∧ (∀ j v, vs[j]? = some v → o + j < cs.size → cs'[o + j]? = some v) ∧ ∀ j, o + vs.length ≤ j → cs'[j]? = cs[j]?
  | [], o, w, cs, h => ⟨cs, h, rfl, fun _ _ => rfl, fun j v hv => by simp at hv, fun _ _ => rfl⟩
  | x :: r, o, w, cs, h => by
    obtain ⟨cs', h1, h2, h3, h4, h5⟩ := hat_setCells2 g t fr r (o + 1) _ _ (hat_setCell_at w g o x _ _ _ h)
    refine ⟨cs', h1, by rw [h2]; simp, fun j hj => ?_, fun j v hv hj => ?_, fun j hj => ?_⟩
    · rw [h3 j (by omega), Array.getElem?_setIfInBounds, if_neg (by omega)]
    · cases j with
      | zero =>
        simp at hv
        subst hv
        rw [Nat.add_zero] at hj ⊢
        rw [h3 o (by omega), Array.getElem?_setIfInBounds, if_pos rfl, if_pos hj]
      | succ j =>
        have := h4 j v (by simpa using hv) (by simp; omega)
        rw [show o + (j + 1) = o + 1 + j by omega]
        exact this
    · rw [List.length_cons] at hj
      rw [h5 j (by omega), Array.getElem?_setIfInBounds, if_neg (by omega)]
theorem set_bytes {w : World} {g k : Nat} {l c : List Int} {T : TypeId} (h : hat w g = some (.cells (IV .u8 l) T)) (hk : k + c.length ≤ l.length) : hat (w.setCells g k (bytesV c)) g = some (.cells (IV .u8 (l.take k ++ (c ++ l.drop (k + c.length)))) T) := by
  obtain ⟨cs', a1, a2, a3, a4, a5⟩ := hat_setCells2 g T (0, 0) (bytesV c) k w _ h
  rw [a1]
  congr 2
  have hsz : (IV .u8 l).size = l.length := by simp [IV]
  have hcl : (bytesV c).length = c.length := by unfold bytesV; simp
  apply Array.ext_getElem?
  intro j
  rw [IV_get?]
  by_cases h1 : j < k
  · rw [a3 j h1, IV_get?, List.getElem?_append_left (by rw [List.length_take]; omega), List.getElem?_take, if_pos h1]
  · by_cases h2 : j < k + c.length
    · have hj : j - k < c.length := by omega
      have := a4 (j - k) (.int .u8 (c[j - k])) (by unfold bytesV; rw [List.getElem?_map, List.getElem?_eq_getElem hj]; rfl) (by rw [hsz]; omega)
      rw [show k + (j - k) = j by omega] at this
      rw [this, List.getElem?_append_right (by rw [List.length_take]; omega), List.length_take, Nat.min_eq_left (by omega), List.getElem?_append_left hj, List.getElem?_eq_getElem hj]; rfl
    · rw [a5 j (by rw [hcl]; omega), IV_get?, List.getElem?_append_right (by rw [List.length_take]; omega), List.length_take, Nat.min_eq_left (by omega), List.getElem?_append_right (by omega), List.getElem?_drop]
      congr 2
      omega
set_option maxHeartbeats 8000000 in
set_option maxRecDepth 100000 in
theorem read_any {w : World} {a : NA} {n : Nd} (h : NodeAt w a n) (hk : NOk n) (hsz : 0 ≤ n.size ∧ n.size ≤ 136704) {off most : Int} :
    Calls Tryd.prog 74 #[.pointer (some ⟨a.g, 0, none⟩), .int .i64 off, .int .i64 most] w fun e w' => ∃ av, e = .returned av ∧ AnsAt w' w.heap.size (fun _ => none) av (n.read off most) ∧ Below w.heap.size w w' := by
  have H := Lib.hid h
  obtain ⟨w0, hw0⟩ : ∃ x, x = w.alloc (.cells ans0 37) := ⟨_, rfl⟩
  obtain ⟨ga, hgae⟩ : ∃ x, x = w.heap.size := ⟨_, rfl⟩
  have HGAE := Lib.hid (show w.heap.size ≤ ga ∧ a.g < ga from ⟨by omega, by have := hat_lt h.h; omega⟩)
  have HG0 := Lib.hid (show hat w0 ga = some (.cells ans0 37) by rw [hw0, hgae]; exact (hopN w _).1)
  have HF0 := Lib.hid (show Fr [] w w0 by rw [hw0]; exact fr_new w _ [])
  have HN0 := Lib.hid (h.fr HF0.out (by simp) (by simp) (by simp) (by simp))
  have hh := HN0.out.h
  have hhl := hat_lt hh
  have hga := HG0.out
  unfold ans0 at hga
  have hgal := hat_lt hga
  obtain ⟨hz1, hz2⟩ := hsz
  clear h
  go_enter Tryd.func74, Tryd.ntmps74
  go_upto_region 1 with fail
  have hw0' : w0 = w.alloc (.cells #[.int .i64 0, .int .i64 0, .int .i64 0, .int .i64 0, .int .i64 0, .int .i64 0, .int .i64 0, .slice none 0 0, .slice none 0 0, .bool false] 37) := hw0
  rw [← hw0', ← hgae]
  clear hw0' hw0 hgae
  by_cases hbad : off < 0 ∨ most < 0 ∨ 131072 < most
  · have HQ := Lib.hid (show n.read off most = .err 101 by unfold Nd.read; rw [if_pos hbad])
    by_cases h1 : off < 0
    · clear hbad
      go_wp2_with fail
      refine ret_c row37 rfl (cs := #[.int .i64 101, .int .i64 0, .int .i64 0, .int .i64 0, .int .i64 0, .int .i64 0, .int .i64 0, .slice none 0 0, .slice none 0 0, .bool false]) rfl (hat_setRow_at _ _ _ _ _ _ HG0.out) rfl rfl ?_
      exact ⟨_, rfl, by rw [HQ.out]; exact ans_err _ _ _ _, ((((HF0.out).mono (ex' := [ga]) (by simp)).trans (fr_setRow _ ga _)).past (ex' := []) (fun g hg => .inr (by have := HGAE.out; simp at hg; omega))).bl⟩
    · by_cases h2 : most < 0
      · clear hbad
        go_wp2_with fail
        refine ret_c row37 rfl (cs := #[.int .i64 101, .int .i64 0, .int .i64 0, .int .i64 0, .int .i64 0, .int .i64 0, .int .i64 0, .slice none 0 0, .slice none 0 0, .bool false]) rfl (hat_setRow_at _ _ _ _ _ _ HG0.out) rfl rfl ?_
        exact ⟨_, rfl, by rw [HQ.out]; exact ans_err _ _ _ _, ((((HF0.out).mono (ex' := [ga]) (by simp)).trans (fr_setRow _ ga _)).past (ex' := []) (fun g hg => .inr (by have := HGAE.out; simp at hg; omega))).bl⟩
      · have h3 : 131072 < most := by omega
        clear hbad
        go_wp2_with fail
        refine ret_c row37 rfl (cs := #[.int .i64 101, .int .i64 0, .int .i64 0, .int .i64 0, .int .i64 0, .int .i64 0, .int .i64 0, .slice none 0 0, .slice none 0 0, .bool false]) rfl (hat_setRow_at _ _ _ _ _ _ HG0.out) rfl rfl ?_
        exact ⟨_, rfl, by rw [HQ.out]; exact ans_err _ _ _ _, ((((HF0.out).mono (ex' := [ga]) (by simp)).trans (fr_setRow _ ga _)).past (ex' := []) (fun g hg => .inr (by have := HGAE.out; simp at hg; omega))).bl⟩
  · have h1 : ¬ off < 0 := by omega
    have h2 : ¬ most < 0 := by omega
    have h3 : ¬ 131072 < most := by omega
    have HB := Lib.hid hbad
    clear hbad
    by_cases hend : n.size ≤ off
    · have HQ := Lib.hid (show n.read off most = .err 0 by unfold Nd.read; rw [if_neg HB.out, if_pos hend])
      go_wp2_with fail
      refine ret_c row37 rfl (cs := #[.int .i64 0, .int .i64 0, .int .i64 0, .int .i64 0, .int .i64 0, .int .i64 0, .int .i64 0, .slice none 0 0, .slice none 0 0, .bool false]) rfl (hat_setRow_at _ _ _ _ _ _ HG0.out) rfl rfl ?_
      exact ⟨_, rfl, by rw [HQ.out]; exact ans_err _ _ _ _, ((((HF0.out).mono (ex' := [ga]) (by simp)).trans (fr_setRow _ ga _)).past (ex' := []) (fun g hg => .inr (by have := HGAE.out; simp at hg; omega))).bl⟩
    · obtain ⟨N, hN⟩ : ∃ N : Nat, (N : Int) = min most (n.size - off) := ⟨(min most (n.size - off)).toNat, by omega⟩
      have hN1 : N ≤ 131072 := by omega
      have hN2 : (N : Int) ≤ n.size - off := by omega
      have HQ := Lib.hid (show n.read off most = ⟨0, Sta.zero, readL n off N, []⟩ by unfold Nd.read; rw [if_neg HB.out, if_neg hend, ← hN, Int.toNat_natCast]; rfl)
      obtain ⟨w1, hmk, hg1, hf1⟩ := make_bytes w0 N (by omega)
      rw [hN] at hmk
      have HN := Lib.hid hN
      obtain ⟨go, hgo⟩ : ∃ x, x = w0.heap.size := ⟨_, rfl⟩
      have hgo2 : ga < go := by rw [hgo]; exact hat_lt HG0.out
      rw [← hgo] at hmk hg1
      have HF1 := Lib.hid (HF0.out.trans hf1)
      have HG1 := Lib.hid ((hf1.block _ (hat_lt HG0.out) (by simp)).trans HG0.out)
      have HO1 := Lib.hid hg1
      have HN1 := Lib.hid (HN0.out.fr hf1 (by simp) (by simp) (by simp) (by simp))
      have HGO := Lib.hid (show w.heap.size ≤ go ∧ ga < go from ⟨by have := HGAE.out; omega, hgo2⟩)
      clear hf1 hg1 hgo hgo2 hN
      go_upto_region 6 with fail
      clear hmk hga hgal hh hhl
      go_wp2_with fail
      go_loopw [8] (fun v wr => ∃ k : Nat, v = .int .i64 k ∧ k ≤ N ∧ Hid (hat wr go = some (.cells (IV .u8 (readL n off k ++ zl (N - k))) 5)) ∧ Hid (hat wr ga = some (.cells ans0 37)) ∧ Hid (NodeAt wr a n) ∧ Hid (Fr [] w wr)) (fun v _ => N - (intOf v).toNat)
      case atStart => exact ⟨0, rfl, by omega, HO1, HG1, HN1, HF1⟩
      case round =>
        obtain ⟨k, rfl, hkN, HO, HG, HNd, HF⟩ := hrel
        clear HO1 HG1 HN1 HF1 HN0 HG0 HF0
        have hk0 : (0 : Int) ≤ (k : Int) := by omega
        by_cases hlt : k < N
        · have hk1 : (k : Int) < (N : Int) := by omega
          have hlk := look_data HNd.out ((off + k) / 128) ⟨by omega, by omega⟩
          obtain ⟨s, hs⟩ : ∃ x, x = (n.data ((off + k) / 128)).getD zero128 := ⟨_, rfl⟩
          have hsl : s.length = 128 := by
            rw [hs]
            cases hq : n.data ((off + k) / 128) with
            | none => simp [zero128]
            | some s => exact hk.dl _ s hq
          rw [← hs] at hlk
          have HS := Lib.hid hs
          clear hs
          have hh := HNd.out.h
          have hhl := hat_lt hh
          go_upto_region 10 with fail
          obtain ⟨f, hf⟩ : ∃ f : Nat, (f : Int) = (off + k) % 128 := ⟨((off + k) % 128).toNat, by omega⟩
          rw [← hf]
          have hf128 : f < 128 := by omega
          have HFE := Lib.hid hf
          obtain ⟨m, hm⟩ : ∃ m, m = Nat.min (128 - f) (N - k) := ⟨_, rfl⟩
          have hmb : m ≤ 128 - f ∧ m ≤ N - k ∧ 0 < m ∧ (f + m = 128 ∨ k + m = N) := by
            have h4 : m = min (128 - f) (N - k) := hm
            omega
          obtain ⟨w2, hw2⟩ : ∃ x, x = wr.alloc (.cells (IV .u8 s) 101) := ⟨_, rfl⟩
          obtain ⟨gs, hgs⟩ : ∃ x, x = wr.heap.size := ⟨_, rfl⟩
          have hne : gs ≠ go := by have := hat_lt HO.out; omega
          have hfr2 : Fr [] wr w2 := by rw [hw2]; exact fr_new _ _ _
          have hrl : (readL n off k ++ zl (N - k)).length = N := by rw [List.length_append, zl_length]; unfold readL; simp; omega
          have HRB := Lib.hid (show RbAt w2.drew go N gs s from ⟨⟨_, (hfr2.block _ (hat_lt HO.out) (by simp)).trans HO.out, by simp [IV]; simpa using hrl⟩, by rw [hw2, hgs]; exact (hopN wr _).1⟩)
          have HF2 := Lib.hid hfr2
          have HGS := Lib.hid (show w.heap.size ≤ gs ∧ gs ≠ go ∧ gs ≠ ga from ⟨by rw [hgs]; exact HF.out.size, hne, by have := hat_lt HG.out; omega⟩)
          rw [← hw2, ← hgs]
          have hcp : (Builtin.copy_ #[34, 34] 3 #[.slice (some ⟨go, k, none⟩) (N - k) (N - k), .slice (some ⟨gs, f, none⟩) (128 - f) (128 - f)]).run Tryd.prog w2.drew = .ok (.int .i64 m) (w2.drew.setCells go k (bytesV ((s.drop f).take m))) := rb_copy HRB.out hsl (by omega) (by omega) hm 3
          have hs1 := fun w => slice_row (g := go) hlt w
          have hs2 := fun w => slice_sec (g := gs) hf128 w
          have hmi : (m : Int) ≤ 128 ∧ 0 < (m : Int) := by omega
          obtain ⟨hmi1, hmi2⟩ := hmi
          have hwk : IntKind.i64.wrap ((k : Int) + (m : Int)) = (k : Int) + m := IntWalk.i64_in _ ⟨by omega, by omega⟩
          have HM := Lib.hid hm
          have HMB := Lib.hid hmb
          clear hf hm hmb hw2 hgs hne hfr2 hrl hlk hh hhl
          go_region_held3 (fun w' => (Builtin.copy_ #[34, 34] 3 #[.slice (some ⟨go, k, none⟩) (N - k) (N - k), .slice (some ⟨gs, f, none⟩) (128 - f) (128 - f)]).run Tryd.prog w' = .ok (.int .i64 m) (w'.setCells go k (bytesV ((s.drop f).take m))))
            (first | assumption | exact rb_copy (rb_after HRB.out HGS.out.2.1 _ _) hsl (by have := HMB.out; omega) (by have := HMB.out; omega) HM.out 3 | fail) (first | fail | fail)
          have hst := read_step (n := n) hk (off := off) (a := k) (m := m) (k := (off + k) / 128) (f := f) h1 rfl HFE.out (by have := HMB.out; omega)
          rw [← HS.out] at hst
          have hcl : ((s.drop f).take m).length = m := by rw [List.length_take, List.length_drop]; have := HMB.out; omega
          have hO2 : hat w2.drew go = some (.cells (IV .u8 (readL n off k ++ zl (N - k))) 5) := (HF2.out.block _ (hat_lt HO.out) (by simp)).trans HO.out
          have hO3 := set_bytes (k := k) (c := (s.drop f).take m) hO2 (by rw [List.length_append, readL_len, zl_length, hcl]; have := HMB.out; omega)
          have hll : (readL n off k ++ zl (N - k)).take k ++ ((s.drop f).take m ++ (readL n off k ++ zl (N - k)).drop (k + ((s.drop f).take m).length)) = readL n off (k + m) ++ zl (N - (k + m)) := by
            have hzd : (zl (N - k)).drop m = zl (N - (k + m)) := by unfold zl; rw [List.drop_replicate]; congr 1; omega
            rw [hcl, hst, List.take_append_of_le_length (by rw [readL_len]; omega), List.take_of_length_le (by rw [readL_len]; omega), List.drop_append, List.drop_of_length_le (by rw [readL_len]; omega), readL_len, List.nil_append, show k + m - k = m by omega, hzd, readL_add, List.append_assoc]
          rw [hll] at hO3
          have HO3 := Lib.hid hO3
          have hf3 : Fr [go] wr (w2.drew.setCells go k (bytesV ((s.drop f).take m))) := ((fr_drew HF2.out).mono (by simp)).trans (fr_setCells go _ _ _)
          have HG3 := Lib.hid ((hf3.block _ (hat_lt HG.out) (by have := HGO.out; simp; omega)).trans HG.out)
          have HN3 := Lib.hid (H.out.fr (((HF.out.mono (ex' := [go]) (by simp)).trans hf3).past (ex' := []) (fun b hb => .inr (by simp at hb; rw [hb]; exact HGO.out.1))) (by simp) (by simp) (by simp) (by simp))
          have HF3 := Lib.hid (((HF.out.mono (ex' := [go]) (by simp)).trans hf3).past (ex' := []) (fun b hb => .inr (by simp at hb; rw [hb]; exact HGO.out.1)))
          have HK := Lib.hid (show k + m ≤ N ∧ 0 < m from by have := HMB.out; omega)
          clear hO3 hO2 hll hst hcl hf3
          generalize w2.drew.setCells go k (bytesV ((s.drop f).take m)) = w3 at *
          go_wp2_with fail
          go_roundw
          case rel => exact ⟨k + m, by go_num, HK.out.1, HO3, HG3, HN3, HF3⟩
          case measure => (show N - (k + m) < N - k); have := HK.out; omega
        · obtain rfl : k = N := by omega
          have hga := HG.out
          unfold ans0 at hga
          have hgal := hat_lt hga
          have hO := HO.out
          rw [Nat.sub_self, show zl 0 = [] from rfl, List.append_nil] at hO
          have HO2 := Lib.hid hO
          clear hO
          go_wp2_with fail
          refine ret_c row37 rfl (cs := #[.int .i64 0, .int .i64 0, .int .i64 0, .int .i64 0, .int .i64 0, .int .i64 0, .int .i64 0, .slice (some ⟨go, 0, none⟩) k k, .slice none 0 0, .bool false]) rfl (hat_setRow_at _ _ _ _ _ _ HG.out) rfl rfl ?_
          refine ⟨_, rfl, ?_, ((((HF.out).mono (ex' := [ga]) (by simp)).trans (fr_setRow _ ga _)).past (ex' := []) (fun g hg => .inr (by have := HGAE.out; simp at hg; omega))).bl⟩
          rw [HQ.out]
          refine ⟨_, _, some go, none, rfl, ?_, .inl ⟨rfl, rfl, rfl⟩, fun g hg => ?_⟩
          · show GRow 5 1 _ _ (some go) (readL n off k).length (byC (readL n off k))
            rw [readL_len]
            refine .inr ⟨go, 0, k, _, rfl, rfl, (hat_setRow _ _ _ _ (by have := HGO.out; omega)).trans HO2.out, by simp [IV, readL_len], by simp [IV, readL_len], fun j hj => ?_⟩
            rw [Nat.zero_add, IV_get?]
            unfold byC
            rw [List.getD_eq_getElem?_getD, List.getElem?_eq_getElem (by rw [readL_len]; omega)]; rfl
          · rcases hg with hg | hg
            · cases hg; exact ⟨HGO.out.1, rfl⟩
            · cases hg
end Go.Proofs.YteffoihkljkfdaaDoor
