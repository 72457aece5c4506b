/- Contracts and laws that the claim leans on, laid together in the order in which they build. -/
import Derived.Laws.IdiomCopy
import Derived.Test.YteffoihkljkfdaaDoorM03

/- read: the walk. -/
namespace Go.Proofs.YteffoihkljkfdaaDoor
set_option linter.unusedSimpArgs false
set_option linter.unusedVariables false
open Go.RowKit

theorem zl_zero : zl 128 = zero128 := rfl
theorem look_data {w : World} {a : NA} {n : Nd} (h : NodeAt w a n) (k : Int) (hk : i64ok k) : (Instr.lookup 71 a.dv (.int .i64 k) false).run Tryd.prog w = .ok (.agg (IV .u8 ((n.data k).getD zero128))) w := by
  have h1 := h.d.lookc (e := 101) Tryd.underlying71 (z := .agg (IV .u8 (zl 128))) (by show (Zv101).run Tryd.prog w = _; exact rz101 w) hk
  unfold Nd.dataM at h1
  cases hd : n.data k with
  | none => rw [hd] at h1; exact h1
  | some s => rw [hd] at h1; exact h1
/-- a row of bytes, and a sector beside it -/
def RbAt (w : World) (go N gs : Nat) (s : List Int) : Prop := (∃ cur, hat w go = some (.cells cur 5) ∧ cur.size = N) ∧ hat w gs = some (.cells (IV .u8 s) 101)
def bytesV (l : List Int) : List Value := l.map (Value.int .u8)
theorem rb_copy {w : World} {go N gs : Nat} {s : List Int} (h : RbAt w go N gs s) (hs : s.length = 128) {at_ f m dc sc : Nat} (ha : at_ + m ≤ N) (hf : f + m ≤ 128) (hm : m = Nat.min (128 - f) (N - at_)) (ty : TypeId) :
    (Builtin.copy_ #[34, 34] ty #[.slice (some ⟨go, at_, none⟩) (N - at_) dc, .slice (some ⟨gs, f, none⟩) (128 - f) sc]).run Tryd.prog w = .ok (.int .i64 m) (w.setCells go at_ (bytesV ((s.drop f).take m))) := by
  obtain ⟨⟨cur, h1, h2⟩, h3⟩ := h
  have hl : (bytesV ((s.drop f).take m)).length = m := by unfold bytesV; rw [List.length_map, List.length_take, List.length_drop]; omega
  have := run_copy_cells (P := Tryd.prog) w 34 34 ty 5 go at_ (N - at_) dc ⟨gs, f, none⟩ (128 - f) sc (bytesV ((s.drop f).take m)) Tryd.underlying34 (by kernel_rfl) (by rw [hl]; exact hm) (fun j v hj => ?_) (fun j hj => ?_) (fun j hj => ?_) (fun v hv => ?_)
  · rw [this, hl]; rfl
  · rw [add_none, cell_hat h3, IV_get?]
    unfold bytesV at hj
    rw [List.getElem?_map, List.getElem?_take] at hj
    split at hj
    · rw [List.getElem?_drop] at hj; exact hj
    · cases hj
  · rw [hl] at hj
    rw [cell_hat h1, Array.getElem?_eq_getElem (by omega)]; rfl
  · exact frozen_hat h1 _
  · unfold bytesV at hv
    obtain ⟨x, -, rfl⟩ := List.mem_map.1 hv
    rfl
theorem rb_after {w : World} {go N gs : Nat} {s : List Int} (h : RbAt w go N gs s) (hne : gs ≠ go) (at_ : Nat) (cs : List Value) : RbAt (w.setCells go at_ cs) go N gs s := by
  obtain ⟨⟨cur, h1, h2⟩, h3⟩ := h
  obtain ⟨cs', a1, a2, -⟩ := hat_setCells go 5 (0, 0) cs at_ w cur h1
  exact ⟨⟨cs', a1, a2.trans h2⟩, ((fr_setCells go cs at_ w).block gs (hat_lt h3) (by simpa using hne)).trans h3⟩
theorem info_u8 : ∃ i0, Tryd.prog.info? 5 = some i0 ∧ i0.zero = some (.int .u8 0) ∧ i0.size = 1 ∧ i0.bytes = 1 := by
  have h : (Tryd.prog.info? 5).map (fun i => (i.zero, i.size, i.bytes)) = some (some (.int .u8 0), 1, 1) := by kernel_rfl
  cases hq : Tryd.prog.info? 5 with
  | none => rw [hq] at h; cases h
  | some inf =>
    rw [hq] at h
    simp at h
    exact ⟨inf, rfl, h.1, h.2.1, h.2.2⟩
set_option maxRecDepth 100000 in
theorem make_bytes (w : World) (N : Nat) (hN : N ≤ 1000000) : ∃ w', (Instr.makeSlice 34 (.int .i64 N) (.int .i64 N)).run Tryd.prog w = .ok (.slice (some ⟨w.heap.size, 0, none⟩) N N) w' ∧ hat w' w.heap.size = some (.cells (IV .u8 (zl N)) 5) ∧ Fr [] w w' := by
  obtain ⟨i, h2, h3, h4, h5⟩ := info_u8
  have hr := run_make (P := Tryd.prog) w 34 5 i (.int .u8 0) Tryd.underlying34 h2 h3 .i64 .i64 N N (by omega) (Int.le_refl _) (by rw [h5]; omega) (by omega)
  rw [Int.toNat_natCast, h4] at hr
  refine ⟨_, hr, ?_, fr_new _ _ _⟩
  rw [(hopN w _).1]
  congr 2
  apply Array.ext_getElem?
  intro j
  rw [IV_get?]
  unfold zl
  rw [List.getElem?_replicate]
  by_cases hj : j < N
  · rw [if_pos hj]
    unfold madeCells
    rw [Array.getElem?_map, Array.getElem?_range, if_pos (by omega)]
    simp [Value.cells, Nat.mod_one]
  · rw [if_neg hj, Array.getElem?_eq_none (by rw [size_madeCells]; omega)]; rfl
theorem slice_row {g N k : Nat} (hk : k < N) (w : World) : (Instr.sliceAt 34 (.slice (some ⟨g, 0, none⟩) N N) (some (.int .i64 k)) none none).run Tryd.prog w = .ok (.slice (some ⟨g, k, none⟩) (N - k) (N - k)) w := by
  obtain ⟨i, h2, h3, h4, h5⟩ := info_u8
  have hne : ¬ N = k := by omega
  have h0 : (0 : Int) ≤ (k : Int) := by omega
  have hle : (k : Int) ≤ (N : Int) := by omega
  have hadd : (⟨g, 0, none⟩ : Addr).add k = ⟨g, k, none⟩ := by unfold Addr.add; split <;> simp_all
  simp [Instr.sliceAt, Instr.slice, run_underlying Tryd.underlying34, Instr.sliceBounds, Instr.sliceBound, asIntOf, hle, sizeOf, typeInfo, h2, h4, hne, hadd, show k ≤ N by omega]
theorem slice_sec {g f : Nat} (hf : f < 128) (w : World) : (Instr.sliceAt 101 (.pointer (some ⟨g, 0, none⟩)) (some (.int .i64 f)) none none).run Tryd.prog w = .ok (.slice (some ⟨g, f, none⟩) (128 - f) (128 - f)) w := by
  have := run_sliceAt_lo (P := Tryd.prog) (T := 101) Tryd.underlying101 (by kernel_rfl) g 0 f (by omega) (by omega) w
  simpa using this
def readL (n : Nd) (off : Int) (k : Nat) : List Int := (List.range k).map fun (j : Nat) => n.byte (off + j)
theorem readL_len (n : Nd) (off : Int) (k : Nat) : (readL n off k).length = k := by unfold readL; simp
theorem readL_add (n : Nd) (off : Int) (k m : Nat) : readL n off (k + m) = readL n off k ++ (List.range m).map fun (j : Nat) => n.byte (off + (k + j : Nat)) := by
  unfold readL
  rw [List.range_add, List.map_append, List.map_map]; rfl
theorem hat_setCells2 (g : Nat) (t : TypeId) (fr : Nat × Nat) : ∀ (vs : List Value) (o : Nat) (w : World) (cs : Array Value), hat w g = some (.cells cs t fr) → ∃ cs', hat (w.setCells g o vs) g = some (.cells cs' t fr) ∧ cs'.size = cs.size ∧
    (∀ j, j < o → cs'[j]? = cs[j]?) ∧ (∀ j v, vs[j]? = some v → o + j < cs.size → cs'[o + j]? = some v) ∧ ∀ j, o + vs.length ≤ j → cs'[j]? = cs[j]?
  | [], o, w, cs, h => ⟨cs, h, rfl, fun _ _ => rfl, fun j v hv => by simp at hv, fun _ _ => rfl⟩
  | x :: r, o, w, cs, h => by
    obtain ⟨cs', h1, h2, h3, h4, h5⟩ := hat_setCells2 g t fr r (o + 1) _ _ (hat_setCell_at w g o x _ _ _ h)
    refine ⟨cs', h1, by rw [h2]; simp, fun j hj => ?_, fun j v hv hj => ?_, fun j hj => ?_⟩
    · rw [h3 j (by omega), Array.getElem?_setIfInBounds, if_neg (by omega)]
    · cases j with
      | zero =>
        simp at hv
        subst hv
        rw [Nat.add_zero] at hj ⊢
        rw [h3 o (by omega), Array.getElem?_setIfInBounds, if_pos rfl, if_pos hj]
      | succ j =>
        have := h4 j v (by simpa using hv) (by simp; omega)
        rw [show o + (j + 1) = o + 1 + j by omega]
        exact this
    · rw [List.length_cons] at hj
      rw [h5 j (by omega), Array.getElem?_setIfInBounds, if_neg (by omega)]
theorem set_bytes {w : World} {g k : Nat} {l c : List Int} {T : TypeId} (h : hat w g = some (.cells (IV .u8 l) T)) (hk : k + c.length ≤ l.length) : hat (w.setCells g k (bytesV c)) g = some (.cells (IV .u8 (l.take k ++ (c ++ l.drop (k + c.length)))) T) := by
  obtain ⟨cs', a1, a2, a3, a4, a5⟩ := hat_setCells2 g T (0, 0) (bytesV c) k w _ h
  rw [a1]
  congr 2
  have hsz : (IV .u8 l).size = l.length := by simp [IV]
  have hcl : (bytesV c).length = c.length := by unfold bytesV; simp
  apply Array.ext_getElem?
  intro j
  rw [IV_get?]
  by_cases h1 : j < k
  · rw [a3 j h1, IV_get?, List.getElem?_append_left (by rw [List.length_take]; omega), List.getElem?_take, if_pos h1]
  · by_cases h2 : j < k + c.length
    · have hj : j - k < c.length := by omega
      have := a4 (j - k) (.int .u8 (c[j - k])) (by unfold bytesV; rw [List.getElem?_map, List.getElem?_eq_getElem hj]; rfl) (by rw [hsz]; omega)
      rw [show k + (j - k) = j by omega] at this
      rw [this, List.getElem?_append_right (by rw [List.length_take]; omega), List.length_take, Nat.min_eq_left (by omega), List.getElem?_append_left hj, List.getElem?_eq_getElem hj]; rfl
    · rw [a5 j (by rw [hcl]; omega), IV_get?, List.getElem?_append_right (by rw [List.length_take]; omega), List.length_take, Nat.min_eq_left (by omega), List.getElem?_append_right (by omega), List.getElem?_drop]
      congr 2
      omega
set_option maxHeartbeats 8000000 in
set_option maxRecDepth 100000 in
theorem read_any {w : World} {a : NA} {n : Nd} (h : NodeAt w a n) (hk : NOk n) (hsz : 0 ≤ n.size ∧ n.size ≤ 136704) {off most : Int} :
    Calls Tryd.prog 74 #[.pointer (some ⟨a.g, 0, none⟩), .int .i64 off, .int .i64 most] w fun e w' => ∃ av, e = .returned av ∧ AnsAt w' w.heap.size (fun _ => none) av (n.read off most) ∧ Below w.heap.size w w' := by
  have H := Lib.hid h
  obtain ⟨w0, hw0⟩ : ∃ x, x = w.alloc (.cells ans0 37) := ⟨_, rfl⟩
  obtain ⟨ga, hgae⟩ : ∃ x, x = w.heap.size := ⟨_, rfl⟩
  have HGAE := Lib.hid (show w.heap.size ≤ ga ∧ a.g < ga from ⟨by omega, by have := hat_lt h.h; omega⟩)
  have HG0 := Lib.hid (show hat w0 ga = some (.cells ans0 37) by rw [hw0, hgae]; exact (hopN w _).1)
  have HF0 := Lib.hid (show Fr [] w w0 by rw [hw0]; exact fr_new w _ [])
  have HN0 := Lib.hid (h.fr HF0.out (by simp) (by simp) (by simp) (by simp))
  have hh := HN0.out.h
  have hhl := hat_lt hh
  have hga := HG0.out
  unfold ans0 at hga
  have hgal := hat_lt hga
  obtain ⟨hz1, hz2⟩ := hsz
  clear h
  go_enter Tryd.func74, Tryd.ntmps74
  go_upto_region 1 with fail
  have hw0' : w0 = w.alloc (.cells #[.int .i64 0, .int .i64 0, .int .i64 0, .int .i64 0, .int .i64 0, .int .i64 0, .int .i64 0, .slice none 0 0, .slice none 0 0, .bool false] 37) := hw0
  rw [← hw0', ← hgae]
  clear hw0' hw0 hgae
  by_cases hbad : off < 0 ∨ most < 0 ∨ 131072 < most
  · have HQ := Lib.hid (show n.read off most = .err 101 by unfold Nd.read; rw [if_pos hbad])
    by_cases h1 : off < 0
    · clear hbad
      go_wp2_with fail
      refine ret_c row37 rfl (cs := #[.int .i64 101, .int .i64 0, .int .i64 0, .int .i64 0, .int .i64 0, .int .i64 0, .int .i64 0, .slice none 0 0, .slice none 0 0, .bool false]) rfl (hat_setRow_at _ _ _ _ _ _ HG0.out) rfl rfl ?_
      exact ⟨_, rfl, by rw [HQ.out]; exact ans_err _ _ _ _, ((((HF0.out).mono (ex' := [ga]) (by simp)).trans (fr_setRow _ ga _)).past (ex' := []) (fun g hg => .inr (by have := HGAE.out; simp at hg; omega))).bl⟩
    · by_cases h2 : most < 0
      · clear hbad
        go_wp2_with fail
        refine ret_c row37 rfl (cs := #[.int .i64 101, .int .i64 0, .int .i64 0, .int .i64 0, .int .i64 0, .int .i64 0, .int .i64 0, .slice none 0 0, .slice none 0 0, .bool false]) rfl (hat_setRow_at _ _ _ _ _ _ HG0.out) rfl rfl ?_
        exact ⟨_, rfl, by rw [HQ.out]; exact ans_err _ _ _ _, ((((HF0.out).mono (ex' := [ga]) (by simp)).trans (fr_setRow _ ga _)).past (ex' := []) (fun g hg => .inr (by have := HGAE.out; simp at hg; omega))).bl⟩
      · have h3 : 131072 < most := by omega
        clear hbad
        go_wp2_with fail
        refine ret_c row37 rfl (cs := #[.int .i64 101, .int .i64 0, .int .i64 0, .int .i64 0, .int .i64 0, .int .i64 0, .int .i64 0, .slice none 0 0, .slice none 0 0, .bool false]) rfl (hat_setRow_at _ _ _ _ _ _ HG0.out) rfl rfl ?_
        exact ⟨_, rfl, by rw [HQ.out]; exact ans_err _ _ _ _, ((((HF0.out).mono (ex' := [ga]) (by simp)).trans (fr_setRow _ ga _)).past (ex' := []) (fun g hg => .inr (by have := HGAE.out; simp at hg; omega))).bl⟩
  · have h1 : ¬ off < 0 := by omega
    have h2 : ¬ most < 0 := by omega
    have h3 : ¬ 131072 < most := by omega
    have HB := Lib.hid hbad
    clear hbad
    by_cases hend : n.size ≤ off
    · have HQ := Lib.hid (show n.read off most = .err 0 by unfold Nd.read; rw [if_neg HB.out, if_pos hend])
      go_wp2_with fail
      refine ret_c row37 rfl (cs := #[.int .i64 0, .int .i64 0, .int .i64 0, .int .i64 0, .int .i64 0, .int .i64 0, .int .i64 0, .slice none 0 0, .slice none 0 0, .bool false]) rfl (hat_setRow_at _ _ _ _ _ _ HG0.out) rfl rfl ?_
      exact ⟨_, rfl, by rw [HQ.out]; exact ans_err _ _ _ _, ((((HF0.out).mono (ex' := [ga]) (by simp)).trans (fr_setRow _ ga _)).past (ex' := []) (fun g hg => .inr (by have := HGAE.out; simp at hg; omega))).bl⟩
    · obtain ⟨N, hN⟩ : ∃ N : Nat, (N : Int) = min most (n.size - off) := ⟨(min most (n.size - off)).toNat, by omega⟩
      have hN1 : N ≤ 131072 := by omega
      have hN2 : (N : Int) ≤ n.size - off := by omega
      have HQ := Lib.hid (show n.read off most = ⟨0, Sta.zero, readL n off N, []⟩ by unfold Nd.read; rw [if_neg HB.out, if_neg hend, ← hN, Int.toNat_natCast]; rfl)
      obtain ⟨w1, hmk, hg1, hf1⟩ := make_bytes w0 N (by omega)
      rw [hN] at hmk
      have HN := Lib.hid hN
      obtain ⟨go, hgo⟩ : ∃ x, x = w0.heap.size := ⟨_, rfl⟩
      have hgo2 : ga < go := by rw [hgo]; exact hat_lt HG0.out
      rw [← hgo] at hmk hg1
      have HF1 := Lib.hid (HF0.out.trans hf1)
      have HG1 := Lib.hid ((hf1.block _ (hat_lt HG0.out) (by simp)).trans HG0.out)
      have HO1 := Lib.hid hg1
      have HN1 := Lib.hid (HN0.out.fr hf1 (by simp) (by simp) (by simp) (by simp))
      have HGO := Lib.hid (show w.heap.size ≤ go ∧ ga < go from ⟨by have := HGAE.out; omega, hgo2⟩)
      clear hf1 hg1 hgo hgo2 hN
      go_upto_region 6 with fail
      clear hmk hga hgal hh hhl
      go_wp2_with fail
      go_loopw [8] (fun v wr => ∃ k : Nat, v = .int .i64 k ∧ k ≤ N ∧ Hid (hat wr go = some (.cells (IV .u8 (readL n off k ++ zl (N - k))) 5)) ∧ Hid (hat wr ga = some (.cells ans0 37)) ∧ Hid (NodeAt wr a n) ∧ Hid (Fr [] w wr)) (fun v _ => N - (intOf v).toNat)
      case atStart => exact ⟨0, rfl, by omega, HO1, HG1, HN1, HF1⟩
      case round =>
        obtain ⟨k, rfl, hkN, HO, HG, HNd, HF⟩ := hrel
        clear HO1 HG1 HN1 HF1 HN0 HG0 HF0
        have hk0 : (0 : Int) ≤ (k : Int) := by omega
        by_cases hlt : k < N
        · have hk1 : (k : Int) < (N : Int) := by omega
          have hlk := look_data HNd.out ((off + k) / 128) ⟨by omega, by omega⟩
          obtain ⟨s, hs⟩ : ∃ x, x = (n.data ((off + k) / 128)).getD zero128 := ⟨_, rfl⟩
          have hsl : s.length = 128 := by
            rw [hs]
            cases hq : n.data ((off + k) / 128) with
            | none => simp [zero128]
            | some s => exact hk.dl _ s hq
          rw [← hs] at hlk
          have HS := Lib.hid hs
          clear hs
          have hh := HNd.out.h
          have hhl := hat_lt hh
          go_upto_region 10 with fail
          obtain ⟨f, hf⟩ : ∃ f : Nat, (f : Int) = (off + k) % 128 := ⟨((off + k) % 128).toNat, by omega⟩
          rw [← hf]
          have hf128 : f < 128 := by omega
          have HFE := Lib.hid hf
          obtain ⟨m, hm⟩ : ∃ m, m = Nat.min (128 - f) (N - k) := ⟨_, rfl⟩
          have hmb : m ≤ 128 - f ∧ m ≤ N - k ∧ 0 < m ∧ (f + m = 128 ∨ k + m = N) := by
            have h4 : m = min (128 - f) (N - k) := hm
            omega
          obtain ⟨w2, hw2⟩ : ∃ x, x = wr.alloc (.cells (IV .u8 s) 101) := ⟨_, rfl⟩
          obtain ⟨gs, hgs⟩ : ∃ x, x = wr.heap.size := ⟨_, rfl⟩
          have hne : gs ≠ go := by have := hat_lt HO.out; omega
          have hfr2 : Fr [] wr w2 := by rw [hw2]; exact fr_new _ _ _
          have hrl : (readL n off k ++ zl (N - k)).length = N := by rw [List.length_append, zl_length]; unfold readL; simp; omega
          have HRB := Lib.hid (show RbAt w2.drew go N gs s from ⟨⟨_, (hfr2.block _ (hat_lt HO.out) (by simp)).trans HO.out, by simp [IV]; simpa using hrl⟩, by rw [hw2, hgs]; exact (hopN wr _).1⟩)
          have HF2 := Lib.hid hfr2
          have HGS := Lib.hid (show w.heap.size ≤ gs ∧ gs ≠ go ∧ gs ≠ ga from ⟨by rw [hgs]; exact HF.out.size, hne, by have := hat_lt HG.out; omega⟩)
          rw [← hw2, ← hgs]
          have hcp : (Builtin.copy_ #[34, 34] 3 #[.slice (some ⟨go, k, none⟩) (N - k) (N - k), .slice (some ⟨gs, f, none⟩) (128 - f) (128 - f)]).run Tryd.prog w2.drew = .ok (.int .i64 m) (w2.drew.setCells go k (bytesV ((s.drop f).take m))) := rb_copy HRB.out hsl (by omega) (by omega) hm 3
          have hs1 := fun w => slice_row (g := go) hlt w
          have hs2 := fun w => slice_sec (g := gs) hf128 w
          have hmi : (m : Int) ≤ 128 ∧ 0 < (m : Int) := by omega
          obtain ⟨hmi1, hmi2⟩ := hmi
          have hwk : IntKind.i64.wrap ((k : Int) + (m : Int)) = (k : Int) + m := IntWalk.i64_in _ ⟨by omega, by omega⟩
          have HM := Lib.hid hm
          have HMB := Lib.hid hmb
          clear hf hm hmb hw2 hgs hne hfr2 hrl hlk hh hhl
          go_region_held3 (fun w' => (Builtin.copy_ #[34, 34] 3 #[.slice (some ⟨go, k, none⟩) (N - k) (N - k), .slice (some ⟨gs, f, none⟩) (128 - f) (128 - f)]).run Tryd.prog w' = .ok (.int .i64 m) (w'.setCells go k (bytesV ((s.drop f).take m))))
            (first | assumption | exact rb_copy (rb_after HRB.out HGS.out.2.1 _ _) hsl (by have := HMB.out; omega) (by have := HMB.out; omega) HM.out 3 | fail) (first | fail | fail)
          have hst := read_step (n := n) hk (off := off) (a := k) (m := m) (k := (off + k) / 128) (f := f) h1 rfl HFE.out (by have := HMB.out; omega)
          rw [← HS.out] at hst
          have hcl : ((s.drop f).take m).length = m := by rw [List.length_take, List.length_drop]; have := HMB.out; omega
          have hO2 : hat w2.drew go = some (.cells (IV .u8 (readL n off k ++ zl (N - k))) 5) := (HF2.out.block _ (hat_lt HO.out) (by simp)).trans HO.out
          have hO3 := set_bytes (k := k) (c := (s.drop f).take m) hO2 (by rw [List.length_append, readL_len, zl_length, hcl]; have := HMB.out; omega)
          have hll : (readL n off k ++ zl (N - k)).take k ++ ((s.drop f).take m ++ (readL n off k ++ zl (N - k)).drop (k + ((s.drop f).take m).length)) = readL n off (k + m) ++ zl (N - (k + m)) := by
            have hzd : (zl (N - k)).drop m = zl (N - (k + m)) := by unfold zl; rw [List.drop_replicate]; congr 1; omega
            rw [hcl, hst, List.take_append_of_le_length (by rw [readL_len]; omega), List.take_of_length_le (by rw [readL_len]; omega), List.drop_append, List.drop_of_length_le (by rw [readL_len]; omega), readL_len, List.nil_append, show k + m - k = m by omega, hzd, readL_add, List.append_assoc]
          rw [hll] at hO3
          have HO3 := Lib.hid hO3
          have hf3 : Fr [go] wr (w2.drew.setCells go k (bytesV ((s.drop f).take m))) := ((fr_drew HF2.out).mono (by simp)).trans (fr_setCells go _ _ _)
          have HG3 := Lib.hid ((hf3.block _ (hat_lt HG.out) (by have := HGO.out; simp; omega)).trans HG.out)
          have HN3 := Lib.hid (H.out.fr (((HF.out.mono (ex' := [go]) (by simp)).trans hf3).past (ex' := []) (fun b hb => .inr (by simp at hb; rw [hb]; exact HGO.out.1))) (by simp) (by simp) (by simp) (by simp))
          have HF3 := Lib.hid (((HF.out.mono (ex' := [go]) (by simp)).trans hf3).past (ex' := []) (fun b hb => .inr (by simp at hb; rw [hb]; exact HGO.out.1)))
          have HK := Lib.hid (show k + m ≤ N ∧ 0 < m from by have := HMB.out; omega)
          clear hO3 hO2 hll hst hcl hf3
          generalize w2.drew.setCells go k (bytesV ((s.drop f).take m)) = w3 at *
          go_wp2_with fail
          go_roundw
          case rel => exact ⟨k + m, by go_num, HK.out.1, HO3, HG3, HN3, HF3⟩
          case measure => (show N - (k + m) < N - k); have := HK.out; omega
        · obtain rfl : k = N := by omega
          have hga := HG.out
          unfold ans0 at hga
          have hgal := hat_lt hga
          have hO := HO.out
          rw [Nat.sub_self, show zl 0 = [] from rfl, List.append_nil] at hO
          have HO2 := Lib.hid hO
          clear hO
          go_wp2_with fail
          refine ret_c row37 rfl (cs := #[.int .i64 0, .int .i64 0, .int .i64 0, .int .i64 0, .int .i64 0, .int .i64 0, .int .i64 0, .slice (some ⟨go, 0, none⟩) k k, .slice none 0 0, .bool false]) rfl (hat_setRow_at _ _ _ _ _ _ HG.out) rfl rfl ?_
          refine ⟨_, rfl, ?_, ((((HF.out).mono (ex' := [ga]) (by simp)).trans (fr_setRow _ ga _)).past (ex' := []) (fun g hg => .inr (by have := HGAE.out; simp at hg; omega))).bl⟩
          rw [HQ.out]
          refine ⟨_, _, some go, none, rfl, ?_, .inl ⟨rfl, rfl, rfl⟩, fun g hg => ?_⟩
          · show GRow 5 1 _ _ (some go) (readL n off k).length (byC (readL n off k))
            rw [readL_len]
            refine .inr ⟨go, 0, k, _, rfl, rfl, (hat_setRow _ _ _ _ (by have := HGO.out; omega)).trans HO2.out, by simp [IV, readL_len], by simp [IV, readL_len], fun j hj => ?_⟩
            rw [Nat.zero_add, IV_get?]
            unfold byC
            rw [List.getD_eq_getElem?_getD, List.getElem?_eq_getElem (by rw [readL_len]; omega)]; rfl
          · rcases hg with hg | hg
            · cases hg; exact ⟨HGO.out.1, rfl⟩
            · cases hg
end Go.Proofs.YteffoihkljkfdaaDoor

/- write: the walk. -/
namespace Go.Proofs.YteffoihkljkfdaaDoor
set_option linter.unusedSimpArgs false
set_option linter.unusedVariables false
open Go.RowKit

def badW (off : Int) (data : List Int) : Prop := off < 0 ∨ 131072 < (data.length : Int) ∨ 136704 - (data.length : Int) < off
theorem write_e1 {S : PS} {i off : Int} {data : List Int} (h : badW off data) : S.write i off data = (S, 101) := by unfold PS.write; exact if_pos h
theorem write_e2 {S : PS} {i off : Int} {data : List Int} (h : ¬ badW off data) (h2 : S.free < ((S.nd i).wrote off data).count - (S.nd i).count) : S.write i off data = (S, 80) := by unfold PS.write; rw [if_neg (show ¬ (off < 0 ∨ 131072 < (data.length : Int) ∨ 136704 - (data.length : Int) < off) from h), if_pos h2]
theorem write_ok {S : PS} {i off : Int} {data : List Int} (h : ¬ badW off data) (h2 : ¬ S.free < ((S.nd i).wrote off data).count - (S.nd i).count) : S.write i off data = (S.put i (some ((S.nd i).wrote off data)), 0) := by unfold PS.write; rw [if_neg (show ¬ (off < 0 ∨ 131072 < (data.length : Int) ∨ 136704 - (data.length : Int) < off) from h), if_neg h2]
/-- so far written -/
def wroteK (n : Nd) (off : Int) (data : List Int) (k : Nat) : Nd := { n with data := (n.wrote off (data.take k)).data }
theorem wroteK_0 (n : Nd) (off : Int) (data : List Int) : wroteK n off data 0 = n := by
  unfold wroteK
  have e : (n.wrote off (data.take 0)).data = n.data := by
    funext x
    show (if touched off (data.take 0).length x = true then some (lay off (data.take 0) x ((n.data x).getD zero128)) else n.data x) = n.data x
    refine if_neg fun h => ?_
    rw [touched_iff] at h
    simp at h
  rw [e]
theorem wroteK_all (n : Nd) (off : Int) (data : List Int) : wroteK n off data data.length = { n.wrote off data with size := n.size } := by
  unfold wroteK
  rw [List.take_length]; rfl
theorem cnt_le {w : World} {b c : Nat} {m : Int → Option Value} (h : MG kInt w b m c) (hb : ∀ k, (m k).isSome = true → 0 ≤ k ∧ k < 1068) : c ≤ 1068 := by
  obtain ⟨l, h1, h2, h3⟩ := h.keys
  rw [← h2]
  have := nodup_le (l := l) (m := (List.range 1068).map fun (i : Nat) => (i : Int)) h1 (fun x hx => by
    obtain ⟨a, b⟩ := hb x ((h3 x).1 hx)
    exact List.mem_map.2 ⟨x.toNat, List.mem_range.2 (by omega), by omega⟩)
  simpa using this
theorem look_mg {w : World} {b c : Nat} {n : Nd} (h : MG kInt w b n.dataM c) (k : Int) (hk : i64ok k) : (Instr.lookup 71 (.map (some b)) (.int .i64 k) false).run Tryd.prog w = .ok (.agg (IV .u8 ((n.data k).getD zero128))) w := by
  have h1 := h.lookc (e := 101) Tryd.underlying71 (z := .agg (IV .u8 (zl 128))) (by show (Zv101).run Tryd.prog w = _; exact rz101 w) hk
  unfold Nd.dataM at h1
  cases hd : n.data k with
  | none => rw [hd] at h1; exact h1
  | some s => rw [hd] at h1; exact h1
theorem slice_rowG {g o N c k : Nat} (hk : k < N) (hc : N ≤ c) (w : World) : (Instr.slice 34 (.slice (some ⟨g, o, none⟩) N c) (some (.int .i64 k)) none none).run Tryd.prog w = .ok (.slice (some ⟨g, o + k, none⟩) (N - k) (c - k)) w := by
  obtain ⟨i, h2, h3, h4, h5⟩ := info_u8
  have hne : ¬ c = k := by omega
  have h0 : (0 : Int) ≤ (k : Int) := by omega
  have hle : (k : Int) ≤ (N : Int) := by omega
  have hadd : (⟨g, o, none⟩ : Addr).add k = ⟨g, o + k, none⟩ := add_none _ _ _
  simp [Instr.slice, run_underlying Tryd.underlying34, Instr.sliceBounds, Instr.sliceBound, asIntOf, hle, sizeOf, typeInfo, h2, h4, hne, hadd, show k ≤ N by omega]
/-- a sector, and a row of bytes beside it -/
def WbAt (w : World) (gs gd od : Nat) (data : List Int) : Prop := (∃ cur, hat w gs = some (.cells cur 101) ∧ cur.size = 128) ∧ ∃ cs T fr, hat w gd = some (.cells cs T fr) ∧ ∀ j x, data[j]? = some x → cs[od + j]? = some (.int .u8 x)
theorem wb_copy {w : World} {gs gd od : Nat} {data : List Int} (h : WbAt w gs gd od data) {k f m dc sc : Nat} (hk : k + m ≤ data.length) (hf : f + m ≤ 128) (hm : m = Nat.min (data.length - k) (128 - f)) (ty : TypeId) :
    (Builtin.copy_ #[34, 34] ty #[.slice (some ⟨gs, f, none⟩) (128 - f) dc, .slice (some ⟨gd, od + k, none⟩) (data.length - k) sc]).run Tryd.prog w = .ok (.int .i64 m) (w.setCells gs f (bytesV ((data.drop k).take m))) := by
  obtain ⟨⟨cur, h1, h2⟩, cs, T, fr, h3, h4⟩ := h
  have hl : (bytesV ((data.drop k).take m)).length = m := by unfold bytesV; rw [List.length_map, List.length_take, List.length_drop]; omega
  have := run_copy_cells (P := Tryd.prog) w 34 34 ty 5 gs f (128 - f) dc ⟨gd, od + k, none⟩ (data.length - k) sc (bytesV ((data.drop k).take m)) Tryd.underlying34 (by kernel_rfl) (by rw [hl]; exact hm) (fun j v hj => ?_) (fun j hj => ?_) (fun j hj => ?_) (fun v hv => ?_)
  · rw [this, hl]; rfl
  · rw [add_none, cell_hat h3]
    unfold bytesV at hj
    rw [List.getElem?_map, List.getElem?_take] at hj
    split at hj
    · rw [List.getElem?_drop] at hj
      cases hq : data[k + j]? with
      | none => rw [hq] at hj; cases hj
      | some x =>
        rw [hq] at hj
        rw [Nat.add_assoc, h4 (k + j) x hq]
        exact hj
    · cases hj
  · rw [hl] at hj
    rw [cell_hat h1, Array.getElem?_eq_getElem (by omega)]; rfl
  · exact frozen_hat h1 _
  · unfold bytesV at hv
    obtain ⟨x, -, rfl⟩ := List.mem_map.1 hv
    rfl
theorem wb_after {w : World} {gs gd od : Nat} {data : List Int} (h : WbAt w gs gd od data) (hne : gd ≠ gs) (f : Nat) (cs : List Value) : WbAt (w.setCells gs f cs) gs gd od data := by
  obtain ⟨⟨cur, h1, h2⟩, c2, T, fr, h3, h4⟩ := h
  obtain ⟨cs', a1, a2, -⟩ := hat_setCells gs 101 (0, 0) cs f w cur h1
  exact ⟨⟨cs', a1, a2.trans h2⟩, c2, T, fr, ((fr_setCells gs cs f w).block gd (hat_lt h3) (by simpa using hne)).trans h3, h4⟩
/-- bytes that can be read, frozen or not -/
def BRow (w : World) (v : Value) (ob : Option Nat) (l : List Int) : Prop :=
  ((∃ a c, v = .slice a 0 c) ∧ ob = none ∧ l = []) ∨ ∃ g off c cs T fr, v = .slice (some ⟨g, off, none⟩) l.length c ∧ ob = some g ∧ hat w g = some (.cells cs T fr) ∧ ∀ j x, l[j]? = some x → cs[off + j]? = some (.int .u8 x)
theorem BRow.slice {w : World} {v : Value} {ob : Option Nat} {l : List Int} (h : BRow w v ob l) : ∃ a c, v = .slice a l.length c := by
  rcases h with ⟨⟨a, c, rfl⟩, -, rfl⟩ | ⟨g, off, c, cs, T, fr, rfl, -⟩
  · exact ⟨a, c, rfl⟩
  · exact ⟨_, _, rfl⟩
theorem BRow.lt {w : World} {v : Value} {ob : Option Nat} {l : List Int} (h : BRow w v ob l) : ∀ g, ob = some g → g < w.heap.size := by
  rintro g rfl
  rcases h with ⟨-, h, -⟩ | ⟨g', off, c, cs, T, fr, -, h, h2, -⟩
  · cases h
  · cases h; exact hat_lt h2
theorem BRow.fr {w w' : World} {v : Value} {ob : Option Nat} {l : List Int} {ex : List Nat} (h : BRow w v ob l) (hf : Fr ex w w') (hn : ∀ g, ob = some g → g ∉ ex) : BRow w' v ob l := by
  rcases h with h | ⟨g, off, c, cs, T, fr, h1, h2, h3, h4⟩
  · exact .inl h
  · exact .inr ⟨g, off, c, cs, T, fr, h1, h2, (hf.block _ (hat_lt h3) (hn g h2)).trans h3, h4⟩
theorem GRow.brow {w : World} {v : Value} {ob : Option Nat} {l : List Int} (h : GRow 5 1 w v ob l.length (byC l)) : BRow w v ob l := by
  rcases h with ⟨h1, h2, h3⟩ | ⟨g, off, c, cs, h1, h2, h3, h4, h5, h6⟩
  · exact .inl ⟨⟨_, _, h1⟩, h2, List.eq_nil_of_length_eq_zero h3⟩
  · refine .inr ⟨g, off, c, cs, _, _, h1, h2, h3, fun j x hj => ?_⟩
    have hjl := (List.getElem?_eq_some_iff.1 hj).1
    rw [h6 j (by omega)]
    unfold byC
    rw [List.getD_eq_getElem?_getD, hj]; rfl
set_option maxHeartbeats 16000000 in
set_option maxRecDepth 100000 in
theorem write_any {w : World} {gp bn c : Nat} {S : PS} {A : Int → NA} {own : Nat → Option (Int × Nat)} (h : PW w gp bn c S A own) {i : Int} (hi : (S.nodes i).isSome = true) (hk1 : (S.nd i).kind = 1) {off : Int} {data : List Int} {dv : Value} {od : Option Nat} (hdv : BRow w dv od data) (hcap : ∀ a l c, dv = .slice a l c → l ≤ c) (hd : ∀ b ∈ data, 0 ≤ b ∧ b < 256) (hdl : data.length ≤ 140737488355328) :
    Calls Tryd.prog 72 #[.pointer (some ⟨gp, 0, none⟩), .pointer (some ⟨(A i).g, 0, none⟩), .int .i64 off, dv] w fun e w' => ∃ own', e = .returned (.int .i64 (S.write i off data).2) ∧ Mvd w w' gp bn own (S.write i off data).1 own' := by
  have H := Lib.hid h
  have hn := PS.nd_get hi
  have HD := Lib.hid hdv
  obtain ⟨da, dc, rfl⟩ := hdv.slice
  have hLc := hcap _ _ _ rfl
  clear hdv hcap h
  obtain ⟨L, hL⟩ : ∃ x, x = data.length := ⟨_, rfl⟩
  rw [← hL]
  have HLL := Lib.hid hL
  have hL64 : (L : Int) ≤ 140737488355328 := by omega
  have hL0 : (0 : Int) ≤ (L : Int) := by omega
  rw [← hL] at hLc
  by_cases hbad : badW off data
  · have HQ := Lib.hid (write_e1 (S := S) (i := i) hbad)
    unfold badW at hbad
    rw [← hL] at hbad
    clear hL
    by_cases h1 : off < 0
    · clear hbad
      go_enter Tryd.func72, Tryd.ntmps72
      go_wp2_with fail
      go_ret
      first
        | exact ⟨by rw [HQ.out]; rfl, own, by rw [HQ.out]; exact H.out.stay (Below.refl _ _)⟩
        | exact ⟨own, by rw [HQ.out]; rfl, by rw [HQ.out]; exact H.out.stay (Below.refl _ _)⟩
    · by_cases h2 : 131072 < (L : Int)
      · clear hbad
        go_enter Tryd.func72, Tryd.ntmps72
        go_wp2_with fail
        go_ret
        first
        | exact ⟨by rw [HQ.out]; rfl, own, by rw [HQ.out]; exact H.out.stay (Below.refl _ _)⟩
        | exact ⟨own, by rw [HQ.out]; rfl, by rw [HQ.out]; exact H.out.stay (Below.refl _ _)⟩
      · have h3 : 136704 - (L : Int) < off := by omega
        clear hbad
        go_enter Tryd.func72, Tryd.ntmps72
        go_wp2_with fail
        go_ret
        first
        | exact ⟨by rw [HQ.out]; rfl, own, by rw [HQ.out]; exact H.out.stay (Below.refl _ _)⟩
        | exact ⟨own, by rw [HQ.out]; rfl, by rw [HQ.out]; exact H.out.stay (Below.refl _ _)⟩
  · have HB := Lib.hid hbad
    unfold badW at hbad
    rw [← hL] at hbad
    have h1 : ¬ off < 0 := by omega
    have h2 : ¬ 131072 < (L : Int) := by omega
    have h3 : ¬ 136704 - (L : Int) < off := by omega
    have hnn := H.out.t.n i _ hn
    have hh := hnn.h
    have hhl := hat_lt hh
    obtain ⟨sa, sc, hsv⟩ := hnn.s.slice
    rw [hnn.d.map, hnn.m.map, hsv] at hh
    have HEV := Lib.hid (show (A i).dv = .map (A i).db ∧ (A i).nv = .map (A i).nb ∧ (A i).sv = .slice sa (S.nd i).slots.length sc from ⟨hnn.d.map, hnn.m.map, hsv⟩)
    rw [hk1] at hh
    have hone : oneAll #[.int .i64 1, .int .i64 (S.nd i).links, .int .i64 (S.nd i).size, .int .i64 (S.nd i).made, .map (A i).db, .slice sa (S.nd i).slots.length sc, .map (A i).nb] = true := by simp [oneAll, Value.oneCell']
    clear hbad hL hsv
    go_enter Tryd.func72, Tryd.ntmps72
    go_upto_region 4 with fail
    obtain ⟨kd, hkd⟩ : ∃ x, x = (S.nd i).kind := ⟨_, rfl⟩
    obtain ⟨w1, hw1⟩ : ∃ x, x = w.alloc (.cells #[.int .i64 1, .int .i64 (S.nd i).links, .int .i64 (S.nd i).size, .int .i64 (S.nd i).made, .map (A i).db, .slice sa (S.nd i).slots.length sc, .map (A i).nb] 74) := ⟨_, rfl⟩
    obtain ⟨gx, hgx⟩ : ∃ x, x = w.heap.size := ⟨_, rfl⟩
    have hf1 : Fr [] w w1 := by rw [hw1]; exact fr_new _ _ _
    have hx1 : hat w1 gx = some (.cells #[.int .i64 1, .int .i64 (S.nd i).links, .int .i64 (S.nd i).size, .int .i64 (S.nd i).made, .map (A i).db, .slice sa (S.nd i).slots.length sc, .map (A i).nb] 74) := by rw [hw1, hgx]; exact (hopN w _).1
    rw [← hw1, ← hgx]
    have HGX := Lib.hid hgx
    have hh1 := (hf1.block _ hhl (by simp)).trans hh
    have hhl1 := hat_lt hh1
    have hxl1 := hat_lt hx1
    have HX1 := Lib.hid hx1
    have HF1 := Lib.hid hf1
    have HMO := Lib.hid (show MO kInt w1 (.map (A i).db) (A i).db (S.nd i).dataM (A i).dc by rw [← HEV.out.1]; exact hnn.d.fr hf1 (by simp))
    have HNN := Lib.hid hnn
    have HHH := Lib.hid hh
    have HDB := Lib.hid ((H.out.h i _ hn).2 hk1)
    clear hw1 hgx hf1 hnn hkd hh hhl
    go_wp2_with fail
    refine (cloneD_any HMO.out).mono ?_; rintro e w2 ⟨v2, ob2, rfl, hm2, hge2, his2, hb2⟩
    obtain ⟨bx, hbx⟩ := Option.isSome_iff_exists.1 (his2 HDB.out)
    subst hbx
    have hv2 := hm2.map
    subst hv2
    have HMG2 := Lib.hid (show MG kInt w2 bx (S.nd i).dataM (A i).dc by
      rcases hm2 with ⟨h4, -⟩ | ⟨b, -, h4, h5⟩
      · cases h4
      · cases h4; exact h5)
    have HBX := Lib.hid (show gx < bx from by have h4 := hge2 bx rfl; omega)
    have hx2 := (hop hb2 hx1).1
    have hxl2 := hat_lt hx2
    have HF2 := Lib.hid (HF1.out.trans (fr_below hb2 []))
    clear hm2 hge2 his2 hb2 hx1 hh1 hhl1 hxl1 HX1 HMO
    go_upto_region 5 with fail
    have hx3 : hat (w2.setCell ⟨gx, 4, none⟩ (.map (some bx))) gx = some (.cells #[.int .i64 1, .int .i64 (S.nd i).links, .int .i64 (S.nd i).size, .int .i64 (S.nd i).made, .map (some bx), .slice sa (S.nd i).slots.length sc, .map (A i).nb] 74) := hat_setCell_at _ _ _ _ _ _ _ hx2
    have hf3 := fr_setCell w2 gx 4 (.map (some bx))
    generalize w2.setCell ⟨gx, 4, none⟩ (.map (some bx)) = w3 at *
    have HX3 := Lib.hid hx3
    have HM3 := Lib.hid (show MG kInt w3 bx (wroteK (S.nd i) off data 0).dataM (A i).dc by rw [wroteK_0]; exact HMG2.out.fr hf3 (by have := HBX.out; simp; omega))
    have HF3 := Lib.hid (((HF2.out.mono (ex' := [gx]) (by simp)).trans hf3).past (ex' := []) (fun b hb => .inr (by have := HGX.out; simp at hb; omega)))
    clear hx3 hf3 hx2 hxl2 HMG2 HF2
    go_wp2_with fail
    go_loopw [10] (fun v wr => ∃ (k c' : Nat), v = .int .i64 k ∧ k ≤ L ∧ Hid (hat wr gx = some (.cells #[.int .i64 1, .int .i64 (S.nd i).links, .int .i64 (S.nd i).size, .int .i64 (S.nd i).made, .map (some bx), .slice sa (S.nd i).slots.length sc, .map (A i).nb] 74)) ∧ Hid (MG kInt wr bx (wroteK (S.nd i) off data k).dataM c') ∧ Hid (Fr [] w wr)) (fun v _ => L - (intOf v).toNat)
    case atStart => exact ⟨0, _, rfl, by omega, HX3, HM3, HF3⟩
    case round =>
      obtain ⟨k, c', rfl, hkL, HX, HM, HF⟩ := hrel
      clear HX3 HM3 HF3
      have hk0 : (0 : Int) ≤ (k : Int) := by omega
      have hoff : 0 ≤ off := by omega
      have hsum : off + (L : Int) ≤ 136704 := by omega
      by_cases hlt : k < L
      · have hk1' : (k : Int) < (L : Int) := by omega
        have hwt := wrote_wf (S := S) (n := S.nd i) (off := off) (data := data.take k) (H.out.f.n i _ hn) (H.out.o.n i _ hn) hk1 hoff (by have := HLL.out; rw [List.length_take]; omega) (fun b hb => hd b (List.mem_of_mem_take hb))
        have hlk := look_mg HM.out ((off + k) / 128) ⟨by omega, by omega⟩
        obtain ⟨s, hs⟩ : ∃ x, x = ((wroteK (S.nd i) off data k).data ((off + k) / 128)).getD zero128 := ⟨_, rfl⟩
        have hsl : s.length = 128 := by
          rw [hs]
          cases hq : (wroteK (S.nd i) off data k).data ((off + k) / 128) with
          | none => simp [zero128]
          | some s => exact hwt.2.dl _ s hq
        rw [← hs] at hlk
        have HS := Lib.hid hs
        have HWT := Lib.hid hwt
        have hx := HX.out
        have hxl := hat_lt hx
        clear hs hwt
        obtain ⟨gd, od', rfl, hcells⟩ : ∃ gd od', da = some ⟨gd, od', none⟩ ∧ ∃ cs T fr, hat w gd = some (.cells cs T fr) ∧ ∀ j x, data[j]? = some x → cs[od' + j]? = some (.int .u8 x) := by
          rcases HD.out with ⟨-, -, h0⟩ | ⟨g, off', c, cs, T, fr, e, h2, h3, h4⟩
          · have := HLL.out; rw [h0] at this; simp at this; omega
          · injection e with e1 e2 e3
            exact ⟨g, off', e1, cs, T, fr, h3, h4⟩
        have HCE := Lib.hid hcells
        clear hcells
        go_upto_region 9 with fail
        obtain ⟨f, hf⟩ : ∃ f : Nat, (f : Int) = (off + k) % 128 := ⟨((off + k) % 128).toNat, by omega⟩
        rw [← hf]
        have hf128 : f < 128 := by omega
        have HFE := Lib.hid hf
        obtain ⟨m, hm⟩ : ∃ m, m = Nat.min (data.length - k) (128 - f) := ⟨_, rfl⟩
        have hmb : m ≤ 128 - f ∧ m ≤ L - k ∧ 0 < m ∧ (f + m = 128 ∨ k + m = L) := by
          have h4 : m = min (data.length - k) (128 - f) := hm
          have := HLL.out
          omega
        obtain ⟨w2', hw2⟩ : ∃ x, x = wr.alloc (.cells (IV .u8 s) 101) := ⟨_, rfl⟩
        obtain ⟨gs, hgs⟩ : ∃ x, x = wr.heap.size := ⟨_, rfl⟩
        have hfr2 : Fr [] wr w2' := by rw [hw2]; exact fr_new _ _ _
        have hgdl : gd < w.heap.size := by obtain ⟨cs, T, fr, h4, -⟩ := HCE.out; exact hat_lt h4
        have hne : gd ≠ gs := by have := HF.out.size; omega
        have hs0 : hat w2' gs = some (.cells (IV .u8 s) 101) := by rw [hw2, hgs]; exact (hopN wr _).1
        have HRB := Lib.hid (show WbAt w2'.drew gs gd od' data from ⟨⟨_, hs0, by simp [IV]; simpa using hsl⟩, by
          obtain ⟨cs, T, fr, h4, h5⟩ := HCE.out
          exact ⟨cs, T, fr, ((HF.out.trans hfr2).block _ hgdl (by simp)).trans h4, h5⟩⟩)
        have HF2 := Lib.hid hfr2
        have HS0 := Lib.hid (show hat w2'.drew gs = some (.cells (IV .u8 s) 101) from hs0)
        have HGS := Lib.hid (show w.heap.size ≤ gs ∧ gd ≠ gs ∧ gx < gs ∧ bx < gs ∧ gd < w.heap.size from ⟨by rw [hgs]; exact HF.out.size, hne, by rw [hgs]; exact hxl, by rw [hgs]; exact HM.out.lt, hgdl⟩)
        rw [← hw2, ← hgs]
        have hcp : (Builtin.copy_ #[34, 34] 3 #[.slice (some ⟨gs, f, none⟩) (128 - f) (128 - f), .slice (some ⟨gd, od' + k, none⟩) (L - k) (dc - k)]).run Tryd.prog w2'.drew = .ok (.int .i64 m) (w2'.drew.setCells gs f (bytesV ((data.drop k).take m))) := by rw [HLL.out]; exact wb_copy HRB.out (by have := HLL.out; omega) (by omega) hm 3
        have hs1 := fun w => slice_rowG (g := gd) (o := od') hlt hLc w
        have hs2 := fun w => slice_sec (g := gs) hf128 w
        have hmi : (m : Int) ≤ 128 ∧ 0 < (m : Int) := by omega
        obtain ⟨hmi1, hmi2⟩ := hmi
        have hwk : IntKind.i64.wrap ((k : Int) + (m : Int)) = (k : Int) + m := IntWalk.i64_in _ ⟨by omega, by omega⟩
        have HM' := Lib.hid hm
        have HMB := Lib.hid hmb
        clear hf hm hmb hw2 hgs hne hfr2 hlk hs0 hgdl hx hxl
        go_region_held3 (fun w' => (Builtin.copy_ #[34, 34] 3 #[.slice (some ⟨gs, f, none⟩) (128 - f) (128 - f), .slice (some ⟨gd, od' + k, none⟩) (L - k) (dc - k)]).run Tryd.prog w' = .ok (.int .i64 m) (w'.setCells gs f (bytesV ((data.drop k).take m))))
          (first | assumption | (rw [HLL.out]; exact wb_copy (wb_after HRB.out HGS.out.2.1 _ _) (by have := HMB.out; have := HLL.out; omega) (by have := HMB.out; omega) HM'.out 3) | fail) (first | fail | fail)
        have hstp := wrote_step (n := S.nd i) (H.out.o.n i _ hn) (off := off) (data := data) (a := k) (m := m) hoff (by have := HMB.out; have := HLL.out; omega) (by have := HMB.out; omega) (k := (off + k) / 128) (f := f) rfl HFE.out (by have := HMB.out; omega) (by have := HMB.out; have := HLL.out; omega)
        have hB : (((S.nd i).wrote off (data.take k)).data ((off + k) / 128)).getD zero128 = s := HS.out.symm
        rw [hB] at hstp
        have hcl : ((data.drop k).take m).length = m := by rw [List.length_take, List.length_drop]; have := HMB.out; have := HLL.out; omega
        have hS3 := set_bytes (k := f) (c := (data.drop k).take m) HS0.out (by rw [hcl, hsl]; have := HMB.out; omega)
        rw [hcl, ← List.append_assoc] at hS3
        obtain ⟨s', hs'⟩ : ∃ x, x = s.take f ++ (data.drop k).take m ++ s.drop (f + m) := ⟨_, rfl⟩
        rw [← hs'] at hS3 hstp
        have hs'l : s'.length = 128 := by rw [hs', List.length_append, List.length_append, List.length_take, List.length_drop, hcl, hsl]; have := HMB.out; omega
        have hf3 : Fr [gs] wr (w2'.drew.setCells gs f (bytesV ((data.drop k).take m))) := ((fr_drew HF2.out).mono (by simp)).trans (fr_setCells gs _ _ _)
        generalize w2'.drew.setCells gs f (bytesV ((data.drop k).take m)) = w3' at *
        have hx3 := (hf3.block _ (hat_lt HX.out) (by have := HGS.out; simp; omega)).trans HX.out
        have hm3 := HM.out.fr hf3 (by have := HGS.out; simp; omega)
        have hc4 := cnt_le HM.out (fun x hx => by
          refine HWT.out.2.dk x ?_
          unfold Nd.dataM at hx
          cases hq : (wroteK (S.nd i) off data k).data x with
          | none => rw [hq] at hx; cases hx
          | some y =>
            have hq' : ((S.nd i).wrote off (data.take k)).data x = some y := hq
            rw [hq']; rfl)
        obtain ⟨w4, hr4, hm4, ht4⟩ := hm3.put (t := 71) (e := 101) Tryd.underlying71 (by unfold maxLen; omega) (x := (off + k) / 128) (show i64ok _ from ⟨by omega, by omega⟩) (.agg (IV .u8 s'))
        have hr4 : (Instr.mapUpdate 71 (.map (some bx)) (.int .i64 ((off + k) / 128)) (.agg (IV .u8 s'))).run Tryd.prog w3' = .ok () w4 := hr4
        have hf4 := fr_turned ht4
        have e4 : (fun y => if y = (off + k) / 128 then some (Value.agg (IV .u8 s')) else (wroteK (S.nd i) off data k).dataM y) = (wroteK (S.nd i) off data (k + m)).dataM := by
          funext y
          show _ = (((S.nd i).wrote off (data.take (k + m))).data y).map _
          rw [hstp]
          show _ = (if y = (off + k) / 128 then some s' else ((S.nd i).wrote off (data.take k)).data y).map _
          by_cases hy : y = (off + k) / 128
          · rw [if_pos hy, if_pos hy]; rfl
          · rw [if_neg hy, if_neg hy]; rfl
        rw [e4] at hm4
        have HM4 := Lib.hid hm4
        have HX4 := Lib.hid ((hf4.block _ (hat_lt hx3) (by have := HBX.out; simp; omega)).trans hx3)
        have HF4 := Lib.hid (((HF.out.mono (ex' := [gs, bx]) (by simp)).trans ((hf3.mono (by simp)).trans (hf4.mono (by simp)))).past (ex' := []) (fun b hb => .inr (by have h4 := HGS.out; have h5 := HBX.out; have h6 := HGX.out; simp at hb; omega)))
        have HK := Lib.hid (show k + m ≤ L ∧ 0 < m from by have := HMB.out; omega)
        have hxl3 := hat_lt hx3
        have hsl3 := hat_lt hS3
        clear hm4 ht4 hf4 hf3 hm3 e4 hstp hs' hcl
        go_wp2_with fail
        go_roundw
        case rel => exact ⟨k + m, _, by go_num, HK.out.1, HX4, HM4, HF4⟩
        case measure => (show L - (k + m) < L - k); have := HK.out; omega
      · obtain rfl : k = L := by omega
        have hwt := wrote_wf (S := S) (n := S.nd i) (off := off) (data := data) (H.out.f.n i _ hn) (H.out.o.n i _ hn) hk1 hoff (by have := HLL.out; omega) hd
        have hnx : NodeAt wr { A i with g := gx, db := some bx, dv := .map (some bx), dc := c' } { (S.nd i).wrote off data with size := (S.nd i).size } := by
          refine ⟨?_, .inr ⟨bx, rfl, rfl, ?_⟩, (HNN.out.fr HF.out (by simp) (by simp) (by simp) (by simp)).s, (HNN.out.fr HF.out (by simp) (by simp) (by simp) (by simp)).m⟩
          · show hat wr gx = some (.cells #[.int .i64 (S.nd i).kind, .int .i64 (S.nd i).links, .int .i64 (S.nd i).size, .int .i64 (S.nd i).made, .map (some bx), (A i).sv, (A i).nv] 74)
            rw [hk1, HEV.out.2.1, HEV.out.2.2]
            exact HX.out
          · have h4 := HM.out
            rw [HLL.out, wroteK_all] at h4
            exact h4
        have HNX := Lib.hid hnx
        have HOX : Hid (NOk { (S.nd i).wrote off data with size := (S.nd i).size }) := Lib.hid ⟨hwt.2.dk, hwt.2.dl, hwt.2.sl⟩
        have HPT := Lib.hid (H.out.t.fr HF.out (by simp))
        have HNI := Lib.hid (HNN.out.fr HF.out (by simp) (by simp) (by simp) (by simp))
        have hct : ({ (S.nd i).wrote off data with size := (S.nd i).size } : Nd).count = ((S.nd i).wrote off data).count := rfl
        clear hwt hnx
        go_wp2_with fail
        refine (fits_any HPT.out H.out.o HNI.out (H.out.o.n i _ hn) HNX.out HOX.out).mono ?_; rintro e w5 ⟨rfl, hb5⟩
        rw [hct]
        have HF5 := Lib.hid (HF.out.trans (fr_below hb5 []))
        have hx5 := (hop hb5 HX.out).1
        have hm5 := (HM.out.fr (fr_below hb5 []) (by simp))
        rw [HLL.out, wroteK_all] at hm5
        have hm5' : MG kInt w5 bx ((S.nd i).wrote off data).dataM c' := hm5
        have HM5 := Lib.hid hm5'
        have hg5 := (HF5.out.block _ HNN.out.lts.1 (by simp)).trans HHH.out
        have hg5l := hat_lt hg5
        have hx5l := hat_lt hx5
        clear hm5 hm5' hb5 hct HPT HNI HNX HOX HM
        cases hft : decide (((S.nd i).wrote off data).count - (S.nd i).count ≤ S.free)
        · have HQ := Lib.hid (write_e2 (S := S) (i := i) HB.out (by have := of_decide_eq_false hft; omega))
          clear hft
          go_wp2_with fail
          go_ret
          rw [HQ.out]
          first
            | exact ⟨rfl, own, H.out.stay HF5.out.bl⟩
            | exact ⟨own, rfl, H.out.stay HF5.out.bl⟩
        · have HQ := Lib.hid (write_ok (S := S) (i := i) HB.out (by have := of_decide_eq_true hft; omega))
          have hsw := write_wf (S := S) (i := i) (off := off) (data := data) H.out.o H.out.f hi hk1 hd
          rw [HQ.out] at hsw
          have HSW := Lib.hid hsw
          clear hft hsw
          by_cases hL1 : 0 < k
          · have hL1i : 0 < (k : Int) := by omega
            obtain ⟨sz, hsz⟩ : ∃ x, x = max (S.nd i).size (off + k) := ⟨_, rfl⟩
            have HSZ := Lib.hid (show ((S.nd i).wrote off data).size = sz from by
              show (if data = [] then (S.nd i).size else max (S.nd i).size (off + data.length)) = sz
              rw [if_neg (by intro h4; have := HLL.out; rw [h4] at this; simp at this; omega), hsz, HLL.out])
            go_upto_region 15 with fail
            rw [← hsz]
            have hx6 : hat (w5.setCell ⟨gx, 2, none⟩ (.int .i64 sz)) gx = some (.cells #[.int .i64 1, .int .i64 (S.nd i).links, .int .i64 sz, .int .i64 (S.nd i).made, .map (some bx), .slice sa (S.nd i).slots.length sc, .map (A i).nb] 74) := hat_setCell_at _ _ _ _ _ _ _ hx5
            have hf6 : Fr [] w (w5.setCell ⟨gx, 2, none⟩ (.int .i64 sz)) := ((HF5.out.mono (ex' := [gx]) (by simp)).trans (fr_setCell _ _ _ _)).past (fun b hb => .inr (by have h5 := HGX.out; simp at hb; omega))
            have hg6 := (hf6.block _ HNN.out.lts.1 (by simp)).trans HHH.out
            have hm6 : MG kInt (w5.setCell ⟨gx, 2, none⟩ (.int .i64 sz)) bx ((S.nd i).wrote off data).dataM c' := HM5.out.fr (fr_setCell _ _ _ _) (by have := HBX.out; simp; omega)
            generalize w5.setCell ⟨gx, 2, none⟩ (.int .i64 sz) = w6 at *
            clear hx5 hg5 hx5l hg5l hsz
            have hx6l := hat_lt hx6
            have hg6l := hat_lt hg6
            have HX6 := Lib.hid hx6
            have HF6' := Lib.hid hf6
            have hone6 : oneAll #[.int .i64 1, .int .i64 (S.nd i).links, .int .i64 sz, .int .i64 (S.nd i).made, .map (some bx), .slice sa (S.nd i).slots.length sc, .map (A i).nb] = true := by simp [oneAll, Value.oneCell']
            have HM6 := Lib.hid hm6
            have HG6 := Lib.hid (hat_setRow_at w6 (A i).g #[.int .i64 1, .int .i64 (S.nd i).links, .int .i64 sz, .int .i64 (S.nd i).made, .map (some bx), .slice sa (S.nd i).slots.length sc, .map (A i).nb] _ _ _ hg6)
            clear hm6 hf6
            go_wp2_with fail
            go_ret
            have hfF : Fr [(A i).g] w (w6.setRow (A i).g #[.int .i64 1, .int .i64 (S.nd i).links, .int .i64 sz, .int .i64 (S.nd i).made, .map (some bx), .slice sa (S.nd i).slots.length sc, .map (A i).nb]) := (HF6'.out.mono (by simp)).trans (fr_setRow _ _ _)
            have hgi := (HNN.out.lts).1
            have hgb : bx ≠ (A i).g := by have h4 := HBX.out; have h5 := HGX.out; omega
            have hap := H.out.t.apart hn
            obtain ⟨own', hpw, ho, -, hun⟩ := upd_pw (w6 := w6.setRow (A i).g #[.int .i64 1, .int .i64 (S.nd i).links, .int .i64 sz, .int .i64 (S.nd i).made, .map (some bx), .slice sa (S.nd i).slots.length sc, .map (A i).nb]) H.out (i := i) (n := S.nd i) (n' := (S.nd i).wrote off data) (a' := { A i with db := some bx, dv := .map (some bx), dc := c' }) (ex := [(A i).g]) hn HSW.out hfF
              (fun b hb _ => ⟨(i, 0), by rw [show b = (A i).g by simpa using hb]; exact (H.out.t.og i _ hn).1, rfl⟩)
              ⟨by
                show hat _ (A i).g = some (.cells #[.int .i64 (S.nd i).kind, .int .i64 (S.nd i).links, .int .i64 ((S.nd i).wrote off data).size, .int .i64 (S.nd i).made, .map (some bx), (A i).sv, (A i).nv] 74)
                rw [HSZ.out, hk1, HEV.out.2.1, HEV.out.2.2]
                exact HG6.out, .inr ⟨bx, rfl, rfl, HM6.out.fr (fr_setRow _ _ _) (by simp; exact hgb)⟩, HNN.out.s.fr hfF (fun b hb => by simp; exact (hap.2.1 b hb).1), HNN.out.m.fr hfF (fun b hb => by simp; exact hap.1 b hb)⟩
              rfl (fun b hb => .inr (by cases hb; have h4 := HBX.out; have h5 := HGX.out; omega)) (fun b hb => .inl hb) (fun b hb => .inl hb)
              (fun b hb => ⟨fun _ => ⟨fun h4 => by have := HNN.out.lts.2.2.1 b h4; omega, fun h4 => by have := HNN.out.lts.2.2.2 b h4; omega⟩, fun h4 => by have := HNN.out.lts.2.2.1 b h4; omega⟩)
              ⟨fun h4 => absurd h4 (by show ¬ (S.nd i).kind = 2; rw [hk1]; decide), fun _ => rfl⟩
            obtain ⟨A', hpw⟩ := hpw
            rw [HQ.out]
            first
              | exact ⟨rfl, own', ⟨_, A', hpw⟩, hun, ho⟩
              | exact ⟨own', rfl, ⟨_, A', hpw⟩, hun, ho⟩
          · obtain rfl : k = 0 := by omega
            obtain ⟨sz, hsz⟩ : ∃ x, x = (S.nd i).size := ⟨_, rfl⟩
            have HSZ := Lib.hid (show ((S.nd i).wrote off data).size = sz from by
              show (if data = [] then (S.nd i).size else max (S.nd i).size (off + data.length)) = sz
              rw [if_pos (List.eq_nil_of_length_eq_zero HLL.out.symm), hsz])
            have hx6 := hx5
            rw [← hsz] at hx6
            have hg6 := hg5
            have hm6 := HM5.out
            have hf6 := HF5.out
            go_upto_region 15 with fail
            generalize w5 = w6 at *
            clear hx5 hg5 hx5l hg5l hsz
            have hx6l := hat_lt hx6
            have hg6l := hat_lt hg6
            have HX6 := Lib.hid hx6
            have HF6' := Lib.hid hf6
            have hone6 : oneAll #[.int .i64 1, .int .i64 (S.nd i).links, .int .i64 sz, .int .i64 (S.nd i).made, .map (some bx), .slice sa (S.nd i).slots.length sc, .map (A i).nb] = true := by simp [oneAll, Value.oneCell']
            have HM6 := Lib.hid hm6
            have HG6 := Lib.hid (hat_setRow_at w6 (A i).g #[.int .i64 1, .int .i64 (S.nd i).links, .int .i64 sz, .int .i64 (S.nd i).made, .map (some bx), .slice sa (S.nd i).slots.length sc, .map (A i).nb] _ _ _ hg6)
            clear hm6 hf6
            go_wp2_with fail
            go_ret
            have hfF : Fr [(A i).g] w (w6.setRow (A i).g #[.int .i64 1, .int .i64 (S.nd i).links, .int .i64 sz, .int .i64 (S.nd i).made, .map (some bx), .slice sa (S.nd i).slots.length sc, .map (A i).nb]) := (HF6'.out.mono (by simp)).trans (fr_setRow _ _ _)
            have hgi := (HNN.out.lts).1
            have hgb : bx ≠ (A i).g := by have h4 := HBX.out; have h5 := HGX.out; omega
            have hap := H.out.t.apart hn
            obtain ⟨own', hpw, ho, -, hun⟩ := upd_pw (w6 := w6.setRow (A i).g #[.int .i64 1, .int .i64 (S.nd i).links, .int .i64 sz, .int .i64 (S.nd i).made, .map (some bx), .slice sa (S.nd i).slots.length sc, .map (A i).nb]) H.out (i := i) (n := S.nd i) (n' := (S.nd i).wrote off data) (a' := { A i with db := some bx, dv := .map (some bx), dc := c' }) (ex := [(A i).g]) hn HSW.out hfF
              (fun b hb _ => ⟨(i, 0), by rw [show b = (A i).g by simpa using hb]; exact (H.out.t.og i _ hn).1, rfl⟩)
              ⟨by
                show hat _ (A i).g = some (.cells #[.int .i64 (S.nd i).kind, .int .i64 (S.nd i).links, .int .i64 ((S.nd i).wrote off data).size, .int .i64 (S.nd i).made, .map (some bx), (A i).sv, (A i).nv] 74)
                rw [HSZ.out, hk1, HEV.out.2.1, HEV.out.2.2]
                exact HG6.out, .inr ⟨bx, rfl, rfl, HM6.out.fr (fr_setRow _ _ _) (by simp; exact hgb)⟩, HNN.out.s.fr hfF (fun b hb => by simp; exact (hap.2.1 b hb).1), HNN.out.m.fr hfF (fun b hb => by simp; exact hap.1 b hb)⟩
              rfl (fun b hb => .inr (by cases hb; have h4 := HBX.out; have h5 := HGX.out; omega)) (fun b hb => .inl hb) (fun b hb => .inl hb)
              (fun b hb => ⟨fun _ => ⟨fun h4 => by have := HNN.out.lts.2.2.1 b h4; omega, fun h4 => by have := HNN.out.lts.2.2.2 b h4; omega⟩, fun h4 => by have := HNN.out.lts.2.2.1 b h4; omega⟩)
              ⟨fun h4 => absurd h4 (by show ¬ (S.nd i).kind = 2; rw [hk1]; decide), fun _ => rfl⟩
            obtain ⟨A', hpw⟩ := hpw
            rw [HQ.out]
            first
              | exact ⟨rfl, own', ⟨_, A', hpw⟩, hun, ho⟩
              | exact ⟨own', rfl, ⟨_, A', hpw⟩, hun, ho⟩
end Go.Proofs.YteffoihkljkfdaaDoor

/- make: the walk. -/
namespace Go.Proofs.YteffoihkljkfdaaDoor
set_option linter.unusedSimpArgs false
set_option linter.unusedVariables false
open Go.RowKit

theorem make_e1 {S : PS} {l : List ByteArray} {k m : Int} (h : (S.last l).e ≠ 0) : S.make l k m = (S, .err (S.last l).e) := by unfold PS.make; rw [if_pos h]
theorem make_e2 {S : PS} {l : List ByteArray} {k m : Int} (h : (S.last l).e = 0) (h2 : ((S.nd (S.last l).d).names (S.last l).name).isSome = true) : S.make l k m = (S, .err 111) := by unfold PS.make; rw [if_neg (by simp [h]), if_pos h2]
theorem make_e3 {S : PS} {l : List ByteArray} {k m : Int} (h : (S.last l).e = 0) (h2 : (S.nd (S.last l).d).names (S.last l).name = none) (h3 : S.freeI = 0) : S.make l k m = (S, .err 81) := by unfold PS.make; rw [if_neg (by simp [h]), if_neg (by simp [h2]), if_pos h3]
theorem make_e4 {S : PS} {l : List ByteArray} {k m : Int} (h : (S.last l).e = 0) (h2 : (S.nd (S.last l).d).names (S.last l).name = none) (h3 : S.freeI ≠ 0) (h4 : (S.place (S.nd (S.last l).d)).2 ≠ 0) : S.make l k m = (S, .err (S.place (S.nd (S.last l).d)).2) := by unfold PS.make; rw [if_neg (by simp [h]), if_neg (by simp [h2]), if_neg h3, if_pos h4]
theorem make_ok {S : PS} {l : List ByteArray} {k m : Int} (h : (S.last l).e = 0) (h2 : (S.nd (S.last l).d).names (S.last l).name = none) (h3 : S.freeI ≠ 0) (h4 : (S.place (S.nd (S.last l).d)).2 = 0) :
    S.make l k m = (S.made (S.last l).d S.freeI (S.place (S.nd (S.last l).d)).1 k m (S.last l).name, ⟨0, (S.made (S.last l).d S.freeI (S.place (S.nd (S.last l).d)).1 k m (S.last l).name).stat S.freeI, [], []⟩) := by
  unfold PS.make
  rw [if_neg (by simp [h]), if_neg (by simp [h2]), if_neg h3, if_neg (by simp [h4])]
  rfl
theorem place_code (S : PS) (d : Nd) : (S.place d).2 = 0 ∨ (S.place d).2 = 112 ∨ (S.place d).2 = 80 := by
  unfold PS.place
  split
  · exact .inl rfl
  · split
    · exact .inr (.inl rfl)
    · split
      · exact .inr (.inr rfl)
      · exact .inl rfl
theorem last_code (S : PS) (l : List ByteArray) : (S.last l).e = 0 ∨ (S.last l).e = 110 ∨ (S.last l).e = 113 ∨ (S.last l).e = 143 := by
  unfold PS.last
  split
  · exact .inr (.inr (.inr rfl))
  · simp only
    have := (walk_code S l.dropLast 1).1
    split
    · exact .inr (.inr (.inl rfl))
    · rcases this with h | h | h
      · exact .inl h
      · exact .inr (.inl h)
      · exact .inr (.inr (.inl h))
set_option maxHeartbeats 16000000 in
set_option maxRecDepth 100000 in
theorem make_any {w : World} {gp bn c : Nat} {S : PS} {A : Int → NA} {own : Nat → Option (Int × Nat)} (h : PW w gp bn c S A own) {v : Value} {l : List ByteArray} {B : Nat} (hv : Strs w B v l) (hl : ∀ s ∈ l, 0 < s.size ∧ s.size ≤ 40) {kind made : Int} (hk : kind = 1 ∨ kind = 2) (hm : 0 ≤ made ∧ made ≤ 1099511627776) :
    Calls Tryd.prog 48 #[.pointer (some ⟨gp, 0, none⟩), v, .int .i64 kind, .int .i64 made] w fun e w' => ∃ own' av, e = .returned av ∧ AnsAt w' w.heap.size own' av (S.make l kind made).2 ∧ Mvd w w' gp bn own (S.make l kind made).1 own' := by
  have H := Lib.hid h
  have HV := Lib.hid hv
  have HL := Lib.hid hl
  obtain ⟨w0, hw0⟩ : ∃ x, x = w.alloc (.cells ans0 37) := ⟨_, rfl⟩
  obtain ⟨ga, hgae⟩ : ∃ x, x = w.heap.size := ⟨_, rfl⟩
  have HGAE := Lib.hid (show w.heap.size ≤ ga by omega)
  have HG0 := Lib.hid (show hat w0 ga = some (.cells ans0 37) by rw [hw0, hgae]; exact (hopN w _).1)
  have HF0 := Lib.hid (show Fr [] w w0 by rw [hw0]; exact fr_new w _ [])
  clear h hv hl
  go_enter Tryd.func48, Tryd.ntmps48
  go_upto_region 1 with fail
  have hw0' : w0 = w.alloc (.cells #[.int .i64 0, .int .i64 0, .int .i64 0, .int .i64 0, .int .i64 0, .int .i64 0, .int .i64 0, .slice none 0 0, .slice none 0 0, .bool false] 37) := hw0
  rw [← hw0', ← hgae]
  clear hw0' hw0 hgae
  go_wp2_with fail
  refine (last_any (H.out.t.fr HF0.out (by simp)) H.out.f (B := 0) (HV.out.fr' HF0.out) (fun s hs => (HL.out s hs).2)).mono ?_; rintro e w1 ⟨rfl, hb1⟩
  have HF1 := Lib.hid (HF0.out.trans (fr_below hb1 []))
  have HG1 := Lib.hid (hop hb1 HG0.out).1
  clear hb1 HG0 HF0
  obtain ⟨d, hd⟩ : ∃ x, x = (S.last l).d := ⟨_, rfl⟩
  obtain ⟨name, hname⟩ : ∃ x, x = (S.last l).name := ⟨_, rfl⟩
  obtain ⟨e, he⟩ : ∃ x, x = (S.last l).e := ⟨_, rfl⟩
  rw [← hd, ← hname, ← he]
  have HLN := Lib.hid (show d = (S.last l).d ∧ name = (S.last l).name ∧ e = (S.last l).e from ⟨hd, hname, he⟩)
  have HLC := Lib.hid (show e = 0 ∨ e = 110 ∨ e = 113 ∨ e = 143 by rw [he]; exact last_code S l)
  clear hd hname he
  by_cases he0 : e = 0
  · subst he0
    obtain ⟨a1, a2, a3⟩ := last_ok H.out.f (HLN.out.2.2.symm)
    rw [← HLN.out.1] at a1 a2
    rw [← HLN.out.2.1] at a3
    have hn := PS.nd_get a1
    have HD := Lib.hid (show S.nodes d = some (S.nd d) ∧ (S.nd d).kind = 2 from ⟨hn, a2⟩)
    have HNM := Lib.hid (show 0 < name.size ∧ name.size ≤ 40 from HL.out _ a3)
    have hT1 := H.out.t.fr HF1.out (by simp)
    have hp1 := hT1.p
    have hpl1 := hat_lt hp1
    have hlk := hT1.look_yes hn
    have hh1 := (hT1.n d _ hn).h
    have hhl1 := hat_lt hh1
    have HT1 := Lib.hid hT1
    cases hnm : (S.nd d).names name with
    | some j =>
      have hln := look_name_yes (hT1.n d _ hn) hnm
      have HQ := Lib.hid (show S.make l kind made = (S, .err 111) from make_e2 HLN.out.2.2.symm (by rw [← HLN.out.1, ← HLN.out.2.1, hnm]; rfl))
      clear hnm hn hT1 a1 a2 a3
      have hga := HG1.out
      unfold ans0 at hga
      have hgal := hat_lt hga
      go_wp2_with fail
      refine ret_c row37 rfl (cs := #[.int .i64 111, .int .i64 0, .int .i64 0, .int .i64 0, .int .i64 0, .int .i64 0, .int .i64 0, .slice none 0 0, .slice none 0 0, .bool false]) rfl (hat_setRow_at _ _ _ _ _ _ HG1.out) rfl rfl ?_
      exact ⟨own, _, rfl, by rw [HQ.out]; exact ans_err _ _ _ _, by rw [HQ.out]; exact H.out.stay (((((HF1.out).mono (ex' := [ga]) (by simp)).trans (fr_setRow _ ga _)).past (ex' := []) (fun g hg => .inr (by have := HGAE.out; simp at hg; omega)))).bl⟩
    | none =>
      have hln := look_name_no (hT1.n d _ hn) (s := name) (by have := HNM.out; unfold maxLen; omega) hnm
      have HNN := Lib.hid hnm
      clear hnm hn hT1 a1 a2 a3
      go_wp2_with fail
      refine (free_any HT1.out H.out.o).mono ?_; rintro e w2 ⟨rfl, rfl⟩
      obtain ⟨i, hi⟩ : ∃ x, x = S.freeI := ⟨_, rfl⟩
      rw [← hi]
      have HI := Lib.hid hi
      clear hi
      by_cases hi0 : i = 0
      · subst hi0
        have HQ := Lib.hid (show S.make l kind made = (S, .err 81) from make_e3 HLN.out.2.2.symm (by rw [← HLN.out.1, ← HLN.out.2.1, HNN.out]) HI.out.symm)
        have hga := HG1.out
        unfold ans0 at hga
        have hgal := hat_lt hga
        go_wp2_with fail
        refine ret_c row37 rfl (cs := #[.int .i64 81, .int .i64 0, .int .i64 0, .int .i64 0, .int .i64 0, .int .i64 0, .int .i64 0, .slice none 0 0, .slice none 0 0, .bool false]) rfl (hat_setRow_at _ _ _ _ _ _ HG1.out) rfl rfl ?_
        exact ⟨own, _, rfl, by rw [HQ.out]; exact ans_err _ _ _ _, by rw [HQ.out]; exact H.out.stay (((((HF1.out).mono (ex' := [ga]) (by simp)).trans (fr_setRow _ ga _)).past (ex' := []) (fun g hg => .inr (by have := HGAE.out; simp at hg; omega)))).bl⟩
      · have hi0' : ¬ S.freeI = 0 := by rw [← HI.out]; exact hi0
        have HFI := Lib.hid (show 2 ≤ i ∧ i ≤ S.inodes ∧ S.nodes i = none by rw [HI.out]; exact freeI_ok hi0')
        have HI0 := Lib.hid hi0'
        clear hi0'
        go_wp2_with fail
        refine (place_any HT1.out H.out.o (HT1.out.n d _ HD.out.1) (H.out.o.n d _ HD.out.1)).mono ?_; rintro e w3 ⟨rfl, hb3⟩
        obtain ⟨k, hkk⟩ : ∃ x, x = (S.place (S.nd d)).1 := ⟨_, rfl⟩
        obtain ⟨e2, he2⟩ : ∃ x, x = (S.place (S.nd d)).2 := ⟨_, rfl⟩
        rw [← hkk, ← he2]
        have HPL := Lib.hid (show k = (S.place (S.nd d)).1 ∧ e2 = (S.place (S.nd d)).2 from ⟨hkk, he2⟩)
        have HF3 := Lib.hid (HF1.out.trans (fr_below hb3 []))
        have HG3 := Lib.hid (hop hb3 HG1.out).1
        clear hkk he2 hb3 hlk hln hh1 hhl1 hp1 hpl1 HT1 HG1 HF1
        have hT3 := H.out.t.fr HF3.out (by simp)
        have hp3 := hT3.p
        have hpl3 := hat_lt hp3
        have HT3 := Lib.hid hT3
        clear hT3
        by_cases he2 : e2 = 0
        · subst he2
          have HQ := Lib.hid (make_ok (k := kind) (m := made) HLN.out.2.2.symm (by rw [← HLN.out.1, ← HLN.out.2.1, HNN.out]) HI0.out (by rw [← HLN.out.1, ← HPL.out.2]))
          have hmm := @run_makeMap Tryd.prog
          rcases hk with rfl | rfl
          · have hq := HQ.out
            rw [← HI.out, ← HLN.out.1, ← HPL.out.1, ← HLN.out.2.1] at hq
            have hsw := make_wf (kind := 1) H.out.o H.out.f HL.out (by simp) hm
            rw [hq] at hsw
            have HSW := Lib.hid hsw
            have HQQ := Lib.hid hq
            have HKK := Lib.hid (show k = (S.nd d).slots.length ∧ (S.nd d).slots.length < 1068 ∨ ∃ j : Nat, k = j ∧ j < (S.nd d).slots.length from by
              rcases place_ok (S := S) (d := S.nd d) (H.out.o.n d _ HD.out.1).sl HPL.out.2.symm with h | ⟨j, h⟩
              · exact .inl ⟨by rw [HPL.out.1]; exact h.1, h.2.1⟩
              · exact .inr ⟨j, by rw [HPL.out.1]; exact h.1, h.2.1⟩)
            clear hq hsw HQ
            go_upto_region 16 with fail
            obtain ⟨w4, hw4⟩ : ∃ x, x = (w3.alloc (.map #[] 0)).alloc (.cells #[.int .i64 1, .int .i64 1, .int .i64 0, .int .i64 made, .map (some w3.heap.size), .slice none 0 0, .map none] 74) := ⟨_, rfl⟩
            obtain ⟨an, han⟩ : ∃ x, x = (⟨w3.heap.size + 1, some w3.heap.size, none, none, .map (some w3.heap.size), .map none, .slice none 0 0, 0, 0⟩ : NA) := ⟨_, rfl⟩
            have hfr := fresh1 w3 made
            rw [← hw4, ← han] at hfr
            rw [← hw4]
            obtain ⟨gd, hgd⟩ : ∃ x, x = w3.heap.size := ⟨_, rfl⟩
            obtain ⟨gn, hgn⟩ : ∃ x, x = gd + 1 := ⟨_, rfl⟩
            rw [← hgd, ← hgn] at han
            rw [← hgd, ← hgn]
            have HF4 := Lib.hid (HF3.out.trans hfr.2)
            have HAN := Lib.hid (show an.g = gn ∧ an.db = some gd ∧ an.sb = none ∧ (∀ b, an.nb = some b → b = gn + 1) ∧ ((1 : Int) = 2 → an.nb.isSome = true) from by rw [han]; exact ⟨rfl, rfl, rfl, fun b hb => (by cases hb), fun h => absurd h (by decide)⟩)
            have HS4 := Lib.hid (show w.heap.size ≤ gd ∧ gn = gd + 1 ∧ gn < w4.heap.size ∧ (∀ b, an.nb = some b → b < w4.heap.size) ∧ ga < gd from ⟨by rw [hgd]; exact HF3.out.size, hgn, by have := (hfr.1.lts).1; rw [HAN.out.1] at this; exact this, hfr.1.lts.2.2.2, by rw [hgd]; exact hat_lt HG3.out⟩)
            have HN4 := Lib.hid hfr.1
            have HG4 := Lib.hid ((hfr.2.block _ (hat_lt HG3.out) (by simp)).trans HG3.out)
            clear hfr hw4 han hgd hgn hmm hp3 hpl3 HT3 HG3 HF3
            obtain ⟨hdn, hdk⟩ := HD.out
            have hT4 := H.out.t.fr HF4.out (by simp)
            have hcb : c ≤ 513 := by rw [H.out.t.cnt H.out.o]; exact cntB_le _ _
            have hii : i64ok i := by have := HFI.out; have := H.out.o.i; exact ⟨by omega, by omega⟩
            obtain ⟨w5, hr5, hm5, ht5⟩ := hT4.m.put (t := 75) (e := 69) Tryd.underlying75 (by unfold maxLen; omega) (x := i) hii (.pointer (some ⟨gn, 0, none⟩))
            have hr5 : (Instr.mapUpdate 75 (.map (some bn)) (.int .i64 i) (.pointer (some ⟨gn, 0, none⟩))).run Tryd.prog w4 = .ok () w5 := hr5
            have hf5 := fr_turned ht5
            have hbn := H.out.t.m.lt
            have hgpb : gp ≠ bn := fun e => by have h1 := H.out.t.op.1; rw [e, H.out.t.op.2] at h1; cases h1
            have hp4 := hT4.p
            have hpl4 := hat_lt hp4
            have hp5 : hat w5 gp = _ := (hf5.block gp hpl4 (by simpa using hgpb)).trans hp4
            have hpl5 := hat_lt hp5
            have hdi : d ≠ i := fun e => by have h1 := HFI.out.2.2; rw [← e, hdn] at h1; cases h1
            have hlk5 : (Instr.lookup 75 (.map (some bn)) (.int .i64 d) false).run Tryd.prog w5 = .ok (.pointer (some ⟨(A d).g, 0, none⟩)) w5 := by
              have h1 := hm5.lookc (e := 69) Tryd.underlying75 (z := .pointer none) (by kernel_rfl) (x := d) (H.out.t.m.okey (x := d) (by rw [ptrM_key, hdn]; rfl))
              rw [if_neg hdi, ptrM_key, hdn] at h1
              exact h1
            have HF5 := Lib.hid ((HF4.out.mono (ex' := [bn]) (by simp)).trans hf5)
            have hN5 := H.out.t.other hdn HF5.out (fun b hb q hq => by
              simp at hb
              rw [hb, H.out.t.op.2] at hq
              cases hq
              have := H.out.o.k d (by rw [hdn]; rfl)
              show (-1 : Int) ≠ d
              omega)
            have HN5 := Lib.hid hN5
            have HNN5 := Lib.hid (HN4.out.fr hf5 (by have := HAN.out.1; have := HS4.out; simp; omega) (fun b hb => by have := HAN.out.2.1; rw [this] at hb; cases hb; have := HS4.out; simp; omega) (fun b hb => by have := HAN.out.2.2.1; rw [this] at hb; cases hb) (fun b hb => by have := HAN.out.2.2.2.1 b hb; have := HS4.out; simp; omega))
            have HM5 := Lib.hid hm5
            have HG5 := Lib.hid ((hf5.block _ (hat_lt HG4.out) (by have := HGAE.out; simp; omega)).trans HG4.out)
            obtain ⟨nb, hnb⟩ := Option.isSome_iff_exists.1 ((H.out.h d _ hdn).1 hdk)
            have HNB := Lib.hid hnb
            have HSZ := Lib.hid (show w4.heap.size ≤ w5.heap.size from hf5.size)
            clear hT4 hm5 hf5 ht5 hN5 hnb HN4 HF4 HG4
            go_wp2_with fail
            obtain ⟨ap1, ap2, ap3⟩ := H.out.t.apart hdn
            refine (set_any HN5.out (H.out.o.n d _ hdn) (fun s j h => ((H.out.f.n d _ hdn).nm s j h).1) HNB.out (ap1 nb HNB.out) (fun b hb => ⟨(ap2 b hb).1, (ap2 b hb).2 nb HNB.out⟩) (fun b hb => ⟨(ap3 b hb).1, (ap3 b hb).2.1 nb HNB.out, (ap3 b hb).2.2⟩) HKK.out (show name.size ≤ maxLen from by have := HNM.out; unfold maxLen; omega) hii).mono ?_
            rintro e w6 ⟨rfl, a', h1, h2, h3, h4, h5, h6⟩
            have hltd := (H.out.t.n d _ hdn).lts
            have hold : ∀ b ∈ (A d).g :: nb :: (A d).sb.toList, b < w.heap.size := fun b hb => by
              simp at hb
              rcases hb with rfl | rfl | hb
              · exact hltd.1
              · exact hltd.2.2.2 _ HNB.out
              · exact hltd.2.2.1 _ hb
            have hbx : bn ∉ (A d).g :: nb :: (A d).sb.toList := fun hm => by
              have hog := H.out.t.og d _ hdn
              have hob := H.out.t.op.2
              simp at hm
              rcases hm with e | e | e
              · rw [e, hog.1] at hob; cases hob
              · rw [e, hog.2.2.2 _ HNB.out] at hob; cases hob
              · rw [hog.2.2.1 _ e] at hob; cases hob
            have hgex : ∀ b, w.heap.size ≤ b → b ∉ (A d).g :: nb :: (A d).sb.toList := fun b hb hm => by have := hold b hm; omega
            obtain ⟨own', ⟨A', hpw⟩, ho, hga, hun⟩ := made_pw (w := w) (w6 := w6) H.out (d := d) (i := i) (k := k) (kind := 1) (made := made) (name := name) (an := an) (a' := a') (nb := nb) (gd := gd) hdn hdk HFI.out.2.2 HSW.out
              ((HF5.out.mono (ex' := bn :: (A d).g :: nb :: (A d).sb.toList) (by simp)).trans (h6.mono (fun b hb => .tail _ hb))) HNB.out (by rw [HAN.out.1]; exact HM5.out.fr h6 hbx)
              (HNN5.out.fr h6 (hgex _ (by have := HAN.out.1; have := HS4.out; omega)) (fun b hb => hgex _ (by have h7 := HAN.out.2.1; rw [h7] at hb; cases hb; exact HS4.out.1)) (fun b hb => by have h7 := HAN.out.2.2.1; rw [h7] at hb; cases hb) (fun b hb => hgex _ (by have h7 := HAN.out.2.2.2.1 b hb; have h8 := HS4.out; omega))) h5
              (by have h7 := HAN.out.1; have h8 := HS4.out; omega) HAN.out.2.2.1 HAN.out.2.1 (by have h7 := HAN.out.1; have h8 := HS4.out; omega) (fun b hb => by have h6 := HAN.out.1; have h7 := HAN.out.2.2.2.1 b hb; have h8 := HS4.out; omega) (fun h => HAN.out.2.2.2.2 (by first | exact h | trivial))
              h1 h2 h3 (h4.imp id fun ⟨g, e1, e2⟩ => ⟨g, e1, by have h8 := HS4.out; have h9 := HSZ.out; omega, by have h7 := HAN.out.1; have h8 := HS4.out; have h9 := HSZ.out; omega, by have h8 := HS4.out; have h9 := HSZ.out; omega, fun h10 => by have h8 := HS4.out.2.2.2.1 g h10; have h9 := HSZ.out; omega⟩)
            have hgan := hga ga HGAE.out (by have h7 := HAN.out.1; have h8 := HS4.out; omega) (by have h8 := HS4.out; omega) (fun h10 => by have h7 := HAN.out.2.2.2.1 _ h10; have h8 := HS4.out; omega) (fun h10 => by
              rcases h4 with e | ⟨g, e1, e2⟩
              · rw [e] at h10; have := hltd.2.2.1 _ h10; have := HGAE.out; omega
              · rw [e1] at h10; cases h10; have h8 := HS4.out; have h9 := HSZ.out; omega)
            have HPW := Lib.hid hpw
            have HO := Lib.hid ho
            have HGN := Lib.hid hgan
            have HUN := Lib.hid hun
            have HG6 := Lib.hid ((h6.block _ (hat_lt HG5.out) (hgex _ HGAE.out)).trans HG5.out)
            clear h1 h2 h3 h4 h5 h6 hpw ho hgan hun hga hgex hbx hold hltd ap1 ap2 ap3 HM5 HNN5 HN5 HF5 HG5 hlk5 hp5 hpl5 hp4 hpl4 hr5 HSZ
            go_wp2_with fail
            refine (stat_any HPW.out.t HPW.out.o (i := i) (show (if i = d then _ else if i = i then _ else _ : Option Nd).isSome = true from by rw [if_neg (Ne.symm hdi), if_pos rfl]; rfl)).mono ?_; rintro e w7 ⟨rfl, hb7⟩
            have HG7 := Lib.hid (hop hb7 HG6.out).1
            have HB7 := Lib.hid hb7
            clear hb7
            have HST : Hid ((S.make l 1 made).2 = ⟨0, (S.made d i k 1 made name).stat i, [], []⟩) := Lib.hid (by rw [HQQ.out])
            generalize (S.made d i k 1 made name).stat i = st at *
            obtain ⟨s1, s2, s3, s4, s5, s6⟩ := st
            have hsv : (Sta.mk s1 s2 s3 s4 s5 s6).val = .agg #[.int .i64 s1, .int .i64 s2, .int .i64 s3, .int .i64 s4, .int .i64 s5, .int .i64 s6] := rfl
            rw [hsv]
            clear hsv
            have hg7 := HG7.out
            unfold ans0 at hg7
            have hgl7 := hat_lt hg7
            go_wp2_with fail
            refine ret_c row37 rfl (cs := #[.int .i64 0, .int .i64 s1, .int .i64 s2, .int .i64 s3, .int .i64 s4, .int .i64 s5, .int .i64 s6, .slice none 0 0, .slice none 0 0, .bool false]) rfl (hat_setRow_at _ _ _ _ _ _ HG7.out) rfl rfl ?_
            refine ⟨own', _, rfl, by rw [HST.out]; exact ans_stat _ _ _ ⟨s1, s2, s3, s4, s5, s6⟩, ?_⟩
            rw [HQQ.out]
            have hfr8 := ((fr_below HB7.out [ga]).trans (fr_setRow w7 ga #[.int .i64 0, .int .i64 s1, .int .i64 s2, .int .i64 s3, .int .i64 s4, .int .i64 s5, .int .i64 s6, .slice none 0 0, .slice none 0 0, .bool false]))
            exact ⟨⟨_, A', HPW.out.fr hfr8 (by simp; exact HGN.out)⟩, HUN.out.later hfr8 (by simp; exact HGAE.out), HO.out⟩
          · have hq := HQ.out
            rw [← HI.out, ← HLN.out.1, ← HPL.out.1, ← HLN.out.2.1] at hq
            have hsw := make_wf (kind := 2) H.out.o H.out.f HL.out (by simp) hm
            rw [hq] at hsw
            have HSW := Lib.hid hsw
            have HQQ := Lib.hid hq
            have HKK := Lib.hid (show k = (S.nd d).slots.length ∧ (S.nd d).slots.length < 1068 ∨ ∃ j : Nat, k = j ∧ j < (S.nd d).slots.length from by
              rcases place_ok (S := S) (d := S.nd d) (H.out.o.n d _ HD.out.1).sl HPL.out.2.symm with h | ⟨j, h⟩
              · exact .inl ⟨by rw [HPL.out.1]; exact h.1, h.2.1⟩
              · exact .inr ⟨j, by rw [HPL.out.1]; exact h.1, h.2.1⟩)
            clear hq hsw HQ
            go_upto_region 16 with fail
            obtain ⟨w4, hw4⟩ : ∃ x, x = ((w3.alloc (.map #[] 0)).alloc (.cells #[.int .i64 2, .int .i64 1, .int .i64 0, .int .i64 made, .map (some w3.heap.size), .slice none 0 0, .map (some (w3.heap.size + 1 + 1))] 74)).alloc (.map #[] 0) := ⟨_, rfl⟩
            obtain ⟨an, han⟩ : ∃ x, x = (⟨w3.heap.size + 1, some w3.heap.size, some (w3.heap.size + 1 + 1), none, .map (some w3.heap.size), .map (some (w3.heap.size + 1 + 1)), .slice none 0 0, 0, 0⟩ : NA) := ⟨_, rfl⟩
            have hfr := fresh2 w3 made
            rw [← hw4, ← han] at hfr
            rw [← hw4]
            obtain ⟨gd, hgd⟩ : ∃ x, x = w3.heap.size := ⟨_, rfl⟩
            obtain ⟨gn, hgn⟩ : ∃ x, x = gd + 1 := ⟨_, rfl⟩
            rw [← hgd, ← hgn] at han
            rw [← hgd, ← hgn]
            have HF4 := Lib.hid (HF3.out.trans hfr.2)
            have HAN := Lib.hid (show an.g = gn ∧ an.db = some gd ∧ an.sb = none ∧ (∀ b, an.nb = some b → b = gn + 1) ∧ ((2 : Int) = 2 → an.nb.isSome = true) from by rw [han]; exact ⟨rfl, rfl, rfl, fun b hb => (by cases hb; rfl), fun h => rfl⟩)
            have HS4 := Lib.hid (show w.heap.size ≤ gd ∧ gn = gd + 1 ∧ gn < w4.heap.size ∧ (∀ b, an.nb = some b → b < w4.heap.size) ∧ ga < gd from ⟨by rw [hgd]; exact HF3.out.size, hgn, by have := (hfr.1.lts).1; rw [HAN.out.1] at this; exact this, hfr.1.lts.2.2.2, by rw [hgd]; exact hat_lt HG3.out⟩)
            have HN4 := Lib.hid hfr.1
            have HG4 := Lib.hid ((hfr.2.block _ (hat_lt HG3.out) (by simp)).trans HG3.out)
            clear hfr hw4 han hgd hgn hmm hp3 hpl3 HT3 HG3 HF3
            obtain ⟨hdn, hdk⟩ := HD.out
            have hT4 := H.out.t.fr HF4.out (by simp)
            have hcb : c ≤ 513 := by rw [H.out.t.cnt H.out.o]; exact cntB_le _ _
            have hii : i64ok i := by have := HFI.out; have := H.out.o.i; exact ⟨by omega, by omega⟩
            obtain ⟨w5, hr5, hm5, ht5⟩ := hT4.m.put (t := 75) (e := 69) Tryd.underlying75 (by unfold maxLen; omega) (x := i) hii (.pointer (some ⟨gn, 0, none⟩))
            have hr5 : (Instr.mapUpdate 75 (.map (some bn)) (.int .i64 i) (.pointer (some ⟨gn, 0, none⟩))).run Tryd.prog w4 = .ok () w5 := hr5
            have hf5 := fr_turned ht5
            have hbn := H.out.t.m.lt
            have hgpb : gp ≠ bn := fun e => by have h1 := H.out.t.op.1; rw [e, H.out.t.op.2] at h1; cases h1
            have hp4 := hT4.p
            have hpl4 := hat_lt hp4
            have hp5 : hat w5 gp = _ := (hf5.block gp hpl4 (by simpa using hgpb)).trans hp4
            have hpl5 := hat_lt hp5
            have hdi : d ≠ i := fun e => by have h1 := HFI.out.2.2; rw [← e, hdn] at h1; cases h1
            have hlk5 : (Instr.lookup 75 (.map (some bn)) (.int .i64 d) false).run Tryd.prog w5 = .ok (.pointer (some ⟨(A d).g, 0, none⟩)) w5 := by
              have h1 := hm5.lookc (e := 69) Tryd.underlying75 (z := .pointer none) (by kernel_rfl) (x := d) (H.out.t.m.okey (x := d) (by rw [ptrM_key, hdn]; rfl))
              rw [if_neg hdi, ptrM_key, hdn] at h1
              exact h1
            have HF5 := Lib.hid ((HF4.out.mono (ex' := [bn]) (by simp)).trans hf5)
            have hN5 := H.out.t.other hdn HF5.out (fun b hb q hq => by
              simp at hb
              rw [hb, H.out.t.op.2] at hq
              cases hq
              have := H.out.o.k d (by rw [hdn]; rfl)
              show (-1 : Int) ≠ d
              omega)
            have HN5 := Lib.hid hN5
            have HNN5 := Lib.hid (HN4.out.fr hf5 (by have := HAN.out.1; have := HS4.out; simp; omega) (fun b hb => by have := HAN.out.2.1; rw [this] at hb; cases hb; have := HS4.out; simp; omega) (fun b hb => by have := HAN.out.2.2.1; rw [this] at hb; cases hb) (fun b hb => by have := HAN.out.2.2.2.1 b hb; have := HS4.out; simp; omega))
            have HM5 := Lib.hid hm5
            have HG5 := Lib.hid ((hf5.block _ (hat_lt HG4.out) (by have := HGAE.out; simp; omega)).trans HG4.out)
            obtain ⟨nb, hnb⟩ := Option.isSome_iff_exists.1 ((H.out.h d _ hdn).1 hdk)
            have HNB := Lib.hid hnb
            have HSZ := Lib.hid (show w4.heap.size ≤ w5.heap.size from hf5.size)
            clear hT4 hm5 hf5 ht5 hN5 hnb HN4 HF4 HG4
            go_wp2_with fail
            obtain ⟨ap1, ap2, ap3⟩ := H.out.t.apart hdn
            refine (set_any HN5.out (H.out.o.n d _ hdn) (fun s j h => ((H.out.f.n d _ hdn).nm s j h).1) HNB.out (ap1 nb HNB.out) (fun b hb => ⟨(ap2 b hb).1, (ap2 b hb).2 nb HNB.out⟩) (fun b hb => ⟨(ap3 b hb).1, (ap3 b hb).2.1 nb HNB.out, (ap3 b hb).2.2⟩) HKK.out (show name.size ≤ maxLen from by have := HNM.out; unfold maxLen; omega) hii).mono ?_
            rintro e w6 ⟨rfl, a', h1, h2, h3, h4, h5, h6⟩
            have hltd := (H.out.t.n d _ hdn).lts
            have hold : ∀ b ∈ (A d).g :: nb :: (A d).sb.toList, b < w.heap.size := fun b hb => by
              simp at hb
              rcases hb with rfl | rfl | hb
              · exact hltd.1
              · exact hltd.2.2.2 _ HNB.out
              · exact hltd.2.2.1 _ hb
            have hbx : bn ∉ (A d).g :: nb :: (A d).sb.toList := fun hm => by
              have hog := H.out.t.og d _ hdn
              have hob := H.out.t.op.2
              simp at hm
              rcases hm with e | e | e
              · rw [e, hog.1] at hob; cases hob
              · rw [e, hog.2.2.2 _ HNB.out] at hob; cases hob
              · rw [hog.2.2.1 _ e] at hob; cases hob
            have hgex : ∀ b, w.heap.size ≤ b → b ∉ (A d).g :: nb :: (A d).sb.toList := fun b hb hm => by have := hold b hm; omega
            obtain ⟨own', ⟨A', hpw⟩, ho, hga, hun⟩ := made_pw (w := w) (w6 := w6) H.out (d := d) (i := i) (k := k) (kind := 2) (made := made) (name := name) (an := an) (a' := a') (nb := nb) (gd := gd) hdn hdk HFI.out.2.2 HSW.out
              ((HF5.out.mono (ex' := bn :: (A d).g :: nb :: (A d).sb.toList) (by simp)).trans (h6.mono (fun b hb => .tail _ hb))) HNB.out (by rw [HAN.out.1]; exact HM5.out.fr h6 hbx)
              (HNN5.out.fr h6 (hgex _ (by have := HAN.out.1; have := HS4.out; omega)) (fun b hb => hgex _ (by have h7 := HAN.out.2.1; rw [h7] at hb; cases hb; exact HS4.out.1)) (fun b hb => by have h7 := HAN.out.2.2.1; rw [h7] at hb; cases hb) (fun b hb => hgex _ (by have h7 := HAN.out.2.2.2.1 b hb; have h8 := HS4.out; omega))) h5
              (by have h7 := HAN.out.1; have h8 := HS4.out; omega) HAN.out.2.2.1 HAN.out.2.1 (by have h7 := HAN.out.1; have h8 := HS4.out; omega) (fun b hb => by have h6 := HAN.out.1; have h7 := HAN.out.2.2.2.1 b hb; have h8 := HS4.out; omega) (fun h => HAN.out.2.2.2.2 (by first | exact h | trivial))
              h1 h2 h3 (h4.imp id fun ⟨g, e1, e2⟩ => ⟨g, e1, by have h8 := HS4.out; have h9 := HSZ.out; omega, by have h7 := HAN.out.1; have h8 := HS4.out; have h9 := HSZ.out; omega, by have h8 := HS4.out; have h9 := HSZ.out; omega, fun h10 => by have h8 := HS4.out.2.2.2.1 g h10; have h9 := HSZ.out; omega⟩)
            have hgan := hga ga HGAE.out (by have h7 := HAN.out.1; have h8 := HS4.out; omega) (by have h8 := HS4.out; omega) (fun h10 => by have h7 := HAN.out.2.2.2.1 _ h10; have h8 := HS4.out; omega) (fun h10 => by
              rcases h4 with e | ⟨g, e1, e2⟩
              · rw [e] at h10; have := hltd.2.2.1 _ h10; have := HGAE.out; omega
              · rw [e1] at h10; cases h10; have h8 := HS4.out; have h9 := HSZ.out; omega)
            have HPW := Lib.hid hpw
            have HO := Lib.hid ho
            have HGN := Lib.hid hgan
            have HUN := Lib.hid hun
            have HG6 := Lib.hid ((h6.block _ (hat_lt HG5.out) (hgex _ HGAE.out)).trans HG5.out)
            clear h1 h2 h3 h4 h5 h6 hpw ho hgan hun hga hgex hbx hold hltd ap1 ap2 ap3 HM5 HNN5 HN5 HF5 HG5 hlk5 hp5 hpl5 hp4 hpl4 hr5 HSZ
            go_wp2_with fail
            refine (stat_any HPW.out.t HPW.out.o (i := i) (show (if i = d then _ else if i = i then _ else _ : Option Nd).isSome = true from by rw [if_neg (Ne.symm hdi), if_pos rfl]; rfl)).mono ?_; rintro e w7 ⟨rfl, hb7⟩
            have HG7 := Lib.hid (hop hb7 HG6.out).1
            have HB7 := Lib.hid hb7
            clear hb7
            have HST : Hid ((S.make l 2 made).2 = ⟨0, (S.made d i k 2 made name).stat i, [], []⟩) := Lib.hid (by rw [HQQ.out])
            generalize (S.made d i k 2 made name).stat i = st at *
            obtain ⟨s1, s2, s3, s4, s5, s6⟩ := st
            have hsv : (Sta.mk s1 s2 s3 s4 s5 s6).val = .agg #[.int .i64 s1, .int .i64 s2, .int .i64 s3, .int .i64 s4, .int .i64 s5, .int .i64 s6] := rfl
            rw [hsv]
            clear hsv
            have hg7 := HG7.out
            unfold ans0 at hg7
            have hgl7 := hat_lt hg7
            go_wp2_with fail
            refine ret_c row37 rfl (cs := #[.int .i64 0, .int .i64 s1, .int .i64 s2, .int .i64 s3, .int .i64 s4, .int .i64 s5, .int .i64 s6, .slice none 0 0, .slice none 0 0, .bool false]) rfl (hat_setRow_at _ _ _ _ _ _ HG7.out) rfl rfl ?_
            refine ⟨own', _, rfl, by rw [HST.out]; exact ans_stat _ _ _ ⟨s1, s2, s3, s4, s5, s6⟩, ?_⟩
            rw [HQQ.out]
            have hfr8 := ((fr_below HB7.out [ga]).trans (fr_setRow w7 ga #[.int .i64 0, .int .i64 s1, .int .i64 s2, .int .i64 s3, .int .i64 s4, .int .i64 s5, .int .i64 s6, .slice none 0 0, .slice none 0 0, .bool false]))
            exact ⟨⟨_, A', HPW.out.fr hfr8 (by simp; exact HGN.out)⟩, HUN.out.later hfr8 (by simp; exact HGAE.out), HO.out⟩
        · have HQ := Lib.hid (show S.make l kind made = (S, .err e2) from by rw [HPL.out.2, HLN.out.1]; exact make_e4 HLN.out.2.2.symm (by rw [← HLN.out.1, ← HLN.out.2.1, HNN.out]) HI0.out (by rw [← HLN.out.1, ← HPL.out.2]; exact he2))
          have hga := HG3.out
          unfold ans0 at hga
          have hgal := hat_lt hga
          go_wp2_with fail
          refine ret_c row37 rfl (cs := #[.int .i64 e2, .int .i64 0, .int .i64 0, .int .i64 0, .int .i64 0, .int .i64 0, .int .i64 0, .slice none 0 0, .slice none 0 0, .bool false]) rfl (hat_setRow_at _ _ _ _ _ _ HG3.out) rfl rfl ?_
          exact ⟨own, _, rfl, by rw [HQ.out]; exact ans_err _ _ _ _, by rw [HQ.out]; exact H.out.stay (((((HF3.out).mono (ex' := [ga]) (by simp)).trans (fr_setRow _ ga _)).past (ex' := []) (fun g hg => .inr (by have := HGAE.out; simp at hg; omega)))).bl⟩
  · have HQ := Lib.hid (show S.make l kind made = (S, .err e) from by rw [HLN.out.2.2]; exact make_e1 (by rw [← HLN.out.2.2]; exact he0))
    have hga := HG1.out
    unfold ans0 at hga
    have hgal := hat_lt hga
    go_wp2_with fail
    refine ret_c row37 rfl (cs := #[.int .i64 e, .int .i64 0, .int .i64 0, .int .i64 0, .int .i64 0, .int .i64 0, .int .i64 0, .slice none 0 0, .slice none 0 0, .bool false]) rfl (hat_setRow_at _ _ _ _ _ _ HG1.out) rfl rfl ?_
    exact ⟨own, _, rfl, by rw [HQ.out]; exact ans_err _ _ _ _, by rw [HQ.out]; exact H.out.stay (((((HF1.out).mono (ex' := [ga]) (by simp)).trans (fr_setRow _ ga _)).past (ex' := []) (fun g hg => .inr (by have := HGAE.out; simp at hg; omega)))).bl⟩
end Go.Proofs.YteffoihkljkfdaaDoor

/- New: the walk. -/
namespace Go.Proofs.YteffoihkljkfdaaDoor
set_option linter.unusedSimpArgs false
set_option linter.unusedVariables false
open Go.RowKit

def rootN : Nd := ⟨2, 1, 0, 0, fun _ => none, [], fun _ => none⟩
def newS (s n : Int) : PS := ⟨s, n, fun i => if i = 1 then some rootN else none⟩
def badS (s n : Int) : Prop := s < 8 ∨ 4096 < s ∨ n < 1 ∨ 512 < n ∨ s < n + 2
theorem newS_ok {s n : Int} (h : ¬ badS s n) : POk (newS s n) ∧ PWf (newS s n) := by
  unfold badS at h
  have hn : ∀ i m, (newS s n).nodes i = some m → i = 1 ∧ m = rootN := fun i m hm => by
    have hm' : (if i = 1 then some rootN else none) = some m := hm
    split at hm'
    · rename_i h1; cases hm'; exact ⟨h1, rfl⟩
    · cases hm'
  refine ⟨⟨⟨by show 8 ≤ s; omega, by show s ≤ 4096; omega⟩, ⟨by show 1 ≤ n; omega, by show n ≤ 512; omega⟩, fun i hi => ?_, fun i m hm => ?_⟩, ⟨⟨rootN, rfl, rfl⟩, fun i m hm => ?_⟩⟩
  · obtain ⟨m, hm⟩ := Option.isSome_iff_exists.1 hi
    obtain ⟨rfl, -⟩ := hn i m hm
    exact ⟨by omega, by show 1 ≤ n; omega⟩
  · obtain ⟨-, rfl⟩ := hn i m hm
    exact ⟨fun k h => (nomatch h), fun k s h => (nomatch h), Nat.zero_le _⟩
  · obtain ⟨-, rfl⟩ := hn i m hm
    exact ⟨.inr rfl, ⟨by show (1 : Int) ≤ 1; omega, by show (1 : Int) ≤ 100; omega⟩, ⟨Int.le_refl 0, by show (0 : Int) ≤ _; omega⟩, ⟨Int.le_refl 0, by show (0 : Int) ≤ _; omega⟩, fun h => (nomatch h), fun _ => ⟨fun _ => rfl, rfl⟩, fun s j h => (nomatch h), fun s h => (nomatch h), by show ([] : List ByteArray).Nodup; simp, fun k s h => (nomatch h)⟩
set_option maxHeartbeats 8000000 in
set_option maxRecDepth 100000 in
theorem new_bad {w : World} {s n : Int} (h : badS s n) : Calls Tryd.prog 10 #[.int .i64 s, .int .i64 n] w fun e w' => e = .returned (.tuple #[.pointer none, .int .i64 160]) ∧ w' = w := by
  unfold badS at h
  by_cases h1 : s < 8
  · go_enter Tryd.func10, Tryd.ntmps10
    clear h
    go_wp2_with fail
    go_ret2
    exact ⟨rfl, rfl⟩
  · by_cases h2 : 4096 < s
    · go_enter Tryd.func10, Tryd.ntmps10
      clear h
      go_wp2_with fail
      go_ret2
      exact ⟨rfl, rfl⟩
    · by_cases h3 : n < 1
      · go_enter Tryd.func10, Tryd.ntmps10
        clear h
        go_wp2_with fail
        go_ret2
        exact ⟨rfl, rfl⟩
      · by_cases h4 : 512 < n
        · go_enter Tryd.func10, Tryd.ntmps10
          clear h
          go_wp2_with fail
          go_ret2
          exact ⟨rfl, rfl⟩
        · have h5 : s < n + 2 := by omega
          go_enter Tryd.func10, Tryd.ntmps10
          clear h
          go_wp2_with fail
          go_ret2
          exact ⟨rfl, rfl⟩
/-- a plain file system that is new -/
def NewAt (w w' : World) (gp : Nat) (S : PS) : Prop := ∃ bn c A own, PW w' gp bn c S A own ∧ Below w.heap.size w w' ∧ ∀ b, b < w.heap.size → own b = none
set_option maxHeartbeats 8000000 in
set_option maxRecDepth 100000 in
theorem new_any {w : World} {s n : Int} (h : ¬ badS s n) : Calls Tryd.prog 10 #[.int .i64 s, .int .i64 n] w fun e w' => ∃ gp, e = .returned (.tuple #[.pointer (some ⟨gp, 0, none⟩), .int .i64 0]) ∧ NewAt w w' gp (newS s n) := by
  have hok := newS_ok h
  have HOK := Lib.hid hok
  unfold badS at h
  have h1 : ¬ s < 8 := by omega
  have h2 : ¬ 4096 < s := by omega
  have h3 : ¬ n < 1 := by omega
  have h4 : ¬ 512 < n := by omega
  have h5 : ¬ s < n + 2 := by omega
  have hmm := @run_makeMap Tryd.prog
  obtain ⟨w3, hw3⟩ : ∃ x, x = ((w.alloc (.map #[] 0)).alloc (.map #[] 0)).alloc (.cells #[.int .i64 2, .int .i64 1, .int .i64 0, .int .i64 0, .map none, .slice none 0 0, .map (some (w.heap.size + 1))] 74) := ⟨_, rfl⟩
  have hf3 : Fr [] w w3 := by rw [hw3]; exact ((fr_new _ _ []).trans (fr_new _ _ [])).trans (fr_new _ _ [])
  have hm3 : MG kInt w3 w.heap.size (fun _ => none) 0 := by rw [hw3]; exact (MG.made (E := kInt) w).fr ((fr_new _ _ []).trans (fr_new _ _ [])) (by simp)
  have hnm3 : MG kStr w3 (w.heap.size + 1) (fun _ => none) 0 := by
    have e2 := MG.made (E := kStr) (w.alloc (.map #[] 0))
    rw [show (w.alloc (.map #[] 0)).heap.size = w.heap.size + 1 by simp] at e2
    rw [hw3]; exact e2.fr (fr_new _ _ []) (by simp)
  have hg3 : hat w3 (w.heap.size + 1 + 1) = some (.cells #[.int .i64 2, .int .i64 1, .int .i64 0, .int .i64 0, .map none, .slice none 0 0, .map (some (w.heap.size + 1))] 74) := by
    have e := (hopN ((w.alloc (.map #[] 0)).alloc (.map #[] 0)) (.cells #[.int .i64 2, .int .i64 1, .int .i64 0, .int .i64 0, .map none, .slice none 0 0, .map (some (w.heap.size + 1))] 74)).1
    rw [show ((w.alloc (.map #[] 0)).alloc (.map #[] 0)).heap.size = w.heap.size + 1 + 1 by simp] at e
    rw [hw3]; exact e
  obtain ⟨w4, hr4, hm4, ht4⟩ := hm3.put (t := 75) (e := 69) Tryd.underlying75 (by unfold maxLen; omega) (x := 1) (show i64ok 1 from ⟨by omega, by omega⟩) (.pointer (some ⟨w.heap.size + 1 + 1, 0, none⟩))
  have hf4 := fr_turned ht4
  have hr4 : (Instr.mapUpdate 75 (.map (some w.heap.size)) (.int .i64 1) (.pointer (some ⟨w.heap.size + 1 + 1, 0, none⟩))).run Tryd.prog w3 = .ok () w4 := hr4
  rw [hw3] at hr4
  have HM4 := Lib.hid (show MG kInt w4 w.heap.size (fun y => if y = 1 then some (.pointer (some ⟨w.heap.size + 1 + 1, 0, none⟩)) else none) 1 from hm4)
  have HN4 := Lib.hid (hnm3.fr hf4 (by simp))
  have HG4 := Lib.hid ((hf4.block _ (hat_lt hg3) (by simp; omega)).trans hg3)
  have HF4 := Lib.hid (((hf3.mono (ex' := [w.heap.size]) (by simp)).trans hf4).past (ex' := []) (fun g hg => .inr (by simp at hg; omega)))
  have HL4 := Lib.hid (show w.heap.size + 1 + 1 < w4.heap.size from hat_lt HG4.out)
  clear hm4 ht4 hf4 hf3 hm3 hnm3 hg3 hok hw3 h
  go_enter Tryd.func10, Tryd.ntmps10
  go_wp2_with fail
  go_ret2
  have hpa := hopN w4 (.cells #[.int .i64 s, .int .i64 n, .map (some w.heap.size)] 77)
  have hfp := fr_new w4 (.cells #[.int .i64 s, .int .i64 n, .map (some w.heap.size)] 77) []
  have hsz := HL4.out
  refine ⟨w4.heap.size, rfl, w.heap.size, 1, fun _ => ⟨w.heap.size + 1 + 1, none, some (w.heap.size + 1), none, .map none, .map (some (w.heap.size + 1)), .slice none 0 0, 0, 0⟩,
    fun b => if b = w4.heap.size then some (-1, 0) else if b = w.heap.size then some (-1, 1) else if b = w.heap.size + 1 + 1 then some (1, 0) else if b = w.heap.size + 1 then some (1, 3) else none, ⟨⟨hpa.1, ?_, fun i m hm => ?_, ⟨by simp, ?_⟩, fun i m hm => ?_⟩, HOK.out.1, HOK.out.2, fun i m hm => ?_⟩, (HF4.out.trans hfp).bl, fun b hb => ?_⟩
  · have e : ptrM (newS s n) (fun _ => ⟨w.heap.size + 1 + 1, none, some (w.heap.size + 1), none, .map none, .map (some (w.heap.size + 1)), .slice none 0 0, 0, 0⟩) = fun y => if y = 1 then some (.pointer (some ⟨w.heap.size + 1 + 1, 0, none⟩)) else none := by
      funext y
      show (if y = 1 then some rootN else none).map _ = _
      split <;> rfl
    rw [e]
    exact HM4.out.fr hfp (by simp)
  · have hm' : (if i = 1 then some rootN else none) = some m := hm
    split at hm'
    · cases hm'
      exact ⟨((hfp.block _ HL4.out (by simp)).trans HG4.out), .inl ⟨rfl, rfl, fun _ => rfl, rfl⟩, .inl ⟨rfl, rfl, rfl⟩, .inr ⟨_, rfl, rfl, HN4.out.fr hfp (by simp)⟩⟩
    · cases hm'
  · show (if w.heap.size = w4.heap.size then _ else if w.heap.size = w.heap.size then _ else _) = _
    rw [if_neg (by omega), if_pos rfl]
  · have hm' : (if i = 1 then some rootN else none) = some m := hm
    split at hm'
    · rename_i h1
      subst h1
      refine ⟨?_, fun b hb => (nomatch hb), fun b hb => (nomatch hb), fun b hb => ?_⟩
      · show (if w.heap.size + 1 + 1 = w4.heap.size then _ else if w.heap.size + 1 + 1 = w.heap.size then _ else if w.heap.size + 1 + 1 = w.heap.size + 1 + 1 then _ else _) = _
        rw [if_neg (by omega), if_neg (by omega), if_pos rfl]
      · cases hb
        show (if w.heap.size + 1 = w4.heap.size then _ else if w.heap.size + 1 = w.heap.size then _ else if w.heap.size + 1 = w.heap.size + 1 + 1 then _ else if w.heap.size + 1 = w.heap.size + 1 then _ else _) = _
        rw [if_neg (by omega), if_neg (by omega), if_neg (by omega), if_pos rfl]
    · cases hm'
  · have hm' : (if i = 1 then some rootN else none) = some m := hm
    split at hm'
    · cases hm'
      exact ⟨fun _ => rfl, fun h => (nomatch h)⟩
    · cases hm'
  · show (if b = w4.heap.size then _ else if b = w.heap.size then _ else if b = w.heap.size + 1 + 1 then _ else if b = w.heap.size + 1 then _ else none) = none
    rw [if_neg (by omega), if_neg (by omega), if_neg (by omega), if_neg (by omega)]
end Go.Proofs.YteffoihkljkfdaaDoor

/- uses; fine: up to the letters. -/
namespace Go.Proofs.YteffoihkljkfdaaDoor
set_option linter.unusedSimpArgs false
set_option linter.unusedVariables false
open Go.RowKit Go.Maps

def i32ok (p : Int) : Prop := -2147483648 ≤ p ∧ p ≤ 2147483647
theorem i32wf {p : Int} (h : i32ok p) : (Lit.int .i32 p).wf = true := by
  unfold i32ok at h
  simp [Lit.wf, IntKind.min, IntKind.max, IntKind.signed, IntKind.bits]; omega
theorem i32wf_ok {p : Int} (h : (Lit.int .i32 p).wf = true) : i32ok p := by
  unfold i32ok
  simp [Lit.wf, IntKind.min, IntKind.max, IntKind.signed, IntKind.bits] at h; omega
def kRune : KE 21 Int where
  kv := Value.int .i32
  kl := Lit.int .i32
  ok := i32ok
  K := int_keyed Tryd.underlying21
  key := fun h => keyOf_int_mk Tryd.underlying21 (i32wf h)
  inj := fun h => by injection h
  inv := fun {v l} h => by
    obtain ⟨x, rfl, rfl, hx⟩ := keyOf_int_inv Tryd.underlying21 h
    exact ⟨x, i32wf_ok hx, rfl, rfl⟩
/-- which fields a kind uses -/
def usesZ (k : Int) : ByteArray :=
  ByteArray.mk (if k = 1 ∨ k = 2 then #[112, 109] else if k = 3 ∨ k = 6 then #[112, 116] else if k = 4 ∨ k = 5 ∨ k = 10 ∨ k = 11 ∨ k = 13 then #[112] else if k = 7 then #[112, 111, 100] else if k = 8 then #[112, 111] else if k = 9 then #[112, 111, 108] else if k = 14 then #[102] else #[])
set_option maxHeartbeats 8000000 in
set_option maxRecDepth 100000 in
theorem uses_any {w : World} {k : Int} (h : 1 ≤ k ∧ k ≤ 14) : Calls Tryd.prog 42 #[.int .i64 k] w fun e w' => e = .returned (.string (usesZ k)) ∧ Below w.heap.size w w' := by
  have hk : k = 1 ∨ k = 2 ∨ k = 3 ∨ k = 4 ∨ k = 5 ∨ k = 6 ∨ k = 7 ∨ k = 8 ∨ k = 9 ∨ k = 10 ∨ k = 11 ∨ k = 12 ∨ k = 13 ∨ k = 14 := by omega
  clear h
  rcases hk with rfl | rfl | rfl | rfl | rfl | rfl | rfl | rfl | rfl | rfl | rfl | rfl | rfl | rfl
  all_goals
    go_enter Tryd.func42, Tryd.ntmps42
    go_wp2_with fail
    go_ret
    exact ⟨rfl, (Below.refl _ _).alloc (Nat.le_refl _) _⟩
theorem usesZ_ascii (k : Int) (j : Nat) (hj : j < (usesZ k).size) : ((usesZ k)[j]'hj).toNat < 128 := by
  have key : ∀ b ∈ (usesZ k).data.toList, b.toNat < 128 := by
    unfold usesZ
    repeat' split
    all_goals (intro b hb; revert b hb; decide)
  refine key _ ?_
  exact List.getElem_mem (l := (usesZ k).data.toList) (n := j) (by simpa using hj)
/-- the first letters of a text -/
def lets (s : ByteArray) (i : Nat) (r : Int) : Bool := (s.data.toList.take i).any fun b => (b.toNat : Int) == r
theorem lets_succ {s : ByteArray} {i : Nat} {x : UInt8} (hx : s.data.toList[i]? = some x) (r : Int) : lets s (i + 1) r = (lets s i r || ((x.toNat : Int) == r)) := by
  unfold lets
  rw [List.take_add_one, hx]
  simp
def runeM (f : Int → Bool) : Int → Option Value := fun r => if f r = true then some (.bool true) else none
end Go.Proofs.YteffoihkljkfdaaDoor
