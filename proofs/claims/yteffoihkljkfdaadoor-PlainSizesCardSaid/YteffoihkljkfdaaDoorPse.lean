/- set: the walk. -/
import Derived.Test.YteffoihkljkfdaaDoorPpl
namespace Go.Proofs.YteffoihkljkfdaaDoor
set_option linter.unusedSimpArgs false
set_option linter.unusedVariables false
open Go.RowKit

theorem nodup_le {α : Type} [DecidableEq α] : ∀ {l m : List α}, l.Nodup → (∀ x ∈ l, x ∈ m) → l.length ≤ m.length
  | [], m, _, _ => Nat.zero_le _
  | x :: l, m, hd, hs => by
    obtain ⟨h1, h2⟩ := List.nodup_cons.1 hd
    have hx := hs x (.head _)
    have h3 := nodup_le (l := l) (m := m.erase x) h2 (fun y hy => (List.mem_erase_of_ne (fun e => h1 (by rw [← e]; exact hy))).2 (hs y (.tail _ hy)))
    rw [List.length_erase_of_mem hx] at h3
    have : 0 < m.length := List.length_pos_of_mem hx
    rw [List.length_cons]
    omega
theorem names_few {w : World} {a : NA} {n : Nd} (h : NodeAt w a n) (hs : ∀ s j, n.names s = some j → s ∈ n.slots) : a.nc ≤ n.slots.length := by
  rcases h.m with ⟨-, -, -, h2⟩ | ⟨b, -, -, h2⟩
  · rw [h2]; exact Nat.zero_le _
  · obtain ⟨l, h3, h4, h5⟩ := h2.keys
    rw [← h4]
    refine nodup_le h3 fun x hx => ?_
    have := (h5 x).1 hx
    unfold Nd.namesM at this
    cases hq : n.names x with
    | none => rw [hq] at this; cases this
    | some j => exact hs x j hq
theorem GRow.setc {T : TypeId} {w : World} {g off N c : Nat} {ob : Option Nat} {f : Nat → Value} (h : GRow T 1 w (.slice (some ⟨g, off, none⟩) N c) ob N f) {k : Nat} (hk : k < N) (v : Value) :
    GRow T 1 (w.setCell ⟨g, off + k, none⟩ v) (.slice (some ⟨g, off, none⟩) N c) ob N (fun j => if j = k then v else f j) := by
  rcases h with ⟨h, -⟩ | ⟨g', off', c', cs, e, h2, h3, h4, h5, h6⟩
  · cases h
  · injection e with e1 e2 e3
    injection e1 with e1
    injection e1 with p1 p2
    subst p1 p2 e3
    refine .inr ⟨g, off, c, _, rfl, h2, hat_setCell_at w g (off + k) v cs T (0, 0) h3, by simpa using h4, by simpa using h5, fun j hj => ?_⟩
    rw [Array.getElem?_setIfInBounds]
    show _ = some (if j = k then v else f j)
    by_cases hjk : j = k
    · subst hjk
      rw [if_pos rfl, if_pos rfl, if_pos (by omega)]
    · rw [if_neg (by omega), if_neg hjk]
      exact h6 j hj
theorem GRow.at {T : TypeId} {w : World} {v : Value} {ob : Option Nat} {N : Nat} {f : Nat → Value} (h : GRow T 1 w v ob N f) (hN : 0 < N) : ∃ g off c cs, v = .slice (some ⟨g, off, none⟩) N c ∧ ob = some g ∧ hat w g = some (.cells cs T) ∧ off + N ≤ cs.size := by
  rcases h with ⟨-, -, h⟩ | ⟨g, off, c, cs, h1, h2, h3, h4, h5, h6⟩
  · omega
  · exact ⟨g, off, c, cs, h1, h2, h3, by omega⟩
theorem setN_app (n : Nd) (name : ByteArray) (i : Int) : n.set n.slots.length name i = { n with slots := n.slots ++ [name], size := (n.slots.length + 1) * 128, names := n.ins name i } := by unfold Nd.set; rw [if_pos rfl]
theorem setN_at (n : Nd) {j : Nat} (hj : j < n.slots.length) (name : ByteArray) (i : Int) : n.set j name i = { n with slots := n.slots.set j name, names := n.ins name i } := by
  unfold Nd.set
  rw [if_neg (by omega)]
  rfl
theorem ins_map (n : Nd) (name : ByteArray) (i : Int) : (fun y => if y = name then some (.int .i64 i) else n.namesM y) = fun s => ((n.ins name i) s).map (Value.int .i64) := by
  funext s
  unfold Nd.ins Nd.namesM
  split <;> rfl
theorem strC_set (l : List ByteArray) (k : Nat) (s : ByteArray) (hk : k < l.length) : ∀ j, j < l.length * 1 → (fun j => if j = k then Value.string s else strC l j) j = strC (l.set k s) j := fun j hj => by
  unfold strC
  simp only [List.getD_eq_getElem?_getD, List.getElem?_set]
  by_cases h : j = k
  · subst h
    simp [hk]
  · rw [if_neg h, if_neg (Ne.symm h)]
theorem app_set (l : List ByteArray) (s : ByteArray) : (l ++ [emp]).set l.length s = l ++ [s] := by
  rw [List.set_append]
  simp
theorem set_tail {w w3 : World} {a : NA} {n : Nd} {nb : Nat} {sz : Int} {v3 : Value} {ob3 : Option Nat} {l3 : List ByteArray} {k3 : Nat} {name : ByteArray} {i : Int}
    (hh3 : hat w3 a.g = some (.cells #[.int .i64 n.kind, .int .i64 n.links, .int .i64 sz, .int .i64 n.made, a.dv, v3, .map (some nb)] 74)) (hG3 : GRow 9 1 w3 v3 ob3 l3.length (strC l3)) (hk3 : k3 < l3.length)
    (hf3 : Fr (a.g :: nb :: a.sb.toList) w w3) (hob : ob3 = a.sb ∨ ∃ g, ob3 = some g ∧ w.heap.size ≤ g) (hM3 : MG kStr w3 nb n.namesM a.nc) (hD3 : MO kInt w3 a.dv a.db n.dataM a.dc) (hnc : a.nc ≤ 1068) (hnb : a.nb = some nb)
    (hne : nb ≠ a.g) (hsb : ∀ b, a.sb = some b → b ≠ a.g ∧ b ≠ nb) (hdb : ∀ b, a.db = some b → b ≠ a.g ∧ b ≠ nb ∧ ∀ b', a.sb = some b' → b ≠ b') (hlt : a.g < w.heap.size ∧ nb < w.heap.size ∧ ∀ b, a.db = some b → b < w.heap.size) (hkn : kStr.ok name) :
    ∃ g3 o3 c3 cs3 w5, v3 = .slice (some ⟨g3, o3, none⟩) l3.length c3 ∧ hat w3 g3 = some (.cells cs3 9) ∧ o3 + l3.length ≤ cs3.size ∧ g3 ≠ a.g ∧
      hat (w3.setCell ⟨g3, o3 + k3, none⟩ (.string name)) a.g = some (.cells #[.int .i64 n.kind, .int .i64 n.links, .int .i64 sz, .int .i64 n.made, a.dv, v3, .map (some nb)] 74) ∧
      (Instr.mapUpdate 70 (.map (some nb)) (.string name) (.int .i64 i)).run Tryd.prog (w3.setCell ⟨g3, o3 + k3, none⟩ (.string name)) = .ok () w5 ∧
      ∃ a' : NA, a'.g = a.g ∧ a'.db = a.db ∧ a'.nb = a.nb ∧ (a'.sb = a.sb ∨ ∃ g, a'.sb = some g ∧ w.heap.size ≤ g) ∧ NodeAt w5 a' { n with slots := l3.set k3 name, size := sz, names := n.ins name i } ∧ Fr (a.g :: nb :: a.sb.toList) w w5 := by
  obtain ⟨g3, o3, c3, cs3, rfl, ho3, hb3, hs3⟩ := hG3.at (by omega)
  have hgk := hG3.setc hk3 (.string name)
  have hng : g3 ≠ a.g ∧ g3 ≠ nb := by
    rcases hob with h | ⟨g, h1, h2⟩
    · exact hsb g3 (by rw [← h]; exact ho3)
    · rw [ho3] at h1
      cases h1
      omega
  have hf4 : Fr [g3] w3 (w3.setCell ⟨g3, o3 + k3, none⟩ (.string name)) := fr_setCell w3 g3 (o3 + k3) _
  have hm4 := hM3.fr hf4 (by simp; omega)
  have hd4 := hD3.fr hf4 (fun b hb => by
    have h1 := hlt.2.2 b hb
    have h2 := (hdb b hb).2.2
    simp
    rcases hob with h | ⟨g, h3, h4⟩
    · exact h2 g3 (by rw [← h]; exact ho3)
    · rw [ho3] at h3; cases h3; omega)
  have hh4 : hat (w3.setCell ⟨g3, o3 + k3, none⟩ (.string name)) a.g = some (.cells #[.int .i64 n.kind, .int .i64 n.links, .int .i64 sz, .int .i64 n.made, a.dv, .slice (some ⟨g3, o3, none⟩) l3.length c3, .map (some nb)] 74) := (hat_setCell _ _ _ _ (Ne.symm hng.1)).trans hh3
  obtain ⟨w5, hr5, hm5, ht5⟩ := hm4.put (t := 70) (e := 3) Tryd.underlying70 (by unfold maxLen; omega) (x := name) hkn (.int .i64 i)
  have hf5 := fr_turned ht5
  refine ⟨g3, o3, c3, cs3, w5, rfl, hb3, hs3, hng.1, hh4, hr5, { a with sb := some g3, sv := .slice (some ⟨g3, o3, none⟩) l3.length c3, nv := .map (some nb), nc := if (n.namesM name).isSome then a.nc else a.nc + 1 }, rfl, rfl, rfl, ?_, ⟨?_, ?_, ?_, ?_⟩, ?_⟩
  · rcases hob with h | ⟨g, h1, h2⟩
    · exact .inl (by rw [← h]; exact ho3.symm)
    · exact .inr ⟨g3, rfl, by rw [ho3] at h1; cases h1; exact h2⟩
  · exact (hf5.block _ (hat_lt hh4) (by simp; exact Ne.symm hne)).trans hh4
  · exact hd4.fr hf5 (fun b hb => by have := (hdb b hb).2.1; simpa using this)
  · show GRow 9 1 w5 _ (some g3) (l3.set k3 name).length (strC (l3.set k3 name))
    rw [List.length_set, ← ho3]
    exact (hgk.congr (strC_set l3 k3 name hk3)).fr hf5 (fun b hb => by rw [ho3] at hb; cases hb; simpa using hng.2)
  · refine .inr ⟨nb, rfl, hnb, ?_⟩
    have e : Nd.namesM { n with slots := l3.set k3 name, size := sz, names := n.ins name i } = fun y => if y = name then some (.int .i64 i) else n.namesM y := (ins_map n name i).symm
    rw [e]
    exact hm5
  · refine ((hf3.mono (ex' := g3 :: a.g :: nb :: a.sb.toList) (fun k hk => .tail _ hk)).trans ((hf4.mono (by simp)).trans (hf5.mono (by simp)))).past fun k hk => ?_
    rcases List.mem_cons.1 hk with rfl | hk
    · rcases hob with h | ⟨g, h1, h2⟩
      · exact .inl (by rw [h] at ho3; rw [ho3]; simp)
      · exact .inr (by rw [ho3] at h1; cases h1; exact h2)
    · exact .inl hk
set_option maxHeartbeats 8000000 in
set_option maxRecDepth 100000 in
theorem set_any {w : World} {a : NA} {n : Nd} {nb : Nat} (h : NodeAt w a n) (hk : NOk n) (hs : ∀ s j, n.names s = some j → s ∈ n.slots) (hnb : a.nb = some nb) (hne : nb ≠ a.g) (hsb : ∀ b, a.sb = some b → b ≠ a.g ∧ b ≠ nb) (hdb : ∀ b, a.db = some b → b ≠ a.g ∧ b ≠ nb ∧ ∀ b', a.sb = some b' → b ≠ b')
    {k : Int} (hkk : k = n.slots.length ∧ n.slots.length < 1068 ∨ ∃ j : Nat, k = j ∧ j < n.slots.length) {name : ByteArray} (hkn : kStr.ok name) {i : Int} (hi : i64ok i) :
    Calls Tryd.prog 64 #[.pointer (some ⟨a.g, 0, none⟩), .int .i64 k, .string name, .int .i64 i] w fun e w' => e = .returned (.tuple #[]) ∧ ∃ a' : NA, a'.g = a.g ∧ a'.db = a.db ∧ a'.nb = a.nb ∧ (a'.sb = a.sb ∨ ∃ g, a'.sb = some g ∧ w.heap.size ≤ g) ∧ NodeAt w' a' (n.set k name i) ∧ Fr (a.g :: nb :: a.sb.toList) w w' := by
  have H := Lib.hid h
  have hh := h.h
  have hhl := hat_lt hh
  obtain ⟨sa, sc, hsv⟩ := h.s.slice
  rw [hsv] at hh
  have HSV := Lib.hid hsv
  have HNV := Lib.hid (show a.nv = .map (some nb) by rw [← hnb]; exact h.m.map)
  rw [HNV.out] at hh
  have HNC := Lib.hid (show a.nc ≤ 1068 from Nat.le_trans (names_few h hs) hk.sl)
  have HNB := Lib.hid hne
  have HDB := Lib.hid hdb
  have HMG := Lib.hid (show MG kStr w nb n.namesM a.nc by
    rcases h.m with ⟨-, h2, -⟩ | ⟨b, -, h2, h3⟩
    · rw [hnb] at h2; cases h2
    · rw [hnb] at h2; cases h2; exact h3)
  have hsm := hk.sl
  clear h hsv
  rcases hkk with ⟨rfl, hlt⟩ | ⟨k3, rfl, hk3⟩
  · obtain ⟨a2, c2, w2, ob2, hr2, hg2, hf2, ho2⟩ := push_g (show GRow 9 1 w (.slice sa n.slots.length sc) a.sb n.slots.length (strC n.slots) by rw [← HSV.out]; exact H.out.s) (by omega) emp 72
    have HR2 := Lib.hid hr2
    have hh2 : hat w2 a.g = some (.cells #[.int .i64 n.kind, .int .i64 n.links, .int .i64 n.size, .int .i64 n.made, a.dv, .slice sa n.slots.length sc, .map (some nb)] 74) := (hf2.block _ hhl (fun hm => (hsb a.g (by simpa using hm)).1 rfl)).trans hh
    have hh2l := hat_lt hh2
    have HF2 := Lib.hid hf2
    have HG2 := Lib.hid hg2
    have HO2 := Lib.hid ho2
    clear hr2 hf2 hg2 ho2
    go_enter Tryd.func64, Tryd.ntmps64
    go_upto_region 3 with (first | (at_builtin; refine wpList_append_run _ rfl _ _ 72 rfl _ _ rfl rfl _ _ HR2.out ?_) | fail)
    have hh3 : hat ((w2.setCell ⟨a.g, 5, none⟩ (.slice a2 (n.slots.length + 1) c2)).setCell ⟨a.g, 2, none⟩ (.int .i64 ((n.slots.length + 1) * 128))) a.g = some (.cells #[.int .i64 n.kind, .int .i64 n.links, .int .i64 ((n.slots.length + 1) * 128), .int .i64 n.made, a.dv, .slice a2 (n.slots.length + 1) c2, .map (some nb)] 74) :=
      hat_setCell_at _ _ _ _ _ _ _ (hat_setCell_at _ _ _ _ _ _ _ hh2)
    have hf3 : Fr [a.g] w2 ((w2.setCell ⟨a.g, 5, none⟩ (.slice a2 (n.slots.length + 1) c2)).setCell ⟨a.g, 2, none⟩ (.int .i64 ((n.slots.length + 1) * 128))) := (fr_setCell _ _ _ _).trans (fr_setCell _ _ _ _)
    generalize (w2.setCell ⟨a.g, 5, none⟩ (.slice a2 (n.slots.length + 1) c2)).setCell ⟨a.g, 2, none⟩ (.int .i64 ((n.slots.length + 1) * 128)) = w3 at *
    have hng2 : ∀ g, ob2 = some g → g ∉ [a.g] := fun g hg => by
      rcases HO2.out with h | ⟨g', h1, h2⟩
      · rw [h] at hg
        simpa using (hsb g hg).1
      · rw [hg] at h1
        cases h1
        simp; omega
    have HG3 := HG2.out.fr hf3 hng2
    have hfw : Fr (a.g :: nb :: a.sb.toList) w w3 := (HF2.out.mono (by simp; intro x hx; exact .inr (.inr hx))).trans (hf3.mono (by simp))
    have hlen2 : (n.slots ++ [emp]).length = n.slots.length + 1 := by simp
    have hM3 : MG kStr w3 nb n.namesM a.nc := (HMG.out.fr HF2.out (fun hm => (hsb nb (by simpa using hm)).2 rfl)).fr hf3 (by simpa using hne)
    have hD3 : MO kInt w3 a.dv a.db n.dataM a.dc := (H.out.d.fr HF2.out (fun b hb hm => (hdb b hb).2.2 b (by simpa using hm) rfl)).fr hf3 (fun b hb => by simpa using (hdb b hb).1)
    obtain ⟨g3, o3, c3, cs3, w5, hv3, hb3, hs3, hg3, hh4, hr5, a', h1, h2, h3, h4, h5, h6⟩ := set_tail (i := i) (n := n) (l3 := n.slots ++ [emp]) (k3 := n.slots.length) hh3 HG3 (by simp) hfw HO2.out hM3 hD3 HNC.out hnb hne hsb hdb ⟨hhl, HMG.out.lt, H.out.d.lt⟩ hkn
    have HRS := Lib.hid (show ∃ a' : NA, a'.g = a.g ∧ a'.db = a.db ∧ a'.nb = a.nb ∧ (a'.sb = a.sb ∨ ∃ g, a'.sb = some g ∧ w.heap.size ≤ g) ∧ NodeAt w5 a' (n.set n.slots.length name i) ∧ Fr (a.g :: nb :: a.sb.toList) w w5 from ⟨a', h1, h2, h3, h4, by rw [setN_app, ← app_set]; exact h5, h6⟩)
    rw [hlen2] at hv3 hs3
    rw [hv3] at hh3 hh4 ⊢
    obtain ⟨N, hN⟩ : ∃ x, x = n.slots.length := ⟨_, rfl⟩
    rw [← hN] at hs3 hh3 hh4 ⊢
    rw [← hN] at hr5
    have hk3i : (N : Int) < ((N + 1 : Nat) : Int) := by omega
    have hk3j : (N : Int) < (N : Int) + 1 := by omega
    have hk30 : (0 : Int) ≤ (N : Int) := by omega
    have hb3l := hat_lt hb3
    have hh3l := hat_lt hh3
    have hlk : o3 + N < cs3.size := by omega
    have hh4l := hat_lt hh4
    clear h1 h2 h3 h4 h5 h6 hv3 hh hhl HG3 hN hlen2 hM3 hD3 hfw hng2 hf3 hh2 hh2l hsm hlt
    go_upto_region 4 with fail
    generalize w3.setCell ⟨g3, o3 + N, none⟩ (.string name) = w4 at *
    clear hb3 hh3 hb3l hh3l
    go_wp2_with fail
    refine bodyPost_end (results_none rfl _ _ _) rfl ?_
    exact ⟨rfl, HRS.out⟩
  · obtain ⟨l3, hl3⟩ : ∃ l, l = n.slots := ⟨_, rfl⟩
    obtain ⟨sz, hsz⟩ : ∃ x, x = n.size := ⟨_, rfl⟩
    have HE := Lib.hid (show n.set k3 name i = { n with slots := l3.set k3 name, size := sz, names := n.ins name i } by rw [hl3, hsz]; exact setN_at n hk3 name i)
    have hh3 := hh
    rw [← hsz, ← hl3] at hh3
    have HG3 := Lib.hid (show GRow 9 1 w (.slice sa l3.length sc) a.sb l3.length (strC l3) by rw [hl3, ← HSV.out]; exact H.out.s)
    have hkz : ((k3 : Int) == (n.slots.length : Int)) = false := by simp; omega
    obtain ⟨g3, o3, c3, cs3, w5, hv3, hb3, hs3, hg3, hh4, hr5, a', h1, h2, h3, h4, h5, h6⟩ := set_tail (i := i) hh3 HG3.out (by rw [hl3]; exact hk3) (Fr.refl _ w) (.inl rfl) HMG.out H.out.d HNC.out hnb hne hsb hdb ⟨hhl, HMG.out.lt, H.out.d.lt⟩ hkn
    have HRS := Lib.hid (show ∃ a' : NA, a'.g = a.g ∧ a'.db = a.db ∧ a'.nb = a.nb ∧ (a'.sb = a.sb ∨ ∃ g, a'.sb = some g ∧ w.heap.size ≤ g) ∧ NodeAt w5 a' (n.set k3 name i) ∧ Fr (a.g :: nb :: a.sb.toList) w w5 from ⟨a', h1, h2, h3, h4, by rw [HE.out]; exact h5, h6⟩)
    rw [hv3] at hh3 hh4
    obtain ⟨N, hN⟩ : ∃ x, x = l3.length := ⟨_, rfl⟩
    have hNn : N = n.slots.length := by rw [hN, hl3]
    rw [← hl3, ← hN] at hkz
    rw [← hN] at hs3 hh3 hh4
    have hk3i : (k3 : Int) < (N : Int) := by omega
    have hk30 : (0 : Int) ≤ (k3 : Int) := by omega
    have hb3l := hat_lt hb3
    have hlk : o3 + k3 < cs3.size := by omega
    have hh4l := hat_lt hh4
    clear h1 h2 h3 h4 h5 h6 hv3 hh hhl HG3 hl3 hsz HE hN hNn
    go_enter Tryd.func64, Tryd.ntmps64
    go_upto_region 4 with fail
    generalize w.setCell ⟨g3, o3 + k3, none⟩ (.string name) = w4 at *
    clear hb3 hh3 hb3l
    go_wp2_with fail
    refine bodyPost_end (results_none rfl _ _ _) rfl ?_
    exact ⟨rfl, HRS.out⟩
end Go.Proofs.YteffoihkljkfdaaDoor
