/- Contracts and laws that the claim leans on, laid together in the order in which they build. -/
import Derived.Deep.AppendSrc
import Derived.Maps.AppendAt
import Derived.Deep.CutBlock
import Derived.Deep.CutRange
import Derived.Deep.RegionHeld3
import Derived.Lib.SlicesS
import Derived.Test.YteffoihkljkfdaaDoorRows
import Derived.Test.YteffoihkljkfdaaDoorShelf
import Derived.Deep.LoopGhost
import Derived.Lib.SplitLaws
import Derived.Lib.Join
import Derived.Test.YteffoihkljkfdaaDoorM01

/- Rows in any block. -/
namespace Go.Proofs.YteffoihkljkfdaaDoor
set_option linter.unusedSimpArgs false
set_option linter.unusedVariables false
open Go.RowKit

theorem add_none (g off j : Nat) : (⟨g, off, none⟩ : Addr).add j = ⟨g, off + j, none⟩ := by unfold Addr.add; split <;> simp_all
theorem fr_setCells (g : Nat) : ∀ (vs : List Value) (o : Nat) (w : World), Fr [g] w (w.setCells g o vs)
  | [], _, w => Fr.refl _ w
  | v :: r, o, w => (fr_setCell w g o v).trans (fr_setCells g r (o + 1) _)
theorem hat_setCells (g : Nat) (t : TypeId) (fr : Nat × Nat) : ∀ (vs : List Value) (o : Nat) (w : World) (cs : Array Value), hat w g = some (.cells cs t fr) → ∃ cs', hat (w.setCells g o vs) g = some (.cells cs' t fr) ∧ cs'.size = cs.size ∧
    (∀ j, j < o → cs'[j]? = cs[j]?) ∧ ∀ j v, vs[j]? = some v → o + j < cs.size → cs'[o + j]? = some v
  | [], o, w, cs, h => ⟨cs, h, rfl, fun _ _ => rfl, fun j v hv => by simp at hv⟩
  | x :: r, o, w, cs, h => by
    obtain ⟨cs', h1, h2, h3, h4⟩ := hat_setCells g t fr r (o + 1) _ _ (hat_setCell_at w g o x _ _ _ h)
    refine ⟨cs', h1, by rw [h2]; simp, fun j hj => ?_, fun j v hv hj => ?_⟩
    · rw [h3 j (by omega), Array.getElem?_setIfInBounds, if_neg (by omega)]
    · cases j with
      | zero =>
        simp at hv
        subst hv
        rw [Nat.add_zero] at hj ⊢
        rw [h3 o (by omega), Array.getElem?_setIfInBounds, if_pos rfl, if_pos hj]
      | succ j =>
        have := h4 j v (by simpa using hv) (by simp; omega)
        rw [show o + (j + 1) = o + 1 + j by omega]
        exact this
theorem wpList_append_run {P : Program} (w : World) {ops : Array Oper} {rest : List Oper} {o : Oper} {a : Act} {Q : Exit → Act → World → Prop} (hgd : o.guard = none) (s x : Operand) (t : TypeId)
    (ho : o.op = .call { callee := .builtin .append, args := #[s, x], argTypes := #[t, t] }) (v u : Value) (hs : a.eval s = v) (hx : a.eval x = u) (v' : Value) (w' : World)
    (hr : (Builtin.append_ #[t, t] o.type #[v, u]).run P w = .ok v' w') (h : wpList P ops Q rest (a.put o.dst v') w') : wpList P ops Q (o :: rest) a w := by
  refine wpList_plain hgd fun K hK => ?_
  unfold Oper.wp
  simp [execOp, ho, resolve, invoke, builtin, hs, hx, hr, Result.andThen]
  exact hK _ _ h
/-- the slice v lists n elements of type T, sz cells each; f: the cells; they lie in block ob -/
def GRow (T : TypeId) (sz : Nat) (w : World) (v : Value) (ob : Option Nat) (n : Nat) (f : Nat → Value) : Prop :=
  (v = .slice none 0 0 ∧ ob = none ∧ n = 0) ∨ ∃ g off c cs, v = .slice (some ⟨g, off, none⟩) n c ∧ ob = some g ∧ hat w g = some (.cells cs T) ∧ off + n * sz ≤ cs.size ∧ off + c * sz ≤ cs.size ∧ ∀ k, k < n * sz → cs[off + k]? = some (f k)
theorem GRow.lt {T : TypeId} {sz : Nat} {w : World} {v : Value} {ob : Option Nat} {n : Nat} {f : Nat → Value} (h : GRow T sz w v ob n f) : ∀ g, ob = some g → g < w.heap.size := by
  rintro g rfl
  rcases h with ⟨-, h, -⟩ | ⟨g', off, c, cs, -, h, h2, -⟩
  · cases h
  · cases h; exact hat_lt h2
theorem GRow.fr {T : TypeId} {sz : Nat} {w w' : World} {v : Value} {ob : Option Nat} {n : Nat} {f : Nat → Value} {ex : List Nat} (h : GRow T sz w v ob n f) (hf : Fr ex w w') (hn : ∀ g, ob = some g → g ∉ ex) : GRow T sz w' v ob n f := by
  rcases h with h | ⟨g, off, c, cs, h1, h2, h3, h4⟩
  · exact .inl h
  · exact .inr ⟨g, off, c, cs, h1, h2, (hf.block _ (hat_lt h3) (hn g h2)).trans h3, h4⟩
theorem GRow.slice {T : TypeId} {sz : Nat} {w : World} {v : Value} {ob : Option Nat} {n : Nat} {f : Nat → Value} (h : GRow T sz w v ob n f) : ∃ a c, v = .slice a n c := by
  rcases h with ⟨rfl, -, rfl⟩ | ⟨g, off, c, cs, rfl, -⟩
  · exact ⟨none, 0, rfl⟩
  · exact ⟨_, _, rfl⟩
theorem GRow.congr {T : TypeId} {sz : Nat} {w : World} {v : Value} {ob : Option Nat} {n : Nat} {f f' : Nat → Value} (h : GRow T sz w v ob n f) (he : ∀ k, k < n * sz → f k = f' k) : GRow T sz w v ob n f' := by
  rcases h with h | ⟨g, off, c, cs, h1, h2, h3, h4, h5, h6⟩
  · exact .inl h
  · exact .inr ⟨g, off, c, cs, h1, h2, h3, h4, h5, fun k hk => by rw [← he k hk]; exact h6 k hk⟩
/-- the first of them -/
theorem GRow.first {T : TypeId} {sz : Nat} {w : World} {g off n c : Nat} {f : Nat → Value} (ob : Option Nat) (h : GRow T sz w (.slice (some ⟨g, off, none⟩) n c) ob n f) {m : Nat} (hm : m ≤ n) : GRow T sz w (.slice (some ⟨g, off, none⟩) m c) ob m f := by
  rcases h with ⟨h, -⟩ | ⟨g', off', c', cs, e, h2, h3, h4, h5, h6⟩
  · cases h
  · injection e with e1 e2 e3
    injection e1 with e1
    injection e1 with p1 p2
    subst p1 p2 e3
    have h7 : m * sz ≤ n * sz := Nat.mul_le_mul_right _ hm
    exact .inr ⟨g, off, c, cs, rfl, h2, h3, by omega, h5, fun k hk => h6 k (by omega)⟩
/-- a list has grown: in its place, or it has moved -/
def Grew (w w' : World) (v v' : Value) (ob ob' : Option Nat) (n n' : Nat) : Prop :=
  (∃ a c, v' = .slice a n' c ∧ n' ≤ c) ∧ ((∃ a c, v = .slice a n c ∧ v' = .slice a n' c ∧ ob' = ob ∧ Fr ob.toList w w') ∨ ∃ g, ob' = some g ∧ w.heap.size ≤ g ∧ Fr [] w w')
theorem Grew.fr {w w' : World} {v v' : Value} {ob ob' : Option Nat} {n n' : Nat} (h : Grew w w' v v' ob ob' n n') : Fr ob.toList w w' := by
  rcases h.2 with ⟨a, c, -, -, -, h⟩ | ⟨g, -, -, h⟩
  · exact h
  · exact h.mono (by simp)
theorem Grew.ob {w w' : World} {v v' : Value} {ob ob' : Option Nat} {n n' : Nat} (h : Grew w w' v v' ob ob' n n') : ob' = ob ∨ ∃ g, ob' = some g ∧ w.heap.size ≤ g := by
  rcases h.2 with ⟨a, c, -, -, h, -⟩ | ⟨g, h1, h2, -⟩
  · exact .inl h
  · exact .inr ⟨g, h1, h2⟩
def catF (m : Nat) (f f2 : Nat → Value) : Nat → Value := fun k => if k < m then f k else f2 (k - m)
/-- a list appended to a list -/
theorem run_append_g {P : Program} {ST T : TypeId} {sz B : Nat} (ht : P.underlying ST = some (.slice T)) {inf : TypeInfo} {z : Value} (hi : P.info? T = some inf) (hz : inf.zero = some z) (hzs : z.cells.size = sz) (his : inf.size = sz) (hib : inf.bytes = B)
    {w : World} {v u : Value} {ob : Option Nat} {n m : Nat} {f f2 : Nat → Value} (h : GRow T sz w v ob n f) {news : List Value} (hs : Src P sz ST u m news w) (hnw : ∀ k, k < m * sz → news[k]? = some (f2 k)) (hB : 0 < B) (hn : (n + m) * B ≤ 140737488355328) (ty : TypeId) :
    ∃ v' w' ob', (Builtin.append_ #[ST, ST] ty #[v, u]).run P w = .ok v' w' ∧ GRow T sz w' v' ob' (n + m) (catF (n * sz) f f2) ∧ Grew w w' v v' ob ob' n (n + m) := by
  have hs' : Src P inf.size ST u m news w := by rw [his]; exact hs
  have hnl : news.length = m * sz := hs.newsLen
  by_cases hroom : ∃ g off c cs, v = .slice (some ⟨g, off, none⟩) n c ∧ ob = some g ∧ hat w g = some (.cells cs T) ∧ n + m ≤ c ∧ off + n * sz ≤ cs.size ∧ off + c * sz ≤ cs.size ∧ ∀ k, k < n * sz → cs[off + k]? = some (f k)
  · obtain ⟨g, off, c, cs, rfl, rfl, hg, hc, hnsz, hcsz, hf⟩ := hroom
    have hle : (n + m) * sz ≤ c * sz := Nat.mul_le_mul_right _ hc
    rw [Nat.add_mul] at hle
    have hr := run_append_room_src (P := P) w ST ST ty T inf ht hi g off n c u m news hs' hc
      (fun j hj => by
        rw [his, cell_hat hg, Array.getElem?_eq_getElem (by omega)]; rfl)
      (fun j hj => frozen_hat hg _)
    rw [his] at hr
    obtain ⟨cs', a1, a2, a3, a4⟩ := hat_setCells g T (0, 0) news (off + n * sz) w cs hg
    refine ⟨_, _, some g, hr, .inr ⟨g, off, c, cs', rfl, rfl, a1, by rw [a2, Nat.add_mul]; omega, by rw [a2]; exact hcsz, fun k hk => ?_⟩, ⟨⟨_, _, rfl, hc⟩, .inl ⟨_, _, rfl, rfl, rfl, (fr_setCells g _ _ _).mono (by simp)⟩⟩⟩
    unfold catF
    rw [Nat.add_mul] at hk
    by_cases hk1 : k < n * sz
    · rw [if_pos hk1, a3 _ (by omega)]
      exact hf k hk1
    · rw [if_neg hk1]
      have := a4 (k - n * sz) (f2 (k - n * sz)) (hnw _ (by omega)) (by omega)
      rw [show off + n * sz + (k - n * sz) = off + k by omega] at this
      exact this
  · by_cases h0 : v = .slice none 0 0 ∧ ob = none ∧ n = 0 ∧ m = 0
    · obtain ⟨rfl, rfl, rfl, rfl⟩ := h0
      have hnil : news = [] := List.eq_nil_of_length_eq_zero (by simpa using hnl)
      subst hnil
      refine ⟨.slice none 0 0, w, none, ?_, .inl ⟨rfl, rfl, rfl⟩, ⟨none, 0, rfl, Nat.le_refl _⟩, .inl ⟨none, 0, rfl, rfl, rfl, Fr.refl _ _⟩⟩
      have hc0 : (Builtin.firstCells inf.size 0 u).run P w = .ok #[] w := hs'.cells
      rcases hs'.kind with ⟨e', hk⟩ | hk <;> simp [Builtin.append_, run_underlying ht, run_underlying hk, sizeOf, typeInfo, hi, hs'.len, hc0]
    · have hpos : 0 < sz ∨ sz = 0 := by omega
      obtain ⟨base, cp, hv, hcp, olds, hol, hold, hof⟩ : ∃ base cp, v = .slice base n cp ∧ cp < n + m ∧ ∃ olds : List Value, olds.length = n * sz ∧ (Builtin.firstCells inf.size n (.slice base n cp)).run P w.drew = .ok olds.toArray w.drew ∧ ∀ k, k < n * sz → olds[k]? = some (f k) := by
        rcases h with ⟨rfl, rfl, rfl⟩ | ⟨g, off, c, cs, rfl, rfl, hg, hnsz, hcsz, hf⟩
        · refine ⟨none, 0, rfl, ?_, [], by simp, run_firstCells_none w.drew _ 0 0 0, fun k hk => by simp at hk⟩
          by_cases hm0 : m = 0
          · exact absurd ⟨rfl, rfl, rfl, hm0⟩ h0
          · omega
        · refine ⟨some ⟨g, off, none⟩, c, rfl, ?_, (cs.extract off (off + n * sz)).toList, by simp; omega, ?_, fun k hk => ?_⟩
          · exact Nat.lt_of_not_le fun hle => hroom ⟨g, off, c, cs, rfl, rfl, hg, hle, hnsz, hcsz, hf⟩
          · refine run_firstCells_some w.drew _ n ⟨g, off, none⟩ n c _ (by rw [his]; simp; omega) fun j x hj => ?_
            rw [add_none]
            show w.cell? _ = _
            rw [cell_hat hg]
            have hjl : j < n * sz := by
              have := (List.getElem?_eq_some_iff.1 hj).1
              simp at this; omega
            rw [Array.getElem?_toList, Array.getElem?_extract, if_pos (by omega)] at hj
            exact hj
          · rw [Array.getElem?_toList, Array.getElem?_extract, if_pos (by omega)]
            exact hf k hk
      subst hv
      have hle1 : (n + m) * 1 ≤ (n + m) * B := Nat.mul_le_mul_left _ hB
      have hr := run_append_grow_src (P := P) w ST ST ty T inf z ht hi hz base n cp olds hold u m news hs' hcp (by omega) (growslice_fits hcp (by rw [hib]; exact hn))
      have hge := grownCap_ge w (n + m) cp T
      have hle2 : (n + m) * sz ≤ grownCap w (n + m) cp T * sz := Nat.mul_le_mul_right _ hge
      rw [Nat.add_mul] at hle2
      have hsz : ((olds ++ news).toArray ++ Builtin.zeroCells z.cells (grownCap w (n + m) cp T - (n + m))).size = grownCap w (n + m) cp T * sz := by
        rw [Array.size_append, size_zeroCells, hzs, List.size_toArray, List.length_append, hol, hnl, Nat.sub_mul, Nat.add_mul]
        omega
      refine ⟨_, _, some w.heap.size, hr, .inr ⟨w.heap.size, 0, grownCap w (n + m) cp T, _, rfl, rfl, hat_alloc_at w.drew _ _ rfl, ?_, ?_, fun k hk => ?_⟩, ⟨⟨_, _, rfl, hge⟩, .inr ⟨_, rfl, Nat.le_refl _, ?_⟩⟩⟩
      · rw [hsz, Nat.add_mul]; omega
      · rw [hsz]; omega
      · rw [Nat.add_mul] at hk
        unfold catF
        rw [Nat.zero_add, Array.getElem?_append_left (by simp; omega), List.getElem?_toArray]
        by_cases hk1 : k < n * sz
        · rw [if_pos hk1, List.getElem?_append_left (by omega)]
          exact hof k hk1
        · rw [if_neg hk1, List.getElem?_append_right (by omega), hol]
          exact hnw _ (by omega)
      · exact fr_below (show Below w.heap.size w (w.drew.alloc _) from Below.alloc (show Below w.heap.size w w.drew from ⟨rfl, rfl, rfl, Nat.le_refl _, fun _ _ => rfl⟩) (Nat.le_refl _) _) _
/-- a list, as what is appended -/
theorem GRow.src {P : Program} {ST T : TypeId} {sz : Nat} (ht : P.underlying ST = some (.slice T)) {w : World} {v : Value} {ob : Option Nat} {n : Nat} {f : Nat → Value} (h : GRow T sz w v ob n f) (h1 : ∀ k, k < n * sz → (f k).oneCell' = true) :
    ∃ news, Src P sz ST v n news w ∧ ∀ k, k < n * sz → news[k]? = some (f k) := by
  rcases h with ⟨rfl, -, rfl⟩ | ⟨g, off, c, cs, rfl, -, hg, hnsz, hcsz, hf⟩
  · exact ⟨[], Src.ofNil w ht 0, fun k hk => by simp at hk⟩
  · have key : ∀ k x, (cs.extract off (off + n * sz)).toList[k]? = some x → k < n * sz ∧ cs[off + k]? = some x := fun k x hk => by
      have hkl : k < n * sz := by
        have := (List.getElem?_eq_some_iff.1 hk).1
        simp at this; omega
      rw [Array.getElem?_toList, Array.getElem?_extract, if_pos (by omega)] at hk
      exact ⟨hkl, hk⟩
    refine ⟨(cs.extract off (off + n * sz)).toList, Src.ofSlice w ht ⟨g, off, none⟩ n c _ (by simp; omega) (fun j x hj => ?_) (fun x hx => ?_), fun k hk => ?_⟩
    · rw [add_none, cell_hat hg]
      exact (key j x hj).2
    · obtain ⟨j, hj⟩ := List.getElem?_of_mem hx
      obtain ⟨hjl, hj2⟩ := key j x hj
      rw [hf j hjl] at hj2
      rw [← Option.some.inj hj2]
      exact h1 j hjl
    · rw [Array.getElem?_toList, Array.getElem?_extract, if_pos (by omega)]
      exact hf k hk
end Go.Proofs.YteffoihkljkfdaaDoor

/- A node's sectors are counted: one more (count's function). -/
namespace Go.Proofs.YteffoihkljkfdaaDoor
set_option linter.unusedSimpArgs false
set_option linter.unusedVariables false
open Go.RowKit

/-- a set of numbers, as a map -/
def setM (T : Int → Bool) : Int → Option Value := fun t => if T t = true then some (.bool true) else none
theorem setM_put (T : Int → Bool) (x : Int) : (fun y => if y = x then some (Value.bool true) else setM T y) = setM (fun t => T t || decide (t = x)) := by
  funext y
  unfold setM
  by_cases h : y = x
  · simp [h]
  · simp [h]
def addT (k : Int) (T : Int → Bool) : Int → Bool := fun t => T t || (decide (44 ≤ k) && (decide (t = -2) || decide (t = (k - 44) / 32))) || (decide (12 ≤ k) && decide (k < 44) && decide (t = -1))
/-- what count has in hand -/
structure Cnt (w : World) (ga gt bt : Nat) (n : Int) (T : Int → Bool) (c : Nat) : Prop where
  a : hat w ga = some (.cells #[.int .i64 n] 3)
  t : hat w gt = some (.cells #[.map (some bt)] 131)
  m : MG kInt w bt (setM T) c
  ne : ga ≠ gt ∧ ga ≠ bt ∧ gt ≠ bt
theorem Cnt.fr {w w' : World} {ga gt bt : Nat} {n : Int} {T : Int → Bool} {c : Nat} {ex : List Nat} (h : Cnt w ga gt bt n T c) (hf : Fr ex w w') (h1 : ga ∉ ex) (h2 : gt ∉ ex) (h3 : bt ∉ ex) : Cnt w' ga gt bt n T c :=
  ⟨(hf.block _ (hat_lt h.a) h1).trans h.a, (hf.block _ (hat_lt h.t) h2).trans h.t, h.m.fr hf h3, h.ne⟩
theorem set_put {w : World} {b c : Nat} {T : Int → Bool} (h : MG kInt w b (setM T) c) (hc : c ≤ 1000000) {x : Int} (hx : i64ok x) :
    ∃ w' c', (Instr.mapUpdate 131 (.map (some b)) (.int .i64 x) (.bool true)).run Tryd.prog w = .ok () w' ∧ MG kInt w' b (setM (fun t => T t || decide (t = x))) c' ∧ c' ≤ c + 1 ∧ Fr [b] w w' := by
  obtain ⟨w', hr, hm, ht⟩ := h.put Tryd.underlying131 (Nat.lt_of_le_of_lt hc (by decide)) (x := x) hx (.bool true)
  rw [setM_put] at hm
  refine ⟨w', _, hr, hm, ?_, fr_turned ht⟩
  split <;> omega
set_option maxHeartbeats 4000000 in
set_option maxRecDepth 100000 in
theorem add_any {w : World} {ga gt bt : Nat} {n : Int} {T : Int → Bool} {c : Nat} (h : Cnt w ga gt bt n T c) (hc : c ≤ 100000) (hn : 0 ≤ n ∧ n ≤ 100000) {k : Int} (hk : 0 ≤ k ∧ k ≤ 100000) :
    Calls Tryd.prog 75 #[.int .i64 k, .pointer (some ⟨ga, 0, none⟩), .pointer (some ⟨gt, 0, none⟩)] w fun e w' => e = .returned (.tuple #[]) ∧ ∃ c', Cnt w' ga gt bt (n + 1) (addT k T) c' ∧ c' ≤ c + 2 ∧ Fr [ga, bt] w w' := by
  have ha := h.a
  have ht := h.t
  have hal := hat_lt ha
  have htl := hat_lt ht
  have hne := h.ne
  have hf1 := fr_setCell w ga 0 (.int .i64 (n + 1))
  have ha1 : hat (w.setCell ⟨ga, 0, none⟩ (.int .i64 (n + 1))) ga = some (.cells #[.int .i64 (n + 1)] 3) := hat_setCell_at _ _ _ _ _ _ _ ha
  have ht1 := (hf1.block gt htl (by simpa using hne.1.symm)).trans ht
  have hm1 := h.m.fr hf1 (by simpa using hne.2.1.symm)
  have HF1 := Lib.hid hf1
  have HM1 := Lib.hid hm1
  have HA1 := Lib.hid ha1
  clear hf1 hm1 h
  by_cases h44 : 44 ≤ k
  · obtain ⟨w2, c2, hr2, hm2, hc2, hf2⟩ := set_put HM1.out (by omega) (x := -2) (by unfold i64ok; omega)
    have ht2 := (hf2.block gt (hat_lt ht1) (by simpa using hne.2.2)).trans ht1
    obtain ⟨w3, c3, hr3, hm3, hc3, hf3⟩ := set_put hm2 (by omega) (x := (k - 12 - 32) / 32) (by unfold i64ok; omega)
    have ht3 := (hf3.block gt (hat_lt ht2) (by simpa using hne.2.2)).trans ht2
    have ha3 := (hf3.block ga (by have := hat_lt ha1; have := hf2.size; omega) (by simpa using hne.2.1)).trans ((hf2.block ga (hat_lt ha1) (by simpa using hne.2.1)).trans ha1)
    have HE := Lib.hid (show (fun t => (T t || decide (t = -2)) || decide (t = (k - 12 - 32) / 32)) = addT k T from by
      funext t
      unfold addT
      have e1 : (k - 12 - 32) / 32 = (k - 44) / 32 := by rw [show k - 12 - 32 = k - 44 by omega]
      rw [e1]
      have e2 : ¬ k < 44 := by omega
      simp [h44, e2, Bool.or_assoc])
    have HM3 := Lib.hid hm3
    have HF3 := Lib.hid ((HF1.out.mono (ex' := [ga, bt]) (by simp)).trans ((hf2.mono (ex' := [ga, bt]) (by simp)).trans (hf3.mono (by simp))))
    have HA3 := Lib.hid ha3
    have HT3 := Lib.hid ht3
    have HC := Lib.hid (show c3 ≤ c + 2 by omega)
    clear hm2 hm3 hf2 hf3 ha3 ht3 hc2 hc3
    go_enter Tryd.func75, Tryd.ntmps75
    go_wp2_with fail
    refine bodyPost_end (results_none rfl _ _ _) rfl ?_
    exact ⟨rfl, c3, ⟨HA3.out, HT3.out, by rw [← HE.out]; exact HM3.out, hne⟩, HC.out, HF3.out⟩
  · by_cases h12 : 12 ≤ k
    · obtain ⟨w2, c2, hr2, hm2, hc2, hf2⟩ := set_put HM1.out (by omega) (x := -1) (by unfold i64ok; omega)
      have ht2 := (hf2.block gt (hat_lt ht1) (by simpa using hne.2.2)).trans ht1
      have ha2 := (hf2.block ga (hat_lt ha1) (by simpa using hne.2.1)).trans ha1
      have HE := Lib.hid (show (fun t => (T t || decide (t = -1))) = addT k T from by
        funext t
        unfold addT
        have e2 : k < 44 := by omega
        simp [h44, h12, e2])
      have HM3 := Lib.hid hm2
      have HF3 := Lib.hid ((HF1.out.mono (ex' := [ga, bt]) (by simp)).trans (hf2.mono (ex' := [ga, bt]) (by simp)))
      have HA3 := Lib.hid ha2
      have HT3 := Lib.hid ht2
      have HC := Lib.hid (show c2 ≤ c + 2 by omega)
      clear hm2 hf2 ha2 ht2 hc2
      go_enter Tryd.func75, Tryd.ntmps75
      go_wp2_with fail
      refine bodyPost_end (results_none rfl _ _ _) rfl ?_
      exact ⟨rfl, c2, ⟨HA3.out, HT3.out, by rw [← HE.out]; exact HM3.out, hne⟩, HC.out, HF3.out⟩
    · have HE := Lib.hid (show T = addT k T from by
        funext t
        unfold addT
        simp [h44, h12])
      have HT3 := Lib.hid ht1
      go_enter Tryd.func75, Tryd.ntmps75
      go_wp2_with fail
      refine bodyPost_end (results_none rfl _ _ _) rfl ?_
      exact ⟨rfl, c, ⟨HA1.out, HT3.out, by rw [← HE.out]; exact HM1.out, hne⟩, by omega, HF1.out.mono (by simp)⟩
end Go.Proofs.YteffoihkljkfdaaDoor

/- A node of a plain file system; how many sectors it has: plain. -/
namespace Go.Proofs.YteffoihkljkfdaaDoor
set_option linter.unusedSimpArgs false
set_option linter.unusedVariables false
open Go.RowKit

/-- a node -/
structure Nd where
  kind : Int
  links : Int
  size : Int
  made : Int
  data : Int → Option (List Int)
  slots : List ByteArray
  names : ByteArray → Option Int
/-- where it lies -/
structure NA where
  g : Nat
  (db nb sb : Option Nat)
  (dv nv sv : Value)
  (dc nc : Nat)
def Nd.dataM (n : Nd) : Int → Option Value := fun k => (n.data k).map fun s => .agg (IV .u8 s)
def Nd.namesM (n : Nd) : ByteArray → Option Value := fun s => (n.names s).map (Value.int .i64)
def Nd.cell (n : Nd) (i : Nat) : Value := .string (n.slots.getD i (ByteArray.mk #[]))
structure NodeAt (w : World) (a : NA) (n : Nd) : Prop where
  h : hat w a.g = some (.cells #[.int .i64 n.kind, .int .i64 n.links, .int .i64 n.size, .int .i64 n.made, a.dv, a.sv, a.nv] 74)
  d : MO kInt w a.dv a.db n.dataM a.dc
  s : GRow 9 1 w a.sv a.sb n.slots.length n.cell
  m : MO kStr w a.nv a.nb n.namesM a.nc
/-- a node is as it may be -/
structure NOk (n : Nd) : Prop where
  dk : ∀ k, (n.data k).isSome = true → 0 ≤ k ∧ k < 1068
  dl : ∀ k s, n.data k = some s → s.length = 128
  sl : n.slots.length ≤ 1068
theorem NodeAt.fr {w w' : World} {a : NA} {n : Nd} {ex : List Nat} (h : NodeAt w a n) (hf : Fr ex w w') (h1 : a.g ∉ ex) (h2 : ∀ b, a.db = some b → b ∉ ex) (h3 : ∀ b, a.sb = some b → b ∉ ex) (h4 : ∀ b, a.nb = some b → b ∉ ex) : NodeAt w' a n :=
  ⟨(hf.block _ (hat_lt h.h) h1).trans h.h, h.d.fr hf h2, h.s.fr hf h3, h.m.fr hf h4⟩
/-- how many of the first N -/
def cntB (N : Nat) (p : Int → Bool) : Nat := ((List.range N).filter fun (i : Nat) => p i).length
theorem cntB_step {N : Nat} {p : Int → Bool} {x : Int} (hx : 0 ≤ x ∧ x < N) (hp : p x = false) : cntB N (fun k => p k || decide (k = x)) = cntB N p + 1 := by
  obtain ⟨n, rfl⟩ : ∃ n : Nat, x = n := ⟨x.toNat, by omega⟩
  have hn : n < N := by omega
  unfold cntB
  clear hx
  induction N with
  | zero => omega
  | succ N ih =>
    rw [List.range_succ, List.filter_append, List.filter_append, List.length_append, List.length_append]
    by_cases h : n = N
    · subst h
      have e1 : ((List.range n).filter fun (i : Nat) => p i || decide ((i : Int) = n)) = (List.range n).filter fun (i : Nat) => p i := by
        apply List.filter_congr
        intro i hi
        have : i < n := List.mem_range.1 hi
        have : ¬ (i : Int) = n := by omega
        simp [this]
      rw [e1]
      simp [hp]
    · have e1 : ¬ (N : Int) = n := by omega
      rw [ih (by omega)]
      simp only [List.filter_cons, List.filter_nil, e1, decide_false, Bool.or_false]
      omega
theorem cntB_congr {N : Nat} {p q : Int → Bool} (h : ∀ k : Int, 0 ≤ k → k < N → p k = q k) : cntB N p = cntB N q := by
  unfold cntB
  rw [List.filter_congr]
  intro i hi
  have := List.mem_range.1 hi
  exact h i (by omega) (by omega)
theorem cntB_le (N : Nat) (p : Int → Bool) : cntB N p ≤ N := by
  have := List.length_filter_le (fun (i : Nat) => p i) (List.range N)
  unfold cntB
  simpa using this
theorem cntB_none {N : Nat} {p : Int → Bool} (h : ∀ k : Int, 0 ≤ k → k < N → p k = false) : cntB N p = 0 := by
  rw [cntB_congr (q := fun _ => false) h]
  simp [cntB]
/-- as many as a list without double ones has -/
theorem cntB_list {N : Nat} {p : Int → Bool} {l : List Int} (hd : l.Nodup) (hm : ∀ x, x ∈ l ↔ p x = true) (hb : ∀ x, p x = true → 0 ≤ x ∧ x < N) : cntB N p = l.length := by
  have e1 : ((List.range N).filter fun (i : Nat) => p i).map (fun (i : Nat) => (i : Int)) |>.Perm l := by
    refine (List.perm_ext_iff_of_nodup ?_ hd).2 fun x => ?_
    · refine List.Pairwise.map _ (fun a b h e => h (by omega)) ((List.nodup_range).filter _)
    · rw [List.mem_map, hm]
      constructor
      · rintro ⟨i, hi, rfl⟩
        exact (List.mem_filter.1 hi).2
      · intro hx
        obtain ⟨h0, h1⟩ := hb x hx
        refine ⟨x.toNat, List.mem_filter.2 ⟨List.mem_range.2 (by omega), ?_⟩, by omega⟩
        rw [show ((x.toNat : Nat) : Int) = x by omega]; exact hx
  have := e1.length_eq
  rw [List.length_map] at this
  exact this
/-- the tables that those of V want -/
def tabV (V : Int → Bool) (t : Int) : Bool := (List.range 1068).any fun (k : Nat) => V k && addT k (fun _ => false) t
theorem tabV_step {V : Int → Bool} {x : Int} (hx : 0 ≤ x ∧ x < 1068) : addT x (tabV V) = tabV (fun k => V k || decide (k = x)) := by
  funext t
  obtain ⟨n, rfl⟩ : ∃ n : Nat, x = n := ⟨x.toNat, by omega⟩
  have e1 : addT (n : Int) (tabV V) t = (tabV V t || addT n (fun _ => false) t) := by
    unfold addT
    cases tabV V t <;> simp
  rw [e1, Bool.eq_iff_iff]
  unfold tabV
  rw [Bool.or_eq_true, List.any_eq_true, List.any_eq_true]
  constructor
  · rintro (⟨k, hk, h⟩ | h)
    · refine ⟨k, hk, ?_⟩
      rw [Bool.and_eq_true] at h ⊢
      exact ⟨by show (V k || _) = true; rw [h.1]; rfl, h.2⟩
    · refine ⟨n, List.mem_range.2 (by omega), ?_⟩
      rw [Bool.and_eq_true]
      exact ⟨by simp, h⟩
  · rintro ⟨k, hk, h⟩
    rw [Bool.and_eq_true, Bool.or_eq_true] at h
    rcases h with ⟨h1 | h1, h2⟩
    · exact .inl ⟨k, hk, by rw [h1, h2]; rfl⟩
    · have : (k : Int) = n := by simpa using h1
      rw [this] at h2
      exact .inr h2
theorem tabV_congr {V V' : Int → Bool} (h : ∀ k : Int, 0 ≤ k → k < 1068 → V k = V' k) : tabV V = tabV V' := by
  funext t
  unfold tabV
  rw [Bool.eq_iff_iff, List.any_eq_true, List.any_eq_true]
  constructor <;> rintro ⟨k, hk, hh⟩ <;> refine ⟨k, hk, ?_⟩ <;> have := List.mem_range.1 hk
  · rw [← h k (by omega) (by omega)]; exact hh
  · rw [h k (by omega) (by omega)]; exact hh
theorem tabV_none : tabV (fun _ => false) = fun _ => false := by
  funext t
  unfold tabV
  simp
theorem tabV_range {V : Int → Bool} {t : Int} (h : tabV V t = true) : -2 ≤ t ∧ t < 38 := by
  unfold tabV at h
  obtain ⟨k, hk, h⟩ := List.any_eq_true.1 h
  have hk := List.mem_range.1 hk
  unfold addT at h
  simp at h
  omega
/-- which blocks a node has -/
def Nd.has (n : Nd) : Int → Bool := fun k => (n.data k).isSome || decide (0 ≤ k ∧ k < n.slots.length)
/-- how many sectors a node has -/
def Nd.count (n : Nd) : Int := ((cntB 1068 (fun k => (n.data k).isSome) + n.slots.length + cntB 40 (fun j => tabV n.has (j - 2)) : Nat) : Int)
theorem Nd.count_le {n : Nd} (h : NOk n) : 0 ≤ n.count ∧ n.count ≤ 3000 := by
  have h1 := cntB_le 1068 (fun k => (n.data k).isSome)
  have h2 := cntB_le 40 (fun j => tabV n.has (j - 2))
  have h3 := h.sl
  unfold Nd.count
  omega
/-- as many entries as the tables are -/
theorem tabs_len {w : World} {b c : Nat} {V : Int → Bool} (h : MG kInt w b (setM (tabV V)) c) : c = cntB 40 (fun j => tabV V (j - 2)) := by
  obtain ⟨l, h1, h2, h3⟩ := h.keys
  have h4 : ∀ x, x ∈ l ↔ tabV V x = true := fun x => by
    rw [h3]
    unfold setM
    split <;> simp_all
  rw [cntB_list (l := l.map (· + 2)) (List.Pairwise.map _ (fun a b h e => h (by omega)) h1) (fun x => ?_) (fun x hx => ?_), List.length_map, h2]
  · rw [List.mem_map]
    constructor
    · rintro ⟨y, hy, rfl⟩
      rw [show y + 2 - 2 = y by omega]; exact (h4 y).1 hy
    · intro hx
      exact ⟨x - 2, (h4 _).2 hx, by omega⟩
  · have := tabV_range hx
    omega
end Go.Proofs.YteffoihkljkfdaaDoor

/- How many sectors a node has: the walk. -/
namespace Go.Proofs.YteffoihkljkfdaaDoor
set_option linter.unusedSimpArgs false
set_option linter.unusedVariables false
open Go.RowKit

theorem ret_intP {a b : Int} {k : IntKind} (h : a = b) : Ending.returned (.int k a) = .returned (.int k b) := by rw [h]
theorem Fr.bl {w w' : World} (h : Fr [] w w') : Below w.heap.size w w' := h.below (Nat.le_refl _) (by simp)
/-- which blocks have been counted -/
def vis (n : Nd) (left : Int → Bool) : Int → Bool := fun k => (n.data k).isSome && !left k
theorem vis_start (n : Nd) : vis n (fun x => (n.dataM x).isSome) = fun _ => false := by
  funext k
  unfold vis Nd.dataM
  cases h : n.data k <;> simp [h]
theorem vis_step {n : Nd} {left : Int → Bool} {x : Int} (hs : (n.data x).isSome = true) (hl : left x = true) : vis n (fun y => left y && !decide (y = x)) = fun k => vis n left k || decide (k = x) := by
  funext k
  unfold vis
  by_cases h : k = x
  · subst h; simp [hs]
  · simp [h]
set_option maxHeartbeats 8000000 in
set_option maxRecDepth 100000 in
theorem count_any {w : World} {a : NA} {n : Nd} (h : NodeAt w a n) (hn : NOk n) : Calls Tryd.prog 55 #[.pointer (some ⟨a.g, 0, none⟩)] w fun e w' => e = .returned (.int .i64 n.count) ∧ Below w.heap.size w w' := by
  have hb0 : Below w.heap.size w (((w.alloc (.map #[] 0)).alloc (.cells #[.map (some w.heap.size)] 131)).alloc (.cells #[.int .i64 0] 3)) := (((Below.refl w.heap.size w).alloc (Nat.le_refl _) _).alloc (by simp) _).alloc (by simp; omega) _
  have HH := Lib.hid h
  have hf0 := fr_below hb0 []
  have H0 := Lib.hid (h.fr hf0 (by simp) (fun _ _ => by simp) (fun _ _ => by simp) (fun _ _ => by simp))
  have hsz : ((w.alloc (.map #[] 0)).alloc (.cells #[.map (some w.heap.size)] 131)).heap.size = w.heap.size + 1 + 1 := by simp
  have hC : Cnt (((w.alloc (.map #[] 0)).alloc (.cells #[.map (some w.heap.size)] 131)).alloc (.cells #[.int .i64 0] 3)) (w.heap.size + 1 + 1) (w.heap.size + 1) w.heap.size 0 (fun _ => false) 0 := by
    refine ⟨?_, ?_, ?_, by omega, by omega, by omega⟩
    · rw [← hsz]; exact (hopN _ _).1
    · have := (hopN (w.alloc (.map #[] 0)) (.cells #[.map (some w.heap.size)] 131)).1
      rw [show (w.alloc (.map #[] 0)).heap.size = w.heap.size + 1 by simp] at this
      exact (hopA _ _ this).1
    · have e1 : setM (fun _ => false) = fun _ => none := by funext t; simp [setM]
      rw [e1]
      exact (MG.made (E := kInt) w).fr ((fr_new _ _ []).trans (fr_new _ _ [])) (by simp)
  have HC0 := Lib.hid hC
  have HB0 := Lib.hid hb0
  have hmm := @run_makeMap Tryd.prog
  have hmf : ∀ (fn : Fn) (first cap : Array Value) (w : World), (Instr.makeFunc fn first cap).run Tryd.prog w = .ok (.func fn first cap) w := fun _ _ _ _ => rfl
  clear hf0 hC hsz hb0
  go_enter Tryd.func55, Tryd.ntmps55
  go_upto_region 4 with fail
  clear hmm hmf
  generalize ((w.alloc (.map #[] 0)).alloc (.cells #[.map (some w.heap.size)] 131)).alloc (.cells #[.int .i64 0] 3) = w0 at *
  have HN : Hid (a.g < w.heap.size) := Lib.hid (hat_lt h.h)
  obtain ⟨bt, hbt⟩ : ∃ x, x = w.heap.size := ⟨_, rfl⟩
  obtain ⟨ga, hga⟩ : ∃ x, x = w.heap.size + 1 + 1 := ⟨_, rfl⟩
  obtain ⟨gt, hgt⟩ : ∃ x, x = w.heap.size + 1 := ⟨_, rfl⟩
  rw [← hga, ← hgt, ← hbt] at HC0 ⊢
  have HNM := Lib.hid (show bt = w.heap.size ∧ ga = w.heap.size + 1 + 1 ∧ gt = w.heap.size + 1 from ⟨hbt, hga, hgt⟩)
  have hh0 := H0.out.h
  have hl0 := hat_lt hh0
  have hdv := H0.out.d.map
  rw [hdv] at hh0
  have hsl := H0.out.s.slice
  obtain ⟨sa, sc, hsl⟩ := hsl
  rw [hsl] at hh0
  have HDV := Lib.hid hdv
  have HSL := Lib.hid hsl
  clear hdv hsl hbt hga hgt h
  go_wp2_with (first | (at_range; refine wpList_range_mo rfl _ _ rfl Tryd.underlying71 rfl (show MO kInt w0 (.map a.db) a.db n.dataM a.dc by rw [← HDV.out]; exact H0.out.d) ?_; intro w1 cnt hmr hf hs) | fail)
  go_frame
  obtain ⟨r, hr⟩ : ∃ x, x = w0.heap.size := ⟨_, rfl⟩
  rw [← hr] at hmr ⊢
  have HR := Lib.hid (show w.heap.size ≤ r ∧ ga < r ∧ gt < r ∧ bt < r from by
    have h1 := HNM.out
    have h2 := hat_lt HC0.out.a
    omega)
  have HS := Lib.hid (show MRO kInt w1 a.db r n.dataM a.dc (fun x => (n.dataM x).isSome) cnt from hmr)
  have HC1 := Lib.hid (HC0.out.fr hf (by simp) (by simp) (by simp))
  have HF1 := Lib.hid ((fr_below HB0.out []).trans hf)
  clear hmr hs hr hf hh0 hl0 HB0
  go_loopw [6] (fun v6 wr => ∃ (left : Int → Bool) (cnt c : Nat), Hid (MRO kInt wr a.db r n.dataM a.dc left cnt) ∧ Hid (Cnt wr ga gt bt ((cntB 1068 (vis n left) : Nat) : Int) (tabV (vis n left)) c) ∧ Hid (c ≤ 2 * cntB 1068 (vis n left)) ∧ Hid (Fr [] w wr)) (fun _ wr => wr.rangeLeft (a.db.getD 0) r)
  case atStart =>
    refine ⟨_, _, 0, HS, ?_, Lib.hid (Nat.zero_le _), HF1⟩
    have h1 := HC1.out
    rw [vis_start, tabV_none, cntB_none (fun _ _ _ => rfl)]
    exact Lib.hid h1
  case round =>
    obtain ⟨left, cnt, c, HMR, HC, HCC, HF⟩ := hrel
    go_wp2_with (first | (at_next; refine wpList_next_mo rfl _ rfl rfl HMR.out ?_ ?_) | fail)
    · intro hl0
      have HN2 := Lib.hid (HH.out.fr HF.out (by simp) (fun _ _ => by simp) (fun _ _ => by simp) (fun _ _ => by simp))
      have hv : vis n left = fun k => (n.data k).isSome := by
        funext k
        unfold vis
        rw [hl0 k]; simp
      have hC := HC.out
      have hCC := HCC.out
      rw [hv] at hC hCC
      have HC := Lib.hid hC
      have HCC := Lib.hid hCC
      clear hC hCC HMR hl0 hv
      have hh := HN2.out.h
      rw [HDV.out, HSL.out] at hh
      have hhl := hat_lt hh
      have hsl := HN2.out.s
      go_wp2_with fail
      go_loopw [27] (fun v27 wr => ∃ (i c : Nat), v27 = .int .i64 i ∧ i ≤ n.slots.length ∧ Hid (Cnt wr ga gt bt ((cntB 1068 (fun k => (n.data k).isSome) + i : Nat) : Int) (tabV (fun k => (n.data k).isSome || decide (0 ≤ k ∧ k < i))) c) ∧ Hid (c ≤ 2 * (cntB 1068 (fun k => (n.data k).isSome) + i)) ∧ Hid (Fr [] w wr)) (fun v _ => n.slots.length - (intOf v).toNat)
      case atStart =>
        refine ⟨0, c, rfl, by omega, ?_, Lib.hid (by have := HCC.out; omega), HF⟩
        have h1 := HC.out
        rw [tabV_congr (V' := fun k => (n.data k).isSome || decide (0 ≤ k ∧ k < ((0 : Nat) : Int))) (fun k h0 _ => by
          have : ¬ (0 ≤ k ∧ k < ((0 : Nat) : Int)) := by omega
          show _ = (_ || decide _)
          rw [decide_eq_false this, Bool.or_false])] at h1
        exact Lib.hid h1
      case round =>
        obtain ⟨i, c2, rfl, hi, HCi, HCCi, HFi⟩ := hrel
        have hi0 : (0 : Int) ≤ (i : Int) := Int.natCast_nonneg _
        have hcb := cntB_le 1068 (fun k => (n.data k).isSome)
        have hsm := hn.sl
        by_cases hlt : i < n.slots.length
        · have hi1 : (i : Int) < (n.slots.length : Int) := by omega
          go_wp2_with fail
          refine (add_any HCi.out (by have := HCCi.out; omega) ⟨by omega, by omega⟩ ⟨hi0, by omega⟩).mono ?_; rintro e w3 ⟨rfl, c', hc', hle, hf3⟩
          have HF3 := Lib.hid ((((HFi.out.mono (ex' := [ga, bt]) (by simp)).trans (hf3.mono (ex' := [ga, bt]) (by simp))).past (ex' := []) (fun g hg => .inr (by
            have h1 := HNM.out
            simp at hg; omega))))
          have hc2 : Cnt w3 ga gt bt ((cntB 1068 (fun k => (n.data k).isSome) + (i + 1) : Nat) : Int) (tabV (fun k => (n.data k).isSome || decide (0 ≤ k ∧ k < ((i + 1 : Nat) : Int)))) c' := by
            rw [tabV_step ⟨hi0, by omega⟩] at hc'
            have e1 : (fun k => (n.data k).isSome || decide (0 ≤ k ∧ k < ((i + 1 : Nat) : Int))) = (fun k => ((n.data k).isSome || decide (0 ≤ k ∧ k < (i : Int))) || decide (k = (i : Int))) := by
              funext k
              rw [Bool.or_assoc]
              congr 1
              rw [← Bool.decide_or]
              apply decide_eq_decide.2
              omega
            rw [e1]
            have e2 : ((cntB 1068 (fun k => (n.data k).isSome) + (i + 1) : Nat) : Int) = ((cntB 1068 (fun k => (n.data k).isSome) + i : Nat) : Int) + 1 := by omega
            rw [e2]
            exact hc'
          have HC3 := Lib.hid hc2
          have HL3 := Lib.hid (show c' ≤ 2 * (cntB 1068 (fun k => (n.data k).isSome) + (i + 1)) by have := HCCi.out; omega)
          clear hc' hle hf3 hc2
          go_wp2_with fail
          go_roundw
          case rel => exact ⟨i + 1, c', by go_num, by omega, HC3, HL3, HF3⟩
          case measure => (show n.slots.length - (i + 1) < n.slots.length - i); omega
        · obtain rfl : i = n.slots.length := by omega
          have hhas : (fun k => (n.data k).isSome || decide (0 ≤ k ∧ k < ((n.slots.length : Nat) : Int))) = n.has := rfl
          have hC := HCi.out
          rw [hhas] at hC
          have hlen := hC.m.len Tryd.underlying131 3
          have hca := hC.a
          have hct := hC.t
          have hal := hat_lt hca
          have htl := hat_lt hct
          have HTL := Lib.hid (tabs_len hC.m)
          have htb := cntB_le 40 (fun j => tabV n.has (j - 2))
          have hcc : c2 ≤ 40 := by have := HTL.out; omega
          clear hC hhas
          go_wp2_with fail
          go_ret
          refine ⟨?_, HFi.out.bl⟩
          rw [HTL.out]
          refine ret_intP ?_
          unfold Nd.count
          push_cast
          omega
    · intro x v w2 cnt' b hx hl hm hmr hlt hf hs hen hob
      have hdx : (n.data x).isSome = true := by
        cases hd : n.data x with
        | none => unfold Nd.dataM at hm; rw [hd] at hm; cases hm
        | some s => rfl
      have hxr := hn.dk x hdx
      have hvx : vis n left x = false := by unfold vis; rw [hl]; simp
      have HC2 := Lib.hid (HC.out.fr hf (by have := HR.out; simp; omega) (by have := HR.out; simp; omega) (by have := HR.out; simp; omega))
      have HF2 := Lib.hid ((HF.out.mono (ex' := [r]) (by simp)).trans hf)
      have hxi : i64ok x := hx
      have HM2 := Lib.hid hmr
      have hcb := cntB_le 1068 (vis n left)
      have hcc := HCC.out
      obtain ⟨xk, hxk⟩ : ∃ y, kInt.kv x = y := ⟨_, rfl⟩
      have HLT := Lib.hid hlt
      have HML := Lib.hid (show w2.rangeLeft (a.db.getD 0) r = cnt' ∧ wr.rangeLeft (a.db.getD 0) r = cnt from by
        have e1 := HM2.out
        have e2 := HMR.out
        rw [hob] at e1 e2 ⊢
        exact ⟨e1.left_eq, e2.left_eq⟩)
      have hen2 : (Instr.entry (.pointer (some ⟨r, 0, none⟩))).run Tryd.prog w2 = .ok (.tuple #[.int .i64 x, v]) w2 := hen
      have HOB := Lib.hid hob
      clear hen hmr hf hxk hlt hob
      go_wp2_with fail
      refine (add_any HC2.out (by omega) ⟨by omega, by omega⟩ ⟨hxr.1, by omega⟩).mono ?_; rintro e w3 ⟨rfl, c', hc', hle, hf3⟩
      have HM3 := Lib.hid (HM2.out.fr hf3 (fun b hb => by
        have h1 := HH.out.d.lt b hb
        have h2 := HNM.out
        simp; omega) (by have := HR.out; simp; omega))
      have HF3 := Lib.hid ((((HF2.out.mono (ex' := [r, ga, bt]) (by simp)).trans (hf3.mono (ex' := [r, ga, bt]) (by simp))).past (ex' := []) (fun g hg => .inr (by
        have h1 := HNM.out
        have h2 := HR.out
        simp at hg; omega))) )
      have hc2 : Cnt w3 ga gt bt ((cntB 1068 (vis n (fun y => left y && !decide (y = x))) : Nat) : Int) (tabV (vis n (fun y => left y && !decide (y = x)))) c' := by
        rw [vis_step hdx hl, cntB_step (by omega) hvx, ← tabV_step hxr]
        exact hc'
      have HC3 := Lib.hid hc2
      have HL3 : Hid (c' ≤ 2 * cntB 1068 (vis n (fun y => left y && !decide (y = x)))) := Lib.hid (by
        rw [vis_step hdx hl, cntB_step (by omega) hvx]; omega)
      have HML3 := Lib.hid (show w3.rangeLeft (a.db.getD 0) r = cnt' from by
        have e1 := HM3.out
        rw [HOB.out] at e1 ⊢
        exact e1.left_eq)
      clear hc' hle hf3 hc2 hcc
      go_wp2_with fail
      go_roundw
      case rel => exact ⟨_, cnt', c', HM3, HC3, HL3, HF3⟩
      case measure =>
        rw [HML3.out, HML.out.2]
        exact HLT.out
end Go.Proofs.YteffoihkljkfdaaDoor

/- A plain file system, and where it lies. -/
namespace Go.Proofs.YteffoihkljkfdaaDoor
set_option linter.unusedSimpArgs false
set_option linter.unusedVariables false
open Go.RowKit

structure PS where
  sectors : Int
  inodes : Int
  nodes : Int → Option Nd
def ptrM (S : PS) (A : Int → NA) : Int → Option Value := fun i => (S.nodes i).map fun _ => .pointer (some ⟨(A i).g, 0, none⟩)
/-- it is as it may be (numbers alone) -/
structure POk (S : PS) : Prop where
  s : 8 ≤ S.sectors ∧ S.sectors ≤ 4096
  i : 1 ≤ S.inodes ∧ S.inodes ≤ 512
  k : ∀ i, (S.nodes i).isSome = true → 1 ≤ i ∧ i ≤ S.inodes
  n : ∀ i n, S.nodes i = some n → NOk n
/-- it lies in the blocks that own tells -/
structure PT (w : World) (gp bn c : Nat) (S : PS) (A : Int → NA) (own : Nat → Option (Int × Nat)) : Prop where
  p : hat w gp = some (.cells #[.int .i64 S.sectors, .int .i64 S.inodes, .map (some bn)] 77)
  m : MG kInt w bn (ptrM S A) c
  n : ∀ i n, S.nodes i = some n → NodeAt w (A i) n
  op : own gp = some (-1, 0) ∧ own bn = some (-1, 1)
  og : ∀ i n, S.nodes i = some n → own (A i).g = some (i, 0) ∧ (∀ b, (A i).db = some b → own b = some (i, 1)) ∧ (∀ b, (A i).sb = some b → own b = some (i, 2)) ∧ ∀ b, (A i).nb = some b → own b = some (i, 3)
/-- nothing of what is not there turned -/
theorem PT.fr {w w' : World} {gp bn c : Nat} {S : PS} {A : Int → NA} {own : Nat → Option (Int × Nat)} {ex : List Nat} (h : PT w gp bn c S A own) (hf : Fr ex w w') (hx : ∀ b ∈ ex, own b = none) : PT w' gp bn c S A own := by
  have k : ∀ b t, own b = some t → b ∉ ex := fun b t hb hm => by rw [hx b hm] at hb; cases hb
  exact ⟨(hf.block _ (hat_lt h.p) (k _ _ h.op.1)).trans h.p, h.m.fr hf (k _ _ h.op.2), fun i n hi => (h.n i n hi).fr hf (k _ _ (h.og i n hi).1) (fun b hb => k _ _ ((h.og i n hi).2.1 b hb)) (fun b hb => k _ _ ((h.og i n hi).2.2.1 b hb)) (fun b hb => k _ _ ((h.og i n hi).2.2.2 b hb)), h.op, h.og⟩
theorem PT.cnt {w : World} {gp bn c : Nat} {S : PS} {A : Int → NA} {own : Nat → Option (Int × Nat)} (h : PT w gp bn c S A own) (hS : POk S) : c = cntB 513 (fun i => (S.nodes i).isSome) := by
  obtain ⟨l, h1, h2, h3⟩ := h.m.keys
  rw [← h2]
  refine (cntB_list h1 (fun x => ?_) (fun x hx => ?_)).symm
  · rw [h3]
    unfold ptrM
    cases S.nodes x <;> simp
  · have := hS.k x hx
    have := hS.i
    omega
/-- a sum over the first N -/
def sumB (N : Nat) (f : Int → Int) : Int := ((List.range N).map fun (i : Nat) => f i).sum
theorem sumB_congr {N : Nat} {f g : Int → Int} (h : ∀ k : Int, 0 ≤ k → k < N → f k = g k) : sumB N f = sumB N g := by
  unfold sumB
  congr 1
  refine List.map_congr_left fun i hi => ?_
  have := List.mem_range.1 hi
  exact h i (by omega) (by omega)
theorem sumB_succ (N : Nat) (f : Int → Int) : sumB (N + 1) f = sumB N f + f N := by
  unfold sumB
  rw [List.range_succ, List.map_append, List.sum_append]
  simp
/-- one term differs -/
theorem sumB_step {N : Nat} {f g : Int → Int} {x : Int} (hx : 0 ≤ x ∧ x < N) (h : ∀ k, k ≠ x → g k = f k) : sumB N g = sumB N f + (g x - f x) := by
  induction N with
  | zero => omega
  | succ N ih =>
    rw [sumB_succ, sumB_succ]
    by_cases hN : x = (N : Int)
    · subst hN
      rw [sumB_congr (f := g) (g := f) (fun k h0 h1 => h k (by omega))]
      omega
    · rw [ih (by omega), h N (fun e => hN e.symm)]
      omega
theorem sumB_zero (N : Nat) : sumB N (fun _ => 0) = 0 := by
  induction N with
  | zero => rfl
  | succ N ih => rw [sumB_succ, ih]; rfl
theorem sumB_le {N : Nat} {f : Int → Int} {B : Int} (h : ∀ k, 0 ≤ f k ∧ f k ≤ B) : 0 ≤ sumB N f ∧ sumB N f ≤ N * B := by
  induction N with
  | zero => simp [sumB]
  | succ N ih =>
    rw [sumB_succ]
    have := h N
    have e : ((N + 1 : Nat) : Int) * B = N * B + B := by rw [show ((N + 1 : Nat) : Int) = (N : Int) + 1 by omega, Int.add_mul]; omega
    rw [e]
    omega
def ncount : Option Nd → Int
  | some n => n.count
  | none => 0
/-- how many data sectors all have -/
def PS.used (S : PS) : Int := sumB 513 fun i => ncount (S.nodes i)
end Go.Proofs.YteffoihkljkfdaaDoor

/- used, Room: the walks. -/
namespace Go.Proofs.YteffoihkljkfdaaDoor
set_option linter.unusedSimpArgs false
set_option linter.unusedVariables false
open Go.RowKit

theorem ncount_le {S : PS} (hS : POk S) (i : Int) : 0 ≤ ncount (S.nodes i) ∧ ncount (S.nodes i) ≤ 3000 := by
  cases h : S.nodes i with
  | none => exact ⟨Int.le_refl _, by show (0 : Int) ≤ _; omega⟩
  | some n => exact Nd.count_le (hS.n i n h)
/-- what has been added up -/
def upto (S : PS) (left : Int → Bool) : Int := sumB 513 fun i => if left i = true then 0 else ncount (S.nodes i)
theorem upto_le {S : PS} (hS : POk S) (left : Int → Bool) : 0 ≤ upto S left ∧ upto S left ≤ 513 * 3000 := by
  refine sumB_le (N := 513) (B := 3000) fun k => ?_
  have := ncount_le hS k
  split <;> omega
theorem upto_step {S : PS} {left : Int → Bool} {x : Int} (hx : 0 ≤ x ∧ x < 513) (hl : left x = true) : upto S (fun y => left y && !decide (y = x)) = upto S left + ncount (S.nodes x) := by
  unfold upto
  rw [sumB_step (x := x) (f := fun i => if left i = true then 0 else ncount (S.nodes i)) hx (fun k hk => by simp [hk])]
  simp [hl]
set_option maxHeartbeats 8000000 in
set_option maxRecDepth 100000 in
theorem used_any {w : World} {gp bn c : Nat} {S : PS} {A : Int → NA} {own : Nat → Option (Int × Nat)} (h : PT w gp bn c S A own) (hS : POk S) : Calls Tryd.prog 28 #[.pointer (some ⟨gp, 0, none⟩)] w fun e w' => e = .returned (.int .i64 S.used) ∧ Below w.heap.size w w' := by
  have H := Lib.hid h
  have hp := h.p
  have hpl := hat_lt hp
  have hmo : MO kInt w (.map (some bn)) (some bn) (ptrM S A) c := .inr ⟨bn, rfl, rfl, h.m⟩
  have HMO := Lib.hid hmo
  have HBN := Lib.hid (h.m.lt)
  clear hmo h
  go_enter Tryd.func28, Tryd.ntmps28
  go_wp2_with (first | (at_range; refine wpList_range_mo rfl _ _ rfl Tryd.underlying75 rfl HMO.out ?_; intro w1 cnt hmr hf hs) | fail)
  go_frame
  obtain ⟨r, hr⟩ : ∃ x, x = w.heap.size := ⟨_, rfl⟩
  rw [← hr] at hmr ⊢
  have HR := Lib.hid hr
  have HS := Lib.hid hmr
  have HF1 := Lib.hid hf
  clear hmr hs hr hf
  go_loopw [3] (fun v wr => ∃ (left : Int → Bool) (cnt : Nat), v = .int .i64 (upto S left) ∧ Hid (MRO kInt wr (some bn) r (ptrM S A) c left cnt) ∧ Hid (Fr [] w wr)) (fun _ wr => wr.rangeLeft bn r)
  case atStart =>
    refine ⟨_, cnt, ?_, HS, HF1⟩
    have e : upto S (fun x => (ptrM S A x).isSome) = 0 := by
      unfold upto
      rw [sumB_congr (g := fun _ => 0) (fun k _ _ => by
        unfold ptrM
        cases hq : S.nodes k <;> simp [ncount, hq]), sumB_zero]
    rw [e]
  case round =>
    obtain ⟨left, cnt, rfl, HMR, HF⟩ := hrel
    have hub := upto_le hS left
    go_wp2_with (first | (at_next; refine wpList_next_mo rfl _ rfl rfl HMR.out ?_ ?_) | fail)
    · intro hl0
      have e : upto S left = S.used := by
        unfold upto PS.used
        exact sumB_congr (fun k _ _ => by rw [hl0 k]; rfl)
      have HE := Lib.hid e
      clear hl0 HMR e
      go_wp2_with fail
      go_ret
      exact ⟨by rw [HE.out]; rfl, HF.out.bl⟩
    · intro x v w2 cnt' b hx hl hm hmr hlt hf hs hen hob
      obtain ⟨nd, hnd⟩ : ∃ nd, S.nodes x = some nd := by
        cases hd : S.nodes x with
        | none => unfold ptrM at hm; rw [hd] at hm; cases hm
        | some s => exact ⟨s, rfl⟩
      have hv : v = .pointer (some ⟨(A x).g, 0, none⟩) := by
        unfold ptrM at hm
        rw [hnd] at hm
        exact (Option.some.inj hm).symm
      subst hv
      have hxr := hS.k x (by rw [hnd]; rfl)
      have hxi := hS.i
      have hst := upto_step (S := S) (left := left) (x := x) (by omega) hl
      rw [hnd] at hst
      have hnc := Nd.count_le (hS.n x nd hnd)
      have HF2 := Lib.hid ((((HF.out.mono (ex' := [r]) (by simp)).trans hf).past (ex' := []) (fun g hg => .inr (by simp at hg; rw [hg, HR.out]; exact Nat.le_refl _))))
      have HN := Lib.hid ((H.out.fr HF2.out (by simp)).n x nd hnd)
      have HM2 := Lib.hid hmr
      have HLT := Lib.hid (show w2.rangeLeft bn r = cnt' ∧ wr.rangeLeft bn r = cnt ∧ cnt' < cnt from ⟨hmr.left_eq, HMR.out.left_eq, hlt⟩)
      have HST := Lib.hid hst
      have HK := Lib.hid (hS.n x nd hnd)
      have hen2 : (Instr.entry (.pointer (some ⟨r, 0, none⟩))).run Tryd.prog w2 = .ok (.tuple #[.int .i64 x, .pointer (some ⟨(A x).g, 0, none⟩)]) w2 := hen
      clear hen hmr hf hlt hob hm hl hst hnd
      go_wp2_with fail
      refine (count_any HN.out HK.out).mono ?_; rintro e w3 ⟨rfl, hb3⟩
      have HM3 := Lib.hid (HM2.out.fr (fr_below hb3 []) (by simp) (by simp))
      have HF3 := Lib.hid (HF2.out.trans (fr_below hb3 []))
      have HL3 := Lib.hid (show w3.rangeLeft bn r = cnt' from HM3.out.left_eq)
      clear hb3
      go_wp2_with fail
      go_roundw
      case rel => exact ⟨_, cnt', by rw [HST.out]; rfl, HM3, HF3⟩
      case measure =>
        rw [HL3.out, HLT.out.2.1]
        exact HLT.out.2.2
/-- what a cell holds -/
def cf (w : World) (g i : Nat) : Value := (w.cell? ⟨g, i, none⟩).getD undef
theorem cf_at {w : World} {g i : Nat} {cs : Array Value} {t : TypeId} {fr : Nat × Nat} {v : Value} (h : hat w g = some (.cells cs t fr)) (hv : cs[i]? = some v) : cf w g i = v := by
  unfold cf
  rw [cell_hat h, hv]; rfl
theorem cf3 {w : World} {g : Nat} {a b c : Value} {t : TypeId} (h : hat w g = some (.cells #[a, b, c] t)) : hat w g = some (.cells #[cf w g 0, cf w g 1, cf w g 2] t) := by
  rw [cf_at (i := 0) h rfl, cf_at (i := 1) h rfl, cf_at (i := 2) h rfl]
  exact h
def PS.free (S : PS) : Int := S.sectors - 1 - S.inodes - S.used
def PS.left (S : PS) : Int := S.inodes - (cntB 513 (fun i => (S.nodes i).isSome) : Nat)
theorem PS.used_le {S : PS} (hS : POk S) : 0 ≤ S.used ∧ S.used ≤ 513 * 3000 := by
  refine sumB_le (N := 513) (B := 3000) fun k => ncount_le hS k
def set3 (w : World) (g : Nat) (a b c : Value) : World := ((w.setCell ⟨g, 0, none⟩ a).setCell ⟨g, 1, none⟩ b).setCell ⟨g, 2, none⟩ c
theorem set3_fr (w : World) (g : Nat) (a b c : Value) : Fr [g] w (set3 w g a b c) := ((fr_setCell w g 0 a).trans (fr_setCell _ g 1 b)).trans (fr_setCell _ g 2 c)
theorem set3_at {w : World} {g : Nat} {x y z a b c : Value} {t : TypeId} (h : hat w g = some (.cells #[x, y, z] t)) : hat (set3 w g a b c) g = some (.cells #[a, b, c] t) := by
  unfold set3
  obtain ⟨cs, h1, h2, h3, h4⟩ := hat_setCells g t (0, 0) [a, b, c] 0 w _ h
  have e : w.setCells g 0 [a, b, c] = ((w.setCell ⟨g, 0, none⟩ a).setCell ⟨g, 1, none⟩ b).setCell ⟨g, 2, none⟩ c := rfl
  rw [← e, h1]
  congr 2
  have k : ∀ j, j < 3 → cs[j]? = #[a, b, c][j]? := fun j hj => by
    match j, hj with
    | 0, _ => exact h4 0 _ rfl (by show 0 + 0 < 3; decide)
    | 1, _ => exact h4 1 _ rfl (by show 0 + 1 < 3; decide)
    | 2, _ => exact h4 2 _ rfl (by show 0 + 2 < 3; decide)
  apply Array.ext_getElem?
  intro j
  by_cases hj : j < 3
  · exact k j hj
  · rw [Array.getElem?_eq_none (by rw [h2]; simp; omega), Array.getElem?_eq_none (by simp; omega)]
set_option maxHeartbeats 8000000 in
set_option maxRecDepth 100000 in
theorem room_any {w : World} {gp bn c : Nat} {S : PS} {A : Int → NA} {own : Nat → Option (Int × Nat)} (h : PT w gp bn c S A own) (hS : POk S) : Calls Tryd.prog 13 #[.pointer (some ⟨gp, 0, none⟩)] w fun e w' => e = .returned (.agg #[.int .i64 S.free, .int .i64 0, .int .i64 S.left]) ∧ Below w.heap.size w w' := by
  have H := Lib.hid h
  have hp := h.p
  have hpl := hat_lt hp
  have HLT := Lib.hid (show gp < w.heap.size ∧ bn < w.heap.size from ⟨hpl, h.m.lt⟩)
  have hc := h.cnt hS
  have hx0 : hat (w.alloc (.cells #[.int .i64 0, .int .i64 0, .int .i64 0] 42)) w.heap.size = some (.cells #[.int .i64 0, .int .i64 0, .int .i64 0] 42) := (hopN w _).1
  have hf0 := fr_new w (.cells #[.int .i64 0, .int .i64 0, .int .i64 0] 42) []
  have H0 := Lib.hid (h.fr hf0 (by simp))
  have HF0 := Lib.hid hf0
  have hp0 := H0.out.p
  have m0 := H0.out.m
  have hus := PS.used_le hS
  obtain ⟨hss1, hss2⟩ := hS.s
  obtain ⟨hsi1, hsi2⟩ := hS.i
  obtain ⟨hus1, hus2⟩ := hus
  have HC := Lib.hid hc
  have hcb := cntB_le 513 (fun i => (S.nodes i).isSome)
  rw [← hc] at hcb
  clear hf0 h hc hp hpl
  go_enter Tryd.func13, Tryd.ntmps13
  go_upto_region 1 with fail
  generalize w.alloc (.cells #[.int .i64 0, .int .i64 0, .int .i64 0] 42) = w0 at *
  obtain ⟨gr, hgr⟩ : ∃ x, x = w.heap.size := ⟨_, rfl⟩
  rw [← hgr] at hx0 ⊢
  have hxl := hat_lt hx0
  have hpl := hat_lt hp0
  have HGR := Lib.hid hgr
  clear hgr
  have HPD := Lib.hid (show hat w0.drew gp = some (.cells #[.int .i64 S.sectors, .int .i64 S.inodes, .map (some bn)] 77) from hp0)
  have HXD := Lib.hid (show hat w0.drew gr = some (.cells #[.int .i64 0, .int .i64 0, .int .i64 0] 42) from hx0)
  have HUS := Lib.hid (used_any (H0.out.fr (fr_drew (Fr.refl [] w0)) (by simp)) hS)
  have HD := Lib.hid (H0.out.fr (fr_drew (Fr.refl [] w0)) (by simp))
  have hxc := cf3 hx0
  have HNE := Lib.hid (show gp ≠ gr ∧ bn ≠ gr from by
    have h1 := HGR.out
    have h2 := HLT.out
    omega)
  have hml : (Builtin.len_ #[75] 3 #[.map (some bn)]).run Tryd.prog w0.drew = .ok (.int .i64 c) w0.drew := HD.out.m.len Tryd.underlying75 3
  go_region_held3 (fun w' => hat w' gp = some (.cells #[.int .i64 S.sectors, .int .i64 S.inodes, .map (some bn)] 77) ∧ hat w' gr = some (.cells #[cf w' gr 0, cf w' gr 1, cf w' gr 2] 42) ∧ (Builtin.len_ #[75] 3 #[.map (some bn)]).run Tryd.prog w' = .ok (.int .i64 c) w') (first | assumption | (refine ⟨?_, ?_, ?_⟩; (first | assumption | exact ((set3_fr _ gr _ _ _).block gp (hat_lt p1) (by have := HNE.out.1; simpa using this)).trans p1 | fail); (first | assumption | exact cf3 (set3_at x1) | fail); (first | assumption | exact (MG.fr m1 (set3_fr _ gr _ _ _) (by have := HNE.out.2; simpa using this)).len Tryd.underlying75 3 | fail)))
    (first
      | (with_reducible refine HUS.out.mono ?_; rintro e w1 ⟨rfl, hb1⟩; have p1 := (hop hb1 HPD.out).1; have x1 := cf3 (hop hb1 HXD.out).1; have HB1 := Lib.hid hb1; have m1 := (HD.out.fr (fr_below hb1 []) (by simp)).m; have l1 := m1.len Tryd.underlying75 3)
      | fail)
  have q1 := set3_at (a := .int .i64 S.free) (b := .int .i64 0) (c := .int .i64 S.left) x1
  have e1 : IntKind.i64.wrap (IntKind.i64.wrap (IntKind.i64.wrap (S.sectors - 1) - S.inodes) - S.used) = S.free := by
    unfold PS.free
    rw [IntWalk.i64_in (S.sectors - 1) ⟨by omega, by omega⟩, IntWalk.i64_in (S.sectors - 1 - S.inodes) ⟨by omega, by omega⟩, IntWalk.i64_in _ ⟨by omega, by omega⟩]
  have e2 : IntKind.i64.wrap (S.inodes - c) = S.left := by
    unfold PS.left
    rw [← HC.out, IntWalk.i64_in _ ⟨by omega, by omega⟩]
  rw [e1, e2]
  have q2 : Below w.heap.size w (set3 w1 gr (.int .i64 S.free) (.int .i64 0) (.int .i64 S.left)) := by
    refine Fr.below (ex := [gr]) ?_ (Nat.le_refl _) (by have := HGR.out; simp; omega)
    refine ((fr_drew (Fr.mono HF0.out (ex' := [gr]) (by simp))).trans (fr_below hb1 [gr])).trans (set3_fr _ _ _ _ _)
  have HQ1 := Lib.hid q1
  have HQ2 := Lib.hid q2
  clear q1 q2 e1 e2 x1 m1 l1 hb1 HB1 p1 hx0 hp0 m0 hxc hml HPD HXD HUS HD H0 H hxl hpl
  have e3 : ((w1.setCell { block := gr, off := 0 } (Value.int IntKind.i64 S.free)).setCell { block := gr, off := 1 } (Value.int IntKind.i64 0)).setCell { block := gr, off := 2 } (Value.int IntKind.i64 S.left) = set3 w1 gr (.int .i64 S.free) (.int .i64 0) (.int .i64 S.left) := rfl
  rw [e3]
  generalize set3 w1 gr (.int .i64 S.free) (.int .i64 0) (.int .i64 S.left) = w2 at *
  go_wp2_with fail
  refine ret_c (n := 3) (rowTy Tryd.underlying42 rfl (by kernel_rfl)) rfl (cs := #[.int .i64 S.free, .int .i64 0, .int .i64 S.left]) rfl HQ1.out rfl rfl ⟨rfl, HQ2.out⟩
end Go.Proofs.YteffoihkljkfdaaDoor

/- What the operations do: plain. -/
namespace Go.Proofs.YteffoihkljkfdaaDoor
set_option linter.unusedSimpArgs false
set_option linter.unusedVariables false
open Go.RowKit

def emp : ByteArray := ByteArray.mk #[]
def Nd.nil : Nd := ⟨0, 0, 0, 0, fun _ => none, [], fun _ => none⟩
def PS.nd (S : PS) (i : Int) : Nd := (S.nodes i).getD Nd.nil
def PS.put (S : PS) (i : Int) (o : Option Nd) : PS := { S with nodes := fun j => if j = i then o else S.nodes j }
/-- the least inode that is free; 0: none -/
def PS.freeI (S : PS) : Int := ((List.range 513).find? fun (i : Nat) => decide (2 ≤ i) && decide ((i : Int) ≤ S.inodes) && (S.nodes i).isNone).getD 0
def PS.walk (S : PS) : List ByteArray → Int → Int × Int
  | [], i => (i, 0)
  | s :: l, i => if (S.nd i).kind ≠ 2 then (0, 113) else match (S.nd i).names s with
    | none => (0, 110)
    | some j => S.walk l j
structure Last where
  d : Int
  name : ByteArray
  e : Int
def PS.last (S : PS) (l : List ByteArray) : Last :=
  if l = [] then ⟨0, emp, 143⟩ else ⟨(S.walk l.dropLast 1).1, l.getLastD emp, if (S.walk l.dropLast 1).2 = 0 ∧ (S.nd (S.walk l.dropLast 1).1).kind ≠ 2 then 113 else (S.walk l.dropLast 1).2⟩
def moreN (d : Nd) : Nd := { Nd.nil with slots := d.slots ++ [emp] }
/-- the least place of a directory, or what stops it -/
def PS.place (S : PS) (d : Nd) : Int × Int :=
  if 0 ≤ Lib.idxOfS d.slots emp then (Lib.idxOfS d.slots emp, 0) else if d.slots.length = 1068 then (0, 112)
  else if S.free < (moreN d).count - d.count then (0, 80) else (d.slots.length, 0)
def Nd.ins (d : Nd) (name : ByteArray) (i : Int) : ByteArray → Option Int := fun s => if s = name then some i else d.names s
def Nd.set (d : Nd) (k : Int) (name : ByteArray) (i : Int) : Nd :=
  if k = d.slots.length then { d with slots := d.slots ++ [name], size := (d.slots.length + 1) * 128, names := d.ins name i }
  else { d with slots := d.slots.set k.toNat name, names := d.ins name i }
def Nd.clr (d : Nd) (name : ByteArray) : Nd := { d with slots := d.slots.set (Lib.idxOfS d.slots name).toNat emp, names := fun s => if s = name then none else d.names s }
/-- one entry less -/
def PS.less (S : PS) (i : Int) : PS :=
  if (S.nd i).links - 1 = 0 ∨ (S.nd i).kind = 2 then S.put i none else S.put i (some { S.nd i with links := (S.nd i).links - 1 })
structure Sta where
  ino : Int
  kind : Int
  links : Int
  size : Int
  made : Int
  blocks : Int
def Sta.val (s : Sta) : Value := .agg #[.int .i64 s.ino, .int .i64 s.kind, .int .i64 s.links, .int .i64 s.size, .int .i64 s.made, .int .i64 s.blocks]
def Sta.zero : Sta := ⟨0, 0, 0, 0, 0, 0⟩
structure Ans where
  code : Int
  stat : Sta
  data : List Int
  ents : List (ByteArray × Int × Int)
def Ans.err (e : Int) : Ans := ⟨e, Sta.zero, [], []⟩
def PS.stat (S : PS) (i : Int) : Sta := ⟨i, (S.nd i).kind, (S.nd i).links, (S.nd i).size, (S.nd i).made, (S.nd i).count⟩
def freshN (kind made : Int) : Nd := ⟨kind, 1, 0, made, fun _ => none, [], fun _ => none⟩
def PS.make (S : PS) (l : List ByteArray) (kind made : Int) : PS × Ans :=
  if (S.last l).e ≠ 0 then (S, .err (S.last l).e)
  else if ((S.nd (S.last l).d).names (S.last l).name).isSome then (S, .err 111)
  else if S.freeI = 0 then (S, .err 81)
  else if (S.place (S.nd (S.last l).d)).2 ≠ 0 then (S, .err (S.place (S.nd (S.last l).d)).2)
  else
    let T := (S.put S.freeI (some (freshN kind made))).put (S.last l).d (some ((S.nd (S.last l).d).set (S.place (S.nd (S.last l).d)).1 (S.last l).name S.freeI))
    (T, ⟨0, T.stat S.freeI, [], []⟩)
def zero128 : List Int := List.replicate 128 0
/-- a sector with bytes laid over it -/
def lay (off : Int) (data : List Int) (k : Int) (s : List Int) : List Int :=
  (List.range 128).map fun (j : Nat) => if off ≤ 128 * k + j ∧ 128 * k + j < off + data.length then data.getD (128 * k + j - off).toNat 0 else s.getD j 0
/-- is a block touched by bytes? -/
def touched (off len k : Int) : Bool := decide (0 < len ∧ off / 128 ≤ k ∧ k ≤ (off + len - 1) / 128)
def Nd.wrote (n : Nd) (off : Int) (data : List Int) : Nd :=
  { n with data := fun k => if touched off data.length k = true then some (lay off data k ((n.data k).getD zero128)) else n.data k, size := if data = [] then n.size else max n.size (off + data.length) }
def PS.write (S : PS) (i off : Int) (data : List Int) : PS × Int :=
  if off < 0 ∨ 131072 < (data.length : Int) ∨ 136704 - (data.length : Int) < off then (S, 101)
  else if S.free < ((S.nd i).wrote off data).count - (S.nd i).count then (S, 80)
  else (S.put i (some ((S.nd i).wrote off data)), 0)
def Nd.byte (n : Nd) (x : Int) : Int := ((n.data (x / 128)).getD zero128).getD (x % 128).toNat 0
def Nd.read (n : Nd) (off most : Int) : Ans :=
  if off < 0 ∨ most < 0 ∨ 131072 < most then .err 101
  else if n.size ≤ off then .err 0
  else ⟨0, Sta.zero, (List.range (min most (n.size - off)).toNat).map fun (j : Nat) => n.byte (off + j), []⟩
def cutS (size k : Int) (s : List Int) : List Int := if k * 128 + 128 > size then (List.range 128).map fun (j : Nat) => if k * 128 + j < size then s.getD j 0 else 0 else s
def Nd.trunc (n : Nd) (size : Int) : Nd :=
  { n with size := size, data := fun k => if size ≤ k * 128 then none else (n.data k).map (cutS size k) }
end Go.Proofs.YteffoihkljkfdaaDoor

/- A plain file system is as it may be: what the operations keep. -/
namespace Go.Proofs.YteffoihkljkfdaaDoor
set_option linter.unusedSimpArgs false
set_option linter.unusedVariables false
open Go.RowKit

/-- a node of S is as it may be -/
structure NWf (S : PS) (n : Nd) : Prop where
  kd : n.kind = 1 ∨ n.kind = 2
  lk : 1 ≤ n.links ∧ n.links ≤ 100
  sz : 0 ≤ n.size ∧ n.size ≤ 136704
  md : 0 ≤ n.made ∧ n.made ≤ 1099511627776
  fl : n.kind = 1 → n.slots = [] ∧ ∀ s, n.names s = none
  dr : n.kind = 2 → (∀ k, n.data k = none) ∧ n.size = 128 * n.slots.length
  nm : ∀ s j, n.names s = some j → s ∈ n.slots ∧ s.size ≤ 40 ∧ 0 < s.size ∧ (S.nodes j).isSome = true
  sn : ∀ s ∈ n.slots, 0 < s.size → (n.names s).isSome = true
  nd : (n.slots.filter fun s => decide (0 < s.size)).Nodup
  db : ∀ k s, n.data k = some s → k * 128 < n.size ∧ (∀ b ∈ s, 0 ≤ b ∧ b < 256) ∧ ∀ j : Nat, n.size ≤ 128 * k + j → s.getD j 0 = 0
structure PWf (S : PS) : Prop where
  root : ∃ n, S.nodes 1 = some n ∧ n.kind = 2
  n : ∀ i n, S.nodes i = some n → NWf S n
theorem PS.nd_some {S : PS} {i : Int} {n : Nd} (h : S.nodes i = some n) : S.nd i = n := by unfold PS.nd; rw [h]; rfl
theorem PS.nd_get {S : PS} {i : Int} (h : (S.nodes i).isSome = true) : S.nodes i = some (S.nd i) := by
  unfold PS.nd
  cases hn : S.nodes i with
  | none => rw [hn] at h; cases h
  | some n => rfl
theorem PS.put_same (S : PS) (i : Int) (o : Option Nd) : (S.put i o).nodes i = o := by show (if i = i then o else _) = o; rw [if_pos rfl]
theorem PS.put_other (S : PS) {i j : Int} (o : Option Nd) (h : j ≠ i) : (S.put i o).nodes j = S.nodes j := by show (if j = i then o else _) = _; rw [if_neg h]
theorem size_pos_ne {s : ByteArray} (h : 0 < s.size) : s ≠ emp := fun e => by rw [e] at h; exact absurd h (by decide)
theorem emp_size : emp.size = 0 := rfl
theorem size_zero {s : ByteArray} (h : s.size = 0) : s = emp := by
  cases s with
  | mk d =>
    show ByteArray.mk d = ByteArray.mk #[]
    rw [show d = #[] from Array.eq_empty_of_size_eq_zero h]
theorem walk_there {S : PS} (hS : PWf S) : ∀ (l : List ByteArray) (i : Int), (S.nodes i).isSome = true → (S.walk l i).2 = 0 → (S.nodes (S.walk l i).1).isSome = true
  | [], i, h, _ => h
  | s :: l, i, h, h2 => by
    unfold PS.walk at h2 ⊢
    split at h2
    · cases h2
    · rename_i hk
      rw [if_neg hk]
      cases hn : (S.nd i).names s with
      | none => rw [hn] at h2; cases h2
      | some j =>
        rw [hn] at h2
        exact walk_there hS l j ((hS.n i _ (PS.nd_get h)).nm s j hn).2.2.2 h2
theorem walk_code (S : PS) : ∀ (l : List ByteArray) (i : Int), ((S.walk l i).2 = 0 ∨ (S.walk l i).2 = 110 ∨ (S.walk l i).2 = 113) ∧ ((S.walk l i).2 ≠ 0 → (S.walk l i).1 = 0)
  | [], i => ⟨.inl rfl, fun h => absurd rfl h⟩
  | s :: l, i => by
    unfold PS.walk
    split
    · exact ⟨.inr (.inr rfl), fun _ => rfl⟩
    · cases hn : (S.nd i).names s with
      | none => exact ⟨.inr (.inl rfl), fun _ => rfl⟩
      | some j => exact walk_code S l j
theorem root_there {S : PS} (hS : PWf S) : (S.nodes 1).isSome = true := by
  obtain ⟨n, h, -⟩ := hS.root
  rw [h]; rfl
theorem last_ok {S : PS} (hS : PWf S) {l : List ByteArray} (h : (S.last l).e = 0) : (S.nodes (S.last l).d).isSome = true ∧ (S.nd (S.last l).d).kind = 2 ∧ (S.last l).name ∈ l := by
  unfold PS.last at h ⊢
  by_cases hl : l = []
  · rw [if_pos hl] at h; cases h
  · rw [if_neg hl] at h ⊢
    simp only at h ⊢
    have h0 : (S.walk l.dropLast 1).2 = 0 := by
      split at h
      · cases h
      · exact h
    refine ⟨walk_there hS _ _ (root_there hS) h0, ?_, ?_⟩
    · by_cases hk : (S.nd (S.walk l.dropLast 1).1).kind = 2
      · exact hk
      · rw [if_pos ⟨h0, hk⟩] at h; cases h
    · cases l with
      | nil => exact absurd rfl hl
      | cons a r => rw [List.getLastD_cons]; exact List.getLastD_mem_cons ..
theorem place_ok {S : PS} {d : Nd} (hd : d.slots.length ≤ 1068) (h : (S.place d).2 = 0) :
    ((S.place d).1 = d.slots.length ∧ d.slots.length < 1068 ∧ emp ∉ d.slots) ∨ ∃ k : Nat, (S.place d).1 = k ∧ k < d.slots.length ∧ d.slots = d.slots.take k ++ emp :: d.slots.drop (k + 1) := by
  unfold PS.place at h ⊢
  by_cases h1 : 0 ≤ Lib.idxOfS d.slots emp
  · rw [if_pos h1]
    right
    have hm := (Lib.idxOfS_nonneg_iff _ _).1 h1
    obtain ⟨k, hk, he, hlt⟩ : ∃ k, k < d.slots.length ∧ d.slots.getD k ByteArray.empty = emp ∧ ∀ j, j < k → d.slots.getD j ByteArray.empty ≠ emp := by
      have hex : ∃ k, k < d.slots.length ∧ d.slots.getD k ByteArray.empty = emp := by
        obtain ⟨k, hk, he⟩ := List.getElem_of_mem hm
        exact ⟨k, hk, by rw [List.getD_eq_getElem?_getD, List.getElem?_eq_getElem hk]; exact he⟩
      have key : ∀ n, (∃ k, k < n ∧ k < d.slots.length ∧ d.slots.getD k ByteArray.empty = emp) → ∃ k, k < d.slots.length ∧ d.slots.getD k ByteArray.empty = emp ∧ ∀ j, j < k → d.slots.getD j ByteArray.empty ≠ emp := by
        intro n
        induction n with
        | zero => rintro ⟨k, h, -⟩; omega
        | succ n ih =>
          rintro ⟨k, hk, h2, h3⟩
          by_cases hb : ∃ k, k < n ∧ k < d.slots.length ∧ d.slots.getD k ByteArray.empty = emp
          · exact ih hb
          · refine ⟨k, h2, h3, fun j hj he => hb ⟨j, by omega, by omega, he⟩⟩
      obtain ⟨k, hk, he⟩ := hex
      exact key (k + 1) ⟨k, by omega, hk, he⟩
    refine ⟨k, ?_, hk, ?_⟩
    · have := Lib.idxOfS_hit d.slots d.slots.length k emp hk (Nat.le_refl _) he hlt
      rw [List.take_length] at this
      exact this
    · have e1 : d.slots[k] = emp := by rw [List.getD_eq_getElem?_getD, List.getElem?_eq_getElem hk] at he; exact he
      rw [← e1, ← List.drop_eq_getElem_cons hk, List.take_append_drop]
  · rw [if_neg h1] at h ⊢
    left
    by_cases h2 : d.slots.length = 1068
    · rw [if_pos h2] at h; cases h
    · rw [if_neg h2] at h ⊢
      split at h
      · cases h
      · rename_i h3
        rw [if_neg h3]
        exact ⟨rfl, by omega, fun hm => h1 ((Lib.idxOfS_nonneg_iff _ _).2 hm)⟩
/-- a directory with an entry more -/
theorem set_wf {S S' : PS} {d : Nd} (h : NWf S d) (hok : NOk d) (hk : d.kind = 2) {k : Int} (hp : (k = d.slots.length ∧ d.slots.length < 1068 ∧ emp ∉ d.slots) ∨ ∃ j : Nat, k = j ∧ j < d.slots.length ∧ d.slots = d.slots.take j ++ emp :: d.slots.drop (j + 1))
    {name : ByteArray} (hn : 0 < name.size ∧ name.size ≤ 40) (hf : d.names name = none) {i : Int} (hi : (S'.nodes i).isSome = true) (hmono : ∀ j, (S.nodes j).isSome = true → (S'.nodes j).isSome = true) : NWf S' (d.set k name i) ∧ NOk (d.set k name i) := by
  obtain ⟨hdat, hsz⟩ := h.dr hk
  have hnot : name ∉ d.slots := fun hm => by
    have := h.sn name hm hn.1
    rw [hf] at this; cases this
  have main : ∀ (sl : List ByteArray) (sz : Int), (∀ s, s ∈ sl ↔ s = name ∨ s ∈ d.slots ∧ (s ≠ emp ∨ s ∈ sl)) → (sl.filter fun s => decide (0 < s.size)).Nodup → sl.length ≤ 1068 → sz = 128 * sl.length →
      NWf S' { d with slots := sl, size := sz, names := d.ins name i } ∧ NOk { d with slots := sl, size := sz, names := d.ins name i } := by
    intro sl sz hmem hnd hlen hszz
    refine ⟨⟨h.kd, h.lk, ⟨by show 0 ≤ sz; omega, by show sz ≤ 136704; omega⟩, h.md, fun h1 => ?_, fun _ => ⟨hdat, hszz⟩, fun s j hs => ?_, fun s hs h0 => ?_, hnd, fun k s hs => ?_⟩, ⟨hok.dk, hok.dl, hlen⟩⟩
    · have h1' : d.kind = 1 := h1
      rw [hk] at h1'; cases h1'
    · have hs' : (if s = name then some i else d.names s) = some j := hs
      by_cases he : s = name
      · rw [if_pos he] at hs'
        cases hs'
        subst he
        exact ⟨(hmem s).2 (.inl rfl), hn.2, hn.1, hi⟩
      · rw [if_neg he] at hs'
        obtain ⟨a1, a2, a3, a4⟩ := h.nm s j hs'
        exact ⟨(hmem s).2 (.inr ⟨a1, .inl (size_pos_ne a3)⟩), a2, a3, hmono j a4⟩
    · show (if s = name then some i else d.names s).isSome = true
      by_cases he : s = name
      · rw [if_pos he]; rfl
      · rw [if_neg he]
        rcases (hmem s).1 hs with h1 | h1
        · exact absurd h1 he
        · exact h.sn s h1.1 h0
    · have := hdat k
      have hs' : d.data k = some s := hs
      rw [this] at hs'; cases hs'
  rcases hp with ⟨rfl, hlt, -⟩ | ⟨j, rfl, hj, hdec⟩
  · have e : d.set d.slots.length name i = { d with slots := d.slots ++ [name], size := (d.slots.length + 1) * 128, names := d.ins name i } := by unfold Nd.set; rw [if_pos rfl]
    rw [e]
    refine main _ _ (fun s => ?_) ?_ (by simp; omega) (by simp; omega)
    · simp only [List.mem_append, List.mem_singleton]
      constructor
      · rintro (h1 | h1)
        · exact .inr ⟨h1, .inr (.inl h1)⟩
        · exact .inl h1
      · rintro (h1 | ⟨h1, -⟩)
        · exact .inr h1
        · exact .inl h1
    · rw [List.filter_append]
      have : [name].filter (fun s => decide (0 < s.size)) = [name] := by simp [hn.1]
      rw [this, List.nodup_append]
      exact ⟨h.nd, by simp, fun a ha b hb => by
        simp at hb
        subst hb
        intro e
        subst e
        exact hnot (List.mem_filter.1 ha).1⟩
  · have hne : ¬ (j : Int) = d.slots.length := by omega
    have e : d.set j name i = { d with slots := d.slots.set j name, size := d.size, names := d.ins name i } := by unfold Nd.set; rw [if_neg hne]; rfl
    rw [e]
    have hset : d.slots.set j name = d.slots.take j ++ name :: d.slots.drop (j + 1) := by rw [List.set_eq_take_append_cons_drop, if_pos hj]
    refine main _ _ (fun s => ?_) ?_ (by rw [List.length_set]; exact hok.sl) (by rw [List.length_set]; exact hsz)
    · rw [hset]
      constructor
      · intro hs
        simp only [List.mem_append, List.mem_cons] at hs
        rcases hs with h1 | h1 | h1
        · exact .inr ⟨by rw [hdec]; simp [h1], .inr (by simp [h1])⟩
        · exact .inl h1
        · exact .inr ⟨by rw [hdec]; simp [h1], .inr (by simp [h1])⟩
      · rintro (rfl | ⟨h1, h2 | h2⟩)
        · simp
        · rw [hdec] at h1
          simp only [List.mem_append, List.mem_cons] at h1 ⊢
          rcases h1 with h1 | h1 | h1
          · exact .inl h1
          · exact absurd h1 h2
          · exact .inr (.inr h1)
        · exact h2
    · rw [hset]
      have hnd := h.nd
      rw [hdec, List.filter_append, List.filter_cons] at hnd
      simp only [emp_size, Nat.lt_irrefl, decide_false] at hnd
      rw [List.filter_append, List.filter_cons]
      simp only [hn.1, decide_true, if_true]
      have hn1 : name ∉ d.slots.take j := fun hm => hnot (List.mem_of_mem_take hm)
      have hn2 : name ∉ d.slots.drop (j + 1) := fun hm => hnot (List.mem_of_mem_drop hm)
      rw [List.nodup_append] at hnd ⊢
      simp only [Bool.false_eq_true, if_false] at hnd
      refine ⟨hnd.1, List.nodup_cons.2 ⟨fun hm => hn2 (List.mem_filter.1 hm).1, hnd.2.1⟩, fun a ha b hb => ?_⟩
      rcases List.mem_cons.1 hb with rfl | hb
      · intro e
        subst e
        exact hn1 (List.mem_filter.1 ha).1
      · exact hnd.2.2 a ha b hb
theorem freeI_ok {S : PS} (h : S.freeI ≠ 0) : 2 ≤ S.freeI ∧ S.freeI ≤ S.inodes ∧ S.nodes S.freeI = none := by
  unfold PS.freeI at h ⊢
  cases hf : (List.range 513).find? (fun (i : Nat) => decide (2 ≤ i) && decide ((i : Int) ≤ S.inodes) && (S.nodes i).isNone) with
  | none => rw [hf] at h; exact absurd rfl h
  | some i =>
    have := List.find?_some hf
    simp at this
    show 2 ≤ ((i : Nat) : Int) ∧ ((i : Nat) : Int) ≤ S.inodes ∧ S.nodes ((i : Nat) : Int) = none
    exact ⟨by omega, this.1.2, this.2⟩
theorem NWf.mono {S S' : PS} {n : Nd} (h : NWf S n) (hm : ∀ j, (S.nodes j).isSome = true → (S'.nodes j).isSome = true) : NWf S' n :=
  ⟨h.kd, h.lk, h.sz, h.md, h.fl, h.dr, fun s j hs => by obtain ⟨a, b, c, d⟩ := h.nm s j hs; exact ⟨a, b, c, hm j d⟩, h.sn, h.nd, h.db⟩
theorem fresh_wf (S : PS) {kind made : Int} (hk : kind = 1 ∨ kind = 2) (hm : 0 ≤ made ∧ made ≤ 1099511627776) : NWf S (freshN kind made) ∧ NOk (freshN kind made) :=
  ⟨⟨hk, ⟨by show (1 : Int) ≤ 1; omega, by show (1 : Int) ≤ 100; omega⟩, ⟨Int.le_refl 0, by show (0 : Int) ≤ _; omega⟩, hm, fun _ => ⟨rfl, fun _ => rfl⟩, fun _ => ⟨fun _ => rfl, rfl⟩, fun s j h => (nomatch h), fun s h => (nomatch h), by simp [freshN], fun k s h => (nomatch h)⟩, ⟨fun k h => (nomatch h), fun k s h => (nomatch h), by show ([] : List ByteArray).length ≤ 1068; simp⟩⟩
/-- a file or a directory more, in a directory -/
theorem make_wf {S : PS} (hO : POk S) (hW : PWf S) {l : List ByteArray} (hl : ∀ s ∈ l, 0 < s.size ∧ s.size ≤ 40) {kind made : Int} (hk : kind = 1 ∨ kind = 2) (hm : 0 ≤ made ∧ made ≤ 1099511627776) : POk (S.make l kind made).1 ∧ PWf (S.make l kind made).1 := by
  unfold PS.make
  split
  · exact ⟨hO, hW⟩
  · rename_i h1
    split
    · exact ⟨hO, hW⟩
    · rename_i h2
      split
      · exact ⟨hO, hW⟩
      · rename_i h3
        split
        · exact ⟨hO, hW⟩
        · rename_i h4
          have h1 : (S.last l).e = 0 := by omega
          have h4 : (S.place (S.nd (S.last l).d)).2 = 0 := by omega
          obtain ⟨a1, a2, a3⟩ := last_ok hW h1
          obtain ⟨b1, b2, b3⟩ := freeI_ok h3
          have hdn := PS.nd_get a1
          generalize hD : (S.last l).d = d at *
          generalize hI : S.freeI = i at *
          have hdi : d ≠ i := fun e => by rw [e, b3] at a1; cases a1
          have h2 : (S.nd d).names (S.last l).name = none := by
            cases hq : (S.nd d).names (S.last l).name with
            | none => rfl
            | some x => rw [hq] at h2; exact absurd rfl h2
          have hT : ∀ j, (((S.put i (some (freshN kind made))).put d (some ((S.nd d).set (S.place (S.nd d)).1 (S.last l).name i))).nodes j) = if j = d then some ((S.nd d).set (S.place (S.nd d)).1 (S.last l).name i) else if j = i then some (freshN kind made) else S.nodes j := fun j => rfl
          have hmono : ∀ j, (S.nodes j).isSome = true → (((S.put i (some (freshN kind made))).put d (some ((S.nd d).set (S.place (S.nd d)).1 (S.last l).name i))).nodes j).isSome = true := fun j hj => by
            rw [hT]
            split
            · rfl
            · split
              · rfl
              · exact hj
          have hset := set_wf (S' := (S.put i (some (freshN kind made))).put d (some ((S.nd d).set (S.place (S.nd d)).1 (S.last l).name i))) (hW.n d _ hdn) (hO.n d _ hdn) a2 (place_ok (hO.n d _ hdn).sl h4) (hl _ a3) h2 (i := i) (by rw [hT, if_neg (Ne.symm hdi), if_pos rfl]; rfl) hmono
          have hfr := fresh_wf ((S.put i (some (freshN kind made))).put d (some ((S.nd d).set (S.place (S.nd d)).1 (S.last l).name i))) hk hm
          refine ⟨⟨hO.s, hO.i, fun j hj => ?_, fun j n hn => ?_⟩, ⟨?_, fun j n hn => ?_⟩⟩
          · rw [hT] at hj
            by_cases hjd : j = d
            · subst hjd; exact hO.k _ a1
            · rw [if_neg hjd] at hj
              by_cases hji : j = i
              · subst hji; exact ⟨by omega, b2⟩
              · rw [if_neg hji] at hj; exact hO.k _ hj
          · rw [hT] at hn
            by_cases hjd : j = d
            · rw [if_pos hjd] at hn; cases hn; exact hset.2
            · rw [if_neg hjd] at hn
              by_cases hji : j = i
              · rw [if_pos hji] at hn; cases hn; exact hfr.2
              · rw [if_neg hji] at hn; exact hO.n _ _ hn
          · obtain ⟨n, hn, hk2⟩ := hW.root
            rw [hT]
            by_cases hjd : (1 : Int) = d
            · rw [if_pos hjd]
              refine ⟨_, rfl, ?_⟩
              unfold Nd.set
              split <;> exact a2
            · rw [if_neg hjd, if_neg (by omega)]
              exact ⟨n, hn, hk2⟩
          · rw [hT] at hn
            by_cases hjd : j = d
            · rw [if_pos hjd] at hn; cases hn; exact hset.1
            · rw [if_neg hjd] at hn
              by_cases hji : j = i
              · rw [if_pos hji] at hn; cases hn; exact hfr.1
              · rw [if_neg hji] at hn; exact (hW.n _ _ hn).mono hmono
end Go.Proofs.YteffoihkljkfdaaDoor

/- The whole loads and stores of this program's arrays and structs. -/
namespace Go.Proofs.YteffoihkljkfdaaDoor
set_option linter.unusedSimpArgs false
set_option linter.unusedVariables false
open Go.RowKit
theorem lv101 (a : Addr) : loadVar 101 a = Ld 128 101 a := rfl
theorem sv101 (a : Addr) (v : Value) : storeVar 101 a v = St 128 101 a v := rfl
theorem rl101 (g off : Nat) (w : World) : (Ld 128 101 ⟨g, off, none⟩).run Tryd.prog w = ldRow (rawL Tryd.prog 101 ⟨g, off, none⟩ w) 128 off w (hat w g) := run_Ld Tryd.underlying101 rfl (by kernel_rfl) g off w
theorem rs101 (g off : Nat) (cs : Array Value) (w : World) : (St 128 101 ⟨g, off, none⟩ (.agg cs)).run Tryd.prog w = stRow (rawS Tryd.prog 101 ⟨g, off, none⟩ (.agg cs) w) 128 off g cs w (hat w g) := run_St (by kernel_rfl) g off cs w
theorem row101 : RowTy Tryd.prog 101 128 := rowTy Tryd.underlying101 rfl (by kernel_rfl)
attribute [go_sem ↓] lv101 sv101
attribute [go_sem] rl101 rs101
def Zv101 : Sem Value := zeroValue 101
theorem zv101 : zeroValue 101 = Zv101 := rfl
theorem rz101 (w : World) : (Zv101).run Tryd.prog w = .ok (.agg (IV .u8 (zl 128))) w := by kernel_rfl
attribute [go_sem ↓] zv101
attribute [go_sem] rz101
def Bz101 : Sem Value := Instr.build 101 #[]
theorem bz101 : Instr.build 101 #[] = Bz101 := rfl
theorem rb101 (w : World) : (Bz101).run Tryd.prog w = .ok (.agg (IV .u8 (zl 128))) w := by kernel_rfl
attribute [go_sem ↓] bz101
attribute [go_sem] rb101
theorem celli : CellTy Tryd.prog 3 := cellTy Tryd.underlying3 rfl
theorem cells : CellTy Tryd.prog 9 := cellTy Tryd.underlying9 rfl
theorem sl_lo (g off : Nat) (x : Int) (h0 : 0 ≤ x) (h1 : x < 128) (w : World) :
    (Instr.sliceAt 101 (.pointer (some ⟨g, off, none⟩)) (some (.int .i64 x)) none none).run Tryd.prog w = .ok (.slice (some ⟨g, off + x.toNat, none⟩) (128 - x.toNat) (128 - x.toNat)) w :=
  run_sliceAt_lo Tryd.underlying101 (by kernel_rfl) g off x h0 h1 w
theorem sl_lohi (g off : Nat) (x y : Int) (h0 : 0 ≤ x) (h1 : x < 128) (h2 : x ≤ y) (h3 : y ≤ 128) (w : World) :
    (Instr.sliceAt 101 (.pointer (some ⟨g, off, none⟩)) (some (.int .i64 x)) (some (.int .i64 y)) none).run Tryd.prog w = .ok (.slice (some ⟨g, off + x.toNat, none⟩) (y.toNat - x.toNat) (128 - x.toNat)) w :=
  run_sliceAt_lohi Tryd.underlying101 (by kernel_rfl) g off x y h0 h1 h2 h3 w
theorem sl_hi (g off : Nat) (y : Int) (h2 : 0 ≤ y) (h3 : y ≤ 128) (w : World) :
    (Instr.sliceAt 101 (.pointer (some ⟨g, off, none⟩)) none (some (.int .i64 y)) none).run Tryd.prog w = .ok (.slice (some ⟨g, off, none⟩) y.toNat 128) w :=
  run_sliceAt_hi Tryd.underlying101 (by kernel_rfl) g off y (by omega) h2 h3 w
attribute [go_sem] sl_lo sl_lohi sl_hi
end Go.Proofs.YteffoihkljkfdaaDoor

/- The whole loads and stores of this program's structs. -/
namespace Go.Proofs.YteffoihkljkfdaaDoor
set_option linter.unusedSimpArgs false
set_option linter.unusedVariables false
open Go.RowKit
theorem lv37 (a : Addr) : loadVar 37 a = Ld 10 37 a := rfl
theorem sv37 (a : Addr) (v : Value) : storeVar 37 a v = St 10 37 a v := rfl
theorem rl37 (g off : Nat) (w : World) : (Ld 10 37 ⟨g, off, none⟩).run Tryd.prog w = ldRow (rawL Tryd.prog 37 ⟨g, off, none⟩ w) 10 off w (hat w g) := run_Ld Tryd.underlying37 rfl (by kernel_rfl) g off w
theorem rs37 (g off : Nat) (cs : Array Value) (w : World) : (St 10 37 ⟨g, off, none⟩ (.agg cs)).run Tryd.prog w = stRow (rawS Tryd.prog 37 ⟨g, off, none⟩ (.agg cs) w) 10 off g cs w (hat w g) := run_St (by kernel_rfl) g off cs w
theorem row37 : RowTy Tryd.prog 37 10 := rowTy Tryd.underlying37 rfl (by kernel_rfl)
attribute [go_sem ↓] lv37 sv37
attribute [go_sem] rl37 rs37
theorem lv33 (a : Addr) : loadVar 33 a = Ld 6 33 a := rfl
theorem sv33 (a : Addr) (v : Value) : storeVar 33 a v = St 6 33 a v := rfl
theorem rl33 (g off : Nat) (w : World) : (Ld 6 33 ⟨g, off, none⟩).run Tryd.prog w = ldRow (rawL Tryd.prog 33 ⟨g, off, none⟩ w) 6 off w (hat w g) := run_Ld Tryd.underlying33 rfl (by kernel_rfl) g off w
theorem rs33 (g off : Nat) (cs : Array Value) (w : World) : (St 6 33 ⟨g, off, none⟩ (.agg cs)).run Tryd.prog w = stRow (rawS Tryd.prog 33 ⟨g, off, none⟩ (.agg cs) w) 6 off g cs w (hat w g) := run_St (by kernel_rfl) g off cs w
theorem row33 : RowTy Tryd.prog 33 6 := rowTy Tryd.underlying33 rfl (by kernel_rfl)
attribute [go_sem ↓] lv33 sv33
attribute [go_sem] rl33 rs33
theorem lv74 (a : Addr) : loadVar 74 a = Ld 7 74 a := rfl
theorem sv74 (a : Addr) (v : Value) : storeVar 74 a v = St 7 74 a v := rfl
theorem rl74 (g off : Nat) (w : World) : (Ld 7 74 ⟨g, off, none⟩).run Tryd.prog w = ldRow (rawL Tryd.prog 74 ⟨g, off, none⟩ w) 7 off w (hat w g) := run_Ld Tryd.underlying74 rfl (by kernel_rfl) g off w
theorem rs74 (g off : Nat) (cs : Array Value) (w : World) : (St 7 74 ⟨g, off, none⟩ (.agg cs)).run Tryd.prog w = stRow (rawS Tryd.prog 74 ⟨g, off, none⟩ (.agg cs) w) 7 off g cs w (hat w g) := run_St (by kernel_rfl) g off cs w
theorem row74 : RowTy Tryd.prog 74 7 := rowTy Tryd.underlying74 rfl (by kernel_rfl)
attribute [go_sem ↓] lv74 sv74
attribute [go_sem] rl74 rs74
theorem lv40 (a : Addr) : loadVar 40 a = Ld 8 40 a := rfl
theorem sv40 (a : Addr) (v : Value) : storeVar 40 a v = St 8 40 a v := rfl
theorem rl40 (g off : Nat) (w : World) : (Ld 8 40 ⟨g, off, none⟩).run Tryd.prog w = ldRow (rawL Tryd.prog 40 ⟨g, off, none⟩ w) 8 off w (hat w g) := run_Ld Tryd.underlying40 rfl (by kernel_rfl) g off w
theorem rs40 (g off : Nat) (cs : Array Value) (w : World) : (St 8 40 ⟨g, off, none⟩ (.agg cs)).run Tryd.prog w = stRow (rawS Tryd.prog 40 ⟨g, off, none⟩ (.agg cs) w) 8 off g cs w (hat w g) := run_St (by kernel_rfl) g off cs w
theorem row40 : RowTy Tryd.prog 40 8 := rowTy Tryd.underlying40 rfl (by kernel_rfl)
attribute [go_sem ↓] lv40 sv40
attribute [go_sem] rl40 rs40
theorem row42 : RowTy Tryd.prog 42 3 := rowTy Tryd.underlying42 rfl (by kernel_rfl)
end Go.Proofs.YteffoihkljkfdaaDoor

/- room, free: the walks. -/
namespace Go.Proofs.YteffoihkljkfdaaDoor
set_option linter.unusedSimpArgs false
set_option linter.unusedVariables false
open Go.RowKit

theorem PS.free_le {S : PS} (hS : POk S) : -2000000 ≤ S.free ∧ S.free ≤ 4096 := by
  have h1 := PS.used_le hS
  have h2 := hS.s
  have h3 := hS.i
  unfold PS.free
  omega
set_option maxHeartbeats 8000000 in
set_option maxRecDepth 100000 in
theorem fits_any {w : World} {gp bn c : Nat} {S : PS} {A : Int → NA} {own : Nat → Option (Int × Nat)} (h : PT w gp bn c S A own) (hS : POk S) {a a' : NA} {n n' : Nd} (hn : NodeAt w a n) (hk : NOk n) (hn' : NodeAt w a' n') (hk' : NOk n') :
    Calls Tryd.prog 79 #[.pointer (some ⟨gp, 0, none⟩), .pointer (some ⟨a.g, 0, none⟩), .pointer (some ⟨a'.g, 0, none⟩)] w fun e w' => e = .returned (.bool (decide (n'.count - n.count ≤ S.free))) ∧ Below w.heap.size w w' := by
  have H := Lib.hid h
  have HN := Lib.hid hn
  have HN' := Lib.hid hn'
  have hfr := PS.free_le hS
  have hc1 := Nd.count_le hk
  have hc2 := Nd.count_le hk'
  clear h hn hn'
  have hfd : ∀ (x y z : Value) (w : World), (Instr.field 42 (.agg #[x, y, z]) 0).run Tryd.prog w = .ok x w := fun _ _ _ _ => by kernel_rfl
  go_enter Tryd.func79, Tryd.ntmps79
  go_wp2_with fail
  refine (room_any H.out hS).mono ?_; rintro e w1 ⟨rfl, hb1⟩
  have HB1 := Lib.hid hb1
  clear hb1
  go_wp2_with fail
  refine (count_any (HN'.out.fr (fr_below HB1.out []) (by simp) (by simp) (by simp) (by simp)) hk').mono ?_; rintro e w2 ⟨rfl, hb2⟩
  have HF2 := Lib.hid ((fr_below HB1.out []).trans (fr_below hb2 []))
  clear hb2
  go_wp2_with fail
  refine (count_any (HN.out.fr HF2.out (by simp) (by simp) (by simp) (by simp)) hk).mono ?_; rintro e w3 ⟨rfl, hb3⟩
  have HF3 := Lib.hid (HF2.out.trans (fr_below hb3 []))
  clear hb3
  go_wp2_with fail
  go_ret
  exact ⟨rfl, HF3.out.bl⟩
theorem ptrM_key {S : PS} {A : Int → NA} (i : Int) : ptrM S A i = (S.nodes i).map fun _ => .pointer (some ⟨(A i).g, 0, none⟩) := rfl
theorem PT.look {w : World} {gp bn c : Nat} {S : PS} {A : Int → NA} {own : Nat → Option (Int × Nat)} (h : PT w gp bn c S A own) (k : Int) (hk : i64ok k) : (Instr.lookup 75 (.map (some bn)) (.int .i64 k) false).run Tryd.prog w = .ok ((ptrM S A k).getD (.pointer none)) w :=
  h.m.lookc Tryd.underlying75 (z := .pointer none) (by kernel_rfl) hk
theorem PT.look_yes {w : World} {gp bn c : Nat} {S : PS} {A : Int → NA} {own : Nat → Option (Int × Nat)} (h : PT w gp bn c S A own) {k : Int} {n : Nd} (hk : S.nodes k = some n) : (Instr.lookup 75 (.map (some bn)) (.int .i64 k) false).run Tryd.prog w = .ok (.pointer (some ⟨(A k).g, 0, none⟩)) w := by
  have h1 := h.look k (h.m.okey (x := k) (by rw [ptrM_key, hk]; rfl))
  rw [ptrM_key, hk] at h1
  exact h1
theorem PT.look_no {w : World} {gp bn c : Nat} {S : PS} {A : Int → NA} {own : Nat → Option (Int × Nat)} (h : PT w gp bn c S A own) {k : Int} (hi : i64ok k) (hk : S.nodes k = none) : (Instr.lookup 75 (.map (some bn)) (.int .i64 k) false).run Tryd.prog w = .ok (.pointer none) w := by
  have h1 := h.look k hi
  rw [ptrM_key, hk] at h1
  exact h1
theorem freeI_hit {S : PS} {k : Int} (h0 : 2 ≤ k ∧ k ≤ S.inodes) (hi : S.inodes ≤ 512) (hk : S.nodes k = none) (hb : ∀ j : Int, 2 ≤ j → j < k → (S.nodes j).isSome = true) : S.freeI = k := by
  unfold PS.freeI
  have e : (List.range 513).find? (fun (i : Nat) => decide (2 ≤ i) && decide ((i : Int) ≤ S.inodes) && (S.nodes i).isNone) = some k.toNat := by
    rw [List.find?_range_eq_some]
    refine ⟨?_, by rw [List.mem_range]; omega, fun j hj => ?_⟩
    · rw [show ((k.toNat : Nat) : Int) = k by omega, hk]
      simp; omega
    · by_cases h2 : 2 ≤ j
      · have := hb j (by omega) (by omega)
        cases hn : S.nodes j with
        | none => rw [hn] at this; cases this
        | some n => simp
      · simp; omega
  rw [e]
  show ((k.toNat : Nat) : Int) = k
  omega
theorem freeI_miss {S : PS} (hb : ∀ j : Int, 2 ≤ j → j ≤ S.inodes → (S.nodes j).isSome = true) : S.freeI = 0 := by
  unfold PS.freeI
  have e : (List.range 513).find? (fun (i : Nat) => decide (2 ≤ i) && decide ((i : Int) ≤ S.inodes) && (S.nodes i).isNone) = none := by
    rw [List.find?_eq_none]
    intro j hj
    by_cases h2 : 2 ≤ j ∧ (j : Int) ≤ S.inodes
    · have := hb j (by omega) (by omega)
      cases hn : S.nodes j with
      | none => rw [hn] at this; cases this
      | some n => simp
    · simp
      intro a b
      exact absurd ⟨a, b⟩ h2
  rw [e]; rfl
set_option maxHeartbeats 8000000 in
set_option maxRecDepth 100000 in
theorem free_any {w : World} {gp bn c : Nat} {S : PS} {A : Int → NA} {own : Nat → Option (Int × Nat)} (h : PT w gp bn c S A own) (hS : POk S) :
    Calls Tryd.prog 62 #[.pointer (some ⟨gp, 0, none⟩)] w fun e w' => e = .returned (.int .i64 S.freeI) ∧ w' = w := by
  have H := Lib.hid h
  have hp := h.p
  have hpl := hat_lt hp
  obtain ⟨hi1, hi2⟩ := hS.i
  clear h
  go_enter Tryd.func62, Tryd.ntmps62
  go_wp2_with fail
  go_loopw [3] (fun v wr => ∃ k : Int, v = .int .i64 k ∧ 2 ≤ k ∧ k ≤ 513 ∧ Hid (∀ j : Int, 2 ≤ j → j < k → (S.nodes j).isSome = true) ∧ wr = w) (fun v _ => 514 - (intOf v).toNat)
  case atStart => exact ⟨2, rfl, by omega, by omega, Lib.hid (fun j h1 h2 => by omega), rfl⟩
  case round =>
    obtain ⟨k, rfl, h2, h3, HB, rfl⟩ := hrel
    by_cases hle : k ≤ S.inodes
    · cases hn : S.nodes k with
      | none =>
        have hlk := H.out.look_no (k := k) ⟨by omega, by omega⟩ hn
        have HE := Lib.hid (freeI_hit ⟨h2, hle⟩ hi2 hn HB.out)
        clear hn
        go_wp2_with fail
        go_ret
        exact ⟨by rw [HE.out]; rfl, rfl⟩
      | some n =>
        have hlk := H.out.look_yes (k := k) hn
        have HB2 : Hid (∀ j : Int, 2 ≤ j → j < k + 1 → (S.nodes j).isSome = true) := Lib.hid (fun j h1 h2 => by
          by_cases he : j = k
          · rw [he, hn]; rfl
          · exact HB.out j h1 (by omega))
        clear hn
        go_wp2_with fail
        go_roundw
        case rel => exact ⟨k + 1, rfl, by omega, by omega, HB2, by trivial⟩
        case measure => (show 514 - (k + 1).toNat < 514 - k.toNat); omega
    · have HE := Lib.hid (freeI_miss (S := S) (fun j h1 h2 => HB.out j h1 (by omega)))
      go_wp2_with fail
      go_ret
      exact ⟨by rw [HE.out]; rfl, rfl⟩
end Go.Proofs.YteffoihkljkfdaaDoor

/- Stepping over a text's runes; names. No program is named here but for its import. -/
namespace Go.Proofs.YteffoihkljkfdaaDoor
set_option linter.unusedSimpArgs false
set_option linter.unusedVariables false
open Go.RowKit

theorem decode_wide (s : ByteArray) (pos : Nat) (h : pos < s.size) (ha : 128 ≤ (s[pos]'h).toNat) :
    ∀ j, j < (Utf8.decode s pos).2 → pos + j < s.size ∧ 128 ≤ (s.get! (pos + j)).toNat := by
  have hn : ¬ (s[pos]'h).toNat < 128 := by omega
  have g0 := get_at s pos h
  have c0 : pos + 0 < s.size ∧ 128 ≤ (s.get! (pos + 0)).toNat := ⟨by omega, by rw [g0]; exact ha⟩
  intro j hj
  simp only [Utf8.decode, g0, hn, if_false] at hj
  repeat' split at hj
  all_goals
    simp only [Bool.and_eq_true, decide_eq_true_eq, beq_iff_eq] at *
    by_cases j0 : j = 0
    · rw [j0]; exact c0
    by_cases j1 : j = 1
    · subst j1; omega
    by_cases j2 : j = 2
    · subst j2; omega
    by_cases j3 : j = 3
    · subst j3; omega
    omega

def iterAt (w : World) (b : Nat) (s : ByteArray) (p : Nat) : World := { w with heap := w.heap.setIfInBounds b (.stringIter s p) }
theorem run_next_hat {P : Program} (w : World) (b : Nat) (s : ByteArray) (pos : Nat) (ty : TypeId) (h : hat w b = some (.stringIter s pos)) (hp : pos < s.size) :
    (Instr.next (.pointer (some ⟨b, 0, none⟩)) true ty).run P w = .ok (.tuple #[.bool true, .int .i64 pos, .int .i32 (Utf8.decode s pos).1]) (iterAt w b s (pos + (Utf8.decode s pos).2)) := by
  have h' : w.heap[b]? = some (.stringIter s pos) := h
  simp only [Instr.next, getObj, setObj, Sem.run_bind, Sem.run, h', Result.andThen, hp, if_true]
  simp [goInt, iterAt]
theorem run_next_hat_end {P : Program} (w : World) (b : Nat) (s : ByteArray) (pos : Nat) (ty : TypeId) (h : hat w b = some (.stringIter s pos)) (hp : ¬ pos < s.size) :
    (Instr.next (.pointer (some ⟨b, 0, none⟩)) true ty).run P w = .ok (.tuple #[.bool false]) w := by
  have h' : w.heap[b]? = some (.stringIter s pos) := h
  simp [Instr.next, getObj, Sem.run, h', hp]
theorem hat_iterAt (w : World) (b : Nat) (s : ByteArray) (p : Nat) (h : b < w.heap.size) : hat (iterAt w b s p) b = some (.stringIter s p) := by
  show (w.heap.setIfInBounds b _)[b]? = _
  simp [h]
theorem below_iterAt {B : Nat} {a w : World} (h : Below B a w) {b : Nat} (hB : B ≤ b) (s : ByteArray) (p : Nat) : Below B a (iterAt w b s p) :=
  ⟨h.os, h.tape, h.output, by show a.heap.size ≤ (w.heap.setIfInBounds b _).size; rw [Array.size_setIfInBounds]; exact h.size,
   fun k hk => by
    show (w.heap.setIfInBounds b _)[k]? = _
    rw [Array.getElem?_setIfInBounds_ne (by omega)]
    exact h.block k hk⟩
theorem size_iterAt (w : World) (b : Nat) (s : ByteArray) (p : Nat) : (iterAt w b s p).heap.size = w.heap.size := by
  show (w.heap.setIfInBounds b _).size = _
  rw [Array.size_setIfInBounds]

def NameMay (l : List UInt8) : Prop := 1 ≤ l.length ∧ l.length ≤ 40 ∧ (∀ b ∈ l, b ≠ 0 ∧ b ≠ 47) ∧ l ≠ [46] ∧ l ≠ [46, 46]
instance (l : List UInt8) : Decidable (NameMay l) := by unfold NameMay; infer_instance

theorem len_data (s : ByteArray) : s.data.toList.length = s.size := (Lib.size_eq s).symm
theorem eqb {s : ByteArray} {l : List UInt8} {b : Bool} (h : (s.toList == l) = b) : (s.data.toList == l) = b := by rw [← Lib.toList_data]; exact h

end Go.Proofs.YteffoihkljkfdaaDoor

/- path.Check: may a name be: the walk. -/
namespace Go.Proofs.YteffoihkljkfdaaDoor
set_option linter.unusedSimpArgs false
set_option linter.unusedVariables false
open Go.RowKit

def chk (s : ByteArray) : Int := if NameMay s.data.toList then 0 else 71
theorem chk_yes {s : ByteArray} (h : NameMay s.data.toList) : chk s = 0 := by unfold chk; rw [if_pos h]
theorem chk_no {s : ByteArray} (h : ¬ NameMay s.data.toList) : chk s = 71 := by unfold chk; rw [if_neg h]
theorem ret_int {a b : Int} (h : a = b) : Ending.returned (.int .i64 a) = .returned (.int .i64 b) := by rw [h]

set_option maxHeartbeats 2000000 in
set_option maxRecDepth 100000 in
theorem check_any (s : ByteArray) (w : World) :
    Calls Tryd.prog 47 #[.string s] w fun e w' => e = .returned (.int .i64 (chk s)) ∧ Below w.heap.size w w' := by
  cases h0 : s.toList == []
  · cases h1 : decide (40 < (s.size : Int))
    · cases h3 : s.toList == [46]
      · cases h4 : s.toList == [46, 46]
        · go_enter Tryd.func47, Tryd.ntmps47
          go_wp2_with fail
          have f0 : hat (w.iter s 0) w.heap.size = some (.stringIter s 0) := World.iter_heap w s 0
          have hb : Below w.heap.size w (w.iter s 0) := (Below.refl _ _).alloc (Nat.le_refl _) _
          have H1 := Lib.hid h1
          have H0 := Lib.hid h0
          have H3 := Lib.hid h3
          have H4 := Lib.hid h4
          clear h0 h1 h3 h4
          go_loopg [4] s.size (fun g _ wx => ∃ i : Nat, i + g = s.size ∧ hat wx w.heap.size = some (.stringIter s i) ∧ Below w.heap.size w wx ∧ ∀ j, j < i → ∀ b, s.data.toList[j]? = some b → b ≠ 0 ∧ b ≠ 47)
          case atStart => exact ⟨0, by omega, f0, hb, fun j hj => by omega⟩
          case round =>
            clear f0 hb
            obtain ⟨i, hig, f0, hb, hno⟩ := hrel
            have HN := Lib.hid hno
            clear hno
            have z0 := hat_lt f0
            cases gk with
            | zero =>
              obtain rfl : i = s.size := by omega
              have hnx := fun ty => run_next_hat_end (P := Tryd.prog) _ w.heap.size s s.size ty f0 (by omega)
              go_wp2_with fail
              go_ret
              refine ⟨ret_int (chk_yes ?_).symm, hb⟩
              have h1 := H1.out
              simp only [decide_eq_false_iff_not] at h1
              refine ⟨?_, by rw [len_data]; omega, ?_, beq_eq_false_iff_ne.1 (eqb H3.out), beq_eq_false_iff_ne.1 (eqb H4.out)⟩
              · have := beq_eq_false_iff_ne.1 (eqb H0.out)
                have := List.length_pos_iff.2 this
                omega
              · intro b hb
                obtain ⟨j, hj, rfl⟩ := List.getElem_of_mem hb
                exact HN.out j (by rw [len_data] at hj; exact hj) _ (List.getElem?_eq_getElem hj)
            | succ g =>
              have hi : i < s.size := by omega
              have hnx := fun ty => run_next_hat (P := Tryd.prog) _ w.heap.size s i ty f0 hi
              by_cases h128 : (s[i]'hi).toNat < 128
              · have hd := decode_ascii s i hi h128
                rw [hd] at hnx
                obtain ⟨x, hx⟩ : ∃ x : UInt8, s[i]'hi = x := ⟨_, rfl⟩
                have hxl : s.data.toList[i]? = some x := by rw [← hx]; exact Lib.data_getElem? s i hi
                rw [hx] at h128 hnx
                have Hx := Lib.hid hxl
                have f1 := hat_iterAt wr w.heap.size s (i + 1) z0
                have hb := below_iterAt hb (Nat.le_refl _) s (i + 1)
                clear hxl hx hd
                by_cases x0 : x = 0
                · have e0 : ((x.toNat : Int) == 0) = true := by subst x0; rfl
                  have HX := Lib.hid x0
                  clear x0
                  go_wp2_with fail
                  go_ret
                  exact ⟨ret_int (chk_no fun h => (h.2.2.1 x (List.mem_of_getElem? Hx.out)).1 HX.out).symm, hb⟩
                · have e0 : ((x.toNat : Int) == 0) = false := by
                    simp only [beq_eq_false_iff_ne, ne_eq]
                    intro h; exact x0 (UInt8.toNat_inj.1 (by have : (0 : UInt8).toNat = 0 := rfl
                                                             omega))
                  have HX := Lib.hid x0
                  clear x0
                  by_cases x7 : x = 47
                  · have e7 : ((x.toNat : Int) == 47) = true := by subst x7; rfl
                    have H7 := Lib.hid x7
                    clear x7
                    go_wp2_with fail
                    go_ret
                    exact ⟨ret_int (chk_no fun h => (h.2.2.1 x (List.mem_of_getElem? Hx.out)).2 H7.out).symm, hb⟩
                  · have e7 : ((x.toNat : Int) == 47) = false := by
                      simp only [beq_eq_false_iff_ne, ne_eq]
                      intro h; exact x7 (UInt8.toNat_inj.1 (by have : (47 : UInt8).toNat = 47 := rfl
                                                               omega))
                    have H7 := Lib.hid x7
                    clear x7
                    go_wp2_with fail
                    go_roundg g
                    case measure => omega
                    case rel =>
                      refine ⟨i + 1, by omega, f1, hb, fun j hj b hjb => ?_⟩
                      by_cases hji : j < i
                      · exact HN.out j hji b hjb
                      · obtain rfl : j = i := by omega
                        rw [Hx.out] at hjb
                        obtain rfl := Option.some.inj hjb
                        exact ⟨HX.out, H7.out⟩
              · have hd1 := decode_high s i hi (by omega)
                have hd3 := Lib.hid (decode_wide s i hi (by omega))
                generalize Utf8.decode s i = dd at *
                obtain ⟨r, k⟩ := dd
                simp only [] at hd1 hd3 hnx
                have f1 := hat_iterAt wr w.heap.size s (i + k) z0
                have hb := below_iterAt hb (Nat.le_refl _) s (i + k)
                generalize iterAt wr w.heap.size s (i + k) = w2 at *
                have e0 : ((r : Int) == 0) = false := by simp; omega
                have e7 : ((r : Int) == 47) = false := by simp; omega
                go_wp2_with fail
                go_roundg (s.size - (i + k))
                case measure => omega
                case rel =>
                  have hik : i + k ≤ s.size := by
                    have := hd3.out (k - 1) (by omega)
                    omega
                  refine ⟨i + k, by omega, f1, hb, ?_⟩
                  intro j b hj hb
                  by_cases hji : j < i
                  · exact HN.out j hji _ hb
                  · obtain ⟨q1, q2⟩ := hd3.out (j - i) (by omega)
                    rw [show i + (j - i) = j by omega] at q1 q2
                    rw [show s.get! j = s[j]'q1 from get_at s j q1] at q2
                    rw [Lib.data_getElem? s j q1] at hb
                    obtain rfl := Option.some.inj hb
                    generalize s[j] = b at q2
                    exact ⟨fun h => by subst h; exact absurd q2 (by decide), fun h => by subst h; exact absurd q2 (by decide)⟩
        · go_enter Tryd.func47, Tryd.ntmps47
          go_wp2_with fail
          go_ret
          exact ⟨ret_int (chk_no fun h => h.2.2.2.2 (beq_iff_eq.1 (eqb h4))).symm, Below.refl _ _⟩
      · go_enter Tryd.func47, Tryd.ntmps47
        go_wp2_with fail
        go_ret
        exact ⟨ret_int (chk_no fun h => h.2.2.2.1 (beq_iff_eq.1 (eqb h3))).symm, Below.refl _ _⟩
    · go_enter Tryd.func47, Tryd.ntmps47
      go_wp2_with fail
      go_ret
      exact ⟨ret_int (chk_no fun h => by have := h.2.1; rw [len_data] at this; simp at h1; omega).symm, Below.refl _ _⟩
  · go_enter Tryd.func47, Tryd.ntmps47
    go_wp2_with fail
    go_ret
    exact ⟨ret_int (chk_no fun h => by have := h.1; rw [beq_iff_eq.1 (eqb h0)] at this; simp at this).symm, Below.refl _ _⟩
end Go.Proofs.YteffoihkljkfdaaDoor

/- Lists of texts; sameTexts: the walk. -/
namespace Go.Proofs.YteffoihkljkfdaaDoor
set_option linter.unusedSimpArgs false
set_option linter.unusedVariables false
open Go.RowKit

/-- v is a list of the texts xs in world w, at block B or above -/
def Strs (w : World) (B : Nat) (v : Value) (xs : List ByteArray) : Prop :=
  (v = .slice none 0 0 ∧ xs = []) ∨ ∃ g o c, v = .slice (some ⟨g, o, none⟩) xs.length c ∧ xs.length ≤ c ∧ xs.length ≤ 140737488355328 ∧ B ≤ g ∧ g < w.heap.size ∧ ∀ j x, xs[j]? = some x → w.cell? ⟨g, o + j, none⟩ = some (.string x)
theorem Strs.len {w : World} {B : Nat} {v : Value} {xs : List ByteArray} (h : Strs w B v xs) : ∃ a c, v = .slice a xs.length c := by
  rcases h with ⟨rfl, rfl⟩ | ⟨g, o, c, rfl, -⟩
  · exact ⟨_, _, rfl⟩
  · exact ⟨_, _, rfl⟩
theorem Strs.small {w : World} {B : Nat} {v : Value} {xs : List ByteArray} (h : Strs w B v xs) : xs.length ≤ 140737488355328 := by
  rcases h with ⟨-, rfl⟩ | ⟨g, o, c, -, -, h, -⟩
  · simp
  · exact h
theorem Strs.call {w w' : World} {B : Nat} {v : Value} {xs : List ByteArray} (h : Strs w B v xs) (hb : Below w.heap.size w w') : Strs w' B v xs := by
  rcases h with h | ⟨g, o, c, h1, h2, h3, h4, h5, h6⟩
  · exact .inl h
  · exact .inr ⟨g, o, c, h1, h2, h3, h4, Nat.lt_of_lt_of_le h5 hb.size, fun j x hx => by rw [hb.cell (p := ⟨g, o + j, none⟩) h5]; exact h6 j x hx⟩
theorem Strs.alloc {w : World} {B : Nat} {v : Value} {xs : List ByteArray} (h : Strs w B v xs) (ob : Obj) : Strs (w.alloc ob) B v xs := h.call ((Below.refl _ _).alloc (Nat.le_refl _) ob)
theorem Strs.le {w : World} {B B' : Nat} {v : Value} {xs : List ByteArray} (h : Strs w B v xs) (hb : B' ≤ B) : Strs w B' v xs := by
  rcases h with h | ⟨g, o, c, h1, h2, h3, h4, h5⟩
  · exact .inl h
  · exact .inr ⟨g, o, c, h1, h2, h3, by omega, h5⟩
theorem getElem_opt {α : Type} {l : List α} {k : Nat} (h : k < l.length) : ∃ x, l[k]? = some x := ⟨_, List.getElem?_eq_getElem h⟩
theorem same_upto {xs ys : List ByteArray} (hl : xs.length = ys.length) (h : ∀ j, j < xs.length → xs[j]? = ys[j]?) : xs = ys := by
  apply List.ext_getElem?
  intro j
  by_cases hj : j < xs.length
  · exact h j hj
  · rw [List.getElem?_eq_none (by omega), List.getElem?_eq_none (by omega)]
theorem str_inj {s t : ByteArray} (h : s.toList = t.toList) : s = t := by
  rw [Lib.toList_data, Lib.toList_data] at h
  obtain ⟨⟨a⟩⟩ := s
  obtain ⟨⟨b⟩⟩ := t
  obtain rfl : a = b := h
  rfl
theorem ret_bool {a b : Bool} (h : a = b) : Ending.returned (.bool a) = .returned (.bool b) := by rw [h]
end Go.Proofs.YteffoihkljkfdaaDoor

/- Texts cut at '/' and joined again: plain lists of bytes; no program in sight. -/
namespace Go.Proofs.YteffoihkljkfdaaDoor
set_option linter.unusedSimpArgs false
set_option linter.unusedVariables false

/-- the pieces between the bytes 47 -/
def cut47 : List UInt8 → List (List UInt8)
  | [] => [[]]
  | b :: l => if b = 47 then [] :: cut47 l else match cut47 l with
    | [] => [[b]]
    | x :: r => (b :: x) :: r
theorem cut47_ne : ∀ l, cut47 l ≠ []
  | [] => by simp [cut47]
  | b :: l => by
    unfold cut47
    split
    · simp
    · split <;> simp
theorem split_cut : ∀ s : List UInt8, Lib.splitK [47] 0 (Lib.count s [47]) s = cut47 s
  | [] => by
    have : Lib.count [] [47] = 0 := Lib.count_miss (by decide)
    rw [this]; rfl
  | b :: l => by
    have ih := split_cut l
    by_cases hb : b = 47
    · subst hb
      rw [Lib.count_cons_eq, Nat.add_comm]
      have hi : Lib.index (47 :: l) [47] = 0 := by rw [Lib.index_one]; simp [Lib.indexByte]
      unfold Lib.splitK
      rw [hi]
      simp only [List.length_cons, List.length_nil]
      have e : cut47 (47 :: l) = [] :: cut47 l := by rw [cut47, if_pos rfl]
      rw [e, ← ih]
      rfl
    · rw [Lib.count_cons_ne b 47 l hb]
      have e : cut47 (b :: l) = match cut47 l with | [] => [[b]] | x :: r => (b :: x) :: r := by rw [cut47, if_neg hb]
      rw [e, ← ih]
      cases hk : Lib.count l [47] with
      | zero => rfl
      | succ k =>
        obtain ⟨i, hi⟩ := Lib.index_of_count (s := l) (old := [47]) (by omega)
        have hi2 : Lib.index (b :: l) [47] = ((i + 1 : Nat) : Int) := by
          rw [Lib.index_one] at hi ⊢
          have hb' : (b == 47) = false := by simpa using hb
          have h1 : (Lib.indexByte l 47 == -1) = false := by rw [hi]; simp
          rw [Lib.indexByte, hb', h1, hi]
          simp
        have m1 : (((i + 1 : Nat) : Int) == -1) = false := by simp; omega
        have m2 : ((i : Int) == -1) = false := by simp
        unfold Lib.splitK
        rw [hi2, hi, m1, m2]
        simp only [Bool.false_eq_true, if_false, List.length_cons, List.length_nil, Int.toNat_natCast, Nat.add_zero]
        rfl

theorem join_cut : ∀ s : List UInt8, Lib.join (cut47 s) [47] = s
  | [] => by simp [cut47, Lib.join_one]
  | b :: l => by
    have ih := join_cut l
    have hne := cut47_ne l
    by_cases hb : b = 47
    · subst hb
      rw [show cut47 (47 :: l) = [] :: cut47 l by rw [cut47, if_pos rfl], Lib.join_cons]
      cases hc : cut47 l with
      | nil => exact absurd hc hne
      | cons x r =>
        rw [hc, Lib.join_cons] at ih
        rw [← ih]
        simp [Lib.joinTail]
    · rw [show cut47 (b :: l) = match cut47 l with | [] => [[b]] | x :: r => (b :: x) :: r by rw [cut47, if_neg hb]]
      cases hc : cut47 l with
      | nil => exact absurd hc hne
      | cons x r =>
        rw [hc, Lib.join_cons] at ih
        show Lib.join ((b :: x) :: r) [47] = _
        rw [Lib.join_cons, ← ih]
        rfl
theorem cut_plain : ∀ (x : List UInt8), (∀ b ∈ x, b ≠ 47) → cut47 x = [x]
  | [], _ => rfl
  | b :: x, h => by
    rw [cut47, if_neg (h b (by simp)), cut_plain x (fun c hc => h c (by simp [hc]))]
theorem cut_append : ∀ (x l : List UInt8), (∀ b ∈ x, b ≠ 47) → cut47 (x ++ 47 :: l) = x :: cut47 l
  | [], l, _ => by rw [List.nil_append, cut47, if_pos rfl]
  | b :: x, l, h => by
    rw [List.cons_append, cut47, if_neg (h b (by simp)), cut_append x l (fun c hc => h c (by simp [hc]))]
theorem cut_join : ∀ (xs : List (List UInt8)), xs ≠ [] → (∀ x ∈ xs, ∀ b ∈ x, b ≠ 47) → cut47 (Lib.join xs [47]) = xs
  | [], h, _ => absurd rfl h
  | [x], _, h => by rw [Lib.join_one]; exact cut_plain x (h x (by simp))
  | x :: y :: r, _, h => by
    have ih := cut_join (y :: r) (by simp) (fun z hz => h z (by simp [hz]))
    rw [Lib.join_cons] at ih
    rw [Lib.join_cons]
    have e : x ++ Lib.joinTail [47] (y :: r) = x ++ 47 :: (y ++ Lib.joinTail [47] r) := by simp [Lib.joinTail]
    rw [e, cut_append x _ (h x (by simp)), ih]
end Go.Proofs.YteffoihkljkfdaaDoor
