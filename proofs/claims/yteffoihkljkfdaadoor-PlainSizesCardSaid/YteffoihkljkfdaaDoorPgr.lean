/- Rows in any block. -/
import Derived.Test.YteffoihkljkfdaaDoorPfr
import Derived.Deep.AppendSrc
import Derived.Maps.AppendAt
namespace Go.Proofs.YteffoihkljkfdaaDoor
set_option linter.unusedSimpArgs false
set_option linter.unusedVariables false
open Go.RowKit

theorem add_none (g off j : Nat) : (⟨g, off, none⟩ : Addr).add j = ⟨g, off + j, none⟩ := by unfold Addr.add; split <;> simp_all
theorem fr_setCells (g : Nat) : ∀ (vs : List Value) (o : Nat) (w : World), Fr [g] w (w.setCells g o vs)
  | [], _, w => Fr.refl _ w
  | v :: r, o, w => (fr_setCell w g o v).trans (fr_setCells g r (o + 1) _)
theorem hat_setCells (g : Nat) (t : TypeId) (fr : Nat × Nat) : ∀ (vs : List Value) (o : Nat) (w : World) (cs : Array Value), hat w g = some (.cells cs t fr) → ∃ cs', hat (w.setCells g o vs) g = some (.cells cs' t fr) ∧ cs'.size = cs.size ∧
    (∀ j, j < o → cs'[j]? = cs[j]?) ∧ ∀ j v, vs[j]? = some v → o + j < cs.size → cs'[o + j]? = some v
  | [], o, w, cs, h => ⟨cs, h, rfl, fun _ _ => rfl, fun j v hv => by simp at hv⟩
  | x :: r, o, w, cs, h => by
    obtain ⟨cs', h1, h2, h3, h4⟩ := hat_setCells g t fr r (o + 1) _ _ (hat_setCell_at w g o x _ _ _ h)
    refine ⟨cs', h1, by rw [h2]; simp, fun j hj => ?_, fun j v hv hj => ?_⟩
    · rw [h3 j (by omega), Array.getElem?_setIfInBounds, if_neg (by omega)]
    · cases j with
      | zero =>
        simp at hv
        subst hv
        rw [Nat.add_zero] at hj ⊢
        rw [h3 o (by omega), Array.getElem?_setIfInBounds, if_pos rfl, if_pos hj]
      | succ j =>
        have := h4 j v (by simpa using hv) (by simp; omega)
        rw [show o + (j + 1) = o + 1 + j by omega]
        exact this
theorem wpList_append_run {P : Program} (w : World) {ops : Array Oper} {rest : List Oper} {o : Oper} {a : Act} {Q : Exit → Act → World → Prop} (hgd : o.guard = none) (s x : Operand) (t : TypeId)
    (ho : o.op = .call { callee := .builtin .append, args := #[s, x], argTypes := #[t, t] }) (v u : Value) (hs : a.eval s = v) (hx : a.eval x = u) (v' : Value) (w' : World)
    (hr : (Builtin.append_ #[t, t] o.type #[v, u]).run P w = .ok v' w') (h : wpList P ops Q rest (a.put o.dst v') w') : wpList P ops Q (o :: rest) a w := by
  refine wpList_plain hgd fun K hK => ?_
  unfold Oper.wp
  simp [execOp, ho, resolve, invoke, builtin, hs, hx, hr, Result.andThen]
  exact hK _ _ h
/-- the slice v lists n elements of type T, sz cells each; f: the cells; they lie in block ob -/
def GRow (T : TypeId) (sz : Nat) (w : World) (v : Value) (ob : Option Nat) (n : Nat) (f : Nat → Value) : Prop :=
  (v = .slice none 0 0 ∧ ob = none ∧ n = 0) ∨ ∃ g off c cs, v = .slice (some ⟨g, off, none⟩) n c ∧ ob = some g ∧ hat w g = some (.cells cs T) ∧ off + n * sz ≤ cs.size ∧ off + c * sz ≤ cs.size ∧ ∀ k, k < n * sz → cs[off + k]? = some (f k)
theorem GRow.lt {T : TypeId} {sz : Nat} {w : World} {v : Value} {ob : Option Nat} {n : Nat} {f : Nat → Value} (h : GRow T sz w v ob n f) : ∀ g, ob = some g → g < w.heap.size := by
  rintro g rfl
  rcases h with ⟨-, h, -⟩ | ⟨g', off, c, cs, -, h, h2, -⟩
  · cases h
  · cases h; exact hat_lt h2
theorem GRow.fr {T : TypeId} {sz : Nat} {w w' : World} {v : Value} {ob : Option Nat} {n : Nat} {f : Nat → Value} {ex : List Nat} (h : GRow T sz w v ob n f) (hf : Fr ex w w') (hn : ∀ g, ob = some g → g ∉ ex) : GRow T sz w' v ob n f := by
  rcases h with h | ⟨g, off, c, cs, h1, h2, h3, h4⟩
  · exact .inl h
  · exact .inr ⟨g, off, c, cs, h1, h2, (hf.block _ (hat_lt h3) (hn g h2)).trans h3, h4⟩
theorem GRow.slice {T : TypeId} {sz : Nat} {w : World} {v : Value} {ob : Option Nat} {n : Nat} {f : Nat → Value} (h : GRow T sz w v ob n f) : ∃ a c, v = .slice a n c := by
  rcases h with ⟨rfl, -, rfl⟩ | ⟨g, off, c, cs, rfl, -⟩
  · exact ⟨none, 0, rfl⟩
  · exact ⟨_, _, rfl⟩
theorem GRow.congr {T : TypeId} {sz : Nat} {w : World} {v : Value} {ob : Option Nat} {n : Nat} {f f' : Nat → Value} (h : GRow T sz w v ob n f) (he : ∀ k, k < n * sz → f k = f' k) : GRow T sz w v ob n f' := by
  rcases h with h | ⟨g, off, c, cs, h1, h2, h3, h4, h5, h6⟩
  · exact .inl h
  · exact .inr ⟨g, off, c, cs, h1, h2, h3, h4, h5, fun k hk => by rw [← he k hk]; exact h6 k hk⟩
/-- the first of them -/
theorem GRow.first {T : TypeId} {sz : Nat} {w : World} {g off n c : Nat} {f : Nat → Value} (ob : Option Nat) (h : GRow T sz w (.slice (some ⟨g, off, none⟩) n c) ob n f) {m : Nat} (hm : m ≤ n) : GRow T sz w (.slice (some ⟨g, off, none⟩) m c) ob m f := by
  rcases h with ⟨h, -⟩ | ⟨g', off', c', cs, e, h2, h3, h4, h5, h6⟩
  · cases h
  · injection e with e1 e2 e3
    injection e1 with e1
    injection e1 with p1 p2
    subst p1 p2 e3
    have h7 : m * sz ≤ n * sz := Nat.mul_le_mul_right _ hm
    exact .inr ⟨g, off, c, cs, rfl, h2, h3, by omega, h5, fun k hk => h6 k (by omega)⟩
/-- a list has grown: in its place, or it has moved -/
def Grew (w w' : World) (v v' : Value) (ob ob' : Option Nat) (n n' : Nat) : Prop :=
  (∃ a c, v' = .slice a n' c ∧ n' ≤ c) ∧ ((∃ a c, v = .slice a n c ∧ v' = .slice a n' c ∧ ob' = ob ∧ Fr ob.toList w w') ∨ ∃ g, ob' = some g ∧ w.heap.size ≤ g ∧ Fr [] w w')
theorem Grew.fr {w w' : World} {v v' : Value} {ob ob' : Option Nat} {n n' : Nat} (h : Grew w w' v v' ob ob' n n') : Fr ob.toList w w' := by
  rcases h.2 with ⟨a, c, -, -, -, h⟩ | ⟨g, -, -, h⟩
  · exact h
  · exact h.mono (by simp)
theorem Grew.ob {w w' : World} {v v' : Value} {ob ob' : Option Nat} {n n' : Nat} (h : Grew w w' v v' ob ob' n n') : ob' = ob ∨ ∃ g, ob' = some g ∧ w.heap.size ≤ g := by
  rcases h.2 with ⟨a, c, -, -, h, -⟩ | ⟨g, h1, h2, -⟩
  · exact .inl h
  · exact .inr ⟨g, h1, h2⟩
def catF (m : Nat) (f f2 : Nat → Value) : Nat → Value := fun k => if k < m then f k else f2 (k - m)
/-- a list appended to a list -/
theorem run_append_g {P : Program} {ST T : TypeId} {sz B : Nat} (ht : P.underlying ST = some (.slice T)) {inf : TypeInfo} {z : Value} (hi : P.info? T = some inf) (hz : inf.zero = some z) (hzs : z.cells.size = sz) (his : inf.size = sz) (hib : inf.bytes = B)
    {w : World} {v u : Value} {ob : Option Nat} {n m : Nat} {f f2 : Nat → Value} (h : GRow T sz w v ob n f) {news : List Value} (hs : Src P sz ST u m news w) (hnw : ∀ k, k < m * sz → news[k]? = some (f2 k)) (hB : 0 < B) (hn : (n + m) * B ≤ 140737488355328) (ty : TypeId) :
    ∃ v' w' ob', (Builtin.append_ #[ST, ST] ty #[v, u]).run P w = .ok v' w' ∧ GRow T sz w' v' ob' (n + m) (catF (n * sz) f f2) ∧ Grew w w' v v' ob ob' n (n + m) := by
  have hs' : Src P inf.size ST u m news w := by rw [his]; exact hs
  have hnl : news.length = m * sz := hs.newsLen
  by_cases hroom : ∃ g off c cs, v = .slice (some ⟨g, off, none⟩) n c ∧ ob = some g ∧ hat w g = some (.cells cs T) ∧ n + m ≤ c ∧ off + n * sz ≤ cs.size ∧ off + c * sz ≤ cs.size ∧ ∀ k, k < n * sz → cs[off + k]? = some (f k)
  · obtain ⟨g, off, c, cs, rfl, rfl, hg, hc, hnsz, hcsz, hf⟩ := hroom
    have hle : (n + m) * sz ≤ c * sz := Nat.mul_le_mul_right _ hc
    rw [Nat.add_mul] at hle
    have hr := run_append_room_src (P := P) w ST ST ty T inf ht hi g off n c u m news hs' hc
      (fun j hj => by
        rw [his, cell_hat hg, Array.getElem?_eq_getElem (by omega)]; rfl)
      (fun j hj => frozen_hat hg _)
    rw [his] at hr
    obtain ⟨cs', a1, a2, a3, a4⟩ := hat_setCells g T (0, 0) news (off + n * sz) w cs hg
    refine ⟨_, _, some g, hr, .inr ⟨g, off, c, cs', rfl, rfl, a1, by rw [a2, Nat.add_mul]; omega, by rw [a2]; exact hcsz, fun k hk => ?_⟩, ⟨⟨_, _, rfl, hc⟩, .inl ⟨_, _, rfl, rfl, rfl, (fr_setCells g _ _ _).mono (by simp)⟩⟩⟩
    unfold catF
    rw [Nat.add_mul] at hk
    by_cases hk1 : k < n * sz
    · rw [if_pos hk1, a3 _ (by omega)]
      exact hf k hk1
    · rw [if_neg hk1]
      have := a4 (k - n * sz) (f2 (k - n * sz)) (hnw _ (by omega)) (by omega)
      rw [show off + n * sz + (k - n * sz) = off + k by omega] at this
      exact this
  · by_cases h0 : v = .slice none 0 0 ∧ ob = none ∧ n = 0 ∧ m = 0
    · obtain ⟨rfl, rfl, rfl, rfl⟩ := h0
      have hnil : news = [] := List.eq_nil_of_length_eq_zero (by simpa using hnl)
      subst hnil
      refine ⟨.slice none 0 0, w, none, ?_, .inl ⟨rfl, rfl, rfl⟩, ⟨none, 0, rfl, Nat.le_refl _⟩, .inl ⟨none, 0, rfl, rfl, rfl, Fr.refl _ _⟩⟩
      have hc0 : (Builtin.firstCells inf.size 0 u).run P w = .ok #[] w := hs'.cells
      rcases hs'.kind with ⟨e', hk⟩ | hk <;> simp [Builtin.append_, run_underlying ht, run_underlying hk, sizeOf, typeInfo, hi, hs'.len, hc0]
    · have hpos : 0 < sz ∨ sz = 0 := by omega
      obtain ⟨base, cp, hv, hcp, olds, hol, hold, hof⟩ : ∃ base cp, v = .slice base n cp ∧ cp < n + m ∧ ∃ olds : List Value, olds.length = n * sz ∧ (Builtin.firstCells inf.size n (.slice base n cp)).run P w.drew = .ok olds.toArray w.drew ∧ ∀ k, k < n * sz → olds[k]? = some (f k) := by
        rcases h with ⟨rfl, rfl, rfl⟩ | ⟨g, off, c, cs, rfl, rfl, hg, hnsz, hcsz, hf⟩
        · refine ⟨none, 0, rfl, ?_, [], by simp, run_firstCells_none w.drew _ 0 0 0, fun k hk => by simp at hk⟩
          by_cases hm0 : m = 0
          · exact absurd ⟨rfl, rfl, rfl, hm0⟩ h0
          · omega
        · refine ⟨some ⟨g, off, none⟩, c, rfl, ?_, (cs.extract off (off + n * sz)).toList, by simp; omega, ?_, fun k hk => ?_⟩
          · exact Nat.lt_of_not_le fun hle => hroom ⟨g, off, c, cs, rfl, rfl, hg, hle, hnsz, hcsz, hf⟩
          · refine run_firstCells_some w.drew _ n ⟨g, off, none⟩ n c _ (by rw [his]; simp; omega) fun j x hj => ?_
            rw [add_none]
            show w.cell? _ = _
            rw [cell_hat hg]
            have hjl : j < n * sz := by
              have := (List.getElem?_eq_some_iff.1 hj).1
              simp at this; omega
            rw [Array.getElem?_toList, Array.getElem?_extract, if_pos (by omega)] at hj
            exact hj
          · rw [Array.getElem?_toList, Array.getElem?_extract, if_pos (by omega)]
            exact hf k hk
      subst hv
      have hle1 : (n + m) * 1 ≤ (n + m) * B := Nat.mul_le_mul_left _ hB
      have hr := run_append_grow_src (P := P) w ST ST ty T inf z ht hi hz base n cp olds hold u m news hs' hcp (by omega) (growslice_fits hcp (by rw [hib]; exact hn))
      have hge := grownCap_ge w (n + m) cp T
      have hle2 : (n + m) * sz ≤ grownCap w (n + m) cp T * sz := Nat.mul_le_mul_right _ hge
      rw [Nat.add_mul] at hle2
      have hsz : ((olds ++ news).toArray ++ Builtin.zeroCells z.cells (grownCap w (n + m) cp T - (n + m))).size = grownCap w (n + m) cp T * sz := by
        rw [Array.size_append, size_zeroCells, hzs, List.size_toArray, List.length_append, hol, hnl, Nat.sub_mul, Nat.add_mul]
        omega
      refine ⟨_, _, some w.heap.size, hr, .inr ⟨w.heap.size, 0, grownCap w (n + m) cp T, _, rfl, rfl, hat_alloc_at w.drew _ _ rfl, ?_, ?_, fun k hk => ?_⟩, ⟨⟨_, _, rfl, hge⟩, .inr ⟨_, rfl, Nat.le_refl _, ?_⟩⟩⟩
      · rw [hsz, Nat.add_mul]; omega
      · rw [hsz]; omega
      · rw [Nat.add_mul] at hk
        unfold catF
        rw [Nat.zero_add, Array.getElem?_append_left (by simp; omega), List.getElem?_toArray]
        by_cases hk1 : k < n * sz
        · rw [if_pos hk1, List.getElem?_append_left (by omega)]
          exact hof k hk1
        · rw [if_neg hk1, List.getElem?_append_right (by omega), hol]
          exact hnw _ (by omega)
      · exact fr_below (show Below w.heap.size w (w.drew.alloc _) from Below.alloc (show Below w.heap.size w w.drew from ⟨rfl, rfl, rfl, Nat.le_refl _, fun _ _ => rfl⟩) (Nat.le_refl _) _) _
/-- a list, as what is appended -/
theorem GRow.src {P : Program} {ST T : TypeId} {sz : Nat} (ht : P.underlying ST = some (.slice T)) {w : World} {v : Value} {ob : Option Nat} {n : Nat} {f : Nat → Value} (h : GRow T sz w v ob n f) (h1 : ∀ k, k < n * sz → (f k).oneCell' = true) :
    ∃ news, Src P sz ST v n news w ∧ ∀ k, k < n * sz → news[k]? = some (f k) := by
  rcases h with ⟨rfl, -, rfl⟩ | ⟨g, off, c, cs, rfl, -, hg, hnsz, hcsz, hf⟩
  · exact ⟨[], Src.ofNil w ht 0, fun k hk => by simp at hk⟩
  · have key : ∀ k x, (cs.extract off (off + n * sz)).toList[k]? = some x → k < n * sz ∧ cs[off + k]? = some x := fun k x hk => by
      have hkl : k < n * sz := by
        have := (List.getElem?_eq_some_iff.1 hk).1
        simp at this; omega
      rw [Array.getElem?_toList, Array.getElem?_extract, if_pos (by omega)] at hk
      exact ⟨hkl, hk⟩
    refine ⟨(cs.extract off (off + n * sz)).toList, Src.ofSlice w ht ⟨g, off, none⟩ n c _ (by simp; omega) (fun j x hj => ?_) (fun x hx => ?_), fun k hk => ?_⟩
    · rw [add_none, cell_hat hg]
      exact (key j x hj).2
    · obtain ⟨j, hj⟩ := List.getElem?_of_mem hx
      obtain ⟨hjl, hj2⟩ := key j x hj
      rw [hf j hjl] at hj2
      rw [← Option.some.inj hj2]
      exact h1 j hjl
    · rw [Array.getElem?_toList, Array.getElem?_extract, if_pos (by omega)]
      exact hf k hk
end Go.Proofs.YteffoihkljkfdaaDoor
