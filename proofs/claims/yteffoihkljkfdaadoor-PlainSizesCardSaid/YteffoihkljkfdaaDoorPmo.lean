/- Maps that may be nil: look-up, range and its step at the operations. -/
import Derived.Test.YteffoihkljkfdaaDoorPmr
namespace Go.Proofs.YteffoihkljkfdaaDoor
set_option linter.unusedSimpArgs false
set_option linter.unusedVariables false
open Go.RowKit Go.Maps

section
variable {k e t : TypeId} {κ : Type} (E : KE k κ)
/-- v is nil, or the map m in block ob -/
def MO (w : World) (v : Value) (ob : Option Nat) (m : κ → Option Value) (c : Nat) : Prop :=
  (v = .map none ∧ ob = none ∧ (∀ x, m x = none) ∧ c = 0) ∨ ∃ b, v = .map (some b) ∧ ob = some b ∧ MG E w b m c
/-- a range over such a one -/
def MRO (w : World) (ob : Option Nat) (r : Nat) (m : κ → Option Value) (c : Nat) (left : κ → Bool) (cnt : Nat) : Prop :=
  (ob = none ∧ hat w r = some (.mapIter none 0 #[] 0) ∧ (∀ x, left x = false) ∧ (∀ x, m x = none) ∧ c = 0) ∨ ∃ b, ob = some b ∧ MR E w b r m c left cnt
variable {E} {w : World} {v : Value} {ob : Option Nat} {r c cnt : Nat} {m : κ → Option Value} {left : κ → Bool}
theorem MO.lt (h : MO E w v ob m c) : ∀ g, ob = some g → g < w.heap.size := by
  rintro g rfl
  rcases h with ⟨-, h, -⟩ | ⟨b, -, h, h2⟩
  · cases h
  · cases h; exact h2.lt
theorem MO.fr {w' : World} {ex : List Nat} (h : MO E w v ob m c) (hf : Fr ex w w') (hn : ∀ g, ob = some g → g ∉ ex) : MO E w' v ob m c := by
  rcases h with h | ⟨b, h1, h2, h3⟩
  · exact .inl h
  · exact .inr ⟨b, h1, h2, h3.fr hf (hn b h2)⟩
theorem MO.map (h : MO E w v ob m c) : v = .map ob := by
  rcases h with ⟨rfl, rfl, -⟩ | ⟨b, rfl, rfl, -⟩ <;> rfl
theorem MRO.lt (h : MRO E w ob r m c left cnt) : r < w.heap.size := by
  rcases h with ⟨-, h, -⟩ | ⟨b, -, h⟩
  · exact hat_lt h
  · exact h.lt
theorem MRO.mo (h : MRO E w ob r m c left cnt) : MO E w (.map ob) ob m c := by
  rcases h with ⟨rfl, -, -, h1, h2⟩ | ⟨b, rfl, h⟩
  · exact .inl ⟨rfl, rfl, h1, h2⟩
  · exact .inr ⟨b, rfl, rfl, h.mg⟩
theorem MRO.fr {w' : World} {ex : List Nat} (h : MRO E w ob r m c left cnt) (hf : Fr ex w w') (hn : ∀ g, ob = some g → g ∉ ex) (hr : r ∉ ex) : MRO E w' ob r m c left cnt := by
  rcases h with ⟨h1, h2, h3⟩ | ⟨b, h1, h2⟩
  · exact .inl ⟨h1, (hf.block r (hat_lt h2) hr).trans h2, h3⟩
  · exact .inr ⟨b, h1, h2.fr hf (hn b h1) hr⟩
theorem MRO.ne (h : MRO E w ob r m c left cnt) : ob ≠ some r := by
  rcases h with ⟨rfl, -⟩ | ⟨b, rfl, h⟩
  · simp
  · intro e
    exact h.ne (Option.some.inj e).symm
theorem MRO.left_eq {b : Nat} (h : MRO E w (some b) r m c left cnt) : w.rangeLeft b r = cnt := by
  rcases h with ⟨h, -⟩ | ⟨b', e, h⟩
  · cases h
  · cases e; exact h.left_eq
theorem MRO.sub (h : MRO E w ob r m c left cnt) : ∀ x, left x = true → (m x).isSome = true := by
  rcases h with ⟨-, -, h, -⟩ | ⟨b, -, h⟩
  · intro x hx; rw [h x] at hx; cases hx
  · exact h.sub
theorem MO.range (h : MO E w v ob m c) (ht : Tryd.prog.underlying t = some (.map k e)) :
    ∃ w' cnt, (Instr.range t v).run Tryd.prog w = .ok (.pointer (some ⟨w.heap.size, 0, none⟩)) w' ∧ MRO E w' ob w.heap.size m c (fun x => (m x).isSome) cnt ∧ Fr [] w w' ∧ w'.heap.size = w.heap.size + 1 := by
  rcases h with ⟨rfl, rfl, h1, h2⟩ | ⟨b, rfl, rfl, h⟩
  · exact ⟨_, 0, run_range_nilMap w t k e ht, .inl ⟨rfl, (hopN w _).1, fun x => by simp [h1 x], h1, h2⟩, fr_new w _ [], by simp⟩
  · obtain ⟨w', cnt, hr, hm, hg, hs⟩ := h.range ht
    exact ⟨w', cnt, hr, .inr ⟨b, rfl, hm⟩, fr_grown hg, hs⟩
theorem MRO.next [DecidableEq κ] (h : MRO E w ob r m c left cnt) (ty : TypeId) :
    ((∀ x, left x = false) ∧ (Instr.next (.pointer (some ⟨r, 0, none⟩)) false ty).run Tryd.prog w = .ok (.tuple #[.bool false]) w) ∨
    ∃ x v w' cnt', E.ok x ∧ left x = true ∧ m x = some v ∧ (Instr.next (.pointer (some ⟨r, 0, none⟩)) false ty).run Tryd.prog w = .ok (.tuple #[.bool true, E.kv x, v]) w' ∧
      MRO E w' ob r m c (fun y => left y && !decide (y = x)) cnt' ∧ cnt' < cnt ∧ Fr [r] w w' ∧ w'.heap.size = w.heap.size ∧ (Instr.entry (.pointer (some ⟨r, 0, none⟩))).run Tryd.prog w' = .ok (.tuple #[E.kv x, v]) w' ∧ ∃ b, ob = some b := by
  rcases h with ⟨rfl, h1, h2, -⟩ | ⟨b, rfl, h⟩
  · refine .inl ⟨h2, ?_⟩
    have h1' : w.heap[r]? = some (.mapIter none 0 #[] 0) := h1
    simp only [Instr.next, getObj, Sem.run_bind, Sem.run, h1', Result.andThen]
    rfl
  · rcases h.next ty with ⟨g1, g2, g3⟩ | ⟨x, v, w', cnt', g1, g2, g3, g4, g5, g6, g7, g8, g9⟩
    · exact .inl ⟨g2, g3⟩
    · exact .inr ⟨x, v, w', cnt', g1, g2, g3, g4, .inr ⟨b, rfl, g5⟩, g6, by simpa using fr_grown g7, g8, g9, b, rfl⟩
theorem MO.lookc (h : MO E w v ob m c) (ht : Tryd.prog.underlying t = some (.map k e)) {z : Value} (hz : (zeroValue e).run Tryd.prog w = .ok z w) {x : κ} (hx : E.ok x) :
    (Instr.lookup t v (E.kv x) false).run Tryd.prog w = .ok ((m x).getD z) w := by
  rcases h with ⟨rfl, rfl, h1, h2⟩ | ⟨b, rfl, rfl, h⟩
  · rw [h1 x]
    exact Go.Maps.look_nil false E.K ht hz (E.key hx)
  · exact h.lookc ht hz hx
theorem MO.look_ok (h : MO E w v ob m c) (ht : Tryd.prog.underlying t = some (.map k e)) {z : Value} (hz : (zeroValue e).run Tryd.prog w = .ok z w) {x : κ} (hx : E.ok x) :
    (Instr.lookup t v (E.kv x) true).run Tryd.prog w = .ok (.tuple #[(m x).getD z, .bool (m x).isSome]) w := by
  rcases h with ⟨rfl, rfl, h1, h2⟩ | ⟨b, rfl, rfl, h⟩
  · rw [h1 x]
    exact Go.Maps.look_nil true E.K ht hz (E.key hx)
  · exact h.look_ok ht hz hx
end
section
variable {k e : TypeId} {κ : Type} {E : KE k κ} {w : World} {v : Value} {ob : Option Nat} {r c cnt : Nat} {m : κ → Option Value} {left : κ → Bool} {ops : Array Oper} {rest : List Oper} {o : Oper} {a : Act} {Q : Exit → Act → World → Prop}
theorem wpList_range_mo (hg : o.guard = none) (x : Operand) (t : TypeId) (hop : o.op = Op.range t x) (ht : Tryd.prog.underlying t = some (.map k e)) (hx : a.eval x = v) (h : MO E w v ob m c)
    (hK : ∀ w' cnt, MRO E w' ob w.heap.size m c (fun x => (m x).isSome) cnt → Fr [] w w' → w'.heap.size = w.heap.size + 1 → wpList Tryd.prog ops Q rest (a.put o.dst (.pointer (some ⟨w.heap.size, 0, none⟩))) w') :
    wpList Tryd.prog ops Q (o :: rest) a w := by
  refine wpList_plain hg fun K' hK' => ?_
  obtain ⟨w', cnt, hrun, r1, r2, r3⟩ := h.range ht
  unfold Oper.wp
  simp [execOp, hop, hx, hrun, Result.andThen]
  exact hK' _ _ (hK w' cnt r1 r2 r3)
theorem wpList_next_mo [DecidableEq κ] (hg : o.guard = none) (it : Operand) (hop : o.op = Op.next it false) (hit : a.eval it = .pointer (some ⟨r, 0, none⟩)) (h : MRO E w ob r m c left cnt)
    (hDone : (∀ x, left x = false) → wpList Tryd.prog ops Q rest (a.put o.dst (.tuple #[.bool false])) w)
    (hMore : ∀ x v w' cnt' b, E.ok x → left x = true → m x = some v → MRO E w' ob r m c (fun y => left y && !decide (y = x)) cnt' → cnt' < cnt → Fr [r] w w' → w'.heap.size = w.heap.size → (Instr.entry (.pointer (some ⟨r, 0, none⟩))).run Tryd.prog w' = .ok (.tuple #[E.kv x, v]) w' → ob = some b →
      wpList Tryd.prog ops Q rest (a.put o.dst (.tuple #[.bool true, E.kv x, v])) w') :
    wpList Tryd.prog ops Q (o :: rest) a w := by
  refine wpList_plain hg fun K' hK' => ?_
  unfold Oper.wp
  rcases h.next o.type with ⟨hl, hrun⟩ | ⟨x, v, w', cnt', g1, g2, g3, hrun, g5, g6, g7, g8, g9, b, g10⟩
  · simp [execOp, hop, hit, hrun, Result.andThen]
    exact hK' _ _ (hDone hl)
  · simp [execOp, hop, hit, hrun, Result.andThen]
    exact hK' _ _ (hMore x v w' cnt' b g1 g2 g3 g5 g6 g7 g8 g9 g10)
end
end Go.Proofs.YteffoihkljkfdaaDoor
