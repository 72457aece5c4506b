/- Arrays of numbers are held against each other. -/
import Derived.Test.YthgiolofnkdfoaaTy
namespace Go.Proofs.Ythgiolofnkdfoaa
set_option linter.unusedSimpArgs false
set_option linter.unusedVariables false
open Go.RowKit

section
variable {P : Program}
theorem run_part_int {e : TypeId} {k' : IntKind} (hu : P.underlying e = some (.int k')) (k : IntKind) (l : List Int) (i : Nat) (h : i < l.length) (w : World) :
    (part e (IV k l) i).run P w = .ok (.int k (nth l i)) w := by
  have hagg : (isAgg e).run P w = .ok false w := by
    unfold isAgg
    rw [Sem.run_bind, run_underlying hu w]
    rfl
  simp [part, Sem.run_bind, hagg, h]

theorem run_forIn_eq (a b : List Int) (w : World) (f : Nat → Option Bool × Unit → Sem (ForInStep (Option Bool × Unit))) (n : Nat) (ha : a.length = n) (hb : b.length = n)
    (hf : ∀ i, i < n → (f i (none, ())).run P w = .ok (if nth a i = nth b i then .yield (none, ()) else .done (some false, ())) w) :
    ∀ (m j : Nat), j + m = n → (forIn (List.range' j m 1) (none, ()) f).run P w = .ok (if a.drop j = b.drop j then (none, ()) else (some false, ())) w := by
  intro m
  induction m with
  | zero =>
    intro j hj
    have h1 : a.drop j = [] := List.drop_of_length_le (by omega)
    have h2 : b.drop j = [] := List.drop_of_length_le (by omega)
    simp [h1, h2]
  | succ m ih =>
    intro j hj
    have h1 : a.drop j = nth a j :: a.drop (j + 1) := by
      rw [List.drop_eq_getElem_cons (by omega), nth_getElem]
    have h2 : b.drop j = nth b j :: b.drop (j + 1) := by
      rw [List.drop_eq_getElem_cons (by omega), nth_getElem]
    rw [List.range'_succ, List.forIn_cons]
    simp only [Sem.run_bind, hf j (by omega), Result.andThen_ok]
    rw [h1, h2]
    by_cases hx : nth a j = nth b j
    · rw [if_pos hx]
      simp only [hx, List.cons.injEq, true_and]
      exact ih (j + 1) (by omega)
    · rw [if_neg hx]
      simp only [hx, List.cons.injEq, false_and, if_false, Sem.run_pure]

theorem run_equalIn_ints {T n e : Nat} {k' : IntKind} (hu : P.underlying T = some (.array n e)) (he : P.underlying e = some (.int k')) (hi : (P.info? e).map (·.size) = some 1) (d : Nat) (k : IntKind) (a b : List Int)
    (ha : a.length = n) (hb : b.length = n) (w : World) : (Op.equalIn (d + 2) T (.agg (IV k a)) (.agg (IV k b))).run P w = .ok (decide (a = b)) w := by
  cases hq : P.info? e with
  | none => simp [hq] at hi
  | some i =>
    have hs : i.size = 1 := by simpa [hq] using hi
    have hsz : (sizeOf e).run P w = .ok 1 w := by simp [sizeOf, typeInfo, hq, hs]
    unfold Op.equalIn
    simp only [Sem.run_bind, run_underlying hu, Result.andThen_ok, hsz, Nat.mul_one]
    rw [Std.Legacy.Range.forIn_eq_forIn_range']
    simp only [Std.Legacy.Range.size, Nat.sub_zero, Nat.add_sub_cancel, Nat.div_one]
    rw [run_forIn_eq a b w _ n ha hb ?_ n 0 (by omega)]
    · simp only [Result.andThen_ok, List.drop_zero]
      by_cases hab : a = b
      · simp [hab]
      · simp [hab]
    · intro j hj
      simp only [Sem.run_bind, run_part_int he k a j (by omega) w, run_part_int he k b j (by omega) w, Result.andThen_ok, run_equalIn_int w d e k k' _ _ he]
      by_cases hx : nth a j = nth b j
      · simp [hx]
      · simp [hx]
end
section
variable {P : Program}
theorem run_index_IV {T n e : Nat} {k' : IntKind} (hu : P.underlying T = some (.array n e)) (he : P.underlying e = some (.int k')) (hi : (P.info? e).map (·.size) = some 1) (k : IntKind) (l : List Int) (hl : l.length = n) (i : Int) (h0 : 0 ≤ i) (h1 : i < n) (w : World) :
    (Instr.index T (.agg (IV k l)) (.int .i64 i)).run P w = .ok (.int k (nth l i.toNat)) w := by
  cases hq : P.info? e with
  | none => simp [hq] at hi
  | some ii =>
    have hs : ii.size = 1 := by simpa [hq] using hi
    have hsz : (sizeOf e).run P w = .ok 1 w := by simp [sizeOf, typeInfo, hq, hs]
    have hp := run_part_int he k l i.toNat (by omega) w
    simp [Instr.index, asIntOf, run_underlying hu, h0, h1, hsz, hp, Sem.run_bind]
end
theorem ix49 (l : List Int) (hl : l.length = 32) (i : Int) (h0 : 0 ≤ i) (h1 : i < 32) (w : World) :
    (Instr.index 49 (.agg (IV .i64 l)) (.int .i64 i)).run Try.prog w = .ok (.int .i64 (nth l i.toNat)) w :=
  run_index_IV Try.underlying49 Try.underlying3 (by kernel_rfl) .i64 l hl i h0 h1 w
theorem eq49 (a b : List Int) (ha : a.length = 32) (hb : b.length = 32) (w : World) :
    (Op.equalIn 10000 49 (.agg (IV .i64 a)) (.agg (IV .i64 b))).run Try.prog w = .ok (decide (a = b)) w :=
  run_equalIn_ints Try.underlying49 Try.underlying3 (by kernel_rfl) 9998 .i64 a b ha hb w
theorem eqg49 (op : BinOp) (x y : Operand) (xs ys : Array Value) (w : World) : (eqGuard op 49 x y (.agg xs) (.agg ys)).run Try.prog w = .ok () w := run_eqGuard_agg w op 49 x y xs ys (by kernel_rfl)
attribute [go_sem ↓ high] eq49
attribute [go_sem] eqg49 ix49
theorem eq25 (a b : List Int) (ha : a.length = 128) (hb : b.length = 128) (w : World) :
    (Op.equalIn 10000 25 (.agg (IV .u8 a)) (.agg (IV .u8 b))).run Try.prog w = .ok (decide (a = b)) w :=
  run_equalIn_ints Try.underlying25 Try.underlying5 (by kernel_rfl) 9998 .u8 a b ha hb w
theorem eqg25 (op : BinOp) (x y : Operand) (xs ys : Array Value) (w : World) : (eqGuard op 25 x y (.agg xs) (.agg ys)).run Try.prog w = .ok () w := run_eqGuard_agg w op 25 x y xs ys (by kernel_rfl)
attribute [go_sem ↓ high] eq25
attribute [go_sem] eqg25
end Go.Proofs.Ythgiolofnkdfoaa
