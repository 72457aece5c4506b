/- Inodes are held against each other. -/
import Derived.Test.YthgiolofnkdfoaaIno1
namespace Go.Proofs.Ythgiolofnkdfoaa
set_option linter.unusedSimpArgs false
set_option linter.unusedVariables false
open Go.RowKit
theorem eq41' (a b : List Int) (ha : a.length = 12) (hb : b.length = 12) (w : World) (d : Nat) :
    (Op.equalIn (d + 2) 41 (.agg (IV .i64 a)) (.agg (IV .i64 b))).run Try.prog w = .ok (decide (a = b)) w :=
  run_equalIn_ints Try.underlying41 Try.underlying3 (by kernel_rfl) d .i64 a b ha hb w
theorem ipart (l : List Int) (i : Nat) (h : i < l.length) (w : World) : (part 3 (IV .i64 l) i).run Try.prog w = .ok (.int .i64 (nth l i)) w := run_part_int Try.underlying3 .i64 l i h w
theorem dpart (l : List Int) (i : Nat) (w : World) : (part 41 (IV .i64 l) i).run Try.prog w = .ok (.agg (IV .i64 ((l.drop i).take 12))) w := by
  have hagg : (isAgg 41).run Try.prog w = .ok true w := by kernel_rfl
  have hsz : (sizeOf 41).run Try.prog w = .ok 12 w := by kernel_rfl
  simp only [part, Sem.run_bind, hagg, Result.andThen_ok, if_true, hsz, Sem.run_pure, IV_extract]
  rw [show i + 12 - i = 12 by omega]
theorem ino_ext (a b : List Int) (ha : a.length = 18) (hb : b.length = 18) :
    a = b ↔ nth a 0 = nth b 0 ∧ nth a 1 = nth b 1 ∧ nth a 2 = nth b 2 ∧ nth a 3 = nth b 3 ∧ (a.drop 4).take 12 = (b.drop 4).take 12 ∧ nth a 16 = nth b 16 ∧ nth a 17 = nth b 17 := by
  constructor
  · rintro rfl; simp
  · rintro ⟨h0, h1, h2, h3, h4, h5, h6⟩
    refine nth_ext (by omega) (fun i hi => ?_)
    have hi' : i = 0 ∨ i = 1 ∨ i = 2 ∨ i = 3 ∨ (4 ≤ i ∧ i < 16) ∨ i = 16 ∨ i = 17 := by omega
    rcases hi' with rfl | rfl | rfl | rfl | hi' | rfl | rfl <;> try assumption
    have e := congrArg (fun l => nth l (i - 4)) h4
    simp only [nth, List.getElem?_take, List.getElem?_drop, show i - 4 < 12 by omega, if_true, show 4 + (i - 4) = i by omega] at e
    exact e
theorem eq43 (a b : List Int) (ha : a.length = 18) (hb : b.length = 18) (w : World) :
    (Op.equalIn 10000 43 (.agg (IV .i64 a)) (.agg (IV .i64 b))).run Try.prog w = .ok (decide (a = b)) w := by
  have hf : (Try.prog.fieldsOf 43).toList.map (fun f => (f.name, f.type, f.offset)) = [("Kind", 3, 0), ("Links", 3, 1), ("Size", 3, 2), ("Made", 3, 3), ("Direct", 41, 4), ("Single", 3, 16), ("Double", 3, 17)] := by kernel_rfl
  rw [run_equalIn_struct w 9999 43 (IV .i64 a) (IV .i64 b) (by kernel_rfl) (by kernel_rfl)]
  generalize (Try.prog.fieldsOf 43).toList = fs at hf
  simp only [List.map_eq_cons_iff, List.map_eq_nil_iff, Prod.mk.injEq] at hf
  obtain ⟨f0, l0, rfl, ⟨n0, t0, o0⟩, f1, l1, rfl, ⟨n1, t1, o1⟩, f2, l2, rfl, ⟨n2, t2, o2⟩, f3, l3, rfl, ⟨n3, t3, o3⟩, f4, l4, rfl, ⟨n4, t4, o4⟩, f5, l5, rfl, ⟨n5, t5, o5⟩, f6, l6, rfl, ⟨n6, t6, o6⟩, rfl⟩ := hf
  have he := fun (d : Nat) (x y : Int) => run_equalIn_int (P := Try.prog) w d 3 .i64 .i64 x y Try.underlying3
  have ed := fun (x y : List Int) (hx : x.length = 12) (hy : y.length = 12) => eq41' x y hx hy w 9997
  simp [Op.eqFields, n0, n1, n2, n3, n4, n5, n6, t0, t1, t2, t3, t4, t5, t6, o0, o1, o2, o3, o4, o5, o6, Sem.run_bind, ipart, dpart, ha, hb, he, ed]
  have hx := ino_ext a b ha hb
  by_cases h : a = b
  · subst h; simp
  · have h' := fun h2 => h (hx.2 h2)
    repeat' split
    all_goals first
      | (simp [h]; done)
      | (exfalso; exact h' ⟨by assumption, by assumption, by assumption, by assumption, by assumption, by assumption, by assumption⟩)
theorem eqg43 (op : BinOp) (x y : Operand) (xs ys : Array Value) (w : World) : (eqGuard op 43 x y (.agg xs) (.agg ys)).run Try.prog w = .ok () w := run_eqGuard_agg w op 43 x y xs ys (by kernel_rfl)
attribute [go_sem ↓ high] eq43
attribute [go_sem] eqg43
end Go.Proofs.Ythgiolofnkdfoaa
