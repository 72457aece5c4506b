/- A plain file system, and where it lies. -/
import Derived.Test.YteffoihkljkfdaaDoorPct
namespace Go.Proofs.YteffoihkljkfdaaDoor
set_option linter.unusedSimpArgs false
set_option linter.unusedVariables false
open Go.RowKit

structure PS where
  sectors : Int
  inodes : Int
  nodes : Int → Option Nd
def ptrM (S : PS) (A : Int → NA) : Int → Option Value := fun i => (S.nodes i).map fun _ => .pointer (some ⟨(A i).g, 0, none⟩)
/-- it is as it may be (numbers alone) -/
structure POk (S : PS) : Prop where
  s : 8 ≤ S.sectors ∧ S.sectors ≤ 4096
  i : 1 ≤ S.inodes ∧ S.inodes ≤ 512
  k : ∀ i, (S.nodes i).isSome = true → 1 ≤ i ∧ i ≤ S.inodes
  n : ∀ i n, S.nodes i = some n → NOk n
/-- it lies in the blocks that own tells -/
structure PT (w : World) (gp bn c : Nat) (S : PS) (A : Int → NA) (own : Nat → Option (Int × Nat)) : Prop where
  p : hat w gp = some (.cells #[.int .i64 S.sectors, .int .i64 S.inodes, .map (some bn)] 77)
  m : MG kInt w bn (ptrM S A) c
  n : ∀ i n, S.nodes i = some n → NodeAt w (A i) n
  op : own gp = some (-1, 0) ∧ own bn = some (-1, 1)
  og : ∀ i n, S.nodes i = some n → own (A i).g = some (i, 0) ∧ (∀ b, (A i).db = some b → own b = some (i, 1)) ∧ (∀ b, (A i).sb = some b → own b = some (i, 2)) ∧ ∀ b, (A i).nb = some b → own b = some (i, 3)
/-- nothing of what is not there turned -/
theorem PT.fr {w w' : World} {gp bn c : Nat} {S : PS} {A : Int → NA} {own : Nat → Option (Int × Nat)} {ex : List Nat} (h : PT w gp bn c S A own) (hf : Fr ex w w') (hx : ∀ b ∈ ex, own b = none) : PT w' gp bn c S A own := by
  have k : ∀ b t, own b = some t → b ∉ ex := fun b t hb hm => by rw [hx b hm] at hb; cases hb
  exact ⟨(hf.block _ (hat_lt h.p) (k _ _ h.op.1)).trans h.p, h.m.fr hf (k _ _ h.op.2), fun i n hi => (h.n i n hi).fr hf (k _ _ (h.og i n hi).1) (fun b hb => k _ _ ((h.og i n hi).2.1 b hb)) (fun b hb => k _ _ ((h.og i n hi).2.2.1 b hb)) (fun b hb => k _ _ ((h.og i n hi).2.2.2 b hb)), h.op, h.og⟩
theorem PT.cnt {w : World} {gp bn c : Nat} {S : PS} {A : Int → NA} {own : Nat → Option (Int × Nat)} (h : PT w gp bn c S A own) (hS : POk S) : c = cntB 513 (fun i => (S.nodes i).isSome) := by
  obtain ⟨l, h1, h2, h3⟩ := h.m.keys
  rw [← h2]
  refine (cntB_list h1 (fun x => ?_) (fun x hx => ?_)).symm
  · rw [h3]
    unfold ptrM
    cases S.nodes x <;> simp
  · have := hS.k x hx
    have := hS.i
    omega
/-- a sum over the first N -/
def sumB (N : Nat) (f : Int → Int) : Int := ((List.range N).map fun (i : Nat) => f i).sum
theorem sumB_congr {N : Nat} {f g : Int → Int} (h : ∀ k : Int, 0 ≤ k → k < N → f k = g k) : sumB N f = sumB N g := by
  unfold sumB
  congr 1
  refine List.map_congr_left fun i hi => ?_
  have := List.mem_range.1 hi
  exact h i (by omega) (by omega)
theorem sumB_succ (N : Nat) (f : Int → Int) : sumB (N + 1) f = sumB N f + f N := by
  unfold sumB
  rw [List.range_succ, List.map_append, List.sum_append]
  simp
/-- one term differs -/
theorem sumB_step {N : Nat} {f g : Int → Int} {x : Int} (hx : 0 ≤ x ∧ x < N) (h : ∀ k, k ≠ x → g k = f k) : sumB N g = sumB N f + (g x - f x) := by
  induction N with
  | zero => omega
  | succ N ih =>
    rw [sumB_succ, sumB_succ]
    by_cases hN : x = (N : Int)
    · subst hN
      rw [sumB_congr (f := g) (g := f) (fun k h0 h1 => h k (by omega))]
      omega
    · rw [ih (by omega), h N (fun e => hN e.symm)]
      omega
theorem sumB_zero (N : Nat) : sumB N (fun _ => 0) = 0 := by
  induction N with
  | zero => rfl
  | succ N ih => rw [sumB_succ, ih]; rfl
theorem sumB_le {N : Nat} {f : Int → Int} {B : Int} (h : ∀ k, 0 ≤ f k ∧ f k ≤ B) : 0 ≤ sumB N f ∧ sumB N f ≤ N * B := by
  induction N with
  | zero => simp [sumB]
  | succ N ih =>
    rw [sumB_succ]
    have := h N
    have e : ((N + 1 : Nat) : Int) * B = N * B + B := by rw [show ((N + 1 : Nat) : Int) = (N : Int) + 1 by omega, Int.add_mul]; omega
    rw [e]
    omega
def ncount : Option Nd → Int
  | some n => n.count
  | none => 0
/-- how many data sectors all have -/
def PS.used (S : PS) : Int := sumB 513 fun i => ncount (S.nodes i)
end Go.Proofs.YteffoihkljkfdaaDoor
