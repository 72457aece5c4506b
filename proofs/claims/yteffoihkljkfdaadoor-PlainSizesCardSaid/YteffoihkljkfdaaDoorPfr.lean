/- What leaves what alone. -/
import Derived.Test.YteffoihkljkfdaaDoorRgg
import Derived.Maps.OwnSet
import Derived.Maps.RangeWalk
namespace Go.Proofs.YteffoihkljkfdaaDoor
set_option linter.unusedSimpArgs false
set_option linter.unusedVariables false
open Go.RowKit

/-- nothing but block b has turned -/
theorem turned_hat {w w' : World} {b k : Nat} (h : w.mapTurned w' b) (hk : k ≠ b) (hl : k < w.heap.size) : hat w' k = hat w k := h.grown.block k hl (fun e => hk (by injection e))
/-- nothing but the blocks ex (and new ones) has turned -/
structure Fr (ex : List Nat) (w w' : World) : Prop where
  os : w'.os = w.os
  tape : w'.tape = w.tape
  output : w'.output = w.output
  size : w.heap.size ≤ w'.heap.size
  block : ∀ b, b < w.heap.size → b ∉ ex → hat w' b = hat w b
theorem Fr.refl (ex : List Nat) (w : World) : Fr ex w w := ⟨rfl, rfl, rfl, Nat.le_refl _, fun _ _ _ => rfl⟩
theorem Fr.trans {ex : List Nat} {a b c : World} (h : Fr ex a b) (h2 : Fr ex b c) : Fr ex a c :=
  ⟨h2.os.trans h.os, h2.tape.trans h.tape, h2.output.trans h.output, Nat.le_trans h.size h2.size, fun k hk hn => (h2.block k (Nat.lt_of_lt_of_le hk h.size) hn).trans (h.block k hk hn)⟩
theorem Fr.mono {ex ex' : List Nat} {a b : World} (h : Fr ex a b) (hs : ∀ k ∈ ex, k ∈ ex') : Fr ex' a b :=
  ⟨h.os, h.tape, h.output, h.size, fun k hk hn => h.block k hk fun hm => hn (hs k hm)⟩
theorem fr_below {w w' : World} (h : Below w.heap.size w w') (ex : List Nat) : Fr ex w w' := ⟨h.os, h.tape, h.output, h.size, fun b hb _ => h.block b hb⟩
theorem fr_turned {w w' : World} {b : Nat} (h : w.mapTurned w' b) : Fr [b] w w' :=
  ⟨h.grown.os, h.grown.tape, h.grown.output, h.grown.size, fun k hk hn => turned_hat h (by simpa using hn) hk⟩
theorem fr_grown {w w' : World} {row : Option Nat} (h : w.grownBy w' row) : Fr row.toList w w' :=
  ⟨h.os, h.tape, h.output, h.size, fun k hk hn => h.block k hk (fun e => hn (by rw [← e]; simp))⟩
theorem fr_setCell (w : World) (g i : Nat) (v : Value) : Fr [g] w (w.setCell ⟨g, i, none⟩ v) :=
  ⟨rfl, rfl, rfl, by simp [World.setCell], fun k hk hn => hat_setCell _ ⟨g, i, none⟩ _ _ (by simpa using hn)⟩
theorem fr_drew {ex : List Nat} {a w : World} (h : Fr ex a w) : Fr ex a w.drew := ⟨h.os, h.tape, h.output, h.size, h.block⟩
theorem Fr.below {ex : List Nat} {w w' : World} {B : Nat} (h : Fr ex w w') (hB : B ≤ w.heap.size) (he : ∀ k ∈ ex, B ≤ k) : Below B w w' :=
  ⟨h.os, h.tape, h.output, h.size, fun k hk => h.block k (Nat.lt_of_lt_of_le hk hB) fun hm => by have := he k hm; omega⟩
theorem fr_new (w : World) (o : Obj) (ex : List Nat) : Fr ex w (w.alloc o) := fr_below ((Below.refl w.heap.size w).alloc (Nat.le_refl _) _) _
/-- blocks that came to be since need not be named -/
theorem Fr.past {ex ex' : List Nat} {w w' : World} (h : Fr ex w w') (hs : ∀ k ∈ ex, k ∈ ex' ∨ w.heap.size ≤ k) : Fr ex' w w' :=
  ⟨h.os, h.tape, h.output, h.size, fun b hb hn => h.block b hb fun hm => by
    rcases hs b hm with h1 | h1
    · exact hn h1
    · omega⟩
end Go.Proofs.YteffoihkljkfdaaDoor
