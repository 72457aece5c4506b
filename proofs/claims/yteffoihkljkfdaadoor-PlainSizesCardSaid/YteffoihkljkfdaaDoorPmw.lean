/- From one contract to the next. -/
import Derived.Test.YteffoihkljkfdaaDoorPwr
import Derived.Test.YteffoihkljkfdaaDoorPfn
namespace Go.Proofs.YteffoihkljkfdaaDoor
set_option linter.unusedSimpArgs false
set_option linter.unusedVariables false
open Go.RowKit

def nrm (w : World) (own : Nat → Option (Int × Nat)) : Nat → Option (Int × Nat) := fun b => if b < w.heap.size then own b else none
theorem nrm_lt {w : World} {own : Nat → Option (Int × Nat)} {b : Nat} (h : b < w.heap.size) : nrm w own b = own b := if_pos h
theorem nrm_ge {w : World} {own : Nat → Option (Int × Nat)} {b : Nat} (h : w.heap.size ≤ b) : nrm w own b = none := if_neg (by omega)
theorem PW.nrm {w : World} {gp bn c : Nat} {S : PS} {A : Int → NA} {own : Nat → Option (Int × Nat)} (h : PW w gp bn c S A own) : PW w gp bn c S A (nrm w own) := by
  refine ⟨⟨h.t.p, h.t.m, h.t.n, ⟨(nrm_lt (hat_lt h.t.p)).trans h.t.op.1, (nrm_lt h.t.m.lt).trans h.t.op.2⟩, fun i n hi => ?_⟩, h.o, h.f, h.h⟩
  have hl := (h.t.n i n hi).lts
  have ho := h.t.og i n hi
  exact ⟨(nrm_lt hl.1).trans ho.1, fun b hb => (nrm_lt (hl.2.1 b hb)).trans (ho.2.1 b hb), fun b hb => (nrm_lt (hl.2.2.1 b hb)).trans (ho.2.2.1 b hb), fun b hb => (nrm_lt (hl.2.2.2 b hb)).trans (ho.2.2.2 b hb)⟩
theorem Mvd.from {w w0 w' : World} {gp bn : Nat} {own own' : Nat → Option (Int × Nat)} {S' : PS} (hf : Fr [] w w0) (h : Mvd w0 w' gp bn (Go.Proofs.YteffoihkljkfdaaDoor.nrm w own) S' own') : Mvd w w' gp bn own S' own' := by
  obtain ⟨h1, h2, h3⟩ := h
  refine ⟨h1, ?_, fun b hb => (h3 b (Nat.lt_of_lt_of_le hb hf.size)).trans (nrm_lt hb)⟩
  exact ⟨h2.os.trans hf.os, h2.tape.trans hf.tape, h2.output.trans hf.output, Nat.le_trans hf.size h2.size, fun b hb hn => (h2.block b (Nat.lt_of_lt_of_le hb hf.size) ((nrm_lt hb).trans hn)).trans (hf.block b hb (by simp))⟩
theorem Mvd.then {w w' w2 : World} {gp bn : Nat} {own own' : Nat → Option (Int × Nat)} {S' : PS} {ex : List Nat} (h : Mvd w w' gp bn own S' own') (hf : Fr ex w' w2) (hx : ∀ b ∈ ex, own' b = none ∧ w.heap.size ≤ b) : Mvd w w2 gp bn own S' own' := by
  obtain ⟨⟨c', A', h1⟩, h2, h3⟩ := h
  exact ⟨⟨c', A', h1.fr hf (fun b hb => (hx b hb).1)⟩, h2.later hf (fun b hb => (hx b hb).2), h3⟩
theorem AnsAt.fr {w w' : World} {B : Nat} {own own' : Nat → Option (Int × Nat)} {v : Value} {x : Ans} {ex : List Nat} (h : AnsAt w B own v x) (hf : Fr ex w w') (hx : ∀ b ∈ ex, b < B) (ho : ∀ b, B ≤ b → own' b = none) {B' : Nat} (hB : B' ≤ B) : AnsAt w' B' own' v x := by
  obtain ⟨dv, ev, od, oe, h1, h2, h3, h4⟩ := h
  have k : ∀ g, od = some g ∨ oe = some g → g ∉ ex := fun g hg hm => by have := hx g hm; have := (h4 g hg).1; omega
  exact ⟨dv, ev, od, oe, h1, h2.fr hf (fun g hg => k g (.inl hg)), h3.fr hf (fun g hg => k g (.inr hg)), fun g hg => ⟨Nat.le_trans hB (h4 g hg).1, ho g (h4 g hg).1⟩⟩
theorem AnsAt.fr' {w w' : World} {B : Nat} {own : Nat → Option (Int × Nat)} {v : Value} {x : Ans} {ex : List Nat} (h : AnsAt w B own v x) (hf : Fr ex w w') (hx : ∀ b ∈ ex, b < B) {B' : Nat} (hB : B' ≤ B) : AnsAt w' B' own v x := by
  obtain ⟨dv, ev, od, oe, h1, h2, h3, h4⟩ := h
  have k : ∀ g, od = some g ∨ oe = some g → g ∉ ex := fun g hg hm => by have := hx g hm; have := (h4 g hg).1; omega
  exact ⟨dv, ev, od, oe, h1, h2.fr hf (fun g hg => k g (.inl hg)), h3.fr hf (fun g hg => k g (.inr hg)), fun g hg => ⟨Nat.le_trans hB (h4 g hg).1, (h4 g hg).2⟩⟩
/-- the data of an operation -/
structure OpAt (w : World) (own : Nat → Option (Int × Nat)) (o : OpV) (dv : Value) : Prop where
  d : ∃ od, BRow w dv od o.data ∧ ∀ b, od = some b → own b = none
  c : ∀ a l c, dv = .slice a l c → l ≤ c
  b : ∀ x ∈ o.data, 0 ≤ x ∧ x < 256
  l : o.data.length ≤ 140737488355328
theorem OpAt.fr {w w' : World} {own own' : Nat → Option (Int × Nat)} {o : OpV} {dv : Value} {ex : List Nat} (h : OpAt w own o dv) (hf : Fr ex w w') (hx : ∀ b ∈ ex, w.heap.size ≤ b) (ho : ∀ b, b < w.heap.size → own' b = own b) : OpAt w' own' o dv := by
  obtain ⟨od, h1, h2⟩ := h.d
  exact ⟨⟨od, h1.fr hf (fun g hg hm => by have := h1.lt g hg; have := hx g hm; omega), fun b hb => (ho b (h1.lt b hb)).trans (h2 b hb)⟩, h.c, h.b, h.l⟩
def zeroA : Value := .slice none 0 0
end Go.Proofs.YteffoihkljkfdaaDoor
