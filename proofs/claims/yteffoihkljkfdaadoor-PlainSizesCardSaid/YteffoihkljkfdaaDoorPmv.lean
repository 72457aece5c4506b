/- What an operation leaves: a plain file system, where it lies, what it has turned; answers. -/
import Derived.Test.YteffoihkljkfdaaDoorPsa
namespace Go.Proofs.YteffoihkljkfdaaDoor
set_option linter.unusedSimpArgs false
set_option linter.unusedVariables false
open Go.RowKit

/-- a plain file system as it may be, and where it lies -/
structure PW (w : World) (gp bn c : Nat) (S : PS) (A : Int → NA) (own : Nat → Option (Int × Nat)) : Prop where
  t : PT w gp bn c S A own
  o : POk S
  f : PWf S
  h : ∀ i n, S.nodes i = some n → (n.kind = 2 → (A i).nb.isSome = true) ∧ (n.kind = 1 → (A i).db.isSome = true)
/-- what is nobody's has not turned -/
structure Un (own : Nat → Option (Int × Nat)) (w w' : World) : Prop where
  os : w'.os = w.os
  tape : w'.tape = w.tape
  output : w'.output = w.output
  size : w.heap.size ≤ w'.heap.size
  block : ∀ b, b < w.heap.size → own b = none → hat w' b = hat w b
theorem Un.refl (own : Nat → Option (Int × Nat)) (w : World) : Un own w w := ⟨rfl, rfl, rfl, Nat.le_refl _, fun _ _ _ => rfl⟩
theorem Un.trans {own own' : Nat → Option (Int × Nat)} {a b c : World} (h : Un own a b) (ho : ∀ g, g < a.heap.size → own' g = own g) (h2 : Un own' b c) : Un own a c :=
  ⟨h2.os.trans h.os, h2.tape.trans h.tape, h2.output.trans h.output, Nat.le_trans h.size h2.size, fun k hk hn => (h2.block k (Nat.lt_of_lt_of_le hk h.size) (by rw [ho k hk]; exact hn)).trans (h.block k hk hn)⟩
theorem Fr.un {ex : List Nat} {own : Nat → Option (Int × Nat)} {w w' : World} (h : Fr ex w w') (hx : ∀ b ∈ ex, b < w.heap.size → own b ≠ none) : Un own w w' :=
  ⟨h.os, h.tape, h.output, h.size, fun b hb hn => h.block b hb fun hm => hx b hm hb hn⟩
/-- a plain file system S' lies there, whatever of the elder one has turned -/
def Mvd (w w' : World) (gp bn : Nat) (own : Nat → Option (Int × Nat)) (S' : PS) (own' : Nat → Option (Int × Nat)) : Prop :=
  (∃ c' A', PW w' gp bn c' S' A' own') ∧ Un own w w' ∧ ∀ b, b < w.heap.size → own' b = own b
/-- a node's blocks, when others' have turned -/
theorem PT.other {w w' : World} {gp bn c : Nat} {S : PS} {A : Int → NA} {own : Nat → Option (Int × Nat)} (h : PT w gp bn c S A own) {j : Int} {n : Nd} (hj : S.nodes j = some n) {ex : List Nat} (hf : Fr ex w w') (hx : ∀ b ∈ ex, ∀ q, own b = some q → q.1 ≠ j) : NodeAt w' (A j) n := by
  obtain ⟨h1, h2, h3, h4⟩ := h.og j n hj
  exact (h.n j n hj).fr hf (fun hm => hx _ hm _ h1 rfl) (fun b hb hm => hx b hm _ (h2 b hb) rfl) (fun b hb hm => hx b hm _ (h3 b hb) rfl) (fun b hb hm => hx b hm _ (h4 b hb) rfl)
/-- a node's blocks are apart -/
theorem PT.apart {w : World} {gp bn c : Nat} {S : PS} {A : Int → NA} {own : Nat → Option (Int × Nat)} (h : PT w gp bn c S A own) {j : Int} {n : Nd} (hj : S.nodes j = some n) :
    (∀ b, (A j).nb = some b → b ≠ (A j).g) ∧ (∀ b, (A j).sb = some b → b ≠ (A j).g ∧ ∀ b', (A j).nb = some b' → b ≠ b') ∧ ∀ b, (A j).db = some b → b ≠ (A j).g ∧ (∀ b', (A j).nb = some b' → b ≠ b') ∧ ∀ b', (A j).sb = some b' → b ≠ b' := by
  obtain ⟨h1, h2, h3, h4⟩ := h.og j n hj
  refine ⟨fun b hb e => ?_, fun b hb => ⟨fun e => ?_, fun b' hb' e => ?_⟩, fun b hb => ⟨fun e => ?_, fun b' hb' e => ?_, fun b' hb' e => ?_⟩⟩
  · have := h4 b hb; rw [e, h1] at this; cases this
  · have := h3 b hb; rw [e, h1] at this; cases this
  · have h5 := h3 b hb; have h6 := h4 b' hb'; rw [e, h6] at h5; cases h5
  · have := h2 b hb; rw [e, h1] at this; cases this
  · have h5 := h2 b hb; have h6 := h4 b' hb'; rw [e, h6] at h5; cases h5
  · have h5 := h2 b hb; have h6 := h3 b' hb'; rw [e, h6] at h5; cases h5
theorem PW.fr {w w' : World} {gp bn c : Nat} {S : PS} {A : Int → NA} {own : Nat → Option (Int × Nat)} {ex : List Nat} (h : PW w gp bn c S A own) (hf : Fr ex w w') (hx : ∀ b ∈ ex, own b = none) : PW w' gp bn c S A own := ⟨h.t.fr hf hx, h.o, h.f, h.h⟩
def byC (l : List Int) (j : Nat) : Value := .int .u8 (l.getD j 0)
def entC (l : List (ByteArray × Int × Int)) (k : Nat) : Value :=
  if k % 3 = 0 then .string (l.getD (k / 3) (emp, 0, 0)).1 else if k % 3 = 1 then .int .i64 (l.getD (k / 3) (emp, 0, 0)).2.1 else .int .i64 (l.getD (k / 3) (emp, 0, 0)).2.2
def ansV (x : Ans) (dv ev : Value) : Array Value := #[.int .i64 x.code, .int .i64 x.stat.ino, .int .i64 x.stat.kind, .int .i64 x.stat.links, .int .i64 x.stat.size, .int .i64 x.stat.made, .int .i64 x.stat.blocks, dv, ev, .bool false]
/-- the value v is the answer x; its rows are nobody's -/
def AnsAt (w : World) (B : Nat) (own : Nat → Option (Int × Nat)) (v : Value) (x : Ans) : Prop :=
  ∃ dv ev od oe, v = .agg (ansV x dv ev) ∧ GRow 5 1 w dv od x.data.length (byC x.data) ∧ GRow 98 3 w ev oe x.ents.length (entC x.ents) ∧ ∀ g, od = some g ∨ oe = some g → B ≤ g ∧ own g = none
theorem ans_err (w : World) (B : Nat) (own : Nat → Option (Int × Nat)) (e : Int) : AnsAt w B own (.agg #[.int .i64 e, .int .i64 0, .int .i64 0, .int .i64 0, .int .i64 0, .int .i64 0, .int .i64 0, .slice none 0 0, .slice none 0 0, .bool false]) (Ans.err e) :=
  ⟨_, _, none, none, rfl, .inl ⟨rfl, rfl, rfl⟩, .inl ⟨rfl, rfl, rfl⟩, fun g h => by rcases h with h | h <;> cases h⟩
theorem ans_stat (w : World) (B : Nat) (own : Nat → Option (Int × Nat)) (s : Sta) : AnsAt w B own (.agg #[.int .i64 0, .int .i64 s.ino, .int .i64 s.kind, .int .i64 s.links, .int .i64 s.size, .int .i64 s.made, .int .i64 s.blocks, .slice none 0 0, .slice none 0 0, .bool false]) ⟨0, s, [], []⟩ :=
  ⟨_, _, none, none, rfl, .inl ⟨rfl, rfl, rfl⟩, .inl ⟨rfl, rfl, rfl⟩, fun g h => by rcases h with h | h <;> cases h⟩
/-- nothing has turned -/
theorem PW.stay {w w' : World} {gp bn c : Nat} {S : PS} {A : Int → NA} {own : Nat → Option (Int × Nat)} (h : PW w gp bn c S A own) (hb : Below w.heap.size w w') : Mvd w w' gp bn own S own :=
  ⟨⟨c, A, h.fr (fr_below hb []) (by simp)⟩, (fr_below hb []).un (by simp), fun _ _ => rfl⟩
theorem Strs.fr' {w w' : World} {B : Nat} {v : Value} {xs : List ByteArray} (h : Strs w B v xs) (hf : Fr [] w w') : Strs w' 0 v xs := by
  rcases h with h | ⟨g, o, c, h1, h2, h3, h4, h5, h6⟩
  · exact .inl h
  · refine .inr ⟨g, o, c, h1, h2, h3, Nat.zero_le _, Nat.lt_of_lt_of_le h5 hf.size, fun j x hx => ?_⟩
    have := h6 j x hx
    rw [cell?_of_hat] at this ⊢
    rw [hf.block g h5 (by simp)]
    exact this
def ans0 : Array Value := #[.int .i64 0, .int .i64 0, .int .i64 0, .int .i64 0, .int .i64 0, .int .i64 0, .int .i64 0, .slice none 0 0, .slice none 0 0, .bool false]
end Go.Proofs.YteffoihkljkfdaaDoor
