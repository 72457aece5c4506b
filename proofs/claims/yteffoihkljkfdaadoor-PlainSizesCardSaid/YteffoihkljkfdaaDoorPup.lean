/- One node is another one: where all lies then. -/
import Derived.Test.YteffoihkljkfdaaDoorPmp
import Derived.Test.YteffoihkljkfdaaDoorPww
namespace Go.Proofs.YteffoihkljkfdaaDoor
set_option linter.unusedSimpArgs false
set_option linter.unusedVariables false
open Go.RowKit

theorem upd_pw {w w6 : World} {gp bn c : Nat} {S : PS} {A : Int → NA} {own : Nat → Option (Int × Nat)} (h : PW w gp bn c S A own) {i : Int} {n n' : Nd} {a' : NA} {ex : List Nat} (hi : S.nodes i = some n)
    (hS : POk (S.put i (some n')) ∧ PWf (S.put i (some n'))) (hf : Fr ex w w6) (hex : ∀ b ∈ ex, b < w.heap.size → ∃ q, own b = some q ∧ q.1 = i) (hA : NodeAt w6 a' n') (hg : a'.g = (A i).g)
    (hdb : ∀ b, a'.db = some b → (A i).db = some b ∨ w.heap.size ≤ b) (hsb : ∀ b, a'.sb = some b → (A i).sb = some b ∨ w.heap.size ≤ b) (hnb : ∀ b, a'.nb = some b → (A i).nb = some b ∨ w.heap.size ≤ b)
    (hap : ∀ b, w.heap.size ≤ b → (a'.db = some b → a'.sb ≠ some b ∧ a'.nb ≠ some b) ∧ (a'.sb = some b → a'.nb ≠ some b)) (hh : (n'.kind = 2 → a'.nb.isSome = true) ∧ (n'.kind = 1 → a'.db.isSome = true)) :
    ∃ own', (∃ A', PW w6 gp bn c (S.put i (some n')) A' own') ∧ (∀ b, b < w.heap.size → own' b = own b) ∧ (∀ ga, w.heap.size ≤ ga → a'.db ≠ some ga → a'.sb ≠ some ga → a'.nb ≠ some ga → own' ga = none) ∧ Un own w w6 := by
  have hog := h.t.og
  have hiog := hog i _ hi
  have hlti := (h.t.n i _ hi).lts
  let own' : Nat → Option (Int × Nat) := fun b => if b < w.heap.size then own b else if a'.db = some b then some (i, 1) else if a'.sb = some b then some (i, 2) else if a'.nb = some b then some (i, 3) else none
  let A' : Int → NA := fun j => if j = i then a' else A j
  have ho : ∀ b, b < w.heap.size → own' b = own b := fun b hb => if_pos hb
  have hnew : ∀ b, w.heap.size ≤ b → own' b = if a'.db = some b then some (i, 1) else if a'.sb = some b then some (i, 2) else if a'.nb = some b then some (i, 3) else none := fun b hb => if_neg (by omega)
  have hnd : ∀ j, (S.put i (some n')).nodes j = if j = i then some n' else S.nodes j := fun _ => rfl
  have hAi : A' i = a' := if_pos rfl
  have hAo : ∀ j, j ≠ i → A' j = A j := fun j hj => if_neg hj
  have hgp := hat_lt h.t.p
  have hbn := h.t.m.lt
  have hi1 := h.o.k i (by rw [hi]; rfl)
  have hnotp : ∀ b q, b < w.heap.size → own b = some (-1, q) → b ∉ ex := fun b q hb hq hm => by
    obtain ⟨q', h1, h2⟩ := hex b hm hb
    rw [hq] at h1
    cases h1
    have h3 : (-1 : Int) = i := h2
    omega
  refine ⟨own', ⟨A', ⟨⟨?_, ?_, fun j m hj => ?_, ⟨(ho _ hgp).trans h.t.op.1, (ho _ hbn).trans h.t.op.2⟩, fun j m hj => ?_⟩, hS.1, hS.2, fun j m hj => ?_⟩⟩, ho, fun ga e1 e2 e3 e4 => ?_, hf.un fun b hb hlt => by obtain ⟨q, hq, -⟩ := hex b hb hlt; rw [hq]; simp⟩
  · exact (hf.block gp hgp (hnotp gp 0 hgp h.t.op.1)).trans h.t.p
  · have e : ptrM (S.put i (some n')) A' = ptrM S A := by
      funext y
      show ((S.put i (some n')).nodes y).map _ = (S.nodes y).map _
      rw [hnd]
      by_cases hy : y = i
      · subst hy
        rw [if_pos rfl, hi]
        show some (Value.pointer (some ⟨(A' y).g, 0, none⟩)) = some (Value.pointer (some ⟨(A y).g, 0, none⟩))
        rw [hAi, hg]
      · rw [if_neg hy, hAo y hy]
    rw [e]
    exact h.t.m.fr hf (hnotp bn 1 hbn h.t.op.2)
  · rw [hnd] at hj
    by_cases hy : j = i
    · subst hy
      rw [if_pos rfl] at hj; cases hj
      rw [hAi]; exact hA
    · rw [if_neg hy] at hj
      rw [hAo j hy]
      have hlj := (h.t.n j m hj).lts
      have hoj := hog j m hj
      have k : ∀ b t, b < w.heap.size → own b = some t → t.1 = j → b ∉ ex := fun b t hb ht h1 hm => by
        obtain ⟨q, h2, h3⟩ := hex b hm hb
        rw [ht] at h2
        cases h2
        exact hy (h1.symm.trans h3)
      exact (h.t.n j m hj).fr hf (k _ _ hlj.1 hoj.1 rfl) (fun b hb => k _ _ (hlj.2.1 b hb) (hoj.2.1 b hb) rfl) (fun b hb => k _ _ (hlj.2.2.1 b hb) (hoj.2.2.1 b hb) rfl) (fun b hb => k _ _ (hlj.2.2.2 b hb) (hoj.2.2.2 b hb) rfl)
  · rw [hnd] at hj
    by_cases hy : j = i
    · subst hy
      rw [if_pos rfl] at hj; cases hj
      rw [hAi]
      refine ⟨by rw [hg]; exact (ho _ hlti.1).trans hiog.1, fun b hb => ?_, fun b hb => ?_, fun b hb => ?_⟩
      · rcases hdb b hb with e | e
        · exact (ho _ (hlti.2.1 b e)).trans (hiog.2.1 b e)
        · rw [hnew _ e, if_pos hb]
      · rcases hsb b hb with e | e
        · exact (ho _ (hlti.2.2.1 b e)).trans (hiog.2.2.1 b e)
        · rw [hnew _ e, if_neg (fun h1 => ((hap b e).1 h1).1 hb), if_pos hb]
      · rcases hnb b hb with e | e
        · exact (ho _ (hlti.2.2.2 b e)).trans (hiog.2.2.2 b e)
        · rw [hnew _ e, if_neg (fun h1 => ((hap b e).1 h1).2 hb), if_neg (fun h1 => (hap b e).2 h1 hb), if_pos hb]
    · rw [if_neg hy] at hj
      rw [hAo j hy]
      have hlj := (h.t.n j m hj).lts
      have hoj := hog j m hj
      exact ⟨(ho _ hlj.1).trans hoj.1, fun b hb => (ho _ (hlj.2.1 b hb)).trans (hoj.2.1 b hb), fun b hb => (ho _ (hlj.2.2.1 b hb)).trans (hoj.2.2.1 b hb), fun b hb => (ho _ (hlj.2.2.2 b hb)).trans (hoj.2.2.2 b hb)⟩
  · rw [hnd] at hj
    by_cases hy : j = i
    · subst hy
      rw [if_pos rfl] at hj; cases hj
      rw [hAi]; exact hh
    · rw [if_neg hy] at hj
      rw [hAo j hy]
      exact h.h j m hj
  · rw [hnew _ e1, if_neg e2, if_neg e3, if_neg e4]
end Go.Proofs.YteffoihkljkfdaaDoor
