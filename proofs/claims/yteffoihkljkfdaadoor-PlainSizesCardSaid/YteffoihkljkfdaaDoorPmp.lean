/- A file or a directory more: where all lies then. -/
import Derived.Test.YteffoihkljkfdaaDoorPmv
namespace Go.Proofs.YteffoihkljkfdaaDoor
set_option linter.unusedSimpArgs false
set_option linter.unusedVariables false
open Go.RowKit

/-- a file or a directory more -/
def PS.made (S : PS) (d i k kind made : Int) (name : ByteArray) : PS := (S.put i (some (freshN kind made))).put d (some ((S.nd d).set k name i))
theorem NodeAt.lts {w : World} {a : NA} {n : Nd} (h : NodeAt w a n) : a.g < w.heap.size ∧ (∀ b, a.db = some b → b < w.heap.size) ∧ (∀ b, a.sb = some b → b < w.heap.size) ∧ ∀ b, a.nb = some b → b < w.heap.size := ⟨hat_lt h.h, h.d.lt, h.s.lt, h.m.lt⟩
theorem set_kind (n : Nd) (k : Int) (name : ByteArray) (i : Int) : (n.set k name i).kind = n.kind := by
  unfold Nd.set
  split <;> rfl
theorem made_pw {w w6 : World} {gp bn c c6 : Nat} {S : PS} {A : Int → NA} {own : Nat → Option (Int × Nat)} (h : PW w gp bn c S A own) {d i k kind made : Int} {name : ByteArray} {an a' : NA} {nb gd : Nat}
    (hd : S.nodes d = some (S.nd d)) (hdk : (S.nd d).kind = 2) (hi : S.nodes i = none) (hS : POk (S.made d i k kind made name) ∧ PWf (S.made d i k kind made name))
    (hf : Fr (bn :: (A d).g :: nb :: (A d).sb.toList) w w6) (hnb : (A d).nb = some nb)
    (hm : MG kInt w6 bn (fun y => if y = i then some (.pointer (some ⟨an.g, 0, none⟩)) else ptrM S A y) c6)
    (hN : NodeAt w6 an (freshN kind made)) (hA : NodeAt w6 a' ((S.nd d).set k name i))
    (hg : w.heap.size ≤ an.g) (hsb : an.sb = none) (hdb : an.db = some gd) (hgd : w.heap.size ≤ gd ∧ gd ≠ an.g) (hnn : ∀ b, an.nb = some b → w.heap.size ≤ b ∧ b ≠ an.g ∧ b ≠ gd) (hk2 : kind = 2 → an.nb.isSome = true)
    (h1 : a'.g = (A d).g) (h2 : a'.db = (A d).db) (h3 : a'.nb = (A d).nb) (h4 : a'.sb = (A d).sb ∨ ∃ g, a'.sb = some g ∧ w.heap.size ≤ g ∧ g ≠ an.g ∧ gd ≠ g ∧ an.nb ≠ some g) :
    ∃ own', (∃ A', PW w6 gp bn c6 (S.made d i k kind made name) A' own') ∧ (∀ b, b < w.heap.size → own' b = own b) ∧ (∀ ga, w.heap.size ≤ ga → ga ≠ an.g → gd ≠ ga → an.nb ≠ some ga → a'.sb ≠ some ga → own' ga = none) ∧ Un own w w6 := by
  have hdi : d ≠ i := fun e => by rw [e, hi] at hd; cases hd
  have hog := h.t.og
  have hdog := hog d _ hd
  have hltd := (h.t.n d _ hd).lts
  have hex : ∀ b ∈ bn :: (A d).g :: nb :: (A d).sb.toList, ∃ q, own b = some q ∧ (q.1 = d ∨ q.1 = -1) := fun b hb => by
    simp at hb
    rcases hb with rfl | rfl | rfl | hb
    · exact ⟨_, h.t.op.2, .inr rfl⟩
    · exact ⟨_, hdog.1, .inl rfl⟩
    · exact ⟨_, hdog.2.2.2 _ hnb, .inl rfl⟩
    · exact ⟨_, hdog.2.2.1 _ hb, .inl rfl⟩
  let own' : Nat → Option (Int × Nat) := fun b => if b < w.heap.size then own b else if b = an.g then some (i, 0) else if b = gd then some (i, 1) else if an.nb = some b then some (i, 3) else if a'.sb = some b then some (d, 2) else none
  let A' : Int → NA := fun j => if j = d then a' else if j = i then an else A j
  have ho : ∀ b, b < w.heap.size → own' b = own b := fun b hb => if_pos hb
  have hnew : ∀ b, w.heap.size ≤ b → own' b = if b = an.g then some (i, 0) else if b = gd then some (i, 1) else if an.nb = some b then some (i, 3) else if a'.sb = some b then some (d, 2) else none := fun b hb => if_neg (by omega)
  have hnd : ∀ j, (S.made d i k kind made name).nodes j = if j = d then some ((S.nd d).set k name i) else if j = i then some (freshN kind made) else S.nodes j := fun _ => rfl
  have hAd : A' d = a' := if_pos rfl
  have hAi : A' i = an := by show (if i = d then a' else if i = i then an else A i) = an; rw [if_neg (Ne.symm hdi), if_pos rfl]
  have hAo : ∀ j, j ≠ d → j ≠ i → A' j = A j := fun j hj1 hj2 => by show (if j = d then a' else if j = i then an else A j) = A j; rw [if_neg hj1, if_neg hj2]
  have hgp := hat_lt h.t.p
  have hbn := h.t.m.lt
  refine ⟨own', ⟨A', ⟨⟨?_, ?_, fun j n hj => ?_, ⟨(ho _ hgp).trans h.t.op.1, (ho _ hbn).trans h.t.op.2⟩, fun j n hj => ?_⟩, hS.1, hS.2, fun j n hj => ?_⟩⟩, ho, fun ga e1 e2 e3 e4 e5 => ?_, hf.un fun b hb _ => by obtain ⟨q, hq, -⟩ := hex b hb; rw [hq]; simp⟩
  · refine (hf.block gp hgp fun hm => ?_).trans h.t.p
    simp at hm
    rcases hm with e | e | e | e
    · have := h.t.op.1; rw [e, h.t.op.2] at this; cases this
    · have := h.t.op.1; rw [e, hdog.1] at this; have hk := h.o.k d (by rw [hd]; rfl); cases this; omega
    · have := h.t.op.1; rw [e, hdog.2.2.2 _ hnb] at this; cases this
    · have := h.t.op.1; rw [hdog.2.2.1 _ e] at this; cases this
  · have e : ptrM (S.made d i k kind made name) A' = fun y => if y = i then some (.pointer (some ⟨an.g, 0, none⟩)) else ptrM S A y := by
      funext y
      show ((S.made d i k kind made name).nodes y).map _ = _
      rw [hnd]
      by_cases hyd : y = d
      · subst hyd
        rw [if_pos rfl, if_neg hdi]
        show some (Value.pointer (some ⟨(A' y).g, 0, none⟩)) = (S.nodes y).map _
        rw [hAd, h1, hd]; rfl
      · rw [if_neg hyd]
        by_cases hyi : y = i
        · subst hyi
          rw [if_pos rfl, if_pos rfl]
          show some (Value.pointer (some ⟨(A' y).g, 0, none⟩)) = _
          rw [hAi]
        · rw [if_neg hyi, if_neg hyi]
          show (S.nodes y).map _ = (S.nodes y).map _
          rw [hAo y hyd hyi]
    rw [e]
    exact hm
  · rw [hnd] at hj
    by_cases hyd : j = d
    · subst hyd
      rw [if_pos rfl] at hj; cases hj
      rw [hAd]; exact hA
    · rw [if_neg hyd] at hj
      by_cases hyi : j = i
      · subst hyi
        rw [if_pos rfl] at hj; cases hj
        rw [hAi]; exact hN
      · rw [if_neg hyi] at hj
        rw [hAo j hyd hyi]
        refine h.t.other hj hf fun b hb q hq => ?_
        obtain ⟨q', hq', hc⟩ := hex b hb
        rw [hq] at hq'
        cases hq'
        have := h.o.k j (by rw [hj]; rfl)
        rcases hc with e | e
        · rw [e]; exact Ne.symm hyd
        · rw [e]; omega
  · rw [hnd] at hj
    by_cases hyd : j = d
    · subst hyd
      rw [if_pos rfl] at hj; cases hj
      rw [hAd]
      refine ⟨by rw [h1]; exact (ho _ hltd.1).trans hdog.1, fun b hb => ?_, fun b hb => ?_, fun b hb => ?_⟩
      · rw [h2] at hb; exact (ho _ (hltd.2.1 b hb)).trans (hdog.2.1 b hb)
      · rcases h4 with e | ⟨g, e, e1, e2, e3, e4⟩
        · rw [e] at hb; exact (ho _ (hltd.2.2.1 b hb)).trans (hdog.2.2.1 b hb)
        · rw [e] at hb; cases hb
          rw [hnew _ e1, if_neg e2, if_neg (Ne.symm e3), if_neg e4, if_pos e]
      · rw [h3] at hb; exact (ho _ (hltd.2.2.2 b hb)).trans (hdog.2.2.2 b hb)
    · rw [if_neg hyd] at hj
      by_cases hyi : j = i
      · subst hyi
        rw [if_pos rfl] at hj; cases hj
        rw [hAi]
        refine ⟨by rw [hnew _ hg, if_pos rfl], fun b hb => ?_, fun b hb => ?_, fun b hb => ?_⟩
        · rw [hdb] at hb; cases hb
          rw [hnew _ hgd.1, if_neg hgd.2, if_pos rfl]
        · rw [hsb] at hb; cases hb
        · obtain ⟨e1, e2, e3⟩ := hnn b hb
          rw [hnew _ e1, if_neg e2, if_neg e3, if_pos hb]
      · rw [if_neg hyi] at hj
        rw [hAo j hyd hyi]
        have hlj := (h.t.n j n hj).lts
        have hoj := hog j n hj
        exact ⟨(ho _ hlj.1).trans hoj.1, fun b hb => (ho _ (hlj.2.1 b hb)).trans (hoj.2.1 b hb), fun b hb => (ho _ (hlj.2.2.1 b hb)).trans (hoj.2.2.1 b hb), fun b hb => (ho _ (hlj.2.2.2 b hb)).trans (hoj.2.2.2 b hb)⟩
  · rw [hnd] at hj
    by_cases hyd : j = d
    · subst hyd
      rw [if_pos rfl] at hj; cases hj
      rw [hAd, h3, h2, set_kind]
      exact h.h j _ hd
    · rw [if_neg hyd] at hj
      by_cases hyi : j = i
      · subst hyi
        rw [if_pos rfl] at hj; cases hj
        rw [hAi]
        exact ⟨hk2, fun _ => by rw [hdb]; rfl⟩
      · rw [if_neg hyi] at hj
        rw [hAo j hyd hyi]
        exact h.h j n hj
  · rw [hnew _ e1, if_neg e2, if_neg (Ne.symm e3), if_neg e4, if_neg e5]
theorem Un.later {own : Nat → Option (Int × Nat)} {w w6 w8 : World} {ex : List Nat} (h : Un own w w6) (hf : Fr ex w6 w8) (hx : ∀ b ∈ ex, w.heap.size ≤ b) : Un own w w8 :=
  ⟨hf.os.trans h.os, hf.tape.trans h.tape, hf.output.trans h.output, Nat.le_trans h.size hf.size, fun k hk hn => (hf.block k (Nat.lt_of_lt_of_le hk h.size) (fun hm => by have := hx k hm; omega)).trans (h.block k hk hn)⟩
theorem fresh1 (w : World) (made : Int) : NodeAt ((w.alloc (.map #[] 0)).alloc (.cells #[.int .i64 1, .int .i64 1, .int .i64 0, .int .i64 made, .map (some w.heap.size), .slice none 0 0, .map none] 74)) ⟨w.heap.size + 1, some w.heap.size, none, none, .map (some w.heap.size), .map none, .slice none 0 0, 0, 0⟩ (freshN 1 made) ∧
    Fr [] w ((w.alloc (.map #[] 0)).alloc (.cells #[.int .i64 1, .int .i64 1, .int .i64 0, .int .i64 made, .map (some w.heap.size), .slice none 0 0, .map none] 74)) := by
  refine ⟨⟨?_, .inr ⟨w.heap.size, rfl, rfl, ((MG.made (E := kInt) w).fr (fr_new _ _ []) (by simp))⟩, .inl ⟨rfl, rfl, rfl⟩, .inl ⟨rfl, rfl, fun _ => rfl, rfl⟩⟩, (fr_new _ _ []).trans (fr_new _ _ [])⟩
  have := (hopN (w.alloc (.map #[] 0)) (.cells #[.int .i64 1, .int .i64 1, .int .i64 0, .int .i64 made, .map (some w.heap.size), .slice none 0 0, .map none] 74)).1
  rw [show (w.alloc (.map #[] 0)).heap.size = w.heap.size + 1 by simp] at this
  exact this
theorem fresh2 (w : World) (made : Int) : NodeAt (((w.alloc (.map #[] 0)).alloc (.cells #[.int .i64 2, .int .i64 1, .int .i64 0, .int .i64 made, .map (some w.heap.size), .slice none 0 0, .map (some (w.heap.size + 1 + 1))] 74)).alloc (.map #[] 0)) ⟨w.heap.size + 1, some w.heap.size, some (w.heap.size + 1 + 1), none, .map (some w.heap.size), .map (some (w.heap.size + 1 + 1)), .slice none 0 0, 0, 0⟩ (freshN 2 made) ∧
    Fr [] w (((w.alloc (.map #[] 0)).alloc (.cells #[.int .i64 2, .int .i64 1, .int .i64 0, .int .i64 made, .map (some w.heap.size), .slice none 0 0, .map (some (w.heap.size + 1 + 1))] 74)).alloc (.map #[] 0)) := by
  have e := hopN (w.alloc (.map #[] 0)) (.cells #[.int .i64 2, .int .i64 1, .int .i64 0, .int .i64 made, .map (some w.heap.size), .slice none 0 0, .map (some (w.heap.size + 1 + 1))] 74)
  rw [show (w.alloc (.map #[] 0)).heap.size = w.heap.size + 1 by simp] at e
  have e2 := MG.made (E := kStr) ((w.alloc (.map #[] 0)).alloc (.cells #[.int .i64 2, .int .i64 1, .int .i64 0, .int .i64 made, .map (some w.heap.size), .slice none 0 0, .map (some (w.heap.size + 1 + 1))] 74))
  rw [show ((w.alloc (.map #[] 0)).alloc (.cells #[.int .i64 2, .int .i64 1, .int .i64 0, .int .i64 made, .map (some w.heap.size), .slice none 0 0, .map (some (w.heap.size + 1 + 1))] 74)).heap.size = w.heap.size + 1 + 1 by simp] at e2
  exact ⟨⟨((fr_new _ _ []).block _ e.2 (by simp)).trans e.1, .inr ⟨w.heap.size, rfl, rfl, ((MG.made (E := kInt) w).fr ((fr_new _ _ []).trans (fr_new _ _ [])) (by simp))⟩, .inl ⟨rfl, rfl, rfl⟩, .inr ⟨_, rfl, rfl, e2⟩⟩, ((fr_new _ _ []).trans (fr_new _ _ [])).trans (fr_new _ _ [])⟩
end Go.Proofs.YteffoihkljkfdaaDoor
