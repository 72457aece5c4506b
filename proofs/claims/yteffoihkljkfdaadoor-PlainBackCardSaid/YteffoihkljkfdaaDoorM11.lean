/- Contracts and laws that the claim leans on, laid together in the order in which they build. -/
import Derived.Test.YteffoihkljkfdaaDoorM08
import Derived.Test.YteffoihkljkfdaaDoorM09
import Derived.Test.YteffoihkljkfdaaDoorM10

/- Made and taken away, there and back: plain. -/
namespace Go.Proofs.YteffoihkljkfdaaDoor
set_option linter.unusedSimpArgs false
set_option linter.unusedVariables false
open Go.RowKit

theorem nd_put (S : PS) (i : Int) (n : Nd) (x : Int) : (S.put i (some n)).nd x = if x = i then n else S.nd x := by
  by_cases h : x = i
  · rw [if_pos h, h, nd_put_same]
  · rw [if_neg h, nd_put_other _ _ h]
theorem nd_del (S : PS) (i : Int) (x : Int) : (S.put i none).nd x = if x = i then Nd.nil else S.nd x := by
  by_cases h : x = i
  · rw [if_pos h, h]; unfold PS.nd; rw [PS.put_same]; rfl
  · rw [if_neg h, nd_put_other _ _ h]
theorem is_put (S : PS) (i : Int) (o : Option Nd) (x : Int) : ((S.put i o).nodes x).isSome = if x = i then o.isSome else (S.nodes x).isSome := by
  by_cases h : x = i
  · rw [if_pos h, h, PS.put_same]
  · rw [if_neg h, PS.put_other _ _ h]
theorem set_data (n : Nd) (k : Int) (name : ByteArray) (i : Int) : (n.set k name i).data = n.data := by unfold Nd.set; split <;> rfl
/-- nodes that are the same, but for slots -/
structure SN (a b : Nd) : Prop where
  k : a.kind = b.kind
  l : a.links = b.links
  m : a.names = b.names
  d : a.data = b.data
  s : a.kind = 1 → a.size = b.size
theorem SN.rfl (n : Nd) : SN n n := ⟨_root_.rfl, _root_.rfl, _root_.rfl, _root_.rfl, fun _ => _root_.rfl⟩
theorem Sml.of {S T : PS} (hi : S.inodes = T.inodes) (hn : ∀ i, (S.nodes i).isSome = (T.nodes i).isSome) (h : ∀ x, SN (S.nd x) (T.nd x)) : Sml S T :=
  ⟨hi, hn, fun x => (h x).k, fun x => (h x).l, fun x => (h x).m, fun x => (h x).d, fun x => (h x).s⟩
/-- a walk goes the same way where there are more names -/
theorem walk_ext {S T : PS} (hS : PWf S) (hm : ∀ x s k, (S.nd x).names s = some k → (T.nd x).names s = some k) (hk : ∀ x, (S.nodes x).isSome = true → (T.nd x).kind = (S.nd x).kind) : ∀ (l : List ByteArray) (i j : Int), (S.nodes i).isSome = true → S.walk l i = (j, 0) → T.walk l i = (j, 0)
  | [], _, _, _, h => h
  | s :: l, i, j, hi, h => by
    unfold PS.walk at h ⊢
    rw [hk i hi]
    split at h
    · cases h
    · rename_i h2
      rw [if_neg h2]
      cases hq : (S.nd i).names s with
      | none => rw [hq] at h; cases h
      | some k =>
        rw [hq] at h
        rw [hm i s k hq]
        exact walk_ext hS hm hk l k j ((hS.n i _ (PS.nd_get hi)).nm s k hq).2.2.2 h
theorem last_parts {S : PS} {l : List ByteArray} (h : (S.last l).e = 0) : l ≠ [] ∧ S.walk l.dropLast 1 = ((S.last l).d, 0) ∧ (S.last l).name = l.getLastD emp := by
  unfold PS.last at h ⊢
  by_cases hl : l = []
  · rw [if_pos hl] at h; cases h
  · rw [if_neg hl] at h ⊢
    simp only at h ⊢
    refine ⟨hl, ?_, trivial⟩
    have h0 : (S.walk l.dropLast 1).2 = 0 := by
      split at h
      · cases h
      · exact h
    rw [← h0]
theorem last_make {T : PS} {l : List ByteArray} {d : Int} (hl : l ≠ []) (hw : T.walk l.dropLast 1 = (d, 0)) (hk : (T.nd d).kind = 2) : T.last l = ⟨d, l.getLastD emp, 0⟩ := by
  unfold PS.last
  rw [if_neg hl, hw]
  simp [hk]
theorem entry_make {T : PS} {l : List ByteArray} {d i : Int} {name : ByteArray} (h : T.last l = ⟨d, name, 0⟩) (hn : (T.nd d).names name = some i) : T.entry l = ⟨d, name, i, 0⟩ := by
  unfold PS.entry
  rw [h]
  simp [hn]
/-- what a making was -/
theorem making_ok {S : PS} (hW : PWf S) {l : List ByteArray} {kind made : Int} (h : (S.make l kind made).2.code = 0) :
    (S.last l).e = 0 ∧ (S.nd (S.last l).d).names (S.last l).name = none ∧ S.freeI ≠ 0 ∧ (S.place (S.nd (S.last l).d)).2 = 0 ∧
    (S.make l kind made).1 = (S.put S.freeI (some (freshN kind made))).put (S.last l).d (some ((S.nd (S.last l).d).set (S.place (S.nd (S.last l).d)).1 (S.last l).name S.freeI)) := by
  unfold PS.make at h ⊢
  split at h
  · rename_i h1; exact absurd h h1
  · rename_i h1
    split at h
    · cases h
    · rename_i h2
      split at h
      · cases h
      · rename_i h3
        split at h
        · rename_i h4; exact absurd h h4
        · rename_i h4
          rw [if_neg h1, if_neg h2, if_neg h3, if_neg h4]
          refine ⟨by omega, ?_, h3, by omega, rfl⟩
          cases hq : (S.nd (S.last l).d).names (S.last l).name with
          | none => rfl
          | some x => rw [hq] at h2; exact absurd rfl h2
/-- made and taken away -/
theorem make_back {S : PS} (hg : Good S) {l : List ByteArray} {kind made : Int} (hk : kind = 1 ∨ kind = 2) (h : (S.make l kind made).2.code = 0) :
    (kind = 1 → ((S.make l kind made).1.unlink l).2 = 0 ∧ Sml ((S.make l kind made).1.unlink l).1 S) ∧ (kind = 2 → ((S.make l kind made).1.rmdir l).2 = 0 ∧ Sml ((S.make l kind made).1.rmdir l).1 S) := by
  obtain ⟨h1, h2, h3, h4, h5⟩ := making_ok hg.f h
  obtain ⟨a1, a2, a3⟩ := last_ok hg.f h1
  obtain ⟨b1, b2, b3⟩ := freeI_ok h3
  obtain ⟨c1, c2, c3⟩ := last_parts h1
  rw [h5]
  generalize (S.place (S.nd (S.last l).d)).1 = k at *
  rw [c3] at h2 ⊢
  generalize (S.last l).d = d at *
  generalize S.freeI = i at *
  generalize hname : l.getLastD emp = name at *
  have hdi : d ≠ i := fun e => by rw [e, b3] at a1; cases a1
  obtain ⟨T, hT⟩ : ∃ x, x = (S.put i (some (freshN kind made))).put d (some ((S.nd d).set k name i)) := ⟨_, rfl⟩
  rw [← hT]
  have hTn : ∀ x, T.nd x = if x = d then (S.nd d).set k name i else if x = i then freshN kind made else S.nd x := fun x => by rw [hT, nd_put, nd_put]
  have hTd : T.nd d = (S.nd d).set k name i := by rw [hTn, if_pos rfl]
  have hTi : T.nd i = freshN kind made := by rw [hTn, if_neg (Ne.symm hdi), if_pos rfl]
  have hw : T.walk l.dropLast 1 = (d, 0) := by
    refine walk_ext hg.f (fun x s j hx => ?_) (fun x hx => ?_) _ _ _ (root_there hg.f) c2
    · rw [hTn]
      by_cases hxd : x = d
      · rw [if_pos hxd, set_names]
        rw [hxd] at hx
        rw [if_neg (fun e => by rw [e, h2] at hx; cases hx)]
        exact hx
      · rw [if_neg hxd]
        by_cases hxi : x = i
        · rw [hxi, nd_none b3] at hx; cases hx
        · rw [if_neg hxi]; exact hx
    · rw [hTn]
      by_cases hxd : x = d
      · rw [if_pos hxd, (set_links _ _ _ _).2, hxd]
      · rw [if_neg hxd, if_neg (fun e => by rw [e, b3] at hx; cases hx)]
  have hE : T.entry l = ⟨d, name, i, 0⟩ := entry_make (by rw [last_make c1 hw (by rw [hTd, (set_links _ _ _ _).2]; exact a2), hname]) (by rw [hTd, set_names, if_pos rfl])
  have hsm : Sml (T.taken d name i) S := by
    have e1 : T.taken d name i = (T.put d (some ((T.nd d).clr name))).put i none := by
      unfold PS.taken PS.less PS.cleared
      rw [nd_put_other _ _ (Ne.symm hdi), hTi]
      rw [if_pos (.inl (by show (1 : Int) - 1 = 0; omega))]
    rw [e1, hTd]
    refine Sml.of (by rw [hT]; rfl) (fun x => ?_) (fun x => ?_)
    · rw [is_put, is_put, hT, is_put, is_put]
      by_cases hxi : x = i
      · rw [if_pos hxi, hxi, b3]
      · rw [if_neg hxi]
        by_cases hxd : x = d
        · rw [if_pos hxd, hxd, a1]; rfl
        · rw [if_neg hxd, if_neg hxd, if_neg hxi]
    · rw [nd_del, nd_put, hTn]
      by_cases hxi : x = i
      · rw [if_pos hxi, hxi, nd_none b3]; exact SN.rfl _
      · rw [if_neg hxi]
        by_cases hxd : x = d
        · rw [if_pos hxd, hxd]
          refine ⟨(set_links _ _ _ _).2, (set_links _ _ _ _).1, ?_, set_data _ _ _ _, fun hk1 => ?_⟩
          · funext s
            show (if s = name then none else ((S.nd d).set k name i).names s) = _
            rw [set_names]
            by_cases hs : s = name
            · rw [if_pos hs, hs, h2]
            · rw [if_neg hs, if_neg hs]
          · have : ((S.nd d).set k name i).kind = 1 := hk1
            rw [(set_links _ _ _ _).2, a2] at this; cases this
        · rw [if_neg hxd, if_neg hxd, if_neg hxi]; exact SN.rfl _
  refine ⟨fun e => ?_, fun e => ?_⟩
  · have hu : T.unlink l = (T.taken d name i, 0) := by
      unfold PS.unlink
      rw [hE]
      simp only [hTi]
      rw [if_neg (by simp), if_neg (by rw [e]; show ¬ (1 : Int) = 2; omega)]
    rw [hu]
    exact ⟨rfl, hsm⟩
  · have hu : T.rmdir l = (T.taken d name i, 0) := by
      unfold PS.rmdir
      rw [hE]
      simp only [hTi]
      rw [if_neg (by simp), if_neg (by rw [e]; show ¬ (2 : Int) ≠ 2; omega), if_neg (by simp [freshN, Nd.some])]
    rw [hu]
    exact ⟨rfl, hsm⟩
/-- linked and unlinked -/
theorem link_back {S : PS} (hg : Good S) {l l2 : List ByteArray} (h : (S.link l l2).2 = 0) : ((S.link l l2).1.unlink l2).2 = 0 ∧ Sml ((S.link l l2).1.unlink l2).1 S := by
  have hlk : (S.walk l 1).2 = 0 ∧ (S.last l2).e = 0 ∧ (S.nd (S.last l2).d).names (S.last l2).name = none ∧ (S.nd (S.walk l 1).1).kind ≠ 2 ∧ (S.link l l2).1 = S.named (S.last l2).d (S.place (S.nd (S.last l2).d)).1 (S.walk l 1).1 (S.last l2).name := by
    unfold PS.link at h ⊢
    split at h
    · rename_i h1; exact absurd h h1
    · rename_i h1
      split at h
      · rename_i h2; exact absurd h h2
      · rename_i h2
        split at h
        · cases h
        · rename_i h3
          split at h
          · cases h
          · rename_i h4
            split at h
            · cases h
            · rename_i h5
              split at h
              · rename_i h6; exact absurd h h6
              · rename_i h6
                rw [if_neg h1, if_neg h2, if_neg h3, if_neg h4, if_neg h5, if_neg h6]
                refine ⟨by omega, by omega, ?_, h4, rfl⟩
                cases hq : (S.nd (S.last l2).d).names (S.last l2).name with
                | none => rfl
                | some x => rw [hq] at h3; exact absurd rfl h3
  obtain ⟨h0, h1, h2, hik, h5⟩ := hlk
  obtain ⟨a1, a2, a3⟩ := last_ok hg.f h1
  have hit := walk_there hg.f l 1 (root_there hg.f) h0
  obtain ⟨c1, c2, c3⟩ := last_parts h1
  rw [h5]
  generalize (S.place (S.nd (S.last l2).d)).1 = k at *
  rw [c3] at h2 ⊢
  generalize (S.last l2).d = d at *
  generalize (S.walk l 1).1 = i at *
  generalize hname : l2.getLastD emp = name at *
  have hdi : d ≠ i := fun e => hik (by rw [← e]; exact a2)
  obtain ⟨T, hT⟩ : ∃ x, x = S.named d k i name := ⟨_, rfl⟩
  rw [← hT]
  unfold PS.named at hT
  have hTn : ∀ x, T.nd x = if x = d then (S.nd d).set k name i else if x = i then (S.nd i).more else S.nd x := fun x => by rw [hT, nd_put, nd_put]
  have hTd : T.nd d = (S.nd d).set k name i := by rw [hTn, if_pos rfl]
  have hTi : T.nd i = (S.nd i).more := by rw [hTn, if_neg (Ne.symm hdi), if_pos rfl]
  have hw : T.walk l2.dropLast 1 = (d, 0) := by
    refine walk_ext hg.f (fun x s j hx => ?_) (fun x hx => ?_) _ _ _ (root_there hg.f) c2
    · rw [hTn]
      by_cases hxd : x = d
      · rw [if_pos hxd, set_names]
        rw [hxd] at hx
        rw [if_neg (fun e => by rw [e, h2] at hx; cases hx)]
        exact hx
      · rw [if_neg hxd]
        by_cases hxi : x = i
        · rw [if_pos hxi]; rw [hxi] at hx; exact hx
        · rw [if_neg hxi]; exact hx
    · rw [hTn]
      by_cases hxd : x = d
      · rw [if_pos hxd, (set_links _ _ _ _).2, hxd]
      · rw [if_neg hxd]
        by_cases hxi : x = i
        · rw [if_pos hxi, hxi]; rfl
        · rw [if_neg hxi]
  have hE : T.entry l2 = ⟨d, name, i, 0⟩ := entry_make (by rw [last_make c1 hw (by rw [hTd, (set_links _ _ _ _).2]; exact a2), hname]) (by rw [hTd, set_names, if_pos rfl])
  have hlks : 1 ≤ (S.nd i).links := ((hg.f.n i _ (PS.nd_get hit)).lk).1
  have hsm : Sml (T.taken d name i) S := by
    have e1 : T.taken d name i = (T.put d (some ((T.nd d).clr name))).put i (some { (S.nd i).more with links := (S.nd i).more.links - 1 }) := by
      unfold PS.taken PS.less PS.cleared
      rw [nd_put_other _ _ (Ne.symm hdi), hTi]
      rw [if_neg (by
        rintro (e | e)
        · have : (S.nd i).links + 1 - 1 = 0 := e
          omega
        · exact hik e)]
    rw [e1, hTd]
    refine Sml.of (by rw [hT]; rfl) (fun x => ?_) (fun x => ?_)
    · rw [is_put, is_put, hT, is_put, is_put]
      by_cases hxi : x = i
      · rw [if_pos hxi, hxi, hit]; rfl
      · rw [if_neg hxi]
        by_cases hxd : x = d
        · rw [if_pos hxd, hxd, a1]; rfl
        · rw [if_neg hxd, if_neg hxd, if_neg hxi]
    · rw [nd_put, nd_put, hTn]
      by_cases hxi : x = i
      · rw [if_pos hxi, hxi]
        exact ⟨rfl, by show (S.nd i).links + 1 - 1 = _; omega, rfl, rfl, fun _ => rfl⟩
      · rw [if_neg hxi]
        by_cases hxd : x = d
        · rw [if_pos hxd, hxd]
          refine ⟨(set_links _ _ _ _).2, (set_links _ _ _ _).1, ?_, set_data _ _ _ _, fun hk1 => ?_⟩
          · funext s
            show (if s = name then none else ((S.nd d).set k name i).names s) = _
            rw [set_names]
            by_cases hs : s = name
            · rw [if_pos hs, hs, h2]
            · rw [if_neg hs, if_neg hs]
          · have : ((S.nd d).set k name i).kind = 1 := hk1
            rw [(set_links _ _ _ _).2, a2] at this; cases this
        · rw [if_neg hxd, if_neg hxd, if_neg hxi]; exact SN.rfl _
  have hu : T.unlink l2 = (T.taken d name i, 0) := by
    unfold PS.unlink
    rw [hE]
    simp only [hTi]
    rw [if_neg (by simp), if_neg (show ¬ (S.nd i).more.kind = 2 from hik)]
  rw [hu]
  exact ⟨rfl, hsm⟩
/-- a walk to t goes below i: t lies in i -/
theorem walk_und {S : PS} {t : Int} (htk : (S.nd t).kind = 2) : ∀ (l : List ByteArray) (i : Int), S.walk l i = (t, 0) → (S.nd i).kind = 2 ∧ Und S t i
  | [], i, h => by
    have e : i = t := congrArg Prod.fst h
    rw [e]; exact ⟨htk, .here⟩
  | s :: l, i, h => by
    unfold PS.walk at h
    split at h
    · cases h
    · rename_i h2
      cases hq : (S.nd i).names s with
      | none => rw [hq] at h; cases h
      | some k =>
        rw [hq] at h
        obtain ⟨q1, q2⟩ := walk_und htk l k h
        exact ⟨by omega, .deep hq q1 q2⟩
/-- a walk that goes past a name which is taken away -/
theorem walk_past {S T : PS} {d i t : Int} {old : ByteArray} (hold : (S.nd d).names old = some i) (htk : (S.nd t).kind = 2) (hu : (S.nd i).kind = 2 → ¬ Und S t i) (hm : ∀ x s k, ¬ (x = d ∧ s = old) → (S.nd x).names s = some k → (T.nd x).names s = some k) (hk : ∀ x, (T.nd x).kind = (S.nd x).kind) : ∀ (l : List ByteArray) (x : Int), S.walk l x = (t, 0) → T.walk l x = (t, 0)
  | [], _, h => h
  | s :: l, x, h => by
    unfold PS.walk at h ⊢
    rw [hk x]
    split at h
    · cases h
    · rename_i h2
      rw [if_neg h2]
      cases hq : (S.nd x).names s with
      | none => rw [hq] at h; cases h
      | some k =>
        rw [hq] at h
        by_cases hx : x = d ∧ s = old
        · obtain ⟨rfl, rfl⟩ := hx
          rw [hold] at hq
          cases hq
          obtain ⟨q1, q2⟩ := walk_und htk l i h
          exact absurd q2 (hu q1)
        · rw [hm x s k hx hq]
          exact walk_past hold htk hu hm hk l k h
theorem Und.rank {S : PS} {r : Int → Nat} (hr : ∀ d n s j, S.nodes d = some n → n.names s = some j → (S.nd j).kind = 2 → r d < r j) {a b : Int} (h : Und S a b) : r b ≤ r a := by
  induction h with
  | here => exact Nat.le_refl _
  | @deep i k s h1 h2 h3 ih =>
    cases hn : S.nodes i with
    | none => rw [nd_none hn] at h1; cases h1
    | some n =>
      rw [PS.nd_some hn] at h1
      have := hr i n s k hn h1 h2
      omega
end Go.Proofs.YteffoihkljkfdaaDoor

/- Renamed there and back: plain. -/
namespace Go.Proofs.YteffoihkljkfdaaDoor
set_option linter.unusedSimpArgs false
set_option linter.unusedVariables false
open Go.RowKit

theorem clr_names (n : Nd) (a s : ByteArray) : (n.clr a).names s = if s = a then none else n.names s := rfl
theorem moved_parts (S : PS) (d : Int) (old : ByteArray) (t k : Int) (name : ByteArray) (i x : Int) :
    ((S.moved d old t k name i).nd x).kind = (S.nd x).kind ∧ ((S.moved d old t k name i).nd x).links = (S.nd x).links ∧ ((S.moved d old t k name i).nd x).data = (S.nd x).data ∧
    (∀ s, ((S.moved d old t k name i).nd x).names s = if x = d ∧ s = old then none else if x = t ∧ s = name then some i else (S.nd x).names s) ∧ (x ≠ d → x ≠ t → (S.moved d old t k name i).nd x = S.nd x) := by
  have e1 : ∀ x, (S.put t (some ((S.nd t).set k name i))).nd x = if x = t then (S.nd t).set k name i else S.nd x := fun x => nd_put _ _ _ _
  have e2 : (S.moved d old t k name i).nd x = if x = d then ((S.put t (some ((S.nd t).set k name i))).nd d).clr old else (S.put t (some ((S.nd t).set k name i))).nd x := nd_put _ _ _ _
  have f1 : ∀ x, ((S.put t (some ((S.nd t).set k name i))).nd x).kind = (S.nd x).kind ∧ ((S.put t (some ((S.nd t).set k name i))).nd x).links = (S.nd x).links ∧ ((S.put t (some ((S.nd t).set k name i))).nd x).data = (S.nd x).data ∧ ∀ s, ((S.put t (some ((S.nd t).set k name i))).nd x).names s = if x = t ∧ s = name then some i else (S.nd x).names s := fun x => by
    rw [e1]
    by_cases hx : x = t
    · rw [if_pos hx, hx]
      refine ⟨(set_links _ _ _ _).2, (set_links _ _ _ _).1, set_data _ _ _ _, fun s => ?_⟩
      rw [set_names]
      simp
    · rw [if_neg hx]
      exact ⟨rfl, rfl, rfl, fun s => by simp [hx]⟩
  rw [e2]
  by_cases hx : x = d
  · rw [if_pos hx, hx]
    obtain ⟨g1, g2, g3, g4⟩ := f1 d
    refine ⟨g1, g2, g3, fun s => ?_, fun h => absurd rfl h⟩
    rw [clr_names, g4]
    by_cases hs : s = old
    · simp [hs]
    · simp [hs]
  · rw [if_neg hx]
    obtain ⟨g1, g2, g3, g4⟩ := f1 x
    refine ⟨g1, g2, g3, fun s => by rw [g4]; simp [hx], fun _ h2 => by rw [e1, if_neg h2]⟩
theorem moved_is {S : PS} {d : Int} {old : ByteArray} {t k : Int} {name : ByteArray} {i : Int} (hd : (S.nodes d).isSome = true) (ht : (S.nodes t).isSome = true) (x : Int) : ((S.moved d old t k name i).nodes x).isSome = (S.nodes x).isSome := by
  show (((S.put t _).put d _).nodes x).isSome = _
  rw [is_put, is_put]
  by_cases hx : x = d
  · rw [if_pos hx, hx, hd]; rfl
  · rw [if_neg hx]
    by_cases hx2 : x = t
    · rw [if_pos hx2, hx2, ht]; rfl
    · rw [if_neg hx2]
/-- what a renaming was -/
theorem rename_ok {S : PS} {l l2 : List ByteArray} (h : (S.rename l l2).2 = 0) (hn : (S.last l2).e = 0 → (S.nd (S.last l2).d).names (S.last l2).name = none) :
    (S.last l).e = 0 ∧ (S.last l2).e = 0 ∧ ∃ i, (S.nd (S.last l).d).names (S.last l).name = some i ∧ (S.nd (S.last l2).d).names (S.last l2).name = none ∧
    ¬ ((S.nd i).kind = 2 ∧ S.under (S.last l2).d i = true) ∧ ¬ ((S.nd i).kind ≠ 2 ∧ (S.nd i).links = 100) ∧ (S.place (S.nd (S.last l2).d)).2 = 0 ∧
    (S.rename l l2).1 = S.moved (S.last l).d (S.last l).name (S.last l2).d (S.place (S.nd (S.last l2).d)).1 (S.last l2).name i := by
  unfold PS.rename at h ⊢
  by_cases h1 : (S.last l).e ≠ 0
  · rw [if_pos h1] at h; exact absurd h h1
  · rw [if_neg h1] at h ⊢
    by_cases h2 : (S.last l2).e ≠ 0
    · rw [if_pos h2] at h; exact absurd h h2
    · rw [if_neg h2] at h ⊢
      have hnn := hn (by omega)
      cases hq : (S.nd (S.last l).d).names (S.last l).name with
      | none => rw [hq] at h; cases h
      | some i =>
        rw [hq] at h
        simp only at h ⊢
        have h3 : ¬ ((S.last l).d = (S.last l2).d ∧ (S.last l).name = (S.last l2).name) := fun e => by rw [e.1, e.2, hnn] at hq; cases hq
        rw [if_neg h3, hnn, move_none] at h
        rw [if_neg h3, hnn, move_none]
        by_cases h4 : (S.nd i).kind = 2 ∧ S.under (S.last l2).d i = true
        · rw [if_pos h4] at h; cases h
        · rw [if_neg h4] at h ⊢
          by_cases h5 : (S.nd i).kind ≠ 2 ∧ (S.nd i).links = 100
          · rw [if_pos h5] at h; cases h
          · rw [if_neg h5] at h ⊢
            by_cases h6 : (S.place (S.nd (S.last l2).d)).2 ≠ 0
            · rw [if_pos h6] at h; exact absurd h h6
            · rw [if_neg h6]
              exact ⟨by omega, by omega, i, rfl, rfl, h4, h5, by omega, rfl⟩
theorem Und.back {S T : PS} {t i d : Int} {name : ByteArray} (hn : ∀ x s k, (T.nd x).names s = some k → (S.nd x).names s = some k ∨ (x = t ∧ k = i)) (hk : ∀ x, (T.nd x).kind = (S.nd x).kind) {x : Int} (h : Und T d x) : Und S d x ∨ Und S t x := by
  induction h with
  | here => exact .inl .here
  | @deep x k s h1 h2 _ ih =>
    rcases hn x s k h1 with e | ⟨e1, e2⟩
    · rw [hk] at h2
      rcases ih with e3 | e3
      · exact .inl (.deep e h2 e3)
      · exact .inr (.deep e h2 e3)
    · rw [e1]; exact .inr .here
theorem place_hole {S : PS} {d : Nd} (h : emp ∈ d.slots) : (S.place d).2 = 0 := by
  unfold PS.place
  rw [if_pos ((Lib.idxOfS_nonneg_iff _ _).2 h)]
/-- renamed there and back -/
theorem rename_back {S : PS} (hg : Good S) {l l2 : List ByteArray} (hl2 : ∀ s ∈ l2, 0 < s.size ∧ s.size ≤ 40) (h : (S.rename l l2).2 = 0) (hn : (S.last l2).e = 0 → (S.nd (S.last l2).d).names (S.last l2).name = none) :
    ((S.rename l l2).1.rename l2 l).2 = 0 ∧ Sml ((S.rename l l2).1.rename l2 l).1 S := by
  obtain ⟨h1, h2, i, h3, h4, h5, h6, h7, h8⟩ := rename_ok h hn
  obtain ⟨a1, a2, a3⟩ := last_ok hg.f h1
  obtain ⟨b1, b2, b3⟩ := last_ok hg.f h2
  obtain ⟨c1, c2, c3⟩ := last_parts h1
  obtain ⟨d1, d2, d3⟩ := last_parts h2
  have hnm := hl2 _ b3
  rw [h8]
  have hpl := place_ok (S := S) (hg.o.n _ _ (PS.nd_get b1)).sl h7
  generalize (S.place (S.nd (S.last l2).d)).1 = k at *
  rw [c3] at h3 ⊢
  rw [d3] at h4 hnm ⊢
  generalize (S.last l).d = d at *
  generalize (S.last l2).d = t at *
  generalize hold : l.getLastD emp = old at *
  generalize hname : l2.getLastD emp = name at *
  have hdn := PS.nd_get a1
  have htn := PS.nd_get b1
  have hit := ((hg.f.n d _ hdn).nm old i h3).2.2.2
  obtain ⟨w1, w2⟩ := frsh_wf hg.o hg.f b1 b2 hit hpl hnm h4
  obtain ⟨r, hr⟩ := hg.t
  have hne : ¬ (d = t ∧ old = name) := fun e => by rw [e.1, e.2, h4] at h3; cases h3
  obtain ⟨T, hT⟩ : ∃ x, x = S.moved d old t k name i := ⟨_, rfl⟩
  rw [← hT]
  have hP := fun x => moved_parts S d old t k name i x
  rw [← hT] at hP
  have hkT : ∀ x, (T.nd x).kind = (S.nd x).kind := fun x => (hP x).1
  have hmm : ∀ x s k', ¬ (x = d ∧ s = old) → (S.nd x).names s = some k' → (T.nd x).names s = some k' := fun x s k' hx hs => by
    rw [(hP x).2.2.2.1, if_neg hx, if_neg (fun e => by rw [e.1, e.2, h4] at hs; cases hs)]
    exact hs
  have hu : (S.nd i).kind = 2 → ¬ Und S t i := fun e hu => h5 ⟨e, under_yes hu⟩
  have hud : (S.nd i).kind = 2 → ¬ Und S d i := fun e hu => by
    have e1 := hu.rank hr
    have e2 := hr d _ old i hdn h3 e
    omega
  have hL2 : T.last l2 = ⟨t, name, 0⟩ := by rw [last_make d1 (walk_past h3 b2 hu hmm hkT _ _ d2) (by rw [hkT]; exact b2), hname]
  have hL : T.last l = ⟨d, old, 0⟩ := by rw [last_make c1 (walk_past h3 a2 hud hmm hkT _ _ c2) (by rw [hkT]; exact a2), hold]
  have hnt : (T.nd t).names name = some i := by
    rw [(hP t).2.2.2.1, if_neg (fun e => hne ⟨e.1.symm, e.2.symm⟩), if_pos ⟨rfl, rfl⟩]
  have hno : (T.nd d).names old = none := by rw [(hP d).2.2.2.1, if_pos ⟨rfl, rfl⟩]
  have hund : ¬ ((T.nd i).kind = 2 ∧ T.under d i = true) := fun e => by
    have e1 := of_under e.2
    rw [hkT] at e
    rcases e1.back (t := t) (i := i) (name := name) (fun x s k' hx => by
      rw [(hP x).2.2.2.1] at hx
      split at hx
      · cases hx
      · split at hx
        · rename_i e2; cases hx; exact .inr ⟨e2.1, rfl⟩
        · exact .inl hx) hkT with e2 | e2
    · exact hud e.1 e2
    · exact hu e.1 e2
  have hlk : ¬ ((T.nd i).kind ≠ 2 ∧ (T.nd i).links = 100) := by rw [hkT, (hP i).2.1]; exact h6
  have hpl2 : (T.place (T.nd d)).2 = 0 := by
    refine place_hole ?_
    have e1 : T.nd d = ((S.put t (some ((S.nd t).set k name i))).nd d).clr old := by rw [hT]; exact nd_put_same _ _ _
    rw [e1]
    have hd1 : ((S.put t (some ((S.nd t).set k name i))).nodes d).isSome = true := by
      rw [is_put]
      split
      · rfl
      · exact a1
    have hmem := ((w1.2.n d _ (PS.nd_get hd1)).nm old i (by
      rw [nd_put]
      by_cases e : d = t
      · rw [if_pos e, set_names, if_neg (fun e2 => hne ⟨e, e2⟩), ← e]; exact h3
      · rw [if_neg e]; exact h3)).1
    obtain ⟨q, -, -, hq⟩ := clr_slots hmem
    rw [hq]
    simp
  have hU : T.rename l2 l = (T.moved t name d (T.place (T.nd d)).1 old i, 0) := by
    unfold PS.rename
    rw [hL2, hL]
    simp only
    rw [if_neg (by simp), if_neg (by simp), hnt]
    simp only
    rw [if_neg (fun e => hne ⟨e.1.symm, e.2.symm⟩), hno, move_none, if_neg hund, if_neg hlk, if_neg (by omega)]
  rw [hU]
  refine ⟨rfl, Sml.of (by rw [hT]; rfl) (fun x => ?_) (fun x => ?_)⟩
  · have i1 : (T.nodes t).isSome = true := by rw [hT, moved_is a1 b1]; exact b1
    have i2 : (T.nodes d).isSome = true := by rw [hT, moved_is a1 b1]; exact a1
    rw [moved_is i1 i2, hT, moved_is a1 b1]
  · obtain ⟨u1, u2, u3, u4, u5⟩ := moved_parts T t name d (T.place (T.nd d)).1 old i x
    obtain ⟨v1, v2, v3, v4, v5⟩ := hP x
    refine ⟨u1.trans v1, u2.trans v2, ?_, u3.trans v3, fun hk1 => ?_⟩
    · funext s
      rw [u4, v4]
      by_cases e1 : x = t ∧ s = name
      · rw [if_pos e1, e1.1, e1.2, h4]
      · rw [if_neg e1]
        by_cases e2 : x = d ∧ s = old
        · rw [if_pos e2, e2.1, e2.2, h3]
        · rw [if_neg e2, if_neg e2, if_neg e1]
    · have hxk : (S.nd x).kind = 1 := by rw [← v1, ← u1]; exact hk1
      have n1 : x ≠ d := fun e => by rw [e, a2] at hxk; cases hxk
      have n2 : x ≠ t := fun e => by rw [e, b2] at hxk; cases hxk
      rw [u5 n2 n1, v5 n1 n2]
/-- a walk, to its last name -/
theorem walk_cons (S : PS) (s : ByteArray) (l : List ByteArray) (i : Int) : S.walk (s :: l) i = if (S.nd i).kind ≠ 2 then (0, 113) else match (S.nd i).names s with
    | none => (0, 110)
    | some j => S.walk l j := rfl
theorem walk_snoc (S : PS) (s : ByteArray) : ∀ (l : List ByteArray) (i : Int), S.walk (l ++ [s]) i = if (S.walk l i).2 ≠ 0 then S.walk l i else S.walk [s] (S.walk l i).1
  | [], i => by
    have : (S.walk [] i) = (i, 0) := rfl
    rw [this, if_neg (by simp)]; rfl
  | a :: l, i => by
    show S.walk (a :: (l ++ [s])) i = _
    rw [walk_cons S a (l ++ [s]) i, walk_cons S a l i]
    by_cases h : (S.nd i).kind ≠ 2
    · rw [if_pos h, if_pos h, if_pos (by simp)]
    · rw [if_neg h, if_neg h]
      cases hq : (S.nd i).names a with
      | none => simp
      | some j => simp only; exact walk_snoc S s l j
theorem snoc_last (d : ByteArray) : ∀ l : List ByteArray, l ≠ [] → l = l.dropLast ++ [l.getLastD d]
  | [], h => absurd rfl h
  | [a], _ => rfl
  | a :: b :: r, _ => by
    have ih := snoc_last d (b :: r) (by simp)
    show a :: b :: r = a :: ((b :: r).dropLast ++ [(b :: r).getLastD d])
    rw [← ih]
theorem walk_none {S : PS} {l : List ByteArray} (h : (S.walk l 1).2 = 110) (h2 : (S.last l).e = 0) : (S.nd (S.last l).d).names (S.last l).name = none := by
  obtain ⟨c1, c2, c3⟩ := last_parts h2
  have e := snoc_last emp l c1
  rw [e, walk_snoc, c2, if_neg (by simp)] at h
  unfold PS.walk at h
  rw [c3]
  simp only at h
  split at h
  · cases h
  · cases hq : (S.nd (S.last l).d).names (l.getLastD emp) with
    | none => rfl
    | some j => rw [hq] at h; cases h
end Go.Proofs.YteffoihkljkfdaaDoor

/- Made and taken away, there and back: by Do: plain. -/
namespace Go.Proofs.YteffoihkljkfdaaDoor
set_option linter.unusedSimpArgs false
set_option linter.unusedVariables false
open Go.RowKit

def opN (k : Int) (p q : ByteArray) : OpV := ⟨k, p, q, 0, 0, [], 0, 0⟩
theorem doo_may {S : PS} {o : OpV} (h : (S.doo o).2.code = 0) : mayZ o = true ∧ o.names.2.2 = 0 ∧ (S.doo o) = PS.told1 (S.does o o.names.1 o.names.2.1) ∧ (S.does o o.names.1 o.names.2.1).2.code = 0 := by
  unfold PS.doo at h ⊢
  by_cases h1 : mayZ o = false
  · rw [if_pos h1] at h; cases h
  · rw [if_neg h1] at h ⊢
    by_cases h2 : o.names.2.2 ≠ 0
    · rw [if_pos h2] at h; exact absurd h h2
    · rw [if_neg h2] at h ⊢
      rw [told1_code] at h
      exact ⟨by simpa using h1, by omega, rfl, h⟩
theorem doo_go {S : PS} {o : OpV} (h1 : mayZ o = true) (h2 : o.names.2.2 = 0) : (S.doo o).2.code = (S.does o o.names.1 o.names.2.1).2.code ∧ (S.doo o).1 = (S.does o o.names.1 o.names.2.1).1 := by
  unfold PS.doo
  rw [if_neg (by rw [h1]; simp), if_neg (by rw [h2]; simp), told1_code, told1_fst]
  exact ⟨rfl, rfl⟩
theorem emp_list : (emp.toList == []) = true := by rw [Lib.toList_data]; rfl
theorem may_of {k : Int} (hk : 1 ≤ k ∧ k ≤ 14) {p q : ByteArray} (h1 : hasL k 112 = true) (h2 : hasL k 116 = true ∨ q = emp) : mayZ (opN k p q) = true := by
  have e : (hasL k 116 || q.toList == []) = true := by
    rcases h2 with h | h
    · rw [h]; rfl
    · rw [h, emp_list]; simp
  unfold mayZ opN
  simp only [h1, e]
  simp
  omega
theorem may1 (k : Int) (hk : k = 1 ∨ k = 2 ∨ k = 4 ∨ k = 5 ∨ k = 10) (p : ByteArray) : mayZ (opN k p emp) = true := by
  refine may_of (by omega) ?_ (.inr rfl)
  rcases hk with rfl | rfl | rfl | rfl | rfl <;> decide
theorem may2 (k : Int) (hk : k = 3 ∨ k = 6) (p q : ByteArray) : mayZ (opN k p q) = true := by
  refine may_of (by omega) ?_ (.inl ?_)
  · rcases hk with rfl | rfl <;> decide
  · rcases hk with rfl | rfl <;> decide
theorem names1 (k : Int) (hk : k = 1 ∨ k = 2 ∨ k = 4 ∨ k = 5 ∨ k = 10) (p : ByteArray) : (opN k p emp).names = if (spl p).2 ≠ 0 then ([], [], (spl p).2) else ((spl p).1, [], 0) := by
  unfold OpV.names opN
  simp only
  rw [if_neg (by omega)]
  split
  · rfl
  · rw [if_neg (by omega)]
theorem names2 (k : Int) (hk : k = 3 ∨ k = 6) (p q : ByteArray) : (opN k p q).names = if (spl p).2 ≠ 0 then ([], [], (spl p).2) else if (spl q).2 ≠ 0 then ([], [], (spl q).2) else ((spl p).1, (spl q).1, 0) := by
  unfold OpV.names opN
  simp only
  rw [if_neg (by omega)]
  split
  · rfl
  · rfl
theorem Sml.left {S T : PS} (h : Sml S T) : S.left = T.left := by
  unfold PS.left
  rw [h.i, cntB_congr (q := fun i => (T.nodes i).isSome) (fun k _ _ => h.n k)]
/-- what a making leaves free -/
theorem make_left {S : PS} (hg : Good S) {l : List ByteArray} {kind made : Int} (h : (S.make l kind made).2.code = 0) : (S.make l kind made).1.left = S.left - 1 := by
  obtain ⟨h1, h2, h3, h4, h5⟩ := making_ok hg.f h
  obtain ⟨a1, a2, a3⟩ := last_ok hg.f h1
  obtain ⟨b1, b2, b3⟩ := freeI_ok h3
  have hi := hg.o.i
  unfold PS.left
  rw [h5]
  have e : cntB 513 (fun i => (((S.put S.freeI (some (freshN kind made))).put (S.last l).d (some ((S.nd (S.last l).d).set (S.place (S.nd (S.last l).d)).1 (S.last l).name S.freeI))).nodes i).isSome) = cntB 513 (fun i => (S.nodes i).isSome) + 1 := by
    rw [← cntB_step (x := S.freeI) (p := fun i => (S.nodes i).isSome) (by omega) (by simp [b3])]
    refine cntB_congr fun k _ _ => ?_
    rw [is_put, is_put]
    by_cases hd : k = (S.last l).d
    · rw [if_pos hd, hd, a1]; rfl
    · rw [if_neg hd]
      by_cases hf : k = S.freeI
      · rw [if_pos hf, hf]; simp
      · rw [if_neg hf]; simp [hf]
  show S.inodes - _ = S.inodes - _ - 1
  rw [e]
  omega
theorem doo_make {S : PS} (hg : Good S) {k : Int} (hk : k = 0 ∨ k = 1) {p : ByteArray} (h : (S.doo (opN (1 + k) p emp)).2.code = 0) :
    (S.doo (opN (1 + k) p emp)).1.left = S.left - 1 ∧ ((S.doo (opN (1 + k) p emp)).1.doo (opN (4 + k) p emp)).2.code = 0 ∧ Sml ((S.doo (opN (1 + k) p emp)).1.doo (opN (4 + k) p emp)).1 S := by
  obtain ⟨h1, h2, h3, h4⟩ := doo_may h
  rw [names1 _ (by omega)] at h2 h3 h4
  by_cases hs : (spl p).2 ≠ 0
  · rw [if_pos hs] at h2; exact absurd h2 hs
  · rw [if_neg hs] at h3 h4
    have hsd : ∀ T : PS, (T.doo (opN (4 + k) p emp)).2.code = (T.does (opN (4 + k) p emp) (spl p).1 []).2.code ∧ (T.doo (opN (4 + k) p emp)).1 = (T.does (opN (4 + k) p emp) (spl p).1 []).1 := fun T => by
      have := doo_go (S := T) (may1 (4 + k) (by omega) p) (by rw [names1 _ (by omega), if_neg hs])
      rw [names1 _ (by omega), if_neg hs] at this
      exact this
    have e1 : (S.doo (opN (1 + k) p emp)).1 = (S.does (opN (1 + k) p emp) (spl p).1 []).1 := by rw [h3, told1_fst]
    rw [e1, (hsd _).1, (hsd _).2]
    rcases hk with rfl | rfl
    · have d1 : ∀ T : PS, T.does (opN (1 + 0) p emp) (spl p).1 [] = T.make (spl p).1 1 0 := fun T => rfl
      have d2 : ∀ T : PS, T.does (opN (4 + 0) p emp) (spl p).1 [] = ((T.unlink (spl p).1).1, .err (T.unlink (spl p).1).2) := fun T => rfl
      rw [d1] at h4 ⊢
      rw [d2]
      exact ⟨make_left hg h4, (make_back hg (.inl rfl) h4).1 rfl⟩
    · have d1 : ∀ T : PS, T.does (opN (1 + 1) p emp) (spl p).1 [] = T.make (spl p).1 2 0 := fun T => rfl
      have d2 : ∀ T : PS, T.does (opN (4 + 1) p emp) (spl p).1 [] = ((T.rmdir (spl p).1).1, .err (T.rmdir (spl p).1).2) := fun T => rfl
      rw [d1] at h4 ⊢
      rw [d2]
      exact ⟨make_left hg h4, (make_back hg (.inr rfl) h4).2 rfl⟩
theorem doo_link {S : PS} (hg : Good S) {p q : ByteArray} (h : (S.doo (opN 3 p q)).2.code = 0) : ((S.doo (opN 3 p q)).1.doo (opN 4 q emp)).2.code = 0 ∧ Sml ((S.doo (opN 3 p q)).1.doo (opN 4 q emp)).1 S := by
  obtain ⟨h1, h2, h3, h4⟩ := doo_may h
  rw [names2 _ (by omega)] at h2 h3 h4
  by_cases hs : (spl p).2 ≠ 0
  · rw [if_pos hs] at h2; exact absurd h2 hs
  · rw [if_neg hs] at h2 h3 h4
    by_cases hs2 : (spl q).2 ≠ 0
    · rw [if_pos hs2] at h2; exact absurd h2 hs2
    · rw [if_neg hs2] at h3 h4
      have e1 : (S.doo (opN 3 p q)).1 = (S.link (spl p).1 (spl q).1).1 := by rw [h3, told1_fst]; rfl
      have h4' : (S.link (spl p).1 (spl q).1).2 = 0 := h4
      obtain ⟨g1, g2⟩ := doo_go (S := (S.link (spl p).1 (spl q).1).1) (may1 4 (by omega) q) (by rw [names1 _ (by omega), if_neg hs2])
      rw [names1 _ (by omega), if_neg hs2] at g1 g2
      rw [e1, g1, g2]
      exact link_back hg h4'
theorem doo_rename {S : PS} (hg : Good S) {p q : ByteArray} (h : (S.doo (opN 6 p q)).2.code = 0) (ht : (S.doo (opN 10 q emp)).2.code = 110) : ((S.doo (opN 6 p q)).1.doo (opN 6 q p)).2.code = 0 ∧ Sml ((S.doo (opN 6 p q)).1.doo (opN 6 q p)).1 S := by
  obtain ⟨h1, h2, h3, h4⟩ := doo_may h
  rw [names2 _ (by omega)] at h2 h3 h4
  by_cases hs : (spl p).2 ≠ 0
  · rw [if_pos hs] at h2; exact absurd h2 hs
  · rw [if_neg hs] at h2 h3 h4
    by_cases hs2 : (spl q).2 ≠ 0
    · rw [if_pos hs2] at h2; exact absurd h2 hs2
    · rw [if_neg hs2] at h3 h4
      have e1 : (S.doo (opN 6 p q)).1 = (S.rename (spl p).1 (spl q).1).1 := by rw [h3, told1_fst]; rfl
      have h4' : (S.rename (spl p).1 (spl q).1).2 = 0 := h4
      obtain ⟨g1, g2⟩ := doo_go (S := (S.rename (spl p).1 (spl q).1).1) (may2 6 (by omega) q p) (by rw [names2 _ (by omega), if_neg hs2, if_neg hs])
      rw [names2 _ (by omega), if_neg hs2, if_neg hs] at g1 g2
      obtain ⟨t1, -⟩ := doo_go (S := S) (may1 10 (by omega) q) (by rw [names1 _ (by omega), if_neg hs2])
      rw [names1 _ (by omega), if_neg hs2, ht] at t1
      have hw : (S.walk (spl q).1 1).2 = 110 := by
        have t2 : (110 : Int) = (S.asked (opN 10 q emp) (spl q).1).2.code := t1
        unfold PS.asked at t2
        by_cases hc : (S.walk (spl q).1 1).2 ≠ 0
        · rw [if_pos hc] at t2; exact t2.symm
        · rw [if_neg hc] at t2
          have : (S.ask (opN 10 q emp) (S.walk (spl q).1 1).1).2.code = 0 := rfl
          rw [this] at t2; cases t2
      rw [e1, g1, g2]
      exact rename_back hg (spl_names q) h4' (walk_none hw)
end Go.Proofs.YteffoihkljkfdaaDoor

/- For the walk of PlainBack: what is kept, an answer's cells, deeds in a later world. -/
namespace Go.Proofs.YteffoihkljkfdaaDoor
set_option linter.unusedSimpArgs false
set_option linter.unusedVariables false
open Go.ChangeShapes Go.WideShapes Go.ChangeAt Go.RowKit

theorem DataAt.fr {w w' : World} {l : List Int} {dv : Value} (h : DataAt w (fun _ => none) l dv) (hf : Fr [] w w') : DataAt w' (fun _ => none) l dv := by
  obtain ⟨od, h1, h2⟩ := h.d
  exact ⟨⟨od, h1.fr hf (by simp), h2⟩, h.c, h.b⟩
theorem DeedsAt.fr {w w' : World} {v : Value} {ds : List DeedV} (h : DeedsAt w v ds) (hf : Fr [] w w') : DeedsAt w' v ds := by
  obtain ⟨a, c, rfl, hn, hx⟩ := h
  refine ⟨a, c, rfl, hn, fun h0 => ?_⟩
  obtain ⟨g, o, cs, t, fr, rfl, hg, hs, hq⟩ := hx h0
  refine ⟨g, o, cs, t, fr, rfl, (hf.block g (hat_lt hg) (by simp)).trans hg, hs, fun i hi => ?_⟩
  obtain ⟨d, dv, h1, h2, h3, h4⟩ := hq i hi
  exact ⟨d, dv, h1, h2, h3, h4.fr hf⟩
theorem ans_cells {w : World} {B : Nat} {own : Nat → Option (Int × Nat)} {v : Value} {x : Ans} (h : AnsAt w B own v x) : ∃ x1 x2 x3 x4 x5 x6 d1 n1 c1 e1 n2 c2, v = .agg #[.int .i64 x.code, .int .i64 x1, .int .i64 x2, .int .i64 x3, .int .i64 x4, .int .i64 x5, .int .i64 x6, .slice d1 n1 c1, .slice e1 n2 c2, .bool false] := by
  obtain ⟨dv, ev, od, oe, rfl, h1, h2, -⟩ := h
  obtain ⟨a, c, rfl⟩ := h1.slice
  obtain ⟨a2, c2, rfl⟩ := h2.slice
  exact ⟨_, _, _, _, _, _, _, _, _, _, _, _, rfl⟩
/-- a block that is nobody's -/
structure Kpt (w : World) (own : Nat → Option (Int × Nat)) (g : Nat) (o : Obj) : Prop where
  h : hat w g = some o
  n : own g = none
theorem Kpt.moved {w w' : World} {own own' : Nat → Option (Int × Nat)} {g gp bn : Nat} {o : Obj} {S' : PS} (h : Kpt w own g o) (hm : Mvd w w' gp bn own S' own') : Kpt w' own' g o :=
  ⟨(hm.2.1.block g (hat_lt h.h) h.n).trans h.h, (hm.2.2 g (hat_lt h.h)).trans h.n⟩
theorem Kpt.fr {w w' : World} {own : Nat → Option (Int × Nat)} {g : Nat} {o : Obj} (h : Kpt w own g o) (hf : Fr [] w w') : Kpt w' (nrm w own) g o :=
  ⟨(hf.block g (hat_lt h.h) (by simp)).trans h.h, (nrm_lt (hat_lt h.h)).trans h.n⟩
theorem Kpt.new (w : World) (own : Nat → Option (Int × Nat)) (o : Obj) : Kpt (w.alloc o) (nrm w own) w.heap.size o := ⟨(hopN w o).1, nrm_ge (Nat.le_refl _)⟩
theorem nil_ok : ∀ x ∈ ([] : List Int), 0 ≤ x ∧ x < 256 := fun x h => (nomatch h)
theorem left_small {S : PS} (h : Good S) : -1000000 ≤ S.left ∧ S.left ≤ 1000000 := by
  have h1 := h.o.i
  have h2 := cntB_le 513 (fun i => (S.nodes i).isSome)
  unfold PS.left
  omega
/-- made and taken away -/
theorem back1 {S : PS} (hg : Good S) {k : Int} (hk : 0 ≤ k ∧ k < 2) {p : ByteArray} (h : (S.doo (opN (1 + k) p emp)).2.code = 0) :
    (S.doo (opN (1 + k) p emp)).1.left = S.left - 1 ∧ ((S.doo (opN (1 + k) p emp)).1.doo (opN (4 + k) p emp)).2.code = 0 ∧ ((S.doo (opN (1 + k) p emp)).1.doo (opN (4 + k) p emp)).1.listedT = S.listedT ∧ ((S.doo (opN (1 + k) p emp)).1.doo (opN (4 + k) p emp)).1.left = S.left := by
  obtain ⟨h1, h2, h3⟩ := doo_make hg (k := k) (by omega) h
  have g1 := doo_good (o := opN (1 + k) p emp) hg nil_ok
  have g2 := doo_good (o := opN (4 + k) p emp) g1 nil_ok
  exact ⟨h1, h2, h3.listed g2.f hg.f, h3.left⟩
theorem back2 {S : PS} (hg : Good S) {p q : ByteArray} (h : (S.doo (opN 3 p q)).2.code = 0) :
    ((S.doo (opN 3 p q)).1.doo (opN 4 q emp)).2.code = 0 ∧ ((S.doo (opN 3 p q)).1.doo (opN 4 q emp)).1.listedT = S.listedT := by
  obtain ⟨h2, h3⟩ := doo_link hg h
  have g1 := doo_good (o := opN 3 p q) hg nil_ok
  have g2 := doo_good (o := opN 4 q emp) g1 nil_ok
  exact ⟨h2, h3.listed g2.f hg.f⟩
theorem back3 {S : PS} (hg : Good S) {p q : ByteArray} (h : (S.doo (opN 6 p q)).2.code = 0) (ht : (S.doo (opN 10 q emp)).2.code = 110) :
    ((S.doo (opN 6 p q)).1.doo (opN 6 q p)).2.code = 0 ∧ ((S.doo (opN 6 p q)).1.doo (opN 6 q p)).1.listedT = S.listedT := by
  obtain ⟨h2, h3⟩ := doo_rename hg h ht
  have g1 := doo_good (o := opN 6 p q) hg nil_ok
  have g2 := doo_good (o := opN 6 q p) g1 nil_ok
  exact ⟨h2, h3.listed g2.f hg.f⟩
set_option maxRecDepth 100000 in
theorem deed_of {H : Type} {enc : TypeId × Value → H} {W : World} {base : Nat} {v : Value} {d : DataW H} {p : List MemPlace} (hv : Value.okWide Tryd.prog W .any base 54 v) (h : DataW.Trod enc Tryd.prog W 0 (fun _ => true) true 54 v d p) : ∃ (x : DeedV) (a : Option Addr) (n c : Nat), v = .agg #[.int .i64 x.kind, .int .i64 x.a, .int .i64 x.b, .int .i64 x.off, .int .i64 x.n, .slice a n c] ∧ DeedOk x := by
  obtain ⟨cs, rfl, hcs⟩ := okWide_struct Tryd.underlying54 hv
  rw [Tryd.cellsDeed'] at hcs
  obtain ⟨fuel, hf⟩ := h
  have hf' : DataW.trod enc Tryd.prog W 0 (fun _ => true) true fuel 54 cs.toList = some (d, p) := hf
  obtain ⟨y0, y1, y2, y3, y4, y5, n', -, -, k0, k1, k2, k3, k4, k5⟩ := trod_struct6 Tryd.underlying54 hf'
  simp only [Tryd.cellsInt', Tryd.cellsSU8'] at k0 k1 k2 k3 k4 k5
  obtain ⟨p0, q0, -, w0⟩ := DataW.trod_int Tryd.underlying3 k0
  obtain ⟨p1, q1, -, w1⟩ := DataW.trod_int Tryd.underlying3 k1
  obtain ⟨p2, q2, -, w2⟩ := DataW.trod_int Tryd.underlying3 k2
  obtain ⟨p3, q3, -, w3⟩ := DataW.trod_int Tryd.underlying3 k3
  obtain ⟨p4, q4, -, w4⟩ := DataW.trod_int Tryd.underlying3 k4
  obtain ⟨dv, l, q5, hd, -⟩ := data_of k5
  obtain ⟨od, hb, -⟩ := hd.d
  obtain ⟨a, c, rfl⟩ := hb.slice
  refine ⟨⟨p0, p1, p2, p3, p4, l⟩, a, l.length, c, ?_, ⟨i64ok_of w0, i64ok_of w1, i64ok_of w2, i64ok_of w3, i64ok_of w4⟩⟩
  obtain ⟨ls⟩ := cs
  match ls, hcs with
  | [a, b, c, d, e, f], _ =>
    have e0 := take1 q0
    have e1 := take1 q1
    have e2 := take1 q2
    have e3 := take1 q3
    have e4 := take1 q4
    have e5 := take1 q5
    simp at e0 e1 e2 e3 e4 e5
    simp [e0, e1, e2, e3, e4, e5]
/-- a plain one between two halves of the law -/
def Mid (W w : World) (gp : Nat) (L : ByteArray) : Prop := ∃ S own, Hid (Here W w gp S own) ∧ Hid (Good S) ∧ Hid (S.listedT = L)
end Go.Proofs.YteffoihkljkfdaaDoor

/- listed: the walk. -/
namespace Go.Proofs.YteffoihkljkfdaaDoor
set_option linter.unusedSimpArgs false
set_option linter.unusedVariables false
open Go.RowKit

set_option maxHeartbeats 16000000 in
set_option maxRecDepth 100000 in
theorem listed_any {w : World} {gp bn c : Nat} {S : PS} {A : Int → NA} {own : Nat → Option (Int × Nat)} (h : PW w gp bn c S A own) (hg : Good S) {m : Int} (hm : w.cell? ⟨0, 0, none⟩ = some (.int .i64 m)) (h0 : own 0 = none) :
    Calls Tryd.prog 21 #[.pointer (some ⟨gp, 0, none⟩)] w fun e w' => e = .returned (.string S.listedT) ∧ ∃ own', Mvd w w' gp bn own S own' := by
  have H := Lib.hid h
  have HM := Lib.hid hm
  have H0 := Lib.hid h0
  obtain ⟨R, hR⟩ : ∃ x, x = S.walkT S.rowL 300 [slash] 0 emp := ⟨_, rfl⟩
  have HR := Lib.hid hR
  obtain ⟨w0, hw0⟩ : ∃ x, x = w.alloc (.cells #[.string slash] 9) := ⟨_, rfl⟩
  obtain ⟨g0, hg0⟩ : ∃ x, x = w.heap.size := ⟨_, rfl⟩
  have HT0 := Lib.hid (show Tell w w0 gp bn own S (nrm w own) [] (.slice (some ⟨g0, 0, none⟩) 1 1) (some g0) [slash] (.slice none 0 0) none [] (.slice none 0 0) none [] from
    ⟨(TI.start h).fr (show Fr [] w w0 by rw [hw0]; exact fr_new _ _ _) (by simp) (by simp), ⟨.inr ⟨g0, 0, 1, #[.string slash], rfl, rfl, by rw [hw0, hg0]; exact (hopN w _).1, by simp, by simp, fun q hq => by
      obtain rfl : q = 0 := by simp at hq; omega
      rfl⟩, fun b hb => by cases hb; exact nrm_ge (by omega)⟩, fun b hb => by cases hb; omega, rowNil _ _ _ _ _, rowNil _ _ _ _ _⟩)
  clear h hm h0 hR
  go_enter Tryd.func21, Tryd.ntmps21
  go_upto_region 3 with fail
  have hw0' : w0 = w.alloc (.cells #[.string (ByteArray.mk #[47])] 9) := hw0
  rw [← hw0', ← hg0]
  clear hw0' hw0 hg0
  go_wp2_with fail
  go_loopw [3, 4, 5] (fun v3 v4 v5 wr => ∃ (i : Nat) (ps : List ByteArray) (s : ByteArray) (a : Option Addr) (c : Nat) (ob : Option Nat) (own' : Nat → Option (Int × Nat)), v3 = .string s ∧ v4 = .slice a ps.length c ∧ v5 = .int .i64 i ∧ Hid (Tell w wr gp bn own S own' [] (.slice a ps.length c) ob ps (.slice none 0 0) none [] (.slice none 0 0) none []) ∧ Hid (WT S S.rowL R i ps s)) (fun _ _ v5 _ => 300 - (intOf v5).toNat)
  case atStart => exact ⟨0, [slash], emp, some ⟨g0, 0, none⟩, 1, some g0, nrm w own, rfl, rfl, rfl, HT0, Lib.hid (by rw [HR.out]; exact WT.start S _)⟩
  case round =>
    obtain ⟨i, ps, s, a, c, ob, own', rfl, rfl, rfl, HT, HW⟩ := hrel
    have hi300 := HW.out.i
    by_cases hlt : i < ps.length ∧ i < 300
    · obtain ⟨hlt, h300⟩ := hlt
      have hk1 : (i : Int) < (ps.length : Int) := by omega
      have hk0 : (0 : Int) ≤ (i : Int) := by omega
      have hk3 : (i : Int) < 300 := by omega
      obtain ⟨p, hpk⟩ := getElem_opt hlt
      have HPK := Lib.hid hpk
      have HPS := Lib.hid (show p.size ≤ 20000 by have := HW.out.p p (List.mem_of_getElem? hpk); omega)
      have HBS := Lib.hid (doo_bound hg (o := opS p) ⟨by show (9 : Int) ≤ 10; omega, by show (10 : Int) ≤ 11; omega⟩)
      have HBL := Lib.hid (doo_bound hg (o := opL p) ⟨by show (9 : Int) ≤ 11; omega, by show (11 : Int) ≤ 11; omega⟩)
      have HBR := Lib.hid (doo_bound hg (o := opR p) ⟨by show (9 : Int) ≤ 9; omega, by show (9 : Int) ≤ 11; omega⟩)
      obtain ⟨g, off, rfl, rfl⟩ : ∃ g off, a = some ⟨g, off, none⟩ ∧ ob = some g := by
        rcases HT.out.p.r with ⟨-, -, h0⟩ | ⟨g, off, c', cs, e, h2, -⟩
        · omega
        · injection e with e1 e2 e3; exact ⟨g, off, e1, h2⟩
      have hcx : cellOf (off + i) (hat wr g) = some (.string p) := pathCell HT.out HPK.out
      have hgl : g < wr.heap.size := HT.out.p.r.lt g rfl
      have H300 := Lib.hid h300
      clear hpk hlt h300
      go_wp2_with fail
      obtain ⟨c1, A1, hp1⟩ := HT.out.t.mv.1
      have HM1 := Lib.hid (cell0_fr HM.out HT.out.t.mv.2.1 H0.out)
      refine (do_any hp1 hg (o := opS p) (dv := .slice none 0 0) (opAt_nil _ _ _ _ _ _ _ _ _) HM1.out).mono ?_; rintro e v1 ⟨own1, av, rfl, ha, hmv⟩
      rw [doo_same (o := opS p) (.inr (show (9 : Int) ≤ 10 by omega))] at hmv
      have HT := Lib.hid (HT.out.do hmv)
      have HA1 := Lib.hid ha
      obtain ⟨dv1, ev1, od1, oe1, rfl, hd1, he1, hn1⟩ := ha
      have HDE1 := Lib.hid (show GRow 5 1 v1 dv1 od1 (S.aS p).data.length (byC (S.aS p).data) ∧ GRow 98 3 v1 ev1 oe1 (S.aS p).ents.length (entC (S.aS p).ents) ∧ ∀ g, od1 = some g ∨ oe1 = some g → own1 g = none from ⟨hd1, he1, fun g hg => (hn1 g hg).2⟩)
      obtain ⟨d1, dc1, hdv⟩ := hd1.slice
      obtain ⟨e1, ec1, hev⟩ := he1.slice
      rw [show (S.doo (opS p)).2.data.length = (S.aS p).data.length from rfl] at hdv
      rw [show (S.doo (opS p)).2.ents.length = (S.aS p).ents.length from rfl] at hev
      subst hdv hev
      have hone : oneAll #[.int .i64 (S.aS p).code, .int .i64 (S.aS p).stat.ino, .int .i64 (S.aS p).stat.kind, .int .i64 (S.aS p).stat.links, .int .i64 (S.aS p).stat.size, .int .i64 (S.aS p).stat.made, .int .i64 (S.aS p).stat.blocks, .slice d1 (S.aS p).data.length dc1, .slice e1 (S.aS p).ents.length ec1, .bool false] = true := by simp [oneAll, Value.oneCell']
      have hav : ansV (S.doo (opS p)).2 (.slice d1 (S.aS p).data.length dc1) (.slice e1 (S.aS p).ents.length ec1) = #[.int .i64 (S.aS p).code, .int .i64 (S.aS p).stat.ino, .int .i64 (S.aS p).stat.kind, .int .i64 (S.aS p).stat.links, .int .i64 (S.aS p).stat.size, .int .i64 (S.aS p).stat.made, .int .i64 (S.aS p).stat.blocks, .slice d1 (S.aS p).data.length dc1, .slice e1 (S.aS p).ents.length ec1, .bool false] := rfl
      rw [hav]
      clear hav hmv hp1 hd1 he1 hn1
      go_upto_region 7 with fail
      obtain ⟨g1, hg1⟩ : ∃ x, x = v1.heap.size := ⟨_, rfl⟩
      obtain ⟨u1, hu1⟩ : ∃ x, x = v1.alloc (.cells #[.int .i64 (S.aS p).code, .int .i64 (S.aS p).stat.ino, .int .i64 (S.aS p).stat.kind, .int .i64 (S.aS p).stat.links, .int .i64 (S.aS p).stat.size, .int .i64 (S.aS p).stat.made, .int .i64 (S.aS p).stat.blocks, .slice d1 (S.aS p).data.length dc1, .slice e1 (S.aS p).ents.length ec1, .bool false] 37) := ⟨_, rfl⟩
      have HT := Lib.hid (HT.out.box (show Fr [] v1 u1 by rw [hu1]; exact fr_new _ _ _) (show hat u1 g1 = some (.cells #[.int .i64 (S.aS p).code, .int .i64 (S.aS p).stat.ino, .int .i64 (S.aS p).stat.kind, .int .i64 (S.aS p).stat.links, .int .i64 (S.aS p).stat.size, .int .i64 (S.aS p).stat.made, .int .i64 (S.aS p).stat.blocks, .slice d1 (S.aS p).data.length dc1, .slice e1 (S.aS p).ents.length ec1, .bool false] 37) by rw [hu1, hg1]; exact (hopN v1 _).1) (by omega))
      rw [← hu1, ← hg1]
      clear hu1 hg1 hone
      have hcx : cellOf (off + i) (hat u1 g) = some (.string p) := pathCell HT.out HPK.out
      have hgl : g < u1.heap.size := HT.out.p.r.lt g rfl
      clear hcx hgl
      have hcx : cellOf (off + i) (hat u1 g) = some (.string p) := pathCell HT.out HPK.out
      go_wp2_with fail
      obtain ⟨c2, A2, hp2⟩ := HT.out.t.mv.1
      have HM2 := Lib.hid (cell0_fr HM.out HT.out.t.mv.2.1 H0.out)
      refine (do_any hp2 hg (o := opL p) (dv := .slice none 0 0) (opAt_nil _ _ _ _ _ _ _ _ _) HM2.out).mono ?_; rintro e v2 ⟨own2, av, rfl, ha, hmv⟩
      rw [doo_same (o := opL p) (.inr (show (9 : Int) ≤ 11 by omega))] at hmv
      have HT := Lib.hid (HT.out.do hmv)
      have HA2 := Lib.hid ha
      obtain ⟨dv2, ev2, od2, oe2, rfl, hd2, he2, hn2⟩ := ha
      have HDE2 := Lib.hid (show GRow 5 1 v2 dv2 od2 (S.aL p).data.length (byC (S.aL p).data) ∧ GRow 98 3 v2 ev2 oe2 (S.aL p).ents.length (entC (S.aL p).ents) ∧ ∀ g, od2 = some g ∨ oe2 = some g → own2 g = none from ⟨hd2, he2, fun g hg => (hn2 g hg).2⟩)
      obtain ⟨d2, dc2, hdv⟩ := hd2.slice
      obtain ⟨e2, ec2, hev⟩ := he2.slice
      rw [show (S.doo (opL p)).2.data.length = (S.aL p).data.length from rfl] at hdv
      rw [show (S.doo (opL p)).2.ents.length = (S.aL p).ents.length from rfl] at hev
      subst hdv hev
      have hone : oneAll #[.int .i64 (S.aL p).code, .int .i64 (S.aL p).stat.ino, .int .i64 (S.aL p).stat.kind, .int .i64 (S.aL p).stat.links, .int .i64 (S.aL p).stat.size, .int .i64 (S.aL p).stat.made, .int .i64 (S.aL p).stat.blocks, .slice d2 (S.aL p).data.length dc2, .slice e2 (S.aL p).ents.length ec2, .bool false] = true := by simp [oneAll, Value.oneCell']
      have hav : ansV (S.doo (opL p)).2 (.slice d2 (S.aL p).data.length dc2) (.slice e2 (S.aL p).ents.length ec2) = #[.int .i64 (S.aL p).code, .int .i64 (S.aL p).stat.ino, .int .i64 (S.aL p).stat.kind, .int .i64 (S.aL p).stat.links, .int .i64 (S.aL p).stat.size, .int .i64 (S.aL p).stat.made, .int .i64 (S.aL p).stat.blocks, .slice d2 (S.aL p).data.length dc2, .slice e2 (S.aL p).ents.length ec2, .bool false] := rfl
      rw [hav]
      clear hav hmv hp2 hd2 he2 hn2
      go_upto_region 8 with fail
      obtain ⟨g2, hg2⟩ : ∃ x, x = v2.heap.size := ⟨_, rfl⟩
      obtain ⟨u2, hu2⟩ : ∃ x, x = v2.alloc (.cells #[.int .i64 (S.aL p).code, .int .i64 (S.aL p).stat.ino, .int .i64 (S.aL p).stat.kind, .int .i64 (S.aL p).stat.links, .int .i64 (S.aL p).stat.size, .int .i64 (S.aL p).stat.made, .int .i64 (S.aL p).stat.blocks, .slice d2 (S.aL p).data.length dc2, .slice e2 (S.aL p).ents.length ec2, .bool false] 37) := ⟨_, rfl⟩
      have HT := Lib.hid (HT.out.setE HDE2.out.2.1 (fun g hg => HDE2.out.2.2 g (.inr hg)))
      have HT := Lib.hid (HT.out.box (show Fr [] v2 u2 by rw [hu2]; exact fr_new _ _ _) (show hat u2 g2 = some (.cells #[.int .i64 (S.aL p).code, .int .i64 (S.aL p).stat.ino, .int .i64 (S.aL p).stat.kind, .int .i64 (S.aL p).stat.links, .int .i64 (S.aL p).stat.size, .int .i64 (S.aL p).stat.made, .int .i64 (S.aL p).stat.blocks, .slice d2 (S.aL p).data.length dc2, .slice e2 (S.aL p).ents.length ec2, .bool false] 37) by rw [hu2, hg2]; exact (hopN v2 _).1) (by omega))
      rw [← hu2, ← hg2]
      clear hu2 hg2 hone
      have hcx : cellOf (off + i) (hat u2 g) = some (.string p) := pathCell HT.out HPK.out
      have hgl : g < u2.heap.size := HT.out.p.r.lt g rfl
      go_wp2_with fail
      obtain ⟨c3, A3, hp3⟩ := HT.out.t.mv.1
      have HM3 := Lib.hid (cell0_fr HM.out HT.out.t.mv.2.1 H0.out)
      refine (do_any hp3 hg (o := opR p) (dv := .slice none 0 0) (opAt_nil _ _ _ _ _ _ _ _ _) HM3.out).mono ?_; rintro e v3 ⟨own3, av, rfl, ha, hmv⟩
      rw [doo_same (o := opR p) (.inr (show (9 : Int) ≤ 9 by omega))] at hmv
      have HT := Lib.hid (HT.out.do hmv)
      have HA3 := Lib.hid ha
      obtain ⟨dv3, ev3, od3, oe3, rfl, hd3, he3, hn3⟩ := ha
      have HDE3 := Lib.hid (show GRow 5 1 v3 dv3 od3 (S.aR p).data.length (byC (S.aR p).data) ∧ GRow 98 3 v3 ev3 oe3 (S.aR p).ents.length (entC (S.aR p).ents) ∧ ∀ g, od3 = some g ∨ oe3 = some g → own3 g = none from ⟨hd3, he3, fun g hg => (hn3 g hg).2⟩)
      obtain ⟨d3, dc3, hdv⟩ := hd3.slice
      obtain ⟨e3, ec3, hev⟩ := he3.slice
      rw [show (S.doo (opR p)).2.data.length = (S.aR p).data.length from rfl] at hdv
      rw [show (S.doo (opR p)).2.ents.length = (S.aR p).ents.length from rfl] at hev
      subst hdv hev
      have hone : oneAll #[.int .i64 (S.aR p).code, .int .i64 (S.aR p).stat.ino, .int .i64 (S.aR p).stat.kind, .int .i64 (S.aR p).stat.links, .int .i64 (S.aR p).stat.size, .int .i64 (S.aR p).stat.made, .int .i64 (S.aR p).stat.blocks, .slice d3 (S.aR p).data.length dc3, .slice e3 (S.aR p).ents.length ec3, .bool false] = true := by simp [oneAll, Value.oneCell']
      have hav : ansV (S.doo (opR p)).2 (.slice d3 (S.aR p).data.length dc3) (.slice e3 (S.aR p).ents.length ec3) = #[.int .i64 (S.aR p).code, .int .i64 (S.aR p).stat.ino, .int .i64 (S.aR p).stat.kind, .int .i64 (S.aR p).stat.links, .int .i64 (S.aR p).stat.size, .int .i64 (S.aR p).stat.made, .int .i64 (S.aR p).stat.blocks, .slice d3 (S.aR p).data.length dc3, .slice e3 (S.aR p).ents.length ec3, .bool false] := rfl
      rw [hav]
      clear hav hmv hp3 hd3 he3 hn3
      go_upto_region 9 with fail
      obtain ⟨g3, hg3⟩ : ∃ x, x = v3.heap.size := ⟨_, rfl⟩
      obtain ⟨u3, hu3⟩ : ∃ x, x = v3.alloc (.cells #[.int .i64 (S.aR p).code, .int .i64 (S.aR p).stat.ino, .int .i64 (S.aR p).stat.kind, .int .i64 (S.aR p).stat.links, .int .i64 (S.aR p).stat.size, .int .i64 (S.aR p).stat.made, .int .i64 (S.aR p).stat.blocks, .slice d3 (S.aR p).data.length dc3, .slice e3 (S.aR p).ents.length ec3, .bool false] 37) := ⟨_, rfl⟩
      have HT := Lib.hid (HT.out.setD HDE3.out.1 (fun g hg => HDE3.out.2.2 g (.inl hg)))
      have HT := Lib.hid (HT.out.box (show Fr [] v3 u3 by rw [hu3]; exact fr_new _ _ _) (show hat u3 g3 = some (.cells #[.int .i64 (S.aR p).code, .int .i64 (S.aR p).stat.ino, .int .i64 (S.aR p).stat.kind, .int .i64 (S.aR p).stat.links, .int .i64 (S.aR p).stat.size, .int .i64 (S.aR p).stat.made, .int .i64 (S.aR p).stat.blocks, .slice d3 (S.aR p).data.length dc3, .slice e3 (S.aR p).ents.length ec3, .bool false] 37) by rw [hu3, hg3]; exact (hopN v3 _).1) (by omega))
      rw [← hu3, ← hg3]
      clear hu3 hg3 hone
      have hcx : cellOf (off + i) (hat u3 g) = some (.string p) := pathCell HT.out HPK.out
      have hgl : g < u3.heap.size := HT.out.p.r.lt g rfl
      have HT := Lib.hid (HT.out.fr (fr_drew (Fr.refl [] u3)))
      have HRS := Lib.hid (fun (W : World) (ow : Nat → Option (Int × Nat)) (hh : Tell w W gp bn own S ow [(g3, #[.int .i64 (S.aR p).code, .int .i64 (S.aR p).stat.ino, .int .i64 (S.aR p).stat.kind, .int .i64 (S.aR p).stat.links, .int .i64 (S.aR p).stat.size, .int .i64 (S.aR p).stat.made, .int .i64 (S.aR p).stat.blocks, .slice d3 (S.aR p).data.length dc3, .slice e3 (S.aR p).ents.length ec3, .bool false]), (g2, #[.int .i64 (S.aL p).code, .int .i64 (S.aL p).stat.ino, .int .i64 (S.aL p).stat.kind, .int .i64 (S.aL p).stat.links, .int .i64 (S.aL p).stat.size, .int .i64 (S.aL p).stat.made, .int .i64 (S.aL p).stat.blocks, .slice d2 (S.aL p).data.length dc2, .slice e2 (S.aL p).ents.length ec2, .bool false]), (g1, #[.int .i64 (S.aS p).code, .int .i64 (S.aS p).stat.ino, .int .i64 (S.aS p).stat.kind, .int .i64 (S.aS p).stat.links, .int .i64 (S.aS p).stat.size, .int .i64 (S.aS p).stat.made, .int .i64 (S.aS p).stat.blocks, .slice d1 (S.aS p).data.length dc1, .slice e1 (S.aS p).ents.length ec1, .bool false])] (.slice (some ⟨g, off, none⟩) ps.length c) (some g) ps (.slice d3 (S.aR p).data.length dc3) od3 (S.aR p).data (.slice e2 (S.aL p).ents.length ec2) oe2 (S.aL p).ents) => regS hh HPK.out (.tail _ (.tail _ (.head _))) (.head _) HBR.out.2.2.2.2.2.2.2.1)
      have sn := HRS.out _ _ HT.out
      have HN0 := Lib.hid (fun W => numZ_any (n := (S.aS p).stat.ino) (by have := HBS.out.1; unfold PS.aS; omega) W)
      have HN1 := Lib.hid (fun W => numZ_any (n := (S.aS p).stat.kind) (by have := HBS.out.2.1; unfold PS.aS; omega) W)
      have HN2 := Lib.hid (fun W => numZ_any (n := (S.aS p).stat.links) (by have := HBS.out.2.2.1; unfold PS.aS; omega) W)
      have hps := HPS.out
      have hss := HW.out.s
      have L0 : ¬ 9223372036854775807 < s.size + p.size := by omega
      have N0 := numZ_some (n := (S.aS p).stat.ino) (by have := HBS.out.1; unfold PS.aS; omega)
      have L1 : ¬ 9223372036854775807 < s.size + p.size + (numZ (S.aS p).stat.ino).size := by omega
      have N1 := numZ_some (n := (S.aS p).stat.kind) (by have := HBS.out.2.1; unfold PS.aS; omega)
      have L2 : ¬ 9223372036854775807 < s.size + p.size + (numZ (S.aS p).stat.ino).size + (numZ (S.aS p).stat.kind).size := by omega
      have N2 := numZ_some (n := (S.aS p).stat.links) (by have := HBS.out.2.2.1; unfold PS.aS; omega)
      have L3 : ¬ 9223372036854775807 < s.size + p.size + (numZ (S.aS p).stat.ino).size + (numZ (S.aS p).stat.kind).size + (numZ (S.aS p).stat.links).size := by omega
      have NB : (bytesB (S.aR p).data).size ≤ 131072 := by rw [bytesB_size]; exact HBR.out.2.2.2.2.2.2.1
      have L4 : ¬ 9223372036854775807 < s.size + p.size + (numZ (S.aS p).stat.ino).size + (numZ (S.aS p).stat.kind).size + (numZ (S.aS p).stat.links).size + (bytesB (S.aR p).data).size := by omega
      have L5 : ¬ 9223372036854775807 < s.size + p.size + (numZ (S.aS p).stat.ino).size + (numZ (S.aS p).stat.kind).size + (numZ (S.aS p).stat.links).size + (bytesB (S.aR p).data).size + 1 := by omega
      have hnn : ¬ 9223372036854775807 < 0 := by omega
      clear hcx
      go_region_held3 (fun w' => cellOf (off + i) (hat w' g) = some (.string p) ∧ hat w' g1 = some (.cells #[.int .i64 (S.aS p).code, .int .i64 (S.aS p).stat.ino, .int .i64 (S.aS p).stat.kind, .int .i64 (S.aS p).stat.links, .int .i64 (S.aS p).stat.size, .int .i64 (S.aS p).stat.made, .int .i64 (S.aS p).stat.blocks, .slice d1 (S.aS p).data.length dc1, .slice e1 (S.aS p).ents.length ec1, .bool false] 37) ∧ hat w' g3 = some (.cells #[.int .i64 (S.aR p).code, .int .i64 (S.aR p).stat.ino, .int .i64 (S.aR p).stat.kind, .int .i64 (S.aR p).stat.links, .int .i64 (S.aR p).stat.size, .int .i64 (S.aR p).stat.made, .int .i64 (S.aR p).stat.blocks, .slice d3 (S.aR p).data.length dc3, .slice e3 (S.aR p).ents.length ec3, .bool false] 37) ∧ (convert 34 9 (.slice d3 (S.aR p).data.length dc3)).run Tryd.prog w' = .ok (.string (bytesB (S.aR p).data)) w')
        (first | assumption | exact sn | fail)
        (first
          | (with_reducible refine (HN0.out _).mono ?_; rintro e wn ⟨rfl, hbn⟩; have HT := Lib.hid (HT.out.fr (fr_below hbn [])); have sn := HRS.out _ _ HT.out)
          | (with_reducible refine (HN1.out _).mono ?_; rintro e wn ⟨rfl, hbn⟩; have HT := Lib.hid (HT.out.fr (fr_below hbn [])); have sn := HRS.out _ _ HT.out)
          | (with_reducible refine (HN2.out _).mono ?_; rintro e wn ⟨rfl, hbn⟩; have HT := Lib.hid (HT.out.fr (fr_below hbn [])); have sn := HRS.out _ _ HT.out)
          | fail)
      obtain ⟨w9, rfl⟩ : ∃ x, x = wn := ⟨_, rfl⟩
      obtain ⟨s9, hs9⟩ : ∃ x, x = s ++ p ++ numZ (S.aS p).stat.ino ++ numZ (S.aS p).stat.kind ++ numZ (S.aS p).stat.links ++ bytesB (S.aR p).data ++ ByteArray.mk #[10] := ⟨_, rfl⟩
      have HS9 := Lib.hid (show s9 = s ++ S.rowL p by rw [hs9]; unfold PS.rowL; simp only [ByteArray.append_assoc]; rfl)
      rw [← hs9]
      have HT9 := Lib.hid (HT.out)
      clear hs9 sn HRS hps hss hnn L0 L1 N0 HN0 L2 N1 HN1 L3 N2 HN2 L4 L5 NB hbn hgl hk3 hk0 hk1
      generalize nrm _ (nrm _ (nrm _ _)) = ow9 at HT9
      go_wp2_with fail
      go_loopw [4, 9] (fun v4 v9 wk => ∃ (k : Nat) (qs : List ByteArray) (a : Option Addr) (c : Nat) (ob : Option Nat) (own2 : Nat → Option (Int × Nat)), v4 = .slice a qs.length c ∧ v9 = .int .i64 k ∧ k ≤ (S.aL p).ents.length ∧ Hid (qs = ps ++ (S.kids p).take k) ∧ Hid (Tell w wk gp bn own S own2 [(g3, #[.int .i64 (S.aR p).code, .int .i64 (S.aR p).stat.ino, .int .i64 (S.aR p).stat.kind, .int .i64 (S.aR p).stat.links, .int .i64 (S.aR p).stat.size, .int .i64 (S.aR p).stat.made, .int .i64 (S.aR p).stat.blocks, .slice d3 (S.aR p).data.length dc3, .slice e3 (S.aR p).ents.length ec3, .bool false]), (g2, #[.int .i64 (S.aL p).code, .int .i64 (S.aL p).stat.ino, .int .i64 (S.aL p).stat.kind, .int .i64 (S.aL p).stat.links, .int .i64 (S.aL p).stat.size, .int .i64 (S.aL p).stat.made, .int .i64 (S.aL p).stat.blocks, .slice d2 (S.aL p).data.length dc2, .slice e2 (S.aL p).ents.length ec2, .bool false]), (g1, #[.int .i64 (S.aS p).code, .int .i64 (S.aS p).stat.ino, .int .i64 (S.aS p).stat.kind, .int .i64 (S.aS p).stat.links, .int .i64 (S.aS p).stat.size, .int .i64 (S.aS p).stat.made, .int .i64 (S.aS p).stat.blocks, .slice d1 (S.aS p).data.length dc1, .slice e1 (S.aS p).ents.length ec1, .bool false])] (.slice a qs.length c) ob qs (.slice d3 (S.aR p).data.length dc3) od3 (S.aR p).data (.slice e2 (S.aL p).ents.length ec2) oe2 (S.aL p).ents)) (fun _ v9 _ => (S.aL p).ents.length - (intOf v9).toNat)
      case atStart => exact ⟨0, ps, _, c, some g, _, rfl, rfl, Nat.zero_le _, Lib.hid (by simp), HT9⟩
      case round =>
        obtain ⟨k, qs, a, c, ob, own2, rfl, rfl, hk, HQ, HT⟩ := hrel
        have hb2 := HT.out.boxAt (.tail _ (.head _))
        have hb2l := hat_lt hb2
        by_cases hlt : k < (S.aL p).ents.length
        · have hk1 : (k : Int) < ((S.aL p).ents.length : Int) := by omega
          have hk0 : (0 : Int) ≤ (k : Int) := by omega
          obtain ⟨en, hen⟩ := getElem_opt hlt
          obtain ⟨nm, ei, ek⟩ := en
          have hqi : qs[i]? = some p := by
            rw [HQ.out, List.getElem?_append_left (List.getElem?_eq_some_iff.1 HPK.out).1]
            exact HPK.out
          have hqp : (i : Int) < (qs.length : Int) := by have := (List.getElem?_eq_some_iff.1 hqi).1; omega
          have hi0 : (0 : Int) ≤ (i : Int) := by omega
          obtain ⟨g, off, rfl, rfl⟩ : ∃ g off, a = some ⟨g, off, none⟩ ∧ ob = some g := by
            rcases HT.out.p.r with ⟨-, -, h0⟩ | ⟨g, off, c', cs, e, h2, -⟩
            · omega
            · injection e with e1 e2 e3; exact ⟨g, off, e1, h2⟩
          obtain ⟨ge, offe, rfl, rfl⟩ : ∃ g off, e2 = some ⟨g, off, none⟩ ∧ oe2 = some g := by
            rcases HT.out.e.r with ⟨-, -, h0⟩ | ⟨g, off, c', cs, e, h2, -⟩
            · omega
            · injection e with e1 e2 e3; exact ⟨g, off, e1, h2⟩
          have HTd := Lib.hid (HT.out.fr (fr_drew (Fr.refl [] wr)))
          have hcn : cellOf (offe + k * 3) (hat wr.drew ge) = some (.string nm) := by
            obtain ⟨-, -, cs, h1, h2⟩ := HTd.out.e.r.rowIn
            rw [h1]
            show cs[offe + k * 3]? = _
            rw [h2.f (k * 3) (by omega)]
            unfold entC
            rw [if_pos (by omega), show k * 3 / 3 = k by omega, List.getD_eq_getElem?_getD, hen]
            rfl
          have hcx : cellOf (off + i) (hat wr.drew g) = some (.string p) := pathCell HTd.out hqi
          have hb2d := HTd.out.boxAt (.tail _ (.head _))
          have sn : cellOf (off + i) (hat wr.drew g) = some (.string p) ∧ hat wr.drew g2 = some (.cells #[.int .i64 (S.aL p).code, .int .i64 (S.aL p).stat.ino, .int .i64 (S.aL p).stat.kind, .int .i64 (S.aL p).stat.links, .int .i64 (S.aL p).stat.size, .int .i64 (S.aL p).stat.made, .int .i64 (S.aL p).stat.blocks, .slice d2 (S.aL p).data.length dc2, .slice (some ⟨ge, offe, none⟩) (S.aL p).ents.length ec2, .bool false] 37) ∧ cellOf (offe + k * 3) (hat wr.drew ge) = some (.string nm) := ⟨hcx, hb2d, hcn⟩
          have hnms := HBL.out.2.2.2.2.2.2.2.2.2 _ (List.mem_of_getElem? hen)
          have HBE := Lib.hid (fun W => below_any p nm W (by have h1 := HPS.out; have h2 := hnms.2; simp only at h2; omega))
          have hql : qs.length ≤ 25000000 := by
            rw [HQ.out, List.length_append, List.length_take]
            have h1 := HW.out.l
            have h2 : (S.kids p).length ≤ 1068 := by unfold PS.kids; rw [List.length_map]; exact HBL.out.2.2.2.2.2.2.2.2.1
            omega
          obtain ⟨a3, c3', w3, ob3, hap, hg3r, hf3, hob3, hold3⟩ := push_big HTd.out.p.r hql (belowB p nm) 72
          have HT3 := Lib.hid (HTd.out.push hf3 hg3r hob3)
          have hap' : (Builtin.append_ #[72, 72] 72 #[.slice (some ⟨g, off, none⟩) qs.length c, .slice (some ⟨wr.heap.size, 0, none⟩) 1 1]).run Tryd.prog (wr.alloc (.cells #[.string (belowB p nm)] 9)).drew = .ok (.slice a3 (qs.length + 1) c3') w3 := hap
          have HAP := Lib.hid hap'
          have HS3 := Lib.hid (show cellOf (off + i) (hat w3 g) = some (.string p) ∧ hat w3 g2 = some (.cells #[.int .i64 (S.aL p).code, .int .i64 (S.aL p).stat.ino, .int .i64 (S.aL p).stat.kind, .int .i64 (S.aL p).stat.links, .int .i64 (S.aL p).stat.size, .int .i64 (S.aL p).stat.made, .int .i64 (S.aL p).stat.blocks, .slice d2 (S.aL p).data.length dc2, .slice (some ⟨ge, offe, none⟩) (S.aL p).ents.length ec2, .bool false] 37) ∧ cellOf (offe + k * 3) (hat w3 ge) = some (.string nm) from by
            refine ⟨?_, HT3.out.boxAt (.tail _ (.head _)), ?_⟩
            · rw [hold3 g off c rfl i (by omega)]
              unfold strC
              rw [List.getD_eq_getElem?_getD, hqi]; rfl
            · obtain ⟨-, -, cs, h1, h2⟩ := HT3.out.e.r.rowIn
              rw [h1]
              show cs[offe + k * 3]? = _
              rw [h2.f (k * 3) (by omega)]
              unfold entC
              rw [if_pos (by omega), show k * 3 / 3 = k by omega, List.getD_eq_getElem?_getD, hen]
              rfl)
          have HSA := Lib.hid (show cellOf (off + i) (hat (wr.alloc (.cells #[.string (belowB p nm)] 9)).drew g) = some (.string p) ∧ hat (wr.alloc (.cells #[.string (belowB p nm)] 9)).drew g2 = some (.cells #[.int .i64 (S.aL p).code, .int .i64 (S.aL p).stat.ino, .int .i64 (S.aL p).stat.kind, .int .i64 (S.aL p).stat.links, .int .i64 (S.aL p).stat.size, .int .i64 (S.aL p).stat.made, .int .i64 (S.aL p).stat.blocks, .slice d2 (S.aL p).data.length dc2, .slice (some ⟨ge, offe, none⟩) (S.aL p).ents.length ec2, .bool false] 37) ∧ cellOf (offe + k * 3) (hat (wr.alloc (.cells #[.string (belowB p nm)] 9)).drew ge) = some (.string nm) from by
            have q1 : hat (wr.alloc (.cells #[.string (belowB p nm)] 9)).drew g = hat wr.drew g := (fr_new wr.drew (.cells #[.string (belowB p nm)] 9) []).block g (HTd.out.p.r.lt g rfl) (by simp)
            have q2 : hat (wr.alloc (.cells #[.string (belowB p nm)] 9)).drew g2 = hat wr.drew g2 := (fr_new wr.drew (.cells #[.string (belowB p nm)] 9) []).block g2 (hat_lt hb2d) (by simp)
            have q3 : hat (wr.alloc (.cells #[.string (belowB p nm)] 9)).drew ge = hat wr.drew ge := (fr_new wr.drew (.cells #[.string (belowB p nm)] 9) []).block ge (HTd.out.e.r.lt ge rfl) (by simp)
            rw [q1, q2, q3]
            exact sn)
          have HQ3 := Lib.hid (show qs ++ [belowB p nm] = ps ++ (S.kids p).take (k + 1) by
            have hkk : (S.kids p)[k]? = some (belowB p nm) := by
              unfold PS.kids
              rw [List.getElem?_map, hen]; rfl
            rw [HQ.out, List.append_assoc, List.take_add_one, hkk]; rfl)
          have HKK := Lib.hid hlt
          have hkb : k ≤ 2000 := by have h2 : (S.aL p).ents.length ≤ 1068 := HBL.out.2.2.2.2.2.2.2.2.1; omega
          clear hold3 hap hap' hg3r hf3 hob3 hnms hql hqi hk hen hcn hcx hb2d hlt
          go_wp2_with fail
          go_region_held3 (fun w' => cellOf (off + i) (hat w' g) = some (.string p) ∧ hat w' g2 = some (.cells #[.int .i64 (S.aL p).code, .int .i64 (S.aL p).stat.ino, .int .i64 (S.aL p).stat.kind, .int .i64 (S.aL p).stat.links, .int .i64 (S.aL p).stat.size, .int .i64 (S.aL p).stat.made, .int .i64 (S.aL p).stat.blocks, .slice d2 (S.aL p).data.length dc2, .slice (some ⟨ge, offe, none⟩) (S.aL p).ents.length ec2, .bool false] 37) ∧ cellOf (offe + k * 3) (hat w' ge) = some (.string nm))
            (first | assumption | exact sn | exact HSA.out | exact HS3.out | fail)
            (first
              | (with_reducible refine (HBE.out _).mono ?_; rintro e wn ⟨rfl, rfl⟩)
              | (refine step_append_run _ (by rfl) _ _ 72 (by rfl) _ _ (by rfl) (by rfl) _ _ HAP.out ?_)
              | fail)
          clear sn
          go_wp2_with fail
          go_roundw
          case rel => exact ⟨k + 1, qs ++ [belowB p nm], a3, c3', ob3, _, by rw [List.length_append, List.length_singleton], by go_num, HKK.out, HQ3, Lib.hid (by
            have h3 := HT3.out
            rw [show qs.length + 1 = (qs ++ [belowB p nm]).length from by rw [List.length_append, List.length_singleton]] at h3
            exact h3)⟩
          case measure =>
            have := HKK.out
            show (S.aL p).ents.length - (k + 1) < (S.aL p).ents.length - k
            omega
        · have hke : k = (S.aL p).ents.length := by omega
          have HW2 := Lib.hid (show WT S S.rowL R (i + 1) qs s9 from by
            have h1 := HW.out.step hg H300.out HPK.out (rowL_size hg HPS.out)
            have h2 : qs = ps ++ S.kids p := by
              rw [HQ.out, List.take_of_length_le (by unfold PS.kids; rw [List.length_map]; omega)]
            rw [h2, HS9.out]
            exact h1)
          have hk1 : ¬ (k : Int) < ((S.aL p).ents.length : Int) := by omega
          clear hke hlt
          go_wp2_with fail
          go_roundw
          case rel => exact ⟨i + 1, qs, s9, a, c, ob, own2, rfl, rfl, by go_num, Lib.hid HT.out.bare, HW2⟩
          case measure =>
            have := H300.out
            show 300 - (i + 1) < 300 - i
            omega
    · have hsR := HW.out.stop (by omega)
      subst hsR
      have hss := HW.out.s
      have HI := Lib.hid hi300
      obtain ⟨c9, A9, hp9⟩ := HT.out.t.mv.1
      have HP9 := Lib.hid hp9
      clear hp9 hi300
      by_cases hk : i < ps.length
      · have hk1 : (i : Int) < (ps.length : Int) := by omega
        have hk3 : ¬ (i : Int) < 300 := by omega
        clear hk hlt
        go_wp2_with fail
        go_ret
        exact ⟨by unfold PS.listedT; rw [← HR.out]; rfl, _, HT.out.t.mv⟩
      · have hk1 : ¬ (i : Int) < (ps.length : Int) := by omega
        clear hk hlt
        go_wp2_with fail
        go_ret
        exact ⟨by unfold PS.listedT; rw [← HR.out]; rfl, _, HT.out.t.mv⟩
end Go.Proofs.YteffoihkljkfdaaDoor

/- What is made and taken away again leaves everything as it was: the law's walk. -/
namespace Go.Proofs.YteffoihkljkfdaaDoor
set_option linter.unusedSimpArgs false
set_option linter.unusedVariables false
open Go.RowKit

set_option maxHeartbeats 32000000 in
set_option maxRecDepth 100000 in
theorem plainBack_any {n : Int} (hn : i64ok n) {V : World} {v : Value} {ds : List DeedV} (hds0 : DeedsAt V v ds) {d : DeedV} (hdk : DeedOk d) {qa : Option Addr} {qn qc : Nat} {m : Int} (hm0 : V.cell? ⟨0, 0, none⟩ = some (.int .i64 m)) :
    Calls Tryd.prog 7 #[.int .i64 n, v, .agg #[.int .i64 d.kind, .int .i64 d.a, .int .i64 d.b, .int .i64 d.off, .int .i64 d.n, .slice qa qn qc]] V fun e w' => e = .returned (.bool true) ∧ Below V.heap.size V w' := by
  obtain ⟨W, hW⟩ : ∃ x, x = V.alloc (.cells #[.int .i64 d.kind, .int .i64 d.a, .int .i64 d.b, .int .i64 d.off, .int .i64 d.n, .slice qa qn qc] 54) := ⟨_, rfl⟩
  obtain ⟨g5, hg5⟩ : ∃ x, x = V.heap.size := ⟨_, rfl⟩
  have HV := Lib.hid (show Fr [] V W from by rw [hW]; exact fr_new _ _ _)
  have HD := Lib.hid (show hat W g5 = some (.cells #[.int .i64 d.kind, .int .i64 d.a, .int .i64 d.b, .int .i64 d.off, .int .i64 d.n, .slice qa qn qc] 54) from by rw [hW, hg5]; exact (hopN V _).1)
  have hds := hds0.fr HV.out
  have hm := cell0_fr hm0 (HV.out.un (own := fun _ => none) (by simp)) rfl
  have HDK := Lib.hid hdk
  have hfd : ∀ (x y z : Value) (w : World), (Instr.field 42 (.agg #[x, y, z]) 2).run Tryd.prog w = .ok z w := fun _ _ _ _ => by kernel_rfl
  have hfa : ∀ (x1 x2 x3 x4 x5 x6 x7 x8 x9 x10 : Value) (w : World), (Instr.field 37 (.agg #[x1, x2, x3, x4, x5, x6, x7, x8, x9, x10]) 0).run Tryd.prog w = .ok x1 w := fun _ _ _ _ _ _ _ _ _ _ _ => by kernel_rfl
  clear hds0 hm0 hdk
  have HM := Lib.hid hm
  have H00 := Lib.hid (cell0_lt hm)
  clear hm
  have hone : oneAll #[.int .i64 d.kind, .int .i64 d.a, .int .i64 d.b, .int .i64 d.off, .int .i64 d.n, .slice qa qn qc] = true := by simp [oneAll, Value.oneCell']
  go_enter Tryd.func7, Tryd.ntmps7
  go_upto_region 1 with fail
  rw [← hW, ← hg5]
  clear hW hg5 hone
  go_wp2_with fail
  refine (small_any hn _).mono ?_; rintro e w1 ⟨gp, s, i, rfl, hnew, h3, h11, h10, h129⟩
  obtain ⟨own1, hh1⟩ := Here.new hnew
  have HH1 := Lib.hid (hh1)
  have HSI := Lib.hid (show 3 ≤ i ∧ i ≤ 11 ∧ i + 10 ≤ s ∧ s ≤ i + 129 from ⟨h3, h11, h10, h129⟩)
  have HM1 := Lib.hid (cell0_fr HM.out (HH1.out.u.un (own := fun _ => none) (by simp)) rfl)
  clear hnew hh1
  go_wp2_with fail
  refine (known_any HM1.out).mono ?_; rintro e w2 ⟨rfl, hb2⟩
  have HH2 := Lib.hid (HH1.out.fr (fr_below hb2 []))
  clear hb2 h3 h11 h10 h129 hn
  obtain ⟨da, dc, rfl, hdl, hdx⟩ := hds
  have HDX := Lib.hid hdx
  clear hdx
  go_wp2_with fail
  go_loopw [10] (fun v10 wr => ∃ (k : Nat) (S : PS) (own' : Nat → Option (Int × Nat)), v10 = .int .i64 k ∧ k ≤ ds.length ∧ Hid (Here W wr gp S own') ∧ Hid (Good S)) (fun v10 _ => ds.length - (intOf v10).toNat)
  case atStart => exact ⟨0, newS s i, _, rfl, Nat.zero_le _, HH2, Lib.hid (new_good (by have := HSI.out; unfold badS; omega))⟩
  case round =>
    obtain ⟨k, S, own', rfl, hk, HH, HG⟩ := hrel
    by_cases hlt : k < ds.length
    · have hk1 : (k : Int) < (ds.length : Int) := by omega
      have hk0 : (0 : Int) ≤ (k : Int) := by omega
      obtain ⟨g, o, cs, t, fr, rfl, hg, hsz, hq⟩ := HDX.out (by omega)
      obtain ⟨d, dv, hd, harr, hok, hda⟩ := hq k hlt
      have hgw : hat wr g = some (.cells cs t fr) := (HH.out.u.block g (hat_lt hg) (by simp)).trans hg
      have hgl := hat_lt hgw
      have hld : ∀ (raw : Result Value) (w : World) (T : TypeId) (f : Nat × Nat), ldRow raw 6 (o + k * 6) w (some (.cells cs T f)) = .ok (.agg (deedV d dv)) w := fun raw w T f => by
        rw [ldRow_part (by
          have : (k + 1) * 6 ≤ ds.length * 6 := Nat.mul_le_mul_right _ hlt
          omega), harr]
      have HOP := Lib.hid (fun w' (h : Here W w' gp S own') => op_any hok (DataAt.here h hda) (w := w'))
      have HLT := Lib.hid hlt
      clear hg hsz hq hd harr hok hda hlt
      go_wp2_with fail
      refine (HOP.out _ HH.out).mono ?_; rintro e w3 ⟨dv', rfl, hop, hb3⟩
      have HH3 := Lib.hid (HH.out.fr (fr_below hb3 []))
      have HM3 := Lib.hid (cell0_fr HM.out (HH3.out.u.un (own := fun _ => none) (by simp)) rfl)
      have HO3 := Lib.hid (hop.nrm (w0 := wr))
      clear hop hb3 hld hgw hgl
      go_wp2_with fail
      obtain ⟨bn3, c3, A3, hp3⟩ := HH3.out.p
      refine (do_any hp3 HG.out HO3.out HM3.out).mono ?_; rintro e w4 ⟨own4, av, rfl, ha, hmv⟩
      have HH4 := Lib.hid (HH3.out.moved hmv)
      have HG4 := Lib.hid (doo_good HG.out HO3.out.b)
      clear ha hmv hp3
      go_wp2_with fail
      go_roundw
      case rel => exact ⟨k + 1, _, own4, by go_num, by have := HLT.out; omega, HH4, HG4⟩
      case measure =>
        have := HLT.out
        show ds.length - (k + 1) < ds.length - k
        omega
    · have hk1 : ¬ (k : Int) < (ds.length : Int) := by omega
      clear hlt
      have hd20 : hat wr g5 = some (.cells #[.int .i64 d.kind, .int .i64 d.a, .int .i64 d.b, .int .i64 d.off, .int .i64 d.n, .slice qa qn qc] 54) := (HH.out.u.block g5 (hat_lt HD.out) (by simp)).trans HD.out
      have hl20 := hat_lt hd20
      go_wp2_with fail
      refine (text_any HDK.out.2.1 _).mono ?_; rintro e w20 ⟨rfl, hb20⟩
      have HH := Lib.hid (HH.out.fr (fr_below hb20 []))
      clear hb20 hd20 hl20
      have hd21 : hat w20 g5 = some (.cells #[.int .i64 d.kind, .int .i64 d.a, .int .i64 d.b, .int .i64 d.off, .int .i64 d.n, .slice qa qn qc] 54) := (HH.out.u.block g5 (hat_lt HD.out) (by simp)).trans HD.out
      have hl21 := hat_lt hd21
      go_wp2_with fail
      refine (text_any HDK.out.2.2.1 _).mono ?_; rintro e w21 ⟨rfl, hb21⟩
      have HH := Lib.hid (HH.out.fr (fr_below hb21 []))
      clear hb21 hd21 hl21
      obtain ⟨a, he⟩ : ∃ x, x = textB d.a := ⟨_, rfl⟩
      rw [← he]
      clear he
      obtain ⟨b, he⟩ : ∃ x, x = textB d.b := ⟨_, rfl⟩
      rw [← he]
      clear he
      obtain ⟨bn22, c22, A22, hp22⟩ := HH.out.p
      have HP22 := Lib.hid hp22
      have HM22 := Lib.hid (cell0_fr HM.out (HH.out.u.un (own := fun _ => none) (by simp)) rfl)
      have H022 := Lib.hid (HH.out.n 0 H00.out)
      clear hp22
      go_wp2_with fail
      refine (do_any HP22.out HG.out (o := opN 2 (ByteArray.mk #[47, 122]) emp) (dv := .slice none 0 0) (opAt_nil _ _ _ _ _ _ _ _ _) HM22.out).mono ?_; rintro e w22 ⟨own22, av22, rfl, ha22, hmv⟩
      have HH := Lib.hid (HH.out.moved hmv)
      have HG22 := HG
      have HG := Lib.hid (doo_good (o := opN 2 (ByteArray.mk #[47, 122]) emp) HG.out nil_ok)
      obtain ⟨x1_22, x2_22, x3_22, x4_22, x5_22, x6_22, d1_22, n1_22, c1_22, e1_22, n2_22, c2_22, rfl⟩ := ans_cells ha22
      clear hmv ha22
      obtain ⟨Sa, he⟩ : ∃ x, x = (S.doo (opN 2 (ByteArray.mk #[47, 122]) emp)).1 := ⟨_, rfl⟩
      rw [← he] at HH HG
      have HE22 := Lib.hid he
      clear he
      obtain ⟨xc22, he⟩ : ∃ x, x = (S.doo (opN 2 (ByteArray.mk #[47, 122]) emp)).2.code := ⟨_, rfl⟩
      rw [← he]
      have HC22 := Lib.hid he
      clear he
      clear HE22 HC22 HG22
      obtain ⟨bn23, c23, A23, hp23⟩ := HH.out.p
      have HP23 := Lib.hid hp23
      have HM23 := Lib.hid (cell0_fr HM.out (HH.out.u.un (own := fun _ => none) (by simp)) rfl)
      have H023 := Lib.hid (HH.out.n 0 H00.out)
      clear hp23
      go_wp2_with fail
      refine (do_any HP23.out HG.out (o := opN 5 (ByteArray.mk #[47, 122]) emp) (dv := .slice none 0 0) (opAt_nil _ _ _ _ _ _ _ _ _) HM23.out).mono ?_; rintro e w23 ⟨own23, av23, rfl, ha23, hmv⟩
      have HH := Lib.hid (HH.out.moved hmv)
      have HG23 := HG
      have HG := Lib.hid (doo_good (o := opN 5 (ByteArray.mk #[47, 122]) emp) HG.out nil_ok)
      obtain ⟨x1_23, x2_23, x3_23, x4_23, x5_23, x6_23, d1_23, n1_23, c1_23, e1_23, n2_23, c2_23, rfl⟩ := ans_cells ha23
      clear hmv ha23
      obtain ⟨Sb, he⟩ : ∃ x, x = (Sa.doo (opN 5 (ByteArray.mk #[47, 122]) emp)).1 := ⟨_, rfl⟩
      rw [← he] at HH HG
      have HE23 := Lib.hid he
      clear he
      obtain ⟨xc23, he⟩ : ∃ x, x = (Sa.doo (opN 5 (ByteArray.mk #[47, 122]) emp)).2.code := ⟨_, rfl⟩
      rw [← he]
      have HC23 := Lib.hid he
      clear he
      clear HE23 HC23 HG23
      obtain ⟨bn24, c24, A24, hp24⟩ := HH.out.p
      have HP24 := Lib.hid hp24
      have HM24 := Lib.hid (cell0_fr HM.out (HH.out.u.un (own := fun _ => none) (by simp)) rfl)
      have H024 := Lib.hid (HH.out.n 0 H00.out)
      clear hp24
      go_wp2_with fail
      refine (room_any HP24.out.t HP24.out.o).mono ?_; rintro e w24 ⟨rfl, hb24⟩
      have HH := Lib.hid (HH.out.fr (fr_below hb24 []))
      clear hb24
      obtain ⟨bn25, c25, A25, hp25⟩ := HH.out.p
      have HP25 := Lib.hid hp25
      have HM25 := Lib.hid (cell0_fr HM.out (HH.out.u.un (own := fun _ => none) (by simp)) rfl)
      have H025 := Lib.hid (HH.out.n 0 H00.out)
      clear hp25
      go_wp2_with fail
      refine (listed_any HP25.out HG.out HM25.out H025.out).mono ?_; rintro e w25 ⟨rfl, own25, hmv⟩
      have HH := Lib.hid (HH.out.moved hmv)
      clear hmv
      obtain ⟨L, he⟩ : ∃ x, x = Sb.listedT := ⟨_, rfl⟩
      rw [← he]
      have HL := Lib.hid he.symm
      clear he
      obtain ⟨fz, he⟩ : ∃ x, x = Sb.left := ⟨_, rfl⟩
      rw [← he]
      have HF := Lib.hid he.symm
      have hfz : -1000000 ≤ fz ∧ fz ≤ 1000000 := by rw [he]; exact left_small HG.out
      obtain ⟨hfz0, hfz1⟩ := hfz
      clear he
      have hd26 : hat w25 g5 = some (.cells #[.int .i64 d.kind, .int .i64 d.a, .int .i64 d.b, .int .i64 d.off, .int .i64 d.n, .slice qa qn qc] 54) := (HH.out.u.block g5 (hat_lt HD.out) (by simp)).trans HD.out
      have hl26 := hat_lt hd26
      obtain ⟨bn26, c26, A26, hp26⟩ := HH.out.p
      have HP26 := Lib.hid hp26
      have HM26 := Lib.hid (cell0_fr HM.out (HH.out.u.un (own := fun _ => none) (by simp)) rfl)
      have H026 := Lib.hid (HH.out.n 0 H00.out)
      clear hp26
      go_wp2_with fail
      refine (pick_any HDK.out.1 (by omega) _).mono ?_; rintro e w ⟨rfl, rfl⟩
      obtain ⟨hk0, hk1⟩ := pickZ_lt d.kind (n := 2) (by omega)
      obtain ⟨k, he⟩ : ∃ x, x = pickZ d.kind 2 := ⟨_, rfl⟩
      rw [← he] at hk0 hk1 ⊢
      have HK := Lib.hid he.symm
      clear he hd26 hl26
      go_wp2_with fail
      refine (do_any HP26.out HG.out (o := opN (1 + k) a emp) (dv := .slice none 0 0) (opAt_nil _ _ _ _ _ _ _ _ _) HM26.out).mono ?_; rintro e w26 ⟨own26, av26, rfl, ha26, hmv⟩
      have HH := Lib.hid (HH.out.moved hmv)
      have HG26 := HG
      have HG := Lib.hid (doo_good (o := opN (1 + k) a emp) HG.out nil_ok)
      obtain ⟨x1_26, x2_26, x3_26, x4_26, x5_26, x6_26, d1_26, n1_26, c1_26, e1_26, n2_26, c2_26, rfl⟩ := ans_cells ha26
      clear hmv ha26
      obtain ⟨Sc, he⟩ : ∃ x, x = (Sb.doo (opN (1 + k) a emp)).1 := ⟨_, rfl⟩
      rw [← he] at HH HG
      have HE26 := Lib.hid he
      clear he
      obtain ⟨xc26, he⟩ : ∃ x, x = (Sb.doo (opN (1 + k) a emp)).2.code := ⟨_, rfl⟩
      rw [← he]
      have HC26 := Lib.hid he
      clear he
      have hone : oneAll #[.int .i64 xc26, .int .i64 x1_26, .int .i64 x2_26, .int .i64 x3_26, .int .i64 x4_26, .int .i64 x5_26, .int .i64 x6_26, .slice d1_26 n1_26 c1_26, .slice e1_26 n2_26 c2_26, .bool false] = true := by simp [oneAll, Value.oneCell']
      go_upto_region 15 with fail
      obtain ⟨g15, hga⟩ : ∃ x, x = w26.heap.size := ⟨_, rfl⟩
      obtain ⟨w27, hw⟩ : ∃ x, x = w26.alloc (.cells #[.int .i64 xc26, .int .i64 x1_26, .int .i64 x2_26, .int .i64 x3_26, .int .i64 x4_26, .int .i64 x5_26, .int .i64 x6_26, .slice d1_26 n1_26 c1_26, .slice e1_26 n2_26 c2_26, .bool false] 37) := ⟨_, rfl⟩
      have KA := Lib.hid (show Kpt w27 (nrm w26 own26) g15 (.cells #[.int .i64 xc26, .int .i64 x1_26, .int .i64 x2_26, .int .i64 x3_26, .int .i64 x4_26, .int .i64 x5_26, .int .i64 x6_26, .slice d1_26 n1_26 c1_26, .slice e1_26 n2_26 c2_26, .bool false] 37) from by rw [hw, hga]; exact Kpt.new _ _ _)
      have hf : Fr [] w26 w27 := by rw [hw]; exact fr_new _ _ _
      have HH := Lib.hid (HH.out.fr hf)
      rw [← hw, ← hga]
      clear hw hga hone hf
      have ha15 := KA.out.h
      have hl15 := hat_lt ha15
      go_upto_if 71 with fail
      go_cut [] from 19 (fun wx => Mid W wx gp L)
      case first =>
        clear ha15 hl15
        by_cases hc : xc26 = 0
        · subst hc
          obtain ⟨hb1, hb2, hb3, hb4⟩ := back1 HG26.out ⟨hk0, hk1⟩ HC26.out.symm
          rw [← HE26.out] at hb1 hb2 hb3 hb4
          have HB2 := Lib.hid hb2
          have HB3 := Lib.hid hb3
          have HB4 := Lib.hid hb4
          rw [HF.out] at hb1
          clear hb2 hb3 hb4
          obtain ⟨bn27, c27, A27, hp27⟩ := HH.out.p
          have HP27 := Lib.hid hp27
          have HM27 := Lib.hid (cell0_fr HM.out (HH.out.u.un (own := fun _ => none) (by simp)) rfl)
          have H027 := Lib.hid (HH.out.n 0 H00.out)
          clear hp27
          go_wp2_with fail
          refine (room_any HP27.out.t HP27.out.o).mono ?_; rintro e w28 ⟨rfl, hb27⟩
          have HH := Lib.hid (HH.out.fr (fr_below hb27 []))
          clear hb27
          rw [hb1]
          clear hb1
          have hd28 : hat w28 g5 = some (.cells #[.int .i64 d.kind, .int .i64 d.a, .int .i64 d.b, .int .i64 d.off, .int .i64 d.n, .slice qa qn qc] 54) := (HH.out.u.block g5 (hat_lt HD.out) (by simp)).trans HD.out
          have hl28 := hat_lt hd28
          obtain ⟨bn28, c28, A28, hp28⟩ := HH.out.p
          have HP28 := Lib.hid hp28
          have HM28 := Lib.hid (cell0_fr HM.out (HH.out.u.un (own := fun _ => none) (by simp)) rfl)
          have H028 := Lib.hid (HH.out.n 0 H00.out)
          clear hp28
          go_wp2_with fail
          refine (pick_any HDK.out.1 (by omega) _).mono ?_; rintro e w ⟨rfl, rfl⟩
          rw [HK.out]
          clear hd28 hl28
          go_wp2_with fail
          refine (do_any HP28.out HG.out (o := opN (4 + k) a emp) (dv := .slice none 0 0) (opAt_nil _ _ _ _ _ _ _ _ _) HM28.out).mono ?_; rintro e w29 ⟨own28, av28, rfl, ha28, hmv⟩
          have HH := Lib.hid (HH.out.moved hmv)
          have HG28 := HG
          have HG := Lib.hid (doo_good (o := opN (4 + k) a emp) HG.out nil_ok)
          obtain ⟨x1_28, x2_28, x3_28, x4_28, x5_28, x6_28, d1_28, n1_28, c1_28, e1_28, n2_28, c2_28, rfl⟩ := ans_cells ha28
          clear hmv ha28
          obtain ⟨Sd, he⟩ : ∃ x, x = (Sc.doo (opN (4 + k) a emp)).1 := ⟨_, rfl⟩
          rw [← he] at HH HG
          have HE28 := Lib.hid he
          clear he
          obtain ⟨xc28, he⟩ : ∃ x, x = (Sc.doo (opN (4 + k) a emp)).2.code := ⟨_, rfl⟩
          rw [← he]
          have HC28 := Lib.hid he
          clear he
          obtain rfl : xc28 = 0 := HC28.out.trans HB2.out
          have HL := Lib.hid (show Sd.listedT = L from by rw [HE28.out, HB3.out]; exact HL.out)
          have HF := Lib.hid (show Sd.left = fz from by rw [HE28.out, HB4.out]; exact HF.out)
          clear HE28 HC28 HG28 HB2 HB3 HB4
          obtain ⟨bn29, c29, A29, hp29⟩ := HH.out.p
          have HP29 := Lib.hid hp29
          have HM29 := Lib.hid (cell0_fr HM.out (HH.out.u.un (own := fun _ => none) (by simp)) rfl)
          have H029 := Lib.hid (HH.out.n 0 H00.out)
          clear hp29
          go_wp2_with fail
          refine (listed_any HP29.out HG.out HM29.out H029.out).mono ?_; rintro e w30 ⟨rfl, own29, hmv⟩
          have HH := Lib.hid (HH.out.moved hmv)
          clear hmv
          rw [HL.out]
          obtain ⟨bn30, c30, A30, hp30⟩ := HH.out.p
          have HP30 := Lib.hid hp30
          have HM30 := Lib.hid (cell0_fr HM.out (HH.out.u.un (own := fun _ => none) (by simp)) rfl)
          have H030 := Lib.hid (HH.out.n 0 H00.out)
          clear hp30
          go_wp2_with fail
          refine (room_any HP30.out.t HP30.out.o).mono ?_; rintro e w31 ⟨rfl, hb30⟩
          have HH := Lib.hid (HH.out.fr (fr_below hb30 []))
          clear hb30
          rw [HF.out]
          go_wp2_with fail
          go_meet
          case rel => exact ⟨_, _, HH, HG, HL⟩
        · have hS : Sc = Sb := HE26.out.trans (doo_same (.inl fun h => hc (HC26.out.trans h)))
          rw [hS] at HH HG
          go_wp2_with fail
          go_meet
          case rel => exact ⟨_, _, HH, HG, HL⟩
      case rest =>
        obtain ⟨S3, own3, HH, HG, HL⟩ := hcut
        clear KA HE26 HC26 HG26 HF hfz0 hfz1 HK hk0 hk1 ha15 hl15 HD
        obtain ⟨bn31, c31, A31, hp31⟩ := HH.out.p
        have HP31 := Lib.hid hp31
        have HM31 := Lib.hid (cell0_fr HM.out (HH.out.u.un (own := fun _ => none) (by simp)) rfl)
        have H031 := Lib.hid (HH.out.n 0 H00.out)
        clear hp31
        go_wp2_with fail
        refine (do_any HP31.out HG.out (o := opN 3 a b) (dv := .slice none 0 0) (opAt_nil _ _ _ _ _ _ _ _ _) HM31.out).mono ?_; rintro e w32 ⟨own31, av31, rfl, ha31, hmv⟩
        have HH := Lib.hid (HH.out.moved hmv)
        have HG31 := HG
        have HG := Lib.hid (doo_good (o := opN 3 a b) HG.out nil_ok)
        obtain ⟨x1_31, x2_31, x3_31, x4_31, x5_31, x6_31, d1_31, n1_31, c1_31, e1_31, n2_31, c2_31, rfl⟩ := ans_cells ha31
        clear hmv ha31
        obtain ⟨Se, he⟩ : ∃ x, x = (S3.doo (opN 3 a b)).1 := ⟨_, rfl⟩
        rw [← he] at HH HG
        have HE31 := Lib.hid he
        clear he
        obtain ⟨xc31, he⟩ : ∃ x, x = (S3.doo (opN 3 a b)).2.code := ⟨_, rfl⟩
        rw [← he]
        have HC31 := Lib.hid he
        clear he
        have hone : oneAll #[.int .i64 xc31, .int .i64 x1_31, .int .i64 x2_31, .int .i64 x3_31, .int .i64 x4_31, .int .i64 x5_31, .int .i64 x6_31, .slice d1_31 n1_31 c1_31, .slice e1_31 n2_31 c2_31, .bool false] = true := by simp [oneAll, Value.oneCell']
        go_upto_region 19 with fail
        obtain ⟨g16, hga⟩ : ∃ x, x = w32.heap.size := ⟨_, rfl⟩
        obtain ⟨w33, hw⟩ : ∃ x, x = w32.alloc (.cells #[.int .i64 xc31, .int .i64 x1_31, .int .i64 x2_31, .int .i64 x3_31, .int .i64 x4_31, .int .i64 x5_31, .int .i64 x6_31, .slice d1_31 n1_31 c1_31, .slice e1_31 n2_31 c2_31, .bool false] 37) := ⟨_, rfl⟩
        have KA := Lib.hid (show Kpt w33 (nrm w32 own31) g16 (.cells #[.int .i64 xc31, .int .i64 x1_31, .int .i64 x2_31, .int .i64 x3_31, .int .i64 x4_31, .int .i64 x5_31, .int .i64 x6_31, .slice d1_31 n1_31 c1_31, .slice e1_31 n2_31 c2_31, .bool false] 37) from by rw [hw, hga]; exact Kpt.new _ _ _)
        have hf : Fr [] w32 w33 := by rw [hw]; exact fr_new _ _ _
        have HH := Lib.hid (HH.out.fr hf)
        rw [← hw, ← hga]
        clear hw hga hone hf
        go_cut [124] from 19 (fun v124 wx => v124 = .bool false ∧ Mid W wx gp L)
        case first =>
          have ha16 := KA.out.h
          have hl16 := hat_lt ha16
          by_cases hc : xc31 = 0
          · subst hc
            obtain ⟨hb1, hb2⟩ := back2 HG31.out HC31.out.symm
            rw [← HE31.out] at hb1 hb2
            have HB1 := Lib.hid hb1
            have HB2 := Lib.hid hb2
            clear hb1 hb2
            obtain ⟨bn32, c32, A32, hp32⟩ := HH.out.p
            have HP32 := Lib.hid hp32
            have HM32 := Lib.hid (cell0_fr HM.out (HH.out.u.un (own := fun _ => none) (by simp)) rfl)
            have H032 := Lib.hid (HH.out.n 0 H00.out)
            clear hp32
            go_wp2_with fail
            refine (do_any HP32.out HG.out (o := opN 4 b emp) (dv := .slice none 0 0) (opAt_nil _ _ _ _ _ _ _ _ _) HM32.out).mono ?_; rintro e w34 ⟨own32, av32, rfl, ha32, hmv⟩
            have HH := Lib.hid (HH.out.moved hmv)
            have HG32 := HG
            have HG := Lib.hid (doo_good (o := opN 4 b emp) HG.out nil_ok)
            obtain ⟨x1_32, x2_32, x3_32, x4_32, x5_32, x6_32, d1_32, n1_32, c1_32, e1_32, n2_32, c2_32, rfl⟩ := ans_cells ha32
            clear hmv ha32
            obtain ⟨Sf, he⟩ : ∃ x, x = (Se.doo (opN 4 b emp)).1 := ⟨_, rfl⟩
            rw [← he] at HH HG
            have HE32 := Lib.hid he
            clear he
            obtain ⟨xc32, he⟩ : ∃ x, x = (Se.doo (opN 4 b emp)).2.code := ⟨_, rfl⟩
            rw [← he]
            have HC32 := Lib.hid he
            clear he
            obtain rfl : xc32 = 0 := HC32.out.trans HB1.out
            have HL := Lib.hid (show Sf.listedT = L from by rw [HE32.out, HB2.out]; exact HL.out)
            clear HE32 HC32 HG32 HB1 HB2 ha16 hl16
            obtain ⟨bn33, c33, A33, hp33⟩ := HH.out.p
            have HP33 := Lib.hid hp33
            have HM33 := Lib.hid (cell0_fr HM.out (HH.out.u.un (own := fun _ => none) (by simp)) rfl)
            have H033 := Lib.hid (HH.out.n 0 H00.out)
            clear hp33
            go_wp2_with fail
            refine (listed_any HP33.out HG.out HM33.out H033.out).mono ?_; rintro e w35 ⟨rfl, own33, hmv⟩
            have HH := Lib.hid (HH.out.moved hmv)
            clear hmv
            rw [HL.out]
            go_wp2_with fail
            go_meet
            case rel => exact ⟨rfl, _, _, HH, HG, HL⟩
          · have hS : Se = S3 := HE31.out.trans (doo_same (.inl fun h => hc (HC31.out.trans h)))
            rw [hS] at HH HG
            go_wp2_with fail
            go_meet
            case rel => exact ⟨rfl, _, _, HH, HG, HL⟩
        case rest =>
          obtain ⟨rfl, S4, own4, HH, HG, HL⟩ := hcut
          clear KA HE31 HC31 HG31
          obtain ⟨bn34, c34, A34, hp34⟩ := HH.out.p
          have HP34 := Lib.hid hp34
          have HM34 := Lib.hid (cell0_fr HM.out (HH.out.u.un (own := fun _ => none) (by simp)) rfl)
          have H034 := Lib.hid (HH.out.n 0 H00.out)
          clear hp34
          go_wp2_with fail
          refine (do_any HP34.out HG.out (o := opN 10 b emp) (dv := .slice none 0 0) (opAt_nil _ _ _ _ _ _ _ _ _) HM34.out).mono ?_; rintro e w36 ⟨own34, av34, rfl, ha34, hmv⟩
          have HH := Lib.hid (HH.out.moved hmv)
          have HG34 := HG
          have HG := Lib.hid (doo_good (o := opN 10 b emp) HG.out nil_ok)
          obtain ⟨x1_34, x2_34, x3_34, x4_34, x5_34, x6_34, d1_34, n1_34, c1_34, e1_34, n2_34, c2_34, rfl⟩ := ans_cells ha34
          clear hmv ha34
          obtain ⟨Sg, he⟩ : ∃ x, x = (S4.doo (opN 10 b emp)).1 := ⟨_, rfl⟩
          rw [← he] at HH HG
          have HE34 := Lib.hid he
          clear he
          obtain ⟨xc34, he⟩ : ∃ x, x = (S4.doo (opN 10 b emp)).2.code := ⟨_, rfl⟩
          rw [← he]
          have HC34 := Lib.hid he
          clear he
          have hone : oneAll #[.int .i64 xc34, .int .i64 x1_34, .int .i64 x2_34, .int .i64 x3_34, .int .i64 x4_34, .int .i64 x5_34, .int .i64 x6_34, .slice d1_34 n1_34 c1_34, .slice e1_34 n2_34 c2_34, .bool false] = true := by simp [oneAll, Value.oneCell']
          go_upto_region 22 with fail
          obtain ⟨g17, hga⟩ : ∃ x, x = w36.heap.size := ⟨_, rfl⟩
          obtain ⟨w37, hw⟩ : ∃ x, x = w36.alloc (.cells #[.int .i64 xc34, .int .i64 x1_34, .int .i64 x2_34, .int .i64 x3_34, .int .i64 x4_34, .int .i64 x5_34, .int .i64 x6_34, .slice d1_34 n1_34 c1_34, .slice e1_34 n2_34 c2_34, .bool false] 37) := ⟨_, rfl⟩
          have KT := Lib.hid (show Kpt w37 (nrm w36 own34) g17 (.cells #[.int .i64 xc34, .int .i64 x1_34, .int .i64 x2_34, .int .i64 x3_34, .int .i64 x4_34, .int .i64 x5_34, .int .i64 x6_34, .slice d1_34 n1_34 c1_34, .slice e1_34 n2_34 c2_34, .bool false] 37) from by rw [hw, hga]; exact Kpt.new _ _ _)
          have hf : Fr [] w36 w37 := by rw [hw]; exact fr_new _ _ _
          have HH := Lib.hid (HH.out.fr hf)
          rw [← hw, ← hga]
          clear hw hga hone hf
          have hS : Sg = S4 := HE34.out.trans (doo_same (.inr (by show (9 : Int) ≤ 10; omega)))
          rw [hS] at HH HG
          clear HE34 HG34 hS
          obtain ⟨bn35, c35, A35, hp35⟩ := HH.out.p
          have HP35 := Lib.hid hp35
          have HM35 := Lib.hid (cell0_fr HM.out (HH.out.u.un (own := fun _ => none) (by simp)) rfl)
          have H035 := Lib.hid (HH.out.n 0 H00.out)
          clear hp35
          go_wp2_with fail
          refine (do_any HP35.out HG.out (o := opN 6 a b) (dv := .slice none 0 0) (opAt_nil _ _ _ _ _ _ _ _ _) HM35.out).mono ?_; rintro e w38 ⟨own35, av35, rfl, ha35, hmv⟩
          have HH := Lib.hid (HH.out.moved hmv)
          have KT := Lib.hid (KT.out.moved hmv)
          have HG35 := HG
          have HG := Lib.hid (doo_good (o := opN 6 a b) HG.out nil_ok)
          obtain ⟨x1_35, x2_35, x3_35, x4_35, x5_35, x6_35, d1_35, n1_35, c1_35, e1_35, n2_35, c2_35, rfl⟩ := ans_cells ha35
          clear hmv ha35
          obtain ⟨Sh, he⟩ : ∃ x, x = (S4.doo (opN 6 a b)).1 := ⟨_, rfl⟩
          rw [← he] at HH HG
          have HE35 := Lib.hid he
          clear he
          obtain ⟨xc35, he⟩ : ∃ x, x = (S4.doo (opN 6 a b)).2.code := ⟨_, rfl⟩
          rw [← he]
          have HC35 := Lib.hid he
          clear he
          have hone : oneAll #[.int .i64 xc35, .int .i64 x1_35, .int .i64 x2_35, .int .i64 x3_35, .int .i64 x4_35, .int .i64 x5_35, .int .i64 x6_35, .slice d1_35 n1_35 c1_35, .slice e1_35 n2_35 c2_35, .bool false] = true := by simp [oneAll, Value.oneCell']
          go_upto_region 23 with fail
          obtain ⟨g18, hga⟩ : ∃ x, x = w38.heap.size := ⟨_, rfl⟩
          obtain ⟨w39, hw⟩ : ∃ x, x = w38.alloc (.cells #[.int .i64 xc35, .int .i64 x1_35, .int .i64 x2_35, .int .i64 x3_35, .int .i64 x4_35, .int .i64 x5_35, .int .i64 x6_35, .slice d1_35 n1_35 c1_35, .slice e1_35 n2_35 c2_35, .bool false] 37) := ⟨_, rfl⟩
          have KM := Lib.hid (show Kpt w39 (nrm w38 own35) g18 (.cells #[.int .i64 xc35, .int .i64 x1_35, .int .i64 x2_35, .int .i64 x3_35, .int .i64 x4_35, .int .i64 x5_35, .int .i64 x6_35, .slice d1_35 n1_35 c1_35, .slice e1_35 n2_35 c2_35, .bool false] 37) from by rw [hw, hga]; exact Kpt.new _ _ _)
          have hf : Fr [] w38 w39 := by rw [hw]; exact fr_new _ _ _
          have HH := Lib.hid (HH.out.fr hf)
          have KT := Lib.hid (KT.out.fr hf)
          rw [← hw, ← hga]
          clear hw hga hone hf
          have hT := KT.out.h
          have lT := hat_lt hT
          have hM := KM.out.h
          have lM := hat_lt hM
          by_cases hm : xc35 = 0
          · subst hm
            by_cases ht : xc34 = 110
            · subst ht
              obtain ⟨hb1, hb2⟩ := back3 HG35.out HC35.out.symm HC34.out.symm
              rw [← HE35.out] at hb1 hb2
              have HB1 := Lib.hid hb1
              have HB2 := Lib.hid hb2
              clear hb1 hb2
              obtain ⟨bn36, c36, A36, hp36⟩ := HH.out.p
              have HP36 := Lib.hid hp36
              have HM36 := Lib.hid (cell0_fr HM.out (HH.out.u.un (own := fun _ => none) (by simp)) rfl)
              have H036 := Lib.hid (HH.out.n 0 H00.out)
              clear hp36
              go_wp2_with fail
              refine (do_any HP36.out HG.out (o := opN 6 b a) (dv := .slice none 0 0) (opAt_nil _ _ _ _ _ _ _ _ _) HM36.out).mono ?_; rintro e w40 ⟨own36, av36, rfl, ha36, hmv⟩
              have HH := Lib.hid (HH.out.moved hmv)
              have KT := Lib.hid (KT.out.moved hmv)
              have KM := Lib.hid (KM.out.moved hmv)
              have HG36 := HG
              have HG := Lib.hid (doo_good (o := opN 6 b a) HG.out nil_ok)
              obtain ⟨x1_36, x2_36, x3_36, x4_36, x5_36, x6_36, d1_36, n1_36, c1_36, e1_36, n2_36, c2_36, rfl⟩ := ans_cells ha36
              clear hmv ha36
              obtain ⟨Si, he⟩ : ∃ x, x = (Sh.doo (opN 6 b a)).1 := ⟨_, rfl⟩
              rw [← he] at HH HG
              have HE36 := Lib.hid he
              clear he
              obtain ⟨xc36, he⟩ : ∃ x, x = (Sh.doo (opN 6 b a)).2.code := ⟨_, rfl⟩
              rw [← he]
              have HC36 := Lib.hid he
              clear he
              obtain rfl : xc36 = 0 := HC36.out.trans HB1.out
              have HL := Lib.hid (show Si.listedT = L from by rw [HE36.out, HB2.out]; exact HL.out)
              clear HE36 HC36 HG36 HB1 HB2
              obtain ⟨bn37, c37, A37, hp37⟩ := HH.out.p
              have HP37 := Lib.hid hp37
              have HM37 := Lib.hid (cell0_fr HM.out (HH.out.u.un (own := fun _ => none) (by simp)) rfl)
              have H037 := Lib.hid (HH.out.n 0 H00.out)
              clear hp37
              go_wp2_with fail
              refine (listed_any HP37.out HG.out HM37.out H037.out).mono ?_; rintro e w41 ⟨rfl, own37, hmv⟩
              have HH := Lib.hid (HH.out.moved hmv)
              have KT := Lib.hid (KT.out.moved hmv)
              have KM := Lib.hid (KM.out.moved hmv)
              clear hmv
              rw [HL.out]
              clear hT lT hM lM
              have hT := KT.out.h
              have lT := hat_lt hT
              obtain ⟨bn38, c38, A38, hp38⟩ := HH.out.p
              have HP38 := Lib.hid hp38
              have HM38 := Lib.hid (cell0_fr HM.out (HH.out.u.un (own := fun _ => none) (by simp)) rfl)
              have H038 := Lib.hid (HH.out.n 0 H00.out)
              clear hp38
              go_wp2_with fail
              refine (listed_any HP38.out HG.out HM38.out H038.out).mono ?_; rintro e w42 ⟨rfl, own38, hmv⟩
              have HH := Lib.hid (HH.out.moved hmv)
              have KT := Lib.hid (KT.out.moved hmv)
              have KM := Lib.hid (KM.out.moved hmv)
              clear hmv
              rw [HL.out]
              go_wp2_with fail
              go_ret
              exact ⟨rfl, (HV.out.trans HH.out.u).bl⟩
            · go_wp2_with fail
              go_ret
              exact ⟨rfl, (HV.out.trans HH.out.u).bl⟩
          · have hS : Sh = S4 := HE35.out.trans (doo_same (.inl fun h => hm (HC35.out.trans h)))
            rw [hS] at HH HG
            by_cases ht : xc34 = 110
            · subst ht
              obtain ⟨bn39, c39, A39, hp39⟩ := HH.out.p
              have HP39 := Lib.hid hp39
              have HM39 := Lib.hid (cell0_fr HM.out (HH.out.u.un (own := fun _ => none) (by simp)) rfl)
              have H039 := Lib.hid (HH.out.n 0 H00.out)
              clear hp39
              go_wp2_with fail
              refine (listed_any HP39.out HG.out HM39.out H039.out).mono ?_; rintro e w43 ⟨rfl, own39, hmv⟩
              have HH := Lib.hid (HH.out.moved hmv)
              have KT := Lib.hid (KT.out.moved hmv)
              have KM := Lib.hid (KM.out.moved hmv)
              clear hmv
              rw [HL.out]
              go_wp2_with fail
              go_ret
              exact ⟨rfl, (HV.out.trans HH.out.u).bl⟩
            · go_wp2_with fail
              go_ret
              exact ⟨rfl, (HV.out.trans HH.out.u).bl⟩
end Go.Proofs.YteffoihkljkfdaaDoor
