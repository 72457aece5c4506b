/- A plain file system is as it may be: what the operations keep. -/
import Derived.Test.YteffoihkljkfdaaDoorPop
namespace Go.Proofs.YteffoihkljkfdaaDoor
set_option linter.unusedSimpArgs false
set_option linter.unusedVariables false
open Go.RowKit

/-- a node of S is as it may be -/
structure NWf (S : PS) (n : Nd) : Prop where
  kd : n.kind = 1 ∨ n.kind = 2
  lk : 1 ≤ n.links ∧ n.links ≤ 100
  sz : 0 ≤ n.size ∧ n.size ≤ 136704
  md : 0 ≤ n.made ∧ n.made ≤ 1099511627776
  fl : n.kind = 1 → n.slots = [] ∧ ∀ s, n.names s = none
  dr : n.kind = 2 → (∀ k, n.data k = none) ∧ n.size = 128 * n.slots.length
  nm : ∀ s j, n.names s = some j → s ∈ n.slots ∧ s.size ≤ 40 ∧ 0 < s.size ∧ (S.nodes j).isSome = true
  sn : ∀ s ∈ n.slots, 0 < s.size → (n.names s).isSome = true
  nd : (n.slots.filter fun s => decide (0 < s.size)).Nodup
  db : ∀ k s, n.data k = some s → k * 128 < n.size ∧ (∀ b ∈ s, 0 ≤ b ∧ b < 256) ∧ ∀ j : Nat, n.size ≤ 128 * k + j → s.getD j 0 = 0
structure PWf (S : PS) : Prop where
  root : ∃ n, S.nodes 1 = some n ∧ n.kind = 2
  n : ∀ i n, S.nodes i = some n → NWf S n
theorem PS.nd_some {S : PS} {i : Int} {n : Nd} (h : S.nodes i = some n) : S.nd i = n := by unfold PS.nd; rw [h]; rfl
theorem PS.nd_get {S : PS} {i : Int} (h : (S.nodes i).isSome = true) : S.nodes i = some (S.nd i) := by
  unfold PS.nd
  cases hn : S.nodes i with
  | none => rw [hn] at h; cases h
  | some n => rfl
theorem PS.put_same (S : PS) (i : Int) (o : Option Nd) : (S.put i o).nodes i = o := by show (if i = i then o else _) = o; rw [if_pos rfl]
theorem PS.put_other (S : PS) {i j : Int} (o : Option Nd) (h : j ≠ i) : (S.put i o).nodes j = S.nodes j := by show (if j = i then o else _) = _; rw [if_neg h]
theorem size_pos_ne {s : ByteArray} (h : 0 < s.size) : s ≠ emp := fun e => by rw [e] at h; exact absurd h (by decide)
theorem emp_size : emp.size = 0 := rfl
theorem size_zero {s : ByteArray} (h : s.size = 0) : s = emp := by
  cases s with
  | mk d =>
    show ByteArray.mk d = ByteArray.mk #[]
    rw [show d = #[] from Array.eq_empty_of_size_eq_zero h]
theorem walk_there {S : PS} (hS : PWf S) : ∀ (l : List ByteArray) (i : Int), (S.nodes i).isSome = true → (S.walk l i).2 = 0 → (S.nodes (S.walk l i).1).isSome = true
  | [], i, h, _ => h
  | s :: l, i, h, h2 => by
    unfold PS.walk at h2 ⊢
    split at h2
    · cases h2
    · rename_i hk
      rw [if_neg hk]
      cases hn : (S.nd i).names s with
      | none => rw [hn] at h2; cases h2
      | some j =>
        rw [hn] at h2
        exact walk_there hS l j ((hS.n i _ (PS.nd_get h)).nm s j hn).2.2.2 h2
theorem walk_code (S : PS) : ∀ (l : List ByteArray) (i : Int), ((S.walk l i).2 = 0 ∨ (S.walk l i).2 = 110 ∨ (S.walk l i).2 = 113) ∧ ((S.walk l i).2 ≠ 0 → (S.walk l i).1 = 0)
  | [], i => ⟨.inl rfl, fun h => absurd rfl h⟩
  | s :: l, i => by
    unfold PS.walk
    split
    · exact ⟨.inr (.inr rfl), fun _ => rfl⟩
    · cases hn : (S.nd i).names s with
      | none => exact ⟨.inr (.inl rfl), fun _ => rfl⟩
      | some j => exact walk_code S l j
theorem root_there {S : PS} (hS : PWf S) : (S.nodes 1).isSome = true := by
  obtain ⟨n, h, -⟩ := hS.root
  rw [h]; rfl
theorem last_ok {S : PS} (hS : PWf S) {l : List ByteArray} (h : (S.last l).e = 0) : (S.nodes (S.last l).d).isSome = true ∧ (S.nd (S.last l).d).kind = 2 ∧ (S.last l).name ∈ l := by
  unfold PS.last at h ⊢
  by_cases hl : l = []
  · rw [if_pos hl] at h; cases h
  · rw [if_neg hl] at h ⊢
    simp only at h ⊢
    have h0 : (S.walk l.dropLast 1).2 = 0 := by
      split at h
      · cases h
      · exact h
    refine ⟨walk_there hS _ _ (root_there hS) h0, ?_, ?_⟩
    · by_cases hk : (S.nd (S.walk l.dropLast 1).1).kind = 2
      · exact hk
      · rw [if_pos ⟨h0, hk⟩] at h; cases h
    · cases l with
      | nil => exact absurd rfl hl
      | cons a r => rw [List.getLastD_cons]; exact List.getLastD_mem_cons ..
theorem place_ok {S : PS} {d : Nd} (hd : d.slots.length ≤ 1068) (h : (S.place d).2 = 0) :
    ((S.place d).1 = d.slots.length ∧ d.slots.length < 1068 ∧ emp ∉ d.slots) ∨ ∃ k : Nat, (S.place d).1 = k ∧ k < d.slots.length ∧ d.slots = d.slots.take k ++ emp :: d.slots.drop (k + 1) := by
  unfold PS.place at h ⊢
  by_cases h1 : 0 ≤ Lib.idxOfS d.slots emp
  · rw [if_pos h1]
    right
    have hm := (Lib.idxOfS_nonneg_iff _ _).1 h1
    obtain ⟨k, hk, he, hlt⟩ : ∃ k, k < d.slots.length ∧ d.slots.getD k ByteArray.empty = emp ∧ ∀ j, j < k → d.slots.getD j ByteArray.empty ≠ emp := by
      have hex : ∃ k, k < d.slots.length ∧ d.slots.getD k ByteArray.empty = emp := by
        obtain ⟨k, hk, he⟩ := List.getElem_of_mem hm
        exact ⟨k, hk, by rw [List.getD_eq_getElem?_getD, List.getElem?_eq_getElem hk]; exact he⟩
      have key : ∀ n, (∃ k, k < n ∧ k < d.slots.length ∧ d.slots.getD k ByteArray.empty = emp) → ∃ k, k < d.slots.length ∧ d.slots.getD k ByteArray.empty = emp ∧ ∀ j, j < k → d.slots.getD j ByteArray.empty ≠ emp := by
        intro n
        induction n with
        | zero => rintro ⟨k, h, -⟩; omega
        | succ n ih =>
          rintro ⟨k, hk, h2, h3⟩
          by_cases hb : ∃ k, k < n ∧ k < d.slots.length ∧ d.slots.getD k ByteArray.empty = emp
          · exact ih hb
          · refine ⟨k, h2, h3, fun j hj he => hb ⟨j, by omega, by omega, he⟩⟩
      obtain ⟨k, hk, he⟩ := hex
      exact key (k + 1) ⟨k, by omega, hk, he⟩
    refine ⟨k, ?_, hk, ?_⟩
    · have := Lib.idxOfS_hit d.slots d.slots.length k emp hk (Nat.le_refl _) he hlt
      rw [List.take_length] at this
      exact this
    · have e1 : d.slots[k] = emp := by rw [List.getD_eq_getElem?_getD, List.getElem?_eq_getElem hk] at he; exact he
      rw [← e1, ← List.drop_eq_getElem_cons hk, List.take_append_drop]
  · rw [if_neg h1] at h ⊢
    left
    by_cases h2 : d.slots.length = 1068
    · rw [if_pos h2] at h; cases h
    · rw [if_neg h2] at h ⊢
      split at h
      · cases h
      · rename_i h3
        rw [if_neg h3]
        exact ⟨rfl, by omega, fun hm => h1 ((Lib.idxOfS_nonneg_iff _ _).2 hm)⟩
/-- a directory with an entry more -/
theorem set_wf {S S' : PS} {d : Nd} (h : NWf S d) (hok : NOk d) (hk : d.kind = 2) {k : Int} (hp : (k = d.slots.length ∧ d.slots.length < 1068 ∧ emp ∉ d.slots) ∨ ∃ j : Nat, k = j ∧ j < d.slots.length ∧ d.slots = d.slots.take j ++ emp :: d.slots.drop (j + 1))
    {name : ByteArray} (hn : 0 < name.size ∧ name.size ≤ 40) (hf : d.names name = none) {i : Int} (hi : (S'.nodes i).isSome = true) (hmono : ∀ j, (S.nodes j).isSome = true → (S'.nodes j).isSome = true) : NWf S' (d.set k name i) ∧ NOk (d.set k name i) := by
  obtain ⟨hdat, hsz⟩ := h.dr hk
  have hnot : name ∉ d.slots := fun hm => by
    have := h.sn name hm hn.1
    rw [hf] at this; cases this
  have main : ∀ (sl : List ByteArray) (sz : Int), (∀ s, s ∈ sl ↔ s = name ∨ s ∈ d.slots ∧ (s ≠ emp ∨ s ∈ sl)) → (sl.filter fun s => decide (0 < s.size)).Nodup → sl.length ≤ 1068 → sz = 128 * sl.length →
      NWf S' { d with slots := sl, size := sz, names := d.ins name i } ∧ NOk { d with slots := sl, size := sz, names := d.ins name i } := by
    intro sl sz hmem hnd hlen hszz
    refine ⟨⟨h.kd, h.lk, ⟨by show 0 ≤ sz; omega, by show sz ≤ 136704; omega⟩, h.md, fun h1 => ?_, fun _ => ⟨hdat, hszz⟩, fun s j hs => ?_, fun s hs h0 => ?_, hnd, fun k s hs => ?_⟩, ⟨hok.dk, hok.dl, hlen⟩⟩
    · have h1' : d.kind = 1 := h1
      rw [hk] at h1'; cases h1'
    · have hs' : (if s = name then some i else d.names s) = some j := hs
      by_cases he : s = name
      · rw [if_pos he] at hs'
        cases hs'
        subst he
        exact ⟨(hmem s).2 (.inl rfl), hn.2, hn.1, hi⟩
      · rw [if_neg he] at hs'
        obtain ⟨a1, a2, a3, a4⟩ := h.nm s j hs'
        exact ⟨(hmem s).2 (.inr ⟨a1, .inl (size_pos_ne a3)⟩), a2, a3, hmono j a4⟩
    · show (if s = name then some i else d.names s).isSome = true
      by_cases he : s = name
      · rw [if_pos he]; rfl
      · rw [if_neg he]
        rcases (hmem s).1 hs with h1 | h1
        · exact absurd h1 he
        · exact h.sn s h1.1 h0
    · have := hdat k
      have hs' : d.data k = some s := hs
      rw [this] at hs'; cases hs'
  rcases hp with ⟨rfl, hlt, -⟩ | ⟨j, rfl, hj, hdec⟩
  · have e : d.set d.slots.length name i = { d with slots := d.slots ++ [name], size := (d.slots.length + 1) * 128, names := d.ins name i } := by unfold Nd.set; rw [if_pos rfl]
    rw [e]
    refine main _ _ (fun s => ?_) ?_ (by simp; omega) (by simp; omega)
    · simp only [List.mem_append, List.mem_singleton]
      constructor
      · rintro (h1 | h1)
        · exact .inr ⟨h1, .inr (.inl h1)⟩
        · exact .inl h1
      · rintro (h1 | ⟨h1, -⟩)
        · exact .inr h1
        · exact .inl h1
    · rw [List.filter_append]
      have : [name].filter (fun s => decide (0 < s.size)) = [name] := by simp [hn.1]
      rw [this, List.nodup_append]
      exact ⟨h.nd, by simp, fun a ha b hb => by
        simp at hb
        subst hb
        intro e
        subst e
        exact hnot (List.mem_filter.1 ha).1⟩
  · have hne : ¬ (j : Int) = d.slots.length := by omega
    have e : d.set j name i = { d with slots := d.slots.set j name, size := d.size, names := d.ins name i } := by unfold Nd.set; rw [if_neg hne]; rfl
    rw [e]
    have hset : d.slots.set j name = d.slots.take j ++ name :: d.slots.drop (j + 1) := by rw [List.set_eq_take_append_cons_drop, if_pos hj]
    refine main _ _ (fun s => ?_) ?_ (by rw [List.length_set]; exact hok.sl) (by rw [List.length_set]; exact hsz)
    · rw [hset]
      constructor
      · intro hs
        simp only [List.mem_append, List.mem_cons] at hs
        rcases hs with h1 | h1 | h1
        · exact .inr ⟨by rw [hdec]; simp [h1], .inr (by simp [h1])⟩
        · exact .inl h1
        · exact .inr ⟨by rw [hdec]; simp [h1], .inr (by simp [h1])⟩
      · rintro (rfl | ⟨h1, h2 | h2⟩)
        · simp
        · rw [hdec] at h1
          simp only [List.mem_append, List.mem_cons] at h1 ⊢
          rcases h1 with h1 | h1 | h1
          · exact .inl h1
          · exact absurd h1 h2
          · exact .inr (.inr h1)
        · exact h2
    · rw [hset]
      have hnd := h.nd
      rw [hdec, List.filter_append, List.filter_cons] at hnd
      simp only [emp_size, Nat.lt_irrefl, decide_false] at hnd
      rw [List.filter_append, List.filter_cons]
      simp only [hn.1, decide_true, if_true]
      have hn1 : name ∉ d.slots.take j := fun hm => hnot (List.mem_of_mem_take hm)
      have hn2 : name ∉ d.slots.drop (j + 1) := fun hm => hnot (List.mem_of_mem_drop hm)
      rw [List.nodup_append] at hnd ⊢
      simp only [Bool.false_eq_true, if_false] at hnd
      refine ⟨hnd.1, List.nodup_cons.2 ⟨fun hm => hn2 (List.mem_filter.1 hm).1, hnd.2.1⟩, fun a ha b hb => ?_⟩
      rcases List.mem_cons.1 hb with rfl | hb
      · intro e
        subst e
        exact hn1 (List.mem_filter.1 ha).1
      · exact hnd.2.2 a ha b hb
theorem freeI_ok {S : PS} (h : S.freeI ≠ 0) : 2 ≤ S.freeI ∧ S.freeI ≤ S.inodes ∧ S.nodes S.freeI = none := by
  unfold PS.freeI at h ⊢
  cases hf : (List.range 513).find? (fun (i : Nat) => decide (2 ≤ i) && decide ((i : Int) ≤ S.inodes) && (S.nodes i).isNone) with
  | none => rw [hf] at h; exact absurd rfl h
  | some i =>
    have := List.find?_some hf
    simp at this
    show 2 ≤ ((i : Nat) : Int) ∧ ((i : Nat) : Int) ≤ S.inodes ∧ S.nodes ((i : Nat) : Int) = none
    exact ⟨by omega, this.1.2, this.2⟩
theorem NWf.mono {S S' : PS} {n : Nd} (h : NWf S n) (hm : ∀ j, (S.nodes j).isSome = true → (S'.nodes j).isSome = true) : NWf S' n :=
  ⟨h.kd, h.lk, h.sz, h.md, h.fl, h.dr, fun s j hs => by obtain ⟨a, b, c, d⟩ := h.nm s j hs; exact ⟨a, b, c, hm j d⟩, h.sn, h.nd, h.db⟩
theorem fresh_wf (S : PS) {kind made : Int} (hk : kind = 1 ∨ kind = 2) (hm : 0 ≤ made ∧ made ≤ 1099511627776) : NWf S (freshN kind made) ∧ NOk (freshN kind made) :=
  ⟨⟨hk, ⟨by show (1 : Int) ≤ 1; omega, by show (1 : Int) ≤ 100; omega⟩, ⟨Int.le_refl 0, by show (0 : Int) ≤ _; omega⟩, hm, fun _ => ⟨rfl, fun _ => rfl⟩, fun _ => ⟨fun _ => rfl, rfl⟩, fun s j h => (nomatch h), fun s h => (nomatch h), by simp [freshN], fun k s h => (nomatch h)⟩, ⟨fun k h => (nomatch h), fun k s h => (nomatch h), by show ([] : List ByteArray).length ≤ 1068; simp⟩⟩
/-- a file or a directory more, in a directory -/
theorem make_wf {S : PS} (hO : POk S) (hW : PWf S) {l : List ByteArray} (hl : ∀ s ∈ l, 0 < s.size ∧ s.size ≤ 40) {kind made : Int} (hk : kind = 1 ∨ kind = 2) (hm : 0 ≤ made ∧ made ≤ 1099511627776) : POk (S.make l kind made).1 ∧ PWf (S.make l kind made).1 := by
  unfold PS.make
  split
  · exact ⟨hO, hW⟩
  · rename_i h1
    split
    · exact ⟨hO, hW⟩
    · rename_i h2
      split
      · exact ⟨hO, hW⟩
      · rename_i h3
        split
        · exact ⟨hO, hW⟩
        · rename_i h4
          have h1 : (S.last l).e = 0 := by omega
          have h4 : (S.place (S.nd (S.last l).d)).2 = 0 := by omega
          obtain ⟨a1, a2, a3⟩ := last_ok hW h1
          obtain ⟨b1, b2, b3⟩ := freeI_ok h3
          have hdn := PS.nd_get a1
          generalize hD : (S.last l).d = d at *
          generalize hI : S.freeI = i at *
          have hdi : d ≠ i := fun e => by rw [e, b3] at a1; cases a1
          have h2 : (S.nd d).names (S.last l).name = none := by
            cases hq : (S.nd d).names (S.last l).name with
            | none => rfl
            | some x => rw [hq] at h2; exact absurd rfl h2
          have hT : ∀ j, (((S.put i (some (freshN kind made))).put d (some ((S.nd d).set (S.place (S.nd d)).1 (S.last l).name i))).nodes j) = if j = d then some ((S.nd d).set (S.place (S.nd d)).1 (S.last l).name i) else if j = i then some (freshN kind made) else S.nodes j := fun j => rfl
          have hmono : ∀ j, (S.nodes j).isSome = true → (((S.put i (some (freshN kind made))).put d (some ((S.nd d).set (S.place (S.nd d)).1 (S.last l).name i))).nodes j).isSome = true := fun j hj => by
            rw [hT]
            split
            · rfl
            · split
              · rfl
              · exact hj
          have hset := set_wf (S' := (S.put i (some (freshN kind made))).put d (some ((S.nd d).set (S.place (S.nd d)).1 (S.last l).name i))) (hW.n d _ hdn) (hO.n d _ hdn) a2 (place_ok (hO.n d _ hdn).sl h4) (hl _ a3) h2 (i := i) (by rw [hT, if_neg (Ne.symm hdi), if_pos rfl]; rfl) hmono
          have hfr := fresh_wf ((S.put i (some (freshN kind made))).put d (some ((S.nd d).set (S.place (S.nd d)).1 (S.last l).name i))) hk hm
          refine ⟨⟨hO.s, hO.i, fun j hj => ?_, fun j n hn => ?_⟩, ⟨?_, fun j n hn => ?_⟩⟩
          · rw [hT] at hj
            by_cases hjd : j = d
            · subst hjd; exact hO.k _ a1
            · rw [if_neg hjd] at hj
              by_cases hji : j = i
              · subst hji; exact ⟨by omega, b2⟩
              · rw [if_neg hji] at hj; exact hO.k _ hj
          · rw [hT] at hn
            by_cases hjd : j = d
            · rw [if_pos hjd] at hn; cases hn; exact hset.2
            · rw [if_neg hjd] at hn
              by_cases hji : j = i
              · rw [if_pos hji] at hn; cases hn; exact hfr.2
              · rw [if_neg hji] at hn; exact hO.n _ _ hn
          · obtain ⟨n, hn, hk2⟩ := hW.root
            rw [hT]
            by_cases hjd : (1 : Int) = d
            · rw [if_pos hjd]
              refine ⟨_, rfl, ?_⟩
              unfold Nd.set
              split <;> exact a2
            · rw [if_neg hjd, if_neg (by omega)]
              exact ⟨n, hn, hk2⟩
          · rw [hT] at hn
            by_cases hjd : j = d
            · rw [if_pos hjd] at hn; cases hn; exact hset.1
            · rw [if_neg hjd] at hn
              by_cases hji : j = i
              · rw [if_pos hji] at hn; cases hn; exact hfr.1
              · rw [if_neg hji] at hn; exact (hW.n _ _ hn).mono hmono
end Go.Proofs.YteffoihkljkfdaaDoor
