/- Contracts and laws that the claim leans on, laid together in the order in which they build. -/
import Derived.Test.YthioepdgnbdohaaM05
import Derived.Test.YthioepdgnbdohaaM08

/- Two looks side by side, pointers: plain laws, no program in sight. -/
namespace Go.Proofs.Ythioepdgnbdohaa
set_option linter.unusedSimpArgs false
set_option linter.unusedVariables false
open Go.RowKit

/-- one pointer to a block is tried -/
def tryRow (X Y base : Int) (k : Nat) (p : Int) (st : LS) : Bool × LS :=
  if isD X Y p = true ∧ st.cl p = false then (true, { st with cl := addS st.cl p, bk := putI st.bk (base + k) p }) else (false, st)
/-- one pointer to a table is tried -/
noncomputable def tryTab (X Y : Int) (F : List Int → LS → List Int × Bool × LS) (p : Int) (st : LS) : Bool × LS :=
  if isD X Y p = true ∧ st.cl p = false then tableP F p.toNat { st with cl := addS st.cl p } else (false, st)
/-- a row of pointers, each tried -/
def siftT (T : Nat → Int → LS → Bool × LS) (base step n : Int) : Nat → List Int → LS → List Int × Bool × LS
  | _, [], st => ([], false, st)
  | k, p :: r, st =>
    if p = 0 ∨ n ≤ base + step * k ∨ (T k p st).1 = false then (0 :: (siftT T base step n (k + 1) r st).1, (siftT T base step n (k + 1) r st).2.1, (siftT T base step n (k + 1) r st).2.2)
    else (p :: (siftT T base step n (k + 1) r (T k p st).2).1, true, (siftT T base step n (k + 1) r (T k p st).2).2.2)
theorem siftT_cons (T : Nat → Int → LS → Bool × LS) (base step n : Int) (k : Nat) (p : Int) (r : List Int) (st : LS) : siftT T base step n k (p :: r) st =
    if p = 0 ∨ n ≤ base + step * k ∨ (T k p st).1 = false then (0 :: (siftT T base step n (k + 1) r st).1, (siftT T base step n (k + 1) r st).2.1, (siftT T base step n (k + 1) r st).2.2)
    else (p :: (siftT T base step n (k + 1) r (T k p st).2).1, true, (siftT T base step n (k + 1) r (T k p st).2).2.2) := rfl
theorem siftP_T {goodP : Int → LS → Bool × LS} {keepP : Nat → Int → LS → Bool × LS} {T : Nat → Int → LS → Bool × LS} (base step n : Int)
    (hT : ∀ k p st, T k p st = if (goodP p st).1 = false then (false, (goodP p st).2) else keepP k p (goodP p st).2) (hF : ∀ k p st, (T k p st).1 = false → (T k p st).2 = st) :
    ∀ (ps : List Int) (k : Nat) (st : LS), siftP goodP keepP base step n k ps st = siftT T base step n k ps st
  | [], _, _ => rfl
  | p :: r, k, st => by
    rw [siftP_cons, siftT_cons]
    simp only [siftP_T base step n hT hF r]
    by_cases h0 : p = 0
    · rw [if_pos h0, if_pos (.inl h0)]
    · rw [if_neg h0]
      by_cases h1 : n ≤ base + step * k
      · rw [if_pos h1, if_pos (.inr (.inl h1))]
      · rw [if_neg h1]
        have ht := hT k p st
        by_cases h2 : (goodP p st).1 = false
        · rw [if_pos h2] at ht
          have hf := hF k p st (by rw [ht])
          have e : (goodP p st).2 = st := by rw [ht] at hf; exact hf
          rw [if_pos h2, if_pos (.inr (.inr (by rw [ht]))), e]
        · rw [if_neg h2] at ht
          rw [if_neg h2, ← ht]
          by_cases h3 : (T k p st).1 = false
          · rw [if_pos h3, if_pos (.inr (.inr h3)), hF k p st h3]
          · rw [if_neg h3, if_neg (by rintro (h | h | h) <;> contradiction)]

/-- what was claimed stays as it is -/
def Gr (s s2 : LS) : Prop := ∀ j : Nat, s.cl j = true → s2.cl j = true ∧ s2.fm j = s.fm j ∧ s2.S j = s.S j
theorem Gr.refl (s : LS) : Gr s s := fun _ h => ⟨h, rfl, rfl⟩
theorem Gr.trans {a b c : LS} (h : Gr a b) (h2 : Gr b c) : Gr a c := fun j hj => by
  obtain ⟨h3, h4, h5⟩ := h j hj
  obtain ⟨h6, h7, h8⟩ := h2 j h3
  exact ⟨h6, h7.trans h4, h8.trans h5⟩
/-- what is firm is claimed -/
def FmCl (s : LS) : Prop := ∀ j : Nat, s.fm j = true → s.cl j = true
structure TryOK (T : Int → LS → Bool × LS) : Prop where
  fail : ∀ p s, (T p s).1 = false → (T p s).2 = s
  grow : ∀ p s, Gr s (T p s).2
  fmcl : ∀ p s, FmCl s → FmCl (T p s).2
structure SiftOK (F : List Int → LS → List Int × Bool × LS) : Prop where
  fail : ∀ ps s, (F ps s).2.1 = false → (F ps s).2.2 = s ∧ ∀ i, nth (F ps s).1 i = 0
  grow : ∀ ps s, Gr s (F ps s).2.2
  fmcl : ∀ ps s, FmCl s → FmCl (F ps s).2.2
  sub : ∀ ps s i, nth (F ps s).1 i = nth ps i ∨ nth (F ps s).1 i = 0
  len : ∀ ps s, (F ps s).1.length = ps.length
theorem nth_nil (i : Nat) : nth ([] : List Int) i = 0 := rfl
theorem nth_cons0 (p : Int) (r : List Int) : nth (p :: r) 0 = p := rfl
theorem nth_consS (p : Int) (r : List Int) (i : Nat) : nth (p :: r) (i + 1) = nth r i := rfl
theorem isD_nat {X Y p : Int} (hY : 0 ≤ Y) (h : isD X Y p = true) : (p.toNat : Int) = p ∧ p ≠ 0 := by
  unfold isD at h
  have := of_decide_eq_true h
  omega
theorem addS_self (s : Int → Bool) (p : Int) : addS s p p = true := by simp [addS]
theorem addS_mono {s : Int → Bool} {p q : Int} (h : s q = true) : addS s p q = true := by simp [addS, h]
theorem addS_ne {s : Int → Bool} {p q : Int} (h : q ≠ p) : addS s p q = s q := by simp [addS, h]
theorem del_add {s : Int → Bool} {p : Int} (h : s p = false) : delS (addS s p) p = s := by
  funext q
  unfold delS addS
  by_cases hq : q = p
  · subst hq; simp [h]
  · simp [hq]
theorem updS_eq (S : Nat → List Int) (i : Nat) (a : List Int) : updS S i a i = a := by unfold updS; rw [if_pos rfl]
theorem updS_ne (S : Nat → List Int) {i j : Nat} (a : List Int) (h : j ≠ i) : updS S i a j = S j := by unfold updS; rw [if_neg h]
theorem siftT_ok {T : Nat → Int → LS → Bool × LS} (hT : ∀ k, TryOK (T k)) (base step n : Int) (k0 : Nat) : SiftOK (siftT T base step n k0) := by
  refine ⟨fun ps => ?_, fun ps => ?_, fun ps => ?_, fun ps => ?_, fun ps => ?_⟩
  · induction ps generalizing k0 with
    | nil => intro s _; exact ⟨rfl, fun i => rfl⟩
    | cons p r ih =>
      intro s h
      rw [siftT_cons] at h ⊢
      split at h
      · rename_i hc
        rw [if_pos hc]
        obtain ⟨h1, h2⟩ := ih (k0 + 1) s h
        refine ⟨h1, fun i => ?_⟩
        cases i with
        | zero => rfl
        | succ i => exact h2 i
      · cases h
  · induction ps generalizing k0 with
    | nil => intro s; exact Gr.refl _
    | cons p r ih =>
      intro s
      rw [siftT_cons]
      split
      · exact ih (k0 + 1) s
      · exact ((hT k0).grow p s).trans (ih (k0 + 1) _)
  · induction ps generalizing k0 with
    | nil => intro s h; exact h
    | cons p r ih =>
      intro s h
      rw [siftT_cons]
      split
      · exact ih (k0 + 1) s h
      · exact ih (k0 + 1) _ ((hT k0).fmcl p s h)
  · induction ps generalizing k0 with
    | nil => intro s i; exact .inl rfl
    | cons p r ih =>
      intro s i
      rw [siftT_cons]
      split
      · cases i with
        | zero => exact .inr rfl
        | succ i => exact ih (k0 + 1) s i
      · cases i with
        | zero => exact .inl rfl
        | succ i => exact ih (k0 + 1) _ i
  · induction ps generalizing k0 with
    | nil => intro s; rfl
    | cons p r ih =>
      intro s
      rw [siftT_cons]
      split
      · simp [ih (k0 + 1) s]
      · simp [ih (k0 + 1) (T k0 p s).2]
theorem tryRow_ok (X Y base : Int) (k : Nat) : TryOK (tryRow X Y base k) := by
  refine ⟨fun p s h => ?_, fun p s => ?_, fun p s h => ?_⟩
  · unfold tryRow at h ⊢
    split at h
    · cases h
    · rename_i hc; rw [if_neg hc]
  · unfold tryRow
    split
    · exact fun j hj => ⟨addS_mono hj, rfl, rfl⟩
    · exact Gr.refl _
  · unfold tryRow
    split
    · exact fun j hj => addS_mono (h j hj)
    · exact h
/-- a table that stays -/
theorem tryTab_yes {X Y : Int} {F : List Int → LS → List Int × Bool × LS} {p : Int} {s : LS} (h : (tryTab X Y F p s).1 = true) :
    isD X Y p = true ∧ s.cl p = false ∧ (F (rdPtr (s.S p.toNat)) { s with cl := addS s.cl p }).2.1 = true ∧
    (tryTab X Y F p s).2 = { (F (rdPtr (s.S p.toNat)) { s with cl := addS s.cl p }).2.2 with S := updS (F (rdPtr (s.S p.toNat)) { s with cl := addS s.cl p }).2.2.S p.toNat (ptrR (F (rdPtr (s.S p.toNat)) { s with cl := addS s.cl p }).1).1, fm := addS (F (rdPtr (s.S p.toNat)) { s with cl := addS s.cl p }).2.2.fm p.toNat } := by
  unfold tryTab at h ⊢
  split at h
  · rename_i hc
    rw [if_pos hc]
    unfold tableP at h ⊢
    split at h
    · cases h
    · rename_i hl
      rw [if_neg hl]
      exact ⟨hc.1, hc.2, by simpa using hl, rfl⟩
  · cases h
theorem tryTab_is {X Y : Int} {F : List Int → LS → List Int × Bool × LS} {p : Int} {s : LS} (h1 : isD X Y p = true) (h2 : s.cl p = false) : (tryTab X Y F p s).1 = (F (rdPtr (s.S p.toNat)) { s with cl := addS s.cl p }).2.1 := by
  unfold tryTab
  rw [if_pos ⟨h1, h2⟩]
  unfold tableP
  split
  · rename_i h; exact h.symm
  · rename_i h; simpa using h
theorem tryTab_ok {X Y : Int} (hY : 0 ≤ Y) {F : List Int → LS → List Int × Bool × LS} (hF : SiftOK F) : TryOK (tryTab X Y F) := by
  have hfail : ∀ p s, (tryTab X Y F p s).1 = false → (tryTab X Y F p s).2 = s := by
    intro p s h
    unfold tryTab at h ⊢
    split at h
    · rename_i hc
      rw [if_pos hc]
      unfold tableP at h ⊢
      split at h
      · rename_i hl
        rw [if_pos hl]
        have e := (hF.fail _ _ hl).1
        have hp := (isD_nat hY hc.1).1
        simp only
        rw [e]
        simp only [hp, del_add hc.2]
      · cases h
    · rename_i hc; rw [if_neg hc]
  refine ⟨hfail, fun p s => ?_, fun p s h => ?_⟩
  · cases hb : (tryTab X Y F p s).1 with
    | false => rw [hfail p s hb]; exact Gr.refl _
    | true =>
      obtain ⟨h1, h2, h3, h4⟩ := tryTab_yes hb
      rw [h4]
      obtain ⟨hp, -⟩ := isD_nat hY h1
      intro j hj
      have hjp : (j : Int) ≠ p := fun e => by rw [e, h2] at hj; cases hj
      have hjn : j ≠ p.toNat := fun e => hjp (by rw [e, hp])
      obtain ⟨g1, g2, g3⟩ := hF.grow (rdPtr (s.S p.toNat)) { s with cl := addS s.cl p } j (addS_mono hj)
      refine ⟨g1, ?_, ?_⟩
      · show addS _ _ _ = _
        rw [addS_ne (by rw [hp]; exact hjp)]; exact g2
      · show updS _ _ _ _ = _
        rw [updS_ne _ _ hjn]; exact g3
  · cases hb : (tryTab X Y F p s).1 with
    | false => rw [hfail p s hb]; exact h
    | true =>
      obtain ⟨h1, h2, h3, h4⟩ := tryTab_yes hb
      rw [h4]
      obtain ⟨hp, -⟩ := isD_nat hY h1
      intro j hj
      have hc1 : FmCl { s with cl := addS s.cl p } := fun j hj => addS_mono (h j hj)
      by_cases hjp : (j : Int) = p
      · have := (hF.grow (rdPtr (s.S p.toNat)) { s with cl := addS s.cl p } j (by rw [hjp]; exact addS_self _ _)).1
        exact this
      · have hj2 : addS (F (rdPtr (s.S p.toNat)) { s with cl := addS s.cl p }).2.2.fm p.toNat j = true := hj
        rw [addS_ne (by rw [hp]; exact hjp)] at hj2
        exact hF.fmcl _ _ hc1 j hj2

/-- pointers of a are those of b, or none -/
def subP (a b : List Int) : Prop := ∀ i, nth (rdPtr a) i = nth (rdPtr b) i ∨ nth (rdPtr a) i = 0
/-- two looks side by side: W is what comes of the first one in the end, A what the second one began with -/
structure Sd (X Y : Int) (allw : Prop) (W A : Nat → List Int) (f0 : Int → Bool) (s s' : LS) : Prop where
  cl : s'.cl = s.cl
  fm : s'.fm = s.fm
  bk : s'.bk = s.bk
  S : ∀ j, s'.S j = s.S j ∨ s'.S j = W j
  un : ∀ j : Nat, isD X Y j = true → s.cl j = false → s'.S j = A j ∧ Bytes (s.S j) ∧ (¬ allw → subP (A j) (s.S j))
  f0 : ∀ j : Nat, f0 j = true → s.cl j = true
  fc : FmCl s
/-- what is newly firm is as it is in the end -/
def Pro (allw : Prop) (W A : Nat → List Int) (f0 : Int → Bool) (s : LS) : Prop := ∀ j : Nat, s.fm j = true → f0 j = false → s.S j = W j ∧ (allw → A j = W j)
theorem Pro.back {allw : Prop} {W A : Nat → List Int} {f0 : Int → Bool} {s s2 : LS} (h : Pro allw W A f0 s2) (hg : Gr s s2) (hc : FmCl s) : Pro allw W A f0 s := fun j hj h0 => by
  obtain ⟨h1, h2, h3⟩ := hg j (hc j hj)
  have := h j (by rw [h2]; exact hj) h0
  rw [h3] at this
  exact this
structure SimT (X Y : Int) (allw : Prop) (W A : Nat → List Int) (f0 : Int → Bool) (T : Int → LS → Bool × LS) : Prop where
  yes : ∀ p s s', Sd X Y allw W A f0 s s' → Pro allw W A f0 (T p s).2 → (T p s).1 = true → (T p s').1 = true ∧ Sd X Y allw W A f0 (T p s).2 (T p s').2
  no : ∀ p s s', Sd X Y allw W A f0 s s' → Pro allw W A f0 s → (T p s).1 = false → ¬ allw → (T p s').1 = false
def SimF (X Y : Int) (allw : Prop) (W A : Nat → List Int) (f0 : Int → Bool) (F : List Int → LS → List Int × Bool × LS) : Prop :=
  ∀ ps ps' s s', Sd X Y allw W A f0 s s' → Pro allw W A f0 (F ps s).2.2 → ps'.length = ps.length → (∀ i, (nth ps' i = nth ps i ∨ (nth ps' i = 0 ∧ nth (F ps s).1 i = 0)) ∧ (allw → nth ps' i = nth (F ps s).1 i)) →
    (F ps' s').1 = (F ps s).1 ∧ (F ps' s').2.1 = (F ps s).2.1 ∧ Sd X Y allw W A f0 (F ps s).2.2 (F ps' s').2.2
theorem siftT_sim {X Y : Int} {allw : Prop} {W A : Nat → List Int} {f0 : Int → Bool} {T : Nat → Int → LS → Bool × LS} (hT : ∀ k, TryOK (T k)) (hS : ∀ k, SimT X Y allw W A f0 (T k)) (base step n : Int) (k0 : Nat) : SimF X Y allw W A f0 (siftT T base step n k0) := by
  intro ps
  induction ps generalizing k0 with
  | nil =>
    intro ps' s s' hR hP hl hi
    cases ps' with
    | nil => exact ⟨rfl, rfl, hR⟩
    | cons _ _ => cases hl
  | cons p r ih =>
    intro ps' s s' hR hP hl hi
    cases ps' with
    | nil => cases hl
    | cons p' r' =>
      have hl' : r'.length = r.length := by simpa using hl
      have h0 := hi 0
      have hS' := fun i => hi (i + 1)
      rw [siftT_cons] at hP h0 hS' ⊢
      rw [siftT_cons]
      by_cases hc : p = 0 ∨ n ≤ base + step * k0 ∨ (T k0 p s).1 = false
      · rw [if_pos hc] at hP h0 hS' ⊢
        simp only [nth_cons0, nth_consS] at h0 hS'
        have hc' : p' = 0 ∨ n ≤ base + step * k0 ∨ (T k0 p' s').1 = false := by
          by_cases hp0 : p' = 0
          · exact .inl hp0
          · have hpp : p' = p := by
              rcases h0.1 with h | h
              · exact h
              · exact absurd h.1 hp0
            have hna : ¬ allw := fun ha => hp0 (h0.2 ha)
            subst hpp
            rcases hc with h | h | h
            · exact .inl h
            · exact .inr (.inl h)
            · exact .inr (.inr ((hS k0).no p' s s' hR (hP.back ((siftT_ok hT base step n (k0 + 1)).grow r s) hR.fc) h hna))
        rw [if_pos hc']
        obtain ⟨a1, a2, a3⟩ := ih (k0 + 1) r' s s' hR hP hl' hS'
        exact ⟨by rw [a1], a2, a3⟩
      · rw [if_neg hc] at hP h0 hS' ⊢
        simp only [nth_cons0, nth_consS] at h0 hS'
        have hp0 : p ≠ 0 := fun h => hc (.inl h)
        have hpp : p' = p := by
          rcases h0.1 with h | h
          · exact h
          · exact absurd h.2 hp0
        subst hpp
        have ht : (T k0 p' s).1 = true := by
          cases hb : (T k0 p' s).1 with
          | true => rfl
          | false => exact absurd (.inr (.inr hb)) hc
        have hPm : Pro allw W A f0 (T k0 p' s).2 := hP.back ((siftT_ok hT base step n (k0 + 1)).grow r _) ((hT k0).fmcl p' s hR.fc)
        obtain ⟨b1, b2⟩ := (hS k0).yes p' s s' hR hPm ht
        have hc' : ¬ (p' = 0 ∨ n ≤ base + step * k0 ∨ (T k0 p' s').1 = false) := by
          rintro (h | h | h)
          · exact hp0 h
          · exact hc (.inr (.inl h))
          · rw [b1] at h; cases h
        rw [if_neg hc']
        obtain ⟨a1, a2, a3⟩ := ih (k0 + 1) r' _ _ b2 hP hl' hS'
        exact ⟨by rw [a1], rfl, a3⟩
theorem tryRow_sim (X Y : Int) (allw : Prop) (W A : Nat → List Int) (f0 : Int → Bool) (base : Int) (k : Nat) : SimT X Y allw W A f0 (tryRow X Y base k) := by
  refine ⟨fun p s s' hR hP h => ?_, fun p s s' hR hP h hna => ?_⟩
  · unfold tryRow at h hP ⊢
    split at h
    · rename_i hc
      rw [if_pos hc] at hP ⊢
      rw [if_pos (by rw [hR.cl]; exact hc)]
      refine ⟨rfl, by show addS s'.cl p = addS s.cl p; rw [hR.cl], hR.fm, by show putI s'.bk _ _ = putI s.bk _ _; rw [hR.bk], hR.S, fun j hj hcj => hR.un j hj ?_, fun j hj => addS_mono (hR.f0 j hj), fun j hj => addS_mono (hR.fc j hj)⟩
      cases hb : s.cl j with
      | false => rfl
      | true => have : addS s.cl p j = true := addS_mono hb; rw [show addS s.cl p j = false from hcj] at this; cases this
    · cases h
  · unfold tryRow at h ⊢
    split at h
    · cases h
    · rename_i hc
      rw [if_neg (by rw [hR.cl]; exact hc)]
theorem ptrMay_sub {o c : List Int} (hc : Bytes c) (hs : ∀ i, nth o i = nth (rdPtr c) i ∨ nth o i = 0) : PtrMay o := by
  intro j hj
  rcases hs j with h | h
  · rw [h]
    have hm : nth (rdPtr c) j ∈ rdPtr c := by
      unfold nth
      rw [List.getElem?_eq_getElem (by simp; exact hj)]
      exact List.getElem_mem _
    exact rdPtr_small hc _ hm
  · rw [h]; omega
theorem tryTab_sim {X Y : Int} (hY : 0 ≤ Y) {allw : Prop} {W A : Nat → List Int} {f0 : Int → Bool} {F : List Int → LS → List Int × Bool × LS} (hF : SiftOK F) (hS : SimF X Y allw W A f0 F) : SimT X Y allw W A f0 (tryTab X Y F) := by
  have hclaim : ∀ p s s', Sd X Y allw W A f0 s s' → Sd X Y allw W A f0 { s with cl := addS s.cl p } { s' with cl := addS s'.cl p } := fun p s s' hR =>
    ⟨by show addS s'.cl p = addS s.cl p; rw [hR.cl], hR.fm, hR.bk, hR.S, fun j hj hcj => hR.un j hj (by
      cases hb : s.cl j with
      | false => rfl
      | true => have : addS s.cl p j = true := addS_mono hb; rw [show addS s.cl p j = false from hcj] at this; cases this), fun j hj => addS_mono (hR.f0 j hj), fun j hj => addS_mono (hR.fc j hj)⟩
  refine ⟨fun p s s' hR hP h => ?_, fun p s s' hR hP h hna => ?_⟩
  · obtain ⟨h1, h2, h3, h4⟩ := tryTab_yes h
    obtain ⟨hp, hp0⟩ := isD_nat hY h1
    have h1' : isD X Y (p.toNat : Int) = true := by rw [hp]; exact h1
    have h2' : s.cl (p.toNat : Int) = false := by rw [hp]; exact h2
    obtain ⟨u1, u2, u3⟩ := hR.un p.toNat h1' h2'
    have hR1 := hclaim p s s' hR
    rw [h4] at hP
    have hmay : PtrMay (F (rdPtr (s.S p.toNat)) { s with cl := addS s.cl p }).1 := ptrMay_sub u2 (fun i => hF.sub _ _ i)
    have hlen : (F (rdPtr (s.S p.toNat)) { s with cl := addS s.cl p }).1.length = 32 := by rw [hF.len]; simp
    have hback := ptr_back _ hlen hmay
    have hf0 : f0 p.toNat = false := by
      cases hb : f0 p.toNat with
      | false => rfl
      | true => have := hR.f0 p.toNat hb; rw [h2'] at this; cases this
    have hW := hP p.toNat (addS_self _ _) hf0
    obtain ⟨hW1, hW2⟩ := hW
    have hW1 : ptrSecN (F (rdPtr (s.S p.toNat)) { s with cl := addS s.cl p }).1 32 = W p.toNat := by
      rw [← hW1]
      show _ = updS _ _ _ _
      rw [updS_eq, ptrR_yes hmay]
    have hsfm : s.fm p.toNat = false := by
      cases hb : s.fm p.toNat with
      | false => rfl
      | true => have := hR.fc p.toNat hb; rw [h2'] at this; cases this
    have hg := hF.grow (rdPtr (s.S p.toNat)) { s with cl := addS s.cl p } p.toNat (by rw [hp]; exact addS_self _ _)
    have hPin : Pro allw W A f0 (F (rdPtr (s.S p.toNat)) { s with cl := addS s.cl p }).2.2 := by
      intro j hj hj0
      have hne : j ≠ p.toNat := fun e => by
        subst e
        have h9 : (F (rdPtr (s.S p.toNat)) { s with cl := addS s.cl p }).2.2.fm p.toNat = s.fm p.toNat := hg.2.1
        rw [h9, hsfm] at hj; cases hj
      have := hP j (addS_mono hj) hj0
      obtain ⟨t1, t2⟩ := this
      refine ⟨?_, t2⟩
      rw [← t1]
      exact (updS_ne _ _ hne).symm
    have hrel : ∀ i, (nth (rdPtr (s'.S p.toNat)) i = nth (rdPtr (s.S p.toNat)) i ∨ (nth (rdPtr (s'.S p.toNat)) i = 0 ∧ nth (F (rdPtr (s.S p.toNat)) { s with cl := addS s.cl p }).1 i = 0)) ∧ (allw → nth (rdPtr (s'.S p.toNat)) i = nth (F (rdPtr (s.S p.toNat)) { s with cl := addS s.cl p }).1 i) := by
      intro i
      refine ⟨?_, fun ha => ?_⟩
      · rcases hR.S p.toNat with e | e
        · exact .inl (by rw [e])
        · rw [e, ← hW1, hback]
          rcases hF.sub (rdPtr (s.S p.toNat)) { s with cl := addS s.cl p } i with h | h
          · exact .inl h
          · exact .inr ⟨h, h⟩
      · rw [u1, hW2 ha, ← hW1, hback]
    obtain ⟨a1, a2, a3⟩ := hS _ (rdPtr (s'.S p.toNat)) _ _ hR1 hPin (by simp) hrel
    have hyes : (tryTab X Y F p s').1 = true := by rw [tryTab_is h1 (by rw [hR.cl]; exact h2), a2, h3]
    obtain ⟨-, -, -, h4'⟩ := tryTab_yes hyes
    refine ⟨hyes, ?_⟩
    rw [h4, h4']
    refine ⟨a3.cl, ?_, a3.bk, fun j => ?_, fun j hj hcj => ?_, a3.f0, fun j hj => ?_⟩
    · show addS _ _ = addS _ _
      rw [a3.fm]
    · by_cases hjp : j = p.toNat
      · subst hjp
        left
        show updS _ _ _ _ = updS _ _ _ _
        rw [updS_eq, updS_eq, a1]
      · show updS _ _ _ _ = updS _ _ _ _ ∨ updS _ _ _ _ = _
        rw [updS_ne _ _ hjp, updS_ne _ _ hjp]
        exact a3.S j
    · have hne : j ≠ p.toNat := fun e => by
        subst e
        have h9 : (F (rdPtr (s.S p.toNat)) { s with cl := addS s.cl p }).2.2.cl p.toNat = false := hcj
        rw [hg.1] at h9; cases h9
      obtain ⟨v1, v2, v3⟩ := a3.un j hj hcj
      show updS _ _ _ _ = _ ∧ Bytes (updS _ _ _ _) ∧ (¬ allw → subP _ (updS _ _ _ _))
      rw [updS_ne _ _ hne, updS_ne _ _ hne]
      exact ⟨v1, v2, v3⟩
    · by_cases hjp : (j : Int) = (p.toNat : Int)
      · have : j = p.toNat := by omega
        subst this
        exact hg.1
      · have hj2 : addS (F (rdPtr (s.S p.toNat)) { s with cl := addS s.cl p }).2.2.fm p.toNat j = true := hj
        rw [addS_ne hjp] at hj2
        exact a3.fc j hj2
  · by_cases hc : isD X Y p = true ∧ s.cl p = false
    · obtain ⟨h1, h2⟩ := hc
      obtain ⟨hp, hp0⟩ := isD_nat hY h1
      have h1' : isD X Y (p.toNat : Int) = true := by rw [hp]; exact h1
      have h2' : s.cl (p.toNat : Int) = false := by rw [hp]; exact h2
      obtain ⟨u1, u2, u3⟩ := hR.un p.toNat h1' h2'
      have hR1 := hclaim p s s' hR
      rw [tryTab_is h1 h2] at h
      obtain ⟨e1, e2⟩ := hF.fail _ _ h
      have hPin : Pro allw W A f0 (F (rdPtr (s.S p.toNat)) { s with cl := addS s.cl p }).2.2 := by rw [e1]; exact hP
      obtain ⟨a1, a2, a3⟩ := hS _ (rdPtr (s'.S p.toNat)) _ _ hR1 hPin (by simp) (fun i => ⟨by
        rw [u1]
        rcases u3 hna i with h | h
        · exact .inl h
        · exact .inr ⟨h, e2 i⟩, fun ha => absurd ha hna⟩)
      rw [tryTab_is h1 (by rw [hR.cl]; exact h2), a2, h]
    · unfold tryTab
      rw [if_neg (by rw [hR.cl]; exact hc)]
end Go.Proofs.Ythioepdgnbdohaa

/- What holds of a look's state, pointer by pointer: plain laws. -/
namespace Go.Proofs.Ythioepdgnbdohaa
set_option linter.unusedSimpArgs false
set_option linter.unusedVariables false
open Go.RowKit

/-- what holds of a look's state, A: the image it began with -/
structure SI (X Y : Int) (A : Nat → List Int) (s : LS) : Prop where
  fc : FmCl s
  cd : ∀ q, s.cl q = true → isD X Y q = true
  bk : ∀ k q, s.bk k = some q → isD X Y q = true ∧ s.cl q = true ∧ s.fm q = false
  inj : ∀ k k' q, s.bk k = some q → s.bk k' = some q → k = k'
  un : ∀ j : Nat, s.cl j = false → s.S j = A j
  ln : ∀ j : Nat, isD X Y j = true → (s.S j).length = 128 ∧ Bytes (s.S j)
  sub : ∀ j : Nat, s.fm j = true → subP (s.S j) (A j)
/-- what a try does -/
structure Did (s s2 : LS) : Prop where
  new : ∀ k q, s2.bk k = some q → (∃ k', s.bk k' = some q) ∨ (0 ≤ q ∧ s.cl q = false)
  same : ∀ j : Nat, s2.fm j = false → s2.S j = s.S j
theorem Did.refl (s : LS) : Did s s := ⟨fun k q h => .inl ⟨k, h⟩, fun _ _ => rfl⟩
theorem Gr.not {a b : LS} (hg : Gr a b) {q : Int} (h0 : 0 ≤ q) (h : b.cl q = false) : a.cl q = false := by
  cases hc : a.cl q with
  | false => rfl
  | true =>
    have e : (q.toNat : Int) = q := by omega
    have := (hg q.toNat (by rw [e]; exact hc)).1
    rw [e, h] at this; cases this
theorem Did.trans {a b c : LS} (h : Did a b) (h2 : Did b c) (hg : Gr a b) (hg2 : Gr b c) (hb : FmCl b) : Did a c := by
  refine ⟨fun k q hq => ?_, fun j hj => ?_⟩
  · rcases h2.new k q hq with ⟨k', h3⟩ | ⟨h0, h3⟩
    · exact h.new k' q h3
    · exact .inr ⟨h0, hg.not h0 h3⟩
  · have hb2 : b.fm j = false := by
      cases hbj : b.fm j with
      | false => rfl
      | true => have := (hg2 j (hb j hbj)).2.1; rw [hj, hbj] at this; cases this
    rw [h2.same j hj, h.same j hb2]
structure TryI (X Y : Int) (A : Nat → List Int) (T : Int → LS → Bool × LS) : Prop where
  ok : TryOK T
  inv : ∀ p s, SI X Y A s → SI X Y A (T p s).2
  did : ∀ p s, SI X Y A s → Did s (T p s).2
structure SiftI (X Y : Int) (A : Nat → List Int) (F : List Int → LS → List Int × Bool × LS) : Prop where
  ok : SiftOK F
  inv : ∀ ps s, SI X Y A s → SI X Y A (F ps s).2.2
  did : ∀ ps s, SI X Y A s → Did s (F ps s).2.2
theorem siftT_i {X Y : Int} {A : Nat → List Int} {T : Nat → Int → LS → Bool × LS} (hT : ∀ k, TryI X Y A (T k)) (base step n : Int) (k0 : Nat) : SiftI X Y A (siftT T base step n k0) := by
  refine ⟨siftT_ok (fun k => (hT k).ok) base step n k0, fun ps => ?_, fun ps => ?_⟩
  · induction ps generalizing k0 with
    | nil => intro s h; exact h
    | cons p r ih =>
      intro s h
      rw [siftT_cons]
      split
      · exact ih (k0 + 1) s h
      · exact ih (k0 + 1) _ ((hT k0).inv p s h)
  · induction ps generalizing k0 with
    | nil => intro s h; exact Did.refl _
    | cons p r ih =>
      intro s h
      rw [siftT_cons]
      split
      · exact ih (k0 + 1) s h
      · exact ((hT k0).did p s h).trans (ih (k0 + 1) _ ((hT k0).inv p s h)) ((hT k0).ok.grow p s) ((siftT_ok (fun k => (hT k).ok) base step n (k0 + 1)).grow r _) ((hT k0).inv p s h).fc
theorem isD_pos {X Y q : Int} (hY : 0 ≤ Y) (h : isD X Y q = true) : 0 < q := by
  unfold isD at h
  have := of_decide_eq_true h
  omega
/-- a sector is claimed -/
theorem SI.claim {X Y : Int} {A : Nat → List Int} {s : LS} (h : SI X Y A s) {p : Int} (h1 : isD X Y p = true) : SI X Y A { s with cl := addS s.cl p } := by
  refine ⟨fun j hj => addS_mono (h.fc j hj), fun q hq => ?_, fun k q hk => ?_, h.inj, fun j hj => h.un j ?_, h.ln, h.sub⟩
  · by_cases hqp : q = p
    · subst hqp; exact h1
    · have hq2 : addS s.cl p q = true := hq
      rw [addS_ne hqp] at hq2
      exact h.cd q hq2
  · obtain ⟨a, b, c⟩ := h.bk k q hk
    exact ⟨a, addS_mono b, c⟩
  · cases hb : s.cl j with
    | false => rfl
    | true => have : addS s.cl p j = true := addS_mono hb; rw [show addS s.cl p j = false from hj] at this; cases this
theorem SI.fmn {X Y : Int} {A : Nat → List Int} {s : LS} (hY : 0 ≤ Y) (h : SI X Y A s) {p : Int} (h1 : isD X Y p = true) (h2 : s.cl p = false) : s.fm p = false := by
  have e := (isD_nat hY h1).1
  cases hb : s.fm p with
  | false => rfl
  | true =>
    have := h.fc p.toNat (by rw [e]; exact hb)
    rw [e, h2] at this; cases this
theorem tryRow_i {X Y : Int} (hY : 0 ≤ Y) (A : Nat → List Int) (base : Int) (k : Nat) : TryI X Y A (tryRow X Y base k) := by
  refine ⟨tryRow_ok X Y base k, fun p s h => ?_, fun p s h => ?_⟩
  · unfold tryRow
    split
    · rename_i hc
      have hn := h.claim hc.1
      refine ⟨hn.fc, hn.cd, fun k' q hk => ?_, fun k1 k2 q hk1 hk2 => ?_, hn.un, hn.ln, hn.sub⟩
      · have hk2 : putI s.bk (base + k) p k' = some q := hk
        unfold putI at hk2
        split at hk2
        · cases hk2
          exact ⟨hc.1, addS_self _ _, h.fmn hY hc.1 hc.2⟩
        · exact hn.bk k' q hk2
      · have a1 : putI s.bk (base + k) p k1 = some q := hk1
        have a2 : putI s.bk (base + k) p k2 = some q := hk2
        unfold putI at a1 a2
        split at a1
        · rename_i e1
          split at a2
          · rename_i e2; rw [e1, e2]
          · cases a1
            have := (h.bk _ _ a2).2.1
            rw [hc.2] at this; cases this
        · split at a2
          · cases a2
            have := (h.bk _ _ a1).2.1
            rw [hc.2] at this; cases this
          · exact h.inj _ _ _ a1 a2
    · exact h
  · unfold tryRow
    split
    · rename_i hc
      refine ⟨fun k' q hk => ?_, fun _ _ => rfl⟩
      have hk2 : putI s.bk (base + k) p k' = some q := hk
      unfold putI at hk2
      split at hk2
      · cases hk2
        exact .inr ⟨Int.le_of_lt (isD_pos hY hc.1), hc.2⟩
      · exact .inl ⟨k', hk2⟩
    · exact Did.refl _
theorem tryTab_i {X Y : Int} (hY : 0 ≤ Y) {A : Nat → List Int} {F : List Int → LS → List Int × Bool × LS} (hF : SiftI X Y A F) : TryI X Y A (tryTab X Y F) := by
  have hok := tryTab_ok hY hF.ok (X := X)
  refine ⟨hok, fun p s h => ?_, fun p s h => ?_⟩
  · cases hb : (tryTab X Y F p s).1 with
    | false => rw [hok.fail p s hb]; exact h
    | true =>
      obtain ⟨h1, h2, h3, h4⟩ := tryTab_yes hb
      rw [h4]
      obtain ⟨hp, -⟩ := isD_nat hY h1
      have h2' : s.cl (p.toNat : Int) = false := by rw [hp]; exact h2
      have hs1 := h.claim h1
      have hi := hF.inv (rdPtr (s.S p.toNat)) _ hs1
      have hd := hF.did (rdPtr (s.S p.toNat)) _ hs1
      have hg := hF.ok.grow (rdPtr (s.S p.toNat)) { s with cl := addS s.cl p } p.toNat (by rw [hp]; exact addS_self _ _)
      have hA := h.un p.toNat h2'
      obtain ⟨hl, hby⟩ := h.ln p.toNat (by rw [hp]; exact h1)
      have hmay : PtrMay (F (rdPtr (s.S p.toNat)) { s with cl := addS s.cl p }).1 := ptrMay_sub hby (fun i => hF.ok.sub _ _ i)
      have hlen : (F (rdPtr (s.S p.toNat)) { s with cl := addS s.cl p }).1.length = 32 := by rw [hF.ok.len]; simp
      have hback := ptr_back _ hlen hmay
      have hsub := fun i => hF.ok.sub (rdPtr (s.S p.toNat)) { s with cl := addS s.cl p } i
      have hbn : ∀ k q, (F (rdPtr (s.S p.toNat)) { s with cl := addS s.cl p }).2.2.bk k = some q → q ≠ p := by
        intro k q hk e
        subst e
        rcases hd.new k q hk with ⟨k', h5⟩ | ⟨-, h5⟩
        · have := (h.bk k' q h5).2.1
          rw [h2] at this; cases this
        · have h6 : addS s.cl q q = false := h5
          rw [addS_self] at h6; cases h6
      generalize (F (rdPtr (s.S p.toNat)) { s with cl := addS s.cl p }) = r at *
      refine ⟨fun j hj => ?_, hi.cd, fun k q hk => ?_, hi.inj, fun j hj => ?_, fun j hj => ?_, fun j hj => ?_⟩
      · by_cases hjp : (j : Int) = (p.toNat : Int)
        · rw [hjp]; exact hg.1
        · have hj2 : addS r.2.2.fm p.toNat j = true := hj
          rw [addS_ne hjp] at hj2
          exact hi.fc j hj2
      · obtain ⟨a, b, c⟩ := hi.bk k q hk
        refine ⟨a, b, ?_⟩
        show addS r.2.2.fm p.toNat q = false
        rw [addS_ne (by rw [hp]; exact hbn k q hk)]
        exact c
      · have hne : j ≠ p.toNat := fun e => by
          subst e
          rw [show r.2.2.cl p.toNat = false from hj] at hg; cases hg.1
        show updS _ _ _ _ = _
        rw [updS_ne _ _ hne]
        exact hi.un j hj
      · show (updS _ _ _ _).length = 128 ∧ Bytes (updS _ _ _ _)
        by_cases hjp : j = p.toNat
        · subst hjp
          rw [updS_eq]
          exact ⟨ptrR_length _, ptrR_bytes _⟩
        · rw [updS_ne _ _ hjp]
          exact hi.ln j hj
      · show subP (updS _ _ _ _) _
        by_cases hjp : j = p.toNat
        · subst hjp
          rw [updS_eq, ptrR_yes hmay]
          intro i
          rw [hback, ← hA]
          exact hsub i
        · rw [updS_ne _ _ hjp]
          have hj2 : addS r.2.2.fm p.toNat j = true := hj
          rw [addS_ne (by omega)] at hj2
          exact hi.sub j hj2
  · cases hb : (tryTab X Y F p s).1 with
    | false => rw [hok.fail p s hb]; exact Did.refl _
    | true =>
      obtain ⟨h1, h2, h3, h4⟩ := tryTab_yes hb
      rw [h4]
      obtain ⟨hp, -⟩ := isD_nat hY h1
      have hs1 := h.claim h1
      have hd := hF.did (rdPtr (s.S p.toNat)) _ hs1
      refine ⟨fun k q hk => ?_, fun j hj => ?_⟩
      · rcases hd.new k q hk with h5 | ⟨h0, h5⟩
        · exact .inl h5
        · refine .inr ⟨h0, ?_⟩
          cases hc : s.cl q with
          | false => rfl
          | true => have : addS s.cl p q = true := addS_mono hc; rw [show addS s.cl p q = false from h5] at this; cases this
      · have hj2 : addS (F (rdPtr (s.S p.toNat)) { s with cl := addS s.cl p }).2.2.fm p.toNat j = false := hj
        have hne : (j : Int) ≠ (p.toNat : Int) := fun e => by rw [e, addS_self] at hj2; cases hj2
        rw [addS_ne hne] at hj2
        show updS _ _ _ _ = _
        rw [updS_ne _ _ (by omega)]
        exact hd.same j hj2

/-- the rows and tables of an inode with n blocks -/
def rowT (X Y n base : Int) : List Int → LS → List Int × Bool × LS := siftT (tryRow X Y base) base 1 n 0
noncomputable def dblT (X Y n : Int) : List Int → LS → List Int × Bool × LS := siftT (fun k => tryTab X Y (rowT X Y n (44 + 32 * k))) 44 32 n 0
noncomputable def sglT (X Y n : Int) : List Int → LS → List Int × Bool × LS := siftT (fun _ => tryTab X Y (rowT X Y n 12)) 12 1 n 0
noncomputable def dubT (X Y n : Int) : List Int → LS → List Int × Bool × LS := siftT (fun _ => tryTab X Y (dblT X Y n)) 44 1 n 0
theorem goodX_no {X Y p : Int} {st : LS} (h : (goodX X Y p st).1 = false) : ¬ (isD X Y p = true ∧ st.cl p = false) ∧ (goodX X Y p st).2 = st := by
  unfold goodX at h ⊢
  split at h
  · cases h
  · rename_i hc; rw [if_neg hc]; exact ⟨hc, rfl⟩
theorem goodX_yes {X Y p : Int} {st : LS} (h : ¬ (goodX X Y p st).1 = false) : (isD X Y p = true ∧ st.cl p = false) ∧ (goodX X Y p st).2 = { st with cl := addS st.cl p } := by
  unfold goodX at h ⊢
  split at h
  · rename_i hc; rw [if_pos hc]; exact ⟨hc, rfl⟩
  · exact absurd rfl h
theorem tab_tries {X Y : Int} (F : List Int → LS → List Int × Bool × LS) (p : Int) (st : LS) :
    tryTab X Y F p st = if (goodX X Y p st).1 = false then (false, (goodX X Y p st).2) else tableP F p.toNat (goodX X Y p st).2 := by
  by_cases h : (goodX X Y p st).1 = false
  · obtain ⟨h1, h2⟩ := goodX_no h
    rw [if_pos h, h2]
    unfold tryTab
    rw [if_neg h1]
  · obtain ⟨h1, h2⟩ := goodX_yes h
    rw [if_neg h, h2]
    unfold tryTab
    rw [if_pos h1]
theorem rowX_T (X Y n base : Int) : rowX X Y n base = rowT X Y n base := by
  funext ps st
  unfold rowX rowT
  refine siftP_T base 1 n (fun k p st => ?_) (fun k p st h => (tryRow_ok X Y base k).fail p st h) ps 0 st
  by_cases h : (goodX X Y p st).1 = false
  · obtain ⟨h1, h2⟩ := goodX_no h
    rw [if_pos h, h2]
    unfold tryRow
    rw [if_neg h1]
  · obtain ⟨h1, h2⟩ := goodX_yes h
    rw [if_neg h, h2]
    unfold tryRow keepRow
    rw [if_pos h1]
theorem rowT_i {X Y : Int} (hY : 0 ≤ Y) (A : Nat → List Int) (n base : Int) : SiftI X Y A (rowT X Y n base) := siftT_i (fun k => tryRow_i hY A base k) base 1 n 0
theorem dblX_T {X Y : Int} (hY : 0 ≤ Y) (n : Int) : dblX X Y n = dblT X Y n := by
  funext ps st
  unfold dblX dblT
  refine siftP_T 44 32 n (fun k p st => ?_) (fun k p st h => (tryTab_ok hY (rowT_i hY (fun _ => []) n (44 + 32 * k)).ok).fail p st h) ps 0 st
  rw [tab_tries, ← rowX_T]
  rfl
theorem dblT_i {X Y : Int} (hY : 0 ≤ Y) (A : Nat → List Int) (n : Int) : SiftI X Y A (dblT X Y n) := siftT_i (fun k => tryTab_i hY (rowT_i hY A n (44 + 32 * k))) 44 32 n 0
theorem sglT_i {X Y : Int} (hY : 0 ≤ Y) (A : Nat → List Int) (n : Int) : SiftI X Y A (sglT X Y n) := siftT_i (fun _ => tryTab_i hY (rowT_i hY A n 12)) 12 1 n 0
theorem dubT_i {X Y : Int} (hY : 0 ≤ Y) (A : Nat → List Int) (n : Int) : SiftI X Y A (dubT X Y n) := siftT_i (fun _ => tryTab_i hY (dblT_i hY A n)) 44 1 n 0
theorem sgl_T {X Y : Int} (hY : 0 ≤ Y) (n : Int) (ps : List Int) (st : LS) : siftP (goodX X Y) (keep3X X Y n) 12 1 n 0 ps st = sglT X Y n ps st := by
  unfold sglT
  refine siftP_T 12 1 n (fun k p st => ?_) (fun k p st h => (tryTab_ok hY (rowT_i hY (fun _ => []) n 12).ok).fail p st h) ps 0 st
  rw [tab_tries, ← rowX_T]
  rfl
theorem dub_T {X Y : Int} (hY : 0 ≤ Y) (n : Int) (ps : List Int) (st : LS) : siftP (goodX X Y) (keep4X X Y n) 44 1 n 0 ps st = dubT X Y n ps st := by
  unfold dubT
  refine siftP_T 44 1 n (fun k p st => ?_) (fun k p st h => (tryTab_ok hY (dblT_i hY (fun _ => []) n).ok).fail p st h) ps 0 st
  rw [tab_tries, ← dblX_T hY]
  rfl
/-- the three parts of an inode's pointers -/
noncomputable def pA (X Y n : Int) (raw : List Int) (st : LS) := rowT X Y n 0 ((raw.drop 4).take 12) st
noncomputable def pB (X Y n : Int) (raw : List Int) (st : LS) := sglT X Y n [nth raw 16] (pA X Y n raw st).2.2
noncomputable def pC (X Y n : Int) (raw : List Int) (st : LS) := dubT X Y n [nth raw 17] (pB X Y n raw st).2.2
theorem ptrsX_T {X Y : Int} (hY : 0 ≤ Y) (n : Int) (raw : List Int) (st : LS) : ptrsX X Y n raw st = (raw.take 4 ++ ((pA X Y n raw st).1 ++ ((pB X Y n raw st).1 ++ (pC X Y n raw st).1)), (pC X Y n raw st).2.2) := by
  unfold ptrsX pC pB pA
  simp only [sgl_T hY, dub_T hY, rowX_T]
theorem ptrs_i {X Y : Int} (hY : 0 ≤ Y) {A : Nat → List Int} (n : Int) (raw : List Int) {st : LS} (h : SI X Y A st) : SI X Y A (ptrsX X Y n raw st).2 ∧ Did st (ptrsX X Y n raw st).2 ∧ Gr st (ptrsX X Y n raw st).2 := by
  rw [ptrsX_T hY]
  have iA := (rowT_i hY A n 0).inv ((raw.drop 4).take 12) st h
  have dA := (rowT_i hY A n 0).did ((raw.drop 4).take 12) st h
  have gA := (rowT_i (X := X) hY A n 0).ok.grow ((raw.drop 4).take 12) st
  have iB := (sglT_i hY A n).inv [nth raw 16] _ iA
  have dB := (sglT_i hY A n).did [nth raw 16] _ iA
  have gB := (sglT_i (X := X) hY A n).ok.grow [nth raw 16] (rowT X Y n 0 ((raw.drop 4).take 12) st).2.2
  have iC := (dubT_i hY A n).inv [nth raw 17] _ iB
  have dC := (dubT_i hY A n).did [nth raw 17] _ iB
  have gC := (dubT_i (X := X) hY A n).ok.grow [nth raw 17] (sglT X Y n [nth raw 16] (rowT X Y n 0 ((raw.drop 4).take 12) st).2.2).2.2
  exact ⟨iC, (dA.trans dB gA gB iA.fc).trans dC (gA.trans gB) gC iB.fc, (gA.trans gB).trans gC⟩
end Go.Proofs.Ythioepdgnbdohaa

/- An inode that is taken up: what holds behind it, and two looks side by side. -/
namespace Go.Proofs.Ythioepdgnbdohaa
set_option linter.unusedSimpArgs false
set_option linter.unusedVariables false
open Go.RowKit

theorem ptrs_len {X Y : Int} (hY : 0 ≤ Y) (n : Int) {raw : List Int} (hr : raw.length = 18) (st : LS) : (pA X Y n raw st).1.length = 12 ∧ (pB X Y n raw st).1.length = 1 ∧ (pC X Y n raw st).1.length = 1 := by
  refine ⟨?_, ?_, ?_⟩
  · unfold pA; rw [(rowT_i (X := X) hY (fun _ => []) n 0).ok.len]; simp [hr]
  · unfold pB; rw [(sglT_i (X := X) hY (fun _ => []) n).ok.len]; rfl
  · unfold pC; rw [(dubT_i (X := X) hY (fun _ => []) n).ok.len]; rfl
theorem nth_app_l {a b : List Int} {i : Nat} (h : i < a.length) : nth (a ++ b) i = nth a i := by unfold nth; rw [List.getElem?_append_left h]
theorem nth_app_r {a b : List Int} {i : Nat} (h : a.length ≤ i) : nth (a ++ b) i = nth b (i - a.length) := by unfold nth; rw [List.getElem?_append_right h]
theorem nth_out {l : List Int} {i : Nat} (h : l.length ≤ i) : nth l i = 0 := by unfold nth; rw [List.getElem?_eq_none h]; rfl
/-- the pointers of an inode behind a take -/
theorem ptrs_nth {X Y : Int} (hY : 0 ≤ Y) (n : Int) {raw : List Int} (hr : raw.length = 18) (st : LS) :
    (∀ i, i < 4 → nth (ptrsX X Y n raw st).1 i = nth raw i) ∧ (∀ i, i < 12 → nth (ptrsX X Y n raw st).1 (4 + i) = nth (pA X Y n raw st).1 i) ∧ nth (ptrsX X Y n raw st).1 16 = nth (pB X Y n raw st).1 0 ∧ nth (ptrsX X Y n raw st).1 17 = nth (pC X Y n raw st).1 0 ∧ (ptrsX X Y n raw st).1.length = 18 := by
  obtain ⟨l1, l2, l3⟩ := ptrs_len (X := X) hY n hr st
  have l0 : (raw.take 4).length = 4 := by simp [hr]
  rw [ptrsX_T hY]
  refine ⟨fun i hi => ?_, fun i hi => ?_, ?_, ?_, ?_⟩
  · show nth (raw.take 4 ++ _) i = _
    rw [nth_app_l (by omega)]
    unfold nth
    rw [List.getElem?_take, if_pos hi]
  · show nth (raw.take 4 ++ _) (4 + i) = _
    rw [nth_app_r (by omega), l0, Nat.add_sub_cancel_left, nth_app_l (by omega)]
  · show nth (raw.take 4 ++ _) 16 = _
    rw [nth_app_r (by omega), l0, nth_app_r (by omega), l1, nth_app_l (by omega)]
  · show nth (raw.take 4 ++ _) 17 = _
    rw [nth_app_r (by omega), l0, nth_app_r (by omega), l1, nth_app_r (by omega), l2]
  · show (raw.take 4 ++ _).length = 18
    simp only [List.length_append]
    omega
theorem nth_direct {raw : List Int} (hr : raw.length = 18) {i : Nat} (hi : i < 12) : nth ((raw.drop 4).take 12) i = nth raw (4 + i) := by
  unfold nth
  rw [List.getElem?_take, if_pos hi, List.getElem?_drop]
/-- two inodes side by side -/
structure Raw2 (allw : Prop) (out raw raw' : List Int) : Prop where
  len : raw.length = 18
  len' : raw'.length = 18
  kind : nth raw' 0 = nth raw 0
  size : nth raw' 2 = nth raw 2
  made : nth raw' 3 = nth raw 3
  ptr : ∀ i, 4 ≤ i → i < 18 → (nth raw' i = nth raw i ∨ (nth raw' i = 0 ∧ nth out i = 0)) ∧ (allw → nth raw' i = nth out i)
theorem rowT_sim (X Y : Int) (allw : Prop) (W A : Nat → List Int) (f0 : Int → Bool) (n base : Int) : SimF X Y allw W A f0 (rowT X Y n base) :=
  siftT_sim (fun k => tryRow_ok X Y base k) (fun k => tryRow_sim X Y allw W A f0 base k) base 1 n 0
theorem dblT_sim {X Y : Int} (hY : 0 ≤ Y) (allw : Prop) (W A : Nat → List Int) (f0 : Int → Bool) (n : Int) : SimF X Y allw W A f0 (dblT X Y n) :=
  siftT_sim (fun k => tryTab_ok hY (rowT_i hY A n (44 + 32 * k)).ok) (fun k => tryTab_sim hY (rowT_i hY A n (44 + 32 * k)).ok (rowT_sim X Y allw W A f0 n _)) 44 32 n 0
theorem sglT_sim {X Y : Int} (hY : 0 ≤ Y) (allw : Prop) (W A : Nat → List Int) (f0 : Int → Bool) (n : Int) : SimF X Y allw W A f0 (sglT X Y n) :=
  siftT_sim (fun _ => tryTab_ok hY (rowT_i hY A n 12).ok) (fun _ => tryTab_sim hY (rowT_i hY A n 12).ok (rowT_sim X Y allw W A f0 n _)) 12 1 n 0
theorem dubT_sim {X Y : Int} (hY : 0 ≤ Y) (allw : Prop) (W A : Nat → List Int) (f0 : Int → Bool) (n : Int) : SimF X Y allw W A f0 (dubT X Y n) :=
  siftT_sim (fun _ => tryTab_ok hY (dblT_i hY A n).ok) (fun _ => tryTab_sim hY (dblT_i hY A n).ok (dblT_sim hY allw W A f0 n)) 44 1 n 0
theorem ptrs_sim {X Y : Int} (hY : 0 ≤ Y) {allw : Prop} {W A : Nat → List Int} {f0 : Int → Bool} (n : Int) {raw raw' : List Int} {s s' : LS} (hR : Sd X Y allw W A f0 s s') (hr : Raw2 allw (ptrsX X Y n raw s).1 raw raw') (hP : Pro allw W A f0 (ptrsX X Y n raw s).2) :
    (∀ i, 4 ≤ i → nth (ptrsX X Y n raw' s').1 i = nth (ptrsX X Y n raw s).1 i) ∧ Sd X Y allw W A f0 (ptrsX X Y n raw s).2 (ptrsX X Y n raw' s').2 := by
  obtain ⟨-, q1, q2, q3, q4⟩ := ptrs_nth (X := X) hY n hr.len s
  obtain ⟨-, q1', q2', q3', q4'⟩ := ptrs_nth (X := X) hY n hr.len' s'
  have hC : (ptrsX X Y n raw s).2 = (pC X Y n raw s).2.2 := by rw [ptrsX_T hY]
  have hC' : (ptrsX X Y n raw' s').2 = (pC X Y n raw' s').2.2 := by rw [ptrsX_T hY]
  rw [hC] at hP
  have gB := (sglT_i (X := X) hY A n).ok.grow [nth raw 16] (pA X Y n raw s).2.2
  have gC := (dubT_i (X := X) hY A n).ok.grow [nth raw 17] (pB X Y n raw s).2.2
  have fA : FmCl (pA X Y n raw s).2.2 := (rowT_i (X := X) hY A n 0).ok.fmcl _ _ hR.fc
  have fB : FmCl (pB X Y n raw s).2.2 := (sglT_i (X := X) hY A n).ok.fmcl _ _ fA
  have pBr : Pro allw W A f0 (pB X Y n raw s).2.2 := hP.back gC fB
  have pAr : Pro allw W A f0 (pA X Y n raw s).2.2 := pBr.back gB fA
  obtain ⟨a1, a2, a3⟩ := rowT_sim X Y allw W A f0 n 0 ((raw.drop 4).take 12) ((raw'.drop 4).take 12) s s' hR pAr (by simp [hr.len, hr.len']) (fun i => by
    by_cases hi : i < 12
    · rw [nth_direct hr.len hi, nth_direct hr.len' hi, show nth (rowT X Y n 0 ((raw.drop 4).take 12) s).1 i = nth (ptrsX X Y n raw s).1 (4 + i) from (q1 i hi).symm]
      exact hr.ptr (4 + i) (by omega) (by omega)
    · have e1 : nth ((raw.drop 4).take 12) i = 0 := nth_out (by simp; omega)
      have e2 : nth ((raw'.drop 4).take 12) i = 0 := nth_out (by simp; omega)
      have e3 : nth (rowT X Y n 0 ((raw.drop 4).take 12) s).1 i = 0 := nth_out (by rw [(rowT_i (X := X) hY A n 0).ok.len]; simp; omega)
      rw [e1, e2, e3]
      exact ⟨.inl rfl, fun _ => rfl⟩)
  have hone : ∀ {p p' o : Int}, (p' = p ∨ (p' = 0 ∧ o = 0)) ∧ (allw → p' = o) → ∀ {l : List Int}, l.length = 1 → nth l 0 = o → ∀ i, (nth [p'] i = nth [p] i ∨ (nth [p'] i = 0 ∧ nth l i = 0)) ∧ (allw → nth [p'] i = nth l i) := by
    intro p p' o h l hl ho i
    cases i with
    | zero => rw [ho]; exact h
    | succ i =>
      rw [nth_out (l := l) (by omega)]
      exact ⟨.inl rfl, fun _ => rfl⟩
  obtain ⟨l1, l2, l3⟩ := ptrs_len (X := X) hY n hr.len s
  obtain ⟨b1, b2, b3⟩ := sglT_sim hY allw W A f0 n [nth raw 16] [nth raw' 16] _ _ a3 pBr rfl (hone (hr.ptr 16 (by omega) (by omega)) l2 q2.symm)
  obtain ⟨c1, c2, c3⟩ := dubT_sim hY allw W A f0 n [nth raw 17] [nth raw' 17] _ _ b3 hP rfl (hone (hr.ptr 17 (by omega) (by omega)) l3 q3.symm)
  refine ⟨fun i hi => ?_, by rw [hC, hC']; exact c3⟩
  by_cases h18 : i < 18
  · by_cases h16 : i < 16
    · have e1 := q1 (i - 4) (by omega)
      have e2 := q1' (i - 4) (by omega)
      rw [show 4 + (i - 4) = i by omega] at e1 e2
      rw [e1, e2]
      exact congrArg (fun l => nth l (i - 4)) a1
    · by_cases h17 : i = 16
      · subst h17
        rw [q2, q2']
        exact congrArg (fun l => nth l 0) b1
      · obtain rfl : i = 17 := by omega
        rw [q3, q3']
        exact congrArg (fun l => nth l 0) c1
  · rw [nth_out (by omega), nth_out (by omega)]
end Go.Proofs.Ythioepdgnbdohaa

/- What holds of a look that goes on: plain laws. -/
namespace Go.Proofs.Ythioepdgnbdohaa
set_option linter.unusedSimpArgs false
set_option linter.unusedVariables false
open Go.RowKit

/-- no inode at hand -/
def bare (s : LS) : LS := { s with bk := fun _ => none }
theorem wipeL_len {s : List Int} (h : s.length = 128) {k : Nat} (hk : k ≤ 128) : (wipeL s k).length = 128 := by
  unfold wipeL
  simp only [List.length_append, List.length_take, zl_length]
  omega
theorem wipeL_twice {s : List Int} (h : s.length = 128) {k : Nat} (hk : k ≤ 128) : wipeL (wipeL s k) k = wipeL s k := by
  unfold wipeL
  rw [List.take_left' (by simp; omega)]
theorem firmX_fm {n : Int} {st : LS} {q : Int} (h : (firmX n st).fm q = true) : st.fm q = true ∨ ∃ k, st.bk k = some q := by
  unfold firmX at h
  simp only [Bool.or_eq_true, List.any_eq_true] at h
  rcases h with h | ⟨k, -, h⟩
  · exact .inl h
  · exact .inr ⟨k, by simpa using h⟩
theorem firmX_mono {n : Int} {st : LS} {q : Int} (h : st.fm q = true) : (firmX n st).fm q = true := by
  unfold firmX
  simp [h]
/-- what a take leaves -/
structure TakeI (X Y : Int) (A : Nat → List Int) (st st2 : LS) (n : Int) : Prop where
  si : SI X Y A (bare st2)
  gr : Gr st st2
  new : ∀ k q, st2.bk k = some q → isD X Y q = true ∧ st2.cl q = true ∧ st.cl q = false
  inj : ∀ k k' q, st2.bk k = some q → st2.bk k' = some q → k = k'
  keys : KeysIn n st2
theorem take_i {X Y : Int} (hY : 0 ≤ Y) {A : Nat → List Int} {st : LS} (h : SI X Y A (bare st)) (raw : List Int) : TakeI X Y A st (takeX X Y raw st).2 (cntX (nth raw 2)) := by
  obtain ⟨i, d, g⟩ := ptrs_i hY (cntX (nth raw 2)) raw h
  have hkeys : KeysIn (cntX (nth raw 2)) (ptrsX X Y (cntX (nth raw 2)) raw (bare st)).2 := ptrsX_keys X Y _ raw _ (fun k hk => by cases hk)
  have hnew : ∀ k q, (ptrsX X Y (cntX (nth raw 2)) raw (bare st)).2.bk k = some q → isD X Y q = true ∧ (ptrsX X Y (cntX (nth raw 2)) raw (bare st)).2.cl q = true ∧ st.cl q = false ∧ (ptrsX X Y (cntX (nth raw 2)) raw (bare st)).2.fm q = false := by
    intro k q hk
    obtain ⟨a, b, c⟩ := i.bk k q hk
    rcases d.new k q hk with ⟨k', h5⟩ | ⟨-, h5⟩
    · cases h5
    · exact ⟨a, b, h5, c⟩
  have hbk := takeX_bk X Y raw st
  have hg2 : Gr st (ptrsX X Y (cntX (nth raw 2)) raw (bare st)).2 := g
  unfold takeX
  simp only
  rw [show ({ st with bk := fun _ => none } : LS) = bare st from rfl]
  generalize ptrsX X Y (cntX (nth raw 2)) raw (bare st) = r at *
  split
  · refine ⟨⟨fun j hj => ?_, i.cd, fun k q hk => (by cases hk), fun k k' q hk => (by cases hk), i.un, i.ln, fun j hj => ?_⟩, fun j hj => ?_, fun k q hk => ?_, i.inj, hkeys⟩
    · rcases firmX_fm hj with h1 | ⟨k, h1⟩
      · exact i.fc j h1
      · exact (i.bk k _ h1).2.1
    · rcases firmX_fm hj with h1 | ⟨k, h1⟩
      · exact i.sub j h1
      · obtain ⟨a, b, c, e⟩ := hnew k _ h1
        have h2 : r.2.S j = A j := by
          rw [d.same j e]
          exact h.un j c
        show subP (r.2.S j) _
        rw [h2]
        exact fun _ => .inl rfl
    · obtain ⟨a, b, c⟩ := hg2 j hj
      refine ⟨a, ?_, c⟩
      apply Bool.eq_iff_iff.2
      constructor
      · intro hf
        rcases firmX_fm hf with h1 | ⟨k, h1⟩
        · rw [← b]; exact h1
        · have := (hnew k _ h1).2.2.1
          rw [hj] at this; cases this
      · intro hf
        exact firmX_mono (by rw [b]; exact hf)
    · obtain ⟨a, b, c, -⟩ := hnew k q hk
      exact ⟨a, b, c⟩
  · have htS : ∀ j : Nat, (tailX (cntX (nth raw 2)) (nth raw 2) r.2).S j ≠ r.2.S j → ∃ k, r.2.bk k = some (j : Int) ∧ ((tailX (cntX (nth raw 2)) (nth raw 2) r.2).S j = wipeL (r.2.S j) (nth raw 2 % 128).toNat) := by
      intro j hj
      unfold tailX at hj ⊢
      cases hb : r.2.bk (cntX (nth raw 2) - 1) with
      | none => rw [hb] at hj; exact absurd rfl hj
      | some p =>
        rw [hb] at hj
        simp only at hj ⊢
        split at hj
        · exact absurd rfl hj
        · rename_i hz
          have hp := (isD_nat hY (hnew _ _ hb).1).1
          by_cases hjp : j = p.toNat
          · subst hjp
            refine ⟨_, by rw [hp]; exact hb, ?_⟩
            rw [if_neg hz]
            show updS _ _ _ _ = _
            rw [updS_eq]
          · exact absurd (updS_ne _ _ hjp) hj
    have ht1 : (tailX (cntX (nth raw 2)) (nth raw 2) r.2).cl = r.2.cl ∧ (tailX (cntX (nth raw 2)) (nth raw 2) r.2).fm = r.2.fm ∧ (tailX (cntX (nth raw 2)) (nth raw 2) r.2).bk = r.2.bk := by
      unfold tailX
      split
      · exact ⟨rfl, rfl, rfl⟩
      · split <;> exact ⟨rfl, rfl, rfl⟩
    obtain ⟨t1, t2, t3⟩ := ht1
    have hk128 : (nth raw 2 % 128).toNat ≤ 128 := by omega
    refine ⟨⟨fun j hj => ?_, fun q hq => ?_, fun k q hk => (by cases hk), fun k k' q hk => (by cases hk), fun j hj => ?_, fun j hj => ?_, fun j hj => ?_⟩, fun j hj => ?_, fun k q hk => ?_, fun k k' q h1 h2 => ?_, fun k hk => ?_⟩
    · have hj2 : (tailX (cntX (nth raw 2)) (nth raw 2) r.2).fm j = true := hj
      show (tailX (cntX (nth raw 2)) (nth raw 2) r.2).cl j = true
      rw [t2] at hj2; rw [t1]
      exact i.fc j hj2
    · have hq2 : (tailX (cntX (nth raw 2)) (nth raw 2) r.2).cl q = true := hq
      rw [t1] at hq2
      exact i.cd q hq2
    · have hj2 : (tailX (cntX (nth raw 2)) (nth raw 2) r.2).cl j = false := hj
      rw [t1] at hj2
      show (tailX (cntX (nth raw 2)) (nth raw 2) r.2).S j = _
      by_cases hc : (tailX (cntX (nth raw 2)) (nth raw 2) r.2).S j = r.2.S j
      · rw [hc]; exact i.un j hj2
      · obtain ⟨k, h1, -⟩ := htS j hc
        have := (i.bk k _ h1).2.1
        rw [hj2] at this; cases this
    · show ((tailX (cntX (nth raw 2)) (nth raw 2) r.2).S j).length = 128 ∧ Bytes ((tailX (cntX (nth raw 2)) (nth raw 2) r.2).S j)
      obtain ⟨l1, l2⟩ := i.ln j hj
      by_cases hc : (tailX (cntX (nth raw 2)) (nth raw 2) r.2).S j = r.2.S j
      · rw [hc]; exact ⟨l1, l2⟩
      · obtain ⟨k, -, h1⟩ := htS j hc
        rw [h1]
        exact ⟨wipeL_len l1 hk128, bytes_wipeL l2 _⟩
    · have hj2 : (tailX (cntX (nth raw 2)) (nth raw 2) r.2).fm j = true := hj
      rw [t2] at hj2
      show subP ((tailX (cntX (nth raw 2)) (nth raw 2) r.2).S j) _
      by_cases hc : (tailX (cntX (nth raw 2)) (nth raw 2) r.2).S j = r.2.S j
      · rw [hc]; exact i.sub j hj2
      · obtain ⟨k, h1, -⟩ := htS j hc
        have := (i.bk k _ h1).2.2
        rw [hj2] at this; cases this
    · obtain ⟨a, b, c⟩ := hg2 j hj
      refine ⟨by show (tailX _ _ _).cl j = true; rw [t1]; exact a, by show (tailX _ _ _).fm j = _; rw [t2]; exact b, ?_⟩
      show (tailX (cntX (nth raw 2)) (nth raw 2) r.2).S j = _
      by_cases hc : (tailX (cntX (nth raw 2)) (nth raw 2) r.2).S j = r.2.S j
      · rw [hc]; exact c
      · obtain ⟨k, h1, -⟩ := htS j hc
        have := (hnew k _ h1).2.2.1
        rw [hj] at this; cases this
    · have hk2 : (tailX (cntX (nth raw 2)) (nth raw 2) r.2).bk k = some q := hk
      rw [t3] at hk2
      obtain ⟨a, b, c, -⟩ := hnew k q hk2
      exact ⟨a, by show (tailX _ _ _).cl q = true; rw [t1]; exact b, c⟩
    · have h1' : (tailX (cntX (nth raw 2)) (nth raw 2) r.2).bk k = some q := h1
      have h2' : (tailX (cntX (nth raw 2)) (nth raw 2) r.2).bk k' = some q := h2
      rw [t3] at h1' h2'
      exact i.inj k k' q h1' h2'
    · have hk2 : ((tailX (cntX (nth raw 2)) (nth raw 2) r.2).bk k).isSome = true := hk
      rw [t3] at hk2
      exact hkeys k hk2
/-- a directory waits whose block j is -/
def pend (z : LZ) (j : Nat) : Prop := ∃ i ∈ z.q, ∃ t k, z.T i.toNat = some t ∧ t.bk k = some (j : Int)
/-- what holds of a look that goes on, A: the image -/
structure InvZ (X Y : Int) (A : Nat → List Int) (z : LZ) : Prop where
  si : SI X Y A (bare z.st)
  blk : ∀ i t k q, z.T i = some t → t.bk k = some q → isD X Y q = true ∧ z.st.cl q = true
  inj : ∀ i t k i' t' k' q, z.T i = some t → t.bk k = some q → z.T i' = some t' → t'.bk k' = some q → i = i' ∧ k = k'
  keys : ∀ i t k q, z.T i = some t → t.bk k = some q → 0 ≤ k ∧ k < cntX (nth t.raw 2)
  qn : z.q.Nodup
  qT : ∀ i ∈ z.q, 0 ≤ i ∧ ∃ t, z.T i.toNat = some t ∧ nth t.raw 0 = 2
  snd : ∀ i t, z.T i = some t → soundR (A i) = true ∧ t.raw.length = 18 ∧ nth t.raw 0 = nth (rdInoR (A i)).1 0 ∧ nth t.raw 2 = nth (rdInoR (A i)).1 2 ∧ nth t.raw 3 = nth (rdInoR (A i)).1 3 ∧ ∀ j, 4 ≤ j → nth t.raw j = nth (rdInoR (A i)).1 j ∨ nth t.raw j = 0
  en : ∀ i t, z.T i = some t → 0 ≤ t.en ∧ t.en ≤ 100
theorem updT_eq (T : Nat → Option TI) (i : Nat) (t : TI) : updT T i t i = some t := by unfold updT; rw [if_pos rfl]
theorem updT_ne (T : Nat → Option TI) {i j : Nat} (t : TI) (h : j ≠ i) : updT T i t j = T j := by unfold updT; rw [if_neg h]
theorem ptrs_sub {X Y : Int} (hY : 0 ≤ Y) (n : Int) {raw : List Int} (hr : raw.length = 18) (st : LS) (j : Nat) (hj : 4 ≤ j) : nth (ptrsX X Y n raw st).1 j = nth raw j ∨ nth (ptrsX X Y n raw st).1 j = 0 := by
  obtain ⟨-, q1, q2, q3, q4⟩ := ptrs_nth (X := X) hY n hr st
  by_cases h16 : j < 16
  · have e := q1 (j - 4) (by omega)
    rw [show 4 + (j - 4) = j by omega] at e
    rw [e]
    rcases (rowT_i (X := X) hY (fun _ => []) n 0).ok.sub ((raw.drop 4).take 12) st (j - 4) with h | h
    · left
      rw [show (pA X Y n raw st).1 = (rowT X Y n 0 ((raw.drop 4).take 12) st).1 from rfl, h, nth_direct hr (by omega), show 4 + (j - 4) = j by omega]
    · exact .inr h
  · by_cases h17 : j = 16
    · subst h17
      rw [q2]
      exact (sglT_i (X := X) hY (fun _ => []) n).ok.sub [nth raw 16] _ 0
    · by_cases h18 : j = 17
      · subst h18
        rw [q3]
        exact (dubT_i (X := X) hY (fun _ => []) n).ok.sub [nth raw 17] _ 0
      · right
        exact nth_out (by omega)
theorem InvZ.take {X Y : Int} (hY : 0 ≤ Y) {A : Nat → List Int} {z : LZ} (h : InvZ X Y A z) {i : Nat} (hT : z.T i = none) (hs : soundR (A i) = true) {n : Int} (h0 : 0 ≤ n) (h1 : n ≤ 100) : InvZ X Y A (takeZ X Y i (rdInoR (A i)).1 n z) := by
  have hrl := rdInoR_length (A i)
  have t := take_i hY h.si (rdInoR (A i)).1
  obtain ⟨q0, -, -, -, q4⟩ := ptrs_nth (X := X) hY (cntX (nth (rdInoR (A i)).1 2)) hrl (bare z.st)
  have hsub := ptrs_sub (X := X) hY (cntX (nth (rdInoR (A i)).1 2)) hrl (bare z.st)
  have hf := takeX_fst X Y (rdInoR (A i)).1 z.st
  rw [show ({ z.st with bk := fun _ => none } : LS) = bare z.st from rfl] at hf
  generalize hraw : (rdInoR (A i)).1 = raw at *
  have hold : ∀ {j : Nat} {u : TI}, (takeZ X Y i raw n z).T j = some u → (j = i ∧ u = ⟨(takeX X Y raw z.st).1, n, (takeX X Y raw z.st).2.bk⟩) ∨ (j ≠ i ∧ z.T j = some u) := by
    intro j u hu
    have hu2 : updT z.T i ⟨(takeX X Y raw z.st).1, n, (takeX X Y raw z.st).2.bk⟩ j = some u := hu
    by_cases hj : j = i
    · subst hj
      rw [updT_eq] at hu2
      exact .inl ⟨rfl, (Option.some.inj hu2).symm⟩
    · rw [updT_ne _ _ hj] at hu2
      exact .inr ⟨hj, hu2⟩
  have hclq : ∀ q, isD X Y q = true → z.st.cl q = true → (takeX X Y raw z.st).2.cl q = true := by
    intro q hq hc
    have e := (isD_nat hY hq).1
    have := (t.gr q.toNat (by rw [e]; exact hc)).1
    rw [e] at this
    exact this
  refine ⟨t.si, fun j u k q hu hk => ?_, fun j u k j' u' k' q hu hk hu' hk' => ?_, fun j u k q hu hk => ?_, ?_, fun j hj => ?_, fun j u hu => ?_, fun j u hu => ?_⟩
  · rcases hold hu with ⟨-, rfl⟩ | ⟨-, hu2⟩
    · obtain ⟨a, b, -⟩ := t.new k q hk
      exact ⟨a, b⟩
    · obtain ⟨a, b⟩ := h.blk j u k q hu2 hk
      exact ⟨a, hclq q a b⟩
  · rcases hold hu with ⟨rfl, rfl⟩ | ⟨hj, hu2⟩
    · rcases hold hu' with ⟨rfl, rfl⟩ | ⟨hj', hu2'⟩
      · exact ⟨rfl, t.inj k k' q hk hk'⟩
      · have a := (t.new k q hk).2.2
        have b := (h.blk j' u' k' q hu2' hk').2
        rw [a] at b; cases b
    · rcases hold hu' with ⟨rfl, rfl⟩ | ⟨hj', hu2'⟩
      · have a := (t.new k' q hk').2.2
        have b := (h.blk j u k q hu2 hk).2
        rw [a] at b; cases b
      · exact h.inj j u k j' u' k' q hu2 hk hu2' hk'
  · rcases hold hu with ⟨-, rfl⟩ | ⟨-, hu2⟩
    · have := t.keys k (by rw [show (takeX X Y raw z.st).2.bk k = some q from hk]; rfl)
      show 0 ≤ k ∧ k < cntX (nth (takeX X Y raw z.st).1 2)
      rw [hf, q0 2 (by omega)]
      exact this
    · exact h.keys j u k q hu2 hk
  · show (if nth raw 0 = 2 then z.q ++ [(i : Int)] else z.q).Nodup
    split
    · rw [List.nodup_append]
      refine ⟨h.qn, by simp, fun a ha b hb => ?_⟩
      rw [List.mem_singleton] at hb
      subst hb
      intro e
      subst e
      obtain ⟨-, u, hu, -⟩ := h.qT _ ha
      have : z.T i = some u := hu
      rw [hT] at this; cases this
    · exact h.qn
  · have hj2 : j ∈ (if nth raw 0 = 2 then z.q ++ [(i : Int)] else z.q) := hj
    have hq : j ∈ z.q → 0 ≤ j ∧ ∃ u, (takeZ X Y i raw n z).T j.toNat = some u ∧ nth u.raw 0 = 2 := by
      intro hm
      obtain ⟨a, u, hu, hk⟩ := h.qT j hm
      refine ⟨a, u, ?_, hk⟩
      show updT z.T i _ j.toNat = _
      rw [updT_ne _ _ (fun e => by rw [e, hT] at hu; cases hu)]
      exact hu
    split at hj2
    · rename_i hk2
      rw [List.mem_append, List.mem_singleton] at hj2
      rcases hj2 with hm | rfl
      · exact hq hm
      · refine ⟨Int.natCast_nonneg _, ⟨(takeX X Y raw z.st).1, n, (takeX X Y raw z.st).2.bk⟩, updT_eq _ _ _, ?_⟩
        show nth (takeX X Y raw z.st).1 0 = 2
        rw [hf, q0 0 (by omega)]
        exact hk2
    · exact hq hj2
  · rcases hold hu with ⟨rfl, rfl⟩ | ⟨-, hu2⟩
    · rw [hraw]
      refine ⟨hs, ?_, ?_, ?_, ?_, ?_⟩
      · show (takeX X Y raw z.st).1.length = 18
        rw [hf]; exact q4
      · show nth (takeX X Y raw z.st).1 0 = _
        rw [hf, q0 0 (by omega)]
      · show nth (takeX X Y raw z.st).1 2 = _
        rw [hf, q0 2 (by omega)]
      · show nth (takeX X Y raw z.st).1 3 = _
        rw [hf, q0 3 (by omega)]
      · show ∀ j, 4 ≤ j → nth (takeX X Y raw z.st).1 j = _ ∨ nth (takeX X Y raw z.st).1 j = 0
        rw [hf]; exact hsub
    · exact h.snd j u hu2
  · rcases hold hu with ⟨rfl, rfl⟩ | ⟨-, hu2⟩
    · exact ⟨h0, h1⟩
    · exact h.en j u hu2
end Go.Proofs.Ythioepdgnbdohaa

/- What a step of a look leaves alone: plain laws. -/
namespace Go.Proofs.Ythioepdgnbdohaa
set_option linter.unusedSimpArgs false
set_option linter.unusedVariables false
open Go.RowKit

/-- what was claimed, and is no block of a directory that waits (nor one of E), stays as it is -/
structure Stay (X Y : Int) (E E2 : Nat → Prop) (z z2 : LZ) : Prop where
  s : ∀ j : Nat, isD X Y j = true → z.st.cl j = true → ¬ pend z j → ¬ E j → z2.st.cl j = true ∧ ¬ pend z2 j ∧ ¬ E2 j ∧ z2.st.S j = z.st.S j
  f : ∀ j : Nat, z.st.fm j = true → z2.st.fm j = true
  t : ∀ i t, z.T i = some t → ∃ t2, z2.T i = some t2 ∧ t2.raw = t.raw ∧ t2.bk = t.bk
theorem Stay.refl (X Y : Int) (E : Nat → Prop) (z : LZ) : Stay X Y E E z z := ⟨fun j h1 h2 h3 h4 => ⟨h2, h3, h4, rfl⟩, fun j h => h, fun i t h => ⟨t, h, rfl, rfl⟩⟩
theorem Stay.trans {X Y : Int} {E1 E2 E3 : Nat → Prop} {a b c : LZ} (h : Stay X Y E1 E2 a b) (h2 : Stay X Y E2 E3 b c) : Stay X Y E1 E3 a c := by
  refine ⟨fun j h1 h3 h4 h5 => ?_, fun j hj => h2.f j (h.f j hj), fun i t ht => ?_⟩
  · obtain ⟨a1, a2, a3, a4⟩ := h.s j h1 h3 h4 h5
    obtain ⟨b1, b2, b3, b4⟩ := h2.s j h1 a1 a2 a3
    exact ⟨b1, b2, b3, b4.trans a4⟩
  · obtain ⟨t2, a1, a2, a3⟩ := h.t i t ht
    obtain ⟨t3, b1, b2, b3⟩ := h2.t i t2 a1
    exact ⟨t3, b1, b2.trans a2, b3.trans a3⟩
/-- the blocks of a directory that are still to be gone through -/
def rest (bk : Int → Option Int) (k : Nat) (j : Nat) : Prop := ∃ k' : Int, (k : Int) ≤ k' ∧ bk k' = some (j : Int)
theorem stay_take {X Y : Int} (hY : 0 ≤ Y) {A : Nat → List Int} {z : LZ} (h : InvZ X Y A z) {i : Nat} (hT : z.T i = none) (n : Int) (raw : List Int) (E : Nat → Prop) : Stay X Y E E z (takeZ X Y i raw n z) := by
  have t := take_i hY h.si raw
  refine ⟨fun j h1 h2 h3 h4 => ?_, fun j hj => ?_, fun j u hu => ?_⟩
  · obtain ⟨a, b, c⟩ := t.gr j h2
    refine ⟨a, ?_, h4, c⟩
    rintro ⟨i2, hi2, u, k, hu, hk⟩
    have hu2 : updT z.T i ⟨(takeX X Y raw z.st).1, n, (takeX X Y raw z.st).2.bk⟩ i2.toNat = some u := hu
    have hi3 : i2 ∈ (if nth raw 0 = 2 then z.q ++ [(i : Int)] else z.q) := hi2
    by_cases hi : i2.toNat = i
    · rw [hi, updT_eq] at hu2
      obtain rfl := Option.some.inj hu2
      have := (t.new k _ hk).2.2
      rw [h2] at this; cases this
    · rw [updT_ne _ _ hi] at hu2
      split at hi3
      · rw [List.mem_append, List.mem_singleton] at hi3
        rcases hi3 with h5 | rfl
        · exact h3 ⟨i2, h5, u, k, hu2, hk⟩
        · exact hi rfl
      · exact h3 ⟨i2, hi3, u, k, hu2, hk⟩
  · have := (t.gr j (h.si.fc j hj)).2.1
    show (takeX X Y raw z.st).2.fm j = true
    rw [this]; exact hj
  · refine ⟨u, ?_, rfl, rfl⟩
    show updT z.T i _ j = _
    rw [updT_ne _ _ (fun e => by subst e; rw [hT] at hu; cases hu)]
    exact hu
theorem stay_en {X Y : Int} {z : LZ} {i : Nat} {t : TI} (ht : z.T i = some t) (n : Int) (E : Nat → Prop) : Stay X Y E E z { z with T := updT z.T i { t with en := n } } := by
  have hT : ∀ j u, updT z.T i { t with en := n } j = some u → ∃ u0, z.T j = some u0 ∧ u.raw = u0.raw ∧ u.bk = u0.bk := by
    intro j u hu
    by_cases hj : j = i
    · subst hj
      rw [updT_eq] at hu
      obtain rfl := Option.some.inj hu
      exact ⟨t, ht, rfl, rfl⟩
    · rw [updT_ne _ _ hj] at hu
      exact ⟨u, hu, rfl, rfl⟩
  refine ⟨fun j h1 h2 h3 h4 => ⟨h2, ?_, h4, rfl⟩, fun j hj => hj, fun j u hu => ?_⟩
  · rintro ⟨i2, hi2, u, k, hu, hk⟩
    obtain ⟨u0, h5, h6, h7⟩ := hT _ u hu
    exact h3 ⟨i2, hi2, u0, k, h5, by rw [← h7]; exact hk⟩
  · by_cases hj : j = i
    · subst hj
      rw [ht] at hu
      obtain rfl := Option.some.inj hu
      exact ⟨_, updT_eq _ _ _, rfl, rfl⟩
    · exact ⟨u, by show updT z.T i _ j = _; rw [updT_ne _ _ hj]; exact hu, rfl, rfl⟩
theorem InvZ.enu {X Y : Int} {A : Nat → List Int} {z : LZ} (h : InvZ X Y A z) {i : Nat} {t : TI} (ht : z.T i = some t) {n : Int} (h0 : 0 ≤ n) (h1 : n ≤ 100) : InvZ X Y A { z with T := updT z.T i { t with en := n } } := by
  have hT : ∀ j u, updT z.T i { t with en := n } j = some u → ∃ u0, z.T j = some u0 ∧ u.raw = u0.raw ∧ u.bk = u0.bk ∧ (u.en = u0.en ∨ u.en = n) := by
    intro j u hu
    by_cases hj : j = i
    · subst hj
      rw [updT_eq] at hu
      obtain rfl := Option.some.inj hu
      exact ⟨t, ht, rfl, rfl, .inr rfl⟩
    · rw [updT_ne _ _ hj] at hu
      exact ⟨u, hu, rfl, rfl, .inl rfl⟩
  refine ⟨h.si, fun j u k q hu hk => ?_, fun j u k j' u' k' q hu hk hu' hk' => ?_, fun j u k q hu hk => ?_, h.qn, fun j hj => ?_, fun j u hu => ?_, fun j u hu => ?_⟩
  · obtain ⟨u0, a, b, c, -⟩ := hT j u hu
    exact h.blk j u0 k q a (by rw [← c]; exact hk)
  · obtain ⟨u0, a, b, c, -⟩ := hT j u hu
    obtain ⟨u0', a', b', c', -⟩ := hT j' u' hu'
    exact h.inj j u0 k j' u0' k' q a (by rw [← c]; exact hk) a' (by rw [← c']; exact hk')
  · obtain ⟨u0, a, b, c, -⟩ := hT j u hu
    rw [b]
    exact h.keys j u0 k q a (by rw [← c]; exact hk)
  · obtain ⟨a, u, hu, hk⟩ := h.qT j hj
    refine ⟨a, ?_⟩
    by_cases hji : j.toNat = i
    · refine ⟨_, by show updT z.T i _ j.toNat = _; rw [hji, updT_eq], ?_⟩
      rw [hji, ht] at hu
      obtain rfl := Option.some.inj hu
      exact hk
    · exact ⟨u, by show updT z.T i _ j.toNat = _; rw [updT_ne _ _ hji]; exact hu, hk⟩
  · obtain ⟨u0, a, b, c, -⟩ := hT j u hu
    rw [b]
    exact h.snd j u0 a
  · obtain ⟨u0, a, b, c, d⟩ := hT j u hu
    rcases d with d | d
    · rw [d]; exact h.en j u0 a
    · rw [d]; exact ⟨h0, h1⟩
/-- what enter does -/
theorem enter_i {X Y : Int} (hY : 0 ≤ Y) {A : Nat → List Int} {z z2 : LZ} (h : InvZ X Y A z) {i : Nat} (he : enterZ X Y A i z = some z2) (E : Nat → Prop) : InvZ X Y A z2 ∧ Stay X Y E E z z2 ∧ (∀ j : Int, (∃ t, z.T j.toNat = some t) → j ∉ z.q → 0 ≤ j → j ∉ z2.q) ∧ ∀ j : Nat, z.st.cl j = true → z2.st.S j = z.st.S j := by
  unfold enterZ at he
  split at he
  · rename_i t ht
    split at he
    · cases he
    · rename_i hc
      obtain rfl := Option.some.inj he
      have := h.en i t ht
      exact ⟨h.enu ht (by omega) (by have := fun e => hc (.inr e); omega), stay_en ht _ E, fun _ _ hj _ => hj, fun _ _ => rfl⟩
  · rename_i ht
    split at he
    · rename_i hs
      obtain rfl := Option.some.inj he
      refine ⟨h.take hY ht hs (by omega) (by omega), stay_take hY h ht 1 _ E, fun j hj hq h0 hq2 => ?_, fun j hj => ((take_i hY h.si (rdInoR (A i)).1).gr j hj).2.2⟩
      have hq3 : j ∈ (if nth (rdInoR (A i)).1 0 = 2 then z.q ++ [(i : Int)] else z.q) := hq2
      split at hq3
      · rw [List.mem_append, List.mem_singleton] at hq3
        rcases hq3 with h5 | rfl
        · exact hq h5
        · obtain ⟨u, hu⟩ := hj
          have : z.T i = some u := hu
          rw [ht] at this; cases this
      · exact hq hq3
    · cases he
/-- what a slot does; p: block k of the directory at hand -/
structure SlotI (X Y : Int) (A : Nat → List Int) (d : Nat) (E E2 : Nat → Prop) (z z2 : LZ) : Prop where
  inv : InvZ X Y A z2
  st : Stay X Y E E2 z z2
  q : (d : Int) ∉ z2.q
theorem rdPtr_zl : rdPtr (zl 128) = List.replicate 32 0 := by decide +kernel
theorem subP_zl (c : List Int) : subP (zl 128) c := by
  intro i
  right
  rw [rdPtr_zl]
  unfold nth
  rw [List.getElem?_replicate]
  split <;> rfl
theorem InvZ.wipe {X Y : Int} {A : Nat → List Int} {z : LZ} (h : InvZ X Y A z) {p : Nat} (hc : z.st.cl p = true) : InvZ X Y A (wipeZ p z) := by
  refine ⟨⟨h.si.fc, h.si.cd, fun k q hk => (by cases hk), fun k k' q hk => (by cases hk), fun j hj => ?_, fun j hj => ?_, fun j hj => ?_⟩, h.blk, h.inj, h.keys, h.qn, h.qT, h.snd, h.en⟩
  · show updS z.st.S p (zl 128) j = A j
    rw [updS_ne _ _ (fun e => by subst e; rw [show z.st.cl j = false from hj] at hc; cases hc)]
    exact h.si.un j hj
  · show (updS z.st.S p (zl 128) j).length = 128 ∧ Bytes (updS z.st.S p (zl 128) j)
    by_cases hjp : j = p
    · subst hjp; rw [updS_eq]; exact ⟨zl_length _, bytes_zl _⟩
    · rw [updS_ne _ _ hjp]; exact h.si.ln j hj
  · show subP (updS z.st.S p (zl 128) j) _
    by_cases hjp : j = p
    · subst hjp; rw [updS_eq]; exact subP_zl _
    · rw [updS_ne _ _ hjp]; exact h.si.sub j hj
theorem slot_i {X Y : Int} (hY : 0 ≤ Y) {A : Nat → List Int} {d : Nat} {t : TI} {zn : LZ × (ByteArray → Bool)} (h : InvZ X Y A zn.1) (hT : ∃ t0, zn.1.T d = some t0 ∧ t0.bk = t.bk) (hq : (d : Int) ∉ zn.1.q) {k : Nat} {p : Int} (hk : t.bk k = some p) :
    SlotI X Y A d (rest t.bk k) (rest t.bk (k + 1)) zn.1 (slotZ X Y A p.toNat zn).1 := by
  obtain ⟨t0, ht0, hb0⟩ := hT
  obtain ⟨hd, hc⟩ := h.blk d t0 k p ht0 (by rw [hb0]; exact hk)
  have hp := (isD_nat hY hd).1
  have hmono : ∀ j, rest t.bk (k + 1) j → rest t.bk k j := fun j ⟨k', h1, h2⟩ => ⟨k', by omega, h2⟩
  have hpk : ∀ j : Nat, ¬ rest t.bk k j → j ≠ p.toNat := fun j hj e => hj ⟨k, Int.le_refl _, by rw [hk, e, hp]⟩
  have hstay : Stay X Y (rest t.bk k) (rest t.bk (k + 1)) zn.1 zn.1 := ⟨fun j h1 h2 h3 h4 => ⟨h2, h3, fun h5 => h4 (hmono j h5), rfl⟩, fun j h => h, fun i t h => ⟨t, h, rfl, rfl⟩⟩
  have hwipe : SlotI X Y A d (rest t.bk k) (rest t.bk (k + 1)) zn.1 (wipeZ p.toNat zn.1) := by
    refine ⟨h.wipe (by rw [hp]; exact hc), ⟨fun j h1 h2 h3 h4 => ⟨h2, h3, fun h5 => h4 (hmono j h5), ?_⟩, fun j h => h, fun i t h => ⟨t, h, rfl, rfl⟩⟩, hq⟩
    show updS zn.1.st.S p.toNat (zl 128) j = _
    exact updS_ne _ _ (hpk j h4)
  unfold slotZ
  split
  · exact ⟨h, hstay, hq⟩
  · split
    · rename_i h2
      obtain ⟨-, -, h3⟩ := h2
      generalize (rdSloR (zn.1.st.S p.toNat)).1.toNat = i at *
      generalize (rdSloR (zn.1.st.S p.toNat)).2.1 = nm at *
      unfold enterR at h3 ⊢
      split at h3
      · cases h3
      · rename_i h4
        rw [if_neg h4]
        cases he : enterZ X Y A i zn.1 with
        | none => rw [he] at h3; cases h3
        | some z2 =>
          obtain ⟨a, b, c, -⟩ := enter_i hY h he (rest t.bk k)
          exact ⟨a, ⟨fun j h1 h2 h3 h4 => by
            obtain ⟨x1, x2, x3, x4⟩ := b.s j h1 h2 h3 h4
            exact ⟨x1, x2, fun h5 => h4 (hmono j h5), x4⟩, b.f, b.t⟩, c d ⟨t0, ht0⟩ hq (Int.natCast_nonneg _)⟩
    · exact hwipe
theorem dirZ_i {X Y : Int} (hY : 0 ≤ Y) {A : Nat → List Int} {d : Nat} {t : TI} : ∀ (m k : Nat) (zn : LZ × (ByteArray → Bool)), InvZ X Y A zn.1 → (∃ t0, zn.1.T d = some t0 ∧ t0.bk = t.bk) → (d : Int) ∉ zn.1.q → SlotI X Y A d (rest t.bk k) (rest t.bk (k + m)) zn.1 (dirZ X Y A t.bk m k zn).1
  | 0, k, zn, h, hT, hq => ⟨h, Stay.refl _ _ _ _, hq⟩
  | m + 1, k, zn, h, hT, hq => by
    show SlotI X Y A d _ _ zn.1 (dirZ X Y A t.bk m (k + 1) _).1
    cases hk : t.bk k with
    | none =>
      have ih := dirZ_i hY m (k + 1) zn h hT hq
      have hst : Stay X Y (rest t.bk k) (rest t.bk (k + 1)) zn.1 zn.1 := ⟨fun j h1 h2 h3 h4 => ⟨h2, h3, fun ⟨k', h5, h6⟩ => h4 ⟨k', by omega, h6⟩, rfl⟩, fun j h => h, fun i t h => ⟨t, h, rfl, rfl⟩⟩
      exact ⟨ih.inv, by rw [show k + (m + 1) = k + 1 + m by omega]; exact hst.trans ih.st, ih.q⟩
    | some p =>
      have hs := slot_i hY h hT hq hk
      obtain ⟨t0, ht0, hb0⟩ := hT
      obtain ⟨t1, ht1, -, hb1⟩ := hs.st.t d t0 ht0
      have ih := dirZ_i hY m (k + 1) (slotZ X Y A p.toNat zn) hs.inv ⟨t1, ht1, hb1.trans hb0⟩ hs.q
      exact ⟨ih.inv, by rw [show k + (m + 1) = k + 1 + m by omega]; exact hs.st.trans ih.st, ih.q⟩
def noE (_ : Nat) : Prop := False
theorem InvZ.pop {X Y : Int} {A : Nat → List Int} {z : LZ} (h : InvZ X Y A z) {i : Int} {r : List Int} (hq : z.q = i :: r) : InvZ X Y A { z with q := r } :=
  ⟨h.si, h.blk, h.inj, h.keys, by have := h.qn; rw [hq] at this; exact (List.nodup_cons.1 this).2, fun j hj => h.qT j (by rw [hq]; exact List.mem_cons_of_mem _ hj), h.snd, h.en⟩
theorem dirOf_i {X Y : Int} (hY : 0 ≤ Y) {A : Nat → List Int} {z : LZ} (h : InvZ X Y A z) {i : Int} {r : List Int} (hq : z.q = i :: r) :
    InvZ X Y A (dirOf X Y A i.toNat { z with q := r }) ∧ Stay X Y noE noE z (dirOf X Y A i.toNat { z with q := r }) := by
  obtain ⟨h0, t, ht, -⟩ := h.qT i (by rw [hq]; exact List.mem_cons_self)
  have hp := h.pop hq
  have hir : i ∉ r := by have := h.qn; rw [hq] at this; exact (List.nodup_cons.1 this).1
  have hi : (i.toNat : Int) = i := by omega
  have hd := dirZ_i hY (t := t) (cntX (nth t.raw 2)).toNat 0 ({ z with q := r }, fun _ => false) hp ⟨t, ht, rfl⟩ (by rw [hi]; exact hir)
  have e : dirOf X Y A i.toNat { z with q := r } = (dirZ X Y A t.bk (cntX (nth t.raw 2)).toNat 0 ({ z with q := r }, fun _ => false)).1 := by
    unfold dirOf
    show (match z.T i.toNat with | none => _ | some t => _) = _
    rw [ht]
  rw [e]
  refine ⟨hd.inv, ?_⟩
  have s1 : Stay X Y noE (rest t.bk 0) z { z with q := r } := by
    refine ⟨fun j h1 h2 h3 h4 => ⟨h2, ?_, ?_, rfl⟩, fun j h => h, fun i t h => ⟨t, h, rfl, rfl⟩⟩
    · rintro ⟨i2, hi2, u, k, hu, hk⟩
      exact h3 ⟨i2, by rw [hq]; exact List.mem_cons_of_mem _ hi2, u, k, hu, hk⟩
    · rintro ⟨k', h5, h6⟩
      exact h3 ⟨i, by rw [hq]; exact List.mem_cons_self, t, k', ht, h6⟩
  have s2 := hd.st
  rw [Nat.zero_add] at s2
  have s3 := s1.trans s2
  refine ⟨fun j h1 h2 h3 h4 => ?_, s3.f, s3.t⟩
  obtain ⟨a, b, c, d⟩ := s3.s j h1 h2 h3 h4
  exact ⟨a, b, fun h => h, d⟩
theorem loop_i {X Y : Int} (hY : 0 ≤ Y) {A : Nat → List Int} : ∀ (f : Nat) (z : LZ), InvZ X Y A z → InvZ X Y A (loopZ X Y A f z) ∧ Stay X Y noE noE z (loopZ X Y A f z)
  | 0, z, h => ⟨h, Stay.refl _ _ _ _⟩
  | f + 1, z, h => by
    cases hq : z.q with
    | nil => rw [loopZ_nil _ _ _ _ _ hq]; exact ⟨h, Stay.refl _ _ _ _⟩
    | cons i r =>
      rw [loopZ_cons _ _ _ _ _ _ _ hq]
      obtain ⟨a, b⟩ := dirOf_i hY h hq
      obtain ⟨c, d⟩ := loop_i hY f _ a
      exact ⟨c, b.trans d⟩
end Go.Proofs.Ythioepdgnbdohaa

/- Two looks side by side: plain laws. -/
namespace Go.Proofs.Ythioepdgnbdohaa
set_option linter.unusedSimpArgs false
set_option linter.unusedVariables false
open Go.RowKit

/-- an inode's sector as a look has it in the end -/
noncomputable def inoW (ze : LZ) (i : Nat) : List Int := match ze.T i with | none => zl 128 | some t => (inoR (t.raw.set 1 t.en)).1
/-- what two looks have in common: A and A' are the two images, ze is what the first look came to, W its sectors; allw: all inodes and all firm sectors of the second image are already as in W -/
structure Two (X Y : Int) (A A' W : Nat → List Int) (ze : LZ) (allw : Prop) : Prop where
  Y0 : 0 ≤ Y
  ino : ∀ i : Nat, 1 ≤ i → (i : Int) ≤ Y → (A' i = A i ∨ A' i = inoW ze i) ∧ (allw → A' i = inoW ze i)
  inv : InvZ X Y A ze
/-- how the first look stands to its end -/
structure Fin (X Y : Int) (A' W : Nat → List Int) (ze : LZ) (allw : Prop) (E : Nat → Prop) (z : LZ) : Prop where
  s : ∀ j : Nat, isD X Y j = true → z.st.cl j = true → ¬ pend z j → ¬ E j → z.st.S j = W j
  f : ∀ j : Nat, z.st.fm j = true → allw → A' j = W j
  t : ∀ i t, z.T i = some t → ∃ te, ze.T i = some te ∧ te.raw = t.raw ∧ te.bk = t.bk
theorem Fin.back {X Y : Int} {A' W : Nat → List Int} {ze : LZ} {allw : Prop} {E E2 : Nat → Prop} {z z2 : LZ} (h : Fin X Y A' W ze allw E2 z2) (hs : Stay X Y E E2 z z2) : Fin X Y A' W ze allw E z := by
  refine ⟨fun j h1 h2 h3 h4 => ?_, fun j hj ha => h.f j (hs.f j hj) ha, fun i t ht => ?_⟩
  · obtain ⟨a, b, c, d⟩ := hs.s j h1 h2 h3 h4
    rw [← d]
    exact h.s j h1 a b c
  · obtain ⟨t2, a, b, c⟩ := hs.t i t ht
    obtain ⟨te, d, e, f⟩ := h.t i t2 a
    exact ⟨te, d, e.trans b, f.trans c⟩
/-- the two looks stand side by side -/
structure RZ (X Y : Int) (A' W : Nat → List Int) (allw : Prop) (z z' : LZ) : Prop where
  sd : Sd X Y allw W A' z.st.fm (bare z.st) (bare z'.st)
  q : z'.q = z.q
  n : ∀ i, z.T i = none → z'.T i = none
  t : ∀ i t, z.T i = some t → ∃ t', z'.T i = some t' ∧ t'.bk = t.bk ∧ t'.en = t.en ∧ (∀ j, j ≠ 1 → nth t'.raw j = nth t.raw j) ∧ t'.raw.length = 18
theorem SI.nfm {X Y : Int} {A : Nat → List Int} {s : LS} (h : SI X Y A s) {j : Nat} (hc : s.cl j = false) : s.fm j = false := by
  cases hb : s.fm j with
  | false => rfl
  | true => have := h.fc j hb; rw [hc] at this; cases this
/-- an inode is taken up by both -/
theorem take_sim {X Y : Int} (hY : 0 ≤ Y) {A A' W : Nat → List Int} {allw : Prop} {st st' : LS} (hi : SI X Y A (bare st)) (hR : Sd X Y allw W A' st.fm (bare st) (bare st')) {raw raw' : List Int} (hr : Raw2 allw (takeX X Y raw st).1 raw raw')
    (h1 : ∀ j : Nat, (takeX X Y raw st).2.fm j = true → st.fm j = false → (∀ k, (takeX X Y raw st).2.bk k ≠ some (j : Int)) → (takeX X Y raw st).2.S j = W j ∧ (allw → A' j = W j))
    (h2 : nth raw 0 ≠ 2 → ∀ p, (takeX X Y raw st).2.bk (cntX (nth raw 2) - 1) = some p → (takeX X Y raw st).2.S p.toNat = W p.toNat) :
    (∀ i, i ≠ 1 → nth (takeX X Y raw' st').1 i = nth (takeX X Y raw st).1 i) ∧ (takeX X Y raw' st').1.length = 18 ∧ (takeX X Y raw' st').2.bk = (takeX X Y raw st).2.bk ∧ Sd X Y allw W A' (takeX X Y raw st).2.fm (bare (takeX X Y raw st).2) (bare (takeX X Y raw' st').2) := by
  have htk := take_i hY hi raw
  obtain ⟨i, d, g⟩ := ptrs_i hY (cntX (nth raw 2)) raw hi
  have hf := takeX_fst X Y raw st
  have hf' := takeX_fst X Y raw' st'
  have hbk := takeX_bk X Y raw st
  have hbk' := takeX_bk X Y raw' st'
  rw [hr.size] at hf' hbk'
  change (takeX X Y raw st).1 = (ptrsX X Y (cntX (nth raw 2)) raw (bare st)).1 at hf
  change (takeX X Y raw' st').1 = (ptrsX X Y (cntX (nth raw 2)) raw' (bare st')).1 at hf'
  change (takeX X Y raw st).2.bk = (ptrsX X Y (cntX (nth raw 2)) raw (bare st)).2.bk at hbk
  change (takeX X Y raw' st').2.bk = (ptrsX X Y (cntX (nth raw 2)) raw' (bare st')).2.bk at hbk'
  obtain ⟨q0, -, -, -, q4⟩ := ptrs_nth (X := X) hY (cntX (nth raw 2)) hr.len (bare st)
  obtain ⟨q0', -, -, -, q4'⟩ := ptrs_nth (X := X) hY (cntX (nth raw 2)) hr.len' (bare st')
  have hst2 : (takeX X Y raw st).2 = if nth raw 0 = 2 then firmX (cntX (nth raw 2)) (ptrsX X Y (cntX (nth raw 2)) raw (bare st)).2 else tailX (cntX (nth raw 2)) (nth raw 2) (ptrsX X Y (cntX (nth raw 2)) raw (bare st)).2 := by
    unfold takeX bare
    simp only
    split <;> rfl
  have hst2' : (takeX X Y raw' st').2 = if nth raw 0 = 2 then firmX (cntX (nth raw 2)) (ptrsX X Y (cntX (nth raw 2)) raw' (bare st')).2 else tailX (cntX (nth raw 2)) (nth raw 2) (ptrsX X Y (cntX (nth raw 2)) raw' (bare st')).2 := by
    unfold takeX bare
    simp only [hr.kind, hr.size]
    split <;> rfl
  rw [hf] at hr
  rw [hbk] at h1 h2
  -- tables are as they are in the end
  have hP : Pro allw W A' st.fm (ptrsX X Y (cntX (nth raw 2)) raw (bare st)).2 := by
    intro j hj hj0
    have hnb : ∀ k, (ptrsX X Y (cntX (nth raw 2)) raw (bare st)).2.bk k ≠ some (j : Int) := fun k e => by
      have := (i.bk k _ e).2.2
      rw [hj] at this; cases this
    have hfm : (takeX X Y raw st).2.fm j = true := by
      rw [hst2]
      split
      · exact firmX_mono hj
      · unfold tailX
        split
        · exact hj
        · split <;> exact hj
    obtain ⟨a, b⟩ := h1 j hfm hj0 hnb
    refine ⟨?_, b⟩
    rw [← a, hst2]
    split
    · rfl
    · unfold tailX
      split
      · rfl
      · rename_i p hp
        split
        · rfl
        · have hpn := (isD_nat hY (i.bk _ p hp).1).1
          show _ = updS _ _ _ _
          rw [updS_ne _ _ (fun e => hnb _ (by rw [hp, e, hpn]))]
  obtain ⟨c1, c2⟩ := ptrs_sim hY (cntX (nth raw 2)) hR hr hP
  refine ⟨fun k hk => ?_, by rw [hf']; exact q4', by rw [hbk, hbk', c2.bk], ?_⟩
  · rw [hf, hf']
    by_cases h4 : 4 ≤ k
    · exact c1 k h4
    · rw [q0 k (by omega), q0' k (by omega)]
      have hk3 : k = 0 ∨ k = 2 ∨ k = 3 := by omega
      rcases hk3 with rfl | rfl | rfl
      · exact hr.kind
      · exact hr.size
      · exact hr.made
  · have hT2 := hst2
    have hT2' := hst2'
    have hfc := htk.si.fc
    have hcl2 : ∀ q, (takeX X Y raw st).2.cl q = (ptrsX X Y (cntX (nth raw 2)) raw (bare st)).2.cl q := by
      intro q
      rw [hst2]
      split
      · rfl
      · unfold tailX
        split
        · rfl
        · split <;> rfl
    by_cases hk : nth raw 0 = 2
    · rw [if_pos hk] at hT2 hT2'
      rw [hT2, hT2']
      refine ⟨c2.cl, ?_, rfl, c2.S, c2.un, fun j hj => ?_, fun j hj => ?_⟩
      · show (firmX _ _).fm = (firmX _ _).fm
        unfold firmX
        simp only [c2.fm, c2.bk]
      · have := hfc j (by rw [hT2]; exact hj)
        have h9 : (takeX X Y raw st).2.cl j = true := this
        rw [hcl2] at h9
        exact h9
      · have := hfc j (by rw [hT2]; exact hj)
        have h9 : (takeX X Y raw st).2.cl j = true := this
        rw [hcl2] at h9
        exact h9
    · rw [if_neg hk] at hT2 hT2'
      have h2' := h2 hk
      rw [hT2] at h2'
      rw [hT2, hT2']
      cases hb : (ptrsX X Y (cntX (nth raw 2)) raw (bare st)).2.bk (cntX (nth raw 2) - 1) with
      | none =>
        have hb' : (ptrsX X Y (cntX (nth raw 2)) raw' (bare st')).2.bk (cntX (nth raw 2) - 1) = none := by rw [c2.bk]; exact hb
        unfold tailX
        rw [hb, hb']
        exact ⟨c2.cl, c2.fm, rfl, c2.S, c2.un, fun j hj => c2.fc j hj, c2.fc⟩
      | some p =>
        have hb' : (ptrsX X Y (cntX (nth raw 2)) raw' (bare st')).2.bk (cntX (nth raw 2) - 1) = some p := by rw [c2.bk]; exact hb
        have h3 := h2' p hb
        have hpd := (i.bk _ p hb).1
        have hpc := (i.bk _ p hb).2.1
        have hpn := (isD_nat hY hpd).1
        unfold tailX at h3 ⊢
        rw [hb] at h3
        rw [hb, hb']
        simp only at h3 ⊢
        by_cases hz : nth raw 2 % 128 = 0
        · rw [if_pos hz, if_pos hz]
          exact ⟨c2.cl, c2.fm, rfl, c2.S, c2.un, fun j hj => c2.fc j hj, c2.fc⟩
        · rw [if_neg hz] at h3
          rw [if_neg hz, if_neg hz]
          have hln := (i.ln p.toNat (by rw [hpn]; exact hpd)).1
          have hk128 : (nth raw 2 % 128).toNat ≤ 128 := by omega
          have h3' : wipeL ((ptrsX X Y (cntX (nth raw 2)) raw (bare st)).2.S p.toNat) (nth raw 2 % 128).toNat = W p.toNat := by
            rw [← h3]
            show _ = updS _ _ _ _
            rw [updS_eq]
          refine ⟨c2.cl, c2.fm, rfl, fun j => ?_, fun j hj hcj => ?_, fun j hj => c2.fc j hj, c2.fc⟩
          · by_cases hjp : j = p.toNat
            · subst hjp
              left
              show updS _ _ _ _ = updS _ _ _ _
              rw [updS_eq, updS_eq]
              rcases c2.S p.toNat with e | e
              · rw [e]
              · rw [e, ← h3', wipeL_twice hln hk128]
            · show updS _ _ _ _ = updS _ _ _ _ ∨ updS _ _ _ _ = _
              rw [updS_ne _ _ hjp, updS_ne _ _ hjp]
              exact c2.S j
          · have hne : j ≠ p.toNat := fun e => by
              subst e
              have h9 : (ptrsX X Y (cntX (nth raw 2)) raw (bare st)).2.cl p.toNat = false := hcj
              rw [hpn, hpc] at h9; cases h9
            show updS _ _ _ _ = _ ∧ Bytes (updS _ _ _ _) ∧ (¬ allw → subP _ (updS _ _ _ _))
            rw [updS_ne _ _ hne, updS_ne _ _ hne]
            exact c2.un j hj hcj
/-- a sound inode that is pruned and told its links is one -/
theorem pruned_may {l o : List Int} (h : InoMay l) (h0 : nth l 0 ≠ 0) (hl : o.length = 18) (e0 : nth o 0 = nth l 0) (e2 : nth o 2 = nth l 2) (e3 : nth o 3 = nth l 3) (hs : ∀ j, 4 ≤ j → nth o j = nth l j ∨ nth o j = 0) {n : Int} (hn0 : 0 ≤ n) (hn1 : n ≤ 100) : InoMay (o.set 1 n) := by
  have hset : ∀ j, j ≠ 1 → nth (o.set 1 n) j = nth o j := fun j hj => by
    unfold nth; rw [List.getElem?_set_ne (Ne.symm hj)]
  have hset1 : nth (o.set 1 n) 1 = n := by
    unfold nth; rw [List.getElem?_set_self (by omega)]; rfl
  unfold InoMay at h ⊢
  rw [if_neg h0] at h
  rw [if_neg (by rw [hset 0 (by omega), e0]; exact h0)]
  obtain ⟨⟨a, -, b, c⟩, d, e⟩ := h
  refine ⟨⟨by rw [hset 0 (by omega), e0]; exact a, by rw [hset1]; exact ⟨hn0, hn1⟩, by rw [hset 2 (by omega), e2]; exact b, by rw [hset 3 (by omega), e3]; exact c⟩, fun j h4 h18 => ?_, by rw [hset 0 (by omega), e0, hset 2 (by omega), e2]; exact e⟩
  rw [hset j (by omega)]
  rcases hs j h4 with h | h
  · rw [h]; exact d j h4 h18
  · rw [h]; omega
theorem sound_may {s : List Int} (h : soundR s = true) : InoMay (rdInoR s).1 ∧ nth (rdInoR s).1 0 ≠ 0 := by
  unfold soundR at h
  simp only [Bool.and_eq_true, decide_eq_true_eq, Bool.not_eq_true', decide_eq_false_iff_not] at h
  exact ⟨(ino_one h.1).1, h.2⟩
theorem nth_set_ne (o : List Int) (n : Int) {j : Nat} (hj : j ≠ 1) : nth (o.set 1 n) j = nth o j := by unfold nth; rw [List.getElem?_set_ne (Ne.symm hj)]
/-- an inode that is taken up in the end reads back -/
theorem inoW_reads {X Y : Int} {A : Nat → List Int} {ze : LZ} (h : InvZ X Y A ze) {i : Nat} {t : TI} (ht : ze.T i = some t) : rdInoR (inoW ze i) = (t.raw.set 1 t.en, 0) ∧ InoMay (t.raw.set 1 t.en) ∧ nth t.raw 0 ≠ 0 := by
  obtain ⟨hs, hl, e0, e2, e3, hsb⟩ := h.snd i t ht
  obtain ⟨n0, n1⟩ := h.en i t ht
  obtain ⟨m1, m2⟩ := sound_may hs
  have hm := pruned_may m1 m2 hl e0 e2 e3 hsb n0 n1
  have hlen : (t.raw.set 1 t.en).length = 18 := by rw [List.length_set]; exact hl
  have hw : inoW ze i = inoSec (t.raw.set 1 t.en) := by
    unfold inoW
    rw [ht]
    show (inoR (t.raw.set 1 t.en)).1 = _
    rw [inoR_yes hm]
  rw [hw]
  exact ⟨inoSec_reads hlen hm, hm, by rw [e0]; exact m2⟩
/-- the second image's inode, where the first one's is taken up -/
theorem raw_two {X Y : Int} {A A' W : Nat → List Int} {ze : LZ} {allw : Prop} (h : Two X Y A A' W ze allw) {i : Nat} (h1 : 1 ≤ i) (hi : (i : Int) ≤ Y) (hs : soundR (A i) = true) {t : TI} (ht : ze.T i = some t) :
    soundR (A' i) = true ∧ Raw2 allw t.raw (rdInoR (A i)).1 (rdInoR (A' i)).1 := by
  have hl := rdInoR_length (A i)
  have hl' := rdInoR_length (A' i)
  obtain ⟨a, b⟩ := h.ino i h1 hi
  obtain ⟨r1, r2, r3⟩ := inoW_reads h.inv ht
  obtain ⟨-, -, e0, e2, e3, hsb⟩ := h.inv.snd i t ht
  by_cases hw : A' i = inoW ze i
  · rw [hw, r1]
    refine ⟨by unfold soundR; rw [r1]; simp only [nth_set_ne _ _ (show (0 : Nat) ≠ 1 by omega)]; simp [r3], hl, by have := (h.inv.snd i t ht).2.1; simp [this], by rw [nth_set_ne _ _ (by omega), e0], by rw [nth_set_ne _ _ (by omega), e2], by rw [nth_set_ne _ _ (by omega), e3], fun j h4 h18 => ?_⟩
    rw [nth_set_ne _ _ (by omega)]
    refine ⟨?_, fun _ => rfl⟩
    rcases hsb j h4 with h | h
    · exact .inl h
    · exact .inr ⟨h, h⟩
  · have ha : A' i = A i := a.resolve_right hw
    rw [ha]
    exact ⟨hs, hl, hl, rfl, rfl, rfl, fun j h4 h18 => ⟨.inl rfl, fun hh => absurd (b hh) hw⟩⟩
/-- an inode that is not sound in the first image is none in the second -/
theorem unsound_two {X Y : Int} {A A' W : Nat → List Int} {ze : LZ} {allw : Prop} (h : Two X Y A A' W ze allw) {i : Nat} (h1 : 1 ≤ i) (hi : (i : Int) ≤ Y) (hs : soundR (A i) = false) : soundR (A' i) = false := by
  obtain ⟨a, b⟩ := h.ino i h1 hi
  rcases a with a | a
  · rw [a]; exact hs
  · rw [a]
    unfold inoW
    cases ht : ze.T i with
    | some t => have := (h.inv.snd i t ht).1; rw [hs] at this; cases this
    | none =>
      simp only
      unfold soundR
      rw [ino_zero]
      decide
end Go.Proofs.Ythioepdgnbdohaa

/- Two looks side by side, to the end: plain laws. -/
namespace Go.Proofs.Ythioepdgnbdohaa
set_option linter.unusedSimpArgs false
set_option linter.unusedVariables false
open Go.RowKit

theorem enter_sim {X Y : Int} {A A' W : Nat → List Int} {ze : LZ} {allw : Prop} (h2 : Two X Y A A' W ze allw) {z z' : LZ} (hI : InvZ X Y A z) (hR : RZ X Y A' W allw z z') {i : Nat} (h1 : 1 ≤ i) (hi : (i : Int) ≤ Y) {E : Nat → Prop} (hE : ∀ j, E j → z.st.cl j = true) :
    (∀ z2, enterZ X Y A i z = some z2 → Fin X Y A' W ze allw E z2 → ∃ z2', enterZ X Y A' i z' = some z2' ∧ RZ X Y A' W allw z2 z2') ∧ (enterZ X Y A i z = none → enterZ X Y A' i z' = none) := by
  have hY := h2.Y0
  unfold enterZ
  cases ht : z.T i with
  | some t =>
    obtain ⟨t', ht', hb, he, hr, hl⟩ := hR.t i t ht
    rw [ht']
    simp only
    rw [hr 0 (by omega), he]
    by_cases hc : nth t.raw 0 = 2 ∨ t.en = 100
    · rw [if_pos hc, if_pos hc]
      exact ⟨fun z2 h => (by cases h), fun _ => rfl⟩
    · rw [if_neg hc, if_neg hc]
      refine ⟨fun z2 h hF => ?_, fun h => by cases h⟩
      obtain rfl := Option.some.inj h
      refine ⟨_, rfl, hR.sd, hR.q, fun j hj => ?_, fun j u hu => ?_⟩
      · have hji : j ≠ i := fun e => by
          subst e
          have : updT z.T j _ j = none := hj
          rw [updT_eq] at this; cases this
        show updT z'.T i _ j = none
        rw [updT_ne _ _ hji]
        have : updT z.T i _ j = none := hj
        rw [updT_ne _ _ hji] at this
        exact hR.n j this
      · by_cases hji : j = i
        · subst hji
          have hu2 : updT z.T j _ j = some u := hu
          rw [updT_eq] at hu2
          obtain rfl := Option.some.inj hu2
          exact ⟨_, updT_eq _ _ _, hb, rfl, hr, hl⟩
        · have hu2 : updT z.T i _ j = some u := hu
          rw [updT_ne _ _ hji] at hu2
          obtain ⟨u', a, b⟩ := hR.t j u hu2
          exact ⟨u', by show updT z'.T i _ j = _; rw [updT_ne _ _ hji]; exact a, b⟩
  | none =>
    rw [hR.n i ht]
    simp only
    by_cases hs : soundR (A i) = true
    · rw [if_pos hs]
      refine ⟨fun z2 h hF => ?_, fun h => by cases h⟩
      obtain rfl := Option.some.inj h
      obtain ⟨te, hte, her, heb⟩ := hF.t i _ (updT_eq _ _ _)
      obtain ⟨hs', hraw⟩ := raw_two h2 h1 hi hs hte
      rw [her] at hraw
      rw [if_pos hs']
      refine ⟨_, rfl, ?_⟩
      have tk := take_i hY hI.si (rdInoR (A i)).1
      have hkind := hraw.kind
      generalize (rdInoR (A i)).1 = raw at *
      generalize (rdInoR (A' i)).1 = raw' at *
      have hpend : ∀ j : Nat, z.st.cl j = false → (nth raw 0 = 2 → ∀ k, (takeX X Y raw z.st).2.bk k ≠ some (j : Int)) → ¬ pend (takeZ X Y i raw 1 z) j := by
        rintro j hc hb ⟨i2, hi2, u, k, hu, hk⟩
        have hu2 : updT z.T i ⟨(takeX X Y raw z.st).1, 1, (takeX X Y raw z.st).2.bk⟩ i2.toNat = some u := hu
        have hi3 : i2 ∈ (if nth raw 0 = 2 then z.q ++ [(i : Int)] else z.q) := hi2
        by_cases hii : i2.toNat = i
        · rw [hii, updT_eq] at hu2
          obtain rfl := Option.some.inj hu2
          by_cases hk2 : nth raw 0 = 2
          · exact hb hk2 k hk
          · rw [if_neg hk2] at hi3
            obtain ⟨-, u3, hu3, -⟩ := hI.qT i2 hi3
            rw [hii, ht] at hu3; cases hu3
        · rw [updT_ne _ _ hii] at hu2
          have := (hI.blk _ u k _ hu2 hk).2
          rw [hc] at this; cases this
      obtain ⟨c1, c2, c3, c4⟩ := take_sim hY hI.si hR.sd hraw (fun j hj hj0 hnb => by
        have hc : z.st.cl j = false := by
          cases hb : z.st.cl j with
          | false => rfl
          | true => have := (tk.gr j hb).2.1; rw [hj, hj0] at this; cases this
        have hcl : (takeX X Y raw z.st).2.cl j = true := tk.si.fc j hj
        exact ⟨hF.s j (tk.si.cd j hcl) hcl (hpend j hc (fun _ => hnb)) (fun hEj => by have := hE j hEj; rw [hc] at this; cases this), hF.f j hj⟩) (fun hk2 p hp => by
        obtain ⟨n1, n2, n3⟩ := tk.new _ p hp
        have e := (isD_nat hY n1).1
        exact hF.s p.toNat (by rw [e]; exact n1) (by show (takeX X Y raw z.st).2.cl _ = true; rw [e]; exact n2) (hpend p.toNat (by rw [e]; exact n3) (fun h => absurd h hk2)) (fun hEj => by have := hE _ hEj; rw [e, n3] at this; cases this))
      refine ⟨c4, ?_, fun j hj => ?_, fun j u hu => ?_⟩
      · show (if nth raw' 0 = 2 then z'.q ++ [(i : Int)] else z'.q) = (if nth raw 0 = 2 then z.q ++ [(i : Int)] else z.q)
        rw [hkind, hR.q]
      · have hji : j ≠ i := fun e => by
          subst e
          have : updT z.T j _ j = none := hj
          rw [updT_eq] at this; cases this
        show updT z'.T i _ j = none
        rw [updT_ne _ _ hji]
        have : updT z.T i _ j = none := hj
        rw [updT_ne _ _ hji] at this
        exact hR.n j this
      · by_cases hji : j = i
        · subst hji
          have hu2 : updT z.T j _ j = some u := hu
          rw [updT_eq] at hu2
          obtain rfl := Option.some.inj hu2
          exact ⟨_, updT_eq _ _ _, c3, rfl, c1, c2⟩
        · have hu2 : updT z.T i _ j = some u := hu
          rw [updT_ne _ _ hji] at hu2
          obtain ⟨u', a, b⟩ := hR.t j u hu2
          exact ⟨u', by show updT z'.T i _ j = _; rw [updT_ne _ _ hji]; exact a, b⟩
    · have hs0 : soundR (A i) = false := by simpa using hs
      rw [if_neg hs, if_neg (by rw [unsound_two h2 h1 hi hs0]; simp)]
      exact ⟨fun z2 h => (by cases h), fun _ => rfl⟩
theorem RZ.wipe {X Y : Int} {A' W : Nat → List Int} {allw : Prop} {z z' : LZ} (h : RZ X Y A' W allw z z') {p : Nat} (hc : z.st.cl p = true) : RZ X Y A' W allw (wipeZ p z) (wipeZ p z') := by
  refine ⟨⟨h.sd.cl, h.sd.fm, rfl, fun j => ?_, fun j hj hcj => ?_, h.sd.f0, h.sd.fc⟩, h.q, h.n, h.t⟩
  · show updS _ _ _ _ = updS _ _ _ _ ∨ updS _ _ _ _ = _
    by_cases hjp : j = p
    · subst hjp; rw [updS_eq, updS_eq]; exact .inl rfl
    · rw [updS_ne _ _ hjp, updS_ne _ _ hjp]; exact h.sd.S j
  · have hne : j ≠ p := fun e => by subst e; rw [show z.st.cl j = false from hcj] at hc; cases hc
    show updS _ _ _ _ = _ ∧ Bytes (updS _ _ _ _) ∧ (¬ allw → subP _ (updS _ _ _ _))
    rw [updS_ne _ _ hne, updS_ne _ _ hne]
    exact h.sd.un j hj hcj
theorem slot_sim {X Y : Int} {A A' W : Nat → List Int} {ze : LZ} {allw : Prop} (h2 : Two X Y A A' W ze allw) {d : Nat} {t : TI} {z z' : LZ} {nm : ByteArray → Bool} (hI : InvZ X Y A z) (hR : RZ X Y A' W allw z z') (hT : ∃ t0, z.T d = some t0 ∧ t0.bk = t.bk) (hq : (d : Int) ∉ z.q) {k : Nat} {p : Int} (hk : t.bk k = some p)
    (hF : Fin X Y A' W ze allw (rest t.bk (k + 1)) (slotZ X Y A p.toNat (z, nm)).1) :
    RZ X Y A' W allw (slotZ X Y A p.toNat (z, nm)).1 (slotZ X Y A' p.toNat (z', nm)).1 ∧ (slotZ X Y A' p.toNat (z', nm)).2 = (slotZ X Y A p.toNat (z, nm)).2 := by
  have hY := h2.Y0
  have hs := slot_i hY (zn := (z, nm)) hI hT hq hk
  obtain ⟨t0, ht0, hb0⟩ := hT
  obtain ⟨hd, hc⟩ := hI.blk d t0 k p ht0 (by rw [hb0]; exact hk)
  have hp := (isD_nat hY hd).1
  obtain ⟨t1, ht1, -, hb1⟩ := hs.st.t d t0 ht0
  have hcp : z.st.cl (p.toNat : Int) = true := by rw [hp]; exact hc
  have hE : ∀ j, rest t.bk (k + 1) j → z.st.cl j = true := fun j ⟨k', h5, h6⟩ => (hI.blk d t0 k' j ht0 (by rw [hb0]; exact h6)).2
  have hWp : (slotZ X Y A p.toNat (z, nm)).1.st.S p.toNat = W p.toNat := by
    refine hF.s p.toNat (by rw [hp]; exact hd) ?_ ?_ ?_
    · have := hs.inv.blk d t1 k p ht1 (by rw [hb1, hb0]; exact hk)
      rw [hp]; exact this.2
    · rintro ⟨i2, hi2, u, k2, hu, hk2⟩
      have := (hs.inv.inj _ u k2 d t1 k p hu (by rw [← hp]; exact hk2) ht1 (by rw [hb1, hb0]; exact hk)).1
      have h0 := (hs.inv.qT i2 hi2).1
      exact hs.q (by rw [show (d : Int) = i2 by omega]; exact hi2)
    · rintro ⟨k', h5, h6⟩
      have := (hI.inj d t0 k' d t0 k p ht0 (by rw [hb0, h6, hp]) ht0 (by rw [hb0]; exact hk)).2
      omega
  by_cases hsame : z'.st.S p.toNat = z.st.S p.toNat
  · unfold slotZ at hF ⊢
    simp only at hF ⊢
    rw [hsame]
    by_cases c1 : (rdSloR (z.st.S p.toNat)).2.2 = 0 ∧ (rdSloR (z.st.S p.toNat)).1 = 0
    · rw [if_pos c1, if_pos c1]
      exact ⟨hR, rfl⟩
    · rw [if_neg c1] at hF ⊢
      rw [if_neg c1]
      by_cases c2 : (rdSloR (z.st.S p.toNat)).2.2 = 0 ∧ (rdSloR (z.st.S p.toNat)).1 ≤ Y
      · obtain ⟨c3, c4⟩ := c2
        have hok := slo_ok c3 (fun h => c1 ⟨c3, h⟩)
        have h1 : 1 ≤ (rdSloR (z.st.S p.toNat)).1.toNat := by omega
        have hi : ((rdSloR (z.st.S p.toNat)).1.toNat : Int) ≤ Y := by omega
        obtain ⟨e1, e2⟩ := enter_sim h2 hI hR h1 hi hE
        generalize (rdSloR (z.st.S p.toNat)).1.toNat = i at *
        generalize (rdSloR (z.st.S p.toNat)).2.1 = name at *
        unfold enterR at hF ⊢
        simp only at hF ⊢
        by_cases c5 : nm name = true ∨ i = 1
        · simp only [if_pos c5] at hF ⊢
          rw [if_neg (by simp), if_neg (by simp)]
          exact ⟨hR.wipe hcp, rfl⟩
        · simp only [if_neg c5] at hF ⊢
          cases he : enterZ X Y A i z with
          | none =>
            rw [e2 he]
            simp only
            rw [if_neg (by simp), if_neg (by simp)]
            exact ⟨hR.wipe hcp, rfl⟩
          | some z2 =>
            rw [he] at hF
            simp only at hF ⊢
            rw [if_pos ⟨c3, c4, trivial⟩] at hF
            obtain ⟨z2', he', hr2⟩ := e1 z2 he hF
            rw [he']
            simp only
            rw [if_pos ⟨c3, c4, trivial⟩, if_pos ⟨c3, c4, trivial⟩]
            exact ⟨hr2, rfl⟩
      · rw [if_neg (fun h => c2 ⟨h.1, h.2.1⟩), if_neg (fun h => c2 ⟨h.1, h.2.1⟩)]
        exact ⟨hR.wipe hcp, rfl⟩
  · have hW := (hR.sd.S p.toNat).resolve_left hsame
    have hW' : z'.st.S p.toNat = W p.toNat := hW
    have hne : (slotZ X Y A p.toNat (z, nm)).1.st.S p.toNat ≠ z.st.S p.toNat := by rw [hWp, ← hW']; exact hsame
    -- it was emptied
    have hz : slotZ X Y A p.toNat (z, nm) = (wipeZ p.toNat z, nm) := by
      unfold slotZ at hne ⊢
      simp only at hne ⊢
      split
      · rename_i c; rw [if_pos c] at hne; exact absurd rfl hne
      · rename_i c
        rw [if_neg c] at hne
        split
        · rename_i c'
          rw [if_pos c'] at hne
          exfalso
          apply hne
          obtain ⟨-, -, c3⟩ := c'
          generalize (rdSloR (z.st.S p.toNat)).1.toNat = i at *
          generalize (rdSloR (z.st.S p.toNat)).2.1 = name at *
          unfold enterR at c3 ⊢
          simp only at c3 ⊢
          split at c3
          · cases c3
          · rename_i c4
            rw [if_neg c4]
            cases he : enterZ X Y A i z with
            | none => rfl
            | some z2 => exact (enter_i hY hI he noE).2.2.2 p.toNat hcp
        · rfl
    rw [hz] at hWp ⊢
    have hzl : z'.st.S p.toNat = zl 128 := by
      rw [hW', ← hWp]
      exact updS_eq _ _ _
    have hz' : slotZ X Y A' p.toNat (z', nm) = (z', nm) := by
      unfold slotZ
      simp only
      rw [hzl, slot_zero, if_pos ⟨rfl, rfl⟩]
    rw [hz']
    refine ⟨⟨⟨hR.sd.cl, hR.sd.fm, rfl, fun j => ?_, fun j hj hcj => ?_, hR.sd.f0, hR.sd.fc⟩, hR.q, hR.n, hR.t⟩, rfl⟩
    · show z'.st.S j = updS _ _ _ _ ∨ z'.st.S j = _
      by_cases hjp : j = p.toNat
      · subst hjp; rw [updS_eq]; exact .inl hzl
      · rw [updS_ne _ _ hjp]; exact hR.sd.S j
    · have hne2 : j ≠ p.toNat := fun e => by subst e; rw [show z.st.cl _ = false from hcj] at hcp; cases hcp
      show z'.st.S j = _ ∧ Bytes (updS _ _ _ _) ∧ (¬ allw → subP _ (updS _ _ _ _))
      rw [updS_ne _ _ hne2]
      exact hR.sd.un j hj hcj
theorem dirZ_sim {X Y : Int} {A A' W : Nat → List Int} {ze : LZ} {allw : Prop} (h2 : Two X Y A A' W ze allw) {d : Nat} {t : TI} : ∀ (m k : Nat) (z z' : LZ) (nm : ByteArray → Bool), InvZ X Y A z → RZ X Y A' W allw z z' → (∃ t0, z.T d = some t0 ∧ t0.bk = t.bk) → (d : Int) ∉ z.q →
    Fin X Y A' W ze allw (rest t.bk (k + m)) (dirZ X Y A t.bk m k (z, nm)).1 → RZ X Y A' W allw (dirZ X Y A t.bk m k (z, nm)).1 (dirZ X Y A' t.bk m k (z', nm)).1
  | 0, k, z, z', nm, hI, hR, hT, hq, hF => hR
  | m + 1, k, z, z', nm, hI, hR, hT, hq, hF => by
    rw [show k + (m + 1) = k + 1 + m by omega] at hF
    change Fin X Y A' W ze allw _ (dirZ X Y A t.bk m (k + 1) _).1 at hF
    show RZ X Y A' W allw (dirZ X Y A t.bk m (k + 1) _).1 (dirZ X Y A' t.bk m (k + 1) _).1
    cases hk : t.bk k with
    | none =>
      rw [hk] at hF
      exact dirZ_sim h2 m (k + 1) z z' nm hI hR hT hq hF
    | some p =>
      rw [hk] at hF
      simp only at hF ⊢
      have hs := slot_i h2.Y0 (zn := (z, nm)) hI hT hq hk
      obtain ⟨t0, ht0, hb0⟩ := hT
      obtain ⟨t1, ht1, -, hb1⟩ := hs.st.t d t0 ht0
      have hd := dirZ_i h2.Y0 (t := t) m (k + 1) (slotZ X Y A p.toNat (z, nm)) hs.inv ⟨t1, ht1, hb1.trans hb0⟩ hs.q
      obtain ⟨a, b⟩ := slot_sim h2 (nm := nm) hI hR ⟨t0, ht0, hb0⟩ hq hk (hF.back hd.st)
      have e' : slotZ X Y A' p.toNat (z', nm) = ((slotZ X Y A' p.toNat (z', nm)).1, (slotZ X Y A p.toNat (z, nm)).2) := by rw [← b]
      rw [e']
      exact dirZ_sim h2 m (k + 1) (slotZ X Y A p.toNat (z, nm)).1 _ (slotZ X Y A p.toNat (z, nm)).2 hs.inv a ⟨t1, ht1, hb1.trans hb0⟩ hs.q hF
theorem dirOf_some {X Y : Int} {A : Nat → List Int} {z : LZ} {i : Nat} {t : TI} (h : z.T i = some t) : dirOf X Y A i z = (dirZ X Y A t.bk (cntX (nth t.raw 2)).toNat 0 (z, fun _ => false)).1 := by
  unfold dirOf
  rw [h]
theorem dirOf_sim {X Y : Int} {A A' W : Nat → List Int} {ze : LZ} {allw : Prop} (h2 : Two X Y A A' W ze allw) {z z' : LZ} (hI : InvZ X Y A z) (hR : RZ X Y A' W allw z z') {i : Int} {r : List Int} (hq : z.q = i :: r) (hF : Fin X Y A' W ze allw noE (dirOf X Y A i.toNat { z with q := r })) :
    RZ X Y A' W allw (dirOf X Y A i.toNat { z with q := r }) (dirOf X Y A' i.toNat { z' with q := r }) := by
  obtain ⟨h0, t, ht, -⟩ := hI.qT i (by rw [hq]; exact List.mem_cons_self)
  obtain ⟨t', ht', hb, he, hr, hl⟩ := hR.t _ t ht
  have hir : i ∉ r := by have := hI.qn; rw [hq] at this; exact (List.nodup_cons.1 this).1
  have hi : (i.toNat : Int) = i := by omega
  have hRp : RZ X Y A' W allw { z with q := r } { z' with q := r } := ⟨hR.sd, rfl, hR.n, hR.t⟩
  have e : dirOf X Y A i.toNat { z with q := r } = _ := dirOf_some (z := { z with q := r }) ht
  have e' : dirOf X Y A' i.toNat { z' with q := r } = _ := dirOf_some (z := { z' with q := r }) ht'
  rw [e] at hF ⊢
  rw [e', hb, hr 2 (by omega)]
  refine dirZ_sim h2 (d := i.toNat) (t := t) _ 0 _ _ _ (hI.pop hq) hRp ⟨t, ht, rfl⟩ (by rw [hi]; exact hir) ?_
  exact ⟨fun j h1 h3 h4 _ => hF.s j h1 h3 h4 (fun h => h), hF.f, hF.t⟩
theorem loop_sim {X Y : Int} {A A' W : Nat → List Int} {ze : LZ} {allw : Prop} (h2 : Two X Y A A' W ze allw) : ∀ (f : Nat) (z z' : LZ), InvZ X Y A z → RZ X Y A' W allw z z' → Fin X Y A' W ze allw noE (loopZ X Y A f z) → RZ X Y A' W allw (loopZ X Y A f z) (loopZ X Y A' f z')
  | 0, z, z', hI, hR, hF => hR
  | f + 1, z, z', hI, hR, hF => by
    cases hq : z.q with
    | nil =>
      rw [loopZ_nil _ _ _ _ _ hq, loopZ_nil _ _ _ _ _ (by rw [hR.q]; exact hq)]
      exact hR
    | cons i r =>
      rw [loopZ_cons _ _ _ _ _ _ _ hq] at hF ⊢
      rw [loopZ_cons _ _ _ _ _ _ _ (show z'.q = i :: r by rw [hR.q]; exact hq)]
      obtain ⟨a, b⟩ := dirOf_i h2.Y0 hI hq
      exact loop_sim h2 f _ _ a (dirOf_sim h2 hI hR hq (hF.back (loop_i h2.Y0 f _ a).2)) hF
theorem zero_i {X Y : Int} {A : Nat → List Int} (hA : ∀ j : Nat, isD X Y j = true → (A j).length = 128 ∧ Bytes (A j)) : InvZ X Y A (zeroZ A) :=
  ⟨⟨fun j hj => (by cases hj), fun q hq => (by cases hq), fun k q hk => (by cases hk), fun k k' q hk => (by cases hk), fun j hj => rfl, hA, fun j hj => (by cases hj)⟩, fun i t k q ht => (by cases ht), fun i t k i' t' k' q ht => (by cases ht), fun i t k q ht => (by cases ht), List.nodup_nil, fun i hi => (by cases hi), fun i t ht => (by cases ht), fun i t ht => (by cases ht)⟩
theorem start_enter {X Y : Int} {A : Nat → List Int} (hs : soundR (A 1) = true) : enterZ X Y A 1 (zeroZ A) = some (startZ X Y A) := by
  unfold enterZ zeroZ
  simp only
  rw [if_pos hs]
  rfl
theorem look_inv {X Y : Int} (hY : 0 ≤ Y) {A : Nat → List Int} (hA : ∀ j : Nat, isD X Y j = true → (A j).length = 128 ∧ Bytes (A j)) (hs : soundR (A 1) = true) : InvZ X Y A (startZ X Y A) ∧ InvZ X Y A (lookZ X Y A) ∧ Stay X Y noE noE (startZ X Y A) (lookZ X Y A) := by
  obtain ⟨a, -⟩ := enter_i hY (zero_i (Y := Y) hA) (start_enter hs) noE
  obtain ⟨b, c⟩ := loop_i hY 8192 _ a
  exact ⟨a, b, c⟩
theorem repS_ino {Y : Int} (z : LZ) {i : Nat} (h1 : 1 ≤ i) (h2 : (i : Int) ≤ Y) : repS Y z i = inoW z i := by
  unfold repS inoW
  rw [if_pos ⟨h1, h2⟩]
  cases z.T i <;> rfl
theorem repS_else {Y : Int} (z : LZ) {i : Nat} (h : ¬ (1 ≤ i ∧ (i : Int) ≤ Y)) : repS Y z i = z.st.S i := by
  unfold repS
  rw [if_neg h]
theorem isD_not {X Y : Int} {j : Nat} (h : isD X Y j = true) : ¬ (1 ≤ j ∧ (j : Int) ≤ Y) := by
  unfold isD at h
  have := of_decide_eq_true h
  omega
/-- two looks come to the same -/
theorem two_looks {X Y : Int} (hY : 1 ≤ Y) {A A' : Nat → List Int} (allw : Prop) (hA : ∀ j : Nat, isD X Y j = true → (A j).length = 128 ∧ Bytes (A j)) (hs : soundR (A 1) = true)
    (hAA : ∀ j, A' j = A j ∨ A' j = repS Y (lookZ X Y A) j) (hi : allw → ∀ i : Nat, 1 ≤ i → (i : Int) ≤ Y → A' i = repS Y (lookZ X Y A) i) (hf : allw → ∀ j : Nat, (lookZ X Y A).st.fm j = true → A' j = repS Y (lookZ X Y A) j)
    (hsub : ¬ allw → ∀ j : Nat, isD X Y j = true → subP (A' j) (A j)) : RZ X Y A' (repS Y (lookZ X Y A)) allw (lookZ X Y A) (lookZ X Y A') := by
  obtain ⟨i1, i2, i3⟩ := look_inv (by omega) hA hs
  have h2 : Two X Y A A' (repS Y (lookZ X Y A)) (lookZ X Y A) allw := ⟨by omega, fun i h1 h2 => ⟨by have := hAA i; rw [repS_ino _ h1 h2] at this; exact this, fun ha => by have := hi ha i h1 h2; rw [repS_ino _ h1 h2] at this; exact this⟩, i2⟩
  have hF : Fin X Y A' (repS Y (lookZ X Y A)) (lookZ X Y A) allw noE (lookZ X Y A) := ⟨fun j h1 _ _ _ => (repS_else _ (isD_not h1)).symm, fun j hj ha => hf ha j hj, fun i t ht => ⟨t, ht, rfl, rfl⟩⟩
  have hR0 : RZ X Y A' (repS Y (lookZ X Y A)) allw (zeroZ A) (zeroZ A') := ⟨⟨rfl, rfl, rfl, hAA, fun j hj _ => ⟨rfl, (hA j hj).2, fun hn => hsub hn j hj⟩, fun j hj => (by cases hj), fun j hj => (by cases hj)⟩, rfl, fun i h => rfl, fun i t h => (by cases h)⟩
  obtain ⟨e1, -⟩ := enter_sim h2 (zero_i (Y := Y) hA) hR0 (i := 1) (by omega) (by omega) (E := noE) (fun j h => h.elim)
  obtain ⟨z2', a, b⟩ := e1 _ (start_enter hs) (hF.back i3)
  have hs' : soundR (A' 1) = true := by
    cases hb : soundR (A' 1) with
    | true => rfl
    | false =>
      have : enterZ X Y A' 1 (zeroZ A') = none := by
        unfold enterZ zeroZ
        simp only
        rw [if_neg (by rw [hb]; simp)]
      rw [this] at a; cases a
  have e : z2' = startZ X Y A' := by
    have := start_enter (X := X) (Y := Y) hs'
    rw [a] at this
    exact Option.some.inj this
  subst e
  exact loop_sim h2 8192 _ _ i1 b hF
/-- what two looks tell is the same -/
theorem set_same {a b : List Int} (ha : a.length = 18) (hb : b.length = 18) (h : ∀ j, j ≠ 1 → nth a j = nth b j) (n : Int) : a.set 1 n = b.set 1 n := by
  apply List.ext_getElem?
  intro j
  by_cases hj : j = 1
  · subst hj
    rw [List.getElem?_set_self (by omega), List.getElem?_set_self (by omega)]
  · rw [List.getElem?_set_ne (Ne.symm hj), List.getElem?_set_ne (Ne.symm hj)]
    by_cases hl : j < 18
    · rw [nth_getElem? (by omega), nth_getElem? (by omega), h j hj]
    · rw [List.getElem?_eq_none (by omega), List.getElem?_eq_none (by omega)]
theorem two_same {X Y : Int} {A A' : Nat → List Int} {allw : Prop} {z z' : LZ} (hI : InvZ X Y A z) (h : RZ X Y A' (repS Y z) allw z z') : (∀ j, repS Y z' j = repS Y z j) ∧ z'.st.cl = z.st.cl ∧ z'.st.fm = z.st.fm ∧ ∀ i, (z'.T i).isSome = (z.T i).isSome := by
  refine ⟨fun j => ?_, h.sd.cl, h.sd.fm, fun i => ?_⟩
  · by_cases hj : 1 ≤ j ∧ (j : Int) ≤ Y
    · rw [repS_ino _ hj.1 hj.2, repS_ino _ hj.1 hj.2]
      unfold inoW
      cases ht : z.T j with
      | none => rw [h.n j ht]
      | some t =>
        obtain ⟨t', ht', -, he, hr, hl⟩ := h.t j t ht
        rw [ht']
        simp only
        rw [he]
        rw [set_same hl (hI.snd j t ht).2.1 hr]
    · rw [repS_else _ hj, repS_else _ hj]
      rcases h.sd.S j with e | e
      · exact e
      · rw [repS_else _ hj] at e; exact e
  · cases ht : z.T i with
    | none => rw [h.n i ht]
    | some t =>
      obtain ⟨t', ht', -⟩ := h.t i t ht
      rw [ht']; rfl
end Go.Proofs.Ythioepdgnbdohaa
