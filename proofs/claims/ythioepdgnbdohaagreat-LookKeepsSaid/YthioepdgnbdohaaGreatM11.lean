/- Contracts and laws that the claim leans on, laid together in the order in which they build. -/
import Derived.Test.YthioepdgnbdohaaGreatM05
import Derived.Test.YthioepdgnbdohaaGreatM08
import Derived.Test.YthioepdgnbdohaaGreatM10

/- Two looks side by side, pointers: plain laws, no program in sight. -/
namespace Go.Proofs.YthioepdgnbdohaaGreat
set_option linter.unusedSimpArgs false
set_option linter.unusedVariables false
open Go.RowKit

/-- one pointer to a block is tried -/
def tryRow (X Y base : Int) (k : Nat) (p : Int) (st : LS) : Bool × LS :=
  if isD X Y p = true ∧ st.cl p = false then (true, { st with cl := addS st.cl p, bk := putI st.bk (base + k) p }) else (false, st)
/-- one pointer to a table is tried -/
noncomputable def tryTab (X Y : Int) (F : List Int → LS → List Int × Bool × LS) (p : Int) (st : LS) : Bool × LS :=
  if isD X Y p = true ∧ st.cl p = false then tableP F p.toNat { st with cl := addS st.cl p } else (false, st)
/-- a row of pointers, each tried -/
def siftT (T : Nat → Int → LS → Bool × LS) (base step n : Int) : Nat → List Int → LS → List Int × Bool × LS
  | _, [], st => ([], false, st)
  | k, p :: r, st =>
    if p = 0 ∨ n ≤ base + step * k ∨ (T k p st).1 = false then (0 :: (siftT T base step n (k + 1) r st).1, (siftT T base step n (k + 1) r st).2.1, (siftT T base step n (k + 1) r st).2.2)
    else (p :: (siftT T base step n (k + 1) r (T k p st).2).1, true, (siftT T base step n (k + 1) r (T k p st).2).2.2)
theorem siftT_cons (T : Nat → Int → LS → Bool × LS) (base step n : Int) (k : Nat) (p : Int) (r : List Int) (st : LS) : siftT T base step n k (p :: r) st =
    if p = 0 ∨ n ≤ base + step * k ∨ (T k p st).1 = false then (0 :: (siftT T base step n (k + 1) r st).1, (siftT T base step n (k + 1) r st).2.1, (siftT T base step n (k + 1) r st).2.2)
    else (p :: (siftT T base step n (k + 1) r (T k p st).2).1, true, (siftT T base step n (k + 1) r (T k p st).2).2.2) := rfl
theorem siftP_T {goodP : Int → LS → Bool × LS} {keepP : Nat → Int → LS → Bool × LS} {T : Nat → Int → LS → Bool × LS} (base step n : Int)
    (hT : ∀ k p st, T k p st = if (goodP p st).1 = false then (false, (goodP p st).2) else keepP k p (goodP p st).2) (hF : ∀ k p st, (T k p st).1 = false → (T k p st).2 = st) :
    ∀ (ps : List Int) (k : Nat) (st : LS), siftP goodP keepP base step n k ps st = siftT T base step n k ps st
  | [], _, _ => rfl
  | p :: r, k, st => by
    rw [siftP_cons, siftT_cons]
    simp only [siftP_T base step n hT hF r]
    by_cases h0 : p = 0
    · rw [if_pos h0, if_pos (.inl h0)]
    · rw [if_neg h0]
      by_cases h1 : n ≤ base + step * k
      · rw [if_pos h1, if_pos (.inr (.inl h1))]
      · rw [if_neg h1]
        have ht := hT k p st
        by_cases h2 : (goodP p st).1 = false
        · rw [if_pos h2] at ht
          have hf := hF k p st (by rw [ht])
          have e : (goodP p st).2 = st := by rw [ht] at hf; exact hf
          rw [if_pos h2, if_pos (.inr (.inr (by rw [ht]))), e]
        · rw [if_neg h2] at ht
          rw [if_neg h2, ← ht]
          by_cases h3 : (T k p st).1 = false
          · rw [if_pos h3, if_pos (.inr (.inr h3)), hF k p st h3]
          · rw [if_neg h3, if_neg (by rintro (h | h | h) <;> contradiction)]

/-- what was claimed stays as it is -/
def Gr (s s2 : LS) : Prop := ∀ j : Nat, s.cl j = true → s2.cl j = true ∧ s2.fm j = s.fm j ∧ s2.S j = s.S j
theorem Gr.refl (s : LS) : Gr s s := fun _ h => ⟨h, rfl, rfl⟩
theorem Gr.trans {a b c : LS} (h : Gr a b) (h2 : Gr b c) : Gr a c := fun j hj => by
  obtain ⟨h3, h4, h5⟩ := h j hj
  obtain ⟨h6, h7, h8⟩ := h2 j h3
  exact ⟨h6, h7.trans h4, h8.trans h5⟩
/-- what is firm is claimed -/
def FmCl (s : LS) : Prop := ∀ j : Nat, s.fm j = true → s.cl j = true
structure TryOK (T : Int → LS → Bool × LS) : Prop where
  fail : ∀ p s, (T p s).1 = false → (T p s).2 = s
  grow : ∀ p s, Gr s (T p s).2
  fmcl : ∀ p s, FmCl s → FmCl (T p s).2
structure SiftOK (F : List Int → LS → List Int × Bool × LS) : Prop where
  fail : ∀ ps s, (F ps s).2.1 = false → (F ps s).2.2 = s ∧ ∀ i, nth (F ps s).1 i = 0
  grow : ∀ ps s, Gr s (F ps s).2.2
  fmcl : ∀ ps s, FmCl s → FmCl (F ps s).2.2
  sub : ∀ ps s i, nth (F ps s).1 i = nth ps i ∨ nth (F ps s).1 i = 0
  len : ∀ ps s, (F ps s).1.length = ps.length
theorem nth_cons0 (p : Int) (r : List Int) : nth (p :: r) 0 = p := rfl
theorem nth_consS (p : Int) (r : List Int) (i : Nat) : nth (p :: r) (i + 1) = nth r i := rfl
theorem isD_nat {X Y p : Int} (hY : 0 ≤ Y) (h : isD X Y p = true) : (p.toNat : Int) = p ∧ p ≠ 0 := by
  unfold isD at h
  have := of_decide_eq_true h
  omega
theorem addS_self (s : Int → Bool) (p : Int) : addS s p p = true := by simp [addS]
theorem addS_mono {s : Int → Bool} {p q : Int} (h : s q = true) : addS s p q = true := by simp [addS, h]
theorem addS_ne {s : Int → Bool} {p q : Int} (h : q ≠ p) : addS s p q = s q := by simp [addS, h]
theorem del_add {s : Int → Bool} {p : Int} (h : s p = false) : delS (addS s p) p = s := by
  funext q
  unfold delS addS
  by_cases hq : q = p
  · subst hq; simp [h]
  · simp [hq]
theorem updS_eq (S : Nat → List Int) (i : Nat) (a : List Int) : updS S i a i = a := by unfold updS; rw [if_pos rfl]
theorem updS_ne (S : Nat → List Int) {i j : Nat} (a : List Int) (h : j ≠ i) : updS S i a j = S j := by unfold updS; rw [if_neg h]
theorem siftT_ok {T : Nat → Int → LS → Bool × LS} (hT : ∀ k, TryOK (T k)) (base step n : Int) (k0 : Nat) : SiftOK (siftT T base step n k0) := by
  refine ⟨fun ps => ?_, fun ps => ?_, fun ps => ?_, fun ps => ?_, fun ps => ?_⟩
  · induction ps generalizing k0 with
    | nil => intro s _; exact ⟨rfl, fun i => rfl⟩
    | cons p r ih =>
      intro s h
      rw [siftT_cons] at h ⊢
      split at h
      · rename_i hc
        rw [if_pos hc]
        obtain ⟨h1, h2⟩ := ih (k0 + 1) s h
        refine ⟨h1, fun i => ?_⟩
        cases i with
        | zero => rfl
        | succ i => exact h2 i
      · cases h
  · induction ps generalizing k0 with
    | nil => intro s; exact Gr.refl _
    | cons p r ih =>
      intro s
      rw [siftT_cons]
      split
      · exact ih (k0 + 1) s
      · exact ((hT k0).grow p s).trans (ih (k0 + 1) _)
  · induction ps generalizing k0 with
    | nil => intro s h; exact h
    | cons p r ih =>
      intro s h
      rw [siftT_cons]
      split
      · exact ih (k0 + 1) s h
      · exact ih (k0 + 1) _ ((hT k0).fmcl p s h)
  · induction ps generalizing k0 with
    | nil => intro s i; exact .inl rfl
    | cons p r ih =>
      intro s i
      rw [siftT_cons]
      split
      · cases i with
        | zero => exact .inr rfl
        | succ i => exact ih (k0 + 1) s i
      · cases i with
        | zero => exact .inl rfl
        | succ i => exact ih (k0 + 1) _ i
  · induction ps generalizing k0 with
    | nil => intro s; rfl
    | cons p r ih =>
      intro s
      rw [siftT_cons]
      split
      · simp [ih (k0 + 1) s]
      · simp [ih (k0 + 1) (T k0 p s).2]
theorem tryRow_ok (X Y base : Int) (k : Nat) : TryOK (tryRow X Y base k) := by
  refine ⟨fun p s h => ?_, fun p s => ?_, fun p s h => ?_⟩
  · unfold tryRow at h ⊢
    split at h
    · cases h
    · rename_i hc; rw [if_neg hc]
  · unfold tryRow
    split
    · exact fun j hj => ⟨addS_mono hj, rfl, rfl⟩
    · exact Gr.refl _
  · unfold tryRow
    split
    · exact fun j hj => addS_mono (h j hj)
    · exact h
/-- a table that stays -/
theorem tryTab_yes {X Y : Int} {F : List Int → LS → List Int × Bool × LS} {p : Int} {s : LS} (h : (tryTab X Y F p s).1 = true) :
    isD X Y p = true ∧ s.cl p = false ∧ (F (rdPtr (s.S p.toNat)) { s with cl := addS s.cl p }).2.1 = true ∧
    (tryTab X Y F p s).2 = { (F (rdPtr (s.S p.toNat)) { s with cl := addS s.cl p }).2.2 with S := updS (F (rdPtr (s.S p.toNat)) { s with cl := addS s.cl p }).2.2.S p.toNat (ptrR (F (rdPtr (s.S p.toNat)) { s with cl := addS s.cl p }).1).1, fm := addS (F (rdPtr (s.S p.toNat)) { s with cl := addS s.cl p }).2.2.fm p.toNat } := by
  unfold tryTab at h ⊢
  split at h
  · rename_i hc
    rw [if_pos hc]
    unfold tableP at h ⊢
    split at h
    · cases h
    · rename_i hl
      rw [if_neg hl]
      exact ⟨hc.1, hc.2, by simpa using hl, rfl⟩
  · cases h
theorem tryTab_ok {X Y : Int} (hY : 0 ≤ Y) {F : List Int → LS → List Int × Bool × LS} (hF : SiftOK F) : TryOK (tryTab X Y F) := by
  have hfail : ∀ p s, (tryTab X Y F p s).1 = false → (tryTab X Y F p s).2 = s := by
    intro p s h
    unfold tryTab at h ⊢
    split at h
    · rename_i hc
      rw [if_pos hc]
      unfold tableP at h ⊢
      split at h
      · rename_i hl
        rw [if_pos hl]
        have e := (hF.fail _ _ hl).1
        have hp := (isD_nat hY hc.1).1
        simp only
        rw [e]
        simp only [hp, del_add hc.2]
      · cases h
    · rename_i hc; rw [if_neg hc]
  refine ⟨hfail, fun p s => ?_, fun p s h => ?_⟩
  · cases hb : (tryTab X Y F p s).1 with
    | false => rw [hfail p s hb]; exact Gr.refl _
    | true =>
      obtain ⟨h1, h2, h3, h4⟩ := tryTab_yes hb
      rw [h4]
      obtain ⟨hp, -⟩ := isD_nat hY h1
      intro j hj
      have hjp : (j : Int) ≠ p := fun e => by rw [e, h2] at hj; cases hj
      have hjn : j ≠ p.toNat := fun e => hjp (by rw [e, hp])
      obtain ⟨g1, g2, g3⟩ := hF.grow (rdPtr (s.S p.toNat)) { s with cl := addS s.cl p } j (addS_mono hj)
      refine ⟨g1, ?_, ?_⟩
      · show addS _ _ _ = _
        rw [addS_ne (by rw [hp]; exact hjp)]; exact g2
      · show updS _ _ _ _ = _
        rw [updS_ne _ _ hjn]; exact g3
  · cases hb : (tryTab X Y F p s).1 with
    | false => rw [hfail p s hb]; exact h
    | true =>
      obtain ⟨h1, h2, h3, h4⟩ := tryTab_yes hb
      rw [h4]
      obtain ⟨hp, -⟩ := isD_nat hY h1
      intro j hj
      have hc1 : FmCl { s with cl := addS s.cl p } := fun j hj => addS_mono (h j hj)
      by_cases hjp : (j : Int) = p
      · have := (hF.grow (rdPtr (s.S p.toNat)) { s with cl := addS s.cl p } j (by rw [hjp]; exact addS_self _ _)).1
        exact this
      · have hj2 : addS (F (rdPtr (s.S p.toNat)) { s with cl := addS s.cl p }).2.2.fm p.toNat j = true := hj
        rw [addS_ne (by rw [hp]; exact hjp)] at hj2
        exact hF.fmcl _ _ hc1 j hj2

/-- pointers of a are those of b, or none -/
def subP (a b : List Int) : Prop := ∀ i, nth (rdPtr a) i = nth (rdPtr b) i ∨ nth (rdPtr a) i = 0
/-- two looks side by side: W is what comes of the first one in the end, A what the second one began with -/
structure Sd (X Y : Int) (allw : Prop) (W A : Nat → List Int) (f0 : Int → Bool) (s s' : LS) : Prop where
  cl : s'.cl = s.cl
  fm : s'.fm = s.fm
  bk : s'.bk = s.bk
  S : ∀ j, s'.S j = s.S j ∨ s'.S j = W j
  un : ∀ j : Nat, isD X Y j = true → s.cl j = false → s'.S j = A j ∧ Bytes (s.S j) ∧ (¬ allw → subP (A j) (s.S j))
  f0 : ∀ j : Nat, f0 j = true → s.cl j = true
  fc : FmCl s
/-- what is newly firm is as it is in the end -/
def Pro (allw : Prop) (W A : Nat → List Int) (f0 : Int → Bool) (s : LS) : Prop := ∀ j : Nat, s.fm j = true → f0 j = false → s.S j = W j ∧ (allw → A j = W j)
theorem Pro.back {allw : Prop} {W A : Nat → List Int} {f0 : Int → Bool} {s s2 : LS} (h : Pro allw W A f0 s2) (hg : Gr s s2) (hc : FmCl s) : Pro allw W A f0 s := fun j hj h0 => by
  obtain ⟨h1, h2, h3⟩ := hg j (hc j hj)
  have := h j (by rw [h2]; exact hj) h0
  rw [h3] at this
  exact this
structure SimT (X Y : Int) (allw : Prop) (W A : Nat → List Int) (f0 : Int → Bool) (T : Int → LS → Bool × LS) : Prop where
  yes : ∀ p s s', Sd X Y allw W A f0 s s' → Pro allw W A f0 (T p s).2 → (T p s).1 = true → (T p s').1 = true ∧ Sd X Y allw W A f0 (T p s).2 (T p s').2
  no : ∀ p s s', Sd X Y allw W A f0 s s' → Pro allw W A f0 s → (T p s).1 = false → ¬ allw → (T p s').1 = false
def SimF (X Y : Int) (allw : Prop) (W A : Nat → List Int) (f0 : Int → Bool) (F : List Int → LS → List Int × Bool × LS) : Prop :=
  ∀ ps ps' s s', Sd X Y allw W A f0 s s' → Pro allw W A f0 (F ps s).2.2 → ps'.length = ps.length → (∀ i, (nth ps' i = nth ps i ∨ (nth ps' i = 0 ∧ nth (F ps s).1 i = 0)) ∧ (allw → nth ps' i = nth (F ps s).1 i)) →
    (F ps' s').1 = (F ps s).1 ∧ (F ps' s').2.1 = (F ps s).2.1 ∧ Sd X Y allw W A f0 (F ps s).2.2 (F ps' s').2.2
theorem ptrMay_sub {o c : List Int} (hc : Bytes c) (hs : ∀ i, nth o i = nth (rdPtr c) i ∨ nth o i = 0) : PtrMay o := by
  intro j hj
  rcases hs j with h | h
  · rw [h]
    have hm : nth (rdPtr c) j ∈ rdPtr c := by
      unfold nth
      rw [List.getElem?_eq_getElem (by simp; exact hj)]
      exact List.getElem_mem _
    exact rdPtr_small hc _ hm
  · rw [h]; omega
end Go.Proofs.YthioepdgnbdohaaGreat

/- What holds of a look's state, pointer by pointer: plain laws. -/
namespace Go.Proofs.YthioepdgnbdohaaGreat
set_option linter.unusedSimpArgs false
set_option linter.unusedVariables false
open Go.RowKit

/-- what holds of a look's state, A: the image it began with -/
structure SI (X Y : Int) (A : Nat → List Int) (s : LS) : Prop where
  fc : FmCl s
  cd : ∀ q, s.cl q = true → isD X Y q = true
  bk : ∀ k q, s.bk k = some q → isD X Y q = true ∧ s.cl q = true ∧ s.fm q = false
  inj : ∀ k k' q, s.bk k = some q → s.bk k' = some q → k = k'
  un : ∀ j : Nat, s.cl j = false → s.S j = A j
  ln : ∀ j : Nat, isD X Y j = true → (s.S j).length = 128 ∧ Bytes (s.S j)
  sub : ∀ j : Nat, s.fm j = true → subP (s.S j) (A j)
/-- what a try does -/
structure Did (s s2 : LS) : Prop where
  new : ∀ k q, s2.bk k = some q → (∃ k', s.bk k' = some q) ∨ (0 ≤ q ∧ s.cl q = false)
  same : ∀ j : Nat, s2.fm j = false → s2.S j = s.S j
theorem Did.refl (s : LS) : Did s s := ⟨fun k q h => .inl ⟨k, h⟩, fun _ _ => rfl⟩
theorem Gr.not {a b : LS} (hg : Gr a b) {q : Int} (h0 : 0 ≤ q) (h : b.cl q = false) : a.cl q = false := by
  cases hc : a.cl q with
  | false => rfl
  | true =>
    have e : (q.toNat : Int) = q := by omega
    have := (hg q.toNat (by rw [e]; exact hc)).1
    rw [e, h] at this; cases this
theorem Did.trans {a b c : LS} (h : Did a b) (h2 : Did b c) (hg : Gr a b) (hg2 : Gr b c) (hb : FmCl b) : Did a c := by
  refine ⟨fun k q hq => ?_, fun j hj => ?_⟩
  · rcases h2.new k q hq with ⟨k', h3⟩ | ⟨h0, h3⟩
    · exact h.new k' q h3
    · exact .inr ⟨h0, hg.not h0 h3⟩
  · have hb2 : b.fm j = false := by
      cases hbj : b.fm j with
      | false => rfl
      | true => have := (hg2 j (hb j hbj)).2.1; rw [hj, hbj] at this; cases this
    rw [h2.same j hj, h.same j hb2]
structure TryI (X Y : Int) (A : Nat → List Int) (T : Int → LS → Bool × LS) : Prop where
  ok : TryOK T
  inv : ∀ p s, SI X Y A s → SI X Y A (T p s).2
  did : ∀ p s, SI X Y A s → Did s (T p s).2
structure SiftI (X Y : Int) (A : Nat → List Int) (F : List Int → LS → List Int × Bool × LS) : Prop where
  ok : SiftOK F
  inv : ∀ ps s, SI X Y A s → SI X Y A (F ps s).2.2
  did : ∀ ps s, SI X Y A s → Did s (F ps s).2.2
theorem siftT_i {X Y : Int} {A : Nat → List Int} {T : Nat → Int → LS → Bool × LS} (hT : ∀ k, TryI X Y A (T k)) (base step n : Int) (k0 : Nat) : SiftI X Y A (siftT T base step n k0) := by
  refine ⟨siftT_ok (fun k => (hT k).ok) base step n k0, fun ps => ?_, fun ps => ?_⟩
  · induction ps generalizing k0 with
    | nil => intro s h; exact h
    | cons p r ih =>
      intro s h
      rw [siftT_cons]
      split
      · exact ih (k0 + 1) s h
      · exact ih (k0 + 1) _ ((hT k0).inv p s h)
  · induction ps generalizing k0 with
    | nil => intro s h; exact Did.refl _
    | cons p r ih =>
      intro s h
      rw [siftT_cons]
      split
      · exact ih (k0 + 1) s h
      · exact ((hT k0).did p s h).trans (ih (k0 + 1) _ ((hT k0).inv p s h)) ((hT k0).ok.grow p s) ((siftT_ok (fun k => (hT k).ok) base step n (k0 + 1)).grow r _) ((hT k0).inv p s h).fc
theorem isD_pos {X Y q : Int} (hY : 0 ≤ Y) (h : isD X Y q = true) : 0 < q := by
  unfold isD at h
  have := of_decide_eq_true h
  omega
/-- a sector is claimed -/
theorem SI.claim {X Y : Int} {A : Nat → List Int} {s : LS} (h : SI X Y A s) {p : Int} (h1 : isD X Y p = true) : SI X Y A { s with cl := addS s.cl p } := by
  refine ⟨fun j hj => addS_mono (h.fc j hj), fun q hq => ?_, fun k q hk => ?_, h.inj, fun j hj => h.un j ?_, h.ln, h.sub⟩
  · by_cases hqp : q = p
    · subst hqp; exact h1
    · have hq2 : addS s.cl p q = true := hq
      rw [addS_ne hqp] at hq2
      exact h.cd q hq2
  · obtain ⟨a, b, c⟩ := h.bk k q hk
    exact ⟨a, addS_mono b, c⟩
  · cases hb : s.cl j with
    | false => rfl
    | true => have : addS s.cl p j = true := addS_mono hb; rw [show addS s.cl p j = false from hj] at this; cases this
theorem SI.fmn {X Y : Int} {A : Nat → List Int} {s : LS} (hY : 0 ≤ Y) (h : SI X Y A s) {p : Int} (h1 : isD X Y p = true) (h2 : s.cl p = false) : s.fm p = false := by
  have e := (isD_nat hY h1).1
  cases hb : s.fm p with
  | false => rfl
  | true =>
    have := h.fc p.toNat (by rw [e]; exact hb)
    rw [e, h2] at this; cases this
theorem tryRow_i {X Y : Int} (hY : 0 ≤ Y) (A : Nat → List Int) (base : Int) (k : Nat) : TryI X Y A (tryRow X Y base k) := by
  refine ⟨tryRow_ok X Y base k, fun p s h => ?_, fun p s h => ?_⟩
  · unfold tryRow
    split
    · rename_i hc
      have hn := h.claim hc.1
      refine ⟨hn.fc, hn.cd, fun k' q hk => ?_, fun k1 k2 q hk1 hk2 => ?_, hn.un, hn.ln, hn.sub⟩
      · have hk2 : putI s.bk (base + k) p k' = some q := hk
        unfold putI at hk2
        split at hk2
        · cases hk2
          exact ⟨hc.1, addS_self _ _, h.fmn hY hc.1 hc.2⟩
        · exact hn.bk k' q hk2
      · have a1 : putI s.bk (base + k) p k1 = some q := hk1
        have a2 : putI s.bk (base + k) p k2 = some q := hk2
        unfold putI at a1 a2
        split at a1
        · rename_i e1
          split at a2
          · rename_i e2; rw [e1, e2]
          · cases a1
            have := (h.bk _ _ a2).2.1
            rw [hc.2] at this; cases this
        · split at a2
          · cases a2
            have := (h.bk _ _ a1).2.1
            rw [hc.2] at this; cases this
          · exact h.inj _ _ _ a1 a2
    · exact h
  · unfold tryRow
    split
    · rename_i hc
      refine ⟨fun k' q hk => ?_, fun _ _ => rfl⟩
      have hk2 : putI s.bk (base + k) p k' = some q := hk
      unfold putI at hk2
      split at hk2
      · cases hk2
        exact .inr ⟨Int.le_of_lt (isD_pos hY hc.1), hc.2⟩
      · exact .inl ⟨k', hk2⟩
    · exact Did.refl _
theorem tryTab_i {X Y : Int} (hY : 0 ≤ Y) {A : Nat → List Int} {F : List Int → LS → List Int × Bool × LS} (hF : SiftI X Y A F) : TryI X Y A (tryTab X Y F) := by
  have hok := tryTab_ok hY hF.ok (X := X)
  refine ⟨hok, fun p s h => ?_, fun p s h => ?_⟩
  · cases hb : (tryTab X Y F p s).1 with
    | false => rw [hok.fail p s hb]; exact h
    | true =>
      obtain ⟨h1, h2, h3, h4⟩ := tryTab_yes hb
      rw [h4]
      obtain ⟨hp, -⟩ := isD_nat hY h1
      have h2' : s.cl (p.toNat : Int) = false := by rw [hp]; exact h2
      have hs1 := h.claim h1
      have hi := hF.inv (rdPtr (s.S p.toNat)) _ hs1
      have hd := hF.did (rdPtr (s.S p.toNat)) _ hs1
      have hg := hF.ok.grow (rdPtr (s.S p.toNat)) { s with cl := addS s.cl p } p.toNat (by rw [hp]; exact addS_self _ _)
      have hA := h.un p.toNat h2'
      obtain ⟨hl, hby⟩ := h.ln p.toNat (by rw [hp]; exact h1)
      have hmay : PtrMay (F (rdPtr (s.S p.toNat)) { s with cl := addS s.cl p }).1 := ptrMay_sub hby (fun i => hF.ok.sub _ _ i)
      have hlen : (F (rdPtr (s.S p.toNat)) { s with cl := addS s.cl p }).1.length = 32 := by rw [hF.ok.len]; simp
      have hback := ptr_back _ hlen hmay
      have hsub := fun i => hF.ok.sub (rdPtr (s.S p.toNat)) { s with cl := addS s.cl p } i
      have hbn : ∀ k q, (F (rdPtr (s.S p.toNat)) { s with cl := addS s.cl p }).2.2.bk k = some q → q ≠ p := by
        intro k q hk e
        subst e
        rcases hd.new k q hk with ⟨k', h5⟩ | ⟨-, h5⟩
        · have := (h.bk k' q h5).2.1
          rw [h2] at this; cases this
        · have h6 : addS s.cl q q = false := h5
          rw [addS_self] at h6; cases h6
      generalize (F (rdPtr (s.S p.toNat)) { s with cl := addS s.cl p }) = r at *
      refine ⟨fun j hj => ?_, hi.cd, fun k q hk => ?_, hi.inj, fun j hj => ?_, fun j hj => ?_, fun j hj => ?_⟩
      · by_cases hjp : (j : Int) = (p.toNat : Int)
        · rw [hjp]; exact hg.1
        · have hj2 : addS r.2.2.fm p.toNat j = true := hj
          rw [addS_ne hjp] at hj2
          exact hi.fc j hj2
      · obtain ⟨a, b, c⟩ := hi.bk k q hk
        refine ⟨a, b, ?_⟩
        show addS r.2.2.fm p.toNat q = false
        rw [addS_ne (by rw [hp]; exact hbn k q hk)]
        exact c
      · have hne : j ≠ p.toNat := fun e => by
          subst e
          rw [show r.2.2.cl p.toNat = false from hj] at hg; cases hg.1
        show updS _ _ _ _ = _
        rw [updS_ne _ _ hne]
        exact hi.un j hj
      · show (updS _ _ _ _).length = 128 ∧ Bytes (updS _ _ _ _)
        by_cases hjp : j = p.toNat
        · subst hjp
          rw [updS_eq]
          exact ⟨ptrR_length _, ptrR_bytes _⟩
        · rw [updS_ne _ _ hjp]
          exact hi.ln j hj
      · show subP (updS _ _ _ _) _
        by_cases hjp : j = p.toNat
        · subst hjp
          rw [updS_eq, ptrR_yes hmay]
          intro i
          rw [hback, ← hA]
          exact hsub i
        · rw [updS_ne _ _ hjp]
          have hj2 : addS r.2.2.fm p.toNat j = true := hj
          rw [addS_ne (by omega)] at hj2
          exact hi.sub j hj2
  · cases hb : (tryTab X Y F p s).1 with
    | false => rw [hok.fail p s hb]; exact Did.refl _
    | true =>
      obtain ⟨h1, h2, h3, h4⟩ := tryTab_yes hb
      rw [h4]
      obtain ⟨hp, -⟩ := isD_nat hY h1
      have hs1 := h.claim h1
      have hd := hF.did (rdPtr (s.S p.toNat)) _ hs1
      refine ⟨fun k q hk => ?_, fun j hj => ?_⟩
      · rcases hd.new k q hk with h5 | ⟨h0, h5⟩
        · exact .inl h5
        · refine .inr ⟨h0, ?_⟩
          cases hc : s.cl q with
          | false => rfl
          | true => have : addS s.cl p q = true := addS_mono hc; rw [show addS s.cl p q = false from h5] at this; cases this
      · have hj2 : addS (F (rdPtr (s.S p.toNat)) { s with cl := addS s.cl p }).2.2.fm p.toNat j = false := hj
        have hne : (j : Int) ≠ (p.toNat : Int) := fun e => by rw [e, addS_self] at hj2; cases hj2
        rw [addS_ne hne] at hj2
        show updS _ _ _ _ = _
        rw [updS_ne _ _ (by omega)]
        exact hd.same j hj2

/-- the rows and tables of an inode with n blocks -/
def rowT (X Y n base : Int) : List Int → LS → List Int × Bool × LS := siftT (tryRow X Y base) base 1 n 0
noncomputable def dblT (X Y n : Int) : List Int → LS → List Int × Bool × LS := siftT (fun k => tryTab X Y (rowT X Y n (44 + 32 * k))) 44 32 n 0
noncomputable def sglT (X Y n : Int) : List Int → LS → List Int × Bool × LS := siftT (fun _ => tryTab X Y (rowT X Y n 12)) 12 1 n 0
noncomputable def dubT (X Y n : Int) : List Int → LS → List Int × Bool × LS := siftT (fun _ => tryTab X Y (dblT X Y n)) 44 1 n 0
theorem goodX_no {X Y p : Int} {st : LS} (h : (goodX X Y p st).1 = false) : ¬ (isD X Y p = true ∧ st.cl p = false) ∧ (goodX X Y p st).2 = st := by
  unfold goodX at h ⊢
  split at h
  · cases h
  · rename_i hc; rw [if_neg hc]; exact ⟨hc, rfl⟩
theorem goodX_yes {X Y p : Int} {st : LS} (h : ¬ (goodX X Y p st).1 = false) : (isD X Y p = true ∧ st.cl p = false) ∧ (goodX X Y p st).2 = { st with cl := addS st.cl p } := by
  unfold goodX at h ⊢
  split at h
  · rename_i hc; rw [if_pos hc]; exact ⟨hc, rfl⟩
  · exact absurd rfl h
theorem tab_tries {X Y : Int} (F : List Int → LS → List Int × Bool × LS) (p : Int) (st : LS) :
    tryTab X Y F p st = if (goodX X Y p st).1 = false then (false, (goodX X Y p st).2) else tableP F p.toNat (goodX X Y p st).2 := by
  by_cases h : (goodX X Y p st).1 = false
  · obtain ⟨h1, h2⟩ := goodX_no h
    rw [if_pos h, h2]
    unfold tryTab
    rw [if_neg h1]
  · obtain ⟨h1, h2⟩ := goodX_yes h
    rw [if_neg h, h2]
    unfold tryTab
    rw [if_pos h1]
theorem rowX_T (X Y n base : Int) : rowX X Y n base = rowT X Y n base := by
  funext ps st
  unfold rowX rowT
  refine siftP_T base 1 n (fun k p st => ?_) (fun k p st h => (tryRow_ok X Y base k).fail p st h) ps 0 st
  by_cases h : (goodX X Y p st).1 = false
  · obtain ⟨h1, h2⟩ := goodX_no h
    rw [if_pos h, h2]
    unfold tryRow
    rw [if_neg h1]
  · obtain ⟨h1, h2⟩ := goodX_yes h
    rw [if_neg h, h2]
    unfold tryRow keepRow
    rw [if_pos h1]
theorem rowT_i {X Y : Int} (hY : 0 ≤ Y) (A : Nat → List Int) (n base : Int) : SiftI X Y A (rowT X Y n base) := siftT_i (fun k => tryRow_i hY A base k) base 1 n 0
theorem dblX_T {X Y : Int} (hY : 0 ≤ Y) (n : Int) : dblX X Y n = dblT X Y n := by
  funext ps st
  unfold dblX dblT
  refine siftP_T 44 32 n (fun k p st => ?_) (fun k p st h => (tryTab_ok hY (rowT_i hY (fun _ => []) n (44 + 32 * k)).ok).fail p st h) ps 0 st
  rw [tab_tries, ← rowX_T]
  rfl
theorem dblT_i {X Y : Int} (hY : 0 ≤ Y) (A : Nat → List Int) (n : Int) : SiftI X Y A (dblT X Y n) := siftT_i (fun k => tryTab_i hY (rowT_i hY A n (44 + 32 * k))) 44 32 n 0
theorem sglT_i {X Y : Int} (hY : 0 ≤ Y) (A : Nat → List Int) (n : Int) : SiftI X Y A (sglT X Y n) := siftT_i (fun _ => tryTab_i hY (rowT_i hY A n 12)) 12 1 n 0
theorem dubT_i {X Y : Int} (hY : 0 ≤ Y) (A : Nat → List Int) (n : Int) : SiftI X Y A (dubT X Y n) := siftT_i (fun _ => tryTab_i hY (dblT_i hY A n)) 44 1 n 0
theorem sgl_T {X Y : Int} (hY : 0 ≤ Y) (n : Int) (ps : List Int) (st : LS) : siftP (goodX X Y) (keep3X X Y n) 12 1 n 0 ps st = sglT X Y n ps st := by
  unfold sglT
  refine siftP_T 12 1 n (fun k p st => ?_) (fun k p st h => (tryTab_ok hY (rowT_i hY (fun _ => []) n 12).ok).fail p st h) ps 0 st
  rw [tab_tries, ← rowX_T]
  rfl
theorem dub_T {X Y : Int} (hY : 0 ≤ Y) (n : Int) (ps : List Int) (st : LS) : siftP (goodX X Y) (keep4X X Y n) 44 1 n 0 ps st = dubT X Y n ps st := by
  unfold dubT
  refine siftP_T 44 1 n (fun k p st => ?_) (fun k p st h => (tryTab_ok hY (dblT_i hY (fun _ => []) n).ok).fail p st h) ps 0 st
  rw [tab_tries, ← dblX_T hY]
  rfl
/-- the three parts of an inode's pointers -/
noncomputable def pA (X Y n : Int) (raw : List Int) (st : LS) := rowT X Y n 0 ((raw.drop 4).take 12) st
noncomputable def pB (X Y n : Int) (raw : List Int) (st : LS) := sglT X Y n [nth raw 16] (pA X Y n raw st).2.2
noncomputable def pC (X Y n : Int) (raw : List Int) (st : LS) := dubT X Y n [nth raw 17] (pB X Y n raw st).2.2
theorem ptrsX_T {X Y : Int} (hY : 0 ≤ Y) (n : Int) (raw : List Int) (st : LS) : ptrsX X Y n raw st = (raw.take 4 ++ ((pA X Y n raw st).1 ++ ((pB X Y n raw st).1 ++ (pC X Y n raw st).1)), (pC X Y n raw st).2.2) := by
  unfold ptrsX pC pB pA
  simp only [sgl_T hY, dub_T hY, rowX_T]
theorem ptrs_i {X Y : Int} (hY : 0 ≤ Y) {A : Nat → List Int} (n : Int) (raw : List Int) {st : LS} (h : SI X Y A st) : SI X Y A (ptrsX X Y n raw st).2 ∧ Did st (ptrsX X Y n raw st).2 ∧ Gr st (ptrsX X Y n raw st).2 := by
  rw [ptrsX_T hY]
  have iA := (rowT_i hY A n 0).inv ((raw.drop 4).take 12) st h
  have dA := (rowT_i hY A n 0).did ((raw.drop 4).take 12) st h
  have gA := (rowT_i (X := X) hY A n 0).ok.grow ((raw.drop 4).take 12) st
  have iB := (sglT_i hY A n).inv [nth raw 16] _ iA
  have dB := (sglT_i hY A n).did [nth raw 16] _ iA
  have gB := (sglT_i (X := X) hY A n).ok.grow [nth raw 16] (rowT X Y n 0 ((raw.drop 4).take 12) st).2.2
  have iC := (dubT_i hY A n).inv [nth raw 17] _ iB
  have dC := (dubT_i hY A n).did [nth raw 17] _ iB
  have gC := (dubT_i (X := X) hY A n).ok.grow [nth raw 17] (sglT X Y n [nth raw 16] (rowT X Y n 0 ((raw.drop 4).take 12) st).2.2).2.2
  exact ⟨iC, (dA.trans dB gA gB iA.fc).trans dC (gA.trans gB) gC iB.fc, (gA.trans gB).trans gC⟩
end Go.Proofs.YthioepdgnbdohaaGreat

/- An inode that is taken up: what holds behind it, and two looks side by side. -/
namespace Go.Proofs.YthioepdgnbdohaaGreat
set_option linter.unusedSimpArgs false
set_option linter.unusedVariables false
open Go.RowKit

theorem ptrs_len {X Y : Int} (hY : 0 ≤ Y) (n : Int) {raw : List Int} (hr : raw.length = 18) (st : LS) : (pA X Y n raw st).1.length = 12 ∧ (pB X Y n raw st).1.length = 1 ∧ (pC X Y n raw st).1.length = 1 := by
  refine ⟨?_, ?_, ?_⟩
  · unfold pA; rw [(rowT_i (X := X) hY (fun _ => []) n 0).ok.len]; simp [hr]
  · unfold pB; rw [(sglT_i (X := X) hY (fun _ => []) n).ok.len]; rfl
  · unfold pC; rw [(dubT_i (X := X) hY (fun _ => []) n).ok.len]; rfl
theorem nth_app_l {a b : List Int} {i : Nat} (h : i < a.length) : nth (a ++ b) i = nth a i := by unfold nth; rw [List.getElem?_append_left h]
theorem nth_app_r {a b : List Int} {i : Nat} (h : a.length ≤ i) : nth (a ++ b) i = nth b (i - a.length) := by unfold nth; rw [List.getElem?_append_right h]
theorem nth_out {l : List Int} {i : Nat} (h : l.length ≤ i) : nth l i = 0 := by unfold nth; rw [List.getElem?_eq_none h]; rfl
/-- the pointers of an inode behind a take -/
theorem ptrs_nth {X Y : Int} (hY : 0 ≤ Y) (n : Int) {raw : List Int} (hr : raw.length = 18) (st : LS) :
    (∀ i, i < 4 → nth (ptrsX X Y n raw st).1 i = nth raw i) ∧ (∀ i, i < 12 → nth (ptrsX X Y n raw st).1 (4 + i) = nth (pA X Y n raw st).1 i) ∧ nth (ptrsX X Y n raw st).1 16 = nth (pB X Y n raw st).1 0 ∧ nth (ptrsX X Y n raw st).1 17 = nth (pC X Y n raw st).1 0 ∧ (ptrsX X Y n raw st).1.length = 18 := by
  obtain ⟨l1, l2, l3⟩ := ptrs_len (X := X) hY n hr st
  have l0 : (raw.take 4).length = 4 := by simp [hr]
  rw [ptrsX_T hY]
  refine ⟨fun i hi => ?_, fun i hi => ?_, ?_, ?_, ?_⟩
  · show nth (raw.take 4 ++ _) i = _
    rw [nth_app_l (by omega)]
    unfold nth
    rw [List.getElem?_take, if_pos hi]
  · show nth (raw.take 4 ++ _) (4 + i) = _
    rw [nth_app_r (by omega), l0, Nat.add_sub_cancel_left, nth_app_l (by omega)]
  · show nth (raw.take 4 ++ _) 16 = _
    rw [nth_app_r (by omega), l0, nth_app_r (by omega), l1, nth_app_l (by omega)]
  · show nth (raw.take 4 ++ _) 17 = _
    rw [nth_app_r (by omega), l0, nth_app_r (by omega), l1, nth_app_r (by omega), l2]
  · show (raw.take 4 ++ _).length = 18
    simp only [List.length_append]
    omega
theorem nth_direct {raw : List Int} (hr : raw.length = 18) {i : Nat} (hi : i < 12) : nth ((raw.drop 4).take 12) i = nth raw (4 + i) := by
  unfold nth
  rw [List.getElem?_take, if_pos hi, List.getElem?_drop]
/-- two inodes side by side -/
structure Raw2 (allw : Prop) (out raw raw' : List Int) : Prop where
  len : raw.length = 18
  len' : raw'.length = 18
  kind : nth raw' 0 = nth raw 0
  size : nth raw' 2 = nth raw 2
  made : nth raw' 3 = nth raw 3
  ptr : ∀ i, 4 ≤ i → i < 18 → (nth raw' i = nth raw i ∨ (nth raw' i = 0 ∧ nth out i = 0)) ∧ (allw → nth raw' i = nth out i)
end Go.Proofs.YthioepdgnbdohaaGreat

/- What hangs at an inode's pointers, as a form: lists of sectors, tables, blocks: plain laws, no program in sight. -/
namespace Go.Proofs.YthioepdgnbdohaaGreat
set_option linter.unusedSimpArgs false
set_option linter.unusedVariables false
open Go.RowKit

/-- all of l are added -/
def addAll (s : Int → Bool) (l : List Int) : Int → Bool := fun q => s q || decide (q ∈ l)
theorem addAll_nil (s : Int → Bool) : addAll s [] = s := by funext q; simp [addAll]
theorem addAll_cons (s : Int → Bool) (p : Int) (l : List Int) : addAll s (p :: l) = addAll (addS s p) l := by
  funext q
  simp only [addAll, addS, List.mem_cons, Bool.decide_or, Bool.or_assoc]
theorem addAll_app (s : Int → Bool) (a b : List Int) : addAll s (a ++ b) = addAll (addAll s a) b := by
  funext q
  simp only [addAll, List.mem_append, Bool.decide_or, Bool.or_assoc]
theorem addAll_yes {s : Int → Bool} {l : List Int} {q : Int} : addAll s l q = true ↔ s q = true ∨ q ∈ l := by simp [addAll]
theorem addAll_no {s : Int → Bool} {l : List Int} {q : Int} : addAll s l q = false ↔ s q = false ∧ q ∉ l := by simp [addAll]
/-- each in the data sectors, not seen so far, each once -/
def OkL (X Y : Int) (s : Int → Bool) (l : List Int) : Prop := (∀ p ∈ l, isD X Y p = true ∧ s p = false) ∧ l.Nodup
theorem okL_nil (X Y : Int) (s : Int → Bool) : OkL X Y s [] := ⟨fun p h => (by cases h), List.nodup_nil⟩
theorem okL_app {X Y : Int} {s : Int → Bool} {a b : List Int} : OkL X Y s (a ++ b) ↔ OkL X Y s a ∧ OkL X Y (addAll s a) b := by
  unfold OkL
  rw [List.nodup_append]
  constructor
  · rintro ⟨h1, h2, h3, h4⟩
    refine ⟨⟨fun p hp => h1 p (List.mem_append_left _ hp), h2⟩, fun p hp => ⟨(h1 p (List.mem_append_right _ hp)).1, addAll_no.2 ⟨(h1 p (List.mem_append_right _ hp)).2, fun hm => h4 p hm p hp rfl⟩⟩, h3⟩
  · rintro ⟨⟨h1, h2⟩, h3, h4⟩
    refine ⟨fun p hp => ?_, h2, h4, fun p hp q hq e => ?_⟩
    · rcases List.mem_append.1 hp with h | h
      · exact h1 p h
      · exact ⟨(h3 p h).1, (addAll_no.1 (h3 p h).2).1⟩
    · subst e
      exact (addAll_no.1 (h3 p hq).2).2 hp
theorem okL_one {X Y : Int} {s : Int → Bool} {p : Int} : OkL X Y s [p] ↔ isD X Y p = true ∧ s p = false := by
  unfold OkL
  simp
theorem addAll_one (s : Int → Bool) (p : Int) : addAll s [p] = addS s p := by rw [addAll_cons, addAll_nil]
theorem okL_cons {X Y : Int} {s : Int → Bool} {p : Int} {l : List Int} : OkL X Y s (p :: l) ↔ (isD X Y p = true ∧ s p = false) ∧ OkL X Y (addS s p) l := by
  have := okL_app (X := X) (Y := Y) (s := s) (a := [p]) (b := l)
  rw [okL_one, addAll_one] at this
  exact this
theorem OkL.mono {X Y : Int} {s s' : Int → Bool} {l : List Int} (h : OkL X Y s l) (hs : ∀ q, s q = false → s' q = false) : OkL X Y s' l := ⟨fun p hp => ⟨(h.1 p hp).1, hs p (h.1 p hp).2⟩, h.2⟩
/-- is one left? -/
def someP (ps : List Int) : Bool := ps.any fun p => p != 0
/-- what hangs at a pointer: all sectors, the tables among them, is it well-shaped, its blocks -/
structure Form where
  ps : (Nat → List Int) → Int → List Int
  tb : (Nat → List Int) → Int → List Int
  sh : (Nat → List Int) → Int → Prop
  bl : (Nat → List Int) → Int → Int → Int
def leafF : Form := ⟨fun _ p => [p], fun _ _ => [], fun _ _ => True, fun _ p _ => p⟩
/-- a row of pointers: the k-th one leads to the blocks from lo k on -/
structure RowF where
  lo : Nat → Int
  F : Nat → Form
def RowF.ps (R : RowF) (S : Nat → List Int) : Nat → List Int → List Int
  | _, [] => []
  | k, p :: r => (if p = 0 then [] else (R.F k).ps S p) ++ R.ps S (k + 1) r
def RowF.tb (R : RowF) (S : Nat → List Int) : Nat → List Int → List Int
  | _, [] => []
  | k, p :: r => (if p = 0 then [] else (R.F k).tb S p) ++ R.tb S (k + 1) r
def RowF.sh (R : RowF) (n : Int) (S : Nat → List Int) : Nat → List Int → Prop
  | _, [] => True
  | k, p :: r => (p ≠ 0 → R.lo k < n ∧ (R.F k).sh S p) ∧ R.sh n S (k + 1) r
def RowF.bl (R : RowF) (S : Nat → List Int) : Nat → List Int → Int → Int
  | _, [], _ => 0
  | k, p :: r, q => if q < R.lo (k + 1) then (if p = 0 then 0 else (R.F k).bl S p q) else R.bl S (k + 1) r q
def tabF (n : Int) (R : RowF) : Form where
  ps := fun S p => p :: R.ps S 0 (rdPtr (S p.toNat))
  tb := fun S p => p :: R.tb S 0 (rdPtr (S p.toNat))
  sh := fun S p => R.sh n S 0 (rdPtr (S p.toNat)) ∧ someP (rdPtr (S p.toNat)) = true
  bl := fun S p q => R.bl S 0 (rdPtr (S p.toNat)) q
/-- a form hangs on its tables alone -/
structure FormOk (f : Form) : Prop where
  st : ∀ S S' p, (∀ q ∈ f.tb S p, S' q.toNat = S q.toNat) → f.ps S' p = f.ps S p ∧ f.tb S' p = f.tb S p ∧ (f.sh S' p ↔ f.sh S p) ∧ ∀ q, f.bl S' p q = f.bl S p q
  tp : ∀ S p q, q ∈ f.tb S p → q ∈ f.ps S p
theorem leafF_ok : FormOk leafF := ⟨fun _ _ _ _ => ⟨rfl, rfl, Iff.rfl, fun _ => rfl⟩, fun _ _ _ h => by cases h⟩
theorem RowF.st {R : RowF} (hR : ∀ k, FormOk (R.F k)) (n : Int) (S S' : Nat → List Int) : ∀ (ps : List Int) (k : Nat), (∀ q ∈ R.tb S k ps, S' q.toNat = S q.toNat) → R.ps S' k ps = R.ps S k ps ∧ R.tb S' k ps = R.tb S k ps ∧ (R.sh n S' k ps ↔ R.sh n S k ps) ∧ ∀ q, R.bl S' k ps q = R.bl S k ps q
  | [], _, _ => ⟨rfl, rfl, Iff.rfl, fun _ => rfl⟩
  | p :: r, k, h => by
    have h1 := RowF.st hR n S S' r (k + 1) (fun q hq => h q (List.mem_append_right _ hq))
    by_cases hp : p = 0
    · subst hp
      refine ⟨?_, ?_, ?_, fun q => ?_⟩
      · show _ ++ _ = _ ++ _
        rw [if_pos rfl, if_pos rfl, h1.1]
      · show _ ++ _ = _ ++ _
        rw [if_pos rfl, if_pos rfl, h1.2.1]
      · show (_ ∧ _) ↔ (_ ∧ _)
        rw [h1.2.2.1]
        exact and_congr_left fun _ => ⟨fun _ h => absurd rfl h, fun _ h => absurd rfl h⟩
      · show (if _ then _ else _) = (if _ then _ else _)
        rw [if_pos rfl, if_pos rfl, h1.2.2.2]
    · have h2 := (hR k).st S S' p (fun q hq => h q (List.mem_append_left _ (by rw [if_neg hp]; exact hq)))
      refine ⟨?_, ?_, ?_, fun q => ?_⟩
      · show _ ++ _ = _ ++ _
        rw [if_neg hp, if_neg hp, h1.1, h2.1]
      · show _ ++ _ = _ ++ _
        rw [if_neg hp, if_neg hp, h1.2.1, h2.2.1]
      · show (_ ∧ _) ↔ (_ ∧ _)
        rw [h1.2.2.1, h2.2.2.1]
      · show (if _ then _ else _) = (if _ then _ else _)
        rw [if_neg hp, if_neg hp, h1.2.2.2, h2.2.2.2]
theorem RowF.tp {R : RowF} (hR : ∀ k, FormOk (R.F k)) (S : Nat → List Int) : ∀ (ps : List Int) (k : Nat) (q : Int), q ∈ R.tb S k ps → q ∈ R.ps S k ps
  | [], _, _, h => by cases h
  | p :: r, k, q, h => by
    rcases List.mem_append.1 h with h | h
    · refine List.mem_append_left _ ?_
      split at h
      · cases h
      · rename_i hp; rw [if_neg hp]; exact (hR k).tp S p q h
    · exact List.mem_append_right _ (RowF.tp hR S r (k + 1) q h)
theorem tabF_ok (n : Int) {R : RowF} (hR : ∀ k, FormOk (R.F k)) : FormOk (tabF n R) := by
  refine ⟨fun S S' p h => ?_, fun S p q h => ?_⟩
  · have e : S' p.toNat = S p.toNat := h p (List.mem_cons_self ..)
    have h1 := RowF.st hR n S S' (rdPtr (S p.toNat)) 0 (fun q hq => h q (List.mem_cons_of_mem _ hq))
    refine ⟨?_, ?_, ?_, fun q => ?_⟩
    · show p :: R.ps S' 0 (rdPtr (S' p.toNat)) = p :: _
      rw [e, h1.1]
    · show p :: R.tb S' 0 (rdPtr (S' p.toNat)) = p :: _
      rw [e, h1.2.1]
    · show (R.sh n S' 0 (rdPtr (S' p.toNat)) ∧ _) ↔ (R.sh n S 0 (rdPtr (S p.toNat)) ∧ _)
      rw [e, h1.2.2.1]
    · show R.bl S' 0 (rdPtr (S' p.toNat)) q = R.bl S 0 (rdPtr (S p.toNat)) q
      rw [e, h1.2.2.2]
  · rcases List.mem_cons.1 h with h | h
    · exact List.mem_cons.2 (.inl h)
    · exact List.mem_cons.2 (.inr (RowF.tp hR S _ 0 q h))
def optI (p : Int) : Option Int := if p = 0 then none else some p

/-- a try leaves what is well-shaped -/
structure TryF (X Y : Int) (A : Nat → List Int) (T : Int → LS → Bool × LS) (f : Form) (a b : Int) : Prop where
  yes : ∀ p s, SI X Y A s → (∀ q, a ≤ q → s.bk q = none) → (T p s).1 = true →
    p ≠ 0 ∧ f.sh (T p s).2.S p ∧ OkL X Y s.cl (f.ps (T p s).2.S p) ∧ (T p s).2.cl = addAll s.cl (f.ps (T p s).2.S p) ∧ (∀ q ∈ f.tb (T p s).2.S p, (T p s).2.fm q = true) ∧
    (∀ q, q < a → (T p s).2.bk q = s.bk q) ∧ (∀ q, b ≤ q → (T p s).2.bk q = none) ∧ ∀ q, a ≤ q → q < b → (T p s).2.bk q = optI (f.bl (T p s).2.S p q)
structure SiftF (X Y : Int) (A : Nat → List Int) (F : List Int → LS → List Int × Bool × LS) (R : RowF) (n : Int) (k m : Nat) : Prop where
  i : SiftI X Y A F
  ok : ∀ k, FormOk (R.F k)
  all : ∀ ps s, k + ps.length ≤ m → SI X Y A s → (∀ q, R.lo k ≤ q → s.bk q = none) →
    R.sh n (F ps s).2.2.S k (F ps s).1 ∧ OkL X Y s.cl (R.ps (F ps s).2.2.S k (F ps s).1) ∧ (F ps s).2.2.cl = addAll s.cl (R.ps (F ps s).2.2.S k (F ps s).1) ∧ (∀ q ∈ R.tb (F ps s).2.2.S k (F ps s).1, (F ps s).2.2.fm q = true) ∧
    (F ps s).2.1 = someP (F ps s).1 ∧ (∀ q, q < R.lo k → (F ps s).2.2.bk q = s.bk q) ∧ (∀ q, R.lo (k + ps.length) ≤ q → (F ps s).2.2.bk q = none) ∧
    ∀ q, R.lo k ≤ q → q < R.lo (k + ps.length) → (F ps s).2.2.bk q = optI (R.bl (F ps s).2.2.S k (F ps s).1 q)
theorem fm_nat {X Y : Int} (hY : 0 ≤ Y) {s s2 : LS} (hg : Gr s s2) (hc : FmCl s) {q : Int} (hd : isD X Y q = true) (h : s.fm q = true) : s2.fm q = true ∧ s2.S q.toNat = s.S q.toNat := by
  have e := (isD_nat hY hd).1
  obtain ⟨h1, h2, h3⟩ := hg q.toNat (hc q.toNat (by rw [e]; exact h))
  rw [e] at h2
  exact ⟨by rw [h2, h], h3⟩
theorem siftT_f {X Y : Int} (hY : 0 ≤ Y) {A : Nat → List Int} {T : Nat → Int → LS → Bool × LS} {R : RowF} {base step n : Int} {m : Nat} (hlo : ∀ k, R.lo k ≤ R.lo (k + 1)) (hb : ∀ k : Nat, k < m → R.lo k = base + step * k)
    (hTi : ∀ k, TryI X Y A (T k)) (hok : ∀ k, FormOk (R.F k)) (hT : ∀ k, k < m → TryF X Y A (T k) (R.F k) (R.lo k) (R.lo (k + 1))) (k0 : Nat) : SiftF X Y A (siftT T base step n k0) R n k0 m := by
  refine ⟨siftT_i hTi base step n k0, hok, fun ps => ?_⟩
  induction ps generalizing k0 with
  | nil =>
    intro s hm hi hf
    refine ⟨trivial, okL_nil _ _ _, (addAll_nil _).symm, fun q h => (by cases h), rfl, fun q _ => rfl, fun q hq => hf q hq, fun q h1 h2 => ?_⟩
    have : R.lo (k0 + ([] : List Int).length) = R.lo k0 := rfl
    omega
  | cons p r ih =>
    intro s hm hi hf
    have hkl : k0 + (p :: r).length = (k0 + 1) + r.length := by simp; omega
    rw [hkl] at hm
    rw [hkl, siftT_cons]
    have hkm : k0 < m := by omega
    by_cases hc : p = 0 ∨ n ≤ base + step * k0 ∨ (T k0 p s).1 = false
    · rw [if_pos hc]
      obtain ⟨h1, h2, h3, h4, h5, h6, h7, h8⟩ := ih (k0 + 1) s hm hi (fun q hq => hf q (Int.le_trans (hlo k0) hq))
      refine ⟨⟨fun h => absurd rfl h, h1⟩, ?_, ?_, ?_, ?_, fun q hq => h6 q (Int.lt_of_lt_of_le hq (hlo k0)), h7, fun q ha hb => ?_⟩
      · show OkL X Y s.cl ((if (0 : Int) = 0 then [] else _) ++ _)
        rw [if_pos rfl]; exact h2
      · show _ = addAll s.cl ((if (0 : Int) = 0 then [] else _) ++ _)
        rw [if_pos rfl]; exact h3
      · intro q hq
        change q ∈ ((if (0 : Int) = 0 then [] else _) ++ _) at hq
        rw [if_pos rfl] at hq
        exact h4 q hq
      · show _ = someP (0 :: _)
        unfold someP
        rw [List.any_cons]
        exact h5
      · show _ = optI (if q < R.lo (k0 + 1) then (if (0 : Int) = 0 then 0 else _) else _)
        by_cases hq : q < R.lo (k0 + 1)
        · rw [if_pos hq, if_pos rfl, h6 q hq, hf q ha]; rfl
        · rw [if_neg hq]
          exact h8 q (by omega) hb
    · rw [if_neg hc]
      have hp0 : p ≠ 0 := fun h => hc (.inl h)
      have hn : base + step * k0 < n := by omega
      have ht : (T k0 p s).1 = true := by
        cases hh : (T k0 p s).1 with
        | true => rfl
        | false => exact absurd (.inr (.inr hh)) hc
      have hlk : R.lo k0 < n := by rw [hb k0 hkm]; exact hn
      obtain ⟨-, y1, y2, y3, y4, y5, y6, y7⟩ := (hT k0 hkm).yes p s hi hf ht
      have hi1 := (hTi k0).inv p s hi
      obtain ⟨h1, h2, h3, h4, h5, h6, h7, h8⟩ := ih (k0 + 1) (T k0 p s).2 hm hi1 y6
      have hg := (siftT_ok (fun k => (hTi k).ok) base step n (k0 + 1)).grow r (T k0 p s).2
      generalize (T k0 p s).2 = s1 at *
      generalize siftT T base step n (k0 + 1) r s1 = x at *
      have hd : ∀ q ∈ (R.F k0).tb s1.S p, isD X Y q = true := fun q hq => (y2.1 q ((hok k0).tp _ _ _ hq)).1
      obtain ⟨z1, z2, z3, z4⟩ := (hok k0).st s1.S x.2.2.S p (fun q hq => (fm_nat hY hg hi1.fc (hd q hq) (y4 q hq)).2)
      refine ⟨⟨fun _ => ⟨hlk, z3.2 y1⟩, h1⟩, ?_, ?_, ?_, ?_, fun q hq => ?_, h7, fun q ha hb => ?_⟩
      · show OkL X Y s.cl ((if p = 0 then [] else _) ++ _)
        rw [if_neg hp0, okL_app, z1, ← y3]
        exact ⟨y2, h2⟩
      · show _ = addAll s.cl ((if p = 0 then [] else _) ++ _)
        rw [if_neg hp0, addAll_app, z1, ← y3]
        exact h3
      · intro q hq
        change q ∈ ((if p = 0 then [] else _) ++ _) at hq
        rw [if_neg hp0, List.mem_append, z2] at hq
        rcases hq with hq | hq
        · exact (fm_nat hY hg hi1.fc (hd q hq) (y4 q hq)).1
        · exact h4 q hq
      · show true = someP (p :: _)
        unfold someP
        rw [List.any_cons]
        have : (p != 0) = true := by simpa using hp0
        rw [this]; rfl
      · rw [h6 q (Int.lt_of_lt_of_le hq (hlo k0)), y5 q hq]
      · show _ = optI (if q < R.lo (k0 + 1) then (if p = 0 then 0 else _) else _)
        by_cases hq : q < R.lo (k0 + 1)
        · rw [if_pos hq, if_neg hp0, h6 q hq, z4, y7 q ha hq]
        · rw [if_neg hq]
          exact h8 q (by omega) hb
theorem tryRow_f {X Y : Int} (hY : 0 ≤ Y) (A : Nat → List Int) (base : Int) (k : Nat) : TryF X Y A (tryRow X Y base k) leafF (base + k) (base + (k + 1 : Nat)) := by
  refine ⟨fun p s hi hf ht => ?_⟩
  unfold tryRow at ht ⊢
  by_cases hc : isD X Y p = true ∧ s.cl p = false
  · rw [if_pos hc]
    have hp := (isD_nat hY hc.1).2
    refine ⟨hp, trivial, okL_one.2 hc, (addAll_one _ _).symm, fun q hq => (by cases hq), fun q hq => ?_, fun q hq => ?_, fun q h1 h2 => ?_⟩
    · show putI s.bk (base + k) p q = _
      unfold putI
      rw [if_neg (by omega)]
    · show putI s.bk (base + k) p q = _
      unfold putI
      rw [if_neg (by omega)]
      exact hf q (by omega)
    · show putI s.bk (base + k) p q = optI p
      unfold putI optI
      rw [if_pos (by omega), if_neg hp]
  · rw [if_neg hc] at ht; cases ht
theorem tryTab_f {X Y : Int} (hY : 0 ≤ Y) {A : Nat → List Int} {F : List Int → LS → List Int × Bool × LS} {R : RowF} {n a b : Int} (hF : SiftF X Y A F R n 0 32) (ha : R.lo 0 = a) (hb : R.lo 32 = b) : TryF X Y A (tryTab X Y F) (tabF n R) a b := by
  refine ⟨fun p s hi hf ht => ?_⟩
  obtain ⟨h1, h2, h3, h4⟩ := tryTab_yes ht
  obtain ⟨hp, hp0⟩ := isD_nat hY h1
  have hi1 := hi.claim h1
  obtain ⟨x1, x2, x3, x4, x5, x6, x7, x8⟩ := hF.all (rdPtr (s.S p.toNat)) { s with cl := addS s.cl p } (by simp) hi1 (fun q hq => hf q (by rw [← ha]; exact hq))
  have hg := hF.i.ok.grow (rdPtr (s.S p.toNat)) { s with cl := addS s.cl p } p.toNat (by rw [hp]; exact addS_self _ _)
  have hl := (hi.ln p.toNat (by rw [hp]; exact h1))
  have hmay : PtrMay (F (rdPtr (s.S p.toNat)) { s with cl := addS s.cl p }).1 := ptrMay_sub hl.2 (fun i => hF.i.ok.sub _ _ i)
  have hlen : (F (rdPtr (s.S p.toNat)) { s with cl := addS s.cl p }).1.length = 32 := by rw [hF.i.ok.len]; simp
  have hback := ptr_back _ hlen hmay
  have h32 : (rdPtr (s.S p.toNat)).length = 32 := by simp
  rw [h32, Nat.zero_add] at x7 x8
  rw [h4]
  generalize (F (rdPtr (s.S p.toNat)) { s with cl := addS s.cl p }) = r at *
  have eS : updS r.2.2.S p.toNat (ptrR r.1).1 p.toNat = (ptrR r.1).1 := updS_eq _ _ _
  have e0 : (ptrR r.1).1 = ptrSecN r.1 32 := by rw [ptrR_yes hmay]
  have eR : rdPtr ((ptrR r.1).1) = r.1 := by rw [e0, hback]
  -- the row's own tables are not this one
  have hne : ∀ q ∈ R.tb r.2.2.S 0 r.1, q.toNat ≠ p.toNat := fun q hq e => by
    have hd := (x2.1 q (RowF.tp hF.ok _ _ 0 q hq))
    have e2 := (isD_nat hY hd.1).1
    have e3 : q = p := by rw [← e2, ← hp, e]
    subst e3
    have := hd.2
    rw [show ({ s with cl := addS s.cl q } : LS).cl q = addS s.cl q q from rfl, addS_self] at this
    cases this
  obtain ⟨z1, z2, z3, z4⟩ := RowF.st hF.ok n r.2.2.S (updS r.2.2.S p.toNat (ptrR r.1).1) r.1 0 (fun q hq => updS_ne _ _ (hne q hq))
  refine ⟨hp0, ?_, ?_, ?_, fun q hq => ?_, fun q hq => ?_, fun q hq => ?_, fun q hq1 hq2 => ?_⟩
  · show R.sh n (updS r.2.2.S p.toNat (ptrR r.1).1) 0 (rdPtr (updS r.2.2.S p.toNat (ptrR r.1).1 p.toNat)) ∧ someP (rdPtr (updS r.2.2.S p.toNat (ptrR r.1).1 p.toNat)) = true
    rw [eS, eR]
    exact ⟨z3.2 x1, by rw [← x5]; exact h3⟩
  · show OkL X Y s.cl (p :: R.ps (updS r.2.2.S p.toNat (ptrR r.1).1) 0 (rdPtr (updS r.2.2.S p.toNat (ptrR r.1).1 p.toNat)))
    rw [eS, eR, z1, okL_cons]
    exact ⟨⟨h1, h2⟩, x2⟩
  · show r.2.2.cl = addAll s.cl (p :: R.ps (updS r.2.2.S p.toNat (ptrR r.1).1) 0 (rdPtr (updS r.2.2.S p.toNat (ptrR r.1).1 p.toNat)))
    rw [eS, eR, z1, addAll_cons]
    exact x3
  · show addS r.2.2.fm p.toNat q = true
    change q ∈ p :: R.tb (updS r.2.2.S p.toNat (ptrR r.1).1) 0 (rdPtr (updS r.2.2.S p.toNat (ptrR r.1).1 p.toNat)) at hq
    rw [eS, eR, z2] at hq
    rcases List.mem_cons.1 hq with h | h
    · rw [h, hp]; exact addS_self _ _
    · exact addS_mono (x4 q h)
  · exact x6 q (by rw [ha]; exact hq)
  · exact x7 q (by rw [hb]; exact hq)
  · show r.2.2.bk q = optI (R.bl (updS r.2.2.S p.toNat (ptrR r.1).1) 0 (rdPtr (updS r.2.2.S p.toNat (ptrR r.1).1 p.toNat)) q)
    rw [eS, eR, z4]
    exact x8 q (by rw [ha]; exact hq1) (by rw [hb]; exact hq2)
/-- the rows and tables of an inode, as forms -/
def fRow (base : Int) : RowF := ⟨fun k => base + k, fun _ => leafF⟩
def fSgl (n : Int) : RowF := ⟨fun k => if k = 0 then 12 else 44, fun _ => tabF n (fRow 12)⟩
def fDblRow (n : Int) : RowF := ⟨fun k => 44 + 32 * k, fun k => tabF n (fRow (44 + 32 * k))⟩
def fDub (n : Int) : RowF := ⟨fun k => if k = 0 then 44 else 1068, fun _ => tabF n (fDblRow n)⟩
theorem fRow_ok (base : Int) (k : Nat) : FormOk ((fRow base).F k) := leafF_ok
theorem fSgl_ok (n : Int) (k : Nat) : FormOk ((fSgl n).F k) := tabF_ok n (fRow_ok 12)
theorem fDblRow_ok (n : Int) (k : Nat) : FormOk ((fDblRow n).F k) := tabF_ok n (fRow_ok _)
theorem fDub_ok (n : Int) (k : Nat) : FormOk ((fDub n).F k) := tabF_ok n (fDblRow_ok n)
theorem rowT_f {X Y : Int} (hY : 0 ≤ Y) (A : Nat → List Int) (n base : Int) : SiftF X Y A (rowT X Y n base) (fRow base) n 0 32 := by
  refine siftT_f hY (fun k => ?_) (fun k _ => ?_) (fun k => tryRow_i hY A base k) (fRow_ok base) (fun k _ => tryRow_f hY A base k) 0
  · show base + (k : Int) ≤ base + ((k + 1 : Nat) : Int); omega
  · show base + (k : Int) = _; omega
theorem dblT_f {X Y : Int} (hY : 0 ≤ Y) (A : Nat → List Int) (n : Int) : SiftF X Y A (dblT X Y n) (fDblRow n) n 0 32 := by
  refine siftT_f hY (fun k => ?_) (fun k _ => ?_) (fun k => tryTab_i hY (rowT_i hY A n (44 + 32 * k))) (fDblRow_ok n) (fun k _ => tryTab_f hY (rowT_f hY A n (44 + 32 * k)) ?_ ?_) 0
  · show 44 + 32 * (k : Int) ≤ 44 + 32 * ((k + 1 : Nat) : Int); omega
  · rfl
  · show 44 + 32 * (k : Int) + ((0 : Nat) : Int) = 44 + 32 * (k : Int); omega
  · show 44 + 32 * (k : Int) + ((32 : Nat) : Int) = 44 + 32 * ((k + 1 : Nat) : Int); omega
theorem sglT_f {X Y : Int} (hY : 0 ≤ Y) (A : Nat → List Int) (n : Int) : SiftF X Y A (sglT X Y n) (fSgl n) n 0 1 := by
  refine siftT_f hY (fun k => ?_) (fun k hk => ?_) (fun k => tryTab_i hY (rowT_i hY A n 12)) (fSgl_ok n) (fun k hk => ?_) 0
  · show (if k = 0 then (12 : Int) else 44) ≤ (if k + 1 = 0 then (12 : Int) else 44)
    rw [if_neg (Nat.succ_ne_zero k)]
    split <;> omega
  · obtain rfl : k = 0 := by omega
    rfl
  · obtain rfl : k = 0 := by omega
    exact tryTab_f hY (rowT_f hY A n 12) rfl rfl
theorem dubT_f {X Y : Int} (hY : 0 ≤ Y) (A : Nat → List Int) (n : Int) : SiftF X Y A (dubT X Y n) (fDub n) n 0 1 := by
  refine siftT_f hY (fun k => ?_) (fun k hk => ?_) (fun k => tryTab_i hY (dblT_i hY A n)) (fDub_ok n) (fun k hk => ?_) 0
  · show (if k = 0 then (44 : Int) else 1068) ≤ (if k + 1 = 0 then (44 : Int) else 1068)
    rw [if_neg (Nat.succ_ne_zero k)]
    split <;> omega
  · obtain rfl : k = 0 := by omega
    rfl
  · obtain rfl : k = 0 := by omega
    exact tryTab_f hY (dblT_f hY A n) rfl rfl
end Go.Proofs.YthioepdgnbdohaaGreat

/- Pointers that may be are kept; an inode's pointers; what the question aims at: plain laws. -/
namespace Go.Proofs.YthioepdgnbdohaaGreat
set_option linter.unusedSimpArgs false
set_option linter.unusedVariables false
open Go.RowKit

def TryK (X Y : Int) (A : Nat → List Int) (T : Int → LS → Bool × LS) (f : Form) (a : Int) : Prop :=
  ∀ p s, SI X Y A s → (∀ q, a ≤ q → s.bk q = none) → p ≠ 0 → f.sh s.S p → OkL X Y s.cl (f.ps s.S p) → (T p s).1 = true ∧ (T p s).2.S = s.S
def SiftK (X Y : Int) (A : Nat → List Int) (F : List Int → LS → List Int × Bool × LS) (R : RowF) (n : Int) (k m : Nat) : Prop :=
  ∀ ps s, k + ps.length ≤ m → SI X Y A s → (∀ q, R.lo k ≤ q → s.bk q = none) → R.sh n s.S k ps → OkL X Y s.cl (R.ps s.S k ps) → (F ps s).1 = ps ∧ (F ps s).2.2.S = s.S
/-- an inode's pointers -/
def inoPs (n : Int) (S : Nat → List Int) (raw : List Int) : List Int := (fRow 0).ps S 0 (dirL raw) ++ ((fSgl n).ps S 0 [nth raw 16] ++ (fDub n).ps S 0 [nth raw 17])
def inoTb (n : Int) (S : Nat → List Int) (raw : List Int) : List Int := (fRow 0).tb S 0 (dirL raw) ++ ((fSgl n).tb S 0 [nth raw 16] ++ (fDub n).tb S 0 [nth raw 17])
def inoSh (n : Int) (S : Nat → List Int) (raw : List Int) : Prop := (fRow 0).sh n S 0 (dirL raw) ∧ (fSgl n).sh n S 0 [nth raw 16] ∧ (fDub n).sh n S 0 [nth raw 17]
def inoBl (n : Int) (S : Nat → List Int) (raw : List Int) (q : Int) : Int := if q < 12 then (fRow 0).bl S 0 (dirL raw) q else if q < 44 then (fSgl n).bl S 0 [nth raw 16] q else (fDub n).bl S 0 [nth raw 17] q
theorem ino_st (n : Int) (S S' : Nat → List Int) (raw : List Int) (h : ∀ q ∈ inoTb n S raw, S' q.toNat = S q.toNat) : inoPs n S' raw = inoPs n S raw ∧ inoTb n S' raw = inoTb n S raw ∧ (inoSh n S' raw ↔ inoSh n S raw) ∧ ∀ q, inoBl n S' raw q = inoBl n S raw q := by
  obtain ⟨a1, a2, a3, a4⟩ := RowF.st (fRow_ok 0) n S S' (dirL raw) 0 (fun q hq => h q (List.mem_append_left _ hq))
  obtain ⟨b1, b2, b3, b4⟩ := RowF.st (fSgl_ok n) n S S' [nth raw 16] 0 (fun q hq => h q (List.mem_append_right _ (List.mem_append_left _ hq)))
  obtain ⟨c1, c2, c3, c4⟩ := RowF.st (fDub_ok n) n S S' [nth raw 17] 0 (fun q hq => h q (List.mem_append_right _ (List.mem_append_right _ hq)))
  refine ⟨?_, ?_, ?_, fun q => ?_⟩
  · unfold inoPs; rw [a1, b1, c1]
  · unfold inoTb; rw [a2, b2, c2]
  · unfold inoSh; rw [a3, b3, c3]
  · unfold inoBl; rw [a4, b4, c4]
theorem ino_tp (n : Int) (S : Nat → List Int) (raw : List Int) (q : Int) (h : q ∈ inoTb n S raw) : q ∈ inoPs n S raw := by
  unfold inoTb at h
  unfold inoPs
  rcases List.mem_append.1 h with h | h
  · exact List.mem_append_left _ (RowF.tp (fRow_ok 0) S _ 0 q h)
  · rcases List.mem_append.1 h with h | h
    · exact List.mem_append_right _ (List.mem_append_left _ (RowF.tp (fSgl_ok n) S _ 0 q h))
    · exact List.mem_append_right _ (List.mem_append_right _ (RowF.tp (fDub_ok n) S _ 0 q h))
theorem RowF.grow {X Y : Int} (hY : 0 ≤ Y) {R : RowF} (hR : ∀ k, FormOk (R.F k)) (n : Int) {s s2 : LS} (hg : Gr s s2) (hc : FmCl s) {c : Int → Bool} (ps : List Int) (k : Nat) (ho : OkL X Y c (R.ps s.S k ps)) (ht : ∀ q ∈ R.tb s.S k ps, s.fm q = true) :
    R.ps s2.S k ps = R.ps s.S k ps ∧ R.tb s2.S k ps = R.tb s.S k ps ∧ (R.sh n s2.S k ps ↔ R.sh n s.S k ps) ∧ (∀ q, R.bl s2.S k ps q = R.bl s.S k ps q) ∧ ∀ q ∈ R.tb s2.S k ps, s2.fm q = true := by
  have hd : ∀ q ∈ R.tb s.S k ps, isD X Y q = true := fun q hq => (ho.1 q (RowF.tp hR _ _ _ q hq)).1
  obtain ⟨a, b, c, d⟩ := RowF.st hR n s.S s2.S ps k (fun q hq => (fm_nat hY hg hc (hd q hq) (ht q hq)).2)
  refine ⟨a, b, c, d, fun q hq => ?_⟩
  rw [b] at hq
  exact (fm_nat hY hg hc (hd q hq) (ht q hq)).1
theorem dirL_pA {X Y : Int} (hY : 0 ≤ Y) (n : Int) {raw : List Int} (hr : raw.length = 18) (st : LS) : dirL (ptrsX X Y n raw st).1 = (pA X Y n raw st).1 ∧ [nth (ptrsX X Y n raw st).1 16] = (pB X Y n raw st).1 ∧ [nth (ptrsX X Y n raw st).1 17] = (pC X Y n raw st).1 := by
  obtain ⟨-, q1, q2, q3, q4⟩ := ptrs_nth (X := X) hY n hr st
  obtain ⟨l1, l2, l3⟩ := ptrs_len (X := X) hY n hr st
  have one : ∀ {l : List Int}, l.length = 1 → [nth l 0] = l := by
    intro l hl
    match l, hl with
    | [x], _ => rfl
  refine ⟨?_, ?_, ?_⟩
  · apply List.ext_getElem?
    intro i
    unfold dirL
    rw [List.getElem?_take]
    split
    · rename_i hi
      rw [List.getElem?_drop, nth_getElem? (by omega), q1 i hi, nth_getElem? (by omega)]
    · rename_i hi
      rw [List.getElem?_eq_none (by omega)]
  · rw [q2]; exact one l2
  · rw [q3]; exact one l3
/-- what a take leaves of an inode is well-shaped -/
theorem ptrs_f {X Y : Int} (hY : 0 ≤ Y) {A : Nat → List Int} (n : Int) {raw : List Int} (hr : raw.length = 18) {st : LS} (h : SI X Y A st) (hb : ∀ q, st.bk q = none) :
    inoSh n (ptrsX X Y n raw st).2.S (ptrsX X Y n raw st).1 ∧ OkL X Y st.cl (inoPs n (ptrsX X Y n raw st).2.S (ptrsX X Y n raw st).1) ∧ (ptrsX X Y n raw st).2.cl = addAll st.cl (inoPs n (ptrsX X Y n raw st).2.S (ptrsX X Y n raw st).1) ∧
    (∀ q ∈ inoTb n (ptrsX X Y n raw st).2.S (ptrsX X Y n raw st).1, (ptrsX X Y n raw st).2.fm q = true) ∧ ∀ q, 0 ≤ q → q < 1068 → (ptrsX X Y n raw st).2.bk q = optI (inoBl n (ptrsX X Y n raw st).2.S (ptrsX X Y n raw st).1 q) := by
  obtain ⟨e1, e2, e3⟩ := dirL_pA (X := X) hY n hr st
  obtain ⟨l1, l2, l3⟩ := ptrs_len (X := X) hY n hr st
  unfold inoSh inoPs inoTb inoBl
  rw [e1, e2, e3, ptrsX_T hY]
  simp only
  have hd12 : ((raw.drop 4).take 12).length = 12 := by simp [hr]
  have iA := (rowT_i hY A n 0).inv ((raw.drop 4).take 12) st h
  have gB := (sglT_i (X := X) hY A n).ok.grow [nth raw 16] (pA X Y n raw st).2.2
  have iB := (sglT_i hY A n).inv [nth raw 16] (pA X Y n raw st).2.2 iA
  have gC := (dubT_i (X := X) hY A n).ok.grow [nth raw 17] (pB X Y n raw st).2.2
  obtain ⟨a1, a2, a3, a4, a5, a6, a7, a8⟩ := (rowT_f hY A n 0).all ((raw.drop 4).take 12) st (by rw [hd12]; decide) h (fun q _ => hb q)
  change (fRow 0).sh n (pA X Y n raw st).2.2.S 0 (pA X Y n raw st).1 at a1
  change OkL X Y st.cl ((fRow 0).ps (pA X Y n raw st).2.2.S 0 (pA X Y n raw st).1) at a2
  change (pA X Y n raw st).2.2.cl = addAll st.cl ((fRow 0).ps (pA X Y n raw st).2.2.S 0 (pA X Y n raw st).1) at a3
  change ∀ q ∈ (fRow 0).tb (pA X Y n raw st).2.2.S 0 (pA X Y n raw st).1, (pA X Y n raw st).2.2.fm q = true at a4
  change SI X Y A (pA X Y n raw st).2.2 at iA
  rw [hd12] at a7 a8
  obtain ⟨b1, b2, b3, b4, b5, b6, b7, b8⟩ := (sglT_f hY A n).all [nth raw 16] (pA X Y n raw st).2.2 (Nat.le_refl 1) iA (fun q hq => a7 q hq)
  obtain ⟨c1, c2, c3, c4, c5, c6, c7, c8⟩ := (dubT_f hY A n).all [nth raw 17] (pB X Y n raw st).2.2 (Nat.le_refl 1) iB (fun q hq => b7 q hq)
  change (fSgl n).sh n (pB X Y n raw st).2.2.S 0 (pB X Y n raw st).1 at b1
  change OkL X Y (pA X Y n raw st).2.2.cl ((fSgl n).ps (pB X Y n raw st).2.2.S 0 (pB X Y n raw st).1) at b2
  change (pB X Y n raw st).2.2.cl = addAll (pA X Y n raw st).2.2.cl ((fSgl n).ps (pB X Y n raw st).2.2.S 0 (pB X Y n raw st).1) at b3
  change ∀ q ∈ (fSgl n).tb (pB X Y n raw st).2.2.S 0 (pB X Y n raw st).1, (pB X Y n raw st).2.2.fm q = true at b4
  change SI X Y A (pB X Y n raw st).2.2 at iB
  change (fDub n).sh n (pC X Y n raw st).2.2.S 0 (pC X Y n raw st).1 at c1
  change OkL X Y (pB X Y n raw st).2.2.cl ((fDub n).ps (pC X Y n raw st).2.2.S 0 (pC X Y n raw st).1) at c2
  change (pC X Y n raw st).2.2.cl = addAll (pB X Y n raw st).2.2.cl ((fDub n).ps (pC X Y n raw st).2.2.S 0 (pC X Y n raw st).1) at c3
  change ∀ q ∈ (fDub n).tb (pC X Y n raw st).2.2.S 0 (pC X Y n raw st).1, (pC X Y n raw st).2.2.fm q = true at c4
  change Gr (pA X Y n raw st).2.2 (pB X Y n raw st).2.2 at gB
  change Gr (pB X Y n raw st).2.2 (pC X Y n raw st).2.2 at gC
  obtain ⟨u1, u2, u3, u4, u5⟩ := RowF.grow hY (fRow_ok 0) n (gB.trans gC) iA.fc _ _ a2 a4
  obtain ⟨v1, v2, v3, v4, v5⟩ := RowF.grow hY (fSgl_ok n) n gC iB.fc _ _ b2 b4
  change ∀ q, q < 12 → (pB X Y n raw st).2.2.bk q = (pA X Y n raw st).2.2.bk q at b6
  change ∀ q, q < 44 → (pC X Y n raw st).2.2.bk q = (pB X Y n raw st).2.2.bk q at c6
  change ∀ q, 0 ≤ q → q < 12 → (pA X Y n raw st).2.2.bk q = optI ((fRow 0).bl (pA X Y n raw st).2.2.S 0 (pA X Y n raw st).1 q) at a8
  change ∀ q, 12 ≤ q → q < 44 → (pB X Y n raw st).2.2.bk q = optI ((fSgl n).bl (pB X Y n raw st).2.2.S 0 (pB X Y n raw st).1 q) at b8
  change ∀ q, 44 ≤ q → q < 1068 → (pC X Y n raw st).2.2.bk q = optI ((fDub n).bl (pC X Y n raw st).2.2.S 0 (pC X Y n raw st).1 q) at c8
  refine ⟨⟨u3.2 a1, v3.2 b1, c1⟩, ?_, ?_, fun q hq => ?_, fun q h0 h9 => ?_⟩
  · rw [okL_app, okL_app, u1, v1, ← a3, ← b3]
    exact ⟨a2, b2, c2⟩
  · rw [addAll_app, addAll_app, u1, v1, ← a3, ← b3]
    exact c3
  · rcases List.mem_append.1 hq with hq | hq
    · exact u5 q hq
    · rcases List.mem_append.1 hq with hq | hq
      · exact v5 q hq
      · exact c4 q hq
  · by_cases h12 : q < 12
    · rw [if_pos h12, c6 q (by omega), b6 q h12, a8 q h0 h12, u4]
    · rw [if_neg h12]
      by_cases h44 : q < 44
      · rw [if_pos h44, c6 q h44, b8 q (by omega) h44, v4]
      · rw [if_neg h44]
        exact c8 q (by omega) h9
/-- what the question aims at -/
theorem aimW_iff {X Y idx n p : Int} {s : Int → Bool} : aimW X Y idx n p s = true ↔ idx < n ∧ isD X Y p = true ∧ s p = false := by
  unfold aimW
  simp [and_assoc]
theorem row_w (X Y n base : Int) (S : Nat → List Int) : ∀ (ps : List Int) (k : Nat) (s s' : Int → Bool), rowW X Y n base k ps s = some s' ↔ (fRow base).sh n S k ps ∧ OkL X Y s ((fRow base).ps S k ps) ∧ s' = addAll s ((fRow base).ps S k ps)
  | [], k, s, s' => by
    show some s = some s' ↔ True ∧ OkL X Y s [] ∧ s' = addAll s []
    rw [addAll_nil]
    constructor
    · intro h; exact ⟨trivial, okL_nil _ _ _, (Option.some.inj h).symm⟩
    · rintro ⟨-, -, rfl⟩; rfl
  | p :: r, k, s, s' => by
    rw [rowW_cons]
    show _ ↔ ((p ≠ 0 → base + (k : Int) < n ∧ True) ∧ (fRow base).sh n S (k + 1) r) ∧ OkL X Y s ((if p = 0 then [] else [p]) ++ (fRow base).ps S (k + 1) r) ∧ s' = addAll s ((if p = 0 then [] else [p]) ++ (fRow base).ps S (k + 1) r)
    by_cases hp : p = 0
    · rw [if_pos hp, if_pos hp, row_w X Y n base S r (k + 1) s s']
      simp only [List.nil_append]
      constructor
      · rintro ⟨a, b, c⟩; exact ⟨⟨fun h => absurd hp h, a⟩, b, c⟩
      · rintro ⟨⟨-, a⟩, b, c⟩; exact ⟨a, b, c⟩
    · rw [if_neg hp, if_neg hp, okL_app, addAll_app, addAll_one, okL_one]
      by_cases ha : aimW X Y (base + k) n p s = true
      · rw [if_pos ha, row_w X Y n base S r (k + 1) (addS s p) s']
        obtain ⟨a1, a2⟩ := aimW_iff.1 ha
        constructor
        · rintro ⟨a, b, c⟩; exact ⟨⟨fun _ => ⟨a1, trivial⟩, a⟩, ⟨a2, b⟩, c⟩
        · rintro ⟨⟨-, a⟩, ⟨-, b⟩, c⟩; exact ⟨a, b, c⟩
      · rw [if_neg ha]
        constructor
        · intro h; cases h
        · rintro ⟨⟨a, -⟩, ⟨b, -⟩, -⟩
          exact absurd (aimW_iff.2 ⟨(a hp).1, b⟩) ha
theorem oneW_iff {X Y : Int} {S : Nat → List Int} {n : Int} {R : RowF} {k : Nat} {m : Int} {p idx : Int} {f : (Int → Bool) → Option (Int → Bool)} {sub : RowF} (hF : R.F k = tabF n sub) (hlo : R.lo k = idx)
    (hf : ∀ s s', f s = some s' ↔ (sub.sh n S 0 (rdPtr (S p.toNat)) ∧ someP (rdPtr (S p.toNat)) = true) ∧ OkL X Y s (sub.ps S 0 (rdPtr (S p.toNat))) ∧ s' = addAll s (sub.ps S 0 (rdPtr (S p.toNat)))) (s s' : Int → Bool) :
    oneW X Y n idx p f s = some s' ↔ R.sh n S k [p] ∧ OkL X Y s (R.ps S k [p]) ∧ s' = addAll s (R.ps S k [p]) := by
  show _ ↔ ((p ≠ 0 → R.lo k < n ∧ (R.F k).sh S p) ∧ True) ∧ OkL X Y s ((if p = 0 then [] else (R.F k).ps S p) ++ []) ∧ s' = addAll s ((if p = 0 then [] else (R.F k).ps S p) ++ [])
  rw [hF, hlo, List.append_nil]
  unfold oneW
  by_cases hp : p = 0
  · rw [if_pos hp, if_pos hp, addAll_nil]
    constructor
    · intro h; exact ⟨⟨fun h => absurd hp h, trivial⟩, okL_nil _ _ _, (Option.some.inj h).symm⟩
    · rintro ⟨-, -, rfl⟩; rfl
  · rw [if_neg hp, if_neg hp]
    show _ ↔ ((p ≠ 0 → idx < n ∧ (sub.sh n S 0 (rdPtr (S p.toNat)) ∧ someP (rdPtr (S p.toNat)) = true)) ∧ True) ∧ OkL X Y s (p :: sub.ps S 0 (rdPtr (S p.toNat))) ∧ s' = addAll s (p :: sub.ps S 0 (rdPtr (S p.toNat)))
    rw [okL_cons, addAll_cons]
    by_cases ha : aimW X Y idx n p s = true
    · rw [if_pos ha, hf]
      obtain ⟨a1, a2⟩ := aimW_iff.1 ha
      constructor
      · rintro ⟨a, b, c⟩; exact ⟨⟨fun _ => ⟨a1, a⟩, trivial⟩, ⟨a2, b⟩, c⟩
      · rintro ⟨⟨a, -⟩, ⟨-, b⟩, c⟩; exact ⟨(a hp).2, b, c⟩
    · rw [if_neg ha]
      constructor
      · intro h; cases h
      · rintro ⟨⟨a, -⟩, ⟨b, -⟩, -⟩
        exact absurd (aimW_iff.2 ⟨(a hp).1, b⟩) ha
theorem tab_w (X Y : Int) (S : Nat → List Int) (n base : Int) (at' : Nat) (s s' : Int → Bool) : tabW X Y S n base at' s = some s' ↔ ((fRow base).sh n S 0 (rdPtr (S at')) ∧ someP (rdPtr (S at')) = true) ∧ OkL X Y s ((fRow base).ps S 0 (rdPtr (S at'))) ∧ s' = addAll s ((fRow base).ps S 0 (rdPtr (S at'))) := by
  unfold tabW
  have h := row_w X Y n base S (rdPtr (S at')) 0 s
  cases hr : rowW X Y n base 0 (rdPtr (S at')) s with
  | none =>
    constructor
    · intro h; cases h
    · rintro ⟨⟨a, -⟩, b, rfl⟩
      have := (h _).2 ⟨a, b, rfl⟩
      rw [hr] at this; cases this
  | some s2 =>
    obtain ⟨a, b, rfl⟩ := (h s2).1 hr
    show (if someL (rdPtr (S at')) = true then _ else _) = _ ↔ _
    rw [show someL (rdPtr (S at')) = someP (rdPtr (S at')) from rfl]
    by_cases hs : someP (rdPtr (S at')) = true
    · rw [if_pos hs]
      constructor
      · intro h; exact ⟨⟨a, hs⟩, b, (Option.some.inj h).symm⟩
      · rintro ⟨-, -, rfl⟩; rfl
    · rw [if_neg hs]
      constructor
      · intro h; cases h
      · rintro ⟨⟨-, h⟩, -⟩; exact absurd h hs
theorem RowF.cons_iff {X Y : Int} {R : RowF} {n : Int} {S : Nat → List Int} {k : Nat} {p : Int} {r : List Int} {s s' : Int → Bool} :
    (R.sh n S k (p :: r) ∧ OkL X Y s (R.ps S k (p :: r)) ∧ s' = addAll s (R.ps S k (p :: r))) ↔ ((R.sh n S k [p] ∧ OkL X Y s (R.ps S k [p])) ∧ R.sh n S (k + 1) r ∧ OkL X Y (addAll s (R.ps S k [p])) (R.ps S (k + 1) r) ∧ s' = addAll (addAll s (R.ps S k [p])) (R.ps S (k + 1) r)) := by
  have e : R.ps S k (p :: r) = R.ps S k [p] ++ R.ps S (k + 1) r := by
    show _ ++ _ = (_ ++ []) ++ _
    rw [List.append_nil]
  have e2 : R.sh n S k (p :: r) ↔ R.sh n S k [p] ∧ R.sh n S (k + 1) r := by
    show (_ ∧ _) ↔ (_ ∧ True) ∧ _
    rw [and_true]
  rw [e, e2, okL_app, addAll_app]
  constructor
  · rintro ⟨⟨a, b⟩, ⟨c, d⟩, e⟩; exact ⟨⟨a, c⟩, b, d, e⟩
  · rintro ⟨⟨a, c⟩, b, d, e⟩; exact ⟨⟨a, b⟩, ⟨c, d⟩, e⟩
theorem dblRow_w (X Y : Int) (S : Nat → List Int) (n : Int) : ∀ (ps : List Int) (k : Nat) (s s' : Int → Bool), dblRowW X Y S n k ps s = some s' ↔ (fDblRow n).sh n S k ps ∧ OkL X Y s ((fDblRow n).ps S k ps) ∧ s' = addAll s ((fDblRow n).ps S k ps)
  | [], k, s, s' => by
    show some s = some s' ↔ True ∧ OkL X Y s [] ∧ s' = addAll s []
    rw [addAll_nil]
    constructor
    · intro h; exact ⟨trivial, okL_nil _ _ _, (Option.some.inj h).symm⟩
    · rintro ⟨-, -, rfl⟩; rfl
  | p :: r, k, s, s' => by
    rw [dblRowW_cons, RowF.cons_iff]
    have h1 := oneW_iff (X := X) (Y := Y) (S := S) (n := n) (R := fDblRow n) (k := k) (m := 0) (p := p) (idx := 44 + 32 * k) (f := tabW X Y S n (44 + 32 * k) p.toNat) (sub := fRow (44 + 32 * k)) rfl rfl (tab_w X Y S n (44 + 32 * k) p.toNat) s
    cases ho : oneW X Y n (44 + 32 * k) p (tabW X Y S n (44 + 32 * k) p.toNat) s with
    | none =>
      constructor
      · intro h; cases h
      · rintro ⟨⟨a, b⟩, -⟩
        have := (h1 _).2 ⟨a, b, rfl⟩
        rw [ho] at this; cases this
    | some s2 =>
      obtain ⟨a, b, rfl⟩ := (h1 s2).1 ho
      show dblRowW X Y S n (k + 1) r _ = _ ↔ _
      rw [dblRow_w X Y S n r (k + 1)]
      exact ⟨fun h => ⟨⟨a, b⟩, h⟩, fun h => h.2⟩
theorem dbl_w (X Y : Int) (S : Nat → List Int) (n : Int) (at' : Nat) (s s' : Int → Bool) : dblW X Y S n at' s = some s' ↔ ((fDblRow n).sh n S 0 (rdPtr (S at')) ∧ someP (rdPtr (S at')) = true) ∧ OkL X Y s ((fDblRow n).ps S 0 (rdPtr (S at'))) ∧ s' = addAll s ((fDblRow n).ps S 0 (rdPtr (S at'))) := by
  unfold dblW
  have h := dblRow_w X Y S n (rdPtr (S at')) 0 s
  cases hr : dblRowW X Y S n 0 (rdPtr (S at')) s with
  | none =>
    constructor
    · intro h; cases h
    · rintro ⟨⟨a, -⟩, b, rfl⟩
      have := (h _).2 ⟨a, b, rfl⟩
      rw [hr] at this; cases this
  | some s2 =>
    obtain ⟨a, b, rfl⟩ := (h s2).1 hr
    show (if someL (rdPtr (S at')) = true then _ else _) = _ ↔ _
    rw [show someL (rdPtr (S at')) = someP (rdPtr (S at')) from rfl]
    by_cases hs : someP (rdPtr (S at')) = true
    · rw [if_pos hs]
      constructor
      · intro h; exact ⟨⟨a, hs⟩, b, (Option.some.inj h).symm⟩
      · rintro ⟨-, -, rfl⟩; rfl
    · rw [if_neg hs]
      constructor
      · intro h; cases h
      · rintro ⟨⟨-, h⟩, -⟩; exact absurd h hs
/-- an inode's pointers may be: each in its place, each once -/
theorem ptrs_w (X Y : Int) (S : Nat → List Int) (n : Int) (raw : List Int) (s s' : Int → Bool) : ptrsW X Y S n raw s = some s' ↔ inoSh n S raw ∧ OkL X Y s (inoPs n S raw) ∧ s' = addAll s (inoPs n S raw) := by
  unfold ptrsW inoSh inoPs
  rw [okL_app, okL_app, addAll_app, addAll_app]
  have h := row_w X Y n 0 S (dirL raw) 0 s
  cases hr : rowW X Y n 0 0 (dirL raw) s with
  | none =>
    constructor
    · intro h; cases h
    · rintro ⟨⟨a, -⟩, ⟨b, -⟩, -⟩
      have := (h _).2 ⟨a, b, rfl⟩
      rw [hr] at this; cases this
  | some s1 =>
    obtain ⟨a, b, rfl⟩ := (h s1).1 hr
    have h2 := oneW_iff (X := X) (Y := Y) (S := S) (n := n) (R := fSgl n) (k := 0) (m := 0) (p := nth raw 16) (idx := 12) (f := tabW X Y S n 12 (nth raw 16).toNat) (sub := fRow 12) rfl rfl (tab_w X Y S n 12 (nth raw 16).toNat) (addAll s ((fRow 0).ps S 0 (dirL raw)))
    simp only
    cases ho : oneW X Y n 12 (nth raw 16) (tabW X Y S n 12 (nth raw 16).toNat) (addAll s ((fRow 0).ps S 0 (dirL raw))) with
    | none =>
      constructor
      · intro h; cases h
      · rintro ⟨⟨-, a2, -⟩, ⟨-, b2, -⟩, -⟩
        have := (h2 _).2 ⟨a2, b2, rfl⟩
        rw [ho] at this; cases this
    | some s2 =>
      obtain ⟨a2, b2, rfl⟩ := (h2 s2).1 ho
      have h3 := oneW_iff (X := X) (Y := Y) (S := S) (n := n) (R := fDub n) (k := 0) (m := 0) (p := nth raw 17) (idx := 44) (f := dblW X Y S n (nth raw 17).toNat) (sub := fDblRow n) rfl rfl (dbl_w X Y S n (nth raw 17).toNat) (addAll (addAll s ((fRow 0).ps S 0 (dirL raw))) ((fSgl n).ps S 0 [nth raw 16])) s'
      simp only
      rw [h3]
      constructor
      · rintro ⟨c, d, e⟩; exact ⟨⟨a, a2, c⟩, ⟨b, b2, d⟩, e⟩
      · rintro ⟨⟨-, -, c⟩, ⟨-, -, d⟩, e⟩; exact ⟨c, d, e⟩
end Go.Proofs.YthioepdgnbdohaaGreat

/- The blocks of an inode whose pointers may be: plain laws. -/
namespace Go.Proofs.YthioepdgnbdohaaGreat
set_option linter.unusedSimpArgs false
set_option linter.unusedVariables false
open Go.RowKit

theorem row_bl (base : Int) (S : Nat → List Int) : ∀ (ps : List Int) (k : Nat) (q : Int), base + k ≤ q → (fRow base).bl S k ps q = nth ps (q - base - k).toNat
  | [], k, q, h => by
    show (0 : Int) = _
    unfold nth; simp
  | p :: r, k, q, h => by
    show (if q < base + ((k + 1 : Nat) : Int) then (if p = 0 then 0 else p) else (fRow base).bl S (k + 1) r q) = _
    by_cases hq : q < base + ((k + 1 : Nat) : Int)
    · rw [if_pos hq, show (q - base - k).toNat = 0 by omega, nth_cons0]
      split
      · rename_i e; exact e.symm
      · rfl
    · rw [if_neg hq, row_bl base S r (k + 1) q (by omega), show (q - base - k).toNat = (q - base - ((k + 1 : Nat) : Int)).toNat + 1 by omega, nth_consS]
theorem dblRow_bl (n : Int) (S : Nat → List Int) : ∀ (ps : List Int) (k : Nat) (q : Int), 44 + 32 * (k : Int) ≤ q → (fDblRow n).bl S k ps q = hangW S (nth ps (((q - 44) / 32) - k).toNat) ((q - 44) % 32).toNat
  | [], k, q, h => by
    show (0 : Int) = _
    unfold hangW
    rw [if_pos (by unfold nth; simp)]
  | p :: r, k, q, h => by
    show (if q < 44 + 32 * ((k + 1 : Nat) : Int) then (if p = 0 then 0 else (fRow (44 + 32 * (k : Int))).bl S 0 (rdPtr (S p.toNat)) q) else (fDblRow n).bl S (k + 1) r q) = _
    by_cases hq : q < 44 + 32 * ((k + 1 : Nat) : Int)
    · rw [if_pos hq, show (((q - 44) / 32) - k).toNat = 0 by omega, nth_cons0]
      unfold hangW
      split
      · rfl
      · rw [row_bl _ S _ 0 q (by omega)]
        congr 1
        omega
    · rw [if_neg hq, dblRow_bl n S r (k + 1) q (by omega), show (((q - 44) / 32) - k).toNat = (((q - 44) / 32) - ((k + 1 : Nat) : Int)).toNat + 1 by omega, nth_consS]
theorem dirL_nth {raw : List Int} (hr : raw.length = 18) {k : Nat} (hk : k < 12) : nth (dirL raw) k = nth raw (4 + k) := by
  unfold dirL nth
  rw [List.getElem?_take, if_pos hk, List.getElem?_drop]
theorem inoBl_blkW (n : Int) (S : Nat → List Int) {raw : List Int} (hr : raw.length = 18) (k : Nat) (hk : k < 1068) : inoBl n S raw k = blkW S raw k := by
  unfold inoBl blkW
  by_cases h12 : k < 12
  · rw [if_pos (show (k : Int) < 12 by omega), if_pos h12, row_bl 0 S _ 0 k (by omega), show ((k : Int) - 0 - ((0 : Nat) : Int)).toNat = k by omega, dirL_nth hr h12]
  · rw [if_neg (show ¬ (k : Int) < 12 by omega), if_neg h12]
    by_cases h44 : k < 44
    · rw [if_pos (show (k : Int) < 44 by omega), if_pos h44]
      show (if (k : Int) < 44 then (if nth raw 16 = 0 then 0 else (fRow 12).bl S 0 (rdPtr (S (nth raw 16).toNat)) k) else 0) = _
      rw [if_pos (by omega)]
      unfold hangW
      split
      · rfl
      · rw [row_bl 12 S _ 0 k (by omega)]
        congr 1
        omega
    · rw [if_neg (show ¬ (k : Int) < 44 by omega), if_neg h44]
      show (if (k : Int) < 1068 then (if nth raw 17 = 0 then 0 else (fDblRow n).bl S 0 (rdPtr (S (nth raw 17).toNat)) k) else 0) = _
      rw [if_pos (by omega)]
      by_cases h17 : nth raw 17 = 0
      · rw [if_pos h17, if_pos h17]
        unfold hangW
        rw [if_pos rfl]
      · rw [if_neg h17, if_neg h17, dblRow_bl n S _ 0 k (by omega)]
        have e1 : ((((k : Int) - 44) / 32) - ((0 : Nat) : Int)).toNat = (k - 44) / 32 := by omega
        have e2 : (((k : Int) - 44) % 32).toNat = (k - 44) % 32 := by omega
        rw [e1, e2]
/-- a block is none, or hangs at the pointers -/
def BlIn (f : Form) : Prop := ∀ S p q, f.bl S p q = 0 ∨ f.bl S p q ∈ f.ps S p
theorem RowF.blin {R : RowF} (hR : ∀ k, BlIn (R.F k)) (S : Nat → List Int) : ∀ (ps : List Int) (k : Nat) (q : Int), R.bl S k ps q = 0 ∨ R.bl S k ps q ∈ R.ps S k ps
  | [], _, _ => .inl rfl
  | p :: r, k, q => by
    show (if q < R.lo (k + 1) then (if p = 0 then 0 else (R.F k).bl S p q) else R.bl S (k + 1) r q) = 0 ∨ (if q < R.lo (k + 1) then (if p = 0 then 0 else (R.F k).bl S p q) else R.bl S (k + 1) r q) ∈ (if p = 0 then [] else (R.F k).ps S p) ++ R.ps S (k + 1) r
    split
    · split
      · exact .inl rfl
      · rcases hR k S p q with h | h
        · exact .inl h
        · exact .inr (List.mem_append_left _ h)
    · rcases RowF.blin hR S r (k + 1) q with h | h
      · exact .inl h
      · exact .inr (List.mem_append_right _ h)
theorem leaf_blin : BlIn leafF := fun _ p _ => .inr (List.mem_singleton.2 rfl)
theorem tab_blin (n : Int) {R : RowF} (hR : ∀ k, BlIn (R.F k)) : BlIn (tabF n R) := fun S p q => by
  rcases RowF.blin hR S (rdPtr (S p.toNat)) 0 q with h | h
  · exact .inl h
  · exact .inr (List.mem_cons_of_mem _ h)
theorem ino_blin (n : Int) (S : Nat → List Int) (raw : List Int) (q : Int) : inoBl n S raw q = 0 ∨ inoBl n S raw q ∈ inoPs n S raw := by
  unfold inoBl inoPs
  have hd : ∀ k, BlIn ((fDblRow n).F k) := fun k => tab_blin n (fun _ => leaf_blin)
  split
  · rcases RowF.blin (R := fRow 0) (fun _ => leaf_blin) S (dirL raw) 0 q with h | h
    · exact .inl h
    · exact .inr (List.mem_append_left _ h)
  · split
    · rcases RowF.blin (R := fSgl n) (fun _ => tab_blin n (fun _ => leaf_blin)) S [nth raw 16] 0 q with h | h
      · exact .inl h
      · exact .inr (List.mem_append_right _ (List.mem_append_left _ h))
    · rcases RowF.blin (R := fDub n) (fun _ => tab_blin n hd) S [nth raw 17] 0 q with h | h
      · exact .inl h
      · exact .inr (List.mem_append_right _ (List.mem_append_right _ h))
/-- pointers that may be can be followed -/
theorem aims_of {X Y n : Int} {N : Nat} {S : Nat → List Int} {raw : List Int} (hY : 0 ≤ Y) (hX : X = N) (hN : 0 < N) (hr : raw.length = 18) (ho : ∀ p ∈ inoPs n S raw, isD X Y p = true) : Aims N S raw ∧ ∀ k : Nat, k < 1068 → 0 ≤ blkW S raw k ∧ blkW S raw k < N := by
  have hd : ∀ p ∈ inoPs n S raw, 0 ≤ p ∧ p < N := fun p hp => by
    have := ho p hp
    unfold isD at this
    have := of_decide_eq_true this
    omega
  have z : ∀ p : Int, (p = 0 ∨ p ∈ inoPs n S raw) → 0 ≤ p ∧ p < N := fun p h => by
    rcases h with rfl | h
    · omega
    · exact hd p h
  have h16 : nth raw 16 = 0 ∨ nth raw 16 ∈ inoPs n S raw := by
    by_cases h : nth raw 16 = 0
    · exact .inl h
    · right
      unfold inoPs
      refine List.mem_append_right _ (List.mem_append_left _ ?_)
      show _ ∈ (if nth raw 16 = 0 then [] else nth raw 16 :: _) ++ []
      rw [if_neg h]
      exact List.mem_append_left _ (List.mem_cons_self ..)
  have h17 : nth raw 17 = 0 ∨ nth raw 17 ∈ inoPs n S raw := by
    by_cases h : nth raw 17 = 0
    · exact .inl h
    · right
      unfold inoPs
      refine List.mem_append_right _ (List.mem_append_right _ ?_)
      show _ ∈ (if nth raw 17 = 0 then [] else nth raw 17 :: _) ++ []
      rw [if_neg h]
      exact List.mem_append_left _ (List.mem_cons_self ..)
  have mem : ∀ (l : List Int) (k : Nat) (p : Int), p ∈ l → p ≠ 0 → p ∈ (fDblRow n).ps S k l := by
    intro l
    induction l with
    | nil => intro k p h; cases h
    | cons a r ih =>
      intro k p h h0
      show p ∈ (if a = 0 then [] else a :: _) ++ _
      rcases List.mem_cons.1 h with e | h
      · subst e
        rw [if_neg h0]
        exact List.mem_append_left _ (List.mem_cons_self ..)
      · exact List.mem_append_right _ (ih (k + 1) p h h0)
  refine ⟨⟨hr, z _ h16, z _ h17, fun h p hp => ?_⟩, fun k hk => ?_⟩
  · refine (z p ?_).2
    by_cases hp0 : p = 0
    · exact .inl hp0
    · right
      unfold inoPs
      refine List.mem_append_right _ (List.mem_append_right _ ?_)
      show _ ∈ (if nth raw 17 = 0 then [] else nth raw 17 :: (fDblRow n).ps S 0 (rdPtr (S (nth raw 17).toNat))) ++ []
      rw [if_neg h]
      exact List.mem_append_left _ (List.mem_cons_of_mem _ (mem _ 0 p hp hp0))
  · rw [← inoBl_blkW n S hr k hk]
    exact z _ (ino_blin n S raw k)
end Go.Proofs.YthioepdgnbdohaaGreat
