import Derived.Test.YtmnecpnkkapflaaGreatM08
import Derived.Test.YtmnecpnkkapflaaGreatM10
namespace Go.Proofs.YtmnecpnkkapflaaGreat
set_option maxHeartbeats 16000000
set_option maxRecDepth 1000000
set_option linter.unusedSimpArgs false
set_option linter.unusedVariables false
open Go.RowKit
def addAll (s : Int → Bool) (l : List Int) : Int → Bool := fun q => s q || decide (q ∈ l)
theorem addAll_nil (s : Int → Bool) : addAll s [] = s := by funext q; simp [addAll]
theorem addAll_cons (s : Int → Bool) (p : Int) (l : List Int) : addAll s (p :: l) = addAll (addS s p) l := by
 funext q
 simp only [addAll, addS, List.mem_cons, Bool.decide_or, Bool.or_assoc]
theorem addAll_app (s : Int → Bool) (a b : List Int) : addAll s (a ++ b) = addAll (addAll s a) b := by
 funext q
 simp only [addAll, List.mem_append, Bool.decide_or, Bool.or_assoc]
theorem addAll_yes {s : Int → Bool} {l : List Int} {q : Int} : addAll s l q = true ↔ s q = true ∨ q ∈ l := by simp [addAll]
theorem addAll_no {s : Int → Bool} {l : List Int} {q : Int} : addAll s l q = false ↔ s q = false ∧ q ∉ l := by simp [addAll]
def OkL (X Y : Int) (s : Int → Bool) (l : List Int) : Prop := (∀ p ∈ l, isD X Y p = true ∧ s p = false) ∧ l.Nodup
theorem okL_nil (X Y : Int) (s : Int → Bool) : OkL X Y s [] := ⟨fun p h => (by cases h), List.nodup_nil⟩
theorem okL_app {X Y : Int} {s : Int → Bool} {a b : List Int} : OkL X Y s (a ++ b) ↔ OkL X Y s a ∧ OkL X Y (addAll s a) b := by
 unfold OkL
 rw [List.nodup_append]
 constructor
 ·rintro ⟨h1, h2, h3, h4⟩
  refine ⟨⟨fun p hp => h1 p (List.mem_append_left _ hp), h2⟩, fun p hp => ⟨(h1 p (List.mem_append_right _ hp)).1, addAll_no.2 ⟨(h1 p (List.mem_append_right _ hp)).2, fun hm => h4 p hm p hp rfl⟩⟩, h3⟩
 ·rintro ⟨⟨h1, h2⟩, h3, h4⟩
  refine ⟨fun p hp => ?_, h2, h4, fun p hp q hq e => ?_⟩
  ·rcases List.mem_append.1 hp with h | h
   ·exact h1 p h
   ·exact ⟨(h3 p h).1, (addAll_no.1 (h3 p h).2).1⟩
  ·subst e
   exact (addAll_no.1 (h3 p hq).2).2 hp
theorem okL_one {X Y : Int} {s : Int → Bool} {p : Int} : OkL X Y s [p] ↔ isD X Y p = true ∧ s p = false := by
 unfold OkL
 simp
theorem addAll_one (s : Int → Bool) (p : Int) : addAll s [p] = addS s p := by rw [addAll_cons, addAll_nil]
theorem okL_cons {X Y : Int} {s : Int → Bool} {p : Int} {l : List Int} : OkL X Y s (p :: l) ↔ (isD X Y p = true ∧ s p = false) ∧ OkL X Y (addS s p) l := by
 have := okL_app (X := X) (Y := Y) (s := s) (a := [p]) (b := l)
 rw [okL_one, addAll_one] at this
 exact this
theorem OkL.mono {X Y : Int} {s s' : Int → Bool} {l : List Int} (h : OkL X Y s l) (hs : ∀ q, s q = false → s' q = false) : OkL X Y s' l := ⟨fun p hp => ⟨(h.1 p hp).1, hs p (h.1 p hp).2⟩, h.2⟩
def someP (ps : List Int) : Bool := ps.any fun p => p != 0
structure Form where
 ps : (Nat → List Int) → Int → List Int
 tb : (Nat → List Int) → Int → List Int
 sh : (Nat → List Int) → Int → Prop
 bl : (Nat → List Int) → Int → Int → Int
def leafF : Form := ⟨fun _ p => [p], fun _ _ => [], fun _ _ => True, fun _ p _ => p⟩
structure RowF where
 lo : Nat → Int
 F : Nat → Form
def RowF.ps (R : RowF) (S : Nat → List Int) : Nat → List Int → List Int
 | _, [] => []
 | k, p :: r => (if p = 0 then [] else (R.F k).ps S p) ++ R.ps S (k + 1) r
def RowF.tb (R : RowF) (S : Nat → List Int) : Nat → List Int → List Int
 | _, [] => []
 | k, p :: r => (if p = 0 then [] else (R.F k).tb S p) ++ R.tb S (k + 1) r
def RowF.sh (R : RowF) (n : Int) (S : Nat → List Int) : Nat → List Int → Prop
 | _, [] => True
 | k, p :: r => (p ≠ 0 → R.lo k < n ∧ (R.F k).sh S p) ∧ R.sh n S (k + 1) r
def RowF.bl (R : RowF) (S : Nat → List Int) : Nat → List Int → Int → Int
 | _, [], _ => 0
 | k, p :: r, q => if q < R.lo (k + 1) then (if p = 0 then 0 else (R.F k).bl S p q) else R.bl S (k + 1) r q
def tabF (n : Int) (R : RowF) : Form where
 ps := fun S p => p :: R.ps S 0 (rdPtr (S p.toNat))
 tb := fun S p => p :: R.tb S 0 (rdPtr (S p.toNat))
 sh := fun S p => R.sh n S 0 (rdPtr (S p.toNat)) ∧ someP (rdPtr (S p.toNat)) = true
 bl := fun S p q => R.bl S 0 (rdPtr (S p.toNat)) q
structure FormOk (f : Form) : Prop where
 st : ∀ S S' p, (∀ q ∈ f.tb S p, S' q.toNat = S q.toNat) → f.ps S' p = f.ps S p ∧ f.tb S' p = f.tb S p ∧ (f.sh S' p ↔ f.sh S p) ∧ ∀ q, f.bl S' p q = f.bl S p q
 tp : ∀ S p q, q ∈ f.tb S p → q ∈ f.ps S p
theorem leafF_ok : FormOk leafF := ⟨fun _ _ _ _ => ⟨rfl, rfl, Iff.rfl, fun _ => rfl⟩, fun _ _ _ h => by cases h⟩
theorem RowF.st {R : RowF} (hR : ∀ k, FormOk (R.F k)) (n : Int) (S S' : Nat → List Int) : ∀ (ps : List Int) (k : Nat), (∀ q ∈ R.tb S k ps, S' q.toNat = S q.toNat) → R.ps S' k ps = R.ps S k ps ∧ R.tb S' k ps = R.tb S k ps ∧ (R.sh n S' k ps ↔ R.sh n S k ps) ∧ ∀ q, R.bl S' k ps q = R.bl S k ps q
 | [], _, _ => ⟨rfl, rfl, Iff.rfl, fun _ => rfl⟩
 | p :: r, k, h => by
  have h1 := RowF.st hR n S S' r (k + 1) (fun q hq => h q (List.mem_append_right _ hq))
  by_cases hp : p = 0
  ·subst hp
   refine ⟨?_, ?_, ?_, fun q => ?_⟩
   ·show _ ++ _ = _ ++ _
    rw [if_pos rfl, if_pos rfl, h1.1]
   ·show _ ++ _ = _ ++ _
    rw [if_pos rfl, if_pos rfl, h1.2.1]
   ·show (_ ∧ _) ↔ (_ ∧ _)
    rw [h1.2.2.1]
    exact and_congr_left fun _ => ⟨fun _ h => absurd rfl h, fun _ h => absurd rfl h⟩
   ·show (if _ then _ else _) = (if _ then _ else _)
    rw [if_pos rfl, if_pos rfl, h1.2.2.2]
  ·have h2 := (hR k).st S S' p (fun q hq => h q (List.mem_append_left _ (by rw [if_neg hp]; exact hq)))
   refine ⟨?_, ?_, ?_, fun q => ?_⟩
   ·show _ ++ _ = _ ++ _
    rw [if_neg hp, if_neg hp, h1.1, h2.1]
   ·show _ ++ _ = _ ++ _
    rw [if_neg hp, if_neg hp, h1.2.1, h2.2.1]
   ·show (_ ∧ _) ↔ (_ ∧ _)
    rw [h1.2.2.1, h2.2.2.1]
   ·show (if _ then _ else _) = (if _ then _ else _)
    rw [if_neg hp, if_neg hp, h1.2.2.2, h2.2.2.2]
theorem RowF.tp {R : RowF} (hR : ∀ k, FormOk (R.F k)) (S : Nat → List Int) : ∀ (ps : List Int) (k : Nat) (q : Int), q ∈ R.tb S k ps → q ∈ R.ps S k ps
 | [], _, _, h => by cases h
 | p :: r, k, q, h => by
  rcases List.mem_append.1 h with h | h
  ·refine List.mem_append_left _ ?_
   split at h
   ·cases h
   ·rename_i hp; rw [if_neg hp]; exact (hR k).tp S p q h
  ·exact List.mem_append_right _ (RowF.tp hR S r (k + 1) q h)
theorem tabF_ok (n : Int) {R : RowF} (hR : ∀ k, FormOk (R.F k)) : FormOk (tabF n R) := by
 refine ⟨fun S S' p h => ?_, fun S p q h => ?_⟩
 ·have e : S' p.toNat = S p.toNat := h p (List.mem_cons_self ..)
  have h1 := RowF.st hR n S S' (rdPtr (S p.toNat)) 0 (fun q hq => h q (List.mem_cons_of_mem _ hq))
  refine ⟨?_, ?_, ?_, fun q => ?_⟩
  ·show p :: R.ps S' 0 (rdPtr (S' p.toNat)) = p :: _
   rw [e, h1.1]
  ·show p :: R.tb S' 0 (rdPtr (S' p.toNat)) = p :: _
   rw [e, h1.2.1]
  ·show (R.sh n S' 0 (rdPtr (S' p.toNat)) ∧ _) ↔ (R.sh n S 0 (rdPtr (S p.toNat)) ∧ _)
   rw [e, h1.2.2.1]
  ·show R.bl S' 0 (rdPtr (S' p.toNat)) q = R.bl S 0 (rdPtr (S p.toNat)) q
   rw [e, h1.2.2.2]
 ·rcases List.mem_cons.1 h with h | h
  ·exact List.mem_cons.2 (.inl h)
  ·exact List.mem_cons.2 (.inr (RowF.tp hR S _ 0 q h))
def optI (p : Int) : Option Int := if p = 0 then none else some p
structure TryF (X Y : Int) (A : Nat → List Int) (T : Int → LS → Bool × LS) (f : Form) (a b : Int) : Prop where
 yes : ∀ p s, SI X Y A s → (∀ q, a ≤ q → s.bk q = none) → (T p s).1 = true →
  p ≠ 0 ∧ f.sh (T p s).2.S p ∧ OkL X Y s.cl (f.ps (T p s).2.S p) ∧ (T p s).2.cl = addAll s.cl (f.ps (T p s).2.S p) ∧ (∀ q ∈ f.tb (T p s).2.S p, (T p s).2.fm q = true) ∧
  (∀ q, q < a → (T p s).2.bk q = s.bk q) ∧ (∀ q, b ≤ q → (T p s).2.bk q = none) ∧ ∀ q, a ≤ q → q < b → (T p s).2.bk q = optI (f.bl (T p s).2.S p q)
structure SiftF (X Y : Int) (A : Nat → List Int) (F : List Int → LS → List Int × Bool × LS) (R : RowF) (n : Int) (k m : Nat) : Prop where
 i : SiftI X Y A F
 ok : ∀ k, FormOk (R.F k)
 all : ∀ ps s, k + ps.length ≤ m → SI X Y A s → (∀ q, R.lo k ≤ q → s.bk q = none) →
  R.sh n (F ps s).2.2.S k (F ps s).1 ∧ OkL X Y s.cl (R.ps (F ps s).2.2.S k (F ps s).1) ∧ (F ps s).2.2.cl = addAll s.cl (R.ps (F ps s).2.2.S k (F ps s).1) ∧ (∀ q ∈ R.tb (F ps s).2.2.S k (F ps s).1, (F ps s).2.2.fm q = true) ∧
  (F ps s).2.1 = someP (F ps s).1 ∧ (∀ q, q < R.lo k → (F ps s).2.2.bk q = s.bk q) ∧ (∀ q, R.lo (k + ps.length) ≤ q → (F ps s).2.2.bk q = none) ∧
  ∀ q, R.lo k ≤ q → q < R.lo (k + ps.length) → (F ps s).2.2.bk q = optI (R.bl (F ps s).2.2.S k (F ps s).1 q)
theorem fm_nat {X Y : Int} (hY : 0 ≤ Y) {s s2 : LS} (hg : Gr s s2) (hc : FmCl s) {q : Int} (hd : isD X Y q = true) (h : s.fm q = true) : s2.fm q = true ∧ s2.S q.toNat = s.S q.toNat := by
 have e := (isD_nat hY hd).1
 obtain ⟨h1, h2, h3⟩ := hg q.toNat (hc q.toNat (by rw [e]; exact h))
 rw [e] at h2
 exact ⟨by rw [h2, h], h3⟩
theorem siftT_f {X Y : Int} (hY : 0 ≤ Y) {A : Nat → List Int} {T : Nat → Int → LS → Bool × LS} {R : RowF} {base step n : Int} {m : Nat} (hlo : ∀ k, R.lo k ≤ R.lo (k + 1)) (hb : ∀ k : Nat, k < m → R.lo k = base + step * k)
  (hTi : ∀ k, TryI X Y A (T k)) (hok : ∀ k, FormOk (R.F k)) (hT : ∀ k, k < m → TryF X Y A (T k) (R.F k) (R.lo k) (R.lo (k + 1))) (k0 : Nat) : SiftF X Y A (siftT T base step n k0) R n k0 m := by
 refine ⟨siftT_i hTi base step n k0, hok, fun ps => ?_⟩
 induction ps generalizing k0 with
 | nil =>
  intro s hm hi hf
  refine ⟨trivial, okL_nil _ _ _, (addAll_nil _).symm, fun q h => (by cases h), rfl, fun q _ => rfl, fun q hq => hf q hq, fun q h1 h2 => ?_⟩
  have : R.lo (k0 + ([] : List Int).length) = R.lo k0 := rfl
  omega
 | cons p r ih =>
  intro s hm hi hf
  have hkl : k0 + (p :: r).length = (k0 + 1) + r.length := by simp; omega
  rw [hkl] at hm
  rw [hkl, siftT_cons]
  have hkm : k0 < m := by omega
  by_cases hc : p = 0 ∨ n ≤ base + step * k0 ∨ (T k0 p s).1 = false
  ·rw [if_pos hc]
   obtain ⟨h1, h2, h3, h4, h5, h6, h7, h8⟩ := ih (k0 + 1) s hm hi (fun q hq => hf q (Int.le_trans (hlo k0) hq))
   refine ⟨⟨fun h => absurd rfl h, h1⟩, ?_, ?_, ?_, ?_, fun q hq => h6 q (Int.lt_of_lt_of_le hq (hlo k0)), h7, fun q ha hb => ?_⟩
   ·show OkL X Y s.cl ((if (0 : Int) = 0 then [] else _) ++ _)
    rw [if_pos rfl]; exact h2
   ·show _ = addAll s.cl ((if (0 : Int) = 0 then [] else _) ++ _)
    rw [if_pos rfl]; exact h3
   ·intro q hq
    change q ∈ ((if (0 : Int) = 0 then [] else _) ++ _) at hq
    rw [if_pos rfl] at hq
    exact h4 q hq
   ·show _ = someP (0 :: _)
    unfold someP
    rw [List.any_cons]
    exact h5
   ·show _ = optI (if q < R.lo (k0 + 1) then (if (0 : Int) = 0 then 0 else _) else _)
    by_cases hq : q < R.lo (k0 + 1)
    ·rw [if_pos hq, if_pos rfl, h6 q hq, hf q ha]; rfl
    ·rw [if_neg hq]
     exact h8 q (by omega) hb
  ·rw [if_neg hc]
   have hp0 : p ≠ 0 := fun h => hc (.inl h)
   have hn : base + step * k0 < n := by omega
   have ht : (T k0 p s).1 = true := by
    cases hh : (T k0 p s).1 with
    | true => rfl
    | false => exact absurd (.inr (.inr hh)) hc
   have hlk : R.lo k0 < n := by rw [hb k0 hkm]; exact hn
   obtain ⟨-, y1, y2, y3, y4, y5, y6, y7⟩ := (hT k0 hkm).yes p s hi hf ht
   have hi1 := (hTi k0).inv p s hi
   obtain ⟨h1, h2, h3, h4, h5, h6, h7, h8⟩ := ih (k0 + 1) (T k0 p s).2 hm hi1 y6
   have hg := (siftT_ok (fun k => (hTi k).ok) base step n (k0 + 1)).grow r (T k0 p s).2
   generalize (T k0 p s).2 = s1 at *
   generalize siftT T base step n (k0 + 1) r s1 = x at *
   have hd : ∀ q ∈ (R.F k0).tb s1.S p, isD X Y q = true := fun q hq => (y2.1 q ((hok k0).tp _ _ _ hq)).1
   obtain ⟨z1, z2, z3, z4⟩ := (hok k0).st s1.S x.2.2.S p (fun q hq => (fm_nat hY hg hi1.fc (hd q hq) (y4 q hq)).2)
   refine ⟨⟨fun _ => ⟨hlk, z3.2 y1⟩, h1⟩, ?_, ?_, ?_, ?_, fun q hq => ?_, h7, fun q ha hb => ?_⟩
   ·show OkL X Y s.cl ((if p = 0 then [] else _) ++ _)
    rw [if_neg hp0, okL_app, z1, ← y3]
    exact ⟨y2, h2⟩
   ·show _ = addAll s.cl ((if p = 0 then [] else _) ++ _)
    rw [if_neg hp0, addAll_app, z1, ← y3]
    exact h3
   ·intro q hq
    change q ∈ ((if p = 0 then [] else _) ++ _) at hq
    rw [if_neg hp0, List.mem_append, z2] at hq
    rcases hq with hq | hq
    ·exact (fm_nat hY hg hi1.fc (hd q hq) (y4 q hq)).1
    ·exact h4 q hq
   ·show true = someP (p :: _)
    unfold someP
    rw [List.any_cons]
    have : (p != 0) = true := by simpa using hp0
    rw [this]; rfl
   ·rw [h6 q (Int.lt_of_lt_of_le hq (hlo k0)), y5 q hq]
   ·show _ = optI (if q < R.lo (k0 + 1) then (if p = 0 then 0 else _) else _)
    by_cases hq : q < R.lo (k0 + 1)
    ·rw [if_pos hq, if_neg hp0, h6 q hq, z4, y7 q ha hq]
    ·rw [if_neg hq]
     exact h8 q (by omega) hb
theorem tryRow_f {X Y : Int} (hY : 0 ≤ Y) (A : Nat → List Int) (base : Int) (k : Nat) : TryF X Y A (tryRow X Y base k) leafF (base + k) (base + (k + 1 : Nat)) := by
 refine ⟨fun p s hi hf ht => ?_⟩
 unfold tryRow at ht ⊢
 by_cases hc : isD X Y p = true ∧ s.cl p = false
 ·rw [if_pos hc]
  have hp := (isD_nat hY hc.1).2
  refine ⟨hp, trivial, okL_one.2 hc, (addAll_one _ _).symm, fun q hq => (by cases hq), fun q hq => ?_, fun q hq => ?_, fun q h1 h2 => ?_⟩
  ·show putI s.bk (base + k) p q = _
   unfold putI
   rw [if_neg (by omega)]
  ·show putI s.bk (base + k) p q = _
   unfold putI
   rw [if_neg (by omega)]
   exact hf q (by omega)
  ·show putI s.bk (base + k) p q = optI p
   unfold putI optI
   rw [if_pos (by omega), if_neg hp]
 ·rw [if_neg hc] at ht; cases ht
theorem tryTab_f {X Y : Int} (hY : 0 ≤ Y) {A : Nat → List Int} {F : List Int → LS → List Int × Bool × LS} {R : RowF} {n a b : Int} (hF : SiftF X Y A F R n 0 32) (ha : R.lo 0 = a) (hb : R.lo 32 = b) : TryF X Y A (tryTab X Y F) (tabF n R) a b := by
 refine ⟨fun p s hi hf ht => ?_⟩
 obtain ⟨h1, h2, h3, h4⟩ := tryTab_yes ht
 obtain ⟨hp, hp0⟩ := isD_nat hY h1
 have hi1 := hi.claim h1
 obtain ⟨x1, x2, x3, x4, x5, x6, x7, x8⟩ := hF.all (rdPtr (s.S p.toNat)) { s with cl := addS s.cl p } (by simp) hi1 (fun q hq => hf q (by rw [← ha]; exact hq))
 have hg := hF.i.ok.grow (rdPtr (s.S p.toNat)) { s with cl := addS s.cl p } p.toNat (by rw [hp]; exact addS_self _ _)
 have hl := (hi.ln p.toNat (by rw [hp]; exact h1))
 have hmay : PtrMay (F (rdPtr (s.S p.toNat)) { s with cl := addS s.cl p }).1 := ptrMay_sub hl.2 (fun i => hF.i.ok.sub _ _ i)
 have hlen : (F (rdPtr (s.S p.toNat)) { s with cl := addS s.cl p }).1.length = 32 := by rw [hF.i.ok.len]; simp
 have hback := ptr_back _ hlen hmay
 have h32 : (rdPtr (s.S p.toNat)).length = 32 := by simp
 rw [h32, Nat.zero_add] at x7 x8
 rw [h4]
 generalize (F (rdPtr (s.S p.toNat)) { s with cl := addS s.cl p }) = r at *
 have eS : updS r.2.2.S p.toNat (ptrR r.1).1 p.toNat = (ptrR r.1).1 := updS_eq _ _ _
 have e0 : (ptrR r.1).1 = ptrSecN r.1 32 := by rw [ptrR_yes hmay]
 have eR : rdPtr ((ptrR r.1).1) = r.1 := by rw [e0, hback]
 have hne : ∀ q ∈ R.tb r.2.2.S 0 r.1, q.toNat ≠ p.toNat := fun q hq e => by
  have hd := (x2.1 q (RowF.tp hF.ok _ _ 0 q hq))
  have e2 := (isD_nat hY hd.1).1
  have e3 : q = p := by rw [← e2, ← hp, e]
  subst e3
  have := hd.2
  rw [show ({ s with cl := addS s.cl q } : LS).cl q = addS s.cl q q from rfl, addS_self] at this
  cases this
 obtain ⟨z1, z2, z3, z4⟩ := RowF.st hF.ok n r.2.2.S (updS r.2.2.S p.toNat (ptrR r.1).1) r.1 0 (fun q hq => updS_ne _ _ (hne q hq))
 refine ⟨hp0, ?_, ?_, ?_, fun q hq => ?_, fun q hq => ?_, fun q hq => ?_, fun q hq1 hq2 => ?_⟩
 ·show R.sh n (updS r.2.2.S p.toNat (ptrR r.1).1) 0 (rdPtr (updS r.2.2.S p.toNat (ptrR r.1).1 p.toNat)) ∧ someP (rdPtr (updS r.2.2.S p.toNat (ptrR r.1).1 p.toNat)) = true
  rw [eS, eR]
  exact ⟨z3.2 x1, by rw [← x5]; exact h3⟩
 ·show OkL X Y s.cl (p :: R.ps (updS r.2.2.S p.toNat (ptrR r.1).1) 0 (rdPtr (updS r.2.2.S p.toNat (ptrR r.1).1 p.toNat)))
  rw [eS, eR, z1, okL_cons]
  exact ⟨⟨h1, h2⟩, x2⟩
 ·show r.2.2.cl = addAll s.cl (p :: R.ps (updS r.2.2.S p.toNat (ptrR r.1).1) 0 (rdPtr (updS r.2.2.S p.toNat (ptrR r.1).1 p.toNat)))
  rw [eS, eR, z1, addAll_cons]
  exact x3
 ·show addS r.2.2.fm p.toNat q = true
  change q ∈ p :: R.tb (updS r.2.2.S p.toNat (ptrR r.1).1) 0 (rdPtr (updS r.2.2.S p.toNat (ptrR r.1).1 p.toNat)) at hq
  rw [eS, eR, z2] at hq
  rcases List.mem_cons.1 hq with h | h
  ·rw [h, hp]; exact addS_self _ _
  ·exact addS_mono (x4 q h)
 ·exact x6 q (by rw [ha]; exact hq)
 ·exact x7 q (by rw [hb]; exact hq)
 ·show r.2.2.bk q = optI (R.bl (updS r.2.2.S p.toNat (ptrR r.1).1) 0 (rdPtr (updS r.2.2.S p.toNat (ptrR r.1).1 p.toNat)) q)
  rw [eS, eR, z4]
  exact x8 q (by rw [ha]; exact hq1) (by rw [hb]; exact hq2)
def fRow (base : Int) : RowF := ⟨fun k => base + k, fun _ => leafF⟩
def fSgl (n : Int) : RowF := ⟨fun k => if k = 0 then 12 else 44, fun _ => tabF n (fRow 12)⟩
def fDblRow (n : Int) : RowF := ⟨fun k => 44 + 32 * k, fun k => tabF n (fRow (44 + 32 * k))⟩
def fDub (n : Int) : RowF := ⟨fun k => if k = 0 then 44 else 1068, fun _ => tabF n (fDblRow n)⟩
theorem fRow_ok (base : Int) (k : Nat) : FormOk ((fRow base).F k) := leafF_ok
theorem fSgl_ok (n : Int) (k : Nat) : FormOk ((fSgl n).F k) := tabF_ok n (fRow_ok 12)
theorem fDblRow_ok (n : Int) (k : Nat) : FormOk ((fDblRow n).F k) := tabF_ok n (fRow_ok _)
theorem fDub_ok (n : Int) (k : Nat) : FormOk ((fDub n).F k) := tabF_ok n (fDblRow_ok n)
theorem rowT_f {X Y : Int} (hY : 0 ≤ Y) (A : Nat → List Int) (n base : Int) : SiftF X Y A (rowT X Y n base) (fRow base) n 0 32 := by
 refine siftT_f hY (fun k => ?_) (fun k _ => ?_) (fun k => tryRow_i hY A base k) (fRow_ok base) (fun k _ => tryRow_f hY A base k) 0
 ·show base + (k : Int) ≤ base + ((k + 1 : Nat) : Int); omega
 ·show base + (k : Int) = _; omega
theorem dblT_f {X Y : Int} (hY : 0 ≤ Y) (A : Nat → List Int) (n : Int) : SiftF X Y A (dblT X Y n) (fDblRow n) n 0 32 := by
 refine siftT_f hY (fun k => ?_) (fun k _ => ?_) (fun k => tryTab_i hY (rowT_i hY A n (44 + 32 * k))) (fDblRow_ok n) (fun k _ => tryTab_f hY (rowT_f hY A n (44 + 32 * k)) ?_ ?_) 0
 ·show 44 + 32 * (k : Int) ≤ 44 + 32 * ((k + 1 : Nat) : Int); omega
 ·rfl
 ·show 44 + 32 * (k : Int) + ((0 : Nat) : Int) = 44 + 32 * (k : Int); omega
 ·show 44 + 32 * (k : Int) + ((32 : Nat) : Int) = 44 + 32 * ((k + 1 : Nat) : Int); omega
theorem sglT_f {X Y : Int} (hY : 0 ≤ Y) (A : Nat → List Int) (n : Int) : SiftF X Y A (sglT X Y n) (fSgl n) n 0 1 := by
 refine siftT_f hY (fun k => ?_) (fun k hk => ?_) (fun k => tryTab_i hY (rowT_i hY A n 12)) (fSgl_ok n) (fun k hk => ?_) 0
 ·show (if k = 0 then (12 : Int) else 44) ≤ (if k + 1 = 0 then (12 : Int) else 44)
  rw [if_neg (Nat.succ_ne_zero k)]
  split <;> omega
 ·obtain rfl : k = 0 := by omega
  rfl
 ·obtain rfl : k = 0 := by omega
  exact tryTab_f hY (rowT_f hY A n 12) rfl rfl
theorem dubT_f {X Y : Int} (hY : 0 ≤ Y) (A : Nat → List Int) (n : Int) : SiftF X Y A (dubT X Y n) (fDub n) n 0 1 := by
 refine siftT_f hY (fun k => ?_) (fun k hk => ?_) (fun k => tryTab_i hY (dblT_i hY A n)) (fDub_ok n) (fun k hk => ?_) 0
 ·show (if k = 0 then (44 : Int) else 1068) ≤ (if k + 1 = 0 then (44 : Int) else 1068)
  rw [if_neg (Nat.succ_ne_zero k)]
  split <;> omega
 ·obtain rfl : k = 0 := by omega
  rfl
 ·obtain rfl : k = 0 := by omega
  exact tryTab_f hY (dblT_f hY A n) rfl rfl
def TryK (X Y : Int) (A : Nat → List Int) (T : Int → LS → Bool × LS) (f : Form) (a : Int) : Prop :=
 ∀ p s, SI X Y A s → (∀ q, a ≤ q → s.bk q = none) → p ≠ 0 → f.sh s.S p → OkL X Y s.cl (f.ps s.S p) → (T p s).1 = true ∧ (T p s).2.S = s.S
def SiftK (X Y : Int) (A : Nat → List Int) (F : List Int → LS → List Int × Bool × LS) (R : RowF) (n : Int) (k m : Nat) : Prop :=
 ∀ ps s, k + ps.length ≤ m → SI X Y A s → (∀ q, R.lo k ≤ q → s.bk q = none) → R.sh n s.S k ps → OkL X Y s.cl (R.ps s.S k ps) → (F ps s).1 = ps ∧ (F ps s).2.2.S = s.S
theorem siftT_k {X Y : Int} {A : Nat → List Int} {T : Nat → Int → LS → Bool × LS} {R : RowF} {base step n : Int} {m : Nat} (hlo : ∀ k, R.lo k ≤ R.lo (k + 1)) (hb : ∀ k : Nat, k < m → R.lo k = base + step * k)
  (hTi : ∀ k, TryI X Y A (T k)) (hT : ∀ k, k < m → TryF X Y A (T k) (R.F k) (R.lo k) (R.lo (k + 1))) (hK : ∀ k, k < m → TryK X Y A (T k) (R.F k) (R.lo k)) (k0 : Nat) : SiftK X Y A (siftT T base step n k0) R n k0 m := by
 intro ps
 induction ps generalizing k0 with
 | nil => intro s _ _ _ _ _; exact ⟨rfl, rfl⟩
 | cons p r ih =>
  intro s hm hi hf hsh hok
  have hkl : k0 + (p :: r).length = (k0 + 1) + r.length := by simp; omega
  rw [hkl] at hm
  have hkm : k0 < m := by omega
  rw [siftT_cons]
  obtain ⟨s1, s2⟩ := (show (p ≠ 0 → R.lo k0 < n ∧ (R.F k0).sh s.S p) ∧ R.sh n s.S (k0 + 1) r from hsh)
  have hok' : OkL X Y s.cl ((if p = 0 then [] else (R.F k0).ps s.S p) ++ R.ps s.S (k0 + 1) r) := hok
  by_cases hp : p = 0
  ·rw [if_pos (.inl hp)]
   rw [if_pos hp, List.nil_append] at hok'
   obtain ⟨a, b⟩ := ih (k0 + 1) s hm hi (fun q hq => hf q (Int.le_trans (hlo k0) hq)) s2 hok'
   exact ⟨by show 0 :: _ = _; rw [a, hp], b⟩
  ·rw [if_neg hp, okL_app] at hok'
   obtain ⟨h1, h2⟩ := s1 hp
   obtain ⟨ht, hS⟩ := hK k0 hkm p s hi hf hp h2 hok'.1
   obtain ⟨-, -, -, y3, -, -, y6, -⟩ := (hT k0 hkm).yes p s hi hf ht
   have hi1 := (hTi k0).inv p s hi
   rw [hb k0 hkm] at h1
   have hno : ¬ (p = 0 ∨ n ≤ base + step * (k0 : Int) ∨ (T k0 p s).1 = false) := by
    rintro (h | h | h)
    ·exact hp h
    ·omega
    ·rw [ht] at h; cases h
   rw [if_neg hno]
   rw [hS] at y3
   obtain ⟨a, b⟩ := ih (k0 + 1) (T k0 p s).2 hm hi1 y6 (by rw [hS]; exact s2) (by rw [hS, y3]; exact hok'.2)
   exact ⟨by show p :: _ = _; rw [a], by show (siftT T base step n (k0 + 1) r (T k0 p s).2).2.2.S = _; rw [b, hS]⟩
theorem tryRow_k {X Y : Int} (A : Nat → List Int) (base : Int) (k : Nat) (a : Int) : TryK X Y A (tryRow X Y base k) leafF a := by
 intro p s hi hf hp hsh hok
 have h := okL_one.1 (show OkL X Y s.cl [p] from hok)
 unfold tryRow
 rw [if_pos h]
 exact ⟨rfl, rfl⟩
theorem updS_same (S : Nat → List Int) (i : Nat) : updS S i (S i) = S := by
 funext j
 unfold updS
 split
 ·rename_i h; rw [h]
 ·rfl
theorem tryTab_k {X Y : Int} (hY : 0 ≤ Y) {A : Nat → List Int} {F : List Int → LS → List Int × Bool × LS} {R : RowF} {n a : Int} (hF : SiftF X Y A F R n 0 32) (hK : SiftK X Y A F R n 0 32) (ha : R.lo 0 = a) : TryK X Y A (tryTab X Y F) (tabF n R) a := by
 intro p s hi hf hp hsh hok
 obtain ⟨h1, h2⟩ := okL_cons.1 (show OkL X Y s.cl (p :: R.ps s.S 0 (rdPtr (s.S p.toNat))) from hok)
 obtain ⟨g1, g2⟩ := (show R.sh n s.S 0 (rdPtr (s.S p.toNat)) ∧ someP (rdPtr (s.S p.toNat)) = true from hsh)
 have hi1 := hi.claim h1.1
 have hf1 : ∀ q, R.lo 0 ≤ q → ({ s with cl := addS s.cl p } : LS).bk q = none := fun q hq => hf q (by rw [← ha]; exact hq)
 obtain ⟨k1, k2⟩ := hK (rdPtr (s.S p.toNat)) { s with cl := addS s.cl p } (by simp) hi1 hf1 g1 h2
 have hl := (hF.all (rdPtr (s.S p.toNat)) { s with cl := addS s.cl p } (by simp) hi1 hf1).2.2.2.2.1
 rw [k1, g2] at hl
 have ht : (tryTab X Y F p s).1 = true := by rw [tryTab_is h1.1 h1.2, hl]
 refine ⟨ht, ?_⟩
 obtain ⟨-, -, -, h4⟩ := tryTab_yes ht
 rw [h4]
 show updS _ _ _ = _
 rw [k1, k2]
 have hln := hi.ln p.toNat (by rw [(isD_nat hY h1.1).1]; exact h1.1)
 show updS s.S p.toNat (ptrR (rdPtr (s.S p.toNat))).1 = s.S
 rw [ptr_one' hln.1 hln.2]
 exact updS_same _ _
theorem rowT_k {X Y : Int} (hY : 0 ≤ Y) (A : Nat → List Int) (n base : Int) : SiftK X Y A (rowT X Y n base) (fRow base) n 0 32 := by
 refine siftT_k (fun k => ?_) (fun k _ => ?_) (fun k => tryRow_i hY A base k) (fun k _ => tryRow_f hY A base k) (fun k _ => tryRow_k A base k _) 0
 ·show base + (k : Int) ≤ base + ((k + 1 : Nat) : Int); omega
 ·show base + (k : Int) = _; omega
theorem dblT_k {X Y : Int} (hY : 0 ≤ Y) (A : Nat → List Int) (n : Int) : SiftK X Y A (dblT X Y n) (fDblRow n) n 0 32 := by
 have e0 : ∀ k : Nat, (fRow (44 + 32 * (k : Int))).lo 0 = 44 + 32 * (k : Int) := fun k => by show 44 + 32 * (k : Int) + ((0 : Nat) : Int) = 44 + 32 * (k : Int); omega
 refine siftT_k (fun k => ?_) (fun k _ => ?_) (fun k => tryTab_i hY (rowT_i hY A n (44 + 32 * k))) (fun k _ => tryTab_f hY (rowT_f hY A n (44 + 32 * k)) (e0 k) ?_) (fun k _ => tryTab_k hY (rowT_f hY A n (44 + 32 * k)) (rowT_k hY A n (44 + 32 * k)) (e0 k)) 0
 ·show 44 + 32 * (k : Int) ≤ 44 + 32 * ((k + 1 : Nat) : Int); omega
 ·rfl
 ·show 44 + 32 * (k : Int) + ((32 : Nat) : Int) = 44 + 32 * ((k + 1 : Nat) : Int); omega
theorem sglT_k {X Y : Int} (hY : 0 ≤ Y) (A : Nat → List Int) (n : Int) : SiftK X Y A (sglT X Y n) (fSgl n) n 0 1 := by
 refine siftT_k (fun k => ?_) (fun k hk => ?_) (fun k => tryTab_i hY (rowT_i hY A n 12)) (fun k hk => ?_) (fun k hk => ?_) 0
 ·show (if k = 0 then (12 : Int) else 44) ≤ (if k + 1 = 0 then (12 : Int) else 44)
  rw [if_neg (Nat.succ_ne_zero k)]
  split <;> omega
 ·obtain rfl : k = 0 := by omega
  rfl
 ·obtain rfl : k = 0 := by omega
  exact tryTab_f hY (rowT_f hY A n 12) rfl rfl
 ·obtain rfl : k = 0 := by omega
  exact tryTab_k hY (rowT_f hY A n 12) (rowT_k hY A n 12) rfl
theorem dubT_k {X Y : Int} (hY : 0 ≤ Y) (A : Nat → List Int) (n : Int) : SiftK X Y A (dubT X Y n) (fDub n) n 0 1 := by
 refine siftT_k (fun k => ?_) (fun k hk => ?_) (fun k => tryTab_i hY (dblT_i hY A n)) (fun k hk => ?_) (fun k hk => ?_) 0
 ·show (if k = 0 then (44 : Int) else 1068) ≤ (if k + 1 = 0 then (44 : Int) else 1068)
  rw [if_neg (Nat.succ_ne_zero k)]
  split <;> omega
 ·obtain rfl : k = 0 := by omega
  rfl
 ·obtain rfl : k = 0 := by omega
  exact tryTab_f hY (dblT_f hY A n) rfl rfl
 ·obtain rfl : k = 0 := by omega
  exact tryTab_k hY (dblT_f hY A n) (dblT_k hY A n) rfl
def inoPs (n : Int) (S : Nat → List Int) (raw : List Int) : List Int := (fRow 0).ps S 0 (dirL raw) ++ ((fSgl n).ps S 0 [nth raw 16] ++ (fDub n).ps S 0 [nth raw 17])
def inoTb (n : Int) (S : Nat → List Int) (raw : List Int) : List Int := (fRow 0).tb S 0 (dirL raw) ++ ((fSgl n).tb S 0 [nth raw 16] ++ (fDub n).tb S 0 [nth raw 17])
def inoSh (n : Int) (S : Nat → List Int) (raw : List Int) : Prop := (fRow 0).sh n S 0 (dirL raw) ∧ (fSgl n).sh n S 0 [nth raw 16] ∧ (fDub n).sh n S 0 [nth raw 17]
def inoBl (n : Int) (S : Nat → List Int) (raw : List Int) (q : Int) : Int := if q < 12 then (fRow 0).bl S 0 (dirL raw) q else if q < 44 then (fSgl n).bl S 0 [nth raw 16] q else (fDub n).bl S 0 [nth raw 17] q
theorem ino_st (n : Int) (S S' : Nat → List Int) (raw : List Int) (h : ∀ q ∈ inoTb n S raw, S' q.toNat = S q.toNat) : inoPs n S' raw = inoPs n S raw ∧ inoTb n S' raw = inoTb n S raw ∧ (inoSh n S' raw ↔ inoSh n S raw) ∧ ∀ q, inoBl n S' raw q = inoBl n S raw q := by
 obtain ⟨a1, a2, a3, a4⟩ := RowF.st (fRow_ok 0) n S S' (dirL raw) 0 (fun q hq => h q (List.mem_append_left _ hq))
 obtain ⟨b1, b2, b3, b4⟩ := RowF.st (fSgl_ok n) n S S' [nth raw 16] 0 (fun q hq => h q (List.mem_append_right _ (List.mem_append_left _ hq)))
 obtain ⟨c1, c2, c3, c4⟩ := RowF.st (fDub_ok n) n S S' [nth raw 17] 0 (fun q hq => h q (List.mem_append_right _ (List.mem_append_right _ hq)))
 refine ⟨?_, ?_, ?_, fun q => ?_⟩
 ·unfold inoPs; rw [a1, b1, c1]
 ·unfold inoTb; rw [a2, b2, c2]
 ·unfold inoSh; rw [a3, b3, c3]
 ·unfold inoBl; rw [a4, b4, c4]
theorem ino_tp (n : Int) (S : Nat → List Int) (raw : List Int) (q : Int) (h : q ∈ inoTb n S raw) : q ∈ inoPs n S raw := by
 unfold inoTb at h
 unfold inoPs
 rcases List.mem_append.1 h with h | h
 ·exact List.mem_append_left _ (RowF.tp (fRow_ok 0) S _ 0 q h)
 ·rcases List.mem_append.1 h with h | h
  ·exact List.mem_append_right _ (List.mem_append_left _ (RowF.tp (fSgl_ok n) S _ 0 q h))
  ·exact List.mem_append_right _ (List.mem_append_right _ (RowF.tp (fDub_ok n) S _ 0 q h))
theorem RowF.grow {X Y : Int} (hY : 0 ≤ Y) {R : RowF} (hR : ∀ k, FormOk (R.F k)) (n : Int) {s s2 : LS} (hg : Gr s s2) (hc : FmCl s) {c : Int → Bool} (ps : List Int) (k : Nat) (ho : OkL X Y c (R.ps s.S k ps)) (ht : ∀ q ∈ R.tb s.S k ps, s.fm q = true) :
  R.ps s2.S k ps = R.ps s.S k ps ∧ R.tb s2.S k ps = R.tb s.S k ps ∧ (R.sh n s2.S k ps ↔ R.sh n s.S k ps) ∧ (∀ q, R.bl s2.S k ps q = R.bl s.S k ps q) ∧ ∀ q ∈ R.tb s2.S k ps, s2.fm q = true := by
 have hd : ∀ q ∈ R.tb s.S k ps, isD X Y q = true := fun q hq => (ho.1 q (RowF.tp hR _ _ _ q hq)).1
 obtain ⟨a, b, c, d⟩ := RowF.st hR n s.S s2.S ps k (fun q hq => (fm_nat hY hg hc (hd q hq) (ht q hq)).2)
 refine ⟨a, b, c, d, fun q hq => ?_⟩
 rw [b] at hq
 exact (fm_nat hY hg hc (hd q hq) (ht q hq)).1
theorem dirL_pA {X Y : Int} (hY : 0 ≤ Y) (n : Int) {raw : List Int} (hr : raw.length = 18) (st : LS) : dirL (ptrsX X Y n raw st).1 = (pA X Y n raw st).1 ∧ [nth (ptrsX X Y n raw st).1 16] = (pB X Y n raw st).1 ∧ [nth (ptrsX X Y n raw st).1 17] = (pC X Y n raw st).1 := by
 obtain ⟨-, q1, q2, q3, q4⟩ := ptrs_nth (X := X) hY n hr st
 obtain ⟨l1, l2, l3⟩ := ptrs_len (X := X) hY n hr st
 have one : ∀ {l : List Int}, l.length = 1 → [nth l 0] = l := by
  intro l hl
  match l, hl with
  | [x], _ => rfl
 refine ⟨?_, ?_, ?_⟩
 ·apply List.ext_getElem?
  intro i
  unfold dirL
  rw [List.getElem?_take]
  split
  ·rename_i hi
   rw [List.getElem?_drop, nth_getElem? (by omega), q1 i hi, nth_getElem? (by omega)]
  ·rename_i hi
   rw [List.getElem?_eq_none (by omega)]
 ·rw [q2]; exact one l2
 ·rw [q3]; exact one l3
theorem ptrs_f {X Y : Int} (hY : 0 ≤ Y) {A : Nat → List Int} (n : Int) {raw : List Int} (hr : raw.length = 18) {st : LS} (h : SI X Y A st) (hb : ∀ q, st.bk q = none) :
  inoSh n (ptrsX X Y n raw st).2.S (ptrsX X Y n raw st).1 ∧ OkL X Y st.cl (inoPs n (ptrsX X Y n raw st).2.S (ptrsX X Y n raw st).1) ∧ (ptrsX X Y n raw st).2.cl = addAll st.cl (inoPs n (ptrsX X Y n raw st).2.S (ptrsX X Y n raw st).1) ∧
  (∀ q ∈ inoTb n (ptrsX X Y n raw st).2.S (ptrsX X Y n raw st).1, (ptrsX X Y n raw st).2.fm q = true) ∧ ∀ q, 0 ≤ q → q < 1068 → (ptrsX X Y n raw st).2.bk q = optI (inoBl n (ptrsX X Y n raw st).2.S (ptrsX X Y n raw st).1 q) := by
 obtain ⟨e1, e2, e3⟩ := dirL_pA (X := X) hY n hr st
 obtain ⟨l1, l2, l3⟩ := ptrs_len (X := X) hY n hr st
 unfold inoSh inoPs inoTb inoBl
 rw [e1, e2, e3, ptrsX_T hY]
 simp only
 have hd12 : ((raw.drop 4).take 12).length = 12 := by simp [hr]
 have iA := (rowT_i hY A n 0).inv ((raw.drop 4).take 12) st h
 have gB := (sglT_i (X := X) hY A n).ok.grow [nth raw 16] (pA X Y n raw st).2.2
 have iB := (sglT_i hY A n).inv [nth raw 16] (pA X Y n raw st).2.2 iA
 have gC := (dubT_i (X := X) hY A n).ok.grow [nth raw 17] (pB X Y n raw st).2.2
 obtain ⟨a1, a2, a3, a4, a5, a6, a7, a8⟩ := (rowT_f hY A n 0).all ((raw.drop 4).take 12) st (by rw [hd12]; decide) h (fun q _ => hb q)
 change (fRow 0).sh n (pA X Y n raw st).2.2.S 0 (pA X Y n raw st).1 at a1
 change OkL X Y st.cl ((fRow 0).ps (pA X Y n raw st).2.2.S 0 (pA X Y n raw st).1) at a2
 change (pA X Y n raw st).2.2.cl = addAll st.cl ((fRow 0).ps (pA X Y n raw st).2.2.S 0 (pA X Y n raw st).1) at a3
 change ∀ q ∈ (fRow 0).tb (pA X Y n raw st).2.2.S 0 (pA X Y n raw st).1, (pA X Y n raw st).2.2.fm q = true at a4
 change SI X Y A (pA X Y n raw st).2.2 at iA
 rw [hd12] at a7 a8
 obtain ⟨b1, b2, b3, b4, b5, b6, b7, b8⟩ := (sglT_f hY A n).all [nth raw 16] (pA X Y n raw st).2.2 (Nat.le_refl 1) iA (fun q hq => a7 q hq)
 obtain ⟨c1, c2, c3, c4, c5, c6, c7, c8⟩ := (dubT_f hY A n).all [nth raw 17] (pB X Y n raw st).2.2 (Nat.le_refl 1) iB (fun q hq => b7 q hq)
 change (fSgl n).sh n (pB X Y n raw st).2.2.S 0 (pB X Y n raw st).1 at b1
 change OkL X Y (pA X Y n raw st).2.2.cl ((fSgl n).ps (pB X Y n raw st).2.2.S 0 (pB X Y n raw st).1) at b2
 change (pB X Y n raw st).2.2.cl = addAll (pA X Y n raw st).2.2.cl ((fSgl n).ps (pB X Y n raw st).2.2.S 0 (pB X Y n raw st).1) at b3
 change ∀ q ∈ (fSgl n).tb (pB X Y n raw st).2.2.S 0 (pB X Y n raw st).1, (pB X Y n raw st).2.2.fm q = true at b4
 change SI X Y A (pB X Y n raw st).2.2 at iB
 change (fDub n).sh n (pC X Y n raw st).2.2.S 0 (pC X Y n raw st).1 at c1
 change OkL X Y (pB X Y n raw st).2.2.cl ((fDub n).ps (pC X Y n raw st).2.2.S 0 (pC X Y n raw st).1) at c2
 change (pC X Y n raw st).2.2.cl = addAll (pB X Y n raw st).2.2.cl ((fDub n).ps (pC X Y n raw st).2.2.S 0 (pC X Y n raw st).1) at c3
 change ∀ q ∈ (fDub n).tb (pC X Y n raw st).2.2.S 0 (pC X Y n raw st).1, (pC X Y n raw st).2.2.fm q = true at c4
 change Gr (pA X Y n raw st).2.2 (pB X Y n raw st).2.2 at gB
 change Gr (pB X Y n raw st).2.2 (pC X Y n raw st).2.2 at gC
 obtain ⟨u1, u2, u3, u4, u5⟩ := RowF.grow hY (fRow_ok 0) n (gB.trans gC) iA.fc _ _ a2 a4
 obtain ⟨v1, v2, v3, v4, v5⟩ := RowF.grow hY (fSgl_ok n) n gC iB.fc _ _ b2 b4
 change ∀ q, q < 12 → (pB X Y n raw st).2.2.bk q = (pA X Y n raw st).2.2.bk q at b6
 change ∀ q, q < 44 → (pC X Y n raw st).2.2.bk q = (pB X Y n raw st).2.2.bk q at c6
 change ∀ q, 0 ≤ q → q < 12 → (pA X Y n raw st).2.2.bk q = optI ((fRow 0).bl (pA X Y n raw st).2.2.S 0 (pA X Y n raw st).1 q) at a8
 change ∀ q, 12 ≤ q → q < 44 → (pB X Y n raw st).2.2.bk q = optI ((fSgl n).bl (pB X Y n raw st).2.2.S 0 (pB X Y n raw st).1 q) at b8
 change ∀ q, 44 ≤ q → q < 1068 → (pC X Y n raw st).2.2.bk q = optI ((fDub n).bl (pC X Y n raw st).2.2.S 0 (pC X Y n raw st).1 q) at c8
 refine ⟨⟨u3.2 a1, v3.2 b1, c1⟩, ?_, ?_, fun q hq => ?_, fun q h0 h9 => ?_⟩
 ·rw [okL_app, okL_app, u1, v1, ← a3, ← b3]
  exact ⟨a2, b2, c2⟩
 ·rw [addAll_app, addAll_app, u1, v1, ← a3, ← b3]
  exact c3
 ·rcases List.mem_append.1 hq with hq | hq
  ·exact u5 q hq
  ·rcases List.mem_append.1 hq with hq | hq
   ·exact v5 q hq
   ·exact c4 q hq
 ·by_cases h12 : q < 12
  ·rw [if_pos h12, c6 q (by omega), b6 q h12, a8 q h0 h12, u4]
  ·rw [if_neg h12]
   by_cases h44 : q < 44
   ·rw [if_pos h44, c6 q h44, b8 q (by omega) h44, v4]
   ·rw [if_neg h44]
    exact c8 q (by omega) h9
theorem ptrs_k {X Y : Int} (hY : 0 ≤ Y) {A : Nat → List Int} (n : Int) {raw : List Int} (hr : raw.length = 18) {st : LS} (h : SI X Y A st) (hb : ∀ q, st.bk q = none) (hs : inoSh n st.S raw) (ho : OkL X Y st.cl (inoPs n st.S raw)) :
  (ptrsX X Y n raw st).1 = raw ∧ (ptrsX X Y n raw st).2.S = st.S := by
 have hd12 : ((raw.drop 4).take 12).length = 12 := by simp [hr]
 obtain ⟨s1, s2, s3⟩ := hs
 unfold inoPs at ho
 rw [okL_app, okL_app] at ho
 obtain ⟨o1, o2, o3⟩ := ho
 have iA := (rowT_i hY A n 0).inv ((raw.drop 4).take 12) st h
 obtain ⟨a1, a2, a3, a4, a5, a6, a7, a8⟩ := (rowT_f hY A n 0).all ((raw.drop 4).take 12) st (by rw [hd12]; decide) h (fun q _ => hb q)
 obtain ⟨x1, x2⟩ := rowT_k hY A n 0 ((raw.drop 4).take 12) st (by rw [hd12]; decide) h (fun q _ => hb q) s1 o1
 rw [hd12] at a7
 rw [x1, x2] at a3
 change (pA X Y n raw st).1 = dirL raw at x1
 change (pA X Y n raw st).2.2.S = st.S at x2
 change SI X Y A (pA X Y n raw st).2.2 at iA
 change (pA X Y n raw st).2.2.cl = addAll st.cl ((fRow 0).ps st.S 0 (dirL raw)) at a3
 have iB := (sglT_i hY A n).inv [nth raw 16] (pA X Y n raw st).2.2 iA
 obtain ⟨b1, b2, b3, b4, b5, b6, b7, b8⟩ := (sglT_f hY A n).all [nth raw 16] (pA X Y n raw st).2.2 (Nat.le_refl 1) iA (fun q hq => a7 q hq)
 obtain ⟨y1, y2⟩ := sglT_k hY A n [nth raw 16] (pA X Y n raw st).2.2 (Nat.le_refl 1) iA (fun q hq => a7 q hq) (by rw [x2]; exact s2) (by rw [x2, a3]; exact o2)
 rw [y1, y2, x2] at b3
 change (pB X Y n raw st).1 = [nth raw 16] at y1
 change (pB X Y n raw st).2.2.S = _ at y2
 change (pB X Y n raw st).2.2.cl = _ at b3
 rw [x2] at y2
 obtain ⟨z1, z2⟩ := dubT_k hY A n [nth raw 17] (pB X Y n raw st).2.2 (Nat.le_refl 1) iB (fun q hq => b7 q hq) (by rw [y2]; exact s3) (by rw [y2, b3, a3]; exact o3)
 change (pC X Y n raw st).1 = [nth raw 17] at z1
 change (pC X Y n raw st).2.2.S = _ at z2
 rw [y2] at z2
 rw [ptrsX_T hY]
 refine ⟨?_, z2⟩
 show raw.take 4 ++ ((pA X Y n raw st).1 ++ ((pB X Y n raw st).1 ++ (pC X Y n raw st).1)) = raw
 rw [x1, y1, z1]
 unfold dirL
 apply List.ext_getElem?
 intro i
 by_cases h4 : i < 4
 ·rw [List.getElem?_append_left (by simp; omega), List.getElem?_take, if_pos h4]
 ·rw [List.getElem?_append_right (by simp; omega)]
  by_cases h16 : i < 16
  ·rw [List.getElem?_append_left (by simp; omega), List.getElem?_take, if_pos (by simp; omega), List.getElem?_drop]
   congr 1
   simp [hr]; omega
  ·rw [List.getElem?_append_right (by simp; omega)]
   have e : i - (raw.take 4).length - ((raw.drop 4).take 12).length = i - 16 := by simp [hr]; omega
   rw [e]
   by_cases i16 : i = 16
   ·subst i16
    rw [nth_getElem? (l := raw) (by omega)]; rfl
   ·by_cases i17 : i = 17
    ·subst i17
     rw [nth_getElem? (l := raw) (by omega)]; rfl
    ·rw [List.getElem?_eq_none (by simp; omega), List.getElem?_eq_none (by omega)]
theorem aimW_iff {X Y idx n p : Int} {s : Int → Bool} : aimW X Y idx n p s = true ↔ idx < n ∧ isD X Y p = true ∧ s p = false := by
 unfold aimW
 simp [and_assoc]
theorem row_w (X Y n base : Int) (S : Nat → List Int) : ∀ (ps : List Int) (k : Nat) (s s' : Int → Bool), rowW X Y n base k ps s = some s' ↔ (fRow base).sh n S k ps ∧ OkL X Y s ((fRow base).ps S k ps) ∧ s' = addAll s ((fRow base).ps S k ps)
 | [], k, s, s' => by
  show some s = some s' ↔ True ∧ OkL X Y s [] ∧ s' = addAll s []
  rw [addAll_nil]
  constructor
  ·intro h; exact ⟨trivial, okL_nil _ _ _, (Option.some.inj h).symm⟩
  ·rintro ⟨-, -, rfl⟩; rfl
 | p :: r, k, s, s' => by
  rw [rowW_cons]
  show _ ↔ ((p ≠ 0 → base + (k : Int) < n ∧ True) ∧ (fRow base).sh n S (k + 1) r) ∧ OkL X Y s ((if p = 0 then [] else [p]) ++ (fRow base).ps S (k + 1) r) ∧ s' = addAll s ((if p = 0 then [] else [p]) ++ (fRow base).ps S (k + 1) r)
  by_cases hp : p = 0
  ·rw [if_pos hp, if_pos hp, row_w X Y n base S r (k + 1) s s']
   simp only [List.nil_append]
   constructor
   ·rintro ⟨a, b, c⟩; exact ⟨⟨fun h => absurd hp h, a⟩, b, c⟩
   ·rintro ⟨⟨-, a⟩, b, c⟩; exact ⟨a, b, c⟩
  ·rw [if_neg hp, if_neg hp, okL_app, addAll_app, addAll_one, okL_one]
   by_cases ha : aimW X Y (base + k) n p s = true
   ·rw [if_pos ha, row_w X Y n base S r (k + 1) (addS s p) s']
    obtain ⟨a1, a2⟩ := aimW_iff.1 ha
    constructor
    ·rintro ⟨a, b, c⟩; exact ⟨⟨fun _ => ⟨a1, trivial⟩, a⟩, ⟨a2, b⟩, c⟩
    ·rintro ⟨⟨-, a⟩, ⟨-, b⟩, c⟩; exact ⟨a, b, c⟩
   ·rw [if_neg ha]
    constructor
    ·intro h; cases h
    ·rintro ⟨⟨a, -⟩, ⟨b, -⟩, -⟩
     exact absurd (aimW_iff.2 ⟨(a hp).1, b⟩) ha
theorem oneW_iff {X Y : Int} {S : Nat → List Int} {n : Int} {R : RowF} {k : Nat} {m : Int} {p idx : Int} {f : (Int → Bool) → Option (Int → Bool)} {sub : RowF} (hF : R.F k = tabF n sub) (hlo : R.lo k = idx)
  (hf : ∀ s s', f s = some s' ↔ (sub.sh n S 0 (rdPtr (S p.toNat)) ∧ someP (rdPtr (S p.toNat)) = true) ∧ OkL X Y s (sub.ps S 0 (rdPtr (S p.toNat))) ∧ s' = addAll s (sub.ps S 0 (rdPtr (S p.toNat)))) (s s' : Int → Bool) :
  oneW X Y n idx p f s = some s' ↔ R.sh n S k [p] ∧ OkL X Y s (R.ps S k [p]) ∧ s' = addAll s (R.ps S k [p]) := by
 show _ ↔ ((p ≠ 0 → R.lo k < n ∧ (R.F k).sh S p) ∧ True) ∧ OkL X Y s ((if p = 0 then [] else (R.F k).ps S p) ++ []) ∧ s' = addAll s ((if p = 0 then [] else (R.F k).ps S p) ++ [])
 rw [hF, hlo, List.append_nil]
 unfold oneW
 by_cases hp : p = 0
 ·rw [if_pos hp, if_pos hp, addAll_nil]
  constructor
  ·intro h; exact ⟨⟨fun h => absurd hp h, trivial⟩, okL_nil _ _ _, (Option.some.inj h).symm⟩
  ·rintro ⟨-, -, rfl⟩; rfl
 ·rw [if_neg hp, if_neg hp]
  show _ ↔ ((p ≠ 0 → idx < n ∧ (sub.sh n S 0 (rdPtr (S p.toNat)) ∧ someP (rdPtr (S p.toNat)) = true)) ∧ True) ∧ OkL X Y s (p :: sub.ps S 0 (rdPtr (S p.toNat))) ∧ s' = addAll s (p :: sub.ps S 0 (rdPtr (S p.toNat)))
  rw [okL_cons, addAll_cons]
  by_cases ha : aimW X Y idx n p s = true
  ·rw [if_pos ha, hf]
   obtain ⟨a1, a2⟩ := aimW_iff.1 ha
   constructor
   ·rintro ⟨a, b, c⟩; exact ⟨⟨fun _ => ⟨a1, a⟩, trivial⟩, ⟨a2, b⟩, c⟩
   ·rintro ⟨⟨a, -⟩, ⟨-, b⟩, c⟩; exact ⟨(a hp).2, b, c⟩
  ·rw [if_neg ha]
   constructor
   ·intro h; cases h
   ·rintro ⟨⟨a, -⟩, ⟨b, -⟩, -⟩
    exact absurd (aimW_iff.2 ⟨(a hp).1, b⟩) ha
theorem tab_w (X Y : Int) (S : Nat → List Int) (n base : Int) (at' : Nat) (s s' : Int → Bool) : tabW X Y S n base at' s = some s' ↔ ((fRow base).sh n S 0 (rdPtr (S at')) ∧ someP (rdPtr (S at')) = true) ∧ OkL X Y s ((fRow base).ps S 0 (rdPtr (S at'))) ∧ s' = addAll s ((fRow base).ps S 0 (rdPtr (S at'))) := by
 unfold tabW
 have h := row_w X Y n base S (rdPtr (S at')) 0 s
 cases hr : rowW X Y n base 0 (rdPtr (S at')) s with
 | none =>
  constructor
  ·intro h; cases h
  ·rintro ⟨⟨a, -⟩, b, rfl⟩
   have := (h _).2 ⟨a, b, rfl⟩
   rw [hr] at this; cases this
 | some s2 =>
  obtain ⟨a, b, rfl⟩ := (h s2).1 hr
  show (if someL (rdPtr (S at')) = true then _ else _) = _ ↔ _
  rw [show someL (rdPtr (S at')) = someP (rdPtr (S at')) from rfl]
  by_cases hs : someP (rdPtr (S at')) = true
  ·rw [if_pos hs]
   constructor
   ·intro h; exact ⟨⟨a, hs⟩, b, (Option.some.inj h).symm⟩
   ·rintro ⟨-, -, rfl⟩; rfl
  ·rw [if_neg hs]
   constructor
   ·intro h; cases h
   ·rintro ⟨⟨-, h⟩, -⟩; exact absurd h hs
theorem RowF.cons_iff {X Y : Int} {R : RowF} {n : Int} {S : Nat → List Int} {k : Nat} {p : Int} {r : List Int} {s s' : Int → Bool} :
  (R.sh n S k (p :: r) ∧ OkL X Y s (R.ps S k (p :: r)) ∧ s' = addAll s (R.ps S k (p :: r))) ↔ ((R.sh n S k [p] ∧ OkL X Y s (R.ps S k [p])) ∧ R.sh n S (k + 1) r ∧ OkL X Y (addAll s (R.ps S k [p])) (R.ps S (k + 1) r) ∧ s' = addAll (addAll s (R.ps S k [p])) (R.ps S (k + 1) r)) := by
 have e : R.ps S k (p :: r) = R.ps S k [p] ++ R.ps S (k + 1) r := by
  show _ ++ _ = (_ ++ []) ++ _
  rw [List.append_nil]
 have e2 : R.sh n S k (p :: r) ↔ R.sh n S k [p] ∧ R.sh n S (k + 1) r := by
  show (_ ∧ _) ↔ (_ ∧ True) ∧ _
  rw [and_true]
 rw [e, e2, okL_app, addAll_app]
 constructor
 ·rintro ⟨⟨a, b⟩, ⟨c, d⟩, e⟩; exact ⟨⟨a, c⟩, b, d, e⟩
 ·rintro ⟨⟨a, c⟩, b, d, e⟩; exact ⟨⟨a, b⟩, ⟨c, d⟩, e⟩
theorem dblRow_w (X Y : Int) (S : Nat → List Int) (n : Int) : ∀ (ps : List Int) (k : Nat) (s s' : Int → Bool), dblRowW X Y S n k ps s = some s' ↔ (fDblRow n).sh n S k ps ∧ OkL X Y s ((fDblRow n).ps S k ps) ∧ s' = addAll s ((fDblRow n).ps S k ps)
 | [], k, s, s' => by
  show some s = some s' ↔ True ∧ OkL X Y s [] ∧ s' = addAll s []
  rw [addAll_nil]
  constructor
  ·intro h; exact ⟨trivial, okL_nil _ _ _, (Option.some.inj h).symm⟩
  ·rintro ⟨-, -, rfl⟩; rfl
 | p :: r, k, s, s' => by
  rw [dblRowW_cons, RowF.cons_iff]
  have h1 := oneW_iff (X := X) (Y := Y) (S := S) (n := n) (R := fDblRow n) (k := k) (m := 0) (p := p) (idx := 44 + 32 * k) (f := tabW X Y S n (44 + 32 * k) p.toNat) (sub := fRow (44 + 32 * k)) rfl rfl (tab_w X Y S n (44 + 32 * k) p.toNat) s
  cases ho : oneW X Y n (44 + 32 * k) p (tabW X Y S n (44 + 32 * k) p.toNat) s with
  | none =>
   constructor
   ·intro h; cases h
   ·rintro ⟨⟨a, b⟩, -⟩
    have := (h1 _).2 ⟨a, b, rfl⟩
    rw [ho] at this; cases this
  | some s2 =>
   obtain ⟨a, b, rfl⟩ := (h1 s2).1 ho
   show dblRowW X Y S n (k + 1) r _ = _ ↔ _
   rw [dblRow_w X Y S n r (k + 1)]
   exact ⟨fun h => ⟨⟨a, b⟩, h⟩, fun h => h.2⟩
theorem dbl_w (X Y : Int) (S : Nat → List Int) (n : Int) (at' : Nat) (s s' : Int → Bool) : dblW X Y S n at' s = some s' ↔ ((fDblRow n).sh n S 0 (rdPtr (S at')) ∧ someP (rdPtr (S at')) = true) ∧ OkL X Y s ((fDblRow n).ps S 0 (rdPtr (S at'))) ∧ s' = addAll s ((fDblRow n).ps S 0 (rdPtr (S at'))) := by
 unfold dblW
 have h := dblRow_w X Y S n (rdPtr (S at')) 0 s
 cases hr : dblRowW X Y S n 0 (rdPtr (S at')) s with
 | none =>
  constructor
  ·intro h; cases h
  ·rintro ⟨⟨a, -⟩, b, rfl⟩
   have := (h _).2 ⟨a, b, rfl⟩
   rw [hr] at this; cases this
 | some s2 =>
  obtain ⟨a, b, rfl⟩ := (h s2).1 hr
  show (if someL (rdPtr (S at')) = true then _ else _) = _ ↔ _
  rw [show someL (rdPtr (S at')) = someP (rdPtr (S at')) from rfl]
  by_cases hs : someP (rdPtr (S at')) = true
  ·rw [if_pos hs]
   constructor
   ·intro h; exact ⟨⟨a, hs⟩, b, (Option.some.inj h).symm⟩
   ·rintro ⟨-, -, rfl⟩; rfl
  ·rw [if_neg hs]
   constructor
   ·intro h; cases h
   ·rintro ⟨⟨-, h⟩, -⟩; exact absurd h hs
theorem ptrs_w (X Y : Int) (S : Nat → List Int) (n : Int) (raw : List Int) (s s' : Int → Bool) : ptrsW X Y S n raw s = some s' ↔ inoSh n S raw ∧ OkL X Y s (inoPs n S raw) ∧ s' = addAll s (inoPs n S raw) := by
 unfold ptrsW inoSh inoPs
 rw [okL_app, okL_app, addAll_app, addAll_app]
 have h := row_w X Y n 0 S (dirL raw) 0 s
 cases hr : rowW X Y n 0 0 (dirL raw) s with
 | none =>
  constructor
  ·intro h; cases h
  ·rintro ⟨⟨a, -⟩, ⟨b, -⟩, -⟩
   have := (h _).2 ⟨a, b, rfl⟩
   rw [hr] at this; cases this
 | some s1 =>
  obtain ⟨a, b, rfl⟩ := (h s1).1 hr
  have h2 := oneW_iff (X := X) (Y := Y) (S := S) (n := n) (R := fSgl n) (k := 0) (m := 0) (p := nth raw 16) (idx := 12) (f := tabW X Y S n 12 (nth raw 16).toNat) (sub := fRow 12) rfl rfl (tab_w X Y S n 12 (nth raw 16).toNat) (addAll s ((fRow 0).ps S 0 (dirL raw)))
  simp only
  cases ho : oneW X Y n 12 (nth raw 16) (tabW X Y S n 12 (nth raw 16).toNat) (addAll s ((fRow 0).ps S 0 (dirL raw))) with
  | none =>
   constructor
   ·intro h; cases h
   ·rintro ⟨⟨-, a2, -⟩, ⟨-, b2, -⟩, -⟩
    have := (h2 _).2 ⟨a2, b2, rfl⟩
    rw [ho] at this; cases this
  | some s2 =>
   obtain ⟨a2, b2, rfl⟩ := (h2 s2).1 ho
   have h3 := oneW_iff (X := X) (Y := Y) (S := S) (n := n) (R := fDub n) (k := 0) (m := 0) (p := nth raw 17) (idx := 44) (f := dblW X Y S n (nth raw 17).toNat) (sub := fDblRow n) rfl rfl (dbl_w X Y S n (nth raw 17).toNat) (addAll (addAll s ((fRow 0).ps S 0 (dirL raw))) ((fSgl n).ps S 0 [nth raw 16])) s'
   simp only
   rw [h3]
   constructor
   ·rintro ⟨c, d, e⟩; exact ⟨⟨a, a2, c⟩, ⟨b, b2, d⟩, e⟩
   ·rintro ⟨⟨-, -, c⟩, ⟨-, -, d⟩, e⟩; exact ⟨c, d, e⟩
theorem row_bl (base : Int) (S : Nat → List Int) : ∀ (ps : List Int) (k : Nat) (q : Int), base + k ≤ q → (fRow base).bl S k ps q = nth ps (q - base - k).toNat
 | [], k, q, h => by
  show (0 : Int) = _
  unfold nth; simp
 | p :: r, k, q, h => by
  show (if q < base + ((k + 1 : Nat) : Int) then (if p = 0 then 0 else p) else (fRow base).bl S (k + 1) r q) = _
  by_cases hq : q < base + ((k + 1 : Nat) : Int)
  ·rw [if_pos hq, show (q - base - k).toNat = 0 by omega, nth_cons0]
   split
   ·rename_i e; exact e.symm
   ·rfl
  ·rw [if_neg hq, row_bl base S r (k + 1) q (by omega), show (q - base - k).toNat = (q - base - ((k + 1 : Nat) : Int)).toNat + 1 by omega, nth_consS]
theorem dblRow_bl (n : Int) (S : Nat → List Int) : ∀ (ps : List Int) (k : Nat) (q : Int), 44 + 32 * (k : Int) ≤ q → (fDblRow n).bl S k ps q = hangW S (nth ps (((q - 44) / 32) - k).toNat) ((q - 44) % 32).toNat
 | [], k, q, h => by
  show (0 : Int) = _
  unfold hangW
  rw [if_pos (by unfold nth; simp)]
 | p :: r, k, q, h => by
  show (if q < 44 + 32 * ((k + 1 : Nat) : Int) then (if p = 0 then 0 else (fRow (44 + 32 * (k : Int))).bl S 0 (rdPtr (S p.toNat)) q) else (fDblRow n).bl S (k + 1) r q) = _
  by_cases hq : q < 44 + 32 * ((k + 1 : Nat) : Int)
  ·rw [if_pos hq, show (((q - 44) / 32) - k).toNat = 0 by omega, nth_cons0]
   unfold hangW
   split
   ·rfl
   ·rw [row_bl _ S _ 0 q (by omega)]
    congr 1
    omega
  ·rw [if_neg hq, dblRow_bl n S r (k + 1) q (by omega), show (((q - 44) / 32) - k).toNat = (((q - 44) / 32) - ((k + 1 : Nat) : Int)).toNat + 1 by omega, nth_consS]
theorem dirL_nth {raw : List Int} (hr : raw.length = 18) {k : Nat} (hk : k < 12) : nth (dirL raw) k = nth raw (4 + k) := by
 unfold dirL nth
 rw [List.getElem?_take, if_pos hk, List.getElem?_drop]
theorem inoBl_blkW (n : Int) (S : Nat → List Int) {raw : List Int} (hr : raw.length = 18) (k : Nat) (hk : k < 1068) : inoBl n S raw k = blkW S raw k := by
 unfold inoBl blkW
 by_cases h12 : k < 12
 ·rw [if_pos (show (k : Int) < 12 by omega), if_pos h12, row_bl 0 S _ 0 k (by omega), show ((k : Int) - 0 - ((0 : Nat) : Int)).toNat = k by omega, dirL_nth hr h12]
 ·rw [if_neg (show ¬ (k : Int) < 12 by omega), if_neg h12]
  by_cases h44 : k < 44
  ·rw [if_pos (show (k : Int) < 44 by omega), if_pos h44]
   show (if (k : Int) < 44 then (if nth raw 16 = 0 then 0 else (fRow 12).bl S 0 (rdPtr (S (nth raw 16).toNat)) k) else 0) = _
   rw [if_pos (by omega)]
   unfold hangW
   split
   ·rfl
   ·rw [row_bl 12 S _ 0 k (by omega)]
    congr 1
    omega
  ·rw [if_neg (show ¬ (k : Int) < 44 by omega), if_neg h44]
   show (if (k : Int) < 1068 then (if nth raw 17 = 0 then 0 else (fDblRow n).bl S 0 (rdPtr (S (nth raw 17).toNat)) k) else 0) = _
   rw [if_pos (by omega)]
   by_cases h17 : nth raw 17 = 0
   ·rw [if_pos h17, if_pos h17]
    unfold hangW
    rw [if_pos rfl]
   ·rw [if_neg h17, if_neg h17, dblRow_bl n S _ 0 k (by omega)]
    have e1 : ((((k : Int) - 44) / 32) - ((0 : Nat) : Int)).toNat = (k - 44) / 32 := by omega
    have e2 : (((k : Int) - 44) % 32).toNat = (k - 44) % 32 := by omega
    rw [e1, e2]
def BlIn (f : Form) : Prop := ∀ S p q, f.bl S p q = 0 ∨ f.bl S p q ∈ f.ps S p
theorem RowF.blin {R : RowF} (hR : ∀ k, BlIn (R.F k)) (S : Nat → List Int) : ∀ (ps : List Int) (k : Nat) (q : Int), R.bl S k ps q = 0 ∨ R.bl S k ps q ∈ R.ps S k ps
 | [], _, _ => .inl rfl
 | p :: r, k, q => by
  show (if q < R.lo (k + 1) then (if p = 0 then 0 else (R.F k).bl S p q) else R.bl S (k + 1) r q) = 0 ∨ (if q < R.lo (k + 1) then (if p = 0 then 0 else (R.F k).bl S p q) else R.bl S (k + 1) r q) ∈ (if p = 0 then [] else (R.F k).ps S p) ++ R.ps S (k + 1) r
  split
  ·split
   ·exact .inl rfl
   ·rcases hR k S p q with h | h
    ·exact .inl h
    ·exact .inr (List.mem_append_left _ h)
  ·rcases RowF.blin hR S r (k + 1) q with h | h
   ·exact .inl h
   ·exact .inr (List.mem_append_right _ h)
theorem leaf_blin : BlIn leafF := fun _ p _ => .inr (List.mem_singleton.2 rfl)
theorem tab_blin (n : Int) {R : RowF} (hR : ∀ k, BlIn (R.F k)) : BlIn (tabF n R) := fun S p q => by
 rcases RowF.blin hR S (rdPtr (S p.toNat)) 0 q with h | h
 ·exact .inl h
 ·exact .inr (List.mem_cons_of_mem _ h)
theorem ino_blin (n : Int) (S : Nat → List Int) (raw : List Int) (q : Int) : inoBl n S raw q = 0 ∨ inoBl n S raw q ∈ inoPs n S raw := by
 unfold inoBl inoPs
 have hd : ∀ k, BlIn ((fDblRow n).F k) := fun k => tab_blin n (fun _ => leaf_blin)
 split
 ·rcases RowF.blin (R := fRow 0) (fun _ => leaf_blin) S (dirL raw) 0 q with h | h
  ·exact .inl h
  ·exact .inr (List.mem_append_left _ h)
 ·split
  ·rcases RowF.blin (R := fSgl n) (fun _ => tab_blin n (fun _ => leaf_blin)) S [nth raw 16] 0 q with h | h
   ·exact .inl h
   ·exact .inr (List.mem_append_right _ (List.mem_append_left _ h))
  ·rcases RowF.blin (R := fDub n) (fun _ => tab_blin n hd) S [nth raw 17] 0 q with h | h
   ·exact .inl h
   ·exact .inr (List.mem_append_right _ (List.mem_append_right _ h))
theorem aims_of {X Y n : Int} {N : Nat} {S : Nat → List Int} {raw : List Int} (hY : 0 ≤ Y) (hX : X = N) (hN : 0 < N) (hr : raw.length = 18) (ho : ∀ p ∈ inoPs n S raw, isD X Y p = true) : Aims N S raw ∧ ∀ k : Nat, k < 1068 → 0 ≤ blkW S raw k ∧ blkW S raw k < N := by
 have hd : ∀ p ∈ inoPs n S raw, 0 ≤ p ∧ p < N := fun p hp => by
  have := ho p hp
  unfold isD at this
  have := of_decide_eq_true this
  omega
 have z : ∀ p : Int, (p = 0 ∨ p ∈ inoPs n S raw) → 0 ≤ p ∧ p < N := fun p h => by
  rcases h with rfl | h
  ·omega
  ·exact hd p h
 have h16 : nth raw 16 = 0 ∨ nth raw 16 ∈ inoPs n S raw := by
  by_cases h : nth raw 16 = 0
  ·exact .inl h
  ·right
   unfold inoPs
   refine List.mem_append_right _ (List.mem_append_left _ ?_)
   show _ ∈ (if nth raw 16 = 0 then [] else nth raw 16 :: _) ++ []
   rw [if_neg h]
   exact List.mem_append_left _ (List.mem_cons_self ..)
 have h17 : nth raw 17 = 0 ∨ nth raw 17 ∈ inoPs n S raw := by
  by_cases h : nth raw 17 = 0
  ·exact .inl h
  ·right
   unfold inoPs
   refine List.mem_append_right _ (List.mem_append_right _ ?_)
   show _ ∈ (if nth raw 17 = 0 then [] else nth raw 17 :: _) ++ []
   rw [if_neg h]
   exact List.mem_append_left _ (List.mem_cons_self ..)
 have mem : ∀ (l : List Int) (k : Nat) (p : Int), p ∈ l → p ≠ 0 → p ∈ (fDblRow n).ps S k l := by
  intro l
  induction l with
  | nil => intro k p h; cases h
  | cons a r ih =>
   intro k p h h0
   show p ∈ (if a = 0 then [] else a :: _) ++ _
   rcases List.mem_cons.1 h with e | h
   ·subst e
    rw [if_neg h0]
    exact List.mem_append_left _ (List.mem_cons_self ..)
   ·exact List.mem_append_right _ (ih (k + 1) p h h0)
 refine ⟨⟨hr, z _ h16, z _ h17, fun h p hp => ?_⟩, fun k hk => ?_⟩
 ·refine (z p ?_).2
  by_cases hp0 : p = 0
  ·exact .inl hp0
  ·right
   unfold inoPs
   refine List.mem_append_right _ (List.mem_append_right _ ?_)
   show _ ∈ (if nth raw 17 = 0 then [] else nth raw 17 :: (fDblRow n).ps S 0 (rdPtr (S (nth raw 17).toNat))) ++ []
   rw [if_neg h]
   exact List.mem_append_left _ (List.mem_cons_of_mem _ (mem _ 0 p hp hp0))
 ·rw [← inoBl_blkW n S hr k hk]
  exact z _ (ino_blin n S raw k)
noncomputable def wI (S : Nat → List Int) (i : Nat) : List Int := if i = 0 then zl 18 else (rdInoR (S i)).1
theorem wI_len (S : Nat → List Int) (i : Nat) : (wI S i).length = 18 := by
 unfold wI
 split
 ·exact zl_length _
 ·exact rdInoR_length _
theorem wI_yes (S : Nat → List Int) {i : Nat} (h : 1 ≤ i) : wI S i = (rdInoR (S i)).1 := if_neg (by omega)
def ptrsA (X Y : Int) (S I : Nat → List Int) : List Nat → (Int → Bool) → Option (Int → Bool)
 | [], s => some s
 | i :: r, s => if nth (I i) 0 = 0 then ptrsA X Y S I r s else match ptrsW X Y S (cntX (nth (I i) 2)) (I i) s with | none => none | some s' => ptrsA X Y S I r s'
theorem ptrsA_cons (X Y : Int) (S I : Nat → List Int) (i : Nat) (r : List Nat) (s : Int → Bool) : ptrsA X Y S I (i :: r) s = if nth (I i) 0 = 0 then ptrsA X Y S I r s else match ptrsW X Y S (cntX (nth (I i) 2)) (I i) s with | none => none | some s' => ptrsA X Y S I r s' := rfl
def ptI (S I : Nat → List Int) (i : Nat) : List Int := if nth (I i) 0 = 0 then [] else inoPs (cntX (nth (I i) 2)) S (I i)
theorem ptrsA_iff (X Y : Int) (S I : Nat → List Int) : ∀ (l : List Nat) (s s' : Int → Bool), ptrsA X Y S I l s = some s' ↔ (∀ i ∈ l, nth (I i) 0 ≠ 0 → inoSh (cntX (nth (I i) 2)) S (I i)) ∧ OkL X Y s (l.flatMap (ptI S I)) ∧ s' = addAll s (l.flatMap (ptI S I))
 | [], s, s' => by
  show some s = some s' ↔ _ ∧ OkL X Y s [] ∧ s' = addAll s []
  rw [addAll_nil]
  constructor
  ·intro h; exact ⟨fun i hi => (by cases hi), okL_nil _ _ _, (Option.some.inj h).symm⟩
  ·rintro ⟨-, -, rfl⟩; rfl
 | i :: r, s, s' => by
  rw [ptrsA_cons, List.flatMap_cons, okL_app, addAll_app]
  by_cases hk : nth (I i) 0 = 0
  ·have e : ptI S I i = [] := if_pos hk
   rw [if_pos hk, e, addAll_nil, ptrsA_iff X Y S I r s s']
   constructor
   ·rintro ⟨a, b, c⟩
    refine ⟨fun j hj hj0 => ?_, ⟨okL_nil _ _ _, b⟩, c⟩
    rcases List.mem_cons.1 hj with rfl | hj
    ·exact absurd hk hj0
    ·exact a j hj hj0
   ·rintro ⟨a, ⟨-, b⟩, c⟩
    exact ⟨fun j hj => a j (List.mem_cons_of_mem _ hj), b, c⟩
  ·have e : ptI S I i = inoPs (cntX (nth (I i) 2)) S (I i) := if_neg hk
   rw [if_neg hk, e]
   have h := ptrs_w X Y S (cntX (nth (I i) 2)) (I i) s
   cases hp : ptrsW X Y S (cntX (nth (I i) 2)) (I i) s with
   | none =>
    constructor
    ·intro h; cases h
    ·rintro ⟨a, ⟨b, -⟩, -⟩
     have := (h _).2 ⟨a i (List.mem_cons_self ..) hk, b, rfl⟩
     rw [hp] at this; cases this
   | some s2 =>
    obtain ⟨a, b, rfl⟩ := (h s2).1 hp
    show ptrsA X Y S I r _ = some s' ↔ _
    rw [ptrsA_iff X Y S I r]
    constructor
    ·rintro ⟨a2, b2, c2⟩
     refine ⟨fun j hj hj0 => ?_, ⟨b, b2⟩, c2⟩
     rcases List.mem_cons.1 hj with rfl | hj
     ·exact a
     ·exact a2 j hj hj0
    ·rintro ⟨a2, ⟨-, b2⟩, c2⟩
     exact ⟨fun j hj => a2 j (List.mem_cons_of_mem _ hj), b2, c2⟩
def Reached (L : Nat → List Ent) (j : Nat) : Prop := ∀ P : Nat → Prop, P 1 → Closed L P → P j
theorem RchIs.iff {L : Nat → List Ent} {M : Nat} {rch : Int → Bool} (h : RchIs L M rch) (hL : ∀ i, M ≤ i → L i = []) (hR : ∀ i e, e ∈ L i → 0 ≤ e.1) {j : Nat} (hj : j < M) : rch j = true ↔ Reached L j := by
 constructor
 ·exact fun hr P h1 hc => h.low P h1 hc j hj hr
 ·intro hr
  refine hr (fun i => rch (i : Int) = true) h.one (fun i e hi he => ?_)
  by_cases hiM : i < M
  ·have := h.cl i hiM hi e he
   have h0 := hR i e he
   show rch ((e.1.toNat : Nat) : Int) = true
   rw [show ((e.1.toNat : Nat) : Int) = e.1 by omega]
   exact this
  ·rw [hL i (by omega)] at he; cases he
def wantW (L : Nat → List Ent) (M i : Nat) : Int := if i = 1 then 1 else (cntI L M i : Int)
structure InoOkW (S I : Nat → List Int) (M i : Nat) : Prop where
 rc : Reached (entL S I M) i
 ln : nth (I i) 1 = wantW (entL S I M) M i
 w1 : 1 ≤ wantW (entL S I M) M i
 w2 : wantW (entL S I M) M i ≤ 100
 kd : nth (I i) 0 = 2 → wantW (entL S I M) M i = 1
 tl : tailW S (I i) = true
structure WellP (N : Nat) (S : Nat → List Int) : Prop where
 n8 : 8 ≤ N
 n9 : N ≤ 4096
 su : (rdSupR (S 0)).2.2 = 0
 sn : (rdSupR (S 0)).1 = N
 rd : ∀ i : Nat, 1 ≤ i → (i : Int) ≤ (rdSupR (S 0)).2.1 → (rdInoR (S i)).2 = 0
 pt : (ptrsA N (rdSupR (S 0)).2.1 S (wI S) (List.range' 1 (rdSupR (S 0)).2.1.toNat) (fun _ => false)).isSome = true
 rt : nth (wI S 1) 0 = 2
 dr : DirsOk S (wI S) ((rdSupR (S 0)).2.1.toNat + 1)
 al : ∀ i, 1 ≤ i → i < (rdSupR (S 0)).2.1.toNat + 1 → nth (wI S i) 0 ≠ 0 → InoOkW S (wI S) ((rdSupR (S 0)).2.1.toNat + 1) i
theorem Inos.put {w : World} {g M : Nat} {I I' : Nat → List Int} {cs : Array Value} (h : hat w g = some (.cells cs 78)) (hs : cs.size = M * 18) (hx : ∀ i, i < M → (I i).length = 18 ∧ cs.extract (i * 18) (i * 18 + 18) = IV .i64 (I i)) {i : Nat} (hi : i < M) {raw : List Int} (hr : raw.length = 18) (hI : ∀ j, j < M → I' j = if j = i then raw else I j) :
  Inos (w.setRow g (splice cs (i * 18) (IV .i64 raw))) g M I' := by
 have hz : (IV .i64 raw).size = 18 := by simp [hr]
 refine ⟨_, hat_setRow_at _ _ _ _ _ _ h, by rw [splice_size _ _ _ (by omega)]; exact hs, fun j hj => ?_⟩
 obtain ⟨hl, he⟩ := hx j hj
 rw [hI j hj]
 by_cases hji : j = i
 ·subst hji
  rw [if_pos rfl]
  refine ⟨hr, ?_⟩
  apply Array.ext_getElem?
  intro k
  unfold splice
  rw [Array.getElem?_extract]
  simp only [List.size_toArray, List.getElem?_toArray]
  by_cases hk : k < 18
  ·have hlen : (cs.toList.take (j * 18) ++ (IV .i64 raw).toList ++ cs.toList.drop (j * 18 + (IV .i64 raw).size)).length = cs.size := by simp [hr]; omega
   rw [hlen, if_pos (by omega), List.getElem?_append_left (by simp [hr]; omega), List.getElem?_append_right (by simp; omega)]
   simp only [List.length_take, Array.length_toList, Nat.min_eq_left (show j * 18 ≤ cs.size by omega), Nat.add_sub_cancel_left, Array.getElem?_toList]
  ·rw [if_neg (by simp [hr]; omega), IV_get?, List.getElem?_eq_none (by omega)]; rfl
 ·rw [if_neg hji]
  refine ⟨hl, ?_⟩
  rw [← he]
  apply Array.ext_getElem?
  intro k
  unfold splice
  rw [Array.getElem?_extract, Array.getElem?_extract]
  simp only [List.size_toArray, List.getElem?_toArray]
  have hlen : (cs.toList.take (i * 18) ++ (IV .i64 raw).toList ++ cs.toList.drop (i * 18 + (IV .i64 raw).size)).length = cs.size := by simp [hr]; omega
  rw [hlen]
  split
  ·rename_i hk
   rcases Nat.lt_or_ge j i with hlt | hge
   ·rw [List.append_assoc, List.getElem?_append_left (by simp; omega), List.getElem?_take, if_pos (by omega), Array.getElem?_toList]
   ·rw [List.getElem?_append_right (by simp [hr]; omega), List.getElem?_drop, Array.getElem?_toList]
    congr 1
    simp [hr]; omega
  ·rfl
def WellOut (N : Nat) (S : Nat → List Int) (w : World) (e : Ending) (w' : World) : Prop := ∃ b, e = .returned (.bool b) ∧ (b = true ↔ WellP N S) ∧ Below w.heap.size w w'
theorem well_no {N : Nat} {S : Nat → List Int} {w w' : World} (h : ¬ WellP N S) (hb : Below w.heap.size w w') : WellOut N S w (.returned (.bool false)) w' := ⟨false, rfl, ⟨fun h => (by cases h), fun h2 => absurd h2 h⟩, hb⟩
section
variable {P : Program} {ops : Array Oper} {N : Nat} {Q : Exit → Act → World → Prop}
theorem wp_region_facts_h {id : Nat} {a : Act} {w : World} (hm : P.follows .mixedOrders = true) (N : Nat) (hok : regionOk ops N = true)
  (hsz : (dsts (ops.toList.take N)).all (· < a.tmps.size) = true)
  (I : World → Prop) (E : World → World → Prop) (G : Nat → Value → World → Prop) (H : Nat → World → Prop)
  (h0 : I w.drew)
  (hE : ∀ i v w w', i < N → I w → I w' → E w w' → G i v w → G i v w')
  (hH : ∀ i w w', i < N → I w → I w' → E w w' → H i w → H i w')
  (hs : ∀ i o, i < N → ops[i]? = some o → ∀ a' w', I w' → SameBut ops N a a' →
   (∀ j ∈ Oper.needs o, ∀ oj d, ops[j]? = some oj → oj.dst = some d → G j (gt a' d) w') → (∀ j ∈ Oper.needs o, j < N → H j w') →
   wpOp P ops Q i (fun a'' w'' => ∃ v, a'' = a'.put o.dst v ∧ I w'' ∧ E w' w'' ∧ G i v w'' ∧ H i w'') a' w')
  (he : ∀ a' w', I w' → SameBut ops N a a' → (∀ j oj d, j < N → ops[j]? = some oj → oj.dst = some d → G j (gt a' d) w') → (∀ j, j < N → H j w') →
   wpList P ops Q (ops.toList.drop N) a' w') :
  (Code.region id ops true).wp P Q a w := by
 obtain ⟨hb, ht, hNs, hnd⟩ := regionOk_spec hok
 refine wp_region_any hm ?_
 have key : ∀ (fuel : Nat) (L : Array Bool) (a' : Act) (w' : World), L.size = ops.size → countF L ≤ fuel → (∀ j, N ≤ j → j < ops.size → L.getD j true = false) →
   I w' → SameBut ops N a a' → (∀ j oj d, j < N → L.getD j true = true → ops[j]? = some oj → oj.dst = some d → G j (gt a' d) w') → (∀ j, j < N → L.getD j true = true → H j w') → wpAny P .any ops Q fuel L a' w' := by
  intro fuel
  induction fuel with
  | zero =>
   intro L a' w' hL hf htl hI hS hG hHH
   have hall : ∀ j, j < ops.size → L.getD j true = true := by
    intro j hj
    cases hv : L.getD j true with
    | true => rfl
    | false => have := countF_set hv; omega
   have hN : N = ops.size := by
    by_cases h : N < ops.size
    ·have := htl N (Nat.le_refl _) h
     rw [hall N h] at this; simp at this
    ·omega
   refine wpAny_tail hok 0 N L a' w' (Nat.le_refl _) (by omega) (by omega) hL (fun j hj => by rw [hall j hj]; simp; omega) ?_
   exact he a' w' hI hS (fun j oj d hj ho hd => hG j oj d hj (hall j (by omega)) ho hd) (fun j hj => hHH j hj (hall j (by omega)))
  | succ fuel ih =>
   intro L a' w' hL hf htl hI hS hG hHH
   by_cases hall : ∀ j, j < N → L.getD j true = true
   ·refine wpAny_tail hok (fuel + 1) N L a' w' (Nat.le_refl _) hNs ?_ hL ?_ (he a' w' hI hS (fun j oj d hj ho hd => hG j oj d hj (hall j hj) ho hd) (fun j hj => hHH j hj (hall j hj)))
    ·
     have : ∀ (n : Nat) (l : List Bool), (∀ j, n ≤ j → j < l.length → l[j]? = some false) → l.length - n ≤ l.countP (· == false) := by
      intro n
      induction n with
      | zero =>
       intro l
       induction l with
       | nil => intro _; simp
       | cons b l ihl =>
        intro h
        have h0 := h 0 (Nat.le_refl _) (by simp)
        simp at h0
        subst h0
        have := ihl (fun j _ hj => by have := h (j + 1) (by omega) (by simp; omega); simpa using this)
        simp at this ⊢
        omega
      | succ n ihn =>
       intro l
       cases l with
       | nil => intro _; simp
       | cons b l =>
        intro h
        have := ihn l (fun j hj hjl => by have := h (j + 1) (by omega) (by simp; omega); simpa using this)
        simp [List.countP_cons] at this ⊢
        omega
     have h2 := this N L.toList (fun j hj hjl => by
      have hjs : j < L.size := by simpa using hjl
      have := htl j hj (by omega)
      simp [hjs] at this ⊢
      exact this)
     unfold countF at hf
     simp at h2
     simp at hf
     omega
    ·intro j hj
     by_cases hjN : j < N
     ·rw [hall j hjN]; simp [hjN]
     ·rw [htl j (by omega) hj]; simp [hjN]
   ·refine ⟨?_, ?_⟩
    ·intro hr
     exfalso
     have hex : ∃ j, j < N ∧ L.getD j true = false := by
      false_or_by_contra
      rename_i hne
      apply hall
      intro j hj
      cases hv : L.getD j true with
      | true => rfl
      | false => exact (hne ⟨j, hj, hv⟩).elim
     have least : ∀ n, (∃ j, j < n ∧ j < N ∧ L.getD j true = false) → ∃ j, j < N ∧ L.getD j true = false ∧ ∀ k, k < j → L.getD k true = true := by
      intro n
      induction n with
      | zero => rintro ⟨j, hj, _⟩; omega
      | succ n ihn =>
       rintro ⟨j, hj, hjN, hv⟩
       by_cases hlow : ∃ k, k < j ∧ L.getD k true = false
       ·obtain ⟨k, hk, hkv⟩ := hlow
        exact ihn ⟨k, by omega, by omega, hkv⟩
       ·refine ⟨j, hjN, hv, fun k hk => ?_⟩
        cases hkv : L.getD k true with
        | true => rfl
        | false => exact (hlow ⟨k, hk, hkv⟩).elim
     obtain ⟨j0, hj0, hv0⟩ := hex
     obtain ⟨j, hjN, hv, hlow⟩ := least (j0 + 1) ⟨j0, by omega, hj0, hv0⟩
     have hlt : j < ops.size := by omega
     have : j ∈ Region.ready .any ops L := by
      refine ready_of (o := ops[j]) (by simp [hlt]) hv ?_
      intro k hk
      have hkj := hb j ops[j] (by simp [hlt]) k hk
      have h3 := hlow k hkj
      have hks : k < L.size := by omega
      simp [hks] at h3 ⊢
      exact h3
     rw [hr] at this; simp at this
    ·intro i hi
     obtain ⟨o, ho, h1, h2⟩ := ready_mem hL hi
     have hlt : i < ops.size := (Array.getElem?_eq_some_iff.1 ho).1
     have hiN : i < N := by
      by_cases h : i < N
      ·exact h
      ·exfalso
       apply hall
       intro j hj
       have := h2 j (ht i o ho (by omega) j (by omega))
       have hjs : j < L.size := by omega
       simp [hjs] at this ⊢
       exact this
     refine wpOp_mono ?_ (hs i o hiN ho a' w' hI hS ?_ ?_)
     ·rintro a'' w'' ⟨v, rfl, hI', hE', hGi, hHi⟩
      have hidst : ∀ d, o.dst = some d → d ∈ dsts (ops.toList.take N) := by
       intro d hd
       unfold dsts
       refine List.mem_filterMap.2 ⟨o, ?_, hd⟩
       have hv := (Array.getElem?_eq_some_iff.1 ho).2
       rw [List.mem_take_iff_getElem]
       exact ⟨i, by simp; omega, by simpa using hv⟩
      refine ih _ _ _ (by simpa using hL) (by have := countF_set h1; omega) ?_ hI' ?_ ?_ ?_
      ·intro j hj hjs
       have := htl j hj hjs
       have hjs' : j < L.size := by omega
       simp [hjs', Array.getElem_setIfInBounds, show i ≠ j by omega] at this ⊢
       exact this
      ·refine ⟨by rw [size_put]; exact hS.size, by rw [defers_put]; exact hS.defers, ?_⟩
       intro t ht'
       rw [gt_put_ne]
       ·exact hS.other t ht'
       ·intro e; exact ht' (hidst t e)
      ·intro j oj d hj hjL hoj hd
       by_cases hji : j = i
       ·subst hji
        rw [ho] at hoj
        have hoe : o = oj := by simpa using hoj
        subst hoe
        rw [hd, gt_put_eq _ _ _ (by rw [hS.size]; simpa using (List.all_eq_true.1 hsz) d (hidst d hd))]
        exact hGi
       ·have hjs' : j < L.size := by omega
        have hjL' : L.getD j true = true := by
         simp [hjs', Array.getElem_setIfInBounds, Ne.symm hji] at hjL ⊢
         exact hjL
        have hg := hG j oj d hj hjL' hoj hd
        rw [gt_put_ne]
        ·exact hE j _ _ _ hj hI hI' hE' hg
        ·intro e
         have hne : ∀ (l : List Oper), (dsts l).Nodup → ∀ (i j : Nat) (oi oj : Oper) (d : Nat), l[i]? = some oi → l[j]? = some oj → oi.dst = some d → oj.dst = some d → i = j := by
          intro l
          induction l with
          | nil => intro _ i j oi oj d hi; simp at hi
          | cons x l ihl =>
           intro hnd i j oi oj d hi hj hdi hdj
           have hnd' : (dsts l).Nodup := by
            unfold dsts at hnd ⊢
            rw [List.filterMap_cons] at hnd
            split at hnd
            ·exact hnd
            ·exact (List.nodup_cons.1 hnd).2
           have hx : ∀ (j : Nat) (oj : Oper), l[j]? = some oj → oj.dst = some d → x.dst ≠ some d := by
            intro j oj hj hdj hxd
            unfold dsts at hnd
            rw [List.filterMap_cons, hxd] at hnd
            have := (List.nodup_cons.1 hnd).1
            apply this
            exact List.mem_filterMap.2 ⟨oj, List.mem_of_getElem? hj, hdj⟩
           cases i with
           | zero =>
            simp at hi
            subst hi
            cases j with
            | zero => rfl
            | succ j => simp at hj; exact (hx j oj hj hdj hdi).elim
           | succ i =>
            simp at hi
            cases j with
            | zero => simp at hj; subst hj; exact (hx i oi hi hdi hdj).elim
            | succ j => simp at hj; rw [ihl hnd' i j oi oj d hi hj hdi hdj]
         have := hne (ops.toList.take N) hnd i j o oj d (by simp [List.getElem?_take, hiN, ho]) (by simp [List.getElem?_take, hj, hoj]) e hd
         exact hji this.symm
      ·intro j hj hjL
       by_cases hji : j = i
       ·subst hji; exact hHi
       ·have hjs' : j < L.size := by omega
        have hjL' : L.getD j true = true := by
         simp [hjs', Array.getElem_setIfInBounds, Ne.symm hji] at hjL ⊢
         exact hjL
        exact hH j _ _ hj hI hI' hE' (hHH j hj hjL')
     ·intro j hj oj d hoj hd
      have hjL := h2 j hj
      have hji := hb i o ho j hj
      have hjs : j < L.size := by omega
      exact hG j oj d (by omega) (by simp [hjs] at hjL ⊢; exact hjL) hoj hd
     ·intro j hj hjN
      have hjL := h2 j hj
      have hjs : j < L.size := by omega
      exact hHH j hjN (by simp [hjs] at hjL ⊢; exact hjL)
 refine key ops.size (Array.replicate ops.size false) a { w with drawn := w.drawn + 1 } (by simp) ?_ ?_ h0 ⟨rfl, rfl, fun _ _ => rfl⟩ ?_ ?_
 ·have := List.countP_le_length (p := (· == false)) (l := (Array.replicate ops.size false).toList)
  unfold countF; simpa using this
 ·intro j _ hj; simp [hj]
 ·intro j oj d hj hjL
  simp [show j < ops.size by omega] at hjL
 ·intro j hj hjL
  simp [show j < ops.size by omega] at hjL
theorem wp_region_GH {id : Nat} {a : Act} {w : World} (hm : P.follows .mixedOrders = true) (N : Nat) (hok : regionOk ops N = true)
  (hsz : (dsts (ops.toList.take N)).all (· < a.tmps.size) = true)
  (I : World → Prop) (E : World → World → Prop) (G : Nat → Value → World → Prop) (H : Nat → World → Prop)
  (h0 : I w.drew)
  (hE : ∀ i v w w', i < N → I w → I w' → E w w' → G i v w → G i v w')
  (hH : ∀ i w w', i < N → I w → I w' → E w w' → H i w → H i w')
  (hs : ∀ i o, i < N → ops[i]? = some o → ∀ a' w', I w' → (∀ t, t ∉ dsts (ops.toList.take N) → gt a' t = gt a t) →
   (∀ j ∈ Oper.needs o, ∀ oj d, ops[j]? = some oj → oj.dst = some d → G j (gt a' d) w') → (∀ j ∈ Oper.needs o, j < N → H j w') →
   wpOp P ops Q i (fun a'' w'' => ∃ v, a'' = a'.put o.dst v ∧ I w'' ∧ E w' w'' ∧ G i v w'' ∧ H i w'') a' w')
  (he : ∀ val w', I w' → (∀ j oj d, j < N → ops[j]? = some oj → oj.dst = some d → G j (val j) w') → (∀ j, j < N → H j w') →
   wpList P ops Q (ops.toList.drop N) (putAll (ops.toList.take N) 0 val a) w') :
  (Code.region id ops true).wp P Q a w := by
 refine wp_region_facts_h hm N hok hsz I E G H h0 hE hH (fun i o hi ho a' w' hI hS hF hFH => hs i o hi ho a' w' hI hS.other hF hFH) ?_
 intro a' w' hI hS hF hFH
 let val : Nat → Value := fun j => match ops[j]? with | some oj => (match oj.dst with | some d => gt a' d | none => undef) | none => undef
 have hval : ∀ j oj d, ops[j]? = some oj → oj.dst = some d → val j = gt a' d := by
  intro j oj d hj hd
  simp only [val, hj, hd]
 have hw := he val w' hI (fun j oj d hj ho hd => by rw [hval j oj d ho hd]; exact hF j oj d hj ho hd) hFH
 have hae : a' = putAll (ops.toList.take N) 0 val a := by
  refine act_ext (by rw [putAll_size]; exact hS.size) (by rw [putAll_defers]; exact hS.defers) (fun t ht => ?_)
  rw [putAll_gt (ops.toList.take N) 0 val a a' t (by rw [← hS.size]; exact ht) (fun j oj d hj hd => by
   rw [Nat.zero_add]
   refine hval j oj d ?_ hd
   rw [List.getElem?_take] at hj
   split at hj
   ·simpa using hj
   ·simp at hj)]
  split
  ·rfl
  ·rename_i h; exact hS.other t h
 rw [hae]
 exact hw
end
end Go.Proofs.YtmnecpnkkapflaaGreat
