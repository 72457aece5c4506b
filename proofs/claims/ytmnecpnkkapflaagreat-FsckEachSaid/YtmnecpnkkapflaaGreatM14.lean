import Derived.Test.YtmnecpnkkapflaaGreatM07
import Derived.Test.YtmnecpnkkapflaaGreatM08
import Derived.Test.YtmnecpnkkapflaaGreatM09
import Derived.Test.YtmnecpnkkapflaaGreatM10
import Derived.Test.YtmnecpnkkapflaaGreatM11
import Derived.Test.YtmnecpnkkapflaaGreatM13
namespace Go.Proofs.YtmnecpnkkapflaaGreat
set_option maxHeartbeats 16000000
set_option maxRecDepth 1000000
set_option linter.unusedSimpArgs false
set_option linter.unusedVariables false
open Go.RowKit
def psT (S : Nat → List Int) (t : TI) : List Int := inoPs (cntX (nth t.raw 2)) S t.raw
def tbT (S : Nat → List Int) (t : TI) : List Int := inoTb (cntX (nth t.raw 2)) S t.raw
structure PZ (X Y : Int) (z : LZ) : Prop where
 sh : ∀ i t, z.T i = some t → inoSh (cntX (nth t.raw 2)) z.st.S t.raw
 ok : ∀ i t, z.T i = some t → OkL X Y (fun _ => false) (psT z.st.S t)
 cl : ∀ i t, z.T i = some t → ∀ p ∈ psT z.st.S t, z.st.cl p = true
 dj : ∀ i t i' t' p, z.T i = some t → z.T i' = some t' → p ∈ psT z.st.S t → p ∈ psT z.st.S t' → i = i'
 un : ∀ q, z.st.cl q = true → ∃ i t, z.T i = some t ∧ q ∈ psT z.st.S t
 tb : ∀ i t, z.T i = some t → ∀ p ∈ tbT z.st.S t, z.st.fm p = true ∧ ∀ i' t' k, z.T i' = some t' → t'.bk k ≠ some p
 bk : ∀ i t, z.T i = some t → ∀ q, 0 ≤ q → q < 1068 → t.bk q = optI (inoBl (cntX (nth t.raw 2)) z.st.S t.raw q)
theorem PZ.same {X Y : Int} {z z2 : LZ} (h : PZ X Y z) (h1 : ∀ i t2, z2.T i = some t2 → ∃ t, z.T i = some t ∧ t2.raw = t.raw ∧ t2.bk = t.bk) (h2 : ∀ i t, z.T i = some t → ∃ t2, z2.T i = some t2 ∧ t2.raw = t.raw ∧ t2.bk = t.bk)
  (hcl : z2.st.cl = z.st.cl) (hfm : z2.st.fm = z.st.fm) (hS : ∀ i t, z.T i = some t → ∀ q ∈ tbT z.st.S t, z2.st.S q.toNat = z.st.S q.toNat) : PZ X Y z2 := by
 have key : ∀ i t2, z2.T i = some t2 → ∃ t, z.T i = some t ∧ t2.raw = t.raw ∧ t2.bk = t.bk ∧ psT z2.st.S t2 = psT z.st.S t ∧ tbT z2.st.S t2 = tbT z.st.S t ∧ (inoSh (cntX (nth t2.raw 2)) z2.st.S t2.raw ↔ inoSh (cntX (nth t.raw 2)) z.st.S t.raw) ∧ ∀ q, inoBl (cntX (nth t2.raw 2)) z2.st.S t2.raw q = inoBl (cntX (nth t.raw 2)) z.st.S t.raw q := by
  intro i t2 ht2
  obtain ⟨t, ht, e1, e2⟩ := h1 i t2 ht2
  obtain ⟨a, b, c, d⟩ := ino_st (cntX (nth t.raw 2)) z.st.S z2.st.S t.raw (hS i t ht)
  refine ⟨t, ht, e1, e2, ?_, ?_, ?_, ?_⟩
  ·unfold psT; rw [e1]; exact a
  ·unfold tbT; rw [e1]; exact b
  ·rw [e1]; exact c
  ·rw [e1]; exact d
 refine ⟨fun i t2 ht2 => ?_, fun i t2 ht2 => ?_, fun i t2 ht2 p hp => ?_, fun i t2 i' t2' p ht2 ht2' hp hp' => ?_, fun q hq => ?_, fun i t2 ht2 p hp => ?_, fun i t2 ht2 q h0 h9 => ?_⟩
 ·obtain ⟨t, ht, -, -, -, -, e, -⟩ := key i t2 ht2
  exact e.2 (h.sh i t ht)
 ·obtain ⟨t, ht, -, -, e, -⟩ := key i t2 ht2
  rw [e]; exact h.ok i t ht
 ·obtain ⟨t, ht, -, -, e, -⟩ := key i t2 ht2
  rw [e] at hp
  rw [hcl]; exact h.cl i t ht p hp
 ·obtain ⟨t, ht, -, -, e, -⟩ := key i t2 ht2
  obtain ⟨t', ht', -, -, e', -⟩ := key i' t2' ht2'
  rw [e] at hp; rw [e'] at hp'
  exact h.dj i t i' t' p ht ht' hp hp'
 ·rw [hcl] at hq
  obtain ⟨i, t, ht, hp⟩ := h.un q hq
  obtain ⟨t2, ht2, -, -⟩ := h2 i t ht
  obtain ⟨t0, ht0, -, -, e, -⟩ := key i t2 ht2
  rw [ht] at ht0; cases ht0
  exact ⟨i, t2, ht2, by rw [e]; exact hp⟩
 ·obtain ⟨t, ht, -, -, -, e, -⟩ := key i t2 ht2
  rw [e] at hp
  obtain ⟨a, b⟩ := h.tb i t ht p hp
  refine ⟨by rw [hfm]; exact a, fun i' t2' k ht2' => ?_⟩
  obtain ⟨t', ht', -, e', -⟩ := key i' t2' ht2'
  rw [e']; exact b i' t' k ht'
 ·obtain ⟨t, ht, -, e', -, -, -, e⟩ := key i t2 ht2
  rw [e', e]; exact h.bk i t ht q h0 h9
theorem takeX_parts (X Y : Int) (raw : List Int) (st : LS) : (takeX X Y raw st).1 = (ptrsX X Y (cntX (nth raw 2)) raw (bare st)).1 ∧ (takeX X Y raw st).2 = if nth raw 0 = 2 then firmX (cntX (nth raw 2)) (ptrsX X Y (cntX (nth raw 2)) raw (bare st)).2 else tailX (cntX (nth raw 2)) (nth raw 2) (ptrsX X Y (cntX (nth raw 2)) raw (bare st)).2 := by
 unfold takeX bare
 simp only
 split <;> exact ⟨rfl, rfl⟩
theorem tailX_parts (n z : Int) (st : LS) : (tailX n z st).cl = st.cl ∧ (tailX n z st).fm = st.fm ∧ (tailX n z st).bk = st.bk := by
 unfold tailX
 split
 ·exact ⟨rfl, rfl, rfl⟩
 ·split <;> exact ⟨rfl, rfl, rfl⟩
theorem tailX_S {n z : Int} {st : LS} (hv : ∀ k p, st.bk k = some p → 0 ≤ p) (j : Nat) (hj : ∀ k, st.bk k ≠ some (j : Int)) : (tailX n z st).S j = st.S j := by
 unfold tailX
 split
 ·rfl
 ·rename_i p hp
  split
  ·rfl
  ·refine updS_ne _ _ (fun e => hj (n - 1) ?_)
   have := hv _ _ hp
   rw [hp, e]; congr 1; omega
structure TakeF (X Y : Int) (st st2 : LS) (n : Int) (raw2 : List Int) : Prop where
 sh : inoSh n st2.S raw2
 ok : OkL X Y st.cl (inoPs n st2.S raw2)
 cl : st2.cl = addAll st.cl (inoPs n st2.S raw2)
 tb : ∀ q ∈ inoTb n st2.S raw2, st2.fm q = true ∧ ∀ k, st2.bk k ≠ some q
 bk : ∀ q, 0 ≤ q → q < 1068 → st2.bk q = optI (inoBl n st2.S raw2 q)
theorem take_f {X Y : Int} (hY : 0 ≤ Y) {A : Nat → List Int} {st : LS} (h : SI X Y A (bare st)) {raw : List Int} (hr : raw.length = 18) : TakeF X Y st (takeX X Y raw st).2 (cntX (nth raw 2)) (takeX X Y raw st).1 := by
 obtain ⟨i, d, g⟩ := ptrs_i hY (cntX (nth raw 2)) raw h
 obtain ⟨a1, a2, a3, a4, a5⟩ := ptrs_f hY (cntX (nth raw 2)) hr h (fun _ => rfl)
 obtain ⟨e1, e2⟩ := takeX_parts X Y raw st
 rw [e1, e2]
 change OkL X Y st.cl _ at a2
 change _ = addAll st.cl _ at a3
 generalize ptrsX X Y (cntX (nth raw 2)) raw (bare st) = r at *
 have hnb : ∀ q ∈ inoTb (cntX (nth raw 2)) r.2.S r.1, ∀ k, r.2.bk k ≠ some q := fun q hq k hk => by
  have := (i.bk k q hk).2.2
  rw [a4 q hq] at this; cases this
 split
 ·refine ⟨a1, a2, a3, fun q hq => ⟨firmX_mono (a4 q hq), hnb q hq⟩, a5⟩
 ·obtain ⟨t1, t2, t3⟩ := tailX_parts (cntX (nth raw 2)) (nth raw 2) r.2
  have hv : ∀ k p, r.2.bk k = some p → 0 ≤ p := fun k p hk => Int.le_of_lt (isD_pos hY (i.bk k p hk).1)
  obtain ⟨s1, s2, s3, s4⟩ := ino_st (cntX (nth raw 2)) r.2.S (tailX (cntX (nth raw 2)) (nth raw 2) r.2).S r.1 (fun q hq => by
   have hd := (a2.1 q (ino_tp _ _ _ q hq)).1
   have e := (isD_nat hY hd).1
   refine tailX_S hv _ (fun k hk => ?_)
   rw [e] at hk
   exact hnb q hq k hk)
  refine ⟨s3.2 a1, by rw [s1]; exact a2, by rw [s1, t1]; exact a3, fun q hq => ?_, fun q h0 h9 => by rw [t3, s4]; exact a5 q h0 h9⟩
  rw [s2] at hq
  exact ⟨by rw [t2]; exact a4 q hq, fun k => by rw [t3]; exact hnb q hq k⟩
theorem PZ.take {X Y : Int} (hY : 0 ≤ Y) {A : Nat → List Int} {z : LZ} (h : PZ X Y z) (hI : InvZ X Y A z) {i : Nat} (hT : z.T i = none) {raw : List Int} (hr : raw.length = 18) (n : Int) : PZ X Y (takeZ X Y i raw n z) := by
 have hf := take_f hY hI.si hr
 have hti := take_i hY hI.si raw
 have e2 : nth (takeX X Y raw z.st).1 2 = nth raw 2 := by
  rw [(takeX_parts X Y raw z.st).1]
  exact (ptrs_nth (X := X) hY (cntX (nth raw 2)) hr (bare z.st)).1 2 (by omega)
 have hS : (takeZ X Y i raw n z).st = (takeX X Y raw z.st).2 := rfl
 have hnew : (takeZ X Y i raw n z).T i = some ⟨(takeX X Y raw z.st).1, n, (takeX X Y raw z.st).2.bk⟩ := updT_eq _ _ _
 have hold : ∀ {j : Nat} {u : TI}, (takeZ X Y i raw n z).T j = some u → (j = i ∧ u = ⟨(takeX X Y raw z.st).1, n, (takeX X Y raw z.st).2.bk⟩) ∨ (j ≠ i ∧ z.T j = some u) := by
  intro j u hu
  have hu2 : updT z.T i ⟨(takeX X Y raw z.st).1, n, (takeX X Y raw z.st).2.bk⟩ j = some u := hu
  by_cases hj : j = i
  ·subst hj
   rw [updT_eq] at hu2
   exact .inl ⟨rfl, (Option.some.inj hu2).symm⟩
  ·rw [updT_ne _ _ hj] at hu2
   exact .inr ⟨hj, hu2⟩
 have hkeep : ∀ {j : Nat} {u : TI}, z.T j = some u → (takeZ X Y i raw n z).T j = some u := by
  intro j u hu
  show updT z.T i _ j = _
  rw [updT_ne _ _ (fun e => by rw [e, hT] at hu; cases hu)]
  exact hu
 generalize takeX X Y raw z.st = x at *
 have hst : ∀ j u, z.T j = some u → psT x.2.S u = psT z.st.S u ∧ tbT x.2.S u = tbT z.st.S u ∧ (inoSh (cntX (nth u.raw 2)) x.2.S u.raw ↔ inoSh (cntX (nth u.raw 2)) z.st.S u.raw) ∧ ∀ q, inoBl (cntX (nth u.raw 2)) x.2.S u.raw q = inoBl (cntX (nth u.raw 2)) z.st.S u.raw q := by
  intro j u hu
  refine ino_st (cntX (nth u.raw 2)) z.st.S x.2.S u.raw (fun q hq => ?_)
  have hc := h.cl j u hu q (ino_tp _ _ _ q hq)
  have hd := ((h.ok j u hu).1 q (ino_tp _ _ _ q hq)).1
  have e := (isD_nat hY hd).1
  exact (hti.gr q.toNat (by rw [e]; exact hc)).2.2
 have hpn : psT x.2.S ⟨x.1, n, x.2.bk⟩ = inoPs (cntX (nth raw 2)) x.2.S x.1 := by
  show inoPs (cntX (nth x.1 2)) x.2.S x.1 = _
  rw [e2]
 have htn : tbT x.2.S ⟨x.1, n, x.2.bk⟩ = inoTb (cntX (nth raw 2)) x.2.S x.1 := by
  show inoTb (cntX (nth x.1 2)) x.2.S x.1 = _
  rw [e2]
 have hcln : ∀ q, q ∈ inoPs (cntX (nth raw 2)) x.2.S x.1 → z.st.cl q = false := fun q hq => (hf.ok.1 q hq).2
 refine ⟨fun j u hu => ?_, fun j u hu => ?_, fun j u hu p hp => ?_, fun j u j' u' p hu hu' hp hp' => ?_, fun q hq => ?_, fun j u hu p hp => ?_, fun j u hu q h0 h9 => ?_⟩
 ·rw [hS]
  rcases hold hu with ⟨rfl, rfl⟩ | ⟨-, hu2⟩
  ·show inoSh (cntX (nth x.1 2)) x.2.S x.1
   rw [e2]; exact hf.sh
  ·exact (hst j u hu2).2.2.1.2 (h.sh j u hu2)
 ·rw [hS]
  rcases hold hu with ⟨rfl, rfl⟩ | ⟨-, hu2⟩
  ·rw [hpn]; exact hf.ok.mono (fun _ _ => rfl)
  ·rw [(hst j u hu2).1]; exact h.ok j u hu2
 ·rw [hS] at hp ⊢
  rcases hold hu with ⟨rfl, rfl⟩ | ⟨-, hu2⟩
  ·rw [hpn] at hp
   rw [hf.cl]; exact addAll_yes.2 (.inr hp)
  ·rw [(hst j u hu2).1] at hp
   rw [hf.cl]; exact addAll_yes.2 (.inl (h.cl j u hu2 p hp))
 ·rw [hS] at hp hp'
  rcases hold hu with ⟨rfl, rfl⟩ | ⟨-, hu2⟩
  ·rcases hold hu' with ⟨rfl, rfl⟩ | ⟨-, hu2'⟩
   ·rfl
   ·rw [hpn] at hp
    rw [(hst j' u' hu2').1] at hp'
    have := h.cl j' u' hu2' p hp'
    rw [hcln p hp] at this; cases this
  ·rcases hold hu' with ⟨rfl, rfl⟩ | ⟨-, hu2'⟩
   ·rw [hpn] at hp'
    rw [(hst j u hu2).1] at hp
    have := h.cl j u hu2 p hp
    rw [hcln p hp'] at this; cases this
   ·rw [(hst j u hu2).1] at hp
    rw [(hst j' u' hu2').1] at hp'
    exact h.dj j u j' u' p hu2 hu2' hp hp'
 ·rw [hS, hf.cl] at hq
  rcases addAll_yes.1 hq with hq | hq
  ·obtain ⟨j, u, hu, hp⟩ := h.un q hq
   exact ⟨j, u, hkeep hu, by rw [hS, (hst j u hu).1]; exact hp⟩
  ·exact ⟨i, _, hnew, by rw [hS, hpn]; exact hq⟩
 ·rw [hS] at hp ⊢
  rcases hold hu with ⟨rfl, rfl⟩ | ⟨-, hu2⟩
  ·rw [htn] at hp
   obtain ⟨a, b⟩ := hf.tb p hp
   refine ⟨a, fun j' u' k hu' => ?_⟩
   rcases hold hu' with ⟨rfl, rfl⟩ | ⟨-, hu2'⟩
   ·exact b k
   ·intro hk
    have := (hI.blk j' u' k p hu2' hk).2
    rw [hcln p (ino_tp _ _ _ p hp)] at this; cases this
  ·rw [(hst j u hu2).2.1] at hp
   obtain ⟨a, b⟩ := h.tb j u hu2 p hp
   have hc := h.cl j u hu2 p (ino_tp _ _ _ p hp)
   have hd := ((h.ok j u hu2).1 p (ino_tp _ _ _ p hp)).1
   have e := (isD_nat hY hd).1
   have hfm := (hti.gr p.toNat (by rw [e]; exact hc)).2.1
   rw [e] at hfm
   refine ⟨by rw [hfm]; exact a, fun j' u' k hu' => ?_⟩
   rcases hold hu' with ⟨rfl, rfl⟩ | ⟨-, hu2'⟩
   ·intro hk
    have := (hti.new k p hk).2.2
    rw [hc] at this; cases this
   ·exact b j' u' k hu2'
 ·rw [hS]
  rcases hold hu with ⟨rfl, rfl⟩ | ⟨-, hu2⟩
  ·show x.2.bk q = optI (inoBl (cntX (nth x.1 2)) x.2.S x.1 q)
   rw [e2]; exact hf.bk q h0 h9
  ·rw [(hst j u hu2).2.2.2]; exact h.bk j u hu2 q h0 h9
theorem PZ.enu {X Y : Int} {z : LZ} (h : PZ X Y z) {i : Nat} {t : TI} (ht : z.T i = some t) (n : Int) : PZ X Y { z with T := updT z.T i { t with en := n } } := by
 refine h.same (fun j t2 h2 => ?_) (fun j t2 h2 => ?_) rfl rfl (fun _ _ _ _ _ => rfl)
 ·have h3 : updT z.T i { t with en := n } j = some t2 := h2
  by_cases hj : j = i
  ·subst hj
   rw [updT_eq] at h3
   cases h3
   exact ⟨t, ht, rfl, rfl⟩
  ·rw [updT_ne _ _ hj] at h3
   exact ⟨t2, h3, rfl, rfl⟩
 ·by_cases hj : j = i
  ·subst hj
   rw [ht] at h2; cases h2
   exact ⟨{ t with en := n }, updT_eq _ _ _, rfl, rfl⟩
  ·exact ⟨t2, (updT_ne _ _ hj).trans h2, rfl, rfl⟩
theorem PZ.wipe {X Y : Int} (hY : 0 ≤ Y) {z : LZ} (h : PZ X Y z) {i : Nat} {t : TI} (ht : z.T i = some t) {k p : Int} (hk : t.bk k = some p) : PZ X Y (wipeZ p.toNat z) := by
 refine h.same (fun j t2 h2 => ⟨t2, h2, rfl, rfl⟩) (fun j t2 h2 => ⟨t2, h2, rfl, rfl⟩) rfl rfl (fun j u hu q hq => ?_)
 have hd := ((h.ok j u hu).1 q (ino_tp _ _ _ q hq)).1
 have e := (isD_nat hY hd).1
 refine updS_ne _ _ (fun e2 => ?_)
 have hb := (h.tb j u hu q hq).2 i t k ht
 rw [hk] at hb
 apply hb
 congr 1
 have : 0 < q := isD_pos hY hd
 omega
theorem PZ.q {X Y : Int} {z : LZ} (h : PZ X Y z) (q : List Int) : PZ X Y { z with q := q } := ⟨h.sh, h.ok, h.cl, h.dj, h.un, h.tb, h.bk⟩
def BlkIs (A S : Nat → List Int) (raw : List Int) (k p : Int) : Prop :=
 if nth raw 0 = 2 then S p.toNat = A p.toNat ∨ S p.toNat = zl 128
 else S p.toNat = if k = cntX (nth raw 2) - 1 ∧ nth raw 2 % 128 ≠ 0 then wipeL (A p.toNat) (nth raw 2 % 128).toNat else A p.toNat
structure CZ (A : Nat → List Int) (z : LZ) : Prop where
 b : ∀ i t, z.T i = some t → ∀ k p, t.bk k = some p → BlkIs A z.st.S t.raw k p
 f : ∀ i t, z.T i = some t → ∀ k p, t.bk k = some p → (z.st.fm p = true ↔ nth t.raw 0 = 2)
theorem CZ.same {X Y : Int} {A : Nat → List Int} {z z2 : LZ} (h : CZ A z) (h1 : ∀ i t2, z2.T i = some t2 → ∃ t, z.T i = some t ∧ t2.raw = t.raw ∧ t2.bk = t.bk) (hS : ∀ i t k p, z.T i = some t → t.bk k = some p → z2.st.S p.toNat = z.st.S p.toNat) (hF : z2.st.fm = z.st.fm) : CZ A z2 := by
 refine ⟨fun i t2 ht2 k p hk => ?_, fun i t2 ht2 k p hk => ?_⟩
 ·obtain ⟨t, ht, e1, e2⟩ := h1 i t2 ht2
  rw [e2] at hk
  have := h.b i t ht k p hk
  unfold BlkIs at this ⊢
  rw [e1, hS i t k p ht hk]
  exact this
 ·obtain ⟨t, ht, e1, e2⟩ := h1 i t2 ht2
  rw [e2] at hk
  rw [hF, e1]
  exact h.f i t ht k p hk
theorem CZ.enu {A : Nat → List Int} {z : LZ} (h : CZ A z) {i : Nat} {t : TI} (ht : z.T i = some t) (n : Int) : CZ A { z with T := updT z.T i { t with en := n } } := by
 refine h.same (X := 0) (Y := 0) (fun j t2 h2 => ?_) (fun _ _ _ _ _ _ => rfl) rfl
 have h3 : updT z.T i { t with en := n } j = some t2 := h2
 by_cases hj : j = i
 ·subst hj
  rw [updT_eq] at h3
  cases h3
  exact ⟨t, ht, rfl, rfl⟩
 ·rw [updT_ne _ _ hj] at h3
  exact ⟨t2, h3, rfl, rfl⟩
theorem CZ.wipe {X Y : Int} (hY : 0 ≤ Y) {A : Nat → List Int} {z : LZ} (h : CZ A z) (hI : InvZ X Y A z) {i : Nat} {t : TI} (ht : z.T i = some t) (h2 : nth t.raw 0 = 2) {k p : Int} (hk : t.bk k = some p) : CZ A (wipeZ p.toNat z) := by
 have hp := (isD_nat hY (hI.blk i t k p ht hk).1).1
 refine ⟨fun j u hu k' p' hk' => ?_, h.f⟩
 have hu' : z.T j = some u := hu
 have hb := h.b j u hu' k' p' hk'
 have hp' := (isD_nat hY (hI.blk j u k' p' hu' hk').1).1
 by_cases e : p' = p
 ·subst e
  obtain ⟨rfl, -⟩ := hI.inj j u k' i t k p' hu' hk' ht hk
  have eu : u = t := by rw [ht] at hu'; exact (Option.some.inj hu').symm
  subst eu
  unfold BlkIs
  rw [if_pos h2]
  right
  exact updS_eq _ _ _
 ·have hS : (wipeZ p.toNat z).st.S p'.toNat = z.st.S p'.toNat := updS_ne _ _ (fun e2 => e (by rw [← hp, ← hp', e2]))
  unfold BlkIs at hb ⊢
  rw [hS]; exact hb
theorem CZ.q {A : Nat → List Int} {z : LZ} (h : CZ A z) (q : List Int) : CZ A { z with q := q } := ⟨h.b, h.f⟩
theorem CZ.take {X Y : Int} (hY : 0 ≤ Y) {A : Nat → List Int} {z : LZ} (h : CZ A z) (hI : InvZ X Y A z) {i : Nat} (hT : z.T i = none) {raw : List Int} (hr : raw.length = 18) (n : Int) : CZ A (takeZ X Y i raw n z) := by
 obtain ⟨pi, d, g⟩ := ptrs_i hY (cntX (nth raw 2)) raw hI.si
 have hti := take_i hY hI.si raw
 obtain ⟨e1, e2⟩ := takeX_parts X Y raw z.st
 have hkind := (ptrs_nth (X := X) hY (cntX (nth raw 2)) hr (bare z.st)).1
 rw [← e1] at hkind
 have hkeys := ptrsX_keys X Y (cntX (nth raw 2)) raw (bare z.st) (fun k hk => by cases hk)
 refine ⟨fun j u hu k p hk => ?_, fun j u hu k p hk => ?_⟩
 case' refine_2 =>
  have hu2 : updT z.T i ⟨(takeX X Y raw z.st).1, n, (takeX X Y raw z.st).2.bk⟩ j = some u := hu
  show (takeX X Y raw z.st).2.fm p = true ↔ nth u.raw 0 = 2
  by_cases hj : j = i
  ·subst hj
   rw [updT_eq] at hu2
   cases hu2
   have hk2 : (takeX X Y raw z.st).2.bk k = some p := hk
   show _ ↔ nth (takeX X Y raw z.st).1 0 = 2
   rw [hkind 0 (by omega)]
   rw [e2] at hk2 ⊢
   generalize ptrsX X Y (cntX (nth raw 2)) raw (bare z.st) = r at *
   by_cases h2 : nth raw 0 = 2
   ·rw [if_pos h2] at hk2 ⊢
    have hk3 : r.2.bk k = some p := hk2
    refine ⟨fun _ => h2, fun _ => ?_⟩
    obtain ⟨k1, k2⟩ := hkeys k (by rw [hk3]; rfl)
    show (r.2.fm p || (List.range (cntX (nth raw 2)).toNat).any fun k => r.2.bk k == some p) = true
    rw [Bool.or_eq_true, List.any_eq_true]
    refine .inr ⟨k.toNat, List.mem_range.2 (by omega), ?_⟩
    rw [show ((k.toNat : Nat) : Int) = k by omega, hk3]
    simp
   ·rw [if_neg h2] at hk2 ⊢
    obtain ⟨t1, t2, t3⟩ := tailX_parts (cntX (nth raw 2)) (nth raw 2) r.2
    have hk3 : r.2.bk k = some p := by rw [t3] at hk2; exact hk2
    rw [t2, (pi.bk k p hk3).2.2]
    exact ⟨fun hh => (by cases hh), fun hh => absurd hh h2⟩
  ·rw [updT_ne _ _ hj] at hu2
   obtain ⟨a, b⟩ := hI.blk j u k p hu2 hk
   have hp := (isD_nat hY a).1
   have hfm := (hti.gr p.toNat (by rw [hp]; exact b)).2.1
   rw [hp] at hfm
   have hfm2 : (takeX X Y raw z.st).2.fm p = z.st.fm p := hfm
   rw [hfm2]
   exact h.f j u hu2 k p hk
 have hu2 : updT z.T i ⟨(takeX X Y raw z.st).1, n, (takeX X Y raw z.st).2.bk⟩ j = some u := hu
 show BlkIs A (takeX X Y raw z.st).2.S u.raw k p
 by_cases hj : j = i
 ·subst hj
  rw [updT_eq] at hu2
  cases hu2
  have hk2 : (takeX X Y raw z.st).2.bk k = some p := hk
  obtain ⟨a, b, c⟩ := hti.new k p hk2
  have hp := (isD_nat hY a).1
  show BlkIs A (takeX X Y raw z.st).2.S (takeX X Y raw z.st).1 k p
  unfold BlkIs
  rw [hkind 0 (by omega), hkind 2 (by omega)]
  rw [e2] at hk2 ⊢
  generalize ptrsX X Y (cntX (nth raw 2)) raw (bare z.st) = r at *
  have hA : z.st.S p.toNat = A p.toNat := hI.si.un p.toNat (by rw [hp]; exact c)
  by_cases h2 : nth raw 0 = 2
  ·rw [if_pos h2] at hk2 ⊢
   rw [if_pos h2]
   left
   have hk3 : r.2.bk k = some p := hk2
   have hf := (pi.bk k p hk3).2.2
   show r.2.S p.toNat = _
   rw [d.same p.toNat (by rw [hp]; exact hf)]
   exact hA
  ·rw [if_neg h2] at hk2 ⊢
   rw [if_neg h2]
   obtain ⟨t1, t2, t3⟩ := tailX_parts (cntX (nth raw 2)) (nth raw 2) r.2
   have hk3 : r.2.bk k = some p := by rw [t3] at hk2; exact hk2
   have hf := (pi.bk k p hk3).2.2
   have hS : r.2.S p.toNat = A p.toNat := by
    rw [d.same p.toNat (by rw [hp]; exact hf)]
    exact hA
   unfold tailX
   cases hb : r.2.bk (cntX (nth raw 2) - 1) with
   | none =>
    simp only
    rw [if_neg (fun hh => by rw [hh.1, hb] at hk3; cases hk3), hS]
   | some p0 =>
    simp only
    have hp0 := (isD_nat hY (pi.bk _ p0 hb).1).1
    by_cases hz : nth raw 2 % 128 = 0
    ·rw [if_pos hz, if_neg (fun hh => hh.2 hz), hS]
    ·rw [if_neg hz]
     by_cases hl : k = cntX (nth raw 2) - 1
     ·rw [if_pos ⟨hl, hz⟩]
      have ep : p0 = p := by rw [hl, hb] at hk3; exact Option.some.inj hk3
      subst ep
      show updS _ _ _ _ = _
      rw [updS_eq, hS]
     ·rw [if_neg (fun hh => hl hh.1)]
      show updS _ _ _ _ = _
      rw [updS_ne _ _ (fun e => hl (pi.inj k _ p hk3 (by rw [hb]; congr 1; omega))), hS]
 ·rw [updT_ne _ _ hj] at hu2
  have hb := h.b j u hu2 k p hk
  obtain ⟨a, b⟩ := hI.blk j u k p hu2 hk
  have hp := (isD_nat hY a).1
  have hS := (hti.gr p.toNat (by rw [hp]; exact b)).2.2
  have hS2 : (takeX X Y raw z.st).2.S p.toNat = z.st.S p.toNat := hS
  unfold BlkIs at hb ⊢
  rw [hS2]; exact hb
def doneB (z : LZ) (c k : Nat) (i : Nat) (t : TI) : Nat := if (i : Int) ∈ z.q then 0 else if i = c then k else (cntX (nth t.raw 2)).toNat
structure WZ (X Y : Int) (A : Nat → List Int) (L : Nat → List Ent) (c k : Nat) (z : LZ) : Prop where
 inv : InvZ X Y A z
 pz : PZ X Y z
 cz : CZ A z
 rg : ∀ i e, e ∈ L i → 2 ≤ e.1 ∧ e.1 ≤ Y ∧ ∃ t, z.T e.1.toNat = some t
 nd : ∀ i, ((L i).map Prod.snd).Nodup
 nl : ∀ i, L i ≠ [] → ∃ t, z.T i = some t ∧ nth t.raw 0 = 2
 ix : ∀ i t, z.T i = some t → 1 ≤ i ∧ (i : Int) ≤ Y
 en : ∀ j t, z.T j = some t → t.en = (if j = 1 then 1 else 0) + (cntL L Y.toNat j : Int)
 po : ∀ j t, z.T j = some t → 1 ≤ t.en ∧ (nth t.raw 0 = 2 → t.en = 1)
 rc : ∀ P : Nat → Prop, P 1 → (∀ i e, P i → e ∈ L i → P e.1.toNat) → ∀ j t, z.T j = some t → P j
 r1 : ∃ t, z.T 1 = some t
 sl : ∀ i t, z.T i = some t → nth t.raw 0 = 2 → slotsW z.st.S (bkL t.bk (doneB z c k i t)) [] = some (L i)
theorem WZ.blocks {X Y : Int} (hY : 0 ≤ Y) {A : Nat → List Int} {L : Nat → List Ent} {c k : Nat} {z : LZ} (h : WZ X Y A L c k z) {i : Nat} {t : TI} (ht : z.T i = some t) {n : Nat} {p : Int} (hp : p ∈ bkL t.bk n) (h0 : p ≠ 0) : z.st.cl (p.toNat : Nat) = true ∧ ∃ k' : Nat, k' < n ∧ t.bk k' = some p := by
 obtain ⟨k', h1, h2⟩ := mem_bkL hp h0
 obtain ⟨hd, hc⟩ := h.inv.blk i t k' p ht h2
 rw [(isD_nat hY hd).1]
 exact ⟨hc, k', h1, h2⟩
theorem WZ.skip {X Y : Int} {A : Nat → List Int} {L : Nat → List Ent} {c k : Nat} {z : LZ} (h : WZ X Y A L c k z) (hs : ∀ t, z.T c = some t → nth t.raw 0 = 2 → slotsW z.st.S (bkL t.bk (k + 1)) [] = slotsW z.st.S (bkL t.bk k) []) : WZ X Y A L c (k + 1) z := by
 refine ⟨h.inv, h.pz, h.cz, h.rg, h.nd, h.nl, h.ix, h.en, h.po, h.rc, h.r1, fun i t ht hk => ?_⟩
 have h1 := h.sl i t ht hk
 unfold doneB at h1 ⊢
 by_cases hq : (i : Int) ∈ z.q
 ·rw [if_pos hq] at h1 ⊢; exact h1
 ·rw [if_neg hq] at h1 ⊢
  by_cases hc : i = c
  ·subst hc
   rw [if_pos rfl] at h1 ⊢
   rw [hs t ht hk]; exact h1
  ·rw [if_neg hc] at h1 ⊢; exact h1
theorem WZ.wipe {X Y : Int} (hY : 0 ≤ Y) {A : Nat → List Int} {L : Nat → List Ent} {c k : Nat} {z : LZ} (h : WZ X Y A L c k z) {t : TI} (ht : z.T c = some t) (h2 : nth t.raw 0 = 2) (hq : (c : Int) ∉ z.q) {p : Int} (hk : t.bk k = some p) : WZ X Y A L c (k + 1) (wipeZ p.toNat z) := by
 obtain ⟨hd, hc⟩ := h.inv.blk c t k p ht hk
 obtain ⟨hp, hp0⟩ := isD_nat hY hd
 refine ⟨h.inv.wipe (by rw [hp]; exact hc), h.pz.wipe hY ht hk, h.cz.wipe hY h.inv ht h2 hk, h.rg, h.nd, h.nl, h.ix, h.en, h.po, h.rc, h.r1, fun i u hu hu2 => ?_⟩
 have h1 := h.sl i u hu hu2
 have hoth : ∀ n, (∀ k' : Nat, k' < n → u.bk k' = some p → i = c ∧ k' = k → False) → slotsW (wipeZ p.toNat z).st.S (bkL u.bk n) [] = slotsW z.st.S (bkL u.bk n) [] := by
  intro n hn
  refine slotsW_same _ _ (fun q hq h0 => updS_ne _ _ (fun e => ?_))
  obtain ⟨-, k', h3, h4⟩ := h.blocks hY hu hq h0
  have hdq := (h.inv.blk i u k' q hu h4).1
  have e2 : q = p := by rw [← (isD_nat hY hdq).1, ← hp, e]
  subst e2
  obtain ⟨a, b⟩ := h.inv.inj i u k' c t k q hu h4 ht hk
  exact hn k' h3 h4 ⟨a, by omega⟩
 have e : doneB (wipeZ p.toNat z) c (k + 1) i u = if (i : Int) ∈ z.q then 0 else if i = c then k + 1 else (cntX (nth u.raw 2)).toNat := rfl
 rw [e]
 unfold doneB at h1
 by_cases hqi : (i : Int) ∈ z.q
 ·rw [if_pos hqi] at h1 ⊢; exact h1
 ·rw [if_neg hqi] at h1 ⊢
  by_cases hic : i = c
  ·subst hic
   rw [if_pos rfl] at h1 ⊢
   have eu : u = t := by
    have hu' : z.T i = some u := hu
    rw [ht] at hu'; exact (Option.some.inj hu').symm
   subst eu
   have h3 := hoth k (fun k' hk' _ ⟨_, e⟩ => by omega)
   rw [h1] at h3
   rw [bkL_succ, slotsW_snoc h3, hk]
   simp only [Option.getD_some]
   have hS : (wipeZ p.toNat z).st.S p.toNat = zl 128 := updS_eq _ _ _
   rw [hS, slot_zero]
   simp
  ·rw [if_neg hic] at h1 ⊢
   rw [hoth _ (fun k' _ _ ⟨e, _⟩ => hic e)]; exact h1
theorem WZ.entry {X Y : Int} (hY : 0 ≤ Y) {A : Nat → List Int} {L : Nat → List Ent} {c k : Nat} {z z2 : LZ} (h : WZ X Y A L c k z) {t : TI} (ht : z.T c = some t) (h2 : nth t.raw 0 = 2) (hq : (c : Int) ∉ z.q) {p : Int} (hk : t.bk k = some p)
  {x : Nat} {nm : ByteArray} (hx2 : 2 ≤ x) (hxY : (x : Int) ≤ Y) (hr : rdSloR (z.st.S p.toNat) = ((x : Int), nm, 0)) (hn : nm ∉ (L c).map Prod.snd) (he : enterZ X Y A x z = some z2) :
  WZ X Y A (updE L c (L c ++ [((x : Int), nm)])) c (k + 1) z2 := by
 obtain ⟨i1, i2, i3, i4⟩ := enter_i hY h.inv he noE
 obtain ⟨hd, hcp⟩ := h.inv.blk c t k p ht hk
 obtain ⟨hp, hp0⟩ := isD_nat hY hd
 have hcY := h.ix c t ht
 have hT : (∀ j u, z.T j = some u → ∃ u2, z2.T j = some u2 ∧ u2.raw = u.raw ∧ u2.bk = u.bk ∧ u2.en = u.en + (if j = x then 1 else 0)) ∧ (∀ j u2, z2.T j = some u2 → (∃ u, z.T j = some u ∧ u2.raw = u.raw ∧ u2.bk = u.bk ∧ u2.en = u.en + (if j = x then 1 else 0)) ∨ (z.T j = none ∧ j = x ∧ u2.en = 1 ∧ ((j : Int) ∈ z2.q ↔ nth u2.raw 0 = 2))) ∧ (∀ j u, z.T j = some u → ((j : Int) ∈ z2.q ↔ (j : Int) ∈ z.q)) ∧ (∃ u2, z2.T x = some u2) ∧ (PZ X Y z2 ∧ CZ A z2) ∧ (∀ u, z.T x = some u → nth u.raw 0 ≠ 2) := by
  unfold enterZ at he
  split at he
  ·rename_i u hu
   split at he
   ·cases he
   ·rename_i hno
    obtain rfl := Option.some.inj he
    refine ⟨fun j v hv => ?_, fun j v hv => ?_, fun _ _ _ => Iff.rfl, ⟨_, updT_eq _ _ _⟩, ⟨h.pz.enu hu _, h.cz.enu hu _⟩, fun v hv => ?_⟩
    ·by_cases hj : j = x
     ·subst hj
      rw [hu] at hv; cases hv
      exact ⟨_, updT_eq _ _ _, rfl, rfl, by rw [if_pos rfl]⟩
     ·exact ⟨v, (updT_ne _ _ hj).trans hv, rfl, rfl, by rw [if_neg hj]; omega⟩
    ·left
     have hv2 : updT z.T x { u with en := u.en + 1 } j = some v := hv
     by_cases hj : j = x
     ·subst hj
      rw [updT_eq] at hv2
      cases hv2
      exact ⟨u, hu, rfl, rfl, by rw [if_pos rfl]⟩
     ·rw [updT_ne _ _ hj] at hv2
      exact ⟨v, hv2, rfl, rfl, by rw [if_neg hj]; omega⟩
    ·rw [hu] at hv; cases hv
     exact fun e => hno (.inl e)
  ·rename_i hu
   split at he
   ·rename_i hso
    obtain rfl := Option.some.inj he
    have hkind : nth (takeX X Y (rdInoR (A x)).1 z.st).1 0 = nth (rdInoR (A x)).1 0 := by
     rw [(takeX_parts X Y _ z.st).1]
     exact (ptrs_nth (X := X) hY _ (rdInoR_length _) (bare z.st)).1 0 (by omega)
    have hnq : ∀ j u, z.T j = some u → j ≠ x := fun j u hv e => by rw [e, hu] at hv; cases hv
    refine ⟨fun j v hv => ⟨v, (updT_ne _ _ (hnq j v hv)).trans hv, rfl, rfl, by rw [if_neg (hnq j v hv)]; omega⟩, fun j v hv => ?_, fun j v hv => ?_, ⟨_, updT_eq _ _ _⟩, ⟨h.pz.take hY h.inv hu (rdInoR_length _) 1, h.cz.take hY h.inv hu (rdInoR_length _) 1⟩, fun v hv => by rw [hu] at hv; cases hv⟩
    ·have hv2 : updT z.T x ⟨(takeX X Y (rdInoR (A x)).1 z.st).1, 1, (takeX X Y (rdInoR (A x)).1 z.st).2.bk⟩ j = some v := hv
     by_cases hj : j = x
     ·subst hj
      rw [updT_eq] at hv2
      cases hv2
      refine .inr ⟨hu, rfl, rfl, ?_⟩
      show ((j : Int) ∈ (if nth (rdInoR (A j)).1 0 = 2 then z.q ++ [(j : Int)] else z.q)) ↔ nth (takeX X Y (rdInoR (A j)).1 z.st).1 0 = 2
      rw [hkind]
      have hnz : (j : Int) ∉ z.q := fun hm => by
       obtain ⟨-, v, hv, -⟩ := h.inv.qT _ hm
       rw [Int.toNat_natCast, hu] at hv; cases hv
      split
      ·rename_i h5; simp [h5]
      ·rename_i h5; simp [h5, hnz]
     ·rw [updT_ne _ _ hj] at hv2
      exact .inl ⟨v, hv2, rfl, rfl, by rw [if_neg hj]; omega⟩
    ·show ((j : Int) ∈ (if nth (rdInoR (A x)).1 0 = 2 then z.q ++ [(x : Int)] else z.q)) ↔ _
     have := hnq j v hv
     split
     ·rw [List.mem_append, List.mem_singleton]
      constructor
      ·rintro (h5 | h5)
       ·exact h5
       ·omega
      ·exact .inl
     ·exact Iff.rfl
   ·cases he
 obtain ⟨t1, t2, t3, t4, t5, t6⟩ := hT
 have hmem : ∀ i e, e ∈ updE L c (L c ++ [((x : Int), nm)]) i → e ∈ L i ∨ (i = c ∧ e = ((x : Int), nm)) := by
  intro i e hm
  by_cases hi : i = c
  ·subst hi
   rw [updE_eq, List.mem_append, List.mem_singleton] at hm
   rcases hm with hm | hm
   ·exact .inl hm
   ·exact .inr ⟨rfl, hm⟩
  ·rw [updE_ne _ _ hi] at hm; exact .inl hm
 have hcN : c ≤ Y.toNat := by omega
 refine ⟨i1, t5.1, t5.2, fun i e hm => ?_, fun i => ?_, fun i hm => ?_, fun j u2 hu2 => ?_, fun j u2 hu2 => ?_, fun j u2 hu2 => ?_, fun P hP1 hPL j u2 hu2 => ?_, ?_, fun i u2 hu2 hk2 => ?_⟩
 ·rcases hmem i e hm with hm | ⟨-, rfl⟩
  ·obtain ⟨a, b, u, hu⟩ := h.rg i e hm
   obtain ⟨u2, hu2, -⟩ := t1 _ u hu
   exact ⟨a, b, u2, hu2⟩
  ·exact ⟨by show (2 : Int) ≤ x; omega, hxY, by rw [Int.toNat_natCast]; exact t4⟩
 ·by_cases hi : i = c
  ·subst hi
   rw [updE_eq, List.map_append, List.nodup_append]
   refine ⟨h.nd i, by simp, fun a ha b hb => ?_⟩
   simp at hb
   subst hb
   intro e
   subst e
   exact hn ha
  ·rw [updE_ne _ _ hi]; exact h.nd i
 ·by_cases hi : i = c
  ·subst hi
   obtain ⟨u2, a, b, -⟩ := t1 i t ht
   exact ⟨u2, a, by rw [b]; exact h2⟩
  ·rw [updE_ne _ _ hi] at hm
   obtain ⟨u, hu, e⟩ := h.nl i hm
   obtain ⟨u2, a, b, -⟩ := t1 i u hu
   exact ⟨u2, a, by rw [b]; exact e⟩
 ·rcases t2 j u2 hu2 with ⟨u, hu, -⟩ | ⟨-, rfl, -⟩
  ·exact h.ix j u hu
  ·exact ⟨by omega, hxY⟩
 ·rw [cntL_upd L hcN]
  rcases t2 j u2 hu2 with ⟨u, hu, -, -, e⟩ | ⟨hno, rfl, e, -⟩
  ·rw [e, h.en j u hu]
   show _ = _ + ((_ + if (x : Int) = (j : Int) then 1 else 0 : Nat) : Int)
   by_cases hj : j = x
   ·rw [if_pos hj, if_pos (show (x : Int) = (j : Int) by omega)]; omega
   ·rw [if_neg hj, if_neg (show ¬ (x : Int) = (j : Int) by omega)]; omega
  ·rw [e, cntL_zero (fun i e he hx => by
    obtain ⟨-, -, u, hu⟩ := h.rg i e he
    rw [hx, Int.toNat_natCast, hno] at hu; cases hu), if_neg (by omega)]
   show 1 = (0 : Int) + ((0 + if (j : Int) = (j : Int) then 1 else 0 : Nat) : Int)
   rw [if_pos rfl]; rfl
 ·rcases t2 j u2 hu2 with ⟨u, hu, e1, -, e⟩ | ⟨hno, rfl, e, -⟩
  ·obtain ⟨a, b⟩ := h.po j u hu
   rw [e1, e]
   by_cases hj : j = x
   ·rw [if_pos hj]
    refine ⟨by omega, fun h5 => ?_⟩
    subst hj
    exact absurd h5 (t6 u hu)
   ·rw [if_neg hj]
    exact ⟨by omega, fun h5 => by rw [b h5]; rfl⟩
  ·exact ⟨by omega, fun _ => e⟩
 ·have hPold : ∀ j u, z.T j = some u → P j := h.rc P hP1 (fun i e hi he => by
   refine hPL i e hi ?_
   by_cases hic : i = c
   ·subst hic; rw [updE_eq]; exact List.mem_append_left _ he
   ·rw [updE_ne _ _ hic]; exact he)
  rcases t2 j u2 hu2 with ⟨u, hu, -⟩ | ⟨-, rfl, -⟩
  ·exact hPold j u hu
  ·have := hPL c ((j : Int), nm) (hPold c t ht) (by rw [updE_eq]; exact List.mem_append_right _ (List.mem_singleton.2 rfl))
   rw [show ((j : Int), nm).1.toNat = j from Int.toNat_natCast j] at this
   exact this
 ·obtain ⟨u, hu⟩ := h.r1
  obtain ⟨u2, a, -⟩ := t1 1 u hu
  exact ⟨u2, a⟩
 ·rcases t2 i u2 hu2 with ⟨u, hu, e1, e2, -⟩ | ⟨hno, rfl, -, hqm⟩
  ·rw [e1] at hk2
   have h1 := h.sl i u hu hk2
   have hS : ∀ n, slotsW z2.st.S (bkL u.bk n) [] = slotsW z.st.S (bkL u.bk n) [] := fun n => slotsW_same _ _ (fun q hq0 h0 => i4 _ (h.blocks hY hu hq0 h0).1)
   have hdb : doneB z2 c (k + 1) i u2 = if (i : Int) ∈ z.q then 0 else if i = c then k + 1 else (cntX (nth u.raw 2)).toNat := by
    unfold doneB
    rw [e1]
    by_cases hqi : (i : Int) ∈ z.q
    ·rw [if_pos ((t3 i u hu).2 hqi), if_pos hqi]
    ·rw [if_neg (fun h5 => hqi ((t3 i u hu).1 h5)), if_neg hqi]
   rw [hdb, e2]
   unfold doneB at h1
   by_cases hqi : (i : Int) ∈ z.q
   ·rw [if_pos hqi] at h1 ⊢
    rw [hS]
    by_cases hic : i = c
    ·subst hic; exact absurd hqi hq
    ·rw [updE_ne _ _ hic]; exact h1
   ·rw [if_neg hqi] at h1 ⊢
    by_cases hic : i = c
    ·subst hic
     rw [if_pos rfl] at h1 ⊢
     have eu : u = t := by rw [ht] at hu; exact (Option.some.inj hu).symm
     subst eu
     have h3 := hS k
     rw [h1] at h3
     rw [bkL_succ, slotsW_snoc h3, hk, updE_eq]
     simp only [Option.getD_some]
     rw [i4 _ (by rw [hp]; exact hcp), hr, if_neg hp0]
     simp only
     rw [if_neg (by simp), if_neg (by omega)]
    ·rw [if_neg hic] at h1 ⊢
     rw [hS, updE_ne _ _ hic]; exact h1
  ·have hdb : doneB z2 c (k + 1) i u2 = 0 := by
    unfold doneB
    rw [if_pos (hqm.2 hk2)]
   have hL : L i = [] := Decidable.byContradiction fun h5 => by
    obtain ⟨u, hu, -⟩ := h.nl i h5
    rw [hno] at hu; cases hu
   have hic : i ≠ c := fun e => by rw [e, ht] at hno; cases hno
   rw [hdb, bkL_zero, updE_ne _ _ hic, hL]
   rfl
def NmIs (l : List Ent) (nm : ByteArray → Bool) : Prop := ∀ x, nm x = true ↔ x ∈ l.map Prod.snd
theorem slot_wz {X Y : Int} (hY : 0 ≤ Y) {A : Nat → List Int} {L : Nat → List Ent} {c k : Nat} {zn : LZ × (ByteArray → Bool)} (h : WZ X Y A L c k zn.1) (hn : NmIs (L c) zn.2) {t : TI} (hT : zn.1.T c = some t) (h2 : nth t.raw 0 = 2) (hq : (c : Int) ∉ zn.1.q) {p : Int} (hk : t.bk k = some p) :
  ∃ L2, WZ X Y A L2 c (k + 1) (slotZ X Y A p.toNat zn).1 ∧ NmIs (L2 c) (slotZ X Y A p.toNat zn).2 := by
 obtain ⟨hd, hcp⟩ := h.inv.blk c t k p hT hk
 obtain ⟨hp, hp0⟩ := isD_nat hY hd
 have hwipe : ∃ L2, WZ X Y A L2 c (k + 1) (wipeZ p.toNat zn.1) ∧ NmIs (L2 c) zn.2 := ⟨L, h.wipe hY hT h2 hq hk, hn⟩
 have hsl := h.sl c t hT h2
 unfold doneB at hsl
 rw [if_neg hq, if_pos rfl] at hsl
 unfold slotZ
 split
 ·rename_i hz
  refine ⟨L, h.skip (fun u hu _ => ?_), hn⟩
  have eu : u = t := by rw [hT] at hu; exact (Option.some.inj hu).symm
  subst eu
  rw [bkL_succ, slotsW_snoc hsl, hk, hsl]
  simp only [Option.getD_some]
  rw [if_neg hp0, if_neg (by rw [hz.1]; simp), if_pos hz.2]
 ·rename_i hz
  split
  ·rename_i h3
   obtain ⟨e0, e1, e2⟩ := h3
   have hne : (rdSloR (zn.1.st.S p.toNat)).1 ≠ 0 := fun e => hz ⟨e0, e⟩
   obtain ⟨s1, -, -⟩ := slo_ok e0 hne
   obtain ⟨x, hx⟩ := Int.eq_ofNat_of_zero_le (show 0 ≤ (rdSloR (zn.1.st.S p.toNat)).1 by omega)
   have hr : rdSloR (zn.1.st.S p.toNat) = ((x : Int), (rdSloR (zn.1.st.S p.toNat)).2.1, 0) := by rw [← hx, ← e0]
   generalize (rdSloR (zn.1.st.S p.toNat)).2.1 = nm at *
   rw [hx, Int.toNat_natCast] at e2 ⊢
   rw [hx] at e1 s1
   unfold enterR at e2 ⊢
   split at e2
   ·cases e2
   ·rename_i h4
    rw [if_neg h4]
    have hx1 : x ≠ 1 := fun e => h4 (.inr e)
    have hnn : nm ∉ (L c).map Prod.snd := fun hm => h4 (.inl ((hn nm).2 hm))
    cases he : enterZ X Y A x zn.1 with
    | none => rw [he] at e2; cases e2
    | some z2 =>
     refine ⟨updE L c (L c ++ [((x : Int), nm)]), h.entry hY hT h2 hq hk (by omega) e1 hr hnn he, fun y => ?_⟩
     show addB zn.2 nm y = true ↔ _
     rw [updE_eq, List.map_append, List.mem_append, ← hn y]
     unfold addB
     simp
  ·exact hwipe
theorem dir_wz {X Y : Int} (hY : 0 ≤ Y) {A : Nat → List Int} {c : Nat} {t : TI} (h2 : nth t.raw 0 = 2) : ∀ (m k : Nat) (L : Nat → List Ent) (zn : LZ × (ByteArray → Bool)), WZ X Y A L c k zn.1 → NmIs (L c) zn.2 → (∃ t0, zn.1.T c = some t0 ∧ t0.bk = t.bk ∧ t0.raw = t.raw) → (c : Int) ∉ zn.1.q →
  ∃ L2, WZ X Y A L2 c (k + m) (dirZ X Y A t.bk m k zn).1
 | 0, k, L, zn, h, hn, hT, hq => ⟨L, h⟩
 | m + 1, k, L, zn, h, hn, hT, hq => by
  show ∃ L2, WZ X Y A L2 c _ (dirZ X Y A t.bk m (k + 1) _).1
  rw [show k + (m + 1) = k + 1 + m by omega]
  obtain ⟨t0, ht0, hb0, hr0⟩ := hT
  have h20 : nth t0.raw 0 = 2 := by rw [hr0]; exact h2
  cases hk : t.bk k with
  | none =>
   refine dir_wz hY h2 m (k + 1) L zn (h.skip (fun u hu _ => ?_)) hn ⟨t0, ht0, hb0, hr0⟩ hq
   have hsl := h.sl c t0 ht0 h20
   unfold doneB at hsl
   rw [if_neg hq, if_pos rfl] at hsl
   have eu : u = t0 := by rw [ht0] at hu; exact (Option.some.inj hu).symm
   subst eu
   rw [bkL_succ, slotsW_snoc hsl, hb0, hk, hb0.symm, hsl]
   rfl
  | some p =>
   obtain ⟨L2, a, b⟩ := slot_wz hY h hn ht0 h20 hq (by rw [hb0]; exact hk)
   have hs := slot_i hY (t := t) h.inv ⟨t0, ht0, hb0⟩ hq hk
   obtain ⟨t1, ht1, hr1, hb1⟩ := hs.st.t c t0 ht0
   exact dir_wz hY h2 m (k + 1) L2 (slotZ X Y A p.toNat zn) a b ⟨t1, ht1, hb1.trans hb0, hr1.trans hr0⟩ hs.q
theorem WZ.pop {X Y : Int} {A : Nat → List Int} {L : Nat → List Ent} {k : Nat} {z : LZ} (h : WZ X Y A L 0 k z) {i : Nat} {r : List Int} (hq : z.q = (i : Int) :: r) : WZ X Y A L i 0 { z with q := r } := by
 have hir : (i : Int) ∉ r := by have := h.inv.qn; rw [hq] at this; exact (List.nodup_cons.1 this).1
 refine ⟨h.inv.pop hq, h.pz.q r, h.cz.q r, h.rg, h.nd, h.nl, h.ix, h.en, h.po, h.rc, h.r1, fun j t ht h2 => ?_⟩
 have h1 := h.sl j t ht h2
 have e : doneB { z with q := r } i 0 j t = doneB z 0 k j t := by
  unfold doneB
  rw [hq]
  show (if (j : Int) ∈ r then 0 else _) = _
  have hj := (h.ix j t ht).1
  by_cases hji : j = i
  ·subst hji
   rw [if_neg hir, if_pos rfl, if_pos (List.mem_cons_self ..)]
  ·by_cases hm : (j : Int) ∈ r
   ·rw [if_pos hm, if_pos (List.mem_cons_of_mem _ hm)]
   ·rw [if_neg hm, if_neg hji, if_neg (fun h5 => (List.mem_cons.1 h5).elim (fun h6 => hji (by omega)) hm), if_neg (by omega)]
 rw [e]; exact h1
theorem WZ.over {X Y : Int} {A : Nat → List Int} {L : Nat → List Ent} {c k : Nat} {z : LZ} (h : WZ X Y A L c k z) (hk : ∀ t, z.T c = some t → nth t.raw 0 = 2 → k = (cntX (nth t.raw 2)).toNat) : WZ X Y A L 0 0 z := by
 refine ⟨h.inv, h.pz, h.cz, h.rg, h.nd, h.nl, h.ix, h.en, h.po, h.rc, h.r1, fun j t ht h2 => ?_⟩
 have h1 := h.sl j t ht h2
 have hj := (h.ix j t ht).1
 have e : doneB z 0 0 j t = doneB z c k j t := by
  unfold doneB
  by_cases hm : (j : Int) ∈ z.q
  ·rw [if_pos hm, if_pos hm]
  ·rw [if_neg hm, if_neg hm, if_neg (by omega)]
   by_cases hjc : j = c
   ·subst hjc; rw [if_pos rfl, hk t ht h2]
   ·rw [if_neg hjc]
 rw [e]; exact h1
theorem dirOf_wz {X Y : Int} (hY : 0 ≤ Y) {A : Nat → List Int} {L : Nat → List Ent} {z : LZ} (h : WZ X Y A L 0 0 z) {i : Int} {r : List Int} (hq : z.q = i :: r) : ∃ L2, WZ X Y A L2 0 0 (dirOf X Y A i.toNat { z with q := r }) := by
 obtain ⟨h0, t, ht, h2⟩ := h.inv.qT i (by rw [hq]; exact List.mem_cons_self)
 obtain ⟨c, rfl⟩ := Int.eq_ofNat_of_zero_le h0
 have hir : (c : Int) ∉ r := by have := h.inv.qn; rw [hq] at this; exact (List.nodup_cons.1 this).1
 rw [Int.toNat_natCast] at ht ⊢
 have hp := h.pop hq
 have hsl := hp.sl c t ht h2
 unfold doneB at hsl
 rw [if_neg hir, if_pos rfl, bkL_zero] at hsl
 have hL : L c = [] := (Option.some.inj hsl).symm
 obtain ⟨L2, h3⟩ := dir_wz hY h2 (cntX (nth t.raw 2)).toNat 0 L ({ z with q := r }, fun _ => false) hp (fun x => by rw [hL]; simp) ⟨t, ht, rfl, rfl⟩ hir
 have hd := dirZ_i hY (t := t) (cntX (nth t.raw 2)).toNat 0 ({ z with q := r }, fun _ => false) hp.inv ⟨t, ht, rfl⟩ hir
 have e : dirOf X Y A c { z with q := r } = (dirZ X Y A t.bk (cntX (nth t.raw 2)).toNat 0 ({ z with q := r }, fun _ => false)).1 := by
  unfold dirOf
  show (match z.T c with | none => _ | some t => _) = _
  rw [ht]
 rw [e]
 refine ⟨L2, h3.over (fun u hu _ => ?_)⟩
 obtain ⟨t2, ht2, hr2, -⟩ := hd.st.t c t ht
 rw [ht2] at hu; cases hu
 rw [hr2]; omega
theorem loop_wz {X Y : Int} (hY : 0 ≤ Y) {A : Nat → List Int} : ∀ (f : Nat) (L : Nat → List Ent) (z : LZ), WZ X Y A L 0 0 z → ∃ L2, WZ X Y A L2 0 0 (loopZ X Y A f z)
 | 0, L, z, h => ⟨L, h⟩
 | f + 1, L, z, h => by
  cases hq : z.q with
  | nil => rw [loopZ_nil _ _ _ _ _ hq]; exact ⟨L, h⟩
  | cons i r =>
   rw [loopZ_cons _ _ _ _ _ _ _ hq]
   obtain ⟨L2, h2⟩ := dirOf_wz hY h hq
   exact loop_wz hY f L2 _ h2
theorem q_nil {z : LZ} (h : potZ z ≤ 0) : z.q = [] := by
 have h2 : z.q.length + 2 * freeZ z ≤ 0 := h
 generalize freeZ z = n at h2
 exact List.length_eq_zero_iff.1 (by omega)
theorem loop_over {X Y : Int} (hY9 : Y < 4096) (A : Nat → List Int) (f : Nat) : ∀ (z : LZ), potZ z ≤ f → (loopZ X Y A f z).q = [] := by
 induction f with
 | zero => intro z h; exact q_nil h
 | succ f ih =>
  intro z h
  cases hq : z.q with
  | nil => rw [loopZ_nil _ _ _ _ _ hq]; exact hq
  | cons i r =>
   rw [loopZ_cons _ _ _ _ _ _ _ hq]
   refine ih _ ?_
   have h1 := pot_dir (X := X) hY9 A i.toNat { z with q := r }
   have h2 := pot_pop hq
   generalize potZ (dirOf X Y A i.toNat { z with q := r }) = a at *
   generalize potZ { z with q := r } = b at *
   generalize potZ z = c at *
   omega
noncomputable def inoW (ze : LZ) (i : Nat) : List Int := match ze.T i with | none => zl 128 | some t => (inoR (t.raw.set 1 t.en)).1
structure Two (X Y : Int) (A A' W : Nat → List Int) (ze : LZ) (allw : Prop) : Prop where
 Y0 : 0 ≤ Y
 ino : ∀ i : Nat, 1 ≤ i → (i : Int) ≤ Y → (A' i = A i ∨ A' i = inoW ze i) ∧ (allw → A' i = inoW ze i)
 inv : InvZ X Y A ze
structure Fin (X Y : Int) (A' W : Nat → List Int) (ze : LZ) (allw : Prop) (E : Nat → Prop) (z : LZ) : Prop where
 s : ∀ j : Nat, isD X Y j = true → z.st.cl j = true → ¬ pend z j → ¬ E j → z.st.S j = W j
 f : ∀ j : Nat, z.st.fm j = true → allw → A' j = W j
 t : ∀ i t, z.T i = some t → ∃ te, ze.T i = some te ∧ te.raw = t.raw ∧ te.bk = t.bk
theorem Fin.back {X Y : Int} {A' W : Nat → List Int} {ze : LZ} {allw : Prop} {E E2 : Nat → Prop} {z z2 : LZ} (h : Fin X Y A' W ze allw E2 z2) (hs : Stay X Y E E2 z z2) : Fin X Y A' W ze allw E z := by
 refine ⟨fun j h1 h2 h3 h4 => ?_, fun j hj ha => h.f j (hs.f j hj) ha, fun i t ht => ?_⟩
 ·obtain ⟨a, b, c, d⟩ := hs.s j h1 h2 h3 h4
  rw [← d]
  exact h.s j h1 a b c
 ·obtain ⟨t2, a, b, c⟩ := hs.t i t ht
  obtain ⟨te, d, e, f⟩ := h.t i t2 a
  exact ⟨te, d, e.trans b, f.trans c⟩
structure RZ (X Y : Int) (A' W : Nat → List Int) (allw : Prop) (z z' : LZ) : Prop where
 sd : Sd X Y allw W A' z.st.fm (bare z.st) (bare z'.st)
 q : z'.q = z.q
 n : ∀ i, z.T i = none → z'.T i = none
 t : ∀ i t, z.T i = some t → ∃ t', z'.T i = some t' ∧ t'.bk = t.bk ∧ t'.en = t.en ∧ (∀ j, j ≠ 1 → nth t'.raw j = nth t.raw j) ∧ t'.raw.length = 18
theorem take_sim {X Y : Int} (hY : 0 ≤ Y) {A A' W : Nat → List Int} {allw : Prop} {st st' : LS} (hi : SI X Y A (bare st)) (hR : Sd X Y allw W A' st.fm (bare st) (bare st')) {raw raw' : List Int} (hr : Raw2 allw (takeX X Y raw st).1 raw raw')
  (h1 : ∀ j : Nat, (takeX X Y raw st).2.fm j = true → st.fm j = false → (∀ k, (takeX X Y raw st).2.bk k ≠ some (j : Int)) → (takeX X Y raw st).2.S j = W j ∧ (allw → A' j = W j))
  (h2 : nth raw 0 ≠ 2 → ∀ p, (takeX X Y raw st).2.bk (cntX (nth raw 2) - 1) = some p → (takeX X Y raw st).2.S p.toNat = W p.toNat) :
  (∀ i, i ≠ 1 → nth (takeX X Y raw' st').1 i = nth (takeX X Y raw st).1 i) ∧ (takeX X Y raw' st').1.length = 18 ∧ (takeX X Y raw' st').2.bk = (takeX X Y raw st).2.bk ∧ Sd X Y allw W A' (takeX X Y raw st).2.fm (bare (takeX X Y raw st).2) (bare (takeX X Y raw' st').2) := by
 have htk := take_i hY hi raw
 obtain ⟨i, d, g⟩ := ptrs_i hY (cntX (nth raw 2)) raw hi
 have hf := takeX_fst X Y raw st
 have hf' := takeX_fst X Y raw' st'
 have hbk := takeX_bk X Y raw st
 have hbk' := takeX_bk X Y raw' st'
 rw [hr.size] at hf' hbk'
 change (takeX X Y raw st).1 = (ptrsX X Y (cntX (nth raw 2)) raw (bare st)).1 at hf
 change (takeX X Y raw' st').1 = (ptrsX X Y (cntX (nth raw 2)) raw' (bare st')).1 at hf'
 change (takeX X Y raw st).2.bk = (ptrsX X Y (cntX (nth raw 2)) raw (bare st)).2.bk at hbk
 change (takeX X Y raw' st').2.bk = (ptrsX X Y (cntX (nth raw 2)) raw' (bare st')).2.bk at hbk'
 obtain ⟨q0, -, -, -, q4⟩ := ptrs_nth (X := X) hY (cntX (nth raw 2)) hr.len (bare st)
 obtain ⟨q0', -, -, -, q4'⟩ := ptrs_nth (X := X) hY (cntX (nth raw 2)) hr.len' (bare st')
 have hst2 : (takeX X Y raw st).2 = if nth raw 0 = 2 then firmX (cntX (nth raw 2)) (ptrsX X Y (cntX (nth raw 2)) raw (bare st)).2 else tailX (cntX (nth raw 2)) (nth raw 2) (ptrsX X Y (cntX (nth raw 2)) raw (bare st)).2 := by
  unfold takeX bare
  simp only
  split <;> rfl
 have hst2' : (takeX X Y raw' st').2 = if nth raw 0 = 2 then firmX (cntX (nth raw 2)) (ptrsX X Y (cntX (nth raw 2)) raw' (bare st')).2 else tailX (cntX (nth raw 2)) (nth raw 2) (ptrsX X Y (cntX (nth raw 2)) raw' (bare st')).2 := by
  unfold takeX bare
  simp only [hr.kind, hr.size]
  split <;> rfl
 rw [hf] at hr
 rw [hbk] at h1 h2
 have hP : Pro allw W A' st.fm (ptrsX X Y (cntX (nth raw 2)) raw (bare st)).2 := by
  intro j hj hj0
  have hnb : ∀ k, (ptrsX X Y (cntX (nth raw 2)) raw (bare st)).2.bk k ≠ some (j : Int) := fun k e => by
   have := (i.bk k _ e).2.2
   rw [hj] at this; cases this
  have hfm : (takeX X Y raw st).2.fm j = true := by
   rw [hst2]
   split
   ·exact firmX_mono hj
   ·unfold tailX
    split
    ·exact hj
    ·split <;> exact hj
  obtain ⟨a, b⟩ := h1 j hfm hj0 hnb
  refine ⟨?_, b⟩
  rw [← a, hst2]
  split
  ·rfl
  ·unfold tailX
   split
   ·rfl
   ·rename_i p hp
    split
    ·rfl
    ·have hpn := (isD_nat hY (i.bk _ p hp).1).1
     show _ = updS _ _ _ _
     rw [updS_ne _ _ (fun e => hnb _ (by rw [hp, e, hpn]))]
 obtain ⟨c1, c2⟩ := ptrs_sim hY (cntX (nth raw 2)) hR hr hP
 refine ⟨fun k hk => ?_, by rw [hf']; exact q4', by rw [hbk, hbk', c2.bk], ?_⟩
 ·rw [hf, hf']
  by_cases h4 : 4 ≤ k
  ·exact c1 k h4
  ·rw [q0 k (by omega), q0' k (by omega)]
   have hk3 : k = 0 ∨ k = 2 ∨ k = 3 := by omega
   rcases hk3 with rfl | rfl | rfl
   ·exact hr.kind
   ·exact hr.size
   ·exact hr.made
 ·have hT2 := hst2
  have hT2' := hst2'
  have hfc := htk.si.fc
  have hcl2 : ∀ q, (takeX X Y raw st).2.cl q = (ptrsX X Y (cntX (nth raw 2)) raw (bare st)).2.cl q := by
   intro q
   rw [hst2]
   split
   ·rfl
   ·unfold tailX
    split
    ·rfl
    ·split <;> rfl
  by_cases hk : nth raw 0 = 2
  ·rw [if_pos hk] at hT2 hT2'
   rw [hT2, hT2']
   refine ⟨c2.cl, ?_, rfl, c2.S, c2.un, fun j hj => ?_, fun j hj => ?_⟩
   ·show (firmX _ _).fm = (firmX _ _).fm
    unfold firmX
    simp only [c2.fm, c2.bk]
   ·have := hfc j (by rw [hT2]; exact hj)
    have h9 : (takeX X Y raw st).2.cl j = true := this
    rw [hcl2] at h9
    exact h9
   ·have := hfc j (by rw [hT2]; exact hj)
    have h9 : (takeX X Y raw st).2.cl j = true := this
    rw [hcl2] at h9
    exact h9
  ·rw [if_neg hk] at hT2 hT2'
   have h2' := h2 hk
   rw [hT2] at h2'
   rw [hT2, hT2']
   cases hb : (ptrsX X Y (cntX (nth raw 2)) raw (bare st)).2.bk (cntX (nth raw 2) - 1) with
   | none =>
    have hb' : (ptrsX X Y (cntX (nth raw 2)) raw' (bare st')).2.bk (cntX (nth raw 2) - 1) = none := by rw [c2.bk]; exact hb
    unfold tailX
    rw [hb, hb']
    exact ⟨c2.cl, c2.fm, rfl, c2.S, c2.un, fun j hj => c2.fc j hj, c2.fc⟩
   | some p =>
    have hb' : (ptrsX X Y (cntX (nth raw 2)) raw' (bare st')).2.bk (cntX (nth raw 2) - 1) = some p := by rw [c2.bk]; exact hb
    have h3 := h2' p hb
    have hpd := (i.bk _ p hb).1
    have hpc := (i.bk _ p hb).2.1
    have hpn := (isD_nat hY hpd).1
    unfold tailX at h3 ⊢
    rw [hb] at h3
    rw [hb, hb']
    simp only at h3 ⊢
    by_cases hz : nth raw 2 % 128 = 0
    ·rw [if_pos hz, if_pos hz]
     exact ⟨c2.cl, c2.fm, rfl, c2.S, c2.un, fun j hj => c2.fc j hj, c2.fc⟩
    ·rw [if_neg hz] at h3
     rw [if_neg hz, if_neg hz]
     have hln := (i.ln p.toNat (by rw [hpn]; exact hpd)).1
     have hk128 : (nth raw 2 % 128).toNat ≤ 128 := by omega
     have h3' : wipeL ((ptrsX X Y (cntX (nth raw 2)) raw (bare st)).2.S p.toNat) (nth raw 2 % 128).toNat = W p.toNat := by
      rw [← h3]
      show _ = updS _ _ _ _
      rw [updS_eq]
     refine ⟨c2.cl, c2.fm, rfl, fun j => ?_, fun j hj hcj => ?_, fun j hj => c2.fc j hj, c2.fc⟩
     ·by_cases hjp : j = p.toNat
      ·subst hjp
       left
       show updS _ _ _ _ = updS _ _ _ _
       rw [updS_eq, updS_eq]
       rcases c2.S p.toNat with e | e
       ·rw [e]
       ·rw [e, ← h3', wipeL_twice hln hk128]
      ·show updS _ _ _ _ = updS _ _ _ _ ∨ updS _ _ _ _ = _
       rw [updS_ne _ _ hjp, updS_ne _ _ hjp]
       exact c2.S j
     ·have hne : j ≠ p.toNat := fun e => by
       subst e
       have h9 : (ptrsX X Y (cntX (nth raw 2)) raw (bare st)).2.cl p.toNat = false := hcj
       rw [hpn, hpc] at h9; cases h9
      show updS _ _ _ _ = _ ∧ Bytes (updS _ _ _ _) ∧ (¬ allw → subP _ (updS _ _ _ _))
      rw [updS_ne _ _ hne, updS_ne _ _ hne]
      exact c2.un j hj hcj
theorem pruned_may {l o : List Int} (h : InoMay l) (h0 : nth l 0 ≠ 0) (hl : o.length = 18) (e0 : nth o 0 = nth l 0) (e2 : nth o 2 = nth l 2) (e3 : nth o 3 = nth l 3) (hs : ∀ j, 4 ≤ j → nth o j = nth l j ∨ nth o j = 0) {n : Int} (hn0 : 0 ≤ n) (hn1 : n ≤ 100) : InoMay (o.set 1 n) := by
 have hset : ∀ j, j ≠ 1 → nth (o.set 1 n) j = nth o j := fun j hj => by
  unfold nth; rw [List.getElem?_set_ne (Ne.symm hj)]
 have hset1 : nth (o.set 1 n) 1 = n := by
  unfold nth; rw [List.getElem?_set_self (by omega)]; rfl
 unfold InoMay at h ⊢
 rw [if_neg h0] at h
 rw [if_neg (by rw [hset 0 (by omega), e0]; exact h0)]
 obtain ⟨⟨a, -, b, c⟩, d, e⟩ := h
 refine ⟨⟨by rw [hset 0 (by omega), e0]; exact a, by rw [hset1]; exact ⟨hn0, hn1⟩, by rw [hset 2 (by omega), e2]; exact b, by rw [hset 3 (by omega), e3]; exact c⟩, fun j h4 h18 => ?_, by rw [hset 0 (by omega), e0, hset 2 (by omega), e2]; exact e⟩
 rw [hset j (by omega)]
 rcases hs j h4 with h | h
 ·rw [h]; exact d j h4 h18
 ·rw [h]; omega
theorem sound_may {s : List Int} (h : soundR s = true) : InoMay (rdInoR s).1 ∧ nth (rdInoR s).1 0 ≠ 0 := by
 unfold soundR at h
 simp only [Bool.and_eq_true, decide_eq_true_eq, Bool.not_eq_true', decide_eq_false_iff_not] at h
 exact ⟨(ino_one h.1).1, h.2⟩
theorem nth_set_ne (o : List Int) (n : Int) {j : Nat} (hj : j ≠ 1) : nth (o.set 1 n) j = nth o j := by unfold nth; rw [List.getElem?_set_ne (Ne.symm hj)]
theorem inoW_reads {X Y : Int} {A : Nat → List Int} {ze : LZ} (h : InvZ X Y A ze) {i : Nat} {t : TI} (ht : ze.T i = some t) : rdInoR (inoW ze i) = (t.raw.set 1 t.en, 0) ∧ InoMay (t.raw.set 1 t.en) ∧ nth t.raw 0 ≠ 0 := by
 obtain ⟨hs, hl, e0, e2, e3, hsb⟩ := h.snd i t ht
 obtain ⟨n0, n1⟩ := h.en i t ht
 obtain ⟨m1, m2⟩ := sound_may hs
 have hm := pruned_may m1 m2 hl e0 e2 e3 hsb n0 n1
 have hlen : (t.raw.set 1 t.en).length = 18 := by rw [List.length_set]; exact hl
 have hw : inoW ze i = inoSec (t.raw.set 1 t.en) := by
  unfold inoW
  rw [ht]
  show (inoR (t.raw.set 1 t.en)).1 = _
  rw [inoR_yes hm]
 rw [hw]
 exact ⟨inoSec_reads hlen hm, hm, by rw [e0]; exact m2⟩
theorem raw_two {X Y : Int} {A A' W : Nat → List Int} {ze : LZ} {allw : Prop} (h : Two X Y A A' W ze allw) {i : Nat} (h1 : 1 ≤ i) (hi : (i : Int) ≤ Y) (hs : soundR (A i) = true) {t : TI} (ht : ze.T i = some t) :
  soundR (A' i) = true ∧ Raw2 allw t.raw (rdInoR (A i)).1 (rdInoR (A' i)).1 := by
 have hl := rdInoR_length (A i)
 have hl' := rdInoR_length (A' i)
 obtain ⟨a, b⟩ := h.ino i h1 hi
 obtain ⟨r1, r2, r3⟩ := inoW_reads h.inv ht
 obtain ⟨-, -, e0, e2, e3, hsb⟩ := h.inv.snd i t ht
 by_cases hw : A' i = inoW ze i
 ·rw [hw, r1]
  refine ⟨by unfold soundR; rw [r1]; simp only [nth_set_ne _ _ (show (0 : Nat) ≠ 1 by omega)]; simp [r3], hl, by have := (h.inv.snd i t ht).2.1; simp [this], by rw [nth_set_ne _ _ (by omega), e0], by rw [nth_set_ne _ _ (by omega), e2], by rw [nth_set_ne _ _ (by omega), e3], fun j h4 h18 => ?_⟩
  rw [nth_set_ne _ _ (by omega)]
  refine ⟨?_, fun _ => rfl⟩
  rcases hsb j h4 with h | h
  ·exact .inl h
  ·exact .inr ⟨h, h⟩
 ·have ha : A' i = A i := a.resolve_right hw
  rw [ha]
  exact ⟨hs, hl, hl, rfl, rfl, rfl, fun j h4 h18 => ⟨.inl rfl, fun hh => absurd (b hh) hw⟩⟩
theorem unsound_two {X Y : Int} {A A' W : Nat → List Int} {ze : LZ} {allw : Prop} (h : Two X Y A A' W ze allw) {i : Nat} (h1 : 1 ≤ i) (hi : (i : Int) ≤ Y) (hs : soundR (A i) = false) : soundR (A' i) = false := by
 obtain ⟨a, b⟩ := h.ino i h1 hi
 rcases a with a | a
 ·rw [a]; exact hs
 ·rw [a]
  unfold inoW
  cases ht : ze.T i with
  | some t => have := (h.inv.snd i t ht).1; rw [hs] at this; cases this
  | none =>
   simp only
   unfold soundR
   rw [ino_zero]
   decide
theorem enter_sim {X Y : Int} {A A' W : Nat → List Int} {ze : LZ} {allw : Prop} (h2 : Two X Y A A' W ze allw) {z z' : LZ} (hI : InvZ X Y A z) (hR : RZ X Y A' W allw z z') {i : Nat} (h1 : 1 ≤ i) (hi : (i : Int) ≤ Y) {E : Nat → Prop} (hE : ∀ j, E j → z.st.cl j = true) :
  (∀ z2, enterZ X Y A i z = some z2 → Fin X Y A' W ze allw E z2 → ∃ z2', enterZ X Y A' i z' = some z2' ∧ RZ X Y A' W allw z2 z2') ∧ (enterZ X Y A i z = none → enterZ X Y A' i z' = none) := by
 have hY := h2.Y0
 unfold enterZ
 cases ht : z.T i with
 | some t =>
  obtain ⟨t', ht', hb, he, hr, hl⟩ := hR.t i t ht
  rw [ht']
  simp only
  rw [hr 0 (by omega), he]
  by_cases hc : nth t.raw 0 = 2 ∨ t.en = 100
  ·rw [if_pos hc, if_pos hc]
   exact ⟨fun z2 h => (by cases h), fun _ => rfl⟩
  ·rw [if_neg hc, if_neg hc]
   refine ⟨fun z2 h hF => ?_, fun h => by cases h⟩
   obtain rfl := Option.some.inj h
   refine ⟨_, rfl, hR.sd, hR.q, fun j hj => ?_, fun j u hu => ?_⟩
   ·have hji : j ≠ i := fun e => by
     subst e
     have : updT z.T j _ j = none := hj
     rw [updT_eq] at this; cases this
    show updT z'.T i _ j = none
    rw [updT_ne _ _ hji]
    have : updT z.T i _ j = none := hj
    rw [updT_ne _ _ hji] at this
    exact hR.n j this
   ·by_cases hji : j = i
    ·subst hji
     have hu2 : updT z.T j _ j = some u := hu
     rw [updT_eq] at hu2
     obtain rfl := Option.some.inj hu2
     exact ⟨_, updT_eq _ _ _, hb, rfl, hr, hl⟩
    ·have hu2 : updT z.T i _ j = some u := hu
     rw [updT_ne _ _ hji] at hu2
     obtain ⟨u', a, b⟩ := hR.t j u hu2
     exact ⟨u', by show updT z'.T i _ j = _; rw [updT_ne _ _ hji]; exact a, b⟩
 | none =>
  rw [hR.n i ht]
  simp only
  by_cases hs : soundR (A i) = true
  ·rw [if_pos hs]
   refine ⟨fun z2 h hF => ?_, fun h => by cases h⟩
   obtain rfl := Option.some.inj h
   obtain ⟨te, hte, her, heb⟩ := hF.t i _ (updT_eq _ _ _)
   obtain ⟨hs', hraw⟩ := raw_two h2 h1 hi hs hte
   rw [her] at hraw
   rw [if_pos hs']
   refine ⟨_, rfl, ?_⟩
   have tk := take_i hY hI.si (rdInoR (A i)).1
   have hkind := hraw.kind
   generalize (rdInoR (A i)).1 = raw at *
   generalize (rdInoR (A' i)).1 = raw' at *
   have hpend : ∀ j : Nat, z.st.cl j = false → (nth raw 0 = 2 → ∀ k, (takeX X Y raw z.st).2.bk k ≠ some (j : Int)) → ¬ pend (takeZ X Y i raw 1 z) j := by
    rintro j hc hb ⟨i2, hi2, u, k, hu, hk⟩
    have hu2 : updT z.T i ⟨(takeX X Y raw z.st).1, 1, (takeX X Y raw z.st).2.bk⟩ i2.toNat = some u := hu
    have hi3 : i2 ∈ (if nth raw 0 = 2 then z.q ++ [(i : Int)] else z.q) := hi2
    by_cases hii : i2.toNat = i
    ·rw [hii, updT_eq] at hu2
     obtain rfl := Option.some.inj hu2
     by_cases hk2 : nth raw 0 = 2
     ·exact hb hk2 k hk
     ·rw [if_neg hk2] at hi3
      obtain ⟨-, u3, hu3, -⟩ := hI.qT i2 hi3
      rw [hii, ht] at hu3; cases hu3
    ·rw [updT_ne _ _ hii] at hu2
     have := (hI.blk _ u k _ hu2 hk).2
     rw [hc] at this; cases this
   obtain ⟨c1, c2, c3, c4⟩ := take_sim hY hI.si hR.sd hraw (fun j hj hj0 hnb => by
    have hc : z.st.cl j = false := by
     cases hb : z.st.cl j with
     | false => rfl
     | true => have := (tk.gr j hb).2.1; rw [hj, hj0] at this; cases this
    have hcl : (takeX X Y raw z.st).2.cl j = true := tk.si.fc j hj
    exact ⟨hF.s j (tk.si.cd j hcl) hcl (hpend j hc (fun _ => hnb)) (fun hEj => by have := hE j hEj; rw [hc] at this; cases this), hF.f j hj⟩) (fun hk2 p hp => by
    obtain ⟨n1, n2, n3⟩ := tk.new _ p hp
    have e := (isD_nat hY n1).1
    exact hF.s p.toNat (by rw [e]; exact n1) (by show (takeX X Y raw z.st).2.cl _ = true; rw [e]; exact n2) (hpend p.toNat (by rw [e]; exact n3) (fun h => absurd h hk2)) (fun hEj => by have := hE _ hEj; rw [e, n3] at this; cases this))
   refine ⟨c4, ?_, fun j hj => ?_, fun j u hu => ?_⟩
   ·show (if nth raw' 0 = 2 then z'.q ++ [(i : Int)] else z'.q) = (if nth raw 0 = 2 then z.q ++ [(i : Int)] else z.q)
    rw [hkind, hR.q]
   ·have hji : j ≠ i := fun e => by
     subst e
     have : updT z.T j _ j = none := hj
     rw [updT_eq] at this; cases this
    show updT z'.T i _ j = none
    rw [updT_ne _ _ hji]
    have : updT z.T i _ j = none := hj
    rw [updT_ne _ _ hji] at this
    exact hR.n j this
   ·by_cases hji : j = i
    ·subst hji
     have hu2 : updT z.T j _ j = some u := hu
     rw [updT_eq] at hu2
     obtain rfl := Option.some.inj hu2
     exact ⟨_, updT_eq _ _ _, c3, rfl, c1, c2⟩
    ·have hu2 : updT z.T i _ j = some u := hu
     rw [updT_ne _ _ hji] at hu2
     obtain ⟨u', a, b⟩ := hR.t j u hu2
     exact ⟨u', by show updT z'.T i _ j = _; rw [updT_ne _ _ hji]; exact a, b⟩
  ·have hs0 : soundR (A i) = false := by simpa using hs
   rw [if_neg hs, if_neg (by rw [unsound_two h2 h1 hi hs0]; simp)]
   exact ⟨fun z2 h => (by cases h), fun _ => rfl⟩
theorem RZ.wipe {X Y : Int} {A' W : Nat → List Int} {allw : Prop} {z z' : LZ} (h : RZ X Y A' W allw z z') {p : Nat} (hc : z.st.cl p = true) : RZ X Y A' W allw (wipeZ p z) (wipeZ p z') := by
 refine ⟨⟨h.sd.cl, h.sd.fm, rfl, fun j => ?_, fun j hj hcj => ?_, h.sd.f0, h.sd.fc⟩, h.q, h.n, h.t⟩
 ·show updS _ _ _ _ = updS _ _ _ _ ∨ updS _ _ _ _ = _
  by_cases hjp : j = p
  ·subst hjp; rw [updS_eq, updS_eq]; exact .inl rfl
  ·rw [updS_ne _ _ hjp, updS_ne _ _ hjp]; exact h.sd.S j
 ·have hne : j ≠ p := fun e => by subst e; rw [show z.st.cl j = false from hcj] at hc; cases hc
  show updS _ _ _ _ = _ ∧ Bytes (updS _ _ _ _) ∧ (¬ allw → subP _ (updS _ _ _ _))
  rw [updS_ne _ _ hne, updS_ne _ _ hne]
  exact h.sd.un j hj hcj
theorem slot_sim {X Y : Int} {A A' W : Nat → List Int} {ze : LZ} {allw : Prop} (h2 : Two X Y A A' W ze allw) {d : Nat} {t : TI} {z z' : LZ} {nm : ByteArray → Bool} (hI : InvZ X Y A z) (hR : RZ X Y A' W allw z z') (hT : ∃ t0, z.T d = some t0 ∧ t0.bk = t.bk) (hq : (d : Int) ∉ z.q) {k : Nat} {p : Int} (hk : t.bk k = some p)
  (hF : Fin X Y A' W ze allw (rest t.bk (k + 1)) (slotZ X Y A p.toNat (z, nm)).1) :
  RZ X Y A' W allw (slotZ X Y A p.toNat (z, nm)).1 (slotZ X Y A' p.toNat (z', nm)).1 ∧ (slotZ X Y A' p.toNat (z', nm)).2 = (slotZ X Y A p.toNat (z, nm)).2 := by
 have hY := h2.Y0
 have hs := slot_i hY (zn := (z, nm)) hI hT hq hk
 obtain ⟨t0, ht0, hb0⟩ := hT
 obtain ⟨hd, hc⟩ := hI.blk d t0 k p ht0 (by rw [hb0]; exact hk)
 have hp := (isD_nat hY hd).1
 obtain ⟨t1, ht1, -, hb1⟩ := hs.st.t d t0 ht0
 have hcp : z.st.cl (p.toNat : Int) = true := by rw [hp]; exact hc
 have hE : ∀ j, rest t.bk (k + 1) j → z.st.cl j = true := fun j ⟨k', h5, h6⟩ => (hI.blk d t0 k' j ht0 (by rw [hb0]; exact h6)).2
 have hWp : (slotZ X Y A p.toNat (z, nm)).1.st.S p.toNat = W p.toNat := by
  refine hF.s p.toNat (by rw [hp]; exact hd) ?_ ?_ ?_
  ·have := hs.inv.blk d t1 k p ht1 (by rw [hb1, hb0]; exact hk)
   rw [hp]; exact this.2
  ·rintro ⟨i2, hi2, u, k2, hu, hk2⟩
   have := (hs.inv.inj _ u k2 d t1 k p hu (by rw [← hp]; exact hk2) ht1 (by rw [hb1, hb0]; exact hk)).1
   have h0 := (hs.inv.qT i2 hi2).1
   exact hs.q (by rw [show (d : Int) = i2 by omega]; exact hi2)
  ·rintro ⟨k', h5, h6⟩
   have := (hI.inj d t0 k' d t0 k p ht0 (by rw [hb0, h6, hp]) ht0 (by rw [hb0]; exact hk)).2
   omega
 by_cases hsame : z'.st.S p.toNat = z.st.S p.toNat
 ·unfold slotZ at hF ⊢
  simp only at hF ⊢
  rw [hsame]
  by_cases c1 : (rdSloR (z.st.S p.toNat)).2.2 = 0 ∧ (rdSloR (z.st.S p.toNat)).1 = 0
  ·rw [if_pos c1, if_pos c1]
   exact ⟨hR, rfl⟩
  ·rw [if_neg c1] at hF ⊢
   rw [if_neg c1]
   by_cases c2 : (rdSloR (z.st.S p.toNat)).2.2 = 0 ∧ (rdSloR (z.st.S p.toNat)).1 ≤ Y
   ·obtain ⟨c3, c4⟩ := c2
    have hok := slo_ok c3 (fun h => c1 ⟨c3, h⟩)
    have h1 : 1 ≤ (rdSloR (z.st.S p.toNat)).1.toNat := by omega
    have hi : ((rdSloR (z.st.S p.toNat)).1.toNat : Int) ≤ Y := by omega
    obtain ⟨e1, e2⟩ := enter_sim h2 hI hR h1 hi hE
    generalize (rdSloR (z.st.S p.toNat)).1.toNat = i at *
    generalize (rdSloR (z.st.S p.toNat)).2.1 = name at *
    unfold enterR at hF ⊢
    simp only at hF ⊢
    by_cases c5 : nm name = true ∨ i = 1
    ·simp only [if_pos c5] at hF ⊢
     rw [if_neg (by simp), if_neg (by simp)]
     exact ⟨hR.wipe hcp, rfl⟩
    ·simp only [if_neg c5] at hF ⊢
     cases he : enterZ X Y A i z with
     | none =>
      rw [e2 he]
      simp only
      rw [if_neg (by simp), if_neg (by simp)]
      exact ⟨hR.wipe hcp, rfl⟩
     | some z2 =>
      rw [he] at hF
      simp only at hF ⊢
      rw [if_pos ⟨c3, c4, trivial⟩] at hF
      obtain ⟨z2', he', hr2⟩ := e1 z2 he hF
      rw [he']
      simp only
      rw [if_pos ⟨c3, c4, trivial⟩, if_pos ⟨c3, c4, trivial⟩]
      exact ⟨hr2, rfl⟩
   ·rw [if_neg (fun h => c2 ⟨h.1, h.2.1⟩), if_neg (fun h => c2 ⟨h.1, h.2.1⟩)]
    exact ⟨hR.wipe hcp, rfl⟩
 ·have hW := (hR.sd.S p.toNat).resolve_left hsame
  have hW' : z'.st.S p.toNat = W p.toNat := hW
  have hne : (slotZ X Y A p.toNat (z, nm)).1.st.S p.toNat ≠ z.st.S p.toNat := by rw [hWp, ← hW']; exact hsame
  have hz : slotZ X Y A p.toNat (z, nm) = (wipeZ p.toNat z, nm) := by
   unfold slotZ at hne ⊢
   simp only at hne ⊢
   split
   ·rename_i c; rw [if_pos c] at hne; exact absurd rfl hne
   ·rename_i c
    rw [if_neg c] at hne
    split
    ·rename_i c'
     rw [if_pos c'] at hne
     exfalso
     apply hne
     obtain ⟨-, -, c3⟩ := c'
     generalize (rdSloR (z.st.S p.toNat)).1.toNat = i at *
     generalize (rdSloR (z.st.S p.toNat)).2.1 = name at *
     unfold enterR at c3 ⊢
     simp only at c3 ⊢
     split at c3
     ·cases c3
     ·rename_i c4
      rw [if_neg c4]
      cases he : enterZ X Y A i z with
      | none => rfl
      | some z2 => exact (enter_i hY hI he noE).2.2.2 p.toNat hcp
    ·rfl
  rw [hz] at hWp ⊢
  have hzl : z'.st.S p.toNat = zl 128 := by
   rw [hW', ← hWp]
   exact updS_eq _ _ _
  have hz' : slotZ X Y A' p.toNat (z', nm) = (z', nm) := by
   unfold slotZ
   simp only
   rw [hzl, slot_zero, if_pos ⟨rfl, rfl⟩]
  rw [hz']
  refine ⟨⟨⟨hR.sd.cl, hR.sd.fm, rfl, fun j => ?_, fun j hj hcj => ?_, hR.sd.f0, hR.sd.fc⟩, hR.q, hR.n, hR.t⟩, rfl⟩
  ·show z'.st.S j = updS _ _ _ _ ∨ z'.st.S j = _
   by_cases hjp : j = p.toNat
   ·subst hjp; rw [updS_eq]; exact .inl hzl
   ·rw [updS_ne _ _ hjp]; exact hR.sd.S j
  ·have hne2 : j ≠ p.toNat := fun e => by subst e; rw [show z.st.cl _ = false from hcj] at hcp; cases hcp
   show z'.st.S j = _ ∧ Bytes (updS _ _ _ _) ∧ (¬ allw → subP _ (updS _ _ _ _))
   rw [updS_ne _ _ hne2]
   exact hR.sd.un j hj hcj
theorem dirZ_sim {X Y : Int} {A A' W : Nat → List Int} {ze : LZ} {allw : Prop} (h2 : Two X Y A A' W ze allw) {d : Nat} {t : TI} : ∀ (m k : Nat) (z z' : LZ) (nm : ByteArray → Bool), InvZ X Y A z → RZ X Y A' W allw z z' → (∃ t0, z.T d = some t0 ∧ t0.bk = t.bk) → (d : Int) ∉ z.q →
  Fin X Y A' W ze allw (rest t.bk (k + m)) (dirZ X Y A t.bk m k (z, nm)).1 → RZ X Y A' W allw (dirZ X Y A t.bk m k (z, nm)).1 (dirZ X Y A' t.bk m k (z', nm)).1
 | 0, k, z, z', nm, hI, hR, hT, hq, hF => hR
 | m + 1, k, z, z', nm, hI, hR, hT, hq, hF => by
  rw [show k + (m + 1) = k + 1 + m by omega] at hF
  change Fin X Y A' W ze allw _ (dirZ X Y A t.bk m (k + 1) _).1 at hF
  show RZ X Y A' W allw (dirZ X Y A t.bk m (k + 1) _).1 (dirZ X Y A' t.bk m (k + 1) _).1
  cases hk : t.bk k with
  | none =>
   rw [hk] at hF
   exact dirZ_sim h2 m (k + 1) z z' nm hI hR hT hq hF
  | some p =>
   rw [hk] at hF
   simp only at hF ⊢
   have hs := slot_i h2.Y0 (zn := (z, nm)) hI hT hq hk
   obtain ⟨t0, ht0, hb0⟩ := hT
   obtain ⟨t1, ht1, -, hb1⟩ := hs.st.t d t0 ht0
   have hd := dirZ_i h2.Y0 (t := t) m (k + 1) (slotZ X Y A p.toNat (z, nm)) hs.inv ⟨t1, ht1, hb1.trans hb0⟩ hs.q
   obtain ⟨a, b⟩ := slot_sim h2 (nm := nm) hI hR ⟨t0, ht0, hb0⟩ hq hk (hF.back hd.st)
   have e' : slotZ X Y A' p.toNat (z', nm) = ((slotZ X Y A' p.toNat (z', nm)).1, (slotZ X Y A p.toNat (z, nm)).2) := by rw [← b]
   rw [e']
   exact dirZ_sim h2 m (k + 1) (slotZ X Y A p.toNat (z, nm)).1 _ (slotZ X Y A p.toNat (z, nm)).2 hs.inv a ⟨t1, ht1, hb1.trans hb0⟩ hs.q hF
theorem dirOf_some {X Y : Int} {A : Nat → List Int} {z : LZ} {i : Nat} {t : TI} (h : z.T i = some t) : dirOf X Y A i z = (dirZ X Y A t.bk (cntX (nth t.raw 2)).toNat 0 (z, fun _ => false)).1 := by
 unfold dirOf
 rw [h]
theorem dirOf_sim {X Y : Int} {A A' W : Nat → List Int} {ze : LZ} {allw : Prop} (h2 : Two X Y A A' W ze allw) {z z' : LZ} (hI : InvZ X Y A z) (hR : RZ X Y A' W allw z z') {i : Int} {r : List Int} (hq : z.q = i :: r) (hF : Fin X Y A' W ze allw noE (dirOf X Y A i.toNat { z with q := r })) :
  RZ X Y A' W allw (dirOf X Y A i.toNat { z with q := r }) (dirOf X Y A' i.toNat { z' with q := r }) := by
 obtain ⟨h0, t, ht, -⟩ := hI.qT i (by rw [hq]; exact List.mem_cons_self)
 obtain ⟨t', ht', hb, he, hr, hl⟩ := hR.t _ t ht
 have hir : i ∉ r := by have := hI.qn; rw [hq] at this; exact (List.nodup_cons.1 this).1
 have hi : (i.toNat : Int) = i := by omega
 have hRp : RZ X Y A' W allw { z with q := r } { z' with q := r } := ⟨hR.sd, rfl, hR.n, hR.t⟩
 have e : dirOf X Y A i.toNat { z with q := r } = _ := dirOf_some (z := { z with q := r }) ht
 have e' : dirOf X Y A' i.toNat { z' with q := r } = _ := dirOf_some (z := { z' with q := r }) ht'
 rw [e] at hF ⊢
 rw [e', hb, hr 2 (by omega)]
 refine dirZ_sim h2 (d := i.toNat) (t := t) _ 0 _ _ _ (hI.pop hq) hRp ⟨t, ht, rfl⟩ (by rw [hi]; exact hir) ?_
 exact ⟨fun j h1 h3 h4 _ => hF.s j h1 h3 h4 (fun h => h), hF.f, hF.t⟩
theorem loop_sim {X Y : Int} {A A' W : Nat → List Int} {ze : LZ} {allw : Prop} (h2 : Two X Y A A' W ze allw) : ∀ (f : Nat) (z z' : LZ), InvZ X Y A z → RZ X Y A' W allw z z' → Fin X Y A' W ze allw noE (loopZ X Y A f z) → RZ X Y A' W allw (loopZ X Y A f z) (loopZ X Y A' f z')
 | 0, z, z', hI, hR, hF => hR
 | f + 1, z, z', hI, hR, hF => by
  cases hq : z.q with
  | nil =>
   rw [loopZ_nil _ _ _ _ _ hq, loopZ_nil _ _ _ _ _ (by rw [hR.q]; exact hq)]
   exact hR
  | cons i r =>
   rw [loopZ_cons _ _ _ _ _ _ _ hq] at hF ⊢
   rw [loopZ_cons _ _ _ _ _ _ _ (show z'.q = i :: r by rw [hR.q]; exact hq)]
   obtain ⟨a, b⟩ := dirOf_i h2.Y0 hI hq
   exact loop_sim h2 f _ _ a (dirOf_sim h2 hI hR hq (hF.back (loop_i h2.Y0 f _ a).2)) hF
theorem zero_i {X Y : Int} {A : Nat → List Int} (hA : ∀ j : Nat, isD X Y j = true → (A j).length = 128 ∧ Bytes (A j)) : InvZ X Y A (zeroZ A) :=
 ⟨⟨fun j hj => (by cases hj), fun q hq => (by cases hq), fun k q hk => (by cases hk), fun k k' q hk => (by cases hk), fun j hj => rfl, hA, fun j hj => (by cases hj)⟩, fun i t k q ht => (by cases ht), fun i t k i' t' k' q ht => (by cases ht), fun i t k q ht => (by cases ht), List.nodup_nil, fun i hi => (by cases hi), fun i t ht => (by cases ht), fun i t ht => (by cases ht)⟩
theorem start_enter {X Y : Int} {A : Nat → List Int} (hs : soundR (A 1) = true) : enterZ X Y A 1 (zeroZ A) = some (startZ X Y A) := by
 unfold enterZ zeroZ
 simp only
 rw [if_pos hs]
 rfl
theorem look_inv {X Y : Int} (hY : 0 ≤ Y) {A : Nat → List Int} (hA : ∀ j : Nat, isD X Y j = true → (A j).length = 128 ∧ Bytes (A j)) (hs : soundR (A 1) = true) : InvZ X Y A (startZ X Y A) ∧ InvZ X Y A (lookZ X Y A) ∧ Stay X Y noE noE (startZ X Y A) (lookZ X Y A) := by
 obtain ⟨a, -⟩ := enter_i hY (zero_i (Y := Y) hA) (start_enter hs) noE
 obtain ⟨b, c⟩ := loop_i hY 8192 _ a
 exact ⟨a, b, c⟩
theorem repS_ino {Y : Int} (z : LZ) {i : Nat} (h1 : 1 ≤ i) (h2 : (i : Int) ≤ Y) : repS Y z i = inoW z i := by
 unfold repS inoW
 rw [if_pos ⟨h1, h2⟩]
 all_goals (cases z.T i <;> rfl)
theorem repS_else {Y : Int} (z : LZ) {i : Nat} (h : ¬ (1 ≤ i ∧ (i : Int) ≤ Y)) : repS Y z i = z.st.S i := by
 unfold repS
 rw [if_neg h]
theorem isD_not {X Y : Int} {j : Nat} (h : isD X Y j = true) : ¬ (1 ≤ j ∧ (j : Int) ≤ Y) := by
 unfold isD at h
 have := of_decide_eq_true h
 omega
theorem two_looks {X Y : Int} (hY : 1 ≤ Y) {A A' : Nat → List Int} (allw : Prop) (hA : ∀ j : Nat, isD X Y j = true → (A j).length = 128 ∧ Bytes (A j)) (hs : soundR (A 1) = true)
  (hAA : ∀ j, A' j = A j ∨ A' j = repS Y (lookZ X Y A) j) (hi : allw → ∀ i : Nat, 1 ≤ i → (i : Int) ≤ Y → A' i = repS Y (lookZ X Y A) i) (hf : allw → ∀ j : Nat, (lookZ X Y A).st.fm j = true → A' j = repS Y (lookZ X Y A) j)
  (hsub : ¬ allw → ∀ j : Nat, isD X Y j = true → subP (A' j) (A j)) : RZ X Y A' (repS Y (lookZ X Y A)) allw (lookZ X Y A) (lookZ X Y A') := by
 obtain ⟨i1, i2, i3⟩ := look_inv (by omega) hA hs
 have h2 : Two X Y A A' (repS Y (lookZ X Y A)) (lookZ X Y A) allw := ⟨by omega, fun i h1 h2 => ⟨by have := hAA i; rw [repS_ino _ h1 h2] at this; exact this, fun ha => by have := hi ha i h1 h2; rw [repS_ino _ h1 h2] at this; exact this⟩, i2⟩
 have hF : Fin X Y A' (repS Y (lookZ X Y A)) (lookZ X Y A) allw noE (lookZ X Y A) := ⟨fun j h1 _ _ _ => (repS_else _ (isD_not h1)).symm, fun j hj ha => hf ha j hj, fun i t ht => ⟨t, ht, rfl, rfl⟩⟩
 have hR0 : RZ X Y A' (repS Y (lookZ X Y A)) allw (zeroZ A) (zeroZ A') := ⟨⟨rfl, rfl, rfl, hAA, fun j hj _ => ⟨rfl, (hA j hj).2, fun hn => hsub hn j hj⟩, fun j hj => (by cases hj), fun j hj => (by cases hj)⟩, rfl, fun i h => rfl, fun i t h => (by cases h)⟩
 obtain ⟨e1, -⟩ := enter_sim h2 (zero_i (Y := Y) hA) hR0 (i := 1) (by omega) (by omega) (E := noE) (fun j h => h.elim)
 obtain ⟨z2', a, b⟩ := e1 _ (start_enter hs) (hF.back i3)
 have hs' : soundR (A' 1) = true := by
  cases hb : soundR (A' 1) with
  | true => rfl
  | false =>
   have : enterZ X Y A' 1 (zeroZ A') = none := by
    unfold enterZ zeroZ
    simp only
    rw [if_neg (by rw [hb]; simp)]
   rw [this] at a; cases a
 have e : z2' = startZ X Y A' := by
  have := start_enter (X := X) (Y := Y) hs'
  rw [a] at this
  exact Option.some.inj this
 subst e
 exact loop_sim h2 8192 _ _ i1 b hF
theorem set_same {a b : List Int} (ha : a.length = 18) (hb : b.length = 18) (h : ∀ j, j ≠ 1 → nth a j = nth b j) (n : Int) : a.set 1 n = b.set 1 n := by
 apply List.ext_getElem?
 intro j
 by_cases hj : j = 1
 ·subst hj
  rw [List.getElem?_set_self (by omega), List.getElem?_set_self (by omega)]
 ·rw [List.getElem?_set_ne (Ne.symm hj), List.getElem?_set_ne (Ne.symm hj)]
  by_cases hl : j < 18
  ·rw [nth_getElem? (by omega), nth_getElem? (by omega), h j hj]
  ·rw [List.getElem?_eq_none (by omega), List.getElem?_eq_none (by omega)]
theorem two_same {X Y : Int} {A A' : Nat → List Int} {allw : Prop} {z z' : LZ} (hI : InvZ X Y A z) (h : RZ X Y A' (repS Y z) allw z z') : (∀ j, repS Y z' j = repS Y z j) ∧ z'.st.cl = z.st.cl ∧ z'.st.fm = z.st.fm ∧ ∀ i, (z'.T i).isSome = (z.T i).isSome := by
 refine ⟨fun j => ?_, h.sd.cl, h.sd.fm, fun i => ?_⟩
 ·by_cases hj : 1 ≤ j ∧ (j : Int) ≤ Y
  ·rw [repS_ino _ hj.1 hj.2, repS_ino _ hj.1 hj.2]
   unfold inoW
   cases ht : z.T j with
   | none => rw [h.n j ht]
   | some t =>
    obtain ⟨t', ht', -, he, hr, hl⟩ := h.t j t ht
    rw [ht']
    simp only
    rw [he]
    rw [set_same hl (hI.snd j t ht).2.1 hr]
  ·rw [repS_else _ hj, repS_else _ hj]
   rcases h.sd.S j with e | e
   ·exact e
   ·rw [repS_else _ hj] at e; exact e
 ·cases ht : z.T i with
  | none => rw [h.n i ht]
  | some t =>
   obtain ⟨t', ht', -⟩ := h.t i t ht
   rw [ht']; rfl
theorem zero_pz (X Y : Int) (S : Nat → List Int) : PZ X Y (zeroZ S) := ⟨fun i t h => (by cases h), fun i t h => (by cases h), fun i t h => (by cases h), fun i t i' t' p h => (by cases h), fun q h => (by cases h), fun i t h => (by cases h), fun i t h => (by cases h)⟩
theorem zero_cz (S : Nat → List Int) : CZ S (zeroZ S) := ⟨fun i t h => (by cases h), fun i t h => (by cases h)⟩
theorem start_wz {X Y : Int} (hY : 1 ≤ Y) {S : Nat → List Int} (hA : ∀ j : Nat, isD X Y j = true → (S j).length = 128 ∧ Bytes (S j)) (hr : rootOk S) : WZ X Y S (fun _ => []) 0 0 (startZ X Y S) := by
 have hs : soundR (S 1) = true := hr.1
 obtain ⟨hi, -, -⟩ := look_inv (by omega) hA hs
 have hp : PZ X Y (startZ X Y S) := (zero_pz X Y S).take (by omega) (zero_i (Y := Y) hA) rfl (rdInoR_length _) 1
 have hc : CZ S (startZ X Y S) := (zero_cz S).take (X := X) (Y := Y) (by omega) (zero_i (Y := Y) hA) rfl (rdInoR_length _) 1
 have hkind : nth (takeX X Y (rdInoR (S 1)).1 (zeroZ S).st).1 0 = nth (rdInoR (S 1)).1 0 := by
  rw [(takeX_parts X Y _ _).1]
  exact (ptrs_nth (X := X) (by omega) _ (rdInoR_length _) _).1 0 (by omega)
 have hT : ∀ i t, (startZ X Y S).T i = some t → i = 1 ∧ t = ⟨(takeX X Y (rdInoR (S 1)).1 (zeroZ S).st).1, 1, (takeX X Y (rdInoR (S 1)).1 (zeroZ S).st).2.bk⟩ := by
  intro i t ht
  have h2 : updT (fun _ => none) 1 ⟨(takeX X Y (rdInoR (S 1)).1 (zeroZ S).st).1, 1, (takeX X Y (rdInoR (S 1)).1 (zeroZ S).st).2.bk⟩ i = some t := ht
  by_cases e : i = 1
  ·subst e
   rw [updT_eq] at h2
   exact ⟨rfl, (Option.some.inj h2).symm⟩
  ·rw [updT_ne _ _ e] at h2; cases h2
 have hq : (startZ X Y S).q = [1] := by
  show (if nth (rdInoR (S 1)).1 0 = 2 then [] ++ [((1 : Nat) : Int)] else []) = _
  rw [if_pos hr.2]; rfl
 refine ⟨hi, hp, hc, fun i e h => (by cases h), fun i => List.nodup_nil, fun i h => absurd rfl h, fun i t ht => ?_, fun j t ht => ?_, fun j t ht => ?_, fun P h1 _ j t ht => ?_, ⟨⟨(takeX X Y (rdInoR (S 1)).1 (zeroZ S).st).1, 1, (takeX X Y (rdInoR (S 1)).1 (zeroZ S).st).2.bk⟩, show updT (fun _ => none) 1 _ 1 = _ from updT_eq _ _ _⟩, fun i t ht _ => ?_⟩
 ·obtain ⟨rfl, -⟩ := hT i t ht
  exact ⟨Nat.le_refl _, hY⟩
 ·obtain ⟨rfl, rfl⟩ := hT j t ht
  rw [if_pos rfl, cntL_zero (fun i e he => by cases he)]; rfl
 ·obtain ⟨rfl, rfl⟩ := hT j t ht
  exact ⟨Int.le_refl _, fun _ => rfl⟩
 ·obtain ⟨rfl, -⟩ := hT j t ht
  exact h1
 ·obtain ⟨rfl, -⟩ := hT i t ht
  unfold doneB
  rw [hq, if_pos (by simp)]
  rfl
structure WFin (X Y : Int) (S : Nat → List Int) (L : Nat → List Ent) (z : LZ) : Prop where
 w : WZ X Y S L 0 0 z
 q : z.q = []
theorem look_wz {X Y : Int} (hY : 1 ≤ Y) (hY9 : Y < 4096) {S : Nat → List Int} (hA : ∀ j : Nat, isD X Y j = true → (S j).length = 128 ∧ Bytes (S j)) (hr : rootOk S) : ∃ L, WFin X Y S L (lookZ X Y S) := by
 obtain ⟨L, h⟩ := loop_wz (by omega) 8192 _ _ (start_wz hY hA hr)
 refine ⟨L, h, ?_⟩
 have hm := sound_may hr.1
 have hb := (inoMay_else hm.2).1 hm.1
 have hz : ZI X Y (startZ X Y S) := (zeroZI X Y S).take (Nat.le_refl 1) hY (by decide) (rdInoR_length _) hb.1.2.2.1.1 hb.1.2.2.1.2 (by decide) (by decide) rfl
 exact loop_over hY9 S 8192 _ hz.pot
theorem dirL_set (raw : List Int) (e : Int) : dirL (raw.set 1 e) = dirL raw := by
 unfold dirL
 rw [List.drop_set_of_lt (by decide)]
theorem inoPs_set (n : Int) (S : Nat → List Int) (raw : List Int) (e : Int) : inoPs n S (raw.set 1 e) = inoPs n S raw := by
 unfold inoPs
 rw [dirL_set, nth_set_ne _ _ (by decide), nth_set_ne _ _ (by decide)]
theorem inoSh_set (n : Int) (S : Nat → List Int) (raw : List Int) (e : Int) : inoSh n S (raw.set 1 e) ↔ inoSh n S raw := by
 unfold inoSh
 rw [dirL_set, nth_set_ne _ _ (by decide), nth_set_ne _ _ (by decide)]
theorem blkW_set (S : Nat → List Int) (raw : List Int) (e : Int) (k : Nat) : blkW S (raw.set 1 e) k = blkW S raw k := by
 unfold blkW
 rw [nth_set_ne _ _ (by omega), nth_set_ne _ _ (by decide), nth_set_ne _ _ (by decide)]
theorem okL_flat {X Y : Int} {f : Nat → List Int} : ∀ (l : List Nat) (s : Int → Bool), l.Nodup → (∀ i ∈ l, OkL X Y s (f i)) → (∀ i ∈ l, ∀ i' ∈ l, ∀ p, p ∈ f i → p ∈ f i' → i = i') → OkL X Y s (l.flatMap f)
 | [], s, _, _, _ => okL_nil _ _ _
 | i :: r, s, hn, ho, hd => by
  rw [List.flatMap_cons, okL_app]
  have hn2 := List.nodup_cons.1 hn
  refine ⟨ho i (List.mem_cons_self ..), okL_flat r _ hn2.2 (fun j hj => ⟨fun p hp => ?_, (ho j (List.mem_cons_of_mem _ hj)).2⟩) (fun j hj j' hj' => hd j (List.mem_cons_of_mem _ hj) j' (List.mem_cons_of_mem _ hj'))⟩
  obtain ⟨a, b⟩ := (ho j (List.mem_cons_of_mem _ hj)).1 p hp
  refine ⟨a, addAll_no.2 ⟨b, fun hm => ?_⟩⟩
  have := hd i (List.mem_cons_self ..) j (List.mem_cons_of_mem _ hj) p hm hp
  subst this
  exact hn2.1 hj
structure OutW (X Y : Int) (S W : Nat → List Int) (z : LZ) : Prop where
 d : ∀ j : Nat, isD X Y j = true → W j = z.st.S j
 yes : ∀ i t, z.T i = some t → wI W i = t.raw.set 1 t.en ∧ nth t.raw 0 ≠ 0 ∧ InoMay (t.raw.set 1 t.en)
 no : ∀ i : Nat, 1 ≤ i → (i : Int) ≤ Y → z.T i = none → wI W i = zl 18
 rd : ∀ i : Nat, 1 ≤ i → (i : Int) ≤ Y → (rdInoR (W i)).2 = 0
theorem out_w {X Y : Int} {S : Nat → List Int} {L : Nat → List Ent} {z : LZ} (h : WFin X Y S L z) : OutW X Y S (repS Y z) z := by
 have hyes : ∀ i t, z.T i = some t → rdInoR (repS Y z i) = (t.raw.set 1 t.en, 0) ∧ InoMay (t.raw.set 1 t.en) ∧ nth t.raw 0 ≠ 0 := fun i t ht => by
  obtain ⟨h1, h2⟩ := h.w.ix i t ht
  rw [repS_ino z h1 h2]
  exact inoW_reads h.w.inv ht
 have hno : ∀ i : Nat, 1 ≤ i → (i : Int) ≤ Y → z.T i = none → rdInoR (repS Y z i) = (zl 18, 0) := fun i h1 h2 ht => by
  rw [repS_ino z h1 h2]
  unfold inoW
  rw [ht]
  exact ino_zero
 refine ⟨fun j hj => repS_else z (isD_not hj), fun i t ht => ?_, fun i h1 h2 ht => ?_, fun i h1 h2 => ?_⟩
 ·obtain ⟨a, b, c⟩ := hyes i t ht
  exact ⟨by rw [wI_yes _ (h.w.ix i t ht).1, a], c, b⟩
 ·rw [wI_yes _ h1, hno i h1 h2 ht]
 ·cases ht : z.T i with
  | none => rw [hno i h1 h2 ht]
  | some t => rw [(hyes i t ht).1]
theorem wI_size {X Y : Int} {S W : Nat → List Int} {z : LZ} (h : OutW X Y S W z) {i : Nat} {t : TI} (ht : z.T i = some t) : nth (wI W i) 0 = nth t.raw 0 ∧ nth (wI W i) 2 = nth t.raw 2 := by
 rw [(h.yes i t ht).1]
 exact ⟨nth_set_ne _ _ (by decide), nth_set_ne _ _ (by decide)⟩
theorem wI_taken {X Y : Int} {S W : Nat → List Int} {z : LZ} (h : OutW X Y S W z) {i : Nat} (h1 : 1 ≤ i) (h2 : (i : Int) ≤ Y) (hk : nth (wI W i) 0 ≠ 0) : ∃ t, z.T i = some t := by
 cases ht : z.T i with
 | some t => exact ⟨t, rfl⟩
 | none =>
  rw [h.no i h1 h2 ht] at hk
  exact absurd (zl_get 18 0) hk
theorem out_pt {X Y : Int} (hY : 0 ≤ Y) {S W : Nat → List Int} {L : Nat → List Ent} {z : LZ} (h : WFin X Y S L z) (ho : OutW X Y S W z) {i : Nat} {t : TI} (ht : z.T i = some t) :
  inoPs (cntX (nth (wI W i) 2)) W (wI W i) = psT z.st.S t ∧ inoSh (cntX (nth (wI W i) 2)) W (wI W i) ∧ (∀ k : Nat, k < 1068 → t.bk k = optI (blkW W (wI W i) k)) ∧ inoTb (cntX (nth t.raw 2)) W t.raw = tbT z.st.S t := by
 obtain ⟨e0, e2⟩ := wI_size ho ht
 obtain ⟨a, b, c, d⟩ := ino_st (cntX (nth t.raw 2)) z.st.S W t.raw (fun q hq => by
  have hd := ((h.w.pz.ok i t ht).1 q (ino_tp _ _ _ q hq)).1
  exact ho.d _ (by rw [(isD_nat hY hd).1]; exact hd))
 rw [e2, (ho.yes i t ht).1, inoPs_set, inoSh_set]
 refine ⟨a, c.2 (h.w.pz.sh i t ht), fun k hk => ?_, b⟩
 rw [h.w.pz.bk i t ht k (Int.natCast_nonneg _) (by omega), blkW_set, ← inoBl_blkW (cntX (nth t.raw 2)) W (h.w.inv.snd i t ht).2.1 k hk, d]
theorem cnt_le {X Y : Int} {S : Nat → List Int} {L : Nat → List Ent} {z : LZ} (h : WFin X Y S L z) {i : Nat} {t : TI} (ht : z.T i = some t) : 0 ≤ nth t.raw 2 ∧ nth t.raw 2 ≤ 136704 ∧ (nth t.raw 0 = 1 ∨ nth t.raw 0 = 2) ∧ (nth t.raw 0 = 1 ∨ nth t.raw 2 % 128 = 0) := by
 obtain ⟨hs, hl, e0, e2, -⟩ := h.w.inv.snd i t ht
 have hm := sound_may hs
 have hb := (inoMay_else hm.2).1 hm.1
 rw [e0, e2]
 refine ⟨hb.1.2.2.1.1, hb.1.2.2.1.2, ?_, hb.2.2⟩
 have := hb.1.1
 omega
theorem getD_optI (x : Int) : (optI x).getD 0 = x := by
 unfold optI
 split
 ·rename_i h; exact h.symm
 ·rfl
theorem out_dir {X Y : Int} (hY : 0 ≤ Y) {S W : Nat → List Int} {L : Nat → List Ent} {z : LZ} (h : WFin X Y S L z) (ho : OutW X Y S W z) {i : Nat} {t : TI} (ht : z.T i = some t) (h2 : nth t.raw 0 = 2) : slotsW W (blksW W (wI W i)) [] = some (L i) := by
 obtain ⟨e0, e2⟩ := wI_size ho ht
 obtain ⟨c1, c2, -⟩ := cnt_le h ht
 have hsl := h.w.sl i t ht h2
 unfold doneB at hsl
 have hi1 := (h.w.ix i t ht).1
 rw [h.q, if_neg (by simp), if_neg (by omega)] at hsl
 have hbl : blksW W (wI W i) = bkL t.bk (cntX (nth t.raw 2)).toNat := by
  unfold blksW bkL
  rw [e2]
  apply List.map_congr_left
  intro k hk
  rw [(out_pt hY h ho ht).2.2.1 k (by have := List.mem_range.1 hk; unfold cntX at this; omega), getD_optI]
 rw [hbl, ← hsl]
 refine slotsW_same _ _ (fun p hp h0 => ?_)
 obtain ⟨k, -, hk⟩ := mem_bkL hp h0
 have hd := (h.w.inv.blk i t k p ht hk).1
 exact ho.d _ (by rw [(isD_nat hY hd).1]; exact hd)
theorem out_ent {X Y : Int} (hY : 0 ≤ Y) {S W : Nat → List Int} {L : Nat → List Ent} {z : LZ} (h : WFin X Y S L z) (ho : OutW X Y S W z) : entL W (wI W) (Y.toNat + 1) = L := by
 funext i
 have hnil : (∀ t, z.T i = some t → nth t.raw 0 ≠ 2) → L i = [] := fun hh => Decidable.byContradiction fun hne => by
  obtain ⟨t, ht, h2⟩ := h.w.nl i hne
  exact hh t ht h2
 unfold entL
 split
 ·rename_i hi
  obtain ⟨t, ht⟩ := wI_taken ho hi.1 (by omega) (by rw [hi.2.2]; decide)
  have h2 : nth t.raw 0 = 2 := by rw [← (wI_size ho ht).1]; exact hi.2.2
  rw [out_dir hY h ho ht h2]; rfl
 ·rename_i hi
  refine (hnil (fun t ht h2 => hi ?_)).symm
  obtain ⟨a, b⟩ := h.w.ix i t ht
  exact ⟨a, by omega, by rw [(wI_size ho ht).1]; exact h2⟩
theorem zeroFrom_wipe {s : List Int} (h : s.length = 128) {k : Nat} (hk : k ≤ 128) : zeroFrom (wipeL s k) k = true := by
 unfold zeroFrom wipeL
 rw [List.drop_left' (by simp; omega)]
 rw [List.all_eq_true]
 intro b hb
 unfold zl at hb
 have := List.eq_of_mem_replicate hb
 simp [this]
theorem out_tail {X Y : Int} (hY : 0 ≤ Y) {S W : Nat → List Int} {L : Nat → List Ent} {z : LZ} (hA : ∀ j : Nat, isD X Y j = true → (S j).length = 128 ∧ Bytes (S j)) (h : WFin X Y S L z) (ho : OutW X Y S W z) {i : Nat} {t : TI} (ht : z.T i = some t) : tailW W (wI W i) = true := by
 obtain ⟨e0, e2⟩ := wI_size ho ht
 obtain ⟨c1, c2, c3, c4⟩ := cnt_le h ht
 unfold tailW
 rw [e2]
 by_cases hz : nth t.raw 2 % 128 = 0
 ·rw [if_pos hz]
 ·rw [if_neg hz]
  have hk2 : nth t.raw 0 ≠ 2 := by omega
  by_cases hb : blkW W (wI W i) (cntX (nth t.raw 2) - 1).toNat = 0
  ·rw [if_pos hb]
  ·rw [if_neg hb]
   have hcn : 0 ≤ cntX (nth t.raw 2) - 1 ∧ (cntX (nth t.raw 2) - 1).toNat < 1068 := by unfold cntX; omega
   have hbk := (out_pt hY h ho ht).2.2.1 _ hcn.2
   rw [show ((cntX (nth t.raw 2) - 1).toNat : Int) = cntX (nth t.raw 2) - 1 by omega] at hbk
   unfold optI at hbk
   rw [if_neg hb] at hbk
   generalize blkW W (wI W i) (cntX (nth t.raw 2) - 1).toNat = p at *
   have hd := (h.w.inv.blk i t _ p ht hbk).1
   have hp := (isD_nat hY hd).1
   have hc := h.w.cz.b i t ht _ p hbk
   unfold BlkIs at hc
   rw [if_neg hk2, if_pos ⟨rfl, hz⟩] at hc
   rw [ho.d p.toNat (by rw [hp]; exact hd), hc]
   exact zeroFrom_wipe (hA p.toNat (by rw [hp]; exact hd)).1 (by omega)
theorem look_well {N : Nat} {S : Nat → List Int} (hS : ∀ j, j < N → (S j).length = 128 ∧ Bytes (S j)) (he : lookE N S = 0) : WellP N (repS (rdSupR (S 0)).2.1 (lookZ N (rdSupR (S 0)).2.1 S)) := by
 obtain ⟨h8, h9, hs0, hs1, hr⟩ := lookE_ok he
 have hmay := (sup_one hs0).1
 obtain ⟨hx, hy, hxy⟩ := hmay
 rw [hs1] at hxy
 generalize hYe : (rdSupR (S 0)).2.1 = Y at *
 have hA : ∀ j : Nat, isD N Y j = true → (S j).length = 128 ∧ Bytes (S j) := fun j hj => hS j (by
  unfold isD at hj
  have := of_decide_eq_true hj
  omega)
 obtain ⟨L, h⟩ := look_wz (X := N) hy.1 (by omega) hA hr
 generalize hz : lookZ (N : Int) Y S = z at *
 have ho := out_w h
 have hY : 0 ≤ Y := by omega
 have hW0 : repS Y z 0 = S 0 := by
  rw [repS_else z (by omega)]
  refine h.w.inv.si.un 0 ?_
  cases hb : (bare z.st).cl ((0 : Nat) : Int) with
  | false => rfl
  | true =>
   have := h.w.inv.si.cd _ hb
   unfold isD at this
   have := of_decide_eq_true this
   omega
 generalize repS Y z = W at *
 have hsup : (rdSupR (W 0)).2.1 = Y := by rw [hW0]; exact hYe
 have hent := out_ent hY h ho
 have hlt : ∀ i : Nat, i < Y.toNat + 1 → (i : Int) ≤ Y := fun i hi => by omega
 refine ⟨h8, h9, by rw [hW0]; exact hs0, by rw [hW0]; exact hs1, fun i h1 h2 => ?_, ?_, ?_, ?_, ?_⟩
 ·rw [hsup] at h2; exact ho.rd i h1 h2
 ·rw [hsup]
  refine Option.isSome_iff_exists.2 ⟨_, (ptrsA_iff _ _ _ _ _ _ _).2 ⟨fun i hi hk => ?_, ?_, rfl⟩⟩
  ·have hi2 := List.mem_range'_1.1 hi
   obtain ⟨t, ht⟩ := wI_taken ho hi2.1 (by omega) hk
   exact (out_pt hY h ho ht).2.1
  ·have hpt : ∀ i ∈ List.range' 1 Y.toNat, ∀ p ∈ ptI W (wI W) i, ∃ t, z.T i = some t ∧ p ∈ psT z.st.S t := fun i hi p hp => by
    have hi2 := List.mem_range'_1.1 hi
    unfold ptI at hp
    split at hp
    ·cases hp
    ·rename_i hk
     obtain ⟨t, ht⟩ := wI_taken ho hi2.1 (by omega) hk
     exact ⟨t, ht, by rw [← (out_pt hY h ho ht).1]; exact hp⟩
   refine okL_flat _ _ (List.nodup_range' ..) (fun i hi => ?_) (fun i hi i' hi' p hp hp' => ?_)
   ·have hi2 := List.mem_range'_1.1 hi
    unfold ptI
    split
    ·exact okL_nil _ _ _
    ·rename_i hk
     obtain ⟨t, ht⟩ := wI_taken ho hi2.1 (by omega) hk
     rw [(out_pt hY h ho ht).1]
     exact h.w.pz.ok i t ht
   ·obtain ⟨t, ht, h1⟩ := hpt i hi p hp
    obtain ⟨t', ht', h1'⟩ := hpt i' hi' p hp'
    exact h.w.pz.dj i t i' t' p ht ht' h1 h1'
 ·obtain ⟨t, ht⟩ := h.w.r1
  rw [(wI_size ho ht).1, (h.w.inv.snd 1 t ht).2.2.1]
  exact hr.2
 ·rw [hsup]
  intro i h1 h2 hk
  obtain ⟨t, ht⟩ := wI_taken ho h1 (hlt i h2) (by rw [hk]; decide)
  have hk2 : nth t.raw 0 = 2 := by rw [← (wI_size ho ht).1]; exact hk
  refine ⟨L i, out_dir hY h ho ht hk2, fun e he => ?_, h.w.nd i⟩
  obtain ⟨a, b, t', ht'⟩ := h.w.rg i e he
  exact ⟨a, by omega, by rw [(wI_size ho ht').1]; exact (ho.yes _ t' ht').2.1⟩
 ·rw [hsup]
  intro i h1 h2 hk
  obtain ⟨t, ht⟩ := wI_taken ho h1 (hlt i h2) hk
  have hen := h.w.en i t ht
  have hpo := h.w.po i t ht
  have hen2 := h.w.inv.en i t ht
  have hwant : wantW L (Y.toNat + 1) i = t.en := by
   rw [hen]
   unfold wantW
   by_cases e : i = 1
   ·subst e
    rw [if_pos rfl, if_pos rfl, cntL_zero (fun i e he => by have := (h.w.rg i e he).1; omega)]; rfl
   ·rw [if_neg e, if_neg e, cntI_cntL]; omega
  refine ⟨?_, ?_, ?_, ?_, ?_, out_tail hY hA h ho ht⟩
  ·rw [hent]
   exact fun P hP1 hC => h.w.rc P hP1 hC i t ht
  ·rw [hent, hwant, (ho.yes i t ht).1]
   rw [nth_set (by rw [(h.w.inv.snd i t ht).2.1]; decide), if_pos rfl]
  ·rw [hent, hwant]; exact hpo.1
  ·rw [hent, hwant]; exact hen2.2
  ·rw [hent, hwant]
   intro h2'
   exact hpo.2 (by rw [← (wI_size ho ht).1]; exact h2')
end Go.Proofs.YtmnecpnkkapflaaGreat
