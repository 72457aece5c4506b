import Derived.Test.YthioepdgnbdohaaGreatM07
import Derived.Test.YthioepdgnbdohaaGreatM08
import Derived.Test.YthioepdgnbdohaaGreatM09
import Derived.Test.YthioepdgnbdohaaGreatM10
namespace Go.Proofs.YthioepdgnbdohaaGreat
set_option maxHeartbeats 16000000
set_option maxRecDepth 1000000
set_option linter.unusedSimpArgs false
set_option linter.unusedVariables false
open Go.RowKit
structure Jk (X Y : Int) (E E2 : Nat -> Prop) (z z2 : LZ) : Prop where
 s : ∀ j : Nat, isD X Y j = true -> z.st.cl j = true -> ¬ nW z j -> ¬ E j -> z2.st.cl j = true /\ ¬ nW z2 j /\ ¬ E2 j /\ z2.st.S j = z.st.S j
 f : ∀ j : Nat, z.st.fm j = true -> z2.st.fm j = true
 t : ∀ i t, z.T i = some t -> ∃ t2, z2.T i = some t2 /\ t2.raw = t.raw /\ t2.bk = t.bk
theorem Jk.refl (X Y : Int) (E : Nat -> Prop) (z : LZ) : Jk X Y E E z z := ⟨fun j h1 h2 h3 h4 => ⟨h2, h3, h4, rfl⟩, fun j h => h, fun i t h => ⟨t, h, rfl, rfl⟩⟩
theorem Jk.trans {X Y : Int} {E1 E2 E3 : Nat -> Prop} {a b c : LZ} (h : Jk X Y E1 E2 a b) (h2 : Jk X Y E2 E3 b c) : Jk X Y E1 E3 a c := by
 refine ⟨fun j h1 h3 h4 h5 => ?_, fun j hj => h2.f j (h.f j hj), fun i t ht => ?_⟩
 ·obtain ⟨a1, a2, a3, a4⟩ := h.s j h1 h3 h4 h5;obtain ⟨b1, b2, b3, b4⟩ := h2.s j h1 a1 a2 a3;exact ⟨b1, b2, b3, b4.trans a4⟩
 ·obtain ⟨t2, a1, a2, a3⟩ := h.t i t ht;obtain ⟨t3, b1, b2, b3⟩ := h2.t i t2 a1;exact ⟨t3, b1, b2.trans a2, b3.trans a3⟩
def rest (bk : Int -> Option Int) (k : Nat) (j : Nat) : Prop := ∃ k' : Int, (k : Int) <= k' /\ bk k' = some (j : Int)
theorem eH {X Y : Int} (hY : 0 <= Y) {A : Nat -> List Int} {z : LZ} (h : Fl X Y A z) {i : Nat} (hT : z.T i = none) (n : Int) (raw : List Int) (E : Nat -> Prop) : Jk X Y E E z (C8 X Y i raw n z) := by
 have t := Sx hY h.si raw;refine ⟨fun j h1 h2 h3 h4 => ?_, fun j hj => ?_, fun j u hu => ?_⟩
 ·obtain ⟨a, b, c⟩ := t.gr j h2;refine ⟨a, ?_, h4, c⟩;rintro ⟨i2, hi2, u, k, hu, hk⟩;have hu2 : A3 z.T i ⟨(Ap X Y raw z.st).1, n, (Ap X Y raw z.st).2.bk⟩ i2.toNat = some u := hu;have hi3 : i2 ∈ (if nth raw 0 = 2 then z.q ++ [(i : Int)] else z.q) := hi2;by_cases hi : i2.toNat = i
  ·rw [hi, Cp] at hu2;obtain rfl := Option.some.inj hu2;have := (t.new k _ hk).2.2;rw [h2] at this; cases this
  ·rw [Cm _ _ hi] at hu2;split at hi3
   ·rw [List.mem_append, List.mem_singleton] at hi3;rcases hi3 with h5 | rfl
    ·exact h3 ⟨i2, h5, u, k, hu2, hk⟩
    ·exact hi rfl
   ·exact h3 ⟨i2, hi3, u, k, hu2, hk⟩
 ·have := (t.gr j (h.si.fc j hj)).2.1;show (Ap X Y raw z.st).2.fm j = true
  rw [this]; exact hj
 ·refine ⟨u, ?_, rfl, rfl⟩;show A3 z.T i _ j = _
  rw [Cm _ _ (fun e => by subst e; rw [hT] at hu; cases hu)];exact hu
theorem mD {X Y : Int} {z : LZ} {i : Nat} {t : TI} (ht : z.T i = some t) (n : Int) (E : Nat -> Prop) : Jk X Y E E z { z with T := A3 z.T i { t with en := n } } := by
 have hT : ∀ j u, A3 z.T i { t with en := n } j = some u -> ∃ u0, z.T j = some u0 /\ u.raw = u0.raw /\ u.bk = u0.bk := by
  intro j u hu;by_cases hj : j = i
  ·subst hj;rw [Cp] at hu;obtain rfl := Option.some.inj hu;exact ⟨t, ht, rfl, rfl⟩
  ·rw [Cm _ _ hj] at hu;exact ⟨u, hu, rfl, rfl⟩
 refine ⟨fun j h1 h2 h3 h4 => ⟨h2, ?_, h4, rfl⟩, fun j hj => hj, fun j u hu => ?_⟩
 ·rintro ⟨i2, hi2, u, k, hu, hk⟩;obtain ⟨u0, h5, h6, h7⟩ := hT _ u hu;exact h3 ⟨i2, hi2, u0, k, h5, by rw [<- h7]; exact hk⟩
 ·by_cases hj : j = i
  ·subst hj;rw [ht] at hu;obtain rfl := Option.some.inj hu;exact ⟨_, Cp _ _ _, rfl, rfl⟩
  ·exact ⟨u, by show A3 z.T i _ j = _; rw [Cm _ _ hj]; exact hu, rfl, rfl⟩
theorem Fl.enu {X Y : Int} {A : Nat -> List Int} {z : LZ} (h : Fl X Y A z) {i : Nat} {t : TI} (ht : z.T i = some t) {n : Int} (h0 : 0 <= n) (h1 : n <= 100) : Fl X Y A { z with T := A3 z.T i { t with en := n } } := by
 have hT : ∀ j u, A3 z.T i { t with en := n } j = some u -> ∃ u0, z.T j = some u0 /\ u.raw = u0.raw /\ u.bk = u0.bk /\ (u.en = u0.en \/ u.en = n) := by
  intro j u hu;by_cases hj : j = i
  ·subst hj;rw [Cp] at hu;obtain rfl := Option.some.inj hu;exact ⟨t, ht, rfl, rfl, .inr rfl⟩
  ·rw [Cm _ _ hj] at hu;exact ⟨u, hu, rfl, rfl, .inl rfl⟩
 refine ⟨h.si, fun j u k q hu hk => ?_, fun j u k j' u' k' q hu hk hu' hk' => ?_, fun j u k q hu hk => ?_, h.qn, fun j hj => ?_, fun j u hu => ?_, fun j u hu => ?_⟩
 ·obtain ⟨u0, a, b, c, -⟩ := hT j u hu;exact h.blk j u0 k q a (by rw [<- c]; exact hk)
 ·obtain ⟨u0, a, b, c, -⟩ := hT j u hu;obtain ⟨u0', a', b', c', -⟩ := hT j' u' hu';exact h.inj j u0 k j' u0' k' q a (by rw [<- c]; exact hk) a' (by rw [<- c']; exact hk')
 ·obtain ⟨u0, a, b, c, -⟩ := hT j u hu;rw [b];exact h.keys j u0 k q a (by rw [<- c]; exact hk)
 ·obtain ⟨a, u, hu, hk⟩ := h.qT j hj;refine ⟨a, ?_⟩;by_cases hji : j.toNat = i
  ·refine ⟨_, by show A3 z.T i _ j.toNat = _; rw [hji, Cp], ?_⟩;rw [hji, ht] at hu;obtain rfl := Option.some.inj hu;exact hk
  ·exact ⟨u, by show A3 z.T i _ j.toNat = _; rw [Cm _ _ hji]; exact hu, hk⟩
 ·obtain ⟨u0, a, b, c, -⟩ := hT j u hu;rw [b];exact h.snd j u0 a
 ·obtain ⟨u0, a, b, c, d⟩ := hT j u hu;rcases d with d | d
  ·rw [d]; exact h.en j u0 a
  ·rw [d]; exact ⟨h0, h1⟩
theorem P8 {X Y : Int} (hY : 0 <= Y) {A : Nat -> List Int} {z z2 : LZ} (h : Fl X Y A z) {i : Nat} (he : Ct X Y A i z = some z2) (E : Nat -> Prop) : Fl X Y A z2 /\ Jk X Y E E z z2 /\ (∀ j : Int, (∃ t, z.T j.toNat = some t) -> j ∉ z.q -> 0 <= j -> j ∉ z2.q) /\ ∀ j : Nat, z.st.cl j = true -> z2.st.S j = z.st.S j := by
 unfold Ct at he;split at he
 ·rename_i t ht
  split at he
  ·cases he
  ·rename_i hc
   obtain rfl := Option.some.inj he;have := h.en i t ht;exact ⟨h.enu ht (by omega) (by have := fun e => hc (.inr e); omega), mD ht _ E, fun _ _ hj _ => hj, fun _ _ => rfl⟩
 ·rename_i ht
  split at he
  ·rename_i hs
   obtain rfl := Option.some.inj he;refine ⟨h.take hY ht hs (by omega) (by omega), eH hY h ht 1 _ E, fun j hj hq h0 hq2 => ?_, fun j hj => ((Sx hY h.si (Al (A i)).1).gr j hj).2.2⟩;have hq3 : j ∈ (if nth (Al (A i)).1 0 = 2 then z.q ++ [(i : Int)] else z.q) := hq2;split at hq3
   ·rw [List.mem_append, List.mem_singleton] at hq3;rcases hq3 with h5 | rfl
    ·exact hq h5
    ·obtain ⟨u, hu⟩ := hj;have : z.T i = some u := hu;rw [ht] at this; cases this
   ·exact hq hq3
  ·cases he
structure Z7 (X Y : Int) (A : Nat -> List Int) (d : Nat) (E E2 : Nat -> Prop) (z z2 : LZ) : Prop where
 inv : Fl X Y A z2
 st : Jk X Y E E2 z z2
 q : (d : Int) ∉ z2.q
theorem iM : An (zl 128) = List.replicate 32 0 := by decide +kernel
theorem mG (c : List Int) : X3 (zl 128) c := by
 intro i;right
 rw [iM];unfold nth;rw [List.getElem?_replicate];split <;> rfl
theorem Fl.wipe {X Y : Int} {A : Nat -> List Int} {z : LZ} (h : Fl X Y A z) {p : Nat} (hc : z.st.cl p = true) : Fl X Y A (Cx p z) := by
 refine ⟨⟨h.si.fc, h.si.cd, fun k q hk => (by cases hk), fun k k' q hk => (by cases hk), fun j hj => ?_, fun j hj => ?_, fun j hj => ?_⟩, h.blk, h.inj, h.keys, h.qn, h.qT, h.snd, h.en⟩
 ·show Bn z.st.S p (zl 128) j = A j
  rw [C0 _ _ (fun e => by subst e; rw [show z.st.cl j = false from hj] at hc; cases hc)];exact h.si.un j hj
 ·show (Bn z.st.S p (zl 128) j).length = 128 /\ A0 (Bn z.st.S p (zl 128) j)
  by_cases hjp : j = p
  ·subst hjp; rw [Fk]; exact ⟨Ca _, Et _⟩
  ·rw [C0 _ _ hjp]; exact h.si.ln j hj
 ·show X3 (Bn z.st.S p (zl 128) j) _
  by_cases hjp : j = p
  ·subst hjp; rw [Fk]; exact mG _
  ·rw [C0 _ _ hjp]; exact h.si.sub j hj
theorem Zu {X Y : Int} (hY : 0 <= Y) {A : Nat -> List Int} {d : Nat} {t : TI} {zn : LZ × (ByteArray -> Bool)} (h : Fl X Y A zn.1) (hT : ∃ t0, zn.1.T d = some t0 /\ t0.bk = t.bk) (hq : (d : Int) ∉ zn.1.q) {k : Nat} {p : Int} (hk : t.bk k = some p) :
  Z7 X Y A d (rest t.bk k) (rest t.bk (k + 1)) zn.1 (Ey X Y A p.toNat zn).1 := by
 obtain ⟨t0, ht0, hb0⟩ := hT;obtain ⟨hd, hc⟩ := h.blk d t0 k p ht0 (by rw [hb0]; exact hk);have hp := (Ce hY hd).1;have hmono : ∀ j, rest t.bk (k + 1) j -> rest t.bk k j := fun j ⟨k', h1, h2⟩ => ⟨k', by omega, h2⟩
 have hpk : ∀ j : Nat, ¬ rest t.bk k j -> j ≠ p.toNat := fun j hj e => hj ⟨k, Int.le_refl _, by rw [hk, e, hp]⟩
 have hstay : Jk X Y (rest t.bk k) (rest t.bk (k + 1)) zn.1 zn.1 := ⟨fun j h1 h2 h3 h4 => ⟨h2, h3, fun h5 => h4 (hmono j h5), rfl⟩, fun j h => h, fun i t h => ⟨t, h, rfl, rfl⟩⟩;have hwipe : Z7 X Y A d (rest t.bk k) (rest t.bk (k + 1)) zn.1 (Cx p.toNat zn.1) := by
  refine ⟨h.wipe (by rw [hp]; exact hc), ⟨fun j h1 h2 h3 h4 => ⟨h2, h3, fun h5 => h4 (hmono j h5), ?_⟩, fun j h => h, fun i t h => ⟨t, h, rfl, rfl⟩⟩, hq⟩;show Bn zn.1.st.S p.toNat (zl 128) j = _
  exact C0 _ _ (hpk j h4)
 unfold Ey;split
 ·exact ⟨h, hstay, hq⟩
 ·split
  ·rename_i h2
   obtain ⟨-, -, h3⟩ := h2;generalize (A2 (zn.1.st.S p.toNat)).1.toNat = i at *;generalize (A2 (zn.1.st.S p.toNat)).2.1 = nm at *;unfold Cq at h3 ⊢;split at h3
   ·cases h3
   ·rename_i h4
    rw [if_neg h4];cases he : Ct X Y A i zn.1 with
    | none => rw [he] at h3; cases h3
    | some z2 =>
     obtain ⟨a, b, c, -⟩ := P8 hY h he (rest t.bk k);exact ⟨a, ⟨fun j h1 h2 h3 h4 => by
      obtain ⟨x1, x2, x3, x4⟩ := b.s j h1 h2 h3 h4;exact ⟨x1, x2, fun h5 => h4 (hmono j h5), x4⟩, b.f, b.t⟩, c d ⟨t0, ht0⟩ hq (Int.natCast_nonneg _)⟩
  ·exact hwipe
theorem Uu {X Y : Int} (hY : 0 <= Y) {A : Nat -> List Int} {d : Nat} {t : TI} : ∀ (m k : Nat) (zn : LZ × (ByteArray -> Bool)), Fl X Y A zn.1 -> (∃ t0, zn.1.T d = some t0 /\ t0.bk = t.bk) -> (d : Int) ∉ zn.1.q -> Z7 X Y A d (rest t.bk k) (rest t.bk (k + m)) zn.1 (Jg X Y A t.bk m k zn).1
 | 0, k, zn, h, hT, hq => ⟨h, Jk.refl _ _ _ _, hq⟩
 | m + 1, k, zn, h, hT, hq => by
  show Z7 X Y A d _ _ zn.1 (Jg X Y A t.bk m (k + 1) _).1
  cases hk : t.bk k with
  | none =>
   have ih := Uu hY m (k + 1) zn h hT hq;have hst : Jk X Y (rest t.bk k) (rest t.bk (k + 1)) zn.1 zn.1 := ⟨fun j h1 h2 h3 h4 => ⟨h2, h3, fun ⟨k', h5, h6⟩ => h4 ⟨k', by omega, h6⟩, rfl⟩, fun j h => h, fun i t h => ⟨t, h, rfl, rfl⟩⟩;exact ⟨ih.inv, by rw [show k + (m + 1) = k + 1 + m by omega]; exact hst.trans ih.st, ih.q⟩
  | some p =>
   have hs := Zu hY h hT hq hk;obtain ⟨t0, ht0, hb0⟩ := hT;obtain ⟨t1, ht1, -, hb1⟩ := hs.st.t d t0 ht0;have ih := Uu hY m (k + 1) (Ey X Y A p.toNat zn) hs.inv ⟨t1, ht1, hb1.trans hb0⟩ hs.q;exact ⟨ih.inv, by rw [show k + (m + 1) = k + 1 + m by omega]; exact hs.st.trans ih.st, ih.q⟩
def noE (_ : Nat) : Prop := False
theorem Fl.pop {X Y : Int} {A : Nat -> List Int} {z : LZ} (h : Fl X Y A z) {i : Int} {r : List Int} (hq : z.q = i :: r) : Fl X Y A { z with q := r } :=
 ⟨h.si, h.blk, h.inj, h.keys, by have := h.qn; rw [hq] at this; exact (List.nodup_cons.1 this).2, fun j hj => h.qT j (by rw [hq]; exact List.mem_cons_of_mem _ hj), h.snd, h.en⟩
theorem kO {X Y : Int} (hY : 0 <= Y) {A : Nat -> List Int} {z : LZ} (h : Fl X Y A z) {i : Int} {r : List Int} (hq : z.q = i :: r) :
  Fl X Y A (Cv X Y A i.toNat { z with q := r }) /\ Jk X Y noE noE z (Cv X Y A i.toNat { z with q := r }) := by
 obtain ⟨h0, t, ht, -⟩ := h.qT i (by rw [hq]; exact List.mem_cons_self);have hp := h.pop hq;have hir : i ∉ r := by have := h.qn; rw [hq] at this; exact (List.nodup_cons.1 this).1
 have hi : (i.toNat : Int) = i := by omega
 have hd := Uu hY (t := t) (Aw (nth t.raw 2)).toNat 0 ({ z with q := r }, fun _ => false) hp ⟨t, ht, rfl⟩ (by rw [hi]; exact hir);have e : Cv X Y A i.toNat { z with q := r } = (Jg X Y A t.bk (Aw (nth t.raw 2)).toNat 0 ({ z with q := r }, fun _ => false)).1 := by
  unfold Cv;show (match z.T i.toNat with | none => _ | some t => _) = _
  rw [ht]
 rw [e];refine ⟨hd.inv, ?_⟩;have s1 : Jk X Y noE (rest t.bk 0) z { z with q := r } := by
  refine ⟨fun j h1 h2 h3 h4 => ⟨h2, ?_, ?_, rfl⟩, fun j h => h, fun i t h => ⟨t, h, rfl, rfl⟩⟩
  ·rintro ⟨i2, hi2, u, k, hu, hk⟩;exact h3 ⟨i2, by rw [hq]; exact List.mem_cons_of_mem _ hi2, u, k, hu, hk⟩
  ·rintro ⟨k', h5, h6⟩;exact h3 ⟨i, by rw [hq]; exact List.mem_cons_self, t, k', ht, h6⟩
 have s2 := hd.st;rw [Nat.zero_add] at s2;have s3 := s1.trans s2;refine ⟨fun j h1 h2 h3 h4 => ?_, s3.f, s3.t⟩;obtain ⟨a, b, c, d⟩ := s3.s j h1 h2 h3 h4;exact ⟨a, b, fun h => h, d⟩
theorem gV {X Y : Int} (hY : 0 <= Y) {A : Nat -> List Int} : ∀ (f : Nat) (z : LZ), Fl X Y A z -> Fl X Y A (Hr X Y A f z) /\ Jk X Y noE noE z (Hr X Y A f z)
 | 0, z, h => ⟨h, Jk.refl _ _ _ _⟩
 | f + 1, z, h => by
  cases hq : z.q with
  | nil => rw [Ib _ _ _ _ _ hq]; exact ⟨h, Jk.refl _ _ _ _⟩
  | cons i r =>
   rw [Fz _ _ _ _ _ _ _ hq];obtain ⟨a, b⟩ := kO hY h hq;obtain ⟨c, d⟩ := gV hY f _ a;exact ⟨c, b.trans d⟩
def psT (S : Nat -> List Int) (t : TI) : List Int := Dj (Aw (nth t.raw 2)) S t.raw
def tbT (S : Nat -> List Int) (t : TI) : List Int := F5 (Aw (nth t.raw 2)) S t.raw
structure PZ (X Y : Int) (z : LZ) : Prop where
 sh : ∀ i t, z.T i = some t -> Hp (Aw (nth t.raw 2)) z.st.S t.raw
 ok : ∀ i t, z.T i = some t -> OkL X Y (fun _ => false) (psT z.st.S t)
 cl : ∀ i t, z.T i = some t -> ∀ p ∈ psT z.st.S t, z.st.cl p = true
 dj : ∀ i t i' t' p, z.T i = some t -> z.T i' = some t' -> p ∈ psT z.st.S t -> p ∈ psT z.st.S t' -> i = i'
 un : ∀ q, z.st.cl q = true -> ∃ i t, z.T i = some t /\ q ∈ psT z.st.S t
 tb : ∀ i t, z.T i = some t -> ∀ p ∈ tbT z.st.S t, z.st.fm p = true /\ ∀ i' t' k, z.T i' = some t' -> t'.bk k ≠ some p
 bk : ∀ i t, z.T i = some t -> ∀ q, 0 <= q -> q < 1068 -> t.bk q = Hk (G7 (Aw (nth t.raw 2)) z.st.S t.raw q)
theorem PZ.same {X Y : Int} {z z2 : LZ} (h : PZ X Y z) (h1 : ∀ i t2, z2.T i = some t2 -> ∃ t, z.T i = some t /\ t2.raw = t.raw /\ t2.bk = t.bk) (h2 : ∀ i t, z.T i = some t -> ∃ t2, z2.T i = some t2 /\ t2.raw = t.raw /\ t2.bk = t.bk)
  (hcl : z2.st.cl = z.st.cl) (hfm : z2.st.fm = z.st.fm) (hS : ∀ i t, z.T i = some t -> ∀ q ∈ tbT z.st.S t, z2.st.S q.toNat = z.st.S q.toNat) : PZ X Y z2 := by
 have key : ∀ i t2, z2.T i = some t2 -> ∃ t, z.T i = some t /\ t2.raw = t.raw /\ t2.bk = t.bk /\ psT z2.st.S t2 = psT z.st.S t /\ tbT z2.st.S t2 = tbT z.st.S t /\ (Hp (Aw (nth t2.raw 2)) z2.st.S t2.raw ↔ Hp (Aw (nth t.raw 2)) z.st.S t.raw) /\ ∀ q, G7 (Aw (nth t2.raw 2)) z2.st.S t2.raw q = G7 (Aw (nth t.raw 2)) z.st.S t.raw q := by
  intro i t2 ht2;obtain ⟨t, ht, e1, e2⟩ := h1 i t2 ht2;obtain ⟨a, b, c, d⟩ := U3 (Aw (nth t.raw 2)) z.st.S z2.st.S t.raw (hS i t ht);refine ⟨t, ht, e1, e2, ?_, ?_, ?_, ?_⟩
  ·unfold psT; rw [e1]; exact a
  ·unfold tbT; rw [e1]; exact b
  ·rw [e1]; exact c
  ·rw [e1]; exact d
 refine ⟨fun i t2 ht2 => ?_, fun i t2 ht2 => ?_, fun i t2 ht2 p hp => ?_, fun i t2 i' t2' p ht2 ht2' hp hp' => ?_, fun q hq => ?_, fun i t2 ht2 p hp => ?_, fun i t2 ht2 q h0 h9 => ?_⟩
 ·obtain ⟨t, ht, -, -, -, -, e, -⟩ := key i t2 ht2;exact e.2 (h.sh i t ht)
 ·obtain ⟨t, ht, -, -, e, -⟩ := key i t2 ht2;rw [e]; exact h.ok i t ht
 ·obtain ⟨t, ht, -, -, e, -⟩ := key i t2 ht2;rw [e] at hp;rw [hcl]; exact h.cl i t ht p hp
 ·obtain ⟨t, ht, -, -, e, -⟩ := key i t2 ht2;obtain ⟨t', ht', -, -, e', -⟩ := key i' t2' ht2';rw [e] at hp; rw [e'] at hp';exact h.dj i t i' t' p ht ht' hp hp'
 ·rw [hcl] at hq;obtain ⟨i, t, ht, hp⟩ := h.un q hq;obtain ⟨t2, ht2, -, -⟩ := h2 i t ht;obtain ⟨t0, ht0, -, -, e, -⟩ := key i t2 ht2;rw [ht] at ht0; cases ht0;exact ⟨i, t2, ht2, by rw [e]; exact hp⟩
 ·obtain ⟨t, ht, -, -, -, e, -⟩ := key i t2 ht2;rw [e] at hp;obtain ⟨a, b⟩ := h.tb i t ht p hp;refine ⟨by rw [hfm]; exact a, fun i' t2' k ht2' => ?_⟩;obtain ⟨t', ht', -, e', -⟩ := key i' t2' ht2';rw [e']; exact b i' t' k ht'
 ·obtain ⟨t, ht, -, e', -, -, -, e⟩ := key i t2 ht2;rw [e', e]; exact h.bk i t ht q h0 h9
theorem He (X Y : Int) (raw : List Int) (st : LS) : (Ap X Y raw st).1 = (Bd X Y (Aw (nth raw 2)) raw (D9 st)).1 /\ (Ap X Y raw st).2 = if nth raw 0 = 2 then E4 (Aw (nth raw 2)) (Bd X Y (Aw (nth raw 2)) raw (D9 st)).2 else B7 (Aw (nth raw 2)) (nth raw 2) (Bd X Y (Aw (nth raw 2)) raw (D9 st)).2 := by
 unfold Ap D9;simp only;split <;> exact ⟨rfl, rfl⟩
theorem Lx (n z : Int) (st : LS) : (B7 n z st).cl = st.cl /\ (B7 n z st).fm = st.fm /\ (B7 n z st).bk = st.bk := by
 unfold B7;split
 ·exact ⟨rfl, rfl, rfl⟩
 ·split <;> exact ⟨rfl, rfl, rfl⟩
theorem mH {n z : Int} {st : LS} (hv : ∀ k p, st.bk k = some p -> 0 <= p) (j : Nat) (hj : ∀ k, st.bk k ≠ some (j : Int)) : (B7 n z st).S j = st.S j := by
 unfold B7;split
 ·rfl
 ·rename_i p hp
  split
  ·rfl
  ·refine C0 _ _ (fun e => hj (n - 1) ?_);have := hv _ _ hp;rw [hp, e]; congr 1; omega
structure pH (X Y : Int) (st st2 : LS) (n : Int) (raw2 : List Int) : Prop where
 sh : Hp n st2.S raw2
 ok : OkL X Y st.cl (Dj n st2.S raw2)
 cl : st2.cl = C3 st.cl (Dj n st2.S raw2)
 tb : ∀ q ∈ F5 n st2.S raw2, st2.fm q = true /\ ∀ k, st2.bk k ≠ some q
 bk : ∀ q, 0 <= q -> q < 1068 -> st2.bk q = Hk (G7 n st2.S raw2 q)
theorem oI {X Y : Int} (hY : 0 <= Y) {A : Nat -> List Int} {st : LS} (h : SI X Y A (D9 st)) {raw : List Int} (hr : raw.length = 18) : pH X Y st (Ap X Y raw st).2 (Aw (nth raw 2)) (Ap X Y raw st).1 := by
 obtain ⟨i, d, g⟩ := Zg hY (Aw (nth raw 2)) raw h;obtain ⟨a1, a2, a3, a4, a5⟩ := iK hY (Aw (nth raw 2)) hr h (fun _ => rfl);obtain ⟨e1, e2⟩ := He X Y raw st;rw [e1, e2];change OkL X Y st.cl _ at a2;change _ = C3 st.cl _ at a3;generalize Bd X Y (Aw (nth raw 2)) raw (D9 st) = r at *;have hnb : ∀ q ∈ F5 (Aw (nth raw 2)) r.2.S r.1, ∀ k, r.2.bk k ≠ some q := fun q hq k hk => by
  have := (i.bk k q hk).2.2;rw [a4 q hq] at this; cases this
 split
 ·refine ⟨a1, a2, a3, fun q hq => ⟨Qx (a4 q hq), hnb q hq⟩, a5⟩
 ·obtain ⟨t1, t2, t3⟩ := Lx (Aw (nth raw 2)) (nth raw 2) r.2;have hv : ∀ k p, r.2.bk k = some p -> 0 <= p := fun k p hk => Int.le_of_lt (U5 hY (i.bk k p hk).1)
  obtain ⟨s1, s2, s3, s4⟩ := U3 (Aw (nth raw 2)) r.2.S (B7 (Aw (nth raw 2)) (nth raw 2) r.2).S r.1 (fun q hq => by
   have hd := (a2.1 q (J6 _ _ _ q hq)).1;have e := (Ce hY hd).1;refine mH hv _ (fun k hk => ?_);rw [e] at hk;exact hnb q hq k hk)
  refine ⟨s3.2 a1, by rw [s1]; exact a2, by rw [s1, t1]; exact a3, fun q hq => ?_, fun q h0 h9 => by rw [t3, s4]; exact a5 q h0 h9⟩;rw [s2] at hq;exact ⟨by rw [t2]; exact a4 q hq, fun k => by rw [t3]; exact hnb q hq k⟩
theorem PZ.take {X Y : Int} (hY : 0 <= Y) {A : Nat -> List Int} {z : LZ} (h : PZ X Y z) (hI : Fl X Y A z) {i : Nat} (hT : z.T i = none) {raw : List Int} (hr : raw.length = 18) (n : Int) : PZ X Y (C8 X Y i raw n z) := by
 have hf := oI hY hI.si hr;have hti := Sx hY hI.si raw;have e2 : nth (Ap X Y raw z.st).1 2 = nth raw 2 := by
  rw [(He X Y raw z.st).1];exact (Ij (X := X) hY (Aw (nth raw 2)) hr (D9 z.st)).1 2 (by omega)
 have hS : (C8 X Y i raw n z).st = (Ap X Y raw z.st).2 := rfl;have hnew : (C8 X Y i raw n z).T i = some ⟨(Ap X Y raw z.st).1, n, (Ap X Y raw z.st).2.bk⟩ := Cp _ _ _;have hold : ∀ {j : Nat} {u : TI}, (C8 X Y i raw n z).T j = some u -> (j = i /\ u = ⟨(Ap X Y raw z.st).1, n, (Ap X Y raw z.st).2.bk⟩) \/ (j ≠ i /\ z.T j = some u) := by
  intro j u hu;have hu2 : A3 z.T i ⟨(Ap X Y raw z.st).1, n, (Ap X Y raw z.st).2.bk⟩ j = some u := hu;by_cases hj : j = i
  ·subst hj;rw [Cp] at hu2;exact .inl ⟨rfl, (Option.some.inj hu2).symm⟩
  ·rw [Cm _ _ hj] at hu2;exact .inr ⟨hj, hu2⟩
 have hkeep : ∀ {j : Nat} {u : TI}, z.T j = some u -> (C8 X Y i raw n z).T j = some u := by
  intro j u hu;show A3 z.T i _ j = _
  rw [Cm _ _ (fun e => by rw [e, hT] at hu; cases hu)];exact hu
 generalize Ap X Y raw z.st = x at *;have hst : ∀ j u, z.T j = some u -> psT x.2.S u = psT z.st.S u /\ tbT x.2.S u = tbT z.st.S u /\ (Hp (Aw (nth u.raw 2)) x.2.S u.raw ↔ Hp (Aw (nth u.raw 2)) z.st.S u.raw) /\ ∀ q, G7 (Aw (nth u.raw 2)) x.2.S u.raw q = G7 (Aw (nth u.raw 2)) z.st.S u.raw q := by
  intro j u hu;refine U3 (Aw (nth u.raw 2)) z.st.S x.2.S u.raw (fun q hq => ?_);have hc := h.cl j u hu q (J6 _ _ _ q hq);have hd := ((h.ok j u hu).1 q (J6 _ _ _ q hq)).1;have e := (Ce hY hd).1;exact (hti.gr q.toNat (by rw [e]; exact hc)).2.2
 have hpn : psT x.2.S ⟨x.1, n, x.2.bk⟩ = Dj (Aw (nth raw 2)) x.2.S x.1 := by
  show Dj (Aw (nth x.1 2)) x.2.S x.1 = _
  rw [e2]
 have htn : tbT x.2.S ⟨x.1, n, x.2.bk⟩ = F5 (Aw (nth raw 2)) x.2.S x.1 := by
  show F5 (Aw (nth x.1 2)) x.2.S x.1 = _
  rw [e2]
 have hcln : ∀ q, q ∈ Dj (Aw (nth raw 2)) x.2.S x.1 -> z.st.cl q = false := fun q hq => (hf.ok.1 q hq).2
 refine ⟨fun j u hu => ?_, fun j u hu => ?_, fun j u hu p hp => ?_, fun j u j' u' p hu hu' hp hp' => ?_, fun q hq => ?_, fun j u hu p hp => ?_, fun j u hu q h0 h9 => ?_⟩
 ·rw [hS];rcases hold hu with ⟨rfl, rfl⟩ | ⟨-, hu2⟩
  ·show Hp (Aw (nth x.1 2)) x.2.S x.1
   rw [e2]; exact hf.sh
  ·exact (hst j u hu2).2.2.1.2 (h.sh j u hu2)
 ·rw [hS];rcases hold hu with ⟨rfl, rfl⟩ | ⟨-, hu2⟩
  ·rw [hpn]; exact hf.ok.mono (fun _ _ => rfl)
  ·rw [(hst j u hu2).1]; exact h.ok j u hu2
 ·rw [hS] at hp ⊢;rcases hold hu with ⟨rfl, rfl⟩ | ⟨-, hu2⟩
  ·rw [hpn] at hp;rw [hf.cl]; exact Mx.2 (.inr hp)
  ·rw [(hst j u hu2).1] at hp;rw [hf.cl]; exact Mx.2 (.inl (h.cl j u hu2 p hp))
 ·rw [hS] at hp hp';rcases hold hu with ⟨rfl, rfl⟩ | ⟨-, hu2⟩
  ·rcases hold hu' with ⟨rfl, rfl⟩ | ⟨-, hu2'⟩
   ·rfl
   ·rw [hpn] at hp;rw [(hst j' u' hu2').1] at hp';have := h.cl j' u' hu2' p hp';rw [hcln p hp] at this; cases this
  ·rcases hold hu' with ⟨rfl, rfl⟩ | ⟨-, hu2'⟩
   ·rw [hpn] at hp';rw [(hst j u hu2).1] at hp;have := h.cl j u hu2 p hp;rw [hcln p hp'] at this; cases this
   ·rw [(hst j u hu2).1] at hp;rw [(hst j' u' hu2').1] at hp';exact h.dj j u j' u' p hu2 hu2' hp hp'
 ·rw [hS, hf.cl] at hq;rcases Mx.1 hq with hq | hq
  ·obtain ⟨j, u, hu, hp⟩ := h.un q hq;exact ⟨j, u, hkeep hu, by rw [hS, (hst j u hu).1]; exact hp⟩
  ·exact ⟨i, _, hnew, by rw [hS, hpn]; exact hq⟩
 ·rw [hS] at hp ⊢;rcases hold hu with ⟨rfl, rfl⟩ | ⟨-, hu2⟩
  ·rw [htn] at hp;obtain ⟨a, b⟩ := hf.tb p hp;refine ⟨a, fun j' u' k hu' => ?_⟩;rcases hold hu' with ⟨rfl, rfl⟩ | ⟨-, hu2'⟩
   ·exact b k
   ·intro hk;have := (hI.blk j' u' k p hu2' hk).2;rw [hcln p (J6 _ _ _ p hp)] at this; cases this
  ·rw [(hst j u hu2).2.1] at hp;obtain ⟨a, b⟩ := h.tb j u hu2 p hp;have hc := h.cl j u hu2 p (J6 _ _ _ p hp);have hd := ((h.ok j u hu2).1 p (J6 _ _ _ p hp)).1;have e := (Ce hY hd).1;have hfm := (hti.gr p.toNat (by rw [e]; exact hc)).2.1;rw [e] at hfm;refine ⟨by rw [hfm]; exact a, fun j' u' k hu' => ?_⟩;rcases hold hu' with ⟨rfl, rfl⟩ | ⟨-, hu2'⟩
   ·intro hk;have := (hti.new k p hk).2.2;rw [hc] at this; cases this
   ·exact b j' u' k hu2'
 ·rw [hS];rcases hold hu with ⟨rfl, rfl⟩ | ⟨-, hu2⟩
  ·show x.2.bk q = Hk (G7 (Aw (nth x.1 2)) x.2.S x.1 q)
   rw [e2]; exact hf.bk q h0 h9
  ·rw [(hst j u hu2).2.2.2]; exact h.bk j u hu2 q h0 h9
theorem PZ.enu {X Y : Int} {z : LZ} (h : PZ X Y z) {i : Nat} {t : TI} (ht : z.T i = some t) (n : Int) : PZ X Y { z with T := A3 z.T i { t with en := n } } := by
 refine h.same (fun j t2 h2 => ?_) (fun j t2 h2 => ?_) rfl rfl (fun _ _ _ _ _ => rfl)
 ·have h3 : A3 z.T i { t with en := n } j = some t2 := h2;by_cases hj : j = i
  ·subst hj;rw [Cp] at h3;cases h3;exact ⟨t, ht, rfl, rfl⟩
  ·rw [Cm _ _ hj] at h3;exact ⟨t2, h3, rfl, rfl⟩
 ·by_cases hj : j = i
  ·subst hj;rw [ht] at h2; cases h2;exact ⟨{ t with en := n }, Cp _ _ _, rfl, rfl⟩
  ·exact ⟨t2, (Cm _ _ hj).trans h2, rfl, rfl⟩
theorem PZ.wipe {X Y : Int} (hY : 0 <= Y) {z : LZ} (h : PZ X Y z) {i : Nat} {t : TI} (ht : z.T i = some t) {k p : Int} (hk : t.bk k = some p) : PZ X Y (Cx p.toNat z) := by
 refine h.same (fun j t2 h2 => ⟨t2, h2, rfl, rfl⟩) (fun j t2 h2 => ⟨t2, h2, rfl, rfl⟩) rfl rfl (fun j u hu q hq => ?_);have hd := ((h.ok j u hu).1 q (J6 _ _ _ q hq)).1;have e := (Ce hY hd).1;refine C0 _ _ (fun e2 => ?_);have hb := (h.tb j u hu q hq).2 i t k ht;rw [hk] at hb;apply hb
 congr 1
 have : 0 < q := U5 hY hd;omega
theorem PZ.q {X Y : Int} {z : LZ} (h : PZ X Y z) (q : List Int) : PZ X Y { z with q := q } := ⟨h.sh, h.ok, h.cl, h.dj, h.un, h.tb, h.bk⟩
def O7 (A S : Nat -> List Int) (raw : List Int) (k p : Int) : Prop :=
 if nth raw 0 = 2 then S p.toNat = A p.toNat \/ S p.toNat = zl 128
 else S p.toNat = if k = Aw (nth raw 2) - 1 /\ nth raw 2 % 128 ≠ 0 then Df (A p.toNat) (nth raw 2 % 128).toNat else A p.toNat
structure CZ (A : Nat -> List Int) (z : LZ) : Prop where
 b : ∀ i t, z.T i = some t -> ∀ k p, t.bk k = some p -> O7 A z.st.S t.raw k p
 f : ∀ i t, z.T i = some t -> ∀ k p, t.bk k = some p -> (z.st.fm p = true ↔ nth t.raw 0 = 2)
theorem CZ.same {X Y : Int} {A : Nat -> List Int} {z z2 : LZ} (h : CZ A z) (h1 : ∀ i t2, z2.T i = some t2 -> ∃ t, z.T i = some t /\ t2.raw = t.raw /\ t2.bk = t.bk) (hS : ∀ i t k p, z.T i = some t -> t.bk k = some p -> z2.st.S p.toNat = z.st.S p.toNat) (hF : z2.st.fm = z.st.fm) : CZ A z2 := by
 refine ⟨fun i t2 ht2 k p hk => ?_, fun i t2 ht2 k p hk => ?_⟩
 ·obtain ⟨t, ht, e1, e2⟩ := h1 i t2 ht2;rw [e2] at hk;have := h.b i t ht k p hk;unfold O7 at this ⊢;rw [e1, hS i t k p ht hk];exact this
 ·obtain ⟨t, ht, e1, e2⟩ := h1 i t2 ht2;rw [e2] at hk;rw [hF, e1];exact h.f i t ht k p hk
theorem CZ.enu {A : Nat -> List Int} {z : LZ} (h : CZ A z) {i : Nat} {t : TI} (ht : z.T i = some t) (n : Int) : CZ A { z with T := A3 z.T i { t with en := n } } := by
 refine h.same (X := 0) (Y := 0) (fun j t2 h2 => ?_) (fun _ _ _ _ _ _ => rfl) rfl;have h3 : A3 z.T i { t with en := n } j = some t2 := h2;by_cases hj : j = i
 ·subst hj;rw [Cp] at h3;cases h3;exact ⟨t, ht, rfl, rfl⟩
 ·rw [Cm _ _ hj] at h3;exact ⟨t2, h3, rfl, rfl⟩
theorem CZ.wipe {X Y : Int} (hY : 0 <= Y) {A : Nat -> List Int} {z : LZ} (h : CZ A z) (hI : Fl X Y A z) {i : Nat} {t : TI} (ht : z.T i = some t) (h2 : nth t.raw 0 = 2) {k p : Int} (hk : t.bk k = some p) : CZ A (Cx p.toNat z) := by
 have hp := (Ce hY (hI.blk i t k p ht hk).1).1;refine ⟨fun j u hu k' p' hk' => ?_, h.f⟩;have hu' : z.T j = some u := hu;have hb := h.b j u hu' k' p' hk';have hp' := (Ce hY (hI.blk j u k' p' hu' hk').1).1;by_cases e : p' = p
 ·subst e;obtain ⟨rfl, -⟩ := hI.inj j u k' i t k p' hu' hk' ht hk;have eu : u = t := by rw [ht] at hu'; exact (Option.some.inj hu').symm
  subst eu;unfold O7;rw [if_pos h2];right
  exact Fk _ _ _
 ·have hS : (Cx p.toNat z).st.S p'.toNat = z.st.S p'.toNat := C0 _ _ (fun e2 => e (by rw [<- hp, <- hp', e2]));unfold O7 at hb ⊢;rw [hS]; exact hb
theorem CZ.q {A : Nat -> List Int} {z : LZ} (h : CZ A z) (q : List Int) : CZ A { z with q := q } := ⟨h.b, h.f⟩
theorem CZ.take {X Y : Int} (hY : 0 <= Y) {A : Nat -> List Int} {z : LZ} (h : CZ A z) (hI : Fl X Y A z) {i : Nat} (hT : z.T i = none) {raw : List Int} (hr : raw.length = 18) (n : Int) : CZ A (C8 X Y i raw n z) := by
 obtain ⟨pi, d, g⟩ := Zg hY (Aw (nth raw 2)) raw hI.si;have hti := Sx hY hI.si raw;obtain ⟨e1, e2⟩ := He X Y raw z.st;have hkind := (Ij (X := X) hY (Aw (nth raw 2)) hr (D9 z.st)).1;rw [<- e1] at hkind;have hkeys := M3 X Y (Aw (nth raw 2)) raw (D9 z.st) (fun k hk => by cases hk);refine ⟨fun j u hu k p hk => ?_, fun j u hu k p hk => ?_⟩
 case' refine_2 =>
  have hu2 : A3 z.T i ⟨(Ap X Y raw z.st).1, n, (Ap X Y raw z.st).2.bk⟩ j = some u := hu;show (Ap X Y raw z.st).2.fm p = true ↔ nth u.raw 0 = 2
  by_cases hj : j = i
  ·subst hj;rw [Cp] at hu2;cases hu2;have hk2 : (Ap X Y raw z.st).2.bk k = some p := hk;show _ ↔ nth (Ap X Y raw z.st).1 0 = 2
   rw [hkind 0 (by omega)];rw [e2] at hk2 ⊢;generalize Bd X Y (Aw (nth raw 2)) raw (D9 z.st) = r at *;by_cases h2 : nth raw 0 = 2
   ·rw [if_pos h2] at hk2 ⊢;have hk3 : r.2.bk k = some p := hk2;refine ⟨fun _ => h2, fun _ => ?_⟩;obtain ⟨k1, k2⟩ := hkeys k (by rw [hk3]; rfl);show (r.2.fm p || (List.range (Aw (nth raw 2)).toNat).any fun k => r.2.bk k == some p) = true
    rw [Bool.or_eq_true, List.any_eq_true];refine .inr ⟨k.toNat, List.mem_range.2 (by omega), ?_⟩;rw [show ((k.toNat : Nat) : Int) = k by omega, hk3];simp
   ·rw [if_neg h2] at hk2 ⊢;obtain ⟨t1, t2, t3⟩ := Lx (Aw (nth raw 2)) (nth raw 2) r.2;have hk3 : r.2.bk k = some p := by rw [t3] at hk2; exact hk2
    rw [t2, (pi.bk k p hk3).2.2];exact ⟨fun hh => (by cases hh), fun hh => absurd hh h2⟩
  ·rw [Cm _ _ hj] at hu2;obtain ⟨a, b⟩ := hI.blk j u k p hu2 hk;have hp := (Ce hY a).1;have hfm := (hti.gr p.toNat (by rw [hp]; exact b)).2.1;rw [hp] at hfm;have hfm2 : (Ap X Y raw z.st).2.fm p = z.st.fm p := hfm;rw [hfm2];exact h.f j u hu2 k p hk
 have hu2 : A3 z.T i ⟨(Ap X Y raw z.st).1, n, (Ap X Y raw z.st).2.bk⟩ j = some u := hu;show O7 A (Ap X Y raw z.st).2.S u.raw k p
 by_cases hj : j = i
 ·subst hj;rw [Cp] at hu2;cases hu2;have hk2 : (Ap X Y raw z.st).2.bk k = some p := hk;obtain ⟨a, b, c⟩ := hti.new k p hk2;have hp := (Ce hY a).1;show O7 A (Ap X Y raw z.st).2.S (Ap X Y raw z.st).1 k p
  unfold O7;rw [hkind 0 (by omega), hkind 2 (by omega)];rw [e2] at hk2 ⊢;generalize Bd X Y (Aw (nth raw 2)) raw (D9 z.st) = r at *;have hA : z.st.S p.toNat = A p.toNat := hI.si.un p.toNat (by rw [hp]; exact c);by_cases h2 : nth raw 0 = 2
  ·rw [if_pos h2] at hk2 ⊢;rw [if_pos h2];left
   have hk3 : r.2.bk k = some p := hk2;have hf := (pi.bk k p hk3).2.2;show r.2.S p.toNat = _
   rw [d.same p.toNat (by rw [hp]; exact hf)];exact hA
  ·rw [if_neg h2] at hk2 ⊢;rw [if_neg h2];obtain ⟨t1, t2, t3⟩ := Lx (Aw (nth raw 2)) (nth raw 2) r.2;have hk3 : r.2.bk k = some p := by rw [t3] at hk2; exact hk2
   have hf := (pi.bk k p hk3).2.2;have hS : r.2.S p.toNat = A p.toNat := by
    rw [d.same p.toNat (by rw [hp]; exact hf)];exact hA
   unfold B7;cases hb : r.2.bk (Aw (nth raw 2) - 1) with
   | none =>
    simp only;rw [if_neg (fun hh => by rw [hh.1, hb] at hk3; cases hk3), hS]
   | some p0 =>
    simp only;have hp0 := (Ce hY (pi.bk _ p0 hb).1).1;by_cases hz : nth raw 2 % 128 = 0
    ·rw [if_pos hz, if_neg (fun hh => hh.2 hz), hS]
    ·rw [if_neg hz];by_cases hl : k = Aw (nth raw 2) - 1
     ·rw [if_pos ⟨hl, hz⟩];have ep : p0 = p := by rw [hl, hb] at hk3; exact Option.some.inj hk3
      subst ep;show Bn _ _ _ _ = _
      rw [Fk, hS]
     ·rw [if_neg (fun hh => hl hh.1)];show Bn _ _ _ _ = _
      rw [C0 _ _ (fun e => hl (pi.inj k _ p hk3 (by rw [hb]; congr 1; omega))), hS]
 ·rw [Cm _ _ hj] at hu2;have hb := h.b j u hu2 k p hk;obtain ⟨a, b⟩ := hI.blk j u k p hu2 hk;have hp := (Ce hY a).1;have hS := (hti.gr p.toNat (by rw [hp]; exact b)).2.2;have hS2 : (Ap X Y raw z.st).2.S p.toNat = z.st.S p.toNat := hS;unfold O7 at hb ⊢;rw [hS2]; exact hb
def Gd (z : LZ) (c k : Nat) (i : Nat) (t : TI) : Nat := if (i : Int) ∈ z.q then 0 else if i = c then k else (Aw (nth t.raw 2)).toNat
structure WZ (X Y : Int) (A : Nat -> List Int) (L : Nat -> List Ent) (c k : Nat) (z : LZ) : Prop where
 inv : Fl X Y A z
 pz : PZ X Y z
 cz : CZ A z
 rg : ∀ i e, e ∈ L i -> 2 <= e.1 /\ e.1 <= Y /\ ∃ t, z.T e.1.toNat = some t
 nd : ∀ i, ((L i).map Prod.snd).Nodup
 nl : ∀ i, L i ≠ [] -> ∃ t, z.T i = some t /\ nth t.raw 0 = 2
 ix : ∀ i t, z.T i = some t -> 1 <= i /\ (i : Int) <= Y
 en : ∀ j t, z.T j = some t -> t.en = (if j = 1 then 1 else 0) + (fC L Y.toNat j : Int)
 po : ∀ j t, z.T j = some t -> 1 <= t.en /\ (nth t.raw 0 = 2 -> t.en = 1)
 rc : ∀ P : Nat -> Prop, P 1 -> (∀ i e, P i -> e ∈ L i -> P e.1.toNat) -> ∀ j t, z.T j = some t -> P j
 r1 : ∃ t, z.T 1 = some t
 sl : ∀ i t, z.T i = some t -> nth t.raw 0 = 2 -> Cz z.st.S (bkL t.bk (Gd z c k i t)) [] = some (L i)
theorem WZ.blocks {X Y : Int} (hY : 0 <= Y) {A : Nat -> List Int} {L : Nat -> List Ent} {c k : Nat} {z : LZ} (h : WZ X Y A L c k z) {i : Nat} {t : TI} (ht : z.T i = some t) {n : Nat} {p : Int} (hp : p ∈ bkL t.bk n) (h0 : p ≠ 0) : z.st.cl (p.toNat : Nat) = true /\ ∃ k' : Nat, k' < n /\ t.bk k' = some p := by
 obtain ⟨k', h1, h2⟩ := lM hp h0;obtain ⟨hd, hc⟩ := h.inv.blk i t k' p ht h2;rw [(Ce hY hd).1];exact ⟨hc, k', h1, h2⟩
theorem WZ.skip {X Y : Int} {A : Nat -> List Int} {L : Nat -> List Ent} {c k : Nat} {z : LZ} (h : WZ X Y A L c k z) (hs : ∀ t, z.T c = some t -> nth t.raw 0 = 2 -> Cz z.st.S (bkL t.bk (k + 1)) [] = Cz z.st.S (bkL t.bk k) []) : WZ X Y A L c (k + 1) z := by
 refine ⟨h.inv, h.pz, h.cz, h.rg, h.nd, h.nl, h.ix, h.en, h.po, h.rc, h.r1, fun i t ht hk => ?_⟩;have h1 := h.sl i t ht hk;unfold Gd at h1 ⊢;by_cases hq : (i : Int) ∈ z.q
 ·rw [if_pos hq] at h1 ⊢; exact h1
 ·rw [if_neg hq] at h1 ⊢;by_cases hc : i = c
  ·subst hc;rw [if_pos rfl] at h1 ⊢;rw [hs t ht hk]; exact h1
  ·rw [if_neg hc] at h1 ⊢; exact h1
theorem WZ.wipe {X Y : Int} (hY : 0 <= Y) {A : Nat -> List Int} {L : Nat -> List Ent} {c k : Nat} {z : LZ} (h : WZ X Y A L c k z) {t : TI} (ht : z.T c = some t) (h2 : nth t.raw 0 = 2) (hq : (c : Int) ∉ z.q) {p : Int} (hk : t.bk k = some p) : WZ X Y A L c (k + 1) (Cx p.toNat z) := by
 obtain ⟨hd, hc⟩ := h.inv.blk c t k p ht hk;obtain ⟨hp, hp0⟩ := Ce hY hd;refine ⟨h.inv.wipe (by rw [hp]; exact hc), h.pz.wipe hY ht hk, h.cz.wipe hY h.inv ht h2 hk, h.rg, h.nd, h.nl, h.ix, h.en, h.po, h.rc, h.r1, fun i u hu hu2 => ?_⟩;have h1 := h.sl i u hu hu2;have hoth : ∀ n, (∀ k' : Nat, k' < n -> u.bk k' = some p -> i = c /\ k' = k -> False) -> Cz (Cx p.toNat z).st.S (bkL u.bk n) [] = Cz z.st.S (bkL u.bk n) [] := by
  intro n hn;refine Lt _ _ (fun q hq h0 => C0 _ _ (fun e => ?_));obtain ⟨-, k', h3, h4⟩ := h.blocks hY hu hq h0;have hdq := (h.inv.blk i u k' q hu h4).1;have e2 : q = p := by rw [<- (Ce hY hdq).1, <- hp, e]
  subst e2;obtain ⟨a, b⟩ := h.inv.inj i u k' c t k q hu h4 ht hk;exact hn k' h3 h4 ⟨a, by omega⟩
 have e : Gd (Cx p.toNat z) c (k + 1) i u = if (i : Int) ∈ z.q then 0 else if i = c then k + 1 else (Aw (nth u.raw 2)).toNat := rfl
 rw [e];unfold Gd at h1;by_cases hqi : (i : Int) ∈ z.q
 ·rw [if_pos hqi] at h1 ⊢; exact h1
 ·rw [if_neg hqi] at h1 ⊢;by_cases hic : i = c
  ·subst hic;rw [if_pos rfl] at h1 ⊢;have eu : u = t := by
    have hu' : z.T i = some u := hu;rw [ht] at hu'; exact (Option.some.inj hu').symm
   subst eu;have h3 := hoth k (fun k' hk' _ ⟨_, e⟩ => by omega);rw [h1] at h3;rw [Nc, Jb h3, hk];simp only [Option.getD_some];have hS : (Cx p.toNat z).st.S p.toNat = zl 128 := Fk _ _ _;rw [hS, eC];simp
  ·rw [if_neg hic] at h1 ⊢;rw [hoth _ (fun k' _ _ ⟨e, _⟩ => hic e)]; exact h1
theorem WZ.entry {X Y : Int} (hY : 0 <= Y) {A : Nat -> List Int} {L : Nat -> List Ent} {c k : Nat} {z z2 : LZ} (h : WZ X Y A L c k z) {t : TI} (ht : z.T c = some t) (h2 : nth t.raw 0 = 2) (hq : (c : Int) ∉ z.q) {p : Int} (hk : t.bk k = some p)
  {x : Nat} {nm : ByteArray} (hx2 : 2 <= x) (hxY : (x : Int) <= Y) (hr : A2 (z.st.S p.toNat) = ((x : Int), nm, 0)) (hn : nm ∉ (L c).map Prod.snd) (he : Ct X Y A x z = some z2) :
  WZ X Y A (Vx L c (L c ++ [((x : Int), nm)])) c (k + 1) z2 := by
 obtain ⟨i1, i2, i3, i4⟩ := P8 hY h.inv he noE;obtain ⟨hd, hcp⟩ := h.inv.blk c t k p ht hk;obtain ⟨hp, hp0⟩ := Ce hY hd;have hcY := h.ix c t ht;have hT : (∀ j u, z.T j = some u -> ∃ u2, z2.T j = some u2 /\ u2.raw = u.raw /\ u2.bk = u.bk /\ u2.en = u.en + (if j = x then 1 else 0)) /\ (∀ j u2, z2.T j = some u2 -> (∃ u, z.T j = some u /\ u2.raw = u.raw /\ u2.bk = u.bk /\ u2.en = u.en + (if j = x then 1 else 0)) \/ (z.T j = none /\ j = x /\ u2.en = 1 /\ ((j : Int) ∈ z2.q ↔ nth u2.raw 0 = 2))) /\ (∀ j u, z.T j = some u -> ((j : Int) ∈ z2.q ↔ (j : Int) ∈ z.q)) /\ (∃ u2, z2.T x = some u2) /\ (PZ X Y z2 /\ CZ A z2) /\ (∀ u, z.T x = some u -> nth u.raw 0 ≠ 2) := by
  unfold Ct at he;split at he
  ·rename_i u hu
   split at he
   ·cases he
   ·rename_i hno
    obtain rfl := Option.some.inj he;refine ⟨fun j v hv => ?_, fun j v hv => ?_, fun _ _ _ => Iff.rfl, ⟨_, Cp _ _ _⟩, ⟨h.pz.enu hu _, h.cz.enu hu _⟩, fun v hv => ?_⟩
    ·by_cases hj : j = x
     ·subst hj;rw [hu] at hv; cases hv;exact ⟨_, Cp _ _ _, rfl, rfl, by rw [if_pos rfl]⟩
     ·exact ⟨v, (Cm _ _ hj).trans hv, rfl, rfl, by rw [if_neg hj]; omega⟩
    ·left
     have hv2 : A3 z.T x { u with en := u.en + 1 } j = some v := hv;by_cases hj : j = x
     ·subst hj;rw [Cp] at hv2;cases hv2;exact ⟨u, hu, rfl, rfl, by rw [if_pos rfl]⟩
     ·rw [Cm _ _ hj] at hv2;exact ⟨v, hv2, rfl, rfl, by rw [if_neg hj]; omega⟩
    ·rw [hu] at hv; cases hv;exact fun e => hno (.inl e)
  ·rename_i hu
   split at he
   ·rename_i hso
    obtain rfl := Option.some.inj he;have hkind : nth (Ap X Y (Al (A x)).1 z.st).1 0 = nth (Al (A x)).1 0 := by
     rw [(He X Y _ z.st).1];exact (Ij (X := X) hY _ (Br _) (D9 z.st)).1 0 (by omega)
    have hnq : ∀ j u, z.T j = some u -> j ≠ x := fun j u hv e => by rw [e, hu] at hv; cases hv
    refine ⟨fun j v hv => ⟨v, (Cm _ _ (hnq j v hv)).trans hv, rfl, rfl, by rw [if_neg (hnq j v hv)]; omega⟩, fun j v hv => ?_, fun j v hv => ?_, ⟨_, Cp _ _ _⟩, ⟨h.pz.take hY h.inv hu (Br _) 1, h.cz.take hY h.inv hu (Br _) 1⟩, fun v hv => by rw [hu] at hv; cases hv⟩
    ·have hv2 : A3 z.T x ⟨(Ap X Y (Al (A x)).1 z.st).1, 1, (Ap X Y (Al (A x)).1 z.st).2.bk⟩ j = some v := hv;by_cases hj : j = x
     ·subst hj;rw [Cp] at hv2;cases hv2;refine .inr ⟨hu, rfl, rfl, ?_⟩;show ((j : Int) ∈ (if nth (Al (A j)).1 0 = 2 then z.q ++ [(j : Int)] else z.q)) ↔ nth (Ap X Y (Al (A j)).1 z.st).1 0 = 2
      rw [hkind];have hnz : (j : Int) ∉ z.q := fun hm => by
       obtain ⟨-, v, hv, -⟩ := h.inv.qT _ hm;rw [Int.toNat_natCast, hu] at hv; cases hv
      split
      ·rename_i h5; simp [h5]
      ·rename_i h5; simp [h5, hnz]
     ·rw [Cm _ _ hj] at hv2;exact .inl ⟨v, hv2, rfl, rfl, by rw [if_neg hj]; omega⟩
    ·show ((j : Int) ∈ (if nth (Al (A x)).1 0 = 2 then z.q ++ [(x : Int)] else z.q)) ↔ _
     have := hnq j v hv;split
     ·rw [List.mem_append, List.mem_singleton];constructor
      ·rintro (h5 | h5)
       ·exact h5
       ·omega
      ·exact .inl
     ·exact Iff.rfl
   ·cases he
 obtain ⟨t1, t2, t3, t4, t5, t6⟩ := hT;have hmem : ∀ i e, e ∈ Vx L c (L c ++ [((x : Int), nm)]) i -> e ∈ L i \/ (i = c /\ e = ((x : Int), nm)) := by
  intro i e hm;by_cases hi : i = c
  ·subst hi;rw [Kj, List.mem_append, List.mem_singleton] at hm;rcases hm with hm | hm
   ·exact .inl hm
   ·exact .inr ⟨rfl, hm⟩
  ·rw [Jd _ _ hi] at hm; exact .inl hm
 have hcN : c <= Y.toNat := by omega
 refine ⟨i1, t5.1, t5.2, fun i e hm => ?_, fun i => ?_, fun i hm => ?_, fun j u2 hu2 => ?_, fun j u2 hu2 => ?_, fun j u2 hu2 => ?_, fun P hP1 hPL j u2 hu2 => ?_, ?_, fun i u2 hu2 hk2 => ?_⟩
 ·rcases hmem i e hm with hm | ⟨-, rfl⟩
  ·obtain ⟨a, b, u, hu⟩ := h.rg i e hm;obtain ⟨u2, hu2, -⟩ := t1 _ u hu;exact ⟨a, b, u2, hu2⟩
  ·exact ⟨by show (2 : Int) <= x; omega, hxY, by rw [Int.toNat_natCast]; exact t4⟩
 ·by_cases hi : i = c
  ·subst hi;rw [Kj, List.map_append, List.nodup_append];refine ⟨h.nd i, by simp, fun a ha b hb => ?_⟩;simp at hb;subst hb;intro e;subst e;exact hn ha
  ·rw [Jd _ _ hi]; exact h.nd i
 ·by_cases hi : i = c
  ·subst hi;obtain ⟨u2, a, b, -⟩ := t1 i t ht;exact ⟨u2, a, by rw [b]; exact h2⟩
  ·rw [Jd _ _ hi] at hm;obtain ⟨u, hu, e⟩ := h.nl i hm;obtain ⟨u2, a, b, -⟩ := t1 i u hu;exact ⟨u2, a, by rw [b]; exact e⟩
 ·rcases t2 j u2 hu2 with ⟨u, hu, -⟩ | ⟨-, rfl, -⟩
  ·exact h.ix j u hu
  ·exact ⟨by omega, hxY⟩
 ·rw [fD L hcN];rcases t2 j u2 hu2 with ⟨u, hu, -, -, e⟩ | ⟨hno, rfl, e, -⟩
  ·rw [e, h.en j u hu];show _ = _ + ((_ + if (x : Int) = (j : Int) then 1 else 0 : Nat) : Int)
   by_cases hj : j = x
   ·rw [if_pos hj, if_pos (show (x : Int) = (j : Int) by omega)]; omega
   ·rw [if_neg hj, if_neg (show ¬ (x : Int) = (j : Int) by omega)]; omega
  ·rw [e, Tq (fun i e he hx => by
    obtain ⟨-, -, u, hu⟩ := h.rg i e he;rw [hx, Int.toNat_natCast, hno] at hu; cases hu), if_neg (by omega)]
   show 1 = (0 : Int) + ((0 + if (j : Int) = (j : Int) then 1 else 0 : Nat) : Int)
   rw [if_pos rfl]; rfl
 ·rcases t2 j u2 hu2 with ⟨u, hu, e1, -, e⟩ | ⟨hno, rfl, e, -⟩
  ·obtain ⟨a, b⟩ := h.po j u hu;rw [e1, e];by_cases hj : j = x
   ·rw [if_pos hj];refine ⟨by omega, fun h5 => ?_⟩;subst hj;exact absurd h5 (t6 u hu)
   ·rw [if_neg hj];exact ⟨by omega, fun h5 => by rw [b h5]; rfl⟩
  ·exact ⟨by omega, fun _ => e⟩
 ·have hPold : ∀ j u, z.T j = some u -> P j := h.rc P hP1 (fun i e hi he => by
   refine hPL i e hi ?_;by_cases hic : i = c
   ·subst hic; rw [Kj]; exact List.mem_append_left _ he
   ·rw [Jd _ _ hic]; exact he)
  rcases t2 j u2 hu2 with ⟨u, hu, -⟩ | ⟨-, rfl, -⟩
  ·exact hPold j u hu
  ·have := hPL c ((j : Int), nm) (hPold c t ht) (by rw [Kj]; exact List.mem_append_right _ (List.mem_singleton.2 rfl));rw [show ((j : Int), nm).1.toNat = j from Int.toNat_natCast j] at this;exact this
 ·obtain ⟨u, hu⟩ := h.r1;obtain ⟨u2, a, -⟩ := t1 1 u hu;exact ⟨u2, a⟩
 ·rcases t2 i u2 hu2 with ⟨u, hu, e1, e2, -⟩ | ⟨hno, rfl, -, hqm⟩
  ·rw [e1] at hk2;have h1 := h.sl i u hu hk2;have hS : ∀ n, Cz z2.st.S (bkL u.bk n) [] = Cz z.st.S (bkL u.bk n) [] := fun n => Lt _ _ (fun q hq0 h0 => i4 _ (h.blocks hY hu hq0 h0).1)
   have hdb : Gd z2 c (k + 1) i u2 = if (i : Int) ∈ z.q then 0 else if i = c then k + 1 else (Aw (nth u.raw 2)).toNat := by
    unfold Gd;rw [e1];by_cases hqi : (i : Int) ∈ z.q
    ·rw [if_pos ((t3 i u hu).2 hqi), if_pos hqi]
    ·rw [if_neg (fun h5 => hqi ((t3 i u hu).1 h5)), if_neg hqi]
   rw [hdb, e2];unfold Gd at h1;by_cases hqi : (i : Int) ∈ z.q
   ·rw [if_pos hqi] at h1 ⊢;rw [hS];by_cases hic : i = c
    ·subst hic; exact absurd hqi hq
    ·rw [Jd _ _ hic]; exact h1
   ·rw [if_neg hqi] at h1 ⊢;by_cases hic : i = c
    ·subst hic;rw [if_pos rfl] at h1 ⊢;have eu : u = t := by rw [ht] at hu; exact (Option.some.inj hu).symm
     subst eu;have h3 := hS k;rw [h1] at h3;rw [Nc, Jb h3, hk, Kj];simp only [Option.getD_some];rw [i4 _ (by rw [hp]; exact hcp), hr, if_neg hp0];simp only;rw [if_neg (by simp), if_neg (by omega)]
    ·rw [if_neg hic] at h1 ⊢;rw [hS, Jd _ _ hic]; exact h1
  ·have hdb : Gd z2 c (k + 1) i u2 = 0 := by
    unfold Gd;rw [if_pos (hqm.2 hk2)]
   have hL : L i = [] := Decidable.byContradiction fun h5 => by
    obtain ⟨u, hu, -⟩ := h.nl i h5;rw [hno] at hu; cases hu
   have hic : i ≠ c := fun e => by rw [e, ht] at hno; cases hno
   rw [hdb, V4, Jd _ _ hic, hL];rfl
def jW (l : List Ent) (nm : ByteArray -> Bool) : Prop := ∀ x, nm x = true ↔ x ∈ l.map Prod.snd
theorem lZ {X Y : Int} (hY : 0 <= Y) {A : Nat -> List Int} {L : Nat -> List Ent} {c k : Nat} {zn : LZ × (ByteArray -> Bool)} (h : WZ X Y A L c k zn.1) (hn : jW (L c) zn.2) {t : TI} (hT : zn.1.T c = some t) (h2 : nth t.raw 0 = 2) (hq : (c : Int) ∉ zn.1.q) {p : Int} (hk : t.bk k = some p) :
  ∃ L2, WZ X Y A L2 c (k + 1) (Ey X Y A p.toNat zn).1 /\ jW (L2 c) (Ey X Y A p.toNat zn).2 := by
 obtain ⟨hd, hcp⟩ := h.inv.blk c t k p hT hk;obtain ⟨hp, hp0⟩ := Ce hY hd;have hwipe : ∃ L2, WZ X Y A L2 c (k + 1) (Cx p.toNat zn.1) /\ jW (L2 c) zn.2 := ⟨L, h.wipe hY hT h2 hq hk, hn⟩;have hsl := h.sl c t hT h2;unfold Gd at hsl;rw [if_neg hq, if_pos rfl] at hsl;unfold Ey;split
 ·rename_i hz
  refine ⟨L, h.skip (fun u hu _ => ?_), hn⟩;have eu : u = t := by rw [hT] at hu; exact (Option.some.inj hu).symm
  subst eu;rw [Nc, Jb hsl, hk, hsl];simp only [Option.getD_some];rw [if_neg hp0, if_neg (by rw [hz.1]; simp), if_pos hz.2]
 ·rename_i hz
  split
  ·rename_i h3
   obtain ⟨e0, e1, e2⟩ := h3;have hne : (A2 (zn.1.st.S p.toNat)).1 ≠ 0 := fun e => hz ⟨e0, e⟩
   obtain ⟨s1, -, -⟩ := Vq e0 hne;obtain ⟨x, hx⟩ := Int.eq_ofNat_of_zero_le (show 0 <= (A2 (zn.1.st.S p.toNat)).1 by omega);have hr : A2 (zn.1.st.S p.toNat) = ((x : Int), (A2 (zn.1.st.S p.toNat)).2.1, 0) := by rw [<- hx, <- e0]
   generalize (A2 (zn.1.st.S p.toNat)).2.1 = nm at *;rw [hx, Int.toNat_natCast] at e2 ⊢;rw [hx] at e1 s1;unfold Cq at e2 ⊢;split at e2
   ·cases e2
   ·rename_i h4
    rw [if_neg h4];have hx1 : x ≠ 1 := fun e => h4 (.inr e)
    have hnn : nm ∉ (L c).map Prod.snd := fun hm => h4 (.inl ((hn nm).2 hm))
    cases he : Ct X Y A x zn.1 with
    | none => rw [he] at e2; cases e2
    | some z2 =>
     refine ⟨Vx L c (L c ++ [((x : Int), nm)]), h.entry hY hT h2 hq hk (by omega) e1 hr hnn he, fun y => ?_⟩;show La zn.2 nm y = true ↔ _
     rw [Kj, List.map_append, List.mem_append, <- hn y];unfold La;simp
  ·exact hwipe
theorem Yl {X Y : Int} (hY : 0 <= Y) {A : Nat -> List Int} {c : Nat} {t : TI} (h2 : nth t.raw 0 = 2) : ∀ (m k : Nat) (L : Nat -> List Ent) (zn : LZ × (ByteArray -> Bool)), WZ X Y A L c k zn.1 -> jW (L c) zn.2 -> (∃ t0, zn.1.T c = some t0 /\ t0.bk = t.bk /\ t0.raw = t.raw) -> (c : Int) ∉ zn.1.q ->
  ∃ L2, WZ X Y A L2 c (k + m) (Jg X Y A t.bk m k zn).1
 | 0, k, L, zn, h, hn, hT, hq => ⟨L, h⟩
 | m + 1, k, L, zn, h, hn, hT, hq => by
  show ∃ L2, WZ X Y A L2 c _ (Jg X Y A t.bk m (k + 1) _).1
  rw [show k + (m + 1) = k + 1 + m by omega];obtain ⟨t0, ht0, hb0, hr0⟩ := hT;have h20 : nth t0.raw 0 = 2 := by rw [hr0]; exact h2
  cases hk : t.bk k with
  | none =>
   refine Yl hY h2 m (k + 1) L zn (h.skip (fun u hu _ => ?_)) hn ⟨t0, ht0, hb0, hr0⟩ hq;have hsl := h.sl c t0 ht0 h20;unfold Gd at hsl;rw [if_neg hq, if_pos rfl] at hsl;have eu : u = t0 := by rw [ht0] at hu; exact (Option.some.inj hu).symm
   subst eu;rw [Nc, Jb hsl, hb0, hk, hb0.symm, hsl];rfl
  | some p =>
   obtain ⟨L2, a, b⟩ := lZ hY h hn ht0 h20 hq (by rw [hb0]; exact hk);have hs := Zu hY (t := t) h.inv ⟨t0, ht0, hb0⟩ hq hk;obtain ⟨t1, ht1, hr1, hb1⟩ := hs.st.t c t0 ht0;exact Yl hY h2 m (k + 1) L2 (Ey X Y A p.toNat zn) a b ⟨t1, ht1, hb1.trans hb0, hr1.trans hr0⟩ hs.q
theorem WZ.pop {X Y : Int} {A : Nat -> List Int} {L : Nat -> List Ent} {k : Nat} {z : LZ} (h : WZ X Y A L 0 k z) {i : Nat} {r : List Int} (hq : z.q = (i : Int) :: r) : WZ X Y A L i 0 { z with q := r } := by
 have hir : (i : Int) ∉ r := by have := h.inv.qn; rw [hq] at this; exact (List.nodup_cons.1 this).1
 refine ⟨h.inv.pop hq, h.pz.q r, h.cz.q r, h.rg, h.nd, h.nl, h.ix, h.en, h.po, h.rc, h.r1, fun j t ht h2 => ?_⟩;have h1 := h.sl j t ht h2;have e : Gd { z with q := r } i 0 j t = Gd z 0 k j t := by
  unfold Gd;rw [hq];show (if (j : Int) ∈ r then 0 else _) = _
  have hj := (h.ix j t ht).1;by_cases hji : j = i
  ·subst hji;rw [if_neg hir, if_pos rfl, if_pos (List.mem_cons_self ..)]
  ·by_cases hm : (j : Int) ∈ r
   ·rw [if_pos hm, if_pos (List.mem_cons_of_mem _ hm)]
   ·rw [if_neg hm, if_neg hji, if_neg (fun h5 => (List.mem_cons.1 h5).elim (fun h6 => hji (by omega)) hm), if_neg (by omega)]
 rw [e]; exact h1
theorem WZ.over {X Y : Int} {A : Nat -> List Int} {L : Nat -> List Ent} {c k : Nat} {z : LZ} (h : WZ X Y A L c k z) (hk : ∀ t, z.T c = some t -> nth t.raw 0 = 2 -> k = (Aw (nth t.raw 2)).toNat) : WZ X Y A L 0 0 z := by
 refine ⟨h.inv, h.pz, h.cz, h.rg, h.nd, h.nl, h.ix, h.en, h.po, h.rc, h.r1, fun j t ht h2 => ?_⟩;have h1 := h.sl j t ht h2;have hj := (h.ix j t ht).1;have e : Gd z 0 0 j t = Gd z c k j t := by
  unfold Gd;by_cases hm : (j : Int) ∈ z.q
  ·rw [if_pos hm, if_pos hm]
  ·rw [if_neg hm, if_neg hm, if_neg (by omega)];by_cases hjc : j = c
   ·subst hjc; rw [if_pos rfl, hk t ht h2]
   ·rw [if_neg hjc]
 rw [e]; exact h1
theorem Wc {X Y : Int} (hY : 0 <= Y) {A : Nat -> List Int} {L : Nat -> List Ent} {z : LZ} (h : WZ X Y A L 0 0 z) {i : Int} {r : List Int} (hq : z.q = i :: r) : ∃ L2, WZ X Y A L2 0 0 (Cv X Y A i.toNat { z with q := r }) := by
 obtain ⟨h0, t, ht, h2⟩ := h.inv.qT i (by rw [hq]; exact List.mem_cons_self);obtain ⟨c, rfl⟩ := Int.eq_ofNat_of_zero_le h0;have hir : (c : Int) ∉ r := by have := h.inv.qn; rw [hq] at this; exact (List.nodup_cons.1 this).1
 rw [Int.toNat_natCast] at ht ⊢;have hp := h.pop hq;have hsl := hp.sl c t ht h2;unfold Gd at hsl;rw [if_neg hir, if_pos rfl, V4] at hsl;have hL : L c = [] := (Option.some.inj hsl).symm;obtain ⟨L2, h3⟩ := Yl hY h2 (Aw (nth t.raw 2)).toNat 0 L ({ z with q := r }, fun _ => false) hp (fun x => by rw [hL]; simp) ⟨t, ht, rfl, rfl⟩ hir;have hd := Uu hY (t := t) (Aw (nth t.raw 2)).toNat 0 ({ z with q := r }, fun _ => false) hp.inv ⟨t, ht, rfl⟩ hir;have e : Cv X Y A c { z with q := r } = (Jg X Y A t.bk (Aw (nth t.raw 2)).toNat 0 ({ z with q := r }, fun _ => false)).1 := by
  unfold Cv;show (match z.T c with | none => _ | some t => _) = _
  rw [ht]
 rw [e];refine ⟨L2, h3.over (fun u hu _ => ?_)⟩;obtain ⟨t2, ht2, hr2, -⟩ := hd.st.t c t ht;rw [ht2] at hu; cases hu;rw [hr2]; omega
theorem aQ {X Y : Int} (hY : 0 <= Y) {A : Nat -> List Int} : ∀ (f : Nat) (L : Nat -> List Ent) (z : LZ), WZ X Y A L 0 0 z -> ∃ L2, WZ X Y A L2 0 0 (Hr X Y A f z)
 | 0, L, z, h => ⟨L, h⟩
 | f + 1, L, z, h => by
  cases hq : z.q with
  | nil => rw [Ib _ _ _ _ _ hq]; exact ⟨L, h⟩
  | cons i r =>
   rw [Fz _ _ _ _ _ _ _ hq];obtain ⟨L2, h2⟩ := Wc hY h hq;exact aQ hY f L2 _ h2
theorem qI {z : LZ} (h : Ed z <= 0) : z.q = [] := by
 have h2 : z.q.length + 2 * Ix z <= 0 := h;generalize Ix z = n at h2;exact List.length_eq_zero_iff.1 (by omega)
theorem cZ {X Y : Int} (hY9 : Y < 4096) (A : Nat -> List Int) (f : Nat) : ∀ (z : LZ), Ed z <= f -> (Hr X Y A f z).q = [] := by
 induction f with
 | zero => intro z h; exact qI h
 | succ f ih =>
  intro z h;cases hq : z.q with
  | nil => rw [Ib _ _ _ _ _ hq]; exact hq
  | cons i r =>
   rw [Fz _ _ _ _ _ _ _ hq];refine ih _ ?_;have h1 := Vb (X := X) hY9 A i.toNat { z with q := r };have h2 := Qc hq;generalize Ed (Cv X Y A i.toNat { z with q := r }) = a at *;generalize Ed { z with q := r } = b at *;generalize Ed z = c at *;omega
noncomputable def Tb (ze : LZ) (i : Nat) : List Int := match ze.T i with | none => zl 128 | some t => (Da (t.raw.set 1 t.en)).1
structure Two (X Y : Int) (A A' W : Nat -> List Int) (ze : LZ) (allw : Prop) : Prop where
 Y0 : 0 <= Y
 ino : ∀ i : Nat, 1 <= i -> (i : Int) <= Y -> (A' i = A i \/ A' i = Tb ze i) /\ (allw -> A' i = Tb ze i)
 inv : Fl X Y A ze
structure Fin (X Y : Int) (A' W : Nat -> List Int) (ze : LZ) (allw : Prop) (E : Nat -> Prop) (z : LZ) : Prop where
 s : ∀ j : Nat, isD X Y j = true -> z.st.cl j = true -> ¬ nW z j -> ¬ E j -> z.st.S j = W j
 f : ∀ j : Nat, z.st.fm j = true -> allw -> A' j = W j
 t : ∀ i t, z.T i = some t -> ∃ te, ze.T i = some te /\ te.raw = t.raw /\ te.bk = t.bk
theorem Fin.back {X Y : Int} {A' W : Nat -> List Int} {ze : LZ} {allw : Prop} {E E2 : Nat -> Prop} {z z2 : LZ} (h : Fin X Y A' W ze allw E2 z2) (hs : Jk X Y E E2 z z2) : Fin X Y A' W ze allw E z := by
 refine ⟨fun j h1 h2 h3 h4 => ?_, fun j hj ha => h.f j (hs.f j hj) ha, fun i t ht => ?_⟩
 ·obtain ⟨a, b, c, d⟩ := hs.s j h1 h2 h3 h4;rw [<- d];exact h.s j h1 a b c
 ·obtain ⟨t2, a, b, c⟩ := hs.t i t ht;obtain ⟨te, d, e, f⟩ := h.t i t2 a;exact ⟨te, d, e.trans b, f.trans c⟩
structure RZ (X Y : Int) (A' W : Nat -> List Int) (allw : Prop) (z z' : LZ) : Prop where
 sd : Sd X Y allw W A' z.st.fm (D9 z.st) (D9 z'.st)
 q : z'.q = z.q
 n : ∀ i, z.T i = none -> z'.T i = none
 t : ∀ i t, z.T i = some t -> ∃ t', z'.T i = some t' /\ t'.bk = t.bk /\ t'.en = t.en /\ (∀ j, j ≠ 1 -> nth t'.raw j = nth t.raw j) /\ t'.raw.length = 18
theorem Zc {l o : List Int} (h : Bu l) (h0 : nth l 0 ≠ 0) (hl : o.length = 18) (e0 : nth o 0 = nth l 0) (e2 : nth o 2 = nth l 2) (e3 : nth o 3 = nth l 3) (hs : ∀ j, 4 <= j -> nth o j = nth l j \/ nth o j = 0) {n : Int} (hn0 : 0 <= n) (hn1 : n <= 100) : Bu (o.set 1 n) := by
 have hset : ∀ j, j ≠ 1 -> nth (o.set 1 n) j = nth o j := fun j hj => by
  unfold nth; rw [List.getElem?_set_ne (Ne.symm hj)]
 have hset1 : nth (o.set 1 n) 1 = n := by
  unfold nth; rw [List.getElem?_set_self (by omega)]; rfl
 unfold Bu at h ⊢;rw [if_neg h0] at h;rw [if_neg (by rw [hset 0 (by omega), e0]; exact h0)];obtain ⟨⟨a, -, b, c⟩, d, e⟩ := h;refine ⟨⟨by rw [hset 0 (by omega), e0]; exact a, by rw [hset1]; exact ⟨hn0, hn1⟩, by rw [hset 2 (by omega), e2]; exact b, by rw [hset 3 (by omega), e3]; exact c⟩, fun j h4 h18 => ?_, by rw [hset 0 (by omega), e0, hset 2 (by omega), e2]; exact e⟩;rw [hset j (by omega)];rcases hs j h4 with h | h
 ·rw [h]; exact d j h4 h18
 ·rw [h]; omega
theorem Id {s : List Int} (h : Cj s = true) : Bu (Al s).1 /\ nth (Al s).1 0 ≠ 0 := by
 unfold Cj at h;simp only [Bool.and_eq_true, decide_eq_true_eq, Bool.not_eq_true', decide_eq_false_iff_not] at h;exact ⟨(aL h.1).1, h.2⟩
theorem D5 (o : List Int) (n : Int) {j : Nat} (hj : j ≠ 1) : nth (o.set 1 n) j = nth o j := by unfold nth; rw [List.getElem?_set_ne (Ne.symm hj)]
theorem Yv {X Y : Int} {A : Nat -> List Int} {ze : LZ} (h : Fl X Y A ze) {i : Nat} {t : TI} (ht : ze.T i = some t) : Al (Tb ze i) = (t.raw.set 1 t.en, 0) /\ Bu (t.raw.set 1 t.en) /\ nth t.raw 0 ≠ 0 := by
 obtain ⟨hs, hl, e0, e2, e3, hsb⟩ := h.snd i t ht;obtain ⟨n0, n1⟩ := h.en i t ht;obtain ⟨m1, m2⟩ := Id hs;have hm := Zc m1 m2 hl e0 e2 e3 hsb n0 n1;have hlen : (t.raw.set 1 t.en).length = 18 := by rw [List.length_set]; exact hl
 have hw : Tb ze i = A9 (t.raw.set 1 t.en) := by
  unfold Tb;rw [ht];show (Da (t.raw.set 1 t.en)).1 = _
  rw [Ge hm]
 rw [hw];exact ⟨Hy hlen hm, hm, by rw [e0]; exact m2⟩
theorem RZ.wipe {X Y : Int} {A' W : Nat -> List Int} {allw : Prop} {z z' : LZ} (h : RZ X Y A' W allw z z') {p : Nat} (hc : z.st.cl p = true) : RZ X Y A' W allw (Cx p z) (Cx p z') := by
 refine ⟨⟨h.sd.cl, h.sd.fm, rfl, fun j => ?_, fun j hj hcj => ?_, h.sd.f0, h.sd.fc⟩, h.q, h.n, h.t⟩
 ·show Bn _ _ _ _ = Bn _ _ _ _ \/ Bn _ _ _ _ = _
  by_cases hjp : j = p
  ·subst hjp; rw [Fk, Fk]; exact .inl rfl
  ·rw [C0 _ _ hjp, C0 _ _ hjp]; exact h.sd.S j
 ·have hne : j ≠ p := fun e => by subst e; rw [show z.st.cl j = false from hcj] at hc; cases hc
  show Bn _ _ _ _ = _ /\ A0 (Bn _ _ _ _) /\ (¬ allw -> X3 _ (Bn _ _ _ _))
  rw [C0 _ _ hne, C0 _ _ hne];exact h.sd.un j hj hcj
theorem S7 {X Y : Int} {A : Nat -> List Int} (hA : ∀ j : Nat, isD X Y j = true -> (A j).length = 128 /\ A0 (A j)) : Fl X Y A (Cd A) :=
 ⟨⟨fun j hj => (by cases hj), fun q hq => (by cases hq), fun k q hk => (by cases hk), fun k k' q hk => (by cases hk), fun j hj => rfl, hA, fun j hj => (by cases hj)⟩, fun i t k q ht => (by cases ht), fun i t k i' t' k' q ht => (by cases ht), fun i t k q ht => (by cases ht), List.nodup_nil, fun i hi => (by cases hi), fun i t ht => (by cases ht), fun i t ht => (by cases ht)⟩
theorem Ps {X Y : Int} {A : Nat -> List Int} (hs : Cj (A 1) = true) : Ct X Y A 1 (Cd A) = some (C7 X Y A) := by
 unfold Ct Cd;simp only;rw [if_pos hs];rfl
theorem gU {X Y : Int} (hY : 0 <= Y) {A : Nat -> List Int} (hA : ∀ j : Nat, isD X Y j = true -> (A j).length = 128 /\ A0 (A j)) (hs : Cj (A 1) = true) : Fl X Y A (C7 X Y A) /\ Fl X Y A (Dc X Y A) /\ Jk X Y noE noE (C7 X Y A) (Dc X Y A) := by
 obtain ⟨a, -⟩ := P8 hY (S7 (Y := Y) hA) (Ps hs) noE;obtain ⟨b, c⟩ := gV hY 8192 _ a;exact ⟨a, b, c⟩
theorem Nq {Y : Int} (z : LZ) {i : Nat} (h1 : 1 <= i) (h2 : (i : Int) <= Y) : Dn Y z i = Tb z i := by
 unfold Dn Tb;rw [if_pos ⟨h1, h2⟩]
 all_goals (cases z.T i <;> rfl)
theorem Ow {Y : Int} (z : LZ) {i : Nat} (h : ¬ (1 <= i /\ (i : Int) <= Y)) : Dn Y z i = z.st.S i := by
 unfold Dn;rw [if_neg h]
theorem lJ {X Y : Int} {j : Nat} (h : isD X Y j = true) : ¬ (1 <= j /\ (j : Int) <= Y) := by
 unfold isD at h;have := of_decide_eq_true h;omega
theorem mO (X Y : Int) (S : Nat -> List Int) : PZ X Y (Cd S) := ⟨fun i t h => (by cases h), fun i t h => (by cases h), fun i t h => (by cases h), fun i t i' t' p h => (by cases h), fun q h => (by cases h), fun i t h => (by cases h), fun i t h => (by cases h)⟩
theorem mN (S : Nat -> List Int) : CZ S (Cd S) := ⟨fun i t h => (by cases h), fun i t h => (by cases h)⟩
theorem X2 {X Y : Int} (hY : 1 <= Y) {S : Nat -> List Int} (hA : ∀ j : Nat, isD X Y j = true -> (S j).length = 128 /\ A0 (S j)) (hr : Fm S) : WZ X Y S (fun _ => []) 0 0 (C7 X Y S) := by
 have hs : Cj (S 1) = true := hr.1;obtain ⟨hi, -, -⟩ := gU (by omega) hA hs;have hp : PZ X Y (C7 X Y S) := (mO X Y S).take (by omega) (S7 (Y := Y) hA) rfl (Br _) 1;have hc : CZ S (C7 X Y S) := (mN S).take (X := X) (Y := Y) (by omega) (S7 (Y := Y) hA) rfl (Br _) 1;have hkind : nth (Ap X Y (Al (S 1)).1 (Cd S).st).1 0 = nth (Al (S 1)).1 0 := by
  rw [(He X Y _ _).1];exact (Ij (X := X) (by omega) _ (Br _) _).1 0 (by omega)
 have hT : ∀ i t, (C7 X Y S).T i = some t -> i = 1 /\ t = ⟨(Ap X Y (Al (S 1)).1 (Cd S).st).1, 1, (Ap X Y (Al (S 1)).1 (Cd S).st).2.bk⟩ := by
  intro i t ht;have h2 : A3 (fun _ => none) 1 ⟨(Ap X Y (Al (S 1)).1 (Cd S).st).1, 1, (Ap X Y (Al (S 1)).1 (Cd S).st).2.bk⟩ i = some t := ht;by_cases e : i = 1
  ·subst e;rw [Cp] at h2;exact ⟨rfl, (Option.some.inj h2).symm⟩
  ·rw [Cm _ _ e] at h2; cases h2
 have hq : (C7 X Y S).q = [1] := by
  show (if nth (Al (S 1)).1 0 = 2 then [] ++ [((1 : Nat) : Int)] else []) = _
  rw [if_pos hr.2]; rfl
 refine ⟨hi, hp, hc, fun i e h => (by cases h), fun i => List.nodup_nil, fun i h => absurd rfl h, fun i t ht => ?_, fun j t ht => ?_, fun j t ht => ?_, fun P h1 _ j t ht => ?_, ⟨⟨(Ap X Y (Al (S 1)).1 (Cd S).st).1, 1, (Ap X Y (Al (S 1)).1 (Cd S).st).2.bk⟩, show A3 (fun _ => none) 1 _ 1 = _ from Cp _ _ _⟩, fun i t ht _ => ?_⟩
 ·obtain ⟨rfl, -⟩ := hT i t ht;exact ⟨Nat.le_refl _, hY⟩
 ·obtain ⟨rfl, rfl⟩ := hT j t ht;rw [if_pos rfl, Tq (fun i e he => by cases he)]; rfl
 ·obtain ⟨rfl, rfl⟩ := hT j t ht;exact ⟨Int.le_refl _, fun _ => rfl⟩
 ·obtain ⟨rfl, -⟩ := hT j t ht;exact h1
 ·obtain ⟨rfl, -⟩ := hT i t ht;unfold Gd;rw [hq, if_pos (by simp)];rfl
structure S9 (X Y : Int) (S : Nat -> List Int) (L : Nat -> List Ent) (z : LZ) : Prop where
 w : WZ X Y S L 0 0 z
 q : z.q = []
theorem lK {X Y : Int} (hY : 1 <= Y) (hY9 : Y < 4096) {S : Nat -> List Int} (hA : ∀ j : Nat, isD X Y j = true -> (S j).length = 128 /\ A0 (S j)) (hr : Fm S) : ∃ L, S9 X Y S L (Dc X Y S) := by
 obtain ⟨L, h⟩ := aQ (by omega) 8192 _ _ (X2 hY hA hr);refine ⟨L, h, ?_⟩;have hm := Id hr.1;have hb := (Dy hm.2).1 hm.1;have hz : ZI X Y (C7 X Y S) := (Z1 X Y S).take (Nat.le_refl 1) hY (by decide) (Br _) hb.1.2.2.1.1 hb.1.2.2.1.2 (by decide) (by decide) rfl;exact cZ hY9 S 8192 _ hz.pot
theorem Wb (raw : List Int) (e : Int) : Me (raw.set 1 e) = Me raw := by
 unfold Me;rw [List.drop_set_of_lt (by decide)]
theorem T0 (n : Int) (S : Nat -> List Int) (raw : List Int) (e : Int) : Dj n S (raw.set 1 e) = Dj n S raw := by
 unfold Dj;rw [Wb, D5 _ _ (by decide), D5 _ _ (by decide)]
theorem cS (n : Int) (S : Nat -> List Int) (raw : List Int) (e : Int) : Hp n S (raw.set 1 e) ↔ Hp n S raw := by
 unfold Hp;rw [Wb, D5 _ _ (by decide), D5 _ _ (by decide)]
theorem V5 (S : Nat -> List Int) (raw : List Int) (e : Int) (k : Nat) : Dw S (raw.set 1 e) k = Dw S raw k := by
 unfold Dw;rw [D5 _ _ (by omega), D5 _ _ (by decide), D5 _ _ (by decide)]
structure bN (X Y : Int) (S W : Nat -> List Int) (z : LZ) : Prop where
 d : ∀ j : Nat, isD X Y j = true -> W j = z.st.S j
 yes : ∀ i t, z.T i = some t -> wI W i = t.raw.set 1 t.en /\ nth t.raw 0 ≠ 0 /\ Bu (t.raw.set 1 t.en)
 no : ∀ i : Nat, 1 <= i -> (i : Int) <= Y -> z.T i = none -> wI W i = zl 18
 rd : ∀ i : Nat, 1 <= i -> (i : Int) <= Y -> (Al (W i)).2 = 0
theorem mX {X Y : Int} {S : Nat -> List Int} {L : Nat -> List Ent} {z : LZ} (h : S9 X Y S L z) : bN X Y S (Dn Y z) z := by
 have hyes : ∀ i t, z.T i = some t -> Al (Dn Y z i) = (t.raw.set 1 t.en, 0) /\ Bu (t.raw.set 1 t.en) /\ nth t.raw 0 ≠ 0 := fun i t ht => by
  obtain ⟨h1, h2⟩ := h.w.ix i t ht;rw [Nq z h1 h2];exact Yv h.w.inv ht
 have hno : ∀ i : Nat, 1 <= i -> (i : Int) <= Y -> z.T i = none -> Al (Dn Y z i) = (zl 18, 0) := fun i h1 h2 ht => by
  rw [Nq z h1 h2];unfold Tb;rw [ht];exact gP
 refine ⟨fun j hj => Ow z (lJ hj), fun i t ht => ?_, fun i h1 h2 ht => ?_, fun i h1 h2 => ?_⟩
 ·obtain ⟨a, b, c⟩ := hyes i t ht;exact ⟨by rw [jN _ (h.w.ix i t ht).1, a], c, b⟩
 ·rw [jN _ h1, hno i h1 h2 ht]
 ·cases ht : z.T i with
  | none => rw [hno i h1 h2 ht]
  | some t => rw [(hyes i t ht).1]
theorem mK {X Y : Int} {S W : Nat -> List Int} {z : LZ} (h : bN X Y S W z) {i : Nat} {t : TI} (ht : z.T i = some t) : nth (wI W i) 0 = nth t.raw 0 /\ nth (wI W i) 2 = nth t.raw 2 := by
 rw [(h.yes i t ht).1];exact ⟨D5 _ _ (by decide), D5 _ _ (by decide)⟩
theorem nV {X Y : Int} (hY : 0 <= Y) {S W : Nat -> List Int} {L : Nat -> List Ent} {z : LZ} (h : S9 X Y S L z) (ho : bN X Y S W z) {i : Nat} {t : TI} (ht : z.T i = some t) :
  Dj (Aw (nth (wI W i) 2)) W (wI W i) = psT z.st.S t /\ Hp (Aw (nth (wI W i) 2)) W (wI W i) /\ (∀ k : Nat, k < 1068 -> t.bk k = Hk (Dw W (wI W i) k)) /\ F5 (Aw (nth t.raw 2)) W t.raw = tbT z.st.S t := by
 obtain ⟨e0, e2⟩ := mK ho ht;obtain ⟨a, b, c, d⟩ := U3 (Aw (nth t.raw 2)) z.st.S W t.raw (fun q hq => by
  have hd := ((h.w.pz.ok i t ht).1 q (J6 _ _ _ q hq)).1;exact ho.d _ (by rw [(Ce hY hd).1]; exact hd))
 rw [e2, (ho.yes i t ht).1, T0, cS];refine ⟨a, c.2 (h.w.pz.sh i t ht), fun k hk => ?_, b⟩;rw [h.w.pz.bk i t ht k (Int.natCast_nonneg _) (by omega), V5, <- Ih (Aw (nth t.raw 2)) W (h.w.inv.snd i t ht).2.1 k hk, d]
theorem I4 {N : Nat} {S I : Nat -> List Int} {sort : Nat -> Bool} {x : Int} : x ∈ Bz N S I sort ↔ ∃ i : Nat, i < N /\ x = i /\ S i ≠ I i /\ sort i = true := by
 unfold Bz;simp only [List.mem_map, List.mem_filter, List.mem_range, Bool.and_eq_true, decide_eq_true_eq];constructor
 ·rintro ⟨i, ⟨h1, h2, h3⟩, rfl⟩; exact ⟨i, h1, rfl, h2, h3⟩
 ·rintro ⟨i, h1, rfl, h2, h3⟩; exact ⟨i, ⟨h1, h2, h3⟩, rfl⟩
theorem Je (N : Nat) (S I : Nat -> List Int) (sort : Nat -> Bool) : (Bz N S I sort).Nodup := by
 unfold Bz;refine List.Pairwise.map _ (R := fun a b : Nat => a ≠ b) (fun a b h => by omega) ?_;exact List.Pairwise.filter _ List.nodup_range
def nY (N : Nat) (Y : Int) (S I : Nat -> List Int) (fm : Int -> Bool) : List Int := Bz N S I (fun i => !decide ((i : Int) <= Y) && fm i)
def nZ (N : Nat) (Y : Int) (S I : Nat -> List Int) : List Int := Bz N S I (fun i => decide ((i : Int) <= Y))
def oD (N : Nat) (Y : Int) (S I : Nat -> List Int) (fm : Int -> Bool) : List Int := Bz N S I (fun i => !decide ((i : Int) <= Y) && !fm i)
theorem Ly (N : Nat) (Y : Int) (S I : Nat -> List Int) (fm : Int -> Bool) : Gw N Y S I fm = nY N Y S I fm ++ nZ N Y S I ++ oD N Y S I fm := rfl
theorem Rh {N : Nat} {Y : Int} {S I : Nat -> List Int} {fm : Int -> Bool} {j : Nat} : (j : Int) ∈ nY N Y S I fm ↔ j < N /\ S j ≠ I j /\ ¬ (j : Int) <= Y /\ fm j = true := by
 unfold nY;rw [I4];constructor
 ·rintro ⟨i, h1, h2, h3, h4⟩;have : j = i := by omega
  subst this;simp at h4;exact ⟨h1, h3, by omega, h4.2⟩
 ·rintro ⟨h1, h2, h3, h4⟩;exact ⟨j, h1, rfl, h2, by simpa using ⟨by omega, h4⟩⟩
theorem Ri {N : Nat} {Y : Int} {S I : Nat -> List Int} {j : Nat} : (j : Int) ∈ nZ N Y S I ↔ j < N /\ S j ≠ I j /\ (j : Int) <= Y := by
 unfold nZ;rw [I4];constructor
 ·rintro ⟨i, h1, h2, h3, h4⟩;have : j = i := by omega
  subst this;simp at h4;exact ⟨h1, h3, h4⟩
 ·rintro ⟨h1, h2, h3⟩;exact ⟨j, h1, rfl, h2, by simpa using h3⟩
theorem Rj {N : Nat} {Y : Int} {S I : Nat -> List Int} {fm : Int -> Bool} {j : Nat} : (j : Int) ∈ oD N Y S I fm ↔ j < N /\ S j ≠ I j /\ ¬ (j : Int) <= Y /\ fm j = false := by
 unfold oD;rw [I4];constructor
 ·rintro ⟨i, h1, h2, h3, h4⟩;have : j = i := by omega
  subst this;simp at h4;exact ⟨h1, h3, by omega, h4.2⟩
 ·rintro ⟨h1, h2, h3, h4⟩;exact ⟨j, h1, rfl, h2, by simpa using ⟨by omega, h4⟩⟩
theorem Y5 {N : Nat} {Y : Int} {S I : Nat -> List Int} {fm : Int -> Bool} {j : Nat} : (j : Int) ∈ Gw N Y S I fm ↔ j < N /\ S j ≠ I j := by
 rw [Ly, List.mem_append, List.mem_append, Rh, Ri, Rj];constructor
 ·rintro ((⟨a, b, -⟩ | ⟨a, b, -⟩) | ⟨a, b, -⟩) <;> exact ⟨a, b⟩
 ·rintro ⟨a, b⟩;by_cases h : (j : Int) <= Y
  ·exact .inl (.inr ⟨a, b, h⟩)
  ·cases hf : fm j with
   | true => exact .inl (.inl ⟨a, b, h, rfl⟩)
   | false => exact .inr ⟨a, b, h, rfl⟩
theorem Vj {N : Nat} {S I : Nat -> List Int} {sort : Nat -> Bool} {x : Int} (h : x ∈ Bz N S I sort) : ∃ j : Nat, x = j := by
 obtain ⟨i, -, h, -⟩ := I4.1 h; exact ⟨i, h⟩
theorem Z0 {N : Nat} {Y : Int} {S I : Nat -> List Int} {fm : Int -> Bool} {x : Int} (h : x ∈ Gw N Y S I fm) : ∃ j : Nat, x = j := by
 rw [Ly, List.mem_append, List.mem_append] at h;rcases h with (h | h) | h <;> exact Vj h
theorem Vz (N : Nat) (Y : Int) (S I : Nat -> List Int) (fm : Int -> Bool) : (Gw N Y S I fm).Nodup := by
 rw [Ly, List.nodup_append, List.nodup_append];refine ⟨⟨Je _ _ _ _, Je _ _ _ _, fun a ha b hb e => ?_⟩, Je _ _ _ _, fun a ha b hb e => ?_⟩
 ·subst e;obtain ⟨j, rfl⟩ := Vj ha;exact (Rh.1 ha).2.2.1 (Ri.1 hb).2.2
 ·subst e;obtain ⟨j, rfl⟩ := Vj hb;rw [List.mem_append] at ha;rcases ha with ha | ha
  ·have h1 := (Rh.1 ha).2.2.2;have h2 := (Rj.1 hb).2.2.2;rw [h1] at h2; cases h2
  ·exact (Rj.1 hb).2.2.1 (Ri.1 ha).2.2
theorem L5 (n : Nat) (s : Int -> Bool) : (Cs n s).length <= n := by
 unfold Cs;simp only [List.length_map];exact Nat.le_trans (List.length_filter_le _ _) (by simp)
theorem S6 {N : Nat} (Y : Int) (W S : Nat -> List Int) (fm : Int -> Bool) : (Gw N Y W S fm).length <= N := by
 have hl := (List.Nodup.length_le_of_subset (l₂ := (List.range N).map (fun (i : Nat) => (i : Int))) (Vz N Y W S fm) (fun x hx => by
  obtain ⟨j, rfl⟩ := Z0 hx;exact List.mem_map.2 ⟨j, List.mem_range.2 (Y5.1 hx).1, rfl⟩))
 simpa using hl
def Di (T : TypeId) (sz : Nat) (w : World) (v : Value) (ob : Option Nat) (n : Nat) (f : Nat -> Value) : Prop :=
 (v = .slice none 0 0 /\ ob = none /\ n = 0) \/ ∃ g off c cs, v = .slice (some ⟨g, off, none⟩) n c /\ ob = some g /\ hat w g = some (.cells cs T) /\ off + n * sz <= cs.size /\ off + c * sz <= cs.size /\ ∀ k, k < n * sz -> cs[off + k]? = some (f k)
theorem Di.lt {T : TypeId} {sz : Nat} {w : World} {v : Value} {ob : Option Nat} {n : Nat} {f : Nat -> Value} (h : Di T sz w v ob n f) : ∀ g, ob = some g -> g < w.heap.size := by
 rintro g rfl;rcases h with ⟨-, h, -⟩ | ⟨g', off, c, cs, -, h, h2, -⟩
 ·cases h
 ·cases h; exact Aa h2
theorem Di.fr {T : TypeId} {sz : Nat} {w w' : World} {v : Value} {ob : Option Nat} {n : Nat} {f : Nat -> Value} {ex : List Nat} (h : Di T sz w v ob n f) (hf : Fr ex w w') (hn : ∀ g, ob = some g -> g ∉ ex) : Di T sz w' v ob n f := by
 rcases h with h | ⟨g, off, c, cs, h1, h2, h3, h4⟩
 ·exact .inl h
 ·exact .inr ⟨g, off, c, cs, h1, h2, (hf.block _ (Aa h3) (hn g h2)).trans h3, h4⟩
theorem Di.slice {T : TypeId} {sz : Nat} {w : World} {v : Value} {ob : Option Nat} {n : Nat} {f : Nat -> Value} (h : Di T sz w v ob n f) : ∃ a c, v = .slice a n c := by
 rcases h with ⟨rfl, -, rfl⟩ | ⟨g, off, c, cs, rfl, -⟩
 ·exact ⟨none, 0, rfl⟩
 ·exact ⟨_, _, rfl⟩
theorem Di.congr {T : TypeId} {sz : Nat} {w : World} {v : Value} {ob : Option Nat} {n : Nat} {f f' : Nat -> Value} (h : Di T sz w v ob n f) (he : ∀ k, k < n * sz -> f k = f' k) : Di T sz w v ob n f' := by
 rcases h with h | ⟨g, off, c, cs, h1, h2, h3, h4, h5, h6⟩
 ·exact .inl h
 ·exact .inr ⟨g, off, c, cs, h1, h2, h3, h4, h5, fun k hk => by rw [<- he k hk]; exact h6 k hk⟩
theorem Di.first {T : TypeId} {sz : Nat} {w : World} {g off n c : Nat} {f : Nat -> Value} (ob : Option Nat) (h : Di T sz w (.slice (some ⟨g, off, none⟩) n c) ob n f) {m : Nat} (hm : m <= n) : Di T sz w (.slice (some ⟨g, off, none⟩) m c) ob m f := by
 rcases h with ⟨h, -⟩ | ⟨g', off', c', cs, e, h2, h3, h4, h5, h6⟩
 ·cases h
 ·injection e with e1 e2 e3
  injection e1 with e1
  injection e1 with p1 p2
  subst p1 p2 e3;have h7 : m * sz <= n * sz := Nat.mul_le_mul_right _ hm;exact .inr ⟨g, off, c, cs, rfl, h2, h3, by omega, h5, fun k hk => h6 k (by omega)⟩
def bM (w w' : World) (v v' : Value) (ob ob' : Option Nat) (n n' : Nat) : Prop :=
 (∃ a c, v' = .slice a n' c /\ n' <= c) /\ ((∃ a c, v = .slice a n c /\ v' = .slice a n' c /\ ob' = ob /\ Fr ob.toList w w') \/ ∃ g, ob' = some g /\ w.heap.size <= g /\ Fr [] w w')
theorem bM.fr {w w' : World} {v v' : Value} {ob ob' : Option Nat} {n n' : Nat} (h : bM w w' v v' ob ob' n n') : Fr ob.toList w w' := by
 rcases h.2 with ⟨a, c, -, -, -, h⟩ | ⟨g, -, -, h⟩
 ·exact h
 ·exact h.mono (by simp)
theorem bM.ob {w w' : World} {v v' : Value} {ob ob' : Option Nat} {n n' : Nat} (h : bM w w' v v' ob ob' n n') : ob' = ob \/ ∃ g, ob' = some g /\ w.heap.size <= g := by
 rcases h.2 with ⟨a, c, -, -, h, -⟩ | ⟨g, h1, h2, -⟩
 ·exact .inl h
 ·exact .inr ⟨g, h1, h2⟩
def V7 (m : Nat) (f f2 : Nat -> Value) : Nat -> Value := fun k => if k < m then f k else f2 (k - m)
theorem Kf {P : Program} {ST T : TypeId} {sz B : Nat} (ht : P.underlying ST = some (.slice T)) {inf : TypeInfo} {z : Value} (hi : P.info? T = some inf) (hz : inf.zero = some z) (hzs : z.cells.size = sz) (his : inf.size = sz) (hib : inf.bytes = B)
  {w : World} {v u : Value} {ob : Option Nat} {n m : Nat} {f f2 : Nat -> Value} (h : Di T sz w v ob n f) {news : List Value} (hs : Src P sz ST u m news w) (hnw : ∀ k, k < m * sz -> news[k]? = some (f2 k)) (hB : 0 < B) (hn : (n + m) * B <= 140737488355328) (ty : TypeId) :
  ∃ v' w' ob', (Builtin.append_ #[ST, ST] ty #[v, u]).run P w = .ok v' w' /\ Di T sz w' v' ob' (n + m) (V7 (n * sz) f f2) /\ bM w w' v v' ob ob' n (n + m) := by
 have hs' : Src P inf.size ST u m news w := by rw [his]; exact hs
 have hnl : news.length = m * sz := hs.newsLen;by_cases hroom : ∃ g off c cs, v = .slice (some ⟨g, off, none⟩) n c /\ ob = some g /\ hat w g = some (.cells cs T) /\ n + m <= c /\ off + n * sz <= cs.size /\ off + c * sz <= cs.size /\ ∀ k, k < n * sz -> cs[off + k]? = some (f k)
 ·obtain ⟨g, off, c, cs, rfl, rfl, hg, hc, hnsz, hcsz, hf⟩ := hroom;have hle : (n + m) * sz <= c * sz := Nat.mul_le_mul_right _ hc;rw [Nat.add_mul] at hle
  have hr := run_append_room_src (P := P) w ST ST ty T inf ht hi g off n c u m news hs' hc
   (fun j hj => by
    rw [his, B0 hg, Array.getElem?_eq_getElem (by omega)]; rfl)
   (fun j hj => J4 hg _)
  rw [his] at hr;obtain ⟨cs', a1, a2, a3, a4⟩ := Hv g T (0, 0) news (off + n * sz) w cs hg;refine ⟨_, _, some g, hr, .inr ⟨g, off, c, cs', rfl, rfl, a1, by rw [a2, Nat.add_mul]; omega, by rw [a2]; exact hcsz, fun k hk => ?_⟩, ⟨⟨_, _, rfl, hc⟩, .inl ⟨_, _, rfl, rfl, rfl, (Iw g _ _ _).mono (by simp)⟩⟩⟩;unfold V7;rw [Nat.add_mul] at hk;by_cases hk1 : k < n * sz
  ·rw [if_pos hk1, a3 _ (by omega)];exact hf k hk1
  ·rw [if_neg hk1];have := a4 (k - n * sz) (f2 (k - n * sz)) (hnw _ (by omega)) (by omega);rw [show off + n * sz + (k - n * sz) = off + k by omega] at this;exact this
 ·by_cases h0 : v = .slice none 0 0 /\ ob = none /\ n = 0 /\ m = 0
  ·obtain ⟨rfl, rfl, rfl, rfl⟩ := h0;have hnil : news = [] := List.eq_nil_of_length_eq_zero (by simpa using hnl);subst hnil;refine ⟨.slice none 0 0, w, none, ?_, .inl ⟨rfl, rfl, rfl⟩, ⟨none, 0, rfl, Nat.le_refl _⟩, .inl ⟨none, 0, rfl, rfl, rfl, Fr.refl _ _⟩⟩;have hc0 : (Builtin.firstCells inf.size 0 u).run P w = .ok #[] w := hs'.cells;rcases hs'.kind with ⟨e', hk⟩ | hk <;> simp [Builtin.append_, run_underlying ht, run_underlying hk, sizeOf, typeInfo, hi, hs'.len, hc0]
  ·have hpos : 0 < sz \/ sz = 0 := by omega
   obtain ⟨base, cp, hv, hcp, olds, hol, hold, hof⟩ : ∃ base cp, v = .slice base n cp /\ cp < n + m /\ ∃ olds : List Value, olds.length = n * sz /\ (Builtin.firstCells inf.size n (.slice base n cp)).run P w.drew = .ok olds.toArray w.drew /\ ∀ k, k < n * sz -> olds[k]? = some (f k) := by
    rcases h with ⟨rfl, rfl, rfl⟩ | ⟨g, off, c, cs, rfl, rfl, hg, hnsz, hcsz, hf⟩
    ·refine ⟨none, 0, rfl, ?_, [], by simp, run_firstCells_none w.drew _ 0 0 0, fun k hk => by simp at hk⟩;by_cases hm0 : m = 0
     ·exact absurd ⟨rfl, rfl, rfl, hm0⟩ h0
     ·omega
    ·refine ⟨some ⟨g, off, none⟩, c, rfl, ?_, (cs.extract off (off + n * sz)).toList, by simp; omega, ?_, fun k hk => ?_⟩
     ·exact Nat.lt_of_not_le fun hle => hroom ⟨g, off, c, cs, rfl, rfl, hg, hle, hnsz, hcsz, hf⟩
     ·refine run_firstCells_some w.drew _ n ⟨g, off, none⟩ n c _ (by rw [his]; simp; omega) fun j x hj => ?_
      rw [C4];show w.cell? _ = _
      rw [B0 hg];have hjl : j < n * sz := by
       have := (List.getElem?_eq_some_iff.1 hj).1;simp at this; omega
      rw [Array.getElem?_toList, Array.getElem?_extract, if_pos (by omega)] at hj;exact hj
     ·rw [Array.getElem?_toList, Array.getElem?_extract, if_pos (by omega)];exact hf k hk
   subst hv;have hle1 : (n + m) * 1 <= (n + m) * B := Nat.mul_le_mul_left _ hB;have hr := run_append_grow_src (P := P) w ST ST ty T inf z ht hi hz base n cp olds hold u m news hs' hcp (by omega) (growslice_fits hcp (by rw [hib]; exact hn));have hge := grownCap_ge w (n + m) cp T;have hle2 : (n + m) * sz <= grownCap w (n + m) cp T * sz := Nat.mul_le_mul_right _ hge;rw [Nat.add_mul] at hle2;have hsz : ((olds ++ news).toArray ++ Builtin.zeroCells z.cells (grownCap w (n + m) cp T - (n + m))).size = grownCap w (n + m) cp T * sz := by
    rw [Array.size_append, size_zeroCells, hzs, List.size_toArray, List.length_append, hol, hnl, Nat.sub_mul, Nat.add_mul];omega
   refine ⟨_, _, some w.heap.size, hr, .inr ⟨w.heap.size, 0, grownCap w (n + m) cp T, _, rfl, rfl, A6 w.drew _ _ rfl, ?_, ?_, fun k hk => ?_⟩, ⟨⟨_, _, rfl, hge⟩, .inr ⟨_, rfl, Nat.le_refl _, ?_⟩⟩⟩
   ·rw [hsz, Nat.add_mul]; omega
   ·rw [hsz]; omega
   ·rw [Nat.add_mul] at hk;unfold V7;rw [Nat.zero_add, Array.getElem?_append_left (by simp; omega), List.getElem?_toArray];by_cases hk1 : k < n * sz
    ·rw [if_pos hk1, List.getElem?_append_left (by omega)];exact hof k hk1
    ·rw [if_neg hk1, List.getElem?_append_right (by omega), hol];exact hnw _ (by omega)
   ·exact Ag (show Below w.heap.size w (w.drew.alloc _) from Below.alloc (show Below w.heap.size w w.drew from ⟨rfl, rfl, rfl, Nat.le_refl _, fun _ _ => rfl⟩) (Nat.le_refl _) _) _
theorem Di.src {P : Program} {ST T : TypeId} {sz : Nat} (ht : P.underlying ST = some (.slice T)) {w : World} {v : Value} {ob : Option Nat} {n : Nat} {f : Nat -> Value} (h : Di T sz w v ob n f) (h1 : ∀ k, k < n * sz -> (f k).oneCell' = true) :
  ∃ news, Src P sz ST v n news w /\ ∀ k, k < n * sz -> news[k]? = some (f k) := by
 rcases h with ⟨rfl, -, rfl⟩ | ⟨g, off, c, cs, rfl, -, hg, hnsz, hcsz, hf⟩
 ·exact ⟨[], Src.ofNil w ht 0, fun k hk => by simp at hk⟩
 ·have key : ∀ k x, (cs.extract off (off + n * sz)).toList[k]? = some x -> k < n * sz /\ cs[off + k]? = some x := fun k x hk => by
   have hkl : k < n * sz := by
    have := (List.getElem?_eq_some_iff.1 hk).1;simp at this; omega
   rw [Array.getElem?_toList, Array.getElem?_extract, if_pos (by omega)] at hk;exact ⟨hkl, hk⟩
  refine ⟨(cs.extract off (off + n * sz)).toList, Src.ofSlice w ht ⟨g, off, none⟩ n c _ (by simp; omega) (fun j x hj => ?_) (fun x hx => ?_), fun k hk => ?_⟩
  ·rw [C4, B0 hg];exact (key j x hj).2
  ·obtain ⟨j, hj⟩ := List.getElem?_of_mem hx;obtain ⟨hjl, hj2⟩ := key j x hj;rw [hf j hjl] at hj2;rw [<- Option.some.inj hj2];exact h1 j hjl
  ·rw [Array.getElem?_toList, Array.getElem?_extract, if_pos (by omega)];exact hf k hk
def Jl (S : Nat -> List Int) (k : Nat) : Value := .int .u8 (nth (S (k / 128)) (k % 128))
theorem Lc {cs : Array Value} {o : Nat} {s : List Int} (hs : s.length = 128) (hsz : o + 128 <= cs.size) : cs.extract o (o + 128) = IV .u8 s ↔ ∀ k, k < 128 -> cs[o + k]? = some (.int .u8 (nth s k)) := by
 constructor
 ·intro h k hk;have h2 : (cs.extract o (o + 128))[k]? = (IV .u8 s)[k]? := by rw [h]
  rw [Array.getElem?_extract, if_pos (by omega), Bh, Am (by omega)] at h2;exact h2
 ·intro h;apply Array.ext_getElem?
  intro k;rw [Array.getElem?_extract, Bh];by_cases hk : k < 128
  ·rw [if_pos (by omega), h k hk, Am (by omega)]; rfl
  ·rw [if_neg (by omega), List.getElem?_eq_none (by omega)]; rfl
theorem Ie {cs : Array Value} {o N : Nat} {S : Nat -> List Int} (hs : ∀ i, i < N -> (S i).length = 128) (hsz : o + N * 128 <= cs.size) :
  (∀ i, i < N -> cs.extract (o + i * 128) (o + i * 128 + 128) = IV .u8 (S i)) ↔ ∀ k, k < N * 128 -> cs[o + k]? = some (Jl S k) := by
 constructor
 ·intro h k hk;have := (Lc (hs (k / 128) (by omega)) (by omega)).1 (h (k / 128) (by omega)) (k % 128) (by omega);rw [show o + k / 128 * 128 + k % 128 = o + k by omega] at this;exact this
 ·intro h i hi;refine (Lc (hs i hi) (by omega)).2 fun k hk => ?_
  have := h (i * 128 + k) (by omega);unfold Jl at this;rw [show (i * 128 + k) / 128 = i by omega, show (i * 128 + k) % 128 = k by omega, <- Nat.add_assoc] at this;exact this
structure Ew (w : World) (v : Value) (ob : Option Nat) (N : Nat) (S : Nat -> List Int) : Prop where
 g : Di 33 128 w v ob N (Jl S)
 len : ∀ j, j < N -> (S j).length = 128 /\ A0 (S j)
theorem Ew.none' (w : World) (S : Nat -> List Int) : Ew w (.slice none 0 0) none 0 S := ⟨.inl ⟨rfl, rfl, rfl⟩, fun j h => by omega⟩
theorem Ew.fr {w w' : World} {v : Value} {ob : Option Nat} {N : Nat} {S : Nat -> List Int} {ex : List Nat} (h : Ew w v ob N S) (hf : Fr ex w w') (hn : ∀ g, ob = some g -> g ∉ ex) : Ew w' v ob N S := ⟨h.g.fr hf hn, h.len⟩
theorem Ew.congr {w : World} {v : Value} {ob : Option Nat} {N : Nat} {S S' : Nat -> List Int} (h : Ew w v ob N S) (he : ∀ j, j < N -> S j = S' j) : Ew w v ob N S' :=
 ⟨h.g.congr fun k hk => by unfold Jl; rw [he _ (by omega)], fun j hj => by rw [<- he j hj]; exact h.len j hj⟩
theorem Ew.of {w : World} {g N c : Nat} {S : Nat -> List Int} (h : Cf w g N c S) : Ew w (.slice (some ⟨g, 0, none⟩) N c) (some g) N S := by
 obtain ⟨cs, h1, h2, h3⟩ := h;refine ⟨.inr ⟨g, 0, c, cs, rfl, rfl, h1, by omega, by omega, (Ie (o := 0) (fun i hi => (h3 i hi).1) (by omega)).1 fun i hi => ?_⟩, fun j hj => ⟨(h3 j hj).1, (h3 j hj).2.1⟩⟩;rw [Nat.zero_add]; exact (h3 i hi).2.2
theorem Ew.img {w : World} {v : Value} {ob : Option Nat} {N : Nat} {S : Nat -> List Int} (h : Ew w v ob N S) : G6 w v N S := by
 obtain ⟨hg, hl⟩ := h;rcases hg with ⟨rfl, -, rfl⟩ | ⟨g, off, c, cs, rfl, -, h1, h2, h3, h4⟩
 ·exact ⟨none, 0, rfl, fun h => by omega⟩
 ·refine ⟨_, _, rfl, fun hN => ⟨g, off, rfl, cs, _, _, h1, h2, fun i hi => ⟨(hl i hi).1, (hl i hi).2, ?_⟩⟩⟩;exact (Ie (fun i hi => (hl i hi).1) h2).2 h4 i hi
theorem G6.src {w : World} {v : Value} {N : Nat} {S : Nat -> List Int} (h : G6 w v N S) : ∃ news, Src Tryz.prog 128 22 v N news w /\ ∀ k, k < N * 128 -> news[k]? = some (Jl S k) := by
 have ht : Tryz.prog.underlying 22 = some (.slice 33) := Tryz.underlying22;obtain ⟨a, c, rfl, h⟩ := h;by_cases hN : N = 0
 ·subst hN;refine ⟨[], ?_, fun k hk => by omega⟩;cases a with
  | none => exact Src.ofNil w ht c
  | some a => exact Src.ofSlice w ht a 0 c [] rfl (fun j u hj => by simp at hj) (fun u hu => by simp at hu)
 ·obtain ⟨g, off, rfl, cs, t, fr, hg, hsz, hall⟩ := h (by omega);have hc := (Ie (fun i hi => (hall i hi).1) hsz).1 fun i hi => (hall i hi).2.2
  have key : ∀ k x, (cs.extract off (off + N * 128)).toList[k]? = some x -> k < N * 128 /\ cs[off + k]? = some x := fun k x hk => by
   have hkl : k < N * 128 := by
    have := (List.getElem?_eq_some_iff.1 hk).1;simp at this; omega
   rw [Array.getElem?_toList, Array.getElem?_extract, if_pos (by omega)] at hk;exact ⟨hkl, hk⟩
  refine ⟨(cs.extract off (off + N * 128)).toList, Src.ofSlice w ht ⟨g, off, none⟩ N c _ (by simp; omega) (fun j x hj => ?_) (fun x hx => ?_), fun k hk => ?_⟩
  ·rw [C4, B0 hg];exact (key j x hj).2
  ·obtain ⟨j, hj⟩ := List.getElem?_of_mem hx;obtain ⟨hjl, hj2⟩ := key j x hj;rw [hc j hjl] at hj2;rw [<- Option.some.inj hj2]; rfl
  ·rw [Array.getElem?_toList, Array.getElem?_extract, if_pos (by omega)];exact hc k hk
def Qm (N : Nat) (S S2 : Nat -> List Int) : Nat -> List Int := fun j => if j < N then S j else S2 (j - N)
theorem bQ (N : Nat) (S S2 : Nat -> List Int) : V7 (N * 128) (Jl S) (Jl S2) = Jl (Qm N S S2) := by
 funext k
 unfold V7 Jl Qm;by_cases h : k < N * 128
 ·rw [if_pos h, if_pos (by omega)]
 ·rw [if_neg h, if_neg (by omega), show (k - N * 128) / 128 = k / 128 - N by omega, show (k - N * 128) % 128 = k % 128 by omega]
theorem Ns {w : World} {v u : Value} {ob : Option Nat} {N M : Nat} {S S2 : Nat -> List Int} (h : Ew w v ob N S) (hu : G6 w u M S2) (hn : (N + M) * 128 <= 140737488355328) (ty : TypeId) :
  ∃ v' w' ob', (Builtin.append_ #[22, 22] ty #[v, u]).run Tryz.prog w = .ok v' w' /\ Ew w' v' ob' (N + M) (Qm N S S2) /\ bM w w' v v' ob ob' N (N + M) := by
 obtain ⟨inf, z, hi, hz, hzs, his, hib⟩ := Lf;obtain ⟨news, hs, hnw⟩ := hu.src;obtain ⟨v', w', ob', h1, h2, h3⟩ := Kf (P := Tryz.prog) (ST := 22) Tryz.underlying22 hi hz hzs his hib h.g hs hnw (by omega) hn ty;rw [bQ] at h2;refine ⟨v', w', ob', h1, ⟨h2, fun j hj => ?_⟩, h3⟩;unfold Qm;by_cases hj1 : j < N
 ·rw [if_pos hj1]; exact h.len j hj1
 ·rw [if_neg hj1]; exact hu.len _ (by omega)
theorem Zw {old cs : Array Value} {off : Nat} (h : off + cs.size <= old.size) (j : Nat) : (Ak old off cs)[j]? = if off <= j /\ j < off + cs.size then cs[j - off]? else old[j]? := by
 rw [<- Array.getElem?_toList, Lu];by_cases h1 : j < off
 ·rw [if_neg (by omega), List.getElem?_append_left (by simp; omega), List.getElem?_take, if_pos h1, Array.getElem?_toList]
 ·rw [List.getElem?_append_right (by simp; omega)];have hl : (old.toList.take off).length = off := by simp; omega
  rw [hl];by_cases h2 : j < off + cs.size
  ·rw [if_pos (by omega), List.getElem?_append_left (by simp; omega), Array.getElem?_toList]
  ·rw [if_neg (by omega), List.getElem?_append_right (by simp; omega), List.getElem?_drop, Array.length_toList, Array.getElem?_toList];congr 1; omega
theorem Ew.put {w : World} {v : Value} {ob : Option Nat} {N : Nat} {S : Nat -> List Int} (h : Ew w v ob N S) {k : Nat} (hk : k < N) {s : List Int} (hs : s.length = 128) (hb : A0 s) :
  ∃ g off c cs, v = .slice (some ⟨g, off, none⟩) N c /\ ob = some g /\ hat w g = some (.cells cs 33) /\ off + N * 128 <= cs.size /\ Ew (w.setRow g (Ak cs (off + k * 128) (IV .u8 s))) v ob N (Bn S k s) := by
 obtain ⟨hg, hl⟩ := h;rcases hg with ⟨-, -, h⟩ | ⟨g, off, c, cs, rfl, h0, h1, h2, h3, h4⟩
 ·omega
 ·have hsz : (IV .u8 s).size = 128 := by simp [hs]
  have hss := Hb cs (off + k * 128) (IV .u8 s) (by rw [hsz]; omega);refine ⟨g, off, c, cs, rfl, h0, h1, h2, ⟨.inr ⟨g, off, c, _, rfl, h0, Aq _ _ _ _ _ _ h1, by rw [hss]; exact h2, by rw [hss]; exact h3, fun j hj => ?_⟩, fun j hj => ?_⟩⟩
  ·rw [Zw (by rw [hsz]; omega), hsz];unfold Jl Bn;by_cases hjk : j / 128 = k
   ·rw [if_pos hjk, if_pos (by omega), Bh, Am (by omega), show off + j - (off + k * 128) = j % 128 by omega]; rfl
   ·rw [if_neg hjk, if_neg (by omega)];exact h4 j hj
  ·unfold Bn;split
   ·exact ⟨hs, hb⟩
   ·exact hl j hj
structure RP where
 (v0 v1 v2 v3 : Value)
 (o0 o1 o2 o3 : Option Nat)
 (N : Nat)
 (S : Nat -> List Int)
 (xs ys zs : List Int)
def RP.os (R : RP) : List Nat := R.o0.toList ++ R.o1.toList ++ R.o2.toList ++ R.o3.toList
def RP.val (R : RP) : Value := .agg #[R.v0, R.v1, R.v2, R.v3]
structure Iq (w : World) (R : RP) : Prop where
 r0 : Ew w R.v0 R.o0 R.N R.S
 r1 : Bc w R.v1 R.o1 R.xs
 r2 : Bc w R.v2 R.o2 R.ys
 r3 : Bc w R.v3 R.o3 R.zs
 d12 : ∀ g, R.o1 = some g -> R.o2 ≠ some g
 d13 : ∀ g, R.o1 = some g -> R.o3 ≠ some g
 d23 : ∀ g, R.o2 = some g -> R.o3 ≠ some g
 n0 : R.N <= 4900
 n1 : R.xs.length <= 4900
 n2 : R.ys.length <= 4900
 n3 : R.zs.length <= 4900
theorem RP.mem_os {R : RP} {g : Nat} : g ∈ R.os ↔ R.o0 = some g \/ R.o1 = some g \/ R.o2 = some g \/ R.o3 = some g := by
 unfold RP.os;simp [List.mem_append, Option.mem_toList, or_assoc]
theorem Iq.fr {w w' : World} {R : RP} {ex : List Nat} (h : Iq w R) (hf : Fr ex w w') (hn : ∀ g ∈ R.os, g ∉ ex) : Iq w' R :=
 ⟨h.r0.fr hf (fun g hg => hn g (RP.mem_os.2 (.inl hg))), h.r1.fr hf (fun g hg => hn g (RP.mem_os.2 (.inr (.inl hg)))), h.r2.fr hf (fun g hg => hn g (RP.mem_os.2 (.inr (.inr (.inl hg))))), h.r3.fr hf (fun g hg => hn g (RP.mem_os.2 (.inr (.inr (.inr hg))))), h.d12, h.d13, h.d23, h.n0, h.n1, h.n2, h.n3⟩
theorem Iq.lt {w : World} {R : RP} (h : Iq w R) : ∀ g ∈ R.os, g < w.heap.size := fun g hg => by
 rcases RP.mem_os.1 hg with e | e | e | e
 ·exact h.r0.g.lt g e
 ·exact h.r1.lt g e
 ·exact h.r2.lt g e
 ·exact h.r3.lt g e
theorem Iq.repV {w : World} {R : RP} (h : Iq w R) : K8 w R.v0 R.v1 R.v2 R.v3 R.o1 R.o2 R.o3 R.N R.S R.xs R.ys R.zs :=
 ⟨h.r0.img, h.r1, h.r2, h.r3, by have := h.n0; omega, by have := h.n1; omega, by have := h.n2; omega, by have := h.n3; omega⟩
noncomputable def Hq (N : Nat) (S : Nat -> List Int) : Nat := if Co N S = 0 then N else 0
noncomputable def Kq (N : Nat) (S : Nat -> List Int) : Nat -> List Int := Dn (A4 (S 0)).2.1 (Dc N (A4 (S 0)).2.1 S)
noncomputable def Ft (N : Nat) (S : Nat -> List Int) : List Int := if Co N S = 0 then Gw N (A4 (S 0)).2.1 (Kq N S) S (Dc N (A4 (S 0)).2.1 S).st.fm else []
noncomputable def Fs (N : Nat) (S : Nat -> List Int) : List Int := if Co N S = 0 then Dk (fun p => ((Dc N (A4 (S 0)).2.1 S).T p.toNat).isSome) else []
noncomputable def Fq (N : Nat) (S : Nat -> List Int) : List Int := if Co N S = 0 then Dk (Dc N (A4 (S 0)).2.1 S).st.cl else []
structure RP.Look (R : RP) (N : Nat) (S : Nat -> List Int) : Prop where
 n : R.N = Hq N S
 s : R.S = Kq N S
 x : R.xs = Ft N S
 y : R.ys = Fs N S
 z : R.zs = Fq N S
def pF (N : Nat) (S : Nat -> List Int) (w : World) (e : Ending) (w' : World) : Prop :=
 Below w.heap.size w w' /\ ∃ R : RP, e = .returned (.tuple #[R.val, .int .i64 (Co N S)]) /\ Iq w' R /\ R.Look N S /\ ∀ g ∈ R.os, w.heap.size <= g
theorem Nl {v : Value} {N : Nat} {S : Nat -> List Int} {w : World} (h : G6 w v N S) :
  Calls Tryz.prog 10 #[v] w (pF N S w) := by
 refine (cY h).mono ?_;rintro e w' ⟨hb, ⟨he, gw, cw, v1, v2, v3, o1, o2, o3, rfl, k1, k2, k3, k4, k5, k6, k7, k8⟩ | ⟨he, rfl⟩⟩
 ·obtain ⟨h8, hN9, -⟩ := Wz he;have hwl := S6 (N := N) (A4 (S 0)).2.1 (Dn (A4 (S 0)).2.1 (Dc N (A4 (S 0)).2.1 S)) S (Dc N (A4 (S 0)).2.1 S).st.fm;have hkt := L5 4096 (fun p => ((Dc N (A4 (S 0)).2.1 S).T p.toNat).isSome);have hkc := L5 4096 (Dc N (A4 (S 0)).2.1 S).st.cl;change (Dk _).length <= _ at hkt hkc;refine ⟨hb, ⟨.slice (some ⟨gw, 0, none⟩) N cw, v1, v2, v3, some gw, o1, o2, o3, N, Kq N S, Ft N S, Fs N S, Fq N S⟩, ?_, ⟨Ew.of k1, ?_, ?_, ?_, ?_, ?_, ?_, ?_, ?_, ?_, ?_⟩, ⟨?_, rfl, rfl, rfl, rfl⟩, ?_⟩
  ·rw [he]; rfl
  ·show Bc _ _ _ (Ft N S); unfold Ft Kq; rw [if_pos he]; exact k2
  ·show Bc _ _ _ (Fs N S); unfold Fs; rw [if_pos he]; exact k3
  ·show Bc _ _ _ (Fq N S); unfold Fq; rw [if_pos he]; exact k4
  ·intro g h1 h2;have := List.pairwise_cons.1 k8;exact this.1 o2 (by simp) g h1 h2
  ·intro g h1 h2;have := List.pairwise_cons.1 k8;exact this.1 o3 (by simp) g h1 h2
  ·intro g h1 h2;have := List.pairwise_cons.1 (List.pairwise_cons.1 k8).2;exact this.1 o3 (by simp) g h1 h2
  ·show N <= 4900; omega
  ·show (Ft N S).length <= 4900
   unfold Ft Kq; rw [if_pos he]; omega
  ·show (Fs N S).length <= 4900
   unfold Fs; rw [if_pos he]; omega
  ·show (Fq N S).length <= 4900
   unfold Fq; rw [if_pos he]; omega
  ·show N = Hq N S
   unfold Hq; rw [if_pos he]
  ·intro g hg;rcases RP.mem_os.1 hg with h0 | h1 | h1 | h1
   ·obtain rfl := Option.some.inj h0;exact k6
   ·exact Nat.le_trans k6 (Nat.le_of_succ_le (k7 o1 (by simp) g h1))
   ·exact Nat.le_trans k6 (Nat.le_of_succ_le (k7 o2 (by simp) g h1))
   ·exact Nat.le_trans k6 (Nat.le_of_succ_le (k7 o3 (by simp) g h1))
 ·refine ⟨hb, ⟨.slice none 0 0, .slice none 0 0, .slice none 0 0, .slice none 0 0, none, none, none, none, 0, Kq N S, [], [], []⟩, rfl, ⟨Ew.none' _ _, .inl ⟨rfl, rfl, rfl⟩, .inl ⟨rfl, rfl, rfl⟩, .inl ⟨rfl, rfl, rfl⟩, ?_, ?_, ?_, ?_, ?_, ?_, ?_⟩, ⟨?_, rfl, ?_, ?_, ?_⟩, ?_⟩
  ·intro g h; cases h
  ·intro g h; cases h
  ·intro g h; cases h
  ·simp
  ·simp
  ·simp
  ·simp
  ·show 0 = Hq N S; unfold Hq; rw [if_neg he]
  ·show [] = Ft N S; unfold Ft; rw [if_neg he]
  ·show [] = Fs N S; unfold Fs; rw [if_neg he]
  ·show [] = Fq N S; unfold Fq; rw [if_neg he]
  ·intro g hg;simp [RP.os] at hg
end Go.Proofs.YthioepdgnbdohaaGreat
