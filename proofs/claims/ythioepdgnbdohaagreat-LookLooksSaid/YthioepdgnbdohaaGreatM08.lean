import Derived.Test.YthioepdgnbdohaaGreatM05
import Derived.Test.YthioepdgnbdohaaGreatM06
import Derived.Test.YthioepdgnbdohaaGreatM07
namespace Go.Proofs.YthioepdgnbdohaaGreat
set_option maxHeartbeats 16000000
set_option maxRecDepth 1000000
set_option linter.unusedSimpArgs false
set_option linter.unusedVariables false
open Go.RowKit
def bare (s : LS) : LS := { s with bk := fun _ => none }
theorem wipeL_len {s : List Int} (h : s.length = 128) {k : Nat} (hk : k ≤ 128) : (wipeL s k).length = 128 := by
 unfold wipeL
 simp only [List.length_append, List.length_take, zl_length]
 omega
theorem firmX_fm {n : Int} {st : LS} {q : Int} (h : (firmX n st).fm q = true) : st.fm q = true ∨ ∃ k, st.bk k = some q := by
 unfold firmX at h
 simp only [Bool.or_eq_true, List.any_eq_true] at h
 rcases h with h | ⟨k, -, h⟩
 ·exact .inl h
 ·exact .inr ⟨k, by simpa using h⟩
theorem firmX_mono {n : Int} {st : LS} {q : Int} (h : st.fm q = true) : (firmX n st).fm q = true := by
 unfold firmX
 simp [h]
structure TakeI (X Y : Int) (A : Nat → List Int) (st st2 : LS) (n : Int) : Prop where
 si : SI X Y A (bare st2)
 gr : Gr st st2
 new : ∀ k q, st2.bk k = some q → isD X Y q = true ∧ st2.cl q = true ∧ st.cl q = false
 inj : ∀ k k' q, st2.bk k = some q → st2.bk k' = some q → k = k'
 keys : KeysIn n st2
theorem take_i {X Y : Int} (hY : 0 ≤ Y) {A : Nat → List Int} {st : LS} (h : SI X Y A (bare st)) (raw : List Int) : TakeI X Y A st (takeX X Y raw st).2 (cntX (nth raw 2)) := by
 obtain ⟨i, d, g⟩ := ptrs_i hY (cntX (nth raw 2)) raw h
 have hkeys : KeysIn (cntX (nth raw 2)) (ptrsX X Y (cntX (nth raw 2)) raw (bare st)).2 := ptrsX_keys X Y _ raw _ (fun k hk => by cases hk)
 have hnew : ∀ k q, (ptrsX X Y (cntX (nth raw 2)) raw (bare st)).2.bk k = some q → isD X Y q = true ∧ (ptrsX X Y (cntX (nth raw 2)) raw (bare st)).2.cl q = true ∧ st.cl q = false ∧ (ptrsX X Y (cntX (nth raw 2)) raw (bare st)).2.fm q = false := by
  intro k q hk
  obtain ⟨a, b, c⟩ := i.bk k q hk
  rcases d.new k q hk with ⟨k', h5⟩ | ⟨-, h5⟩
  ·cases h5
  ·exact ⟨a, b, h5, c⟩
 have hbk := takeX_bk X Y raw st
 have hg2 : Gr st (ptrsX X Y (cntX (nth raw 2)) raw (bare st)).2 := g
 unfold takeX
 simp only
 rw [show ({ st with bk := fun _ => none } : LS) = bare st from rfl]
 generalize ptrsX X Y (cntX (nth raw 2)) raw (bare st) = r at *
 split
 ·refine ⟨⟨fun j hj => ?_, i.cd, fun k q hk => (by cases hk), fun k k' q hk => (by cases hk), i.un, i.ln, fun j hj => ?_⟩, fun j hj => ?_, fun k q hk => ?_, i.inj, hkeys⟩
  ·rcases firmX_fm hj with h1 | ⟨k, h1⟩
   ·exact i.fc j h1
   ·exact (i.bk k _ h1).2.1
  ·rcases firmX_fm hj with h1 | ⟨k, h1⟩
   ·exact i.sub j h1
   ·obtain ⟨a, b, c, e⟩ := hnew k _ h1
    have h2 : r.2.S j = A j := by
     rw [d.same j e]
     exact h.un j c
    show subP (r.2.S j) _
    rw [h2]
    exact fun _ => .inl rfl
  ·obtain ⟨a, b, c⟩ := hg2 j hj
   refine ⟨a, ?_, c⟩
   apply Bool.eq_iff_iff.2
   constructor
   ·intro hf
    rcases firmX_fm hf with h1 | ⟨k, h1⟩
    ·rw [← b]; exact h1
    ·have := (hnew k _ h1).2.2.1
     rw [hj] at this; cases this
   ·intro hf
    exact firmX_mono (by rw [b]; exact hf)
  ·obtain ⟨a, b, c, -⟩ := hnew k q hk
   exact ⟨a, b, c⟩
 ·have htS : ∀ j : Nat, (tailX (cntX (nth raw 2)) (nth raw 2) r.2).S j ≠ r.2.S j → ∃ k, r.2.bk k = some (j : Int) ∧ ((tailX (cntX (nth raw 2)) (nth raw 2) r.2).S j = wipeL (r.2.S j) (nth raw 2 % 128).toNat) := by
   intro j hj
   unfold tailX at hj ⊢
   cases hb : r.2.bk (cntX (nth raw 2) - 1) with
   | none => rw [hb] at hj; exact absurd rfl hj
   | some p =>
    rw [hb] at hj
    simp only at hj ⊢
    split at hj
    ·exact absurd rfl hj
    ·rename_i hz
     have hp := (isD_nat hY (hnew _ _ hb).1).1
     by_cases hjp : j = p.toNat
     ·subst hjp
      refine ⟨_, by rw [hp]; exact hb, ?_⟩
      rw [if_neg hz]
      show updS _ _ _ _ = _
      rw [updS_eq]
     ·exact absurd (updS_ne _ _ hjp) hj
  have ht1 : (tailX (cntX (nth raw 2)) (nth raw 2) r.2).cl = r.2.cl ∧ (tailX (cntX (nth raw 2)) (nth raw 2) r.2).fm = r.2.fm ∧ (tailX (cntX (nth raw 2)) (nth raw 2) r.2).bk = r.2.bk := by
   unfold tailX
   split
   ·exact ⟨rfl, rfl, rfl⟩
   ·split <;> exact ⟨rfl, rfl, rfl⟩
  obtain ⟨t1, t2, t3⟩ := ht1
  have hk128 : (nth raw 2 % 128).toNat ≤ 128 := by omega
  refine ⟨⟨fun j hj => ?_, fun q hq => ?_, fun k q hk => (by cases hk), fun k k' q hk => (by cases hk), fun j hj => ?_, fun j hj => ?_, fun j hj => ?_⟩, fun j hj => ?_, fun k q hk => ?_, fun k k' q h1 h2 => ?_, fun k hk => ?_⟩
  ·have hj2 : (tailX (cntX (nth raw 2)) (nth raw 2) r.2).fm j = true := hj
   show (tailX (cntX (nth raw 2)) (nth raw 2) r.2).cl j = true
   rw [t2] at hj2; rw [t1]
   exact i.fc j hj2
  ·have hq2 : (tailX (cntX (nth raw 2)) (nth raw 2) r.2).cl q = true := hq
   rw [t1] at hq2
   exact i.cd q hq2
  ·have hj2 : (tailX (cntX (nth raw 2)) (nth raw 2) r.2).cl j = false := hj
   rw [t1] at hj2
   show (tailX (cntX (nth raw 2)) (nth raw 2) r.2).S j = _
   by_cases hc : (tailX (cntX (nth raw 2)) (nth raw 2) r.2).S j = r.2.S j
   ·rw [hc]; exact i.un j hj2
   ·obtain ⟨k, h1, -⟩ := htS j hc
    have := (i.bk k _ h1).2.1
    rw [hj2] at this; cases this
  ·show ((tailX (cntX (nth raw 2)) (nth raw 2) r.2).S j).length = 128 ∧ Bytes ((tailX (cntX (nth raw 2)) (nth raw 2) r.2).S j)
   obtain ⟨l1, l2⟩ := i.ln j hj
   by_cases hc : (tailX (cntX (nth raw 2)) (nth raw 2) r.2).S j = r.2.S j
   ·rw [hc]; exact ⟨l1, l2⟩
   ·obtain ⟨k, -, h1⟩ := htS j hc
    rw [h1]
    exact ⟨wipeL_len l1 hk128, bytes_wipeL l2 _⟩
  ·have hj2 : (tailX (cntX (nth raw 2)) (nth raw 2) r.2).fm j = true := hj
   rw [t2] at hj2
   show subP ((tailX (cntX (nth raw 2)) (nth raw 2) r.2).S j) _
   by_cases hc : (tailX (cntX (nth raw 2)) (nth raw 2) r.2).S j = r.2.S j
   ·rw [hc]; exact i.sub j hj2
   ·obtain ⟨k, h1, -⟩ := htS j hc
    have := (i.bk k _ h1).2.2
    rw [hj2] at this; cases this
  ·obtain ⟨a, b, c⟩ := hg2 j hj
   refine ⟨by show (tailX _ _ _).cl j = true; rw [t1]; exact a, by show (tailX _ _ _).fm j = _; rw [t2]; exact b, ?_⟩
   show (tailX (cntX (nth raw 2)) (nth raw 2) r.2).S j = _
   by_cases hc : (tailX (cntX (nth raw 2)) (nth raw 2) r.2).S j = r.2.S j
   ·rw [hc]; exact c
   ·obtain ⟨k, h1, -⟩ := htS j hc
    have := (hnew k _ h1).2.2.1
    rw [hj] at this; cases this
  ·have hk2 : (tailX (cntX (nth raw 2)) (nth raw 2) r.2).bk k = some q := hk
   rw [t3] at hk2
   obtain ⟨a, b, c, -⟩ := hnew k q hk2
   exact ⟨a, by show (tailX _ _ _).cl q = true; rw [t1]; exact b, c⟩
  ·have h1' : (tailX (cntX (nth raw 2)) (nth raw 2) r.2).bk k = some q := h1
   have h2' : (tailX (cntX (nth raw 2)) (nth raw 2) r.2).bk k' = some q := h2
   rw [t3] at h1' h2'
   exact i.inj k k' q h1' h2'
  ·have hk2 : ((tailX (cntX (nth raw 2)) (nth raw 2) r.2).bk k).isSome = true := hk
   rw [t3] at hk2
   exact hkeys k hk2
def pend (z : LZ) (j : Nat) : Prop := ∃ i ∈ z.q, ∃ t k, z.T i.toNat = some t ∧ t.bk k = some (j : Int)
structure InvZ (X Y : Int) (A : Nat → List Int) (z : LZ) : Prop where
 si : SI X Y A (bare z.st)
 blk : ∀ i t k q, z.T i = some t → t.bk k = some q → isD X Y q = true ∧ z.st.cl q = true
 inj : ∀ i t k i' t' k' q, z.T i = some t → t.bk k = some q → z.T i' = some t' → t'.bk k' = some q → i = i' ∧ k = k'
 keys : ∀ i t k q, z.T i = some t → t.bk k = some q → 0 ≤ k ∧ k < cntX (nth t.raw 2)
 qn : z.q.Nodup
 qT : ∀ i ∈ z.q, 0 ≤ i ∧ ∃ t, z.T i.toNat = some t ∧ nth t.raw 0 = 2
 snd : ∀ i t, z.T i = some t → soundR (A i) = true ∧ t.raw.length = 18 ∧ nth t.raw 0 = nth (rdInoR (A i)).1 0 ∧ nth t.raw 2 = nth (rdInoR (A i)).1 2 ∧ nth t.raw 3 = nth (rdInoR (A i)).1 3 ∧ ∀ j, 4 ≤ j → nth t.raw j = nth (rdInoR (A i)).1 j ∨ nth t.raw j = 0
 en : ∀ i t, z.T i = some t → 0 ≤ t.en ∧ t.en ≤ 100
theorem updT_eq (T : Nat → Option TI) (i : Nat) (t : TI) : updT T i t i = some t := by unfold updT; rw [if_pos rfl]
theorem updT_ne (T : Nat → Option TI) {i j : Nat} (t : TI) (h : j ≠ i) : updT T i t j = T j := by unfold updT; rw [if_neg h]
theorem ptrs_sub {X Y : Int} (hY : 0 ≤ Y) (n : Int) {raw : List Int} (hr : raw.length = 18) (st : LS) (j : Nat) (hj : 4 ≤ j) : nth (ptrsX X Y n raw st).1 j = nth raw j ∨ nth (ptrsX X Y n raw st).1 j = 0 := by
 obtain ⟨-, q1, q2, q3, q4⟩ := ptrs_nth (X := X) hY n hr st
 by_cases h16 : j < 16
 ·have e := q1 (j - 4) (by omega)
  rw [show 4 + (j - 4) = j by omega] at e
  rw [e]
  rcases (rowT_i (X := X) hY (fun _ => []) n 0).ok.sub ((raw.drop 4).take 12) st (j - 4) with h | h
  ·left
   rw [show (pA X Y n raw st).1 = (rowT X Y n 0 ((raw.drop 4).take 12) st).1 from rfl, h, nth_direct hr (by omega), show 4 + (j - 4) = j by omega]
  ·exact .inr h
 ·by_cases h17 : j = 16
  ·subst h17
   rw [q2]
   exact (sglT_i (X := X) hY (fun _ => []) n).ok.sub [nth raw 16] _ 0
  ·by_cases h18 : j = 17
   ·subst h18
    rw [q3]
    exact (dubT_i (X := X) hY (fun _ => []) n).ok.sub [nth raw 17] _ 0
   ·right
    exact nth_out (by omega)
theorem InvZ.take {X Y : Int} (hY : 0 ≤ Y) {A : Nat → List Int} {z : LZ} (h : InvZ X Y A z) {i : Nat} (hT : z.T i = none) (hs : soundR (A i) = true) {n : Int} (h0 : 0 ≤ n) (h1 : n ≤ 100) : InvZ X Y A (takeZ X Y i (rdInoR (A i)).1 n z) := by
 have hrl := rdInoR_length (A i)
 have t := take_i hY h.si (rdInoR (A i)).1
 obtain ⟨q0, -, -, -, q4⟩ := ptrs_nth (X := X) hY (cntX (nth (rdInoR (A i)).1 2)) hrl (bare z.st)
 have hsub := ptrs_sub (X := X) hY (cntX (nth (rdInoR (A i)).1 2)) hrl (bare z.st)
 have hf := takeX_fst X Y (rdInoR (A i)).1 z.st
 rw [show ({ z.st with bk := fun _ => none } : LS) = bare z.st from rfl] at hf
 generalize hraw : (rdInoR (A i)).1 = raw at *
 have hold : ∀ {j : Nat} {u : TI}, (takeZ X Y i raw n z).T j = some u → (j = i ∧ u = ⟨(takeX X Y raw z.st).1, n, (takeX X Y raw z.st).2.bk⟩) ∨ (j ≠ i ∧ z.T j = some u) := by
  intro j u hu
  have hu2 : updT z.T i ⟨(takeX X Y raw z.st).1, n, (takeX X Y raw z.st).2.bk⟩ j = some u := hu
  by_cases hj : j = i
  ·subst hj
   rw [updT_eq] at hu2
   exact .inl ⟨rfl, (Option.some.inj hu2).symm⟩
  ·rw [updT_ne _ _ hj] at hu2
   exact .inr ⟨hj, hu2⟩
 have hclq : ∀ q, isD X Y q = true → z.st.cl q = true → (takeX X Y raw z.st).2.cl q = true := by
  intro q hq hc
  have e := (isD_nat hY hq).1
  have := (t.gr q.toNat (by rw [e]; exact hc)).1
  rw [e] at this
  exact this
 refine ⟨t.si, fun j u k q hu hk => ?_, fun j u k j' u' k' q hu hk hu' hk' => ?_, fun j u k q hu hk => ?_, ?_, fun j hj => ?_, fun j u hu => ?_, fun j u hu => ?_⟩
 ·rcases hold hu with ⟨-, rfl⟩ | ⟨-, hu2⟩
  ·obtain ⟨a, b, -⟩ := t.new k q hk
   exact ⟨a, b⟩
  ·obtain ⟨a, b⟩ := h.blk j u k q hu2 hk
   exact ⟨a, hclq q a b⟩
 ·rcases hold hu with ⟨rfl, rfl⟩ | ⟨hj, hu2⟩
  ·rcases hold hu' with ⟨rfl, rfl⟩ | ⟨hj', hu2'⟩
   ·exact ⟨rfl, t.inj k k' q hk hk'⟩
   ·have a := (t.new k q hk).2.2
    have b := (h.blk j' u' k' q hu2' hk').2
    rw [a] at b; cases b
  ·rcases hold hu' with ⟨rfl, rfl⟩ | ⟨hj', hu2'⟩
   ·have a := (t.new k' q hk').2.2
    have b := (h.blk j u k q hu2 hk).2
    rw [a] at b; cases b
   ·exact h.inj j u k j' u' k' q hu2 hk hu2' hk'
 ·rcases hold hu with ⟨-, rfl⟩ | ⟨-, hu2⟩
  ·have := t.keys k (by rw [show (takeX X Y raw z.st).2.bk k = some q from hk]; rfl)
   show 0 ≤ k ∧ k < cntX (nth (takeX X Y raw z.st).1 2)
   rw [hf, q0 2 (by omega)]
   exact this
  ·exact h.keys j u k q hu2 hk
 ·show (if nth raw 0 = 2 then z.q ++ [(i : Int)] else z.q).Nodup
  split
  ·rw [List.nodup_append]
   refine ⟨h.qn, by simp, fun a ha b hb => ?_⟩
   rw [List.mem_singleton] at hb
   subst hb
   intro e
   subst e
   obtain ⟨-, u, hu, -⟩ := h.qT _ ha
   have : z.T i = some u := hu
   rw [hT] at this; cases this
  ·exact h.qn
 ·have hj2 : j ∈ (if nth raw 0 = 2 then z.q ++ [(i : Int)] else z.q) := hj
  have hq : j ∈ z.q → 0 ≤ j ∧ ∃ u, (takeZ X Y i raw n z).T j.toNat = some u ∧ nth u.raw 0 = 2 := by
   intro hm
   obtain ⟨a, u, hu, hk⟩ := h.qT j hm
   refine ⟨a, u, ?_, hk⟩
   show updT z.T i _ j.toNat = _
   rw [updT_ne _ _ (fun e => by rw [e, hT] at hu; cases hu)]
   exact hu
  split at hj2
  ·rename_i hk2
   rw [List.mem_append, List.mem_singleton] at hj2
   rcases hj2 with hm | rfl
   ·exact hq hm
   ·refine ⟨Int.natCast_nonneg _, ⟨(takeX X Y raw z.st).1, n, (takeX X Y raw z.st).2.bk⟩, updT_eq _ _ _, ?_⟩
    show nth (takeX X Y raw z.st).1 0 = 2
    rw [hf, q0 0 (by omega)]
    exact hk2
  ·exact hq hj2
 ·rcases hold hu with ⟨rfl, rfl⟩ | ⟨-, hu2⟩
  ·rw [hraw]
   refine ⟨hs, ?_, ?_, ?_, ?_, ?_⟩
   ·show (takeX X Y raw z.st).1.length = 18
    rw [hf]; exact q4
   ·show nth (takeX X Y raw z.st).1 0 = _
    rw [hf, q0 0 (by omega)]
   ·show nth (takeX X Y raw z.st).1 2 = _
    rw [hf, q0 2 (by omega)]
   ·show nth (takeX X Y raw z.st).1 3 = _
    rw [hf, q0 3 (by omega)]
   ·show ∀ j, 4 ≤ j → nth (takeX X Y raw z.st).1 j = _ ∨ nth (takeX X Y raw z.st).1 j = 0
    rw [hf]; exact hsub
  ·exact h.snd j u hu2
 ·rcases hold hu with ⟨rfl, rfl⟩ | ⟨-, hu2⟩
  ·exact ⟨h0, h1⟩
  ·exact h.en j u hu2
structure Stay (X Y : Int) (E E2 : Nat → Prop) (z z2 : LZ) : Prop where
 s : ∀ j : Nat, isD X Y j = true → z.st.cl j = true → ¬ pend z j → ¬ E j → z2.st.cl j = true ∧ ¬ pend z2 j ∧ ¬ E2 j ∧ z2.st.S j = z.st.S j
 f : ∀ j : Nat, z.st.fm j = true → z2.st.fm j = true
 t : ∀ i t, z.T i = some t → ∃ t2, z2.T i = some t2 ∧ t2.raw = t.raw ∧ t2.bk = t.bk
theorem Stay.refl (X Y : Int) (E : Nat → Prop) (z : LZ) : Stay X Y E E z z := ⟨fun j h1 h2 h3 h4 => ⟨h2, h3, h4, rfl⟩, fun j h => h, fun i t h => ⟨t, h, rfl, rfl⟩⟩
theorem Stay.trans {X Y : Int} {E1 E2 E3 : Nat → Prop} {a b c : LZ} (h : Stay X Y E1 E2 a b) (h2 : Stay X Y E2 E3 b c) : Stay X Y E1 E3 a c := by
 refine ⟨fun j h1 h3 h4 h5 => ?_, fun j hj => h2.f j (h.f j hj), fun i t ht => ?_⟩
 ·obtain ⟨a1, a2, a3, a4⟩ := h.s j h1 h3 h4 h5
  obtain ⟨b1, b2, b3, b4⟩ := h2.s j h1 a1 a2 a3
  exact ⟨b1, b2, b3, b4.trans a4⟩
 ·obtain ⟨t2, a1, a2, a3⟩ := h.t i t ht
  obtain ⟨t3, b1, b2, b3⟩ := h2.t i t2 a1
  exact ⟨t3, b1, b2.trans a2, b3.trans a3⟩
def rest (bk : Int → Option Int) (k : Nat) (j : Nat) : Prop := ∃ k' : Int, (k : Int) ≤ k' ∧ bk k' = some (j : Int)
theorem stay_take {X Y : Int} (hY : 0 ≤ Y) {A : Nat → List Int} {z : LZ} (h : InvZ X Y A z) {i : Nat} (hT : z.T i = none) (n : Int) (raw : List Int) (E : Nat → Prop) : Stay X Y E E z (takeZ X Y i raw n z) := by
 have t := take_i hY h.si raw
 refine ⟨fun j h1 h2 h3 h4 => ?_, fun j hj => ?_, fun j u hu => ?_⟩
 ·obtain ⟨a, b, c⟩ := t.gr j h2
  refine ⟨a, ?_, h4, c⟩
  rintro ⟨i2, hi2, u, k, hu, hk⟩
  have hu2 : updT z.T i ⟨(takeX X Y raw z.st).1, n, (takeX X Y raw z.st).2.bk⟩ i2.toNat = some u := hu
  have hi3 : i2 ∈ (if nth raw 0 = 2 then z.q ++ [(i : Int)] else z.q) := hi2
  by_cases hi : i2.toNat = i
  ·rw [hi, updT_eq] at hu2
   obtain rfl := Option.some.inj hu2
   have := (t.new k _ hk).2.2
   rw [h2] at this; cases this
  ·rw [updT_ne _ _ hi] at hu2
   split at hi3
   ·rw [List.mem_append, List.mem_singleton] at hi3
    rcases hi3 with h5 | rfl
    ·exact h3 ⟨i2, h5, u, k, hu2, hk⟩
    ·exact hi rfl
   ·exact h3 ⟨i2, hi3, u, k, hu2, hk⟩
 ·have := (t.gr j (h.si.fc j hj)).2.1
  show (takeX X Y raw z.st).2.fm j = true
  rw [this]; exact hj
 ·refine ⟨u, ?_, rfl, rfl⟩
  show updT z.T i _ j = _
  rw [updT_ne _ _ (fun e => by subst e; rw [hT] at hu; cases hu)]
  exact hu
theorem stay_en {X Y : Int} {z : LZ} {i : Nat} {t : TI} (ht : z.T i = some t) (n : Int) (E : Nat → Prop) : Stay X Y E E z { z with T := updT z.T i { t with en := n } } := by
 have hT : ∀ j u, updT z.T i { t with en := n } j = some u → ∃ u0, z.T j = some u0 ∧ u.raw = u0.raw ∧ u.bk = u0.bk := by
  intro j u hu
  by_cases hj : j = i
  ·subst hj
   rw [updT_eq] at hu
   obtain rfl := Option.some.inj hu
   exact ⟨t, ht, rfl, rfl⟩
  ·rw [updT_ne _ _ hj] at hu
   exact ⟨u, hu, rfl, rfl⟩
 refine ⟨fun j h1 h2 h3 h4 => ⟨h2, ?_, h4, rfl⟩, fun j hj => hj, fun j u hu => ?_⟩
 ·rintro ⟨i2, hi2, u, k, hu, hk⟩
  obtain ⟨u0, h5, h6, h7⟩ := hT _ u hu
  exact h3 ⟨i2, hi2, u0, k, h5, by rw [← h7]; exact hk⟩
 ·by_cases hj : j = i
  ·subst hj
   rw [ht] at hu
   obtain rfl := Option.some.inj hu
   exact ⟨_, updT_eq _ _ _, rfl, rfl⟩
  ·exact ⟨u, by show updT z.T i _ j = _; rw [updT_ne _ _ hj]; exact hu, rfl, rfl⟩
theorem InvZ.enu {X Y : Int} {A : Nat → List Int} {z : LZ} (h : InvZ X Y A z) {i : Nat} {t : TI} (ht : z.T i = some t) {n : Int} (h0 : 0 ≤ n) (h1 : n ≤ 100) : InvZ X Y A { z with T := updT z.T i { t with en := n } } := by
 have hT : ∀ j u, updT z.T i { t with en := n } j = some u → ∃ u0, z.T j = some u0 ∧ u.raw = u0.raw ∧ u.bk = u0.bk ∧ (u.en = u0.en ∨ u.en = n) := by
  intro j u hu
  by_cases hj : j = i
  ·subst hj
   rw [updT_eq] at hu
   obtain rfl := Option.some.inj hu
   exact ⟨t, ht, rfl, rfl, .inr rfl⟩
  ·rw [updT_ne _ _ hj] at hu
   exact ⟨u, hu, rfl, rfl, .inl rfl⟩
 refine ⟨h.si, fun j u k q hu hk => ?_, fun j u k j' u' k' q hu hk hu' hk' => ?_, fun j u k q hu hk => ?_, h.qn, fun j hj => ?_, fun j u hu => ?_, fun j u hu => ?_⟩
 ·obtain ⟨u0, a, b, c, -⟩ := hT j u hu
  exact h.blk j u0 k q a (by rw [← c]; exact hk)
 ·obtain ⟨u0, a, b, c, -⟩ := hT j u hu
  obtain ⟨u0', a', b', c', -⟩ := hT j' u' hu'
  exact h.inj j u0 k j' u0' k' q a (by rw [← c]; exact hk) a' (by rw [← c']; exact hk')
 ·obtain ⟨u0, a, b, c, -⟩ := hT j u hu
  rw [b]
  exact h.keys j u0 k q a (by rw [← c]; exact hk)
 ·obtain ⟨a, u, hu, hk⟩ := h.qT j hj
  refine ⟨a, ?_⟩
  by_cases hji : j.toNat = i
  ·refine ⟨_, by show updT z.T i _ j.toNat = _; rw [hji, updT_eq], ?_⟩
   rw [hji, ht] at hu
   obtain rfl := Option.some.inj hu
   exact hk
  ·exact ⟨u, by show updT z.T i _ j.toNat = _; rw [updT_ne _ _ hji]; exact hu, hk⟩
 ·obtain ⟨u0, a, b, c, -⟩ := hT j u hu
  rw [b]
  exact h.snd j u0 a
 ·obtain ⟨u0, a, b, c, d⟩ := hT j u hu
  rcases d with d | d
  ·rw [d]; exact h.en j u0 a
  ·rw [d]; exact ⟨h0, h1⟩
theorem enter_i {X Y : Int} (hY : 0 ≤ Y) {A : Nat → List Int} {z z2 : LZ} (h : InvZ X Y A z) {i : Nat} (he : enterZ X Y A i z = some z2) (E : Nat → Prop) : InvZ X Y A z2 ∧ Stay X Y E E z z2 ∧ (∀ j : Int, (∃ t, z.T j.toNat = some t) → j ∉ z.q → 0 ≤ j → j ∉ z2.q) ∧ ∀ j : Nat, z.st.cl j = true → z2.st.S j = z.st.S j := by
 unfold enterZ at he
 split at he
 ·rename_i t ht
  split at he
  ·cases he
  ·rename_i hc
   obtain rfl := Option.some.inj he
   have := h.en i t ht
   exact ⟨h.enu ht (by omega) (by have := fun e => hc (.inr e); omega), stay_en ht _ E, fun _ _ hj _ => hj, fun _ _ => rfl⟩
 ·rename_i ht
  split at he
  ·rename_i hs
   obtain rfl := Option.some.inj he
   refine ⟨h.take hY ht hs (by omega) (by omega), stay_take hY h ht 1 _ E, fun j hj hq h0 hq2 => ?_, fun j hj => ((take_i hY h.si (rdInoR (A i)).1).gr j hj).2.2⟩
   have hq3 : j ∈ (if nth (rdInoR (A i)).1 0 = 2 then z.q ++ [(i : Int)] else z.q) := hq2
   split at hq3
   ·rw [List.mem_append, List.mem_singleton] at hq3
    rcases hq3 with h5 | rfl
    ·exact hq h5
    ·obtain ⟨u, hu⟩ := hj
     have : z.T i = some u := hu
     rw [ht] at this; cases this
   ·exact hq hq3
  ·cases he
structure SlotI (X Y : Int) (A : Nat → List Int) (d : Nat) (E E2 : Nat → Prop) (z z2 : LZ) : Prop where
 inv : InvZ X Y A z2
 st : Stay X Y E E2 z z2
 q : (d : Int) ∉ z2.q
theorem rdPtr_zl : rdPtr (zl 128) = List.replicate 32 0 := by decide +kernel
theorem subP_zl (c : List Int) : subP (zl 128) c := by
 intro i
 right
 rw [rdPtr_zl]
 unfold nth
 rw [List.getElem?_replicate]
 split <;> rfl
theorem InvZ.wipe {X Y : Int} {A : Nat → List Int} {z : LZ} (h : InvZ X Y A z) {p : Nat} (hc : z.st.cl p = true) : InvZ X Y A (wipeZ p z) := by
 refine ⟨⟨h.si.fc, h.si.cd, fun k q hk => (by cases hk), fun k k' q hk => (by cases hk), fun j hj => ?_, fun j hj => ?_, fun j hj => ?_⟩, h.blk, h.inj, h.keys, h.qn, h.qT, h.snd, h.en⟩
 ·show updS z.st.S p (zl 128) j = A j
  rw [updS_ne _ _ (fun e => by subst e; rw [show z.st.cl j = false from hj] at hc; cases hc)]
  exact h.si.un j hj
 ·show (updS z.st.S p (zl 128) j).length = 128 ∧ Bytes (updS z.st.S p (zl 128) j)
  by_cases hjp : j = p
  ·subst hjp; rw [updS_eq]; exact ⟨zl_length _, bytes_zl _⟩
  ·rw [updS_ne _ _ hjp]; exact h.si.ln j hj
 ·show subP (updS z.st.S p (zl 128) j) _
  by_cases hjp : j = p
  ·subst hjp; rw [updS_eq]; exact subP_zl _
  ·rw [updS_ne _ _ hjp]; exact h.si.sub j hj
theorem slot_i {X Y : Int} (hY : 0 ≤ Y) {A : Nat → List Int} {d : Nat} {t : TI} {zn : LZ × (ByteArray → Bool)} (h : InvZ X Y A zn.1) (hT : ∃ t0, zn.1.T d = some t0 ∧ t0.bk = t.bk) (hq : (d : Int) ∉ zn.1.q) {k : Nat} {p : Int} (hk : t.bk k = some p) :
  SlotI X Y A d (rest t.bk k) (rest t.bk (k + 1)) zn.1 (slotZ X Y A p.toNat zn).1 := by
 obtain ⟨t0, ht0, hb0⟩ := hT
 obtain ⟨hd, hc⟩ := h.blk d t0 k p ht0 (by rw [hb0]; exact hk)
 have hp := (isD_nat hY hd).1
 have hmono : ∀ j, rest t.bk (k + 1) j → rest t.bk k j := fun j ⟨k', h1, h2⟩ => ⟨k', by omega, h2⟩
 have hpk : ∀ j : Nat, ¬ rest t.bk k j → j ≠ p.toNat := fun j hj e => hj ⟨k, Int.le_refl _, by rw [hk, e, hp]⟩
 have hstay : Stay X Y (rest t.bk k) (rest t.bk (k + 1)) zn.1 zn.1 := ⟨fun j h1 h2 h3 h4 => ⟨h2, h3, fun h5 => h4 (hmono j h5), rfl⟩, fun j h => h, fun i t h => ⟨t, h, rfl, rfl⟩⟩
 have hwipe : SlotI X Y A d (rest t.bk k) (rest t.bk (k + 1)) zn.1 (wipeZ p.toNat zn.1) := by
  refine ⟨h.wipe (by rw [hp]; exact hc), ⟨fun j h1 h2 h3 h4 => ⟨h2, h3, fun h5 => h4 (hmono j h5), ?_⟩, fun j h => h, fun i t h => ⟨t, h, rfl, rfl⟩⟩, hq⟩
  show updS zn.1.st.S p.toNat (zl 128) j = _
  exact updS_ne _ _ (hpk j h4)
 unfold slotZ
 split
 ·exact ⟨h, hstay, hq⟩
 ·split
  ·rename_i h2
   obtain ⟨-, -, h3⟩ := h2
   generalize (rdSloR (zn.1.st.S p.toNat)).1.toNat = i at *
   generalize (rdSloR (zn.1.st.S p.toNat)).2.1 = nm at *
   unfold enterR at h3 ⊢
   split at h3
   ·cases h3
   ·rename_i h4
    rw [if_neg h4]
    cases he : enterZ X Y A i zn.1 with
    | none => rw [he] at h3; cases h3
    | some z2 =>
     obtain ⟨a, b, c, -⟩ := enter_i hY h he (rest t.bk k)
     exact ⟨a, ⟨fun j h1 h2 h3 h4 => by
      obtain ⟨x1, x2, x3, x4⟩ := b.s j h1 h2 h3 h4
      exact ⟨x1, x2, fun h5 => h4 (hmono j h5), x4⟩, b.f, b.t⟩, c d ⟨t0, ht0⟩ hq (Int.natCast_nonneg _)⟩
  ·exact hwipe
theorem dirZ_i {X Y : Int} (hY : 0 ≤ Y) {A : Nat → List Int} {d : Nat} {t : TI} : ∀ (m k : Nat) (zn : LZ × (ByteArray → Bool)), InvZ X Y A zn.1 → (∃ t0, zn.1.T d = some t0 ∧ t0.bk = t.bk) → (d : Int) ∉ zn.1.q → SlotI X Y A d (rest t.bk k) (rest t.bk (k + m)) zn.1 (dirZ X Y A t.bk m k zn).1
 | 0, k, zn, h, hT, hq => ⟨h, Stay.refl _ _ _ _, hq⟩
 | m + 1, k, zn, h, hT, hq => by
  show SlotI X Y A d _ _ zn.1 (dirZ X Y A t.bk m (k + 1) _).1
  cases hk : t.bk k with
  | none =>
   have ih := dirZ_i hY m (k + 1) zn h hT hq
   have hst : Stay X Y (rest t.bk k) (rest t.bk (k + 1)) zn.1 zn.1 := ⟨fun j h1 h2 h3 h4 => ⟨h2, h3, fun ⟨k', h5, h6⟩ => h4 ⟨k', by omega, h6⟩, rfl⟩, fun j h => h, fun i t h => ⟨t, h, rfl, rfl⟩⟩
   exact ⟨ih.inv, by rw [show k + (m + 1) = k + 1 + m by omega]; exact hst.trans ih.st, ih.q⟩
  | some p =>
   have hs := slot_i hY h hT hq hk
   obtain ⟨t0, ht0, hb0⟩ := hT
   obtain ⟨t1, ht1, -, hb1⟩ := hs.st.t d t0 ht0
   have ih := dirZ_i hY m (k + 1) (slotZ X Y A p.toNat zn) hs.inv ⟨t1, ht1, hb1.trans hb0⟩ hs.q
   exact ⟨ih.inv, by rw [show k + (m + 1) = k + 1 + m by omega]; exact hs.st.trans ih.st, ih.q⟩
def noE (_ : Nat) : Prop := False
theorem InvZ.pop {X Y : Int} {A : Nat → List Int} {z : LZ} (h : InvZ X Y A z) {i : Int} {r : List Int} (hq : z.q = i :: r) : InvZ X Y A { z with q := r } :=
 ⟨h.si, h.blk, h.inj, h.keys, by have := h.qn; rw [hq] at this; exact (List.nodup_cons.1 this).2, fun j hj => h.qT j (by rw [hq]; exact List.mem_cons_of_mem _ hj), h.snd, h.en⟩
theorem dirOf_i {X Y : Int} (hY : 0 ≤ Y) {A : Nat → List Int} {z : LZ} (h : InvZ X Y A z) {i : Int} {r : List Int} (hq : z.q = i :: r) :
  InvZ X Y A (dirOf X Y A i.toNat { z with q := r }) ∧ Stay X Y noE noE z (dirOf X Y A i.toNat { z with q := r }) := by
 obtain ⟨h0, t, ht, -⟩ := h.qT i (by rw [hq]; exact List.mem_cons_self)
 have hp := h.pop hq
 have hir : i ∉ r := by have := h.qn; rw [hq] at this; exact (List.nodup_cons.1 this).1
 have hi : (i.toNat : Int) = i := by omega
 have hd := dirZ_i hY (t := t) (cntX (nth t.raw 2)).toNat 0 ({ z with q := r }, fun _ => false) hp ⟨t, ht, rfl⟩ (by rw [hi]; exact hir)
 have e : dirOf X Y A i.toNat { z with q := r } = (dirZ X Y A t.bk (cntX (nth t.raw 2)).toNat 0 ({ z with q := r }, fun _ => false)).1 := by
  unfold dirOf
  show (match z.T i.toNat with | none => _ | some t => _) = _
  rw [ht]
 rw [e]
 refine ⟨hd.inv, ?_⟩
 have s1 : Stay X Y noE (rest t.bk 0) z { z with q := r } := by
  refine ⟨fun j h1 h2 h3 h4 => ⟨h2, ?_, ?_, rfl⟩, fun j h => h, fun i t h => ⟨t, h, rfl, rfl⟩⟩
  ·rintro ⟨i2, hi2, u, k, hu, hk⟩
   exact h3 ⟨i2, by rw [hq]; exact List.mem_cons_of_mem _ hi2, u, k, hu, hk⟩
  ·rintro ⟨k', h5, h6⟩
   exact h3 ⟨i, by rw [hq]; exact List.mem_cons_self, t, k', ht, h6⟩
 have s2 := hd.st
 rw [Nat.zero_add] at s2
 have s3 := s1.trans s2
 refine ⟨fun j h1 h2 h3 h4 => ?_, s3.f, s3.t⟩
 obtain ⟨a, b, c, d⟩ := s3.s j h1 h2 h3 h4
 exact ⟨a, b, fun h => h, d⟩
theorem loop_i {X Y : Int} (hY : 0 ≤ Y) {A : Nat → List Int} : ∀ (f : Nat) (z : LZ), InvZ X Y A z → InvZ X Y A (loopZ X Y A f z) ∧ Stay X Y noE noE z (loopZ X Y A f z)
 | 0, z, h => ⟨h, Stay.refl _ _ _ _⟩
 | f + 1, z, h => by
  cases hq : z.q with
  | nil => rw [loopZ_nil _ _ _ _ _ hq]; exact ⟨h, Stay.refl _ _ _ _⟩
  | cons i r =>
   rw [loopZ_cons _ _ _ _ _ _ _ hq]
   obtain ⟨a, b⟩ := dirOf_i hY h hq
   obtain ⟨c, d⟩ := loop_i hY f _ a
   exact ⟨c, b.trans d⟩
def psT (S : Nat → List Int) (t : TI) : List Int := inoPs (cntX (nth t.raw 2)) S t.raw
def tbT (S : Nat → List Int) (t : TI) : List Int := inoTb (cntX (nth t.raw 2)) S t.raw
structure PZ (X Y : Int) (z : LZ) : Prop where
 sh : ∀ i t, z.T i = some t → inoSh (cntX (nth t.raw 2)) z.st.S t.raw
 ok : ∀ i t, z.T i = some t → OkL X Y (fun _ => false) (psT z.st.S t)
 cl : ∀ i t, z.T i = some t → ∀ p ∈ psT z.st.S t, z.st.cl p = true
 dj : ∀ i t i' t' p, z.T i = some t → z.T i' = some t' → p ∈ psT z.st.S t → p ∈ psT z.st.S t' → i = i'
 un : ∀ q, z.st.cl q = true → ∃ i t, z.T i = some t ∧ q ∈ psT z.st.S t
 tb : ∀ i t, z.T i = some t → ∀ p ∈ tbT z.st.S t, z.st.fm p = true ∧ ∀ i' t' k, z.T i' = some t' → t'.bk k ≠ some p
 bk : ∀ i t, z.T i = some t → ∀ q, 0 ≤ q → q < 1068 → t.bk q = optI (inoBl (cntX (nth t.raw 2)) z.st.S t.raw q)
theorem PZ.same {X Y : Int} {z z2 : LZ} (h : PZ X Y z) (h1 : ∀ i t2, z2.T i = some t2 → ∃ t, z.T i = some t ∧ t2.raw = t.raw ∧ t2.bk = t.bk) (h2 : ∀ i t, z.T i = some t → ∃ t2, z2.T i = some t2 ∧ t2.raw = t.raw ∧ t2.bk = t.bk)
  (hcl : z2.st.cl = z.st.cl) (hfm : z2.st.fm = z.st.fm) (hS : ∀ i t, z.T i = some t → ∀ q ∈ tbT z.st.S t, z2.st.S q.toNat = z.st.S q.toNat) : PZ X Y z2 := by
 have key : ∀ i t2, z2.T i = some t2 → ∃ t, z.T i = some t ∧ t2.raw = t.raw ∧ t2.bk = t.bk ∧ psT z2.st.S t2 = psT z.st.S t ∧ tbT z2.st.S t2 = tbT z.st.S t ∧ (inoSh (cntX (nth t2.raw 2)) z2.st.S t2.raw ↔ inoSh (cntX (nth t.raw 2)) z.st.S t.raw) ∧ ∀ q, inoBl (cntX (nth t2.raw 2)) z2.st.S t2.raw q = inoBl (cntX (nth t.raw 2)) z.st.S t.raw q := by
  intro i t2 ht2
  obtain ⟨t, ht, e1, e2⟩ := h1 i t2 ht2
  obtain ⟨a, b, c, d⟩ := ino_st (cntX (nth t.raw 2)) z.st.S z2.st.S t.raw (hS i t ht)
  refine ⟨t, ht, e1, e2, ?_, ?_, ?_, ?_⟩
  ·unfold psT; rw [e1]; exact a
  ·unfold tbT; rw [e1]; exact b
  ·rw [e1]; exact c
  ·rw [e1]; exact d
 refine ⟨fun i t2 ht2 => ?_, fun i t2 ht2 => ?_, fun i t2 ht2 p hp => ?_, fun i t2 i' t2' p ht2 ht2' hp hp' => ?_, fun q hq => ?_, fun i t2 ht2 p hp => ?_, fun i t2 ht2 q h0 h9 => ?_⟩
 ·obtain ⟨t, ht, -, -, -, -, e, -⟩ := key i t2 ht2
  exact e.2 (h.sh i t ht)
 ·obtain ⟨t, ht, -, -, e, -⟩ := key i t2 ht2
  rw [e]; exact h.ok i t ht
 ·obtain ⟨t, ht, -, -, e, -⟩ := key i t2 ht2
  rw [e] at hp
  rw [hcl]; exact h.cl i t ht p hp
 ·obtain ⟨t, ht, -, -, e, -⟩ := key i t2 ht2
  obtain ⟨t', ht', -, -, e', -⟩ := key i' t2' ht2'
  rw [e] at hp; rw [e'] at hp'
  exact h.dj i t i' t' p ht ht' hp hp'
 ·rw [hcl] at hq
  obtain ⟨i, t, ht, hp⟩ := h.un q hq
  obtain ⟨t2, ht2, -, -⟩ := h2 i t ht
  obtain ⟨t0, ht0, -, -, e, -⟩ := key i t2 ht2
  rw [ht] at ht0; cases ht0
  exact ⟨i, t2, ht2, by rw [e]; exact hp⟩
 ·obtain ⟨t, ht, -, -, -, e, -⟩ := key i t2 ht2
  rw [e] at hp
  obtain ⟨a, b⟩ := h.tb i t ht p hp
  refine ⟨by rw [hfm]; exact a, fun i' t2' k ht2' => ?_⟩
  obtain ⟨t', ht', -, e', -⟩ := key i' t2' ht2'
  rw [e']; exact b i' t' k ht'
 ·obtain ⟨t, ht, -, e', -, -, -, e⟩ := key i t2 ht2
  rw [e', e]; exact h.bk i t ht q h0 h9
theorem takeX_parts (X Y : Int) (raw : List Int) (st : LS) : (takeX X Y raw st).1 = (ptrsX X Y (cntX (nth raw 2)) raw (bare st)).1 ∧ (takeX X Y raw st).2 = if nth raw 0 = 2 then firmX (cntX (nth raw 2)) (ptrsX X Y (cntX (nth raw 2)) raw (bare st)).2 else tailX (cntX (nth raw 2)) (nth raw 2) (ptrsX X Y (cntX (nth raw 2)) raw (bare st)).2 := by
 unfold takeX bare
 simp only
 split <;> exact ⟨rfl, rfl⟩
theorem tailX_parts (n z : Int) (st : LS) : (tailX n z st).cl = st.cl ∧ (tailX n z st).fm = st.fm ∧ (tailX n z st).bk = st.bk := by
 unfold tailX
 split
 ·exact ⟨rfl, rfl, rfl⟩
 ·split <;> exact ⟨rfl, rfl, rfl⟩
theorem tailX_S {n z : Int} {st : LS} (hv : ∀ k p, st.bk k = some p → 0 ≤ p) (j : Nat) (hj : ∀ k, st.bk k ≠ some (j : Int)) : (tailX n z st).S j = st.S j := by
 unfold tailX
 split
 ·rfl
 ·rename_i p hp
  split
  ·rfl
  ·refine updS_ne _ _ (fun e => hj (n - 1) ?_)
   have := hv _ _ hp
   rw [hp, e]; congr 1; omega
structure TakeF (X Y : Int) (st st2 : LS) (n : Int) (raw2 : List Int) : Prop where
 sh : inoSh n st2.S raw2
 ok : OkL X Y st.cl (inoPs n st2.S raw2)
 cl : st2.cl = addAll st.cl (inoPs n st2.S raw2)
 tb : ∀ q ∈ inoTb n st2.S raw2, st2.fm q = true ∧ ∀ k, st2.bk k ≠ some q
 bk : ∀ q, 0 ≤ q → q < 1068 → st2.bk q = optI (inoBl n st2.S raw2 q)
theorem take_f {X Y : Int} (hY : 0 ≤ Y) {A : Nat → List Int} {st : LS} (h : SI X Y A (bare st)) {raw : List Int} (hr : raw.length = 18) : TakeF X Y st (takeX X Y raw st).2 (cntX (nth raw 2)) (takeX X Y raw st).1 := by
 obtain ⟨i, d, g⟩ := ptrs_i hY (cntX (nth raw 2)) raw h
 obtain ⟨a1, a2, a3, a4, a5⟩ := ptrs_f hY (cntX (nth raw 2)) hr h (fun _ => rfl)
 obtain ⟨e1, e2⟩ := takeX_parts X Y raw st
 rw [e1, e2]
 change OkL X Y st.cl _ at a2
 change _ = addAll st.cl _ at a3
 generalize ptrsX X Y (cntX (nth raw 2)) raw (bare st) = r at *
 have hnb : ∀ q ∈ inoTb (cntX (nth raw 2)) r.2.S r.1, ∀ k, r.2.bk k ≠ some q := fun q hq k hk => by
  have := (i.bk k q hk).2.2
  rw [a4 q hq] at this; cases this
 split
 ·refine ⟨a1, a2, a3, fun q hq => ⟨firmX_mono (a4 q hq), hnb q hq⟩, a5⟩
 ·obtain ⟨t1, t2, t3⟩ := tailX_parts (cntX (nth raw 2)) (nth raw 2) r.2
  have hv : ∀ k p, r.2.bk k = some p → 0 ≤ p := fun k p hk => Int.le_of_lt (isD_pos hY (i.bk k p hk).1)
  obtain ⟨s1, s2, s3, s4⟩ := ino_st (cntX (nth raw 2)) r.2.S (tailX (cntX (nth raw 2)) (nth raw 2) r.2).S r.1 (fun q hq => by
   have hd := (a2.1 q (ino_tp _ _ _ q hq)).1
   have e := (isD_nat hY hd).1
   refine tailX_S hv _ (fun k hk => ?_)
   rw [e] at hk
   exact hnb q hq k hk)
  refine ⟨s3.2 a1, by rw [s1]; exact a2, by rw [s1, t1]; exact a3, fun q hq => ?_, fun q h0 h9 => by rw [t3, s4]; exact a5 q h0 h9⟩
  rw [s2] at hq
  exact ⟨by rw [t2]; exact a4 q hq, fun k => by rw [t3]; exact hnb q hq k⟩
theorem PZ.take {X Y : Int} (hY : 0 ≤ Y) {A : Nat → List Int} {z : LZ} (h : PZ X Y z) (hI : InvZ X Y A z) {i : Nat} (hT : z.T i = none) {raw : List Int} (hr : raw.length = 18) (n : Int) : PZ X Y (takeZ X Y i raw n z) := by
 have hf := take_f hY hI.si hr
 have hti := take_i hY hI.si raw
 have e2 : nth (takeX X Y raw z.st).1 2 = nth raw 2 := by
  rw [(takeX_parts X Y raw z.st).1]
  exact (ptrs_nth (X := X) hY (cntX (nth raw 2)) hr (bare z.st)).1 2 (by omega)
 have hS : (takeZ X Y i raw n z).st = (takeX X Y raw z.st).2 := rfl
 have hnew : (takeZ X Y i raw n z).T i = some ⟨(takeX X Y raw z.st).1, n, (takeX X Y raw z.st).2.bk⟩ := updT_eq _ _ _
 have hold : ∀ {j : Nat} {u : TI}, (takeZ X Y i raw n z).T j = some u → (j = i ∧ u = ⟨(takeX X Y raw z.st).1, n, (takeX X Y raw z.st).2.bk⟩) ∨ (j ≠ i ∧ z.T j = some u) := by
  intro j u hu
  have hu2 : updT z.T i ⟨(takeX X Y raw z.st).1, n, (takeX X Y raw z.st).2.bk⟩ j = some u := hu
  by_cases hj : j = i
  ·subst hj
   rw [updT_eq] at hu2
   exact .inl ⟨rfl, (Option.some.inj hu2).symm⟩
  ·rw [updT_ne _ _ hj] at hu2
   exact .inr ⟨hj, hu2⟩
 have hkeep : ∀ {j : Nat} {u : TI}, z.T j = some u → (takeZ X Y i raw n z).T j = some u := by
  intro j u hu
  show updT z.T i _ j = _
  rw [updT_ne _ _ (fun e => by rw [e, hT] at hu; cases hu)]
  exact hu
 generalize takeX X Y raw z.st = x at *
 have hst : ∀ j u, z.T j = some u → psT x.2.S u = psT z.st.S u ∧ tbT x.2.S u = tbT z.st.S u ∧ (inoSh (cntX (nth u.raw 2)) x.2.S u.raw ↔ inoSh (cntX (nth u.raw 2)) z.st.S u.raw) ∧ ∀ q, inoBl (cntX (nth u.raw 2)) x.2.S u.raw q = inoBl (cntX (nth u.raw 2)) z.st.S u.raw q := by
  intro j u hu
  refine ino_st (cntX (nth u.raw 2)) z.st.S x.2.S u.raw (fun q hq => ?_)
  have hc := h.cl j u hu q (ino_tp _ _ _ q hq)
  have hd := ((h.ok j u hu).1 q (ino_tp _ _ _ q hq)).1
  have e := (isD_nat hY hd).1
  exact (hti.gr q.toNat (by rw [e]; exact hc)).2.2
 have hpn : psT x.2.S ⟨x.1, n, x.2.bk⟩ = inoPs (cntX (nth raw 2)) x.2.S x.1 := by
  show inoPs (cntX (nth x.1 2)) x.2.S x.1 = _
  rw [e2]
 have htn : tbT x.2.S ⟨x.1, n, x.2.bk⟩ = inoTb (cntX (nth raw 2)) x.2.S x.1 := by
  show inoTb (cntX (nth x.1 2)) x.2.S x.1 = _
  rw [e2]
 have hcln : ∀ q, q ∈ inoPs (cntX (nth raw 2)) x.2.S x.1 → z.st.cl q = false := fun q hq => (hf.ok.1 q hq).2
 refine ⟨fun j u hu => ?_, fun j u hu => ?_, fun j u hu p hp => ?_, fun j u j' u' p hu hu' hp hp' => ?_, fun q hq => ?_, fun j u hu p hp => ?_, fun j u hu q h0 h9 => ?_⟩
 ·rw [hS]
  rcases hold hu with ⟨rfl, rfl⟩ | ⟨-, hu2⟩
  ·show inoSh (cntX (nth x.1 2)) x.2.S x.1
   rw [e2]; exact hf.sh
  ·exact (hst j u hu2).2.2.1.2 (h.sh j u hu2)
 ·rw [hS]
  rcases hold hu with ⟨rfl, rfl⟩ | ⟨-, hu2⟩
  ·rw [hpn]; exact hf.ok.mono (fun _ _ => rfl)
  ·rw [(hst j u hu2).1]; exact h.ok j u hu2
 ·rw [hS] at hp ⊢
  rcases hold hu with ⟨rfl, rfl⟩ | ⟨-, hu2⟩
  ·rw [hpn] at hp
   rw [hf.cl]; exact addAll_yes.2 (.inr hp)
  ·rw [(hst j u hu2).1] at hp
   rw [hf.cl]; exact addAll_yes.2 (.inl (h.cl j u hu2 p hp))
 ·rw [hS] at hp hp'
  rcases hold hu with ⟨rfl, rfl⟩ | ⟨-, hu2⟩
  ·rcases hold hu' with ⟨rfl, rfl⟩ | ⟨-, hu2'⟩
   ·rfl
   ·rw [hpn] at hp
    rw [(hst j' u' hu2').1] at hp'
    have := h.cl j' u' hu2' p hp'
    rw [hcln p hp] at this; cases this
  ·rcases hold hu' with ⟨rfl, rfl⟩ | ⟨-, hu2'⟩
   ·rw [hpn] at hp'
    rw [(hst j u hu2).1] at hp
    have := h.cl j u hu2 p hp
    rw [hcln p hp'] at this; cases this
   ·rw [(hst j u hu2).1] at hp
    rw [(hst j' u' hu2').1] at hp'
    exact h.dj j u j' u' p hu2 hu2' hp hp'
 ·rw [hS, hf.cl] at hq
  rcases addAll_yes.1 hq with hq | hq
  ·obtain ⟨j, u, hu, hp⟩ := h.un q hq
   exact ⟨j, u, hkeep hu, by rw [hS, (hst j u hu).1]; exact hp⟩
  ·exact ⟨i, _, hnew, by rw [hS, hpn]; exact hq⟩
 ·rw [hS] at hp ⊢
  rcases hold hu with ⟨rfl, rfl⟩ | ⟨-, hu2⟩
  ·rw [htn] at hp
   obtain ⟨a, b⟩ := hf.tb p hp
   refine ⟨a, fun j' u' k hu' => ?_⟩
   rcases hold hu' with ⟨rfl, rfl⟩ | ⟨-, hu2'⟩
   ·exact b k
   ·intro hk
    have := (hI.blk j' u' k p hu2' hk).2
    rw [hcln p (ino_tp _ _ _ p hp)] at this; cases this
  ·rw [(hst j u hu2).2.1] at hp
   obtain ⟨a, b⟩ := h.tb j u hu2 p hp
   have hc := h.cl j u hu2 p (ino_tp _ _ _ p hp)
   have hd := ((h.ok j u hu2).1 p (ino_tp _ _ _ p hp)).1
   have e := (isD_nat hY hd).1
   have hfm := (hti.gr p.toNat (by rw [e]; exact hc)).2.1
   rw [e] at hfm
   refine ⟨by rw [hfm]; exact a, fun j' u' k hu' => ?_⟩
   rcases hold hu' with ⟨rfl, rfl⟩ | ⟨-, hu2'⟩
   ·intro hk
    have := (hti.new k p hk).2.2
    rw [hc] at this; cases this
   ·exact b j' u' k hu2'
 ·rw [hS]
  rcases hold hu with ⟨rfl, rfl⟩ | ⟨-, hu2⟩
  ·show x.2.bk q = optI (inoBl (cntX (nth x.1 2)) x.2.S x.1 q)
   rw [e2]; exact hf.bk q h0 h9
  ·rw [(hst j u hu2).2.2.2]; exact h.bk j u hu2 q h0 h9
theorem PZ.enu {X Y : Int} {z : LZ} (h : PZ X Y z) {i : Nat} {t : TI} (ht : z.T i = some t) (n : Int) : PZ X Y { z with T := updT z.T i { t with en := n } } := by
 refine h.same (fun j t2 h2 => ?_) (fun j t2 h2 => ?_) rfl rfl (fun _ _ _ _ _ => rfl)
 ·have h3 : updT z.T i { t with en := n } j = some t2 := h2
  by_cases hj : j = i
  ·subst hj
   rw [updT_eq] at h3
   cases h3
   exact ⟨t, ht, rfl, rfl⟩
  ·rw [updT_ne _ _ hj] at h3
   exact ⟨t2, h3, rfl, rfl⟩
 ·by_cases hj : j = i
  ·subst hj
   rw [ht] at h2; cases h2
   exact ⟨{ t with en := n }, updT_eq _ _ _, rfl, rfl⟩
  ·exact ⟨t2, (updT_ne _ _ hj).trans h2, rfl, rfl⟩
theorem PZ.wipe {X Y : Int} (hY : 0 ≤ Y) {z : LZ} (h : PZ X Y z) {i : Nat} {t : TI} (ht : z.T i = some t) {k p : Int} (hk : t.bk k = some p) : PZ X Y (wipeZ p.toNat z) := by
 refine h.same (fun j t2 h2 => ⟨t2, h2, rfl, rfl⟩) (fun j t2 h2 => ⟨t2, h2, rfl, rfl⟩) rfl rfl (fun j u hu q hq => ?_)
 have hd := ((h.ok j u hu).1 q (ino_tp _ _ _ q hq)).1
 have e := (isD_nat hY hd).1
 refine updS_ne _ _ (fun e2 => ?_)
 have hb := (h.tb j u hu q hq).2 i t k ht
 rw [hk] at hb
 apply hb
 congr 1
 have : 0 < q := isD_pos hY hd
 omega
theorem PZ.q {X Y : Int} {z : LZ} (h : PZ X Y z) (q : List Int) : PZ X Y { z with q := q } := ⟨h.sh, h.ok, h.cl, h.dj, h.un, h.tb, h.bk⟩
def BlkIs (A S : Nat → List Int) (raw : List Int) (k p : Int) : Prop :=
 if nth raw 0 = 2 then S p.toNat = A p.toNat ∨ S p.toNat = zl 128
 else S p.toNat = if k = cntX (nth raw 2) - 1 ∧ nth raw 2 % 128 ≠ 0 then wipeL (A p.toNat) (nth raw 2 % 128).toNat else A p.toNat
structure CZ (A : Nat → List Int) (z : LZ) : Prop where
 b : ∀ i t, z.T i = some t → ∀ k p, t.bk k = some p → BlkIs A z.st.S t.raw k p
 f : ∀ i t, z.T i = some t → ∀ k p, t.bk k = some p → (z.st.fm p = true ↔ nth t.raw 0 = 2)
theorem CZ.same {X Y : Int} {A : Nat → List Int} {z z2 : LZ} (h : CZ A z) (h1 : ∀ i t2, z2.T i = some t2 → ∃ t, z.T i = some t ∧ t2.raw = t.raw ∧ t2.bk = t.bk) (hS : ∀ i t k p, z.T i = some t → t.bk k = some p → z2.st.S p.toNat = z.st.S p.toNat) (hF : z2.st.fm = z.st.fm) : CZ A z2 := by
 refine ⟨fun i t2 ht2 k p hk => ?_, fun i t2 ht2 k p hk => ?_⟩
 ·obtain ⟨t, ht, e1, e2⟩ := h1 i t2 ht2
  rw [e2] at hk
  have := h.b i t ht k p hk
  unfold BlkIs at this ⊢
  rw [e1, hS i t k p ht hk]
  exact this
 ·obtain ⟨t, ht, e1, e2⟩ := h1 i t2 ht2
  rw [e2] at hk
  rw [hF, e1]
  exact h.f i t ht k p hk
theorem CZ.enu {A : Nat → List Int} {z : LZ} (h : CZ A z) {i : Nat} {t : TI} (ht : z.T i = some t) (n : Int) : CZ A { z with T := updT z.T i { t with en := n } } := by
 refine h.same (X := 0) (Y := 0) (fun j t2 h2 => ?_) (fun _ _ _ _ _ _ => rfl) rfl
 have h3 : updT z.T i { t with en := n } j = some t2 := h2
 by_cases hj : j = i
 ·subst hj
  rw [updT_eq] at h3
  cases h3
  exact ⟨t, ht, rfl, rfl⟩
 ·rw [updT_ne _ _ hj] at h3
  exact ⟨t2, h3, rfl, rfl⟩
theorem CZ.wipe {X Y : Int} (hY : 0 ≤ Y) {A : Nat → List Int} {z : LZ} (h : CZ A z) (hI : InvZ X Y A z) {i : Nat} {t : TI} (ht : z.T i = some t) (h2 : nth t.raw 0 = 2) {k p : Int} (hk : t.bk k = some p) : CZ A (wipeZ p.toNat z) := by
 have hp := (isD_nat hY (hI.blk i t k p ht hk).1).1
 refine ⟨fun j u hu k' p' hk' => ?_, h.f⟩
 have hu' : z.T j = some u := hu
 have hb := h.b j u hu' k' p' hk'
 have hp' := (isD_nat hY (hI.blk j u k' p' hu' hk').1).1
 by_cases e : p' = p
 ·subst e
  obtain ⟨rfl, -⟩ := hI.inj j u k' i t k p' hu' hk' ht hk
  have eu : u = t := by rw [ht] at hu'; exact (Option.some.inj hu').symm
  subst eu
  unfold BlkIs
  rw [if_pos h2]
  right
  exact updS_eq _ _ _
 ·have hS : (wipeZ p.toNat z).st.S p'.toNat = z.st.S p'.toNat := updS_ne _ _ (fun e2 => e (by rw [← hp, ← hp', e2]))
  unfold BlkIs at hb ⊢
  rw [hS]; exact hb
theorem CZ.q {A : Nat → List Int} {z : LZ} (h : CZ A z) (q : List Int) : CZ A { z with q := q } := ⟨h.b, h.f⟩
theorem CZ.take {X Y : Int} (hY : 0 ≤ Y) {A : Nat → List Int} {z : LZ} (h : CZ A z) (hI : InvZ X Y A z) {i : Nat} (hT : z.T i = none) {raw : List Int} (hr : raw.length = 18) (n : Int) : CZ A (takeZ X Y i raw n z) := by
 obtain ⟨pi, d, g⟩ := ptrs_i hY (cntX (nth raw 2)) raw hI.si
 have hti := take_i hY hI.si raw
 obtain ⟨e1, e2⟩ := takeX_parts X Y raw z.st
 have hkind := (ptrs_nth (X := X) hY (cntX (nth raw 2)) hr (bare z.st)).1
 rw [← e1] at hkind
 have hkeys := ptrsX_keys X Y (cntX (nth raw 2)) raw (bare z.st) (fun k hk => by cases hk)
 refine ⟨fun j u hu k p hk => ?_, fun j u hu k p hk => ?_⟩
 case' refine_2 =>
  have hu2 : updT z.T i ⟨(takeX X Y raw z.st).1, n, (takeX X Y raw z.st).2.bk⟩ j = some u := hu
  show (takeX X Y raw z.st).2.fm p = true ↔ nth u.raw 0 = 2
  by_cases hj : j = i
  ·subst hj
   rw [updT_eq] at hu2
   cases hu2
   have hk2 : (takeX X Y raw z.st).2.bk k = some p := hk
   show _ ↔ nth (takeX X Y raw z.st).1 0 = 2
   rw [hkind 0 (by omega)]
   rw [e2] at hk2 ⊢
   generalize ptrsX X Y (cntX (nth raw 2)) raw (bare z.st) = r at *
   by_cases h2 : nth raw 0 = 2
   ·rw [if_pos h2] at hk2 ⊢
    have hk3 : r.2.bk k = some p := hk2
    refine ⟨fun _ => h2, fun _ => ?_⟩
    obtain ⟨k1, k2⟩ := hkeys k (by rw [hk3]; rfl)
    show (r.2.fm p || (List.range (cntX (nth raw 2)).toNat).any fun k => r.2.bk k == some p) = true
    rw [Bool.or_eq_true, List.any_eq_true]
    refine .inr ⟨k.toNat, List.mem_range.2 (by omega), ?_⟩
    rw [show ((k.toNat : Nat) : Int) = k by omega, hk3]
    simp
   ·rw [if_neg h2] at hk2 ⊢
    obtain ⟨t1, t2, t3⟩ := tailX_parts (cntX (nth raw 2)) (nth raw 2) r.2
    have hk3 : r.2.bk k = some p := by rw [t3] at hk2; exact hk2
    rw [t2, (pi.bk k p hk3).2.2]
    exact ⟨fun hh => (by cases hh), fun hh => absurd hh h2⟩
  ·rw [updT_ne _ _ hj] at hu2
   obtain ⟨a, b⟩ := hI.blk j u k p hu2 hk
   have hp := (isD_nat hY a).1
   have hfm := (hti.gr p.toNat (by rw [hp]; exact b)).2.1
   rw [hp] at hfm
   have hfm2 : (takeX X Y raw z.st).2.fm p = z.st.fm p := hfm
   rw [hfm2]
   exact h.f j u hu2 k p hk
 have hu2 : updT z.T i ⟨(takeX X Y raw z.st).1, n, (takeX X Y raw z.st).2.bk⟩ j = some u := hu
 show BlkIs A (takeX X Y raw z.st).2.S u.raw k p
 by_cases hj : j = i
 ·subst hj
  rw [updT_eq] at hu2
  cases hu2
  have hk2 : (takeX X Y raw z.st).2.bk k = some p := hk
  obtain ⟨a, b, c⟩ := hti.new k p hk2
  have hp := (isD_nat hY a).1
  show BlkIs A (takeX X Y raw z.st).2.S (takeX X Y raw z.st).1 k p
  unfold BlkIs
  rw [hkind 0 (by omega), hkind 2 (by omega)]
  rw [e2] at hk2 ⊢
  generalize ptrsX X Y (cntX (nth raw 2)) raw (bare z.st) = r at *
  have hA : z.st.S p.toNat = A p.toNat := hI.si.un p.toNat (by rw [hp]; exact c)
  by_cases h2 : nth raw 0 = 2
  ·rw [if_pos h2] at hk2 ⊢
   rw [if_pos h2]
   left
   have hk3 : r.2.bk k = some p := hk2
   have hf := (pi.bk k p hk3).2.2
   show r.2.S p.toNat = _
   rw [d.same p.toNat (by rw [hp]; exact hf)]
   exact hA
  ·rw [if_neg h2] at hk2 ⊢
   rw [if_neg h2]
   obtain ⟨t1, t2, t3⟩ := tailX_parts (cntX (nth raw 2)) (nth raw 2) r.2
   have hk3 : r.2.bk k = some p := by rw [t3] at hk2; exact hk2
   have hf := (pi.bk k p hk3).2.2
   have hS : r.2.S p.toNat = A p.toNat := by
    rw [d.same p.toNat (by rw [hp]; exact hf)]
    exact hA
   unfold tailX
   cases hb : r.2.bk (cntX (nth raw 2) - 1) with
   | none =>
    simp only
    rw [if_neg (fun hh => by rw [hh.1, hb] at hk3; cases hk3), hS]
   | some p0 =>
    simp only
    have hp0 := (isD_nat hY (pi.bk _ p0 hb).1).1
    by_cases hz : nth raw 2 % 128 = 0
    ·rw [if_pos hz, if_neg (fun hh => hh.2 hz), hS]
    ·rw [if_neg hz]
     by_cases hl : k = cntX (nth raw 2) - 1
     ·rw [if_pos ⟨hl, hz⟩]
      have ep : p0 = p := by rw [hl, hb] at hk3; exact Option.some.inj hk3
      subst ep
      show updS _ _ _ _ = _
      rw [updS_eq, hS]
     ·rw [if_neg (fun hh => hl hh.1)]
      show updS _ _ _ _ = _
      rw [updS_ne _ _ (fun e => hl (pi.inj k _ p hk3 (by rw [hb]; congr 1; omega))), hS]
 ·rw [updT_ne _ _ hj] at hu2
  have hb := h.b j u hu2 k p hk
  obtain ⟨a, b⟩ := hI.blk j u k p hu2 hk
  have hp := (isD_nat hY a).1
  have hS := (hti.gr p.toNat (by rw [hp]; exact b)).2.2
  have hS2 : (takeX X Y raw z.st).2.S p.toNat = z.st.S p.toNat := hS
  unfold BlkIs at hb ⊢
  rw [hS2]; exact hb
theorem fr_alloc (w : World) (o : Obj) (ex : List Nat) : Fr ex w (w.alloc o) := fr_below ((Below.refl w.heap.size w).alloc (Nat.le_refl _) _) _
theorem LW.img4096 {V : WE} {ob : Option Nat} {B : Nat → Option (Nat × Nat)} {z : LZ} {w : World} (h : LW V ob B z w) : V.E.N ≤ 4096 ∧ (V.E.N : Int) = V.E.X := by
 have h1 := h.e0.small
 have h2 := h.e0.size
 omega
theorem LW.ptr {V : WE} {ob : Option Nat} {B : Nat → Option (Nat × Nat)} {z : LZ} {w : World} (h : LW V ob B z w) (i : Nat) (hi : i ≤ 4096) :
  (Instr.lookup 59 (.map (some V.E.bt)) (.int .i64 i) false).run Tryz.prog w = .ok (ptrOf ((B i).map Prod.fst)) w := by
 obtain ⟨tk, hpb, htk⟩ := h.pb
 rw [← htk i]
 exact hpb.1.look (i64_small (Int.natCast_nonneg _) (by omega))
theorem enter_no {V : WE} {ob : Option Nat} {B : Nat → Option (Nat × Nat)} {z : LZ} {w : World} (h : LW V ob B z w) (i : Nat) (nm : ByteArray) (hn : nm.size ≤ 40) (nb n : Nat) (names : ByteArray → Bool) (hnb : NB w nb n names) (hor : names nm = true ∨ i = 1) :
  Calls Tryz.prog 60 #[.pointer (some ⟨V.E.gl, 0, none⟩), .agg #[.int .i64 i, .string nm], .map (some nb)] w fun e w' => e = .returned (.bool false) ∧ Fr [] w w' := by
 have hlk := (hnb.same (hat_alloc_past w (.cells #[.int .i64 i, .string nm] 93) nb hnb.lt)).look hn
 clear hnb h
 cases hnm : names nm with
 | true =>
  rw [hnm] at hlk
  clear hor
  go_enter Tryz.func60, Tryz.ntmps60
  go_wp2_with fail
  go_ret
  exact ⟨rfl, fr_alloc _ _ _⟩
 | false =>
  rw [hnm] at hlk
  have h1 : i = 1 := by rcases hor with h | h; · rw [hnm] at h; cases h
                        ·exact h
  have hi1 : ((i : Int) == 1) = true := by simp [h1]
  clear hor h1
  go_enter Tryz.func60, Tryz.ntmps60
  go_wp2_with fail
  go_ret
  exact ⟨rfl, fr_alloc _ _ _⟩
theorem enter_old {V : WE} {ob : Option Nat} {B : Nat → Option (Nat × Nat)} {z : LZ} {w : World} (h : LW V ob B z w) (i : Nat) (nm : ByteArray) (hn : nm.size ≤ 40) (nb n : Nat) (names : ByteArray → Bool) (hnb : NB w nb n names) (hnn : n < maxLen) (ha : Apart V ob B nb) (hg0 : V.G0 ≤ nb)
  (hnm : names nm = false) (hi1 : 1 < i) (hi : i < 4096) (v : Nat × Nat) (hB : B i = some v) (t : TI) (hT : z.T i = some t) :
  Calls Tryz.prog 60 #[.pointer (some ⟨V.E.gl, 0, none⟩), .agg #[.int .i64 i, .string nm], .map (some nb)] w fun e w' =>
   if nth t.raw 0 = 2 ∨ t.en = 100 then e = .returned (.bool false) ∧ Fr [] w w'
   else e = .returned (.bool true) ∧ LW V ob B { z with T := updT z.T i { t with en := t.en + 1 } } w' ∧ NB w' nb (n + 1) (addB names nm) ∧ Moved V [nb] ob B w ob B w' := by
 have hf0 : Fr [] w (w.alloc (.cells #[.int .i64 i, .string nm] 93)) := fr_alloc _ _ _
 have hlk := (hnb.same (hat_alloc_past w (.cells #[.int .i64 i, .string nm] 93) nb hnb.lt)).look hn
 rw [hnm] at hlk
 have hw0 := h.fr hf0 (by simp)
 have hp := (hw0.fr (fr_drew (Fr.refl [] _)) (by simp)).ptr i (by omega)
 rw [hB] at hp
 obtain ⟨gx, bx⟩ := v
 simp only [Option.map_some, ptrOf] at hp
 have hl := hw0.k.look
 unfold lkCells at hl
 have hsl : hat (w.alloc (.cells #[.int .i64 i, .string nm] 93)) w.heap.size = some (.cells #[.int .i64 i, .string nm] 93) := (hopN w _).1
 obtain ⟨t', ht', hgx, -⟩ := hw0.yes i _ hB
 rw [hT] at ht'
 obtain rfl : t = t' := by injection ht'
 obtain ⟨-, -, hrl, -, -, he0, he1, -⟩ := h.zi.t i t hT
 have k0 := inC_get hrl t.en bx (show 0 < 18 by omega)
 have k18 := inC_18 hrl t.en bx
 have hz8 := inC_size hrl t.en bx
 have hnb0 := (hnb.same (hat_alloc_past w (.cells #[.int .i64 i, .string nm] 93) nb hnb.lt))
 have hlts := hat_lt hsl
 have hnlt := hnb.lt
 have hne : w.heap.size ≠ nb := by omega
 simp only at hgx
 obtain ⟨w2, hr2, hm2, ht2⟩ := (show NB (w.alloc (.cells #[.int .i64 i, .string nm] 93)).drew nb n names from hnb0).put hnn hn
 have f2 : Fr [nb] (w.alloc (.cells #[.int .i64 i, .string nm] 93)) w2 := (fr_drew (Fr.refl _ _)).trans (fr_turned ht2)
 have hgx2 := (f2.block _ (hat_lt hgx) (by have := (ha.2 i _ hB).1; simpa using this)).trans hgx
 have hlw2 := hw0.fr f2 (fun k hk => by rw [List.mem_singleton] at hk; subst hk; exact ⟨ha, hg0⟩)
 have hi2 : ((i : Int) == 1) = false := by simp; omega
 generalize hc8 : inC t.raw t.en bx = c8 at hgx hgx2 k0 k18 hz8
 have j0 : ∀ h : 0 < c8.size, c8[0]'h = Value.int .i64 (nth t.raw 0) := fun h => by
  rw [Array.getElem?_eq_getElem h] at k0
  exact Option.some.inj k0
 have j18 : ∀ h : 18 < c8.size, c8[18]'h = Value.int .i64 t.en := fun h => by
  rw [Array.getElem?_eq_getElem h] at k18
  exact Option.some.inj k18
 have z0 : 0 < c8.size := by omega
 have z18 : 18 < c8.size := by omega
 have H := Lib.hid h
 have HM2 := Lib.hid hm2
 have HLW2 := Lib.hid hlw2
 have HF0 := Lib.hid (show Fr [] w (w.alloc (.cells #[.int .i64 i, .string nm] 93)).drew from fr_drew hf0)
 have HF := Lib.hid (hf0.mono (ex' := [nb]) (by simp) |>.trans f2)
 have HA := Lib.hid ha
 have hgxl := hat_lt hgx
 have hgxl2 := hat_lt hgx2
 clear h hnb hw0 hm2 hlw2 f2 hf0 ha k0 k18 hnb0 ht2
 by_cases HK : nth t.raw 0 = 2 ∨ t.en = 100
 ·simp only [if_pos HK]
  go_enter Tryz.func60, Tryz.ntmps60
  go_wp2_with fail
  generalize hW0 : w.alloc (.cells #[.int .i64 i, .string nm] 93) = W0 at *
  clear hW0
  go_region
  cases hkd : (nth t.raw 0 == 2) with
  | true =>
   clear HK
   go_wp2_with fail
   go_ret
   exact ⟨rfl, HF0.out⟩
  | false =>
   have hen : (t.en == 100) = true := by
    rcases HK with h | h
    ·rw [h] at hkd; cases hkd
    ·simpa using h
   clear HK he0 he1
   go_wp2_with fail
   go_ret
   exact ⟨rfl, HF0.out⟩
 ·simp only [if_neg HK]
  have hkd : (nth t.raw 0 == 2) = false := by simpa using fun h => HK (.inl h)
  have hen : (t.en == 100) = false := by simpa using fun h => HK (.inr h)
  have hen1 : t.en + 1 ≤ 100 := by have := fun h => HK (.inr h); omega
  clear HK
  go_enter Tryz.func60, Tryz.ntmps60
  go_wp2_with fail
  generalize hW0 : w.alloc (.cells #[.int .i64 i, .string nm] 93) = W0 at *
  clear hW0
  go_region
  go_wp2_with fail
  go_ret
  have ha := HA.out
  have hl2 := HLW2.out
  have hen2 := hl2.en hB hT (n := t.en + 1) (by omega) hen1
  have hnbx : nb ≠ gx := fun e => (ha.2 i _ hB).1 e.symm
  refine ⟨rfl, hen2, HM2.out.same ((fr_setCell w2 gx 18 _).block _ HM2.out.lt (by simpa using hnbx)), (Moved.of HF.out (by simp)).trans (Moved.of (fr_setCell w2 gx 18 _) (fun k hk => .inr fun hx => ?_))⟩
  rw [List.mem_singleton] at hk
  subst hk
  exact (hx.2 i _ hB).1 rfl
theorem ino_sound {s : List Int} (h : soundR s = true) : 0 ≤ nth (rdInoR s).1 2 ∧ nth (rdInoR s).1 2 ≤ 136704 ∧ ∀ p ∈ (rdInoR s).1.drop 4, 0 ≤ p ∧ p ≤ 4294967295 := by
 unfold soundR at h
 simp only [Bool.and_eq_true, decide_eq_true_eq, Bool.not_eq_true', decide_eq_false_iff_not] at h
 obtain ⟨h1, h2⟩ := h
 obtain ⟨h3, -⟩ := ino_one h1
 have hl := rdInoR_length s
 unfold InoMay at h3
 rw [if_neg h2] at h3
 obtain ⟨⟨-, -, h4, -⟩, h5, -⟩ := h3
 refine ⟨h4.1, h4.2, fun p hp => ?_⟩
 obtain ⟨j, hj⟩ := List.getElem?_of_mem hp
 rw [List.getElem?_drop] at hj
 have hlt := (List.getElem?_eq_some_iff.1 hj).1
 have := h5 (4 + j) (by omega) (by omega)
 have e : nth (rdInoR s).1 (4 + j) = p := by unfold nth; rw [hj]; rfl
 rw [e] at this
 exact this
theorem Apart.new {V : WE} {ob : Option Nat} {B : Nat → Option (Nat × Nat)} {z : LZ} {w : World} (h : LW V ob B z w) {k : Nat} (hk : w.heap.size ≤ k) : Apart V ob B k :=
 ⟨fun hm => by have := h.mlt k hm; omega, fun i v hv => by
  obtain ⟨t, -, h1, h2, -⟩ := h.yes i v hv
  have := hat_lt h1
  have := h2.lt
  omega⟩
theorem enter_new {V : WE} {ob : Option Nat} {B : Nat → Option (Nat × Nat)} {z : LZ} {w : World} (h : LW V ob B z w) (i : Nat) (nm : ByteArray) (hn : nm.size ≤ 40) (nb n : Nat) (names : ByteArray → Bool) (hnb : NB w nb n names) (hnn : n < maxLen) (ha : Apart V ob B nb) (hg0 : V.G0 ≤ nb)
  (hnm : names nm = false) (hi1 : 1 < i) (hY : (i : Int) ≤ V.E.Y) (hB : B i = none) :
  Calls Tryz.prog 60 #[.pointer (some ⟨V.E.gl, 0, none⟩), .agg #[.int .i64 i, .string nm], .map (some nb)] w fun e w' =>
   if soundR (V.IMG i) = false then e = .returned (.bool false) ∧ Fr [] w w'
   else e = .returned (.bool true) ∧ ∃ ob' B', LW V ob' B' (takeZ V.E.X V.E.Y i (rdInoR (V.IMG i)).1 1 z) w' ∧ NB w' nb (n + 1) (addB names nm) ∧ Moved V [nb] ob B w ob' B' w' := by
 have hsm := h.small
 obtain ⟨hN4, hNX⟩ := h.img4096
 have hf0 : Fr [] w (w.alloc (.cells #[.int .i64 i, .string nm] 93)) := fr_alloc _ _ _
 have hlk := (hnb.same (hat_alloc_past w (.cells #[.int .i64 i, .string nm] 93) nb hnb.lt)).look hn
 rw [hnm] at hlk
 have hw0 := h.fr hf0 (by simp)
 have hp := (hw0.fr (fr_drew (Fr.refl [] _)) (by simp)).ptr i (by omega)
 rw [hB] at hp
 simp only [Option.map_none, ptrOf] at hp
 have hl := hw0.k.look
 have hsec := hw0.secs
 have HL := Lib.hid hl
 rw [h.img] at HL
 unfold lkCells at hl
 have hsl : hat (w.alloc (.cells #[.int .i64 i, .string nm] 93)) w.heap.size = some (.cells #[.int .i64 i, .string nm] 93) := (hopN w _).1
 have hnb0 := (hnb.same (hat_alloc_past w (.cells #[.int .i64 i, .string nm] 93) nb hnb.lt))
 have hlts := hat_lt hsl
 have hnlt := hnb.lt
 have hne : w.heap.size ≠ nb := by omega
 have hi2 : ((i : Int) == 1) = false := by simp; omega
 have hsa := Apart.new h (Nat.le_refl w.heap.size)
 have hlw0 := hw0
 have H := Lib.hid h
 have HLW0 := Lib.hid hlw0
 have HNB0 := Lib.hid hnb0
 have HSEC := Lib.hid hsec
 have HF0 := Lib.hid hf0
 have HA := Lib.hid ha
 have HSA := Lib.hid hsa
 have hrl := rdInoR_length (V.IMG i)
 have HSND := Lib.hid (fun hs : soundR (V.IMG i) = true => ino_sound hs)
 clear h hnb hw0 hf0 ha hnb0 hlw0 hsec hsa
 cases hs : soundR (V.IMG i) with
 | false =>
  simp only [if_true]
  go_enter Tryz.func60, Tryz.ntmps60
  go_wp2_with fail
  generalize hW0 : w.alloc (.cells #[.int .i64 i, .string nm] 93) = W0 at *
  clear hW0
  go_region
  go_wp2_with fail
  refine (sound_yes V.E.X V.E.Y V.E.qf V.gi V.oi V.E.N V.ci V.IMG V.E.gl V.E.gw V.E.N V.E.cw V.E.bc V.E.bt V.E.bf i W0.drew HL.out (HSEC.out.same rfl) (by omega) hY hsm hN4).mono ?_; rintro e w2 ⟨rfl, hb2⟩
  generalize hraw : (rdInoR (V.IMG i)).1 = raw at *
  have HRAW := Lib.hid hraw
  clear hraw
  have hf2 : Fr [] W0 w2 := (fr_drew (Fr.refl [] _)).trans (fr_below hb2 [])
  have hsl2 := (hf2.block _ (hat_lt hsl) (by simp)).trans hsl
  have hl2 := (hf2.block _ (hat_lt hl) (by simp)).trans hl
  have hsl2l := hat_lt hsl2
  have hl2l := hat_lt hl2
  have HF2 := Lib.hid hf2
  clear hp hlk hb2 hf2
  rw [hs]
  go_wp2_with fail
  go_ret
  exact ⟨rfl, (HF0.out.trans HF2.out).trans (fr_alloc _ _ _)⟩
 | true =>
  simp only [reduceCtorEq, if_false]
  obtain ⟨hz0, hz1, hpt⟩ := HSND.out hs
  have HPT := Lib.hid hpt
  clear HSND hpt
  go_enter Tryz.func60, Tryz.ntmps60
  go_wp2_with fail
  generalize hW0 : w.alloc (.cells #[.int .i64 i, .string nm] 93) = W0 at *
  clear hW0
  go_region
  go_wp2_with fail
  refine (sound_yes V.E.X V.E.Y V.E.qf V.gi V.oi V.E.N V.ci V.IMG V.E.gl V.E.gw V.E.N V.E.cw V.E.bc V.E.bt V.E.bf i W0.drew HL.out (HSEC.out.same rfl) (by omega) hY hsm hN4).mono ?_; rintro e w2 ⟨rfl, hb2⟩
  generalize hraw : (rdInoR (V.IMG i)).1 = raw at *
  have HRAW := Lib.hid hraw
  clear hraw
  have hf2 : Fr [] W0 w2 := (fr_drew (Fr.refl [] _)).trans (fr_below hb2 [])
  have hsl2 := (hf2.block _ (hat_lt hsl) (by simp)).trans hsl
  have hl2 := (hf2.block _ (hat_lt hl) (by simp)).trans hl
  have hsl2l := hat_lt hsl2
  have hl2l := hat_lt hl2
  have HF2 := Lib.hid hf2
  clear hp hlk hb2 hf2
  rw [hs]
  clear hs
  have hal := (hopA w2 (.cells (IV .i64 raw) 45) hsl2).1
  have hfa := fr_alloc w2 (.cells (IV .i64 raw) 45) []
  have hlw3 := (HLW0.out.fr HF2.out (by simp)).fr hfa (by simp)
  have HF3 := Lib.hid (HF2.out.trans hfa)
  have HLW3 := Lib.hid hlw3
  have hl3 := (hfa.block _ (hat_lt hl2) (by simp)).trans hl2
  have hr3 := (hopN w2 (.cells (IV .i64 raw) 45)).1
  clear hlw3 hfa hl HL
  go_wp2_with fail
  generalize hW3 : w2.alloc (.cells (IV .i64 raw) 45) = w3 at *
  refine (take_lw HLW3.out i raw hrl (by omega) hY hB hz0 hz1 HPT.out).mono ?_; rintro e w4 ⟨rfl, ob', B', v, hlw4, hmv4, hB4⟩
  have hsl4 := (hmv4.block _ (hat_lt hal) HSA.out (by simp)).trans hal
  have hp4 := (hlw4.fr (fr_drew (Fr.refl [] w4)) (by simp)).ptr i (by omega)
  rw [hB4] at hp4
  obtain ⟨gx, bx⟩ := v
  simp only [Option.map_some, ptrOf] at hp4
  have hl4 := hlw4.k.look
  unfold lkCells at hl4
  obtain ⟨t4, ht4, hgx4, -⟩ := hlw4.yes i _ hB4
  simp only at hgx4
  obtain ⟨-, -, hrl4, -⟩ := hlw4.zi.t i t4 ht4
  have he4 : t4 = ⟨(takeX V.E.X V.E.Y raw z.st).1, 0, (takeX V.E.X V.E.Y raw z.st).2.bk⟩ := by
   have h5 : updT z.T i ⟨(takeX V.E.X V.E.Y raw z.st).1, 0, (takeX V.E.X V.E.Y raw z.st).2.bk⟩ i = some t4 := ht4
   unfold updT at h5
   rw [if_pos rfl] at h5
   injection h5 with h5
   exact h5.symm
  have hte : t4.en = 0 := by rw [he4]
  have k18 := inC_18 hrl4 t4.en bx
  have hz8 := inC_size hrl4 t4.en bx
  rw [hte] at k18 hz8 hgx4
  have hnl0 := HNB0.out.lt
  have hnb3 := HNB0.out.same (HF3.out.block nb hnl0 (by simp))
  have hnl3 := hnb3.lt
  have hnb4 := hnb3.same (hmv4.block nb hnl3 HA.out (by simp))
  have ha4 := hmv4.apart nb hnl3 HA.out
  obtain ⟨w5, hr5, hm5, ht5⟩ := (show NB w4.drew nb n names from hnb4).put hnn hn
  have f5 : Fr [nb] w4 w5 := (fr_drew (Fr.refl _ _)).trans (fr_turned ht5)
  have hgx5 := (f5.block _ (hat_lt hgx4) (by have := (ha4.2 i _ hB4).1; simpa using this)).trans hgx4
  have hlw5 := hlw4.fr f5 (fun k hk => by rw [List.mem_singleton] at hk; subst hk; exact ⟨ha4, hg0⟩)
  generalize hc8 : inC t4.raw 0 bx = c8 at hgx4 hgx5 k18 hz8
  have j18 : ∀ h : 18 < c8.size, c8[18]'h = Value.int .i64 0 := fun h => by
   rw [Array.getElem?_eq_getElem h] at k18
   exact Option.some.inj k18
  have z18 : 18 < c8.size := by omega
  have hsl5 := (f5.block _ (hat_lt hsl4) (by simpa using hne)).trans hsl4
  have hgxl4 := hat_lt hgx4
  have hgxl5 := hat_lt hgx5
  have hsll4 := hat_lt hsl4
  have hll4 := hat_lt hl4
  have hgn : gx ≠ nb := (ha4.2 i _ hB4).1
  have HMV := Lib.hid ((Moved.from (HF0.out.trans HF3.out) hmv4 [nb] (by simp)).trans (Moved.of f5 (by simp)))
  have HLW5 := Lib.hid hlw5
  have HM5 := Lib.hid hm5
  have HT4 := Lib.hid ht4
  have HE4 := Lib.hid he4
  clear hlw4 hmv4 hlw5 hm5 ht5 f5 hnb3 hnb4 ha4 k18 ht4 he4 hl3 hr3 hal hsl2 hl2 hW3 hsl hsl2l hl2l
  go_wp2_with fail
  go_region
  go_wp2_with fail
  go_ret
  have hen := HLW5.out.en hB4 HT4.out (n := 1) (by omega) (by omega)
  refine ⟨rfl, ob', B', ?_, HM5.out.same ((fr_setCell w5 gx 18 _).block _ HM5.out.lt (by simpa using hgn.symm)), HMV.out.trans (Moved.of (fr_setCell w5 gx 18 _) (fun k hk => .inr fun hx => ?_))⟩
  ·have he := HE4.out
   subst he
   have e : ({ takeZ V.E.X V.E.Y i raw 0 z with T := updT (takeZ V.E.X V.E.Y i raw 0 z).T i { (⟨(takeX V.E.X V.E.Y raw z.st).1, 0, (takeX V.E.X V.E.Y raw z.st).2.bk⟩ : TI) with en := 1 } } : LZ) = takeZ V.E.X V.E.Y i raw 1 z := by
    unfold takeZ
    simp only [updT_twice]
   rw [e] at hen
   rw [HRAW.out]
   exact hen
  ·rw [List.mem_singleton] at hk
   subst hk
   exact (hx.2 i _ hB4).1 rfl
theorem enter_any {V : WE} {ob : Option Nat} {B : Nat → Option (Nat × Nat)} {zn : LZ × (ByteArray → Bool)} {w : World} (h : LW V ob B zn.1 w) (i : Nat) (nm : ByteArray) (hn : nm.size ≤ 40) (nb n : Nat) (hnb : NB w nb n zn.2) (hnn : n < maxLen) (ha : Apart V ob B nb) (hg0 : V.G0 ≤ nb)
  (hi1 : 1 ≤ i) (hY : (i : Int) ≤ V.E.Y) :
  Calls Tryz.prog 60 #[.pointer (some ⟨V.E.gl, 0, none⟩), .agg #[.int .i64 i, .string nm], .map (some nb)] w fun e w' =>
   e = .returned (.bool (enterR V.E.X V.E.Y V.IMG i nm zn).1) ∧ ∃ ob' B' n', n' ≤ n + 1 ∧ LW V ob' B' (enterR V.E.X V.E.Y V.IMG i nm zn).2.1 w' ∧ NB w' nb n' (enterR V.E.X V.E.Y V.IMG i nm zn).2.2 ∧ Moved V [nb] ob B w ob' B' w' := by
 obtain ⟨hN4, hNX⟩ := h.img4096
 have hsm := h.small
 have hstay : ∀ w', Fr [] w w' → ∃ ob' B' n', n' ≤ n + 1 ∧ LW V ob' B' zn.1 w' ∧ NB w' nb n' zn.2 ∧ Moved V [nb] ob B w ob' B' w' := fun w' hf =>
  ⟨ob, B, n, by omega, h.fr hf (by simp), hnb.same (hf.block _ hnb.lt (by simp)), Moved.of hf (by simp)⟩
 unfold enterR
 by_cases h0 : zn.2 nm = true ∨ i = 1
 ·simp only [if_pos h0]
  refine (enter_no h i nm hn nb n zn.2 hnb h0).mono ?_
  rintro e w' ⟨rfl, hf⟩
  exact ⟨rfl, hstay w' hf⟩
 ·simp only [if_neg h0]
  have hnm : zn.2 nm = false := by simpa using fun h => h0 (.inl h)
  have hi2 : 1 < i := by have : ¬ i = 1 := fun h => h0 (.inr h); omega
  unfold enterZ
  cases hB : B i with
  | none =>
   have hT := h.no i hB
   rw [hT]
   simp only
   refine (enter_new h i nm hn nb n zn.2 hnb hnn ha hg0 hnm hi2 hY hB).mono ?_
   intro e w' hh
   by_cases hs : soundR (V.IMG i) = false
   ·rw [if_pos hs] at hh
    obtain ⟨rfl, hf⟩ := hh
    rw [if_neg (by rw [hs]; decide)]
    exact ⟨rfl, hstay w' hf⟩
   ·rw [if_neg hs] at hh
    obtain ⟨rfl, ob', B', h1, h2, h3⟩ := hh
    rw [if_pos (by simpa using hs)]
    exact ⟨rfl, ob', B', n + 1, Nat.le_refl _, h1, h2, h3⟩
  | some v =>
   obtain ⟨t, hT, -⟩ := h.yes i v hB
   rw [hT]
   simp only
   refine (enter_old h i nm hn nb n zn.2 hnb hnn ha hg0 hnm hi2 (by omega) v hB t hT).mono ?_
   intro e w' hh
   by_cases hs : nth t.raw 0 = 2 ∨ t.en = 100
   ·rw [if_pos hs] at hh
    obtain ⟨rfl, hf⟩ := hh
    rw [if_pos hs]
    exact ⟨rfl, hstay w' hf⟩
   ·rw [if_neg hs] at hh
    obtain ⟨rfl, h1, h2, h3⟩ := hh
    rw [if_neg hs]
    exact ⟨rfl, ob, B, n + 1, Nat.le_refl _, h1, h2, h3⟩
end Go.Proofs.YthioepdgnbdohaaGreat
