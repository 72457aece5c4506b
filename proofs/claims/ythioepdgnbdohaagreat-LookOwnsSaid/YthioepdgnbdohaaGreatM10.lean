import Derived.Test.YthioepdgnbdohaaGreatM04
import Derived.Test.YthioepdgnbdohaaGreatM08
import Derived.Test.YthioepdgnbdohaaGreatM09
namespace Go.Proofs.YthioepdgnbdohaaGreat
set_option maxHeartbeats 16000000
set_option maxRecDepth 1000000
set_option linter.unusedSimpArgs false
set_option linter.unusedVariables false
open Go.RowKit
structure SI (X Y : Int) (A : Nat -> List Int) (s : LS) : Prop where
 fc : Qg s
 cd : ∀ q, s.cl q = true -> isD X Y q = true
 bk : ∀ k q, s.bk k = some q -> isD X Y q = true /\ s.cl q = true /\ s.fm q = false
 inj : ∀ k k' q, s.bk k = some q -> s.bk k' = some q -> k = k'
 un : ∀ j : Nat, s.cl j = false -> s.S j = A j
 ln : ∀ j : Nat, isD X Y j = true -> (s.S j).length = 128 /\ A0 (s.S j)
 sub : ∀ j : Nat, s.fm j = true -> X3 (s.S j) (A j)
structure Did (s s2 : LS) : Prop where
 new : ∀ k q, s2.bk k = some q -> (∃ k', s.bk k' = some q) \/ (0 <= q /\ s.cl q = false)
 same : ∀ j : Nat, s2.fm j = false -> s2.S j = s.S j
theorem Did.refl (s : LS) : Did s s := ⟨fun k q h => .inl ⟨k, h⟩, fun _ _ => rfl⟩
theorem Gr.not {a b : LS} (hg : Gr a b) {q : Int} (h0 : 0 <= q) (h : b.cl q = false) : a.cl q = false := by
 cases hc : a.cl q with
 | false => rfl
 | true =>
  have e : (q.toNat : Int) = q := by omega
  have := (hg q.toNat (by rw [e]; exact hc)).1;rw [e, h] at this; cases this
theorem Did.trans {a b c : LS} (h : Did a b) (h2 : Did b c) (hg : Gr a b) (hg2 : Gr b c) (hb : Qg b) : Did a c := by
 refine ⟨fun k q hq => ?_, fun j hj => ?_⟩
 ·rcases h2.new k q hq with ⟨k', h3⟩ | ⟨h0, h3⟩
  ·exact h.new k' q h3
  ·exact .inr ⟨h0, hg.not h0 h3⟩
 ·have hb2 : b.fm j = false := by
   cases hbj : b.fm j with
   | false => rfl
   | true => have := (hg2 j (hb j hbj)).2.1; rw [hj, hbj] at this; cases this
  rw [h2.same j hj, h.same j hb2]
structure jZ (X Y : Int) (A : Nat -> List Int) (T : Int -> LS -> Bool × LS) : Prop where
 ok : Z8 T
 inv : ∀ p s, SI X Y A s -> SI X Y A (T p s).2
 did : ∀ p s, SI X Y A s -> Did s (T p s).2
structure Qi (X Y : Int) (A : Nat -> List Int) (F : List Int -> LS -> List Int × Bool × LS) : Prop where
 ok : Ye F
 inv : ∀ ps s, SI X Y A s -> SI X Y A (F ps s).2.2
 did : ∀ ps s, SI X Y A s -> Did s (F ps s).2.2
theorem Nx {X Y : Int} {A : Nat -> List Int} {T : Nat -> Int -> LS -> Bool × LS} (hT : ∀ k, jZ X Y A (T k)) (base step n : Int) (k0 : Nat) : Qi X Y A (F8 T base step n k0) := by
 refine ⟨Sm (fun k => (hT k).ok) base step n k0, fun ps => ?_, fun ps => ?_⟩
 ·induction ps generalizing k0 with
  | nil => intro s h; exact h
  | cons p r ih =>
   intro s h;rw [Er];split
   ·exact ih (k0 + 1) s h
   ·exact ih (k0 + 1) _ ((hT k0).inv p s h)
 ·induction ps generalizing k0 with
  | nil => intro s h; exact Did.refl _
  | cons p r ih =>
   intro s h;rw [Er];split
   ·exact ih (k0 + 1) s h
   ·exact ((hT k0).did p s h).trans (ih (k0 + 1) _ ((hT k0).inv p s h)) ((hT k0).ok.grow p s) ((Sm (fun k => (hT k).ok) base step n (k0 + 1)).grow r _) ((hT k0).inv p s h).fc
theorem U5 {X Y q : Int} (hY : 0 <= Y) (h : isD X Y q = true) : 0 < q := by
 unfold isD at h;have := of_decide_eq_true h;omega
theorem SI.claim {X Y : Int} {A : Nat -> List Int} {s : LS} (h : SI X Y A s) {p : Int} (h1 : isD X Y p = true) : SI X Y A { s with cl := Bi s.cl p } := by
 refine ⟨fun j hj => Ff (h.fc j hj), fun q hq => ?_, fun k q hk => ?_, h.inj, fun j hj => h.un j ?_, h.ln, h.sub⟩
 ·by_cases hqp : q = p
  ·subst hqp; exact h1
  ·have hq2 : Bi s.cl p q = true := hq;rw [Jz hqp] at hq2;exact h.cd q hq2
 ·obtain ⟨a, b, c⟩ := h.bk k q hk;exact ⟨a, Ff b, c⟩
 ·cases hb : s.cl j with
  | false => rfl
  | true => have : Bi s.cl p j = true := Ff hb; rw [show Bi s.cl p j = false from hj] at this; cases this
theorem SI.fmn {X Y : Int} {A : Nat -> List Int} {s : LS} (hY : 0 <= Y) (h : SI X Y A s) {p : Int} (h1 : isD X Y p = true) (h2 : s.cl p = false) : s.fm p = false := by
 have e := (Ce hY h1).1;cases hb : s.fm p with
 | false => rfl
 | true =>
  have := h.fc p.toNat (by rw [e]; exact hb);rw [e, h2] at this; cases this
theorem X8 {X Y : Int} (hY : 0 <= Y) (A : Nat -> List Int) (base : Int) (k : Nat) : jZ X Y A (Hn X Y base k) := by
 refine ⟨Un X Y base k, fun p s h => ?_, fun p s h => ?_⟩
 ·unfold Hn;split
  ·rename_i hc
   have hn := h.claim hc.1;refine ⟨hn.fc, hn.cd, fun k' q hk => ?_, fun k1 k2 q hk1 hk2 => ?_, hn.un, hn.ln, hn.sub⟩
   ·have hk2 : Ee s.bk (base + k) p k' = some q := hk;unfold Ee at hk2;split at hk2
    ·cases hk2;exact ⟨hc.1, F1 _ _, h.fmn hY hc.1 hc.2⟩
    ·exact hn.bk k' q hk2
   ·have a1 : Ee s.bk (base + k) p k1 = some q := hk1;have a2 : Ee s.bk (base + k) p k2 = some q := hk2;unfold Ee at a1 a2;split at a1
    ·rename_i e1
     split at a2
     ·rename_i e2; rw [e1, e2]
     ·cases a1;have := (h.bk _ _ a2).2.1;rw [hc.2] at this; cases this
    ·split at a2
     ·cases a2;have := (h.bk _ _ a1).2.1;rw [hc.2] at this; cases this
     ·exact h.inj _ _ _ a1 a2
  ·exact h
 ·unfold Hn;split
  ·rename_i hc
   refine ⟨fun k' q hk => ?_, fun _ _ => rfl⟩;have hk2 : Ee s.bk (base + k) p k' = some q := hk;unfold Ee at hk2;split at hk2
   ·cases hk2;exact .inr ⟨Int.le_of_lt (U5 hY hc.1), hc.2⟩
   ·exact .inl ⟨k', hk2⟩
  ·exact Did.refl _
theorem Jy {X Y : Int} (hY : 0 <= Y) {A : Nat -> List Int} {F : List Int -> LS -> List Int × Bool × LS} (hF : Qi X Y A F) : jZ X Y A (Es X Y F) := by
 have hok := Mc hY hF.ok (X := X);refine ⟨hok, fun p s h => ?_, fun p s h => ?_⟩
 ·cases hb : (Es X Y F p s).1 with
  | false => rw [hok.fail p s hb]; exact h
  | true =>
   obtain ⟨h1, h2, h3, h4⟩ := Ip hb;rw [h4];obtain ⟨hp, -⟩ := Ce hY h1;have h2' : s.cl (p.toNat : Int) = false := by rw [hp]; exact h2
   have hs1 := h.claim h1;have hi := hF.inv (An (s.S p.toNat)) _ hs1;have hd := hF.did (An (s.S p.toNat)) _ hs1;have hg := hF.ok.grow (An (s.S p.toNat)) { s with cl := Bi s.cl p } p.toNat (by rw [hp]; exact F1 _ _);have hA := h.un p.toNat h2';obtain ⟨hl, hby⟩ := h.ln p.toNat (by rw [hp]; exact h1);have hmay : Gc (F (An (s.S p.toNat)) { s with cl := Bi s.cl p }).1 := Rm hby (fun i => hF.ok.sub _ _ i);have hlen : (F (An (s.S p.toNat)) { s with cl := Bi s.cl p }).1.length = 32 := by rw [hF.ok.len]; simp
   have hback := Xf _ hlen hmay;have hsub := fun i => hF.ok.sub (An (s.S p.toNat)) { s with cl := Bi s.cl p } i
   have hbn : ∀ k q, (F (An (s.S p.toNat)) { s with cl := Bi s.cl p }).2.2.bk k = some q -> q ≠ p := by
    intro k q hk e;subst e;rcases hd.new k q hk with ⟨k', h5⟩ | ⟨-, h5⟩
    ·have := (h.bk k' q h5).2.1;rw [h2] at this; cases this
    ·have h6 : Bi s.cl q q = false := h5;rw [F1] at h6; cases h6
   generalize (F (An (s.S p.toNat)) { s with cl := Bi s.cl p }) = r at *;refine ⟨fun j hj => ?_, hi.cd, fun k q hk => ?_, hi.inj, fun j hj => ?_, fun j hj => ?_, fun j hj => ?_⟩
   ·by_cases hjp : (j : Int) = (p.toNat : Int)
    ·rw [hjp]; exact hg.1
    ·have hj2 : Bi r.2.2.fm p.toNat j = true := hj;rw [Jz hjp] at hj2;exact hi.fc j hj2
   ·obtain ⟨a, b, c⟩ := hi.bk k q hk;refine ⟨a, b, ?_⟩;show Bi r.2.2.fm p.toNat q = false
    rw [Jz (by rw [hp]; exact hbn k q hk)];exact c
   ·have hne : j ≠ p.toNat := fun e => by
     subst e;rw [show r.2.2.cl p.toNat = false from hj] at hg; cases hg.1
    show Bn _ _ _ _ = _
    rw [C0 _ _ hne];exact hi.un j hj
   ·show (Bn _ _ _ _).length = 128 /\ A0 (Bn _ _ _ _)
    by_cases hjp : j = p.toNat
    ·subst hjp;rw [Fk];exact ⟨Lm _, M2 _⟩
    ·rw [C0 _ _ hjp];exact hi.ln j hj
   ·show X3 (Bn _ _ _ _) _
    by_cases hjp : j = p.toNat
    ·subst hjp;rw [Fk, Ln hmay];intro i;rw [hback, <- hA];exact hsub i
    ·rw [C0 _ _ hjp];have hj2 : Bi r.2.2.fm p.toNat j = true := hj;rw [Jz (by omega)] at hj2;exact hi.sub j hj2
 ·cases hb : (Es X Y F p s).1 with
  | false => rw [hok.fail p s hb]; exact Did.refl _
  | true =>
   obtain ⟨h1, h2, h3, h4⟩ := Ip hb;rw [h4];obtain ⟨hp, -⟩ := Ce hY h1;have hs1 := h.claim h1;have hd := hF.did (An (s.S p.toNat)) _ hs1;refine ⟨fun k q hk => ?_, fun j hj => ?_⟩
   ·rcases hd.new k q hk with h5 | ⟨h0, h5⟩
    ·exact .inl h5
    ·refine .inr ⟨h0, ?_⟩;cases hc : s.cl q with
     | false => rfl
     | true => have : Bi s.cl p q = true := Ff hc; rw [show Bi s.cl p q = false from h5] at this; cases this
   ·have hj2 : Bi (F (An (s.S p.toNat)) { s with cl := Bi s.cl p }).2.2.fm p.toNat j = false := hj;have hne : (j : Int) ≠ (p.toNat : Int) := fun e => by rw [e, F1] at hj2; cases hj2
    rw [Jz hne] at hj2;show Bn _ _ _ _ = _
    rw [C0 _ _ (by omega)];exact hd.same j hj2
def Tj (X Y n base : Int) : List Int -> LS -> List Int × Bool × LS := F8 (Hn X Y base) base 1 n 0
noncomputable def fE (X Y n : Int) : List Int -> LS -> List Int × Bool × LS := F8 (fun k => Es X Y (Tj X Y n (44 + 32 * k))) 44 32 n 0
noncomputable def dZ (X Y n : Int) : List Int -> LS -> List Int × Bool × LS := F8 (fun _ => Es X Y (Tj X Y n 12)) 12 1 n 0
noncomputable def fF (X Y n : Int) : List Int -> LS -> List Int × Bool × LS := F8 (fun _ => Es X Y (fE X Y n)) 44 1 n 0
theorem Wm {X Y p : Int} {st : LS} (h : (As X Y p st).1 = false) : ¬ (isD X Y p = true /\ st.cl p = false) /\ (As X Y p st).2 = st := by
 unfold As at h ⊢;split at h
 ·cases h
 ·rename_i hc; rw [if_neg hc]; exact ⟨hc, rfl⟩
theorem Tx {X Y p : Int} {st : LS} (h : ¬ (As X Y p st).1 = false) : (isD X Y p = true /\ st.cl p = false) /\ (As X Y p st).2 = { st with cl := Bi st.cl p } := by
 unfold As at h ⊢;split at h
 ·rename_i hc; rw [if_pos hc]; exact ⟨hc, rfl⟩
 ·exact absurd rfl h
theorem O3 {X Y : Int} (F : List Int -> LS -> List Int × Bool × LS) (p : Int) (st : LS) :
  Es X Y F p st = if (As X Y p st).1 = false then (false, (As X Y p st).2) else Cu F p.toNat (As X Y p st).2 := by
 by_cases h : (As X Y p st).1 = false
 ·obtain ⟨h1, h2⟩ := Wm h;rw [if_pos h, h2];unfold Es;rw [if_neg h1]
 ·obtain ⟨h1, h2⟩ := Tx h;rw [if_neg h, h2];unfold Es;rw [if_pos h1]
theorem Zn (X Y n base : Int) : Jw X Y n base = Tj X Y n base := by
 funext ps st
 unfold Jw Tj;refine Nw base 1 n (fun k p st => ?_) (fun k p st h => (Un X Y base k).fail p st h) ps 0 st;by_cases h : (As X Y p st).1 = false
 ·obtain ⟨h1, h2⟩ := Wm h;rw [if_pos h, h2];unfold Hn;rw [if_neg h1]
 ·obtain ⟨h1, h2⟩ := Tx h;rw [if_neg h, h2];unfold Hn Cc;rw [if_pos h1]
theorem Hl {X Y : Int} (hY : 0 <= Y) (A : Nat -> List Int) (n base : Int) : Qi X Y A (Tj X Y n base) := Nx (fun k => X8 hY A base k) base 1 n 0
theorem nJ {X Y : Int} (hY : 0 <= Y) (n : Int) : Ob X Y n = fE X Y n := by
 funext ps st
 unfold Ob fE;refine Nw 44 32 n (fun k p st => ?_) (fun k p st h => (Mc hY (Hl hY (fun _ => []) n (44 + 32 * k)).ok).fail p st h) ps 0 st;rw [O3, <- Zn];rfl
theorem Yk {X Y : Int} (hY : 0 <= Y) (A : Nat -> List Int) (n : Int) : Qi X Y A (fE X Y n) := Nx (fun k => Jy hY (Hl hY A n (44 + 32 * k))) 44 32 n 0
theorem M9 {X Y : Int} (hY : 0 <= Y) (A : Nat -> List Int) (n : Int) : Qi X Y A (dZ X Y n) := Nx (fun _ => Jy hY (Hl hY A n 12)) 12 1 n 0
theorem Oc {X Y : Int} (hY : 0 <= Y) (A : Nat -> List Int) (n : Int) : Qi X Y A (fF X Y n) := Nx (fun _ => Jy hY (Yk hY A n)) 44 1 n 0
theorem qN {X Y : Int} (hY : 0 <= Y) (n : Int) (ps : List Int) (st : LS) : Av (As X Y) (Lh X Y n) 12 1 n 0 ps st = dZ X Y n ps st := by
 unfold dZ;refine Nw 12 1 n (fun k p st => ?_) (fun k p st h => (Mc hY (Hl hY (fun _ => []) n 12).ok).fail p st h) ps 0 st;rw [O3, <- Zn];rfl
theorem pP {X Y : Int} (hY : 0 <= Y) (n : Int) (ps : List Int) (st : LS) : Av (As X Y) (J7 X Y n) 44 1 n 0 ps st = fF X Y n ps st := by
 unfold fF;refine Nw 44 1 n (fun k p st => ?_) (fun k p st h => (Mc hY (Yk hY (fun _ => []) n).ok).fail p st h) ps 0 st;rw [O3, <- nJ hY];rfl
noncomputable def pA (X Y n : Int) (raw : List Int) (st : LS) := Tj X Y n 0 ((raw.drop 4).take 12) st
noncomputable def pB (X Y n : Int) (raw : List Int) (st : LS) := dZ X Y n [nth raw 16] (pA X Y n raw st).2.2
noncomputable def pC (X Y n : Int) (raw : List Int) (st : LS) := fF X Y n [nth raw 17] (pB X Y n raw st).2.2
theorem Ve {X Y : Int} (hY : 0 <= Y) (n : Int) (raw : List Int) (st : LS) : Bd X Y n raw st = (raw.take 4 ++ ((pA X Y n raw st).1 ++ ((pB X Y n raw st).1 ++ (pC X Y n raw st).1)), (pC X Y n raw st).2.2) := by
 unfold Bd pC pB pA;simp only [qN hY, pP hY, Zn]
theorem Zg {X Y : Int} (hY : 0 <= Y) {A : Nat -> List Int} (n : Int) (raw : List Int) {st : LS} (h : SI X Y A st) : SI X Y A (Bd X Y n raw st).2 /\ Did st (Bd X Y n raw st).2 /\ Gr st (Bd X Y n raw st).2 := by
 rw [Ve hY];have iA := (Hl hY A n 0).inv ((raw.drop 4).take 12) st h;have dA := (Hl hY A n 0).did ((raw.drop 4).take 12) st h;have gA := (Hl (X := X) hY A n 0).ok.grow ((raw.drop 4).take 12) st;have iB := (M9 hY A n).inv [nth raw 16] _ iA;have dB := (M9 hY A n).did [nth raw 16] _ iA;have gB := (M9 (X := X) hY A n).ok.grow [nth raw 16] (Tj X Y n 0 ((raw.drop 4).take 12) st).2.2;have iC := (Oc hY A n).inv [nth raw 17] _ iB;have dC := (Oc hY A n).did [nth raw 17] _ iB;have gC := (Oc (X := X) hY A n).ok.grow [nth raw 17] (dZ X Y n [nth raw 16] (Tj X Y n 0 ((raw.drop 4).take 12) st).2.2).2.2;exact ⟨iC, (dA.trans dB gA gB iA.fc).trans dC (gA.trans gB) gC iB.fc, (gA.trans gB).trans gC⟩
theorem Rp {X Y : Int} (hY : 0 <= Y) (n : Int) {raw : List Int} (hr : raw.length = 18) (st : LS) : (pA X Y n raw st).1.length = 12 /\ (pB X Y n raw st).1.length = 1 /\ (pC X Y n raw st).1.length = 1 := by
 refine ⟨?_, ?_, ?_⟩
 ·unfold pA; rw [(Hl (X := X) hY (fun _ => []) n 0).ok.len]; simp [hr]
 ·unfold pB; rw [(M9 (X := X) hY (fun _ => []) n).ok.len]; rfl
 ·unfold pC; rw [(Oc (X := X) hY (fun _ => []) n).ok.len]; rfl
theorem Om {a b : List Int} {i : Nat} (h : i < a.length) : nth (a ++ b) i = nth a i := by unfold nth; rw [List.getElem?_append_left h]
theorem Ic {a b : List Int} {i : Nat} (h : a.length <= i) : nth (a ++ b) i = nth b (i - a.length) := by unfold nth; rw [List.getElem?_append_right h]
theorem lO {l : List Int} {i : Nat} (h : l.length <= i) : nth l i = 0 := by unfold nth; rw [List.getElem?_eq_none h]; rfl
theorem Ij {X Y : Int} (hY : 0 <= Y) (n : Int) {raw : List Int} (hr : raw.length = 18) (st : LS) :
  (∀ i, i < 4 -> nth (Bd X Y n raw st).1 i = nth raw i) /\ (∀ i, i < 12 -> nth (Bd X Y n raw st).1 (4 + i) = nth (pA X Y n raw st).1 i) /\ nth (Bd X Y n raw st).1 16 = nth (pB X Y n raw st).1 0 /\ nth (Bd X Y n raw st).1 17 = nth (pC X Y n raw st).1 0 /\ (Bd X Y n raw st).1.length = 18 := by
 obtain ⟨l1, l2, l3⟩ := Rp (X := X) hY n hr st;have l0 : (raw.take 4).length = 4 := by simp [hr]
 rw [Ve hY];refine ⟨fun i hi => ?_, fun i hi => ?_, ?_, ?_, ?_⟩
 ·show nth (raw.take 4 ++ _) i = _
  rw [Om (by omega)];unfold nth;rw [List.getElem?_take, if_pos hi]
 ·show nth (raw.take 4 ++ _) (4 + i) = _
  rw [Ic (by omega), l0, Nat.add_sub_cancel_left, Om (by omega)]
 ·show nth (raw.take 4 ++ _) 16 = _
  rw [Ic (by omega), l0, Ic (by omega), l1, Om (by omega)]
 ·show nth (raw.take 4 ++ _) 17 = _
  rw [Ic (by omega), l0, Ic (by omega), l1, Ic (by omega), l2]
 ·show (raw.take 4 ++ _).length = 18
  simp only [List.length_append];omega
theorem Y7 {raw : List Int} (hr : raw.length = 18) {i : Nat} (hi : i < 12) : nth ((raw.drop 4).take 12) i = nth raw (4 + i) := by
 unfold nth;rw [List.getElem?_take, if_pos hi, List.getElem?_drop]
def C3 (s : Int -> Bool) (l : List Int) : Int -> Bool := fun q => s q || decide (q ∈ l)
theorem Qj (s : Int -> Bool) : C3 s [] = s := by funext q; simp [C3]
theorem O8 (s : Int -> Bool) (p : Int) (l : List Int) : C3 s (p :: l) = C3 (Bi s p) l := by
 funext q
 simp only [C3, Bi, List.mem_cons, Bool.decide_or, Bool.or_assoc]
theorem Mw (s : Int -> Bool) (a b : List Int) : C3 s (a ++ b) = C3 (C3 s a) b := by
 funext q
 simp only [C3, List.mem_append, Bool.decide_or, Bool.or_assoc]
theorem Mx {s : Int -> Bool} {l : List Int} {q : Int} : C3 s l q = true ↔ s q = true \/ q ∈ l := by simp [C3]
theorem N9 {s : Int -> Bool} {l : List Int} {q : Int} : C3 s l q = false ↔ s q = false /\ q ∉ l := by simp [C3]
def OkL (X Y : Int) (s : Int -> Bool) (l : List Int) : Prop := (∀ p ∈ l, isD X Y p = true /\ s p = false) /\ l.Nodup
theorem lP (X Y : Int) (s : Int -> Bool) : OkL X Y s [] := ⟨fun p h => (by cases h), List.nodup_nil⟩
theorem Qb {X Y : Int} {s : Int -> Bool} {a b : List Int} : OkL X Y s (a ++ b) ↔ OkL X Y s a /\ OkL X Y (C3 s a) b := by
 unfold OkL;rw [List.nodup_append];constructor
 ·rintro ⟨h1, h2, h3, h4⟩;refine ⟨⟨fun p hp => h1 p (List.mem_append_left _ hp), h2⟩, fun p hp => ⟨(h1 p (List.mem_append_right _ hp)).1, N9.2 ⟨(h1 p (List.mem_append_right _ hp)).2, fun hm => h4 p hm p hp rfl⟩⟩, h3⟩
 ·rintro ⟨⟨h1, h2⟩, h3, h4⟩;refine ⟨fun p hp => ?_, h2, h4, fun p hp q hq e => ?_⟩
  ·rcases List.mem_append.1 hp with h | h
   ·exact h1 p h
   ·exact ⟨(h3 p h).1, (N9.1 (h3 p h).2).1⟩
  ·subst e;exact (N9.1 (h3 p hq).2).2 hp
theorem aT {X Y : Int} {s : Int -> Bool} {p : Int} : OkL X Y s [p] ↔ isD X Y p = true /\ s p = false := by
 unfold OkL;simp
theorem Qk (s : Int -> Bool) (p : Int) : C3 s [p] = Bi s p := by rw [O8, Qj]
theorem iF {X Y : Int} {s : Int -> Bool} {p : Int} {l : List Int} : OkL X Y s (p :: l) ↔ (isD X Y p = true /\ s p = false) /\ OkL X Y (Bi s p) l := by
 have := Qb (X := X) (Y := Y) (s := s) (a := [p]) (b := l);rw [aT, Qk] at this;exact this
theorem OkL.mono {X Y : Int} {s s' : Int -> Bool} {l : List Int} (h : OkL X Y s l) (hs : ∀ q, s q = false -> s' q = false) : OkL X Y s' l := ⟨fun p hp => ⟨(h.1 p hp).1, hs p (h.1 p hp).2⟩, h.2⟩
def Sr (ps : List Int) : Bool := ps.any fun p => p != 0
structure bL where
 ps : (Nat -> List Int) -> Int -> List Int
 tb : (Nat -> List Int) -> Int -> List Int
 sh : (Nat -> List Int) -> Int -> Prop
 bl : (Nat -> List Int) -> Int -> Int -> Int
def aO : bL := ⟨fun _ p => [p], fun _ _ => [], fun _ _ => True, fun _ p _ => p⟩
structure Dr where
 lo : Nat -> Int
 F : Nat -> bL
def Dr.ps (R : Dr) (S : Nat -> List Int) : Nat -> List Int -> List Int
 | _, [] => []
 | k, p :: r => (if p = 0 then [] else (R.F k).ps S p) ++ R.ps S (k + 1) r
def Dr.tb (R : Dr) (S : Nat -> List Int) : Nat -> List Int -> List Int
 | _, [] => []
 | k, p :: r => (if p = 0 then [] else (R.F k).tb S p) ++ R.tb S (k + 1) r
def Dr.sh (R : Dr) (n : Int) (S : Nat -> List Int) : Nat -> List Int -> Prop
 | _, [] => True
 | k, p :: r => (p ≠ 0 -> R.lo k < n /\ (R.F k).sh S p) /\ R.sh n S (k + 1) r
def Dr.bl (R : Dr) (S : Nat -> List Int) : Nat -> List Int -> Int -> Int
 | _, [], _ => 0
 | k, p :: r, q => if q < R.lo (k + 1) then (if p = 0 then 0 else (R.F k).bl S p q) else R.bl S (k + 1) r q
def eI (n : Int) (R : Dr) : bL where
 ps := fun S p => p :: R.ps S 0 (An (S p.toNat))
 tb := fun S p => p :: R.tb S 0 (An (S p.toNat))
 sh := fun S p => R.sh n S 0 (An (S p.toNat)) /\ Sr (An (S p.toNat)) = true
 bl := fun S p q => R.bl S 0 (An (S p.toNat)) q
structure Hg (f : bL) : Prop where
 st : ∀ S S' p, (∀ q ∈ f.tb S p, S' q.toNat = S q.toNat) -> f.ps S' p = f.ps S p /\ f.tb S' p = f.tb S p /\ (f.sh S' p ↔ f.sh S p) /\ ∀ q, f.bl S' p q = f.bl S p q
 tp : ∀ S p q, q ∈ f.tb S p -> q ∈ f.ps S p
theorem gS : Hg aO := ⟨fun _ _ _ _ => ⟨rfl, rfl, Iff.rfl, fun _ => rfl⟩, fun _ _ _ h => by cases h⟩
theorem Dr.st {R : Dr} (hR : ∀ k, Hg (R.F k)) (n : Int) (S S' : Nat -> List Int) : ∀ (ps : List Int) (k : Nat), (∀ q ∈ R.tb S k ps, S' q.toNat = S q.toNat) -> R.ps S' k ps = R.ps S k ps /\ R.tb S' k ps = R.tb S k ps /\ (R.sh n S' k ps ↔ R.sh n S k ps) /\ ∀ q, R.bl S' k ps q = R.bl S k ps q
 | [], _, _ => ⟨rfl, rfl, Iff.rfl, fun _ => rfl⟩
 | p :: r, k, h => by
  have h1 := Dr.st hR n S S' r (k + 1) (fun q hq => h q (List.mem_append_right _ hq));by_cases hp : p = 0
  ·subst hp;refine ⟨?_, ?_, ?_, fun q => ?_⟩
   ·show _ ++ _ = _ ++ _
    rw [if_pos rfl, if_pos rfl, h1.1]
   ·show _ ++ _ = _ ++ _
    rw [if_pos rfl, if_pos rfl, h1.2.1]
   ·show (_ /\ _) ↔ (_ /\ _)
    rw [h1.2.2.1];exact and_congr_left fun _ => ⟨fun _ h => absurd rfl h, fun _ h => absurd rfl h⟩
   ·show (if _ then _ else _) = (if _ then _ else _)
    rw [if_pos rfl, if_pos rfl, h1.2.2.2]
  ·have h2 := (hR k).st S S' p (fun q hq => h q (List.mem_append_left _ (by rw [if_neg hp]; exact hq)));refine ⟨?_, ?_, ?_, fun q => ?_⟩
   ·show _ ++ _ = _ ++ _
    rw [if_neg hp, if_neg hp, h1.1, h2.1]
   ·show _ ++ _ = _ ++ _
    rw [if_neg hp, if_neg hp, h1.2.1, h2.2.1]
   ·show (_ /\ _) ↔ (_ /\ _)
    rw [h1.2.2.1, h2.2.2.1]
   ·show (if _ then _ else _) = (if _ then _ else _)
    rw [if_neg hp, if_neg hp, h1.2.2.2, h2.2.2.2]
theorem Dr.tp {R : Dr} (hR : ∀ k, Hg (R.F k)) (S : Nat -> List Int) : ∀ (ps : List Int) (k : Nat) (q : Int), q ∈ R.tb S k ps -> q ∈ R.ps S k ps
 | [], _, _, h => by cases h
 | p :: r, k, q, h => by
  rcases List.mem_append.1 h with h | h
  ·refine List.mem_append_left _ ?_;split at h
   ·cases h
   ·rename_i hp; rw [if_neg hp]; exact (hR k).tp S p q h
  ·exact List.mem_append_right _ (Dr.tp hR S r (k + 1) q h)
theorem Vw (n : Int) {R : Dr} (hR : ∀ k, Hg (R.F k)) : Hg (eI n R) := by
 refine ⟨fun S S' p h => ?_, fun S p q h => ?_⟩
 ·have e : S' p.toNat = S p.toNat := h p (List.mem_cons_self ..);have h1 := Dr.st hR n S S' (An (S p.toNat)) 0 (fun q hq => h q (List.mem_cons_of_mem _ hq));refine ⟨?_, ?_, ?_, fun q => ?_⟩
  ·show p :: R.ps S' 0 (An (S' p.toNat)) = p :: _
   rw [e, h1.1]
  ·show p :: R.tb S' 0 (An (S' p.toNat)) = p :: _
   rw [e, h1.2.1]
  ·show (R.sh n S' 0 (An (S' p.toNat)) /\ _) ↔ (R.sh n S 0 (An (S p.toNat)) /\ _)
   rw [e, h1.2.2.1]
  ·show R.bl S' 0 (An (S' p.toNat)) q = R.bl S 0 (An (S p.toNat)) q
   rw [e, h1.2.2.2]
 ·rcases List.mem_cons.1 h with h | h
  ·exact List.mem_cons.2 (.inl h)
  ·exact List.mem_cons.2 (.inr (Dr.tp hR S _ 0 q h))
def Hk (p : Int) : Option Int := if p = 0 then none else some p
structure nH (X Y : Int) (A : Nat -> List Int) (T : Int -> LS -> Bool × LS) (f : bL) (a b : Int) : Prop where
 yes : ∀ p s, SI X Y A s -> (∀ q, a <= q -> s.bk q = none) -> (T p s).1 = true ->
  p ≠ 0 /\ f.sh (T p s).2.S p /\ OkL X Y s.cl (f.ps (T p s).2.S p) /\ (T p s).2.cl = C3 s.cl (f.ps (T p s).2.S p) /\ (∀ q ∈ f.tb (T p s).2.S p, (T p s).2.fm q = true) /\
  (∀ q, q < a -> (T p s).2.bk q = s.bk q) /\ (∀ q, b <= q -> (T p s).2.bk q = none) /\ ∀ q, a <= q -> q < b -> (T p s).2.bk q = Hk (f.bl (T p s).2.S p q)
structure Tn (X Y : Int) (A : Nat -> List Int) (F : List Int -> LS -> List Int × Bool × LS) (R : Dr) (n : Int) (k m : Nat) : Prop where
 i : Qi X Y A F
 ok : ∀ k, Hg (R.F k)
 all : ∀ ps s, k + ps.length <= m -> SI X Y A s -> (∀ q, R.lo k <= q -> s.bk q = none) ->
  R.sh n (F ps s).2.2.S k (F ps s).1 /\ OkL X Y s.cl (R.ps (F ps s).2.2.S k (F ps s).1) /\ (F ps s).2.2.cl = C3 s.cl (R.ps (F ps s).2.2.S k (F ps s).1) /\ (∀ q ∈ R.tb (F ps s).2.2.S k (F ps s).1, (F ps s).2.2.fm q = true) /\
  (F ps s).2.1 = Sr (F ps s).1 /\ (∀ q, q < R.lo k -> (F ps s).2.2.bk q = s.bk q) /\ (∀ q, R.lo (k + ps.length) <= q -> (F ps s).2.2.bk q = none) /\
  ∀ q, R.lo k <= q -> q < R.lo (k + ps.length) -> (F ps s).2.2.bk q = Hk (R.bl (F ps s).2.2.S k (F ps s).1 q)
theorem U1 {X Y : Int} (hY : 0 <= Y) {s s2 : LS} (hg : Gr s s2) (hc : Qg s) {q : Int} (hd : isD X Y q = true) (h : s.fm q = true) : s2.fm q = true /\ s2.S q.toNat = s.S q.toNat := by
 have e := (Ce hY hd).1;obtain ⟨h1, h2, h3⟩ := hg q.toNat (hc q.toNat (by rw [e]; exact h));rw [e] at h2;exact ⟨by rw [h2, h], h3⟩
theorem Qd {X Y : Int} (hY : 0 <= Y) {A : Nat -> List Int} {T : Nat -> Int -> LS -> Bool × LS} {R : Dr} {base step n : Int} {m : Nat} (hlo : ∀ k, R.lo k <= R.lo (k + 1)) (hb : ∀ k : Nat, k < m -> R.lo k = base + step * k)
  (hTi : ∀ k, jZ X Y A (T k)) (hok : ∀ k, Hg (R.F k)) (hT : ∀ k, k < m -> nH X Y A (T k) (R.F k) (R.lo k) (R.lo (k + 1))) (k0 : Nat) : Tn X Y A (F8 T base step n k0) R n k0 m := by
 refine ⟨Nx hTi base step n k0, hok, fun ps => ?_⟩;induction ps generalizing k0 with
 | nil =>
  intro s hm hi hf;refine ⟨trivial, lP _ _ _, (Qj _).symm, fun q h => (by cases h), rfl, fun q _ => rfl, fun q hq => hf q hq, fun q h1 h2 => ?_⟩;have : R.lo (k0 + ([] : List Int).length) = R.lo k0 := rfl;omega
 | cons p r ih =>
  intro s hm hi hf;have hkl : k0 + (p :: r).length = (k0 + 1) + r.length := by simp; omega
  rw [hkl] at hm;rw [hkl, Er];have hkm : k0 < m := by omega
  by_cases hc : p = 0 \/ n <= base + step * k0 \/ (T k0 p s).1 = false
  ·rw [if_pos hc];obtain ⟨h1, h2, h3, h4, h5, h6, h7, h8⟩ := ih (k0 + 1) s hm hi (fun q hq => hf q (Int.le_trans (hlo k0) hq));refine ⟨⟨fun h => absurd rfl h, h1⟩, ?_, ?_, ?_, ?_, fun q hq => h6 q (Int.lt_of_lt_of_le hq (hlo k0)), h7, fun q ha hb => ?_⟩
   ·show OkL X Y s.cl ((if (0 : Int) = 0 then [] else _) ++ _)
    rw [if_pos rfl]; exact h2
   ·show _ = C3 s.cl ((if (0 : Int) = 0 then [] else _) ++ _)
    rw [if_pos rfl]; exact h3
   ·intro q hq;change q ∈ ((if (0 : Int) = 0 then [] else _) ++ _) at hq;rw [if_pos rfl] at hq;exact h4 q hq
   ·show _ = Sr (0 :: _)
    unfold Sr;rw [List.any_cons];exact h5
   ·show _ = Hk (if q < R.lo (k0 + 1) then (if (0 : Int) = 0 then 0 else _) else _)
    by_cases hq : q < R.lo (k0 + 1)
    ·rw [if_pos hq, if_pos rfl, h6 q hq, hf q ha]; rfl
    ·rw [if_neg hq];exact h8 q (by omega) hb
  ·rw [if_neg hc];have hp0 : p ≠ 0 := fun h => hc (.inl h)
   have hn : base + step * k0 < n := by omega
   have ht : (T k0 p s).1 = true := by
    cases hh : (T k0 p s).1 with
    | true => rfl
    | false => exact absurd (.inr (.inr hh)) hc
   have hlk : R.lo k0 < n := by rw [hb k0 hkm]; exact hn
   obtain ⟨-, y1, y2, y3, y4, y5, y6, y7⟩ := (hT k0 hkm).yes p s hi hf ht;have hi1 := (hTi k0).inv p s hi;obtain ⟨h1, h2, h3, h4, h5, h6, h7, h8⟩ := ih (k0 + 1) (T k0 p s).2 hm hi1 y6;have hg := (Sm (fun k => (hTi k).ok) base step n (k0 + 1)).grow r (T k0 p s).2;generalize (T k0 p s).2 = s1 at *;generalize F8 T base step n (k0 + 1) r s1 = x at *;have hd : ∀ q ∈ (R.F k0).tb s1.S p, isD X Y q = true := fun q hq => (y2.1 q ((hok k0).tp _ _ _ hq)).1
   obtain ⟨z1, z2, z3, z4⟩ := (hok k0).st s1.S x.2.2.S p (fun q hq => (U1 hY hg hi1.fc (hd q hq) (y4 q hq)).2);refine ⟨⟨fun _ => ⟨hlk, z3.2 y1⟩, h1⟩, ?_, ?_, ?_, ?_, fun q hq => ?_, h7, fun q ha hb => ?_⟩
   ·show OkL X Y s.cl ((if p = 0 then [] else _) ++ _)
    rw [if_neg hp0, Qb, z1, <- y3];exact ⟨y2, h2⟩
   ·show _ = C3 s.cl ((if p = 0 then [] else _) ++ _)
    rw [if_neg hp0, Mw, z1, <- y3];exact h3
   ·intro q hq;change q ∈ ((if p = 0 then [] else _) ++ _) at hq;rw [if_neg hp0, List.mem_append, z2] at hq;rcases hq with hq | hq
    ·exact (U1 hY hg hi1.fc (hd q hq) (y4 q hq)).1
    ·exact h4 q hq
   ·show true = Sr (p :: _)
    unfold Sr;rw [List.any_cons];have : (p != 0) = true := by simpa using hp0
    rw [this]; rfl
   ·rw [h6 q (Int.lt_of_lt_of_le hq (hlo k0)), y5 q hq]
   ·show _ = Hk (if q < R.lo (k0 + 1) then (if p = 0 then 0 else _) else _)
    by_cases hq : q < R.lo (k0 + 1)
    ·rw [if_pos hq, if_neg hp0, h6 q hq, z4, y7 q ha hq]
    ·rw [if_neg hq];exact h8 q (by omega) hb
theorem jK {X Y : Int} (hY : 0 <= Y) (A : Nat -> List Int) (base : Int) (k : Nat) : nH X Y A (Hn X Y base k) aO (base + k) (base + (k + 1 : Nat)) := by
 refine ⟨fun p s hi hf ht => ?_⟩;unfold Hn at ht ⊢;by_cases hc : isD X Y p = true /\ s.cl p = false
 ·rw [if_pos hc];have hp := (Ce hY hc.1).2;refine ⟨hp, trivial, aT.2 hc, (Qk _ _).symm, fun q hq => (by cases hq), fun q hq => ?_, fun q hq => ?_, fun q h1 h2 => ?_⟩
  ·show Ee s.bk (base + k) p q = _
   unfold Ee;rw [if_neg (by omega)]
  ·show Ee s.bk (base + k) p q = _
   unfold Ee;rw [if_neg (by omega)];exact hf q (by omega)
  ·show Ee s.bk (base + k) p q = Hk p
   unfold Ee Hk;rw [if_pos (by omega), if_neg hp]
 ·rw [if_neg hc] at ht; cases ht
theorem Sy {X Y : Int} (hY : 0 <= Y) {A : Nat -> List Int} {F : List Int -> LS -> List Int × Bool × LS} {R : Dr} {n a b : Int} (hF : Tn X Y A F R n 0 32) (ha : R.lo 0 = a) (hb : R.lo 32 = b) : nH X Y A (Es X Y F) (eI n R) a b := by
 refine ⟨fun p s hi hf ht => ?_⟩;obtain ⟨h1, h2, h3, h4⟩ := Ip ht;obtain ⟨hp, hp0⟩ := Ce hY h1;have hi1 := hi.claim h1;obtain ⟨x1, x2, x3, x4, x5, x6, x7, x8⟩ := hF.all (An (s.S p.toNat)) { s with cl := Bi s.cl p } (by simp) hi1 (fun q hq => hf q (by rw [<- ha]; exact hq));have hg := hF.i.ok.grow (An (s.S p.toNat)) { s with cl := Bi s.cl p } p.toNat (by rw [hp]; exact F1 _ _);have hl := (hi.ln p.toNat (by rw [hp]; exact h1));have hmay : Gc (F (An (s.S p.toNat)) { s with cl := Bi s.cl p }).1 := Rm hl.2 (fun i => hF.i.ok.sub _ _ i);have hlen : (F (An (s.S p.toNat)) { s with cl := Bi s.cl p }).1.length = 32 := by rw [hF.i.ok.len]; simp
 have hback := Xf _ hlen hmay;have h32 : (An (s.S p.toNat)).length = 32 := by simp
 rw [h32, Nat.zero_add] at x7 x8;rw [h4];generalize (F (An (s.S p.toNat)) { s with cl := Bi s.cl p }) = r at *;have eS : Bn r.2.2.S p.toNat (Du r.1).1 p.toNat = (Du r.1).1 := Fk _ _ _;have e0 : (Du r.1).1 = Dd r.1 32 := by rw [Ln hmay]
 have eR : An ((Du r.1).1) = r.1 := by rw [e0, hback]
 have hne : ∀ q ∈ R.tb r.2.2.S 0 r.1, q.toNat ≠ p.toNat := fun q hq e => by
  have hd := (x2.1 q (Dr.tp hF.ok _ _ 0 q hq));have e2 := (Ce hY hd.1).1;have e3 : q = p := by rw [<- e2, <- hp, e]
  subst e3;have := hd.2;rw [show ({ s with cl := Bi s.cl q } : LS).cl q = Bi s.cl q q from rfl, F1] at this;cases this
 obtain ⟨z1, z2, z3, z4⟩ := Dr.st hF.ok n r.2.2.S (Bn r.2.2.S p.toNat (Du r.1).1) r.1 0 (fun q hq => C0 _ _ (hne q hq));refine ⟨hp0, ?_, ?_, ?_, fun q hq => ?_, fun q hq => ?_, fun q hq => ?_, fun q hq1 hq2 => ?_⟩
 ·show R.sh n (Bn r.2.2.S p.toNat (Du r.1).1) 0 (An (Bn r.2.2.S p.toNat (Du r.1).1 p.toNat)) /\ Sr (An (Bn r.2.2.S p.toNat (Du r.1).1 p.toNat)) = true
  rw [eS, eR];exact ⟨z3.2 x1, by rw [<- x5]; exact h3⟩
 ·show OkL X Y s.cl (p :: R.ps (Bn r.2.2.S p.toNat (Du r.1).1) 0 (An (Bn r.2.2.S p.toNat (Du r.1).1 p.toNat)))
  rw [eS, eR, z1, iF];exact ⟨⟨h1, h2⟩, x2⟩
 ·show r.2.2.cl = C3 s.cl (p :: R.ps (Bn r.2.2.S p.toNat (Du r.1).1) 0 (An (Bn r.2.2.S p.toNat (Du r.1).1 p.toNat)))
  rw [eS, eR, z1, O8];exact x3
 ·show Bi r.2.2.fm p.toNat q = true
  change q ∈ p :: R.tb (Bn r.2.2.S p.toNat (Du r.1).1) 0 (An (Bn r.2.2.S p.toNat (Du r.1).1 p.toNat)) at hq;rw [eS, eR, z2] at hq;rcases List.mem_cons.1 hq with h | h
  ·rw [h, hp]; exact F1 _ _
  ·exact Ff (x4 q h)
 ·exact x6 q (by rw [ha]; exact hq)
 ·exact x7 q (by rw [hb]; exact hq)
 ·show r.2.2.bk q = Hk (R.bl (Bn r.2.2.S p.toNat (Du r.1).1) 0 (An (Bn r.2.2.S p.toNat (Du r.1).1 p.toNat)) q)
  rw [eS, eR, z4];exact x8 q (by rw [ha]; exact hq1) (by rw [hb]; exact hq2)
def Gl (base : Int) : Dr := ⟨fun k => base + k, fun _ => aO⟩
def Ng (n : Int) : Dr := ⟨fun k => if k = 0 then 12 else 44, fun _ => eI n (Gl 12)⟩
def Dt (n : Int) : Dr := ⟨fun k => 44 + 32 * k, fun k => eI n (Gl (44 + 32 * k))⟩
def Nf (n : Int) : Dr := ⟨fun k => if k = 0 then 44 else 1068, fun _ => eI n (Dt n)⟩
theorem L1 (base : Int) (k : Nat) : Hg ((Gl base).F k) := gS
theorem P9 (n : Int) (k : Nat) : Hg ((Ng n).F k) := Vw n (L1 12)
theorem Qq (n : Int) (k : Nat) : Hg ((Dt n).F k) := Vw n (L1 _)
theorem Uy (n : Int) (k : Nat) : Hg ((Nf n).F k) := Vw n (Qq n)
theorem Zm {X Y : Int} (hY : 0 <= Y) (A : Nat -> List Int) (n base : Int) : Tn X Y A (Tj X Y n base) (Gl base) n 0 32 := by
 refine Qd hY (fun k => ?_) (fun k _ => ?_) (fun k => X8 hY A base k) (L1 base) (fun k _ => jK hY A base k) 0
 ·show base + (k : Int) <= base + ((k + 1 : Nat) : Int); omega
 ·show base + (k : Int) = _; omega
theorem nI {X Y : Int} (hY : 0 <= Y) (A : Nat -> List Int) (n : Int) : Tn X Y A (fE X Y n) (Dt n) n 0 32 := by
 refine Qd hY (fun k => ?_) (fun k _ => ?_) (fun k => Jy hY (Hl hY A n (44 + 32 * k))) (Qq n) (fun k _ => Sy hY (Zm hY A n (44 + 32 * k)) ?_ ?_) 0
 ·show 44 + 32 * (k : Int) <= 44 + 32 * ((k + 1 : Nat) : Int); omega
 ·rfl
 ·show 44 + 32 * (k : Int) + ((0 : Nat) : Int) = 44 + 32 * (k : Int); omega
 ·show 44 + 32 * (k : Int) + ((32 : Nat) : Int) = 44 + 32 * ((k + 1 : Nat) : Int); omega
theorem oF {X Y : Int} (hY : 0 <= Y) (A : Nat -> List Int) (n : Int) : Tn X Y A (dZ X Y n) (Ng n) n 0 1 := by
 refine Qd hY (fun k => ?_) (fun k hk => ?_) (fun k => Jy hY (Hl hY A n 12)) (P9 n) (fun k hk => ?_) 0
 ·show (if k = 0 then (12 : Int) else 44) <= (if k + 1 = 0 then (12 : Int) else 44)
  rw [if_neg (Nat.succ_ne_zero k)];split <;> omega
 ·obtain rfl : k = 0 := by omega
  rfl
 ·obtain rfl : k = 0 := by omega
  exact Sy hY (Zm hY A n 12) rfl rfl
theorem nL {X Y : Int} (hY : 0 <= Y) (A : Nat -> List Int) (n : Int) : Tn X Y A (fF X Y n) (Nf n) n 0 1 := by
 refine Qd hY (fun k => ?_) (fun k hk => ?_) (fun k => Jy hY (Yk hY A n)) (Uy n) (fun k hk => ?_) 0
 ·show (if k = 0 then (44 : Int) else 1068) <= (if k + 1 = 0 then (44 : Int) else 1068)
  rw [if_neg (Nat.succ_ne_zero k)];split <;> omega
 ·obtain rfl : k = 0 := by omega
  rfl
 ·obtain rfl : k = 0 := by omega
  exact Sy hY (nI hY A n) rfl rfl
theorem eK (S : Nat -> List Int) (i : Nat) : Bn S i (S i) = S := by
 funext j
 unfold Bn;split
 ·rename_i h; rw [h]
 ·rfl
def Dj (n : Int) (S : Nat -> List Int) (raw : List Int) : List Int := (Gl 0).ps S 0 (Me raw) ++ ((Ng n).ps S 0 [nth raw 16] ++ (Nf n).ps S 0 [nth raw 17])
def F5 (n : Int) (S : Nat -> List Int) (raw : List Int) : List Int := (Gl 0).tb S 0 (Me raw) ++ ((Ng n).tb S 0 [nth raw 16] ++ (Nf n).tb S 0 [nth raw 17])
def Hp (n : Int) (S : Nat -> List Int) (raw : List Int) : Prop := (Gl 0).sh n S 0 (Me raw) /\ (Ng n).sh n S 0 [nth raw 16] /\ (Nf n).sh n S 0 [nth raw 17]
def G7 (n : Int) (S : Nat -> List Int) (raw : List Int) (q : Int) : Int := if q < 12 then (Gl 0).bl S 0 (Me raw) q else if q < 44 then (Ng n).bl S 0 [nth raw 16] q else (Nf n).bl S 0 [nth raw 17] q
theorem U3 (n : Int) (S S' : Nat -> List Int) (raw : List Int) (h : ∀ q ∈ F5 n S raw, S' q.toNat = S q.toNat) : Dj n S' raw = Dj n S raw /\ F5 n S' raw = F5 n S raw /\ (Hp n S' raw ↔ Hp n S raw) /\ ∀ q, G7 n S' raw q = G7 n S raw q := by
 obtain ⟨a1, a2, a3, a4⟩ := Dr.st (L1 0) n S S' (Me raw) 0 (fun q hq => h q (List.mem_append_left _ hq));obtain ⟨b1, b2, b3, b4⟩ := Dr.st (P9 n) n S S' [nth raw 16] 0 (fun q hq => h q (List.mem_append_right _ (List.mem_append_left _ hq)));obtain ⟨c1, c2, c3, c4⟩ := Dr.st (Uy n) n S S' [nth raw 17] 0 (fun q hq => h q (List.mem_append_right _ (List.mem_append_right _ hq)));refine ⟨?_, ?_, ?_, fun q => ?_⟩
 ·unfold Dj; rw [a1, b1, c1]
 ·unfold F5; rw [a2, b2, c2]
 ·unfold Hp; rw [a3, b3, c3]
 ·unfold G7; rw [a4, b4, c4]
theorem J6 (n : Int) (S : Nat -> List Int) (raw : List Int) (q : Int) (h : q ∈ F5 n S raw) : q ∈ Dj n S raw := by
 unfold F5 at h;unfold Dj;rcases List.mem_append.1 h with h | h
 ·exact List.mem_append_left _ (Dr.tp (L1 0) S _ 0 q h)
 ·rcases List.mem_append.1 h with h | h
  ·exact List.mem_append_right _ (List.mem_append_left _ (Dr.tp (P9 n) S _ 0 q h))
  ·exact List.mem_append_right _ (List.mem_append_right _ (Dr.tp (Uy n) S _ 0 q h))
theorem Dr.grow {X Y : Int} (hY : 0 <= Y) {R : Dr} (hR : ∀ k, Hg (R.F k)) (n : Int) {s s2 : LS} (hg : Gr s s2) (hc : Qg s) {c : Int -> Bool} (ps : List Int) (k : Nat) (ho : OkL X Y c (R.ps s.S k ps)) (ht : ∀ q ∈ R.tb s.S k ps, s.fm q = true) :
  R.ps s2.S k ps = R.ps s.S k ps /\ R.tb s2.S k ps = R.tb s.S k ps /\ (R.sh n s2.S k ps ↔ R.sh n s.S k ps) /\ (∀ q, R.bl s2.S k ps q = R.bl s.S k ps q) /\ ∀ q ∈ R.tb s2.S k ps, s2.fm q = true := by
 have hd : ∀ q ∈ R.tb s.S k ps, isD X Y q = true := fun q hq => (ho.1 q (Dr.tp hR _ _ _ q hq)).1
 obtain ⟨a, b, c, d⟩ := Dr.st hR n s.S s2.S ps k (fun q hq => (U1 hY hg hc (hd q hq) (ht q hq)).2);refine ⟨a, b, c, d, fun q hq => ?_⟩;rw [b] at hq;exact (U1 hY hg hc (hd q hq) (ht q hq)).1
theorem kN {X Y : Int} (hY : 0 <= Y) (n : Int) {raw : List Int} (hr : raw.length = 18) (st : LS) : Me (Bd X Y n raw st).1 = (pA X Y n raw st).1 /\ [nth (Bd X Y n raw st).1 16] = (pB X Y n raw st).1 /\ [nth (Bd X Y n raw st).1 17] = (pC X Y n raw st).1 := by
 obtain ⟨-, q1, q2, q3, q4⟩ := Ij (X := X) hY n hr st;obtain ⟨l1, l2, l3⟩ := Rp (X := X) hY n hr st;have one : ∀ {l : List Int}, l.length = 1 -> [nth l 0] = l := by
  intro l hl;match l, hl with
  | [x], _ => rfl
 refine ⟨?_, ?_, ?_⟩
 ·apply List.ext_getElem?
  intro i;unfold Me;rw [List.getElem?_take];split
  ·rename_i hi
   rw [List.getElem?_drop, Am (by omega), q1 i hi, Am (by omega)]
  ·rename_i hi
   rw [List.getElem?_eq_none (by omega)]
 ·rw [q2]; exact one l2
 ·rw [q3]; exact one l3
theorem iK {X Y : Int} (hY : 0 <= Y) {A : Nat -> List Int} (n : Int) {raw : List Int} (hr : raw.length = 18) {st : LS} (h : SI X Y A st) (hb : ∀ q, st.bk q = none) :
  Hp n (Bd X Y n raw st).2.S (Bd X Y n raw st).1 /\ OkL X Y st.cl (Dj n (Bd X Y n raw st).2.S (Bd X Y n raw st).1) /\ (Bd X Y n raw st).2.cl = C3 st.cl (Dj n (Bd X Y n raw st).2.S (Bd X Y n raw st).1) /\
  (∀ q ∈ F5 n (Bd X Y n raw st).2.S (Bd X Y n raw st).1, (Bd X Y n raw st).2.fm q = true) /\ ∀ q, 0 <= q -> q < 1068 -> (Bd X Y n raw st).2.bk q = Hk (G7 n (Bd X Y n raw st).2.S (Bd X Y n raw st).1 q) := by
 obtain ⟨e1, e2, e3⟩ := kN (X := X) hY n hr st;obtain ⟨l1, l2, l3⟩ := Rp (X := X) hY n hr st;unfold Hp Dj F5 G7;rw [e1, e2, e3, Ve hY];simp only;have hd12 : ((raw.drop 4).take 12).length = 12 := by simp [hr]
 have iA := (Hl hY A n 0).inv ((raw.drop 4).take 12) st h;have gB := (M9 (X := X) hY A n).ok.grow [nth raw 16] (pA X Y n raw st).2.2;have iB := (M9 hY A n).inv [nth raw 16] (pA X Y n raw st).2.2 iA;have gC := (Oc (X := X) hY A n).ok.grow [nth raw 17] (pB X Y n raw st).2.2;obtain ⟨a1, a2, a3, a4, a5, a6, a7, a8⟩ := (Zm hY A n 0).all ((raw.drop 4).take 12) st (by rw [hd12]; decide) h (fun q _ => hb q);change (Gl 0).sh n (pA X Y n raw st).2.2.S 0 (pA X Y n raw st).1 at a1;change OkL X Y st.cl ((Gl 0).ps (pA X Y n raw st).2.2.S 0 (pA X Y n raw st).1) at a2;change (pA X Y n raw st).2.2.cl = C3 st.cl ((Gl 0).ps (pA X Y n raw st).2.2.S 0 (pA X Y n raw st).1) at a3;change ∀ q ∈ (Gl 0).tb (pA X Y n raw st).2.2.S 0 (pA X Y n raw st).1, (pA X Y n raw st).2.2.fm q = true at a4;change SI X Y A (pA X Y n raw st).2.2 at iA;rw [hd12] at a7 a8;obtain ⟨b1, b2, b3, b4, b5, b6, b7, b8⟩ := (oF hY A n).all [nth raw 16] (pA X Y n raw st).2.2 (Nat.le_refl 1) iA (fun q hq => a7 q hq);obtain ⟨c1, c2, c3, c4, c5, c6, c7, c8⟩ := (nL hY A n).all [nth raw 17] (pB X Y n raw st).2.2 (Nat.le_refl 1) iB (fun q hq => b7 q hq);change (Ng n).sh n (pB X Y n raw st).2.2.S 0 (pB X Y n raw st).1 at b1;change OkL X Y (pA X Y n raw st).2.2.cl ((Ng n).ps (pB X Y n raw st).2.2.S 0 (pB X Y n raw st).1) at b2;change (pB X Y n raw st).2.2.cl = C3 (pA X Y n raw st).2.2.cl ((Ng n).ps (pB X Y n raw st).2.2.S 0 (pB X Y n raw st).1) at b3;change ∀ q ∈ (Ng n).tb (pB X Y n raw st).2.2.S 0 (pB X Y n raw st).1, (pB X Y n raw st).2.2.fm q = true at b4;change SI X Y A (pB X Y n raw st).2.2 at iB;change (Nf n).sh n (pC X Y n raw st).2.2.S 0 (pC X Y n raw st).1 at c1;change OkL X Y (pB X Y n raw st).2.2.cl ((Nf n).ps (pC X Y n raw st).2.2.S 0 (pC X Y n raw st).1) at c2;change (pC X Y n raw st).2.2.cl = C3 (pB X Y n raw st).2.2.cl ((Nf n).ps (pC X Y n raw st).2.2.S 0 (pC X Y n raw st).1) at c3;change ∀ q ∈ (Nf n).tb (pC X Y n raw st).2.2.S 0 (pC X Y n raw st).1, (pC X Y n raw st).2.2.fm q = true at c4;change Gr (pA X Y n raw st).2.2 (pB X Y n raw st).2.2 at gB;change Gr (pB X Y n raw st).2.2 (pC X Y n raw st).2.2 at gC;obtain ⟨u1, u2, u3, u4, u5⟩ := Dr.grow hY (L1 0) n (gB.trans gC) iA.fc _ _ a2 a4;obtain ⟨v1, v2, v3, v4, v5⟩ := Dr.grow hY (P9 n) n gC iB.fc _ _ b2 b4;change ∀ q, q < 12 -> (pB X Y n raw st).2.2.bk q = (pA X Y n raw st).2.2.bk q at b6;change ∀ q, q < 44 -> (pC X Y n raw st).2.2.bk q = (pB X Y n raw st).2.2.bk q at c6;change ∀ q, 0 <= q -> q < 12 -> (pA X Y n raw st).2.2.bk q = Hk ((Gl 0).bl (pA X Y n raw st).2.2.S 0 (pA X Y n raw st).1 q) at a8;change ∀ q, 12 <= q -> q < 44 -> (pB X Y n raw st).2.2.bk q = Hk ((Ng n).bl (pB X Y n raw st).2.2.S 0 (pB X Y n raw st).1 q) at b8;change ∀ q, 44 <= q -> q < 1068 -> (pC X Y n raw st).2.2.bk q = Hk ((Nf n).bl (pC X Y n raw st).2.2.S 0 (pC X Y n raw st).1 q) at c8;refine ⟨⟨u3.2 a1, v3.2 b1, c1⟩, ?_, ?_, fun q hq => ?_, fun q h0 h9 => ?_⟩
 ·rw [Qb, Qb, u1, v1, <- a3, <- b3];exact ⟨a2, b2, c2⟩
 ·rw [Mw, Mw, u1, v1, <- a3, <- b3];exact c3
 ·rcases List.mem_append.1 hq with hq | hq
  ·exact u5 q hq
  ·rcases List.mem_append.1 hq with hq | hq
   ·exact v5 q hq
   ·exact c4 q hq
 ·by_cases h12 : q < 12
  ·rw [if_pos h12, c6 q (by omega), b6 q h12, a8 q h0 h12, u4]
  ·rw [if_neg h12];by_cases h44 : q < 44
   ·rw [if_pos h44, c6 q h44, b8 q (by omega) h44, v4]
   ·rw [if_neg h44];exact c8 q (by omega) h9
theorem Vi (base : Int) (S : Nat -> List Int) : ∀ (ps : List Int) (k : Nat) (q : Int), base + k <= q -> (Gl base).bl S k ps q = nth ps (q - base - k).toNat
 | [], k, q, h => by
  show (0 : Int) = _
  unfold nth; simp
 | p :: r, k, q, h => by
  show (if q < base + ((k + 1 : Nat) : Int) then (if p = 0 then 0 else p) else (Gl base).bl S (k + 1) r q) = _
  by_cases hq : q < base + ((k + 1 : Nat) : Int)
  ·rw [if_pos hq, show (q - base - k).toNat = 0 by omega, On];split
   ·rename_i e; exact e.symm
   ·rfl
  ·rw [if_neg hq, Vi base S r (k + 1) q (by omega), show (q - base - k).toNat = (q - base - ((k + 1 : Nat) : Int)).toNat + 1 by omega, Oo]
theorem Tt (n : Int) (S : Nat -> List Int) : ∀ (ps : List Int) (k : Nat) (q : Int), 44 + 32 * (k : Int) <= q -> (Dt n).bl S k ps q = Jp S (nth ps (((q - 44) / 32) - k).toNat) ((q - 44) % 32).toNat
 | [], k, q, h => by
  show (0 : Int) = _
  unfold Jp;rw [if_pos (by unfold nth; simp)]
 | p :: r, k, q, h => by
  show (if q < 44 + 32 * ((k + 1 : Nat) : Int) then (if p = 0 then 0 else (Gl (44 + 32 * (k : Int))).bl S 0 (An (S p.toNat)) q) else (Dt n).bl S (k + 1) r q) = _
  by_cases hq : q < 44 + 32 * ((k + 1 : Nat) : Int)
  ·rw [if_pos hq, show (((q - 44) / 32) - k).toNat = 0 by omega, On];unfold Jp;split
   ·rfl
   ·rw [Vi _ S _ 0 q (by omega)];congr 1
    omega
  ·rw [if_neg hq, Tt n S r (k + 1) q (by omega), show (((q - 44) / 32) - k).toNat = (((q - 44) / 32) - ((k + 1 : Nat) : Int)).toNat + 1 by omega, Oo]
theorem Wa {raw : List Int} (hr : raw.length = 18) {k : Nat} (hk : k < 12) : nth (Me raw) k = nth raw (4 + k) := by
 unfold Me nth;rw [List.getElem?_take, if_pos hk, List.getElem?_drop]
theorem Ih (n : Int) (S : Nat -> List Int) {raw : List Int} (hr : raw.length = 18) (k : Nat) (hk : k < 1068) : G7 n S raw k = Dw S raw k := by
 unfold G7 Dw;by_cases h12 : k < 12
 ·rw [if_pos (show (k : Int) < 12 by omega), if_pos h12, Vi 0 S _ 0 k (by omega), show ((k : Int) - 0 - ((0 : Nat) : Int)).toNat = k by omega, Wa hr h12]
 ·rw [if_neg (show ¬ (k : Int) < 12 by omega), if_neg h12];by_cases h44 : k < 44
  ·rw [if_pos (show (k : Int) < 44 by omega), if_pos h44];show (if (k : Int) < 44 then (if nth raw 16 = 0 then 0 else (Gl 12).bl S 0 (An (S (nth raw 16).toNat)) k) else 0) = _
   rw [if_pos (by omega)];unfold Jp;split
   ·rfl
   ·rw [Vi 12 S _ 0 k (by omega)];congr 1
    omega
  ·rw [if_neg (show ¬ (k : Int) < 44 by omega), if_neg h44];show (if (k : Int) < 1068 then (if nth raw 17 = 0 then 0 else (Dt n).bl S 0 (An (S (nth raw 17).toNat)) k) else 0) = _
   rw [if_pos (by omega)];by_cases h17 : nth raw 17 = 0
   ·rw [if_pos h17, if_pos h17];unfold Jp;rw [if_pos rfl]
   ·rw [if_neg h17, if_neg h17, Tt n S _ 0 k (by omega)];have e1 : ((((k : Int) - 44) / 32) - ((0 : Nat) : Int)).toNat = (k - 44) / 32 := by omega
    have e2 : (((k : Int) - 44) % 32).toNat = (k - 44) % 32 := by omega
    rw [e1, e2]
def eW (f : bL) : Prop := ∀ S p q, f.bl S p q = 0 \/ f.bl S p q ∈ f.ps S p
theorem Dr.blin {R : Dr} (hR : ∀ k, eW (R.F k)) (S : Nat -> List Int) : ∀ (ps : List Int) (k : Nat) (q : Int), R.bl S k ps q = 0 \/ R.bl S k ps q ∈ R.ps S k ps
 | [], _, _ => .inl rfl
 | p :: r, k, q => by
  show (if q < R.lo (k + 1) then (if p = 0 then 0 else (R.F k).bl S p q) else R.bl S (k + 1) r q) = 0 \/ (if q < R.lo (k + 1) then (if p = 0 then 0 else (R.F k).bl S p q) else R.bl S (k + 1) r q) ∈ (if p = 0 then [] else (R.F k).ps S p) ++ R.ps S (k + 1) r
  split
  ·split
   ·exact .inl rfl
   ·rcases hR k S p q with h | h
    ·exact .inl h
    ·exact .inr (List.mem_append_left _ h)
  ·rcases Dr.blin hR S r (k + 1) q with h | h
   ·exact .inl h
   ·exact .inr (List.mem_append_right _ h)
theorem Oi : eW aO := fun _ p _ => .inr (List.mem_singleton.2 rfl)
theorem Sw (n : Int) {R : Dr} (hR : ∀ k, eW (R.F k)) : eW (eI n R) := fun S p q => by
 rcases Dr.blin hR S (An (S p.toNat)) 0 q with h | h
 ·exact .inl h
 ·exact .inr (List.mem_cons_of_mem _ h)
theorem gN (n : Int) (S : Nat -> List Int) (raw : List Int) (q : Int) : G7 n S raw q = 0 \/ G7 n S raw q ∈ Dj n S raw := by
 unfold G7 Dj;have hd : ∀ k, eW ((Dt n).F k) := fun k => Sw n (fun _ => Oi)
 split
 ·rcases Dr.blin (R := Gl 0) (fun _ => Oi) S (Me raw) 0 q with h | h
  ·exact .inl h
  ·exact .inr (List.mem_append_left _ h)
 ·split
  ·rcases Dr.blin (R := Ng n) (fun _ => Sw n (fun _ => Oi)) S [nth raw 16] 0 q with h | h
   ·exact .inl h
   ·exact .inr (List.mem_append_right _ (List.mem_append_left _ h))
  ·rcases Dr.blin (R := Nf n) (fun _ => Sw n hd) S [nth raw 17] 0 q with h | h
   ·exact .inl h
   ·exact .inr (List.mem_append_right _ (List.mem_append_right _ h))
theorem Uq {X Y n : Int} {N : Nat} {S : Nat -> List Int} {raw : List Int} (hY : 0 <= Y) (hX : X = N) (hN : 0 < N) (hr : raw.length = 18) (ho : ∀ p ∈ Dj n S raw, isD X Y p = true) : Up N S raw /\ ∀ k : Nat, k < 1068 -> 0 <= Dw S raw k /\ Dw S raw k < N := by
 have hd : ∀ p ∈ Dj n S raw, 0 <= p /\ p < N := fun p hp => by
  have := ho p hp;unfold isD at this;have := of_decide_eq_true this;omega
 have z : ∀ p : Int, (p = 0 \/ p ∈ Dj n S raw) -> 0 <= p /\ p < N := fun p h => by
  rcases h with rfl | h
  ·omega
  ·exact hd p h
 have h16 : nth raw 16 = 0 \/ nth raw 16 ∈ Dj n S raw := by
  by_cases h : nth raw 16 = 0
  ·exact .inl h
  ·right
   unfold Dj;refine List.mem_append_right _ (List.mem_append_left _ ?_);show _ ∈ (if nth raw 16 = 0 then [] else nth raw 16 :: _) ++ []
   rw [if_neg h];exact List.mem_append_left _ (List.mem_cons_self ..)
 have h17 : nth raw 17 = 0 \/ nth raw 17 ∈ Dj n S raw := by
  by_cases h : nth raw 17 = 0
  ·exact .inl h
  ·right
   unfold Dj;refine List.mem_append_right _ (List.mem_append_right _ ?_);show _ ∈ (if nth raw 17 = 0 then [] else nth raw 17 :: _) ++ []
   rw [if_neg h];exact List.mem_append_left _ (List.mem_cons_self ..)
 have mem : ∀ (l : List Int) (k : Nat) (p : Int), p ∈ l -> p ≠ 0 -> p ∈ (Dt n).ps S k l := by
  intro l;induction l with
  | nil => intro k p h; cases h
  | cons a r ih =>
   intro k p h h0;show p ∈ (if a = 0 then [] else a :: _) ++ _
   rcases List.mem_cons.1 h with e | h
   ·subst e;rw [if_neg h0];exact List.mem_append_left _ (List.mem_cons_self ..)
   ·exact List.mem_append_right _ (ih (k + 1) p h h0)
 refine ⟨⟨hr, z _ h16, z _ h17, fun h p hp => ?_⟩, fun k hk => ?_⟩
 ·refine (z p ?_).2;by_cases hp0 : p = 0
  ·exact .inl hp0
  ·right
   unfold Dj;refine List.mem_append_right _ (List.mem_append_right _ ?_);show _ ∈ (if nth raw 17 = 0 then [] else nth raw 17 :: (Dt n).ps S 0 (An (S (nth raw 17).toNat))) ++ []
   rw [if_neg h];exact List.mem_append_left _ (List.mem_cons_of_mem _ (mem _ 0 p hp hp0))
 ·rw [<- Ih n S hr k hk];exact z _ (gN n S raw k)
noncomputable def wI (S : Nat -> List Int) (i : Nat) : List Int := if i = 0 then zl 18 else (Al (S i)).1
theorem jN (S : Nat -> List Int) {i : Nat} (h : 1 <= i) : wI S i = (Al (S i)).1 := if_neg (by omega)
theorem Kz.put {w : World} {g M : Nat} {I I' : Nat -> List Int} {cs : Array Value} (h : hat w g = some (.cells cs 45)) (hs : cs.size = M * 18) (hx : ∀ i, i < M -> (I i).length = 18 /\ cs.extract (i * 18) (i * 18 + 18) = IV .i64 (I i)) {i : Nat} (hi : i < M) {raw : List Int} (hr : raw.length = 18) (hI : ∀ j, j < M -> I' j = if j = i then raw else I j) :
  Kz (w.setRow g (Ak cs (i * 18) (IV .i64 raw))) g M I' := by
 have hz : (IV .i64 raw).size = 18 := by simp [hr]
 refine ⟨_, Aq _ _ _ _ _ _ h, by rw [Hb _ _ _ (by omega)]; exact hs, fun j hj => ?_⟩;obtain ⟨hl, he⟩ := hx j hj;rw [hI j hj];by_cases hji : j = i
 ·subst hji;rw [if_pos rfl];refine ⟨hr, ?_⟩;apply Array.ext_getElem?
  intro k;unfold Ak;rw [Array.getElem?_extract];simp only [List.size_toArray, List.getElem?_toArray];by_cases hk : k < 18
  ·have hlen : (cs.toList.take (j * 18) ++ (IV .i64 raw).toList ++ cs.toList.drop (j * 18 + (IV .i64 raw).size)).length = cs.size := by simp [hr]; omega
   rw [hlen, if_pos (by omega), List.getElem?_append_left (by simp [hr]; omega), List.getElem?_append_right (by simp; omega)];simp only [List.length_take, Array.length_toList, Nat.min_eq_left (show j * 18 <= cs.size by omega), Nat.add_sub_cancel_left, Array.getElem?_toList]
  ·rw [if_neg (by simp [hr]; omega), Bh, List.getElem?_eq_none (by omega)]; rfl
 ·rw [if_neg hji];refine ⟨hl, ?_⟩;rw [<- he];apply Array.ext_getElem?
  intro k;unfold Ak;rw [Array.getElem?_extract, Array.getElem?_extract];simp only [List.size_toArray, List.getElem?_toArray];have hlen : (cs.toList.take (i * 18) ++ (IV .i64 raw).toList ++ cs.toList.drop (i * 18 + (IV .i64 raw).size)).length = cs.size := by simp [hr]; omega
  rw [hlen];split
  ·rename_i hk
   rcases Nat.lt_or_ge j i with hlt | hge
   ·rw [List.append_assoc, List.getElem?_append_left (by simp; omega), List.getElem?_take, if_pos (by omega), Array.getElem?_toList]
   ·rw [List.getElem?_append_right (by simp [hr]; omega), List.getElem?_drop, Array.getElem?_toList];congr 1
    simp [hr]; omega
  ·rfl
section
variable {P : Program} {ops : Array Oper} {N : Nat} {Q : Exit -> Act -> World -> Prop}
theorem N6 {id : Nat} {a : Act} {w : World} (hm : P.follows .mixedOrders = true) (N : Nat) (hok : Fu ops N = true)
  (hsz : (C9 (ops.toList.take N)).all (· < a.tmps.size) = true)
  (I : World -> Prop) (E : World -> World -> Prop) (G : Nat -> Value -> World -> Prop) (H : Nat -> World -> Prop)
  (h0 : I w.drew)
  (hE : ∀ i v w w', i < N -> I w -> I w' -> E w w' -> G i v w -> G i v w')
  (hH : ∀ i w w', i < N -> I w -> I w' -> E w w' -> H i w -> H i w')
  (hs : ∀ i o, i < N -> ops[i]? = some o -> ∀ a' w', I w' -> Fv ops N a a' ->
   (∀ j ∈ Oper.needs o, ∀ oj d, ops[j]? = some oj -> oj.dst = some d -> G j (gt a' d) w') -> (∀ j ∈ Oper.needs o, j < N -> H j w') ->
   wpOp P ops Q i (fun a'' w'' => ∃ v, a'' = a'.put o.dst v /\ I w'' /\ E w' w'' /\ G i v w'' /\ H i w'') a' w')
  (he : ∀ a' w', I w' -> Fv ops N a a' -> (∀ j oj d, j < N -> ops[j]? = some oj -> oj.dst = some d -> G j (gt a' d) w') -> (∀ j, j < N -> H j w') ->
   wpList P ops Q (ops.toList.drop N) a' w') :
  (Code.region id ops true).wp P Q a w := by
 obtain ⟨hb, ht, hNs, hnd⟩ := Gz hok;refine wp_region_any hm ?_
 have key : ∀ (fuel : Nat) (L : Array Bool) (a' : Act) (w' : World), L.size = ops.size -> Fy L <= fuel -> (∀ j, N <= j -> j < ops.size -> L.getD j true = false) ->
   I w' -> Fv ops N a a' -> (∀ j oj d, j < N -> L.getD j true = true -> ops[j]? = some oj -> oj.dst = some d -> G j (gt a' d) w') -> (∀ j, j < N -> L.getD j true = true -> H j w') -> wpAny P .any ops Q fuel L a' w' := by
  intro fuel;induction fuel with
  | zero =>
   intro L a' w' hL hf htl hI hS hG hHH;have hall : ∀ j, j < ops.size -> L.getD j true = true := by
    intro j hj;cases hv : L.getD j true with
    | true => rfl
    | false => have := E0 hv; omega
   have hN : N = ops.size := by
    by_cases h : N < ops.size
    ·have := htl N (Nat.le_refl _) h;rw [hall N h] at this; simp at this
    ·omega
   refine Gv hok 0 N L a' w' (Nat.le_refl _) (by omega) (by omega) hL (fun j hj => by rw [hall j hj]; simp; omega) ?_;exact he a' w' hI hS (fun j oj d hj ho hd => hG j oj d hj (hall j (by omega)) ho hd) (fun j hj => hHH j hj (hall j (by omega)))
  | succ fuel ih =>
   intro L a' w' hL hf htl hI hS hG hHH;by_cases hall : ∀ j, j < N -> L.getD j true = true
   ·refine Gv hok (fuel + 1) N L a' w' (Nat.le_refl _) hNs ?_ hL ?_ (he a' w' hI hS (fun j oj d hj ho hd => hG j oj d hj (hall j hj) ho hd) (fun j hj => hHH j hj (hall j hj)))
    ·
     have : ∀ (n : Nat) (l : List Bool), (∀ j, n <= j -> j < l.length -> l[j]? = some false) -> l.length - n <= l.countP (· == false) := by
      intro n;induction n with
      | zero =>
       intro l;induction l with
       | nil => intro _; simp
       | cons b l ihl =>
        intro h;have h0 := h 0 (Nat.le_refl _) (by simp);simp at h0;subst h0;have := ihl (fun j _ hj => by have := h (j + 1) (by omega) (by simp; omega); simpa using this);simp at this ⊢;omega
      | succ n ihn =>
       intro l;cases l with
       | nil => intro _; simp
       | cons b l =>
        intro h;have := ihn l (fun j hj hjl => by have := h (j + 1) (by omega) (by simp; omega); simpa using this);simp [List.countP_cons] at this ⊢;omega
     have h2 := this N L.toList (fun j hj hjl => by
      have hjs : j < L.size := by simpa using hjl
      have := htl j hj (by omega);simp [hjs] at this ⊢;exact this)
     unfold Fy at hf;simp at h2;simp at hf;omega
    ·intro j hj;by_cases hjN : j < N
     ·rw [hall j hjN]; simp [hjN]
     ·rw [htl j (by omega) hj]; simp [hjN]
   ·refine ⟨?_, ?_⟩
    ·intro hr;exfalso
     have hex : ∃ j, j < N /\ L.getD j true = false := by
      false_or_by_contra
      rename_i hne
      apply hall
      intro j hj;cases hv : L.getD j true with
      | true => rfl
      | false => exact (hne ⟨j, hj, hv⟩).elim
     have least : ∀ n, (∃ j, j < n /\ j < N /\ L.getD j true = false) -> ∃ j, j < N /\ L.getD j true = false /\ ∀ k, k < j -> L.getD k true = true := by
      intro n;induction n with
      | zero => rintro ⟨j, hj, _⟩; omega
      | succ n ihn =>
       rintro ⟨j, hj, hjN, hv⟩;by_cases hlow : ∃ k, k < j /\ L.getD k true = false
       ·obtain ⟨k, hk, hkv⟩ := hlow;exact ihn ⟨k, by omega, by omega, hkv⟩
       ·refine ⟨j, hjN, hv, fun k hk => ?_⟩;cases hkv : L.getD k true with
        | true => rfl
        | false => exact (hlow ⟨k, hk, hkv⟩).elim
     obtain ⟨j0, hj0, hv0⟩ := hex;obtain ⟨j, hjN, hv, hlow⟩ := least (j0 + 1) ⟨j0, by omega, hj0, hv0⟩;have hlt : j < ops.size := by omega
     have : j ∈ Region.ready .any ops L := by
      refine Jt (o := ops[j]) (by simp [hlt]) hv ?_;intro k hk;have hkj := hb j ops[j] (by simp [hlt]) k hk;have h3 := hlow k hkj;have hks : k < L.size := by omega
      simp [hks] at h3 ⊢;exact h3
     rw [hr] at this; simp at this
    ·intro i hi;obtain ⟨o, ho, h1, h2⟩ := F7 hL hi;have hlt : i < ops.size := (Array.getElem?_eq_some_iff.1 ho).1;have hiN : i < N := by
      by_cases h : i < N
      ·exact h
      ·exfalso
       apply hall
       intro j hj;have := h2 j (ht i o ho (by omega) j (by omega));have hjs : j < L.size := by omega
       simp [hjs] at this ⊢;exact this
     refine wpOp_mono ?_ (hs i o hiN ho a' w' hI hS ?_ ?_)
     ·rintro a'' w'' ⟨v, rfl, hI', hE', hGi, hHi⟩;have hidst : ∀ d, o.dst = some d -> d ∈ C9 (ops.toList.take N) := by
       intro d hd;unfold C9;refine List.mem_filterMap.2 ⟨o, ?_, hd⟩;have hv := (Array.getElem?_eq_some_iff.1 ho).2;rw [List.mem_take_iff_getElem];exact ⟨i, by simp; omega, by simpa using hv⟩
      refine ih _ _ _ (by simpa using hL) (by have := E0 h1; omega) ?_ hI' ?_ ?_ ?_
      ·intro j hj hjs;have := htl j hj hjs;have hjs' : j < L.size := by omega
       simp [hjs', Array.getElem_setIfInBounds, show i ≠ j by omega] at this ⊢;exact this
      ·refine ⟨by rw [Jx]; exact hS.size, by rw [If]; exact hS.defers, ?_⟩;intro t ht';rw [Fh]
       ·exact hS.other t ht'
       ·intro e; exact ht' (hidst t e)
      ·intro j oj d hj hjL hoj hd;by_cases hji : j = i
       ·subst hji;rw [ho] at hoj;have hoe : o = oj := by simpa using hoj
        subst hoe;rw [hd, Jo _ _ _ (by rw [hS.size]; simpa using (List.all_eq_true.1 hsz) d (hidst d hd))];exact hGi
       ·have hjs' : j < L.size := by omega
        have hjL' : L.getD j true = true := by
         simp [hjs', Array.getElem_setIfInBounds, Ne.symm hji] at hjL ⊢;exact hjL
        have hg := hG j oj d hj hjL' hoj hd;rw [Fh]
        ·exact hE j _ _ _ hj hI hI' hE' hg
        ·intro e;have hne : ∀ (l : List Oper), (C9 l).Nodup -> ∀ (i j : Nat) (oi oj : Oper) (d : Nat), l[i]? = some oi -> l[j]? = some oj -> oi.dst = some d -> oj.dst = some d -> i = j := by
          intro l;induction l with
          | nil => intro _ i j oi oj d hi; simp at hi
          | cons x l ihl =>
           intro hnd i j oi oj d hi hj hdi hdj;have hnd' : (C9 l).Nodup := by
            unfold C9 at hnd ⊢;rw [List.filterMap_cons] at hnd;split at hnd
            ·exact hnd
            ·exact (List.nodup_cons.1 hnd).2
           have hx : ∀ (j : Nat) (oj : Oper), l[j]? = some oj -> oj.dst = some d -> x.dst ≠ some d := by
            intro j oj hj hdj hxd;unfold C9 at hnd;rw [List.filterMap_cons, hxd] at hnd;have := (List.nodup_cons.1 hnd).1;apply this
            exact List.mem_filterMap.2 ⟨oj, List.mem_of_getElem? hj, hdj⟩
           cases i with
           | zero =>
            simp at hi;subst hi;cases j with
            | zero => rfl
            | succ j => simp at hj; exact (hx j oj hj hdj hdi).elim
           | succ i =>
            simp at hi;cases j with
            | zero => simp at hj; subst hj; exact (hx i oi hi hdi hdj).elim
            | succ j => simp at hj; rw [ihl hnd' i j oi oj d hi hj hdi hdj]
         have := hne (ops.toList.take N) hnd i j o oj d (by simp [List.getElem?_take, hiN, ho]) (by simp [List.getElem?_take, hj, hoj]) e hd;exact hji this.symm
      ·intro j hj hjL;by_cases hji : j = i
       ·subst hji; exact hHi
       ·have hjs' : j < L.size := by omega
        have hjL' : L.getD j true = true := by
         simp [hjs', Array.getElem_setIfInBounds, Ne.symm hji] at hjL ⊢;exact hjL
        exact hH j _ _ hj hI hI' hE' (hHH j hj hjL')
     ·intro j hj oj d hoj hd;have hjL := h2 j hj;have hji := hb i o ho j hj;have hjs : j < L.size := by omega
      exact hG j oj d (by omega) (by simp [hjs] at hjL ⊢; exact hjL) hoj hd
     ·intro j hj hjN;have hjL := h2 j hj;have hjs : j < L.size := by omega
      exact hHH j hjN (by simp [hjs] at hjL ⊢; exact hjL)
 refine key ops.size (Array.replicate ops.size false) a { w with drawn := w.drawn + 1 } (by simp) ?_ ?_ h0 ⟨rfl, rfl, fun _ _ => rfl⟩ ?_ ?_
 ·have := List.countP_le_length (p := (· == false)) (l := (Array.replicate ops.size false).toList);unfold Fy; simpa using this
 ·intro j _ hj; simp [hj]
 ·intro j oj d hj hjL;simp [show j < ops.size by omega] at hjL
 ·intro j hj hjL;simp [show j < ops.size by omega] at hjL
theorem Vy {id : Nat} {a : Act} {w : World} (hm : P.follows .mixedOrders = true) (N : Nat) (hok : Fu ops N = true)
  (hsz : (C9 (ops.toList.take N)).all (· < a.tmps.size) = true)
  (I : World -> Prop) (E : World -> World -> Prop) (G : Nat -> Value -> World -> Prop) (H : Nat -> World -> Prop)
  (h0 : I w.drew)
  (hE : ∀ i v w w', i < N -> I w -> I w' -> E w w' -> G i v w -> G i v w')
  (hH : ∀ i w w', i < N -> I w -> I w' -> E w w' -> H i w -> H i w')
  (hs : ∀ i o, i < N -> ops[i]? = some o -> ∀ a' w', I w' -> (∀ t, t ∉ C9 (ops.toList.take N) -> gt a' t = gt a t) ->
   (∀ j ∈ Oper.needs o, ∀ oj d, ops[j]? = some oj -> oj.dst = some d -> G j (gt a' d) w') -> (∀ j ∈ Oper.needs o, j < N -> H j w') ->
   wpOp P ops Q i (fun a'' w'' => ∃ v, a'' = a'.put o.dst v /\ I w'' /\ E w' w'' /\ G i v w'' /\ H i w'') a' w')
  (he : ∀ val w', I w' -> (∀ j oj d, j < N -> ops[j]? = some oj -> oj.dst = some d -> G j (val j) w') -> (∀ j, j < N -> H j w') ->
   wpList P ops Q (ops.toList.drop N) (Bg (ops.toList.take N) 0 val a) w') :
  (Code.region id ops true).wp P Q a w := by
 refine N6 hm N hok hsz I E G H h0 hE hH (fun i o hi ho a' w' hI hS hF hFH => hs i o hi ho a' w' hI hS.other hF hFH) ?_;intro a' w' hI hS hF hFH;let val : Nat -> Value := fun j => match ops[j]? with | some oj => (match oj.dst with | some d => gt a' d | none => undef) | none => undef
 have hval : ∀ j oj d, ops[j]? = some oj -> oj.dst = some d -> val j = gt a' d := by
  intro j oj d hj hd;simp only [val, hj, hd]
 have hw := he val w' hI (fun j oj d hj ho hd => by rw [hval j oj d ho hd]; exact hF j oj d hj ho hd) hFH;have hae : a' = Bg (ops.toList.take N) 0 val a := by
  refine P7 (by rw [I6]; exact hS.size) (by rw [Gy]; exact hS.defers) (fun t ht => ?_);rw [L8 (ops.toList.take N) 0 val a a' t (by rw [<- hS.size]; exact ht) (fun j oj d hj hd => by
   rw [Nat.zero_add];refine hval j oj d ?_ hd;rw [List.getElem?_take] at hj;split at hj
   ·simpa using hj
   ·simp at hj)]
  split
  ·rfl
  ·rename_i h; exact hS.other t h
 rw [hae];exact hw
end
theorem Zz {a b : ByteArray} (h : a.toList = b.toList) : a = b := by
 rw [Lib.toList_data, Lib.toList_data] at h;cases a; cases b;congr 1
 exact Array.toList_inj.1 h
structure NR (S I : Nat -> List Int) (M i : Nat) (l : List Ent) (k : Nat) (rch0 rch : Int -> Bool) (mo : Bool) : Prop where
 one : rch 1 = true
 low : ∀ P : Nat -> Prop, P 1 -> nE (cA S I M) P -> ∀ j : Nat, j < M -> rch j = true -> P j
 dn : ∀ i', 1 <= i' -> i' < i -> nK S I M i'
 ok : Z4 I M (l.take k)
 un : unr M rch <= unr M rch0 /\ (mo = true -> unr M rch < unr M rch0)
 cl : mo = false -> rch = rch0 /\ (∀ i', i' < i -> rch (i' : Int) = true -> ∀ e ∈ cA S I M i', rch e.1 = true) /\ (rch (i : Int) = true -> ∀ e ∈ l.take k, rch e.1 = true)
theorem NR.skip {S I : Nat -> List Int} {M i : Nat} {rch0 rch : Int -> Bool} {mo : Bool} (h : NR S I M i [] 0 rch0 rch mo) (hk : nth (I i) 0 ≠ 2) : NR S I M (i + 1) [] 0 rch0 rch mo := by
 refine ⟨h.one, h.low, fun i' a b => ?_, h.ok, h.un, fun hm => ⟨(h.cl hm).1, fun i' hi' hr e he => ?_, fun _ e he => (by cases he)⟩⟩
 ·by_cases e : i' = i
  ·subst e; exact fun h2 => absurd h2 hk
  ·exact h.dn i' a (by omega)
 ·by_cases e2 : i' = i
  ·subst e2; rw [kR hk] at he; cases he
  ·exact (h.cl hm).2.1 i' (by omega) hr e he
theorem NR.into {S I : Nat -> List Int} {M i : Nat} {rch0 rch : Int -> Bool} {mo : Bool} (h : NR S I M i [] 0 rch0 rch mo) (l : List Ent) : NR S I M i l 0 rch0 rch mo :=
 ⟨h.one, h.low, h.dn, ⟨fun e he => (by cases he), List.nodup_nil⟩, h.un, fun hm => ⟨(h.cl hm).1, (h.cl hm).2.1, fun _ e he => (by cases he)⟩⟩
theorem NR.over {S I : Nat -> List Int} {M i : Nat} {l : List Ent} {rch0 rch : Int -> Bool} {mo : Bool} (h : NR S I M i l l.length rch0 rch mo) (h1 : 1 <= i) (h2 : i < M) (hk : nth (I i) 0 = 2) (hs : Cz S (V6 S (I i)) [] = some l) : NR S I M (i + 1) [] 0 rch0 rch mo := by
 have hok := h.ok;rw [List.take_of_length_le (Nat.le_refl _)] at hok;refine ⟨h.one, h.low, fun i' a b => ?_, ⟨fun e he => (by cases he), List.nodup_nil⟩, h.un, fun hm => ⟨(h.cl hm).1, fun i' hi' hr e he => ?_, fun _ e he => (by cases he)⟩⟩
 ·by_cases e : i' = i
  ·subst e; exact fun _ => ⟨l, hs, hok⟩
  ·exact h.dn i' a (by omega)
 ·by_cases e2 : i' = i
  ·subst e2;rw [We h1 h2 hk hs] at he;have := (h.cl hm).2.2 hr;rw [List.take_of_length_le (Nat.le_refl _)] at this;exact this e he
  ·exact (h.cl hm).2.1 i' (by omega) hr e he
theorem hU {l : List Ent} {k : Nat} {e e0 : Ent} (hk : l[k]? = some e0) (h : e ∈ l.take (k + 1)) : e ∈ l.take k \/ e = e0 := by
 rw [List.take_add_one, hk] at h;rcases List.mem_append.1 h with h | h
 ·exact .inl h
 ·simp at h; exact .inr h
theorem NR.same {S I : Nat -> List Int} {M i : Nat} {l : List Ent} {k : Nat} {rch0 rch : Int -> Bool} {mo : Bool} (h : NR S I M i l k rch0 rch mo) {x : Nat} {nm : ByteArray} (hk : l[k]? = some ((x : Int), nm)) (hok : Z4 I M (l.take (k + 1))) (hr : rch (i : Int) = true -> rch (x : Int) = true) : NR S I M i l (k + 1) rch0 rch mo :=
 ⟨h.one, h.low, h.dn, hok, h.un, fun hm => ⟨(h.cl hm).1, (h.cl hm).2.1, fun hi e he => by
  rcases hU hk he with he | rfl
  ·exact (h.cl hm).2.2 hi e he
  ·exact hr hi⟩⟩
theorem NR.more {S I : Nat -> List Int} {M i : Nat} {l : List Ent} {k : Nat} {rch0 rch : Int -> Bool} {mo : Bool} (h : NR S I M i l k rch0 rch mo) {x : Nat} {nm : ByteArray} (hk : l[k]? = some ((x : Int), nm)) (hok : Z4 I M (l.take (k + 1))) (h1 : 1 <= i) (h2 : i < M) (hx : x < M) (hd : nth (I i) 0 = 2) (hs : Cz S (V6 S (I i)) [] = some l)
  (hi : rch (i : Int) = true) (hn : rch (x : Int) = false) : NR S I M i l (k + 1) rch0 (Bi rch x) true := by
 refine ⟨by unfold Bi; rw [h.one]; rfl, fun P hP hC j hj hr => ?_, h.dn, hok, ⟨?_, fun _ => ?_⟩, fun hm => (by cases hm)⟩
 ·by_cases e : (j : Int) = (x : Int)
  ·have hPi := h.low P hP hC i h2 hi;have := hC i ((x : Int), nm) hPi (by rw [We h1 h2 hd hs]; exact List.mem_of_getElem? hk);rw [show ((x : Int), nm).1.toNat = x from Int.toNat_natCast x] at this;obtain rfl : j = x := by omega
   exact this
  ·have e2 : Bi rch x j = rch j := by unfold Bi; simp [e]
   rw [e2] at hr;exact h.low P hP hC j hj hr
 ·have := bJ hx hn; have := h.un.1; omega
 ·have := bJ hx hn; have := h.un.1; omega
theorem Kz.congr {w : World} {g M : Nat} {I I' : Nat -> List Int} (h : Kz w g M I) (he : ∀ i, i < M -> I' i = I i) : Kz w g M I' := by
 obtain ⟨cs, h1, h2, h3⟩ := h;exact ⟨cs, h1, h2, fun i hi => by rw [he i hi]; exact h3 i hi⟩
def G6 (w : World) (v : Value) (N : Nat) (S : Nat -> List Int) : Prop := ∃ a ci, v = .slice a N ci /\ (0 < N -> ∃ gi oi, a = some ⟨gi, oi, none⟩ /\ Gn w gi oi N S)
theorem Img.zero {w : World} {v : Value} {N : Nat} {S : Nat -> List Int} (h : Img w v N S) : G6 w v N S := by
 obtain ⟨a, ci, h1, -, -, h4⟩ := h;exact ⟨a, ci, h1, h4⟩
theorem G6.same {w w' : World} {v : Value} {N : Nat} {S : Nat -> List Int} (h : G6 w v N S) (hf : Fr [] w w') : G6 w' v N S := by
 obtain ⟨a, ci, h1, h4⟩ := h;refine ⟨a, ci, h1, fun hN => ?_⟩;obtain ⟨gi, oi, h5, h6⟩ := h4 hN;exact ⟨gi, oi, h5, h6.same (hf.block _ h6.lt (by simp))⟩
theorem aK {w : World} {g N c k : Nat} {S : Nat -> List Int} (h : Cf w g N k S) : G6 w (.slice (some ⟨g, 0, none⟩) N c) N S := ⟨_, _, rfl, fun _ => ⟨g, 0, rfl, h.secs⟩⟩
theorem G6.len {w : World} {v : Value} {N : Nat} {S : Nat -> List Int} (h : G6 w v N S) : ∀ j, j < N -> (S j).length = 128 /\ A0 (S j) := fun j hj => by
 obtain ⟨a, ci, -, h4⟩ := h;obtain ⟨gi, oi, -, h6⟩ := h4 (by omega);exact h6.len hj
theorem cY {v : Value} {N : Nat} {S : Nat -> List Int} {w : World} (h : G6 w v N S) :
  Calls Tryz.prog 10 #[v] w fun e w' => Below w.heap.size w w' /\ ((Co N S = 0 /\ Z5 w w' N N (A4 (S 0)).2.1 S e) \/ (Co N S ≠ 0 /\ e = .returned (.tuple #[.agg Bv, .int .i64 (Co N S)]))) := by
 obtain ⟨a, ci, rfl, h3⟩ := h;by_cases c1 : N < 8 \/ 4096 < N
 ·have he : Co N S = 120 := by unfold Co; rw [if_pos c1]
  refine (Yy a N ci w c1).mono ?_;rintro e w' ⟨rfl, hb⟩;exact ⟨hb, .inr ⟨by rw [he]; decide, by rw [he]⟩⟩
 ·obtain ⟨gi, oi, rfl, hS⟩ := h3 (by omega);by_cases c2 : (A4 (S 0)).2.2 ≠ 0 \/ (A4 (S 0)).1 ≠ N
  ·have he : Co N S = 120 := by unfold Co; rw [if_neg c1, if_pos c2]
   refine (Yz gi oi N ci S w hS (by omega) (by omega) c2).mono ?_;rintro e w' ⟨rfl, hb⟩;exact ⟨hb, .inr ⟨by rw [he]; decide, by rw [he]⟩⟩
  ·have e1 : (A4 (S 0)).2.2 = 0 := Decidable.byContradiction fun h4 => c2 (.inl h4)
   have e2 : (A4 (S 0)).1 = N := Decidable.byContradiction fun h4 => c2 (.inr h4)
   refine (T6 gi oi N ci S w hS (by omega) (by omega) e1 e2).mono ?_;rintro e w' (⟨hr, ho⟩ | ⟨hr, rfl, hb⟩)
   ·rw [e2] at ho;obtain ⟨gw, cw, v1, v2, v3, o1, o2, o3, k0, k1, k2, k3, k4, k5, k6⟩ := id ho;exact ⟨k5, .inl ⟨by unfold Co; rw [if_neg c1, if_neg c2, if_pos hr], ho⟩⟩
   ·have he : Co N S = 121 := by unfold Co; rw [if_neg c1, if_neg c2, if_neg hr]
    exact ⟨hb, .inr ⟨by rw [he]; decide, by rw [he]⟩⟩
def jX (N1 N2 : Nat) (S1 S2 : Nat -> List Int) (w : World) (e : Ending) (w' : World) : Prop := ∃ b, e = .returned (.bool b) /\ (b = true ↔ N1 = N2 /\ ∀ j, j < N1 -> S1 j = S2 j) /\ Fr [] w w'
theorem Pr {v1 v2 : Value} {N1 N2 : Nat} {S1 S2 : Nat -> List Int} {w : World} (h1 : G6 w v1 N1 S1) (h2 : G6 w v2 N2 S2) (hN1 : N1 <= 2000000000000) :
  Calls Tryz.prog 13 #[v1, v2] w (jX N1 N2 S1 S2 w) := by
 obtain ⟨a1, c1, rfl, H1⟩ := h1;obtain ⟨a2, c2, rfl, H2⟩ := h2;have H1 := sW H1;have H2 := sW H2;by_cases hN : N1 = N2
 ·subst hN;have d1 : ((N1 : Int) != (N1 : Int)) = false := by simp
  go_enter Tryz.func13, Tryz.ntmps13;go_wp2_with fail;go_loopw [5] (fun v wr => ∃ k : Nat, v = .int .i64 k /\ k <= N1 /\ Hid (Fr [] w wr) /\ Hid (∀ j, j < k -> S1 j = S2 j)) (fun v wr => N1 - (intOf v).toNat)
  case atStart => exact ⟨0, rfl, Nat.zero_le _, sW (Fr.refl _ _), sW (fun j h => by omega)⟩
  case round =>
   obtain ⟨k, rfl, hk, HF, HE⟩ := hrel;by_cases hkN : k < N1
   ·have hk0 : (0 : Int) <= (k : Int) := Int.natCast_nonneg _;have hk1 : (k : Int) < (N1 : Int) := by omega
    obtain ⟨g1, o1, rfl, hs1⟩ := H1.out (by omega);obtain ⟨g2, o2, rfl, hs2⟩ := H2.out (by omega);have hr1 := hs1.same (HF.out.block _ hs1.lt (by simp));have hr2 := hs2.same (HF.out.block _ hs2.lt (by simp));obtain ⟨cs1, t1, f1, hc1, hl1⟩ := hr1.load hkN;obtain ⟨cs2, t2, f2, hc2, hl2⟩ := hr2.load hkN;have hn1 := (hr1.len hkN).1;have hn2 := (hr2.len hkN).1;clear hr1 hr2 hs1 hs2;by_cases heq : S1 k = S2 k
    ·have hne : decide (S1 k = S2 k) = true := decide_eq_true heq;have HE2 : Hid (∀ j, j < k + 1 -> S1 j = S2 j) := sW (fun j hj => by
      by_cases e : j = k
      ·subst e; exact heq
      ·exact HE.out j (by omega))
     clear heq;go_wp2_with fail;go_region
     go_wp2_with fail;go_roundw
     case rel => exact ⟨k + 1, by go_num, by omega, sW (Bj HF.out), HE2⟩
     case measure => (show N1 - (k + 1) < N1 - k); omega
    ·have hne : decide (S1 k = S2 k) = false := decide_eq_false heq;have HNO : Hid (¬ ∀ j, j < N1 -> S1 j = S2 j) := sW (fun h => heq (h k hkN));clear heq;go_wp2_with fail;go_region
     go_wp2_with fail;go_ret;exact ⟨false, rfl, ⟨fun h => (by cases h), fun h => absurd h.2 HNO.out⟩, Bj HF.out⟩
   ·obtain rfl : k = N1 := by omega
    go_wp2_with fail;go_ret;exact ⟨true, rfl, ⟨fun _ => ⟨rfl, HE.out⟩, fun _ => rfl⟩, HF.out⟩
 ·have d1 : ((N1 : Int) != (N2 : Int)) = true := by simp; omega
  have HNO : Hid (¬ (N1 = N2 /\ ∀ j, j < N1 -> S1 j = S2 j)) := sW (fun h => hN h.1);clear hN;go_enter Tryz.func13, Tryz.ntmps13;go_wp2_with fail;go_ret;exact ⟨false, rfl, ⟨fun h => (by cases h), fun h => absurd h HNO.out⟩, Fr.refl _ _⟩
structure K8 (w : World) (v0 v1 v2 v3 : Value) (o1 o2 o3 : Option Nat) (N : Nat) (S : Nat -> List Int) (xs ys zs : List Int) : Prop where
 i : G6 w v0 N S
 q1 : Bc w v1 o1 xs
 q2 : Bc w v2 o2 ys
 q3 : Bc w v3 o3 zs
 n0 : N <= 5000
 n1 : xs.length <= 100000
 n2 : ys.length <= 100000
 n3 : zs.length <= 100000
theorem K8.same {w w' : World} {v0 v1 v2 v3 : Value} {o1 o2 o3 : Option Nat} {N : Nat} {S : Nat -> List Int} {xs ys zs : List Int} (h : K8 w v0 v1 v2 v3 o1 o2 o3 N S xs ys zs) (hf : Fr [] w w') : K8 w' v0 v1 v2 v3 o1 o2 o3 N S xs ys zs :=
 ⟨h.i.same hf, h.q1.fr hf (fun _ _ => by simp), h.q2.fr hf (fun _ _ => by simp), h.q3.fr hf (fun _ _ => by simp), h.n0, h.n1, h.n2, h.n3⟩
theorem Xj (w : World) (S : Nat -> List Int) : K8 w (.slice none 0 0) (.slice none 0 0) (.slice none 0 0) (.slice none 0 0) none none none 0 S [] [] [] :=
 ⟨⟨none, 0, rfl, fun h => by omega⟩, .inl ⟨rfl, rfl, rfl⟩, .inl ⟨rfl, rfl, rfl⟩, .inl ⟨rfl, rfl, rfl⟩, by omega, by simp, by simp, by simp⟩
def jY (N N' : Nat) (S S' : Nat -> List Int) (xs ys zs xs' ys' zs' : List Int) (w : World) (e : Ending) (w' : World) : Prop :=
 ∃ b, e = .returned (.bool b) /\ (b = true ↔ (N = N' /\ ∀ j, j < N -> S j = S' j) /\ xs = xs' /\ ys = ys' /\ zs = zs') /\ Below w.heap.size w w'
theorem Fr.bl {w w' : World} (h : Fr [] w w') : Below w.heap.size w w' := h.below (Nat.le_refl _) (by simp)
theorem Nt {a0 a1 a2 a3 b0 b1 b2 b3 : Value} {o1 o2 o3 p1 p2 p3 : Option Nat} {N N' : Nat} {S S' : Nat -> List Int} {xs ys zs xs' ys' zs' : List Int} {w : World} (h1 : K8 w a0 a1 a2 a3 o1 o2 o3 N S xs ys zs) (h2 : K8 w b0 b1 b2 b3 p1 p2 p3 N' S' xs' ys' zs') :
  Calls Tryz.prog 12 #[.agg #[a0, a1, a2, a3], .agg #[b0, b1, b2, b3]] w (jY N N' S S' xs ys zs xs' ys' zs' w) := by
 have hB1 : Below w.heap.size w (w.alloc (.cells #[a0, a1, a2, a3] 26)) := (Below.refl _ _).alloc (Nat.le_refl _) _;have hB2 : Below w.heap.size w ((w.alloc (.cells #[a0, a1, a2, a3] 26)).alloc (.cells #[b0, b1, b2, b3] 26)) := hB1.alloc hB1.size _;have hga := (B4 _ (.cells #[b0, b1, b2, b3] 26) (A7 w (.cells #[a0, a1, a2, a3] 26)).1).1;have hgb := (A7 (w.alloc (.cells #[a0, a1, a2, a3] 26)) (.cells #[b0, b1, b2, b3] 26)).1;have H1 := sW (h1.same (Ag hB2 []));have H2 := sW (h2.same (Ag hB2 []));have HB2 := sW hB2;obtain ⟨x0, n0, c0, e0⟩ : ∃ a n c, a0 = .slice a n c := by obtain ⟨a, c, h, -⟩ := h1.i; exact ⟨a, N, c, h⟩
 obtain ⟨y0, m0, k0, f0⟩ : ∃ a n c, b0 = .slice a n c := by obtain ⟨a, c, h, -⟩ := h2.i; exact ⟨a, N', c, h⟩
 obtain ⟨x1, n1, c1, e1⟩ := h1.q1.sl;obtain ⟨x2, n2, c2, e2⟩ := h1.q2.sl;obtain ⟨x3, n3, c3, e3⟩ := h1.q3.sl;obtain ⟨y1, m1, k1, f1⟩ := h2.q1.sl;obtain ⟨y2, m2, k2, f2⟩ := h2.q2.sl;obtain ⟨y3, m3, k3, f3⟩ := h2.q3.sl;subst e0 f0 e1 e2 e3 f1 f2 f3;clear h1 h2 hB1 hB2;go_enter Tryz.func12, Tryz.ntmps12;go_upto_region 1 with fail;simp only [World.size_alloc] at *;generalize ((w.alloc (.cells #[.slice x0 n0 c0, .slice x1 n1 c1, .slice x2 n2 c2, .slice x3 n3 c3] 26)).alloc (.cells #[.slice y0 m0 k0, .slice y1 m1 k1, .slice y2 m2 k2, .slice y3 m3 k3] 26)) = w2 at *;generalize w.heap.size + 1 = gb at *;have hgal := Aa hga;have hgbl := Aa hgb;go_wp2_with fail;refine (Pr H1.out.i H2.out.i (by have := H1.out.n0; omega)).mono ?_; rintro e w3 ⟨b, rfl, hb, hf⟩;have hga3 := (hf.block _ hgal (by simp)).trans hga;have hgb3 := (hf.block _ hgbl (by simp)).trans hgb;have HB3 := sW (HB2.out.trans (hf.below HB2.out.size (by simp)));have H13 := sW (H1.out.same hf);have H23 := sW (H2.out.same hf);have hgal3 := Aa hga3;have hgbl3 := Aa hgb3;have HBB := sW hb;clear hf hga hgb hgal hgbl hb;cases b with
 | false =>
  go_wp2_with fail;go_ret;exact ⟨false, rfl, ⟨fun h => (by cases h), fun h => HBB.out.2 h.1⟩, HB3.out⟩
 | true =>
  go_wp2_with fail;refine (Jr H13.out.q1 H23.out.q1 H13.out.n1 H23.out.n1).mono ?_; rintro e w4 ⟨rfl, hf⟩;have hga4 := (hf.block _ hgal3 (by simp)).trans hga3;have hgb4 := (hf.block _ hgbl3 (by simp)).trans hgb3;have HB4 := sW (HB3.out.trans (hf.below HB3.out.size (by simp)));have H14 := sW (H13.out.same hf);have H24 := sW (H23.out.same hf);have hgal4 := Aa hga4;have hgbl4 := Aa hgb4;clear hf hga3 hgb3 hgal3 hgbl3;cases d1 : decide (xs = xs') with
  | false =>
   have HD := sW (of_decide_eq_false d1);clear d1;go_wp2_with fail;go_ret;exact ⟨false, rfl, ⟨fun h => (by cases h), fun h => absurd h.2.1 HD.out⟩, HB4.out⟩
  | true =>
   have HD := sW (of_decide_eq_true d1);clear d1;go_wp2_with fail;refine (Jr H14.out.q2 H24.out.q2 H14.out.n2 H24.out.n2).mono ?_; rintro e w5 ⟨rfl, hf⟩;have hga5 := (hf.block _ hgal4 (by simp)).trans hga4;have hgb5 := (hf.block _ hgbl4 (by simp)).trans hgb4;have HB5 := sW (HB4.out.trans (hf.below HB4.out.size (by simp)));have H15 := sW (H14.out.same hf);have H25 := sW (H24.out.same hf);have hgal5 := Aa hga5;have hgbl5 := Aa hgb5;clear hf hga4 hgb4 hgal4 hgbl4;cases d2 : decide (ys = ys') with
   | false =>
    have HE := sW (of_decide_eq_false d2);clear d2;go_wp2_with fail;go_ret;exact ⟨false, rfl, ⟨fun h => (by cases h), fun h => absurd h.2.2.1 HE.out⟩, HB5.out⟩
   | true =>
    have HE := sW (of_decide_eq_true d2);clear d2;go_wp2_with fail;refine (Jr H15.out.q3 H25.out.q3 H15.out.n3 H25.out.n3).mono ?_; rintro e w6 ⟨rfl, hf⟩;have HB6 := sW (HB5.out.trans (hf.below HB5.out.size (by simp)));clear hf hga5 hgb5 hgal5 hgbl5;cases d3 : decide (zs = zs') with
    | false =>
     have HG := sW (of_decide_eq_false d3);clear d3;go_wp2_with fail;go_ret;exact ⟨false, rfl, ⟨fun h => (by cases h), fun h => absurd h.2.2.2 HG.out⟩, HB6.out⟩
    | true =>
     have HG := sW (of_decide_eq_true d3);clear d3;go_wp2_with fail;go_ret;exact ⟨true, rfl, ⟨fun _ => ⟨HBB.out.1 (by first | rfl | trivial), HD.out, HE.out, HG.out⟩, fun _ => rfl⟩, HB6.out⟩
def D9 (s : LS) : LS := { s with bk := fun _ => none }
theorem eM {s : List Int} (h : s.length = 128) {k : Nat} (hk : k <= 128) : (Df s k).length = 128 := by
 unfold Df;simp only [List.length_append, List.length_take, Ca];omega
theorem Qw {n : Int} {st : LS} {q : Int} (h : (E4 n st).fm q = true) : st.fm q = true \/ ∃ k, st.bk k = some q := by
 unfold E4 at h;simp only [Bool.or_eq_true, List.any_eq_true] at h;rcases h with h | ⟨k, -, h⟩
 ·exact .inl h
 ·exact .inr ⟨k, by simpa using h⟩
theorem Qx {n : Int} {st : LS} {q : Int} (h : st.fm q = true) : (E4 n st).fm q = true := by
 unfold E4;simp [h]
structure pI (X Y : Int) (A : Nat -> List Int) (st st2 : LS) (n : Int) : Prop where
 si : SI X Y A (D9 st2)
 gr : Gr st st2
 new : ∀ k q, st2.bk k = some q -> isD X Y q = true /\ st2.cl q = true /\ st.cl q = false
 inj : ∀ k k' q, st2.bk k = some q -> st2.bk k' = some q -> k = k'
 keys : Ev n st2
theorem Sx {X Y : Int} (hY : 0 <= Y) {A : Nat -> List Int} {st : LS} (h : SI X Y A (D9 st)) (raw : List Int) : pI X Y A st (Ap X Y raw st).2 (Aw (nth raw 2)) := by
 obtain ⟨i, d, g⟩ := Zg hY (Aw (nth raw 2)) raw h;have hkeys : Ev (Aw (nth raw 2)) (Bd X Y (Aw (nth raw 2)) raw (D9 st)).2 := M3 X Y _ raw _ (fun k hk => by cases hk);have hnew : ∀ k q, (Bd X Y (Aw (nth raw 2)) raw (D9 st)).2.bk k = some q -> isD X Y q = true /\ (Bd X Y (Aw (nth raw 2)) raw (D9 st)).2.cl q = true /\ st.cl q = false /\ (Bd X Y (Aw (nth raw 2)) raw (D9 st)).2.fm q = false := by
  intro k q hk;obtain ⟨a, b, c⟩ := i.bk k q hk;rcases d.new k q hk with ⟨k', h5⟩ | ⟨-, h5⟩
  ·cases h5
  ·exact ⟨a, b, h5, c⟩
 have hbk := X7 X Y raw st;have hg2 : Gr st (Bd X Y (Aw (nth raw 2)) raw (D9 st)).2 := g;unfold Ap;simp only;rw [show ({ st with bk := fun _ => none } : LS) = D9 st from rfl];generalize Bd X Y (Aw (nth raw 2)) raw (D9 st) = r at *;split
 ·refine ⟨⟨fun j hj => ?_, i.cd, fun k q hk => (by cases hk), fun k k' q hk => (by cases hk), i.un, i.ln, fun j hj => ?_⟩, fun j hj => ?_, fun k q hk => ?_, i.inj, hkeys⟩
  ·rcases Qw hj with h1 | ⟨k, h1⟩
   ·exact i.fc j h1
   ·exact (i.bk k _ h1).2.1
  ·rcases Qw hj with h1 | ⟨k, h1⟩
   ·exact i.sub j h1
   ·obtain ⟨a, b, c, e⟩ := hnew k _ h1;have h2 : r.2.S j = A j := by
     rw [d.same j e];exact h.un j c
    show X3 (r.2.S j) _
    rw [h2];exact fun _ => .inl rfl
  ·obtain ⟨a, b, c⟩ := hg2 j hj;refine ⟨a, ?_, c⟩;apply Bool.eq_iff_iff.2
   constructor
   ·intro hf;rcases Qw hf with h1 | ⟨k, h1⟩
    ·rw [<- b]; exact h1
    ·have := (hnew k _ h1).2.2.1;rw [hj] at this; cases this
   ·intro hf;exact Qx (by rw [b]; exact hf)
  ·obtain ⟨a, b, c, -⟩ := hnew k q hk;exact ⟨a, b, c⟩
 ·have htS : ∀ j : Nat, (B7 (Aw (nth raw 2)) (nth raw 2) r.2).S j ≠ r.2.S j -> ∃ k, r.2.bk k = some (j : Int) /\ ((B7 (Aw (nth raw 2)) (nth raw 2) r.2).S j = Df (r.2.S j) (nth raw 2 % 128).toNat) := by
   intro j hj;unfold B7 at hj ⊢;cases hb : r.2.bk (Aw (nth raw 2) - 1) with
   | none => rw [hb] at hj; exact absurd rfl hj
   | some p =>
    rw [hb] at hj;simp only at hj ⊢;split at hj
    ·exact absurd rfl hj
    ·rename_i hz
     have hp := (Ce hY (hnew _ _ hb).1).1;by_cases hjp : j = p.toNat
     ·subst hjp;refine ⟨_, by rw [hp]; exact hb, ?_⟩;rw [if_neg hz];show Bn _ _ _ _ = _
      rw [Fk]
     ·exact absurd (C0 _ _ hjp) hj
  have ht1 : (B7 (Aw (nth raw 2)) (nth raw 2) r.2).cl = r.2.cl /\ (B7 (Aw (nth raw 2)) (nth raw 2) r.2).fm = r.2.fm /\ (B7 (Aw (nth raw 2)) (nth raw 2) r.2).bk = r.2.bk := by
   unfold B7;split
   ·exact ⟨rfl, rfl, rfl⟩
   ·split <;> exact ⟨rfl, rfl, rfl⟩
  obtain ⟨t1, t2, t3⟩ := ht1;have hk128 : (nth raw 2 % 128).toNat <= 128 := by omega
  refine ⟨⟨fun j hj => ?_, fun q hq => ?_, fun k q hk => (by cases hk), fun k k' q hk => (by cases hk), fun j hj => ?_, fun j hj => ?_, fun j hj => ?_⟩, fun j hj => ?_, fun k q hk => ?_, fun k k' q h1 h2 => ?_, fun k hk => ?_⟩
  ·have hj2 : (B7 (Aw (nth raw 2)) (nth raw 2) r.2).fm j = true := hj;show (B7 (Aw (nth raw 2)) (nth raw 2) r.2).cl j = true
   rw [t2] at hj2; rw [t1];exact i.fc j hj2
  ·have hq2 : (B7 (Aw (nth raw 2)) (nth raw 2) r.2).cl q = true := hq;rw [t1] at hq2;exact i.cd q hq2
  ·have hj2 : (B7 (Aw (nth raw 2)) (nth raw 2) r.2).cl j = false := hj;rw [t1] at hj2;show (B7 (Aw (nth raw 2)) (nth raw 2) r.2).S j = _
   by_cases hc : (B7 (Aw (nth raw 2)) (nth raw 2) r.2).S j = r.2.S j
   ·rw [hc]; exact i.un j hj2
   ·obtain ⟨k, h1, -⟩ := htS j hc;have := (i.bk k _ h1).2.1;rw [hj2] at this; cases this
  ·show ((B7 (Aw (nth raw 2)) (nth raw 2) r.2).S j).length = 128 /\ A0 ((B7 (Aw (nth raw 2)) (nth raw 2) r.2).S j)
   obtain ⟨l1, l2⟩ := i.ln j hj;by_cases hc : (B7 (Aw (nth raw 2)) (nth raw 2) r.2).S j = r.2.S j
   ·rw [hc]; exact ⟨l1, l2⟩
   ·obtain ⟨k, -, h1⟩ := htS j hc;rw [h1];exact ⟨eM l1 hk128, Pc l2 _⟩
  ·have hj2 : (B7 (Aw (nth raw 2)) (nth raw 2) r.2).fm j = true := hj;rw [t2] at hj2;show X3 ((B7 (Aw (nth raw 2)) (nth raw 2) r.2).S j) _
   by_cases hc : (B7 (Aw (nth raw 2)) (nth raw 2) r.2).S j = r.2.S j
   ·rw [hc]; exact i.sub j hj2
   ·obtain ⟨k, h1, -⟩ := htS j hc;have := (i.bk k _ h1).2.2;rw [hj2] at this; cases this
  ·obtain ⟨a, b, c⟩ := hg2 j hj;refine ⟨by show (B7 _ _ _).cl j = true; rw [t1]; exact a, by show (B7 _ _ _).fm j = _; rw [t2]; exact b, ?_⟩;show (B7 (Aw (nth raw 2)) (nth raw 2) r.2).S j = _
   by_cases hc : (B7 (Aw (nth raw 2)) (nth raw 2) r.2).S j = r.2.S j
   ·rw [hc]; exact c
   ·obtain ⟨k, h1, -⟩ := htS j hc;have := (hnew k _ h1).2.2.1;rw [hj] at this; cases this
  ·have hk2 : (B7 (Aw (nth raw 2)) (nth raw 2) r.2).bk k = some q := hk;rw [t3] at hk2;obtain ⟨a, b, c, -⟩ := hnew k q hk2;exact ⟨a, by show (B7 _ _ _).cl q = true; rw [t1]; exact b, c⟩
  ·have h1' : (B7 (Aw (nth raw 2)) (nth raw 2) r.2).bk k = some q := h1;have h2' : (B7 (Aw (nth raw 2)) (nth raw 2) r.2).bk k' = some q := h2;rw [t3] at h1' h2';exact i.inj k k' q h1' h2'
  ·have hk2 : ((B7 (Aw (nth raw 2)) (nth raw 2) r.2).bk k).isSome = true := hk;rw [t3] at hk2;exact hkeys k hk2
def nW (z : LZ) (j : Nat) : Prop := ∃ i ∈ z.q, ∃ t k, z.T i.toNat = some t /\ t.bk k = some (j : Int)
structure Fl (X Y : Int) (A : Nat -> List Int) (z : LZ) : Prop where
 si : SI X Y A (D9 z.st)
 blk : ∀ i t k q, z.T i = some t -> t.bk k = some q -> isD X Y q = true /\ z.st.cl q = true
 inj : ∀ i t k i' t' k' q, z.T i = some t -> t.bk k = some q -> z.T i' = some t' -> t'.bk k' = some q -> i = i' /\ k = k'
 keys : ∀ i t k q, z.T i = some t -> t.bk k = some q -> 0 <= k /\ k < Aw (nth t.raw 2)
 qn : z.q.Nodup
 qT : ∀ i ∈ z.q, 0 <= i /\ ∃ t, z.T i.toNat = some t /\ nth t.raw 0 = 2
 snd : ∀ i t, z.T i = some t -> Cj (A i) = true /\ t.raw.length = 18 /\ nth t.raw 0 = nth (Al (A i)).1 0 /\ nth t.raw 2 = nth (Al (A i)).1 2 /\ nth t.raw 3 = nth (Al (A i)).1 3 /\ ∀ j, 4 <= j -> nth t.raw j = nth (Al (A i)).1 j \/ nth t.raw j = 0
 en : ∀ i t, z.T i = some t -> 0 <= t.en /\ t.en <= 100
theorem Cp (T : Nat -> Option TI) (i : Nat) (t : TI) : A3 T i t i = some t := by unfold A3; rw [if_pos rfl]
theorem Cm (T : Nat -> Option TI) {i j : Nat} (t : TI) (h : j ≠ i) : A3 T i t j = T j := by unfold A3; rw [if_neg h]
theorem iL {X Y : Int} (hY : 0 <= Y) (n : Int) {raw : List Int} (hr : raw.length = 18) (st : LS) (j : Nat) (hj : 4 <= j) : nth (Bd X Y n raw st).1 j = nth raw j \/ nth (Bd X Y n raw st).1 j = 0 := by
 obtain ⟨-, q1, q2, q3, q4⟩ := Ij (X := X) hY n hr st;by_cases h16 : j < 16
 ·have e := q1 (j - 4) (by omega);rw [show 4 + (j - 4) = j by omega] at e;rw [e];rcases (Hl (X := X) hY (fun _ => []) n 0).ok.sub ((raw.drop 4).take 12) st (j - 4) with h | h
  ·left
   rw [show (pA X Y n raw st).1 = (Tj X Y n 0 ((raw.drop 4).take 12) st).1 from rfl, h, Y7 hr (by omega), show 4 + (j - 4) = j by omega]
  ·exact .inr h
 ·by_cases h17 : j = 16
  ·subst h17;rw [q2];exact (M9 (X := X) hY (fun _ => []) n).ok.sub [nth raw 16] _ 0
  ·by_cases h18 : j = 17
   ·subst h18;rw [q3];exact (Oc (X := X) hY (fun _ => []) n).ok.sub [nth raw 17] _ 0
   ·right
    exact lO (by omega)
theorem Fl.take {X Y : Int} (hY : 0 <= Y) {A : Nat -> List Int} {z : LZ} (h : Fl X Y A z) {i : Nat} (hT : z.T i = none) (hs : Cj (A i) = true) {n : Int} (h0 : 0 <= n) (h1 : n <= 100) : Fl X Y A (C8 X Y i (Al (A i)).1 n z) := by
 have hrl := Br (A i);have t := Sx hY h.si (Al (A i)).1;obtain ⟨q0, -, -, -, q4⟩ := Ij (X := X) hY (Aw (nth (Al (A i)).1 2)) hrl (D9 z.st);have hsub := iL (X := X) hY (Aw (nth (Al (A i)).1 2)) hrl (D9 z.st);have hf := Mb X Y (Al (A i)).1 z.st;rw [show ({ z.st with bk := fun _ => none } : LS) = D9 z.st from rfl] at hf;generalize hraw : (Al (A i)).1 = raw at *;have hold : ∀ {j : Nat} {u : TI}, (C8 X Y i raw n z).T j = some u -> (j = i /\ u = ⟨(Ap X Y raw z.st).1, n, (Ap X Y raw z.st).2.bk⟩) \/ (j ≠ i /\ z.T j = some u) := by
  intro j u hu;have hu2 : A3 z.T i ⟨(Ap X Y raw z.st).1, n, (Ap X Y raw z.st).2.bk⟩ j = some u := hu;by_cases hj : j = i
  ·subst hj;rw [Cp] at hu2;exact .inl ⟨rfl, (Option.some.inj hu2).symm⟩
  ·rw [Cm _ _ hj] at hu2;exact .inr ⟨hj, hu2⟩
 have hclq : ∀ q, isD X Y q = true -> z.st.cl q = true -> (Ap X Y raw z.st).2.cl q = true := by
  intro q hq hc;have e := (Ce hY hq).1;have := (t.gr q.toNat (by rw [e]; exact hc)).1;rw [e] at this;exact this
 refine ⟨t.si, fun j u k q hu hk => ?_, fun j u k j' u' k' q hu hk hu' hk' => ?_, fun j u k q hu hk => ?_, ?_, fun j hj => ?_, fun j u hu => ?_, fun j u hu => ?_⟩
 ·rcases hold hu with ⟨-, rfl⟩ | ⟨-, hu2⟩
  ·obtain ⟨a, b, -⟩ := t.new k q hk;exact ⟨a, b⟩
  ·obtain ⟨a, b⟩ := h.blk j u k q hu2 hk;exact ⟨a, hclq q a b⟩
 ·rcases hold hu with ⟨rfl, rfl⟩ | ⟨hj, hu2⟩
  ·rcases hold hu' with ⟨rfl, rfl⟩ | ⟨hj', hu2'⟩
   ·exact ⟨rfl, t.inj k k' q hk hk'⟩
   ·have a := (t.new k q hk).2.2;have b := (h.blk j' u' k' q hu2' hk').2;rw [a] at b; cases b
  ·rcases hold hu' with ⟨rfl, rfl⟩ | ⟨hj', hu2'⟩
   ·have a := (t.new k' q hk').2.2;have b := (h.blk j u k q hu2 hk).2;rw [a] at b; cases b
   ·exact h.inj j u k j' u' k' q hu2 hk hu2' hk'
 ·rcases hold hu with ⟨-, rfl⟩ | ⟨-, hu2⟩
  ·have := t.keys k (by rw [show (Ap X Y raw z.st).2.bk k = some q from hk]; rfl);show 0 <= k /\ k < Aw (nth (Ap X Y raw z.st).1 2)
   rw [hf, q0 2 (by omega)];exact this
  ·exact h.keys j u k q hu2 hk
 ·show (if nth raw 0 = 2 then z.q ++ [(i : Int)] else z.q).Nodup
  split
  ·rw [List.nodup_append];refine ⟨h.qn, by simp, fun a ha b hb => ?_⟩;rw [List.mem_singleton] at hb;subst hb;intro e;subst e;obtain ⟨-, u, hu, -⟩ := h.qT _ ha;have : z.T i = some u := hu;rw [hT] at this; cases this
  ·exact h.qn
 ·have hj2 : j ∈ (if nth raw 0 = 2 then z.q ++ [(i : Int)] else z.q) := hj;have hq : j ∈ z.q -> 0 <= j /\ ∃ u, (C8 X Y i raw n z).T j.toNat = some u /\ nth u.raw 0 = 2 := by
   intro hm;obtain ⟨a, u, hu, hk⟩ := h.qT j hm;refine ⟨a, u, ?_, hk⟩;show A3 z.T i _ j.toNat = _
   rw [Cm _ _ (fun e => by rw [e, hT] at hu; cases hu)];exact hu
  split at hj2
  ·rename_i hk2
   rw [List.mem_append, List.mem_singleton] at hj2;rcases hj2 with hm | rfl
   ·exact hq hm
   ·refine ⟨Int.natCast_nonneg _, ⟨(Ap X Y raw z.st).1, n, (Ap X Y raw z.st).2.bk⟩, Cp _ _ _, ?_⟩;show nth (Ap X Y raw z.st).1 0 = 2
    rw [hf, q0 0 (by omega)];exact hk2
  ·exact hq hj2
 ·rcases hold hu with ⟨rfl, rfl⟩ | ⟨-, hu2⟩
  ·rw [hraw];refine ⟨hs, ?_, ?_, ?_, ?_, ?_⟩
   ·show (Ap X Y raw z.st).1.length = 18
    rw [hf]; exact q4
   ·show nth (Ap X Y raw z.st).1 0 = _
    rw [hf, q0 0 (by omega)]
   ·show nth (Ap X Y raw z.st).1 2 = _
    rw [hf, q0 2 (by omega)]
   ·show nth (Ap X Y raw z.st).1 3 = _
    rw [hf, q0 3 (by omega)]
   ·show ∀ j, 4 <= j -> nth (Ap X Y raw z.st).1 j = _ \/ nth (Ap X Y raw z.st).1 j = 0
    rw [hf]; exact hsub
  ·exact h.snd j u hu2
 ·rcases hold hu with ⟨rfl, rfl⟩ | ⟨-, hu2⟩
  ·exact ⟨h0, h1⟩
  ·exact h.en j u hu2
end Go.Proofs.YthioepdgnbdohaaGreat
