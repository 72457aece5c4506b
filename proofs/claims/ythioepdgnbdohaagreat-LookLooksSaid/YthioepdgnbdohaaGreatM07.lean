import Derived.Sort.OwnSortedInts
import Derived.Maps.RangeWalk
import Derived.Test.YthioepdgnbdohaaGreatM04
import Derived.Test.YthioepdgnbdohaaGreatM05
import Derived.Test.YthioepdgnbdohaaGreatM06
namespace Go.Proofs.YthioepdgnbdohaaGreat
set_option maxHeartbeats 16000000
set_option maxRecDepth 1000000
set_option linter.unusedSimpArgs false
set_option linter.unusedVariables false
open Go.RowKit
def TryK (X Y : Int) (A : Nat → List Int) (T : Int → LS → Bool × LS) (f : Form) (a : Int) : Prop :=
 ∀ p s, SI X Y A s → (∀ q, a ≤ q → s.bk q = none) → p ≠ 0 → f.sh s.S p → OkL X Y s.cl (f.ps s.S p) → (T p s).1 = true ∧ (T p s).2.S = s.S
def SiftK (X Y : Int) (A : Nat → List Int) (F : List Int → LS → List Int × Bool × LS) (R : RowF) (n : Int) (k m : Nat) : Prop :=
 ∀ ps s, k + ps.length ≤ m → SI X Y A s → (∀ q, R.lo k ≤ q → s.bk q = none) → R.sh n s.S k ps → OkL X Y s.cl (R.ps s.S k ps) → (F ps s).1 = ps ∧ (F ps s).2.2.S = s.S
theorem updS_same (S : Nat → List Int) (i : Nat) : updS S i (S i) = S := by
 funext j
 unfold updS
 split
 ·rename_i h; rw [h]
 ·rfl
def inoPs (n : Int) (S : Nat → List Int) (raw : List Int) : List Int := (fRow 0).ps S 0 (dirL raw) ++ ((fSgl n).ps S 0 [nth raw 16] ++ (fDub n).ps S 0 [nth raw 17])
def inoTb (n : Int) (S : Nat → List Int) (raw : List Int) : List Int := (fRow 0).tb S 0 (dirL raw) ++ ((fSgl n).tb S 0 [nth raw 16] ++ (fDub n).tb S 0 [nth raw 17])
def inoSh (n : Int) (S : Nat → List Int) (raw : List Int) : Prop := (fRow 0).sh n S 0 (dirL raw) ∧ (fSgl n).sh n S 0 [nth raw 16] ∧ (fDub n).sh n S 0 [nth raw 17]
def inoBl (n : Int) (S : Nat → List Int) (raw : List Int) (q : Int) : Int := if q < 12 then (fRow 0).bl S 0 (dirL raw) q else if q < 44 then (fSgl n).bl S 0 [nth raw 16] q else (fDub n).bl S 0 [nth raw 17] q
theorem ino_st (n : Int) (S S' : Nat → List Int) (raw : List Int) (h : ∀ q ∈ inoTb n S raw, S' q.toNat = S q.toNat) : inoPs n S' raw = inoPs n S raw ∧ inoTb n S' raw = inoTb n S raw ∧ (inoSh n S' raw ↔ inoSh n S raw) ∧ ∀ q, inoBl n S' raw q = inoBl n S raw q := by
 obtain ⟨a1, a2, a3, a4⟩ := RowF.st (fRow_ok 0) n S S' (dirL raw) 0 (fun q hq => h q (List.mem_append_left _ hq))
 obtain ⟨b1, b2, b3, b4⟩ := RowF.st (fSgl_ok n) n S S' [nth raw 16] 0 (fun q hq => h q (List.mem_append_right _ (List.mem_append_left _ hq)))
 obtain ⟨c1, c2, c3, c4⟩ := RowF.st (fDub_ok n) n S S' [nth raw 17] 0 (fun q hq => h q (List.mem_append_right _ (List.mem_append_right _ hq)))
 refine ⟨?_, ?_, ?_, fun q => ?_⟩
 ·unfold inoPs; rw [a1, b1, c1]
 ·unfold inoTb; rw [a2, b2, c2]
 ·unfold inoSh; rw [a3, b3, c3]
 ·unfold inoBl; rw [a4, b4, c4]
theorem ino_tp (n : Int) (S : Nat → List Int) (raw : List Int) (q : Int) (h : q ∈ inoTb n S raw) : q ∈ inoPs n S raw := by
 unfold inoTb at h
 unfold inoPs
 rcases List.mem_append.1 h with h | h
 ·exact List.mem_append_left _ (RowF.tp (fRow_ok 0) S _ 0 q h)
 ·rcases List.mem_append.1 h with h | h
  ·exact List.mem_append_right _ (List.mem_append_left _ (RowF.tp (fSgl_ok n) S _ 0 q h))
  ·exact List.mem_append_right _ (List.mem_append_right _ (RowF.tp (fDub_ok n) S _ 0 q h))
theorem RowF.grow {X Y : Int} (hY : 0 ≤ Y) {R : RowF} (hR : ∀ k, FormOk (R.F k)) (n : Int) {s s2 : LS} (hg : Gr s s2) (hc : FmCl s) {c : Int → Bool} (ps : List Int) (k : Nat) (ho : OkL X Y c (R.ps s.S k ps)) (ht : ∀ q ∈ R.tb s.S k ps, s.fm q = true) :
  R.ps s2.S k ps = R.ps s.S k ps ∧ R.tb s2.S k ps = R.tb s.S k ps ∧ (R.sh n s2.S k ps ↔ R.sh n s.S k ps) ∧ (∀ q, R.bl s2.S k ps q = R.bl s.S k ps q) ∧ ∀ q ∈ R.tb s2.S k ps, s2.fm q = true := by
 have hd : ∀ q ∈ R.tb s.S k ps, isD X Y q = true := fun q hq => (ho.1 q (RowF.tp hR _ _ _ q hq)).1
 obtain ⟨a, b, c, d⟩ := RowF.st hR n s.S s2.S ps k (fun q hq => (fm_nat hY hg hc (hd q hq) (ht q hq)).2)
 refine ⟨a, b, c, d, fun q hq => ?_⟩
 rw [b] at hq
 exact (fm_nat hY hg hc (hd q hq) (ht q hq)).1
theorem dirL_pA {X Y : Int} (hY : 0 ≤ Y) (n : Int) {raw : List Int} (hr : raw.length = 18) (st : LS) : dirL (ptrsX X Y n raw st).1 = (pA X Y n raw st).1 ∧ [nth (ptrsX X Y n raw st).1 16] = (pB X Y n raw st).1 ∧ [nth (ptrsX X Y n raw st).1 17] = (pC X Y n raw st).1 := by
 obtain ⟨-, q1, q2, q3, q4⟩ := ptrs_nth (X := X) hY n hr st
 obtain ⟨l1, l2, l3⟩ := ptrs_len (X := X) hY n hr st
 have one : ∀ {l : List Int}, l.length = 1 → [nth l 0] = l := by
  intro l hl
  match l, hl with
  | [x], _ => rfl
 refine ⟨?_, ?_, ?_⟩
 ·apply List.ext_getElem?
  intro i
  unfold dirL
  rw [List.getElem?_take]
  split
  ·rename_i hi
   rw [List.getElem?_drop, nth_getElem? (by omega), q1 i hi, nth_getElem? (by omega)]
  ·rename_i hi
   rw [List.getElem?_eq_none (by omega)]
 ·rw [q2]; exact one l2
 ·rw [q3]; exact one l3
theorem ptrs_f {X Y : Int} (hY : 0 ≤ Y) {A : Nat → List Int} (n : Int) {raw : List Int} (hr : raw.length = 18) {st : LS} (h : SI X Y A st) (hb : ∀ q, st.bk q = none) :
  inoSh n (ptrsX X Y n raw st).2.S (ptrsX X Y n raw st).1 ∧ OkL X Y st.cl (inoPs n (ptrsX X Y n raw st).2.S (ptrsX X Y n raw st).1) ∧ (ptrsX X Y n raw st).2.cl = addAll st.cl (inoPs n (ptrsX X Y n raw st).2.S (ptrsX X Y n raw st).1) ∧
  (∀ q ∈ inoTb n (ptrsX X Y n raw st).2.S (ptrsX X Y n raw st).1, (ptrsX X Y n raw st).2.fm q = true) ∧ ∀ q, 0 ≤ q → q < 1068 → (ptrsX X Y n raw st).2.bk q = optI (inoBl n (ptrsX X Y n raw st).2.S (ptrsX X Y n raw st).1 q) := by
 obtain ⟨e1, e2, e3⟩ := dirL_pA (X := X) hY n hr st
 obtain ⟨l1, l2, l3⟩ := ptrs_len (X := X) hY n hr st
 unfold inoSh inoPs inoTb inoBl
 rw [e1, e2, e3, ptrsX_T hY]
 simp only
 have hd12 : ((raw.drop 4).take 12).length = 12 := by simp [hr]
 have iA := (rowT_i hY A n 0).inv ((raw.drop 4).take 12) st h
 have gB := (sglT_i (X := X) hY A n).ok.grow [nth raw 16] (pA X Y n raw st).2.2
 have iB := (sglT_i hY A n).inv [nth raw 16] (pA X Y n raw st).2.2 iA
 have gC := (dubT_i (X := X) hY A n).ok.grow [nth raw 17] (pB X Y n raw st).2.2
 obtain ⟨a1, a2, a3, a4, a5, a6, a7, a8⟩ := (rowT_f hY A n 0).all ((raw.drop 4).take 12) st (by rw [hd12]; decide) h (fun q _ => hb q)
 change (fRow 0).sh n (pA X Y n raw st).2.2.S 0 (pA X Y n raw st).1 at a1
 change OkL X Y st.cl ((fRow 0).ps (pA X Y n raw st).2.2.S 0 (pA X Y n raw st).1) at a2
 change (pA X Y n raw st).2.2.cl = addAll st.cl ((fRow 0).ps (pA X Y n raw st).2.2.S 0 (pA X Y n raw st).1) at a3
 change ∀ q ∈ (fRow 0).tb (pA X Y n raw st).2.2.S 0 (pA X Y n raw st).1, (pA X Y n raw st).2.2.fm q = true at a4
 change SI X Y A (pA X Y n raw st).2.2 at iA
 rw [hd12] at a7 a8
 obtain ⟨b1, b2, b3, b4, b5, b6, b7, b8⟩ := (sglT_f hY A n).all [nth raw 16] (pA X Y n raw st).2.2 (Nat.le_refl 1) iA (fun q hq => a7 q hq)
 obtain ⟨c1, c2, c3, c4, c5, c6, c7, c8⟩ := (dubT_f hY A n).all [nth raw 17] (pB X Y n raw st).2.2 (Nat.le_refl 1) iB (fun q hq => b7 q hq)
 change (fSgl n).sh n (pB X Y n raw st).2.2.S 0 (pB X Y n raw st).1 at b1
 change OkL X Y (pA X Y n raw st).2.2.cl ((fSgl n).ps (pB X Y n raw st).2.2.S 0 (pB X Y n raw st).1) at b2
 change (pB X Y n raw st).2.2.cl = addAll (pA X Y n raw st).2.2.cl ((fSgl n).ps (pB X Y n raw st).2.2.S 0 (pB X Y n raw st).1) at b3
 change ∀ q ∈ (fSgl n).tb (pB X Y n raw st).2.2.S 0 (pB X Y n raw st).1, (pB X Y n raw st).2.2.fm q = true at b4
 change SI X Y A (pB X Y n raw st).2.2 at iB
 change (fDub n).sh n (pC X Y n raw st).2.2.S 0 (pC X Y n raw st).1 at c1
 change OkL X Y (pB X Y n raw st).2.2.cl ((fDub n).ps (pC X Y n raw st).2.2.S 0 (pC X Y n raw st).1) at c2
 change (pC X Y n raw st).2.2.cl = addAll (pB X Y n raw st).2.2.cl ((fDub n).ps (pC X Y n raw st).2.2.S 0 (pC X Y n raw st).1) at c3
 change ∀ q ∈ (fDub n).tb (pC X Y n raw st).2.2.S 0 (pC X Y n raw st).1, (pC X Y n raw st).2.2.fm q = true at c4
 change Gr (pA X Y n raw st).2.2 (pB X Y n raw st).2.2 at gB
 change Gr (pB X Y n raw st).2.2 (pC X Y n raw st).2.2 at gC
 obtain ⟨u1, u2, u3, u4, u5⟩ := RowF.grow hY (fRow_ok 0) n (gB.trans gC) iA.fc _ _ a2 a4
 obtain ⟨v1, v2, v3, v4, v5⟩ := RowF.grow hY (fSgl_ok n) n gC iB.fc _ _ b2 b4
 change ∀ q, q < 12 → (pB X Y n raw st).2.2.bk q = (pA X Y n raw st).2.2.bk q at b6
 change ∀ q, q < 44 → (pC X Y n raw st).2.2.bk q = (pB X Y n raw st).2.2.bk q at c6
 change ∀ q, 0 ≤ q → q < 12 → (pA X Y n raw st).2.2.bk q = optI ((fRow 0).bl (pA X Y n raw st).2.2.S 0 (pA X Y n raw st).1 q) at a8
 change ∀ q, 12 ≤ q → q < 44 → (pB X Y n raw st).2.2.bk q = optI ((fSgl n).bl (pB X Y n raw st).2.2.S 0 (pB X Y n raw st).1 q) at b8
 change ∀ q, 44 ≤ q → q < 1068 → (pC X Y n raw st).2.2.bk q = optI ((fDub n).bl (pC X Y n raw st).2.2.S 0 (pC X Y n raw st).1 q) at c8
 refine ⟨⟨u3.2 a1, v3.2 b1, c1⟩, ?_, ?_, fun q hq => ?_, fun q h0 h9 => ?_⟩
 ·rw [okL_app, okL_app, u1, v1, ← a3, ← b3]
  exact ⟨a2, b2, c2⟩
 ·rw [addAll_app, addAll_app, u1, v1, ← a3, ← b3]
  exact c3
 ·rcases List.mem_append.1 hq with hq | hq
  ·exact u5 q hq
  ·rcases List.mem_append.1 hq with hq | hq
   ·exact v5 q hq
   ·exact c4 q hq
 ·by_cases h12 : q < 12
  ·rw [if_pos h12, c6 q (by omega), b6 q h12, a8 q h0 h12, u4]
  ·rw [if_neg h12]
   by_cases h44 : q < 44
   ·rw [if_pos h44, c6 q h44, b8 q (by omega) h44, v4]
   ·rw [if_neg h44]
    exact c8 q (by omega) h9
theorem row_bl (base : Int) (S : Nat → List Int) : ∀ (ps : List Int) (k : Nat) (q : Int), base + k ≤ q → (fRow base).bl S k ps q = nth ps (q - base - k).toNat
 | [], k, q, h => by
  show (0 : Int) = _
  unfold nth; simp
 | p :: r, k, q, h => by
  show (if q < base + ((k + 1 : Nat) : Int) then (if p = 0 then 0 else p) else (fRow base).bl S (k + 1) r q) = _
  by_cases hq : q < base + ((k + 1 : Nat) : Int)
  ·rw [if_pos hq, show (q - base - k).toNat = 0 by omega, nth_cons0]
   split
   ·rename_i e; exact e.symm
   ·rfl
  ·rw [if_neg hq, row_bl base S r (k + 1) q (by omega), show (q - base - k).toNat = (q - base - ((k + 1 : Nat) : Int)).toNat + 1 by omega, nth_consS]
theorem dblRow_bl (n : Int) (S : Nat → List Int) : ∀ (ps : List Int) (k : Nat) (q : Int), 44 + 32 * (k : Int) ≤ q → (fDblRow n).bl S k ps q = hangW S (nth ps (((q - 44) / 32) - k).toNat) ((q - 44) % 32).toNat
 | [], k, q, h => by
  show (0 : Int) = _
  unfold hangW
  rw [if_pos (by unfold nth; simp)]
 | p :: r, k, q, h => by
  show (if q < 44 + 32 * ((k + 1 : Nat) : Int) then (if p = 0 then 0 else (fRow (44 + 32 * (k : Int))).bl S 0 (rdPtr (S p.toNat)) q) else (fDblRow n).bl S (k + 1) r q) = _
  by_cases hq : q < 44 + 32 * ((k + 1 : Nat) : Int)
  ·rw [if_pos hq, show (((q - 44) / 32) - k).toNat = 0 by omega, nth_cons0]
   unfold hangW
   split
   ·rfl
   ·rw [row_bl _ S _ 0 q (by omega)]
    congr 1
    omega
  ·rw [if_neg hq, dblRow_bl n S r (k + 1) q (by omega), show (((q - 44) / 32) - k).toNat = (((q - 44) / 32) - ((k + 1 : Nat) : Int)).toNat + 1 by omega, nth_consS]
theorem dirL_nth {raw : List Int} (hr : raw.length = 18) {k : Nat} (hk : k < 12) : nth (dirL raw) k = nth raw (4 + k) := by
 unfold dirL nth
 rw [List.getElem?_take, if_pos hk, List.getElem?_drop]
theorem inoBl_blkW (n : Int) (S : Nat → List Int) {raw : List Int} (hr : raw.length = 18) (k : Nat) (hk : k < 1068) : inoBl n S raw k = blkW S raw k := by
 unfold inoBl blkW
 by_cases h12 : k < 12
 ·rw [if_pos (show (k : Int) < 12 by omega), if_pos h12, row_bl 0 S _ 0 k (by omega), show ((k : Int) - 0 - ((0 : Nat) : Int)).toNat = k by omega, dirL_nth hr h12]
 ·rw [if_neg (show ¬ (k : Int) < 12 by omega), if_neg h12]
  by_cases h44 : k < 44
  ·rw [if_pos (show (k : Int) < 44 by omega), if_pos h44]
   show (if (k : Int) < 44 then (if nth raw 16 = 0 then 0 else (fRow 12).bl S 0 (rdPtr (S (nth raw 16).toNat)) k) else 0) = _
   rw [if_pos (by omega)]
   unfold hangW
   split
   ·rfl
   ·rw [row_bl 12 S _ 0 k (by omega)]
    congr 1
    omega
  ·rw [if_neg (show ¬ (k : Int) < 44 by omega), if_neg h44]
   show (if (k : Int) < 1068 then (if nth raw 17 = 0 then 0 else (fDblRow n).bl S 0 (rdPtr (S (nth raw 17).toNat)) k) else 0) = _
   rw [if_pos (by omega)]
   by_cases h17 : nth raw 17 = 0
   ·rw [if_pos h17, if_pos h17]
    unfold hangW
    rw [if_pos rfl]
   ·rw [if_neg h17, if_neg h17, dblRow_bl n S _ 0 k (by omega)]
    have e1 : ((((k : Int) - 44) / 32) - ((0 : Nat) : Int)).toNat = (k - 44) / 32 := by omega
    have e2 : (((k : Int) - 44) % 32).toNat = (k - 44) % 32 := by omega
    rw [e1, e2]
def BlIn (f : Form) : Prop := ∀ S p q, f.bl S p q = 0 ∨ f.bl S p q ∈ f.ps S p
theorem RowF.blin {R : RowF} (hR : ∀ k, BlIn (R.F k)) (S : Nat → List Int) : ∀ (ps : List Int) (k : Nat) (q : Int), R.bl S k ps q = 0 ∨ R.bl S k ps q ∈ R.ps S k ps
 | [], _, _ => .inl rfl
 | p :: r, k, q => by
  show (if q < R.lo (k + 1) then (if p = 0 then 0 else (R.F k).bl S p q) else R.bl S (k + 1) r q) = 0 ∨ (if q < R.lo (k + 1) then (if p = 0 then 0 else (R.F k).bl S p q) else R.bl S (k + 1) r q) ∈ (if p = 0 then [] else (R.F k).ps S p) ++ R.ps S (k + 1) r
  split
  ·split
   ·exact .inl rfl
   ·rcases hR k S p q with h | h
    ·exact .inl h
    ·exact .inr (List.mem_append_left _ h)
  ·rcases RowF.blin hR S r (k + 1) q with h | h
   ·exact .inl h
   ·exact .inr (List.mem_append_right _ h)
theorem leaf_blin : BlIn leafF := fun _ p _ => .inr (List.mem_singleton.2 rfl)
theorem tab_blin (n : Int) {R : RowF} (hR : ∀ k, BlIn (R.F k)) : BlIn (tabF n R) := fun S p q => by
 rcases RowF.blin hR S (rdPtr (S p.toNat)) 0 q with h | h
 ·exact .inl h
 ·exact .inr (List.mem_cons_of_mem _ h)
theorem ino_blin (n : Int) (S : Nat → List Int) (raw : List Int) (q : Int) : inoBl n S raw q = 0 ∨ inoBl n S raw q ∈ inoPs n S raw := by
 unfold inoBl inoPs
 have hd : ∀ k, BlIn ((fDblRow n).F k) := fun k => tab_blin n (fun _ => leaf_blin)
 split
 ·rcases RowF.blin (R := fRow 0) (fun _ => leaf_blin) S (dirL raw) 0 q with h | h
  ·exact .inl h
  ·exact .inr (List.mem_append_left _ h)
 ·split
  ·rcases RowF.blin (R := fSgl n) (fun _ => tab_blin n (fun _ => leaf_blin)) S [nth raw 16] 0 q with h | h
   ·exact .inl h
   ·exact .inr (List.mem_append_right _ (List.mem_append_left _ h))
  ·rcases RowF.blin (R := fDub n) (fun _ => tab_blin n hd) S [nth raw 17] 0 q with h | h
   ·exact .inl h
   ·exact .inr (List.mem_append_right _ (List.mem_append_right _ h))
theorem aims_of {X Y n : Int} {N : Nat} {S : Nat → List Int} {raw : List Int} (hY : 0 ≤ Y) (hX : X = N) (hN : 0 < N) (hr : raw.length = 18) (ho : ∀ p ∈ inoPs n S raw, isD X Y p = true) : Aims N S raw ∧ ∀ k : Nat, k < 1068 → 0 ≤ blkW S raw k ∧ blkW S raw k < N := by
 have hd : ∀ p ∈ inoPs n S raw, 0 ≤ p ∧ p < N := fun p hp => by
  have := ho p hp
  unfold isD at this
  have := of_decide_eq_true this
  omega
 have z : ∀ p : Int, (p = 0 ∨ p ∈ inoPs n S raw) → 0 ≤ p ∧ p < N := fun p h => by
  rcases h with rfl | h
  ·omega
  ·exact hd p h
 have h16 : nth raw 16 = 0 ∨ nth raw 16 ∈ inoPs n S raw := by
  by_cases h : nth raw 16 = 0
  ·exact .inl h
  ·right
   unfold inoPs
   refine List.mem_append_right _ (List.mem_append_left _ ?_)
   show _ ∈ (if nth raw 16 = 0 then [] else nth raw 16 :: _) ++ []
   rw [if_neg h]
   exact List.mem_append_left _ (List.mem_cons_self ..)
 have h17 : nth raw 17 = 0 ∨ nth raw 17 ∈ inoPs n S raw := by
  by_cases h : nth raw 17 = 0
  ·exact .inl h
  ·right
   unfold inoPs
   refine List.mem_append_right _ (List.mem_append_right _ ?_)
   show _ ∈ (if nth raw 17 = 0 then [] else nth raw 17 :: _) ++ []
   rw [if_neg h]
   exact List.mem_append_left _ (List.mem_cons_self ..)
 have mem : ∀ (l : List Int) (k : Nat) (p : Int), p ∈ l → p ≠ 0 → p ∈ (fDblRow n).ps S k l := by
  intro l
  induction l with
  | nil => intro k p h; cases h
  | cons a r ih =>
   intro k p h h0
   show p ∈ (if a = 0 then [] else a :: _) ++ _
   rcases List.mem_cons.1 h with e | h
   ·subst e
    rw [if_neg h0]
    exact List.mem_append_left _ (List.mem_cons_self ..)
   ·exact List.mem_append_right _ (ih (k + 1) p h h0)
 refine ⟨⟨hr, z _ h16, z _ h17, fun h p hp => ?_⟩, fun k hk => ?_⟩
 ·refine (z p ?_).2
  by_cases hp0 : p = 0
  ·exact .inl hp0
  ·right
   unfold inoPs
   refine List.mem_append_right _ (List.mem_append_right _ ?_)
   show _ ∈ (if nth raw 17 = 0 then [] else nth raw 17 :: (fDblRow n).ps S 0 (rdPtr (S (nth raw 17).toNat))) ++ []
   rw [if_neg h]
   exact List.mem_append_left _ (List.mem_cons_of_mem _ (mem _ 0 p hp hp0))
 ·rw [← inoBl_blkW n S hr k hk]
  exact z _ (ino_blin n S raw k)
noncomputable def wI (S : Nat → List Int) (i : Nat) : List Int := if i = 0 then zl 18 else (rdInoR (S i)).1
theorem wI_yes (S : Nat → List Int) {i : Nat} (h : 1 ≤ i) : wI S i = (rdInoR (S i)).1 := if_neg (by omega)
def ptrsA (X Y : Int) (S I : Nat → List Int) : List Nat → (Int → Bool) → Option (Int → Bool)
 | [], s => some s
 | i :: r, s => if nth (I i) 0 = 0 then ptrsA X Y S I r s else match ptrsW X Y S (cntX (nth (I i) 2)) (I i) s with | none => none | some s' => ptrsA X Y S I r s'
def ptI (S I : Nat → List Int) (i : Nat) : List Int := if nth (I i) 0 = 0 then [] else inoPs (cntX (nth (I i) 2)) S (I i)
def Reached (L : Nat → List Ent) (j : Nat) : Prop := ∀ P : Nat → Prop, P 1 → Closed L P → P j
def wantW (L : Nat → List Ent) (M i : Nat) : Int := if i = 1 then 1 else (cntI L M i : Int)
structure InoOkW (S I : Nat → List Int) (M i : Nat) : Prop where
 rc : Reached (entL S I M) i
 ln : nth (I i) 1 = wantW (entL S I M) M i
 w1 : 1 ≤ wantW (entL S I M) M i
 w2 : wantW (entL S I M) M i ≤ 100
 kd : nth (I i) 0 = 2 → wantW (entL S I M) M i = 1
 tl : tailW S (I i) = true
structure WellP (N : Nat) (S : Nat → List Int) : Prop where
 n8 : 8 ≤ N
 n9 : N ≤ 4096
 su : (rdSupR (S 0)).2.2 = 0
 sn : (rdSupR (S 0)).1 = N
 rd : ∀ i : Nat, 1 ≤ i → (i : Int) ≤ (rdSupR (S 0)).2.1 → (rdInoR (S i)).2 = 0
 pt : (ptrsA N (rdSupR (S 0)).2.1 S (wI S) (List.range' 1 (rdSupR (S 0)).2.1.toNat) (fun _ => false)).isSome = true
 rt : nth (wI S 1) 0 = 2
 dr : DirsOk S (wI S) ((rdSupR (S 0)).2.1.toNat + 1)
 al : ∀ i, 1 ≤ i → i < (rdSupR (S 0)).2.1.toNat + 1 → nth (wI S i) 0 ≠ 0 → InoOkW S (wI S) ((rdSupR (S 0)).2.1.toNat + 1) i
theorem Inos.put {w : World} {g M : Nat} {I I' : Nat → List Int} {cs : Array Value} (h : hat w g = some (.cells cs 45)) (hs : cs.size = M * 18) (hx : ∀ i, i < M → (I i).length = 18 ∧ cs.extract (i * 18) (i * 18 + 18) = IV .i64 (I i)) {i : Nat} (hi : i < M) {raw : List Int} (hr : raw.length = 18) (hI : ∀ j, j < M → I' j = if j = i then raw else I j) :
  Inos (w.setRow g (splice cs (i * 18) (IV .i64 raw))) g M I' := by
 have hz : (IV .i64 raw).size = 18 := by simp [hr]
 refine ⟨_, hat_setRow_at _ _ _ _ _ _ h, by rw [splice_size _ _ _ (by omega)]; exact hs, fun j hj => ?_⟩
 obtain ⟨hl, he⟩ := hx j hj
 rw [hI j hj]
 by_cases hji : j = i
 ·subst hji
  rw [if_pos rfl]
  refine ⟨hr, ?_⟩
  apply Array.ext_getElem?
  intro k
  unfold splice
  rw [Array.getElem?_extract]
  simp only [List.size_toArray, List.getElem?_toArray]
  by_cases hk : k < 18
  ·have hlen : (cs.toList.take (j * 18) ++ (IV .i64 raw).toList ++ cs.toList.drop (j * 18 + (IV .i64 raw).size)).length = cs.size := by simp [hr]; omega
   rw [hlen, if_pos (by omega), List.getElem?_append_left (by simp [hr]; omega), List.getElem?_append_right (by simp; omega)]
   simp only [List.length_take, Array.length_toList, Nat.min_eq_left (show j * 18 ≤ cs.size by omega), Nat.add_sub_cancel_left, Array.getElem?_toList]
  ·rw [if_neg (by simp [hr]; omega), IV_get?, List.getElem?_eq_none (by omega)]; rfl
 ·rw [if_neg hji]
  refine ⟨hl, ?_⟩
  rw [← he]
  apply Array.ext_getElem?
  intro k
  unfold splice
  rw [Array.getElem?_extract, Array.getElem?_extract]
  simp only [List.size_toArray, List.getElem?_toArray]
  have hlen : (cs.toList.take (i * 18) ++ (IV .i64 raw).toList ++ cs.toList.drop (i * 18 + (IV .i64 raw).size)).length = cs.size := by simp [hr]; omega
  rw [hlen]
  split
  ·rename_i hk
   rcases Nat.lt_or_ge j i with hlt | hge
   ·rw [List.append_assoc, List.getElem?_append_left (by simp; omega), List.getElem?_take, if_pos (by omega), Array.getElem?_toList]
   ·rw [List.getElem?_append_right (by simp [hr]; omega), List.getElem?_drop, Array.getElem?_toList]
    congr 1
    simp [hr]; omega
  ·rfl
def WellOut (N : Nat) (S : Nat → List Int) (w : World) (e : Ending) (w' : World) : Prop := ∃ b, e = .returned (.bool b) ∧ (b = true ↔ WellP N S) ∧ Below w.heap.size w w'
def keysN (n : Nat) (s : Int → Bool) : List Int := ((List.range n).filter fun (i : Nat) => s (i : Int)).map fun (i : Nat) => (i : Int)
def keysL (s : Int → Bool) : List Int := keysN 4096 s
theorem mem_keysN {n : Nat} {s : Int → Bool} {x : Int} : x ∈ keysN n s ↔ 0 ≤ x ∧ x < n ∧ s x = true := by
 unfold keysN
 rw [List.mem_map]
 constructor
 ·rintro ⟨i, hi, rfl⟩
  rw [List.mem_filter, List.mem_range] at hi
  exact ⟨by omega, by omega, hi.2⟩
 ·rintro ⟨h0, h1, h2⟩
  obtain ⟨i, rfl⟩ := Int.eq_ofNat_of_zero_le h0
  exact ⟨i, List.mem_filter.2 ⟨List.mem_range.2 (by omega), h2⟩, rfl⟩
theorem keysN_up (n : Nat) (s : Int → Bool) : (keysN n s).Pairwise (· < ·) := by
 unfold keysN
 rw [List.pairwise_map]
 refine List.Pairwise.imp ?_ ((List.pairwise_lt_range (n := n)).filter _)
 intro a b h; omega
theorem up_unique : ∀ (l m : List Int), l.Pairwise (· < ·) → m.Pairwise (· < ·) → (∀ x, x ∈ l ↔ x ∈ m) → l = m
 | [], [], _, _, _ => rfl
 | [], b :: m, _, _, h => by have := (h b).2 (by simp); cases this
 | a :: l, [], _, _, h => by have := (h a).1 (by simp); cases this
 | a :: l, b :: m, hl, hm, h => by
  rw [List.pairwise_cons] at hl hm
  have hab : a = b := by
   have h1 := (h a).1 (by simp)
   have h2 := (h b).2 (by simp)
   rw [List.mem_cons] at h1 h2
   rcases h1 with h1 | h1
   ·exact h1
   ·rcases h2 with h2 | h2
    ·exact h2.symm
    ·have := hm.1 a h1
     have := hl.1 b h2
     omega
  subst hab
  congr 1
  refine up_unique l m hl.2 hm.2 fun x => ?_
  constructor
  ·intro hx
   have h1 := (h x).1 (by simp [hx])
   rw [List.mem_cons] at h1
   rcases h1 with h1 | h1
   ·have := hl.1 x hx; omega
   ·exact h1
  ·intro hx
   have h1 := (h x).2 (by simp [hx])
   rw [List.mem_cons] at h1
   rcases h1 with h1 | h1
   ·have := hm.1 x hx; omega
   ·exact h1
theorem sort_keys {n : Nat} {s : Int → Bool} {xs : List Int} (hx : xs.Pairwise (· ≠ ·)) (hm : ∀ x, x ∈ xs ↔ 0 ≤ x ∧ x < n ∧ s x = true) : (xs.mergeSort fun x y => decide (x ≤ y)) = keysN n s := by
 have hp := List.mergeSort_perm xs fun x y => decide (x ≤ y)
 have hs := List.pairwise_mergeSort (le := fun x y : Int => decide (x ≤ y)) (fun a b c h1 h2 => by simp at h1 h2 ⊢; omega) (fun a b => by simp; omega) xs
 have hn : (xs.mergeSort fun x y => decide (x ≤ y)).Pairwise (· ≠ ·) := (hp.pairwise_iff (fun {a b} h => fun e => h e.symm)).2 hx
 refine up_unique _ _ ?_ (keysN_up n s) fun x => ?_
 ·refine List.Pairwise.imp ?_ (hs.and hn)
  intro a b h
  have h1 : a ≤ b := by simpa using h.1
  have := h.2
  omega
 ·rw [hp.mem_iff, hm x, mem_keysN]
theorem few_ints {n : Nat} {xs : List Int} (hx : xs.Pairwise (· ≠ ·)) (hm : ∀ x ∈ xs, 0 ≤ x ∧ x < n) : xs.length ≤ n := by
 have h := few_nats n (xs.map Int.toNat) (map_apart xs Int.toNat (· ≠ ·) hx (fun a ha b hb hab e => hab (by have := hm a ha; have := hm b hb; omega))) (fun y hy => by
  obtain ⟨z, hz, rfl⟩ := List.mem_map.1 hy
  have := hm z hz
  omega)
 simpa using h
theorem infoInt : (Tryz.prog.info? 3).map (fun i => (i.zero, i.size, i.bytes)) = some (some (.int .i64 0), 1, 8) := by kernel_rfl
theorem info_int : ∃ i0, Tryz.prog.info? 3 = some i0 ∧ i0.zero = some (.int .i64 0) ∧ i0.size = 1 ∧ i0.bytes = 8 := by
 have h := infoInt
 cases hq : Tryz.prog.info? 3 with
 | none => rw [hq] at h; cases h
 | some inf =>
  rw [hq] at h
  simp at h
  exact ⟨inf, rfl, h.1, h.2.1, h.2.2⟩
def IRow (w : World) (base : Nat) (v : Value) (xs : List Int) : Prop := w.ownsRow base 3 1 v xs.length (xs.map (Value.int .i64))
theorem IRow.nil (w : World) (base : Nat) : IRow w base (.slice none 0 0) [] := ⟨rfl, .inl ⟨rfl, rfl⟩⟩
theorem IRow.base {w : World} {b b' : Nat} {v : Value} {xs : List Int} (h : IRow w b v xs) (hb : b' ≤ b) : IRow w b' v xs := by
 obtain ⟨h1, h2⟩ := h
 refine ⟨h1, h2.imp id ?_⟩
 rintro ⟨g, cap, cur, a1, a2, a3⟩
 exact ⟨g, cap, cur, a1, Nat.le_trans hb a2, a3⟩
theorem IRow.fr {w w' : World} {b : Nat} {v : Value} {xs : List Int} {ex : List Nat} (h : IRow w b v xs) (hf : Fr ex w w') (hx : ∀ k ∈ ex, k < b) : IRow w' b v xs := by
 obtain ⟨h1, h2⟩ := h
 refine ⟨h1, h2.imp id ?_⟩
 rintro ⟨g, cap, cur, a1, a2, a3, a4⟩
 exact ⟨g, cap, cur, a1, a2, (hf.block g (hat_lt (w := w) a3) (fun hm => by have := hx g hm; omega)).trans a3, a4⟩
theorem sorted_bool (b : Nat) (D : DataW Unit) (s : Int → Bool) (w : World) (hown : w.ownsMap Tryz.prog 3 (plainElem Tryz.prog 4) b 4096 D) (hhas : ∀ p, i64ok p → Go.Maps.has D (.int .i64 p) = s p) (hs : ∀ p, s p = true → 0 ≤ p ∧ p < 4096) :
  Calls Tryz.prog 63 #[.map (some b)] w fun e w' => ∃ v, e = .returned v ∧ IRow w' w.heap.size v (keysL s) ∧ Below w.heap.size w w' := by
 obtain ⟨i0, hi, hz0, hz1, hz2⟩ := info_int
 have HHAS := Lib.hid hhas
 have HS := Lib.hid hs
 have hbl := hown.lt
 clear hhas hs
 go_enter Tryz.func63, Tryz.ntmps63
 go_wp2_with (first | (at_range; refine wpList_range_own _ rfl _ _ rfl 3 4 (Go.Maps.int_keyed Tryz.underlying3) Tryz.underlying58 (plainElem Tryz.prog 4) b 4096 D rfl hown ?_; intro w9 hrg hgr hsz) | fail)
 try go_frame
 have HB9 := Lib.hid (show Fr [] w w9 from ⟨hgr.os, hgr.tape, hgr.output, hgr.size, fun k hk _ => hgr.block k hk (by simp)⟩)
 have HRG := Lib.hid hrg
 clear hrg hgr hown
 go_loopw [3] (fun v wr => ∃ (left : Lit → Bool) (cnt : Nat) (xs : List Int), wr.ranges Tryz.prog 3 (plainElem Tryz.prog 4) b w.heap.size 4096 D left cnt ∧ Hid (IRow wr w9.heap.size v xs) ∧ Hid (xs.Pairwise (· ≠ ·)) ∧ Hid (∀ x ∈ xs, s x = true ∧ left (.int .i64 x) = false) ∧
   Hid (∀ z, left z = true → Go.Maps.has D z = true) ∧ Hid (∀ p, s p = true → left (.int .i64 p) = true ∨ p ∈ xs) ∧ Hid (Fr [w.heap.size] w9 wr)) (fun _ wr => wr.rangeLeft b w.heap.size)
 case atStart =>
  refine ⟨_, _, [], HRG.out, Lib.hid (IRow.nil _ _), Lib.hid (by simp), Lib.hid (by simp), Lib.hid (fun _ h => h), Lib.hid (fun p hp => .inl ?_), Lib.hid (Fr.refl _ _)⟩
  have := HS.out p hp
  rw [HHAS.out p ⟨by omega, by omega⟩]
  exact hp
 case round =>
  obtain ⟨left, cnt, xs, hrg, HOWN, HND, HIN, HL1, HL2, HFR⟩ := hrel
  go_wp2_with (first | (at_next; refine wpList_next_ranges _ rfl _ rfl 3 (Go.Maps.int_keyed Tryz.underlying3) (plainElem Tryz.prog 4) (Value.int .i64) (fun v : Value => v) (fun key kl hkey => by obtain ⟨x, rfl, _⟩ := Go.Maps.keyOf_int_inv Tryz.underlying3 hkey; exact ⟨x, rfl⟩) (fun v y hv => ⟨v, rfl⟩) b w.heap.size 4096 _ _ _ rfl hrg ?_ ?_) | fail)
  ·intro hc0 hl0
   have hmem : ∀ x, x ∈ xs ↔ 0 ≤ x ∧ x < (4096 : Nat) ∧ s x = true := fun x => ⟨fun h => by
    have h1 := (HIN.out x h).1
    have h2 := HS.out x h1
    exact ⟨h2.1, by omega, h1⟩, fun h => by
    rcases HL2.out x h.2.2 with h1 | h1
    ·rw [hl0] at h1; cases h1
    ·exact h1⟩
   have hsort := sort_keys (n := 4096) HND.out hmem
   have hsz9 : w.heap.size ≤ w9.heap.size := by omega
   have hfin : Fr [] w wr := (HB9.out.mono (ex' := [w.heap.size]) (by simp)).trans HFR.out |>.old (by simp)
   have hlen : (xs.mergeSort fun x y => decide (x ≤ y)).length = xs.length := List.length_mergeSort _
   have hxl : xs.length ≤ 4096 := few_ints HND.out (fun x hx => by have := (hmem x).1 hx; omega)
   have HSORT := Lib.hid hsort
   have HFIN := Lib.hid hfin
   have HLEN := Lib.hid hlen
   obtain ⟨-, hv⟩ := HOWN.out
   clear hrg hl0 HL1 HL2 hmem hsort hfin hlen HRG
   rcases hv with ⟨rfl, hx0⟩ | ⟨g, cap, cur, rfl, hg, hcur, hn, hcap, hsz2, htake⟩
   ·go_wp2_with fail
    refine (Tryz.slices_Sort_int_none none 0 wr).mono ?_; rintro e w5 ⟨rfl, rfl⟩
    go_wp2_with fail
    go_ret
    have hk : keysL s = [] := by
     have := HSORT.out
     rw [List.eq_nil_of_length_eq_zero hx0, List.mergeSort_nil] at this
     exact this.symm
    rw [hk]
    exact ⟨_, rfl, IRow.nil _ _, HFIN.out.below (Nat.le_refl _) (by simp)⟩
   ·have hholds := holds_of_blockI (ss := xs) hcur (by rw [← Nat.mul_one xs.length]; exact htake)
    have hgl := hat_lt (w := wr) hcur
    have HT := Lib.hid htake
    have HC := Lib.hid hcur
    clear htake
    go_wp2_with fail
    refine (Tryz.slices_Sort_int g 0 cap xs wr hholds hgl (by omega)).mono ?_; rintro e w5 ⟨rfl, nn, os, rfl⟩
    have hown5 := ownsRow_sortedI (n := nn) (os := os) HLEN.out hg HC.out hn hcap hsz2
    have hgb := grownBy_sortedI (w := wr) (g := g) (n := nn) (os := os) ((xs.mergeSort fun x y => decide (x ≤ y)).toArray)
    rw [HSORT.out] at hown5 hgb HLEN ⊢
    have hb5 := HFIN.out.below (B := w.heap.size) (Nat.le_refl _) (by simp)
    have hb6 := hb5.grown hgb hb5.size (fun q hq => by injection hq; omega)
    generalize Go.Sort.grow (Go.Sort.putRow (Value.int .i64) (Go.Sort.ahead wr nn) g 0 (keysN 4096 s).toArray) os = w6 at *
    clear hholds hgb
    go_wp2_with fail
    go_ret
    refine ⟨_, rfl, IRow.base ?_ hsz9, hb6⟩
    unfold IRow
    rw [show keysL s = keysN 4096 s from rfl, HLEN.out]
    exact hown5
  ·intro x c kl y1 y2 w10 cnt1 hkey hlx hry hat10 hrg1 hlt hg1 hs1 hen
   obtain ⟨x', hxe, rfl, hwx⟩ := Go.Maps.keyOf_int_inv Tryz.underlying3 hkey
   obtain rfl : x = x' := by injection hxe
   have hx64 := i64_of_wf hwx
   have hsx : s x = true := by rw [← HHAS.out x hx64]; exact HL1.out _ hlx
   have hxr := HS.out x hsx
   have hxn : x ∉ xs := fun hm => by have := (HIN.out x hm).2; rw [hlx] at this; cases this
   have hf10 : Fr [w.heap.size] wr w10 := ⟨hg1.os, hg1.tape, hg1.output, hg1.size, fun k hk hn => hg1.block k hk (by simpa using hn)⟩
   have hxl : xs.length ≤ 4096 := few_ints HND.out (fun x hx => by have := HS.out x (HIN.out x hx).1; omega)
   have hown10 := HOWN.out.fr hf10 (by simp; omega)
   have hwz : w9.heap.size ≤ w10.heap.size := Nat.le_trans HFR.out.size hf10.size
   have HF10 := Lib.hid hf10
   have HO := Lib.hid hown10
   have HRG1 := Lib.hid hrg1
   have HRGO := Lib.hid hrg
   clear hrg1 hown10 hf10 hat10 hkey hry hrg hxe hwx hg1
   go_wp2_with (at_builtin; refine wpList_append_own _ rfl (.tmp 11) (.tmp 13) 24 rfl w9.heap.size 3 i0 _ 1 8 Tryz.underlying24 hi hz0 hz1 hz2 rfl (by decide) u3 xs.length (xs.map (Value.int .i64)) rfl (HO.out.alloc _) ⟨wr.heap.size, 0, none⟩ 1 1 [.int .i64 x] rfl rfl ?c1 ?c2 ?c3 ?c4 ?c5 (fun v' w1 hown' hgrow _ => ?_))
   case c1 =>
    intro j u hj
    have hj3 : j < 1 := by
     have := (List.getElem?_eq_some_iff.1 hj).1
     simpa using this
    rw [add_none, Nat.zero_add, cell_hat (hat_alloc_at _ _ _ hs1.symm)]
    simpa using hj
   case c2 =>
    intro u hu
    simp at hu
    subst hu
    rfl
   case c3 => unfold maxLen; omega
   case c4 => omega
   case c5 => simp only [World.size_alloc]; omega
   have hnb : ∀ k, u3.ownBlock = some k → w9.heap.size ≤ k := fun k hk => by
    refine Nat.le_of_not_lt fun h => ?_
    exact ownsRow_ne HO.out h hk
   have hga : w10.grownBy (w10.alloc (.cells #[.int .i64 x] 3)) none := ⟨rfl, rfl, rfl, by simp, fun k hk _ => hat_alloc_past _ _ _ hk⟩
   have HRG2 := Lib.hid ((HRG1.out.kept hga (by simp) (by simp)).kept hgrow (fun e => by have := hnb _ e.symm; omega) (fun e => by have := hnb _ e.symm; omega))
   go_roundw
   case rel =>
    refine ⟨_, cnt1, xs ++ [x], HRG2.out, Lib.hid ?_, Lib.hid ?_, Lib.hid (fun z hz => ?_), Lib.hid (fun z hz => HL1.out z (by rw [Bool.and_eq_true] at hz; exact hz.1)), Lib.hid (fun p hp => ?_), Lib.hid ?_⟩
    ·unfold IRow
     rw [List.length_append, List.map_append]
     exact hown'
    ·rw [List.pairwise_append]
     refine ⟨HND.out, by simp, fun a ha b hb => ?_⟩
     rw [List.mem_singleton] at hb
     subst hb
     exact fun e => hxn (by rw [← e]; exact ha)
    ·rw [List.mem_append, List.mem_singleton] at hz
     rcases hz with hz | rfl
     ·exact ⟨(HIN.out z hz).1, by rw [(HIN.out z hz).2]; rfl⟩
     ·exact ⟨hsx, by simp [Lit.sameKey]⟩
    ·by_cases hpx : p = x
     ·subst hpx; exact .inr (by simp)
     ·rcases HL2.out p hp with h | h
      ·refine .inl ?_
       rw [h]
       simp [Lit.sameKey, hpx]
      ·exact .inr (by simp [h])
    ·have f1 := HFR.out.trans HF10.out
     refine ⟨hgrow.os.trans f1.os, hgrow.tape.trans f1.tape, hgrow.output.trans f1.output, Nat.le_trans f1.size (Nat.le_trans (by simp) hgrow.size), fun k hk hn => ?_⟩
     exact ((hgrow.block k (by simp; omega) (fun e => by have := hnb _ e.symm; omega)).trans (hat_alloc_past _ _ _ (by omega))).trans (f1.block k hk hn)
   case measure =>
    rw [HRG2.out.left_eq, HRGO.out.left_eq]
    exact hlt
theorem sorted_ptr (b : Nat) (D : DataW Unit) (s : Int → Bool) (w : World) (hown : w.ownsMap Tryz.prog 3 (ptrElem) b 4096 D) (hhas : ∀ p, i64ok p → Go.Maps.has D (.int .i64 p) = s p) (hs : ∀ p, s p = true → 0 ≤ p ∧ p < 4096) :
  Calls Tryz.prog 62 #[.map (some b)] w fun e w' => ∃ v, e = .returned v ∧ IRow w' w.heap.size v (keysL s) ∧ Below w.heap.size w w' := by
 obtain ⟨i0, hi, hz0, hz1, hz2⟩ := info_int
 have HHAS := Lib.hid hhas
 have HS := Lib.hid hs
 have hbl := hown.lt
 clear hhas hs
 go_enter Tryz.func62, Tryz.ntmps62
 go_wp2_with (first | (at_range; refine wpList_range_own _ rfl _ _ rfl 3 70 (Go.Maps.int_keyed Tryz.underlying3) Tryz.underlying59 (ptrElem) b 4096 D rfl hown ?_; intro w9 hrg hgr hsz) | fail)
 try go_frame
 have HB9 := Lib.hid (show Fr [] w w9 from ⟨hgr.os, hgr.tape, hgr.output, hgr.size, fun k hk _ => hgr.block k hk (by simp)⟩)
 have HRG := Lib.hid hrg
 clear hrg hgr hown
 go_loopw [3] (fun v wr => ∃ (left : Lit → Bool) (cnt : Nat) (xs : List Int), wr.ranges Tryz.prog 3 (ptrElem) b w.heap.size 4096 D left cnt ∧ Hid (IRow wr w9.heap.size v xs) ∧ Hid (xs.Pairwise (· ≠ ·)) ∧ Hid (∀ x ∈ xs, s x = true ∧ left (.int .i64 x) = false) ∧
   Hid (∀ z, left z = true → Go.Maps.has D z = true) ∧ Hid (∀ p, s p = true → left (.int .i64 p) = true ∨ p ∈ xs) ∧ Hid (Fr [w.heap.size] w9 wr)) (fun _ wr => wr.rangeLeft b w.heap.size)
 case atStart =>
  refine ⟨_, _, [], HRG.out, Lib.hid (IRow.nil _ _), Lib.hid (by simp), Lib.hid (by simp), Lib.hid (fun _ h => h), Lib.hid (fun p hp => .inl ?_), Lib.hid (Fr.refl _ _)⟩
  have := HS.out p hp
  rw [HHAS.out p ⟨by omega, by omega⟩]
  exact hp
 case round =>
  obtain ⟨left, cnt, xs, hrg, HOWN, HND, HIN, HL1, HL2, HFR⟩ := hrel
  go_wp2_with (first | (at_next; refine wpList_next_ranges _ rfl _ rfl 3 (Go.Maps.int_keyed Tryz.underlying3) (ptrElem) (Value.int .i64) (fun v : Value => v) (fun key kl hkey => by obtain ⟨x, rfl, _⟩ := Go.Maps.keyOf_int_inv Tryz.underlying3 hkey; exact ⟨x, rfl⟩) (fun v y hv => ⟨v, rfl⟩) b w.heap.size 4096 _ _ _ rfl hrg ?_ ?_) | fail)
  ·intro hc0 hl0
   have hmem : ∀ x, x ∈ xs ↔ 0 ≤ x ∧ x < (4096 : Nat) ∧ s x = true := fun x => ⟨fun h => by
    have h1 := (HIN.out x h).1
    have h2 := HS.out x h1
    exact ⟨h2.1, by omega, h1⟩, fun h => by
    rcases HL2.out x h.2.2 with h1 | h1
    ·rw [hl0] at h1; cases h1
    ·exact h1⟩
   have hsort := sort_keys (n := 4096) HND.out hmem
   have hsz9 : w.heap.size ≤ w9.heap.size := by omega
   have hfin : Fr [] w wr := (HB9.out.mono (ex' := [w.heap.size]) (by simp)).trans HFR.out |>.old (by simp)
   have hlen : (xs.mergeSort fun x y => decide (x ≤ y)).length = xs.length := List.length_mergeSort _
   have hxl : xs.length ≤ 4096 := few_ints HND.out (fun x hx => by have := (hmem x).1 hx; omega)
   have HSORT := Lib.hid hsort
   have HFIN := Lib.hid hfin
   have HLEN := Lib.hid hlen
   obtain ⟨-, hv⟩ := HOWN.out
   clear hrg hl0 HL1 HL2 hmem hsort hfin hlen HRG
   rcases hv with ⟨rfl, hx0⟩ | ⟨g, cap, cur, rfl, hg, hcur, hn, hcap, hsz2, htake⟩
   ·go_wp2_with fail
    refine (Tryz.slices_Sort_int_none none 0 wr).mono ?_; rintro e w5 ⟨rfl, rfl⟩
    go_wp2_with fail
    go_ret
    have hk : keysL s = [] := by
     have := HSORT.out
     rw [List.eq_nil_of_length_eq_zero hx0, List.mergeSort_nil] at this
     exact this.symm
    rw [hk]
    exact ⟨_, rfl, IRow.nil _ _, HFIN.out.below (Nat.le_refl _) (by simp)⟩
   ·have hholds := holds_of_blockI (ss := xs) hcur (by rw [← Nat.mul_one xs.length]; exact htake)
    have hgl := hat_lt (w := wr) hcur
    have HT := Lib.hid htake
    have HC := Lib.hid hcur
    clear htake
    go_wp2_with fail
    refine (Tryz.slices_Sort_int g 0 cap xs wr hholds hgl (by omega)).mono ?_; rintro e w5 ⟨rfl, nn, os, rfl⟩
    have hown5 := ownsRow_sortedI (n := nn) (os := os) HLEN.out hg HC.out hn hcap hsz2
    have hgb := grownBy_sortedI (w := wr) (g := g) (n := nn) (os := os) ((xs.mergeSort fun x y => decide (x ≤ y)).toArray)
    rw [HSORT.out] at hown5 hgb HLEN ⊢
    have hb5 := HFIN.out.below (B := w.heap.size) (Nat.le_refl _) (by simp)
    have hb6 := hb5.grown hgb hb5.size (fun q hq => by injection hq; omega)
    generalize Go.Sort.grow (Go.Sort.putRow (Value.int .i64) (Go.Sort.ahead wr nn) g 0 (keysN 4096 s).toArray) os = w6 at *
    clear hholds hgb
    go_wp2_with fail
    go_ret
    refine ⟨_, rfl, IRow.base ?_ hsz9, hb6⟩
    unfold IRow
    rw [show keysL s = keysN 4096 s from rfl, HLEN.out]
    exact hown5
  ·intro x c kl y1 y2 w10 cnt1 hkey hlx hry hat10 hrg1 hlt hg1 hs1 hen
   obtain ⟨x', hxe, rfl, hwx⟩ := Go.Maps.keyOf_int_inv Tryz.underlying3 hkey
   obtain rfl : x = x' := by injection hxe
   have hx64 := i64_of_wf hwx
   have hsx : s x = true := by rw [← HHAS.out x hx64]; exact HL1.out _ hlx
   have hxr := HS.out x hsx
   have hxn : x ∉ xs := fun hm => by have := (HIN.out x hm).2; rw [hlx] at this; cases this
   have hf10 : Fr [w.heap.size] wr w10 := ⟨hg1.os, hg1.tape, hg1.output, hg1.size, fun k hk hn => hg1.block k hk (by simpa using hn)⟩
   have hxl : xs.length ≤ 4096 := few_ints HND.out (fun x hx => by have := HS.out x (HIN.out x hx).1; omega)
   have hown10 := HOWN.out.fr hf10 (by simp; omega)
   have hwz : w9.heap.size ≤ w10.heap.size := Nat.le_trans HFR.out.size hf10.size
   have HF10 := Lib.hid hf10
   have HO := Lib.hid hown10
   have HRG1 := Lib.hid hrg1
   have HRGO := Lib.hid hrg
   clear hrg1 hown10 hf10 hat10 hkey hry hrg hxe hwx hg1
   go_wp2_with (at_builtin; refine wpList_append_own _ rfl (.tmp 11) (.tmp 13) 24 rfl w9.heap.size 3 i0 _ 1 8 Tryz.underlying24 hi hz0 hz1 hz2 rfl (by decide) u3 xs.length (xs.map (Value.int .i64)) rfl (HO.out.alloc _) ⟨wr.heap.size, 0, none⟩ 1 1 [.int .i64 x] rfl rfl ?c1 ?c2 ?c3 ?c4 ?c5 (fun v' w1 hown' hgrow _ => ?_))
   case c1 =>
    intro j u hj
    have hj3 : j < 1 := by
     have := (List.getElem?_eq_some_iff.1 hj).1
     simpa using this
    rw [add_none, Nat.zero_add, cell_hat (hat_alloc_at _ _ _ hs1.symm)]
    simpa using hj
   case c2 =>
    intro u hu
    simp at hu
    subst hu
    rfl
   case c3 => unfold maxLen; omega
   case c4 => omega
   case c5 => simp only [World.size_alloc]; omega
   have hnb : ∀ k, u3.ownBlock = some k → w9.heap.size ≤ k := fun k hk => by
    refine Nat.le_of_not_lt fun h => ?_
    exact ownsRow_ne HO.out h hk
   have hga : w10.grownBy (w10.alloc (.cells #[.int .i64 x] 3)) none := ⟨rfl, rfl, rfl, by simp, fun k hk _ => hat_alloc_past _ _ _ hk⟩
   have HRG2 := Lib.hid ((HRG1.out.kept hga (by simp) (by simp)).kept hgrow (fun e => by have := hnb _ e.symm; omega) (fun e => by have := hnb _ e.symm; omega))
   go_roundw
   case rel =>
    refine ⟨_, cnt1, xs ++ [x], HRG2.out, Lib.hid ?_, Lib.hid ?_, Lib.hid (fun z hz => ?_), Lib.hid (fun z hz => HL1.out z (by rw [Bool.and_eq_true] at hz; exact hz.1)), Lib.hid (fun p hp => ?_), Lib.hid ?_⟩
    ·unfold IRow
     rw [List.length_append, List.map_append]
     exact hown'
    ·rw [List.pairwise_append]
     refine ⟨HND.out, by simp, fun a ha b hb => ?_⟩
     rw [List.mem_singleton] at hb
     subst hb
     exact fun e => hxn (by rw [← e]; exact ha)
    ·rw [List.mem_append, List.mem_singleton] at hz
     rcases hz with hz | rfl
     ·exact ⟨(HIN.out z hz).1, by rw [(HIN.out z hz).2]; rfl⟩
     ·exact ⟨hsx, by simp [Lit.sameKey]⟩
    ·by_cases hpx : p = x
     ·subst hpx; exact .inr (by simp)
     ·rcases HL2.out p hp with h | h
      ·refine .inl ?_
       rw [h]
       simp [Lit.sameKey, hpx]
      ·exact .inr (by simp [h])
    ·have f1 := HFR.out.trans HF10.out
     refine ⟨hgrow.os.trans f1.os, hgrow.tape.trans f1.tape, hgrow.output.trans f1.output, Nat.le_trans f1.size (Nat.le_trans (by simp) hgrow.size), fun k hk hn => ?_⟩
     exact ((hgrow.block k (by simp; omega) (fun e => by have := hnb _ e.symm; omega)).trans (hat_alloc_past _ _ _ (by omega))).trans (f1.block k hk hn)
   case measure =>
    rw [HRG2.out.left_eq, HRGO.out.left_eq]
    exact hlt
theorem row26 : RowTy Tryz.prog 26 4 := rowTy Tryz.underlying26 rfl (by kernel_rfl)
def differL (n : Nat) (S I : Nat → List Int) (sort : Nat → Bool) : List Int := ((List.range n).filter fun (i : Nat) => decide (S i ≠ I i) && sort i).map fun (i : Nat) => (i : Int)
def writeL (N : Nat) (Y : Int) (S I : Nat → List Int) (fm : Int → Bool) : List Int :=
 differL N S I (fun i => !decide ((i : Int) ≤ Y) && fm i) ++ differL N S I (fun i => decide ((i : Int) ≤ Y)) ++ differL N S I (fun i => !decide ((i : Int) ≤ Y) && !fm i)
theorem keysN_congr {n : Nat} {s s' : Int → Bool} (h : ∀ i : Nat, i < n → s i = s' i) : keysN n s = keysN n s' := by
 unfold keysN
 congr 1
 apply List.filter_congr
 intro i hi
 exact h i (List.mem_range.1 hi)
theorem keysL_congr {s s' : Int → Bool} (h : ∀ i : Nat, i < 4096 → s i = s' i) : keysL s = keysL s' := keysN_congr h
theorem QRow.sl {w : World} {v : Value} {ob : Option Nat} {xs : List Int} (h : QRow w v ob xs) : ∃ a n c, v = .slice a n c := by
 obtain ⟨a, c, h⟩ := h.slice
 exact ⟨a, _, c, h⟩
theorem IRow.q {w : World} {base : Nat} {v : Value} {xs : List Int} (h : IRow w base v xs) : ∃ o, QRow w v o xs ∧ ∀ g, o = some g → base ≤ g ∧ g < w.heap.size := by
 obtain ⟨h1, h2⟩ := h
 rcases h2 with ⟨rfl, h2⟩ | ⟨g, cap, cur, rfl, hg, hcur, hn, hcap, hsz, ht⟩
 ·exact ⟨none, .inl ⟨rfl, rfl, List.eq_nil_of_length_eq_zero h2⟩, fun g hg => by cases hg⟩
 ·refine ⟨some g, .inr ⟨g, 0, cap, cur, rfl, rfl, hcur, hn, by omega, fun j p hj => ?_⟩, fun q hq => by cases hq; exact ⟨hg, hat_lt (w := w) hcur⟩⟩
  have hjl : j < xs.length := (List.getElem?_eq_some_iff.1 hj).1
  have h3 : (cur.toList.take (xs.length * 1))[j]? = (xs.map (Value.int .i64))[j]? := by rw [ht]
  rw [List.getElem?_take, if_pos (by omega), List.getElem?_map, hj] at h3
  rw [Nat.zero_add]
  simpa using h3
def put4 (w : World) (g : Nat) (a b c d : Value) : World := (((w.setCell ⟨g, 0, none⟩ a).setCell ⟨g, 1, none⟩ b).setCell ⟨g, 2, none⟩ c).setCell ⟨g, 3, none⟩ d
theorem fr_put4 (w : World) (g : Nat) (a b c d : Value) : Fr [g] w (put4 w g a b c d) := (((fr_setCell w g 0 a).trans (fr_setCell _ g 1 b)).trans (fr_setCell _ g 2 c)).trans (fr_setCell _ g 3 d)
theorem hat_put4 {w : World} {g : Nat} {x0 x1 x2 x3 : Value} {t : TypeId} {fr : Nat × Nat} (h : hat w g = some (.cells #[x0, x1, x2, x3] t fr)) (a b c d : Value) : hat (put4 w g a b c d) g = some (.cells #[a, b, c, d] t fr) :=
 hat_setCell_at _ _ _ _ _ _ _ (hat_setCell_at _ _ _ _ _ _ _ (hat_setCell_at _ _ _ _ _ _ _ (hat_setCell_at _ _ _ _ _ _ _ h)))
theorem fr_setCells (g : Nat) : ∀ (vs : List Value) (o : Nat) (w : World), Fr [g] w (w.setCells g o vs)
 | [], _, w => Fr.refl _ w
 | v :: r, o, w => (fr_setCell w g o v).trans (fr_setCells g r (o + 1) _)
theorem hat_setCells (g : Nat) (t : TypeId) (fr : Nat × Nat) : ∀ (vs : List Value) (o : Nat) (w : World) (cs : Array Value), hat w g = some (.cells cs t fr) → ∃ cs', hat (w.setCells g o vs) g = some (.cells cs' t fr) ∧ cs'.size = cs.size ∧
  (∀ j, j < o → cs'[j]? = cs[j]?) ∧ ∀ j v, vs[j]? = some v → o + j < cs.size → cs'[o + j]? = some v
 | [], o, w, cs, h => ⟨cs, h, rfl, fun _ _ => rfl, fun j v hv => by simp at hv⟩
 | x :: r, o, w, cs, h => by
  obtain ⟨cs', h1, h2, h3, h4⟩ := hat_setCells g t fr r (o + 1) _ _ (hat_setCell_at w g o x _ _ _ h)
  refine ⟨cs', h1, by rw [h2]; simp, fun j hj => ?_, fun j v hv hj => ?_⟩
  ·rw [h3 j (by omega), Array.getElem?_setIfInBounds, if_neg (by omega)]
  ·cases j with
   | zero =>
    simp at hv
    subst hv
    rw [Nat.add_zero] at hj ⊢
    rw [h3 o (by omega), Array.getElem?_setIfInBounds, if_pos rfl, if_pos hj]
   | succ j =>
    have := h4 j v (by simpa using hv) (by simp; omega)
    rw [show o + (j + 1) = o + 1 + j by omega]
    exact this
theorem QRow.src {w : World} {u : Value} {ob : Option Nat} {ys : List Int} (h : QRow w u ob ys) : Src Tryz.prog 1 24 u ys.length (ys.map (Value.int .i64)) w := by
 have ht : Tryz.prog.underlying 24 = some (.slice 3) := Tryz.underlying24
 rcases h with ⟨rfl, -, rfl⟩ | ⟨g, off, c, cs, rfl, -, hg, hc, hcs, hx⟩
 ·exact Src.ofNil w ht 0
 ·exact Src.ofSlice w ht ⟨g, off, none⟩ ys.length c _ (by simp) (fun j v hj => by
   rw [add_none, cell_hat hg]
   rw [List.getElem?_map] at hj
   cases hxj : ys[j]? with
   | none => rw [hxj] at hj; cases hj
   | some p => rw [hxj] at hj; rw [hx j p hxj, ← hj]; rfl) (fun v hv => by rw [List.mem_map] at hv; obtain ⟨x, -, rfl⟩ := hv; rfl)
theorem run_append_qs {w : World} {v u : Value} {ob ob2 : Option Nat} {xs ys : List Int} (h : QRow w v ob xs) (h2 : QRow w u ob2 ys) (hn : xs.length + ys.length ≤ 100000) (ty : TypeId) :
  ∃ v' w' ob', (Builtin.append_ #[24, 24] ty #[v, u]).run Tryz.prog w = .ok v' w' ∧ QRow w' v' ob' (xs ++ ys) ∧ Fr ob.toList w w' ∧ (ob' = ob ∨ ∃ g, ob' = some g ∧ w.heap.size ≤ g) := by
 have ht : Tryz.prog.underlying 24 = some (.slice 3) := Tryz.underlying24
 obtain ⟨inf, hi, hz, hsz, hby⟩ := info_int
 have hs : Src Tryz.prog inf.size 24 u ys.length (ys.map (Value.int .i64)) w := by rw [hsz]; exact h2.src
 by_cases hroom : ∃ g off c cs, v = .slice (some ⟨g, off, none⟩) xs.length c ∧ ob = some g ∧ hat w g = some (.cells cs 3) ∧ xs.length + ys.length ≤ c ∧ off + c ≤ cs.size ∧ ∀ j p, xs[j]? = some p → cs[off + j]? = some (.int .i64 p)
 ·obtain ⟨g, off, c, cs, rfl, rfl, hg, hc, hcs, hx⟩ := hroom
  have hr := run_append_room_src (P := Tryz.prog) w 24 24 ty 3 inf ht hi g off xs.length c u ys.length _ hs hc
   (fun j hj => by
    rw [hsz, cell_hat hg]
    simp at hj
    rw [Array.getElem?_eq_getElem (by omega)]; rfl)
   (fun j hj => frozen_hat hg _)
  rw [hsz, Nat.mul_one] at hr
  obtain ⟨cs', a1, a2, a3, a4⟩ := hat_setCells g 3 (0, 0) (ys.map (Value.int .i64)) (off + xs.length) w cs hg
  refine ⟨_, _, some g, hr, .inr ⟨g, off, c, cs', by simp, rfl, a1, by simpa using hc, by rw [a2]; exact hcs, fun j p hj => ?_⟩, (fr_setCells g _ _ _).mono (by simp), .inl rfl⟩
  by_cases hjl : j < xs.length
  ·rw [List.getElem?_append_left hjl] at hj
   rw [a3 _ (by omega)]
   exact hx j p hj
  ·rw [List.getElem?_append_right (by omega)] at hj
   have hjy : j - xs.length < ys.length := (List.getElem?_eq_some_iff.1 hj).1
   have := a4 (j - xs.length) (.int .i64 p) (by rw [List.getElem?_map, hj]; rfl) (by omega)
   rw [show off + xs.length + (j - xs.length) = off + j by omega] at this
   exact this
 ·by_cases h0 : v = .slice none 0 0 ∧ ob = none ∧ xs = [] ∧ ys = []
  ·obtain ⟨rfl, rfl, rfl, rfl⟩ := h0
   refine ⟨.slice none 0 0, w, none, ?_, .inl ⟨rfl, rfl, rfl⟩, Fr.refl _ _, .inl rfl⟩
   have hc0 : (Builtin.firstCells inf.size 0 u).run Tryz.prog w = .ok #[] w := hs.cells
   rcases hs.kind with ⟨e', hk⟩ | hk <;> simp [Builtin.append_, run_underlying ht, run_underlying hk, sizeOf, typeInfo, hi, hs.len, hc0]
  ·obtain ⟨base, cp, hv, hcp, hold⟩ : ∃ base cp, v = .slice base xs.length cp ∧ cp < xs.length + ys.length ∧ (Builtin.firstCells inf.size xs.length (.slice base xs.length cp)).run Tryz.prog w.drew = .ok (xs.map (Value.int .i64)).toArray w.drew := by
    rcases h with ⟨rfl, rfl, rfl⟩ | ⟨g, off, c, cs, rfl, rfl, hg, hc, hcs, hx⟩
    ·have hy : ys ≠ [] := fun e => h0 ⟨rfl, rfl, rfl, e⟩
     have := List.length_pos_iff.2 hy
     exact ⟨none, 0, rfl, by simpa using this, run_firstCells_none w.drew _ 0 0 0⟩
    ·refine ⟨some ⟨g, off, none⟩, c, rfl, ?_, ?_⟩
     ·refine Nat.lt_of_not_le fun hle => hroom ⟨g, off, c, cs, rfl, rfl, hg, hle, hcs, hx⟩
     ·refine run_firstCells_some w.drew _ xs.length ⟨g, off, none⟩ xs.length c (xs.map (Value.int .i64)) (by rw [hsz]; simp) fun j u hj => ?_
      rw [add_none]
      show w.cell? _ = _
      rw [cell_hat hg]
      rw [List.getElem?_map] at hj
      cases hxj : xs[j]? with
      | none => rw [hxj] at hj; cases hj
      | some p => rw [hxj] at hj; rw [hx j p hxj, ← hj]; rfl
   subst hv
   have hr := run_append_grow_src (P := Tryz.prog) w 24 24 ty 3 inf (.int .i64 0) ht hi hz base xs.length cp _ hold u ys.length _ hs hcp (by omega) (growslice_fits hcp (by rw [hby]; omega))
   have hge := grownCap_ge w (xs.length + ys.length) cp 3
   refine ⟨_, _, some w.heap.size, hr, .inr ⟨w.heap.size, 0, grownCap w (xs.length + ys.length) cp 3, _, by rw [List.length_append], rfl, hat_alloc_at w.drew _ _ rfl, by simpa using hge, ?_, fun j p hj => ?_⟩, ?_, .inr ⟨_, rfl, Nat.le_refl _⟩⟩
   ·have hz2 : (Value.int .i64 0).cells.size = 1 := rfl
    rw [Array.size_append, size_zeroCells, hz2]
    simp
    omega
   ·have hjl : j < xs.length + ys.length := by
     have := (List.getElem?_eq_some_iff.1 hj).1
     simpa using this
    rw [Nat.zero_add, Array.getElem?_append_left (by simpa using hjl)]
    rw [← List.map_append, List.getElem?_toArray, List.getElem?_map, hj]
    rfl
   ·exact fr_below (show Below w.heap.size w (w.drew.alloc _) from Below.alloc (show Below w.heap.size w w.drew from ⟨rfl, rfl, rfl, Nat.le_refl _, fun _ _ => rfl⟩) (Nat.le_refl _) _) _
def Dis (a b : Option Nat) : Prop := ∀ q, a = some q → b ≠ some q
theorem Dis.symm {a b : Option Nat} (h : Dis a b) : Dis b a := fun q hb ha => h q ha hb
def Rows (w : World) (base g5 : Nat) (l : List (Option Nat)) : Prop := (∀ o ∈ l, ∀ q, o = some q → base ≤ q ∧ q ≠ g5 ∧ q < w.heap.size) ∧ l.Pairwise Dis
theorem Rows.put {w w' : World} {base g5 : Nat} {a b : List (Option Nat)} {o o' : Option Nat} (h : Rows w base g5 (a ++ o :: b)) (ho : o' = o ∨ ∃ g, o' = some g ∧ w.heap.size ≤ g) (hb : base ≤ w.heap.size) (hg : g5 < w.heap.size) (hs : w.heap.size ≤ w'.heap.size) (hl : ∀ q, o' = some q → q < w'.heap.size) : Rows w' base g5 (a ++ o' :: b) := by
 obtain ⟨h1, h2⟩ := h
 have hin : ∀ x ∈ a ++ b, ∀ q, x = some q → base ≤ q ∧ q ≠ g5 ∧ q < w.heap.size := fun x hx => h1 x (by
  rw [List.mem_append] at hx ⊢
  rcases hx with hx | hx
  ·exact .inl hx
  ·exact .inr (List.mem_cons_of_mem _ hx))
 refine ⟨fun x hx q hq => ?_, ?_⟩
 ·rw [List.mem_append, List.mem_cons] at hx
  have hcase : x ∈ a ++ b ∨ x = o' := by
   rcases hx with hx | hx | hx
   ·exact .inl (List.mem_append.2 (.inl hx))
   ·exact .inr hx
   ·exact .inl (List.mem_append.2 (.inr hx))
  rcases hcase with hx | rfl
  ·have := hin x hx q hq
   exact ⟨this.1, this.2.1, Nat.lt_of_lt_of_le this.2.2 hs⟩
  ·rcases ho with rfl | ⟨g, hg2, hgl⟩
   ·have := h1 x (by simp) q hq
    exact ⟨this.1, this.2.1, Nat.lt_of_lt_of_le this.2.2 hs⟩
   ·rw [hq] at hg2
    cases hg2
    exact ⟨by omega, by omega, hl q hq⟩
 ·rw [List.pairwise_append] at h2 ⊢
  obtain ⟨p1, p2, p3⟩ := h2
  rw [List.pairwise_cons] at p2 ⊢
  have hd : ∀ x ∈ a ++ b, Dis x o → Dis x o' := fun x hx hxo q hq hq2 => by
   rcases ho with rfl | ⟨g, hg2, hgl⟩
   ·exact hxo q hq hq2
   ·rw [hq2] at hg2
    cases hg2
    have := hin x hx q hq
    omega
  refine ⟨p1, ⟨fun x hx => (hd x (List.mem_append.2 (.inr hx)) (p2.1 x hx).symm).symm, p2.2⟩, fun x hx y hy => ?_⟩
  rw [List.mem_cons] at hy
  rcases hy with rfl | hy
  ·exact hd x (List.mem_append.2 (.inl hx)) (p3 x hx o (by simp))
  ·exact p3 x hx y (by simp [hy])
theorem not_mem_of_dis {a b : Option Nat} (h : Dis a b) : ∀ g, a = some g → g ∉ b.toList := fun g hg hm => by
 cases b with
 | none => cases hm
 | some q =>
  simp at hm
  subst hm
  exact h g hg rfl
theorem Rows.ten {w : World} {base g5 : Nat} {o1 o2 o3 o4 o5 : Option Nat} (h : Rows w base g5 [o1, o2, o3, o4, o5]) : (Dis o1 o2 ∧ Dis o1 o3 ∧ Dis o1 o4 ∧ Dis o1 o5) ∧ (Dis o2 o3 ∧ Dis o2 o4 ∧ Dis o2 o5) ∧ (Dis o3 o4 ∧ Dis o3 o5) ∧ Dis o4 o5 := by
 obtain ⟨-, h⟩ := h
 rw [List.pairwise_cons, List.pairwise_cons, List.pairwise_cons, List.pairwise_cons] at h
 obtain ⟨h1, h2, h3, h4, -⟩ := h
 exact ⟨⟨h1 _ (by simp), h1 _ (by simp), h1 _ (by simp), h1 _ (by simp)⟩, ⟨h2 _ (by simp), h2 _ (by simp), h2 _ (by simp)⟩, ⟨h3 _ (by simp), h3 _ (by simp)⟩, h4 _ (by simp)⟩
theorem Rows.old {wo wr w' : World} {g5 : Nat} {l : List (Option Nat)} {o : Option Nat} (hro : Rows wr wo.heap.size g5 l) (ho : o ∈ l) (hf0 : Fr [] wo wr) (hf : Fr o.toList wr w') : Fr [] wo w' :=
 ((hf0.mono (ex' := o.toList) (by simp)).trans hf).old (fun k hk => .inr (hro.1 o ho k (by
  cases o with
  | none => cases hk
  | some q => simp at hk; rw [hk])).1)
theorem Rows.g5 {w : World} {base g5 : Nat} {l : List (Option Nat)} {o : Option Nat} (hro : Rows w base g5 l) (ho : o ∈ l) : g5 ∉ o.toList := fun hm => by
 cases o with
 | none => cases hm
 | some q =>
  simp at hm
  exact (hro.1 _ ho q rfl).2.1 hm.symm
theorem differL_succ (k : Nat) (S I : Nat → List Int) (sort : Nat → Bool) : differL (k + 1) S I sort = differL k S I sort ++ (if (decide (S k ≠ I k) && sort k) = true then [(k : Int)] else []) := by
 unfold differL
 rw [List.range_succ, List.filter_append, List.map_append]
 congr 1
 by_cases h : (decide (S k ≠ I k) && sort k) = true
 ·rw [if_pos h]; simp only [List.filter_cons]; rw [if_pos h]; rfl
 ·rw [if_neg h]; simp only [List.filter_cons]; rw [if_neg h]; rfl
theorem differL_len (k : Nat) (S I : Nat → List Int) (sort : Nat → Bool) : (differL k S I sort).length ≤ k := by
 unfold differL
 rw [List.length_map]
 exact Nat.le_trans (List.length_filter_le _ _) (by simp)
structure REnv where
 (g gi oi N ci gw cw gc cc gt ct gn cn ge ce M : Nat)
 (X Y : Int)
 A : Nat → List Int
def REnv.bs (E : REnv) : List Nat := [E.g, E.gi, E.gw, E.gc, E.gt, E.gn, E.ge]
structure ROk (E : REnv) : Prop where
 X : E.X = E.N
 N8 : 8 ≤ E.N
 N : E.N ≤ 4096
 Y1 : 1 ≤ E.Y
 YN : E.Y < E.N
 M : (E.M : Int) = E.Y + 1
 nd : E.bs.Nodup
structure RG (E : REnv) (w : World) (o : Option Nat) (l : List Int) (S : Nat → List Int) (cl tk : Int → Bool) (I : Nat → List Int) (en : Nat → Int) : Prop where
 l : ∃ v, hat w E.g = some (.cells #[.int .i64 E.X, .int .i64 E.Y, .slice (some ⟨E.gi, E.oi, none⟩) E.N E.ci, .slice (some ⟨E.gw, 0, none⟩) E.N E.cw, .slice (some ⟨E.gc, 0, none⟩) E.N E.cc, .slice (some ⟨E.gt, 0, none⟩) E.M E.ct, .slice (some ⟨E.gn, 0, none⟩) E.M E.cn, .slice (some ⟨E.ge, 0, none⟩) E.M E.ce, v] 76) ∧ QRow w v o l
 i : Secs w E.gi E.oi E.N E.A
 s : WSecs w E.gw E.N S
 c : Bools w E.gc E.N cl
 t : Bools w E.gt E.M tk
 n : Inos w E.gn E.M I
 e : NumR w E.ge E.M en
 no : ∀ q, o = some q → q ∉ E.bs
theorem WSecs.lt2 {w : World} {g N : Nat} {S : Nat → List Int} (h : WSecs w g N S) : g < w.heap.size := by
 obtain ⟨cs, h1, -⟩ := h; exact hat_lt h1
section
variable {E : REnv} {w w' : World} {o : Option Nat} {l : List Int} {S : Nat → List Int} {cl tk : Int → Bool} {I : Nat → List Int} {en : Nat → Int}
theorem RG.fr {ex : List Nat} (h : RG E w o l S cl tk I en) (hf : Fr ex w w') (hx : ∀ b ∈ E.bs, b ∉ ex) (ho : ∀ q, o = some q → q ∉ ex) : RG E w' o l S cl tk I en := by
 obtain ⟨v, h1, h2⟩ := h.l
 have k : ∀ b ∈ E.bs, b < w.heap.size → hat w' b = hat w b := fun b hb hl => hf.block b hl (hx b hb)
 refine ⟨⟨v, (k _ (by simp [REnv.bs]) (hat_lt h1)).trans h1, h2.fr hf ho⟩, h.i.same (k _ (by simp [REnv.bs]) h.i.lt), h.s.same (k _ (by simp [REnv.bs]) h.s.lt2), h.c.same (k _ (by simp [REnv.bs]) h.c.lt), h.t.same (k _ (by simp [REnv.bs]) h.t.lt), h.n.same (k _ (by simp [REnv.bs]) h.n.lt), h.e.same (k _ (by simp [REnv.bs]) h.e.lt), h.no⟩
theorem RG.below (h : RG E w o l S cl tk I en) (hb : Below w.heap.size w w') : RG E w' o l S cl tk I en := h.fr (fr_below hb []) (fun _ _ => by simp) (fun _ _ => by simp)
theorem RG.lts (h : RG E w o l S cl tk I en) : ∀ b ∈ E.bs, b < w.heap.size := by
 obtain ⟨v, h1, h2⟩ := h.l
 intro b hb
 simp only [REnv.bs, List.mem_cons, List.not_mem_nil, or_false] at hb
 rcases hb with rfl | rfl | rfl | rfl | rfl | rfl | rfl
 ·exact hat_lt h1
 ·exact h.i.lt
 ·exact h.s.lt2
 ·exact h.c.lt
 ·exact h.t.lt
 ·exact h.n.lt
 ·exact h.e.lt
theorem RG.lto (h : RG E w o l S cl tk I en) : ∀ q, o = some q → q < w.heap.size := by
 obtain ⟨v, -, h2⟩ := h.l
 exact h2.lt
theorem RG.turn {b : Nat} (h : RG E w o l S cl tk I en) (hE : ROk E) (hf : Fr [b] w w') (hb : b ∈ E.bs) : (∀ q, o = some q → q ≠ b) ∧ ∀ c ∈ E.bs, c ≠ b → hat w' c = hat w c :=
 ⟨fun q hq e => h.no q hq (by rw [e]; exact hb), fun c hc hn => hf.block c (h.lts c hc) (by simpa using hn)⟩
end
theorem ROk.ne {E : REnv} (h : ROk E) : (E.g ≠ E.gi ∧ E.g ≠ E.gw ∧ E.g ≠ E.gc ∧ E.g ≠ E.gt ∧ E.g ≠ E.gn ∧ E.g ≠ E.ge) ∧ (E.gi ≠ E.gw ∧ E.gi ≠ E.gc ∧ E.gi ≠ E.gt ∧ E.gi ≠ E.gn ∧ E.gi ≠ E.ge) ∧ (E.gw ≠ E.gc ∧ E.gw ≠ E.gt ∧ E.gw ≠ E.gn ∧ E.gw ≠ E.ge) ∧ (E.gc ≠ E.gt ∧ E.gc ≠ E.gn ∧ E.gc ≠ E.ge) ∧ (E.gt ≠ E.gn ∧ E.gt ≠ E.ge) ∧ E.gn ≠ E.ge := by
 have := h.nd
 unfold REnv.bs at this
 simp at this
 grind
theorem Bools.set {w : World} {g N : Nat} {s : Int → Bool} (h : Bools w g N s) {p : Nat} (hp : p < N) (b : Bool) : Bools (w.setCell ⟨g, p, none⟩ (.bool b)) g N (fun q => if q = (p : Int) then b else s q) := by
 obtain ⟨cs, h1, h2, h3⟩ := h
 refine ⟨cs.setIfInBounds p (.bool b), hat_setCell_at _ _ _ _ _ _ _ h1, by simpa using h2, fun j hj => ?_⟩
 rw [Array.getElem?_setIfInBounds]
 by_cases hjp : p = j
 ·subst hjp
  rw [if_pos rfl, if_pos (by omega)]
  simp
 ·have : ¬ ((j : Int) = (p : Int)) := by omega
  rw [if_neg hjp, h3 j hj]
  simp [this]
theorem addS_is (s : Int → Bool) (p : Int) : (fun q => if q = p then true else s q) = addS s p := by
 funext q
 unfold addS
 by_cases h : q = p <;> simp [h]
theorem delS_is (s : Int → Bool) (p : Int) : (fun q => if q = p then false else s q) = delS s p := by
 funext q
 unfold delS
 by_cases h : q = p <;> simp [h]
section
variable {E : REnv} {w : World} {o : Option Nat} {l : List Int} {S : Nat → List Int} {cl tk : Int → Bool} {I : Nat → List Int} {en : Nat → Int}
theorem RG.claim (hE : ROk E) (h : RG E w o l S cl tk I en) {p : Nat} (hp : p < E.N) (b : Bool) : RG E (w.setCell ⟨E.gc, p, none⟩ (.bool b)) o l S (fun q => if q = (p : Int) then b else cl q) tk I en := by
 obtain ⟨n0, n1, n2, n3, n4, n5⟩ := hE.ne
 have hf := fr_setCell w E.gc p (.bool b)
 obtain ⟨t1, t2⟩ := h.turn hE hf (by simp [REnv.bs])
 obtain ⟨v, h1, h2⟩ := h.l
 refine ⟨⟨v, (t2 _ (by simp [REnv.bs]) n0.2.2.1).trans h1, h2.fr hf (fun q hq => by simpa using t1 q hq)⟩, h.i.same (t2 _ (by simp [REnv.bs]) n1.2.1), h.s.same (t2 _ (by simp [REnv.bs]) n2.1), h.c.set hp b, h.t.same (t2 _ (by simp [REnv.bs]) n3.1.symm), h.n.same (t2 _ (by simp [REnv.bs]) n3.2.1.symm), h.e.same (t2 _ (by simp [REnv.bs]) n3.2.2.symm), h.no⟩
theorem RG.take (hE : ROk E) (h : RG E w o l S cl tk I en) {p : Nat} (hp : p < E.M) (b : Bool) : RG E (w.setCell ⟨E.gt, p, none⟩ (.bool b)) o l S cl (fun q => if q = (p : Int) then b else tk q) I en := by
 obtain ⟨n0, n1, n2, n3, n4, n5⟩ := hE.ne
 have hf := fr_setCell w E.gt p (.bool b)
 obtain ⟨t1, t2⟩ := h.turn hE hf (by simp [REnv.bs])
 obtain ⟨v, h1, h2⟩ := h.l
 refine ⟨⟨v, (t2 _ (by simp [REnv.bs]) n0.2.2.2.1).trans h1, h2.fr hf (fun q hq => by simpa using t1 q hq)⟩, h.i.same (t2 _ (by simp [REnv.bs]) n1.2.2.1), h.s.same (t2 _ (by simp [REnv.bs]) n2.2.1), h.c.same (t2 _ (by simp [REnv.bs]) n3.1), h.t.set hp b, h.n.same (t2 _ (by simp [REnv.bs]) n4.1.symm), h.e.same (t2 _ (by simp [REnv.bs]) n4.2.symm), h.no⟩
theorem RG.count (hE : ROk E) (h : RG E w o l S cl tk I en) {p : Nat} (hp : p < E.M) (x : Int) : RG E (w.setCell ⟨E.ge, p, none⟩ (.int .i64 x)) o l S cl tk I (fun j => if p = j then x else en j) := by
 obtain ⟨n0, n1, n2, n3, n4, n5⟩ := hE.ne
 have hf := fr_setCell w E.ge p (.int .i64 x)
 obtain ⟨t1, t2⟩ := h.turn hE hf (by simp [REnv.bs])
 obtain ⟨v, h1, h2⟩ := h.l
 exact ⟨⟨v, (t2 _ (by simp [REnv.bs]) n0.2.2.2.2.2).trans h1, h2.fr hf (fun q hq => by simpa using t1 q hq)⟩, h.i.same (t2 _ (by simp [REnv.bs]) n1.2.2.2.2), h.s.same (t2 _ (by simp [REnv.bs]) n2.2.2.2), h.c.same (t2 _ (by simp [REnv.bs]) n3.2.2), h.t.same (t2 _ (by simp [REnv.bs]) n4.2), h.n.same (t2 _ (by simp [REnv.bs]) n5), h.e.put hp (fun j => rfl), h.no⟩
theorem RG.store (hE : ROk E) (h : RG E w o l S cl tk I en) {cs : Array Value} (hcs : hat w E.gw = some (.cells cs 33)) {i : Nat} (hi : i < E.N) {s : List Int} (hl : s.length = 128) (hb : Bytes s) : RG E (w.setRow E.gw (splice cs (i * 128) (IV .u8 s))) o l (updS S i s) cl tk I en := by
 obtain ⟨n0, n1, n2, n3, n4, n5⟩ := hE.ne
 have hf := fr_setRow w E.gw (splice cs (i * 128) (IV .u8 s))
 obtain ⟨t1, t2⟩ := h.turn hE hf (by simp [REnv.bs])
 obtain ⟨v, h1, h2⟩ := h.l
 exact ⟨⟨v, (t2 _ (by simp [REnv.bs]) n0.2.1).trans h1, h2.fr hf (fun q hq => by simpa using t1 q hq)⟩, h.i.same (t2 _ (by simp [REnv.bs]) n1.1), h.s.store hcs hi hl hb, h.c.same (t2 _ (by simp [REnv.bs]) n2.1.symm), h.t.same (t2 _ (by simp [REnv.bs]) n2.2.1.symm), h.n.same (t2 _ (by simp [REnv.bs]) n2.2.2.1.symm), h.e.same (t2 _ (by simp [REnv.bs]) n2.2.2.2.symm), h.no⟩
theorem RG.ino (hE : ROk E) (h : RG E w o l S cl tk I en) {cs : Array Value} (hcs : hat w E.gn = some (.cells cs 45)) {i : Nat} (hi : i < E.M) {raw : List Int} (hl : raw.length = 18) : RG E (w.setRow E.gn (splice cs (i * 18) (IV .i64 raw))) o l S cl tk (fun j => if j = i then raw else I j) en := by
 obtain ⟨n0, n1, n2, n3, n4, n5⟩ := hE.ne
 have hf := fr_setRow w E.gn (splice cs (i * 18) (IV .i64 raw))
 obtain ⟨t1, t2⟩ := h.turn hE hf (by simp [REnv.bs])
 obtain ⟨v, h1, h2⟩ := h.l
 refine ⟨⟨v, (t2 _ (by simp [REnv.bs]) n0.2.2.2.2.1).trans h1, h2.fr hf (fun q hq => by simpa using t1 q hq)⟩, h.i.same (t2 _ (by simp [REnv.bs]) n1.2.2.2.1), h.s.same (t2 _ (by simp [REnv.bs]) n2.2.2.1), h.c.same (t2 _ (by simp [REnv.bs]) n3.2.1), h.t.same (t2 _ (by simp [REnv.bs]) n4.1), ?_, h.e.same (t2 _ (by simp [REnv.bs]) n5.symm), h.no⟩
 obtain ⟨cs', k1, k2, k3⟩ := h.n
 rw [hcs] at k1
 obtain rfl : cs = cs' := by
  have := Option.some.inj k1
  injection this
 exact Inos.put hcs k2 k3 hi hl (fun j _ => rfl)
end
@[go_sem] theorem ld_super9 (raw : Result Value) (w : World) (a b c d e f g h i : Value) (t : TypeId) (fr : Nat × Nat) : ldRow raw 2 0 w (some (.cells #[a, b, c, d, e, f, g, h, i] t fr)) = .ok (.agg #[a, b]) w := by
 rw [ldRow_part (by simp)]; rfl
section
variable {E : REnv} {o : Option Nat} {l : List Int} {tk : Int → Bool} {I : Nat → List Int} {en : Nat → Int}
theorem rgood_any (hE : ROk E) (p : Int) (st : LS) (w : World) (h : RG E w o l st.S st.cl tk I en) :
  Calls Tryz.prog 65 #[.pointer (some ⟨E.g, 0, none⟩), .int .i64 p] w fun e w' =>
   e = .returned (.bool (goodX E.X E.Y p st).1) ∧ RG E w' o l (goodX E.X E.Y p st).2.S (goodX E.X E.Y p st).2.cl tk I en ∧ Fr [E.gc] w w' := by
 have HS := Lib.hid h
 obtain ⟨v, hs, -⟩ := h.l
 clear h
 have hz := hat_lt hs
 cases hd : isD E.X E.Y p with
 | false =>
  have HA : Hid (goodX E.X E.Y p st = (false, st)) := Lib.hid (by unfold goodX; rw [if_neg (by rw [hd]; simp)])
  go_enter Tryz.func65, Tryz.ntmps65
  go_wp2_with fail
  refine (risData_any E.X E.Y p _).mono ?_; rintro e w1 ⟨rfl, hb⟩
  rw [hd]
  have HF := Lib.hid (fr_below hb [E.gc])
  have HS1 := Lib.hid (HS.out.below hb)
  clear hb
  go_wp2_with fail
  go_ret
  exact ⟨by rw [HA.out]; rfl, by rw [HA.out]; exact HS1.out, HF.out⟩
 | true =>
  have hr : 0 ≤ p ∧ p < E.N := by
   unfold isD at hd
   have := of_decide_eq_true hd
   have := hE.Y1
   have := hE.X
   omega
  obtain ⟨pn, rfl⟩ := Int.eq_ofNat_of_zero_le hr.1
  have hpN : pn < E.N := by omega
  have hpi : (pn : Int) < (E.N : Int) := hr.2
  have hsb := HS.out.c
  obtain ⟨cs, hcs, hsz, hall⟩ := hsb
  have hcell := hall pn hpN
  clear hall hr
  cases hv : st.cl pn with
  | true =>
   rw [hv] at hcell
   have HA : Hid (goodX E.X E.Y pn st = (false, st)) := Lib.hid (by unfold goodX; rw [if_neg (by rw [hv]; simp)])
   go_enter Tryz.func65, Tryz.ntmps65
   go_wp2_with fail
   refine (risData_any E.X E.Y pn _).mono ?_; rintro e w1 ⟨rfl, hb⟩
   rw [hd]
   have HF := Lib.hid (fr_below hb [E.gc])
   have HS1 := Lib.hid (HS.out.below hb)
   have hs1 := (hop hb hs).1
   have hcs1 := (hop hb hcs).1
   clear hb
   go_wp2_with fail
   go_ret
   exact ⟨by rw [HA.out]; rfl, by rw [HA.out]; exact HS1.out, HF.out⟩
  | false =>
   rw [hv] at hcell
   have HA : Hid (goodX E.X E.Y pn st = (true, { st with cl := addS st.cl pn })) := Lib.hid (by unfold goodX; rw [if_pos ⟨hd, hv⟩])
   go_enter Tryz.func65, Tryz.ntmps65
   go_wp2_with fail
   refine (risData_any E.X E.Y pn _).mono ?_; rintro e w1 ⟨rfl, hb⟩
   rw [hd]
   have hf1 := fr_below hb []
   have HS1 := Lib.hid (HS.out.below hb)
   have hs1 := (hop hb hs).1
   have hcs1 := (hop hb hcs).1
   have HS2 := Lib.hid (HS1.out.claim hE hpN true)
   rw [addS_is] at HS2
   have HF := Lib.hid ((hf1.mono (ex' := [E.gc]) (by simp)).trans (fr_setCell w1 E.gc pn (.bool true)))
   clear hb hf1
   go_wp2_with fail
   go_ret
   exact ⟨by rw [HA.out]; rfl, by rw [HA.out]; exact HS2.out, HF.out⟩
end
section
variable {E : REnv} {o : Option Nat} {l : List Int} {tk : Int → Bool} {I : Nat → List Int} {en : Nat → Int}
theorem rleaves_no (hE : ROk E) (at' : Nat) (ha : at' < E.N) (ps : List Int) {S : Nat → List Int} {cl : Int → Bool} (w : World) (h : RG E w o l S cl tk I en) :
  Calls Tryz.prog 67 #[.pointer (some ⟨E.g, 0, none⟩), .int .i64 at', .agg (IV .i64 ps), .bool false] w fun e w' =>
   e = .returned (.bool false) ∧ RG E w' o l S (delS cl at') tk I en ∧ Fr [E.gc] w w' := by
 have hB1 : Below w.heap.size w (w.alloc (.cells (IV .i64 ps) 89)) := (Below.refl _ _).alloc (Nat.le_refl _) _
 have h1 := h.below hB1
 have hi0 : (0 : Int) ≤ (at' : Int) := Int.natCast_nonneg _
 have hi1 : (at' : Int) < (E.N : Int) := by omega
 obtain ⟨cs, hcs, hsz, hall⟩ := h1.c
 have hcell := hall at' ha
 obtain ⟨v, hs, -⟩ := h1.l
 have HS2 := Lib.hid (h1.claim hE ha false)
 rw [delS_is] at HS2
 have HF := Lib.hid (((fr_below hB1 []).mono (ex' := [E.gc]) (by simp)).trans (fr_setCell (w.alloc (.cells (IV .i64 ps) 89)) E.gc at' (.bool false)))
 clear hall h hB1 h1
 have hz := hat_lt hs
 have hz2 := hat_lt hcs
 go_enter Tryz.func67, Tryz.ntmps67
 go_wp2_with fail
 go_ret
 exact ⟨rfl, HS2.out, HF.out⟩
theorem rleaves_yes (hE : ROk E) (at' : Nat) (ha : at' < E.N) (ps : List Int) (hp : ps.length = 32) {S : Nat → List Int} {cl : Int → Bool} (w : World) (h : RG E w o l S cl tk I en) :
  Calls Tryz.prog 67 #[.pointer (some ⟨E.g, 0, none⟩), .int .i64 at', .agg (IV .i64 ps), .bool true] w fun e w' =>
   e = .returned (.bool true) ∧ RG E w' o l (updS S at' (ptrR ps).1) cl tk I en ∧ Fr [E.gw] w w' := by
 have hB1 : Below w.heap.size w (w.alloc (.cells (IV .i64 ps) 89)) := (Below.refl _ _).alloc (Nat.le_refl _) _
 have h1 := h.below hB1
 have hgp := (hopN w (.cells (IV .i64 ps) 89)).1
 have ha0 : (0 : Int) ≤ (at' : Int) := Int.natCast_nonneg _
 have ha1 : (at' : Int) < (E.N : Int) := by omega
 obtain ⟨v, hl, -⟩ := h1.l
 have HL1 := Lib.hid h1
 have hN := hE.N
 have HF1 := Lib.hid (fr_below hB1 [E.gw])
 have hcl := h1.s
 obtain ⟨cs3, hcs3, hs3, hs3b⟩ := hcl
 have hst : ∀ raw w', stRow raw 128 (at' * 128) E.gw (IV .u8 (ptrR ps).1) w' (some (.cells cs3 33 (0, 0))) = .ok () (w'.setRow E.gw (splice cs3 (at' * 128) (IV .u8 (ptrR ps).1))) := fun raw w' =>
  stRow_part (by omega) (by simp) (by simp)
 clear hs3b h hB1 h1
 go_enter Tryz.func67, Tryz.ntmps67
 go_upto_region 1 with fail
 generalize w.alloc (.cells (IV .i64 ps) 89) = w3 at *
 generalize w.heap.size = gp at *
 have hgpl := hat_lt hgp
 have hgl0 := hat_lt hl
 have hgw0 := hat_lt hcs3
 go_wp2_with fail
 go_region_with ((refine (rptr_any ps hp _).mono ?_; rintro e w5 ⟨rfl, hb5⟩; have hb5 : Below w3.heap.size w3 w5 := ⟨hb5.os, hb5.tape, hb5.output, hb5.size, hb5.block⟩; have fl5 := (hop hb5 hl).1; have fg5 := (hop hb5 hgp).1; have fw5 := (hop hb5 hcs3).1))
 all_goals
  have hf5 : Fr [] w3 w5 := fr_below hb5 []
  have HS6 := Lib.hid ((HL1.out.below hb5).store hE fw5 ha (ptrR_length ps) (ptrR_bytes ps))
  have HF6 := Lib.hid (HF1.out.trans ((hf5.mono (ex' := [E.gw]) (by simp)).trans (fr_setRow w5 E.gw (splice cs3 (at' * 128) (IV .u8 (ptrR ps).1)))))
  generalize w5.setRow E.gw (splice cs3 (at' * 128) (IV .u8 (ptrR ps).1)) = w6 at *
  go_wp2_with fail
  go_ret
  exact ⟨rfl, HS6.out, HF6.out⟩
theorem rgone_any (hE : ROk E) (at' : Nat) (ha : at' < E.N) (base n : Int) (hb0 : 0 ≤ base) (hb1 : base ≤ 2000) (st : LS) (w : World) (h : RG E w o l st.S st.cl tk I en) :
  Calls Tryz.prog 66 #[.pointer (some ⟨E.g, 0, none⟩), .int .i64 at', .int .i64 base, .int .i64 n] w fun e w' =>
   e = .returned (.bool (tableP (rowX E.X E.Y n base) at' st).1) ∧ RG E w' o l (tableP (rowX E.X E.Y n base) at' st).2.S (tableP (rowX E.X E.Y n base) at' st).2.cl tk I en ∧ Fr [E.gc, E.gw] w w' := by
 obtain ⟨v, hs, -⟩ := h.l
 obtain ⟨cs, hcs, hld, hlen, hby⟩ := h.s.load ha
 have HS := Lib.hid h
 have HLT := Lib.hid (show (∀ b ∈ E.bs, b < w.heap.size) ∧ (∀ q, o = some q → q < w.heap.size) from ⟨h.lts, h.lto⟩)
 have ha0 : (0 : Int) ≤ (at' : Int) := Int.natCast_nonneg _
 have ha1 : (at' : Int) < (E.N : Int) := by omega
 have HCALL := Lib.hid (fun W => rreadPointers_any (st.S at') hlen hby W)
 clear h hby hlen
 go_enter Tryz.func66, Tryz.ntmps66
 go_wp2_with fail
 refine (HCALL.out _).mono ?_; rintro e w1 ⟨rfl, hb⟩
 have hpl : (rdPtr (st.S at')).length = 32 := by simp
 have HTP : Hid (tableP (rowX E.X E.Y n base) at' st = if (siftP (goodX E.X E.Y) (keepRow base) base 1 n 0 (rdPtr (st.S at')) st).2.1 = false then (false, { (siftP (goodX E.X E.Y) (keepRow base) base 1 n 0 (rdPtr (st.S at')) st).2.2 with cl := delS (siftP (goodX E.X E.Y) (keepRow base) base 1 n 0 (rdPtr (st.S at')) st).2.2.cl at' })
  else (true, { (siftP (goodX E.X E.Y) (keepRow base) base 1 n 0 (rdPtr (st.S at')) st).2.2 with S := updS (siftP (goodX E.X E.Y) (keepRow base) base 1 n 0 (rdPtr (st.S at')) st).2.2.S at' (ptrR (siftP (goodX E.X E.Y) (keepRow base) base 1 n 0 (rdPtr (st.S at')) st).1).1, fm := addS (siftP (goodX E.X E.Y) (keepRow base) base 1 n 0 (rdPtr (st.S at')) st).2.2.fm at' })) := Lib.hid rfl
 generalize hPS : rdPtr (st.S at') = ps at *
 have hgt := (hopN w1 (.cells (IV .i64 ps) 89)).1
 have hB2 : Below w.heap.size w (w1.alloc (.cells (IV .i64 ps) 89)) := hb.alloc hb.size _
 have HSG := Lib.hid (HS.out.below hB2)
 have HF1 := Lib.hid (fr_below hB2 [])
 have HGT : Hid ((∀ b ∈ E.bs, b ≠ w1.heap.size) ∧ ∀ q, o = some q → q ≠ w1.heap.size) := Lib.hid ⟨fun b hb' e => by have := HLT.out.1 b hb'; have := hb.size; omega, fun q hq e => by have := HLT.out.2 q hq; have := hb.size; omega⟩
 have HGN : Hid (w.heap.size ≤ w1.heap.size) := Lib.hid hb.size
 clear hb hB2 hcs hld HCALL HLT hs
 go_wp2_with fail
 generalize w1.alloc (.cells (IV .i64 ps) 89) = w2 at *
 generalize w1.heap.size = gt at *
 go_loopw [10, 11] (fun sm kv wr => ∃ (k : Nat) (pre : List Int) (b : Bool) (s : LS), kv = .int .i64 k ∧ sm = .bool b ∧ k ≤ 32 ∧ Hid (pre.length = k) ∧ Hid (RG E wr o l s.S s.cl tk I en) ∧ Hid (hat wr gt = some (.cells (IV .i64 (pre ++ ps.drop k)) 89)) ∧ Hid (Fr [gt, E.gc] w2 wr) ∧
   Hid (siftP (goodX E.X E.Y) (keepRow base) base 1 n 0 ps st = (pre ++ (siftP (goodX E.X E.Y) (keepRow base) base 1 n k (ps.drop k) s).1, b || (siftP (goodX E.X E.Y) (keepRow base) base 1 n k (ps.drop k) s).2.1, (siftP (goodX E.X E.Y) (keepRow base) base 1 n k (ps.drop k) s).2.2))) (fun _ v _ => 32 - (intOf v).toNat)
 case atStart => exact ⟨0, [], false, st, rfl, rfl, by omega, Lib.hid rfl, HSG, Lib.hid (by simpa using hgt), Lib.hid (Fr.refl _ _), Lib.hid (by simp)⟩
 case round =>
  obtain ⟨k, pre, b, s, rfl, rfl, hk, HL, HG, HT, HF, HE⟩ := hrel
  by_cases hk32 : k < 32
  ·obtain ⟨p, hpk⟩ := getElem_opt (l := ps) (k := k) (by omega)
   have hk0 : (0 : Int) ≤ (k : Int) := Int.natCast_nonneg _
   have hk1 : (k : Int) < 32 := by omega
   have hdr := drop_cons hpk
   have hE1 := HE.out
   rw [hdr, siftP_cons] at hE1
   have HSET : Hid ((pre ++ ps.drop k).set k 0 = (pre ++ [0]) ++ ps.drop (k + 1)) := Lib.hid (by rw [hdr]; exact set_mid HL.out)
   have HKEEP : Hid (pre ++ ps.drop k = (pre ++ [p]) ++ ps.drop (k + 1)) := Lib.hid (by rw [hdr]; simp)
   have hcl : (pre ++ ps.drop k).length = 32 := by rw [List.length_append, HL.out, List.length_drop, hpl]; omega
   have hck : (pre ++ ps.drop k)[k]? = some p := by rw [List.getElem?_append_right (by rw [HL.out]; exact Nat.le_refl _), HL.out, Nat.sub_self, hdr]; rfl
   have hT := HT.out
   obtain ⟨cur, hcur⟩ : ∃ cur, pre ++ ps.drop k = cur := ⟨_, rfl⟩
   rw [hcur] at hT hcl hck HSET HKEEP
   have hnk : nth cur k = p := by unfold nth; rw [hck]; rfl
   have HPL1 : ∀ x : Int, Hid ((pre ++ [x]).length = k + 1) := fun x => Lib.hid (by simp [HL.out])
   clear hdr hcur HT HE hpk hck
   have hTl := hat_lt hT
   by_cases hp0 : p = 0
   ·rw [if_pos hp0] at hE1
    have HE1 := Lib.hid hE1
    have d1 : (p != 0) = false := by simpa using hp0
    have HT1 : Hid (hat wr gt = some (.cells (IV .i64 ((pre ++ [0]) ++ ps.drop (k + 1))) 89)) := Lib.hid (by rw [← hp0, ← HKEEP.out]; exact hT)
    clear hE1 hp0
    cases b
    all_goals
     go_wp2_with fail
     go_roundw
     case rel => exact ⟨k + 1, pre ++ [0], _, s, by go_num, rfl, by omega, HPL1 0, HG, HT1, HF, Lib.hid (by rw [HE1.out]; simp)⟩
     case measure => (show 32 - (k + 1) < 32 - k); omega
   ·rw [if_neg hp0] at hE1
    have d1 : (p != 0) = true := by simpa using hp0
    have HST : ∀ W, Hid (hat W gt = some (.cells (IV .i64 cur) 89) → hat (W.setCell ⟨gt, k, none⟩ (.int .i64 0)) gt = some (.cells (IV .i64 ((pre ++ [0]) ++ ps.drop (k + 1))) 89)) := fun W => Lib.hid (fun hW => by
     have := hat_setCell_at W gt k (.int .i64 0) _ _ _ hW
     rw [IV_set, HSET.out] at this
     exact this)
    have HZ0 : Hid (nth ((pre ++ [0]) ++ ps.drop (k + 1)) k = 0 ∧ ((pre ++ [0]) ++ ps.drop (k + 1)).length = 32) := Lib.hid (by
     rw [← HSET.out]
     refine ⟨?_, by simp [hcl]⟩
     unfold nth
     rw [List.getElem?_set, if_pos rfl, if_pos (by omega)]; rfl)
    have HGS : ∀ W s', Hid (RG E W o l (LS.S s') (LS.cl s') tk I en → RG E (W.setCell ⟨gt, k, none⟩ (.int .i64 0)) o l (LS.S s') (LS.cl s') tk I en) := fun W s' => Lib.hid (fun hW => hW.fr (fr_setCell W gt k _) (fun b hb => by simpa using HGT.out.1 b hb) (fun q hq => by simpa using HGT.out.2 q hq))
    clear HSET
    by_cases hn : n ≤ base + 1 * (k : Int)
    ·rw [if_pos hn] at hE1
     have HE1 := Lib.hid hE1
     have hn2 : n ≤ base + (k : Int) := by omega
     have HT4 := Lib.hid ((HST wr).out hT)
     have HG4 := Lib.hid ((HGS wr s).out HG.out)
     have HF4 := Lib.hid (HF.out.trans ((fr_setCell wr gt k (.int .i64 0)).mono (ex' := [gt, E.gc]) (by simp)))
     clear hE1 hn HST HGS HKEEP
     go_upto_region 8 with fail
     generalize wr.setCell ⟨gt, k, none⟩ (.int .i64 0) = w4 at *
     have hT4 := HT4.out
     have hT4l := hat_lt hT4
     obtain ⟨hz0, hz1⟩ := HZ0.out
     obtain ⟨cur2, hc2⟩ : ∃ c, (pre ++ [0]) ++ ps.drop (k + 1) = c := ⟨_, rfl⟩
     rw [hc2] at hT4 hz0 hz1
     clear hc2
     cases b
     all_goals
      go_wp2_with fail
      go_roundw
      case rel => exact ⟨k + 1, pre ++ [0], _, s, by go_num, rfl, by omega, HPL1 0, HG4, HT4, HF4, Lib.hid (by rw [HE1.out]; simp)⟩
      case measure => (show 32 - (k + 1) < 32 - k); omega
    ·rw [if_neg hn] at hE1
     have hn2 : ¬ n ≤ base + (k : Int) := by omega
     have HC := Lib.hid (rgood_any hE p s wr HG.out)
     have HE1 := Lib.hid hE1
     have HTW := Lib.hid hT
     have HGTC : Hid (gt ≠ E.gc) := Lib.hid (fun e => HGT.out.1 E.gc (by simp [REnv.bs]) e.symm)
     clear hE1 hn
     go_wp2_with fail
     refine HC.out.mono ?_; rintro e w3 ⟨rfl, hg3, hf3⟩
     have hT3 := (hf3.block gt (hat_lt HTW.out) (by simpa using HGTC.out)).trans HTW.out
     have HF3 := Lib.hid (HF.out.trans (hf3.mono (ex' := [gt, E.gc]) (by simp)))
     have hT3l := hat_lt hT3
     clear hf3 HC hT hTl HTW
     cases hgd : (goodX E.X E.Y p s).1 with
     | false =>
      have hE2 := HE1.out
      rw [if_pos hgd] at hE2
      have HE2 := Lib.hid hE2
      have HT4 := Lib.hid ((HST w3).out hT3)
      have HG4 := Lib.hid ((HGS w3 (goodX E.X E.Y p s).2).out hg3)
      have HF4 := Lib.hid (HF3.out.trans ((fr_setCell w3 gt k (.int .i64 0)).mono (ex' := [gt, E.gc]) (by simp)))
      clear hE2 hg3 HST HGS HKEEP HE1
      generalize (goodX E.X E.Y p s).2 = s3 at *
      go_upto_region 8 with fail
      generalize w3.setCell ⟨gt, k, none⟩ (.int .i64 0) = w4 at *
      have hT4 := HT4.out
      have hT4l := hat_lt hT4
      obtain ⟨hz0, hz1⟩ := HZ0.out
      obtain ⟨cur2, hc2⟩ : ∃ c, (pre ++ [0]) ++ ps.drop (k + 1) = c := ⟨_, rfl⟩
      rw [hc2] at hT4 hz0 hz1
      clear hc2
      cases b
      all_goals
       go_wp2_with fail
       go_roundw
       case rel => exact ⟨k + 1, pre ++ [0], _, s3, by go_num, rfl, by omega, HPL1 0, HG4, HT4, HF4, Lib.hid (by rw [HE2.out]; simp)⟩
       case measure => (show 32 - (k + 1) < 32 - k); omega
     | true =>
      have hE2 := HE1.out
      rw [if_neg (by rw [hgd]; simp), if_neg (by simp [keepRow])] at hE2
      have HE2 := Lib.hid hE2
      have HG3 : Hid (RG E w3 o l (keepRow base k p (goodX E.X E.Y p s).2).2.S (keepRow base k p (goodX E.X E.Y p s).2).2.cl tk I en) := Lib.hid hg3
      have HT3 : Hid (hat w3 gt = some (.cells (IV .i64 ((pre ++ [p]) ++ ps.drop (k + 1))) 89)) := Lib.hid (by rw [← HKEEP.out]; exact hT3)
      clear hE2 hg3 HST HGS HKEEP HE1 HZ0
      generalize (keepRow base k p (goodX E.X E.Y p s).2).2 = s3 at *
      cases b
      all_goals
       go_wp2_with fail
       go_roundw
       case rel => exact ⟨k + 1, pre ++ [p], true, s3, by go_num, rfl, by omega, HPL1 p, HG3, HT3, HF3, Lib.hid (by rw [HE2.out]; simp)⟩
       case measure => (show 32 - (k + 1) < 32 - k); omega
  ·obtain rfl : k = 32 := by omega
   have hE1 := HE.out
   have hd : ps.drop 32 = [] := List.drop_of_length_le (by omega)
   rw [hd] at hE1
   change _ = (pre ++ [], b || false, s) at hE1
   rw [List.append_nil, Bool.or_false] at hE1
   have hT := HT.out
   rw [hd, List.append_nil] at hT
   have hp32 : pre.length = 32 := HL.out
   have hTl := hat_lt hT
   have HFW : Hid (Fr [E.gc, E.gw] w wr) := Lib.hid (Fr.mono (Fr.drop_new HF1.out HF.out HGN.out) (by simp))
   have HTP2 := HTP
   rw [hE1] at HTP2
   clear hE1 hd HTP HE HT
   cases b with
   | false =>
    have HC := Lib.hid (rleaves_no hE at' ha pre wr HG.out)
    go_wp2_with fail
    refine HC.out.mono ?_; rintro e w3 ⟨rfl, hg3, hf3⟩
    have HG3 := Lib.hid hg3
    have HF3 := Lib.hid (HFW.out.trans (hf3.mono (ex' := [E.gc, E.gw]) (by simp)))
    clear hg3 hf3 HC
    go_wp2_with fail
    go_ret
    rw [HTP2.out]
    exact ⟨rfl, HG3.out, HF3.out⟩
   | true =>
    have HC := Lib.hid (rleaves_yes hE at' ha pre hp32 wr HG.out)
    go_wp2_with fail
    refine HC.out.mono ?_; rintro e w3 ⟨rfl, hg3, hf3⟩
    have HG3 := Lib.hid hg3
    have HF3 := Lib.hid (HFW.out.trans (hf3.mono (ex' := [E.gc, E.gw]) (by simp)))
    clear hg3 hf3 HC
    go_wp2_with fail
    go_ret
    rw [HTP2.out]
    exact ⟨rfl, HG3.out, HF3.out⟩
end
theorem results_tmp4 {fn : Func} {t u v x : Tmp} (h : fn.results = #[.tmp t, .tmp u, .tmp v, .tmp x]) (tmps : Array Value) (P : Program) (w : World) :
  (results fn tmps).run P w = .ok (.tuple #[tmps.getD t undef, tmps.getD u undef, tmps.getD v undef, tmps.getD x undef]) w := by
 simp [results, h]
abbrev srcV (gw N cw : Nat) : Value := .agg #[.slice (some ⟨gw, 0, none⟩) N cw, .int .i64 (-1), .int .i64 0]
def tabR (S : Nat → List Int) (p : Int) : List Int := if p = 0 then zl 32 else rdPtr (S p.toNat)
theorem tabR_len (S : Nat → List Int) (p : Int) : (tabR S p).length = 32 := by
 unfold tabR
 split <;> simp
theorem tabR_nth (S : Nat → List Int) (p : Int) (i : Nat) : nth (tabR S p) i = hangW S p i := by
 unfold tabR hangW
 split
 ·rw [zl_get]
 ·rfl
section
variable {gw N cw : Nat} {S : Nat → List Int}
theorem rread_any (n : Nat) (hn : n < N) (w : World) (h : WSecs w gw N S) :
  Calls Tryz.prog 112 #[srcV gw N cw, .int .i64 n] w fun e w' => e = .returned (.tuple #[.agg (IV .u8 (S n)), .int .i64 0]) ∧ Below w.heap.size w w' := by
 have hB1 : Below w.heap.size w (w.alloc (.cells #[.slice (some ⟨gw, 0, none⟩) N cw, .int .i64 (-1), .int .i64 0] 114)) := (Below.refl _ _).alloc (Nat.le_refl _) _
 have hB2 : Below w.heap.size w ((w.alloc (.cells #[.slice (some ⟨gw, 0, none⟩) N cw, .int .i64 (-1), .int .i64 0] 114)).alloc (.cells (IV .u8 (zl 128)) 33)) := hB1.alloc hB1.size _
 have h2 := h.same (hat_below hB2 h.lt2)
 have hg1 := (hopA _ (.cells (IV .u8 (zl 128)) 33) (hopN w (.cells #[.slice (some ⟨gw, 0, none⟩) N cw, .int .i64 (-1), .int .i64 0] 114)).1).1
 have hg2 := (hopN (w.alloc (.cells #[.slice (some ⟨gw, 0, none⟩) N cw, .int .i64 (-1), .int .i64 0] 114)) (.cells (IV .u8 (zl 128)) 33)).1
 obtain ⟨cs, hcs, hld, hlen, hby⟩ := h2.load hn
 have HB2 := Lib.hid hB2
 have hz1 : (w.alloc (.cells #[.slice (some ⟨gw, 0, none⟩) N cw, .int .i64 (-1), .int .i64 0] 114)).heap.size = w.heap.size + 1 := World.size_alloc _ _
 rw [hz1] at hg2
 have hn0 : (0 : Int) ≤ (n : Int) := Int.natCast_nonneg _
 have hn1 : (n : Int) < (N : Int) := by omega
 have hm1 : ((n : Int) == -1) = false := by simp <;> omega
 have hlt : ¬ (n : Int) < 0 := by omega
 have hge : ¬ (N : Int) ≤ (n : Int) := by omega
 clear hB1 hB2 h h2 hby
 go_enter Tryz.func112, Tryz.ntmps112
 go_upto_region 1 with fail
 try rw [hz1]
 clear hz1
 generalize (w.alloc (.cells #[.slice (some ⟨gw, 0, none⟩) N cw, .int .i64 (-1), .int .i64 0] 114)).alloc (.cells (IV .u8 (zl 128)) 33) = w2 at *
 have hl1 := hat_lt hg1
 have hl2 := hat_lt hg2
 have hl3 := hat_lt hcs
 have hst : ∀ raw w', stRow raw 128 0 (w.heap.size + 1) (IV .u8 (S n)) w' (some (.cells (IV .u8 (zl 128)) 33 (0, 0))) = .ok () (w'.setRow (w.heap.size + 1) (IV .u8 (S n))) := fun raw w' => stRow_full (by simp) (by simpa using hlen) (by simp)
 have HEND : Hid (hat (w2.setRow (w.heap.size + 1) (IV .u8 (S n))) (w.heap.size + 1) = some (.cells (IV .u8 (S n)) 33) ∧ Below w.heap.size w (w2.setRow (w.heap.size + 1) (IV .u8 (S n)))) := Lib.hid ⟨hat_setRow_at _ _ _ _ _ _ hg2, below_setRow HB2.out (by omega) _⟩
 generalize w.heap.size + 1 = gz at *
 go_wp2_with fail
 generalize w2.setRow gz (IV .u8 (S n)) = w3 at *
 obtain ⟨hz3, hB3⟩ := HEND.out
 exact ret_ct row33 rfl (cs := IV .u8 (S n)) rfl hz3 (by simpa using hlen) rfl ⟨rfl, hB3⟩
theorem rtable_any (p : Int) (hp0 : 0 ≤ p) (hp1 : p < N) (w : World) (h : WSecs w gw N S) :
  Calls Tryz.prog 96 #[srcV gw N cw, .int .i64 p] w fun e w' => e = .returned (.tuple #[.agg (IV .i64 (tabR S p)), .int .i64 0]) ∧ Below w.heap.size w w' := by
 have hB1 : Below w.heap.size w (w.alloc (.cells #[.slice (some ⟨gw, 0, none⟩) N cw, .int .i64 (-1), .int .i64 0] 114)) := (Below.refl _ _).alloc (Nat.le_refl _) _
 have hB2 : Below w.heap.size w ((w.alloc (.cells #[.slice (some ⟨gw, 0, none⟩) N cw, .int .i64 (-1), .int .i64 0] 114)).alloc (.cells (IV .i64 (zl 32)) 89)) := hB1.alloc hB1.size _
 have HS2 := Lib.hid (h.same (hat_below hB2 h.lt2))
 have hg1 := (hopA _ (.cells (IV .i64 (zl 32)) 89) (hopN w (.cells #[.slice (some ⟨gw, 0, none⟩) N cw, .int .i64 (-1), .int .i64 0] 114)).1).1
 have hg2 := (hopN (w.alloc (.cells #[.slice (some ⟨gw, 0, none⟩) N cw, .int .i64 (-1), .int .i64 0] 114)) (.cells (IV .i64 (zl 32)) 89)).1
 have HB2 := Lib.hid hB2
 have hz1 : (w.alloc (.cells #[.slice (some ⟨gw, 0, none⟩) N cw, .int .i64 (-1), .int .i64 0] 114)).heap.size = w.heap.size + 1 := World.size_alloc _ _
 rw [hz1] at hg2
 clear hB1 hB2 h
 obtain ⟨ps, hps⟩ : ∃ ps, tabR S p = ps := ⟨_, rfl⟩
 have hpl : ps.length = 32 := by rw [← hps]; exact tabR_len S p
 have HPS := Lib.hid hps
 clear hps
 go_enter Tryz.func96, Tryz.ntmps96
 go_upto_region 1 with fail
 try rw [hz1]
 clear hz1
 generalize (w.alloc (.cells #[.slice (some ⟨gw, 0, none⟩) N cw, .int .i64 (-1), .int .i64 0] 114)).alloc (.cells (IV .i64 (zl 32)) 89) = w2 at *
 have hl1 := hat_lt hg1
 have hl2 := hat_lt hg2
 have HGZ : Hid (w.heap.size ≤ w.heap.size + 1) := Lib.hid (by omega)
 generalize w.heap.size + 1 = gz at *
 by_cases h0 : p = 0
 ·have d0 : (p == 0) = true := by simpa using h0
  have hz : ps = zl 32 := by rw [← HPS.out]; unfold tabR; rw [if_pos h0]
  subst hz
  have hst : ∀ raw w', stRow raw 32 0 gz (IV .i64 (zl 32)) w' (some (.cells (IV .i64 (zl 32)) 89 (0, 0))) = .ok () (w'.setRow gz (IV .i64 (zl 32))) := fun raw w' => stRow_full (by simp) (by simp) (by simp)
  have HEND : Hid (hat (w2.setRow gz (IV .i64 (zl 32))) gz = some (.cells (IV .i64 (zl 32)) 89) ∧ Below w.heap.size w (w2.setRow gz (IV .i64 (zl 32)))) := Lib.hid ⟨hat_setRow_at _ _ _ _ _ _ hg2, below_setRow HB2.out HGZ.out _⟩
  clear h0
  go_wp2_with fail
  generalize w2.setRow gz (IV .i64 (zl 32)) = w3 at *
  obtain ⟨hz3, hB3⟩ := HEND.out
  exact ret_ct row89 rfl (cs := IV .i64 (zl 32)) rfl hz3 (by simp) rfl ⟨by rw [HPS.out]; rfl, hB3⟩
 ·have d0 : (p == 0) = false := by simpa using h0
  obtain ⟨n, rfl⟩ := Int.eq_ofNat_of_zero_le hp0
  have hn : n < N := by omega
  have HC := Lib.hid (rread_any (cw := cw) n hn w2 HS2.out)
  obtain ⟨-, -, -, hlen, hby⟩ := HS2.out.load hn
  have HRP := Lib.hid (fun W => rreadPointers_any (S n) hlen hby W)
  have hrp : rdPtr (S n) = ps := by rw [← HPS.out]; unfold tabR; rw [if_neg h0, Int.toNat_natCast]
  rw [hrp] at HRP
  clear h0 hby hrp
  go_wp2_with fail
  refine HC.out.mono ?_; rintro e w3 ⟨rfl, hb3⟩
  have hg33 := (hop hb3 hg2).1
  have hg6 := (hopN w3 (.cells (IV .u8 (S n)) 33)).1
  have hB4 : Below w2.heap.size w2 (w3.alloc (.cells (IV .u8 (S n)) 33)) := hb3.alloc hb3.size _
  have HB4 := Lib.hid (below_call HB2.out hB4 HB2.out.size)
  have hg4 := (hop hB4 hg2).1
  clear hB4 hb3 hg33 HC HS2 HB2 hg1 hl1 hg2 hl2
  go_upto_region 4 with fail
  generalize w3.alloc (.cells (IV .u8 (S n)) 33) = w4 at *
  generalize w3.heap.size = g6 at *
  have hl4 := hat_lt hg4
  have hl6 := hat_lt hg6
  go_wp2_with fail
  refine (HRP.out _).mono ?_; rintro e w5 ⟨rfl, hb5⟩
  have hg5 := (hop hb5 hg4).1
  have hl5 := hat_lt hg5
  have hst : ∀ raw w', stRow raw 32 0 gz (IV .i64 ps) w' (some (.cells (IV .i64 (zl 32)) 89 (0, 0))) = .ok () (w'.setRow gz (IV .i64 ps)) := fun raw w' => stRow_full (by simp) (by simpa using hpl) (by simp)
  have HEND : Hid (hat (w5.setRow gz (IV .i64 ps)) gz = some (.cells (IV .i64 ps) 89) ∧ Below w.heap.size w (w5.setRow gz (IV .i64 ps))) := Lib.hid ⟨hat_setRow_at _ _ _ _ _ _ hg5, below_setRow (below_call HB4.out hb5 HB4.out.size) HGZ.out _⟩
  clear hb5
  go_wp2_with fail
  generalize w5.setRow gz (IV .i64 ps) = w6 at *
  obtain ⟨hz3, hB3⟩ := HEND.out
  exact ret_ct row89 rfl (cs := IV .i64 ps) rfl hz3 (by simpa using hpl) rfl ⟨by rw [HPS.out]; rfl, hB3⟩
theorem rway_any (k : Nat) (hk : k < 1068) (w : World) :
  Calls Tryz.prog 95 #[.int .i64 k] w fun e w' => e = .returned (.tuple #[.int .i64 (if k < 12 then 0 else if k < 44 then 1 else 2), .int .i64 (if k < 12 then k else if k < 44 then (k - 12 : Nat) else ((k - 44) / 32 : Nat)), .int .i64 (if k < 44 then 0 else ((k - 44) % 32 : Nat)), .int .i64 0]) ∧ w' = w := by
 have h0 : (0 : Int) ≤ (k : Int) := Int.natCast_nonneg _
 have h1 : ¬ (k : Int) < 0 := by omega
 have h2 : ¬ (1068 : Int) ≤ (k : Int) := by omega
 by_cases h12 : k < 12
 ·have hi : (k : Int) < 12 := by omega
  rw [if_pos h12, if_pos h12, if_pos (by omega)]
  go_enter Tryz.func95, Tryz.ntmps95
  go_wp2_with fail
  (try simp only [Exit.inBlock, Exit.then])
  refine bodyPost_ret (results_tmp4 rfl _ _ _) rfl ?_
  exact ⟨rfl, rfl⟩
 ·have hi : ¬ (k : Int) < 12 := by omega
  rw [if_neg h12, if_neg h12]
  by_cases h44 : k < 44
  ·have hi2 : (k : Int) < 44 := by omega
   rw [if_pos h44, if_pos h44, if_pos h44]
   have e : (k : Int) - 12 = ((k - 12 : Nat) : Int) := by omega
   go_enter Tryz.func95, Tryz.ntmps95
   go_wp2_with fail
   (try simp only [Exit.inBlock, Exit.then])
   refine bodyPost_ret (results_tmp4 rfl _ _ _) rfl ?_
   exact ⟨by rw [← e]; rfl, rfl⟩
  ·have hi2 : ¬ (k : Int) < 44 := by omega
   rw [if_neg h44, if_neg h44, if_neg h44]
   obtain ⟨m, rfl⟩ : ∃ m, k = 44 + m := ⟨k - 44, by omega⟩
   have e4 : 44 + m - 44 = m := by omega
   rw [e4]
   go_enter Tryz.func95, Tryz.ntmps95
   go_wp2_with fail
   (try simp only [Exit.inBlock, Exit.then])
   refine bodyPost_ret (results_tmp4 rfl _ _ _) rfl ?_
   refine ⟨?_, rfl⟩
   simp only [Array.getD_eq_getD_getElem?, List.getElem?_toArray, List.getElem?_cons_succ, List.getElem?_cons_zero, Option.getD_some]
   have e5 : (44 + (m : Int) - 44) / 32 = ((m / 32 : Nat) : Int) := by omega
   have e6 : (44 + (m : Int) - 44) % 32 = ((m % 32 : Nat) : Int) := by omega
   have e7 : ((m / 32 : Nat) : Int) = (m : Int) / 32 := by omega
   have e8 : ((m % 32 : Nat) : Int) = (m : Int) % 32 := by omega
   rw [e5, e6, e7, e8]
end
section
variable {gw N cw : Nat} {S : Nat → List Int}
theorem rfind_any {raw : List Int} (hA : Aims N S raw) (k : Nat) (hk : k < 1068) (w : World) (h : WSecs w gw N S) :
  Calls Tryz.prog 68 #[srcV gw N cw, .agg (IV .i64 raw), .int .i64 k] w fun e w' => e = .returned (.tuple #[.int .i64 (blkW S raw k), .int .i64 0]) ∧ Below w.heap.size w w' := by
 have hB1 : Below w.heap.size w (w.alloc (.cells #[.slice (some ⟨gw, 0, none⟩) N cw, .int .i64 (-1), .int .i64 0] 114)) := (Below.refl _ _).alloc (Nat.le_refl _) _
 have hB2 : Below w.heap.size w ((w.alloc (.cells #[.slice (some ⟨gw, 0, none⟩) N cw, .int .i64 (-1), .int .i64 0] 114)).alloc (.cells (IV .i64 raw) 45)) := hB1.alloc hB1.size _
 have HS2 := Lib.hid (h.same (hat_below hB2 h.lt2))
 have hg1 := (hopA _ (.cells (IV .i64 raw) 45) (hopN w (.cells #[.slice (some ⟨gw, 0, none⟩) N cw, .int .i64 (-1), .int .i64 0] 114)).1).1
 have hg2 := (hopN (w.alloc (.cells #[.slice (some ⟨gw, 0, none⟩) N cw, .int .i64 (-1), .int .i64 0] 114)) (.cells (IV .i64 raw) 45)).1
 have HB2 := Lib.hid hB2
 have hz1 : (w.alloc (.cells #[.slice (some ⟨gw, 0, none⟩) N cw, .int .i64 (-1), .int .i64 0] 114)).heap.size = w.heap.size + 1 := World.size_alloc _ _
 rw [hz1] at hg2
 clear hB1 hB2 h
 have hr : raw.length = 18 := hA.r
 have HA := Lib.hid hA
 clear hA
 obtain ⟨res, hres⟩ : ∃ r, blkW S raw k = r := ⟨_, rfl⟩
 rw [hres]
 have HR := Lib.hid hres
 clear hres
 have HW := Lib.hid (fun W => rway_any k hk W)
 go_enter Tryz.func68, Tryz.ntmps68
 go_upto_region 1 with fail
 try rw [hz1]
 clear hz1
 generalize (w.alloc (.cells #[.slice (some ⟨gw, 0, none⟩) N cw, .int .i64 (-1), .int .i64 0] 114)).alloc (.cells (IV .i64 raw) 45) = w2 at *
 have hl1 := hat_lt hg1
 have hl2 := hat_lt hg2
 generalize w.heap.size + 1 = gx at *
 have hk0 : (0 : Int) ≤ (k : Int) := Int.natCast_nonneg _
 by_cases h12 : k < 12
 ·rw [if_pos h12, if_pos h12, if_pos (by omega)] at HW
  have hk12 : (k : Int) < 12 := by omega
  have hcb : (IV .i64 raw)[4 + k]? = some (.int .i64 (nth raw (4 + k))) := by rw [IV_get?, nth_getElem? (by omega)]; rfl
  have HRR : Hid (nth raw (4 + k) = res) := Lib.hid (by rw [← HR.out]; unfold blkW; rw [if_pos h12])
  go_wp2_with fail
  refine (HW.out _).mono ?_; rintro e w3 ⟨rfl, rfl⟩
  go_wp2_with fail
  go_ret2
  exact ⟨by rw [← HRR.out]; rfl, HB2.out⟩
 ·rw [if_neg h12, if_neg h12] at HW
  by_cases h44 : k < 44
  ·rw [if_pos h44, if_pos h44, if_pos h44] at HW
   obtain ⟨m, hm⟩ : ∃ m, k - 12 = m := ⟨_, rfl⟩
   rw [hm] at HW
   have hm32 : m < 32 := by omega
   have hmi : (m : Int) < 32 := by omega
   have hm0 : (0 : Int) ≤ (m : Int) := Int.natCast_nonneg _
   have hc16 : (IV .i64 raw)[16]? = some (.int .i64 (nth raw 16)) := by rw [IV_get?, nth_getElem? (by omega)]; rfl
   have HC := Lib.hid (rtable_any (cw := cw) (nth raw 16) HA.out.p16.1 HA.out.p16.2 w2 HS2.out)
   have hpl := tabR_len S (nth raw 16)
   have HRR : Hid (nth (tabR S (nth raw 16)) m = res) := Lib.hid (by rw [← HR.out, tabR_nth]; unfold blkW; rw [if_neg h12, if_pos h44, hm])
   generalize tabR S (nth raw 16) = ps at *
   have hcm : (IV .i64 ps)[m]? = some (.int .i64 (nth ps m)) := by rw [IV_get?, nth_getElem? (by omega)]; rfl
   clear hm
   go_wp2_with fail
   refine (HW.out _).mono ?_; rintro e w3 ⟨rfl, rfl⟩
   go_wp2_with fail
   refine HC.out.mono ?_; rintro e w4 ⟨rfl, hb4⟩
   have hg5 := (hopN w4 (.cells (IV .i64 ps) 89)).1
   have hB5 : Below w3.heap.size w3 (w4.alloc (.cells (IV .i64 ps) 89)) := hb4.alloc hb4.size _
   have HB5 := Lib.hid (below_call HB2.out hB5 HB2.out.size)
   clear hB5 hb4 HC HW
   go_upto_region 8 with fail
   generalize w4.alloc (.cells (IV .i64 ps) 89) = w5 at *
   generalize w4.heap.size = gt at *
   have hl5 := hat_lt hg5
   go_wp2_with fail
   go_ret2
   exact ⟨by rw [← HRR.out]; rfl, HB5.out⟩
  ·rw [if_neg h44, if_neg h44, if_neg h44] at HW
   obtain ⟨i, hi⟩ : ∃ i, (k - 44) / 32 = i := ⟨_, rfl⟩
   obtain ⟨j, hj⟩ : ∃ j, (k - 44) % 32 = j := ⟨_, rfl⟩
   rw [hi, hj] at HW
   have hi32 : i < 32 := by omega
   have hii : (i : Int) < 32 := by omega
   have hi0 : (0 : Int) ≤ (i : Int) := Int.natCast_nonneg _
   have hj32 : j < 32 := by omega
   have hji : (j : Int) < 32 := by omega
   have hj0 : (0 : Int) ≤ (j : Int) := Int.natCast_nonneg _
   have hc17 : (IV .i64 raw)[17]? = some (.int .i64 (nth raw 17)) := by rw [IV_get?, nth_getElem? (by omega)]; rfl
   have HC := Lib.hid (rtable_any (cw := cw) (nth raw 17) HA.out.p17.1 HA.out.p17.2 w2 HS2.out)
   have hpl := tabR_len S (nth raw 17)
   have HRR : Hid (nth (tabR S (nth (tabR S (nth raw 17)) i)) j = res) := Lib.hid (by
    rw [← HR.out, tabR_nth]
    unfold blkW
    rw [if_neg h12, if_neg h44, hi, hj, tabR_nth]
    rfl)
   have HP : Hid (0 ≤ nth (tabR S (nth raw 17)) i ∧ nth (tabR S (nth raw 17)) i < N) := Lib.hid (by
    rw [tabR_nth]
    unfold hangW
    split
    ·rename_i h0
     have := HA.out.p17
     omega
    ·rename_i h0
     have hm : nth (rdPtr (S (nth raw 17).toNat)) i ∈ rdPtr (S (nth raw 17).toNat) := List.mem_iff_getElem?.2 ⟨i, nth_getElem? (by simp; omega)⟩
     have := HA.out.p17
     exact ⟨(rdPtr_small (HS2.out.load (i := (nth raw 17).toNat) (by omega)).choose_spec.2.2.2 _ hm).1, HA.out.d h0 _ hm⟩)
   generalize tabR S (nth raw 17) = ps at *
   have hcm : (IV .i64 ps)[i]? = some (.int .i64 (nth ps i)) := by rw [IV_get?, nth_getElem? (by omega)]; rfl
   obtain ⟨p, hp⟩ : ∃ p, nth ps i = p := ⟨_, rfl⟩
   rw [hp] at HP HRR hcm
   have hql := tabR_len S p
   have HC2 := Lib.hid (fun W hW => rtable_any (gw := gw) (N := N) (S := S) (cw := cw) p HP.out.1 HP.out.2 W hW)
   generalize tabR S p = qs at *
   have hcj : (IV .i64 qs)[j]? = some (.int .i64 (nth qs j)) := by rw [IV_get?, nth_getElem? (by omega)]; rfl
   clear hi hj
   go_wp2_with fail
   refine (HW.out _).mono ?_; rintro e w3 ⟨rfl, rfl⟩
   go_wp2_with fail
   refine HC.out.mono ?_; rintro e w4 ⟨rfl, hb4⟩
   have hg5 := (hopN w4 (.cells (IV .i64 ps) 89)).1
   have hB5 : Below w3.heap.size w3 (w4.alloc (.cells (IV .i64 ps) 89)) := hb4.alloc hb4.size _
   have HB5 := Lib.hid (below_call HB2.out hB5 HB2.out.size)
   have hg1' := (hop hB5 hg1).1
   have HS5 := Lib.hid (HS2.out.same (hat_below hB5 HS2.out.lt2))
   clear hB5 hb4 HC HW
   go_upto_region 10 with fail
   generalize w4.alloc (.cells (IV .i64 ps) 89) = w5 at *
   generalize w4.heap.size = gt at *
   have hl5 := hat_lt hg5
   have hl1' := hat_lt hg1'
   go_wp2_with fail
   have hN5 := (hopN w5 (.cells (IV .i64 (zl 32)) 89)).1
   have hBN : Below w5.heap.size w5 (w5.alloc (.cells (IV .i64 (zl 32)) 89)).drew := Below.drew ((Below.refl _ _).alloc (Nat.le_refl _) _)
   have HBN := Lib.hid hBN
   have HSN := Lib.hid (HS5.out.same (hat_below hBN HS5.out.lt2))
   have HN5 : Hid (hat (w5.alloc (.cells (IV .i64 (zl 32)) 89)).drew w5.heap.size = some (.cells (IV .i64 (zl 32)) 89)) := Lib.hid hN5
   clear hBN hN5
   have hst : ∀ raw w', stRow raw 32 0 w5.heap.size (IV .i64 qs) w' (some (.cells (IV .i64 (zl 32)) 89 (0, 0))) = .ok () (w'.setRow w5.heap.size (IV .i64 qs)) := fun raw w' => stRow_full (by simp) (by simpa using hql) (by simp)
   go_region_with (first
    | (refine (HC2.out w5.drew (HS5.out.same (w' := w5.drew) rfl)).mono ?_; rintro e w6 ⟨rfl, hb6⟩; have hB6 : Below w5.heap.size w5 w6 := ⟨hb6.os, hb6.tape, hb6.output, hb6.size, hb6.block⟩)
    | (refine (HC2.out (w5.alloc (.cells (IV .i64 (zl 32)) 89)).drew HSN.out).mono ?_; rintro e w6 ⟨rfl, hb6⟩; have hB6 : Below w5.heap.size w5 w6 := below_call HBN.out hb6 HBN.out.size; have hx6 := (hop hb6 HN5.out).1; have hx6l := hat_lt hx6))
   all_goals first
    | (have hg7 := (hopN w6 (.cells (IV .i64 qs) 89)).1
       have hB7 : Below w5.heap.size w5 (w6.alloc (.cells (IV .i64 qs) 89)) := hB6.alloc hB6.size _
       have HB7 := Lib.hid (below_call HB5.out hB7 HB5.out.size)
       clear hB7 hb6 hB6
       go_upto_region 13 with fail
       generalize w6.alloc (.cells (IV .i64 qs) 89) = w7 at *
       generalize w6.heap.size = gu at *
       have hl7 := hat_lt hg7
       go_wp2_with fail
       go_ret2
       exact ⟨by rw [← HRR.out]; rfl, HB7.out⟩)
    | (have hg7 := hat_setRow_at _ _ (IV .i64 qs) _ _ _ hx6
       have HB7 := Lib.hid (below_setRow (below_call HB5.out hB6 HB5.out.size) (g := w5.heap.size) HB5.out.size (IV .i64 qs))
       clear hb6 hB6
       go_upto_region 13 with fail
       generalize w6.setRow w5.heap.size (IV .i64 qs) = w7 at *
       have hl7 := hat_lt hg7
       go_wp2_with fail
       go_ret2
       exact ⟨by rw [← HRR.out]; rfl, HB7.out⟩)
end
end Go.Proofs.YthioepdgnbdohaaGreat
