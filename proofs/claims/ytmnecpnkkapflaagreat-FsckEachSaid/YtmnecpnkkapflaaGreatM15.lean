import Derived.Test.YtmnecpnkkapflaaGreatM07
import Derived.Test.YtmnecpnkkapflaaGreatM09
import Derived.Test.YtmnecpnkkapflaaGreatM13
import Derived.Test.YtmnecpnkkapflaaGreatM14
namespace Go.Proofs.YtmnecpnkkapflaaGreat
set_option maxHeartbeats 16000000
set_option maxRecDepth 1000000
set_option linter.unusedSimpArgs false
set_option linter.unusedVariables false
open Go.RowKit
theorem flat_apart {f : Nat → List Int} : ∀ (l : List Nat), l.Nodup → (l.flatMap f).Nodup → ∀ i ∈ l, ∀ i' ∈ l, ∀ p, p ∈ f i → p ∈ f i' → i = i'
 | [], _, _, i, hi, _, _, _, _, _ => by cases hi
 | a :: r, hn, h, i, hi, i', hi', p, hp, hp' => by
  rw [List.flatMap_cons, List.nodup_append] at h
  obtain ⟨h1, h2, h3⟩ := h
  have hn2 := List.nodup_cons.1 hn
  rcases List.mem_cons.1 hi with e | h9
  ·subst e
   rcases List.mem_cons.1 hi' with e | h9
   ·exact e.symm
   ·exact absurd rfl (h3 p hp p (List.mem_flatMap.2 ⟨i', h9, hp'⟩))
  ·rcases List.mem_cons.1 hi' with e | hi'
   ·subst e
    exact absurd rfl (h3 p hp' p (List.mem_flatMap.2 ⟨i, h9, hp⟩))
   ·exact flat_apart r hn2.2 h2 i h9 i' hi' p hp hp'
structure WellF (X Y : Int) (A : Nat → List Int) : Prop where
 Y1 : 1 ≤ Y
 Y9 : Y < 4096
 ln : ∀ j : Nat, isD X Y j = true → (A j).length = 128 ∧ Bytes (A j)
 rd : ∀ i : Nat, 1 ≤ i → (i : Int) ≤ Y → (rdInoR (A i)).2 = 0
 sh : ∀ i : Nat, 1 ≤ i → (i : Int) ≤ Y → nth (wI A i) 0 ≠ 0 → inoSh (cntX (nth (wI A i) 2)) A (wI A i)
 ok : ∀ i : Nat, 1 ≤ i → (i : Int) ≤ Y → nth (wI A i) 0 ≠ 0 → OkL X Y (fun _ => false) (inoPs (cntX (nth (wI A i) 2)) A (wI A i))
 dj : ∀ i i' : Nat, 1 ≤ i → (i : Int) ≤ Y → 1 ≤ i' → (i' : Int) ≤ Y → nth (wI A i) 0 ≠ 0 → nth (wI A i') 0 ≠ 0 → ∀ p, p ∈ inoPs (cntX (nth (wI A i) 2)) A (wI A i) → p ∈ inoPs (cntX (nth (wI A i') 2)) A (wI A i') → i = i'
 rt : nth (wI A 1) 0 = 2
 dr : DirsOk A (wI A) (Y.toNat + 1)
 al : ∀ i, 1 ≤ i → i < Y.toNat + 1 → nth (wI A i) 0 ≠ 0 → InoOkW A (wI A) (Y.toNat + 1) i
theorem wellF_of {N : Nat} {S : Nat → List Int} (hS : ∀ j, j < N → (S j).length = 128 ∧ Bytes (S j)) (h : WellP N S) : WellF N (rdSupR (S 0)).2.1 S := by
 have hmay := (sup_one h.su).1
 obtain ⟨hx, hy, hxy⟩ := hmay
 rw [h.sn] at hxy
 obtain ⟨s', hs'⟩ := Option.isSome_iff_exists.1 h.pt
 obtain ⟨p1, p2, -⟩ := (ptrsA_iff _ _ _ _ _ _ _).1 hs'
 have hmem : ∀ i : Nat, 1 ≤ i → (i : Int) ≤ (rdSupR (S 0)).2.1 → i ∈ List.range' 1 (rdSupR (S 0)).2.1.toNat := fun i h1 h2 => List.mem_range'_1.2 ⟨h1, by omega⟩
 have hpt : ∀ i : Nat, nth (wI S i) 0 ≠ 0 → ptI S (wI S) i = inoPs (cntX (nth (wI S i) 2)) S (wI S i) := fun i hk => if_neg hk
 have hsub : ∀ (l : List Nat) (i : Nat), i ∈ l → OkL N (rdSupR (S 0)).2.1 (fun _ => false) (l.flatMap (ptI S (wI S))) → OkL N (rdSupR (S 0)).2.1 (fun _ => false) (ptI S (wI S) i) := by
  intro l
  induction l with
  | nil => intro i hi; cases hi
  | cons a r ih =>
   intro i hi ho
   rw [List.flatMap_cons] at ho
   rcases List.mem_cons.1 hi with rfl | hi
   ·exact (okL_app.1 ho).1
   ·refine ih i hi ⟨fun p hp => ho.1 p (List.mem_append_right _ hp), ?_⟩
    exact (List.nodup_append.1 ho.2).2.1
 refine ⟨hy.1, by omega, fun j hj => hS j ?_, fun i h1 h2 => h.rd i h1 h2, fun i h1 h2 hk => p1 i (hmem i h1 h2) hk, fun i h1 h2 hk => ?_, fun i i' h1 h2 h1' h2' hk hk' p hp hp' => ?_, h.rt, h.dr, h.al⟩
 ·unfold isD at hj
  have := of_decide_eq_true hj
  omega
 ·rw [← hpt i hk]
  exact hsub _ i (hmem i h1 h2) p2
 ·rw [← hpt i hk] at hp
  rw [← hpt i' hk'] at hp'
  exact flat_apart _ (List.nodup_range' ..) p2.2 i (hmem i h1 h2) i' (hmem i' h1' h2') p hp hp'
structure BZ (A : Nat → List Int) (z : LZ) : Prop where
 S : z.st.S = A
 t : ∀ i t, z.T i = some t → t.raw = (rdInoR (A i)).1
theorem wipeL_zero {s : List Int} (h : s.length = 128) {k : Nat} (hk : k ≤ 128) (hz : zeroFrom s k = true) : wipeL s k = s := by
 unfold wipeL
 apply nth_ext
 ·simp; omega
 ·intro i hi
  by_cases hik : i < k
  ·rw [nth_append_left (by simp; omega)]
   unfold nth
   rw [List.getElem?_take, if_pos hik]
  ·rw [nth_append_right (by simp; omega), zl_get]
   unfold zeroFrom at hz
   rw [List.all_eq_true] at hz
   have hl : i < s.length := by simp at hi; omega
   have hm : nth s i ∈ s.drop k := by
    refine List.mem_iff_getElem?.2 ⟨i - k, ?_⟩
    rw [List.getElem?_drop, show k + (i - k) = i by omega, nth_getElem? hl]
   have := hz _ hm
   simp at this
   exact this.symm
theorem take_bz {X Y : Int} {A : Nat → List Int} (hF : WellF X Y A) {z : LZ} (hI : InvZ X Y A z) (hP : PZ X Y z) (hB : BZ A z) (hix : ∀ i t, z.T i = some t → 1 ≤ i ∧ (i : Int) ≤ Y) {x : Nat} (hx1 : 1 ≤ x) (hxY : (x : Int) ≤ Y) (hT : z.T x = none) (hk : nth (wI A x) 0 ≠ 0) (n : Int) : BZ A (takeZ X Y x (rdInoR (A x)).1 n z) := by
 have hY : 0 ≤ Y := by have := hF.Y1; omega
 have hraw : wI A x = (rdInoR (A x)).1 := wI_yes A hx1
 have hl : (rdInoR (A x)).1.length = 18 := rdInoR_length _
 have hsh := hF.sh x hx1 hxY hk
 have hok := hF.ok x hx1 hxY hk
 have htl := (hF.al x hx1 (by omega) hk).tl
 rw [hraw] at hsh hok htl
 have hSB : (bare z.st).S = A := hB.S
 have hcl : ∀ p ∈ inoPs (cntX (nth (rdInoR (A x)).1 2)) A (rdInoR (A x)).1, z.st.cl p = false := fun p hp => by
  cases hc : z.st.cl p with
  | false => rfl
  | true =>
   obtain ⟨i, t, ht, hm⟩ := hP.un p hc
   obtain ⟨i1, i2⟩ := hix i t ht
   unfold psT at hm
   rw [hB.S, hB.t i t ht, ← wI_yes A i1] at hm
   have hki : nth (wI A i) 0 ≠ 0 := by
    rw [wI_yes A i1]
    exact (sound_may (hI.snd i t ht).1).2
   rw [← hraw] at hp
   have := hF.dj i x i1 i2 hx1 hxY hki hk p hm hp
   subst this
   rw [hT] at ht; cases ht
 obtain ⟨k1, k2⟩ := ptrs_k hY (cntX (nth (rdInoR (A x)).1 2)) hl hI.si (fun _ => rfl) (by rw [hSB]; exact hsh) (by rw [hSB]; exact ⟨fun p hp => ⟨(hok.1 p hp).1, hcl p hp⟩, hok.2⟩)
 obtain ⟨-, -, -, -, f5⟩ := ptrs_f hY (cntX (nth (rdInoR (A x)).1 2)) hl hI.si (fun _ => rfl)
 obtain ⟨e1, e2⟩ := takeX_parts X Y (rdInoR (A x)).1 z.st
 obtain ⟨pi, -, -⟩ := ptrs_i hY (cntX (nth (rdInoR (A x)).1 2)) (rdInoR (A x)).1 hI.si
 rw [hSB] at k2
 refine ⟨?_, fun i t ht => ?_⟩
 ·show (takeX X Y (rdInoR (A x)).1 z.st).2.S = A
  rw [e2]
  split
  ·exact k2
  ·unfold tailX
   split
   ·exact k2
   ·rename_i p hp
    split
    ·exact k2
    ·rename_i hz
     show updS _ _ _ = _
     have hcn : 0 ≤ cntX (nth (rdInoR (A x)).1 2) - 1 ∧ cntX (nth (rdInoR (A x)).1 2) - 1 < 1068 := by
      have hm := sound_may (s := A x) (by
       unfold soundR
       rw [hF.rd x hx1 hxY]
       simp
       rw [← hraw]; exact hk)
      have hb := (inoMay_else hm.2).1 hm.1
      have := hb.1.2.2.1
      unfold cntX
      omega
     have hbk := f5 _ hcn.1 hcn.2
     have hd := (pi.bk _ p hp).1
     rw [hp, k2, k1] at hbk
     have hbw := inoBl_blkW (cntX (nth (rdInoR (A x)).1 2)) A hl (cntX (nth (rdInoR (A x)).1 2) - 1).toNat (by omega)
     rw [show ((cntX (nth (rdInoR (A x)).1 2) - 1).toNat : Int) = cntX (nth (rdInoR (A x)).1 2) - 1 by omega] at hbw
     rw [hbw] at hbk
     have hpb : blkW A (rdInoR (A x)).1 (cntX (nth (rdInoR (A x)).1 2) - 1).toNat = p ∧ p ≠ 0 := by
      unfold optI at hbk
      split at hbk
      ·cases hbk
      ·rename_i h0; exact ⟨(Option.some.inj hbk).symm, fun e => h0 (by rw [← e]; exact (Option.some.inj hbk).symm)⟩
     unfold tailW at htl
     rw [if_neg hz, hpb.1, if_neg hpb.2] at htl
     have hln := hF.ln p.toNat (by rw [(isD_nat hY hd).1]; exact hd)
     rw [k2, wipeL_zero hln.1 (by omega) htl]
     exact updS_same _ _
 ·have ht2 : updT z.T x ⟨(takeX X Y (rdInoR (A x)).1 z.st).1, n, (takeX X Y (rdInoR (A x)).1 z.st).2.bk⟩ i = some t := ht
  by_cases e : i = x
  ·subst e
   rw [updT_eq] at ht2
   cases ht2
   show (takeX X Y (rdInoR (A i)).1 z.st).1 = _
   rw [e1, k1]
  ·rw [updT_ne _ _ e] at ht2
   exact hB.t i t ht2
theorem slotsW_pre {S : Nat → List Int} : ∀ (b : List Int) (l l' : List Ent), slotsW S b l = some l' → ∃ m, l' = l ++ m
 | [], l, l', h => ⟨[], by cases h; simp⟩
 | p :: r, l, l', h => by
  rw [slotsW_cons] at h
  split at h
  ·exact slotsW_pre r l l' h
  ·split at h
   ·cases h
   ·split at h
    ·exact slotsW_pre r l l' h
    ·obtain ⟨m, hm⟩ := slotsW_pre r _ l' h
     exact ⟨_, by rw [hm, List.append_assoc]⟩
theorem bkL_split (bk : Int → Option Int) {k n : Nat} (h : k ≤ n) : ∃ r, bkL bk n = bkL bk k ++ r := by
 induction n with
 | zero =>
  obtain rfl : k = 0 := by omega
  exact ⟨[], by simp⟩
 | succ n ih =>
  by_cases hk : k = n + 1
  ·subst hk; exact ⟨[], by simp⟩
  ·obtain ⟨r, hr⟩ := ih (by omega)
   exact ⟨r ++ [(bk n).getD 0], by rw [bkL_succ, hr, List.append_assoc]⟩
theorem slots_pre {S : Nat → List Int} {bk : Int → Option Int} {k n : Nat} (h : k ≤ n) {l : List Ent} (hl : slotsW S (bkL bk n) [] = some l) : ∃ l1 m, slotsW S (bkL bk k) [] = some l1 ∧ l = l1 ++ m := by
 obtain ⟨r, hr⟩ := bkL_split bk h
 rw [hr, slotsW_app] at hl
 cases h1 : slotsW S (bkL bk k) [] with
 | none => rw [h1] at hl; cases hl
 | some l1 =>
  rw [h1] at hl
  obtain ⟨m, hm⟩ := slotsW_pre r l1 l hl
  exact ⟨l1, m, rfl, hm⟩
theorem dir_slots {X Y : Int} {A : Nat → List Int} (hF : WellF X Y A) {L : Nat → List Ent} {c k : Nat} {z : LZ} (h : WZ X Y A L c k z) (hB : BZ A z) {i : Nat} {t : TI} (ht : z.T i = some t) (h2 : nth t.raw 0 = 2) :
  slotsW A (bkL t.bk (cntX (nth t.raw 2)).toNat) [] = some (entL A (wI A) (Y.toNat + 1) i) ∧ EntOk (wI A) (Y.toNat + 1) (entL A (wI A) (Y.toNat + 1) i) := by
 obtain ⟨i1, i2⟩ := h.ix i t ht
 have hraw := hB.t i t ht
 have hwi : wI A i = t.raw := by rw [wI_yes A i1, hraw]
 obtain ⟨l, hl, ho⟩ := hF.dr i i1 (by omega) (by rw [hwi]; exact h2)
 have hbl : blksW A (wI A i) = bkL t.bk (cntX (nth t.raw 2)).toNat := by
  unfold blksW bkL
  rw [hwi]
  apply List.map_congr_left
  intro k hk
  have hm := sound_may (h.inv.snd i t ht).1
  have hb := ((inoMay_else hm.2).1 hm.1).1.2.2.1
  rw [← hraw] at hb
  have hk9 : k < 1068 := by have := List.mem_range.1 hk; unfold cntX at this; omega
  rw [h.pz.bk i t ht k (Int.natCast_nonneg _) (by omega), getD_optI, hB.S, inoBl_blkW _ _ (h.inv.snd i t ht).2.1 k hk9]
 rw [hbl] at hl
 rw [entL_yes i1 (by omega) (by rw [hwi]; exact h2) (by rw [hbl]; exact hl)]
 exact ⟨hl, ho⟩
theorem pre_ent {X Y : Int} {A : Nat → List Int} (hF : WellF X Y A) {L : Nat → List Ent} {c k : Nat} {z : LZ} (h : WZ X Y A L c k z) (hB : BZ A z) (hkc : ∀ t, z.T c = some t → nth t.raw 0 = 2 → k ≤ (cntX (nth t.raw 2)).toNat) (i : Nat) : ∃ m, entL A (wI A) (Y.toNat + 1) i = L i ++ m := by
 by_cases hL : L i = []
 ·exact ⟨_, by rw [hL]; rfl⟩
 ·obtain ⟨t, ht, h2⟩ := h.nl i hL
  obtain ⟨hl, -⟩ := dir_slots hF h hB ht h2
  have hsl := h.sl i t ht h2
  rw [hB.S] at hsl
  have hd : doneB z c k i t ≤ (cntX (nth t.raw 2)).toNat := by
   unfold doneB
   split
   ·exact Nat.zero_le _
   ·split
    ·rename_i e; subst e; exact hkc t ht h2
    ·exact Nat.le_refl _
  obtain ⟨l1, m, h1, h3⟩ := slots_pre hd hl
  rw [hsl] at h1
  cases h1
  exact ⟨m, h3⟩
theorem sum_mono {f g : Nat → Nat} : ∀ n : Nat, (∀ i, f i ≤ g i) → ((List.range n).map f).sum ≤ ((List.range n).map g).sum
 | 0, _ => Nat.le_refl _
 | n + 1, h => by
  rw [List.range_succ, List.map_append, List.map_append, List.sum_append, List.sum_append]
  have := sum_mono n h
  have := h n
  simp; omega
theorem cntL_mono {L L' : Nat → List Ent} (N j : Nat) (h : ∀ i, ∃ m, L' i = L i ++ m) : cntL L N j ≤ cntL L' N j := by
 refine sum_mono _ fun i => ?_
 obtain ⟨m, hm⟩ := h i
 simp only [hm, List.countP_append]
 omega
theorem slot_bz {X Y : Int} {A : Nat → List Int} (hF : WellF X Y A) {L : Nat → List Ent} {c k : Nat} {zn : LZ × (ByteArray → Bool)} (h : WZ X Y A L c k zn.1) (hB : BZ A zn.1) (hn : NmIs (L c) zn.2) {t : TI} (hT : zn.1.T c = some t) (h2 : nth t.raw 0 = 2) (hq : (c : Int) ∉ zn.1.q) {p : Int} (hk : t.bk k = some p) (hkc : k < (cntX (nth t.raw 2)).toNat) :
  BZ A (slotZ X Y A p.toNat zn).1 := by
 have hY : 0 ≤ Y := by have := hF.Y1; omega
 obtain ⟨hd, hcp⟩ := h.inv.blk c t k p hT hk
 obtain ⟨hp, hp0⟩ := isD_nat hY hd
 obtain ⟨hl, ho⟩ := dir_slots hF h hB hT h2
 have hsl := h.sl c t hT h2
 unfold doneB at hsl
 rw [if_neg hq, if_pos rfl, hB.S] at hsl
 obtain ⟨l1, m, q1, q2⟩ := slots_pre (show k + 1 ≤ _ from hkc) hl
 rw [bkL_succ, slotsW_snoc hsl, hk] at q1
 simp only [Option.getD_some] at q1
 rw [if_neg hp0] at q1
 have her : (rdSloR (A p.toNat)).2.2 = 0 := Decidable.byContradiction fun hne => by rw [if_pos hne] at q1; cases q1
 rw [if_neg (by rw [her]; simp)] at q1
 unfold slotZ
 rw [hB.S]
 by_cases h0 : (rdSloR (A p.toNat)).1 = 0
 ·rw [if_pos ⟨her, h0⟩]; exact hB
 ·rw [if_neg (fun hh => h0 hh.2)]
  rw [if_neg h0] at q1
  have q1' := Option.some.inj q1
  have hmem : ((rdSloR (A p.toNat)).1, (rdSloR (A p.toNat)).2.1) ∈ entL A (wI A) (Y.toNat + 1) c := by
   rw [q2, ← q1']
   exact List.mem_append_left _ (List.mem_append_right _ (List.mem_singleton.2 rfl))
  obtain ⟨o1, o2, o3⟩ := ho.1 _ hmem
  obtain ⟨x, hx⟩ := Int.eq_ofNat_of_zero_le (show 0 ≤ (rdSloR (A p.toNat)).1 by have : 2 ≤ (rdSloR (A p.toNat)).1 := o1; omega)
  have hnm : (rdSloR (A p.toNat)).2.1 ∉ (L c).map Prod.snd := by
   have hnd := ho.2
   rw [q2, ← q1', List.map_append, List.map_append] at hnd
   have h5 := (List.nodup_append.1 (List.nodup_append.1 hnd).1).2.2
   intro hm
   exact h5 _ hm _ (by simp) rfl
  generalize hnme : (rdSloR (A p.toNat)).2.1 = nm at *
  simp only [hx, Int.toNat_natCast] at o1 o2 o3 q1' hmem ⊢
  have hx2 : 2 ≤ x := by omega
  have hxY : (x : Int) ≤ Y := by omega
  have hx1 : x ≠ 1 := by omega
  have hpre := pre_ent hF h hB (fun u hu _ => by rw [hT] at hu; cases hu; omega)
  have hal := hF.al x (by omega) (by omega) o3
  have hcnt : (cntL L Y.toNat x : Int) + 1 ≤ wantW (entL A (wI A) (Y.toNat + 1)) (Y.toNat + 1) x := by
   have h5 := cntL_mono (L := updE L c (L c ++ [((x : Int), nm)])) (L' := entL A (wI A) (Y.toNat + 1)) Y.toNat x (fun i => by
    by_cases e : i = c
    ·subst e
     rw [updE_eq]
     exact ⟨m, by rw [q2, ← q1']⟩
    ·rw [updE_ne _ _ e]; exact hpre i)
   rw [cntL_upd L (by have := (h.ix c t hT).2; omega), if_pos rfl] at h5
   unfold wantW
   rw [if_neg hx1, cntI_cntL]
   omega
  have henter : ∃ z2, enterZ X Y A x zn.1 = some z2 ∧ BZ A z2 := by
   unfold enterZ
   cases hu : zn.1.T x with
   | none =>
    have hso : soundR (A x) = true := by
     unfold soundR
     rw [hF.rd x (by omega) hxY]
     simp
     rw [← wI_yes A (by omega)]; exact o3
    simp only
    rw [if_pos hso]
    exact ⟨_, rfl, take_bz hF h.inv h.pz hB h.ix (by omega) hxY hu o3 1⟩
   | some u =>
    simp only
    have hen := h.en x u hu
    have hpo := (h.po x u hu).1
    rw [if_neg hx1] at hen
    have hwi : wI A x = u.raw := by rw [wI_yes A (by omega), hB.t x u hu]
    have hne : ¬ (nth u.raw 0 = 2 ∨ u.en = 100) := by
     rintro (hh | hh)
     ·have := hal.kd (by rw [hwi]; exact hh); omega
     ·have := hal.w2; omega
    rw [if_neg hne]
    refine ⟨_, rfl, hB.S, fun j v hv => ?_⟩
    have hv2 : updT zn.1.T x { u with en := u.en + 1 } j = some v := hv
    by_cases e : j = x
    ·subst e
     rw [updT_eq] at hv2
     cases hv2
     exact hB.t j u hu
    ·rw [updT_ne _ _ e] at hv2
     exact hB.t j v hv2
  obtain ⟨z2, he, hb2⟩ := henter
  have hR : enterR X Y A x nm zn = (true, z2, addB zn.2 nm) := by
   unfold enterR
   rw [if_neg (by
    rintro (hh | hh)
    ·exact hnm ((hn nm).1 hh)
    ·exact hx1 hh), he]
  rw [hR, if_pos ⟨her, hxY, rfl⟩]
  exact hb2
theorem dir_bz {X Y : Int} {A : Nat → List Int} (hF : WellF X Y A) {c : Nat} {t : TI} (h2 : nth t.raw 0 = 2) : ∀ (m k : Nat) (L : Nat → List Ent) (zn : LZ × (ByteArray → Bool)), k + m ≤ (cntX (nth t.raw 2)).toNat → WZ X Y A L c k zn.1 → BZ A zn.1 → NmIs (L c) zn.2 → (∃ t0, zn.1.T c = some t0 ∧ t0.bk = t.bk ∧ t0.raw = t.raw) → (c : Int) ∉ zn.1.q →
  BZ A (dirZ X Y A t.bk m k zn).1
 | 0, k, L, zn, hkm, h, hB, hn, hT, hq => hB
 | m + 1, k, L, zn, hkm, h, hB, hn, hT, hq => by
  have hY : 0 ≤ Y := by have := hF.Y1; omega
  show BZ A (dirZ X Y A t.bk m (k + 1) _).1
  obtain ⟨t0, ht0, hb0, hr0⟩ := hT
  have h20 : nth t0.raw 0 = 2 := by rw [hr0]; exact h2
  cases hk : t.bk k with
  | none =>
   refine dir_bz hF h2 m (k + 1) L zn (by omega) (h.skip (fun u hu _ => ?_)) hB hn ⟨t0, ht0, hb0, hr0⟩ hq
   have hsl := h.sl c t0 ht0 h20
   unfold doneB at hsl
   rw [if_neg hq, if_pos rfl] at hsl
   have eu : u = t0 := by rw [ht0] at hu; exact (Option.some.inj hu).symm
   subst eu
   rw [bkL_succ, slotsW_snoc hsl, hb0, hk, hb0.symm, hsl]
   rfl
  | some p =>
   obtain ⟨L2, a, b⟩ := slot_wz hY h hn ht0 h20 hq (by rw [hb0]; exact hk)
   have hs := slot_i hY (t := t) h.inv ⟨t0, ht0, hb0⟩ hq hk
   obtain ⟨t1, ht1, hr1, hb1⟩ := hs.st.t c t0 ht0
   have hb := slot_bz hF h hB hn ht0 h20 hq (p := p) (by rw [hb0]; exact hk) (by rw [hr0]; omega)
   exact dir_bz hF h2 m (k + 1) L2 (slotZ X Y A p.toNat zn) (by omega) a hb b ⟨t1, ht1, hb1.trans hb0, hr1.trans hr0⟩ hs.q
theorem loop_bz {X Y : Int} {A : Nat → List Int} (hF : WellF X Y A) : ∀ (f : Nat) (L : Nat → List Ent) (z : LZ), WZ X Y A L 0 0 z → BZ A z → BZ A (loopZ X Y A f z)
 | 0, L, z, h, hB => hB
 | f + 1, L, z, h, hB => by
  have hY : 0 ≤ Y := by have := hF.Y1; omega
  cases hq : z.q with
  | nil => rw [loopZ_nil _ _ _ _ _ hq]; exact hB
  | cons i r =>
   rw [loopZ_cons _ _ _ _ _ _ _ hq]
   obtain ⟨L2, hw2⟩ := dirOf_wz hY h hq
   refine loop_bz hF f L2 _ hw2 ?_
   obtain ⟨h0, t, ht, h2⟩ := h.inv.qT i (by rw [hq]; exact List.mem_cons_self)
   obtain ⟨c, rfl⟩ := Int.eq_ofNat_of_zero_le h0
   have hir : (c : Int) ∉ r := by have := h.inv.qn; rw [hq] at this; exact (List.nodup_cons.1 this).1
   rw [Int.toNat_natCast] at ht ⊢
   have hp := h.pop hq
   have hsl := hp.sl c t ht h2
   unfold doneB at hsl
   rw [if_neg hir, if_pos rfl, bkL_zero] at hsl
   have hL : L c = [] := (Option.some.inj hsl).symm
   have e : dirOf X Y A c { z with q := r } = (dirZ X Y A t.bk (cntX (nth t.raw 2)).toNat 0 ({ z with q := r }, fun _ => false)).1 := by
    unfold dirOf
    show (match z.T c with | none => _ | some t => _) = _
    rw [ht]
   rw [e]
   exact dir_bz hF h2 _ 0 L ({ z with q := r }, fun _ => false) (by omega) hp ⟨hB.S, hB.t⟩ (fun x => by rw [hL]; simp) ⟨t, ht, rfl, rfl⟩ hir
theorem set_nth {l : List Int} (h : 1 < l.length) : l.set 1 (nth l 1) = l := by
 apply nth_ext (by simp)
 intro i hi
 rw [nth_set h]
 split
 ·rename_i e; rw [e]
 ·rfl
theorem look_keeps {N : Nat} {S : Nat → List Int} (hS : ∀ j, j < N → (S j).length = 128 ∧ Bytes (S j)) (h : WellP N S) : lookE N S = 0 ∧ ∀ j, repS (rdSupR (S 0)).2.1 (lookZ N (rdSupR (S 0)).2.1 S) j = S j := by
 have hF := wellF_of hS h
 have hr : rootOk S := (root_iff S).2 ⟨h.rd 1 (Nat.le_refl 1) hF.Y1, by have := h.rt; rw [wI_yes S (Nat.le_refl 1)] at this; exact this⟩
 refine ⟨?_, ?_⟩
 ·unfold lookE
  have := h.n8
  have := h.n9
  rw [if_neg (by omega), if_neg (by
   rintro (h1 | h1)
   ·exact h1 h.su
   ·exact h1 h.sn), if_pos hr]
 ·generalize (rdSupR (S 0)).2.1 = Y at *
  have hY : 0 ≤ Y := by have := hF.Y1; omega
  obtain ⟨L, hW⟩ := look_wz (X := N) hF.Y1 hF.Y9 hF.ln hr
  have hB0 : BZ S (startZ N Y S) := take_bz hF (zero_i (Y := Y) hF.ln) (zero_pz N Y S) ⟨rfl, fun i t ht => by cases ht⟩ (fun i t ht => by cases ht) (Nat.le_refl 1) hF.Y1 rfl (by rw [h.rt]; decide) 1
  have hB : BZ S (lookZ N Y S) := loop_bz hF 8192 _ _ (start_wz hF.Y1 hF.ln hr) hB0
  generalize lookZ (N : Int) Y S = z at *
  have htaken : ∀ j, Reached (entL S (wI S) (Y.toNat + 1)) j → ∃ t, z.T j = some t := fun j hj => hj (fun i => ∃ t, z.T i = some t) hW.w.r1 (fun i e ⟨t, ht⟩ he => by
   have h2 : nth t.raw 0 = 2 := Decidable.byContradiction fun hne => by
    rw [entL_no (by rw [wI_yes S (hW.w.ix i t ht).1, ← hB.t i t ht]; exact hne)] at he; cases he
   obtain ⟨hl, -⟩ := dir_slots hF hW.w hB ht h2
   have hsl := hW.w.sl i t ht h2
   unfold doneB at hsl
   rw [hW.q, if_neg (by simp), if_neg (by have := (hW.w.ix i t ht).1; omega), hB.S, hl] at hsl
   rw [Option.some.inj hsl] at he
   exact (hW.w.rg i e he).2.2)
  have hent : entL S (wI S) (Y.toNat + 1) = L := by
   funext i
   by_cases hne : entL S (wI S) (Y.toNat + 1) i = []
   ·rw [hne]
    obtain ⟨m, hm⟩ := pre_ent hF hW.w hB (fun t _ _ => Nat.zero_le _) i
    rw [hne] at hm
    exact (List.append_eq_nil_iff.1 hm.symm).1.symm
   ·have hi : 1 ≤ i ∧ i < Y.toNat + 1 ∧ nth (wI S i) 0 = 2 := Decidable.byContradiction fun hno => hne (by unfold entL; rw [if_neg hno])
    obtain ⟨t, ht⟩ := htaken i (hF.al i hi.1 hi.2.1 (by rw [hi.2.2]; decide)).rc
    have h2 : nth t.raw 0 = 2 := by rw [hB.t i t ht, ← wI_yes S hi.1]; exact hi.2.2
    obtain ⟨hl, -⟩ := dir_slots hF hW.w hB ht h2
    have hsl := hW.w.sl i t ht h2
    unfold doneB at hsl
    rw [hW.q, if_neg (by simp), if_neg (by omega), hB.S, hl] at hsl
    exact Option.some.inj hsl
  intro j
  by_cases hj : 1 ≤ j ∧ (j : Int) ≤ Y
  ·rw [repS_ino z hj.1 hj.2]
   have hrd := hF.rd j hj.1 hj.2
   have hone := ino_one hrd
   unfold inoW
   by_cases hk : nth (wI S j) 0 = 0
   ·have hT : z.T j = none := by
     cases ht : z.T j with
     | none => rfl
     | some t =>
      have := (sound_may (hW.w.inv.snd j t ht).1).2
      rw [← wI_yes S hj.1] at this
      exact absurd hk this
    rw [hT]
    simp only
    rw [wI_yes S hj.1] at hk
    have hz := (inoMay_zero hk).1 hone.1
    have h0 := (ino_one (s := zl 128) (by rw [ino_zero])).2
    rw [ino_zero] at h0
    rw [← hone.2, hz]
    exact h0.symm
   ·obtain ⟨t, ht⟩ := htaken j (hF.al j hj.1 (by omega) hk).rc
    rw [ht]
    simp only
    have hal := hF.al j hj.1 (by omega) hk
    have hen : t.en = nth (rdInoR (S j)).1 1 := by
     rw [← wI_yes S hj.1, hal.ln, hent, hW.w.en j t ht]
     unfold wantW
     by_cases e : j = 1
     ·subst e
      rw [if_pos rfl, if_pos rfl, cntL_zero (fun i e he => by have := (hW.w.rg i e he).1; omega)]; rfl
     ·rw [if_neg e, if_neg e, cntI_cntL]; omega
    have e0 : (inoR (rdInoR (S j)).1).1 = inoSec (rdInoR (S j)).1 := by rw [inoR_yes hone.1]
    rw [hen, hB.t j t ht, set_nth (by rw [rdInoR_length]; decide), e0, hone.2]
  ·rw [repS_else z hj, hB.S]
theorem mem_differL {N : Nat} {S I : Nat → List Int} {sort : Nat → Bool} {x : Int} : x ∈ differL N S I sort ↔ ∃ i : Nat, i < N ∧ x = i ∧ S i ≠ I i ∧ sort i = true := by
 unfold differL
 simp only [List.mem_map, List.mem_filter, List.mem_range, Bool.and_eq_true, decide_eq_true_eq]
 constructor
 ·rintro ⟨i, ⟨h1, h2, h3⟩, rfl⟩; exact ⟨i, h1, rfl, h2, h3⟩
 ·rintro ⟨i, h1, rfl, h2, h3⟩; exact ⟨i, ⟨h1, h2, h3⟩, rfl⟩
theorem differL_nodup (N : Nat) (S I : Nat → List Int) (sort : Nat → Bool) : (differL N S I sort).Nodup := by
 unfold differL
 refine List.Pairwise.map _ (R := fun a b : Nat => a ≠ b) (fun a b h => by omega) ?_
 exact List.Pairwise.filter _ List.nodup_range
def row0 (N : Nat) (Y : Int) (S I : Nat → List Int) (fm : Int → Bool) : List Int := differL N S I (fun i => !decide ((i : Int) ≤ Y) && fm i)
def row1 (N : Nat) (Y : Int) (S I : Nat → List Int) : List Int := differL N S I (fun i => decide ((i : Int) ≤ Y))
def row2 (N : Nat) (Y : Int) (S I : Nat → List Int) (fm : Int → Bool) : List Int := differL N S I (fun i => !decide ((i : Int) ≤ Y) && !fm i)
theorem writeL_rows (N : Nat) (Y : Int) (S I : Nat → List Int) (fm : Int → Bool) : writeL N Y S I fm = row0 N Y S I fm ++ row1 N Y S I ++ row2 N Y S I fm := rfl
theorem mem_row0 {N : Nat} {Y : Int} {S I : Nat → List Int} {fm : Int → Bool} {j : Nat} : (j : Int) ∈ row0 N Y S I fm ↔ j < N ∧ S j ≠ I j ∧ ¬ (j : Int) ≤ Y ∧ fm j = true := by
 unfold row0
 rw [mem_differL]
 constructor
 ·rintro ⟨i, h1, h2, h3, h4⟩
  have : j = i := by omega
  subst this
  simp at h4
  exact ⟨h1, h3, by omega, h4.2⟩
 ·rintro ⟨h1, h2, h3, h4⟩
  exact ⟨j, h1, rfl, h2, by simpa using ⟨by omega, h4⟩⟩
theorem mem_row1 {N : Nat} {Y : Int} {S I : Nat → List Int} {j : Nat} : (j : Int) ∈ row1 N Y S I ↔ j < N ∧ S j ≠ I j ∧ (j : Int) ≤ Y := by
 unfold row1
 rw [mem_differL]
 constructor
 ·rintro ⟨i, h1, h2, h3, h4⟩
  have : j = i := by omega
  subst this
  simp at h4
  exact ⟨h1, h3, h4⟩
 ·rintro ⟨h1, h2, h3⟩
  exact ⟨j, h1, rfl, h2, by simpa using h3⟩
theorem mem_row2 {N : Nat} {Y : Int} {S I : Nat → List Int} {fm : Int → Bool} {j : Nat} : (j : Int) ∈ row2 N Y S I fm ↔ j < N ∧ S j ≠ I j ∧ ¬ (j : Int) ≤ Y ∧ fm j = false := by
 unfold row2
 rw [mem_differL]
 constructor
 ·rintro ⟨i, h1, h2, h3, h4⟩
  have : j = i := by omega
  subst this
  simp at h4
  exact ⟨h1, h3, by omega, h4.2⟩
 ·rintro ⟨h1, h2, h3, h4⟩
  exact ⟨j, h1, rfl, h2, by simpa using ⟨by omega, h4⟩⟩
theorem mem_writeL {N : Nat} {Y : Int} {S I : Nat → List Int} {fm : Int → Bool} {j : Nat} : (j : Int) ∈ writeL N Y S I fm ↔ j < N ∧ S j ≠ I j := by
 rw [writeL_rows, List.mem_append, List.mem_append, mem_row0, mem_row1, mem_row2]
 constructor
 ·rintro ((⟨a, b, -⟩ | ⟨a, b, -⟩) | ⟨a, b, -⟩) <;> exact ⟨a, b⟩
 ·rintro ⟨a, b⟩
  by_cases h : (j : Int) ≤ Y
  ·exact .inl (.inr ⟨a, b, h⟩)
  ·cases hf : fm j with
   | true => exact .inl (.inl ⟨a, b, h, rfl⟩)
   | false => exact .inr ⟨a, b, h, rfl⟩
theorem row_nat {N : Nat} {S I : Nat → List Int} {sort : Nat → Bool} {x : Int} (h : x ∈ differL N S I sort) : ∃ j : Nat, x = j := by
 obtain ⟨i, -, h, -⟩ := mem_differL.1 h; exact ⟨i, h⟩
theorem writeL_nat {N : Nat} {Y : Int} {S I : Nat → List Int} {fm : Int → Bool} {x : Int} (h : x ∈ writeL N Y S I fm) : ∃ j : Nat, x = j := by
 rw [writeL_rows, List.mem_append, List.mem_append] at h
 rcases h with (h | h) | h <;> exact row_nat h
theorem writeL_nodup (N : Nat) (Y : Int) (S I : Nat → List Int) (fm : Int → Bool) : (writeL N Y S I fm).Nodup := by
 rw [writeL_rows, List.nodup_append, List.nodup_append]
 refine ⟨⟨differL_nodup _ _ _ _, differL_nodup _ _ _ _, fun a ha b hb e => ?_⟩, differL_nodup _ _ _ _, fun a ha b hb e => ?_⟩
 ·subst e
  obtain ⟨j, rfl⟩ := row_nat ha
  exact (mem_row0.1 ha).2.2.1 (mem_row1.1 hb).2.2
 ·subst e
  obtain ⟨j, rfl⟩ := row_nat hb
  rw [List.mem_append] at ha
  rcases ha with ha | ha
  ·have h1 := (mem_row0.1 ha).2.2.2
   have h2 := (mem_row2.1 hb).2.2.2
   rw [h1] at h2; cases h2
  ·exact (mem_row2.1 hb).2.2.1 (mem_row1.1 ha).2.2
def cutS (S W : Nat → List Int) (P : List Int) : Nat → List Int := fun j => if (j : Int) ∈ P then W j else S j
theorem differL_cut (N : Nat) (W S : Nat → List Int) (P : List Int) (sort : Nat → Bool) : differL N W (cutS S W P) sort = (differL N W S sort).filter (fun x => decide (x ∉ P)) := by
 unfold differL
 rw [List.filter_map, List.filter_filter]
 congr 1
 apply List.filter_congr
 intro i _
 unfold cutS
 simp only [Function.comp]
 by_cases h : (i : Int) ∈ P
 ·simp [h]
 ·simp [h]
theorem writeL_cut (N : Nat) (Y : Int) (W S : Nat → List Int) (P : List Int) (fm : Int → Bool) : writeL N Y W (cutS S W P) fm = (writeL N Y W S fm).filter (fun x => decide (x ∉ P)) := by
 unfold writeL
 rw [differL_cut, differL_cut, differL_cut, List.filter_append, List.filter_append]
theorem filter_take {L : List Int} (h : L.Nodup) (n : Nat) : L.filter (fun x => decide (x ∉ L.take n)) = L.drop n := by
 conv => lhs; arg 2; rw [← List.take_append_drop n L]
 rw [List.filter_append]
 have h1 : (L.take n).filter (fun x => decide (x ∉ L.take n)) = [] := by
  rw [List.filter_eq_nil_iff]
  intro a ha
  simpa using ha
 have h2 : (L.drop n).filter (fun x => decide (x ∉ L.take n)) = L.drop n := by
  rw [List.filter_eq_self]
  intro a ha
  have hd := h
  rw [← List.take_append_drop n L, List.nodup_append] at hd
  simpa using fun hm => hd.2.2 a hm a ha rfl
 rw [h1, h2, List.nil_append]
theorem mem_take_rows {A B C : List Int} {n : Nat} {x : Int} (h : x ∈ (A ++ B ++ C).take n) (hn : n ≤ A.length + B.length) : x ∈ A ++ B := by
 rw [List.take_append_of_le_length (by simp; omega)] at h
 exact List.mem_of_mem_take h
theorem mem_rows_take {A B C : List Int} {n : Nat} {x : Int} (h : x ∈ A ++ B) (hn : A.length + B.length ≤ n) : x ∈ (A ++ B ++ C).take n := by
 rw [List.take_append, List.mem_append]
 left
 rw [List.take_of_length_le (by simp; omega)]
 exact h
theorem cut_law {X Y : Int} {N : Nat} (hY : 1 ≤ Y) (hN : X = N) {S : Nat → List Int} (hS : ∀ j, j < N → (S j).length = 128 ∧ Bytes (S j)) (hs : soundR (S 1) = true) (hSY : Y < N) (n : Nat) :
  let W := repS Y (lookZ X Y S)
  let L := writeL N Y W S (lookZ X Y S).st.fm
  let z' := lookZ X Y (cutS S W (L.take n))
  (∀ j, repS Y z' j = W j) ∧ writeL N Y (repS Y z') (cutS S W (L.take n)) z'.st.fm = L.drop n ∧ (∀ i, (z'.T i).isSome = ((lookZ X Y S).T i).isSome) ∧ z'.st.cl = (lookZ X Y S).st.cl ∧ cutS S W (L.take n) 0 = S 0 ∧ (rootOk S → rootOk (cutS S W (L.take n))) ∧ L.length ≤ N := by
 intro W L z'
 have hA : ∀ j : Nat, isD X Y j = true → (S j).length = 128 ∧ Bytes (S j) := fun j hj => hS j (by
  unfold isD at hj
  have := of_decide_eq_true hj
  omega)
 obtain ⟨-, hI, -⟩ := look_inv (by omega) hA hs
 have hdat : ∀ j : Nat, j < N → ¬ (j : Int) ≤ Y → isD X Y j = true := fun j h1 h2 => by
  unfold isD
  exact decide_eq_true (by omega)
 have h0 : W 0 = S 0 := by
  have h1 : W 0 = (lookZ X Y S).st.S 0 := repS_else _ (by omega)
  rw [h1]
  refine hI.si.un 0 ?_
  cases hb : (bare (lookZ X Y S).st).cl ((0 : Nat) : Int) with
  | false => rfl
  | true =>
   have := hI.si.cd _ hb
   unfold isD at this
   have := of_decide_eq_true this
   omega
 have hfmD : ∀ j : Nat, (lookZ X Y S).st.fm j = true → isD X Y j = true := fun j hj => hI.si.cd _ (hI.si.fc j hj)
 have hlt : ∀ j : Nat, (j : Int) ∈ L.take n → j < N ∧ W j ≠ S j := fun j hj => mem_writeL.1 (List.mem_of_mem_take hj)
 have hR : RZ X Y (cutS S W (L.take n)) W ((row0 N Y W S (lookZ X Y S).st.fm).length + (row1 N Y W S).length < n) (lookZ X Y S) z' := by
  refine two_looks hY _ hA hs (fun j => ?_) (fun ha i h1 h2 => ?_) (fun ha j hj => ?_) (fun hna j hj => ?_)
  ·unfold cutS
   split
   ·exact .inr rfl
   ·exact .inl rfl
  ·show (if (i : Int) ∈ L.take n then W i else S i) = W i
   split
   ·rfl
   ·rename_i hm
    false_or_by_contra
    rename_i hne
    exact hm (mem_rows_take (A := row0 N Y W S (lookZ X Y S).st.fm) (B := row1 N Y W S) (C := row2 N Y W S (lookZ X Y S).st.fm) (List.mem_append.2 (.inr (mem_row1.2 ⟨by omega, fun e => hne e.symm, h2⟩))) (by omega))
  ·show (if (j : Int) ∈ L.take n then W j else S j) = W j
   split
   ·rfl
   ·rename_i hm
    false_or_by_contra
    rename_i hne
    have hd := hfmD j hj
    have hj2 : ¬ (j : Int) ≤ Y ∧ j < N := by
     unfold isD at hd
     have := of_decide_eq_true hd
     omega
    exact hm (mem_rows_take (A := row0 N Y W S (lookZ X Y S).st.fm) (B := row1 N Y W S) (C := row2 N Y W S (lookZ X Y S).st.fm) (List.mem_append.2 (.inl (mem_row0.2 ⟨hj2.2, fun e => hne e.symm, hj2.1, hj⟩))) (by omega))
  ·show subP (if (j : Int) ∈ L.take n then W j else S j) (S j)
   split
   ·rename_i hm
    have h1 := mem_take_rows (A := row0 N Y W S (lookZ X Y S).st.fm) (B := row1 N Y W S) (C := row2 N Y W S (lookZ X Y S).st.fm) hm (by omega)
    have hnY : ¬ (j : Int) ≤ Y := by
     unfold isD at hj
     have := of_decide_eq_true hj
     omega
    rw [List.mem_append] at h1
    rcases h1 with h1 | h1
    ·have h2 := (mem_row0.1 h1).2.2.2
     have h3 : W j = (lookZ X Y S).st.S j := repS_else _ (isD_not hj)
     rw [h3]
     exact hI.si.sub j h2
    ·exact absurd (mem_row1.1 h1).2.2 hnY
   ·exact fun _ => .inl rfl
 obtain ⟨a, b, c, d⟩ := two_same hI hR
 have e : repS Y z' = W := funext a
 refine ⟨a, ?_, d, b, ?_, fun hr => ?_, ?_⟩
 ·rw [e, c, writeL_cut]
  exact filter_take (writeL_nodup _ _ _ _ _) n
 ·unfold cutS
  split
  ·exact h0
  ·rfl
 ·obtain ⟨i1, -, i3⟩ := look_inv (by omega) hA hs
  obtain ⟨te, hte, -⟩ := i3.t 1 ⟨(takeX X Y (rdInoR (S 1)).1 (zeroZ S).st).1, 1, (takeX X Y (rdInoR (S 1)).1 (zeroZ S).st).2.bk⟩ (show updT (fun _ => none) 1 _ 1 = _ from updT_eq _ _ _)
  have h2 : Two X Y S (cutS S W (L.take n)) W (lookZ X Y S) False := ⟨by omega, fun i h1 h2 => ⟨by
   have h3 := repS_ino (lookZ X Y S) h1 h2
   rw [← h3]
   unfold cutS
   split
   ·exact .inr rfl
   ·exact .inl rfl, fun h => h.elim⟩, hI⟩
  obtain ⟨x1, x2⟩ := raw_two h2 (Nat.le_refl 1) (by omega) hs hte
  exact ⟨x1, x2.kind.trans hr.2⟩
 ·have hl := (List.Nodup.length_le_of_subset (l₂ := (List.range N).map (fun (i : Nat) => (i : Int))) (writeL_nodup N Y W S (lookZ X Y S).st.fm) (fun x hx => by
   obtain ⟨j, rfl⟩ := writeL_nat hx
   exact List.mem_map.2 ⟨j, List.mem_range.2 (mem_writeL.1 hx).1, rfl⟩))
  simpa using hl
theorem rep_else {N : Nat} {S : Nat → List Int} (hS : ∀ j, j < N → (S j).length = 128 ∧ Bytes (S j)) (he : lookE N S = 0) {j : Nat} (hj : N ≤ j) : repS (rdSupR (S 0)).2.1 (lookZ N (rdSupR (S 0)).2.1 S) j = S j := by
 obtain ⟨h8, h9, hs0, hs1, hr⟩ := lookE_ok he
 obtain ⟨-, hy, hxy⟩ := (sup_one hs0).1
 rw [hs1] at hxy
 generalize (rdSupR (S 0)).2.1 = Y at *
 have hA : ∀ j : Nat, isD N Y j = true → (S j).length = 128 ∧ Bytes (S j) := fun j hj => hS j (by
  unfold isD at hj
  have := of_decide_eq_true hj
  omega)
 obtain ⟨-, hI, -⟩ := look_inv (by omega) hA hr.1
 rw [repS_else _ (by omega)]
 refine hI.si.un j ?_
 cases hb : (bare (lookZ (N : Int) Y S).st).cl (j : Int) with
 | false => rfl
 | true =>
  have := hI.si.cd _ hb
  unfold isD at this
  have := of_decide_eq_true this
  omega
theorem stands_iff {N : Nat} {S : Nat → List Int} (hS : ∀ j, j < N → (S j).length = 128 ∧ Bytes (S j)) (he : lookE N S = 0) : WellP N S ↔ writeL N (rdSupR (S 0)).2.1 (repS (rdSupR (S 0)).2.1 (lookZ N (rdSupR (S 0)).2.1 S)) S (lookZ N (rdSupR (S 0)).2.1 S).st.fm = [] := by
 constructor
 ·intro h
  have hk := (look_keeps hS h).2
  rw [List.eq_nil_iff_forall_not_mem]
  intro x hx
  obtain ⟨j, rfl⟩ := writeL_nat hx
  exact (mem_writeL.1 hx).2 (hk j)
 ·intro h
  have e : repS (rdSupR (S 0)).2.1 (lookZ N (rdSupR (S 0)).2.1 S) = S := by
   funext j
   by_cases hj : j < N
   ·exact Decidable.byContradiction fun hne => by
     have := (mem_writeL (N := N) (Y := (rdSupR (S 0)).2.1) (fm := (lookZ N (rdSupR (S 0)).2.1 S).st.fm)).2 ⟨hj, hne⟩
     rw [h] at this; cases this
   ·exact rep_else hS he (by omega)
  have := look_well hS he
  rw [e] at this
  exact this
theorem lookE_or {N : Nat} {S : Nat → List Int} (h : lookE N S ≠ 0) : lookE N S = 120 ∨ lookE N S = 121 := by
 unfold lookE at h ⊢
 split
 ·exact .inl rfl
 ·split
  ·exact .inl rfl
  ·split
   ·rename_i h1 h2 h3
    rw [if_neg h1, if_neg h2, if_pos h3] at h
    exact absurd rfl h
   ·exact .inr rfl
theorem keysN_len (n : Nat) (s : Int → Bool) : (keysN n s).length ≤ n := by
 unfold keysN
 simp only [List.length_map]
 exact Nat.le_trans (List.length_filter_le _ _) (by simp)
theorem writeL_len {N : Nat} (Y : Int) (W S : Nat → List Int) (fm : Int → Bool) : (writeL N Y W S fm).length ≤ N := by
 have hl := (List.Nodup.length_le_of_subset (l₂ := (List.range N).map (fun (i : Nat) => (i : Int))) (writeL_nodup N Y W S fm) (fun x hx => by
  obtain ⟨j, rfl⟩ := writeL_nat hx
  exact List.mem_map.2 ⟨j, List.mem_range.2 (mem_writeL.1 hx).1, rfl⟩))
 simpa using hl
def GRow (T : TypeId) (sz : Nat) (w : World) (v : Value) (ob : Option Nat) (n : Nat) (f : Nat → Value) : Prop :=
 (v = .slice none 0 0 ∧ ob = none ∧ n = 0) ∨ ∃ g off c cs, v = .slice (some ⟨g, off, none⟩) n c ∧ ob = some g ∧ hat w g = some (.cells cs T) ∧ off + n * sz ≤ cs.size ∧ off + c * sz ≤ cs.size ∧ ∀ k, k < n * sz → cs[off + k]? = some (f k)
theorem GRow.lt {T : TypeId} {sz : Nat} {w : World} {v : Value} {ob : Option Nat} {n : Nat} {f : Nat → Value} (h : GRow T sz w v ob n f) : ∀ g, ob = some g → g < w.heap.size := by
 rintro g rfl
 rcases h with ⟨-, h, -⟩ | ⟨g', off, c, cs, -, h, h2, -⟩
 ·cases h
 ·cases h; exact hat_lt h2
theorem GRow.fr {T : TypeId} {sz : Nat} {w w' : World} {v : Value} {ob : Option Nat} {n : Nat} {f : Nat → Value} {ex : List Nat} (h : GRow T sz w v ob n f) (hf : Fr ex w w') (hn : ∀ g, ob = some g → g ∉ ex) : GRow T sz w' v ob n f := by
 rcases h with h | ⟨g, off, c, cs, h1, h2, h3, h4⟩
 ·exact .inl h
 ·exact .inr ⟨g, off, c, cs, h1, h2, (hf.block _ (hat_lt h3) (hn g h2)).trans h3, h4⟩
theorem GRow.slice {T : TypeId} {sz : Nat} {w : World} {v : Value} {ob : Option Nat} {n : Nat} {f : Nat → Value} (h : GRow T sz w v ob n f) : ∃ a c, v = .slice a n c := by
 rcases h with ⟨rfl, -, rfl⟩ | ⟨g, off, c, cs, rfl, -⟩
 ·exact ⟨none, 0, rfl⟩
 ·exact ⟨_, _, rfl⟩
theorem GRow.congr {T : TypeId} {sz : Nat} {w : World} {v : Value} {ob : Option Nat} {n : Nat} {f f' : Nat → Value} (h : GRow T sz w v ob n f) (he : ∀ k, k < n * sz → f k = f' k) : GRow T sz w v ob n f' := by
 rcases h with h | ⟨g, off, c, cs, h1, h2, h3, h4, h5, h6⟩
 ·exact .inl h
 ·exact .inr ⟨g, off, c, cs, h1, h2, h3, h4, h5, fun k hk => by rw [← he k hk]; exact h6 k hk⟩
theorem GRow.first {T : TypeId} {sz : Nat} {w : World} {g off n c : Nat} {f : Nat → Value} (ob : Option Nat) (h : GRow T sz w (.slice (some ⟨g, off, none⟩) n c) ob n f) {m : Nat} (hm : m ≤ n) : GRow T sz w (.slice (some ⟨g, off, none⟩) m c) ob m f := by
 rcases h with ⟨h, -⟩ | ⟨g', off', c', cs, e, h2, h3, h4, h5, h6⟩
 ·cases h
 ·injection e with e1 e2 e3
  injection e1 with e1
  injection e1 with p1 p2
  subst p1 p2 e3
  have h7 : m * sz ≤ n * sz := Nat.mul_le_mul_right _ hm
  exact .inr ⟨g, off, c, cs, rfl, h2, h3, by omega, h5, fun k hk => h6 k (by omega)⟩
def Grew (w w' : World) (v v' : Value) (ob ob' : Option Nat) (n n' : Nat) : Prop :=
 (∃ a c, v' = .slice a n' c ∧ n' ≤ c) ∧ ((∃ a c, v = .slice a n c ∧ v' = .slice a n' c ∧ ob' = ob ∧ Fr ob.toList w w') ∨ ∃ g, ob' = some g ∧ w.heap.size ≤ g ∧ Fr [] w w')
theorem Grew.fr {w w' : World} {v v' : Value} {ob ob' : Option Nat} {n n' : Nat} (h : Grew w w' v v' ob ob' n n') : Fr ob.toList w w' := by
 rcases h.2 with ⟨a, c, -, -, -, h⟩ | ⟨g, -, -, h⟩
 ·exact h
 ·exact h.mono (by simp)
theorem Grew.ob {w w' : World} {v v' : Value} {ob ob' : Option Nat} {n n' : Nat} (h : Grew w w' v v' ob ob' n n') : ob' = ob ∨ ∃ g, ob' = some g ∧ w.heap.size ≤ g := by
 rcases h.2 with ⟨a, c, -, -, h, -⟩ | ⟨g, h1, h2, -⟩
 ·exact .inl h
 ·exact .inr ⟨g, h1, h2⟩
def catF (m : Nat) (f f2 : Nat → Value) : Nat → Value := fun k => if k < m then f k else f2 (k - m)
theorem run_append_g {P : Program} {ST T : TypeId} {sz B : Nat} (ht : P.underlying ST = some (.slice T)) {inf : TypeInfo} {z : Value} (hi : P.info? T = some inf) (hz : inf.zero = some z) (hzs : z.cells.size = sz) (his : inf.size = sz) (hib : inf.bytes = B)
  {w : World} {v u : Value} {ob : Option Nat} {n m : Nat} {f f2 : Nat → Value} (h : GRow T sz w v ob n f) {news : List Value} (hs : Src P sz ST u m news w) (hnw : ∀ k, k < m * sz → news[k]? = some (f2 k)) (hB : 0 < B) (hn : (n + m) * B ≤ 140737488355328) (ty : TypeId) :
  ∃ v' w' ob', (Builtin.append_ #[ST, ST] ty #[v, u]).run P w = .ok v' w' ∧ GRow T sz w' v' ob' (n + m) (catF (n * sz) f f2) ∧ Grew w w' v v' ob ob' n (n + m) := by
 have hs' : Src P inf.size ST u m news w := by rw [his]; exact hs
 have hnl : news.length = m * sz := hs.newsLen
 by_cases hroom : ∃ g off c cs, v = .slice (some ⟨g, off, none⟩) n c ∧ ob = some g ∧ hat w g = some (.cells cs T) ∧ n + m ≤ c ∧ off + n * sz ≤ cs.size ∧ off + c * sz ≤ cs.size ∧ ∀ k, k < n * sz → cs[off + k]? = some (f k)
 ·obtain ⟨g, off, c, cs, rfl, rfl, hg, hc, hnsz, hcsz, hf⟩ := hroom
  have hle : (n + m) * sz ≤ c * sz := Nat.mul_le_mul_right _ hc
  rw [Nat.add_mul] at hle
  have hr := run_append_room_src (P := P) w ST ST ty T inf ht hi g off n c u m news hs' hc
   (fun j hj => by
    rw [his, cell_hat hg, Array.getElem?_eq_getElem (by omega)]; rfl)
   (fun j hj => frozen_hat hg _)
  rw [his] at hr
  obtain ⟨cs', a1, a2, a3, a4⟩ := hat_setCells g T (0, 0) news (off + n * sz) w cs hg
  refine ⟨_, _, some g, hr, .inr ⟨g, off, c, cs', rfl, rfl, a1, by rw [a2, Nat.add_mul]; omega, by rw [a2]; exact hcsz, fun k hk => ?_⟩, ⟨⟨_, _, rfl, hc⟩, .inl ⟨_, _, rfl, rfl, rfl, (fr_setCells g _ _ _).mono (by simp)⟩⟩⟩
  unfold catF
  rw [Nat.add_mul] at hk
  by_cases hk1 : k < n * sz
  ·rw [if_pos hk1, a3 _ (by omega)]
   exact hf k hk1
  ·rw [if_neg hk1]
   have := a4 (k - n * sz) (f2 (k - n * sz)) (hnw _ (by omega)) (by omega)
   rw [show off + n * sz + (k - n * sz) = off + k by omega] at this
   exact this
 ·by_cases h0 : v = .slice none 0 0 ∧ ob = none ∧ n = 0 ∧ m = 0
  ·obtain ⟨rfl, rfl, rfl, rfl⟩ := h0
   have hnil : news = [] := List.eq_nil_of_length_eq_zero (by simpa using hnl)
   subst hnil
   refine ⟨.slice none 0 0, w, none, ?_, .inl ⟨rfl, rfl, rfl⟩, ⟨none, 0, rfl, Nat.le_refl _⟩, .inl ⟨none, 0, rfl, rfl, rfl, Fr.refl _ _⟩⟩
   have hc0 : (Builtin.firstCells inf.size 0 u).run P w = .ok #[] w := hs'.cells
   rcases hs'.kind with ⟨e', hk⟩ | hk <;> simp [Builtin.append_, run_underlying ht, run_underlying hk, sizeOf, typeInfo, hi, hs'.len, hc0]
  ·have hpos : 0 < sz ∨ sz = 0 := by omega
   obtain ⟨base, cp, hv, hcp, olds, hol, hold, hof⟩ : ∃ base cp, v = .slice base n cp ∧ cp < n + m ∧ ∃ olds : List Value, olds.length = n * sz ∧ (Builtin.firstCells inf.size n (.slice base n cp)).run P w.drew = .ok olds.toArray w.drew ∧ ∀ k, k < n * sz → olds[k]? = some (f k) := by
    rcases h with ⟨rfl, rfl, rfl⟩ | ⟨g, off, c, cs, rfl, rfl, hg, hnsz, hcsz, hf⟩
    ·refine ⟨none, 0, rfl, ?_, [], by simp, run_firstCells_none w.drew _ 0 0 0, fun k hk => by simp at hk⟩
     by_cases hm0 : m = 0
     ·exact absurd ⟨rfl, rfl, rfl, hm0⟩ h0
     ·omega
    ·refine ⟨some ⟨g, off, none⟩, c, rfl, ?_, (cs.extract off (off + n * sz)).toList, by simp; omega, ?_, fun k hk => ?_⟩
     ·exact Nat.lt_of_not_le fun hle => hroom ⟨g, off, c, cs, rfl, rfl, hg, hle, hnsz, hcsz, hf⟩
     ·refine run_firstCells_some w.drew _ n ⟨g, off, none⟩ n c _ (by rw [his]; simp; omega) fun j x hj => ?_
      rw [add_none]
      show w.cell? _ = _
      rw [cell_hat hg]
      have hjl : j < n * sz := by
       have := (List.getElem?_eq_some_iff.1 hj).1
       simp at this; omega
      rw [Array.getElem?_toList, Array.getElem?_extract, if_pos (by omega)] at hj
      exact hj
     ·rw [Array.getElem?_toList, Array.getElem?_extract, if_pos (by omega)]
      exact hf k hk
   subst hv
   have hle1 : (n + m) * 1 ≤ (n + m) * B := Nat.mul_le_mul_left _ hB
   have hr := run_append_grow_src (P := P) w ST ST ty T inf z ht hi hz base n cp olds hold u m news hs' hcp (by omega) (growslice_fits hcp (by rw [hib]; exact hn))
   have hge := grownCap_ge w (n + m) cp T
   have hle2 : (n + m) * sz ≤ grownCap w (n + m) cp T * sz := Nat.mul_le_mul_right _ hge
   rw [Nat.add_mul] at hle2
   have hsz : ((olds ++ news).toArray ++ Builtin.zeroCells z.cells (grownCap w (n + m) cp T - (n + m))).size = grownCap w (n + m) cp T * sz := by
    rw [Array.size_append, size_zeroCells, hzs, List.size_toArray, List.length_append, hol, hnl, Nat.sub_mul, Nat.add_mul]
    omega
   refine ⟨_, _, some w.heap.size, hr, .inr ⟨w.heap.size, 0, grownCap w (n + m) cp T, _, rfl, rfl, hat_alloc_at w.drew _ _ rfl, ?_, ?_, fun k hk => ?_⟩, ⟨⟨_, _, rfl, hge⟩, .inr ⟨_, rfl, Nat.le_refl _, ?_⟩⟩⟩
   ·rw [hsz, Nat.add_mul]; omega
   ·rw [hsz]; omega
   ·rw [Nat.add_mul] at hk
    unfold catF
    rw [Nat.zero_add, Array.getElem?_append_left (by simp; omega), List.getElem?_toArray]
    by_cases hk1 : k < n * sz
    ·rw [if_pos hk1, List.getElem?_append_left (by omega)]
     exact hof k hk1
    ·rw [if_neg hk1, List.getElem?_append_right (by omega), hol]
     exact hnw _ (by omega)
   ·exact fr_below (show Below w.heap.size w (w.drew.alloc _) from Below.alloc (show Below w.heap.size w w.drew from ⟨rfl, rfl, rfl, Nat.le_refl _, fun _ _ => rfl⟩) (Nat.le_refl _) _) _
theorem GRow.src {P : Program} {ST T : TypeId} {sz : Nat} (ht : P.underlying ST = some (.slice T)) {w : World} {v : Value} {ob : Option Nat} {n : Nat} {f : Nat → Value} (h : GRow T sz w v ob n f) (h1 : ∀ k, k < n * sz → (f k).oneCell' = true) :
  ∃ news, Src P sz ST v n news w ∧ ∀ k, k < n * sz → news[k]? = some (f k) := by
 rcases h with ⟨rfl, -, rfl⟩ | ⟨g, off, c, cs, rfl, -, hg, hnsz, hcsz, hf⟩
 ·exact ⟨[], Src.ofNil w ht 0, fun k hk => by simp at hk⟩
 ·have key : ∀ k x, (cs.extract off (off + n * sz)).toList[k]? = some x → k < n * sz ∧ cs[off + k]? = some x := fun k x hk => by
   have hkl : k < n * sz := by
    have := (List.getElem?_eq_some_iff.1 hk).1
    simp at this; omega
   rw [Array.getElem?_toList, Array.getElem?_extract, if_pos (by omega)] at hk
   exact ⟨hkl, hk⟩
  refine ⟨(cs.extract off (off + n * sz)).toList, Src.ofSlice w ht ⟨g, off, none⟩ n c _ (by simp; omega) (fun j x hj => ?_) (fun x hx => ?_), fun k hk => ?_⟩
  ·rw [add_none, cell_hat hg]
   exact (key j x hj).2
  ·obtain ⟨j, hj⟩ := List.getElem?_of_mem hx
   obtain ⟨hjl, hj2⟩ := key j x hj
   rw [hf j hjl] at hj2
   rw [← Option.some.inj hj2]
   exact h1 j hjl
  ·rw [Array.getElem?_toList, Array.getElem?_extract, if_pos (by omega)]
   exact hf k hk
def cellS (S : Nat → List Int) (k : Nat) : Value := .int .u8 (nth (S (k / 128)) (k % 128))
theorem extract_sec {cs : Array Value} {o : Nat} {s : List Int} (hs : s.length = 128) (hsz : o + 128 ≤ cs.size) : cs.extract o (o + 128) = IV .u8 s ↔ ∀ k, k < 128 → cs[o + k]? = some (.int .u8 (nth s k)) := by
 constructor
 ·intro h k hk
  have h2 : (cs.extract o (o + 128))[k]? = (IV .u8 s)[k]? := by rw [h]
  rw [Array.getElem?_extract, if_pos (by omega), IV_get?, nth_getElem? (by omega)] at h2
  exact h2
 ·intro h
  apply Array.ext_getElem?
  intro k
  rw [Array.getElem?_extract, IV_get?]
  by_cases hk : k < 128
  ·rw [if_pos (by omega), h k hk, nth_getElem? (by omega)]; rfl
  ·rw [if_neg (by omega), List.getElem?_eq_none (by omega)]; rfl
theorem cells_secs {cs : Array Value} {o N : Nat} {S : Nat → List Int} (hs : ∀ i, i < N → (S i).length = 128) (hsz : o + N * 128 ≤ cs.size) :
  (∀ i, i < N → cs.extract (o + i * 128) (o + i * 128 + 128) = IV .u8 (S i)) ↔ ∀ k, k < N * 128 → cs[o + k]? = some (cellS S k) := by
 constructor
 ·intro h k hk
  have := (extract_sec (hs (k / 128) (by omega)) (by omega)).1 (h (k / 128) (by omega)) (k % 128) (by omega)
  rw [show o + k / 128 * 128 + k % 128 = o + k by omega] at this
  exact this
 ·intro h i hi
  refine (extract_sec (hs i hi) (by omega)).2 fun k hk => ?_
  have := h (i * 128 + k) (by omega)
  unfold cellS at this
  rw [show (i * 128 + k) / 128 = i by omega, show (i * 128 + k) % 128 = k by omega, ← Nat.add_assoc] at this
  exact this
structure SecR (w : World) (v : Value) (ob : Option Nat) (N : Nat) (S : Nat → List Int) : Prop where
 g : GRow 47 128 w v ob N (cellS S)
 len : ∀ j, j < N → (S j).length = 128 ∧ Bytes (S j)
theorem SecR.none' (w : World) (S : Nat → List Int) : SecR w (.slice none 0 0) none 0 S := ⟨.inl ⟨rfl, rfl, rfl⟩, fun j h => by omega⟩
theorem SecR.fr {w w' : World} {v : Value} {ob : Option Nat} {N : Nat} {S : Nat → List Int} {ex : List Nat} (h : SecR w v ob N S) (hf : Fr ex w w') (hn : ∀ g, ob = some g → g ∉ ex) : SecR w' v ob N S := ⟨h.g.fr hf hn, h.len⟩
theorem SecR.congr {w : World} {v : Value} {ob : Option Nat} {N : Nat} {S S' : Nat → List Int} (h : SecR w v ob N S) (he : ∀ j, j < N → S j = S' j) : SecR w v ob N S' :=
 ⟨h.g.congr fun k hk => by unfold cellS; rw [he _ (by omega)], fun j hj => by rw [← he j hj]; exact h.len j hj⟩
theorem SecR.of {w : World} {g N c : Nat} {S : Nat → List Int} (h : WSecs w g N c S) : SecR w (.slice (some ⟨g, 0, none⟩) N c) (some g) N S := by
 obtain ⟨cs, h1, h2, h3⟩ := h
 refine ⟨.inr ⟨g, 0, c, cs, rfl, rfl, h1, by omega, by omega, (cells_secs (o := 0) (fun i hi => (h3 i hi).1) (by omega)).1 fun i hi => ?_⟩, fun j hj => ⟨(h3 j hj).1, (h3 j hj).2.1⟩⟩
 rw [Nat.zero_add]; exact (h3 i hi).2.2
theorem SecR.img {w : World} {v : Value} {ob : Option Nat} {N : Nat} {S : Nat → List Int} (h : SecR w v ob N S) : Img0 w v N S := by
 obtain ⟨hg, hl⟩ := h
 rcases hg with ⟨rfl, -, rfl⟩ | ⟨g, off, c, cs, rfl, -, h1, h2, h3, h4⟩
 ·exact ⟨none, 0, rfl, fun h => by omega⟩
 ·refine ⟨_, _, rfl, fun hN => ⟨g, off, rfl, cs, _, _, h1, h2, fun i hi => ⟨(hl i hi).1, (hl i hi).2, ?_⟩⟩⟩
  exact (cells_secs (fun i hi => (hl i hi).1) h2).2 h4 i hi
theorem Img0.src {w : World} {v : Value} {N : Nat} {S : Nat → List Int} (h : Img0 w v N S) : ∃ news, Src Tryz.prog 128 26 v N news w ∧ ∀ k, k < N * 128 → news[k]? = some (cellS S k) := by
 have ht : Tryz.prog.underlying 26 = some (.slice 47) := Tryz.underlying26
 obtain ⟨a, c, rfl, h⟩ := h
 by_cases hN : N = 0
 ·subst hN
  refine ⟨[], ?_, fun k hk => by omega⟩
  cases a with
  | none => exact Src.ofNil w ht c
  | some a => exact Src.ofSlice w ht a 0 c [] rfl (fun j u hj => by simp at hj) (fun u hu => by simp at hu)
 ·obtain ⟨g, off, rfl, cs, t, fr, hg, hsz, hall⟩ := h (by omega)
  have hc := (cells_secs (fun i hi => (hall i hi).1) hsz).1 fun i hi => (hall i hi).2.2
  have key : ∀ k x, (cs.extract off (off + N * 128)).toList[k]? = some x → k < N * 128 ∧ cs[off + k]? = some x := fun k x hk => by
   have hkl : k < N * 128 := by
    have := (List.getElem?_eq_some_iff.1 hk).1
    simp at this; omega
   rw [Array.getElem?_toList, Array.getElem?_extract, if_pos (by omega)] at hk
   exact ⟨hkl, hk⟩
  refine ⟨(cs.extract off (off + N * 128)).toList, Src.ofSlice w ht ⟨g, off, none⟩ N c _ (by simp; omega) (fun j x hj => ?_) (fun x hx => ?_), fun k hk => ?_⟩
  ·rw [add_none, cell_hat hg]
   exact (key j x hj).2
  ·obtain ⟨j, hj⟩ := List.getElem?_of_mem hx
   obtain ⟨hjl, hj2⟩ := key j x hj
   rw [hc j hjl] at hj2
   rw [← Option.some.inj hj2]; rfl
  ·rw [Array.getElem?_toList, Array.getElem?_extract, if_pos (by omega)]
   exact hc k hk
def catS (N : Nat) (S S2 : Nat → List Int) : Nat → List Int := fun j => if j < N then S j else S2 (j - N)
theorem cellS_cat (N : Nat) (S S2 : Nat → List Int) : catF (N * 128) (cellS S) (cellS S2) = cellS (catS N S S2) := by
 funext k
 unfold catF cellS catS
 by_cases h : k < N * 128
 ·rw [if_pos h, if_pos (by omega)]
 ·rw [if_neg h, if_neg (by omega), show (k - N * 128) / 128 = k / 128 - N by omega, show (k - N * 128) % 128 = k % 128 by omega]
theorem run_append_s {w : World} {v u : Value} {ob : Option Nat} {N M : Nat} {S S2 : Nat → List Int} (h : SecR w v ob N S) (hu : Img0 w u M S2) (hn : (N + M) * 128 ≤ 140737488355328) (ty : TypeId) :
  ∃ v' w' ob', (Builtin.append_ #[26, 26] ty #[v, u]).run Tryz.prog w = .ok v' w' ∧ SecR w' v' ob' (N + M) (catS N S S2) ∧ Grew w w' v v' ob ob' N (N + M) := by
 obtain ⟨inf, z, hi, hz, hzs, his, hib⟩ := info_sec
 obtain ⟨news, hs, hnw⟩ := hu.src
 obtain ⟨v', w', ob', h1, h2, h3⟩ := run_append_g (P := Tryz.prog) (ST := 26) Tryz.underlying26 hi hz hzs his hib h.g hs hnw (by omega) hn ty
 rw [cellS_cat] at h2
 refine ⟨v', w', ob', h1, ⟨h2, fun j hj => ?_⟩, h3⟩
 unfold catS
 by_cases hj1 : j < N
 ·rw [if_pos hj1]; exact h.len j hj1
 ·rw [if_neg hj1]; exact hu.len _ (by omega)
theorem splice_get {old cs : Array Value} {off : Nat} (h : off + cs.size ≤ old.size) (j : Nat) : (splice old off cs)[j]? = if off ≤ j ∧ j < off + cs.size then cs[j - off]? else old[j]? := by
 rw [← Array.getElem?_toList, splice_list]
 by_cases h1 : j < off
 ·rw [if_neg (by omega), List.getElem?_append_left (by simp; omega), List.getElem?_take, if_pos h1, Array.getElem?_toList]
 ·rw [List.getElem?_append_right (by simp; omega)]
  have hl : (old.toList.take off).length = off := by simp; omega
  rw [hl]
  by_cases h2 : j < off + cs.size
  ·rw [if_pos (by omega), List.getElem?_append_left (by simp; omega), Array.getElem?_toList]
  ·rw [if_neg (by omega), List.getElem?_append_right (by simp; omega), List.getElem?_drop, Array.length_toList, Array.getElem?_toList]
   congr 1; omega
theorem SecR.put {w : World} {v : Value} {ob : Option Nat} {N : Nat} {S : Nat → List Int} (h : SecR w v ob N S) {k : Nat} (hk : k < N) {s : List Int} (hs : s.length = 128) (hb : Bytes s) :
  ∃ g off c cs, v = .slice (some ⟨g, off, none⟩) N c ∧ ob = some g ∧ hat w g = some (.cells cs 47) ∧ off + N * 128 ≤ cs.size ∧ SecR (w.setRow g (splice cs (off + k * 128) (IV .u8 s))) v ob N (updS S k s) := by
 obtain ⟨hg, hl⟩ := h
 rcases hg with ⟨-, -, h⟩ | ⟨g, off, c, cs, rfl, h0, h1, h2, h3, h4⟩
 ·omega
 ·have hsz : (IV .u8 s).size = 128 := by simp [hs]
  have hss := splice_size cs (off + k * 128) (IV .u8 s) (by rw [hsz]; omega)
  refine ⟨g, off, c, cs, rfl, h0, h1, h2, ⟨.inr ⟨g, off, c, _, rfl, h0, hat_setRow_at _ _ _ _ _ _ h1, by rw [hss]; exact h2, by rw [hss]; exact h3, fun j hj => ?_⟩, fun j hj => ?_⟩⟩
  ·rw [splice_get (by rw [hsz]; omega), hsz]
   unfold cellS updS
   by_cases hjk : j / 128 = k
   ·rw [if_pos hjk, if_pos (by omega), IV_get?, nth_getElem? (by omega), show off + j - (off + k * 128) = j % 128 by omega]; rfl
   ·rw [if_neg hjk, if_neg (by omega)]
    exact h4 j hj
  ·unfold updS
   split
   ·exact ⟨hs, hb⟩
   ·exact hl j hj
structure RP where
 (v0 v1 v2 v3 : Value)
 (o0 o1 o2 o3 : Option Nat)
 (N : Nat)
 (S : Nat → List Int)
 (xs ys zs : List Int)
def RP.os (R : RP) : List Nat := R.o0.toList ++ R.o1.toList ++ R.o2.toList ++ R.o3.toList
def RP.val (R : RP) : Value := .agg #[R.v0, R.v1, R.v2, R.v3]
structure RepW (w : World) (R : RP) : Prop where
 r0 : SecR w R.v0 R.o0 R.N R.S
 r1 : QRow w R.v1 R.o1 R.xs
 r2 : QRow w R.v2 R.o2 R.ys
 r3 : QRow w R.v3 R.o3 R.zs
 d12 : ∀ g, R.o1 = some g → R.o2 ≠ some g
 d13 : ∀ g, R.o1 = some g → R.o3 ≠ some g
 d23 : ∀ g, R.o2 = some g → R.o3 ≠ some g
 n0 : R.N ≤ 4900
 n1 : R.xs.length ≤ 4900
 n2 : R.ys.length ≤ 4900
 n3 : R.zs.length ≤ 4900
theorem RP.mem_os {R : RP} {g : Nat} : g ∈ R.os ↔ R.o0 = some g ∨ R.o1 = some g ∨ R.o2 = some g ∨ R.o3 = some g := by
 unfold RP.os
 simp [List.mem_append, Option.mem_toList, or_assoc]
theorem RepW.fr {w w' : World} {R : RP} {ex : List Nat} (h : RepW w R) (hf : Fr ex w w') (hn : ∀ g ∈ R.os, g ∉ ex) : RepW w' R :=
 ⟨h.r0.fr hf (fun g hg => hn g (RP.mem_os.2 (.inl hg))), h.r1.fr hf (fun g hg => hn g (RP.mem_os.2 (.inr (.inl hg)))), h.r2.fr hf (fun g hg => hn g (RP.mem_os.2 (.inr (.inr (.inl hg))))), h.r3.fr hf (fun g hg => hn g (RP.mem_os.2 (.inr (.inr (.inr hg))))), h.d12, h.d13, h.d23, h.n0, h.n1, h.n2, h.n3⟩
theorem RepW.lt {w : World} {R : RP} (h : RepW w R) : ∀ g ∈ R.os, g < w.heap.size := fun g hg => by
 rcases RP.mem_os.1 hg with e | e | e | e
 ·exact h.r0.g.lt g e
 ·exact h.r1.lt g e
 ·exact h.r2.lt g e
 ·exact h.r3.lt g e
theorem RepW.repV {w : World} {R : RP} (h : RepW w R) : RepV w R.v0 R.v1 R.v2 R.v3 R.o1 R.o2 R.o3 R.N R.S R.xs R.ys R.zs :=
 ⟨h.r0.img, h.r1, h.r2, h.r3, by have := h.n0; omega, by have := h.n1; omega, by have := h.n2; omega, by have := h.n3; omega⟩
noncomputable def lookN (N : Nat) (S : Nat → List Int) : Nat := if lookE N S = 0 then N else 0
noncomputable def lookS (N : Nat) (S : Nat → List Int) : Nat → List Int := repS (rdSupR (S 0)).2.1 (lookZ N (rdSupR (S 0)).2.1 S)
noncomputable def lookX (N : Nat) (S : Nat → List Int) : List Int := if lookE N S = 0 then writeL N (rdSupR (S 0)).2.1 (lookS N S) S (lookZ N (rdSupR (S 0)).2.1 S).st.fm else []
noncomputable def lookI (N : Nat) (S : Nat → List Int) : List Int := if lookE N S = 0 then keysL (fun p => ((lookZ N (rdSupR (S 0)).2.1 S).T p.toNat).isSome) else []
noncomputable def lookB (N : Nat) (S : Nat → List Int) : List Int := if lookE N S = 0 then keysL (lookZ N (rdSupR (S 0)).2.1 S).st.cl else []
structure RP.Look (R : RP) (N : Nat) (S : Nat → List Int) : Prop where
 n : R.N = lookN N S
 s : R.S = lookS N S
 x : R.xs = lookX N S
 y : R.ys = lookI N S
 z : R.zs = lookB N S
def LookR (N : Nat) (S : Nat → List Int) (w : World) (e : Ending) (w' : World) : Prop :=
 Below w.heap.size w w' ∧ ∃ R : RP, e = .returned (.tuple #[R.val, .int .i64 (lookE N S)]) ∧ RepW w' R ∧ R.Look N S ∧ ∀ g ∈ R.os, w.heap.size ≤ g
theorem look_rep {v : Value} {N : Nat} {S : Nat → List Int} {w : World} (h : Img0 w v N S) :
  Calls Tryz.prog 35 #[v] w (LookR N S w) := by
 refine (look_all0 h).mono ?_
 rintro e w' ⟨hb, ⟨he, gw, cw, v1, v2, v3, o1, o2, o3, rfl, k1, k2, k3, k4, k5, k6, k7, k8⟩ | ⟨he, rfl⟩⟩
 ·obtain ⟨h8, hN9, -⟩ := lookE_ok he
  have hwl := writeL_len (N := N) (rdSupR (S 0)).2.1 (repS (rdSupR (S 0)).2.1 (lookZ N (rdSupR (S 0)).2.1 S)) S (lookZ N (rdSupR (S 0)).2.1 S).st.fm
  have hkt := keysN_len 4096 (fun p => ((lookZ N (rdSupR (S 0)).2.1 S).T p.toNat).isSome)
  have hkc := keysN_len 4096 (lookZ N (rdSupR (S 0)).2.1 S).st.cl
  change (keysL _).length ≤ _ at hkt hkc
  refine ⟨hb, ⟨.slice (some ⟨gw, 0, none⟩) N cw, v1, v2, v3, some gw, o1, o2, o3, N, lookS N S, lookX N S, lookI N S, lookB N S⟩, ?_, ⟨SecR.of k1, ?_, ?_, ?_, ?_, ?_, ?_, ?_, ?_, ?_, ?_⟩, ⟨?_, rfl, rfl, rfl, rfl⟩, ?_⟩
  ·rw [he]; rfl
  ·show QRow _ _ _ (lookX N S); unfold lookX lookS; rw [if_pos he]; exact k2
  ·show QRow _ _ _ (lookI N S); unfold lookI; rw [if_pos he]; exact k3
  ·show QRow _ _ _ (lookB N S); unfold lookB; rw [if_pos he]; exact k4
  ·intro g h1 h2
   have := List.pairwise_cons.1 k8
   exact this.1 o2 (by simp) g h1 h2
  ·intro g h1 h2
   have := List.pairwise_cons.1 k8
   exact this.1 o3 (by simp) g h1 h2
  ·intro g h1 h2
   have := List.pairwise_cons.1 (List.pairwise_cons.1 k8).2
   exact this.1 o3 (by simp) g h1 h2
  ·show N ≤ 4900; omega
  ·show (lookX N S).length ≤ 4900
   unfold lookX lookS; rw [if_pos he]; omega
  ·show (lookI N S).length ≤ 4900
   unfold lookI; rw [if_pos he]; omega
  ·show (lookB N S).length ≤ 4900
   unfold lookB; rw [if_pos he]; omega
  ·show N = lookN N S
   unfold lookN; rw [if_pos he]
  ·intro g hg
   rcases RP.mem_os.1 hg with h0 | h1 | h1 | h1
   ·obtain rfl := Option.some.inj h0
    exact k6
   ·exact Nat.le_trans k6 (Nat.le_of_succ_le (k7 o1 (by simp) g h1))
   ·exact Nat.le_trans k6 (Nat.le_of_succ_le (k7 o2 (by simp) g h1))
   ·exact Nat.le_trans k6 (Nat.le_of_succ_le (k7 o3 (by simp) g h1))
 ·refine ⟨hb, ⟨.slice none 0 0, .slice none 0 0, .slice none 0 0, .slice none 0 0, none, none, none, none, 0, lookS N S, [], [], []⟩, rfl, ⟨SecR.none' _ _, .inl ⟨rfl, rfl, rfl⟩, .inl ⟨rfl, rfl, rfl⟩, .inl ⟨rfl, rfl, rfl⟩, ?_, ?_, ?_, ?_, ?_, ?_, ?_⟩, ⟨?_, rfl, ?_, ?_, ?_⟩, ?_⟩
  ·intro g h; cases h
  ·intro g h; cases h
  ·intro g h; cases h
  ·simp
  ·simp
  ·simp
  ·simp
  ·show 0 = lookN N S; unfold lookN; rw [if_neg he]
  ·show [] = lookX N S; unfold lookX; rw [if_neg he]
  ·show [] = lookI N S; unfold lookI; rw [if_neg he]
  ·show [] = lookB N S; unfold lookB; rw [if_neg he]
  ·intro g hg
   simp [RP.os] at hg
structure DS where
 S : Nat → List Int
 cnt : Int
 off : Bool
 armed : Bool
 left : Int
def dkC (gs N : Nat) (d : DS) : Array Value := #[.slice (some ⟨gs, 0, none⟩) N N, .int .i64 d.cnt, .bool d.off, .bool d.armed, .int .i64 d.left]
structure DK (w : World) (gd gs N : Nat) (d : DS) : Prop where
 hd : hat w gd = some (.cells (dkC gs N d) 64)
 hs : WSecs w gs N N d.S
theorem DK.ne {w : World} {gd gs N : Nat} {d : DS} (h : DK w gd gs N d) : gd ≠ gs := by
 rintro rfl
 obtain ⟨cs, h1, -⟩ := h.hs
 rw [h.hd] at h1
 injection h1 with h1
 injection h1 with _ h1
 revert h1; decide
theorem DK.fr {w w' : World} {gd gs N : Nat} {d : DS} {ex : List Nat} (h : DK w gd gs N d) (hf : Fr ex w w') (h1 : gd ∉ ex) (h2 : gs ∉ ex) : DK w' gd gs N d :=
 ⟨(hf.block _ (hat_lt h.hd) h1).trans h.hd, h.hs.same (hf.block _ h.hs.lt h2)⟩
theorem down_any {w : World} {gd gs N : Nat} {d : DS} (h : DK w gd gs N d) : Calls Tryz.prog 34 #[.pointer (some ⟨gd, 0, none⟩)] w fun e w' => e = .returned (.bool d.off) ∧ w' = w := by
 have hd := h.hd
 unfold dkC at hd
 have hl := hat_lt hd
 clear h
 go_enter Tryz.func34, Tryz.ntmps34
 go_wp2_with fail
 go_ret
 exact ⟨rfl, rfl⟩
theorem writes_any {w : World} {gd gs N : Nat} {d : DS} (h : DK w gd gs N d) : Calls Tryz.prog 15 #[.pointer (some ⟨gd, 0, none⟩)] w fun e w' => e = .returned (.int .i64 d.cnt) ∧ w' = w := by
 have hd := h.hd
 unfold dkC at hd
 have hl := hat_lt hd
 clear h
 go_enter Tryz.func15, Tryz.ntmps15
 go_wp2_with fail
 go_ret
 exact ⟨rfl, rfl⟩
theorem check_any' {w : World} {gd gs N : Nat} {d : DS} (h : DK w gd gs N d) {n : Nat} (hn : n < N) (hN : N ≤ 4096) : Calls Tryz.prog 42 #[.pointer (some ⟨gd, 0, none⟩), .int .i64 n] w fun e w' => e = .returned (.int .i64 (if d.off = true then 22 else 0)) ∧ w' = w := by
 have hd := h.hd
 unfold dkC at hd
 have hl := hat_lt hd
 have hn0 : (0 : Int) ≤ (n : Int) := Int.natCast_nonneg _
 have d1 : decide ((n : Int) < 0) = false := decide_eq_false (by omega)
 have d2 : decide ((N : Int) ≤ (n : Int)) = false := decide_eq_false (by omega)
 clear h
 cases ho : d.off with
 | true =>
  rw [ho] at hd
  go_enter Tryz.func42, Tryz.ntmps42
  go_wp2_with fail
  go_ret
  exact ⟨rfl, rfl⟩
 | false =>
  rw [ho] at hd
  go_enter Tryz.func42, Tryz.ntmps42
  go_wp2_with fail
  go_ret
  exact ⟨rfl, rfl⟩
theorem DK.pow {w : World} {gd gs N : Nat} {d : DS} (h : DK w gd gs N d) (o a : Bool) (l : Int) :
  DK (((w.setCell ⟨gd, 2, none⟩ (.bool o)).setCell ⟨gd, 3, none⟩ (.bool a)).setCell ⟨gd, 4, none⟩ (.int .i64 l)) gd gs N { d with off := o, armed := a, left := l } ∧ Fr [gd] w (((w.setCell ⟨gd, 2, none⟩ (.bool o)).setCell ⟨gd, 3, none⟩ (.bool a)).setCell ⟨gd, 4, none⟩ (.int .i64 l)) := by
 have hf : Fr [gd] w (((w.setCell ⟨gd, 2, none⟩ (.bool o)).setCell ⟨gd, 3, none⟩ (.bool a)).setCell ⟨gd, 4, none⟩ (.int .i64 l)) := ((fr_setCell w gd 2 _).trans (fr_setCell _ gd 3 _)).trans (fr_setCell _ gd 4 _)
 exact ⟨⟨hat_setCell_at _ _ _ _ _ _ _ (hat_setCell_at _ _ _ _ _ _ _ (hat_setCell_at _ _ _ _ _ _ _ h.hd)), h.hs.same (hf.block _ h.hs.lt (by simpa using h.ne.symm))⟩, hf⟩
theorem DK.left' {w : World} {gd gs N : Nat} {d : DS} (h : DK w gd gs N d) (l : Int) : DK (w.setCell ⟨gd, 4, none⟩ (.int .i64 l)) gd gs N { d with left := l } ∧ Fr [gd] w (w.setCell ⟨gd, 4, none⟩ (.int .i64 l)) := by
 have hf := fr_setCell w gd 4 (.int .i64 l)
 exact ⟨⟨hat_setCell_at _ _ _ _ _ _ _ h.hd, h.hs.same (hf.block _ h.hs.lt (by simpa using h.ne.symm))⟩, hf⟩
theorem DK.cnt' {w : World} {gd gs N : Nat} {d : DS} (h : DK w gd gs N d) (l : Int) : DK (w.setCell ⟨gd, 1, none⟩ (.int .i64 l)) gd gs N { d with cnt := l } ∧ Fr [gd] w (w.setCell ⟨gd, 1, none⟩ (.int .i64 l)) := by
 have hf := fr_setCell w gd 1 (.int .i64 l)
 exact ⟨⟨hat_setCell_at _ _ _ _ _ _ _ h.hd, h.hs.same (hf.block _ h.hs.lt (by simpa using h.ne.symm))⟩, hf⟩
theorem DK.sec {w : World} {gd gs N : Nat} {d : DS} (h : DK w gd gs N d) {cs : Array Value} (hcs : hat w gs = some (.cells cs 47)) {n : Nat} (hn : n < N) {s : List Int} (hl : s.length = 128) (hb : Bytes s) :
  DK (w.setRow gs (splice cs (n * 128) (IV .u8 s))) gd gs N { d with S := updS d.S n s } ∧ Fr [gs] w (w.setRow gs (splice cs (n * 128) (IV .u8 s))) := by
 have hf := fr_setRow w gs (splice cs (n * 128) (IV .u8 s))
 exact ⟨⟨(hf.block _ (hat_lt h.hd) (by simpa using h.ne)).trans h.hd, h.hs.store hcs hn hl hb⟩, hf⟩
def restD (d : DS) : DS := { d with off := false, armed := false, left := 0 }
theorem restart_any {w : World} {gd gs N : Nat} {d : DS} (h : DK w gd gs N d) : Calls Tryz.prog 23 #[.pointer (some ⟨gd, 0, none⟩)] w fun e w' => e = .returned (.tuple #[]) ∧ DK w' gd gs N (restD d) ∧ Fr [gd] w w' := by
 have hd := h.hd
 have HD := Lib.hid (h.pow false false 0)
 unfold dkC at hd
 have hl := hat_lt hd
 clear h
 go_enter Tryz.func23, Tryz.ntmps23
 go_wp2_with fail
 go_end0
 exact ⟨rfl, HD.out⟩
def armD (n : Int) (d : DS) : DS := { d with off := false, armed := true, left := n }
theorem arm_any {w : World} {gd gs N : Nat} {d : DS} (h : DK w gd gs N d) {n : Nat} (hn : n ≤ 100000) : Calls Tryz.prog 21 #[.pointer (some ⟨gd, 0, none⟩), .int .i64 n] w fun e w' =>
  (d.off = true → e = .returned (.int .i64 22) ∧ w' = w) ∧ (d.off = false → e = .returned (.int .i64 0) ∧ DK w' gd gs N (armD n d) ∧ Fr [gd] w w') := by
 have hd := h.hd
 have HD := Lib.hid (h.pow false true n)
 unfold dkC at hd
 have hl := hat_lt hd
 have hn0 : (0 : Int) ≤ (n : Int) := Int.natCast_nonneg _
 have d1 : decide ((n : Int) < 0) = false := decide_eq_false (by omega)
 clear h
 cases ho : d.off with
 | true =>
  rw [ho] at hd
  go_enter Tryz.func21, Tryz.ntmps21
  go_wp2_with fail
  go_ret
  exact ⟨fun _ => ⟨rfl, rfl⟩, fun h => (by cases h)⟩
 | false =>
  rw [ho] at hd
  go_enter Tryz.func21, Tryz.ntmps21
  go_wp2_with fail
  go_ret
  exact ⟨fun h => (by cases h), fun _ => ⟨rfl, HD.out⟩⟩
def writeD (n : Nat) (s : List Int) (d : DS) : Int × DS :=
 if d.off = true then (22, d) else if d.armed = true ∧ d.left = 0 then (22, { d with off := true, armed := false, left := 0 })
 else (0, { d with S := updS d.S n s, cnt := d.cnt + 1, left := if d.armed = true then d.left - 1 else d.left })
structure DOk (d : DS) : Prop where
 c0 : 0 ≤ d.cnt
 c1 : d.cnt ≤ 1000000000000
 l0 : 0 ≤ d.left
 l1 : d.left ≤ 1000000000000
theorem write_any {w : World} {gd gs N : Nat} {d : DS} (h : DK w gd gs N d) (hk : DOk d) {n : Nat} (hn : n < N) (hN : N ≤ 4096) {s : List Int} (hl : s.length = 128) (hb : Bytes s) :
  Calls Tryz.prog 22 #[.pointer (some ⟨gd, 0, none⟩), .int .i64 n, .agg (IV .u8 s)] w fun e w' => e = .returned (.int .i64 (writeD n s d).1) ∧ DK w' gd gs N (writeD n s d).2 ∧ Fr [gd, gs] w w' := by
 have hn0 : (0 : Int) ≤ (n : Int) := Int.natCast_nonneg _
 have hn1 : (n : Int) < (N : Int) := by omega
 have H := Lib.hid h
 have HK := Lib.hid hk
 have HL := Lib.hid hl
 have HBY := Lib.hid hb
 clear h hk hb
 clear hl
 have hf1 : Fr [] w (w.alloc (.cells (IV .u8 s) 47)) := fr_new w _ []
 have H1 := Lib.hid (H.out.fr hf1 (by simp) (by simp))
 have hgb : hat (w.alloc (.cells (IV .u8 s) 47)) w.heap.size = some (.cells (IV .u8 s) 47) := (hopN w _).1
 have hne : w.heap.size ≠ gd ∧ w.heap.size ≠ gs := ⟨fun e => by have := hat_lt H.out.hd; omega, fun e => by have := H.out.hs.lt; omega⟩
 have HF1 := Lib.hid hf1
 go_enter Tryz.func22, Tryz.ntmps22
 go_wp2_with fail
 generalize w.alloc (.cells (IV .u8 s) 47) = w1 at *
 generalize w.heap.size = gb at *
 refine (check_any' H1.out hn hN).mono ?_; rintro e w2 ⟨rfl, rfl⟩
 have hgl := hat_lt hgb
 clear hf1 H
 have hd := H1.out.hd
 have hdl := hat_lt hd
 unfold dkC at hd
 cases ho : d.off with
 | true =>
  have HW : Hid (writeD n s d = (22, d)) := Lib.hid (by unfold writeD; rw [if_pos ho])
  rw [ho] at hd
  rw [if_pos rfl]
  go_wp2_with fail
  go_ret
  rw [HW.out]
  exact ⟨rfl, H1.out, HF1.out.mono (by simp)⟩
 | false =>
  rw [ho] at hd
  rw [if_neg (by decide)]
  obtain ⟨csS, hcs, ⟨hszS, -⟩, -⟩ := id H1.out.hs
  have hsl := hat_lt hcs
  have hle : n * 128 + 128 ≤ csS.size := by omega
  cases ha : d.armed with
  | true =>
   rw [ha] at hd
   by_cases hl0 : d.left = 0
   ·have HW : Hid (writeD n s d = (22, { d with off := true, armed := false, left := 0 })) := Lib.hid (by unfold writeD; rw [if_neg (by rw [ho]; decide), if_pos ⟨ha, hl0⟩])
    have HP := Lib.hid (H1.out.pow true false 0)
    rw [hl0] at hd
    clear hszS hcs hl0 hle hsl
    go_wp2_with fail
    go_ret
    rw [HW.out]
    exact ⟨rfl, HP.out.1, (HF1.out.mono (ex' := [gd, gs]) (by simp)).trans (HP.out.2.mono (by simp))⟩
   ·have HW : Hid (writeD n s d = (0, { d with S := updS d.S n s, cnt := d.cnt + 1, left := d.left - 1 })) := Lib.hid (by unfold writeD; rw [if_neg (by rw [ho]; decide), if_neg (fun h => hl0 h.2), if_pos ha])
    have hl1 : (d.left == 0) = false := by simp [hl0]
    obtain ⟨c0, c1, l0, l1⟩ := HK.out
    have HP := Lib.hid (H1.out.left' (d.left - 1))
    have hd2 := HP.out.1.hd
    have hdl2 := hat_lt hd2
    have hcs2 := (HP.out.2.block gs (hat_lt hcs) (by simpa using H1.out.ne.symm)).trans hcs
    have hgb2 := (HP.out.2.block gb hgl (by simpa using hne.1)).trans hgb
    have hst : ∀ raw w', stRow raw 128 (n * 128) gs (IV .u8 s) w' (some (.cells csS 47 (0, 0))) = .ok () (w'.setRow gs (splice csS (n * 128) (IV .u8 s))) := fun raw w' => stRow_part hle (by simp [HL.out]) (by simp)
    have hld : ∀ raw w', ldRow raw 128 0 w' (some (.cells (IV .u8 s) 47 (0, 0))) = .ok (.agg (IV .u8 s)) w' := fun raw w' => ldRow_full (by simp [HL.out])
    unfold dkC at hd2
    rw [ho, ha] at hd2
    simp only at hd2
    clear hl0 hszS hle
    go_wp2_with fail
    have HF2 := Lib.hid ((HF1.out.mono (ex' := [gd, gs]) (by simp)).trans (HP.out.2.mono (by simp)))
    have HP1 := Lib.hid HP.out.1
    clear HP hd hdl hgb hcs hgl hsl H1 HF1
    generalize w2.setCell ⟨gd, 4, none⟩ (.int .i64 (d.left - 1)) = w3 at *
    have hgl := hat_lt hgb2
    have hsl := hat_lt hcs2
    go_region
    have HP3 := HP1.out.sec hcs2 hn HL.out HBY.out
    have hq : DK (w3.setRow gs (splice csS (n * 128) (IV .u8 s))).drew gd gs N _ := ⟨HP3.1.hd, HP3.1.hs.same rfl⟩
    have HF3 := Lib.hid (HF2.out.trans ((fr_drew HP3.2).mono (by simp)))
    have HQ := Lib.hid hq
    clear HP3 hq hd2 hdl2 hcs2 hgb2 hgl hsl HP1 HF2
    generalize (w3.setRow gs (splice csS (n * 128) (IV .u8 s))).drew = w4 at *
    have hd4 := HQ.out.hd
    have HE := Lib.hid (HQ.out.cnt' (d.cnt + 1))
    unfold dkC at hd4
    have hdl4 := hat_lt hd4
    simp only at hd4
    go_wp2_with fail
    go_ret
    rw [HW.out]
    exact ⟨rfl, HE.out.1, HF3.out.trans (HE.out.2.mono (by simp))⟩
  | false =>
   rw [ha] at hd
   have HW : Hid (writeD n s d = (0, { d with S := updS d.S n s, cnt := d.cnt + 1 })) := Lib.hid (by unfold writeD; rw [if_neg (by rw [ho]; decide), if_neg (fun h => by rw [ha] at h; cases h.1), if_neg (by rw [ha]; decide)])
   obtain ⟨c0, c1, l0, l1⟩ := HK.out
   have HP1 := H1
   have hcs2 := hcs
   have hgb2 := hgb
   have hdl2 := hdl
   have hd2 := hd
   have hst : ∀ raw w', stRow raw 128 (n * 128) gs (IV .u8 s) w' (some (.cells csS 47 (0, 0))) = .ok () (w'.setRow gs (splice csS (n * 128) (IV .u8 s))) := fun raw w' => stRow_part hle (by simp [HL.out]) (by simp)
   have hld : ∀ raw w', ldRow raw 128 0 w' (some (.cells (IV .u8 s) 47 (0, 0))) = .ok (.agg (IV .u8 s)) w' := fun raw w' => ldRow_full (by simp [HL.out])
   have HF2 := Lib.hid (HF1.out.mono (ex' := [gd, gs]) (by simp))
   clear hszS hle hd hdl hgb hcs H1 HF1
   obtain ⟨w3, rfl⟩ : ∃ x, x = w2 := ⟨_, rfl⟩
   go_wp2_with fail
   go_region
   have HP3 := HP1.out.sec hcs2 hn HL.out HBY.out
   have hq : DK (w3.setRow gs (splice csS (n * 128) (IV .u8 s))).drew gd gs N _ := ⟨HP3.1.hd, HP3.1.hs.same rfl⟩
   have HF3 := Lib.hid (HF2.out.trans ((fr_drew HP3.2).mono (by simp)))
   have HQ := Lib.hid hq
   clear HP3 hq hd2 hdl2 hcs2 hgb2 hgl hsl HP1 HF2
   generalize (w3.setRow gs (splice csS (n * 128) (IV .u8 s))).drew = w4 at *
   have hd4 := HQ.out.hd
   have HE := Lib.hid (HQ.out.cnt' (d.cnt + 1))
   unfold dkC at hd4
   have hdl4 := hat_lt hd4
   simp only at hd4
   go_wp2_with fail
   go_ret
   rw [HW.out]
   exact ⟨rfl, HE.out.1, HF3.out.trans (HE.out.2.mono (by simp))⟩
theorem wpList_copy_run {P : Program} (w : World) {ops : Array Oper} {rest : List Oper} {o : Oper} {a : Act} {Q : Exit → Act → World → Prop} (hgd : o.guard = none) (s x : Operand) (t : TypeId)
  (ho : o.op = .call { callee := .builtin .copy, args := #[s, x], argTypes := #[t, t] }) (v u : Value) (hs : a.eval s = v) (hx : a.eval x = u) (v' : Value) (w' : World)
  (hr : (Builtin.copy_ #[t, t] o.type #[v, u]).run P w = .ok v' w') (h : wpList P ops Q rest (a.put o.dst v') w') : wpList P ops Q (o :: rest) a w := by
 refine wpList_plain hgd fun K hK => ?_
 unfold Oper.wp
 simp [execOp, ho, resolve, invoke, builtin, hs, hx, hr, Result.andThen]
 exact hK _ _ h
def copS (k : Nat) (S S2 : Nat → List Int) : Nat → List Int := fun j => if j < k then S2 j else S j
theorem SecR.ws {w : World} {g N c : Nat} {o : Option Nat} {S : Nat → List Int} (h : SecR w (.slice (some ⟨g, 0, none⟩) N c) o N S) : WSecs w g N c S := by
 rcases h.g with ⟨e, -⟩ | ⟨g', off, c', cs, e, -, h1, h2, h3, h4⟩
 ·cases e
 ·injection e with e1 e2 e3
  injection e1 with e1
  injection e1 with p1 p2
  subst p1 p2 e3
  refine ⟨cs, h1, ⟨by omega, by omega⟩, fun i hi => ⟨(h.len i hi).1, (h.len i hi).2, ?_⟩⟩
  have := (cells_secs (o := 0) (fun i hi => (h.len i hi).1) h2).2 h4 i hi
  rw [Nat.zero_add] at this
  exact this
theorem Img0.firsts {w : World} {u : Value} {M : Nat} {S : Nat → List Int} (h : Img0 w u M S) {n : Nat} (hn : n ≤ M) : ∃ news : List Value, news.length = n * 128 ∧ (Builtin.firstCells 128 n u).run Tryz.prog w = .ok news.toArray w ∧ (∀ k, k < n * 128 → news[k]? = some (cellS S k)) ∧ (Builtin.lenOf u).run Tryz.prog w = .ok M w := by
 obtain ⟨a, c, rfl, h⟩ := h
 by_cases h0 : n = 0
 ·subst h0
  refine ⟨[], rfl, ?_, fun k hk => by omega, rfl⟩
  cases a with
  | none => exact run_firstCells_none w 128 0 M c
  | some a => exact run_firstCells_some w 128 0 a M c [] rfl (fun j v hj => by simp at hj)
 ·obtain ⟨g, off, rfl, cs, t, fr, hg, hsz, hall⟩ := h (by omega)
  have hc := (cells_secs (fun i hi => (hall i hi).1) hsz).1 fun i hi => (hall i hi).2.2
  have hle : n * 128 ≤ M * 128 := Nat.mul_le_mul_right _ hn
  refine ⟨(cs.extract off (off + n * 128)).toList, by simp; omega, run_firstCells_some w 128 n ⟨g, off, none⟩ M c _ (by simp; omega) (fun j x hj => ?_), fun k hk => ?_, rfl⟩
  ·rw [add_none, cell_hat hg]
   have hkl : j < n * 128 := by
    have := (List.getElem?_eq_some_iff.1 hj).1
    simp at this; omega
   rw [Array.getElem?_toList, Array.getElem?_extract, if_pos (by omega)] at hj
   exact hj
  ·rw [Array.getElem?_toList, Array.getElem?_extract, if_pos (by omega)]
   exact hc k (by omega)
theorem hat_setCells_past (g : Nat) (t : TypeId) (fr : Nat × Nat) : ∀ (vs : List Value) (o : Nat) (w : World) (cs cs' : Array Value), hat w g = some (.cells cs t fr) → hat (w.setCells g o vs) g = some (.cells cs' t fr) → ∀ j, o + vs.length ≤ j → cs'[j]? = cs[j]?
 | [], o, w, cs, cs', h, h', j, hj => by
  have h2 : hat w g = some (.cells cs' t fr) := h'
  rw [h] at h2
  injection h2 with h2
  injection h2 with h2
  rw [h2]
 | x :: r, o, w, cs, cs', h, h', j, hj => by
  rw [List.length_cons] at hj
  rw [hat_setCells_past g t fr r (o + 1) _ _ cs' (hat_setCell_at w g o x _ _ _ h) h' j (by omega), Array.getElem?_setIfInBounds, if_neg (by omega)]
theorem run_copy_s {w : World} {v u : Value} {o : Option Nat} {N M : Nat} {S S2 : Nat → List Int} (h : SecR w v o N S) (hu : Img0 w u M S2) (ty : TypeId) :
  ∃ w', (Builtin.copy_ #[26, 26] ty #[v, u]).run Tryz.prog w = .ok (goInt (Nat.min M N)) w' ∧ SecR w' v o N (copS (Nat.min M N) S S2) ∧ Fr o.toList w w' := by
 obtain ⟨inf, z, hi, hz, hzs, his, hib⟩ := info_sec
 have ht : Tryz.prog.underlying 26 = some (.slice 47) := Tryz.underlying26
 have hn1 : Nat.min M N ≤ M := Nat.min_le_left _ _
 have hn2 : Nat.min M N ≤ N := Nat.min_le_right _ _
 obtain ⟨news, hl, hf, hk, hlen⟩ := hu.firsts hn1
 have hone : ∀ x ∈ news, x.oneCell' = true := fun x hx => by
  obtain ⟨j, hj⟩ := List.getElem?_of_mem hx
  have hjl := (List.getElem?_eq_some_iff.1 hj).1
  rw [hk j (by omega)] at hj
  rw [← Option.some.inj hj]; rfl
 rcases h.g with ⟨rfl, rfl, rfl⟩ | ⟨g, off, c, cs, rfl, rfl, h1, h2, h3, h4⟩
 ·refine ⟨w, ?_, ⟨.inl ⟨rfl, rfl, rfl⟩, fun j hj => by omega⟩, Fr.refl _ _⟩
  have e : Nat.min M 0 = 0 := Nat.min_zero M
  rw [e] at hf ⊢
  simp [Builtin.copy_, run_underlying ht, sizeOf, typeInfo, hi, his, hlen, hf, e]
 ·generalize hm : Nat.min M N = m at *
  have hst := run_storeCells_cells (P := Tryz.prog) g off news 0 w (fun j hj => by
   rw [cell_hat h1, Array.getElem?_eq_getElem (by omega)]; rfl) (fun j hj => frozen_hat h1 _) hone
  simp only [Nat.add_zero] at hst
  obtain ⟨cs', a1, a2, a3, a4⟩ := hat_setCells g 47 (0, 0) news off w cs h1
  refine ⟨w.setCells g off news, ?_, ⟨.inr ⟨g, off, c, cs', rfl, rfl, a1, by rw [a2]; exact h2, by rw [a2]; exact h3, fun k hk1 => ?_⟩, fun j hj => ?_⟩, (fr_setCells g _ _ _).mono (by simp)⟩
  ·simp [Builtin.copy_, run_underlying ht, sizeOf, typeInfo, hi, his, hlen, hf, hm, hst]
  ·unfold cellS copS
   by_cases hkm : k < m * 128
   ·rw [if_pos (by omega)]
    exact a4 k _ (hk k hkm) (by omega)
   ·rw [if_neg (by omega)]
    rw [hat_setCells_past g 47 (0, 0) news off w cs cs' h1 a1 _ (by omega)]
    exact h4 k hk1
  ·unfold copS
   split
   ·exact hu.len j (by omega)
   ·exact h.len j hj
theorem WSecs.congr {w : World} {g N c : Nat} {S S' : Nat → List Int} (h : WSecs w g N c S) (he : ∀ j, j < N → S j = S' j) : WSecs w g N c S' := by
 obtain ⟨cs, h1, h2, h3⟩ := h
 exact ⟨cs, h1, h2, fun i hi => by rw [← he i hi]; exact h3 i hi⟩
theorem image_any {w : World} {gd gs N : Nat} {d : DS} (h : DK w gd gs N d) (hN : N ≤ 4096) : Calls Tryz.prog 17 #[.pointer (some ⟨gd, 0, none⟩)] w fun e w' =>
  ∃ g, e = .returned (.slice (some ⟨g, 0, none⟩) N N) ∧ WSecs w' g N N d.S ∧ Below w.heap.size w w' ∧ w.heap.size ≤ g := by
 obtain ⟨w1, hr, hws, hb⟩ := make_secs w N hN
 have h1 := h.fr (fr_below hb []) (by simp) (by simp)
 obtain ⟨w2, hc, hs2, hf2⟩ := run_copy_s (SecR.of hws) (img0_of h1.hs) 3
 have hmin : Nat.min N N = N := Nat.min_self N
 rw [hmin] at hc hs2
 have hd := h.hd
 unfold dkC at hd
 have hd1 := h1.hd
 unfold dkC at hd1
 have hl := hat_lt hd
 have hl1 := hat_lt hd1
 have HS := Lib.hid (hs2.ws.congr (S' := d.S) fun j hj => by unfold copS; rw [if_pos hj])
 have HB := Lib.hid (hb.trans (hf2.below (B := w.heap.size) hb.size (by simp)))
 have hr1 : (Instr.makeSlice 26 (.int .i64 N) (.int .i64 N)).run Tryz.prog w = .ok (.slice (some ⟨w.heap.size, 0, none⟩) N N) w1 := hr
 have hc' : (Builtin.copy_ #[26, 26] 3 #[.slice (some ⟨w.heap.size, 0, none⟩) N N, .slice (some ⟨gs, 0, none⟩) N N]).run Tryz.prog w1 = .ok (goInt N) w2 := hc
 clear hc hr h hb hs2 hf2 hmin
 go_enter Tryz.func17, Tryz.ntmps17
 go_wp2_with (at_builtin; refine wpList_copy_run _ rfl (.tmp 10) (.tmp 14) 26 rfl _ _ rfl rfl _ _ hc' ?_)
 go_ret
 exact ⟨_, rfl, HS.out, HB.out, Nat.le_refl _⟩
def zeroD (N : Nat) : DS := ⟨fun _ => zl 128, 0, false, false, 0⟩
theorem new_any {w : World} {N : Nat} (h0 : 1 ≤ N) (hN : N ≤ 4096) : Calls Tryz.prog 33 #[.int .i64 N] w fun e w' =>
  ∃ gd gs, e = .returned (.tuple #[.pointer (some ⟨gd, 0, none⟩), .int .i64 0]) ∧ DK w' gd gs N (zeroD N) ∧ Below w.heap.size w w' ∧ w.heap.size ≤ gd ∧ w.heap.size ≤ gs := by
 obtain ⟨w1, hr, hws, hb⟩ := make_secs w N hN
 have HS := Lib.hid hws
 have HB := Lib.hid hb
 have hr1 : (Instr.makeSlice 26 (.int .i64 N) (.int .i64 N)).run Tryz.prog w = .ok (.slice (some ⟨w.heap.size, 0, none⟩) N N) w1 := hr
 have d1 : decide ((N : Int) < 1) = false := decide_eq_false (by omega)
 have d2 : decide ((4096 : Int) < (N : Int)) = false := decide_eq_false (by omega)
 clear hr hws hb
 go_enter Tryz.func33, Tryz.ntmps33
 go_wp2_with fail
 go_ret2
 refine ⟨_, _, rfl, ⟨(hopN w1 _).1, HS.out.same (hat_alloc_past _ _ _ HS.out.lt)⟩, below_new HB.out HB.out.size _, HB.out.size, Nat.le_refl _⟩
theorem new_no {w : World} {N : Nat} (h : N < 1 ∨ 4096 < N) (hN : N ≤ 9223372036854775807) : Calls Tryz.prog 33 #[.int .i64 N] w fun e w' => e = .returned (.tuple #[.pointer none, .int .i64 20]) ∧ w' = w := by
 by_cases h1 : N < 1
 ·have d1 : decide ((N : Int) < 1) = true := decide_eq_true (by omega)
  go_enter Tryz.func33, Tryz.ntmps33
  go_wp2_with fail
  go_ret2
  exact ⟨rfl, rfl⟩
 ·have d1 : decide ((N : Int) < 1) = false := decide_eq_false (by omega)
  have d2 : decide ((4096 : Int) < (N : Int)) = true := decide_eq_true (by omega)
  go_enter Tryz.func33, Tryz.ntmps33
  go_wp2_with fail
  go_ret2
  exact ⟨rfl, rfl⟩
def imgD (S : Nat → List Int) : DS := ⟨S, 0, false, false, 0⟩
theorem from_any {w : World} {v : Value} {N : Nat} {S : Nat → List Int} (h : Img0 w v N S) (h0 : 1 ≤ N) (hN : N ≤ 4096) : Calls Tryz.prog 13 #[v] w fun e w' =>
  ∃ gd gs, e = .returned (.tuple #[.pointer (some ⟨gd, 0, none⟩), .int .i64 0]) ∧ DK w' gd gs N (imgD S) ∧ Below w.heap.size w w' ∧ w.heap.size ≤ gd ∧ w.heap.size ≤ gs := by
 have HI := Lib.hid h
 obtain ⟨a, c, rfl, -⟩ := id h
 clear h
 go_enter Tryz.func13, Tryz.ntmps13
 go_wp2_with fail
 refine (new_any h0 hN).mono ?_; rintro e w1 ⟨gd, gs, rfl, hdk, hb, hg1, hg2⟩
 have hd := hdk.hd
 unfold dkC zeroD at hd
 have hl := hat_lt hd
 obtain ⟨w2, hc, hs2, hf2⟩ := run_copy_s (SecR.of hdk.hs) (HI.out.same (fr_below hb [])) 3
 have hmin : Nat.min N N = N := Nat.min_self N
 rw [hmin] at hc hs2
 have hc' : (Builtin.copy_ #[26, 26] 3 #[.slice (some ⟨gs, 0, none⟩) N N, .slice a N c]).run Tryz.prog w1 = .ok (goInt N) w2 := hc
 have HB := Lib.hid (hb.trans (hf2.below (B := w.heap.size) hb.size (by simpa using hg2)))
 have HD : Hid (DK w2 gd gs N (imgD S)) := Lib.hid ⟨(hf2.block _ hl (by simpa using hdk.ne)).trans hd, hs2.ws.congr fun j hj => by unfold copS; rw [if_pos hj]; rfl⟩
 clear hc hs2 hf2 hmin hb
 go_wp2_with (at_builtin; refine wpList_copy_run _ rfl (.tmp 18) (.tmp 19) 26 rfl _ _ rfl rfl _ _ hc' ?_)
 go_ret2
 exact ⟨gd, gs, rfl, HD.out, HB.out, hg1, hg2⟩
theorem from_no {w : World} {v : Value} {N : Nat} {S : Nat → List Int} (h : Img0 w v N S) (hN : N < 1 ∨ 4096 < N) (hN2 : N ≤ 9223372036854775807) : Calls Tryz.prog 13 #[v] w fun e w' => e = .returned (.tuple #[.pointer none, .int .i64 20]) ∧ w' = w := by
 obtain ⟨a, c, rfl, -⟩ := id h
 clear h
 go_enter Tryz.func13, Tryz.ntmps13
 go_wp2_with fail
 refine (new_no hN hN2).mono ?_; rintro e w1 ⟨rfl, rfl⟩
 go_wp2_with fail
 go_ret2
 exact ⟨rfl, rfl⟩
def pickN (c : Int) (n : Nat) : Nat := (if c < 0 then (-(c + 1)).tmod n else c.tmod n).toNat
theorem pickN_lt (c : Int) {n : Nat} (hn : 0 < n) : pickN c n < n := by
 unfold pickN
 split
 ·have := Int.tmod_lt_of_pos (-(c + 1)) (show (0 : Int) < n by omega)
  omega
 ·have := Int.tmod_lt_of_pos c (show (0 : Int) < n by omega)
  omega
theorem pick_is (c : Int) (n : Nat) (hc0 : -9223372036854775808 ≤ c) (hc1 : c ≤ 9223372036854775807) (hn0 : 0 < n) (hn1 : n ≤ 100000) (w : World) :
  Calls Tryz.prog 20 #[.int .i64 c, .int .i64 n] w fun e w' => e = .returned (.int .i64 (pickN c n)) ∧ w' = w := by
 have hnn : ((n : Int) == 0) = false := by simp; omega
 have hn2 : (n : Int) ≠ 0 := by omega
 have hlt := pickN_lt c hn0
 by_cases h : c < 0
 ·have hre : (-(c + 1)).tmod (n : Int) = pickN c n := by
   have := Int.tmod_nonneg (n : Int) (show 0 ≤ -(c + 1) by omega)
   unfold pickN; rw [if_pos h]; omega
  generalize pickN c n = r at *
  go_enter Tryz.func20, Tryz.ntmps20
  go_wp2_with fail
  go_ret
  exact ⟨rfl, rfl⟩
 ·have hre : c.tmod (n : Int) = pickN c n := by
   have := Int.tmod_nonneg (n : Int) (show 0 ≤ c by omega)
   unfold pickN; rw [if_neg h]; omega
  generalize pickN c n = r at *
  go_enter Tryz.func20, Tryz.ntmps20
  go_wp2_with fail
  go_ret
  exact ⟨rfl, rfl⟩
def BRow (w : World) (v : Value) (l : List Int) : Prop := ∃ a c, v = .slice a l.length c ∧ l.length ≤ 9223372036854775807 ∧ Bytes l ∧
 (0 < l.length → ∃ g o cs t fr, a = some ⟨g, o, none⟩ ∧ hat w g = some (.cells cs t fr) ∧ o + l.length ≤ cs.size ∧ ∀ k x, l[k]? = some x → cs[o + k]? = some (.int .u8 x))
abbrev Spot := Int × Int × List Int
def I64 (x : Int) : Prop := -9223372036854775808 ≤ x ∧ x ≤ 9223372036854775807
def Pic (w : World) (v : Value) (sec : Int) (sp : List Spot) : Prop := I64 sec ∧ ∃ a c, v = .agg #[.int .i64 sec, .slice a sp.length c] ∧ sp.length ≤ 9223372036854775807 ∧
 (0 < sp.length → ∃ g o cs t fr, a = some ⟨g, o, none⟩ ∧ hat w g = some (.cells cs t fr) ∧ o + sp.length * 3 ≤ cs.size ∧
  ∀ i x, sp[i]? = some x → I64 x.1 ∧ I64 x.2.1 ∧ ∃ dv, cs.extract (o + i * 3) (o + i * 3 + 3) = #[.int .i64 x.1, .int .i64 x.2.1, dv] ∧ BRow w dv x.2.2)
theorem BRow.fr {w w' : World} {v : Value} {l : List Int} (h : BRow w v l) (hf : Fr [] w w') : BRow w' v l := by
 obtain ⟨a, c, h1, h2, h3, h4⟩ := h
 refine ⟨a, c, h1, h2, h3, fun h0 => ?_⟩
 obtain ⟨g, o, cs, t, fr, e1, e2, e3, e4⟩ := h4 h0
 exact ⟨g, o, cs, t, fr, e1, (hf.block _ (hat_lt e2) (by simp)).trans e2, e3, e4⟩
theorem Pic.fr {w w' : World} {v : Value} {sec : Int} {sp : List Spot} (h : Pic w v sec sp) (hf : Fr [] w w') : Pic w' v sec sp := by
 obtain ⟨h0, a, c, h1, h2, h3⟩ := h
 refine ⟨h0, a, c, h1, h2, fun hp => ?_⟩
 obtain ⟨g, o, cs, t, fr, e1, e2, e3, e4⟩ := h3 hp
 refine ⟨g, o, cs, t, fr, e1, (hf.block _ (hat_lt e2) (by simp)).trans e2, e3, fun i x hx => ?_⟩
 obtain ⟨p1, p2, dv, p3, p4⟩ := e4 i x hx
 exact ⟨p1, p2, dv, p3, p4.fr hf⟩
def picN (sec : Int) : Nat := 1 + pickN (wrap64 (sec - 1)) 200
theorem picN_small (sec : Int) : 1 ≤ picN sec ∧ picN sec ≤ 200 := by
 unfold picN
 have := pickN_lt (wrap64 (sec - 1)) (n := 200) (by omega)
 omega
def spotS (N : Nat) (S : Nat → List Int) (x : Spot) : Nat → List Int := updS S (pickN x.1 N) (putL (S (pickN x.1 N)) (pickN x.2.1 128) (x.2.2.take (128 - pickN x.2.1 128)))
def picS (sec : Int) (sp : List Spot) : Nat → List Int := sp.foldl (spotS (picN sec)) (fun _ => zl 128)
theorem putL_nil (s : List Int) (a : Nat) : putL s a [] = s := by unfold putL; simp
theorem putL_snoc {s bs : List Int} {a : Nat} {x : Int} (h : a + bs.length < s.length) : putL s a (bs ++ [x]) = (putL s a bs).set (a + bs.length) x := by
 unfold putL
 have h1 : (s.take a).length = a := by simp; omega
 rw [List.set_append_right _ _ (by omega), h1, Nat.add_sub_cancel_left, List.set_append_right _ _ (Nat.le_refl _), Nat.sub_self, List.length_append, List.drop_eq_getElem_cons h, List.set_cons_zero, List.append_assoc]
 rfl
theorem updS_self' (S : Nat → List Int) (n : Nat) : updS S n (S n) = S := by
 funext j; unfold updS; split
 ·rename_i h; rw [h]
 ·rfl
theorem updS_two (S : Nat → List Int) (n : Nat) (a b : List Int) : updS (updS S n a) n b = updS S n b := by
 funext j; unfold updS; split <;> rfl
theorem WSecs.cellset {w : World} {g N c : Nat} {S : Nat → List Int} (h : WSecs w g N c S) {p q : Nat} (hp : p < N) (hq : q < 128) {x : Int} (h0 : 0 ≤ x) (h1 : x < 256) : WSecs (w.setCell ⟨g, p * 128 + q, none⟩ (.int .u8 x)) g N c (updS S p ((S p).set q x)) := by
 obtain ⟨cs, hcs, hsz, hall⟩ := h
 refine ⟨cs.setIfInBounds (p * 128 + q) (.int .u8 x), hat_setCell_at _ _ _ _ _ _ _ hcs, by simpa using hsz, fun i hi => ?_⟩
 obtain ⟨l1, l2, l3⟩ := hall i hi
 unfold updS
 by_cases hip : i = p
 ·subst hip
  rw [if_pos rfl]
  refine ⟨by simpa using l1, fun y hy => ?_, ?_⟩
  ·rcases List.mem_or_eq_of_mem_set hy with h2 | rfl
   ·exact l2 y h2
   ·exact ⟨h0, h1⟩
  ·have e3 := (extract_sec l1 (by omega)).1 l3
   refine (extract_sec (by simpa using l1) (by simp; omega)).2 fun k hk => ?_
   rw [Array.getElem?_setIfInBounds]
   unfold nth
   by_cases hkq : k = q
   ·subst hkq
    rw [if_pos rfl, if_pos (by omega), List.getElem?_set_self (by omega)]; rfl
   ·rw [if_neg (by omega), List.getElem?_set_ne (by omega)]
    exact e3 k hk
 ·rw [if_neg hip]
  refine ⟨l1, l2, ?_⟩
  have e3 := (extract_sec l1 (by omega)).1 l3
  refine (extract_sec l1 (by simp; omega)).2 fun k hk => ?_
  rw [Array.getElem?_setIfInBounds, if_neg (by omega)]
  exact e3 k hk
theorem image_pic {w : World} {v : Value} {sec : Int} {sp : List Spot} (h : Pic w v sec sp) : Calls Tryz.prog 12 #[v] w fun e w' =>
  ∃ g, e = .returned (.slice (some ⟨g, 0, none⟩) (picN sec) (picN sec)) ∧ WSecs w' g (picN sec) (picN sec) (picS sec sp) ∧ Below w.heap.size w w' ∧ w.heap.size ≤ g := by
 have H := Lib.hid h
 obtain ⟨⟨s0, s1⟩, a, c, rfl, hle, -⟩ := h
 have hwr : I64 (wrap64 (sec - 1)) := by
  unfold I64 wrap64; omega
 obtain ⟨q0, q1⟩ := hwr
 have hP := picN_small sec
 have hPe : ((picN sec : Nat) : Int) = 1 + (pickN (wrap64 (sec - 1)) 200 : Int) := by unfold picN; omega
 have HSp := Lib.hid (show picS sec sp = sp.foldl (spotS (picN sec)) (fun _ => zl 128) from rfl)
 have hf0 := fr_new w (.cells #[.int .i64 sec, .slice a sp.length c] 25) []
 have hg0 := (hopN w (.cells #[.int .i64 sec, .slice a sp.length c] 25)).1
 have HF0 := Lib.hid hf0
 clear hf0
 go_enter Tryz.func12, Tryz.ntmps12
 go_wp2_with fail
 generalize w.alloc (.cells #[.int .i64 sec, .slice a sp.length c] 25) = w0 at *
 have hgl := hat_lt hg0
 generalize hcc : wrap64 (sec - 1) = cc at *
 refine (pick_is cc 200 q0 q1 (by omega) (by omega) w0).mono ?_; rintro e w1 ⟨rfl, rfl⟩
 generalize hNN : picN sec = N at *
 obtain ⟨w2, hr, hws, hb⟩ := make_secs w1 N (by omega)
 rw [hPe] at hr
 have hz2 := (hop hb hg0).1
 have HS := Lib.hid hws
 have HB := Lib.hid hb
 clear hws hb
 go_wp2_with fail
 have hne : w.heap.size ≠ w1.heap.size := by omega
 have HB0 := Lib.hid (HF0.out.size)
 obtain ⟨gl, hgl2⟩ : ∃ gl, gl = w1.heap.size := ⟨_, rfl⟩
 rw [← hgl2] at hne HS ⊢
 have HGL := Lib.hid hgl2
 have H2 := Lib.hid (H.out.fr (HF0.out.trans (fr_below HB.out [])))
 have hgxl := hat_lt hz2
 clear hgl2 hr hg0 hgl q0 q1 hcc hPe s0 s1
 go_loopw [4] (fun v wr => ∃ i : Nat, v = .int .i64 i ∧ i ≤ sp.length ∧ Hid (WSecs wr gl N N ((sp.take i).foldl (spotS N) (fun _ => zl 128))) ∧ Hid (Fr [gl] w2 wr)) (fun v wr => sp.length - (intOf v).toNat)
 case atStart => exact ⟨0, rfl, Nat.zero_le _, HS, Lib.hid (Fr.refl _ _)⟩
 case round =>
  obtain ⟨i, rfl, hi, HSr, HF⟩ := hrel
  have hz3 := (HF.out.block w.heap.size (hat_lt hz2) (by simpa using hne)).trans hz2
  have hz3l := hat_lt hz3
  by_cases hiN : i < sp.length
  ·have hi0 : (0 : Int) ≤ (i : Int) := Int.natCast_nonneg _
   have hi1 : (i : Int) < (sp.length : Int) := by omega
   obtain ⟨-, a', c', he', -, hh⟩ := H.out
   injection he' with he'
   injection he' with he'
   have hac : a = a' ∧ c = c' := by
    injection he' with _ e
    injection e with e1 e2
    injection e1 with p1 p2 p3
    exact ⟨p1, p3⟩
   obtain ⟨rfl, rfl⟩ := hac
   clear he'
   obtain ⟨gs, os, cs, ts, fs, rfl, hcs0, hszs, hall⟩ := hh (by omega)
   obtain ⟨x, hx⟩ : ∃ x, sp[i]? = some x := ⟨_, List.getElem?_eq_getElem hiN⟩
   obtain ⟨⟨xs, xa, xd⟩, hxe⟩ : ∃ y : Spot, y = x := ⟨x, rfl⟩
   subst hxe
   obtain ⟨⟨p0, p1⟩, ⟨r0, r1⟩, dv, hex, ad, cd, rfl, hdl, hby, hdat⟩ := hall i _ hx
   simp only at p0 p1 r0 r1 hex hdl hby hdat
   have hFw : Fr [gl] w wr := ((HF0.out.trans (fr_below HB.out [])).mono (ex' := [gl]) (by simp)).trans HF.out
   have hold : ∀ g, g < w.heap.size → hat wr g = hat w g := fun g hg => hFw.block g hg (by have h1 := HGL.out; have h2 := HB0.out; simp; omega)
   have hcs := (hold gs (hat_lt hcs0)).trans hcs0
   have hgsl := hat_lt hcs
   have hc3 : ∀ q, q < 3 → cs[os + i * 3 + q]? = (#[.int .i64 xs, .int .i64 xa, .slice ad xd.length cd] : Array Value)[q]? := fun q hq => by
    rw [← hex, Array.getElem?_extract, if_pos (by omega)]
   have hc30 : cs[os + i * 3]? = some (.int .i64 xs) := hc3 0 (by omega)
   have hc31 : cs[os + i * 3 + 1]? = some (.int .i64 xa) := hc3 1 (by omega)
   have hc32 : cs[os + i * 3 + 2]? = some (.slice ad xd.length cd) := hc3 2 (by omega)
   have HOLD := Lib.hid hold
   have HDAT := Lib.hid hdat
   have HBY := Lib.hid hby
   have HFW := Lib.hid hFw
   have HX := Lib.hid hx
   have hN1 : (0 : Nat) < N := by omega
   have hN2 : N ≤ 100000 := by omega
   clear hh hall hx hex hszs hold hdat hby hFw hcs0 hc3
   have hf3 := fr_new wr (.cells #[.int .i64 xs, .int .i64 xa, .slice ad xd.length cd] 44) []
   have hs3 := (hopN wr (.cells #[.int .i64 xs, .int .i64 xa, .slice ad xd.length cd] 44)).1
   have HFW3 := Lib.hid (HFW.out.trans (hf3.mono (by simp)))
   have HF3 := Lib.hid (HF.out.trans (hf3.mono (by simp)))
   have HS3 := Lib.hid (HSr.out.same (hf3.block _ HSr.out.lt (by simp)))
   have hsne : wr.heap.size ≠ gl := by have := HSr.out.lt; omega
   have HZ3 := Lib.hid ((hf3.block _ hz3l (by simp)).trans hz3)
   clear hf3
   go_wp2_with fail
   clear hz3 hz3l hc30 hc31 hc32 hcs hgsl
   obtain ⟨w3, hw3⟩ : ∃ w3, w3 = wr.alloc (.cells #[.int .i64 xs, .int .i64 xa, .slice ad xd.length cd] 44) := ⟨_, rfl⟩
   rw [← hw3] at hs3 HFW3 HF3 HS3 HZ3 ⊢
   have hs3l := hat_lt hs3
   clear hw3
   refine (pick_is xs N p0 p1 hN1 hN2 w3).mono ?_; rintro e w4 ⟨rfl, rfl⟩
   go_wp2_with fail
   refine (pick_is xa 128 r0 r1 (by omega) (by omega) w4).mono ?_; rintro e w5 ⟨rfl, rfl⟩
   have hat128 := pickN_lt xa (n := 128) (by omega)
   have hnN := pickN_lt xs hN1
   have HSTEP : Hid (∀ s, (sp.take (i + 1)).foldl (spotS N) s = spotS N ((sp.take i).foldl (spotS N) s) (xs, xa, xd)) := Lib.hid (fun s => by
    rw [List.take_add_one, HX.out, List.foldl_append]; rfl)
   have HSP : Hid (∀ S, spotS N S (xs, xa, xd) = updS S (pickN xs N) (putL (S (pickN xs N)) (pickN xa 128) (xd.take (128 - pickN xa 128)))) := Lib.hid (fun S => rfl)
   generalize pickN xs N = n at *
   generalize pickN xa 128 = at' at *
   generalize hSi : (sp.take i).foldl (spotS N) (fun _ => zl 128) = Si at *
   have HSL := Lib.hid (fun j hj => (HS3.out.secs.len (i := j) hj))
   clear p0 p1 r0 r1
   obtain ⟨gp, hgp⟩ : ∃ gp, gp = wr.heap.size := ⟨_, rfl⟩
   have HGP := Lib.hid hgp
   clear hgp
   go_wp2_with fail
   go_loopw [8] (fun v wx => ∃ k : Nat, v = .int .i64 k ∧ k ≤ xd.length ∧ at' + k ≤ 128 ∧ Hid (WSecs wx gl N N (updS Si n (putL (Si n) at' (xd.take k)))) ∧ Hid (Fr [gl] w5 wx)) (fun v wx => xd.length - (intOf v).toNat)
   case atStart => exact ⟨0, rfl, Nat.zero_le _, by omega, Lib.hid (by rw [List.take_zero, putL_nil, updS_self']; exact HS3.out), Lib.hid (Fr.refl _ _)⟩
   case round =>
    obtain ⟨k, rfl, hk, hak, HSk, HFk⟩ := hrel
    have hs4 := (HFk.out.block _ hs3l (by simpa using hsne)).trans hs3
    have hs4l := hat_lt hs4
    have hk0 : (0 : Int) ≤ (k : Int) := Int.natCast_nonneg _
    have hA0 : (0 : Int) ≤ (at' : Int) := Int.natCast_nonneg _
    by_cases hkl : k < xd.length
    ·have hk1 : (k : Int) < (xd.length : Int) := by omega
     have d1 : decide ((k : Int) < (xd.length : Int)) = true := decide_eq_true hk1
     by_cases hk8 : at' + k < 128
     ·have d2 : decide ((at' : Int) + (k : Int) < 128) = true := decide_eq_true (by omega)
      have hk9 : (at' : Int) + (k : Int) < 128 := by omega
      obtain ⟨gd, od, csd, td, frd, rfl, hcd0, hszd, hdd⟩ := HDAT.out (by omega)
      have hcd := ((HFW3.out.trans HFk.out).block gd (hat_lt hcd0) (by have h1 := HGL.out; have h2 := HB0.out; have h3 := hat_lt hcd0; simp; omega)).trans hcd0
      obtain ⟨y, hy⟩ : ∃ y, xd[k]? = some y := ⟨_, List.getElem?_eq_getElem hkl⟩
      have hbyte := hdd k y hy
      have hyb := HBY.out y (List.mem_of_getElem? hy)
      have hn0 : (0 : Int) ≤ (n : Int) := Int.natCast_nonneg _
      have hn1 : (n : Int) < (N : Int) := by omega
      have hput := HSk.out.cellset (p := n) (q := at' + k) hnN hk8 hyb.1 hyb.2
      have HPUT : Hid (WSecs (wr.setCell ⟨gl, n * 128 + (at' + k), none⟩ (.int .u8 y)) gl N N (updS Si n (putL (Si n) at' (xd.take (k + 1))))) := Lib.hid (by
       have e1 : updS Si n (putL (Si n) at' (xd.take k)) n = putL (Si n) at' (xd.take k) := updS_eq _ _ _
       have e2 : xd.take (k + 1) = xd.take k ++ [y] := by rw [List.take_add_one, hy]; rfl
       have e3 : (xd.take k).length = k := by simp; omega
       rw [e1, updS_two] at hput
       rw [e2, putL_snoc (by rw [e3, (HSL.out n hnN).1]; omega), e3]
       exact hput)
      have HFR := Lib.hid (HFk.out.trans (fr_setCell wr gl (n * 128 + (at' + k)) (.int .u8 y)))
      obtain ⟨csl, hcl, ⟨hszl, -⟩, -⟩ := id HSk.out
      obtain ⟨x0, hx0⟩ : ∃ x0, csl[n * 128 + (at' + k)]? = some x0 := ⟨_, Array.getElem?_eq_getElem (by omega)⟩
      have hcll := hat_lt hcl
      have hcdl := hat_lt hcd
      clear hput hy hyb hdd hszd hszl hcd0
      go_wp2_with fail
      go_region
      go_wp2_with fail
      go_roundw
      case rel => exact ⟨k + 1, by go_num, by omega, by omega, Lib.hid (HPUT.out.same rfl), Lib.hid (fr_drew HFR.out)⟩
      case measure => (show xd.length - (k + 1) < xd.length - k); omega
     ·have d2 : decide ((at' : Int) + (k : Int) < 128) = false := decide_eq_false (by omega)
      have HQ : Hid (WSecs wr gl N N ((sp.take (i + 1)).foldl (spotS N) (fun _ => zl 128))) := Lib.hid (by
       rw [HSTEP.out, hSi, HSP.out]
       have e : xd.take (128 - at') = xd.take k := by rw [show 128 - at' = k by omega]
       rw [e]; exact HSk.out)
      have HRF := Lib.hid (HF3.out.trans HFk.out)
      go_wp2_with fail
      go_roundw
      case rel => exact ⟨i + 1, by go_num, by omega, HQ, HRF⟩
      case measure => (show sp.length - (i + 1) < sp.length - i); omega
    ·have d1 : decide ((k : Int) < (xd.length : Int)) = false := decide_eq_false (by omega)
     have hkk : k = xd.length := by omega
     have HQ : Hid (WSecs wr gl N N ((sp.take (i + 1)).foldl (spotS N) (fun _ => zl 128))) := Lib.hid (by
      rw [HSTEP.out, hSi, HSP.out]
      have e : xd.take (128 - at') = xd.take k := by rw [hkk, List.take_length, List.take_of_length_le (by omega)]
      rw [e]; exact HSk.out)
     have HRF := Lib.hid (HF3.out.trans HFk.out)
     go_wp2_with fail
     go_roundw
     case rel => exact ⟨i + 1, by go_num, by omega, HQ, HRF⟩
     case measure => (show sp.length - (i + 1) < sp.length - i); omega
  ·have hkk : i = sp.length := by omega
   subst hkk
   have HEND := HSr
   rw [List.take_length, ← HSp.out] at HEND
   go_wp2_with fail
   go_ret
   rw [hNN]
   refine ⟨gl, rfl, HEND.out, ?_, ?_⟩
   ·exact (HF0.out.below (B := w.heap.size) (Nat.le_refl _) (by simp)).trans ((HB.out.mono HB0.out).trans (HF.out.below (B := w.heap.size) (Nat.le_trans HB0.out HB.out.size) (by simp; rw [HGL.out]; exact HB0.out)))
   ·rw [HGL.out]; exact HB0.out
end Go.Proofs.YtmnecpnkkapflaaGreat
