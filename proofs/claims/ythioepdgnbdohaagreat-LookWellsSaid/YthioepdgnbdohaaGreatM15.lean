/- Contracts and laws that the claim leans on, laid together in the order in which they build. -/
import Derived.Test.YthioepdgnbdohaaGreatM09
import Derived.Test.YthioepdgnbdohaaGreatM13
import Derived.Test.YthioepdgnbdohaaGreatM14

/- An image that is well-formed is left alone: the plain law. -/
namespace Go.Proofs.YthioepdgnbdohaaGreat
set_option linter.unusedSimpArgs false
set_option linter.unusedVariables false
open Go.RowKit

theorem flat_apart {f : Nat → List Int} : ∀ (l : List Nat), l.Nodup → (l.flatMap f).Nodup → ∀ i ∈ l, ∀ i' ∈ l, ∀ p, p ∈ f i → p ∈ f i' → i = i'
  | [], _, _, i, hi, _, _, _, _, _ => by cases hi
  | a :: r, hn, h, i, hi, i', hi', p, hp, hp' => by
    rw [List.flatMap_cons, List.nodup_append] at h
    obtain ⟨h1, h2, h3⟩ := h
    have hn2 := List.nodup_cons.1 hn
    rcases List.mem_cons.1 hi with e | h9
    · subst e
      rcases List.mem_cons.1 hi' with e | h9
      · exact e.symm
      · exact absurd rfl (h3 p hp p (List.mem_flatMap.2 ⟨i', h9, hp'⟩))
    · rcases List.mem_cons.1 hi' with e | hi'
      · subst e
        exact absurd rfl (h3 p hp' p (List.mem_flatMap.2 ⟨i, h9, hp⟩))
      · exact flat_apart r hn2.2 h2 i h9 i' hi' p hp hp'
/-- what a well-formed image is good for -/
structure WellF (X Y : Int) (A : Nat → List Int) : Prop where
  Y1 : 1 ≤ Y
  Y9 : Y < 4096
  ln : ∀ j : Nat, isD X Y j = true → (A j).length = 128 ∧ Bytes (A j)
  rd : ∀ i : Nat, 1 ≤ i → (i : Int) ≤ Y → (rdInoR (A i)).2 = 0
  sh : ∀ i : Nat, 1 ≤ i → (i : Int) ≤ Y → nth (wI A i) 0 ≠ 0 → inoSh (cntX (nth (wI A i) 2)) A (wI A i)
  ok : ∀ i : Nat, 1 ≤ i → (i : Int) ≤ Y → nth (wI A i) 0 ≠ 0 → OkL X Y (fun _ => false) (inoPs (cntX (nth (wI A i) 2)) A (wI A i))
  dj : ∀ i i' : Nat, 1 ≤ i → (i : Int) ≤ Y → 1 ≤ i' → (i' : Int) ≤ Y → nth (wI A i) 0 ≠ 0 → nth (wI A i') 0 ≠ 0 → ∀ p, p ∈ inoPs (cntX (nth (wI A i) 2)) A (wI A i) → p ∈ inoPs (cntX (nth (wI A i') 2)) A (wI A i') → i = i'
  rt : nth (wI A 1) 0 = 2
  dr : DirsOk A (wI A) (Y.toNat + 1)
  al : ∀ i, 1 ≤ i → i < Y.toNat + 1 → nth (wI A i) 0 ≠ 0 → InoOkW A (wI A) (Y.toNat + 1) i
theorem wellF_of {N : Nat} {S : Nat → List Int} (hS : ∀ j, j < N → (S j).length = 128 ∧ Bytes (S j)) (h : WellP N S) : WellF N (rdSupR (S 0)).2.1 S := by
  have hmay := (sup_one h.su).1
  obtain ⟨hx, hy, hxy⟩ := hmay
  rw [h.sn] at hxy
  obtain ⟨s', hs'⟩ := Option.isSome_iff_exists.1 h.pt
  obtain ⟨p1, p2, -⟩ := (ptrsA_iff _ _ _ _ _ _ _).1 hs'
  have hmem : ∀ i : Nat, 1 ≤ i → (i : Int) ≤ (rdSupR (S 0)).2.1 → i ∈ List.range' 1 (rdSupR (S 0)).2.1.toNat := fun i h1 h2 => List.mem_range'_1.2 ⟨h1, by omega⟩
  have hpt : ∀ i : Nat, nth (wI S i) 0 ≠ 0 → ptI S (wI S) i = inoPs (cntX (nth (wI S i) 2)) S (wI S i) := fun i hk => if_neg hk
  have hsub : ∀ (l : List Nat) (i : Nat), i ∈ l → OkL N (rdSupR (S 0)).2.1 (fun _ => false) (l.flatMap (ptI S (wI S))) → OkL N (rdSupR (S 0)).2.1 (fun _ => false) (ptI S (wI S) i) := by
    intro l
    induction l with
    | nil => intro i hi; cases hi
    | cons a r ih =>
      intro i hi ho
      rw [List.flatMap_cons] at ho
      rcases List.mem_cons.1 hi with rfl | hi
      · exact (okL_app.1 ho).1
      · refine ih i hi ⟨fun p hp => ho.1 p (List.mem_append_right _ hp), ?_⟩
        exact (List.nodup_append.1 ho.2).2.1
  refine ⟨hy.1, by omega, fun j hj => hS j ?_, fun i h1 h2 => h.rd i h1 h2, fun i h1 h2 hk => p1 i (hmem i h1 h2) hk, fun i h1 h2 hk => ?_, fun i i' h1 h2 h1' h2' hk hk' p hp hp' => ?_, h.rt, h.dr, h.al⟩
  · unfold isD at hj
    have := of_decide_eq_true hj
    omega
  · rw [← hpt i hk]
    exact hsub _ i (hmem i h1 h2) p2
  · rw [← hpt i hk] at hp
    rw [← hpt i' hk'] at hp'
    exact flat_apart _ (List.nodup_range' ..) p2.2 i (hmem i h1 h2) i' (hmem i' h1' h2') p hp hp'
/-- a look that has turned nothing so far -/
structure BZ (A : Nat → List Int) (z : LZ) : Prop where
  S : z.st.S = A
  t : ∀ i t, z.T i = some t → t.raw = (rdInoR (A i)).1
theorem wipeL_zero {s : List Int} (h : s.length = 128) {k : Nat} (hk : k ≤ 128) (hz : zeroFrom s k = true) : wipeL s k = s := by
  unfold wipeL
  apply nth_ext
  · simp; omega
  · intro i hi
    by_cases hik : i < k
    · rw [nth_append_left (by simp; omega)]
      unfold nth
      rw [List.getElem?_take, if_pos hik]
    · rw [nth_append_right (by simp; omega), zl_get]
      unfold zeroFrom at hz
      rw [List.all_eq_true] at hz
      have hl : i < s.length := by simp at hi; omega
      have hm : nth s i ∈ s.drop k := by
        refine List.mem_iff_getElem?.2 ⟨i - k, ?_⟩
        rw [List.getElem?_drop, show k + (i - k) = i by omega, nth_getElem? hl]
      have := hz _ hm
      simp at this
      exact this.symm
theorem take_bz {X Y : Int} {A : Nat → List Int} (hF : WellF X Y A) {z : LZ} (hI : InvZ X Y A z) (hP : PZ X Y z) (hB : BZ A z) (hix : ∀ i t, z.T i = some t → 1 ≤ i ∧ (i : Int) ≤ Y) {x : Nat} (hx1 : 1 ≤ x) (hxY : (x : Int) ≤ Y) (hT : z.T x = none) (hk : nth (wI A x) 0 ≠ 0) (n : Int) : BZ A (takeZ X Y x (rdInoR (A x)).1 n z) := by
  have hY : 0 ≤ Y := by have := hF.Y1; omega
  have hraw : wI A x = (rdInoR (A x)).1 := wI_yes A hx1
  have hl : (rdInoR (A x)).1.length = 18 := rdInoR_length _
  have hsh := hF.sh x hx1 hxY hk
  have hok := hF.ok x hx1 hxY hk
  have htl := (hF.al x hx1 (by omega) hk).tl
  rw [hraw] at hsh hok htl
  have hSB : (bare z.st).S = A := hB.S
  have hcl : ∀ p ∈ inoPs (cntX (nth (rdInoR (A x)).1 2)) A (rdInoR (A x)).1, z.st.cl p = false := fun p hp => by
    cases hc : z.st.cl p with
    | false => rfl
    | true =>
      obtain ⟨i, t, ht, hm⟩ := hP.un p hc
      obtain ⟨i1, i2⟩ := hix i t ht
      unfold psT at hm
      rw [hB.S, hB.t i t ht, ← wI_yes A i1] at hm
      have hki : nth (wI A i) 0 ≠ 0 := by
        rw [wI_yes A i1]
        exact (sound_may (hI.snd i t ht).1).2
      rw [← hraw] at hp
      have := hF.dj i x i1 i2 hx1 hxY hki hk p hm hp
      subst this
      rw [hT] at ht; cases ht
  obtain ⟨k1, k2⟩ := ptrs_k hY (cntX (nth (rdInoR (A x)).1 2)) hl hI.si (fun _ => rfl) (by rw [hSB]; exact hsh) (by rw [hSB]; exact ⟨fun p hp => ⟨(hok.1 p hp).1, hcl p hp⟩, hok.2⟩)
  obtain ⟨-, -, -, -, f5⟩ := ptrs_f hY (cntX (nth (rdInoR (A x)).1 2)) hl hI.si (fun _ => rfl)
  obtain ⟨e1, e2⟩ := takeX_parts X Y (rdInoR (A x)).1 z.st
  obtain ⟨pi, -, -⟩ := ptrs_i hY (cntX (nth (rdInoR (A x)).1 2)) (rdInoR (A x)).1 hI.si
  rw [hSB] at k2
  refine ⟨?_, fun i t ht => ?_⟩
  · show (takeX X Y (rdInoR (A x)).1 z.st).2.S = A
    rw [e2]
    split
    · exact k2
    · unfold tailX
      split
      · exact k2
      · rename_i p hp
        split
        · exact k2
        · rename_i hz
          show updS _ _ _ = _
          have hcn : 0 ≤ cntX (nth (rdInoR (A x)).1 2) - 1 ∧ cntX (nth (rdInoR (A x)).1 2) - 1 < 1068 := by
            have hm := sound_may (s := A x) (by
              unfold soundR
              rw [hF.rd x hx1 hxY]
              simp
              rw [← hraw]; exact hk)
            have hb := (inoMay_else hm.2).1 hm.1
            have := hb.1.2.2.1
            unfold cntX
            omega
          have hbk := f5 _ hcn.1 hcn.2
          have hd := (pi.bk _ p hp).1
          rw [hp, k2, k1] at hbk
          have hbw := inoBl_blkW (cntX (nth (rdInoR (A x)).1 2)) A hl (cntX (nth (rdInoR (A x)).1 2) - 1).toNat (by omega)
          rw [show ((cntX (nth (rdInoR (A x)).1 2) - 1).toNat : Int) = cntX (nth (rdInoR (A x)).1 2) - 1 by omega] at hbw
          rw [hbw] at hbk
          have hpb : blkW A (rdInoR (A x)).1 (cntX (nth (rdInoR (A x)).1 2) - 1).toNat = p ∧ p ≠ 0 := by
            unfold optI at hbk
            split at hbk
            · cases hbk
            · rename_i h0; exact ⟨(Option.some.inj hbk).symm, fun e => h0 (by rw [← e]; exact (Option.some.inj hbk).symm)⟩
          unfold tailW at htl
          rw [if_neg hz, hpb.1, if_neg hpb.2] at htl
          have hln := hF.ln p.toNat (by rw [(isD_nat hY hd).1]; exact hd)
          rw [k2, wipeL_zero hln.1 (by omega) htl]
          exact updS_same _ _
  · have ht2 : updT z.T x ⟨(takeX X Y (rdInoR (A x)).1 z.st).1, n, (takeX X Y (rdInoR (A x)).1 z.st).2.bk⟩ i = some t := ht
    by_cases e : i = x
    · subst e
      rw [updT_eq] at ht2
      cases ht2
      show (takeX X Y (rdInoR (A i)).1 z.st).1 = _
      rw [e1, k1]
    · rw [updT_ne _ _ e] at ht2
      exact hB.t i t ht2
theorem slotsW_pre {S : Nat → List Int} : ∀ (b : List Int) (l l' : List Ent), slotsW S b l = some l' → ∃ m, l' = l ++ m
  | [], l, l', h => ⟨[], by cases h; simp⟩
  | p :: r, l, l', h => by
    rw [slotsW_cons] at h
    split at h
    · exact slotsW_pre r l l' h
    · split at h
      · cases h
      · split at h
        · exact slotsW_pre r l l' h
        · obtain ⟨m, hm⟩ := slotsW_pre r _ l' h
          exact ⟨_, by rw [hm, List.append_assoc]⟩
theorem bkL_split (bk : Int → Option Int) {k n : Nat} (h : k ≤ n) : ∃ r, bkL bk n = bkL bk k ++ r := by
  induction n with
  | zero =>
    obtain rfl : k = 0 := by omega
    exact ⟨[], by simp⟩
  | succ n ih =>
    by_cases hk : k = n + 1
    · subst hk; exact ⟨[], by simp⟩
    · obtain ⟨r, hr⟩ := ih (by omega)
      exact ⟨r ++ [(bk n).getD 0], by rw [bkL_succ, hr, List.append_assoc]⟩
/-- the first blocks' slots are the first slots -/
theorem slots_pre {S : Nat → List Int} {bk : Int → Option Int} {k n : Nat} (h : k ≤ n) {l : List Ent} (hl : slotsW S (bkL bk n) [] = some l) : ∃ l1 m, slotsW S (bkL bk k) [] = some l1 ∧ l = l1 ++ m := by
  obtain ⟨r, hr⟩ := bkL_split bk h
  rw [hr, slotsW_app] at hl
  cases h1 : slotsW S (bkL bk k) [] with
  | none => rw [h1] at hl; cases hl
  | some l1 =>
    rw [h1] at hl
    obtain ⟨m, hm⟩ := slotsW_pre r l1 l hl
    exact ⟨l1, m, rfl, hm⟩
/-- the slots of a directory that was taken up are those of the image -/
theorem dir_slots {X Y : Int} {A : Nat → List Int} (hF : WellF X Y A) {L : Nat → List Ent} {c k : Nat} {z : LZ} (h : WZ X Y A L c k z) (hB : BZ A z) {i : Nat} {t : TI} (ht : z.T i = some t) (h2 : nth t.raw 0 = 2) :
    slotsW A (bkL t.bk (cntX (nth t.raw 2)).toNat) [] = some (entL A (wI A) (Y.toNat + 1) i) ∧ EntOk (wI A) (Y.toNat + 1) (entL A (wI A) (Y.toNat + 1) i) := by
  obtain ⟨i1, i2⟩ := h.ix i t ht
  have hraw := hB.t i t ht
  have hwi : wI A i = t.raw := by rw [wI_yes A i1, hraw]
  obtain ⟨l, hl, ho⟩ := hF.dr i i1 (by omega) (by rw [hwi]; exact h2)
  have hbl : blksW A (wI A i) = bkL t.bk (cntX (nth t.raw 2)).toNat := by
    unfold blksW bkL
    rw [hwi]
    apply List.map_congr_left
    intro k hk
    have hm := sound_may (h.inv.snd i t ht).1
    have hb := ((inoMay_else hm.2).1 hm.1).1.2.2.1
    rw [← hraw] at hb
    have hk9 : k < 1068 := by have := List.mem_range.1 hk; unfold cntX at this; omega
    rw [h.pz.bk i t ht k (Int.natCast_nonneg _) (by omega), getD_optI, hB.S, inoBl_blkW _ _ (h.inv.snd i t ht).2.1 k hk9]
  rw [hbl] at hl
  rw [entL_yes i1 (by omega) (by rw [hwi]; exact h2) (by rw [hbl]; exact hl)]
  exact ⟨hl, ho⟩
theorem pre_ent {X Y : Int} {A : Nat → List Int} (hF : WellF X Y A) {L : Nat → List Ent} {c k : Nat} {z : LZ} (h : WZ X Y A L c k z) (hB : BZ A z) (hkc : ∀ t, z.T c = some t → nth t.raw 0 = 2 → k ≤ (cntX (nth t.raw 2)).toNat) (i : Nat) : ∃ m, entL A (wI A) (Y.toNat + 1) i = L i ++ m := by
  by_cases hL : L i = []
  · exact ⟨_, by rw [hL]; rfl⟩
  · obtain ⟨t, ht, h2⟩ := h.nl i hL
    obtain ⟨hl, -⟩ := dir_slots hF h hB ht h2
    have hsl := h.sl i t ht h2
    rw [hB.S] at hsl
    have hd : doneB z c k i t ≤ (cntX (nth t.raw 2)).toNat := by
      unfold doneB
      split
      · exact Nat.zero_le _
      · split
        · rename_i e; subst e; exact hkc t ht h2
        · exact Nat.le_refl _
    obtain ⟨l1, m, h1, h3⟩ := slots_pre hd hl
    rw [hsl] at h1
    cases h1
    exact ⟨m, h3⟩
theorem sum_mono {f g : Nat → Nat} : ∀ n : Nat, (∀ i, f i ≤ g i) → ((List.range n).map f).sum ≤ ((List.range n).map g).sum
  | 0, _ => Nat.le_refl _
  | n + 1, h => by
    rw [List.range_succ, List.map_append, List.map_append, List.sum_append, List.sum_append]
    have := sum_mono n h
    have := h n
    simp; omega
theorem cntL_mono {L L' : Nat → List Ent} (N j : Nat) (h : ∀ i, ∃ m, L' i = L i ++ m) : cntL L N j ≤ cntL L' N j := by
  refine sum_mono _ fun i => ?_
  obtain ⟨m, hm⟩ := h i
  simp only [hm, List.countP_append]
  omega
theorem slot_bz {X Y : Int} {A : Nat → List Int} (hF : WellF X Y A) {L : Nat → List Ent} {c k : Nat} {zn : LZ × (ByteArray → Bool)} (h : WZ X Y A L c k zn.1) (hB : BZ A zn.1) (hn : NmIs (L c) zn.2) {t : TI} (hT : zn.1.T c = some t) (h2 : nth t.raw 0 = 2) (hq : (c : Int) ∉ zn.1.q) {p : Int} (hk : t.bk k = some p) (hkc : k < (cntX (nth t.raw 2)).toNat) :
    BZ A (slotZ X Y A p.toNat zn).1 := by
  have hY : 0 ≤ Y := by have := hF.Y1; omega
  obtain ⟨hd, hcp⟩ := h.inv.blk c t k p hT hk
  obtain ⟨hp, hp0⟩ := isD_nat hY hd
  obtain ⟨hl, ho⟩ := dir_slots hF h hB hT h2
  have hsl := h.sl c t hT h2
  unfold doneB at hsl
  rw [if_neg hq, if_pos rfl, hB.S] at hsl
  obtain ⟨l1, m, q1, q2⟩ := slots_pre (show k + 1 ≤ _ from hkc) hl
  rw [bkL_succ, slotsW_snoc hsl, hk] at q1
  simp only [Option.getD_some] at q1
  rw [if_neg hp0] at q1
  have her : (rdSloR (A p.toNat)).2.2 = 0 := Decidable.byContradiction fun hne => by rw [if_pos hne] at q1; cases q1
  rw [if_neg (by rw [her]; simp)] at q1
  unfold slotZ
  rw [hB.S]
  by_cases h0 : (rdSloR (A p.toNat)).1 = 0
  · rw [if_pos ⟨her, h0⟩]; exact hB
  · rw [if_neg (fun hh => h0 hh.2)]
    rw [if_neg h0] at q1
    have q1' := Option.some.inj q1
    have hmem : ((rdSloR (A p.toNat)).1, (rdSloR (A p.toNat)).2.1) ∈ entL A (wI A) (Y.toNat + 1) c := by
      rw [q2, ← q1']
      exact List.mem_append_left _ (List.mem_append_right _ (List.mem_singleton.2 rfl))
    obtain ⟨o1, o2, o3⟩ := ho.1 _ hmem
    obtain ⟨x, hx⟩ := Int.eq_ofNat_of_zero_le (show 0 ≤ (rdSloR (A p.toNat)).1 by have : 2 ≤ (rdSloR (A p.toNat)).1 := o1; omega)
    have hnm : (rdSloR (A p.toNat)).2.1 ∉ (L c).map Prod.snd := by
      have hnd := ho.2
      rw [q2, ← q1', List.map_append, List.map_append] at hnd
      have h5 := (List.nodup_append.1 (List.nodup_append.1 hnd).1).2.2
      intro hm
      exact h5 _ hm _ (by simp) rfl
    generalize hnme : (rdSloR (A p.toNat)).2.1 = nm at *
    simp only [hx, Int.toNat_natCast] at o1 o2 o3 q1' hmem ⊢
    have hx2 : 2 ≤ x := by omega
    have hxY : (x : Int) ≤ Y := by omega
    have hx1 : x ≠ 1 := by omega
    -- counts
    have hpre := pre_ent hF h hB (fun u hu _ => by rw [hT] at hu; cases hu; omega)
    have hal := hF.al x (by omega) (by omega) o3
    have hcnt : (cntL L Y.toNat x : Int) + 1 ≤ wantW (entL A (wI A) (Y.toNat + 1)) (Y.toNat + 1) x := by
      have h5 := cntL_mono (L := updE L c (L c ++ [((x : Int), nm)])) (L' := entL A (wI A) (Y.toNat + 1)) Y.toNat x (fun i => by
        by_cases e : i = c
        · subst e
          rw [updE_eq]
          exact ⟨m, by rw [q2, ← q1']⟩
        · rw [updE_ne _ _ e]; exact hpre i)
      rw [cntL_upd L (by have := (h.ix c t hT).2; omega), if_pos rfl] at h5
      unfold wantW
      rw [if_neg hx1, cntI_cntL]
      omega
    have henter : ∃ z2, enterZ X Y A x zn.1 = some z2 ∧ BZ A z2 := by
      unfold enterZ
      cases hu : zn.1.T x with
      | none =>
        have hso : soundR (A x) = true := by
          unfold soundR
          rw [hF.rd x (by omega) hxY]
          simp
          rw [← wI_yes A (by omega)]; exact o3
        simp only
        rw [if_pos hso]
        exact ⟨_, rfl, take_bz hF h.inv h.pz hB h.ix (by omega) hxY hu o3 1⟩
      | some u =>
        simp only
        have hen := h.en x u hu
        have hpo := (h.po x u hu).1
        rw [if_neg hx1] at hen
        have hwi : wI A x = u.raw := by rw [wI_yes A (by omega), hB.t x u hu]
        have hne : ¬ (nth u.raw 0 = 2 ∨ u.en = 100) := by
          rintro (hh | hh)
          · have := hal.kd (by rw [hwi]; exact hh); omega
          · have := hal.w2; omega
        rw [if_neg hne]
        refine ⟨_, rfl, hB.S, fun j v hv => ?_⟩
        have hv2 : updT zn.1.T x { u with en := u.en + 1 } j = some v := hv
        by_cases e : j = x
        · subst e
          rw [updT_eq] at hv2
          cases hv2
          exact hB.t j u hu
        · rw [updT_ne _ _ e] at hv2
          exact hB.t j v hv2
    obtain ⟨z2, he, hb2⟩ := henter
    have hR : enterR X Y A x nm zn = (true, z2, addB zn.2 nm) := by
      unfold enterR
      rw [if_neg (by
        rintro (hh | hh)
        · exact hnm ((hn nm).1 hh)
        · exact hx1 hh), he]
    rw [hR, if_pos ⟨her, hxY, rfl⟩]
    exact hb2
theorem dir_bz {X Y : Int} {A : Nat → List Int} (hF : WellF X Y A) {c : Nat} {t : TI} (h2 : nth t.raw 0 = 2) : ∀ (m k : Nat) (L : Nat → List Ent) (zn : LZ × (ByteArray → Bool)), k + m ≤ (cntX (nth t.raw 2)).toNat → WZ X Y A L c k zn.1 → BZ A zn.1 → NmIs (L c) zn.2 → (∃ t0, zn.1.T c = some t0 ∧ t0.bk = t.bk ∧ t0.raw = t.raw) → (c : Int) ∉ zn.1.q →
    BZ A (dirZ X Y A t.bk m k zn).1
  | 0, k, L, zn, hkm, h, hB, hn, hT, hq => hB
  | m + 1, k, L, zn, hkm, h, hB, hn, hT, hq => by
    have hY : 0 ≤ Y := by have := hF.Y1; omega
    show BZ A (dirZ X Y A t.bk m (k + 1) _).1
    obtain ⟨t0, ht0, hb0, hr0⟩ := hT
    have h20 : nth t0.raw 0 = 2 := by rw [hr0]; exact h2
    cases hk : t.bk k with
    | none =>
      refine dir_bz hF h2 m (k + 1) L zn (by omega) (h.skip (fun u hu _ => ?_)) hB hn ⟨t0, ht0, hb0, hr0⟩ hq
      have hsl := h.sl c t0 ht0 h20
      unfold doneB at hsl
      rw [if_neg hq, if_pos rfl] at hsl
      have eu : u = t0 := by rw [ht0] at hu; exact (Option.some.inj hu).symm
      subst eu
      rw [bkL_succ, slotsW_snoc hsl, hb0, hk, hb0.symm, hsl]
      rfl
    | some p =>
      obtain ⟨L2, a, b⟩ := slot_wz hY h hn ht0 h20 hq (by rw [hb0]; exact hk)
      have hs := slot_i hY (t := t) h.inv ⟨t0, ht0, hb0⟩ hq hk
      obtain ⟨t1, ht1, hr1, hb1⟩ := hs.st.t c t0 ht0
      have hb := slot_bz hF h hB hn ht0 h20 hq (p := p) (by rw [hb0]; exact hk) (by rw [hr0]; omega)
      exact dir_bz hF h2 m (k + 1) L2 (slotZ X Y A p.toNat zn) (by omega) a hb b ⟨t1, ht1, hb1.trans hb0, hr1.trans hr0⟩ hs.q
theorem loop_bz {X Y : Int} {A : Nat → List Int} (hF : WellF X Y A) : ∀ (f : Nat) (L : Nat → List Ent) (z : LZ), WZ X Y A L 0 0 z → BZ A z → BZ A (loopZ X Y A f z)
  | 0, L, z, h, hB => hB
  | f + 1, L, z, h, hB => by
    have hY : 0 ≤ Y := by have := hF.Y1; omega
    cases hq : z.q with
    | nil => rw [loopZ_nil _ _ _ _ _ hq]; exact hB
    | cons i r =>
      rw [loopZ_cons _ _ _ _ _ _ _ hq]
      obtain ⟨L2, hw2⟩ := dirOf_wz hY h hq
      refine loop_bz hF f L2 _ hw2 ?_
      obtain ⟨h0, t, ht, h2⟩ := h.inv.qT i (by rw [hq]; exact List.mem_cons_self)
      obtain ⟨c, rfl⟩ := Int.eq_ofNat_of_zero_le h0
      have hir : (c : Int) ∉ r := by have := h.inv.qn; rw [hq] at this; exact (List.nodup_cons.1 this).1
      rw [Int.toNat_natCast] at ht ⊢
      have hp := h.pop hq
      have hsl := hp.sl c t ht h2
      unfold doneB at hsl
      rw [if_neg hir, if_pos rfl, bkL_zero] at hsl
      have hL : L c = [] := (Option.some.inj hsl).symm
      have e : dirOf X Y A c { z with q := r } = (dirZ X Y A t.bk (cntX (nth t.raw 2)).toNat 0 ({ z with q := r }, fun _ => false)).1 := by
        unfold dirOf
        show (match z.T c with | none => _ | some t => _) = _
        rw [ht]
      rw [e]
      exact dir_bz hF h2 _ 0 L ({ z with q := r }, fun _ => false) (by omega) hp ⟨hB.S, hB.t⟩ (fun x => by rw [hL]; simp) ⟨t, ht, rfl, rfl⟩ hir
theorem set_nth {l : List Int} (h : 1 < l.length) : l.set 1 (nth l 1) = l := by
  apply nth_ext (by simp)
  intro i hi
  rw [nth_set h]
  split
  · rename_i e; rw [e]
  · rfl
/-- AN IMAGE THAT IS WELL-FORMED IS LEFT ALONE -/
theorem look_keeps {N : Nat} {S : Nat → List Int} (hS : ∀ j, j < N → (S j).length = 128 ∧ Bytes (S j)) (h : WellP N S) : lookE N S = 0 ∧ ∀ j, repS (rdSupR (S 0)).2.1 (lookZ N (rdSupR (S 0)).2.1 S) j = S j := by
  have hF := wellF_of hS h
  have hr : rootOk S := (root_iff S).2 ⟨h.rd 1 (Nat.le_refl 1) hF.Y1, by have := h.rt; rw [wI_yes S (Nat.le_refl 1)] at this; exact this⟩
  refine ⟨?_, ?_⟩
  · unfold lookE
    have := h.n8
    have := h.n9
    rw [if_neg (by omega), if_neg (by
      rintro (h1 | h1)
      · exact h1 h.su
      · exact h1 h.sn), if_pos hr]
  · generalize (rdSupR (S 0)).2.1 = Y at *
    have hY : 0 ≤ Y := by have := hF.Y1; omega
    obtain ⟨L, hW⟩ := look_wz (X := N) hF.Y1 hF.Y9 hF.ln hr
    have hB0 : BZ S (startZ N Y S) := take_bz hF (zero_i (Y := Y) hF.ln) (zero_pz N Y S) ⟨rfl, fun i t ht => by cases ht⟩ (fun i t ht => by cases ht) (Nat.le_refl 1) hF.Y1 rfl (by rw [h.rt]; decide) 1
    have hB : BZ S (lookZ N Y S) := loop_bz hF 8192 _ _ (start_wz hF.Y1 hF.ln hr) hB0
    generalize lookZ (N : Int) Y S = z at *
    have htaken : ∀ j, Reached (entL S (wI S) (Y.toNat + 1)) j → ∃ t, z.T j = some t := fun j hj => hj (fun i => ∃ t, z.T i = some t) hW.w.r1 (fun i e ⟨t, ht⟩ he => by
      have h2 : nth t.raw 0 = 2 := Decidable.byContradiction fun hne => by
        rw [entL_no (by rw [wI_yes S (hW.w.ix i t ht).1, ← hB.t i t ht]; exact hne)] at he; cases he
      obtain ⟨hl, -⟩ := dir_slots hF hW.w hB ht h2
      have hsl := hW.w.sl i t ht h2
      unfold doneB at hsl
      rw [hW.q, if_neg (by simp), if_neg (by have := (hW.w.ix i t ht).1; omega), hB.S, hl] at hsl
      rw [Option.some.inj hsl] at he
      exact (hW.w.rg i e he).2.2)
    have hent : entL S (wI S) (Y.toNat + 1) = L := by
      funext i
      by_cases hne : entL S (wI S) (Y.toNat + 1) i = []
      · rw [hne]
        obtain ⟨m, hm⟩ := pre_ent hF hW.w hB (fun t _ _ => Nat.zero_le _) i
        rw [hne] at hm
        exact (List.append_eq_nil_iff.1 hm.symm).1.symm
      · have hi : 1 ≤ i ∧ i < Y.toNat + 1 ∧ nth (wI S i) 0 = 2 := Decidable.byContradiction fun hno => hne (by unfold entL; rw [if_neg hno])
        obtain ⟨t, ht⟩ := htaken i (hF.al i hi.1 hi.2.1 (by rw [hi.2.2]; decide)).rc
        have h2 : nth t.raw 0 = 2 := by rw [hB.t i t ht, ← wI_yes S hi.1]; exact hi.2.2
        obtain ⟨hl, -⟩ := dir_slots hF hW.w hB ht h2
        have hsl := hW.w.sl i t ht h2
        unfold doneB at hsl
        rw [hW.q, if_neg (by simp), if_neg (by omega), hB.S, hl] at hsl
        exact Option.some.inj hsl
    intro j
    by_cases hj : 1 ≤ j ∧ (j : Int) ≤ Y
    · rw [repS_ino z hj.1 hj.2]
      have hrd := hF.rd j hj.1 hj.2
      have hone := ino_one hrd
      unfold inoW
      by_cases hk : nth (wI S j) 0 = 0
      · have hT : z.T j = none := by
          cases ht : z.T j with
          | none => rfl
          | some t =>
            have := (sound_may (hW.w.inv.snd j t ht).1).2
            rw [← wI_yes S hj.1] at this
            exact absurd hk this
        rw [hT]
        simp only
        rw [wI_yes S hj.1] at hk
        have hz := (inoMay_zero hk).1 hone.1
        have h0 := (ino_one (s := zl 128) (by rw [ino_zero])).2
        rw [ino_zero] at h0
        rw [← hone.2, hz]
        exact h0.symm
      · obtain ⟨t, ht⟩ := htaken j (hF.al j hj.1 (by omega) hk).rc
        rw [ht]
        simp only
        have hal := hF.al j hj.1 (by omega) hk
        have hen : t.en = nth (rdInoR (S j)).1 1 := by
          rw [← wI_yes S hj.1, hal.ln, hent, hW.w.en j t ht]
          unfold wantW
          by_cases e : j = 1
          · subst e
            rw [if_pos rfl, if_pos rfl, cntL_zero (fun i e he => by have := (hW.w.rg i e he).1; omega)]; rfl
          · rw [if_neg e, if_neg e, cntI_cntL]; omega
        have e0 : (inoR (rdInoR (S j)).1).1 = inoSec (rdInoR (S j)).1 := by rw [inoR_yes hone.1]
        rw [hen, hB.t j t ht, set_nth (by rw [rdInoR_length]; decide), e0, hone.2]
    · rw [repS_else z hj, hB.S]
end Go.Proofs.YthioepdgnbdohaaGreat

/- Cut off behind any of the writes, and looked at anew: the plain law. -/
namespace Go.Proofs.YthioepdgnbdohaaGreat
set_option linter.unusedSimpArgs false
set_option linter.unusedVariables false
open Go.RowKit

theorem mem_differL {N : Nat} {S I : Nat → List Int} {sort : Nat → Bool} {x : Int} : x ∈ differL N S I sort ↔ ∃ i : Nat, i < N ∧ x = i ∧ S i ≠ I i ∧ sort i = true := by
  unfold differL
  simp only [List.mem_map, List.mem_filter, List.mem_range, Bool.and_eq_true, decide_eq_true_eq]
  constructor
  · rintro ⟨i, ⟨h1, h2, h3⟩, rfl⟩; exact ⟨i, h1, rfl, h2, h3⟩
  · rintro ⟨i, h1, rfl, h2, h3⟩; exact ⟨i, ⟨h1, h2, h3⟩, rfl⟩
theorem differL_nodup (N : Nat) (S I : Nat → List Int) (sort : Nat → Bool) : (differL N S I sort).Nodup := by
  unfold differL
  refine List.Pairwise.map _ (R := fun a b : Nat => a ≠ b) (fun a b h => by omega) ?_
  exact List.Pairwise.filter _ List.nodup_range
/-- the three rows -/
def row0 (N : Nat) (Y : Int) (S I : Nat → List Int) (fm : Int → Bool) : List Int := differL N S I (fun i => !decide ((i : Int) ≤ Y) && fm i)
def row1 (N : Nat) (Y : Int) (S I : Nat → List Int) : List Int := differL N S I (fun i => decide ((i : Int) ≤ Y))
def row2 (N : Nat) (Y : Int) (S I : Nat → List Int) (fm : Int → Bool) : List Int := differL N S I (fun i => !decide ((i : Int) ≤ Y) && !fm i)
theorem writeL_rows (N : Nat) (Y : Int) (S I : Nat → List Int) (fm : Int → Bool) : writeL N Y S I fm = row0 N Y S I fm ++ row1 N Y S I ++ row2 N Y S I fm := rfl
theorem mem_row0 {N : Nat} {Y : Int} {S I : Nat → List Int} {fm : Int → Bool} {j : Nat} : (j : Int) ∈ row0 N Y S I fm ↔ j < N ∧ S j ≠ I j ∧ ¬ (j : Int) ≤ Y ∧ fm j = true := by
  unfold row0
  rw [mem_differL]
  constructor
  · rintro ⟨i, h1, h2, h3, h4⟩
    have : j = i := by omega
    subst this
    simp at h4
    exact ⟨h1, h3, by omega, h4.2⟩
  · rintro ⟨h1, h2, h3, h4⟩
    exact ⟨j, h1, rfl, h2, by simpa using ⟨by omega, h4⟩⟩
theorem mem_row1 {N : Nat} {Y : Int} {S I : Nat → List Int} {j : Nat} : (j : Int) ∈ row1 N Y S I ↔ j < N ∧ S j ≠ I j ∧ (j : Int) ≤ Y := by
  unfold row1
  rw [mem_differL]
  constructor
  · rintro ⟨i, h1, h2, h3, h4⟩
    have : j = i := by omega
    subst this
    simp at h4
    exact ⟨h1, h3, h4⟩
  · rintro ⟨h1, h2, h3⟩
    exact ⟨j, h1, rfl, h2, by simpa using h3⟩
theorem mem_row2 {N : Nat} {Y : Int} {S I : Nat → List Int} {fm : Int → Bool} {j : Nat} : (j : Int) ∈ row2 N Y S I fm ↔ j < N ∧ S j ≠ I j ∧ ¬ (j : Int) ≤ Y ∧ fm j = false := by
  unfold row2
  rw [mem_differL]
  constructor
  · rintro ⟨i, h1, h2, h3, h4⟩
    have : j = i := by omega
    subst this
    simp at h4
    exact ⟨h1, h3, by omega, h4.2⟩
  · rintro ⟨h1, h2, h3, h4⟩
    exact ⟨j, h1, rfl, h2, by simpa using ⟨by omega, h4⟩⟩
theorem mem_writeL {N : Nat} {Y : Int} {S I : Nat → List Int} {fm : Int → Bool} {j : Nat} : (j : Int) ∈ writeL N Y S I fm ↔ j < N ∧ S j ≠ I j := by
  rw [writeL_rows, List.mem_append, List.mem_append, mem_row0, mem_row1, mem_row2]
  constructor
  · rintro ((⟨a, b, -⟩ | ⟨a, b, -⟩) | ⟨a, b, -⟩) <;> exact ⟨a, b⟩
  · rintro ⟨a, b⟩
    by_cases h : (j : Int) ≤ Y
    · exact .inl (.inr ⟨a, b, h⟩)
    · cases hf : fm j with
      | true => exact .inl (.inl ⟨a, b, h, rfl⟩)
      | false => exact .inr ⟨a, b, h, rfl⟩
theorem row_nat {N : Nat} {S I : Nat → List Int} {sort : Nat → Bool} {x : Int} (h : x ∈ differL N S I sort) : ∃ j : Nat, x = j := by
  obtain ⟨i, -, h, -⟩ := mem_differL.1 h; exact ⟨i, h⟩
theorem writeL_nat {N : Nat} {Y : Int} {S I : Nat → List Int} {fm : Int → Bool} {x : Int} (h : x ∈ writeL N Y S I fm) : ∃ j : Nat, x = j := by
  rw [writeL_rows, List.mem_append, List.mem_append] at h
  rcases h with (h | h) | h <;> exact row_nat h
theorem writeL_nodup (N : Nat) (Y : Int) (S I : Nat → List Int) (fm : Int → Bool) : (writeL N Y S I fm).Nodup := by
  rw [writeL_rows, List.nodup_append, List.nodup_append]
  refine ⟨⟨differL_nodup _ _ _ _, differL_nodup _ _ _ _, fun a ha b hb e => ?_⟩, differL_nodup _ _ _ _, fun a ha b hb e => ?_⟩
  · subst e
    obtain ⟨j, rfl⟩ := row_nat ha
    exact (mem_row0.1 ha).2.2.1 (mem_row1.1 hb).2.2
  · subst e
    obtain ⟨j, rfl⟩ := row_nat hb
    rw [List.mem_append] at ha
    rcases ha with ha | ha
    · have h1 := (mem_row0.1 ha).2.2.2
      have h2 := (mem_row2.1 hb).2.2.2
      rw [h1] at h2; cases h2
    · exact (mem_row2.1 hb).2.2.1 (mem_row1.1 ha).2.2
/-- some of the sectors are already as they should be -/
def cutS (S W : Nat → List Int) (P : List Int) : Nat → List Int := fun j => if (j : Int) ∈ P then W j else S j
theorem differL_cut (N : Nat) (W S : Nat → List Int) (P : List Int) (sort : Nat → Bool) : differL N W (cutS S W P) sort = (differL N W S sort).filter (fun x => decide (x ∉ P)) := by
  unfold differL
  rw [List.filter_map, List.filter_filter]
  congr 1
  apply List.filter_congr
  intro i _
  unfold cutS
  simp only [Function.comp]
  by_cases h : (i : Int) ∈ P
  · simp [h]
  · simp [h]
theorem writeL_cut (N : Nat) (Y : Int) (W S : Nat → List Int) (P : List Int) (fm : Int → Bool) : writeL N Y W (cutS S W P) fm = (writeL N Y W S fm).filter (fun x => decide (x ∉ P)) := by
  unfold writeL
  rw [differL_cut, differL_cut, differL_cut, List.filter_append, List.filter_append]
theorem filter_take {L : List Int} (h : L.Nodup) (n : Nat) : L.filter (fun x => decide (x ∉ L.take n)) = L.drop n := by
  conv => lhs; arg 2; rw [← List.take_append_drop n L]
  rw [List.filter_append]
  have h1 : (L.take n).filter (fun x => decide (x ∉ L.take n)) = [] := by
    rw [List.filter_eq_nil_iff]
    intro a ha
    simpa using ha
  have h2 : (L.drop n).filter (fun x => decide (x ∉ L.take n)) = L.drop n := by
    rw [List.filter_eq_self]
    intro a ha
    have hd := h
    rw [← List.take_append_drop n L, List.nodup_append] at hd
    simpa using fun hm => hd.2.2 a hm a ha rfl
  rw [h1, h2, List.nil_append]
theorem mem_take_rows {A B C : List Int} {n : Nat} {x : Int} (h : x ∈ (A ++ B ++ C).take n) (hn : n ≤ A.length + B.length) : x ∈ A ++ B := by
  rw [List.take_append_of_le_length (by simp; omega)] at h
  exact List.mem_of_mem_take h
theorem mem_rows_take {A B C : List Int} {n : Nat} {x : Int} (h : x ∈ A ++ B) (hn : A.length + B.length ≤ n) : x ∈ (A ++ B ++ C).take n := by
  rw [List.take_append, List.mem_append]
  left
  rw [List.take_of_length_le (by simp; omega)]
  exact h
/-- CUT OFF BEHIND ANY OF THE WRITES, AND LOOKED AT ANEW -/
theorem cut_law {X Y : Int} {N : Nat} (hY : 1 ≤ Y) (hN : X = N) {S : Nat → List Int} (hS : ∀ j, j < N → (S j).length = 128 ∧ Bytes (S j)) (hs : soundR (S 1) = true) (hSY : Y < N) (n : Nat) :
    let W := repS Y (lookZ X Y S)
    let L := writeL N Y W S (lookZ X Y S).st.fm
    let z' := lookZ X Y (cutS S W (L.take n))
    (∀ j, repS Y z' j = W j) ∧ writeL N Y (repS Y z') (cutS S W (L.take n)) z'.st.fm = L.drop n ∧ (∀ i, (z'.T i).isSome = ((lookZ X Y S).T i).isSome) ∧ z'.st.cl = (lookZ X Y S).st.cl ∧ cutS S W (L.take n) 0 = S 0 ∧ (rootOk S → rootOk (cutS S W (L.take n))) ∧ L.length ≤ N := by
  intro W L z'
  have hA : ∀ j : Nat, isD X Y j = true → (S j).length = 128 ∧ Bytes (S j) := fun j hj => hS j (by
    unfold isD at hj
    have := of_decide_eq_true hj
    omega)
  obtain ⟨-, hI, -⟩ := look_inv (by omega) hA hs
  have hdat : ∀ j : Nat, j < N → ¬ (j : Int) ≤ Y → isD X Y j = true := fun j h1 h2 => by
    unfold isD
    exact decide_eq_true (by omega)
  have h0 : W 0 = S 0 := by
    have h1 : W 0 = (lookZ X Y S).st.S 0 := repS_else _ (by omega)
    rw [h1]
    refine hI.si.un 0 ?_
    cases hb : (bare (lookZ X Y S).st).cl ((0 : Nat) : Int) with
    | false => rfl
    | true =>
      have := hI.si.cd _ hb
      unfold isD at this
      have := of_decide_eq_true this
      omega
  have hfmD : ∀ j : Nat, (lookZ X Y S).st.fm j = true → isD X Y j = true := fun j hj => hI.si.cd _ (hI.si.fc j hj)
  have hlt : ∀ j : Nat, (j : Int) ∈ L.take n → j < N ∧ W j ≠ S j := fun j hj => mem_writeL.1 (List.mem_of_mem_take hj)
  have hR : RZ X Y (cutS S W (L.take n)) W ((row0 N Y W S (lookZ X Y S).st.fm).length + (row1 N Y W S).length < n) (lookZ X Y S) z' := by
    refine two_looks hY _ hA hs (fun j => ?_) (fun ha i h1 h2 => ?_) (fun ha j hj => ?_) (fun hna j hj => ?_)
    · unfold cutS
      split
      · exact .inr rfl
      · exact .inl rfl
    · show (if (i : Int) ∈ L.take n then W i else S i) = W i
      split
      · rfl
      · rename_i hm
        false_or_by_contra
        rename_i hne
        exact hm (mem_rows_take (A := row0 N Y W S (lookZ X Y S).st.fm) (B := row1 N Y W S) (C := row2 N Y W S (lookZ X Y S).st.fm) (List.mem_append.2 (.inr (mem_row1.2 ⟨by omega, fun e => hne e.symm, h2⟩))) (by omega))
    · show (if (j : Int) ∈ L.take n then W j else S j) = W j
      split
      · rfl
      · rename_i hm
        false_or_by_contra
        rename_i hne
        have hd := hfmD j hj
        have hj2 : ¬ (j : Int) ≤ Y ∧ j < N := by
          unfold isD at hd
          have := of_decide_eq_true hd
          omega
        exact hm (mem_rows_take (A := row0 N Y W S (lookZ X Y S).st.fm) (B := row1 N Y W S) (C := row2 N Y W S (lookZ X Y S).st.fm) (List.mem_append.2 (.inl (mem_row0.2 ⟨hj2.2, fun e => hne e.symm, hj2.1, hj⟩))) (by omega))
    · show subP (if (j : Int) ∈ L.take n then W j else S j) (S j)
      split
      · rename_i hm
        have h1 := mem_take_rows (A := row0 N Y W S (lookZ X Y S).st.fm) (B := row1 N Y W S) (C := row2 N Y W S (lookZ X Y S).st.fm) hm (by omega)
        have hnY : ¬ (j : Int) ≤ Y := by
          unfold isD at hj
          have := of_decide_eq_true hj
          omega
        rw [List.mem_append] at h1
        rcases h1 with h1 | h1
        · have h2 := (mem_row0.1 h1).2.2.2
          have h3 : W j = (lookZ X Y S).st.S j := repS_else _ (isD_not hj)
          rw [h3]
          exact hI.si.sub j h2
        · exact absurd (mem_row1.1 h1).2.2 hnY
      · exact fun _ => .inl rfl
  obtain ⟨a, b, c, d⟩ := two_same hI hR
  have e : repS Y z' = W := funext a
  refine ⟨a, ?_, d, b, ?_, fun hr => ?_, ?_⟩
  · rw [e, c, writeL_cut]
    exact filter_take (writeL_nodup _ _ _ _ _) n
  · unfold cutS
    split
    · exact h0
    · rfl
  · obtain ⟨i1, -, i3⟩ := look_inv (by omega) hA hs
    obtain ⟨te, hte, -⟩ := i3.t 1 ⟨(takeX X Y (rdInoR (S 1)).1 (zeroZ S).st).1, 1, (takeX X Y (rdInoR (S 1)).1 (zeroZ S).st).2.bk⟩ (show updT (fun _ => none) 1 _ 1 = _ from updT_eq _ _ _)
    have h2 : Two X Y S (cutS S W (L.take n)) W (lookZ X Y S) False := ⟨by omega, fun i h1 h2 => ⟨by
      have h3 := repS_ino (lookZ X Y S) h1 h2
      rw [← h3]
      unfold cutS
      split
      · exact .inr rfl
      · exact .inl rfl, fun h => h.elim⟩, hI⟩
    obtain ⟨x1, x2⟩ := raw_two h2 (Nat.le_refl 1) (by omega) hs hte
    exact ⟨x1, x2.kind.trans hr.2⟩
  · have hl := (List.Nodup.length_le_of_subset (l₂ := (List.range N).map (fun (i : Nat) => (i : Int))) (writeL_nodup N Y W S (lookZ X Y S).st.fm) (fun x hx => by
      obtain ⟨j, rfl⟩ := writeL_nat hx
      exact List.mem_map.2 ⟨j, List.mem_range.2 (mem_writeL.1 hx).1, rfl⟩))
    simpa using hl
end Go.Proofs.YthioepdgnbdohaaGreat

/- What is well-formed is left alone; a look comes well: the laws' walks. -/
namespace Go.Proofs.YthioepdgnbdohaaGreat
set_option linter.unusedSimpArgs false
set_option linter.unusedVariables false
open Go.RowKit

theorem rep_else {N : Nat} {S : Nat → List Int} (hS : ∀ j, j < N → (S j).length = 128 ∧ Bytes (S j)) (he : lookE N S = 0) {j : Nat} (hj : N ≤ j) : repS (rdSupR (S 0)).2.1 (lookZ N (rdSupR (S 0)).2.1 S) j = S j := by
  obtain ⟨h8, h9, hs0, hs1, hr⟩ := lookE_ok he
  obtain ⟨-, hy, hxy⟩ := (sup_one hs0).1
  rw [hs1] at hxy
  generalize (rdSupR (S 0)).2.1 = Y at *
  have hA : ∀ j : Nat, isD N Y j = true → (S j).length = 128 ∧ Bytes (S j) := fun j hj => hS j (by
    unfold isD at hj
    have := of_decide_eq_true hj
    omega)
  obtain ⟨-, hI, -⟩ := look_inv (by omega) hA hr.1
  rw [repS_else _ (by omega)]
  refine hI.si.un j ?_
  cases hb : (bare (lookZ (N : Int) Y S).st).cl (j : Int) with
  | false => rfl
  | true =>
    have := hI.si.cd _ hb
    unfold isD at this
    have := of_decide_eq_true this
    omega
/-- nothing is to be written just if the image is well-formed -/
theorem stands_iff {N : Nat} {S : Nat → List Int} (hS : ∀ j, j < N → (S j).length = 128 ∧ Bytes (S j)) (he : lookE N S = 0) : WellP N S ↔ writeL N (rdSupR (S 0)).2.1 (repS (rdSupR (S 0)).2.1 (lookZ N (rdSupR (S 0)).2.1 S)) S (lookZ N (rdSupR (S 0)).2.1 S).st.fm = [] := by
  constructor
  · intro h
    have hk := (look_keeps hS h).2
    rw [List.eq_nil_iff_forall_not_mem]
    intro x hx
    obtain ⟨j, rfl⟩ := writeL_nat hx
    exact (mem_writeL.1 hx).2 (hk j)
  · intro h
    have e : repS (rdSupR (S 0)).2.1 (lookZ N (rdSupR (S 0)).2.1 S) = S := by
      funext j
      by_cases hj : j < N
      · exact Decidable.byContradiction fun hne => by
          have := (mem_writeL (N := N) (Y := (rdSupR (S 0)).2.1) (fm := (lookZ N (rdSupR (S 0)).2.1 S).st.fm)).2 ⟨hj, hne⟩
          rw [h] at this; cases this
      · exact rep_else hS he (by omega)
    have := look_well hS he
    rw [e] at this
    exact this
set_option maxHeartbeats 8000000 in
set_option maxRecDepth 100000 in
theorem lookStands_any {v : Value} {N : Nat} {S : Nat → List Int} {w : World} (h : Img w v N S) :
    Calls Tryz.prog 6 #[v] w fun e w' => e = .returned (.bool true) ∧ Below w.heap.size w w' := by
  have HI := Lib.hid h.zero
  have HLN := Lib.hid h.zero.len
  clear h
  go_enter Tryz.func6, Tryz.ntmps6
  go_wp2_with fail
  refine (known12_true _).mono ?_; rintro e w1 ⟨rfl, hb1⟩
  have HI1 := Lib.hid (HI.out.same (fr_below hb1 []))
  have HB1 := Lib.hid hb1
  clear hb1
  go_wp2_with fail
  refine (look_all0 HI1.out).mono ?_; rintro e w2 ⟨hb2, hor⟩
  have HB2 := Lib.hid (below_call HB1.out hb2 HB1.out.size)
  have HI2 := Lib.hid (HI1.out.same (fr_below hb2 []))
  clear hb2
  rcases hor with ⟨he, hout⟩ | ⟨hne, rfl⟩
  · have HE := Lib.hid he
    obtain ⟨gw, cw, v1, v2, v3, o1, o2, o3, rfl, k1, k2, k3, k4, k5, k6, k7⟩ := hout
    have HIFF := Lib.hid (stands_iff HLN.out he)
    have HKP := Lib.hid (fun hw : WellP N S => (look_keeps HLN.out hw).2)
    obtain ⟨a1, c1, rfl⟩ := k2.slice
    obtain ⟨a2, n2, c2, rfl⟩ := k3.sl
    obtain ⟨a3, n3, c3, rfl⟩ := k4.sl
    have hN9 : N ≤ 4096 := (lookE_ok he).2.1
    generalize writeL N (rdSupR (S 0)).2.1 (repS (rdSupR (S 0)).2.1 (lookZ N (rdSupR (S 0)).2.1 S)) S (lookZ N (rdSupR (S 0)).2.1 S).st.fm = WL at *
    generalize repS (rdSupR (S 0)).2.1 (lookZ N (rdSupR (S 0)).2.1 S) = WW at *
    have HW := Lib.hid k1
    clear k1 k2 k3 k4 k5 k6 k7 he
    have hB3 : Below w2.heap.size w2 (w2.alloc (.cells #[.slice (some ⟨gw, 0, none⟩) N cw, .slice a1 WL.length c1, .slice a2 n2 c2, .slice a3 n3 c3] 26)) := (Below.refl _ _).alloc (Nat.le_refl _) _
    have hg3 := (hopN w2 (.cells #[.slice (some ⟨gw, 0, none⟩) N cw, .slice a1 WL.length c1, .slice a2 n2 c2, .slice a3 n3 c3] 26)).1
    have HB3 := Lib.hid (below_call HB2.out hB3 HB2.out.size)
    have HI3 := Lib.hid (HI2.out.same (fr_below hB3 []))
    have HW3 := Lib.hid (HW.out.same (hat_below hB3 HW.out.lt))
    clear hB3
    go_upto_region 5 with fail
    generalize w2.heap.size = g3 at *
    generalize w2.alloc (.cells #[.slice (some ⟨gw, 0, none⟩) N cw, .slice a1 WL.length c1, .slice a2 n2 c2, .slice a3 n3 c3] 26) = w3 at *
    have hg3l := hat_lt hg3
    go_wp2_with fail
    refine (well_any0 HI3.out).mono ?_; rintro e w4 ⟨b, rfl, hiff, hb4⟩
    have HB4 := Lib.hid (below_call HB3.out hb4 HB3.out.size)
    have hg4 := (hop hb4 hg3).1
    have hg4l := hat_lt hg4
    have HI4 := Lib.hid (HI3.out.same (fr_below hb4 []))
    have HW4 := Lib.hid (HW3.out.same (hat_below hb4 HW3.out.lt))
    clear hb4 hg3 hg3l
    cases b with
    | false =>
      have hpos : 0 < WL.length := List.length_pos_iff.2 (fun e => by
        have := hiff.2 (HIFF.out.2 e)
        cases this)
      clear hiff
      go_wp2_with fail
      go_ret
      exact ⟨rfl, HB4.out⟩
    | true =>
      have hw := hiff.1 rfl
      have hz : WL.length = 0 := by rw [HIFF.out.1 hw]; rfl
      have hzi : ((WL.length : Int) == 0) = true := by rw [hz]; rfl
      have HSAME : Hid (∀ j, j < N → WW j = S j) := Lib.hid (fun j _ => HKP.out hw j)
      clear hiff hw hz
      go_wp2_with fail
      refine (sectors_any (img0_of HW4.out) HI4.out (by omega)).mono ?_; rintro e w5 ⟨b, rfl, hb, hf5⟩
      have hg5 := (hf5.block _ hg4l (by simp)).trans hg4
      have hg5l := hat_lt hg5
      have HB5 : Hid (Below w.heap.size w w5) := Lib.hid (HB4.out.trans (hf5.below HB4.out.size (by simp)))
      obtain rfl : b = true := hb.2 ⟨rfl, HSAME.out⟩
      clear hb hf5 hg4 hg4l
      go_wp2_with fail
      go_ret
      exact ⟨rfl, HB5.out⟩
  · have HNW : Hid (¬ WellP N S) := Lib.hid (fun hw => hne (look_keeps HLN.out hw).1)
    generalize lookE N S = E at *
    have hE : (E != 0) = true := by simpa using hne
    have hB3 : Below w2.heap.size w2 (w2.alloc (.cells repNil 26)) := (Below.refl _ _).alloc (Nat.le_refl _) _
    have HB3 := Lib.hid (below_call HB2.out hB3 HB2.out.size)
    have HI3 := Lib.hid (HI2.out.same (fr_below hB3 []))
    clear hB3 hne
    unfold repNil at *
    go_upto_region 5 with fail
    generalize w2.alloc (.cells #[.slice none 0 0, .slice none 0 0, .slice none 0 0, .slice none 0 0] 26) = w3 at *
    go_wp2_with fail
    refine (well_any0 HI3.out).mono ?_; rintro e w4 ⟨b, rfl, hiff, hb4⟩
    have HB4 := Lib.hid (below_call HB3.out hb4 HB3.out.size)
    clear hb4
    cases b with
    | true => exact absurd (hiff.1 rfl) HNW.out
    | false =>
      clear hiff
      go_wp2_with fail
      go_ret
      exact ⟨rfl, HB4.out⟩
end Go.Proofs.YthioepdgnbdohaaGreat

/- Are two reports the same? -/
namespace Go.Proofs.YthioepdgnbdohaaGreat
set_option linter.unusedSimpArgs false
set_option linter.unusedVariables false
open Go.RowKit

/-- a report's lists -/
structure RepV (w : World) (v0 v1 v2 v3 : Value) (o1 o2 o3 : Option Nat) (N : Nat) (S : Nat → List Int) (xs ys zs : List Int) : Prop where
  i : Img0 w v0 N S
  q1 : QRow w v1 o1 xs
  q2 : QRow w v2 o2 ys
  q3 : QRow w v3 o3 zs
  n0 : N ≤ 4096
  n1 : xs.length ≤ 100000
  n2 : ys.length ≤ 100000
  n3 : zs.length ≤ 100000
theorem RepV.same {w w' : World} {v0 v1 v2 v3 : Value} {o1 o2 o3 : Option Nat} {N : Nat} {S : Nat → List Int} {xs ys zs : List Int} (h : RepV w v0 v1 v2 v3 o1 o2 o3 N S xs ys zs) (hf : Fr [] w w') : RepV w' v0 v1 v2 v3 o1 o2 o3 N S xs ys zs :=
  ⟨h.i.same hf, h.q1.fr hf (fun _ _ => by simp), h.q2.fr hf (fun _ _ => by simp), h.q3.fr hf (fun _ _ => by simp), h.n0, h.n1, h.n2, h.n3⟩
theorem repV_nil (w : World) (S : Nat → List Int) : RepV w (.slice none 0 0) (.slice none 0 0) (.slice none 0 0) (.slice none 0 0) none none none 0 S [] [] [] :=
  ⟨⟨none, 0, rfl, fun h => by omega⟩, .inl ⟨rfl, rfl, rfl⟩, .inl ⟨rfl, rfl, rfl⟩, .inl ⟨rfl, rfl, rfl⟩, by omega, by simp, by simp, by simp⟩
def SameRep (N N' : Nat) (S S' : Nat → List Int) (xs ys zs xs' ys' zs' : List Int) (w : World) (e : Ending) (w' : World) : Prop :=
  ∃ b, e = .returned (.bool b) ∧ (b = true ↔ (N = N' ∧ ∀ j, j < N → S j = S' j) ∧ xs = xs' ∧ ys = ys' ∧ zs = zs') ∧ Below w.heap.size w w'
theorem Fr.bl {w w' : World} (h : Fr [] w w') : Below w.heap.size w w' := h.below (Nat.le_refl _) (by simp)
set_option maxHeartbeats 4000000 in
set_option maxRecDepth 100000 in
theorem same_any {a0 a1 a2 a3 b0 b1 b2 b3 : Value} {o1 o2 o3 p1 p2 p3 : Option Nat} {N N' : Nat} {S S' : Nat → List Int} {xs ys zs xs' ys' zs' : List Int} {w : World} (h1 : RepV w a0 a1 a2 a3 o1 o2 o3 N S xs ys zs) (h2 : RepV w b0 b1 b2 b3 p1 p2 p3 N' S' xs' ys' zs') :
    Calls Tryz.prog 12 #[.agg #[a0, a1, a2, a3], .agg #[b0, b1, b2, b3]] w (SameRep N N' S S' xs ys zs xs' ys' zs' w) := by
  have hB1 : Below w.heap.size w (w.alloc (.cells #[a0, a1, a2, a3] 26)) := (Below.refl _ _).alloc (Nat.le_refl _) _
  have hB2 : Below w.heap.size w ((w.alloc (.cells #[a0, a1, a2, a3] 26)).alloc (.cells #[b0, b1, b2, b3] 26)) := hB1.alloc hB1.size _
  have hga := (hopA _ (.cells #[b0, b1, b2, b3] 26) (hopN w (.cells #[a0, a1, a2, a3] 26)).1).1
  have hgb := (hopN (w.alloc (.cells #[a0, a1, a2, a3] 26)) (.cells #[b0, b1, b2, b3] 26)).1
  have H1 := Lib.hid (h1.same (fr_below hB2 []))
  have H2 := Lib.hid (h2.same (fr_below hB2 []))
  have HB2 := Lib.hid hB2
  obtain ⟨x0, n0, c0, e0⟩ : ∃ a n c, a0 = .slice a n c := by obtain ⟨a, c, h, -⟩ := h1.i; exact ⟨a, N, c, h⟩
  obtain ⟨y0, m0, k0, f0⟩ : ∃ a n c, b0 = .slice a n c := by obtain ⟨a, c, h, -⟩ := h2.i; exact ⟨a, N', c, h⟩
  obtain ⟨x1, n1, c1, e1⟩ := h1.q1.sl
  obtain ⟨x2, n2, c2, e2⟩ := h1.q2.sl
  obtain ⟨x3, n3, c3, e3⟩ := h1.q3.sl
  obtain ⟨y1, m1, k1, f1⟩ := h2.q1.sl
  obtain ⟨y2, m2, k2, f2⟩ := h2.q2.sl
  obtain ⟨y3, m3, k3, f3⟩ := h2.q3.sl
  subst e0 f0 e1 e2 e3 f1 f2 f3
  clear h1 h2 hB1 hB2
  go_enter Tryz.func12, Tryz.ntmps12
  go_upto_region 1 with fail
  simp only [World.size_alloc] at *
  generalize ((w.alloc (.cells #[.slice x0 n0 c0, .slice x1 n1 c1, .slice x2 n2 c2, .slice x3 n3 c3] 26)).alloc (.cells #[.slice y0 m0 k0, .slice y1 m1 k1, .slice y2 m2 k2, .slice y3 m3 k3] 26)) = w2 at *
  generalize w.heap.size + 1 = gb at *
  have hgal := hat_lt hga
  have hgbl := hat_lt hgb
  go_wp2_with fail
  refine (sectors_any H1.out.i H2.out.i (by have := H1.out.n0; omega)).mono ?_; rintro e w3 ⟨b, rfl, hb, hf⟩
  have hga3 := (hf.block _ hgal (by simp)).trans hga
  have hgb3 := (hf.block _ hgbl (by simp)).trans hgb
  have HB3 := Lib.hid (HB2.out.trans (hf.below HB2.out.size (by simp)))
  have H13 := Lib.hid (H1.out.same hf)
  have H23 := Lib.hid (H2.out.same hf)
  have hgal3 := hat_lt hga3
  have hgbl3 := hat_lt hgb3
  have HBB := Lib.hid hb
  clear hf hga hgb hgal hgbl hb
  cases b with
  | false =>
    go_wp2_with fail
    go_ret
    exact ⟨false, rfl, ⟨fun h => (by cases h), fun h => HBB.out.2 h.1⟩, HB3.out⟩
  | true =>
    go_wp2_with fail
    refine (ints_any H13.out.q1 H23.out.q1 H13.out.n1 H23.out.n1).mono ?_; rintro e w4 ⟨rfl, hf⟩
    have hga4 := (hf.block _ hgal3 (by simp)).trans hga3
    have hgb4 := (hf.block _ hgbl3 (by simp)).trans hgb3
    have HB4 := Lib.hid (HB3.out.trans (hf.below HB3.out.size (by simp)))
    have H14 := Lib.hid (H13.out.same hf)
    have H24 := Lib.hid (H23.out.same hf)
    have hgal4 := hat_lt hga4
    have hgbl4 := hat_lt hgb4
    clear hf hga3 hgb3 hgal3 hgbl3
    cases d1 : decide (xs = xs') with
    | false =>
      have HD := Lib.hid (of_decide_eq_false d1)
      clear d1
      go_wp2_with fail
      go_ret
      exact ⟨false, rfl, ⟨fun h => (by cases h), fun h => absurd h.2.1 HD.out⟩, HB4.out⟩
    | true =>
      have HD := Lib.hid (of_decide_eq_true d1)
      clear d1
      go_wp2_with fail
      refine (ints_any H14.out.q2 H24.out.q2 H14.out.n2 H24.out.n2).mono ?_; rintro e w5 ⟨rfl, hf⟩
      have hga5 := (hf.block _ hgal4 (by simp)).trans hga4
      have hgb5 := (hf.block _ hgbl4 (by simp)).trans hgb4
      have HB5 := Lib.hid (HB4.out.trans (hf.below HB4.out.size (by simp)))
      have H15 := Lib.hid (H14.out.same hf)
      have H25 := Lib.hid (H24.out.same hf)
      have hgal5 := hat_lt hga5
      have hgbl5 := hat_lt hgb5
      clear hf hga4 hgb4 hgal4 hgbl4
      cases d2 : decide (ys = ys') with
      | false =>
        have HE := Lib.hid (of_decide_eq_false d2)
        clear d2
        go_wp2_with fail
        go_ret
        exact ⟨false, rfl, ⟨fun h => (by cases h), fun h => absurd h.2.2.1 HE.out⟩, HB5.out⟩
      | true =>
        have HE := Lib.hid (of_decide_eq_true d2)
        clear d2
        go_wp2_with fail
        refine (ints_any H15.out.q3 H25.out.q3 H15.out.n3 H25.out.n3).mono ?_; rintro e w6 ⟨rfl, hf⟩
        have HB6 := Lib.hid (HB5.out.trans (hf.below HB5.out.size (by simp)))
        clear hf hga5 hgb5 hgal5 hgbl5
        cases d3 : decide (zs = zs') with
        | false =>
          have HG := Lib.hid (of_decide_eq_false d3)
          clear d3
          go_wp2_with fail
          go_ret
          exact ⟨false, rfl, ⟨fun h => (by cases h), fun h => absurd h.2.2.2 HG.out⟩, HB6.out⟩
        | true =>
          have HG := Lib.hid (of_decide_eq_true d3)
          clear d3
          go_wp2_with fail
          go_ret
          exact ⟨true, rfl, ⟨fun _ => ⟨HBB.out.1 (by first | rfl | trivial), HD.out, HE.out, HG.out⟩, fun _ => rfl⟩, HB6.out⟩
end Go.Proofs.YthioepdgnbdohaaGreat

/- A look comes well, and a second look finds nothing: the law's walk. -/
namespace Go.Proofs.YthioepdgnbdohaaGreat
set_option linter.unusedSimpArgs false
set_option linter.unusedVariables false
open Go.RowKit

theorem well_yes {v : Value} {N : Nat} {S : Nat → List Int} {w : World} (h : WellP N S) (hi : Img0 w v N S) : Calls Tryz.prog 16 #[v] w fun e w' => e = .returned (.bool true) ∧ Below w.heap.size w w' := by
  refine (well_any0 hi).mono ?_
  rintro e w' ⟨b, rfl, hb, hf⟩
  exact ⟨by rw [hb.2 h], hf⟩
theorem lookE_or {N : Nat} {S : Nat → List Int} (h : lookE N S ≠ 0) : lookE N S = 120 ∨ lookE N S = 121 := by
  unfold lookE at h ⊢
  split
  · exact .inl rfl
  · split
    · exact .inl rfl
    · split
      · rename_i h1 h2 h3
        rw [if_neg h1, if_neg h2, if_pos h3] at h
        exact absurd rfl h
      · exact .inr rfl
/-- a second look -/
theorem second_look {N : Nat} {S : Nat → List Int} (hS : ∀ j, j < N → (S j).length = 128 ∧ Bytes (S j)) (he : lookE N S = 0) (hW : ∀ j, j < N → (repS (rdSupR (S 0)).2.1 (lookZ N (rdSupR (S 0)).2.1 S) j).length = 128 ∧ Bytes (repS (rdSupR (S 0)).2.1 (lookZ N (rdSupR (S 0)).2.1 S) j)) :
    let W := repS (rdSupR (S 0)).2.1 (lookZ N (rdSupR (S 0)).2.1 S)
    W 0 = S 0 ∧ lookE N W = 0 ∧ repS (rdSupR (W 0)).2.1 (lookZ N (rdSupR (W 0)).2.1 W) = W ∧ (keysL fun p => ((lookZ N (rdSupR (W 0)).2.1 W).T p.toNat).isSome) = (keysL fun p => ((lookZ N (rdSupR (S 0)).2.1 S).T p.toNat).isSome) ∧ keysL (lookZ N (rdSupR (W 0)).2.1 W).st.cl = keysL (lookZ N (rdSupR (S 0)).2.1 S).st.cl ∧
    writeL N (rdSupR (W 0)).2.1 (repS (rdSupR (W 0)).2.1 (lookZ N (rdSupR (W 0)).2.1 W)) W (lookZ N (rdSupR (W 0)).2.1 W).st.fm = [] := by
  intro W
  have hwell := look_well hS he
  obtain ⟨k1, k2⟩ := look_keeps hW hwell
  obtain ⟨h8, h9, hs0, hs1, hr⟩ := lookE_ok he
  obtain ⟨hx, hy, hxy⟩ := (sup_one hs0).1
  rw [hs1] at hxy
  have hcut := cut_law (X := N) (N := N) hy.1 rfl hS hr.1 (by omega) (writeL N (rdSupR (S 0)).2.1 W S (lookZ N (rdSupR (S 0)).2.1 S).st.fm).length
  simp only at hcut
  rw [List.take_of_length_le (Nat.le_refl _)] at hcut
  have hcs : cutS S W (writeL N (rdSupR (S 0)).2.1 W S (lookZ N (rdSupR (S 0)).2.1 S).st.fm) = W := by
    funext j
    unfold cutS
    split
    · rfl
    · rename_i hm
      by_cases hj : j < N
      · exact Decidable.byContradiction fun hne => hm (mem_writeL.2 ⟨hj, fun e => hne e.symm⟩)
      · exact (rep_else hS he (by omega)).symm
  obtain ⟨c1, c2, c3, c4, c5, c6, c7⟩ := hcut
  change cutS S W (writeL N (rdSupR (S 0)).2.1 W S (lookZ N (rdSupR (S 0)).2.1 S).st.fm) 0 = S 0 at c5
  change ∀ i, ((lookZ N (rdSupR (S 0)).2.1 (cutS S W (writeL N (rdSupR (S 0)).2.1 W S (lookZ N (rdSupR (S 0)).2.1 S).st.fm))).T i).isSome = _ at c3
  change (lookZ N (rdSupR (S 0)).2.1 (cutS S W (writeL N (rdSupR (S 0)).2.1 W S (lookZ N (rdSupR (S 0)).2.1 S).st.fm))).st.cl = _ at c4
  rw [hcs] at c3 c4 c5
  have e0 : (rdSupR (W 0)).2.1 = (rdSupR (S 0)).2.1 := by rw [c5]
  refine ⟨c5, k1, funext k2, ?_, ?_, ?_⟩
  · rw [e0]
    congr 1
    funext p
    exact c3 p.toNat
  · rw [e0, c4]
  · exact (stands_iff hW k1).1 hwell
theorem keysN_len (n : Nat) (s : Int → Bool) : (keysN n s).length ≤ n := by
  unfold keysN
  simp only [List.length_map]
  exact Nat.le_trans (List.length_filter_le _ _) (by simp)
theorem writeL_len {N : Nat} (Y : Int) (W S : Nat → List Int) (fm : Int → Bool) : (writeL N Y W S fm).length ≤ N := by
  have hl := (List.Nodup.length_le_of_subset (l₂ := (List.range N).map (fun (i : Nat) => (i : Int))) (writeL_nodup N Y W S fm) (fun x hx => by
    obtain ⟨j, rfl⟩ := writeL_nat hx
    exact List.mem_map.2 ⟨j, List.mem_range.2 (mem_writeL.1 hx).1, rfl⟩))
  simpa using hl
theorem WSecs.len2 {w : World} {g N : Nat} {S : Nat → List Int} (h : WSecs w g N S) : ∀ j, j < N → (S j).length = 128 ∧ Bytes (S j) := fun j hj => h.secs.len hj
set_option maxHeartbeats 8000000 in
set_option maxRecDepth 100000 in
theorem lookWells_any {v : Value} {N : Nat} {S : Nat → List Int} {w : World} (h : Img w v N S) :
    Calls Tryz.prog 5 #[v] w fun e w' => e = .returned (.bool true) ∧ Below w.heap.size w w' := by
  have HI := Lib.hid h.zero
  have HLN := Lib.hid h.zero.len
  obtain ⟨av, ci, rfl, -, -, hsec⟩ := h
  have HSEC := Lib.hid hsec
  clear hsec
  go_enter Tryz.func5, Tryz.ntmps5
  go_wp2_with fail
  refine (known12_true _).mono ?_; rintro e w1 ⟨rfl, hb1⟩
  have HI1 := Lib.hid (HI.out.same (fr_below hb1 []))
  have HB1 := Lib.hid hb1
  clear hb1
  go_wp2_with fail
  refine (look_all0 HI1.out).mono ?_; rintro e w2 ⟨hb2, hor⟩
  have HB2 := Lib.hid (below_call HB1.out hb2 HB1.out.size)
  have HI2 := Lib.hid (HI1.out.same (fr_below hb2 []))
  clear hb2
  rcases hor with ⟨he, hout⟩ | ⟨hne, rfl⟩
  · obtain ⟨h8, hN9, -⟩ := lookE_ok he
    obtain ⟨gi, oi, rfl, hsec⟩ := HSEC.out (by omega)
    obtain ⟨gw, cw, v1, v2, v3, o1, o2, o3, rfl, k1, k2, k3, k4, k5, k6, k7⟩ := hout
    have HSL := second_look HLN.out he k1.len2
    simp only at HSL
    obtain ⟨s0, s1, s2, s3, s4, s5⟩ := HSL
    have HWP := Lib.hid (look_well HLN.out he)
    have hwl := writeL_len (N := N) (rdSupR (S 0)).2.1 (repS (rdSupR (S 0)).2.1 (lookZ N (rdSupR (S 0)).2.1 S)) S (lookZ N (rdSupR (S 0)).2.1 S).st.fm
    have hkt := keysN_len 4096 (fun p => ((lookZ N (rdSupR (S 0)).2.1 S).T p.toNat).isSome)
    have hkc := keysN_len 4096 (lookZ N (rdSupR (S 0)).2.1 S).st.cl
    change (keysL _).length ≤ _ at hkt hkc
    obtain ⟨a1, n1, c1, rfl⟩ := k2.sl
    obtain ⟨a2, n2, c2, rfl⟩ := k3.sl
    obtain ⟨a3, n3, c3, rfl⟩ := k4.sl
    generalize writeL N (rdSupR (S 0)).2.1 (repS (rdSupR (S 0)).2.1 (lookZ N (rdSupR (S 0)).2.1 S)) S (lookZ N (rdSupR (S 0)).2.1 S).st.fm = WL at *
    generalize (keysL fun p => ((lookZ N (rdSupR (S 0)).2.1 S).T p.toNat).isSome) = KT at *
    generalize keysL (lookZ N (rdSupR (S 0)).2.1 S).st.cl = KC at *
    generalize repS (rdSupR (S 0)).2.1 (lookZ N (rdSupR (S 0)).2.1 S) = WW at *
    have HRP : Hid (RepV w2 (.slice (some ⟨gw, 0, none⟩) N cw) (.slice a1 n1 c1) (.slice a2 n2 c2) (.slice a3 n3 c3) o1 o2 o3 N WW WL KT KC) := Lib.hid ⟨img0_of k1, k2, k3, k4, by omega, by omega, by omega, by omega⟩
    have HW := Lib.hid k1
    have HS1 := Lib.hid s1
    have HS2 := Lib.hid s2
    have HS3 := Lib.hid s3
    have HS4 := Lib.hid s4
    have HS5 := Lib.hid s5
    have HS0 := Lib.hid s0
    clear k1 k2 k3 k4 k5 k6 k7 s1 s2 s3 s4 s5 s0 he hwl hkt hkc
    have hB3 : Below w2.heap.size w2 (w2.alloc (.cells #[.slice (some ⟨gw, 0, none⟩) N cw, .slice a1 n1 c1, .slice a2 n2 c2, .slice a3 n3 c3] 26)) := (Below.refl _ _).alloc (Nat.le_refl _) _
    have hg3 := (hopN w2 (.cells #[.slice (some ⟨gw, 0, none⟩) N cw, .slice a1 n1 c1, .slice a2 n2 c2, .slice a3 n3 c3] 26)).1
    have HB3 := Lib.hid (below_call HB2.out hB3 HB2.out.size)
    have HI3 := Lib.hid (HI2.out.same (fr_below hB3 []))
    have HW3 := Lib.hid (HW.out.same (hat_below hB3 HW.out.lt))
    have HRP3 := Lib.hid (HRP.out.same (fr_below hB3 []))
    clear hB3
    go_upto_region 5 with fail
    generalize w2.heap.size = g3 at *
    generalize w2.alloc (.cells #[.slice (some ⟨gw, 0, none⟩) N cw, .slice a1 n1 c1, .slice a2 n2 c2, .slice a3 n3 c3] 26) = w3 at *
    have hg3l := hat_lt hg3
    have hN0 : 0 < N := by omega
    have hN0i : (0 : Int) < (N : Int) := by omega
    have hn0 : ((N : Int) == 0) = false := by simp; omega
    obtain ⟨gi', oi', e', hs3⟩ : ∃ gi' oi', (some ⟨gi, oi, none⟩ : Option Addr) = some ⟨gi', oi', none⟩ ∧ Secs w3 gi' oi' N S := by
      obtain ⟨a, c, e1, h4⟩ := HI3.out
      obtain ⟨g', o', e2, h5⟩ := h4 hN0
      injection e1 with e3
      exact ⟨g', o', by rw [e3]; exact e2, h5⟩
    injection e' with e'
    injection e' with e1 e2
    subst e1 e2
    obtain ⟨csS, tS, fS, hcS, hlS⟩ := hs3.load hN0
    rw [Nat.zero_mul, Nat.add_zero] at hlS
    have hls := (hs3.len hN0).1
    obtain ⟨csW, hcW, hlW, hlw, -⟩ := HW3.out.load hN0
    rw [Nat.zero_mul] at hlW
    have h00 : decide (WW 0 = S 0) = true := decide_eq_true HS0.out
    have hcSl := hat_lt hcS
    have hcWl := hat_lt hcW
    clear hs3 hsec
    go_wp2_with fail
    refine wp_region_vals (by kernel_rfl) 27 (by decide) rfl (fun i => match i with | 0 => (.pointer (some ⟨g3, 0, none⟩)) | 1 => (.slice (some ⟨gw, 0, none⟩) N cw) | 2 => (.int .i64 (N : Int)) | 3 => (.slice (some ⟨gi, oi, none⟩) N ci) | 4 => (.int .i64 (N : Int)) | 5 => (.bool false) | 6 => (.bool false) | 7 => (.slice (some ⟨gi, oi, none⟩) N ci) | 8 => (.int .i64 (N : Int)) | 9 => (.bool false) | 10 => (.bool false) | 11 => (.bool false) | 12 => (.pointer (some ⟨g3, 0, none⟩)) | 13 => (.slice (some ⟨gw, 0, none⟩) N cw) | 14 => (.pointer (some ⟨gw, 0, none⟩)) | 15 => (.agg (IV .u8 (WW 0))) | 16 => (.slice (some ⟨gi, oi, none⟩) N ci) | 17 => (.pointer (some ⟨gi, oi, none⟩)) | 18 => (.agg (IV .u8 (S 0))) | 19 => (.bool false) | 20 => (.bool false) | 21 => (.bool false) | 22 => (.pointer (some ⟨g3, 0, none⟩)) | 23 => (.slice (some ⟨gw, 0, none⟩) N cw) | 24 => (.bool true) | 25 => (.bool false) | _ => (.bool false)) ?_ ?_
    · intro i' o ho0 ho a' w' hB hS hF
      have hi' : i' = 0 ∨ i' = 1 ∨ i' = 2 ∨ i' = 3 ∨ i' = 4 ∨ i' = 5 ∨ i' = 6 ∨ i' = 7 ∨ i' = 8 ∨ i' = 9 ∨ i' = 10 ∨ i' = 11 ∨ i' = 12 ∨ i' = 13 ∨ i' = 14 ∨ i' = 15 ∨ i' = 16 ∨ i' = 17 ∨ i' = 18 ∨ i' = 19 ∨ i' = 20 ∨ i' = 21 ∨ i' = 22 ∨ i' = 23 ∨ i' = 24 ∨ i' = 25 ∨ i' = 26 := by omega
      have hg3 := (hop hB hg3).1
      have hcW := (hop hB hcW).1
      have hcS := (hop hB hcS).1
      rcases hi' with rfl | rfl | rfl | rfl | rfl | rfl | rfl | rfl | rfl | rfl | rfl | rfl | rfl | rfl | rfl | rfl | rfl | rfl | rfl | rfl | rfl | rfl | rfl | rfl | rfl | rfl | rfl
      all_goals (have ho' := Option.some.inj ho; subst ho')
      · have q4 : a'.tmps[4]?.getD undef = (.pointer (some ⟨g3, 0, none⟩)) := gtx ((hS 4 (by decide)).trans rfl)
        refine wpOp_val_g rfl (wanted_free rfl) ?_ ⟨rfl, hB⟩
        simp [go_sem, q4]
      · have q32 := gtx (hF 0 (by decide) _ 32 rfl rfl)
        refine wpOp_val_g rfl (wanted_free rfl) ?_ ⟨rfl, hB⟩
        simp [go_sem, q32, hg3]
      · have q33 := gtx (hF 1 (by decide) _ 33 rfl rfl)
        refine wpOp_val_g rfl (wanted_free rfl) ?_ ⟨rfl, hB⟩
        simp [go_sem, q33]
      · have q0 : a'.tmps[0]?.getD undef = (.slice (some ⟨gi, oi, none⟩) N ci) := gtx ((hS 0 (by decide)).trans rfl)
        refine wpOp_val_g rfl (wanted_free rfl) ?_ ⟨rfl, hB⟩
        simp [go_sem, q0]
      · have q35 := gtx (hF 3 (by decide) _ 35 rfl rfl)
        refine wpOp_val_g rfl (wanted_free rfl) ?_ ⟨rfl, hB⟩
        simp [go_sem, q35]
      · have q34 := gtx (hF 2 (by decide) _ 34 rfl rfl)
        have q36 := gtx (hF 4 (by decide) _ 36 rfl rfl)
        refine wpOp_val_g rfl (wanted_free rfl) ?_ ⟨rfl, hB⟩
        simp [go_sem, q34, q36]
      · have q37 := gtx (hF 5 (by decide) _ 37 rfl rfl)
        refine wpOp_val_g rfl (wanted_free rfl) ?_ ⟨rfl, hB⟩
        simp [go_sem, q37]
      · have q0 : a'.tmps[0]?.getD undef = (.slice (some ⟨gi, oi, none⟩) N ci) := gtx ((hS 0 (by decide)).trans rfl)
        refine wpOp_val_g rfl (wanted_of rfl rfl rfl (hF 6 (by decide) _ 38 rfl rfl)) ?_ ⟨rfl, hB⟩
        simp [go_sem, q0]
      · have q39 := gtx (hF 7 (by decide) _ 39 rfl rfl)
        refine wpOp_val_g rfl (wanted_of rfl rfl rfl (hF 6 (by decide) _ 38 rfl rfl)) ?_ ⟨rfl, hB⟩
        simp [go_sem, q39]
      · have q40 := gtx (hF 8 (by decide) _ 40 rfl rfl)
        refine wpOp_val_g rfl (wanted_of rfl rfl rfl (hF 6 (by decide) _ 38 rfl rfl)) ?_ ⟨rfl, hB⟩
        simp [go_sem, q40, hn0]
      · have q38 := gtx (hF 6 (by decide) _ 38 rfl rfl)
        have q41 := gtx (hF 9 (by decide) _ 41 rfl rfl)
        refine wpOp_val_g rfl (wanted_free rfl) ?_ ⟨rfl, hB⟩
        simp [go_sem, q38, q41]
      · have q42 := gtx (hF 10 (by decide) _ 42 rfl rfl)
        refine wpOp_val_g rfl (wanted_free rfl) ?_ ⟨rfl, hB⟩
        simp [go_sem, q42]
      · have q4 : a'.tmps[4]?.getD undef = (.pointer (some ⟨g3, 0, none⟩)) := gtx ((hS 4 (by decide)).trans rfl)
        refine wpOp_val_g rfl (wanted_of rfl rfl rfl (hF 11 (by decide) _ 43 rfl rfl)) ?_ ⟨rfl, hB⟩
        simp [go_sem, q4]
      · have q44 := gtx (hF 12 (by decide) _ 44 rfl rfl)
        refine wpOp_val_g rfl (wanted_of rfl rfl rfl (hF 11 (by decide) _ 43 rfl rfl)) ?_ ⟨rfl, hB⟩
        simp [go_sem, q44, hg3]
      · have q45 := gtx (hF 13 (by decide) _ 45 rfl rfl)
        refine wpOp_val_g rfl (wanted_of rfl rfl rfl (hF 11 (by decide) _ 43 rfl rfl)) ?_ ⟨rfl, hB⟩
        simp [go_sem, q45, hN0, hN0i]
      · have q46 := gtx (hF 14 (by decide) _ 46 rfl rfl)
        refine wpOp_val_g rfl (wanted_of rfl rfl rfl (hF 11 (by decide) _ 43 rfl rfl)) ?_ ⟨rfl, hB⟩
        simp [go_sem, q46, hcW, hlW]
      · have q0 : a'.tmps[0]?.getD undef = (.slice (some ⟨gi, oi, none⟩) N ci) := gtx ((hS 0 (by decide)).trans rfl)
        refine wpOp_val_g rfl (wanted_of rfl rfl rfl (hF 11 (by decide) _ 43 rfl rfl)) ?_ ⟨rfl, hB⟩
        simp [go_sem, q0]
      · have q48 := gtx (hF 16 (by decide) _ 48 rfl rfl)
        refine wpOp_val_g rfl (wanted_of rfl rfl rfl (hF 11 (by decide) _ 43 rfl rfl)) ?_ ⟨rfl, hB⟩
        simp [go_sem, q48, hN0, hN0i]
      · have q49 := gtx (hF 17 (by decide) _ 49 rfl rfl)
        refine wpOp_val_g rfl (wanted_of rfl rfl rfl (hF 11 (by decide) _ 43 rfl rfl)) ?_ ⟨rfl, hB⟩
        simp [go_sem, q49, hcS, hlS]
      · have q47 := gtx (hF 15 (by decide) _ 47 rfl rfl)
        have q50 := gtx (hF 18 (by decide) _ 50 rfl rfl)
        refine wpOp_val_g rfl (wanted_of rfl rfl rfl (hF 11 (by decide) _ 43 rfl rfl)) ?_ ⟨rfl, hB⟩
        simp [go_sem, q47, q50, hlw, hls, h00]
      · have q43 := gtx (hF 11 (by decide) _ 43 rfl rfl)
        have q51 := gtx (hF 19 (by decide) _ 51 rfl rfl)
        refine wpOp_val_g rfl (wanted_free rfl) ?_ ⟨rfl, hB⟩
        simp [go_sem, q43, q51]
      · have q52 := gtx (hF 20 (by decide) _ 52 rfl rfl)
        refine wpOp_val_g rfl (wanted_free rfl) ?_ ⟨rfl, hB⟩
        simp [go_sem, q52]
      · have q4 : a'.tmps[4]?.getD undef = (.pointer (some ⟨g3, 0, none⟩)) := gtx ((hS 4 (by decide)).trans rfl)
        refine wpOp_val_g rfl (wanted_of rfl rfl rfl (hF 21 (by decide) _ 53 rfl rfl)) ?_ ⟨rfl, hB⟩
        simp [go_sem, q4]
      · have q54 := gtx (hF 22 (by decide) _ 54 rfl rfl)
        refine wpOp_val_g rfl (wanted_of rfl rfl rfl (hF 21 (by decide) _ 53 rfl rfl)) ?_ ⟨rfl, hB⟩
        simp [go_sem, q54, hg3]
      · have q55 := gtx (hF 23 (by decide) _ 55 rfl rfl)
        refine wpOp_call_g (f := 16) (args := #[(.slice (some ⟨gw, 0, none⟩) N cw)]) rfl (wanted_of rfl rfl rfl (hF 21 (by decide) _ 53 rfl rfl)) (by simp [go_sem, q55]) (well_yes HWP.out (img0_of (HW3.out.same (hat_below hB HW3.out.lt)))) ?_
        rintro e w'' ⟨rfl, hb'⟩
        exact ⟨_, rfl, rfl, below_call hB hb' hB.size⟩
      · have q56 := gtx (hF 24 (by decide) _ 56 rfl rfl)
        refine wpOp_val_g rfl (wanted_of rfl rfl rfl (hF 21 (by decide) _ 53 rfl rfl)) ?_ ⟨rfl, hB⟩
        simp [go_sem, q56]
      · have q53 := gtx (hF 21 (by decide) _ 53 rfl rfl)
        have q57 := gtx (hF 25 (by decide) _ 57 rfl rfl)
        refine wpOp_val_g rfl (wanted_free rfl) ?_ ⟨rfl, hB⟩
        simp [go_sem, q53, q57]
    · intro w5 hB5
      simp only [putAll, List.take, List.drop, List.take_succ_cons, List.drop_succ_cons, Act.put, List.setIfInBounds_toArray, List.set_cons_zero, List.set_cons_succ]
      have HB5 := Lib.hid (below_call HB3.out hB5 HB3.out.size)
      have hg5 := (hop hB5 hg3).1
      have hg5l := hat_lt hg5
      have HW5 := Lib.hid (HW3.out.same (hat_below hB5 HW3.out.lt))
      have HRP5 := Lib.hid (HRP3.out.same (fr_below hB5 []))
      clear hB5 hg3 hg3l hcS hcW hlS hlW hcSl hcWl h00 hlw hls
      go_wp2_with fail
      refine (look_all0 (img0_of HW5.out)).mono ?_; rintro e w6 ⟨hb6, hor⟩
      have HB6 := Lib.hid (below_call HB5.out hb6 HB5.out.size)
      have hg6 := (hop hb6 hg5).1
      have HRP6 := Lib.hid (HRP5.out.same (fr_below hb6 []))
      clear hb6 hg5 hg5l
      rcases hor with ⟨he2, hout⟩ | ⟨hne2, rfl⟩
      · obtain ⟨gx, cx, x1, x2, x3, p1, p2, p3, rfl, q1, q2, q3, q4, q5, q6, q7⟩ := hout
        rw [HS2.out] at q1
        rw [HS5.out] at q2
        rw [HS3.out] at q3
        rw [HS4.out] at q4
        obtain ⟨d1, f1, e1'⟩ := q2.slice
        rw [List.length_nil] at e1'
        obtain ⟨d2, m2, f2, e2'⟩ := q3.sl
        obtain ⟨d3, m3, f3, e3'⟩ := q4.sl
        subst e1' e2' e3'
        have HX := Lib.hid q1
        have HQ3 := Lib.hid q3
        have HQ4 := Lib.hid q4
        clear q1 q2 q3 q4 q5 q6 q7 he2
        have hB7 : Below w6.heap.size w6 (w6.alloc (.cells #[.slice (some ⟨gx, 0, none⟩) N cx, .slice d1 0 f1, .slice d2 m2 f2, .slice d3 m3 f3] 26)) := (Below.refl _ _).alloc (Nat.le_refl _) _
        have hg7 := (hop hB7 hg6).1
        have hgx7 := (hopN w6 (.cells #[.slice (some ⟨gx, 0, none⟩) N cx, .slice d1 0 f1, .slice d2 m2 f2, .slice d3 m3 f3] 26)).1
        have HB7 := Lib.hid (below_call HB6.out hB7 HB6.out.size)
        have HRP7 := Lib.hid (HRP6.out.same (fr_below hB7 []))
        have HX7 := Lib.hid (HX.out.same (hat_below hB7 HX.out.lt))
        have HQ37 := Lib.hid (HQ3.out.fr (fr_below hB7 []) (fun _ _ => by simp))
        have HQ47 := Lib.hid (HQ4.out.fr (fr_below hB7 []) (fun _ _ => by simp))
        clear hB7 hg6
        go_upto_region 10 with fail
        generalize w6.heap.size = g7 at *
        generalize w6.alloc (.cells #[.slice (some ⟨gx, 0, none⟩) N cx, .slice d1 0 f1, .slice d2 m2 f2, .slice d3 m3 f3] 26) = w7 at *
        have hg7l := hat_lt hg7
        have hgx7l := hat_lt hgx7
        go_wp2_with fail
        refine (sectors_any (img0_of HX7.out) HRP7.out.i (by omega)).mono ?_; rintro e w8 ⟨b, rfl, hb, hf⟩
        obtain rfl : b = true := hb.2 ⟨rfl, fun j _ => rfl⟩
        have hg8 := (hf.block _ hg7l (by simp)).trans hg7
        have hgx8 := (hf.block _ hgx7l (by simp)).trans hgx7
        have HB8 := Lib.hid (HB7.out.trans (hf.below HB7.out.size (by simp)))
        have HRP8 := Lib.hid (HRP7.out.same hf)
        have HQ38 := Lib.hid (HQ37.out.fr hf (fun _ _ => by simp))
        have HQ48 := Lib.hid (HQ47.out.fr hf (fun _ _ => by simp))
        have hg8l := hat_lt hg8
        have hgx8l := hat_lt hgx8
        clear hb hf hg7 hgx7 hg7l hgx7l
        go_wp2_with fail
        refine (ints_yes HQ38.out HRP8.out.q2 HRP8.out.n2).mono ?_; rintro e w9 ⟨rfl, hf⟩
        have hg9 := (hf.block _ hg8l (by simp)).trans hg8
        have hgx9 := (hf.block _ hgx8l (by simp)).trans hgx8
        have HB9 := Lib.hid (HB8.out.trans (hf.below HB8.out.size (by simp)))
        have HRP9 := Lib.hid (HRP8.out.same hf)
        have HQ49 := Lib.hid (HQ48.out.fr hf (fun _ _ => by simp))
        have hg9l := hat_lt hg9
        have hgx9l := hat_lt hgx9
        clear hf hg8 hgx8 hg8l hgx8l
        go_wp2_with fail
        refine (ints_yes HQ49.out HRP9.out.q3 HRP9.out.n3).mono ?_; rintro e w10 ⟨rfl, hf⟩
        have HB10 := Lib.hid (HB9.out.trans (hf.below HB9.out.size (by simp)))
        clear hf
        go_wp2_with fail
        go_ret
        exact ⟨rfl, HB10.out⟩
      · exact absurd HS1.out hne2
  · have hE := lookE_or hne
    generalize lookE N S = E at *
    have hB3 : Below w2.heap.size w2 (w2.alloc (.cells repNil 26)) := (Below.refl _ _).alloc (Nat.le_refl _) _
    have HB3 := Lib.hid (below_call HB2.out hB3 HB2.out.size)
    have hg3 := (hopN w2 (.cells repNil 26)).1
    clear hB3 hne
    unfold repNil at *
    rcases hE with rfl | rfl
    all_goals
      go_upto_region 5 with fail
      generalize w2.heap.size = g3 at *
      generalize w2.alloc (.cells #[.slice none 0 0, .slice none 0 0, .slice none 0 0, .slice none 0 0] 26) = w3 at *
      have hg3l := hat_lt hg3
      go_wp2_with fail
      refine (same_any (repV_nil _ (fun _ => [])) (repV_nil _ (fun _ => []))).mono ?_; rintro e w4 ⟨b, rfl, hb, hb4⟩
      obtain rfl : b = true := hb.2 ⟨⟨rfl, fun j h => by omega⟩, rfl, rfl, rfl⟩
      have HB4 := Lib.hid (below_call HB3.out hb4 HB3.out.size)
      clear hb hb4
      go_wp2_with fail
      go_ret
      exact ⟨rfl, HB4.out⟩
end Go.Proofs.YthioepdgnbdohaaGreat
