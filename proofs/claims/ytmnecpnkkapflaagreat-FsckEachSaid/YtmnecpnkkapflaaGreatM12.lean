import Derived.Test.YtmnecpnkkapflaaGreatM10
namespace Go.Proofs.YtmnecpnkkapflaaGreat
set_option maxHeartbeats 16000000
set_option maxRecDepth 1000000
set_option linter.unusedSimpArgs false
set_option linter.unusedVariables false
open Go.RowKit
theorem toList_one {a b : ByteArray} (h : a.toList = b.toList) : a = b := by
 rw [Lib.toList_data, Lib.toList_data] at h
 cases a; cases b
 congr 1
 exact Array.toList_inj.1 h
theorem slotsW_len {S : Nat → List Int} : ∀ (bs : List Int) (a l : List Ent), slotsW S bs a = some l → l.length ≤ a.length + bs.length
 | [], a, l, h => by cases h; simp
 | p :: r, a, l, h => by
  rw [slotsW_cons] at h
  split at h
  ·have := slotsW_len r a l h; simp; omega
  ·split at h
   ·cases h
   ·split at h
    ·have := slotsW_len r a l h; simp; omega
    ·have := slotsW_len r _ l h; simp at this ⊢; omega
theorem sum_le (f : Nat → Nat) (m : Nat) : ∀ n : Nat, (∀ i, i < n → f i ≤ m) → ((List.range n).map f).sum ≤ m * n
 | 0, _ => by simp
 | n + 1, h => by
  rw [List.range_succ, List.map_append, List.sum_append, Nat.mul_succ]
  have := sum_le f m n (fun i hi => h i (by omega))
  have := h n (by omega)
  simp; omega
theorem cntI_le {L : Nat → List Ent} {m i : Nat} (j : Nat) (h : ∀ i', i' < i → (L i').length ≤ m) : cntI L i j ≤ m * i :=
 sum_le _ m i fun i' hi => Nat.le_trans List.countP_le_length (h i' hi)
structure NR (S I : Nat → List Int) (M i : Nat) (l : List Ent) (k : Nat) (rch0 rch : Int → Bool) (mo : Bool) : Prop where
 one : rch 1 = true
 low : ∀ P : Nat → Prop, P 1 → Closed (entL S I M) P → ∀ j : Nat, j < M → rch j = true → P j
 dn : ∀ i', 1 ≤ i' → i' < i → dirOkW S I M i'
 ok : EntOk I M (l.take k)
 un : unr M rch ≤ unr M rch0 ∧ (mo = true → unr M rch < unr M rch0)
 cl : mo = false → rch = rch0 ∧ (∀ i', i' < i → rch (i' : Int) = true → ∀ e ∈ entL S I M i', rch e.1 = true) ∧ (rch (i : Int) = true → ∀ e ∈ l.take k, rch e.1 = true)
theorem nr_start {S I : Nat → List Int} {M : Nat} {rch : Int → Bool} (h1 : rch 1 = true) (hl : ∀ P : Nat → Prop, P 1 → Closed (entL S I M) P → ∀ j : Nat, j < M → rch j = true → P j) : NR S I M 1 [] 0 rch rch false := by
 refine ⟨h1, hl, fun i' a b => by omega, ⟨fun e he => (by cases he), List.nodup_nil⟩, ⟨Nat.le_refl _, fun h => (by cases h)⟩, fun _ => ⟨rfl, fun i' hi' _ e he => ?_, fun _ e he => (by cases he)⟩⟩
 obtain rfl : i' = 0 := by omega
 unfold entL at he
 rw [if_neg (fun h => by omega)] at he
 cases he
theorem NR.skip {S I : Nat → List Int} {M i : Nat} {rch0 rch : Int → Bool} {mo : Bool} (h : NR S I M i [] 0 rch0 rch mo) (hk : nth (I i) 0 ≠ 2) : NR S I M (i + 1) [] 0 rch0 rch mo := by
 refine ⟨h.one, h.low, fun i' a b => ?_, h.ok, h.un, fun hm => ⟨(h.cl hm).1, fun i' hi' hr e he => ?_, fun _ e he => (by cases he)⟩⟩
 ·by_cases e : i' = i
  ·subst e; exact fun h2 => absurd h2 hk
  ·exact h.dn i' a (by omega)
 ·by_cases e2 : i' = i
  ·subst e2; rw [entL_no hk] at he; cases he
  ·exact (h.cl hm).2.1 i' (by omega) hr e he
theorem NR.into {S I : Nat → List Int} {M i : Nat} {rch0 rch : Int → Bool} {mo : Bool} (h : NR S I M i [] 0 rch0 rch mo) (l : List Ent) : NR S I M i l 0 rch0 rch mo :=
 ⟨h.one, h.low, h.dn, ⟨fun e he => (by cases he), List.nodup_nil⟩, h.un, fun hm => ⟨(h.cl hm).1, (h.cl hm).2.1, fun _ e he => (by cases he)⟩⟩
theorem NR.over {S I : Nat → List Int} {M i : Nat} {l : List Ent} {rch0 rch : Int → Bool} {mo : Bool} (h : NR S I M i l l.length rch0 rch mo) (h1 : 1 ≤ i) (h2 : i < M) (hk : nth (I i) 0 = 2) (hs : slotsW S (blksW S (I i)) [] = some l) : NR S I M (i + 1) [] 0 rch0 rch mo := by
 have hok := h.ok
 rw [List.take_of_length_le (Nat.le_refl _)] at hok
 refine ⟨h.one, h.low, fun i' a b => ?_, ⟨fun e he => (by cases he), List.nodup_nil⟩, h.un, fun hm => ⟨(h.cl hm).1, fun i' hi' hr e he => ?_, fun _ e he => (by cases he)⟩⟩
 ·by_cases e : i' = i
  ·subst e; exact fun _ => ⟨l, hs, hok⟩
  ·exact h.dn i' a (by omega)
 ·by_cases e2 : i' = i
  ·subst e2
   rw [entL_yes h1 h2 hk hs] at he
   have := (h.cl hm).2.2 hr
   rw [List.take_of_length_le (Nat.le_refl _)] at this
   exact this e he
  ·exact (h.cl hm).2.1 i' (by omega) hr e he
theorem ent_snoc {I : Nat → List Int} {M : Nat} {l : List Ent} {k : Nat} {x : Nat} {nm : ByteArray} (h : EntOk I M (l.take k)) (hk : l[k]? = some ((x : Int), nm)) (h2 : 2 ≤ x) (hM : x < M) (h0 : nth (I x) 0 ≠ 0) (hn : nm ∉ (l.take k).map Prod.snd) : EntOk I M (l.take (k + 1)) := by
 rw [List.take_add_one, hk]
 refine ⟨fun e he => ?_, ?_⟩
 ·rcases List.mem_append.1 he with he | he
  ·exact h.1 e he
  ·simp at he
   subst he
   exact ⟨by show (2 : Int) ≤ x; omega, by show (x : Int) < M; omega, by rw [Int.toNat_natCast]; exact h0⟩
 ·rw [List.map_append, List.nodup_append]
  refine ⟨h.2, by simp, fun a ha b hb => ?_⟩
  simp at hb
  subst hb
  intro e
  subst e
  exact hn ha
theorem mem_snoc {l : List Ent} {k : Nat} {e e0 : Ent} (hk : l[k]? = some e0) (h : e ∈ l.take (k + 1)) : e ∈ l.take k ∨ e = e0 := by
 rw [List.take_add_one, hk] at h
 rcases List.mem_append.1 h with h | h
 ·exact .inl h
 ·simp at h; exact .inr h
theorem NR.same {S I : Nat → List Int} {M i : Nat} {l : List Ent} {k : Nat} {rch0 rch : Int → Bool} {mo : Bool} (h : NR S I M i l k rch0 rch mo) {x : Nat} {nm : ByteArray} (hk : l[k]? = some ((x : Int), nm)) (hok : EntOk I M (l.take (k + 1))) (hr : rch (i : Int) = true → rch (x : Int) = true) : NR S I M i l (k + 1) rch0 rch mo :=
 ⟨h.one, h.low, h.dn, hok, h.un, fun hm => ⟨(h.cl hm).1, (h.cl hm).2.1, fun hi e he => by
  rcases mem_snoc hk he with he | rfl
  ·exact (h.cl hm).2.2 hi e he
  ·exact hr hi⟩⟩
theorem NR.more {S I : Nat → List Int} {M i : Nat} {l : List Ent} {k : Nat} {rch0 rch : Int → Bool} {mo : Bool} (h : NR S I M i l k rch0 rch mo) {x : Nat} {nm : ByteArray} (hk : l[k]? = some ((x : Int), nm)) (hok : EntOk I M (l.take (k + 1))) (h1 : 1 ≤ i) (h2 : i < M) (hx : x < M) (hd : nth (I i) 0 = 2) (hs : slotsW S (blksW S (I i)) [] = some l)
  (hi : rch (i : Int) = true) (hn : rch (x : Int) = false) : NR S I M i l (k + 1) rch0 (addS rch x) true := by
 refine ⟨by unfold addS; rw [h.one]; rfl, fun P hP hC j hj hr => ?_, h.dn, hok, ⟨?_, fun _ => ?_⟩, fun hm => (by cases hm)⟩
 ·by_cases e : (j : Int) = (x : Int)
  ·have hPi := h.low P hP hC i h2 hi
   have := hC i ((x : Int), nm) hPi (by rw [entL_yes h1 h2 hd hs]; exact List.mem_of_getElem? hk)
   rw [show ((x : Int), nm).1.toNat = x from Int.toNat_natCast x] at this
   obtain rfl : j = x := by omega
   exact this
  ·have e2 : addS rch x j = rch j := by unfold addS; simp [e]
   rw [e2] at hr
   exact h.low P hP hC j hj hr
 ·have := unr_add hx hn; have := h.un.1; omega
 ·have := unr_add hx hn; have := h.un.1; omega
theorem names_apart {l : List Ent} {k : Nat} {nm : ByteArray} (h : ∀ j', j' < k → (l[j']?).map Prod.snd ≠ some nm) : nm ∉ (l.take k).map Prod.snd := by
 intro hm
 obtain ⟨j, hj⟩ := List.mem_iff_getElem?.1 hm
 rw [List.getElem?_map, List.getElem?_take] at hj
 split at hj
 ·rename_i hjk; exact h j hjk hj
 ·cases hj
theorem names_twice {I : Nat → List Int} {M : Nat} {l : List Ent} {j k : Nat} {x y : Int} {nm : ByteArray} (hj : l[j]? = some (x, nm)) (hk : l[k]? = some (y, nm)) (hjk : j < k) : ¬ EntOk I M l := by
 rintro ⟨-, h⟩
 have h2 := List.pairwise_iff_getElem.1 h
 obtain ⟨hjl, ej⟩ := List.getElem?_eq_some_iff.1 hj
 obtain ⟨hkl, ek⟩ := List.getElem?_eq_some_iff.1 hk
 refine h2 j k (by simpa using hjl) (by simpa using hkl) hjk ?_
 rw [List.getElem_map, List.getElem_map, ej, ek]
theorem dirs_no {S I : Nat → List Int} {M i : Nat} {l : List Ent} (h1 : 1 ≤ i) (h2 : i < M) (hk : nth (I i) 0 = 2) (hs : slotsW S (blksW S (I i)) [] = some l) (hn : ¬ EntOk I M l) : ¬ DirsOk S I M := fun h => by
 obtain ⟨l', e, ho⟩ := h i h1 h2 hk
 rw [hs] at e; cases e
 exact hn ho
def NamedOut (S I : Nat → List Int) (M : Nat) (w : World) (e : Ending) (w' : World) : Prop :=
 ∃ v1 v2 b, e = .returned (.tuple #[v1, v2, .bool b]) ∧ Below w.heap.size w w' ∧ (b = true ↔ DirsOk S I M) ∧
  (b = true → ∃ gt gr ct cr rch, v1 = .slice (some ⟨gt, 0, none⟩) M ct ∧ v2 = .slice (some ⟨gr, 0, none⟩) M cr ∧ NumR w' gt M (fun j => (cntI (entL S I M) M j : Int)) ∧ Bools w' gr M rch ∧ RchIs (entL S I M) M rch)
theorem named_w {E : SEnv} (hE : SOk E) {gn cn M : Nat} {I : Nat → List Int} (hino : E.ino = .slice (some ⟨gn, 0, none⟩) M cn) (hM1 : 2 ≤ M) (hM9 : M ≤ 4096)
  (hA : ∀ i, 1 ≤ i → i < M → nth (I i) 0 = 2 → Aims E.N E.S (I i) ∧ 0 ≤ nth (I i) 2 ∧ nth (I i) 2 ≤ 136704 ∧ ∀ p ∈ blksW E.S (I i), 0 ≤ p ∧ p < E.N)
  (seen : Int → Bool) (w : World) (h : SG E w seen) (hI : Inos w gn M I) :
  Calls Tryz.prog 40 #[.pointer (some ⟨E.g, 0, none⟩)] w (NamedOut E.S I M w) := by
 have hs := h.s
 rw [hino] at hs
 have HS := Lib.hid h
 have HIN := Lib.hid hI
 have HAI := Lib.hid hA
 have HL : Hid (∀ i, (entL E.S I M i).length ≤ 1068) := Lib.hid (fun i => by
  unfold entL
  split
  ·rename_i hi
   obtain ⟨-, z0, z1, -⟩ := hA i hi.1 hi.2.1 hi.2.2
   cases hq : slotsW E.S (blksW E.S (I i)) [] with
   | none => simp
   | some l =>
    have := slotsW_len _ _ _ hq
    have hb : (blksW E.S (I i)).length ≤ 1068 := by
     unfold blksW cntX
     rw [List.length_map, List.length_range]; omega
    simp at this ⊢; omega
  ·simp)
 clear h hI hA
 obtain ⟨w1, hr1, hn1, hb1⟩ := make_numR w M (by omega)
 obtain ⟨w2, hr2, hl2, hb2⟩ := make_bools w1 M (by omega)
 have hs1 := (hop hb1 hs).1
 have hs2 := (hop hb2 hs1).1
 have hB2 : Below w.heap.size w w2 := below_call hb1 hb2 hb1.size
 have hgr0 : w.heap.size ≤ w1.heap.size := hb1.size
 have hgrl := hl2.lt
 have HB2 := Lib.hid hB2
 have HL2 := Lib.hid hl2
 clear hn1 hb1 hb2 hB2
 have hM0 : (1 : Int) < (M : Int) := by omega
 have hsl := hat_lt hs
 have hs1l := hat_lt hs1
 have hs2l := hat_lt hs2
 have hM00 : (0 : Int) ≤ (M : Int) := by omega
 obtain ⟨csR, hcR, hszR, hallR⟩ := hl2
 have hc1 := hallR 1 (by omega)
 clear hallR
 go_enter Tryz.func40, Tryz.ntmps40
 generalize hgr : w1.heap.size = gr at *
 go_wp2_with fail
 have HL3 := Lib.hid (HL2.out.put (p := 1) (by omega))
 have HB3 : Hid (Below w.heap.size w (w2.setCell ⟨gr, 1, none⟩ (.bool true))) := Lib.hid (HB2.out.setCell hgr0 _)
 have hs3 := (hop HB3.out hs).1
 have HGR := Lib.hid hgr0
 have HR3 : Hid (addS (fun _ => false) ((1 : Nat) : Int) 1 = true ∧ ∀ j : Nat, addS (fun _ => false) ((1 : Nat) : Int) j = true → j = 1) := Lib.hid ⟨by simp [addS], fun j hj => by simp [addS] at hj; omega⟩
 generalize addS (fun _ => false) ((1 : Nat) : Int) = rch1 at *
 generalize w2.setCell ⟨gr, 1, none⟩ (.bool true) = w3 at *
 clear HL2 HB2 hcR hc1 hszR hr1 hr2 hs1 hs2 hs1l hs2l hgrl hgr0 hgr hsl
 clear w2 w1
 go_loopg [5, 7] (M + 1) (fun g tv mv wr => ∃ (mo : Bool) (rch : Int → Bool), mv = .bool mo ∧ Hid (Below w.heap.size w wr) ∧ Hid (Bools wr gr M rch) ∧ Hid (rch 1 = true) ∧ Hid (∀ P : Nat → Prop, P 1 → Closed (entL E.S I M) P → ∀ j : Nat, j < M → rch j = true → P j) ∧
  Hid (unr M rch + (if mo = true then 1 else 0) ≤ g) ∧ Hid (mo = false → DirsOk E.S I M ∧ RchIs (entL E.S I M) M rch ∧ ∃ gt ct, tv = .slice (some ⟨gt, 0, none⟩) M ct ∧ NumR wr gt M (fun j => (cntI (entL E.S I M) M j : Int))))
 case atStart => exact ⟨true, rch1, rfl, HB3, HL3, Lib.hid HR3.out.1, Lib.hid (fun P h1 _ j _ hj => by rw [HR3.out.2 j hj]; exact h1), Lib.hid (by have := unr_le M rch1; rw [if_pos rfl]; omega), Lib.hid (fun h => by cases h)⟩
 case round =>
  obtain ⟨mo, rch0, rfl, HB, HR, H1, HLOW, HG, HD⟩ := hrel
  clear HB3 HL3 HR3 hs3
  have hsr := (hop HB.out hs).1
  have hsrl := hat_lt hsr
  have hRl := HR.out.lt
  cases mo with
  | false =>
   go_wp2_with fail
   go_ret3
   simp only []
   obtain ⟨d1, d2, gt, ct, d3, d4⟩ := HD.out (by first | rfl | trivial)
   exact ⟨_, _, true, rfl, HB.out, ⟨fun _ => d1, fun _ => rfl⟩, fun _ => ⟨gt, gr, ct, _, rch0, d3, rfl, d4, HR.out, d2⟩⟩
  | true =>
   obtain ⟨wa, hra, hna, hba⟩ := make_numR wr M (by omega)
   have HBa := Lib.hid (below_call HB.out hba HB.out.size)
   have hgt0 : w.heap.size ≤ wr.heap.size := HB.out.size
   have HGT := Lib.hid hgt0
   have HRa := Lib.hid (HR.out.same (hat_below hba HR.out.lt))
   have HNa : Hid (NumR wa wr.heap.size M (fun j => (cntI (entL E.S I M) 1 j : Int))) := Lib.hid (by
    have e : (fun j : Nat => (cntI (entL E.S I M) 1 j : Int)) = fun _ => 0 := by
     funext j
     have : cntI (entL E.S I M) 1 j = 0 := by
      rw [show (1 : Nat) = 0 + 1 from rfl, cntI_succ]
      unfold entL
      rw [if_neg (fun h => by omega)]
      rfl
     rw [this]; rfl
    rw [e]; exact hna)
   have HNR0 := Lib.hid (nr_start H1.out HLOW.out)
   have hsa := (hop hba hsr).1
   have hsal := hat_lt hsa
   have hrt : gr < wr.heap.size := hRl
   have hgrt : gr ≠ wr.heap.size := by omega
   have htal := hna.lt
   clear hba hna hgt0
   generalize hgt : wr.heap.size = gt at *
   go_wp2_with fail
   go_loopw [7, 8] (fun mv iv wr2 => ∃ (mo : Bool) (i : Nat) (rch : Int → Bool), mv = .bool mo ∧ iv = .int .i64 i ∧ 1 ≤ i ∧ i ≤ M ∧ Hid (Below w.heap.size w wr2) ∧ Hid (Bools wr2 gr M rch) ∧ Hid (NumR wr2 gt M (fun j => (cntI (entL E.S I M) i j : Int))) ∧ Hid (NR E.S I M i [] 0 rch0 rch mo)) (fun _ v _ => M - (intOf v).toNat)
   case atStart => exact ⟨false, 1, rch0, rfl, rfl, by omega, by omega, HBa, HRa, HNa, HNR0⟩
   case round =>
    obtain ⟨mo, i, rch, rfl, rfl, hi1, hiM, HB2, HR2, HN2, HNR⟩ := hrel
    clear HNR0 HNa HRa HBa hra hsa hsal htal HB HR hsr hsrl hRl hrt hgt
    have hs2 := (hop HB2.out hs).1
    have hs2l := hat_lt hs2
    have hi0 : (0 : Int) ≤ (i : Int) := Int.natCast_nonneg _
    by_cases hiM2 : i < M
    ·have hii : (i : Int) < (M : Int) := by omega
     have hI2 := HIN.out.same (hat_below HB2.out HIN.out.lt)
     obtain ⟨csI, hcI, hIl, hIld, hIc⟩ := hI2.load hiM2
     have hkc := hIc 0 (by omega)
     rw [Nat.add_zero] at hkc
     have hcIl := hat_lt hcI
     clear hIc hI2
     by_cases hk2 : nth (I i) 0 = 2
     ·have hkd : (nth (I i) 0 != 2) = false := by simpa using hk2
      have HK2 := Lib.hid hk2
      obtain ⟨a1, a2, a3, a4⟩ := HAI.out i hi1 hiM2 hk2
      have HC := Lib.hid (slots_w a1 a2 a3 a4 seen wr (HS.out.fr (fr_below HB2.out []) (by simp) (by simp) (by simp)))
      go_wp2_with fail
      refine HC.out.mono ?_; rintro e w4 ⟨v, rfl, hb4, hl4⟩
      have HB4 := Lib.hid (below_call HB2.out hb4 HB2.out.size)
      have HR4 := Lib.hid (HR2.out.same (hat_below hb4 HR2.out.lt))
      have HN4 := Lib.hid (HN2.out.same (hat_below hb4 HN2.out.lt))
      have HL4 := Lib.hid hl4
      have HZ : Hid (∀ gl, wr.heap.size ≤ gl → gl ≠ gt ∧ gl ≠ gr) := Lib.hid (fun gl h => ⟨by have := HN2.out.lt; omega, by have := HR2.out.lt; omega⟩)
      clear hl4 hb4 HC HB2 HR2 HN2 hs2 hs2l hcI hIld hcIl a1 a2 a3 a4 hk2
      cases hsw : slotsW E.S (blksW E.S (I i)) [] with
      | none =>
       have HBAD : Hid (¬ DirsOk E.S I M) := Lib.hid (fun h => by
        obtain ⟨l, e, -⟩ := h i hi1 hiM2 HK2.out
        rw [hsw] at e; cases e)
       simp only [Option.isSome_none]
       go_wp2_with fail
       go_ret3
       simp only []
       exact ⟨_, _, false, rfl, HB4.out, ⟨fun h => (by cases h), fun h => absurd h HBAD.out⟩, fun h => (by cases h)⟩
      | some l =>
       have HSW := Lib.hid hsw
       obtain ⟨al, cl, rfl, HSL⟩ : ∃ al cl, v = .slice al l.length cl ∧ Hid (l ≠ [] → ∃ gl, al = some ⟨gl, 0, none⟩ ∧ wr.heap.size ≤ gl ∧ Slots w4 gl l) := by
        rcases slots_of (HL4.out l hsw) with ⟨rfl, a, c, rfl⟩ | ⟨g, c, rfl, h1, h2⟩
        ·exact ⟨a, c, rfl, Lib.hid (fun h => absurd rfl h)⟩
        ·exact ⟨_, c, rfl, Lib.hid (fun _ => ⟨g, rfl, h1, h2⟩)⟩
       have HEL := Lib.hid (entL_yes hi1 hiM2 HK2.out hsw)
       have HLL : Hid (l.length ≤ 1068) := Lib.hid (by have := HL.out i; rw [HEL.out] at this; exact this)
       have hll : l.length ≤ 1068 := HLL.out
       have HNR4 := Lib.hid (HNR.out.into l)
       have HN5 : Hid (NumR w4 gt M (fun j => ((cntI (entL E.S I M) i j + (l.take 0).countP (fun e => decide (e.1 = (j : Int))) : Nat) : Int))) := Lib.hid (by
        have e : (fun j : Nat => ((cntI (entL E.S I M) i j + (l.take 0).countP (fun e => decide (e.1 = (j : Int))) : Nat) : Int)) = fun j => (cntI (entL E.S I M) i j : Int) := by
         funext j; simp
        rw [e]; exact HN4.out)
       clear HL4 HNR HN4 hsw
       simp only [Option.isSome_some]
       go_wp2_with fail
       go_loopw [7, 11] (fun mv kv wr5 => ∃ (mo : Bool) (k : Nat) (rch : Int → Bool), mv = .bool mo ∧ kv = .int .i64 k ∧ k ≤ l.length ∧ Hid (Below w.heap.size w wr5) ∧ Hid (Fr [gt, gr] w4 wr5) ∧ Hid (Bools wr5 gr M rch) ∧
        Hid (NumR wr5 gt M (fun j => ((cntI (entL E.S I M) i j + (l.take k).countP (fun e => decide (e.1 = (j : Int))) : Nat) : Int))) ∧ Hid (NR E.S I M i l k rch0 rch mo)) (fun _ v _ => l.length - (intOf v).toNat)
       case atStart => exact ⟨mo, 0, rch, rfl, rfl, by omega, HB4, Lib.hid (Fr.refl _ _), HR4, HN5, HNR4⟩
       case round =>
        clear HB4 HR4 HN5 HNR4
        obtain ⟨mo, k, rch, rfl, rfl, hkl', HB5, HF5, HR5, HN5, HNR5⟩ := hrel
        have hk0 : (0 : Int) ≤ (k : Int) := Int.natCast_nonneg _
        by_cases hkl : k < l.length
        ·obtain ⟨gl, rfl, hgl0, hSl⟩ := HSL.out (fun h => by rw [h] at hkl; cases hkl)
         have hgt1 : gl ≠ gt := (HZ.out gl hgl0).1
         have hgr1 : gl ≠ gr := (HZ.out gl hgl0).2
         have hki : (k : Int) < (l.length : Int) := by omega
         obtain ⟨x, nm, hlk⟩ : ∃ x nm, l[k]? = some (x, nm) := ⟨_, _, List.getElem?_eq_getElem hkl⟩
         obtain ⟨csS, hS0, hSall⟩ := hSl
         have hSc := (HF5.out.block gl (hat_lt hS0) (by simp [hgt1, hgr1])).trans hS0
         obtain ⟨hx1, hk1⟩ := hSall k x nm hlk
         have HSA := Lib.hid hSall
         have hsr := (hop HB5.out hs).1
         have HLK := Lib.hid hlk
         have HMEM : Hid ((x, nm) ∈ l) := Lib.hid (List.mem_of_getElem? hlk)
         have HNO : Hid (∀ I' : Prop, (EntOk I M l → False) → ¬ DirsOk E.S I M) := Lib.hid (fun _ h => dirs_no hi1 hiM2 HK2.out HSW.out h)
         have hsrl := hat_lt hsr
         have hScl := hat_lt hSc
         clear hSall hS0 hlk
         by_cases hx2 : x < 2
         ·have HBAD : Hid (¬ DirsOk E.S I M) := Lib.hid (HNO.out True (fun h => by have := (h.1 _ HMEM.out).1; have : (2 : Int) ≤ x := this; omega))
          go_wp2_with fail
          refine wp_region_vals (by kernel_rfl) 34 (by decide) rfl (fun i => match i with | 0 => (.slice (some ⟨gl, 0, none⟩) l.length cl) | 1 => (.int .i64 (k : Int)) | 2 => (.pointer (some ⟨gl, k * 2, none⟩)) | 3 => (.pointer (some ⟨gl, k * 2, none⟩)) | 4 => (.int .i64 x) | 5 => (.bool true) | 6 => (.bool true) | 7 => undef | 8 => undef | 9 => undef | 10 => undef | 11 => undef | 12 => undef | 13 => undef | 14 => undef | 15 => undef | 16 => undef | 17 => undef | 18 => (.bool true) | 19 => (.bool true) | 20 => undef | 21 => undef | 22 => undef | 23 => undef | 24 => undef | 25 => undef | 26 => undef | 27 => undef | 28 => undef | 29 => undef | 30 => undef | 31 => undef | 32 => undef | _ => (.bool true)) ?_ ?_
          ·intro i' o ho0 ho a' w' hB hS hF
           have hi' : i' = 0 ∨ i' = 1 ∨ i' = 2 ∨ i' = 3 ∨ i' = 4 ∨ i' = 5 ∨ i' = 6 ∨ i' = 7 ∨ i' = 8 ∨ i' = 9 ∨ i' = 10 ∨ i' = 11 ∨ i' = 12 ∨ i' = 13 ∨ i' = 14 ∨ i' = 15 ∨ i' = 16 ∨ i' = 17 ∨ i' = 18 ∨ i' = 19 ∨ i' = 20 ∨ i' = 21 ∨ i' = 22 ∨ i' = 23 ∨ i' = 24 ∨ i' = 25 ∨ i' = 26 ∨ i' = 27 ∨ i' = 28 ∨ i' = 29 ∨ i' = 30 ∨ i' = 31 ∨ i' = 32 ∨ i' = 33 := by omega
           have hsr := (hop hB hsr).1
           have hSc := (hop hB hSc).1
           rcases hi' with rfl | rfl | rfl | rfl | rfl | rfl | rfl | rfl | rfl | rfl | rfl | rfl | rfl | rfl | rfl | rfl | rfl | rfl | rfl | rfl | rfl | rfl | rfl | rfl | rfl | rfl | rfl | rfl | rfl | rfl | rfl | rfl | rfl | rfl
           all_goals (have ho' := Option.some.inj ho; subst ho')
           ·have q9 : a'.tmps[9]?.getD undef = (.slice (some ⟨gl, 0, none⟩) l.length cl) := gtx ((hS 9 (by decide)).trans rfl)
            refine wpOp_val_g rfl (wanted_free rfl) ?_ ⟨rfl, hB⟩
            simp [go_sem, q9]
           ·have q11 : a'.tmps[11]?.getD undef = (.int .i64 (k : Int)) := gtx ((hS 11 (by decide)).trans rfl)
            refine wpOp_val_g rfl (wanted_free rfl) ?_ ⟨rfl, hB⟩
            simp [go_sem, q11]
           ·have q72 := gtx (hF 0 (by decide) _ 72 rfl rfl)
            have q73 := gtx (hF 1 (by decide) _ 73 rfl rfl)
            refine wpOp_val_g rfl (wanted_free rfl) ?_ ⟨rfl, hB⟩
            simp [go_sem, q72, q73, hkl, hk0, hki]
           ·have q74 := gtx (hF 2 (by decide) _ 74 rfl rfl)
            refine wpOp_val_g rfl (wanted_free rfl) ?_ ⟨rfl, hB⟩
            simp [go_sem, q74]
           ·have q75 := gtx (hF 3 (by decide) _ 75 rfl rfl)
            refine wpOp_val_g rfl (wanted_free rfl) ?_ ⟨rfl, hB⟩
            simp [go_sem, q75, hSc, hx1]
           ·have q76 := gtx (hF 4 (by decide) _ 76 rfl rfl)
            refine wpOp_val_g rfl (wanted_free rfl) ?_ ⟨rfl, hB⟩
            simp [go_sem, q76, hx2]
           ·have q77 := gtx (hF 5 (by decide) _ 77 rfl rfl)
            refine wpOp_val_g rfl (wanted_free rfl) ?_ ⟨rfl, hB⟩
            simp [go_sem, q77]
           ·exact wpOp_shut rfl rfl rfl rfl (hF 6 (by decide) _ 78 rfl rfl) rfl ⟨rfl, hB⟩
           ·exact wpOp_shut rfl rfl rfl rfl (hF 6 (by decide) _ 78 rfl rfl) rfl ⟨rfl, hB⟩
           ·exact wpOp_shut rfl rfl rfl rfl (hF 6 (by decide) _ 78 rfl rfl) rfl ⟨rfl, hB⟩
           ·exact wpOp_shut rfl rfl rfl rfl (hF 6 (by decide) _ 78 rfl rfl) rfl ⟨rfl, hB⟩
           ·exact wpOp_shut rfl rfl rfl rfl (hF 6 (by decide) _ 78 rfl rfl) rfl ⟨rfl, hB⟩
           ·exact wpOp_shut rfl rfl rfl rfl (hF 6 (by decide) _ 78 rfl rfl) rfl ⟨rfl, hB⟩
           ·exact wpOp_shut rfl rfl rfl rfl (hF 6 (by decide) _ 78 rfl rfl) rfl ⟨rfl, hB⟩
           ·exact wpOp_shut rfl rfl rfl rfl (hF 6 (by decide) _ 78 rfl rfl) rfl ⟨rfl, hB⟩
           ·exact wpOp_shut rfl rfl rfl rfl (hF 6 (by decide) _ 78 rfl rfl) rfl ⟨rfl, hB⟩
           ·exact wpOp_shut rfl rfl rfl rfl (hF 6 (by decide) _ 78 rfl rfl) rfl ⟨rfl, hB⟩
           ·exact wpOp_shut rfl rfl rfl rfl (hF 6 (by decide) _ 78 rfl rfl) rfl ⟨rfl, hB⟩
           ·have q78 := gtx (hF 6 (by decide) _ 78 rfl rfl)
            have q89 := gtx (hF 17 (by decide) _ 89 rfl rfl)
            refine wpOp_val_g rfl (wanted_free rfl) ?_ ⟨rfl, hB⟩
            simp [go_sem, q78, q89]
           ·have q90 := gtx (hF 18 (by decide) _ 90 rfl rfl)
            refine wpOp_val_g rfl (wanted_free rfl) ?_ ⟨rfl, hB⟩
            simp [go_sem, q90]
           ·exact wpOp_shut rfl rfl rfl rfl (hF 19 (by decide) _ 91 rfl rfl) rfl ⟨rfl, hB⟩
           ·exact wpOp_shut rfl rfl rfl rfl (hF 19 (by decide) _ 91 rfl rfl) rfl ⟨rfl, hB⟩
           ·exact wpOp_shut rfl rfl rfl rfl (hF 19 (by decide) _ 91 rfl rfl) rfl ⟨rfl, hB⟩
           ·exact wpOp_shut rfl rfl rfl rfl (hF 19 (by decide) _ 91 rfl rfl) rfl ⟨rfl, hB⟩
           ·exact wpOp_shut rfl rfl rfl rfl (hF 19 (by decide) _ 91 rfl rfl) rfl ⟨rfl, hB⟩
           ·exact wpOp_shut rfl rfl rfl rfl (hF 19 (by decide) _ 91 rfl rfl) rfl ⟨rfl, hB⟩
           ·exact wpOp_shut rfl rfl rfl rfl (hF 19 (by decide) _ 91 rfl rfl) rfl ⟨rfl, hB⟩
           ·exact wpOp_shut rfl rfl rfl rfl (hF 19 (by decide) _ 91 rfl rfl) rfl ⟨rfl, hB⟩
           ·exact wpOp_shut rfl rfl rfl rfl (hF 19 (by decide) _ 91 rfl rfl) rfl ⟨rfl, hB⟩
           ·exact wpOp_shut rfl rfl rfl rfl (hF 19 (by decide) _ 91 rfl rfl) rfl ⟨rfl, hB⟩
           ·exact wpOp_shut rfl rfl rfl rfl (hF 19 (by decide) _ 91 rfl rfl) rfl ⟨rfl, hB⟩
           ·exact wpOp_shut rfl rfl rfl rfl (hF 19 (by decide) _ 91 rfl rfl) rfl ⟨rfl, hB⟩
           ·exact wpOp_shut rfl rfl rfl rfl (hF 19 (by decide) _ 91 rfl rfl) rfl ⟨rfl, hB⟩
           ·have q91 := gtx (hF 19 (by decide) _ 91 rfl rfl)
            have q104 := gtx (hF 32 (by decide) _ 104 rfl rfl)
            refine wpOp_val_g rfl (wanted_free rfl) ?_ ⟨rfl, hB⟩
            simp [go_sem, q91, q104]
          ·intro w5 hB5
           simp only [putAll, List.take, List.drop, List.take_succ_cons, List.drop_succ_cons, Act.put, List.setIfInBounds_toArray, List.set_cons_zero, List.set_cons_succ]
           have HB6 := Lib.hid (below_call HB5.out hB5 HB5.out.size)
           go_wp2_with fail
           go_ret3
           simp only []
           exact ⟨_, _, false, rfl, HB6.out, ⟨fun h => (by cases h), fun h => absurd h HBAD.out⟩, fun h => (by cases h)⟩
         ·obtain ⟨xn, hxe0⟩ := Int.eq_ofNat_of_zero_le (show 0 ≤ x by omega)
          by_cases hx3 : (M : Int) ≤ x
          ·have HBAD : Hid (¬ DirsOk E.S I M) := Lib.hid (HNO.out True (fun h => by have := (h.1 _ HMEM.out).2.1; have : x < (M : Int) := this; omega))
           clear hxe0
           go_wp2_with fail
           refine wp_region_vals (by kernel_rfl) 34 (by decide) rfl (fun i => match i with | 0 => (.slice (some ⟨gl, 0, none⟩) l.length cl) | 1 => (.int .i64 (k : Int)) | 2 => (.pointer (some ⟨gl, k * 2, none⟩)) | 3 => (.pointer (some ⟨gl, k * 2, none⟩)) | 4 => (.int .i64 x) | 5 => (.bool false) | 6 => (.bool false) | 7 => (.slice (some ⟨gl, 0, none⟩) l.length cl) | 8 => (.int .i64 (k : Int)) | 9 => (.pointer (some ⟨gl, k * 2, none⟩)) | 10 => (.pointer (some ⟨gl, k * 2, none⟩)) | 11 => (.int .i64 x) | 12 => (.pointer (some ⟨E.g, 0, none⟩)) | 13 => (.pointer (some ⟨E.g, 0, none⟩)) | 14 => (.pointer (some ⟨E.g, 4, none⟩)) | 15 => (.slice (some ⟨gn, 0, none⟩) M cn) | 16 => (.int .i64 (M : Int)) | 17 => (.bool true) | 18 => (.bool true) | 19 => (.bool true) | 20 => undef | 21 => undef | 22 => undef | 23 => undef | 24 => undef | 25 => undef | 26 => undef | 27 => undef | 28 => undef | 29 => undef | 30 => undef | 31 => undef | 32 => undef | _ => (.bool true)) ?_ ?_
           ·intro i' o ho0 ho a' w' hB hS hF
            have hi' : i' = 0 ∨ i' = 1 ∨ i' = 2 ∨ i' = 3 ∨ i' = 4 ∨ i' = 5 ∨ i' = 6 ∨ i' = 7 ∨ i' = 8 ∨ i' = 9 ∨ i' = 10 ∨ i' = 11 ∨ i' = 12 ∨ i' = 13 ∨ i' = 14 ∨ i' = 15 ∨ i' = 16 ∨ i' = 17 ∨ i' = 18 ∨ i' = 19 ∨ i' = 20 ∨ i' = 21 ∨ i' = 22 ∨ i' = 23 ∨ i' = 24 ∨ i' = 25 ∨ i' = 26 ∨ i' = 27 ∨ i' = 28 ∨ i' = 29 ∨ i' = 30 ∨ i' = 31 ∨ i' = 32 ∨ i' = 33 := by omega
            have hsr := (hop hB hsr).1
            have hSc := (hop hB hSc).1
            rcases hi' with rfl | rfl | rfl | rfl | rfl | rfl | rfl | rfl | rfl | rfl | rfl | rfl | rfl | rfl | rfl | rfl | rfl | rfl | rfl | rfl | rfl | rfl | rfl | rfl | rfl | rfl | rfl | rfl | rfl | rfl | rfl | rfl | rfl | rfl
            all_goals (have ho' := Option.some.inj ho; subst ho')
            ·have q9 : a'.tmps[9]?.getD undef = (.slice (some ⟨gl, 0, none⟩) l.length cl) := gtx ((hS 9 (by decide)).trans rfl)
             refine wpOp_val_g rfl (wanted_free rfl) ?_ ⟨rfl, hB⟩
             simp [go_sem, q9]
            ·have q11 : a'.tmps[11]?.getD undef = (.int .i64 (k : Int)) := gtx ((hS 11 (by decide)).trans rfl)
             refine wpOp_val_g rfl (wanted_free rfl) ?_ ⟨rfl, hB⟩
             simp [go_sem, q11]
            ·have q72 := gtx (hF 0 (by decide) _ 72 rfl rfl)
             have q73 := gtx (hF 1 (by decide) _ 73 rfl rfl)
             refine wpOp_val_g rfl (wanted_free rfl) ?_ ⟨rfl, hB⟩
             simp [go_sem, q72, q73, hkl, hk0, hki]
            ·have q74 := gtx (hF 2 (by decide) _ 74 rfl rfl)
             refine wpOp_val_g rfl (wanted_free rfl) ?_ ⟨rfl, hB⟩
             simp [go_sem, q74]
            ·have q75 := gtx (hF 3 (by decide) _ 75 rfl rfl)
             refine wpOp_val_g rfl (wanted_free rfl) ?_ ⟨rfl, hB⟩
             simp [go_sem, q75, hSc, hx1]
            ·have q76 := gtx (hF 4 (by decide) _ 76 rfl rfl)
             refine wpOp_val_g rfl (wanted_free rfl) ?_ ⟨rfl, hB⟩
             simp [go_sem, q76, hx2]
            ·have q77 := gtx (hF 5 (by decide) _ 77 rfl rfl)
             refine wpOp_val_g rfl (wanted_free rfl) ?_ ⟨rfl, hB⟩
             simp [go_sem, q77]
            ·have q9 : a'.tmps[9]?.getD undef = (.slice (some ⟨gl, 0, none⟩) l.length cl) := gtx ((hS 9 (by decide)).trans rfl)
             refine wpOp_val_g rfl (wanted_of rfl rfl rfl (hF 6 (by decide) _ 78 rfl rfl)) ?_ ⟨rfl, hB⟩
             simp [go_sem, q9]
            ·have q11 : a'.tmps[11]?.getD undef = (.int .i64 (k : Int)) := gtx ((hS 11 (by decide)).trans rfl)
             refine wpOp_val_g rfl (wanted_of rfl rfl rfl (hF 6 (by decide) _ 78 rfl rfl)) ?_ ⟨rfl, hB⟩
             simp [go_sem, q11]
            ·have q79 := gtx (hF 7 (by decide) _ 79 rfl rfl)
             have q80 := gtx (hF 8 (by decide) _ 80 rfl rfl)
             refine wpOp_val_g rfl (wanted_of rfl rfl rfl (hF 6 (by decide) _ 78 rfl rfl)) ?_ ⟨rfl, hB⟩
             simp [go_sem, q79, q80, hkl, hk0, hki]
            ·have q81 := gtx (hF 9 (by decide) _ 81 rfl rfl)
             refine wpOp_val_g rfl (wanted_of rfl rfl rfl (hF 6 (by decide) _ 78 rfl rfl)) ?_ ⟨rfl, hB⟩
             simp [go_sem, q81]
            ·have q82 := gtx (hF 10 (by decide) _ 82 rfl rfl)
             refine wpOp_val_g rfl (wanted_of rfl rfl rfl (hF 6 (by decide) _ 78 rfl rfl)) ?_ ⟨rfl, hB⟩
             simp [go_sem, q82, hSc, hx1]
            ·have q0 : a'.tmps[0]?.getD undef = (.pointer (some ⟨E.g, 0, none⟩)) := gtx ((hS 0 (by decide)).trans rfl)
             refine wpOp_val_g rfl (wanted_of rfl rfl rfl (hF 6 (by decide) _ 78 rfl rfl)) ?_ ⟨rfl, hB⟩
             simp [go_sem, q0]
            ·have q84 := gtx (hF 12 (by decide) _ 84 rfl rfl)
             refine wpOp_val_g rfl (wanted_of rfl rfl rfl (hF 6 (by decide) _ 78 rfl rfl)) ?_ ⟨rfl, hB⟩
             simp [go_sem, q84]
            ·have q85 := gtx (hF 13 (by decide) _ 85 rfl rfl)
             refine wpOp_val_g rfl (wanted_of rfl rfl rfl (hF 6 (by decide) _ 78 rfl rfl)) ?_ ⟨rfl, hB⟩
             simp [go_sem, q85]
            ·have q86 := gtx (hF 14 (by decide) _ 86 rfl rfl)
             refine wpOp_val_g rfl (wanted_of rfl rfl rfl (hF 6 (by decide) _ 78 rfl rfl)) ?_ ⟨rfl, hB⟩
             simp [go_sem, q86, hsr]
            ·have q87 := gtx (hF 15 (by decide) _ 87 rfl rfl)
             refine wpOp_val_g rfl (wanted_of rfl rfl rfl (hF 6 (by decide) _ 78 rfl rfl)) ?_ ⟨rfl, hB⟩
             simp [go_sem, q87]
            ·have q83 := gtx (hF 11 (by decide) _ 83 rfl rfl)
             have q88 := gtx (hF 16 (by decide) _ 88 rfl rfl)
             refine wpOp_val_g rfl (wanted_of rfl rfl rfl (hF 6 (by decide) _ 78 rfl rfl)) ?_ ⟨rfl, hB⟩
             simp [go_sem, q83, q88, hx3]
            ·have q78 := gtx (hF 6 (by decide) _ 78 rfl rfl)
             have q89 := gtx (hF 17 (by decide) _ 89 rfl rfl)
             refine wpOp_val_g rfl (wanted_free rfl) ?_ ⟨rfl, hB⟩
             simp [go_sem, q78, q89]
            ·have q90 := gtx (hF 18 (by decide) _ 90 rfl rfl)
             refine wpOp_val_g rfl (wanted_free rfl) ?_ ⟨rfl, hB⟩
             simp [go_sem, q90]
            ·exact wpOp_shut rfl rfl rfl rfl (hF 19 (by decide) _ 91 rfl rfl) rfl ⟨rfl, hB⟩
            ·exact wpOp_shut rfl rfl rfl rfl (hF 19 (by decide) _ 91 rfl rfl) rfl ⟨rfl, hB⟩
            ·exact wpOp_shut rfl rfl rfl rfl (hF 19 (by decide) _ 91 rfl rfl) rfl ⟨rfl, hB⟩
            ·exact wpOp_shut rfl rfl rfl rfl (hF 19 (by decide) _ 91 rfl rfl) rfl ⟨rfl, hB⟩
            ·exact wpOp_shut rfl rfl rfl rfl (hF 19 (by decide) _ 91 rfl rfl) rfl ⟨rfl, hB⟩
            ·exact wpOp_shut rfl rfl rfl rfl (hF 19 (by decide) _ 91 rfl rfl) rfl ⟨rfl, hB⟩
            ·exact wpOp_shut rfl rfl rfl rfl (hF 19 (by decide) _ 91 rfl rfl) rfl ⟨rfl, hB⟩
            ·exact wpOp_shut rfl rfl rfl rfl (hF 19 (by decide) _ 91 rfl rfl) rfl ⟨rfl, hB⟩
            ·exact wpOp_shut rfl rfl rfl rfl (hF 19 (by decide) _ 91 rfl rfl) rfl ⟨rfl, hB⟩
            ·exact wpOp_shut rfl rfl rfl rfl (hF 19 (by decide) _ 91 rfl rfl) rfl ⟨rfl, hB⟩
            ·exact wpOp_shut rfl rfl rfl rfl (hF 19 (by decide) _ 91 rfl rfl) rfl ⟨rfl, hB⟩
            ·exact wpOp_shut rfl rfl rfl rfl (hF 19 (by decide) _ 91 rfl rfl) rfl ⟨rfl, hB⟩
            ·exact wpOp_shut rfl rfl rfl rfl (hF 19 (by decide) _ 91 rfl rfl) rfl ⟨rfl, hB⟩
            ·have q91 := gtx (hF 19 (by decide) _ 91 rfl rfl)
             have q104 := gtx (hF 32 (by decide) _ 104 rfl rfl)
             refine wpOp_val_g rfl (wanted_free rfl) ?_ ⟨rfl, hB⟩
             simp [go_sem, q91, q104]
           ·intro w5 hB5
            simp only [putAll, List.take, List.drop, List.take_succ_cons, List.drop_succ_cons, Act.put, List.setIfInBounds_toArray, List.set_cons_zero, List.set_cons_succ]
            have HB6 := Lib.hid (below_call HB5.out hB5 HB5.out.size)
            go_wp2_with fail
            go_ret3
            simp only []
            exact ⟨_, _, false, rfl, HB6.out, ⟨fun h => (by cases h), fun h => absurd h HBAD.out⟩, fun h => (by cases h)⟩
          ·subst hxe0
           have hxM : xn < M := by omega
           have hxN : (xn : Int) < (M : Int) := by omega
           have hxi : (0 : Int) ≤ (xn : Int) := Int.natCast_nonneg _
           have hxe : True := trivial
           have hIx := (HIN.out.same (hat_below HB5.out HIN.out.lt))
           obtain ⟨csJ, hIc, -, -, hIall⟩ := hIx.load hxM
           have hx5 := hIall 0 (by omega)
           rw [Nat.add_zero] at hx5
           clear hIall
           by_cases hxk0 : nth (I xn) 0 = 0
           ·have hxk : (nth (I xn) 0 == 0) = true := by simpa using hxk0
            have HBAD : Hid (¬ DirsOk E.S I M) := Lib.hid (HNO.out True (fun h => by have := (h.1 _ HMEM.out).2.2; rw [Int.toNat_natCast] at this; exact this hxk0))
            go_wp2_with fail
            refine wp_region_vals (by kernel_rfl) 34 (by decide) rfl (fun i => match i with | 0 => (.slice (some ⟨gl, 0, none⟩) l.length cl) | 1 => (.int .i64 (k : Int)) | 2 => (.pointer (some ⟨gl, k * 2, none⟩)) | 3 => (.pointer (some ⟨gl, k * 2, none⟩)) | 4 => (.int .i64 (xn : Int)) | 5 => (.bool false) | 6 => (.bool false) | 7 => (.slice (some ⟨gl, 0, none⟩) l.length cl) | 8 => (.int .i64 (k : Int)) | 9 => (.pointer (some ⟨gl, k * 2, none⟩)) | 10 => (.pointer (some ⟨gl, k * 2, none⟩)) | 11 => (.int .i64 (xn : Int)) | 12 => (.pointer (some ⟨E.g, 0, none⟩)) | 13 => (.pointer (some ⟨E.g, 0, none⟩)) | 14 => (.pointer (some ⟨E.g, 4, none⟩)) | 15 => (.slice (some ⟨gn, 0, none⟩) M cn) | 16 => (.int .i64 (M : Int)) | 17 => (.bool false) | 18 => (.bool false) | 19 => (.bool false) | 20 => (.pointer (some ⟨E.g, 0, none⟩)) | 21 => (.pointer (some ⟨E.g, 0, none⟩)) | 22 => (.pointer (some ⟨E.g, 4, none⟩)) | 23 => (.slice (some ⟨gn, 0, none⟩) M cn) | 24 => (.slice (some ⟨gl, 0, none⟩) l.length cl) | 25 => (.int .i64 (k : Int)) | 26 => (.pointer (some ⟨gl, k * 2, none⟩)) | 27 => (.pointer (some ⟨gl, k * 2, none⟩)) | 28 => (.int .i64 (xn : Int)) | 29 => (.pointer (some ⟨gn, xn * 18, none⟩)) | 30 => (.pointer (some ⟨gn, xn * 18, none⟩)) | 31 => (.int .i64 (nth (I xn) 0)) | 32 => (.bool true) | _ => (.bool true)) ?_ ?_
            ·intro i' o ho0 ho a' w' hB hS hF
             have hi' : i' = 0 ∨ i' = 1 ∨ i' = 2 ∨ i' = 3 ∨ i' = 4 ∨ i' = 5 ∨ i' = 6 ∨ i' = 7 ∨ i' = 8 ∨ i' = 9 ∨ i' = 10 ∨ i' = 11 ∨ i' = 12 ∨ i' = 13 ∨ i' = 14 ∨ i' = 15 ∨ i' = 16 ∨ i' = 17 ∨ i' = 18 ∨ i' = 19 ∨ i' = 20 ∨ i' = 21 ∨ i' = 22 ∨ i' = 23 ∨ i' = 24 ∨ i' = 25 ∨ i' = 26 ∨ i' = 27 ∨ i' = 28 ∨ i' = 29 ∨ i' = 30 ∨ i' = 31 ∨ i' = 32 ∨ i' = 33 := by omega
             have hsr := (hop hB hsr).1
             have hSc := (hop hB hSc).1
             have hIc := (hop hB hIc).1
             rcases hi' with rfl | rfl | rfl | rfl | rfl | rfl | rfl | rfl | rfl | rfl | rfl | rfl | rfl | rfl | rfl | rfl | rfl | rfl | rfl | rfl | rfl | rfl | rfl | rfl | rfl | rfl | rfl | rfl | rfl | rfl | rfl | rfl | rfl | rfl
             all_goals (have ho' := Option.some.inj ho; subst ho')
             ·have q9 : a'.tmps[9]?.getD undef = (.slice (some ⟨gl, 0, none⟩) l.length cl) := gtx ((hS 9 (by decide)).trans rfl)
              refine wpOp_val_g rfl (wanted_free rfl) ?_ ⟨rfl, hB⟩
              simp [go_sem, q9]
             ·have q11 : a'.tmps[11]?.getD undef = (.int .i64 (k : Int)) := gtx ((hS 11 (by decide)).trans rfl)
              refine wpOp_val_g rfl (wanted_free rfl) ?_ ⟨rfl, hB⟩
              simp [go_sem, q11]
             ·have q72 := gtx (hF 0 (by decide) _ 72 rfl rfl)
              have q73 := gtx (hF 1 (by decide) _ 73 rfl rfl)
              refine wpOp_val_g rfl (wanted_free rfl) ?_ ⟨rfl, hB⟩
              simp [go_sem, q72, q73, hkl, hk0, hki]
             ·have q74 := gtx (hF 2 (by decide) _ 74 rfl rfl)
              refine wpOp_val_g rfl (wanted_free rfl) ?_ ⟨rfl, hB⟩
              simp [go_sem, q74]
             ·have q75 := gtx (hF 3 (by decide) _ 75 rfl rfl)
              refine wpOp_val_g rfl (wanted_free rfl) ?_ ⟨rfl, hB⟩
              simp [go_sem, q75, hSc, hx1]
             ·have q76 := gtx (hF 4 (by decide) _ 76 rfl rfl)
              refine wpOp_val_g rfl (wanted_free rfl) ?_ ⟨rfl, hB⟩
              simp [go_sem, q76, hx2]
             ·have q77 := gtx (hF 5 (by decide) _ 77 rfl rfl)
              refine wpOp_val_g rfl (wanted_free rfl) ?_ ⟨rfl, hB⟩
              simp [go_sem, q77]
             ·have q9 : a'.tmps[9]?.getD undef = (.slice (some ⟨gl, 0, none⟩) l.length cl) := gtx ((hS 9 (by decide)).trans rfl)
              refine wpOp_val_g rfl (wanted_of rfl rfl rfl (hF 6 (by decide) _ 78 rfl rfl)) ?_ ⟨rfl, hB⟩
              simp [go_sem, q9]
             ·have q11 : a'.tmps[11]?.getD undef = (.int .i64 (k : Int)) := gtx ((hS 11 (by decide)).trans rfl)
              refine wpOp_val_g rfl (wanted_of rfl rfl rfl (hF 6 (by decide) _ 78 rfl rfl)) ?_ ⟨rfl, hB⟩
              simp [go_sem, q11]
             ·have q79 := gtx (hF 7 (by decide) _ 79 rfl rfl)
              have q80 := gtx (hF 8 (by decide) _ 80 rfl rfl)
              refine wpOp_val_g rfl (wanted_of rfl rfl rfl (hF 6 (by decide) _ 78 rfl rfl)) ?_ ⟨rfl, hB⟩
              simp [go_sem, q79, q80, hkl, hk0, hki]
             ·have q81 := gtx (hF 9 (by decide) _ 81 rfl rfl)
              refine wpOp_val_g rfl (wanted_of rfl rfl rfl (hF 6 (by decide) _ 78 rfl rfl)) ?_ ⟨rfl, hB⟩
              simp [go_sem, q81]
             ·have q82 := gtx (hF 10 (by decide) _ 82 rfl rfl)
              refine wpOp_val_g rfl (wanted_of rfl rfl rfl (hF 6 (by decide) _ 78 rfl rfl)) ?_ ⟨rfl, hB⟩
              simp [go_sem, q82, hSc, hx1]
             ·have q0 : a'.tmps[0]?.getD undef = (.pointer (some ⟨E.g, 0, none⟩)) := gtx ((hS 0 (by decide)).trans rfl)
              refine wpOp_val_g rfl (wanted_of rfl rfl rfl (hF 6 (by decide) _ 78 rfl rfl)) ?_ ⟨rfl, hB⟩
              simp [go_sem, q0]
             ·have q84 := gtx (hF 12 (by decide) _ 84 rfl rfl)
              refine wpOp_val_g rfl (wanted_of rfl rfl rfl (hF 6 (by decide) _ 78 rfl rfl)) ?_ ⟨rfl, hB⟩
              simp [go_sem, q84]
             ·have q85 := gtx (hF 13 (by decide) _ 85 rfl rfl)
              refine wpOp_val_g rfl (wanted_of rfl rfl rfl (hF 6 (by decide) _ 78 rfl rfl)) ?_ ⟨rfl, hB⟩
              simp [go_sem, q85]
             ·have q86 := gtx (hF 14 (by decide) _ 86 rfl rfl)
              refine wpOp_val_g rfl (wanted_of rfl rfl rfl (hF 6 (by decide) _ 78 rfl rfl)) ?_ ⟨rfl, hB⟩
              simp [go_sem, q86, hsr]
             ·have q87 := gtx (hF 15 (by decide) _ 87 rfl rfl)
              refine wpOp_val_g rfl (wanted_of rfl rfl rfl (hF 6 (by decide) _ 78 rfl rfl)) ?_ ⟨rfl, hB⟩
              simp [go_sem, q87]
             ·have q83 := gtx (hF 11 (by decide) _ 83 rfl rfl)
              have q88 := gtx (hF 16 (by decide) _ 88 rfl rfl)
              refine wpOp_val_g rfl (wanted_of rfl rfl rfl (hF 6 (by decide) _ 78 rfl rfl)) ?_ ⟨rfl, hB⟩
              simp [go_sem, q83, q88, hx3, hxM]
             ·have q78 := gtx (hF 6 (by decide) _ 78 rfl rfl)
              have q89 := gtx (hF 17 (by decide) _ 89 rfl rfl)
              refine wpOp_val_g rfl (wanted_free rfl) ?_ ⟨rfl, hB⟩
              simp [go_sem, q78, q89]
             ·have q90 := gtx (hF 18 (by decide) _ 90 rfl rfl)
              refine wpOp_val_g rfl (wanted_free rfl) ?_ ⟨rfl, hB⟩
              simp [go_sem, q90]
             ·have q0 : a'.tmps[0]?.getD undef = (.pointer (some ⟨E.g, 0, none⟩)) := gtx ((hS 0 (by decide)).trans rfl)
              refine wpOp_val_g rfl (wanted_of rfl rfl rfl (hF 19 (by decide) _ 91 rfl rfl)) ?_ ⟨rfl, hB⟩
              simp [go_sem, q0]
             ·have q92 := gtx (hF 20 (by decide) _ 92 rfl rfl)
              refine wpOp_val_g rfl (wanted_of rfl rfl rfl (hF 19 (by decide) _ 91 rfl rfl)) ?_ ⟨rfl, hB⟩
              simp [go_sem, q92]
             ·have q93 := gtx (hF 21 (by decide) _ 93 rfl rfl)
              refine wpOp_val_g rfl (wanted_of rfl rfl rfl (hF 19 (by decide) _ 91 rfl rfl)) ?_ ⟨rfl, hB⟩
              simp [go_sem, q93]
             ·have q94 := gtx (hF 22 (by decide) _ 94 rfl rfl)
              refine wpOp_val_g rfl (wanted_of rfl rfl rfl (hF 19 (by decide) _ 91 rfl rfl)) ?_ ⟨rfl, hB⟩
              simp [go_sem, q94, hsr]
             ·have q9 : a'.tmps[9]?.getD undef = (.slice (some ⟨gl, 0, none⟩) l.length cl) := gtx ((hS 9 (by decide)).trans rfl)
              refine wpOp_val_g rfl (wanted_of rfl rfl rfl (hF 19 (by decide) _ 91 rfl rfl)) ?_ ⟨rfl, hB⟩
              simp [go_sem, q9]
             ·have q11 : a'.tmps[11]?.getD undef = (.int .i64 (k : Int)) := gtx ((hS 11 (by decide)).trans rfl)
              refine wpOp_val_g rfl (wanted_of rfl rfl rfl (hF 19 (by decide) _ 91 rfl rfl)) ?_ ⟨rfl, hB⟩
              simp [go_sem, q11]
             ·have q96 := gtx (hF 24 (by decide) _ 96 rfl rfl)
              have q97 := gtx (hF 25 (by decide) _ 97 rfl rfl)
              refine wpOp_val_g rfl (wanted_of rfl rfl rfl (hF 19 (by decide) _ 91 rfl rfl)) ?_ ⟨rfl, hB⟩
              simp [go_sem, q96, q97, hkl, hk0, hki]
             ·have q98 := gtx (hF 26 (by decide) _ 98 rfl rfl)
              refine wpOp_val_g rfl (wanted_of rfl rfl rfl (hF 19 (by decide) _ 91 rfl rfl)) ?_ ⟨rfl, hB⟩
              simp [go_sem, q98]
             ·have q99 := gtx (hF 27 (by decide) _ 99 rfl rfl)
              refine wpOp_val_g rfl (wanted_of rfl rfl rfl (hF 19 (by decide) _ 91 rfl rfl)) ?_ ⟨rfl, hB⟩
              simp [go_sem, q99, hSc, hx1]
             ·have q95 := gtx (hF 23 (by decide) _ 95 rfl rfl)
              have q100 := gtx (hF 28 (by decide) _ 100 rfl rfl)
              refine wpOp_val_g rfl (wanted_of rfl rfl rfl (hF 19 (by decide) _ 91 rfl rfl)) ?_ ⟨rfl, hB⟩
              simp [go_sem, q95, q100, hxe, hxM, hxN, hxi]
             ·have q101 := gtx (hF 29 (by decide) _ 101 rfl rfl)
              refine wpOp_val_g rfl (wanted_of rfl rfl rfl (hF 19 (by decide) _ 91 rfl rfl)) ?_ ⟨rfl, hB⟩
              simp [go_sem, q101]
             ·have q102 := gtx (hF 30 (by decide) _ 102 rfl rfl)
              refine wpOp_val_g rfl (wanted_of rfl rfl rfl (hF 19 (by decide) _ 91 rfl rfl)) ?_ ⟨rfl, hB⟩
              simp [go_sem, q102, hIc, hx5]
             ·have q103 := gtx (hF 31 (by decide) _ 103 rfl rfl)
              refine wpOp_val_g rfl (wanted_of rfl rfl rfl (hF 19 (by decide) _ 91 rfl rfl)) ?_ ⟨rfl, hB⟩
              simp [go_sem, q103, hxk]
             ·have q91 := gtx (hF 19 (by decide) _ 91 rfl rfl)
              have q104 := gtx (hF 32 (by decide) _ 104 rfl rfl)
              refine wpOp_val_g rfl (wanted_free rfl) ?_ ⟨rfl, hB⟩
              simp [go_sem, q91, q104]
            ·intro w5 hB5
             simp only [putAll, List.take, List.drop, List.take_succ_cons, List.drop_succ_cons, Act.put, List.setIfInBounds_toArray, List.set_cons_zero, List.set_cons_succ]
             have HB6 := Lib.hid (below_call HB5.out hB5 HB5.out.size)
             go_wp2_with fail
             go_ret3
             simp only []
             exact ⟨_, _, false, rfl, HB6.out, ⟨fun h => (by cases h), fun h => absurd h HBAD.out⟩, fun h => (by cases h)⟩
           ·have hxk : (nth (I xn) 0 == 0) = false := by simpa using hxk0
            have HXK := Lib.hid hxk0
            clear hxk0
            go_wp2_with fail
            refine wp_region_vals (by kernel_rfl) 34 (by decide) rfl (fun i => match i with | 0 => (.slice (some ⟨gl, 0, none⟩) l.length cl) | 1 => (.int .i64 (k : Int)) | 2 => (.pointer (some ⟨gl, k * 2, none⟩)) | 3 => (.pointer (some ⟨gl, k * 2, none⟩)) | 4 => (.int .i64 (xn : Int)) | 5 => (.bool false) | 6 => (.bool false) | 7 => (.slice (some ⟨gl, 0, none⟩) l.length cl) | 8 => (.int .i64 (k : Int)) | 9 => (.pointer (some ⟨gl, k * 2, none⟩)) | 10 => (.pointer (some ⟨gl, k * 2, none⟩)) | 11 => (.int .i64 (xn : Int)) | 12 => (.pointer (some ⟨E.g, 0, none⟩)) | 13 => (.pointer (some ⟨E.g, 0, none⟩)) | 14 => (.pointer (some ⟨E.g, 4, none⟩)) | 15 => (.slice (some ⟨gn, 0, none⟩) M cn) | 16 => (.int .i64 (M : Int)) | 17 => (.bool false) | 18 => (.bool false) | 19 => (.bool false) | 20 => (.pointer (some ⟨E.g, 0, none⟩)) | 21 => (.pointer (some ⟨E.g, 0, none⟩)) | 22 => (.pointer (some ⟨E.g, 4, none⟩)) | 23 => (.slice (some ⟨gn, 0, none⟩) M cn) | 24 => (.slice (some ⟨gl, 0, none⟩) l.length cl) | 25 => (.int .i64 (k : Int)) | 26 => (.pointer (some ⟨gl, k * 2, none⟩)) | 27 => (.pointer (some ⟨gl, k * 2, none⟩)) | 28 => (.int .i64 (xn : Int)) | 29 => (.pointer (some ⟨gn, xn * 18, none⟩)) | 30 => (.pointer (some ⟨gn, xn * 18, none⟩)) | 31 => (.int .i64 (nth (I xn) 0)) | 32 => (.bool false) | _ => (.bool false)) ?_ ?_
            ·intro i' o ho0 ho a' w' hB hS hF
             have hi' : i' = 0 ∨ i' = 1 ∨ i' = 2 ∨ i' = 3 ∨ i' = 4 ∨ i' = 5 ∨ i' = 6 ∨ i' = 7 ∨ i' = 8 ∨ i' = 9 ∨ i' = 10 ∨ i' = 11 ∨ i' = 12 ∨ i' = 13 ∨ i' = 14 ∨ i' = 15 ∨ i' = 16 ∨ i' = 17 ∨ i' = 18 ∨ i' = 19 ∨ i' = 20 ∨ i' = 21 ∨ i' = 22 ∨ i' = 23 ∨ i' = 24 ∨ i' = 25 ∨ i' = 26 ∨ i' = 27 ∨ i' = 28 ∨ i' = 29 ∨ i' = 30 ∨ i' = 31 ∨ i' = 32 ∨ i' = 33 := by omega
             have hsr := (hop hB hsr).1
             have hSc := (hop hB hSc).1
             have hIc := (hop hB hIc).1
             rcases hi' with rfl | rfl | rfl | rfl | rfl | rfl | rfl | rfl | rfl | rfl | rfl | rfl | rfl | rfl | rfl | rfl | rfl | rfl | rfl | rfl | rfl | rfl | rfl | rfl | rfl | rfl | rfl | rfl | rfl | rfl | rfl | rfl | rfl | rfl
             all_goals (have ho' := Option.some.inj ho; subst ho')
             ·have q9 : a'.tmps[9]?.getD undef = (.slice (some ⟨gl, 0, none⟩) l.length cl) := gtx ((hS 9 (by decide)).trans rfl)
              refine wpOp_val_g rfl (wanted_free rfl) ?_ ⟨rfl, hB⟩
              simp [go_sem, q9]
             ·have q11 : a'.tmps[11]?.getD undef = (.int .i64 (k : Int)) := gtx ((hS 11 (by decide)).trans rfl)
              refine wpOp_val_g rfl (wanted_free rfl) ?_ ⟨rfl, hB⟩
              simp [go_sem, q11]
             ·have q72 := gtx (hF 0 (by decide) _ 72 rfl rfl)
              have q73 := gtx (hF 1 (by decide) _ 73 rfl rfl)
              refine wpOp_val_g rfl (wanted_free rfl) ?_ ⟨rfl, hB⟩
              simp [go_sem, q72, q73, hkl, hk0, hki]
             ·have q74 := gtx (hF 2 (by decide) _ 74 rfl rfl)
              refine wpOp_val_g rfl (wanted_free rfl) ?_ ⟨rfl, hB⟩
              simp [go_sem, q74]
             ·have q75 := gtx (hF 3 (by decide) _ 75 rfl rfl)
              refine wpOp_val_g rfl (wanted_free rfl) ?_ ⟨rfl, hB⟩
              simp [go_sem, q75, hSc, hx1]
             ·have q76 := gtx (hF 4 (by decide) _ 76 rfl rfl)
              refine wpOp_val_g rfl (wanted_free rfl) ?_ ⟨rfl, hB⟩
              simp [go_sem, q76, hx2]
             ·have q77 := gtx (hF 5 (by decide) _ 77 rfl rfl)
              refine wpOp_val_g rfl (wanted_free rfl) ?_ ⟨rfl, hB⟩
              simp [go_sem, q77]
             ·have q9 : a'.tmps[9]?.getD undef = (.slice (some ⟨gl, 0, none⟩) l.length cl) := gtx ((hS 9 (by decide)).trans rfl)
              refine wpOp_val_g rfl (wanted_of rfl rfl rfl (hF 6 (by decide) _ 78 rfl rfl)) ?_ ⟨rfl, hB⟩
              simp [go_sem, q9]
             ·have q11 : a'.tmps[11]?.getD undef = (.int .i64 (k : Int)) := gtx ((hS 11 (by decide)).trans rfl)
              refine wpOp_val_g rfl (wanted_of rfl rfl rfl (hF 6 (by decide) _ 78 rfl rfl)) ?_ ⟨rfl, hB⟩
              simp [go_sem, q11]
             ·have q79 := gtx (hF 7 (by decide) _ 79 rfl rfl)
              have q80 := gtx (hF 8 (by decide) _ 80 rfl rfl)
              refine wpOp_val_g rfl (wanted_of rfl rfl rfl (hF 6 (by decide) _ 78 rfl rfl)) ?_ ⟨rfl, hB⟩
              simp [go_sem, q79, q80, hkl, hk0, hki]
             ·have q81 := gtx (hF 9 (by decide) _ 81 rfl rfl)
              refine wpOp_val_g rfl (wanted_of rfl rfl rfl (hF 6 (by decide) _ 78 rfl rfl)) ?_ ⟨rfl, hB⟩
              simp [go_sem, q81]
             ·have q82 := gtx (hF 10 (by decide) _ 82 rfl rfl)
              refine wpOp_val_g rfl (wanted_of rfl rfl rfl (hF 6 (by decide) _ 78 rfl rfl)) ?_ ⟨rfl, hB⟩
              simp [go_sem, q82, hSc, hx1]
             ·have q0 : a'.tmps[0]?.getD undef = (.pointer (some ⟨E.g, 0, none⟩)) := gtx ((hS 0 (by decide)).trans rfl)
              refine wpOp_val_g rfl (wanted_of rfl rfl rfl (hF 6 (by decide) _ 78 rfl rfl)) ?_ ⟨rfl, hB⟩
              simp [go_sem, q0]
             ·have q84 := gtx (hF 12 (by decide) _ 84 rfl rfl)
              refine wpOp_val_g rfl (wanted_of rfl rfl rfl (hF 6 (by decide) _ 78 rfl rfl)) ?_ ⟨rfl, hB⟩
              simp [go_sem, q84]
             ·have q85 := gtx (hF 13 (by decide) _ 85 rfl rfl)
              refine wpOp_val_g rfl (wanted_of rfl rfl rfl (hF 6 (by decide) _ 78 rfl rfl)) ?_ ⟨rfl, hB⟩
              simp [go_sem, q85]
             ·have q86 := gtx (hF 14 (by decide) _ 86 rfl rfl)
              refine wpOp_val_g rfl (wanted_of rfl rfl rfl (hF 6 (by decide) _ 78 rfl rfl)) ?_ ⟨rfl, hB⟩
              simp [go_sem, q86, hsr]
             ·have q87 := gtx (hF 15 (by decide) _ 87 rfl rfl)
              refine wpOp_val_g rfl (wanted_of rfl rfl rfl (hF 6 (by decide) _ 78 rfl rfl)) ?_ ⟨rfl, hB⟩
              simp [go_sem, q87]
             ·have q83 := gtx (hF 11 (by decide) _ 83 rfl rfl)
              have q88 := gtx (hF 16 (by decide) _ 88 rfl rfl)
              refine wpOp_val_g rfl (wanted_of rfl rfl rfl (hF 6 (by decide) _ 78 rfl rfl)) ?_ ⟨rfl, hB⟩
              simp [go_sem, q83, q88, hx3, hxM]
             ·have q78 := gtx (hF 6 (by decide) _ 78 rfl rfl)
              have q89 := gtx (hF 17 (by decide) _ 89 rfl rfl)
              refine wpOp_val_g rfl (wanted_free rfl) ?_ ⟨rfl, hB⟩
              simp [go_sem, q78, q89]
             ·have q90 := gtx (hF 18 (by decide) _ 90 rfl rfl)
              refine wpOp_val_g rfl (wanted_free rfl) ?_ ⟨rfl, hB⟩
              simp [go_sem, q90]
             ·have q0 : a'.tmps[0]?.getD undef = (.pointer (some ⟨E.g, 0, none⟩)) := gtx ((hS 0 (by decide)).trans rfl)
              refine wpOp_val_g rfl (wanted_of rfl rfl rfl (hF 19 (by decide) _ 91 rfl rfl)) ?_ ⟨rfl, hB⟩
              simp [go_sem, q0]
             ·have q92 := gtx (hF 20 (by decide) _ 92 rfl rfl)
              refine wpOp_val_g rfl (wanted_of rfl rfl rfl (hF 19 (by decide) _ 91 rfl rfl)) ?_ ⟨rfl, hB⟩
              simp [go_sem, q92]
             ·have q93 := gtx (hF 21 (by decide) _ 93 rfl rfl)
              refine wpOp_val_g rfl (wanted_of rfl rfl rfl (hF 19 (by decide) _ 91 rfl rfl)) ?_ ⟨rfl, hB⟩
              simp [go_sem, q93]
             ·have q94 := gtx (hF 22 (by decide) _ 94 rfl rfl)
              refine wpOp_val_g rfl (wanted_of rfl rfl rfl (hF 19 (by decide) _ 91 rfl rfl)) ?_ ⟨rfl, hB⟩
              simp [go_sem, q94, hsr]
             ·have q9 : a'.tmps[9]?.getD undef = (.slice (some ⟨gl, 0, none⟩) l.length cl) := gtx ((hS 9 (by decide)).trans rfl)
              refine wpOp_val_g rfl (wanted_of rfl rfl rfl (hF 19 (by decide) _ 91 rfl rfl)) ?_ ⟨rfl, hB⟩
              simp [go_sem, q9]
             ·have q11 : a'.tmps[11]?.getD undef = (.int .i64 (k : Int)) := gtx ((hS 11 (by decide)).trans rfl)
              refine wpOp_val_g rfl (wanted_of rfl rfl rfl (hF 19 (by decide) _ 91 rfl rfl)) ?_ ⟨rfl, hB⟩
              simp [go_sem, q11]
             ·have q96 := gtx (hF 24 (by decide) _ 96 rfl rfl)
              have q97 := gtx (hF 25 (by decide) _ 97 rfl rfl)
              refine wpOp_val_g rfl (wanted_of rfl rfl rfl (hF 19 (by decide) _ 91 rfl rfl)) ?_ ⟨rfl, hB⟩
              simp [go_sem, q96, q97, hkl, hk0, hki]
             ·have q98 := gtx (hF 26 (by decide) _ 98 rfl rfl)
              refine wpOp_val_g rfl (wanted_of rfl rfl rfl (hF 19 (by decide) _ 91 rfl rfl)) ?_ ⟨rfl, hB⟩
              simp [go_sem, q98]
             ·have q99 := gtx (hF 27 (by decide) _ 99 rfl rfl)
              refine wpOp_val_g rfl (wanted_of rfl rfl rfl (hF 19 (by decide) _ 91 rfl rfl)) ?_ ⟨rfl, hB⟩
              simp [go_sem, q99, hSc, hx1]
             ·have q95 := gtx (hF 23 (by decide) _ 95 rfl rfl)
              have q100 := gtx (hF 28 (by decide) _ 100 rfl rfl)
              refine wpOp_val_g rfl (wanted_of rfl rfl rfl (hF 19 (by decide) _ 91 rfl rfl)) ?_ ⟨rfl, hB⟩
              simp [go_sem, q95, q100, hxe, hxM, hxN, hxi]
             ·have q101 := gtx (hF 29 (by decide) _ 101 rfl rfl)
              refine wpOp_val_g rfl (wanted_of rfl rfl rfl (hF 19 (by decide) _ 91 rfl rfl)) ?_ ⟨rfl, hB⟩
              simp [go_sem, q101]
             ·have q102 := gtx (hF 30 (by decide) _ 102 rfl rfl)
              refine wpOp_val_g rfl (wanted_of rfl rfl rfl (hF 19 (by decide) _ 91 rfl rfl)) ?_ ⟨rfl, hB⟩
              simp [go_sem, q102, hIc, hx5]
             ·have q103 := gtx (hF 31 (by decide) _ 103 rfl rfl)
              refine wpOp_val_g rfl (wanted_of rfl rfl rfl (hF 19 (by decide) _ 91 rfl rfl)) ?_ ⟨rfl, hB⟩
              simp [go_sem, q103, hxk]
             ·have q91 := gtx (hF 19 (by decide) _ 91 rfl rfl)
              have q104 := gtx (hF 32 (by decide) _ 104 rfl rfl)
              refine wpOp_val_g rfl (wanted_free rfl) ?_ ⟨rfl, hB⟩
              simp [go_sem, q91, q104]
            ·intro w5 hB5
             simp only [putAll, List.take, List.drop, List.take_succ_cons, List.drop_succ_cons, Act.put, List.setIfInBounds_toArray, List.set_cons_zero, List.set_cons_succ]
             have HB6 := Lib.hid (below_call HB5.out hB5 HB5.out.size)
             have HF6 := Lib.hid (HF5.out.trans (fr_below hB5 [gt, gr]))
             have HR6 := Lib.hid (HR5.out.same (hat_below hB5 HR5.out.lt))
             have HN6 := Lib.hid (HN5.out.same (hat_below hB5 HN5.out.lt))
             have hSc6 := (hop hB5 hSc).1
             have hSc6l := hat_lt hSc6
             clear hB5 HB5 HF5 HR5 HN5 hSc hSc6l hScl hsr hsrl hIc hIx hx5
             go_wp2_with fail
             go_loopw [12] (fun jv wr6 => ∃ j : Nat, jv = .int .i64 j ∧ j ≤ k ∧ Hid (Below w5.heap.size w5 wr6) ∧ Hid (∀ j', j' < j → (l[j']?).map Prod.snd ≠ some nm)) (fun v _ => k - (intOf v).toNat)
             case atStart => exact ⟨0, rfl, by omega, Lib.hid (Below.refl _ _), Lib.hid (fun j' h => by omega)⟩
             case round =>
              obtain ⟨j, rfl, hjk, HBj, HNM⟩ := hrel
              have hj0 : (0 : Int) ≤ (j : Int) := Int.natCast_nonneg _
              have hSc := (hop HBj.out hSc6).1
              have hScl := hat_lt hSc
              by_cases hjk2 : j < k
              ·have hjki : (j : Int) < (k : Int) := by omega
               have hjl : j < l.length := by omega
               have hji : (j : Int) < (l.length : Int) := by omega
               obtain ⟨xj, nj, hlj⟩ : ∃ x nm, l[j]? = some (x, nm) := ⟨_, _, List.getElem?_eq_getElem hjl⟩
               have hj1 := (HSA.out j xj nj hlj).2
               have HLJ := Lib.hid hlj
               clear hlj
               by_cases hnn0 : nj = nm
               ·have hnn : nj.toList = nm.toList := by rw [hnn0]
                have HBAD : Hid (¬ DirsOk E.S I M) := Lib.hid (HNO.out True (fun h => by have hlj := HLJ.out; rw [hnn0] at hlj; exact names_twice hlj HLK.out hjk2 h))
                clear hnn0
                go_wp2_with fail
                refine wp_region_vals (by kernel_rfl) 11 (by decide) rfl (fun i => match i with | 0 => (.slice (some ⟨gl, 0, none⟩) l.length cl) | 1 => (.int .i64 (j : Int)) | 2 => (.pointer (some ⟨gl, j * 2, none⟩)) | 3 => (.pointer (some ⟨gl, j * 2 + 1, none⟩)) | 4 => (.string nj) | 5 => (.slice (some ⟨gl, 0, none⟩) l.length cl) | 6 => (.int .i64 (k : Int)) | 7 => (.pointer (some ⟨gl, k * 2, none⟩)) | 8 => (.pointer (some ⟨gl, k * 2 + 1, none⟩)) | 9 => (.string nm) | _ => (.bool true)) ?_ ?_
                ·intro i' o ho0 ho a' w' hB hS hF
                 have hi' : i' = 0 ∨ i' = 1 ∨ i' = 2 ∨ i' = 3 ∨ i' = 4 ∨ i' = 5 ∨ i' = 6 ∨ i' = 7 ∨ i' = 8 ∨ i' = 9 ∨ i' = 10 := by omega
                 have hSc := (hop hB hSc).1
                 rcases hi' with rfl | rfl | rfl | rfl | rfl | rfl | rfl | rfl | rfl | rfl | rfl
                 all_goals (have ho' := Option.some.inj ho; subst ho')
                 ·have q9 : a'.tmps[9]?.getD undef = (.slice (some ⟨gl, 0, none⟩) l.length cl) := gtx ((hS 9 (by decide)).trans rfl)
                  refine wpOp_val_g rfl (wanted_free rfl) ?_ ⟨rfl, hB⟩
                  simp [go_sem, q9]
                 ·have q12 : a'.tmps[12]?.getD undef = (.int .i64 (j : Int)) := gtx ((hS 12 (by decide)).trans rfl)
                  refine wpOp_val_g rfl (wanted_free rfl) ?_ ⟨rfl, hB⟩
                  simp [go_sem, q12]
                 ·have q111 := gtx (hF 0 (by decide) _ 111 rfl rfl)
                  have q112 := gtx (hF 1 (by decide) _ 112 rfl rfl)
                  refine wpOp_val_g rfl (wanted_free rfl) ?_ ⟨rfl, hB⟩
                  simp [go_sem, q111, q112, hjl, hj0, hji]
                 ·have q113 := gtx (hF 2 (by decide) _ 113 rfl rfl)
                  refine wpOp_val_g rfl (wanted_free rfl) ?_ ⟨rfl, hB⟩
                  simp [go_sem, q113]
                 ·have q114 := gtx (hF 3 (by decide) _ 114 rfl rfl)
                  refine wpOp_val_g rfl (wanted_free rfl) ?_ ⟨rfl, hB⟩
                  simp [go_sem, q114, hSc, hj1]
                 ·have q9 : a'.tmps[9]?.getD undef = (.slice (some ⟨gl, 0, none⟩) l.length cl) := gtx ((hS 9 (by decide)).trans rfl)
                  refine wpOp_val_g rfl (wanted_free rfl) ?_ ⟨rfl, hB⟩
                  simp [go_sem, q9]
                 ·have q11 : a'.tmps[11]?.getD undef = (.int .i64 (k : Int)) := gtx ((hS 11 (by decide)).trans rfl)
                  refine wpOp_val_g rfl (wanted_free rfl) ?_ ⟨rfl, hB⟩
                  simp [go_sem, q11]
                 ·have q116 := gtx (hF 5 (by decide) _ 116 rfl rfl)
                  have q117 := gtx (hF 6 (by decide) _ 117 rfl rfl)
                  refine wpOp_val_g rfl (wanted_free rfl) ?_ ⟨rfl, hB⟩
                  simp [go_sem, q116, q117, hkl, hk0, hki]
                 ·have q118 := gtx (hF 7 (by decide) _ 118 rfl rfl)
                  refine wpOp_val_g rfl (wanted_free rfl) ?_ ⟨rfl, hB⟩
                  simp [go_sem, q118]
                 ·have q119 := gtx (hF 8 (by decide) _ 119 rfl rfl)
                  refine wpOp_val_g rfl (wanted_free rfl) ?_ ⟨rfl, hB⟩
                  simp [go_sem, q119, hSc, hk1]
                 ·have q115 := gtx (hF 4 (by decide) _ 115 rfl rfl)
                  have q120 := gtx (hF 9 (by decide) _ 120 rfl rfl)
                  refine wpOp_val_g rfl (wanted_free rfl) ?_ ⟨rfl, hB⟩
                  simp [go_sem, q115, q120, hnn]
                ·intro w5 hB5
                 simp only [putAll, List.take, List.drop, List.take_succ_cons, List.drop_succ_cons, Act.put, List.setIfInBounds_toArray, List.set_cons_zero, List.set_cons_succ]
                 have HB7 := Lib.hid (below_call HB6.out (below_call HBj.out hB5 HBj.out.size) HB6.out.size)
                 go_wp2_with fail
                 go_ret3
                 simp only []
                 exact ⟨_, _, false, rfl, HB7.out, ⟨fun h => (by cases h), fun h => absurd h HBAD.out⟩, fun h => (by cases h)⟩
               ·have hnn : ¬ nj.toList = nm.toList := fun h => hnn0 (toList_one h)
                have HNM2 : Hid (∀ j', j' < j + 1 → (l[j']?).map Prod.snd ≠ some nm) := Lib.hid (fun j' h e => by
                 by_cases hj' : j' = j
                 ·subst hj'
                  rw [HLJ.out] at e
                  exact hnn0 (Option.some.inj e)
                 ·exact HNM.out j' (by omega) e)
                clear hnn0
                go_wp2_with fail
                refine wp_region_vals (by kernel_rfl) 11 (by decide) rfl (fun i => match i with | 0 => (.slice (some ⟨gl, 0, none⟩) l.length cl) | 1 => (.int .i64 (j : Int)) | 2 => (.pointer (some ⟨gl, j * 2, none⟩)) | 3 => (.pointer (some ⟨gl, j * 2 + 1, none⟩)) | 4 => (.string nj) | 5 => (.slice (some ⟨gl, 0, none⟩) l.length cl) | 6 => (.int .i64 (k : Int)) | 7 => (.pointer (some ⟨gl, k * 2, none⟩)) | 8 => (.pointer (some ⟨gl, k * 2 + 1, none⟩)) | 9 => (.string nm) | _ => (.bool false)) ?_ ?_
                ·intro i' o ho0 ho a' w' hB hS hF
                 have hi' : i' = 0 ∨ i' = 1 ∨ i' = 2 ∨ i' = 3 ∨ i' = 4 ∨ i' = 5 ∨ i' = 6 ∨ i' = 7 ∨ i' = 8 ∨ i' = 9 ∨ i' = 10 := by omega
                 have hSc := (hop hB hSc).1
                 rcases hi' with rfl | rfl | rfl | rfl | rfl | rfl | rfl | rfl | rfl | rfl | rfl
                 all_goals (have ho' := Option.some.inj ho; subst ho')
                 ·have q9 : a'.tmps[9]?.getD undef = (.slice (some ⟨gl, 0, none⟩) l.length cl) := gtx ((hS 9 (by decide)).trans rfl)
                  refine wpOp_val_g rfl (wanted_free rfl) ?_ ⟨rfl, hB⟩
                  simp [go_sem, q9]
                 ·have q12 : a'.tmps[12]?.getD undef = (.int .i64 (j : Int)) := gtx ((hS 12 (by decide)).trans rfl)
                  refine wpOp_val_g rfl (wanted_free rfl) ?_ ⟨rfl, hB⟩
                  simp [go_sem, q12]
                 ·have q111 := gtx (hF 0 (by decide) _ 111 rfl rfl)
                  have q112 := gtx (hF 1 (by decide) _ 112 rfl rfl)
                  refine wpOp_val_g rfl (wanted_free rfl) ?_ ⟨rfl, hB⟩
                  simp [go_sem, q111, q112, hjl, hj0, hji]
                 ·have q113 := gtx (hF 2 (by decide) _ 113 rfl rfl)
                  refine wpOp_val_g rfl (wanted_free rfl) ?_ ⟨rfl, hB⟩
                  simp [go_sem, q113]
                 ·have q114 := gtx (hF 3 (by decide) _ 114 rfl rfl)
                  refine wpOp_val_g rfl (wanted_free rfl) ?_ ⟨rfl, hB⟩
                  simp [go_sem, q114, hSc, hj1]
                 ·have q9 : a'.tmps[9]?.getD undef = (.slice (some ⟨gl, 0, none⟩) l.length cl) := gtx ((hS 9 (by decide)).trans rfl)
                  refine wpOp_val_g rfl (wanted_free rfl) ?_ ⟨rfl, hB⟩
                  simp [go_sem, q9]
                 ·have q11 : a'.tmps[11]?.getD undef = (.int .i64 (k : Int)) := gtx ((hS 11 (by decide)).trans rfl)
                  refine wpOp_val_g rfl (wanted_free rfl) ?_ ⟨rfl, hB⟩
                  simp [go_sem, q11]
                 ·have q116 := gtx (hF 5 (by decide) _ 116 rfl rfl)
                  have q117 := gtx (hF 6 (by decide) _ 117 rfl rfl)
                  refine wpOp_val_g rfl (wanted_free rfl) ?_ ⟨rfl, hB⟩
                  simp [go_sem, q116, q117, hkl, hk0, hki]
                 ·have q118 := gtx (hF 7 (by decide) _ 118 rfl rfl)
                  refine wpOp_val_g rfl (wanted_free rfl) ?_ ⟨rfl, hB⟩
                  simp [go_sem, q118]
                 ·have q119 := gtx (hF 8 (by decide) _ 119 rfl rfl)
                  refine wpOp_val_g rfl (wanted_free rfl) ?_ ⟨rfl, hB⟩
                  simp [go_sem, q119, hSc, hk1]
                 ·have q115 := gtx (hF 4 (by decide) _ 115 rfl rfl)
                  have q120 := gtx (hF 9 (by decide) _ 120 rfl rfl)
                  refine wpOp_val_g rfl (wanted_free rfl) ?_ ⟨rfl, hB⟩
                  simp [go_sem, q115, q120, hnn]
                ·intro w5 hB5
                 simp only [putAll, List.take, List.drop, List.take_succ_cons, List.drop_succ_cons, Act.put, List.setIfInBounds_toArray, List.set_cons_zero, List.set_cons_succ]
                 have HB7 := Lib.hid (below_call HBj.out hB5 HBj.out.size)
                 clear hB5
                 go_wp2_with fail
                 go_roundw
                 case rel => exact ⟨j + 1, by go_num, by omega, HB7, HNM2⟩
                 case measure => (show k - (j + 1) < k - j); omega
              ·obtain rfl : j = k := by omega
               have hjki : ¬ (j : Int) < (j : Int) := by omega
               have HOK := Lib.hid (ent_snoc HNR5.out.ok HLK.out (show 2 ≤ xn by omega) hxM HXK.out (names_apart HNM.out))
               have HBk := Lib.hid (below_call HB6.out HBj.out HB6.out.size)
               have HFk := Lib.hid (HF6.out.trans (fr_below HBj.out [gt, gr]))
               have HRk := Lib.hid (HR6.out.same (hat_below HBj.out HR6.out.lt))
               have HNk := Lib.hid (HN6.out.same (hat_below HBj.out HN6.out.lt))
               have HFN : Hid (0 ≤ ((cntI (entL E.S I M) i xn + (l.take j).countP (fun e => decide (e.1 = (xn : Int))) : Nat) : Int) ∧ ((cntI (entL E.S I M) i xn + (l.take j).countP (fun e => decide (e.1 = (xn : Int))) : Nat) : Int) ≤ 5000000) := Lib.hid (by
                have h1 := cntI_le (L := entL E.S I M) (m := 1068) (i := i) xn (fun i' _ => HL.out i')
                have h2 : (l.take j).countP (fun e => decide (e.1 = (xn : Int))) ≤ l.length := Nat.le_trans List.countP_le_length (by rw [List.length_take]; omega)
                omega)
               have hNk := HNk.out
               obtain ⟨csT, hTc, hTz, hTall⟩ := hNk
               have hTx := hTall xn hxM
               obtain ⟨hc0, hc1⟩ := HFN.out
               simp only [] at hTx
               obtain ⟨c, hce⟩ : ∃ c : Int, c = ((cntI (entL E.S I M) i xn + (l.take j).countP (fun e => decide (e.1 = (xn : Int))) : Nat) : Int) := ⟨_, rfl⟩
               rw [← hce] at hTx hc0 hc1
               have HCE := Lib.hid hce
               clear hce
               have hTcl := hat_lt hTc
               clear hTall HFN HBj HB6 HF6 HR6 HN6 hSc6
               go_upto_region 26 with fail
               have HN7 : Hid (NumR (wr.setCell ⟨gt, xn, none⟩ (.int .i64 (c + 1))) gt M (fun j' => ((cntI (entL E.S I M) i j' + (l.take (j + 1)).countP (fun e => decide (e.1 = (j' : Int))) : Nat) : Int))) := Lib.hid (HNk.out.put hxM (fun j' => by
                simp only [take_count HLK.out, decide_eq_true_eq]
                by_cases hj' : xn = j'
                ·subst hj'
                 rw [if_pos rfl, if_pos rfl, HCE.out]; omega
                ·rw [if_neg hj', if_neg (show ¬ (xn : Int) = (j' : Int) by omega)]; rfl))
               have HR7 : Hid (Bools (wr.setCell ⟨gt, xn, none⟩ (.int .i64 (c + 1))) gr M rch) := Lib.hid (HRk.out.same (hat_setCell _ ⟨gt, xn, none⟩ _ _ hgrt))
               have HB7 : Hid (Below w.heap.size w (wr.setCell ⟨gt, xn, none⟩ (.int .i64 (c + 1)))) := Lib.hid (HBk.out.setCell HGT.out _)
               have HF7 : Hid (Fr [gt, gr] w4 (wr.setCell ⟨gt, xn, none⟩ (.int .i64 (c + 1)))) := Lib.hid (HFk.out.trans ((fr_setCell wr gt xn _).mono (by simp)))
               have hSc7 : hat (wr.setCell ⟨gt, xn, none⟩ (.int .i64 (c + 1))) gl = some (.cells csS 125) := (hat_setCell _ ⟨gt, xn, none⟩ _ _ hgt1).trans hSc
               generalize wr.setCell ⟨gt, xn, none⟩ (.int .i64 (c + 1)) = w7 at *
               clear hSc hScl hTc hTz hTx hTcl HBk HFk HRk HNk HCE hc0 hc1
               have hR7 := HR7.out
               obtain ⟨csR, hRc, hRz, hRall⟩ := hR7
               have hRi := hRall i hiM2
               have hRx := hRall xn hxM
               have hRcl := hat_lt hRc
               have hSc7l := hat_lt hSc7
               clear hRall
               cases hri : rch (i : Int) with
               | false =>
                rw [hri] at hRi
                have HNR8 := Lib.hid (HNR5.out.same HLK.out HOK.out (fun h => by rw [hri] at h; cases h))
                clear hri
                go_wp2_with fail
                go_roundw
                case rel => exact ⟨mo, j + 1, rch, rfl, by go_num, by omega, HB7, HF7, HR7, HN7, HNR8⟩
                case measure => (show l.length - (j + 1) < l.length - j); omega
               | true =>
                rw [hri] at hRi
                cases hrx : rch (xn : Int) with
                | true =>
                 rw [hrx] at hRx
                 have HNR8 := Lib.hid (HNR5.out.same HLK.out HOK.out (fun _ => hrx))
                 clear hri hrx
                 go_wp2_with fail
                 go_roundw
                 case rel => exact ⟨mo, j + 1, rch, rfl, by go_num, by omega, HB7, HF7, HR7, HN7, HNR8⟩
                 case measure => (show l.length - (j + 1) < l.length - j); omega
                | false =>
                 rw [hrx] at hRx
                 have HNR8 := Lib.hid (HNR5.out.more HLK.out HOK.out hi1 hiM2 hxM HK2.out HSW.out hri hrx)
                 have HR8 := Lib.hid (HR7.out.put (p := xn) hxM)
                 have HB8 : Hid (Below w.heap.size w (w7.setCell ⟨gr, xn, none⟩ (.bool true))) := Lib.hid (HB7.out.setCell HGR.out _)
                 have HF8 : Hid (Fr [gt, gr] w4 (w7.setCell ⟨gr, xn, none⟩ (.bool true))) := Lib.hid (HF7.out.trans ((fr_setCell w7 gr xn _).mono (by simp)))
                 have HN8 := Lib.hid (HN7.out.same (hat_setCell w7 ⟨gr, xn, none⟩ (.bool true) gt (Ne.symm hgrt)))
                 clear hri hrx
                 go_wp2_with fail
                 go_roundw
                 case rel => exact ⟨true, j + 1, addS rch xn, rfl, by go_num, by omega, HB8, HF8, HR8, HN8, HNR8⟩
                 case measure => (show l.length - (j + 1) < l.length - j); omega
        ·obtain rfl : k = l.length := by omega
         have HNR6 := Lib.hid (HNR5.out.over hi1 hiM2 HK2.out HSW.out)
         have HN6 : Hid (NumR wr gt M (fun j => (cntI (entL E.S I M) (i + 1) j : Int))) := Lib.hid (by
          have e : (fun j : Nat => (cntI (entL E.S I M) (i + 1) j : Int)) = fun j => ((cntI (entL E.S I M) i j + (l.take l.length).countP (fun e => decide (e.1 = (j : Int))) : Nat) : Int) := by
           funext j
           rw [cntI_succ, HEL.out, List.take_of_length_le (Nat.le_refl _)]
          rw [e]; exact HN5.out)
         go_wp2_with fail
         go_roundw
         case rel => exact ⟨mo, i + 1, rch, rfl, by go_num, by omega, by omega, HB5, HR5, HN6, HNR6⟩
         case measure => (show M - (i + 1) < M - i); omega
     ·have hkd : (nth (I i) 0 != 2) = true := by simpa using hk2
      have HNR1 := Lib.hid (HNR.out.skip hk2)
      have HN3 : Hid (NumR wr gt M (fun j => (cntI (entL E.S I M) (i + 1) j : Int))) := Lib.hid (by
       have e : (fun j : Nat => (cntI (entL E.S I M) (i + 1) j : Int)) = fun j => (cntI (entL E.S I M) i j : Int) := by
        funext j
        rw [cntI_succ, entL_no hk2]; rfl
       rw [e]; exact HN2.out)
      clear hk2
      go_wp2_with fail
      go_roundw
      case rel => exact ⟨_, i + 1, rch, rfl, by go_num, by omega, by omega, HB2, HR2, HN3, HNR1⟩
      case measure => (show M - (i + 1) < M - i); omega
    ·obtain rfl : i = M := by omega
     have HOUT : Hid (unr i rch + (if mo = true then 1 else 0) < gk) := Lib.hid (by
      have h1 : unr i rch0 + 1 ≤ gk := by simpa using HG.out
      have h2 := HNR.out.un
      cases mo with
      | true => have := h2.2 rfl; rw [if_pos rfl]; omega
      | false => rw [if_neg (by simp)]; omega)
     have HEND : Hid (mo = false → DirsOk E.S I i ∧ RchIs (entL E.S I i) i rch ∧ ∃ gt' ct, Value.slice (some ⟨gt, 0, none⟩) i i = .slice (some ⟨gt', 0, none⟩) i ct ∧ NumR wr gt' i (fun j => (cntI (entL E.S I i) i j : Int))) := Lib.hid (fun hm => by
      obtain ⟨e1, e2, -⟩ := HNR.out.cl hm
      exact ⟨fun i' a b => HNR.out.dn i' a b, ⟨HNR.out.one, fun i' hi' hr e he => e2 i' hi' hr e he, HNR.out.low⟩, gt, i, rfl, HN2.out⟩)
     go_wp2_with fail
     go_roundg (unr i rch + (if mo = true then 1 else 0))
     case measure => exact HOUT.out
     case rel => exact ⟨mo, rch, rfl, HB2, HR2, Lib.hid HNR.out.one, Lib.hid HNR.out.low, Lib.hid (Nat.le_refl _), HEND⟩
end Go.Proofs.YtmnecpnkkapflaaGreat
