import Derived.Laws.MakeOwn
import Derived.Test.YtmnecpnkkapflaaGreatM03
import Derived.Test.YtmnecpnkkapflaaGreatM05
import Derived.Test.YtmnecpnkkapflaaGreatM09
namespace Go.Proofs.YtmnecpnkkapflaaGreat
set_option maxHeartbeats 16000000
set_option maxRecDepth 1000000
set_option linter.unusedSimpArgs false
set_option linter.unusedVariables false
open Go.RowKit
def hangW (S : Nat → List Int) (p : Int) (i : Nat) : Int := if p = 0 then 0 else nth (rdPtr (S p.toNat)) i
def blkW (S : Nat → List Int) (raw : List Int) (k : Nat) : Int :=
 if k < 12 then nth raw (4 + k) else if k < 44 then hangW S (nth raw 16) (k - 12) else hangW S (if nth raw 17 = 0 then 0 else nth (rdPtr (S (nth raw 17).toNat)) ((k - 44) / 32)) ((k - 44) % 32)
theorem block1_w {E : SEnv} (raw : List Int) (hr : raw.length = 18) (k : Nat) (hk : k < 44) (h0 : 0 ≤ nth raw 16) (h1 : nth raw 16 < E.N) (seen : Int → Bool) (w : World) (h : SG E w seen) :
  Calls Tryz.prog 65 #[.pointer (some ⟨E.g, 0, none⟩), .agg (IV .i64 raw), .int .i64 k] w fun e w' =>
   e = .returned (.int .i64 (blkW E.S raw k)) ∧ Below w.heap.size w w' := by
 have hld : ∀ r w' t fr, ldRow r 18 0 w' (some (.cells (IV .i64 raw) t fr)) = .ok (.agg (IV .i64 raw)) w' := fun r w' t fr => by rw [ldRow_part (by simp [hr])]; simp [← hr]
 have hgx := (hopN w (.cells (IV .i64 raw) 78)).1
 have hB1 : Below w.heap.size w (w.alloc (.cells (IV .i64 raw) 78)) := (Below.refl _ _).alloc (Nat.le_refl _) _
 have hs := (hop hB1 h.s).1
 have hi := h.i.same ((fr_below hB1 []).block _ h.i.lt (by simp))
 have hk0 : (0 : Int) ≤ (k : Int) := Int.natCast_nonneg _
 have HB1 := Lib.hid hB1
 have HBZ := Lib.hid hB1.size
 clear hB1 h
 have hgl := hat_lt hgx
 have hsl := hat_lt hs
 by_cases hk12 : k < 12
 ·have hcell : (IV .i64 raw)[4 + k]? = some (.int .i64 (nth raw (4 + k))) := by rw [IV_get?, nth_getElem? (by omega)]; rfl
  have hk1 : (k : Int) < 12 := by omega
  have HR : Hid (blkW E.S raw k = nth raw (4 + k)) := Lib.hid (if_pos hk12)
  go_enter Tryz.func65, Tryz.ntmps65
  go_wp2_with fail
  go_ret
  exact ⟨ret_int HR.out.symm, HB1.out⟩
 ·have hk1 : ¬ (k : Int) < 12 := by omega
  have hk2 : ¬ (44 : Int) ≤ k := by omega
  have hc16 : (IV .i64 raw)[16]? = some (.int .i64 (nth raw 16)) := by rw [IV_get?, nth_getElem? (by omega)]; rfl
  have HR : Hid (blkW E.S raw k = hangW E.S (nth raw 16) (k - 12)) := Lib.hid (by unfold blkW; rw [if_neg hk12, if_pos hk])
  by_cases hp : nth raw 16 = 0
  ·have hd : (nth raw 16 == 0) = true := by simpa using hp
   have HR2 : Hid (blkW E.S raw k = 0) := Lib.hid (by rw [HR.out]; exact if_pos hp)
   go_enter Tryz.func65, Tryz.ntmps65
   go_wp2_with fail
   go_ret
   exact ⟨ret_int HR2.out.symm, HB1.out⟩
  ·have hd : (nth raw 16 == 0) = false := by simpa using hp
   obtain ⟨p, hpp⟩ := Int.eq_ofNat_of_zero_le h0
   have hpN : p < E.N := by omega
   have hpi : (p : Int) < (E.N : Int) := by omega
   have hp0 : (0 : Int) ≤ (p : Int) := Int.natCast_nonneg _
   have HR2 : Hid (blkW E.S raw k = nth (rdPtr (E.S p)) (k - 12)) := Lib.hid (by rw [HR.out]; unfold hangW; rw [if_neg hp, hpp]; rfl)
   rw [hpp] at hc16 hd h1 h0
   obtain ⟨csI, tI, frI, hcI, hlI⟩ := hi.load hpN
   obtain ⟨lI, bI⟩ := hi.len hpN
   have HRP := Lib.hid (fun W => rreadPointers_any (E.S p) lI bI W)
   have hki : ((k : Int) - 12) = ((k - 12 : Nat) : Int) := by omega
   have hcell : (IV .i64 (rdPtr (E.S p)))[k - 12]? = some (.int .i64 (nth (rdPtr (E.S p)) (k - 12))) := by rw [IV_get?, nth_getElem? (by simp; omega)]; rfl
   have hk3 : ((k - 12 : Nat) : Int) < 32 := by omega
   clear hi lI bI HR
   go_enter Tryz.func65, Tryz.ntmps65
   go_wp2_with fail
   refine (HRP.out _).mono ?_; rintro e w2 ⟨rfl, hb⟩
   have HB2 := Lib.hid (below_call HB1.out hb HBZ.out)
   clear hb
   go_wp2_with fail
   go_ret
   exact ⟨ret_int HR2.out.symm, HB2.out⟩
theorem block2_w {E : SEnv} (raw : List Int) (hr : raw.length = 18) (k : Nat) (hk : 44 ≤ k) (hk9 : k < 1068) (h0 : 0 ≤ nth raw 17) (h1 : nth raw 17 < E.N) (hT : nth raw 17 ≠ 0 → nth (rdPtr (E.S (nth raw 17).toNat)) ((k - 44) / 32) < E.N) (seen : Int → Bool) (w : World) (h : SG E w seen) :
  Calls Tryz.prog 65 #[.pointer (some ⟨E.g, 0, none⟩), .agg (IV .i64 raw), .int .i64 k] w fun e w' =>
   e = .returned (.int .i64 (blkW E.S raw k)) ∧ Below w.heap.size w w' := by
 have hld : ∀ r w' t fr, ldRow r 18 0 w' (some (.cells (IV .i64 raw) t fr)) = .ok (.agg (IV .i64 raw)) w' := fun r w' t fr => by rw [ldRow_part (by simp [hr])]; simp [← hr]
 have hgx := (hopN w (.cells (IV .i64 raw) 78)).1
 have hB1 : Below w.heap.size w (w.alloc (.cells (IV .i64 raw) 78)) := (Below.refl _ _).alloc (Nat.le_refl _) _
 have hs := (hop hB1 h.s).1
 have hi := h.i.same ((fr_below hB1 []).block _ h.i.lt (by simp))
 have hk0 : (0 : Int) ≤ (k : Int) := Int.natCast_nonneg _
 have HB1 := Lib.hid hB1
 have HBZ := Lib.hid hB1.size
 clear hB1 h
 have hgl := hat_lt hgx
 have hsl := hat_lt hs
 have hk1 : ¬ (k : Int) < 12 := by omega
 have hk2 : (44 : Int) ≤ k := by omega
 have hc16 : (IV .i64 raw)[16]? = some (.int .i64 (nth raw 16)) := by rw [IV_get?, nth_getElem? (by omega)]; rfl
 have hc17 : (IV .i64 raw)[17]? = some (.int .i64 (nth raw 17)) := by rw [IV_get?, nth_getElem? (by omega)]; rfl
 have HR : Hid (blkW E.S raw k = hangW E.S (if nth raw 17 = 0 then 0 else nth (rdPtr (E.S (nth raw 17).toNat)) ((k - 44) / 32)) ((k - 44) % 32)) := Lib.hid (by unfold blkW; rw [if_neg (by omega), if_neg (by omega)])
 by_cases hd0 : nth raw 17 = 0
 ·have hd : (nth raw 17 != 0) = false := by simpa using hd0
  have HR2 : Hid (blkW E.S raw k = 0) := Lib.hid (by rw [HR.out, if_pos hd0]; exact if_pos rfl)
  go_enter Tryz.func65, Tryz.ntmps65
  go_wp2_with fail
  go_ret
  exact ⟨ret_int HR2.out.symm, HB1.out⟩
 ·have hd : (nth raw 17 != 0) = true := by simpa using hd0
  obtain ⟨at', hpp⟩ := Int.eq_ofNat_of_zero_le h0
  have hT' := hT hd0
  have hlt1 : at' < E.N := by omega
  rw [hpp] at hT'
  have hc17' : (IV .i64 raw)[17]? = some (.int .i64 (at' : Int)) := by rw [hc17, hpp]
  obtain ⟨csI, tI, frI, hcI, hlI⟩ := hi.load hlt1
  obtain ⟨lI, bI⟩ := hi.len hlt1
  have HPB := Lib.hid (rdPtr_small bI)
  have HRP := Lib.hid (fun W => rreadPointers_any (E.S at') lI bI W)
  have hps : (rdPtr (E.S at')).length = 32 := by simp
  simp only [Int.toNat_natCast] at hT'
  have HR3 : Hid (blkW E.S raw k = hangW E.S (nth (rdPtr (E.S at')) ((k - 44) / 32)) ((k - 44) % 32)) := Lib.hid (by rw [HR.out, if_neg hd0, hpp]; rfl)
  have hkq : (k - 44) / 32 < 32 := by omega
  have hq0 := (HPB.out _ (List.mem_iff_getElem?.2 ⟨_, nth_getElem? (l := rdPtr (E.S at')) (i := (k - 44) / 32) (by omega)⟩)).1
  have hcq : (IV .i64 (rdPtr (E.S at')))[(k - 44) / 32]? = some (.int .i64 (nth (rdPtr (E.S at')) ((k - 44) / 32))) := by rw [IV_get?, nth_getElem? (by omega)]; rfl
  generalize hqd : nth (rdPtr (E.S at')) ((k - 44) / 32) = q at *
  obtain ⟨d, hdk⟩ : ∃ d, (k - 44) / 32 = d := ⟨_, rfl⟩
  rw [hdk] at hcq hkq hqd
  have hkq' : (d : Int) < 32 := by omega
  have hkq0 : (0 : Int) ≤ (d : Int) := Int.natCast_nonneg _
  have hat1 : (at' : Int) < (E.N : Int) := by omega
  have hat0 : (0 : Int) ≤ (at' : Int) := Int.natCast_nonneg _
  have HS0 := Lib.hid hs
  have HI0 := Lib.hid hi
  have HGX := Lib.hid hgx
  clear hT hd0 h0 h1 HR hi
  go_enter Tryz.func65, Tryz.ntmps65
  go_wp2_with fail
  generalize w.alloc (.cells (IV .i64 raw) 78) = w1 at *
  refine wp_region_G (by kernel_rfl) 14 (by decide) rfl (fun W => Below w1.heap.size w1 W) (fun W W' => Below W.heap.size W W') (fun i v W => match i with | 0 => v = (.pointer (some ⟨E.g, 0, none⟩)) | 1 => v = (.pointer (some ⟨E.g, 0, none⟩)) | 2 => v = (.pointer (some ⟨E.g, 2, none⟩)) | 3 => v = (.slice (some ⟨E.gi, E.oi, none⟩) E.N E.ci) | 4 => v = (.pointer (some ⟨w.heap.size, 17, none⟩)) | 5 => v = (.int .i64 (at' : Int)) | 6 => v = (.pointer (some ⟨E.gi, E.oi + at' * 128, none⟩)) | 7 => v = (.agg (IV .u8 (E.S at'))) | 8 => v = (.agg (IV .i64 (rdPtr (E.S at')))) | 9 => v = (.int .i64 (k : Int)) | 10 => v = (.int .i64 ((k : Int) - 44)) | 11 => v = (.int .i64 (d : Int)) | 12 => v = (.int .i64 q) | _ => v = (.int .i64 q)) ((Below.refl _ _).drew) ?_ ?_ ?_
  ·intro i v wa wb hi _ _ hE5 hG
   have hi' : i = 0 ∨ i = 1 ∨ i = 2 ∨ i = 3 ∨ i = 4 ∨ i = 5 ∨ i = 6 ∨ i = 7 ∨ i = 8 ∨ i = 9 ∨ i = 10 ∨ i = 11 ∨ i = 12 ∨ i = 13 := by omega
   rcases hi' with rfl | rfl | rfl | rfl | rfl | rfl | rfl | rfl | rfl | rfl | rfl | rfl | rfl | rfl <;> exact hG
  ·intro i o hi ho a' w' hB hS hF
   have hi' : i = 0 ∨ i = 1 ∨ i = 2 ∨ i = 3 ∨ i = 4 ∨ i = 5 ∨ i = 6 ∨ i = 7 ∨ i = 8 ∨ i = 9 ∨ i = 10 ∨ i = 11 ∨ i = 12 ∨ i = 13 := by omega
   have hs5 := (hop hB hs).1
   have hg5 := (hop hB hgx).1
   have hI5 := (hop hB hcI).1
   rcases hi' with rfl | rfl | rfl | rfl | rfl | rfl | rfl | rfl | rfl | rfl | rfl | rfl | rfl | rfl
   all_goals (have ho' := Option.some.inj ho; subst ho')
   ·have q0 : a'.tmps[0]?.getD undef = (.pointer (some ⟨E.g, 0, none⟩)) := gtx ((hS 0 (by decide)).trans rfl)
    refine wpOp_val rfl rfl (v := (.pointer (some ⟨E.g, 0, none⟩))) (w1 := w') ?_ ⟨_, rfl, hB, Below.refl _ _, rfl⟩
    simp [go_sem, q0]
   ·have q27 : a'.tmps[27]?.getD undef = (.pointer (some ⟨E.g, 0, none⟩)) := gtx ((hF 0 (by decide) _ 27 rfl rfl).trans rfl)
    refine wpOp_val rfl rfl (v := (.pointer (some ⟨E.g, 0, none⟩))) (w1 := w') ?_ ⟨_, rfl, hB, Below.refl _ _, rfl⟩
    simp [go_sem, q27]
   ·have q28 : a'.tmps[28]?.getD undef = (.pointer (some ⟨E.g, 0, none⟩)) := gtx ((hF 1 (by decide) _ 28 rfl rfl).trans rfl)
    refine wpOp_val rfl rfl (v := (.pointer (some ⟨E.g, 2, none⟩))) (w1 := w') ?_ ⟨_, rfl, hB, Below.refl _ _, rfl⟩
    simp [go_sem, q28]
   ·have q29 : a'.tmps[29]?.getD undef = (.pointer (some ⟨E.g, 2, none⟩)) := gtx ((hF 2 (by decide) _ 29 rfl rfl).trans rfl)
    refine wpOp_val rfl rfl (v := (.slice (some ⟨E.gi, E.oi, none⟩) E.N E.ci)) (w1 := w') ?_ ⟨_, rfl, hB, Below.refl _ _, rfl⟩
    simp [go_sem, q29, hs5]
   ·have q4 : a'.tmps[4]?.getD undef = (.pointer (some ⟨w.heap.size, 0, none⟩)) := gtx ((hS 4 (by decide)).trans rfl)
    refine wpOp_val rfl rfl (v := (.pointer (some ⟨w.heap.size, 17, none⟩))) (w1 := w') ?_ ⟨_, rfl, hB, Below.refl _ _, rfl⟩
    simp [go_sem, q4]
   ·have q31 : a'.tmps[31]?.getD undef = (.pointer (some ⟨w.heap.size, 17, none⟩)) := gtx ((hF 4 (by decide) _ 31 rfl rfl).trans rfl)
    refine wpOp_val rfl rfl (v := (.int .i64 (at' : Int))) (w1 := w') ?_ ⟨_, rfl, hB, Below.refl _ _, rfl⟩
    simp [go_sem, q31, hg5, hc17']
   ·have q30 : a'.tmps[30]?.getD undef = (.slice (some ⟨E.gi, E.oi, none⟩) E.N E.ci) := gtx ((hF 3 (by decide) _ 30 rfl rfl).trans rfl)
    have q32 : a'.tmps[32]?.getD undef = (.int .i64 (at' : Int)) := gtx ((hF 5 (by decide) _ 32 rfl rfl).trans rfl)
    refine wpOp_val rfl rfl (v := (.pointer (some ⟨E.gi, E.oi + at' * 128, none⟩))) (w1 := w') ?_ ⟨_, rfl, hB, Below.refl _ _, rfl⟩
    simp [go_sem, q30, q32, hlt1, hat0]
   ·have q33 : a'.tmps[33]?.getD undef = (.pointer (some ⟨E.gi, E.oi + at' * 128, none⟩)) := gtx ((hF 6 (by decide) _ 33 rfl rfl).trans rfl)
    refine wpOp_val rfl rfl (v := (.agg (IV .u8 (E.S at')))) (w1 := w') ?_ ⟨_, rfl, hB, Below.refl _ _, rfl⟩
    simp [go_sem, q33, hI5, hlI]
   ·have q34 : a'.tmps[34]?.getD undef = (.agg (IV .u8 (E.S at'))) := gtx ((hF 7 (by decide) _ 34 rfl rfl).trans rfl)
    refine wpOp_call (f := 63) (args := #[.agg (IV .u8 (E.S at'))]) rfl rfl (by simp [go_sem, q34]) (HRP.out w') ?_
    rintro e w'' ⟨rfl, hb'⟩
    exact ⟨_, rfl, _, rfl, below_call hB hb' hB.size, hb', rfl⟩
   ·have q2 : a'.tmps[2]?.getD undef = (.int .i64 (k : Int)) := gtx ((hS 2 (by decide)).trans rfl)
    refine wpOp_val rfl rfl (v := (.int .i64 (k : Int))) (w1 := w') ?_ ⟨_, rfl, hB, Below.refl _ _, rfl⟩
    simp [go_sem, q2]
   ·have q36 : a'.tmps[36]?.getD undef = (.int .i64 (k : Int)) := gtx ((hF 9 (by decide) _ 36 rfl rfl).trans rfl)
    refine wpOp_val rfl rfl (v := (.int .i64 ((k : Int) - 44))) (w1 := w') ?_ ⟨_, rfl, hB, Below.refl _ _, rfl⟩
    simp [go_sem, q36]; rw [IntKind.wrap_i64]; omega
   ·have q37 : a'.tmps[37]?.getD undef = (.int .i64 ((k : Int) - 44)) := gtx ((hF 10 (by decide) _ 37 rfl rfl).trans rfl)
    refine wpOp_val rfl rfl (v := (.int .i64 (d : Int))) (w1 := w') ?_ ⟨_, rfl, hB, Below.refl _ _, rfl⟩
    simp [go_sem, q37]; rw [Int.tdiv_eq_ediv_of_nonneg (by omega), IntKind.wrap_i64]; omega
   ·have q35 : a'.tmps[35]?.getD undef = (.agg (IV .i64 (rdPtr (E.S at')))) := gtx ((hF 8 (by decide) _ 35 rfl rfl).trans rfl)
    have q38 : a'.tmps[38]?.getD undef = (.int .i64 (d : Int)) := gtx ((hF 11 (by decide) _ 38 rfl rfl).trans rfl)
    refine wpOp_val rfl rfl (v := (.int .i64 q)) (w1 := w') ?_ ⟨_, rfl, hB, Below.refl _ _, rfl⟩
    simp [go_sem, q35, q38, hkq, hkq', hkq0, hqd, hps]
   ·have q39 : a'.tmps[39]?.getD undef = (.int .i64 q) := gtx ((hF 12 (by decide) _ 39 rfl rfl).trans rfl)
    refine wpOp_val rfl rfl (v := (.int .i64 q)) (w1 := w') ?_ ⟨_, rfl, hB, Below.refl _ _, rfl⟩
    simp [go_sem, q39]
  ·intro val w5 hB5 hF
   have y0 := hF 0 _ 27 (by decide) rfl rfl
   have y1 := hF 1 _ 28 (by decide) rfl rfl
   have y2 := hF 2 _ 29 (by decide) rfl rfl
   have y3 := hF 3 _ 30 (by decide) rfl rfl
   have y4 := hF 4 _ 31 (by decide) rfl rfl
   have y5 := hF 5 _ 32 (by decide) rfl rfl
   have y6 := hF 6 _ 33 (by decide) rfl rfl
   have y7 := hF 7 _ 34 (by decide) rfl rfl
   have y8 := hF 8 _ 35 (by decide) rfl rfl
   have y9 := hF 9 _ 36 (by decide) rfl rfl
   have y10 := hF 10 _ 37 (by decide) rfl rfl
   have y11 := hF 11 _ 38 (by decide) rfl rfl
   have y12 := hF 12 _ 39 (by decide) rfl rfl
   have y13 := hF 13 _ 7 (by decide) rfl rfl
   simp only [] at y0 y1 y2 y3 y4 y5 y6 y7 y8 y9 y10 y11 y12 y13
   simp only [putAll, List.take, List.drop, List.take_succ_cons, List.drop_succ_cons, y0, y1, y2, y3, y4, y5, y6, y7, y8, y9, y10, y11, y12, y13, Act.put, List.setIfInBounds_toArray, List.set_cons_zero, List.set_cons_succ]
   clear y0 y1 y2 y3 y4 y5 y6 y7 y8 y9 y10 y11 y12 y13 hF
   have HB5 := Lib.hid (below_call HB1.out hB5 HBZ.out)
   have hs6 := (hop hB5 HS0.out).1
   have hi6 := HI0.out.same ((fr_below hB5 []).block _ HI0.out.lt (by simp))
   have hsl6 := hat_lt hs6
   clear hB5 hs hgx hcI HS0 HI0 HGX hsl hgl hlI HRP HPB
   by_cases hq : q = 0
   ·have hdq : (q == 0) = true := by simpa using hq
    have HR4 : Hid (blkW E.S raw k = 0) := Lib.hid (by rw [HR3.out]; exact if_pos hq)
    go_wp2_with fail
    go_ret
    exact ⟨ret_int HR4.out.symm, HB5.out⟩
   ·have hdq : (q == 0) = false := by simpa using hq
    obtain ⟨p, hpq⟩ := Int.eq_ofNat_of_zero_le hq0
    have hpN : p < E.N := by omega
    have hpi : (p : Int) < (E.N : Int) := by omega
    have hp0 : (0 : Int) ≤ (p : Int) := Int.natCast_nonneg _
    have HR4 : Hid (blkW E.S raw k = nth (rdPtr (E.S p)) ((k - 44) % 32)) := Lib.hid (by rw [HR3.out]; unfold hangW; rw [if_neg hq, hpq]; rfl)
    obtain ⟨csJ, tJ, frJ, hcJ, hlJ⟩ := hi6.load hpN
    obtain ⟨lJ, bJ⟩ := hi6.len hpN
    have HRP := Lib.hid (fun W => rreadPointers_any (E.S p) lJ bJ W)
    have hps2 : (rdPtr (E.S p)).length = 32 := by simp
    have hcell : (IV .i64 (rdPtr (E.S p)))[(k - 44) % 32]? = some (.int .i64 (nth (rdPtr (E.S p)) ((k - 44) % 32))) := by rw [IV_get?, nth_getElem? (by omega)]; rfl
    obtain ⟨m, hm⟩ : ∃ m, (k - 44) % 32 = m := ⟨_, rfl⟩
    rw [hm] at hcell HR4
    have hmi : ((k : Int) - 44) % 32 = (m : Int) := by omega
    have hm0 : (0 : Int) ≤ (m : Int) := Int.natCast_nonneg _
    have hm1 : (m : Int) < 32 := by omega
    clear hi6 lJ bJ hq0
    subst hpq
    simp only [hmi]
    go_wp2_with fail
    refine (HRP.out _).mono ?_; rintro e w6 ⟨rfl, hb⟩
    have HB6 := Lib.hid (below_call HB5.out hb HB5.out.size)
    clear hb
    go_wp2_with fail
    go_ret
    exact ⟨ret_int HR4.out.symm, HB6.out⟩
structure Aims (N : Nat) (S : Nat → List Int) (raw : List Int) : Prop where
 r : raw.length = 18
 p16 : 0 ≤ nth raw 16 ∧ nth raw 16 < N
 p17 : 0 ≤ nth raw 17 ∧ nth raw 17 < N
 d : nth raw 17 ≠ 0 → ∀ p ∈ rdPtr (S (nth raw 17).toNat), p < N
theorem block_w {E : SEnv} {raw : List Int} (hA : Aims E.N E.S raw) (k : Nat) (hk : k < 1068) (seen : Int → Bool) (w : World) (h : SG E w seen) :
  Calls Tryz.prog 65 #[.pointer (some ⟨E.g, 0, none⟩), .agg (IV .i64 raw), .int .i64 k] w fun e w' =>
   e = .returned (.int .i64 (blkW E.S raw k)) ∧ Below w.heap.size w w' := by
 by_cases h44 : k < 44
 ·exact block1_w raw hA.r k h44 hA.p16.1 hA.p16.2 seen w h
 ·refine block2_w raw hA.r k (by omega) hk hA.p17.1 hA.p17.2 (fun h0 => hA.d h0 _ ?_) seen w h
  exact List.mem_iff_getElem?.2 ⟨_, nth_getElem? (by simp; omega)⟩
def zeroFrom (l : List Int) (k : Nat) : Bool := (l.drop k).all fun b => b == 0
def tailW (S : Nat → List Int) (raw : List Int) : Bool :=
 if nth raw 2 % 128 = 0 then true
 else if blkW S raw (cntX (nth raw 2) - 1).toNat = 0 then true else zeroFrom (S (blkW S raw (cntX (nth raw 2) - 1).toNat).toNat) (nth raw 2 % 128).toNat
theorem tail_w {E : SEnv} {raw : List Int} (hA : Aims E.N E.S raw) (hz0 : 0 ≤ nth raw 2) (hz1 : nth raw 2 ≤ 136704) (hlt : nth raw 2 % 128 ≠ 0 → 0 ≤ blkW E.S raw (cntX (nth raw 2) - 1).toNat ∧ blkW E.S raw (cntX (nth raw 2) - 1).toNat < E.N) (seen : Int → Bool) (w : World) (h : SG E w seen) :
  Calls Tryz.prog 41 #[.pointer (some ⟨E.g, 0, none⟩), .agg (IV .i64 raw)] w fun e w' =>
   e = .returned (.bool (tailW E.S raw)) ∧ Below w.heap.size w w' := by
 have hr := hA.r
 have hld : ∀ r w' t fr, ldRow r 18 0 w' (some (.cells (IV .i64 raw) t fr)) = .ok (.agg (IV .i64 raw)) w' := fun r w' t fr => by rw [ldRow_part (by simp [hr])]; simp [← hr]
 have hgx := (hopN w (.cells (IV .i64 raw) 78)).1
 have hB1 : Below w.heap.size w (w.alloc (.cells (IV .i64 raw) 78)) := (Below.refl _ _).alloc (Nat.le_refl _) _
 have HG1 := Lib.hid (h.fr (fr_below hB1 []) (by simp) (by simp) (by simp))
 have HB1 := Lib.hid hB1
 have HBZ := Lib.hid hB1.size
 clear hB1 h
 have hgl := hat_lt hgx
 have hc2 : (IV .i64 raw)[2]? = some (.int .i64 (nth raw 2)) := by rw [IV_get?, nth_getElem? (by omega)]; rfl
 by_cases h0 : nth raw 2 % 128 = 0
 ·have HR : Hid (tailW E.S raw = true) := Lib.hid (if_pos h0)
  have hd0 : (nth raw 2 % 128 == 0) = true := by simpa using h0
  go_enter Tryz.func41, Tryz.ntmps41
  go_wp2_with fail
  go_ret
  exact ⟨by rw [HR.out]; rfl, HB1.out⟩
 ·have hd0 : (nth raw 2 % 128 == 0) = false := by simpa using h0
  obtain ⟨h2, h3⟩ := hlt h0
  have HR : Hid (tailW E.S raw = if blkW E.S raw (cntX (nth raw 2) - 1).toNat = 0 then true else zeroFrom (E.S (blkW E.S raw (cntX (nth raw 2) - 1).toNat).toNat) (nth raw 2 % 128).toNat) := Lib.hid (if_neg h0)
  obtain ⟨d, hd⟩ : ∃ d : Nat, cntX (nth raw 2) - 1 = d := ⟨(cntX (nth raw 2) - 1).toNat, by unfold cntX; omega⟩
  have hd9 : d < 1068 := by unfold cntX at hd; omega
  have HC := Lib.hid (fun W => count_w raw hr hz0 hz1 W)
  simp only [hd, Int.toNat_natCast] at h2 h3 HR
  clear hlt
  go_enter Tryz.func41, Tryz.ntmps41
  go_wp2_with fail
  generalize w.alloc (.cells (IV .i64 raw) 78) = w1 at *
  refine wp_region_G (by kernel_rfl) 7 (by decide) rfl (fun W => Below w1.heap.size w1 W) (fun W W' => Below W.heap.size W W') (fun i v W => match i with | 0 => v = (.pointer (some ⟨E.g, 0, none⟩)) | 1 => v = (.agg (IV .i64 raw)) | 2 => v = (.agg (IV .i64 raw)) | 3 => v = (.int .i64 (cntX (nth raw 2))) | 4 => v = (.int .i64 (d : Int)) | 5 => v = (.int .i64 (blkW E.S raw d)) | _ => v = (.int .i64 (blkW E.S raw d))) ((Below.refl _ _).drew) ?_ ?_ ?_
  ·intro i v wa wb hi _ _ hE5 hG
   have hi' : i = 0 ∨ i = 1 ∨ i = 2 ∨ i = 3 ∨ i = 4 ∨ i = 5 ∨ i = 6 := by omega
   rcases hi' with rfl | rfl | rfl | rfl | rfl | rfl | rfl <;> exact hG
  ·intro i o hi ho a' w' hB hS hF
   have hi' : i = 0 ∨ i = 1 ∨ i = 2 ∨ i = 3 ∨ i = 4 ∨ i = 5 ∨ i = 6 := by omega
   have hg5 := (hop hB hgx).1
   rcases hi' with rfl | rfl | rfl | rfl | rfl | rfl | rfl
   all_goals (have ho' := Option.some.inj ho; subst ho')
   ·have q0 : a'.tmps[0]?.getD undef = (.pointer (some ⟨E.g, 0, none⟩)) := gtx ((hS 0 (by decide)).trans rfl)
    refine wpOp_val rfl rfl (v := (.pointer (some ⟨E.g, 0, none⟩))) (w1 := w') ?_ ⟨_, rfl, hB, Below.refl _ _, rfl⟩
    simp [go_sem, q0]
   ·have q3 : a'.tmps[3]?.getD undef = (.pointer (some ⟨w.heap.size, 0, none⟩)) := gtx ((hS 3 (by decide)).trans rfl)
    refine wpOp_val rfl rfl (v := (.agg (IV .i64 raw))) (w1 := w') ?_ ⟨_, rfl, hB, Below.refl _ _, rfl⟩
    simp [go_sem, q3, hg5, hld]
   ·have q3 : a'.tmps[3]?.getD undef = (.pointer (some ⟨w.heap.size, 0, none⟩)) := gtx ((hS 3 (by decide)).trans rfl)
    refine wpOp_val rfl rfl (v := (.agg (IV .i64 raw))) (w1 := w') ?_ ⟨_, rfl, hB, Below.refl _ _, rfl⟩
    simp [go_sem, q3, hg5, hld]
   ·have q13 : a'.tmps[13]?.getD undef = (.agg (IV .i64 raw)) := gtx ((hF 2 (by decide) _ 13 rfl rfl).trans rfl)
    refine wpOp_call (f := 60) (args := #[.agg (IV .i64 raw)]) rfl rfl (by simp [go_sem, q13]) (HC.out w') ?_
    rintro e w'' ⟨rfl, hb'⟩
    exact ⟨_, rfl, _, rfl, below_call hB hb' hB.size, hb', rfl⟩
   ·have q14 : a'.tmps[14]?.getD undef = (.int .i64 (cntX (nth raw 2))) := gtx ((hF 3 (by decide) _ 14 rfl rfl).trans rfl)
    refine wpOp_val rfl rfl (v := (.int .i64 (d : Int))) (w1 := w') ?_ ⟨_, rfl, hB, Below.refl _ _, rfl⟩
    simp [go_sem, q14]; rw [IntKind.wrap_i64]; omega
   ·have q11 : a'.tmps[11]?.getD undef = (.pointer (some ⟨E.g, 0, none⟩)) := gtx ((hF 0 (by decide) _ 11 rfl rfl).trans rfl)
    have q12 : a'.tmps[12]?.getD undef = (.agg (IV .i64 raw)) := gtx ((hF 1 (by decide) _ 12 rfl rfl).trans rfl)
    have q15 : a'.tmps[15]?.getD undef = (.int .i64 (d : Int)) := gtx ((hF 4 (by decide) _ 15 rfl rfl).trans rfl)
    refine wpOp_call (f := 65) (args := #[.pointer (some ⟨E.g, 0, none⟩), .agg (IV .i64 raw), .int .i64 (d : Int)]) rfl rfl (by simp [go_sem, q11, q12, q15]) (block_w hA d hd9 seen w' (HG1.out.fr (fr_below hB []) (by simp) (by simp) (by simp))) ?_
    rintro e w'' ⟨rfl, hb'⟩
    exact ⟨_, rfl, _, rfl, below_call hB hb' hB.size, hb', rfl⟩
   ·have q16 : a'.tmps[16]?.getD undef = (.int .i64 (blkW E.S raw d)) := gtx ((hF 5 (by decide) _ 16 rfl rfl).trans rfl)
    refine wpOp_val rfl rfl (v := (.int .i64 (blkW E.S raw d))) (w1 := w') ?_ ⟨_, rfl, hB, Below.refl _ _, rfl⟩
    simp [go_sem, q16]
  ·intro val w5 hB5 hF
   have y0 := hF 0 _ 11 (by decide) rfl rfl
   have y1 := hF 1 _ 12 (by decide) rfl rfl
   have y2 := hF 2 _ 13 (by decide) rfl rfl
   have y3 := hF 3 _ 14 (by decide) rfl rfl
   have y4 := hF 4 _ 15 (by decide) rfl rfl
   have y5 := hF 5 _ 16 (by decide) rfl rfl
   have y6 := hF 6 _ 5 (by decide) rfl rfl
   simp only [] at y0 y1 y2 y3 y4 y5 y6
   simp only [putAll, List.take, List.drop, List.take_succ_cons, List.drop_succ_cons, y0, y1, y2, y3, y4, y5, y6, Act.put, List.setIfInBounds_toArray, List.set_cons_zero, List.set_cons_succ]
   clear y0 y1 y2 y3 y4 y5 y6 hF
   have HB5 := Lib.hid (below_call HB1.out hB5 HBZ.out)
   have HG5 := Lib.hid (HG1.out.fr (fr_below hB5 []) (by simp) (by simp) (by simp))
   have hs5 := HG5.out.s
   have hg5 := (hop hB5 hgx).1
   clear hB5 hgx hgl
   obtain ⟨at', hat'⟩ := Int.eq_ofNat_of_zero_le h2
   obtain ⟨m, hm⟩ : ∃ m : Nat, nth raw 2 % 128 = m := ⟨(nth raw 2 % 128).toNat, by omega⟩
   simp only [hat', hm, Int.toNat_natCast] at HR h3 ⊢
   have hl := HG5.out.i
   obtain ⟨cs, tI, frI, hcI, hsz, hall⟩ := hl
   have hlN : at' < E.N := by omega
   have hai : (at' : Int) < (E.N : Int) := h3
   have ha0 : (0 : Int) ≤ (at' : Int) := Int.natCast_nonneg _
   obtain ⟨hlen, -, hext⟩ := hall at' hlN
   have HBY : Hid (∀ k, k < 128 → cs[E.oi + at' * 128 + k]? = some (.int .u8 (nth (E.S at') k))) := Lib.hid (fun k hk => by
    have := congrArg (fun a : Array Value => a[k]?) hext
    simp only [Array.getElem?_extract, IV_get?, nth_getElem? (l := E.S at') (i := k) (by omega)] at this
    rw [if_pos (by omega)] at this
    exact this)
   clear hall
   have hm1 : m < 128 := by omega
   go_wp2_with fail
   go_loopw [6] (fun v wr => ∃ k : Nat, v = .int .i64 k ∧ wr = w5 ∧ k ≤ 128 ∧ Hid (at' = 0 ∨ zeroFrom (E.S at') m = zeroFrom (E.S at') k)) (fun v _ => 128 - (intOf v).toNat)
   case atStart => exact ⟨m, by rw [hm], rfl, by omega, Lib.hid (.inr rfl)⟩
   case round =>
    obtain ⟨k, rfl, rfl, hk, HZ⟩ := hrel
    have hk0 : (0 : Int) ≤ (k : Int) := Int.natCast_nonneg _
    by_cases hz : at' = 0
    ·subst hz
     have HR2 : Hid (tailW E.S raw = true) := Lib.hid (by rw [HR.out]; exact if_pos rfl)
     by_cases hk1 : k < 128
     all_goals
      have hki : ((k : Int) < 128) = (k < 128) := by simp; omega
      go_wp2_with fail
      go_ret
      exact ⟨by rw [HR2.out]; rfl, HB5.out⟩
    ·have hzi : ((at' : Int) != 0) = true := by simpa using hz
     have HR2 : Hid (tailW E.S raw = zeroFrom (E.S at') m) := Lib.hid (by rw [HR.out]; exact if_neg (by omega))
     have HZ2 : Hid (tailW E.S raw = zeroFrom (E.S at') k) := Lib.hid (by rw [HR2.out]; exact HZ.out.resolve_left hz)
     by_cases hk1 : k < 128
     ·have hb := HBY.out k hk1
      have hki : (k : Int) < 128 := by omega
      have HS1 : Hid (zeroFrom (E.S at') k = (nth (E.S at') k == 0 && zeroFrom (E.S at') (k + 1))) := Lib.hid (by
       unfold zeroFrom
       rw [drop_cons (nth_getElem? (l := E.S at') (i := k) (by omega)), List.all_cons])
      by_cases hx : nth (E.S at') k = 0
      ·have hx1 : (nth (E.S at') k != 0) = false := by simpa using hx
       go_wp2_with fail
       go_roundw
       case rel => exact ⟨k + 1, by go_num, by first | rfl | trivial, by omega, Lib.hid (.inr (by rw [← HR2.out, HZ2.out, HS1.out, hx]; rfl))⟩
       case measure => (show 128 - (k + 1) < 128 - k); omega
      ·have hx1 : (nth (E.S at') k != 0) = true := by simpa using hx
       go_wp2_with fail
       go_ret
       exact ⟨by rw [HZ2.out, HS1.out, beq_false_of_ne hx]; rfl, HB5.out⟩
     ·obtain rfl : k = 128 := by omega
      have HS1 : Hid (zeroFrom (E.S at') 128 = true) := Lib.hid (by unfold zeroFrom; rw [List.drop_of_length_le (by omega)]; rfl)
      go_wp2_with fail
      go_ret
      exact ⟨by rw [HZ2.out, HS1.out]; rfl, HB5.out⟩
def slotsW (S : Nat → List Int) : List Int → List (Int × ByteArray) → Option (List (Int × ByteArray))
 | [], a => some a
 | p :: r, a => if p = 0 then slotsW S r a else if (rdSloR (S p.toNat)).2.2 ≠ 0 then none else if (rdSloR (S p.toNat)).1 = 0 then slotsW S r a else slotsW S r (a ++ [((rdSloR (S p.toNat)).1, (rdSloR (S p.toNat)).2.1)])
theorem slotsW_cons (S : Nat → List Int) (p : Int) (r : List Int) (a : List (Int × ByteArray)) : slotsW S (p :: r) a = if p = 0 then slotsW S r a else if (rdSloR (S p.toNat)).2.2 ≠ 0 then none else if (rdSloR (S p.toNat)).1 = 0 then slotsW S r a else slotsW S r (a ++ [((rdSloR (S p.toNat)).1, (rdSloR (S p.toNat)).2.1)]) := rfl
def slotRow (l : List (Int × ByteArray)) : List Value := l.flatMap fun x => [.int .i64 x.1, .string x.2]
theorem slotRow_snoc (l : List (Int × ByteArray)) (x : Int) (s : ByteArray) : slotRow (l ++ [(x, s)]) = slotRow l ++ [.int .i64 x, .string s] := by
 unfold slotRow; rw [List.flatMap_append]; rfl
def blksW (S : Nat → List Int) (raw : List Int) : List Int := (List.range (cntX (nth raw 2)).toNat).map (blkW S raw)
theorem ownsRow_base {w : World} {b b' : Nat} {e : TypeId} {size : Nat} {v : Value} {n : Nat} {xs : List Value} (h : w.ownsRow b e size v n xs) (hb : b' ≤ b) : w.ownsRow b' e size v n xs := by
 obtain ⟨h0, h⟩ := h
 refine ⟨h0, h.imp_right ?_⟩
 rintro ⟨g, cap, cur, h1, h2, h3⟩
 exact ⟨g, cap, cur, h1, by omega, h3⟩
theorem ownsRow_below {w w' : World} {b : Nat} {e : TypeId} {size : Nat} {v : Value} {n : Nat} {xs : List Value} (h : w.ownsRow b e size v n xs) (hb : Below w.heap.size w w') : w'.ownsRow b e size v n xs := by
 obtain ⟨h0, h⟩ := h
 refine ⟨h0, h.imp_right ?_⟩
 rintro ⟨g, cap, cur, h1, h2, h3, h4⟩
 exact ⟨g, cap, cur, h1, h2, (hop hb h3).1, h4⟩
theorem blksW_get {S : Nat → List Int} {raw : List Int} {k : Nat} (hk : k < (cntX (nth raw 2)).toNat) : (blksW S raw)[k]? = some (blkW S raw k) := by
 unfold blksW; rw [List.getElem?_map, List.getElem?_range hk]; rfl
theorem Tryz.info125 : (Tryz.prog.info? 125).map (fun i => (i.zero, i.size, i.bytes)) = some (some (.agg #[.int .i64 0, .string { data := #[] }]), 2, 24) := by kernel_rfl
theorem slots_w {E : SEnv} {raw : List Int} (hA : Aims E.N E.S raw) (hz0 : 0 ≤ nth raw 2) (hz1 : nth raw 2 ≤ 136704) (hbk : ∀ p ∈ blksW E.S raw, 0 ≤ p ∧ p < E.N) (seen : Int → Bool) (w : World) (h : SG E w seen) :
  Calls Tryz.prog 64 #[.pointer (some ⟨E.g, 0, none⟩), .agg (IV .i64 raw)] w fun e w' =>
   ∃ v, e = .returned (.tuple #[v, .bool (slotsW E.S (blksW E.S raw) []).isSome]) ∧ Below w.heap.size w w' ∧ ∀ l, slotsW E.S (blksW E.S raw) [] = some l → w'.ownsRow w.heap.size 125 2 v l.length (slotRow l) := by
 have hr := hA.r
 have hld : ∀ r w' t fr, ldRow r 18 0 w' (some (.cells (IV .i64 raw) t fr)) = .ok (.agg (IV .i64 raw)) w' := fun r w' t fr => by rw [ldRow_part (by simp [hr])]; simp [← hr]
 have hgx := (hopN w (.cells (IV .i64 raw) 78)).1
 have hB1 : Below w.heap.size w (w.alloc (.cells (IV .i64 raw) 78)) := (Below.refl _ _).alloc (Nat.le_refl _) _
 have HS := Lib.hid h
 have HB1 := Lib.hid hB1
 have HBK := Lib.hid hbk
 have HBZ := Lib.hid hB1.size
 clear hB1 h hbk
 obtain ⟨n, hn⟩ : ∃ n : Nat, cntX (nth raw 2) = n := ⟨(cntX (nth raw 2)).toNat, by unfold cntX; omega⟩
 have hn9 : n ≤ 1068 := by unfold cntX at hn; omega
 have HC := Lib.hid (fun W => count_w raw hr hz0 hz1 W)
 rw [hn] at HC
 have HBG : Hid (∀ k, k < n → (blksW E.S raw)[k]? = some (blkW E.S raw k)) := Lib.hid (fun k hk => blksW_get (by rw [hn]; omega))
 have hbl : (blksW E.S raw).length = n := by unfold blksW; rw [List.length_map, List.length_range, hn]; rfl
 generalize blksW E.S raw = bs at *
 go_enter Tryz.func64, Tryz.ntmps64
 go_wp2_with fail
 go_loopw [6, 7] (fun v i wr => ∃ (k : Nat) (l : List (Int × ByteArray)), i = .int .i64 k ∧ k ≤ n ∧ l.length ≤ k ∧ Hid (wr.ownsRow (w.heap.size + 1) 125 2 v l.length (slotRow l)) ∧ Hid (Below w.heap.size w wr) ∧ hat wr w.heap.size = some (.cells (IV .i64 raw) 78) ∧ Hid (slotsW E.S bs [] = slotsW E.S (bs.drop k) l)) (fun _ i _ => n - (intOf i).toNat)
 case atStart => exact ⟨0, [], rfl, by omega, Nat.le_refl _, Lib.hid ⟨rfl, .inl ⟨rfl, rfl⟩⟩, HB1, hgx, Lib.hid rfl⟩
 case round =>
  obtain ⟨k, l, rfl, hk, hlk, HO, HB, hgr, HE⟩ := hrel
  have hk0 : (0 : Int) ≤ (k : Int) := Int.natCast_nonneg _
  have hgl := hat_lt hgr
  go_wp2_with fail
  refine (HC.out _).mono ?_; rintro e w2 ⟨rfl, hb2⟩
  have hgr2 := (hop hb2 hgr).1
  have HB2 := Lib.hid (below_call HB.out hb2 HB.out.size)
  have HO2 := Lib.hid (ownsRow_below HO.out hb2)
  clear hb2
  by_cases hkn : k < n
  ·have hki : (k : Int) < (n : Int) := by omega
   have hpk := HBG.out k hkn
   have hpp := HBK.out _ (List.mem_of_getElem? hpk)
   have hE1 := HE.out
   rw [drop_cons hpk, slotsW_cons] at hE1
   have HBL := Lib.hid (block_w hA k (by omega) seen w2 (HS.out.fr (fr_below HB2.out []) (by simp) (by simp) (by simp)))
   have HE1 := Lib.hid hE1
   clear hE1 hpk HE
   go_wp2_with fail
   refine HBL.out.mono ?_; rintro e w3 ⟨rfl, hb3⟩
   have hgr3 := (hop hb3 hgr2).1
   have HB3 := Lib.hid (below_call HB2.out hb3 HB2.out.size)
   have HO3 := Lib.hid (ownsRow_below HO2.out hb3)
   clear hb3 HBL HB2 HO2 HB HO hgr
   generalize blkW E.S raw k = p at *
   by_cases hp0 : p = 0
   ·have hd : (p == 0) = true := by simpa using hp0
    have HE2 : Hid (slotsW E.S bs [] = slotsW E.S (bs.drop (k + 1)) l) := Lib.hid (by rw [HE1.out, if_pos hp0])
    go_wp2_with fail
    go_roundw
    case rel => exact ⟨k + 1, l, by go_num, by omega, by omega, HO3, HB3, hgr3, HE2⟩
    case measure => (show n - (k + 1) < n - k); omega
   ·have hd : (p == 0) = false := by simpa using hp0
    obtain ⟨pn, rfl⟩ := Int.eq_ofNat_of_zero_le hpp.1
    have hpN : pn < E.N := by omega
    have hpi : (pn : Int) < (E.N : Int) := hpp.2
    have hp00 : (0 : Int) ≤ (pn : Int) := Int.natCast_nonneg _
    have hsg := HS.out.fr (fr_below HB3.out []) (by simp) (by simp) (by simp)
    have hs3 := hsg.s
    obtain ⟨csI, tI, frI, hcI, hlI⟩ := hsg.i.load hpN
    obtain ⟨lI, bI⟩ := hsg.i.len hpN
    have HRS := Lib.hid (fun W => rrdSlo_any (E.S pn) lI bI W)
    have hE2 := HE1.out
    rw [if_neg hp0, Int.toNat_natCast] at hE2
    generalize (rdSloR (E.S pn)).1 = ino at *
    generalize (rdSloR (E.S pn)).2.1 = nm at *
    generalize (rdSloR (E.S pn)).2.2 = er at *
    have HE2 := Lib.hid hE2
    clear hsg hE2 HE1 lI bI
    go_wp2_with fail
    refine (HRS.out _).mono ?_; rintro e w4 ⟨rfl, hb4⟩
    have hgr4 := (hop hb4 hgr3).1
    have HB4 := Lib.hid (below_call HB3.out hb4 HB3.out.size)
    have HO4 := Lib.hid (ownsRow_below HO3.out hb4)
    clear hb4 HRS HB3 HO3 hgr3 hgr2 hs3 hcI hlI
    by_cases her : er = 0
    ·have hd2 : (er != 0) = false := by simpa using her
     have hE3 := HE2.out
     rw [if_neg (by simpa using her)] at hE3
     have HE3 := Lib.hid hE3
     have hz4 : w.heap.size ≤ w4.heap.size := HB4.out.size
     have hl4 := hat_lt hgr4
     clear hE3 HE2
     by_cases hi0 : ino = 0
     ·have hd3 : (ino != 0) = false := by simpa using hi0
      have HE4 : Hid (slotsW E.S bs [] = slotsW E.S (bs.drop (k + 1)) l) := Lib.hid (by rw [HE3.out, if_pos hi0])
      go_wp2_with fail
      go_roundw
      case rel => exact ⟨k + 1, l, by go_num, by omega, by omega, Lib.hid (HO4.out.alloc _), Lib.hid (HB4.out.alloc hz4 _), by rw [hat_alloc_past _ _ _ hl4]; exact hgr4, HE4⟩
      case measure => (show n - (k + 1) < n - k); omega
     ·have hd3 : (ino != 0) = true := by simpa using hi0
      have HE4 : Hid (slotsW E.S bs [] = slotsW E.S (bs.drop (k + 1)) (l ++ [(ino, nm)])) := Lib.hid (by rw [HE3.out, if_neg hi0])
      obtain ⟨i0, hi, hz0', hz1', hz2'⟩ := info_parts Tryz.info125
      go_wp2_with (at_builtin; refine wpList_append_own _ rfl (.tmp 39) (.tmp 41) 121 rfl (w.heap.size + 1) 125 i0 _ 2 24 Tryz.underlying121 hi hz0' hz1' hz2' rfl (by decide) u6 l.length (slotRow l) rfl ((HO4.out.alloc _).alloc _) ⟨w4.heap.size + 1, 0, none⟩ 1 1 [.int .i64 ino, .string nm] rfl rfl ?c1 ?c2 ?c3 ?c4 ?c5 (fun v' w1 hown' hgrow _ => ?_))
      case c1 =>
       intro j u hj
       have hj3 : j < 2 := by
        have := (List.getElem?_eq_some_iff.1 hj).1
        simpa using this
       have hadd : (⟨w4.heap.size + 1, 0, none⟩ : Addr).add j = ⟨w4.heap.size + 1, j, none⟩ := by unfold Addr.add; split <;> simp_all
       rw [hadd, cell_hat (hat_alloc_at _ _ _ (by simp only [World.size_alloc]))]
       simpa using hj
      case c2 =>
       intro u hu
       simp at hu
       rcases hu with rfl | rfl <;> rfl
      case c3 => unfold maxLen; omega
      case c4 => omega
      case c5 => simp only [World.size_alloc]; omega
      go_roundw
      case rel =>
       have hh : ∀ {b : Nat} {o : Obj}, b < w.heap.size + 1 → hat w4 b = some o → hat w1 b = some o := fun {b o} hb h => by
        have hlt := hat_lt h
        show w1.heap[b]? = _
        rw [hgrow.block _ (by simp only [World.size_alloc]; omega) (Ne.symm (ownsRow_ne HO4.out hb))]
        show hat _ _ = _
        rw [hat_alloc_past _ _ _ (by simp only [World.size_alloc]; omega), hat_alloc_past _ _ _ hlt, h]
       refine ⟨k + 1, l ++ [(ino, nm)], by go_num, by omega, by simp; omega, Lib.hid ?_, Lib.hid ?_, hh (by omega) hgr4, HE4⟩
       ·rw [slotRow_snoc, List.length_append]; exact hown'
       ·exact ((HB4.out.alloc hz4 _).alloc (by simp only [World.size_alloc]; omega) _).grown hgrow (by simp only [World.size_alloc]; omega) (fun k hk => by
         have h1 : ¬ k < w.heap.size + 1 := fun h => ownsRow_ne HO4.out h hk
         omega)
      case measure => (show n - (k + 1) < n - k); omega
    ·have hd2 : (er != 0) = true := by simpa using her
     have HN : Hid (slotsW E.S bs [] = none) := Lib.hid (by rw [HE2.out, if_pos her])
     go_wp2_with fail
     go_ret2
     exact ⟨_, by rw [HN.out]; rfl, HB4.out.alloc (by have := HB4.out.size; omega) _, fun l' hl' => by rw [HN.out] at hl'; cases hl'⟩
  ·obtain rfl : k = n := by omega
   have HN : Hid (slotsW E.S bs [] = some l) := Lib.hid (by rw [HE.out, List.drop_of_length_le (by omega)]; rfl)
   go_wp2_with fail
   go_ret2
   exact ⟨_, by rw [HN.out]; rfl, HB2.out, fun l' hl' => by rw [HN.out] at hl'; cases hl'; exact ownsRow_base HO2.out (by omega)⟩
section
variable {P : Program} {ops : Array Oper} {Q : Exit → Act → World → Prop}
theorem wpOp_shut {i : Nat} {o : Oper} {K : Act → World → Prop} {a : Act} {w : World} {j d : Nat} {b b' : Bool} (ho : ops[i]? = some o) (hg : o.guard = some (j, b)) {oj : Oper} (hj : ops[j]? = some oj) (hd : oj.dst = some d) (h : gt a d = .bool b') (hb : (b == b') = false) (hk : K (a.put o.dst undef) w) : wpOp P ops Q i K a w := by
 have h1 : a.tmps[d]? = some (.bool b') := by
  unfold gt at h
  rw [Array.getD_eq_getD_getElem?] at h
  cases hx : a.tmps[d]? with
  | none => rw [hx] at h; cases h
  | some v => rw [hx] at h; exact congrArg some h
 have h2 : yielded ops a.tmps j = some b' := by
  unfold yielded
  rw [hj]
  simp [hd, h1]
 have h3 : Region.wanted o (yielded ops a.tmps) = false := by
  simp [Region.wanted, hg, h2]
  intro e
  subst e
  cases b' <;> cases hb
 unfold wpOp
 simp only [ho]
 rw [if_neg (by rw [h3]; simp)]
 exact hk
theorem wpOp_skip {i : Nat} {o : Oper} {K : Act → World → Prop} {a : Act} {w w1 : World} (ho : ops[i]? = some o) (hg : o.guard = none)
  (hr : (execOp a.eval o).run P w = .ok .skip w1) (hk : K (a.put o.dst undef) w1) : wpOp P ops Q i K a w := by
 unfold wpOp
 simp only [ho]
 rw [if_pos (by simp [Region.wanted, hg])]
 refine .inl ?_
 unfold Oper.wp
 rw [hr]
 exact hk
end
abbrev Ent := Int × ByteArray
def cntL (L : Nat → List Ent) (N j : Nat) : Nat := ((List.range (N + 1)).map fun i => (L i).countP fun e => decide (e.1 = (j : Int))).sum
def updE (L : Nat → List Ent) (c : Nat) (l : List Ent) : Nat → List Ent := fun i => if i = c then l else L i
theorem updE_eq (L : Nat → List Ent) (c : Nat) (l : List Ent) : updE L c l c = l := by unfold updE; rw [if_pos rfl]
theorem updE_ne (L : Nat → List Ent) {c i : Nat} (l : List Ent) (h : i ≠ c) : updE L c l i = L i := by unfold updE; rw [if_neg h]
theorem sum_one (f g : Nat → Nat) (c d : Nat) (h : ∀ i, i ≠ c → f i = g i) (hc : f c = g c + d) : ∀ n : Nat, ((List.range n).map f).sum = ((List.range n).map g).sum + if c < n then d else 0
 | 0 => rfl
 | n + 1 => by
  rw [List.range_succ, List.map_append, List.map_append, List.sum_append, List.sum_append, sum_one f g c d h hc n]
  simp only [List.map_cons, List.map_nil, List.sum_cons, List.sum_nil]
  by_cases hn : n = c
  ·subst hn
   rw [if_neg (by omega), if_pos (by omega), hc]; omega
  ·rw [h n hn]
   by_cases hl : c < n
   ·rw [if_pos hl, if_pos (by omega)]; omega
   ·rw [if_neg hl, if_neg (by omega)]; omega
theorem cntL_upd (L : Nat → List Ent) {N c : Nat} (hc : c ≤ N) (e : Ent) (j : Nat) : cntL (updE L c (L c ++ [e])) N j = cntL L N j + if e.1 = (j : Int) then 1 else 0 := by
 unfold cntL
 rw [sum_one (fun i => (updE L c (L c ++ [e]) i).countP fun e => decide (e.1 = (j : Int))) (fun i => (L i).countP fun e => decide (e.1 = (j : Int))) c (if e.1 = (j : Int) then 1 else 0)]
 ·rw [if_pos (by omega)]
 ·intro i hi
  simp only [updE_ne L _ hi]
 ·simp only [updE_eq, List.countP_append, List.countP_cons, List.countP_nil, decide_eq_true_eq]
  omega
theorem sum_zero (f : Nat → Nat) : ∀ n : Nat, (∀ i, i < n → f i = 0) → ((List.range n).map f).sum = 0
 | 0, _ => rfl
 | n + 1, h => by
  rw [List.range_succ, List.map_append, List.sum_append, sum_zero f n (fun i hi => h i (by omega))]
  simp [h n (by omega)]
theorem cntL_zero {L : Nat → List Ent} {N j : Nat} (h : ∀ i e, e ∈ L i → e.1 ≠ (j : Int)) : cntL L N j = 0 :=
 sum_zero _ _ fun i _ => List.countP_eq_zero.2 fun e he => by simp [h i e he]
def bkL (bk : Int → Option Int) (n : Nat) : List Int := (List.range n).map fun (k : Nat) => (bk k).getD 0
theorem bkL_succ (bk : Int → Option Int) (n : Nat) : bkL bk (n + 1) = bkL bk n ++ [(bk n).getD 0] := by
 unfold bkL
 rw [List.range_succ, List.map_append]; rfl
theorem bkL_zero (bk : Int → Option Int) : bkL bk 0 = [] := rfl
theorem mem_bkL {bk : Int → Option Int} {n : Nat} {p : Int} (h : p ∈ bkL bk n) (hp : p ≠ 0) : ∃ k : Nat, k < n ∧ bk k = some p := by
 unfold bkL at h
 rw [List.mem_map] at h
 obtain ⟨k, hk, e⟩ := h
 refine ⟨k, List.mem_range.1 hk, ?_⟩
 cases hb : bk k with
 | none => rw [hb] at e; exact absurd e.symm hp
 | some q => rw [hb] at e; exact congrArg some e
theorem slotsW_app (S : Nat → List Int) : ∀ (a b : List Int) (l : List Ent), slotsW S (a ++ b) l = (slotsW S a l).bind (slotsW S b)
 | [], b, l => rfl
 | p :: r, b, l => by
  rw [List.cons_append, slotsW_cons, slotsW_cons]
  split
  ·exact slotsW_app S r b l
  ·split
   ·rfl
   ·split
    ·exact slotsW_app S r b l
    ·exact slotsW_app S r b _
theorem slotsW_same {S S' : Nat → List Int} : ∀ (a : List Int) (l : List Ent), (∀ p ∈ a, p ≠ 0 → S' p.toNat = S p.toNat) → slotsW S' a l = slotsW S a l
 | [], _, _ => rfl
 | p :: r, l, h => by
  have ih := fun l => slotsW_same r l (fun q hq => h q (List.mem_cons_of_mem _ hq))
  rw [slotsW_cons, slotsW_cons, ih, ih]
  by_cases hp : p = 0
  ·rw [if_pos hp, if_pos hp]
  ·rw [if_neg hp, if_neg hp, h p (List.mem_cons_self ..) hp]
theorem slotsW_snoc {S : Nat → List Int} {a : List Int} {l : List Ent} (h : slotsW S a [] = some l) (p : Int) : slotsW S (a ++ [p]) [] = if p = 0 then some l else if (rdSloR (S p.toNat)).2.2 ≠ 0 then none else if (rdSloR (S p.toNat)).1 = 0 then some l else some (l ++ [((rdSloR (S p.toNat)).1, (rdSloR (S p.toNat)).2.1)]) := by
 rw [slotsW_app, h]
 show slotsW S [p] l = _
 rw [slotsW_cons]
 rfl
def NumR (w : World) (g N : Nat) (f : Nat → Int) : Prop := ∃ cs, hat w g = some (.cells cs 3) ∧ N ≤ cs.size ∧ ∀ j : Nat, j < N → cs[j]? = some (.int .i64 (f j))
theorem NumR.lt {w : World} {g N : Nat} {f : Nat → Int} (h : NumR w g N f) : g < w.heap.size := by
 obtain ⟨cs, h1, -⟩ := h; exact hat_lt h1
theorem NumR.same {w w' : World} {g N : Nat} {f : Nat → Int} (h : NumR w g N f) (he : hat w' g = hat w g) : NumR w' g N f := by
 obtain ⟨cs, h1, h2⟩ := h
 exact ⟨cs, he.trans h1, h2⟩
theorem NumR.put {w : World} {g N : Nat} {f f' : Nat → Int} (h : NumR w g N f) {p : Nat} {x : Int} (hp : p < N) (hf : ∀ j, f' j = if p = j then x else f j) : NumR (w.setCell ⟨g, p, none⟩ (.int .i64 x)) g N f' := by
 obtain ⟨cs, h1, h2, h3⟩ := h
 refine ⟨cs.setIfInBounds p (.int .i64 x), hat_setCell_at _ _ _ _ _ _ _ h1, by simpa using h2, fun j hj => ?_⟩
 rw [Array.getElem?_setIfInBounds, hf]
 by_cases hjp : p = j
 ·subst hjp
  rw [if_pos rfl, if_pos (by omega), if_pos rfl]
 ·rw [if_neg hjp, if_neg hjp, h3 j hj]
def Inos (w : World) (g M : Nat) (I : Nat → List Int) : Prop := ∃ cs, hat w g = some (.cells cs 78) ∧ cs.size = M * 18 ∧ ∀ i, i < M → (I i).length = 18 ∧ cs.extract (i * 18) (i * 18 + 18) = IV .i64 (I i)
theorem Inos.lt {w : World} {g N : Nat} {I : Nat → List Int} (h : Inos w g N I) : g < w.heap.size := by
 obtain ⟨cs, h1, -⟩ := h; exact hat_lt h1
theorem Inos.same {w w' : World} {g N : Nat} {I : Nat → List Int} (h : Inos w g N I) (he : hat w' g = hat w g) : Inos w' g N I := by
 obtain ⟨cs, h1, h2⟩ := h
 exact ⟨cs, he.trans h1, h2⟩
theorem Inos.load {w : World} {g M : Nat} {I : Nat → List Int} (h : Inos w g M I) {i : Nat} (hi : i < M) :
  ∃ cs, hat w g = some (.cells cs 78) ∧ (I i).length = 18 ∧ (∀ raw w', ldRow raw 18 (i * 18) w' (some (.cells cs 78)) = .ok (.agg (IV .i64 (I i))) w') ∧ ∀ k, k < 18 → cs[i * 18 + k]? = some (.int .i64 (nth (I i) k)) := by
 obtain ⟨cs, h1, h2, h3⟩ := h
 obtain ⟨hl, hx⟩ := h3 i hi
 refine ⟨cs, h1, hl, fun raw w' => ?_, fun k hk => ?_⟩
 ·rw [ldRow_part (by omega), hx]
 ·have := congrArg (fun a : Array Value => a[k]?) hx
  simp only [Array.getElem?_extract, IV_get?, nth_getElem? (l := I i) (i := k) (by omega)] at this
  rw [if_pos (by omega)] at this
  exact this
theorem Tryz.infoW3 : (Tryz.prog.info? 3).map (fun i => (i.zero, i.size, i.bytes)) = some (some (.int .i64 0), 1, 8) := by kernel_rfl
theorem Tryz.infoW4 : (Tryz.prog.info? 4).map (fun i => (i.zero, i.size, i.bytes)) = some (some (.bool false), 1, 1) := by kernel_rfl
theorem made_get (z : Value) (n j : Nat) (hj : j < n) (hz : z.cells = #[z]) : (madeCells z.cells (n * 1))[j]? = some z := by
 rw [hz]
 unfold madeCells
 rw [Array.getElem?_map, Array.getElem?_range, if_pos (by omega)]
 simp [Nat.mod_one]
theorem make_numR (w : World) (N : Nat) (hN : N ≤ 5000) : ∃ w', (Instr.makeSlice 32 (.int .i64 N) (.int .i64 N)).run Tryz.prog w = .ok (.slice (some ⟨w.heap.size, 0, none⟩) N N) w' ∧ NumR w' w.heap.size N (fun _ => 0) ∧ Below w.heap.size w w' := by
 obtain ⟨i, h2, h3, h4, h5⟩ := info_parts Tryz.infoW3
 have hr := run_make (P := Tryz.prog) w 32 3 i (.int .i64 0) Tryz.underlying32 h2 h3 .i64 .i64 N N (by omega) (Int.le_refl _) (by rw [h5]; omega) (by omega)
 rw [Int.toNat_natCast, h4] at hr
 refine ⟨_, hr, ⟨_, (hopN w _).1, by rw [size_madeCells]; omega, fun j hj => made_get _ _ _ hj rfl⟩, (Below.refl _ _).alloc (Nat.le_refl _) _⟩
theorem make_bools (w : World) (N : Nat) (hN : N ≤ 5000) : ∃ w', (Instr.makeSlice 72 (.int .i64 N) (.int .i64 N)).run Tryz.prog w = .ok (.slice (some ⟨w.heap.size, 0, none⟩) N N) w' ∧ Bools w' w.heap.size N (fun _ => false) ∧ Below w.heap.size w w' := by
 obtain ⟨i, h2, h3, h4, h5⟩ := info_parts Tryz.infoW4
 have hr := run_make (P := Tryz.prog) w 72 4 i (.bool false) Tryz.underlying72 h2 h3 .i64 .i64 N N (by omega) (Int.le_refl _) (by rw [h5]; omega) (by omega)
 rw [Int.toNat_natCast, h4] at hr
 refine ⟨_, hr, ⟨_, (hopN w _).1, by rw [size_madeCells]; omega, fun j hj => made_get _ _ _ hj rfl⟩, (Below.refl _ _).alloc (Nat.le_refl _) _⟩
theorem info_inoz : ∃ i0 z, Tryz.prog.info? 78 = some i0 ∧ i0.zero = some z ∧ z.cells = IV .i64 (zl 18) ∧ i0.size = 18 ∧ i0.bytes = 144 := by
 have h : (Tryz.prog.info? 78).map (fun i => (i.zero.map (fun z => z.cells), i.size, i.bytes)) = some (some (IV .i64 (zl 18)), 18, 144) := by kernel_rfl
 cases hq : Tryz.prog.info? 78 with
 | none => rw [hq] at h; cases h
 | some inf =>
  rw [hq] at h
  simp only [Option.map_some, Option.some.injEq, Prod.mk.injEq] at h
  obtain ⟨h1, h2, h3⟩ := h
  cases hz : inf.zero with
  | none => rw [hz] at h1; cases h1
  | some z =>
   rw [hz] at h1
   simp only [Option.map_some, Option.some.injEq] at h1
   exact ⟨inf, z, rfl, hz, h1, h2, h3⟩
theorem make_inos (w : World) (N : Nat) (hN : N ≤ 5000) : ∃ w', (Instr.makeSlice 73 (.int .i64 N) (.int .i64 N)).run Tryz.prog w = .ok (.slice (some ⟨w.heap.size, 0, none⟩) N N) w' ∧ Inos w' w.heap.size N (fun _ => zl 18) ∧ Below w.heap.size w w' := by
 obtain ⟨i, z, h2, h3, hc, h4, h5⟩ := info_inoz
 have hr := run_make (P := Tryz.prog) w 73 78 i z Tryz.underlying73 h2 h3 .i64 .i64 N N (by omega) (Int.le_refl _) (by rw [h5]; omega) (by omega)
 rw [Int.toNat_natCast, h4, hc] at hr
 refine ⟨_, hr, ⟨_, (hopN w _).1, by rw [size_madeCells], fun j hj => ⟨zl_length _, ?_⟩⟩, (Below.refl _ _).alloc (Nat.le_refl _) _⟩
 apply Array.ext_getElem?
 intro k
 rw [Array.getElem?_extract, IV_get?, size_madeCells]
 by_cases hk : k < 18
 ·rw [if_pos (by omega)]
  have hm : ((IV .i64 (zl 18)).size : Nat) = 18 := by simp
  have hlt : (j * 18 + k) % 18 < 18 := Nat.mod_lt _ (by omega)
  have hz : ∀ n, n < 18 → (IV .i64 (zl 18))[n]! = .int .i64 0 := fun n hn => by
   rw [getElem!_def, IV_get?]
   unfold zl
   rw [List.getElem?_replicate, if_pos hn]; rfl
  unfold madeCells
  rw [Array.getElem?_map, Array.getElem?_range, if_pos (by omega)]
  simp only [Option.map_some, hm, hz _ hlt]
  unfold zl
  rw [List.getElem?_replicate, if_pos hk]; rfl
 ·rw [if_neg (by omega), List.getElem?_eq_none (by simp; omega)]; rfl
def Slots (w : World) (g : Nat) (l : List Ent) : Prop := ∃ cs, hat w g = some (.cells cs 125) ∧ ∀ k x nm, l[k]? = some (x, nm) → cs[k * 2]? = some (.int .i64 x) ∧ cs[k * 2 + 1]? = some (.string nm)
theorem Slots.same {w w' : World} {g : Nat} {l : List Ent} (h : Slots w g l) (he : hat w' g = hat w g) : Slots w' g l := by
 obtain ⟨cs, h1, h2⟩ := h
 exact ⟨cs, he.trans h1, h2⟩
theorem slotRow_get : ∀ (l : List Ent) (k : Nat) (x : Int) (nm : ByteArray), l[k]? = some (x, nm) → (slotRow l)[k * 2]? = some (.int .i64 x) ∧ (slotRow l)[k * 2 + 1]? = some (.string nm)
 | [], k, x, nm, h => by simp at h
 | e :: r, 0, x, nm, h => by
  simp at h
  subst h
  exact ⟨rfl, rfl⟩
 | e :: r, k + 1, x, nm, h => by
  have h2 : r[k]? = some (x, nm) := by simpa using h
  obtain ⟨a, b⟩ := slotRow_get r k x nm h2
  have e1 : slotRow (e :: r) = [.int .i64 e.1, .string e.2] ++ slotRow r := rfl
  rw [e1]
  constructor
  ·rw [List.getElem?_append_right (by show 2 ≤ (k + 1) * 2; omega)]
   rw [show (k + 1) * 2 - [Value.int .i64 e.1, Value.string e.2].length = k * 2 by show (k + 1) * 2 - 2 = _; omega]
   exact a
  ·rw [List.getElem?_append_right (by show 2 ≤ (k + 1) * 2 + 1; omega)]
   rw [show (k + 1) * 2 + 1 - [Value.int .i64 e.1, Value.string e.2].length = k * 2 + 1 by show (k + 1) * 2 + 1 - 2 = _; omega]
   exact b
theorem slots_of {w : World} {base : Nat} {v : Value} {l : List Ent} (h : w.ownsRow base 125 2 v l.length (slotRow l)) : (l = [] ∧ ∃ a c, v = .slice a 0 c) ∨ ∃ g c, v = .slice (some ⟨g, 0, none⟩) l.length c ∧ base ≤ g ∧ Slots w g l := by
 obtain ⟨h0, ⟨rfl, hn⟩ | ⟨g, cap, cur, h1, h2, h3, h4, h5, h6, h7⟩⟩ := h
 ·exact .inl ⟨List.length_eq_zero_iff.1 hn, none, 0, rfl⟩
 ·refine .inr ⟨g, cap, h1, h2, cur, h3, fun k x nm hk => ?_⟩
  obtain ⟨a, b⟩ := slotRow_get l k x nm hk
  have hkl := (List.getElem?_eq_some_iff.1 hk).1
  rw [← h7, List.getElem?_take, if_pos (by omega)] at a
  rw [← h7, List.getElem?_take, if_pos (by omega)] at b
  exact ⟨by simpa using a, by simpa using b⟩
def EntOk (I : Nat → List Int) (M : Nat) (l : List Ent) : Prop := (∀ e ∈ l, 2 ≤ e.1 ∧ e.1 < M ∧ nth (I e.1.toNat) 0 ≠ 0) ∧ (l.map Prod.snd).Nodup
def dirOkW (S I : Nat → List Int) (M i : Nat) : Prop := nth (I i) 0 = 2 → ∃ l, slotsW S (blksW S (I i)) [] = some l ∧ EntOk I M l
def DirsOk (S I : Nat → List Int) (M : Nat) : Prop := ∀ i, 1 ≤ i → i < M → dirOkW S I M i
def entL (S I : Nat → List Int) (M : Nat) (i : Nat) : List Ent := if 1 ≤ i ∧ i < M ∧ nth (I i) 0 = 2 then (slotsW S (blksW S (I i)) []).getD [] else []
theorem entL_yes {S I : Nat → List Int} {M i : Nat} (h1 : 1 ≤ i) (h2 : i < M) (h3 : nth (I i) 0 = 2) {l : List Ent} (h : slotsW S (blksW S (I i)) [] = some l) : entL S I M i = l := by
 unfold entL
 rw [if_pos ⟨h1, h2, h3⟩, h]; rfl
theorem entL_no {S I : Nat → List Int} {M i : Nat} (h3 : nth (I i) 0 ≠ 2) : entL S I M i = [] := by
 unfold entL
 rw [if_neg (fun h => h3 h.2.2)]
def cntI (L : Nat → List Ent) (i j : Nat) : Nat := ((List.range i).map fun i' => (L i').countP fun e => decide (e.1 = (j : Int))).sum
theorem cntI_succ (L : Nat → List Ent) (i j : Nat) : cntI L (i + 1) j = cntI L i j + (L i).countP fun e => decide (e.1 = (j : Int)) := by
 unfold cntI
 rw [List.range_succ, List.map_append, List.sum_append]
 simp
theorem cntI_cntL (L : Nat → List Ent) (N j : Nat) : cntI L (N + 1) j = cntL L N j := rfl
def Closed (L : Nat → List Ent) (P : Nat → Prop) : Prop := ∀ i e, P i → e ∈ L i → P e.1.toNat
structure RchIs (L : Nat → List Ent) (M : Nat) (rch : Int → Bool) : Prop where
 one : rch 1 = true
 cl : ∀ i : Nat, i < M → rch i = true → ∀ e ∈ L i, rch e.1 = true
 low : ∀ P : Nat → Prop, P 1 → Closed L P → ∀ j : Nat, j < M → rch j = true → P j
def unr (M : Nat) (rch : Int → Bool) : Nat := ((List.range M).filter fun (j : Nat) => !rch (j : Int)).length
theorem unr_add {M : Nat} {rch : Int → Bool} {x : Nat} (hx : x < M) (h : rch x = false) : unr M (addS rch x) < unr M rch := by
 unfold unr
 have e : (List.range M).filter (fun (j : Nat) => !addS rch x (j : Int)) = ((List.range M).filter fun (j : Nat) => !rch (j : Int)).filter fun j => j != x := by
  rw [List.filter_filter]
  apply List.filter_congr
  intro j _
  by_cases hj : j = x
  ·subst hj; simp [addS]
  ·have : ¬ ((j : Int) = (x : Int)) := by omega
   simp [addS, hj, this]
 rw [e, List.length_filter_lt_length_iff_exists]
 exact ⟨x, List.mem_filter.2 ⟨List.mem_range.2 hx, by simp [h]⟩, by simp⟩
theorem unr_le (M : Nat) (rch : Int → Bool) : unr M rch ≤ M := by
 unfold unr
 exact Nat.le_trans (List.length_filter_le _ _) (by simp)
theorem take_count {l : List Ent} {k : Nat} {e : Ent} (h : l[k]? = some e) (f : Ent → Bool) : (l.take (k + 1)).countP f = (l.take k).countP f + if f e = true then 1 else 0 := by
 rw [List.take_add_one, h, List.countP_append]
 simp [List.countP_cons]
def tryRow (X Y base : Int) (k : Nat) (p : Int) (st : LS) : Bool × LS :=
 if isD X Y p = true ∧ st.cl p = false then (true, { st with cl := addS st.cl p, bk := putI st.bk (base + k) p }) else (false, st)
noncomputable def tryTab (X Y : Int) (F : List Int → LS → List Int × Bool × LS) (p : Int) (st : LS) : Bool × LS :=
 if isD X Y p = true ∧ st.cl p = false then tableP F p.toNat { st with cl := addS st.cl p } else (false, st)
def siftT (T : Nat → Int → LS → Bool × LS) (base step n : Int) : Nat → List Int → LS → List Int × Bool × LS
 | _, [], st => ([], false, st)
 | k, p :: r, st =>
  if p = 0 ∨ n ≤ base + step * k ∨ (T k p st).1 = false then (0 :: (siftT T base step n (k + 1) r st).1, (siftT T base step n (k + 1) r st).2.1, (siftT T base step n (k + 1) r st).2.2)
  else (p :: (siftT T base step n (k + 1) r (T k p st).2).1, true, (siftT T base step n (k + 1) r (T k p st).2).2.2)
theorem siftT_cons (T : Nat → Int → LS → Bool × LS) (base step n : Int) (k : Nat) (p : Int) (r : List Int) (st : LS) : siftT T base step n k (p :: r) st =
  if p = 0 ∨ n ≤ base + step * k ∨ (T k p st).1 = false then (0 :: (siftT T base step n (k + 1) r st).1, (siftT T base step n (k + 1) r st).2.1, (siftT T base step n (k + 1) r st).2.2)
  else (p :: (siftT T base step n (k + 1) r (T k p st).2).1, true, (siftT T base step n (k + 1) r (T k p st).2).2.2) := rfl
theorem siftP_T {goodP : Int → LS → Bool × LS} {keepP : Nat → Int → LS → Bool × LS} {T : Nat → Int → LS → Bool × LS} (base step n : Int)
  (hT : ∀ k p st, T k p st = if (goodP p st).1 = false then (false, (goodP p st).2) else keepP k p (goodP p st).2) (hF : ∀ k p st, (T k p st).1 = false → (T k p st).2 = st) :
  ∀ (ps : List Int) (k : Nat) (st : LS), siftP goodP keepP base step n k ps st = siftT T base step n k ps st
 | [], _, _ => rfl
 | p :: r, k, st => by
  rw [siftP_cons, siftT_cons]
  simp only [siftP_T base step n hT hF r]
  by_cases h0 : p = 0
  ·rw [if_pos h0, if_pos (.inl h0)]
  ·rw [if_neg h0]
   by_cases h1 : n ≤ base + step * k
   ·rw [if_pos h1, if_pos (.inr (.inl h1))]
   ·rw [if_neg h1]
    have ht := hT k p st
    by_cases h2 : (goodP p st).1 = false
    ·rw [if_pos h2] at ht
     have hf := hF k p st (by rw [ht])
     have e : (goodP p st).2 = st := by rw [ht] at hf; exact hf
     rw [if_pos h2, if_pos (.inr (.inr (by rw [ht]))), e]
    ·rw [if_neg h2] at ht
     rw [if_neg h2, ← ht]
     by_cases h3 : (T k p st).1 = false
     ·rw [if_pos h3, if_pos (.inr (.inr h3)), hF k p st h3]
     ·rw [if_neg h3, if_neg (by rintro (h | h | h) <;> contradiction)]
def Gr (s s2 : LS) : Prop := ∀ j : Nat, s.cl j = true → s2.cl j = true ∧ s2.fm j = s.fm j ∧ s2.S j = s.S j
theorem Gr.refl (s : LS) : Gr s s := fun _ h => ⟨h, rfl, rfl⟩
theorem Gr.trans {a b c : LS} (h : Gr a b) (h2 : Gr b c) : Gr a c := fun j hj => by
 obtain ⟨h3, h4, h5⟩ := h j hj
 obtain ⟨h6, h7, h8⟩ := h2 j h3
 exact ⟨h6, h7.trans h4, h8.trans h5⟩
def FmCl (s : LS) : Prop := ∀ j : Nat, s.fm j = true → s.cl j = true
structure TryOK (T : Int → LS → Bool × LS) : Prop where
 fail : ∀ p s, (T p s).1 = false → (T p s).2 = s
 grow : ∀ p s, Gr s (T p s).2
 fmcl : ∀ p s, FmCl s → FmCl (T p s).2
structure SiftOK (F : List Int → LS → List Int × Bool × LS) : Prop where
 fail : ∀ ps s, (F ps s).2.1 = false → (F ps s).2.2 = s ∧ ∀ i, nth (F ps s).1 i = 0
 grow : ∀ ps s, Gr s (F ps s).2.2
 fmcl : ∀ ps s, FmCl s → FmCl (F ps s).2.2
 sub : ∀ ps s i, nth (F ps s).1 i = nth ps i ∨ nth (F ps s).1 i = 0
 len : ∀ ps s, (F ps s).1.length = ps.length
theorem nth_cons0 (p : Int) (r : List Int) : nth (p :: r) 0 = p := rfl
theorem nth_consS (p : Int) (r : List Int) (i : Nat) : nth (p :: r) (i + 1) = nth r i := rfl
theorem isD_nat {X Y p : Int} (hY : 0 ≤ Y) (h : isD X Y p = true) : (p.toNat : Int) = p ∧ p ≠ 0 := by
 unfold isD at h
 have := of_decide_eq_true h
 omega
theorem addS_self (s : Int → Bool) (p : Int) : addS s p p = true := by simp [addS]
theorem addS_mono {s : Int → Bool} {p q : Int} (h : s q = true) : addS s p q = true := by simp [addS, h]
theorem addS_ne {s : Int → Bool} {p q : Int} (h : q ≠ p) : addS s p q = s q := by simp [addS, h]
theorem del_add {s : Int → Bool} {p : Int} (h : s p = false) : delS (addS s p) p = s := by
 funext q
 unfold delS addS
 by_cases hq : q = p
 ·subst hq; simp [h]
 ·simp [hq]
theorem updS_eq (S : Nat → List Int) (i : Nat) (a : List Int) : updS S i a i = a := by unfold updS; rw [if_pos rfl]
theorem updS_ne (S : Nat → List Int) {i j : Nat} (a : List Int) (h : j ≠ i) : updS S i a j = S j := by unfold updS; rw [if_neg h]
theorem siftT_ok {T : Nat → Int → LS → Bool × LS} (hT : ∀ k, TryOK (T k)) (base step n : Int) (k0 : Nat) : SiftOK (siftT T base step n k0) := by
 refine ⟨fun ps => ?_, fun ps => ?_, fun ps => ?_, fun ps => ?_, fun ps => ?_⟩
 ·induction ps generalizing k0 with
  | nil => intro s _; exact ⟨rfl, fun i => rfl⟩
  | cons p r ih =>
   intro s h
   rw [siftT_cons] at h ⊢
   split at h
   ·rename_i hc
    rw [if_pos hc]
    obtain ⟨h1, h2⟩ := ih (k0 + 1) s h
    refine ⟨h1, fun i => ?_⟩
    cases i with
    | zero => rfl
    | succ i => exact h2 i
   ·cases h
 ·induction ps generalizing k0 with
  | nil => intro s; exact Gr.refl _
  | cons p r ih =>
   intro s
   rw [siftT_cons]
   split
   ·exact ih (k0 + 1) s
   ·exact ((hT k0).grow p s).trans (ih (k0 + 1) _)
 ·induction ps generalizing k0 with
  | nil => intro s h; exact h
  | cons p r ih =>
   intro s h
   rw [siftT_cons]
   split
   ·exact ih (k0 + 1) s h
   ·exact ih (k0 + 1) _ ((hT k0).fmcl p s h)
 ·induction ps generalizing k0 with
  | nil => intro s i; exact .inl rfl
  | cons p r ih =>
   intro s i
   rw [siftT_cons]
   split
   ·cases i with
    | zero => exact .inr rfl
    | succ i => exact ih (k0 + 1) s i
   ·cases i with
    | zero => exact .inl rfl
    | succ i => exact ih (k0 + 1) _ i
 ·induction ps generalizing k0 with
  | nil => intro s; rfl
  | cons p r ih =>
   intro s
   rw [siftT_cons]
   split
   ·simp [ih (k0 + 1) s]
   ·simp [ih (k0 + 1) (T k0 p s).2]
theorem tryRow_ok (X Y base : Int) (k : Nat) : TryOK (tryRow X Y base k) := by
 refine ⟨fun p s h => ?_, fun p s => ?_, fun p s h => ?_⟩
 ·unfold tryRow at h ⊢
  split at h
  ·cases h
  ·rename_i hc; rw [if_neg hc]
 ·unfold tryRow
  split
  ·exact fun j hj => ⟨addS_mono hj, rfl, rfl⟩
  ·exact Gr.refl _
 ·unfold tryRow
  split
  ·exact fun j hj => addS_mono (h j hj)
  ·exact h
theorem tryTab_yes {X Y : Int} {F : List Int → LS → List Int × Bool × LS} {p : Int} {s : LS} (h : (tryTab X Y F p s).1 = true) :
  isD X Y p = true ∧ s.cl p = false ∧ (F (rdPtr (s.S p.toNat)) { s with cl := addS s.cl p }).2.1 = true ∧
  (tryTab X Y F p s).2 = { (F (rdPtr (s.S p.toNat)) { s with cl := addS s.cl p }).2.2 with S := updS (F (rdPtr (s.S p.toNat)) { s with cl := addS s.cl p }).2.2.S p.toNat (ptrR (F (rdPtr (s.S p.toNat)) { s with cl := addS s.cl p }).1).1, fm := addS (F (rdPtr (s.S p.toNat)) { s with cl := addS s.cl p }).2.2.fm p.toNat } := by
 unfold tryTab at h ⊢
 split at h
 ·rename_i hc
  rw [if_pos hc]
  unfold tableP at h ⊢
  split at h
  ·cases h
  ·rename_i hl
   rw [if_neg hl]
   exact ⟨hc.1, hc.2, by simpa using hl, rfl⟩
 ·cases h
theorem tryTab_is {X Y : Int} {F : List Int → LS → List Int × Bool × LS} {p : Int} {s : LS} (h1 : isD X Y p = true) (h2 : s.cl p = false) : (tryTab X Y F p s).1 = (F (rdPtr (s.S p.toNat)) { s with cl := addS s.cl p }).2.1 := by
 unfold tryTab
 rw [if_pos ⟨h1, h2⟩]
 unfold tableP
 split
 ·rename_i h; exact h.symm
 ·rename_i h; simpa using h
theorem tryTab_ok {X Y : Int} (hY : 0 ≤ Y) {F : List Int → LS → List Int × Bool × LS} (hF : SiftOK F) : TryOK (tryTab X Y F) := by
 have hfail : ∀ p s, (tryTab X Y F p s).1 = false → (tryTab X Y F p s).2 = s := by
  intro p s h
  unfold tryTab at h ⊢
  split at h
  ·rename_i hc
   rw [if_pos hc]
   unfold tableP at h ⊢
   split at h
   ·rename_i hl
    rw [if_pos hl]
    have e := (hF.fail _ _ hl).1
    have hp := (isD_nat hY hc.1).1
    simp only
    rw [e]
    simp only [hp, del_add hc.2]
   ·cases h
  ·rename_i hc; rw [if_neg hc]
 refine ⟨hfail, fun p s => ?_, fun p s h => ?_⟩
 ·cases hb : (tryTab X Y F p s).1 with
  | false => rw [hfail p s hb]; exact Gr.refl _
  | true =>
   obtain ⟨h1, h2, h3, h4⟩ := tryTab_yes hb
   rw [h4]
   obtain ⟨hp, -⟩ := isD_nat hY h1
   intro j hj
   have hjp : (j : Int) ≠ p := fun e => by rw [e, h2] at hj; cases hj
   have hjn : j ≠ p.toNat := fun e => hjp (by rw [e, hp])
   obtain ⟨g1, g2, g3⟩ := hF.grow (rdPtr (s.S p.toNat)) { s with cl := addS s.cl p } j (addS_mono hj)
   refine ⟨g1, ?_, ?_⟩
   ·show addS _ _ _ = _
    rw [addS_ne (by rw [hp]; exact hjp)]; exact g2
   ·show updS _ _ _ _ = _
    rw [updS_ne _ _ hjn]; exact g3
 ·cases hb : (tryTab X Y F p s).1 with
  | false => rw [hfail p s hb]; exact h
  | true =>
   obtain ⟨h1, h2, h3, h4⟩ := tryTab_yes hb
   rw [h4]
   obtain ⟨hp, -⟩ := isD_nat hY h1
   intro j hj
   have hc1 : FmCl { s with cl := addS s.cl p } := fun j hj => addS_mono (h j hj)
   by_cases hjp : (j : Int) = p
   ·have := (hF.grow (rdPtr (s.S p.toNat)) { s with cl := addS s.cl p } j (by rw [hjp]; exact addS_self _ _)).1
    exact this
   ·have hj2 : addS (F (rdPtr (s.S p.toNat)) { s with cl := addS s.cl p }).2.2.fm p.toNat j = true := hj
    rw [addS_ne (by rw [hp]; exact hjp)] at hj2
    exact hF.fmcl _ _ hc1 j hj2
def subP (a b : List Int) : Prop := ∀ i, nth (rdPtr a) i = nth (rdPtr b) i ∨ nth (rdPtr a) i = 0
structure Sd (X Y : Int) (allw : Prop) (W A : Nat → List Int) (f0 : Int → Bool) (s s' : LS) : Prop where
 cl : s'.cl = s.cl
 fm : s'.fm = s.fm
 bk : s'.bk = s.bk
 S : ∀ j, s'.S j = s.S j ∨ s'.S j = W j
 un : ∀ j : Nat, isD X Y j = true → s.cl j = false → s'.S j = A j ∧ Bytes (s.S j) ∧ (¬ allw → subP (A j) (s.S j))
 f0 : ∀ j : Nat, f0 j = true → s.cl j = true
 fc : FmCl s
def Pro (allw : Prop) (W A : Nat → List Int) (f0 : Int → Bool) (s : LS) : Prop := ∀ j : Nat, s.fm j = true → f0 j = false → s.S j = W j ∧ (allw → A j = W j)
theorem Pro.back {allw : Prop} {W A : Nat → List Int} {f0 : Int → Bool} {s s2 : LS} (h : Pro allw W A f0 s2) (hg : Gr s s2) (hc : FmCl s) : Pro allw W A f0 s := fun j hj h0 => by
 obtain ⟨h1, h2, h3⟩ := hg j (hc j hj)
 have := h j (by rw [h2]; exact hj) h0
 rw [h3] at this
 exact this
structure SimT (X Y : Int) (allw : Prop) (W A : Nat → List Int) (f0 : Int → Bool) (T : Int → LS → Bool × LS) : Prop where
 yes : ∀ p s s', Sd X Y allw W A f0 s s' → Pro allw W A f0 (T p s).2 → (T p s).1 = true → (T p s').1 = true ∧ Sd X Y allw W A f0 (T p s).2 (T p s').2
 no : ∀ p s s', Sd X Y allw W A f0 s s' → Pro allw W A f0 s → (T p s).1 = false → ¬ allw → (T p s').1 = false
def SimF (X Y : Int) (allw : Prop) (W A : Nat → List Int) (f0 : Int → Bool) (F : List Int → LS → List Int × Bool × LS) : Prop :=
 ∀ ps ps' s s', Sd X Y allw W A f0 s s' → Pro allw W A f0 (F ps s).2.2 → ps'.length = ps.length → (∀ i, (nth ps' i = nth ps i ∨ (nth ps' i = 0 ∧ nth (F ps s).1 i = 0)) ∧ (allw → nth ps' i = nth (F ps s).1 i)) →
  (F ps' s').1 = (F ps s).1 ∧ (F ps' s').2.1 = (F ps s).2.1 ∧ Sd X Y allw W A f0 (F ps s).2.2 (F ps' s').2.2
theorem siftT_sim {X Y : Int} {allw : Prop} {W A : Nat → List Int} {f0 : Int → Bool} {T : Nat → Int → LS → Bool × LS} (hT : ∀ k, TryOK (T k)) (hS : ∀ k, SimT X Y allw W A f0 (T k)) (base step n : Int) (k0 : Nat) : SimF X Y allw W A f0 (siftT T base step n k0) := by
 intro ps
 induction ps generalizing k0 with
 | nil =>
  intro ps' s s' hR hP hl hi
  cases ps' with
  | nil => exact ⟨rfl, rfl, hR⟩
  | cons _ _ => cases hl
 | cons p r ih =>
  intro ps' s s' hR hP hl hi
  cases ps' with
  | nil => cases hl
  | cons p' r' =>
   have hl' : r'.length = r.length := by simpa using hl
   have h0 := hi 0
   have hS' := fun i => hi (i + 1)
   rw [siftT_cons] at hP h0 hS' ⊢
   rw [siftT_cons]
   by_cases hc : p = 0 ∨ n ≤ base + step * k0 ∨ (T k0 p s).1 = false
   ·rw [if_pos hc] at hP h0 hS' ⊢
    simp only [nth_cons0, nth_consS] at h0 hS'
    have hc' : p' = 0 ∨ n ≤ base + step * k0 ∨ (T k0 p' s').1 = false := by
     by_cases hp0 : p' = 0
     ·exact .inl hp0
     ·have hpp : p' = p := by
       rcases h0.1 with h | h
       ·exact h
       ·exact absurd h.1 hp0
      have hna : ¬ allw := fun ha => hp0 (h0.2 ha)
      subst hpp
      rcases hc with h | h | h
      ·exact .inl h
      ·exact .inr (.inl h)
      ·exact .inr (.inr ((hS k0).no p' s s' hR (hP.back ((siftT_ok hT base step n (k0 + 1)).grow r s) hR.fc) h hna))
    rw [if_pos hc']
    obtain ⟨a1, a2, a3⟩ := ih (k0 + 1) r' s s' hR hP hl' hS'
    exact ⟨by rw [a1], a2, a3⟩
   ·rw [if_neg hc] at hP h0 hS' ⊢
    simp only [nth_cons0, nth_consS] at h0 hS'
    have hp0 : p ≠ 0 := fun h => hc (.inl h)
    have hpp : p' = p := by
     rcases h0.1 with h | h
     ·exact h
     ·exact absurd h.2 hp0
    subst hpp
    have ht : (T k0 p' s).1 = true := by
     cases hb : (T k0 p' s).1 with
     | true => rfl
     | false => exact absurd (.inr (.inr hb)) hc
    have hPm : Pro allw W A f0 (T k0 p' s).2 := hP.back ((siftT_ok hT base step n (k0 + 1)).grow r _) ((hT k0).fmcl p' s hR.fc)
    obtain ⟨b1, b2⟩ := (hS k0).yes p' s s' hR hPm ht
    have hc' : ¬ (p' = 0 ∨ n ≤ base + step * k0 ∨ (T k0 p' s').1 = false) := by
     rintro (h | h | h)
     ·exact hp0 h
     ·exact hc (.inr (.inl h))
     ·rw [b1] at h; cases h
    rw [if_neg hc']
    obtain ⟨a1, a2, a3⟩ := ih (k0 + 1) r' _ _ b2 hP hl' hS'
    exact ⟨by rw [a1], rfl, a3⟩
theorem tryRow_sim (X Y : Int) (allw : Prop) (W A : Nat → List Int) (f0 : Int → Bool) (base : Int) (k : Nat) : SimT X Y allw W A f0 (tryRow X Y base k) := by
 refine ⟨fun p s s' hR hP h => ?_, fun p s s' hR hP h hna => ?_⟩
 ·unfold tryRow at h hP ⊢
  split at h
  ·rename_i hc
   rw [if_pos hc] at hP ⊢
   rw [if_pos (by rw [hR.cl]; exact hc)]
   refine ⟨rfl, by show addS s'.cl p = addS s.cl p; rw [hR.cl], hR.fm, by show putI s'.bk _ _ = putI s.bk _ _; rw [hR.bk], hR.S, fun j hj hcj => hR.un j hj ?_, fun j hj => addS_mono (hR.f0 j hj), fun j hj => addS_mono (hR.fc j hj)⟩
   cases hb : s.cl j with
   | false => rfl
   | true => have : addS s.cl p j = true := addS_mono hb; rw [show addS s.cl p j = false from hcj] at this; cases this
  ·cases h
 ·unfold tryRow at h ⊢
  split at h
  ·cases h
  ·rename_i hc
   rw [if_neg (by rw [hR.cl]; exact hc)]
theorem ptrMay_sub {o c : List Int} (hc : Bytes c) (hs : ∀ i, nth o i = nth (rdPtr c) i ∨ nth o i = 0) : PtrMay o := by
 intro j hj
 rcases hs j with h | h
 ·rw [h]
  have hm : nth (rdPtr c) j ∈ rdPtr c := by
   unfold nth
   rw [List.getElem?_eq_getElem (by simp; exact hj)]
   exact List.getElem_mem _
  exact rdPtr_small hc _ hm
 ·rw [h]; omega
theorem tryTab_sim {X Y : Int} (hY : 0 ≤ Y) {allw : Prop} {W A : Nat → List Int} {f0 : Int → Bool} {F : List Int → LS → List Int × Bool × LS} (hF : SiftOK F) (hS : SimF X Y allw W A f0 F) : SimT X Y allw W A f0 (tryTab X Y F) := by
 have hclaim : ∀ p s s', Sd X Y allw W A f0 s s' → Sd X Y allw W A f0 { s with cl := addS s.cl p } { s' with cl := addS s'.cl p } := fun p s s' hR =>
  ⟨by show addS s'.cl p = addS s.cl p; rw [hR.cl], hR.fm, hR.bk, hR.S, fun j hj hcj => hR.un j hj (by
   cases hb : s.cl j with
   | false => rfl
   | true => have : addS s.cl p j = true := addS_mono hb; rw [show addS s.cl p j = false from hcj] at this; cases this), fun j hj => addS_mono (hR.f0 j hj), fun j hj => addS_mono (hR.fc j hj)⟩
 refine ⟨fun p s s' hR hP h => ?_, fun p s s' hR hP h hna => ?_⟩
 ·obtain ⟨h1, h2, h3, h4⟩ := tryTab_yes h
  obtain ⟨hp, hp0⟩ := isD_nat hY h1
  have h1' : isD X Y (p.toNat : Int) = true := by rw [hp]; exact h1
  have h2' : s.cl (p.toNat : Int) = false := by rw [hp]; exact h2
  obtain ⟨u1, u2, u3⟩ := hR.un p.toNat h1' h2'
  have hR1 := hclaim p s s' hR
  rw [h4] at hP
  have hmay : PtrMay (F (rdPtr (s.S p.toNat)) { s with cl := addS s.cl p }).1 := ptrMay_sub u2 (fun i => hF.sub _ _ i)
  have hlen : (F (rdPtr (s.S p.toNat)) { s with cl := addS s.cl p }).1.length = 32 := by rw [hF.len]; simp
  have hback := ptr_back _ hlen hmay
  have hf0 : f0 p.toNat = false := by
   cases hb : f0 p.toNat with
   | false => rfl
   | true => have := hR.f0 p.toNat hb; rw [h2'] at this; cases this
  have hW := hP p.toNat (addS_self _ _) hf0
  obtain ⟨hW1, hW2⟩ := hW
  have hW1 : ptrSecN (F (rdPtr (s.S p.toNat)) { s with cl := addS s.cl p }).1 32 = W p.toNat := by
   rw [← hW1]
   show _ = updS _ _ _ _
   rw [updS_eq, ptrR_yes hmay]
  have hsfm : s.fm p.toNat = false := by
   cases hb : s.fm p.toNat with
   | false => rfl
   | true => have := hR.fc p.toNat hb; rw [h2'] at this; cases this
  have hg := hF.grow (rdPtr (s.S p.toNat)) { s with cl := addS s.cl p } p.toNat (by rw [hp]; exact addS_self _ _)
  have hPin : Pro allw W A f0 (F (rdPtr (s.S p.toNat)) { s with cl := addS s.cl p }).2.2 := by
   intro j hj hj0
   have hne : j ≠ p.toNat := fun e => by
    subst e
    have h9 : (F (rdPtr (s.S p.toNat)) { s with cl := addS s.cl p }).2.2.fm p.toNat = s.fm p.toNat := hg.2.1
    rw [h9, hsfm] at hj; cases hj
   have := hP j (addS_mono hj) hj0
   obtain ⟨t1, t2⟩ := this
   refine ⟨?_, t2⟩
   rw [← t1]
   exact (updS_ne _ _ hne).symm
  have hrel : ∀ i, (nth (rdPtr (s'.S p.toNat)) i = nth (rdPtr (s.S p.toNat)) i ∨ (nth (rdPtr (s'.S p.toNat)) i = 0 ∧ nth (F (rdPtr (s.S p.toNat)) { s with cl := addS s.cl p }).1 i = 0)) ∧ (allw → nth (rdPtr (s'.S p.toNat)) i = nth (F (rdPtr (s.S p.toNat)) { s with cl := addS s.cl p }).1 i) := by
   intro i
   refine ⟨?_, fun ha => ?_⟩
   ·rcases hR.S p.toNat with e | e
    ·exact .inl (by rw [e])
    ·rw [e, ← hW1, hback]
     rcases hF.sub (rdPtr (s.S p.toNat)) { s with cl := addS s.cl p } i with h | h
     ·exact .inl h
     ·exact .inr ⟨h, h⟩
   ·rw [u1, hW2 ha, ← hW1, hback]
  obtain ⟨a1, a2, a3⟩ := hS _ (rdPtr (s'.S p.toNat)) _ _ hR1 hPin (by simp) hrel
  have hyes : (tryTab X Y F p s').1 = true := by rw [tryTab_is h1 (by rw [hR.cl]; exact h2), a2, h3]
  obtain ⟨-, -, -, h4'⟩ := tryTab_yes hyes
  refine ⟨hyes, ?_⟩
  rw [h4, h4']
  refine ⟨a3.cl, ?_, a3.bk, fun j => ?_, fun j hj hcj => ?_, a3.f0, fun j hj => ?_⟩
  ·show addS _ _ = addS _ _
   rw [a3.fm]
  ·by_cases hjp : j = p.toNat
   ·subst hjp
    left
    show updS _ _ _ _ = updS _ _ _ _
    rw [updS_eq, updS_eq, a1]
   ·show updS _ _ _ _ = updS _ _ _ _ ∨ updS _ _ _ _ = _
    rw [updS_ne _ _ hjp, updS_ne _ _ hjp]
    exact a3.S j
  ·have hne : j ≠ p.toNat := fun e => by
    subst e
    have h9 : (F (rdPtr (s.S p.toNat)) { s with cl := addS s.cl p }).2.2.cl p.toNat = false := hcj
    rw [hg.1] at h9; cases h9
   obtain ⟨v1, v2, v3⟩ := a3.un j hj hcj
   show updS _ _ _ _ = _ ∧ Bytes (updS _ _ _ _) ∧ (¬ allw → subP _ (updS _ _ _ _))
   rw [updS_ne _ _ hne, updS_ne _ _ hne]
   exact ⟨v1, v2, v3⟩
  ·by_cases hjp : (j : Int) = (p.toNat : Int)
   ·have : j = p.toNat := by omega
    subst this
    exact hg.1
   ·have hj2 : addS (F (rdPtr (s.S p.toNat)) { s with cl := addS s.cl p }).2.2.fm p.toNat j = true := hj
    rw [addS_ne hjp] at hj2
    exact a3.fc j hj2
 ·by_cases hc : isD X Y p = true ∧ s.cl p = false
  ·obtain ⟨h1, h2⟩ := hc
   obtain ⟨hp, hp0⟩ := isD_nat hY h1
   have h1' : isD X Y (p.toNat : Int) = true := by rw [hp]; exact h1
   have h2' : s.cl (p.toNat : Int) = false := by rw [hp]; exact h2
   obtain ⟨u1, u2, u3⟩ := hR.un p.toNat h1' h2'
   have hR1 := hclaim p s s' hR
   rw [tryTab_is h1 h2] at h
   obtain ⟨e1, e2⟩ := hF.fail _ _ h
   have hPin : Pro allw W A f0 (F (rdPtr (s.S p.toNat)) { s with cl := addS s.cl p }).2.2 := by rw [e1]; exact hP
   obtain ⟨a1, a2, a3⟩ := hS _ (rdPtr (s'.S p.toNat)) _ _ hR1 hPin (by simp) (fun i => ⟨by
    rw [u1]
    rcases u3 hna i with h | h
    ·exact .inl h
    ·exact .inr ⟨h, e2 i⟩, fun ha => absurd ha hna⟩)
   rw [tryTab_is h1 (by rw [hR.cl]; exact h2), a2, h]
  ·unfold tryTab
   rw [if_neg (by rw [hR.cl]; exact hc)]
structure SI (X Y : Int) (A : Nat → List Int) (s : LS) : Prop where
 fc : FmCl s
 cd : ∀ q, s.cl q = true → isD X Y q = true
 bk : ∀ k q, s.bk k = some q → isD X Y q = true ∧ s.cl q = true ∧ s.fm q = false
 inj : ∀ k k' q, s.bk k = some q → s.bk k' = some q → k = k'
 un : ∀ j : Nat, s.cl j = false → s.S j = A j
 ln : ∀ j : Nat, isD X Y j = true → (s.S j).length = 128 ∧ Bytes (s.S j)
 sub : ∀ j : Nat, s.fm j = true → subP (s.S j) (A j)
structure Did (s s2 : LS) : Prop where
 new : ∀ k q, s2.bk k = some q → (∃ k', s.bk k' = some q) ∨ (0 ≤ q ∧ s.cl q = false)
 same : ∀ j : Nat, s2.fm j = false → s2.S j = s.S j
theorem Did.refl (s : LS) : Did s s := ⟨fun k q h => .inl ⟨k, h⟩, fun _ _ => rfl⟩
theorem Gr.not {a b : LS} (hg : Gr a b) {q : Int} (h0 : 0 ≤ q) (h : b.cl q = false) : a.cl q = false := by
 cases hc : a.cl q with
 | false => rfl
 | true =>
  have e : (q.toNat : Int) = q := by omega
  have := (hg q.toNat (by rw [e]; exact hc)).1
  rw [e, h] at this; cases this
theorem Did.trans {a b c : LS} (h : Did a b) (h2 : Did b c) (hg : Gr a b) (hg2 : Gr b c) (hb : FmCl b) : Did a c := by
 refine ⟨fun k q hq => ?_, fun j hj => ?_⟩
 ·rcases h2.new k q hq with ⟨k', h3⟩ | ⟨h0, h3⟩
  ·exact h.new k' q h3
  ·exact .inr ⟨h0, hg.not h0 h3⟩
 ·have hb2 : b.fm j = false := by
   cases hbj : b.fm j with
   | false => rfl
   | true => have := (hg2 j (hb j hbj)).2.1; rw [hj, hbj] at this; cases this
  rw [h2.same j hj, h.same j hb2]
structure TryI (X Y : Int) (A : Nat → List Int) (T : Int → LS → Bool × LS) : Prop where
 ok : TryOK T
 inv : ∀ p s, SI X Y A s → SI X Y A (T p s).2
 did : ∀ p s, SI X Y A s → Did s (T p s).2
structure SiftI (X Y : Int) (A : Nat → List Int) (F : List Int → LS → List Int × Bool × LS) : Prop where
 ok : SiftOK F
 inv : ∀ ps s, SI X Y A s → SI X Y A (F ps s).2.2
 did : ∀ ps s, SI X Y A s → Did s (F ps s).2.2
theorem siftT_i {X Y : Int} {A : Nat → List Int} {T : Nat → Int → LS → Bool × LS} (hT : ∀ k, TryI X Y A (T k)) (base step n : Int) (k0 : Nat) : SiftI X Y A (siftT T base step n k0) := by
 refine ⟨siftT_ok (fun k => (hT k).ok) base step n k0, fun ps => ?_, fun ps => ?_⟩
 ·induction ps generalizing k0 with
  | nil => intro s h; exact h
  | cons p r ih =>
   intro s h
   rw [siftT_cons]
   split
   ·exact ih (k0 + 1) s h
   ·exact ih (k0 + 1) _ ((hT k0).inv p s h)
 ·induction ps generalizing k0 with
  | nil => intro s h; exact Did.refl _
  | cons p r ih =>
   intro s h
   rw [siftT_cons]
   split
   ·exact ih (k0 + 1) s h
   ·exact ((hT k0).did p s h).trans (ih (k0 + 1) _ ((hT k0).inv p s h)) ((hT k0).ok.grow p s) ((siftT_ok (fun k => (hT k).ok) base step n (k0 + 1)).grow r _) ((hT k0).inv p s h).fc
theorem isD_pos {X Y q : Int} (hY : 0 ≤ Y) (h : isD X Y q = true) : 0 < q := by
 unfold isD at h
 have := of_decide_eq_true h
 omega
theorem SI.claim {X Y : Int} {A : Nat → List Int} {s : LS} (h : SI X Y A s) {p : Int} (h1 : isD X Y p = true) : SI X Y A { s with cl := addS s.cl p } := by
 refine ⟨fun j hj => addS_mono (h.fc j hj), fun q hq => ?_, fun k q hk => ?_, h.inj, fun j hj => h.un j ?_, h.ln, h.sub⟩
 ·by_cases hqp : q = p
  ·subst hqp; exact h1
  ·have hq2 : addS s.cl p q = true := hq
   rw [addS_ne hqp] at hq2
   exact h.cd q hq2
 ·obtain ⟨a, b, c⟩ := h.bk k q hk
  exact ⟨a, addS_mono b, c⟩
 ·cases hb : s.cl j with
  | false => rfl
  | true => have : addS s.cl p j = true := addS_mono hb; rw [show addS s.cl p j = false from hj] at this; cases this
theorem SI.fmn {X Y : Int} {A : Nat → List Int} {s : LS} (hY : 0 ≤ Y) (h : SI X Y A s) {p : Int} (h1 : isD X Y p = true) (h2 : s.cl p = false) : s.fm p = false := by
 have e := (isD_nat hY h1).1
 cases hb : s.fm p with
 | false => rfl
 | true =>
  have := h.fc p.toNat (by rw [e]; exact hb)
  rw [e, h2] at this; cases this
theorem tryRow_i {X Y : Int} (hY : 0 ≤ Y) (A : Nat → List Int) (base : Int) (k : Nat) : TryI X Y A (tryRow X Y base k) := by
 refine ⟨tryRow_ok X Y base k, fun p s h => ?_, fun p s h => ?_⟩
 ·unfold tryRow
  split
  ·rename_i hc
   have hn := h.claim hc.1
   refine ⟨hn.fc, hn.cd, fun k' q hk => ?_, fun k1 k2 q hk1 hk2 => ?_, hn.un, hn.ln, hn.sub⟩
   ·have hk2 : putI s.bk (base + k) p k' = some q := hk
    unfold putI at hk2
    split at hk2
    ·cases hk2
     exact ⟨hc.1, addS_self _ _, h.fmn hY hc.1 hc.2⟩
    ·exact hn.bk k' q hk2
   ·have a1 : putI s.bk (base + k) p k1 = some q := hk1
    have a2 : putI s.bk (base + k) p k2 = some q := hk2
    unfold putI at a1 a2
    split at a1
    ·rename_i e1
     split at a2
     ·rename_i e2; rw [e1, e2]
     ·cases a1
      have := (h.bk _ _ a2).2.1
      rw [hc.2] at this; cases this
    ·split at a2
     ·cases a2
      have := (h.bk _ _ a1).2.1
      rw [hc.2] at this; cases this
     ·exact h.inj _ _ _ a1 a2
  ·exact h
 ·unfold tryRow
  split
  ·rename_i hc
   refine ⟨fun k' q hk => ?_, fun _ _ => rfl⟩
   have hk2 : putI s.bk (base + k) p k' = some q := hk
   unfold putI at hk2
   split at hk2
   ·cases hk2
    exact .inr ⟨Int.le_of_lt (isD_pos hY hc.1), hc.2⟩
   ·exact .inl ⟨k', hk2⟩
  ·exact Did.refl _
theorem tryTab_i {X Y : Int} (hY : 0 ≤ Y) {A : Nat → List Int} {F : List Int → LS → List Int × Bool × LS} (hF : SiftI X Y A F) : TryI X Y A (tryTab X Y F) := by
 have hok := tryTab_ok hY hF.ok (X := X)
 refine ⟨hok, fun p s h => ?_, fun p s h => ?_⟩
 ·cases hb : (tryTab X Y F p s).1 with
  | false => rw [hok.fail p s hb]; exact h
  | true =>
   obtain ⟨h1, h2, h3, h4⟩ := tryTab_yes hb
   rw [h4]
   obtain ⟨hp, -⟩ := isD_nat hY h1
   have h2' : s.cl (p.toNat : Int) = false := by rw [hp]; exact h2
   have hs1 := h.claim h1
   have hi := hF.inv (rdPtr (s.S p.toNat)) _ hs1
   have hd := hF.did (rdPtr (s.S p.toNat)) _ hs1
   have hg := hF.ok.grow (rdPtr (s.S p.toNat)) { s with cl := addS s.cl p } p.toNat (by rw [hp]; exact addS_self _ _)
   have hA := h.un p.toNat h2'
   obtain ⟨hl, hby⟩ := h.ln p.toNat (by rw [hp]; exact h1)
   have hmay : PtrMay (F (rdPtr (s.S p.toNat)) { s with cl := addS s.cl p }).1 := ptrMay_sub hby (fun i => hF.ok.sub _ _ i)
   have hlen : (F (rdPtr (s.S p.toNat)) { s with cl := addS s.cl p }).1.length = 32 := by rw [hF.ok.len]; simp
   have hback := ptr_back _ hlen hmay
   have hsub := fun i => hF.ok.sub (rdPtr (s.S p.toNat)) { s with cl := addS s.cl p } i
   have hbn : ∀ k q, (F (rdPtr (s.S p.toNat)) { s with cl := addS s.cl p }).2.2.bk k = some q → q ≠ p := by
    intro k q hk e
    subst e
    rcases hd.new k q hk with ⟨k', h5⟩ | ⟨-, h5⟩
    ·have := (h.bk k' q h5).2.1
     rw [h2] at this; cases this
    ·have h6 : addS s.cl q q = false := h5
     rw [addS_self] at h6; cases h6
   generalize (F (rdPtr (s.S p.toNat)) { s with cl := addS s.cl p }) = r at *
   refine ⟨fun j hj => ?_, hi.cd, fun k q hk => ?_, hi.inj, fun j hj => ?_, fun j hj => ?_, fun j hj => ?_⟩
   ·by_cases hjp : (j : Int) = (p.toNat : Int)
    ·rw [hjp]; exact hg.1
    ·have hj2 : addS r.2.2.fm p.toNat j = true := hj
     rw [addS_ne hjp] at hj2
     exact hi.fc j hj2
   ·obtain ⟨a, b, c⟩ := hi.bk k q hk
    refine ⟨a, b, ?_⟩
    show addS r.2.2.fm p.toNat q = false
    rw [addS_ne (by rw [hp]; exact hbn k q hk)]
    exact c
   ·have hne : j ≠ p.toNat := fun e => by
     subst e
     rw [show r.2.2.cl p.toNat = false from hj] at hg; cases hg.1
    show updS _ _ _ _ = _
    rw [updS_ne _ _ hne]
    exact hi.un j hj
   ·show (updS _ _ _ _).length = 128 ∧ Bytes (updS _ _ _ _)
    by_cases hjp : j = p.toNat
    ·subst hjp
     rw [updS_eq]
     exact ⟨ptrR_length _, ptrR_bytes _⟩
    ·rw [updS_ne _ _ hjp]
     exact hi.ln j hj
   ·show subP (updS _ _ _ _) _
    by_cases hjp : j = p.toNat
    ·subst hjp
     rw [updS_eq, ptrR_yes hmay]
     intro i
     rw [hback, ← hA]
     exact hsub i
    ·rw [updS_ne _ _ hjp]
     have hj2 : addS r.2.2.fm p.toNat j = true := hj
     rw [addS_ne (by omega)] at hj2
     exact hi.sub j hj2
 ·cases hb : (tryTab X Y F p s).1 with
  | false => rw [hok.fail p s hb]; exact Did.refl _
  | true =>
   obtain ⟨h1, h2, h3, h4⟩ := tryTab_yes hb
   rw [h4]
   obtain ⟨hp, -⟩ := isD_nat hY h1
   have hs1 := h.claim h1
   have hd := hF.did (rdPtr (s.S p.toNat)) _ hs1
   refine ⟨fun k q hk => ?_, fun j hj => ?_⟩
   ·rcases hd.new k q hk with h5 | ⟨h0, h5⟩
    ·exact .inl h5
    ·refine .inr ⟨h0, ?_⟩
     cases hc : s.cl q with
     | false => rfl
     | true => have : addS s.cl p q = true := addS_mono hc; rw [show addS s.cl p q = false from h5] at this; cases this
   ·have hj2 : addS (F (rdPtr (s.S p.toNat)) { s with cl := addS s.cl p }).2.2.fm p.toNat j = false := hj
    have hne : (j : Int) ≠ (p.toNat : Int) := fun e => by rw [e, addS_self] at hj2; cases hj2
    rw [addS_ne hne] at hj2
    show updS _ _ _ _ = _
    rw [updS_ne _ _ (by omega)]
    exact hd.same j hj2
def rowT (X Y n base : Int) : List Int → LS → List Int × Bool × LS := siftT (tryRow X Y base) base 1 n 0
noncomputable def dblT (X Y n : Int) : List Int → LS → List Int × Bool × LS := siftT (fun k => tryTab X Y (rowT X Y n (44 + 32 * k))) 44 32 n 0
noncomputable def sglT (X Y n : Int) : List Int → LS → List Int × Bool × LS := siftT (fun _ => tryTab X Y (rowT X Y n 12)) 12 1 n 0
noncomputable def dubT (X Y n : Int) : List Int → LS → List Int × Bool × LS := siftT (fun _ => tryTab X Y (dblT X Y n)) 44 1 n 0
theorem goodX_no {X Y p : Int} {st : LS} (h : (goodX X Y p st).1 = false) : ¬ (isD X Y p = true ∧ st.cl p = false) ∧ (goodX X Y p st).2 = st := by
 unfold goodX at h ⊢
 split at h
 ·cases h
 ·rename_i hc; rw [if_neg hc]; exact ⟨hc, rfl⟩
theorem goodX_yes {X Y p : Int} {st : LS} (h : ¬ (goodX X Y p st).1 = false) : (isD X Y p = true ∧ st.cl p = false) ∧ (goodX X Y p st).2 = { st with cl := addS st.cl p } := by
 unfold goodX at h ⊢
 split at h
 ·rename_i hc; rw [if_pos hc]; exact ⟨hc, rfl⟩
 ·exact absurd rfl h
theorem tab_tries {X Y : Int} (F : List Int → LS → List Int × Bool × LS) (p : Int) (st : LS) :
  tryTab X Y F p st = if (goodX X Y p st).1 = false then (false, (goodX X Y p st).2) else tableP F p.toNat (goodX X Y p st).2 := by
 by_cases h : (goodX X Y p st).1 = false
 ·obtain ⟨h1, h2⟩ := goodX_no h
  rw [if_pos h, h2]
  unfold tryTab
  rw [if_neg h1]
 ·obtain ⟨h1, h2⟩ := goodX_yes h
  rw [if_neg h, h2]
  unfold tryTab
  rw [if_pos h1]
theorem rowX_T (X Y n base : Int) : rowX X Y n base = rowT X Y n base := by
 funext ps st
 unfold rowX rowT
 refine siftP_T base 1 n (fun k p st => ?_) (fun k p st h => (tryRow_ok X Y base k).fail p st h) ps 0 st
 by_cases h : (goodX X Y p st).1 = false
 ·obtain ⟨h1, h2⟩ := goodX_no h
  rw [if_pos h, h2]
  unfold tryRow
  rw [if_neg h1]
 ·obtain ⟨h1, h2⟩ := goodX_yes h
  rw [if_neg h, h2]
  unfold tryRow keepRow
  rw [if_pos h1]
theorem rowT_i {X Y : Int} (hY : 0 ≤ Y) (A : Nat → List Int) (n base : Int) : SiftI X Y A (rowT X Y n base) := siftT_i (fun k => tryRow_i hY A base k) base 1 n 0
theorem dblX_T {X Y : Int} (hY : 0 ≤ Y) (n : Int) : dblX X Y n = dblT X Y n := by
 funext ps st
 unfold dblX dblT
 refine siftP_T 44 32 n (fun k p st => ?_) (fun k p st h => (tryTab_ok hY (rowT_i hY (fun _ => []) n (44 + 32 * k)).ok).fail p st h) ps 0 st
 rw [tab_tries, ← rowX_T]
 rfl
theorem dblT_i {X Y : Int} (hY : 0 ≤ Y) (A : Nat → List Int) (n : Int) : SiftI X Y A (dblT X Y n) := siftT_i (fun k => tryTab_i hY (rowT_i hY A n (44 + 32 * k))) 44 32 n 0
theorem sglT_i {X Y : Int} (hY : 0 ≤ Y) (A : Nat → List Int) (n : Int) : SiftI X Y A (sglT X Y n) := siftT_i (fun _ => tryTab_i hY (rowT_i hY A n 12)) 12 1 n 0
theorem dubT_i {X Y : Int} (hY : 0 ≤ Y) (A : Nat → List Int) (n : Int) : SiftI X Y A (dubT X Y n) := siftT_i (fun _ => tryTab_i hY (dblT_i hY A n)) 44 1 n 0
theorem sgl_T {X Y : Int} (hY : 0 ≤ Y) (n : Int) (ps : List Int) (st : LS) : siftP (goodX X Y) (keep3X X Y n) 12 1 n 0 ps st = sglT X Y n ps st := by
 unfold sglT
 refine siftP_T 12 1 n (fun k p st => ?_) (fun k p st h => (tryTab_ok hY (rowT_i hY (fun _ => []) n 12).ok).fail p st h) ps 0 st
 rw [tab_tries, ← rowX_T]
 rfl
theorem dub_T {X Y : Int} (hY : 0 ≤ Y) (n : Int) (ps : List Int) (st : LS) : siftP (goodX X Y) (keep4X X Y n) 44 1 n 0 ps st = dubT X Y n ps st := by
 unfold dubT
 refine siftP_T 44 1 n (fun k p st => ?_) (fun k p st h => (tryTab_ok hY (dblT_i hY (fun _ => []) n).ok).fail p st h) ps 0 st
 rw [tab_tries, ← dblX_T hY]
 rfl
noncomputable def pA (X Y n : Int) (raw : List Int) (st : LS) := rowT X Y n 0 ((raw.drop 4).take 12) st
noncomputable def pB (X Y n : Int) (raw : List Int) (st : LS) := sglT X Y n [nth raw 16] (pA X Y n raw st).2.2
noncomputable def pC (X Y n : Int) (raw : List Int) (st : LS) := dubT X Y n [nth raw 17] (pB X Y n raw st).2.2
theorem ptrsX_T {X Y : Int} (hY : 0 ≤ Y) (n : Int) (raw : List Int) (st : LS) : ptrsX X Y n raw st = (raw.take 4 ++ ((pA X Y n raw st).1 ++ ((pB X Y n raw st).1 ++ (pC X Y n raw st).1)), (pC X Y n raw st).2.2) := by
 unfold ptrsX pC pB pA
 simp only [sgl_T hY, dub_T hY, rowX_T]
theorem ptrs_i {X Y : Int} (hY : 0 ≤ Y) {A : Nat → List Int} (n : Int) (raw : List Int) {st : LS} (h : SI X Y A st) : SI X Y A (ptrsX X Y n raw st).2 ∧ Did st (ptrsX X Y n raw st).2 ∧ Gr st (ptrsX X Y n raw st).2 := by
 rw [ptrsX_T hY]
 have iA := (rowT_i hY A n 0).inv ((raw.drop 4).take 12) st h
 have dA := (rowT_i hY A n 0).did ((raw.drop 4).take 12) st h
 have gA := (rowT_i (X := X) hY A n 0).ok.grow ((raw.drop 4).take 12) st
 have iB := (sglT_i hY A n).inv [nth raw 16] _ iA
 have dB := (sglT_i hY A n).did [nth raw 16] _ iA
 have gB := (sglT_i (X := X) hY A n).ok.grow [nth raw 16] (rowT X Y n 0 ((raw.drop 4).take 12) st).2.2
 have iC := (dubT_i hY A n).inv [nth raw 17] _ iB
 have dC := (dubT_i hY A n).did [nth raw 17] _ iB
 have gC := (dubT_i (X := X) hY A n).ok.grow [nth raw 17] (sglT X Y n [nth raw 16] (rowT X Y n 0 ((raw.drop 4).take 12) st).2.2).2.2
 exact ⟨iC, (dA.trans dB gA gB iA.fc).trans dC (gA.trans gB) gC iB.fc, (gA.trans gB).trans gC⟩
theorem ptrs_len {X Y : Int} (hY : 0 ≤ Y) (n : Int) {raw : List Int} (hr : raw.length = 18) (st : LS) : (pA X Y n raw st).1.length = 12 ∧ (pB X Y n raw st).1.length = 1 ∧ (pC X Y n raw st).1.length = 1 := by
 refine ⟨?_, ?_, ?_⟩
 ·unfold pA; rw [(rowT_i (X := X) hY (fun _ => []) n 0).ok.len]; simp [hr]
 ·unfold pB; rw [(sglT_i (X := X) hY (fun _ => []) n).ok.len]; rfl
 ·unfold pC; rw [(dubT_i (X := X) hY (fun _ => []) n).ok.len]; rfl
theorem nth_app_l {a b : List Int} {i : Nat} (h : i < a.length) : nth (a ++ b) i = nth a i := by unfold nth; rw [List.getElem?_append_left h]
theorem nth_app_r {a b : List Int} {i : Nat} (h : a.length ≤ i) : nth (a ++ b) i = nth b (i - a.length) := by unfold nth; rw [List.getElem?_append_right h]
theorem nth_out {l : List Int} {i : Nat} (h : l.length ≤ i) : nth l i = 0 := by unfold nth; rw [List.getElem?_eq_none h]; rfl
theorem ptrs_nth {X Y : Int} (hY : 0 ≤ Y) (n : Int) {raw : List Int} (hr : raw.length = 18) (st : LS) :
  (∀ i, i < 4 → nth (ptrsX X Y n raw st).1 i = nth raw i) ∧ (∀ i, i < 12 → nth (ptrsX X Y n raw st).1 (4 + i) = nth (pA X Y n raw st).1 i) ∧ nth (ptrsX X Y n raw st).1 16 = nth (pB X Y n raw st).1 0 ∧ nth (ptrsX X Y n raw st).1 17 = nth (pC X Y n raw st).1 0 ∧ (ptrsX X Y n raw st).1.length = 18 := by
 obtain ⟨l1, l2, l3⟩ := ptrs_len (X := X) hY n hr st
 have l0 : (raw.take 4).length = 4 := by simp [hr]
 rw [ptrsX_T hY]
 refine ⟨fun i hi => ?_, fun i hi => ?_, ?_, ?_, ?_⟩
 ·show nth (raw.take 4 ++ _) i = _
  rw [nth_app_l (by omega)]
  unfold nth
  rw [List.getElem?_take, if_pos hi]
 ·show nth (raw.take 4 ++ _) (4 + i) = _
  rw [nth_app_r (by omega), l0, Nat.add_sub_cancel_left, nth_app_l (by omega)]
 ·show nth (raw.take 4 ++ _) 16 = _
  rw [nth_app_r (by omega), l0, nth_app_r (by omega), l1, nth_app_l (by omega)]
 ·show nth (raw.take 4 ++ _) 17 = _
  rw [nth_app_r (by omega), l0, nth_app_r (by omega), l1, nth_app_r (by omega), l2]
 ·show (raw.take 4 ++ _).length = 18
  simp only [List.length_append]
  omega
theorem nth_direct {raw : List Int} (hr : raw.length = 18) {i : Nat} (hi : i < 12) : nth ((raw.drop 4).take 12) i = nth raw (4 + i) := by
 unfold nth
 rw [List.getElem?_take, if_pos hi, List.getElem?_drop]
structure Raw2 (allw : Prop) (out raw raw' : List Int) : Prop where
 len : raw.length = 18
 len' : raw'.length = 18
 kind : nth raw' 0 = nth raw 0
 size : nth raw' 2 = nth raw 2
 made : nth raw' 3 = nth raw 3
 ptr : ∀ i, 4 ≤ i → i < 18 → (nth raw' i = nth raw i ∨ (nth raw' i = 0 ∧ nth out i = 0)) ∧ (allw → nth raw' i = nth out i)
theorem rowT_sim (X Y : Int) (allw : Prop) (W A : Nat → List Int) (f0 : Int → Bool) (n base : Int) : SimF X Y allw W A f0 (rowT X Y n base) :=
 siftT_sim (fun k => tryRow_ok X Y base k) (fun k => tryRow_sim X Y allw W A f0 base k) base 1 n 0
theorem dblT_sim {X Y : Int} (hY : 0 ≤ Y) (allw : Prop) (W A : Nat → List Int) (f0 : Int → Bool) (n : Int) : SimF X Y allw W A f0 (dblT X Y n) :=
 siftT_sim (fun k => tryTab_ok hY (rowT_i hY A n (44 + 32 * k)).ok) (fun k => tryTab_sim hY (rowT_i hY A n (44 + 32 * k)).ok (rowT_sim X Y allw W A f0 n _)) 44 32 n 0
theorem sglT_sim {X Y : Int} (hY : 0 ≤ Y) (allw : Prop) (W A : Nat → List Int) (f0 : Int → Bool) (n : Int) : SimF X Y allw W A f0 (sglT X Y n) :=
 siftT_sim (fun _ => tryTab_ok hY (rowT_i hY A n 12).ok) (fun _ => tryTab_sim hY (rowT_i hY A n 12).ok (rowT_sim X Y allw W A f0 n _)) 12 1 n 0
theorem dubT_sim {X Y : Int} (hY : 0 ≤ Y) (allw : Prop) (W A : Nat → List Int) (f0 : Int → Bool) (n : Int) : SimF X Y allw W A f0 (dubT X Y n) :=
 siftT_sim (fun _ => tryTab_ok hY (dblT_i hY A n).ok) (fun _ => tryTab_sim hY (dblT_i hY A n).ok (dblT_sim hY allw W A f0 n)) 44 1 n 0
theorem ptrs_sim {X Y : Int} (hY : 0 ≤ Y) {allw : Prop} {W A : Nat → List Int} {f0 : Int → Bool} (n : Int) {raw raw' : List Int} {s s' : LS} (hR : Sd X Y allw W A f0 s s') (hr : Raw2 allw (ptrsX X Y n raw s).1 raw raw') (hP : Pro allw W A f0 (ptrsX X Y n raw s).2) :
  (∀ i, 4 ≤ i → nth (ptrsX X Y n raw' s').1 i = nth (ptrsX X Y n raw s).1 i) ∧ Sd X Y allw W A f0 (ptrsX X Y n raw s).2 (ptrsX X Y n raw' s').2 := by
 obtain ⟨-, q1, q2, q3, q4⟩ := ptrs_nth (X := X) hY n hr.len s
 obtain ⟨-, q1', q2', q3', q4'⟩ := ptrs_nth (X := X) hY n hr.len' s'
 have hC : (ptrsX X Y n raw s).2 = (pC X Y n raw s).2.2 := by rw [ptrsX_T hY]
 have hC' : (ptrsX X Y n raw' s').2 = (pC X Y n raw' s').2.2 := by rw [ptrsX_T hY]
 rw [hC] at hP
 have gB := (sglT_i (X := X) hY A n).ok.grow [nth raw 16] (pA X Y n raw s).2.2
 have gC := (dubT_i (X := X) hY A n).ok.grow [nth raw 17] (pB X Y n raw s).2.2
 have fA : FmCl (pA X Y n raw s).2.2 := (rowT_i (X := X) hY A n 0).ok.fmcl _ _ hR.fc
 have fB : FmCl (pB X Y n raw s).2.2 := (sglT_i (X := X) hY A n).ok.fmcl _ _ fA
 have pBr : Pro allw W A f0 (pB X Y n raw s).2.2 := hP.back gC fB
 have pAr : Pro allw W A f0 (pA X Y n raw s).2.2 := pBr.back gB fA
 obtain ⟨a1, a2, a3⟩ := rowT_sim X Y allw W A f0 n 0 ((raw.drop 4).take 12) ((raw'.drop 4).take 12) s s' hR pAr (by simp [hr.len, hr.len']) (fun i => by
  by_cases hi : i < 12
  ·rw [nth_direct hr.len hi, nth_direct hr.len' hi, show nth (rowT X Y n 0 ((raw.drop 4).take 12) s).1 i = nth (ptrsX X Y n raw s).1 (4 + i) from (q1 i hi).symm]
   exact hr.ptr (4 + i) (by omega) (by omega)
  ·have e1 : nth ((raw.drop 4).take 12) i = 0 := nth_out (by simp; omega)
   have e2 : nth ((raw'.drop 4).take 12) i = 0 := nth_out (by simp; omega)
   have e3 : nth (rowT X Y n 0 ((raw.drop 4).take 12) s).1 i = 0 := nth_out (by rw [(rowT_i (X := X) hY A n 0).ok.len]; simp; omega)
   rw [e1, e2, e3]
   exact ⟨.inl rfl, fun _ => rfl⟩)
 have hone : ∀ {p p' o : Int}, (p' = p ∨ (p' = 0 ∧ o = 0)) ∧ (allw → p' = o) → ∀ {l : List Int}, l.length = 1 → nth l 0 = o → ∀ i, (nth [p'] i = nth [p] i ∨ (nth [p'] i = 0 ∧ nth l i = 0)) ∧ (allw → nth [p'] i = nth l i) := by
  intro p p' o h l hl ho i
  cases i with
  | zero => rw [ho]; exact h
  | succ i =>
   rw [nth_out (l := l) (by omega)]
   exact ⟨.inl rfl, fun _ => rfl⟩
 obtain ⟨l1, l2, l3⟩ := ptrs_len (X := X) hY n hr.len s
 obtain ⟨b1, b2, b3⟩ := sglT_sim hY allw W A f0 n [nth raw 16] [nth raw' 16] _ _ a3 pBr rfl (hone (hr.ptr 16 (by omega) (by omega)) l2 q2.symm)
 obtain ⟨c1, c2, c3⟩ := dubT_sim hY allw W A f0 n [nth raw 17] [nth raw' 17] _ _ b3 hP rfl (hone (hr.ptr 17 (by omega) (by omega)) l3 q3.symm)
 refine ⟨fun i hi => ?_, by rw [hC, hC']; exact c3⟩
 by_cases h18 : i < 18
 ·by_cases h16 : i < 16
  ·have e1 := q1 (i - 4) (by omega)
   have e2 := q1' (i - 4) (by omega)
   rw [show 4 + (i - 4) = i by omega] at e1 e2
   rw [e1, e2]
   exact congrArg (fun l => nth l (i - 4)) a1
  ·by_cases h17 : i = 16
   ·subst h17
    rw [q2, q2']
    exact congrArg (fun l => nth l 0) b1
   ·obtain rfl : i = 17 := by omega
    rw [q3, q3']
    exact congrArg (fun l => nth l 0) c1
 ·rw [nth_out (by omega), nth_out (by omega)]
end Go.Proofs.YtmnecpnkkapflaaGreat
