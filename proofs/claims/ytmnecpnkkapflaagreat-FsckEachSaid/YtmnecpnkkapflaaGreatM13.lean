import Derived.Test.YtmnecpnkkapflaaGreatM04
import Derived.Test.YtmnecpnkkapflaaGreatM08
import Derived.Test.YtmnecpnkkapflaaGreatM09
import Derived.Test.YtmnecpnkkapflaaGreatM10
import Derived.Test.YtmnecpnkkapflaaGreatM11
import Derived.Test.YtmnecpnkkapflaaGreatM12
namespace Go.Proofs.YtmnecpnkkapflaaGreat
set_option maxHeartbeats 16000000
set_option maxRecDepth 1000000
set_option linter.unusedSimpArgs false
set_option linter.unusedVariables false
open Go.RowKit
theorem well_small {N : Nat} {S : Nat → List Int} (h : N < 8 ∨ 4096 < N) : ¬ WellP N S := fun hw => by
 have := hw.n8; have := hw.n9; omega
theorem well_super {N : Nat} {S : Nat → List Int} (h : (rdSupR (S 0)).2.2 ≠ 0 ∨ (rdSupR (S 0)).1 ≠ N) : ¬ WellP N S := fun hw => h.elim (fun h => h hw.su) (fun h => h hw.sn)
theorem range1_get {n k : Nat} (h : k < n) : (List.range' 1 n)[k]? = some (k + 1) := by
 rw [List.getElem?_range' h]; congr 1; omega
theorem hat_ne {w : World} {a b : Nat} {cs cs' : Array Value} {t t' : TypeId} {f f' : Nat × Nat} (h : hat w a = some (.cells cs t f)) (h2 : hat w b = some (.cells cs' t' f')) (ht : t ≠ t') : a ≠ b := fun e => by
 subst e
 rw [h] at h2
 injection h2 with h3
 injection h3 with h4 h5
 exact ht h5
noncomputable def wJ (S : Nat → List Int) (k j : Nat) : List Int := if 1 ≤ j ∧ j < k then (rdInoR (S j)).1 else zl 18
theorem wJ_one (S : Nat → List Int) : wJ S 1 = fun _ => zl 18 := by
 funext j; unfold wJ; rw [if_neg (by omega)]
theorem wJ_all (S : Nat → List Int) {M j : Nat} (h : j < M) : wJ S M j = wI S j := by
 unfold wJ wI
 by_cases h0 : j = 0
 ·rw [if_neg (by omega), if_pos h0]
 ·rw [if_pos (by omega), if_neg h0]
theorem wJ_succ (S : Nat → List Int) {i : Nat} (h : 1 ≤ i) (j : Nat) : wJ S (i + 1) j = if j = i then (rdInoR (S i)).1 else wJ S i j := by
 unfold wJ
 by_cases hj : j = i
 ·subst hj
  rw [if_pos (by omega), if_pos rfl]
 ·rw [if_neg hj]
  by_cases hji : 1 ≤ j ∧ j < i
  ·rw [if_pos (by omega), if_pos hji]
  ·rw [if_neg (by omega), if_neg hji]
theorem wJ_same (S : Nat → List Int) {i : Nat} (h : 1 ≤ i) (j : Nat) : wJ S (i + 1) j = if j = i then (rdInoR (S i)).1 else wJ S (i + 1) j := by
 by_cases hj : j = i
 ·subst hj
  rw [if_pos rfl]
  unfold wJ
  rw [if_pos (by omega)]
 ·rw [if_neg hj]
theorem Inos.congr {w : World} {g M : Nat} {I I' : Nat → List Int} (h : Inos w g M I) (he : ∀ i, i < M → I' i = I i) : Inos w g M I' := by
 obtain ⟨cs, h1, h2, h3⟩ := h
 exact ⟨cs, h1, h2, fun i hi => by rw [he i hi]; exact h3 i hi⟩
theorem ino_bounds {s : List Int} (h : (rdInoR s).2 = 0) (hk : nth (rdInoR s).1 0 ≠ 0) : 0 ≤ nth (rdInoR s).1 2 ∧ nth (rdInoR s).1 2 ≤ 136704 ∧ (∀ p ∈ (rdInoR s).1.drop 4, 0 ≤ p ∧ p ≤ 4294967295) ∧ (nth (rdInoR s).1 0 = 1 ∨ nth (rdInoR s).1 0 = 2) ∧ 0 ≤ nth (rdInoR s).1 1 ∧ nth (rdInoR s).1 1 ≤ 100 := by
 have hm := (inoMay_else hk).1 (ino_one h).1
 obtain ⟨⟨h1, h2, h3, h4⟩, h5, h6⟩ := hm
 refine ⟨h3.1, h3.2, fun p hp => ?_, by omega, h2.1, h2.2⟩
 obtain ⟨j, hj⟩ := List.mem_iff_getElem?.1 hp
 rw [List.getElem?_drop] at hj
 have hl := (List.getElem?_eq_some_iff.1 hj).1
 rw [rdInoR_length] at hl
 have := h5 (4 + j) (by omega) hl
 unfold nth at this
 rw [hj] at this
 exact this
theorem pt_each {X Y : Int} {S I : Nat → List Int} {l : List Nat} {s : Int → Bool} (h : (ptrsA X Y S I l s).isSome = true) {i : Nat} (hi : i ∈ l) (hk : nth (I i) 0 ≠ 0) : ∀ p ∈ inoPs (cntX (nth (I i) 2)) S (I i), isD X Y p = true := by
 obtain ⟨s', hs⟩ := Option.isSome_iff_exists.1 h
 obtain ⟨-, h2, -⟩ := (ptrsA_iff X Y S I l s s').1 hs
 intro p hp
 refine (h2.1 p (List.mem_flatMap.2 ⟨i, hi, ?_⟩)).1
 unfold ptI
 rw [if_neg hk]; exact hp
theorem entL_out {S I : Nat → List Int} {M i : Nat} (h : M ≤ i) : entL S I M i = [] := by
 unfold entL
 rw [if_neg (fun h2 => by omega)]
theorem entL_pos {S I : Nat → List Int} {M : Nat} (h : DirsOk S I M) (i : Nat) (e : Ent) (he : e ∈ entL S I M i) : 2 ≤ e.1 ∧ e.1 < M := by
 unfold entL at he
 split at he
 ·rename_i hi
  obtain ⟨l, h1, h2, -⟩ := h i hi.1 hi.2.1 hi.2.2
  rw [h1] at he
  exact ⟨(h2 e he).1, (h2 e he).2.1⟩
 ·cases he
theorem well_mk {N Yn M : Nat} {S : Nat → List Int} {er : Int} (hR : rdSupR (S 0) = ((N : Int), (Yn : Int), er)) (he : er = 0) (hM : M = Yn + 1) (h8 : 8 ≤ N) (h9 : N ≤ 4096) (rd : ∀ j : Nat, 1 ≤ j → j ≤ Yn → (rdInoR (S j)).2 = 0)
  (pt : (ptrsA N Yn S (wI S) (List.range' 1 Yn) (fun _ => false)).isSome = true) (rt : nth (wI S 1) 0 = 2) (dr : DirsOk S (wI S) M) (al : ∀ i, 1 ≤ i → i < M → nth (wI S i) 0 ≠ 0 → InoOkW S (wI S) M i) : WellP N S := by
 subst hM
 refine ⟨h8, h9, by rw [hR]; exact he, by rw [hR], fun i h1 h2 => ?_, by rw [hR]; exact pt, rt, by rw [hR]; exact dr, by rw [hR]; exact al⟩
 rw [hR] at h2
 exact rd i h1 (by have : (i : Int) ≤ (Yn : Int) := h2; omega)
theorem well_un {N Yn M : Nat} {S : Nat → List Int} {er : Int} (h : WellP N S) (hR : rdSupR (S 0) = ((N : Int), (Yn : Int), er)) (hM : M = Yn + 1) : DirsOk S (wI S) M ∧ ∀ i, 1 ≤ i → i < M → nth (wI S i) 0 ≠ 0 → InoOkW S (wI S) M i := by
 subst hM
 have h1 := h.dr
 have h2 := h.al
 rw [hR] at h1 h2
 exact ⟨h1, h2⟩
theorem well_walk {gi oi N ci : Nat} {S : Nat → List Int} {w : World} (hS : Secs w gi oi N S) (h8 : 8 ≤ N) (h9 : N ≤ 4096) :
  Calls Tryz.prog 18 #[.slice (some ⟨gi, oi, none⟩) N ci] w (WellOut N S w) := by
 have d1 : ¬ (N : Int) < 8 := by omega
 have d2 : ¬ (4096 : Int) < (N : Int) := by omega
 have d3 : (0 : Int) < (N : Int) := by omega
 have d4 : 0 < N := by omega
 obtain ⟨csI, tI, frI, hcI, hld0⟩ := hS.load (show 0 < N by omega)
 rw [Nat.zero_mul, Nat.add_zero] at hld0
 obtain ⟨hl0, hb0⟩ := hS.len (show 0 < N by omega)
 have HRS := Lib.hid (fun W => rrdSup_any (S 0) hl0 hb0 W)
 have HSE := Lib.hid hS
 have hcl := hat_lt hcI
 have hsup := @sup_one (S 0)
 have HSUP := Lib.hid hsup
 have HNS := Lib.hid (@well_super N S)
 obtain ⟨X, Y, er, hR⟩ : ∃ X Y er, rdSupR (S 0) = (X, Y, er) := ⟨_, _, _, rfl⟩
 have HRR := Lib.hid hR
 simp only [hR] at HRS HSUP HNS
 clear hl0 hb0 hS hsup hR
 go_enter Tryz.func18, Tryz.ntmps18
 go_wp2_with fail
 refine (HRS.out _).mono ?_; rintro e w1 ⟨rfl, hb1⟩
 have HB1 := Lib.hid hb1
 have hc1 := (hop hb1 hcI).1
 have hz1 : w.heap.size ≤ w1.heap.size := hb1.size
 have hgx := (hopN w1 (.cells #[.int .i64 X, .int .i64 Y] 68)).1
 have hB2 : Below w.heap.size w (w1.alloc (.cells #[.int .i64 X, .int .i64 Y] 68)) := hb1.alloc hz1 _
 have HB2 := Lib.hid hB2
 have HGX := Lib.hid hz1
 clear hb1
 generalize hgxe : w1.heap.size = gx at *
 by_cases he : er = 0
 ·have de : (er != 0) = false := by simpa using he
  by_cases hx : X = N
  ·have dx : (X != (N : Int)) = false := by simpa using hx
   obtain ⟨⟨-, hm2, hm3⟩, -⟩ := HSUP.out he
   obtain ⟨Yn, rfl⟩ := Int.eq_ofNat_of_zero_le (show 0 ≤ Y by omega)
   subst hx
   have hY1 : 1 ≤ Yn := by omega
   have hYN : Yn + 2 ≤ N := by omega
   have hY5 : Yn ≤ 512 := by omega
   clear HSUP HNS hm2 hm3 HRS
   go_upto_region 6 with fail
   generalize w1.alloc (.cells #[.int .i64 (N : Int), .int .i64 (Yn : Int)] 68) = w2 at *
   obtain ⟨M, hMe⟩ : ∃ M, M = Yn + 1 := ⟨_, rfl⟩
   have hYc : ((Yn : Int) + 1) = (M : Int) := by omega
   have hYw : IntKind.i64.wrap (M : Int) = (M : Int) := by rw [IntKind.wrap_i64]; omega
   have HME := Lib.hid hMe
   clear hMe
   refine wp_region_G (by kernel_rfl) 11 (by decide) rfl (fun W => Below w2.heap.size w2 W) (fun W W' => Below W.heap.size W W') (fun i v W => match i with | 0 => v = (.agg #[.int .i64 (N : Int), .int .i64 (Yn : Int)]) | 1 => v = (.slice (some ⟨gi, oi, none⟩) N ci) | 2 => v = (.slice (some ⟨gi, oi, none⟩) N ci) | 3 => v = (.int .i64 (N : Int)) | 4 => ∃ gs cs, v = .slice (some ⟨gs, 0, none⟩) N cs ∧ w2.heap.size ≤ gs ∧ Bools W gs N (fun _ => false) | 5 => v = (.pointer (some ⟨gx, 1, none⟩)) | 6 => v = (.int .i64 (Yn : Int)) | 7 => v = (.int .i64 (M : Int)) | 8 => ∃ gn cn, v = .slice (some ⟨gn, 0, none⟩) M cn ∧ w2.heap.size ≤ gn ∧ Inos W gn M (fun _ => zl 18) | 9 => ∃ gs cs gn cn, v = .agg #[.int .i64 (N : Int), .int .i64 (Yn : Int), .slice (some ⟨gi, oi, none⟩) N ci, .slice (some ⟨gs, 0, none⟩) N cs, .slice (some ⟨gn, 0, none⟩) M cn] ∧ (w2.heap.size ≤ gs ∧ Bools W gs N (fun _ => false)) ∧ (w2.heap.size ≤ gn ∧ Inos W gn M (fun _ => zl 18)) | _ => ∃ g gs cs gn cn, v = .pointer (some ⟨g, 0, none⟩) ∧ (w2.heap.size ≤ g ∧ hat W g = some (.cells #[.int .i64 (N : Int), .int .i64 (Yn : Int), .slice (some ⟨gi, oi, none⟩) N ci, .slice (some ⟨gs, 0, none⟩) N cs, .slice (some ⟨gn, 0, none⟩) M cn] 75)) ∧ (w2.heap.size ≤ gs ∧ Bools W gs N (fun _ => false)) ∧ (w2.heap.size ≤ gn ∧ Inos W gn M (fun _ => zl 18))) ((Below.refl _ _).drew) ?_ ?_ ?_
   ·intro i v wa wb hi _ _ hE5 hG
    have hi' : i = 0 ∨ i = 1 ∨ i = 2 ∨ i = 3 ∨ i = 4 ∨ i = 5 ∨ i = 6 ∨ i = 7 ∨ i = 8 ∨ i = 9 ∨ i = 10 := by omega
    have hb5 : ∀ {g : Nat}, Bools wa g N (fun _ => false) → Bools wb g N (fun _ => false) := fun h => h.same (hat_below hE5 h.lt)
    have hn5 : ∀ {g : Nat}, Inos wa g M (fun _ => zl 18) → Inos wb g M (fun _ => zl 18) := fun h => h.same (hat_below hE5 h.lt)
    rcases hi' with rfl | rfl | rfl | rfl | rfl | rfl | rfl | rfl | rfl | rfl | rfl
    ·exact hG
    ·exact hG
    ·exact hG
    ·exact hG
    ·obtain ⟨gs, cs, a, b, c⟩ := hG; exact ⟨gs, cs, a, b, hb5 c⟩
    ·exact hG
    ·exact hG
    ·exact hG
    ·obtain ⟨gn, cn, a, b, c⟩ := hG; exact ⟨gn, cn, a, b, hn5 c⟩
    ·obtain ⟨gs, cs, gn, cn, a, ⟨b, c⟩, e, f⟩ := hG; exact ⟨gs, cs, gn, cn, a, ⟨b, hb5 c⟩, e, hn5 f⟩
    ·obtain ⟨g, gs, cs, gn, cn, a, ⟨x, y⟩, ⟨b, c⟩, e, f⟩ := hG; exact ⟨g, gs, cs, gn, cn, a, ⟨x, (hop hE5 y).1⟩, ⟨b, hb5 c⟩, e, hn5 f⟩
   ·intro i o hi ho a' w' hB hS hF
    have hi' : i = 0 ∨ i = 1 ∨ i = 2 ∨ i = 3 ∨ i = 4 ∨ i = 5 ∨ i = 6 ∨ i = 7 ∨ i = 8 ∨ i = 9 ∨ i = 10 := by omega
    have hx5 := (hop hB hgx).1
    have hz5 : w2.heap.size ≤ w'.heap.size := hB.size
    rcases hi' with rfl | rfl | rfl | rfl | rfl | rfl | rfl | rfl | rfl | rfl | rfl
    all_goals (have ho' := Option.some.inj ho; subst ho')
    ·have q3 : a'.tmps[3]?.getD undef = (.pointer (some ⟨gx, 0, none⟩)) := gtx ((hS 3 (by decide)).trans rfl)
     refine wpOp_val rfl rfl (v := (.agg #[.int .i64 (N : Int), .int .i64 (Yn : Int)])) (w1 := w') ?_ ⟨_, rfl, hB, Below.refl _ _, rfl⟩
     simp [go_sem, q3, hx5]
    ·have q0 : a'.tmps[0]?.getD undef = (.slice (some ⟨gi, oi, none⟩) N ci) := gtx ((hS 0 (by decide)).trans rfl)
     refine wpOp_val rfl rfl (v := (.slice (some ⟨gi, oi, none⟩) N ci)) (w1 := w') ?_ ⟨_, rfl, hB, Below.refl _ _, rfl⟩
     simp [go_sem, q0]
    ·have q0 : a'.tmps[0]?.getD undef = (.slice (some ⟨gi, oi, none⟩) N ci) := gtx ((hS 0 (by decide)).trans rfl)
     refine wpOp_val rfl rfl (v := (.slice (some ⟨gi, oi, none⟩) N ci)) (w1 := w') ?_ ⟨_, rfl, hB, Below.refl _ _, rfl⟩
     simp [go_sem, q0]
    ·have q40 : a'.tmps[40]?.getD undef = (.slice (some ⟨gi, oi, none⟩) N ci) := gtx ((hF 2 (by decide) _ 40 rfl rfl).trans rfl)
     refine wpOp_val rfl rfl (v := (.int .i64 (N : Int))) (w1 := w') ?_ ⟨_, rfl, hB, Below.refl _ _, rfl⟩
     simp [go_sem, q40]
    ·have q41 : a'.tmps[41]?.getD undef = (.int .i64 (N : Int)) := gtx ((hF 3 (by decide) _ 41 rfl rfl).trans rfl)
     obtain ⟨wq, hrq, hbq, hBq⟩ := make_bools w' N (by omega)
     refine wpOp_val rfl rfl (v := .slice (some ⟨w'.heap.size, 0, none⟩) N N) (w1 := wq) ?_ ⟨_, rfl, below_call hB hBq hB.size, hBq, _, _, rfl, hz5, hbq⟩
     simp [go_sem, q41, hrq]
    ·have q3 : a'.tmps[3]?.getD undef = (.pointer (some ⟨gx, 0, none⟩)) := gtx ((hS 3 (by decide)).trans rfl)
     refine wpOp_val rfl rfl (v := (.pointer (some ⟨gx, 1, none⟩))) (w1 := w') ?_ ⟨_, rfl, hB, Below.refl _ _, rfl⟩
     simp [go_sem, q3]
    ·have q43 : a'.tmps[43]?.getD undef = (.pointer (some ⟨gx, 1, none⟩)) := gtx ((hF 5 (by decide) _ 43 rfl rfl).trans rfl)
     refine wpOp_val rfl rfl (v := (.int .i64 (Yn : Int))) (w1 := w') ?_ ⟨_, rfl, hB, Below.refl _ _, rfl⟩
     simp [go_sem, q43, hx5]
    ·have q44 : a'.tmps[44]?.getD undef = (.int .i64 (Yn : Int)) := gtx ((hF 6 (by decide) _ 44 rfl rfl).trans rfl)
     refine wpOp_val rfl rfl (v := (.int .i64 (M : Int))) (w1 := w') ?_ ⟨_, rfl, hB, Below.refl _ _, rfl⟩
     simp [go_sem, q44, hYc, hYw]
    ·have q45 : a'.tmps[45]?.getD undef = (.int .i64 (M : Int)) := gtx ((hF 7 (by decide) _ 45 rfl rfl).trans rfl)
     obtain ⟨wq, hrq, hbq, hBq⟩ := make_inos w' M (by have := HME.out; omega)
     refine wpOp_val rfl rfl (v := .slice (some ⟨w'.heap.size, 0, none⟩) M M) (w1 := wq) ?_ ⟨_, rfl, below_call hB hBq hB.size, hBq, _, _, rfl, hz5, hbq⟩
     simp [go_sem, q45, hrq]
    ·have q38 : a'.tmps[38]?.getD undef = (.agg #[.int .i64 (N : Int), .int .i64 (Yn : Int)]) := gtx ((hF 0 (by decide) _ 38 rfl rfl).trans rfl)
     have q39 : a'.tmps[39]?.getD undef = (.slice (some ⟨gi, oi, none⟩) N ci) := gtx ((hF 1 (by decide) _ 39 rfl rfl).trans rfl)
     obtain ⟨gs, cs, q42', b1, b2⟩ := hF 4 (by decide) _ 42 rfl rfl
     obtain ⟨gn, cn, q46', b3, b4⟩ := hF 8 (by decide) _ 46 rfl rfl
     have q42 := gtx q42'
     have q46 := gtx q46'
     refine wpOp_val rfl rfl (v := .agg #[.int .i64 (N : Int), .int .i64 (Yn : Int), .slice (some ⟨gi, oi, none⟩) N ci, .slice (some ⟨gs, 0, none⟩) N cs, .slice (some ⟨gn, 0, none⟩) M cn]) (w1 := w') ?_ ⟨_, rfl, hB, Below.refl _ _, gs, cs, gn, cn, rfl, ⟨b1, b2⟩, b3, b4⟩
     simp [go_sem, q38, q39, q42, q46]
    ·obtain ⟨gs, cs, gn, cn, q47', ⟨b1, b2⟩, b3, b4⟩ := hF 9 (by decide) _ 47 rfl rfl
     have q47 := gtx q47'
     have hBn := (Below.refl w'.heap.size w').alloc (Nat.le_refl _) (.cells #[.int .i64 (N : Int), .int .i64 (Yn : Int), .slice (some ⟨gi, oi, none⟩) N ci, .slice (some ⟨gs, 0, none⟩) N cs, .slice (some ⟨gn, 0, none⟩) M cn] 75)
     refine wpOp_val rfl rfl (v := .pointer (some ⟨w'.heap.size, 0, none⟩)) (w1 := w'.alloc (.cells #[.int .i64 (N : Int), .int .i64 (Yn : Int), .slice (some ⟨gi, oi, none⟩) N ci, .slice (some ⟨gs, 0, none⟩) N cs, .slice (some ⟨gn, 0, none⟩) M cn] 75)) ?_ ⟨_, rfl, below_new hB hB.size _, hBn, w'.heap.size, gs, cs, gn, cn, rfl, ⟨hz5, (hopN w' _).1⟩, ⟨b1, b2.same (hat_below hBn b2.lt)⟩, b3, b4.same (hat_below hBn b4.lt)⟩
     simp [go_sem, q47]
   ·intro val w5 hB5 hF
    obtain ⟨g, gs, cs, gn, cn, y48, ⟨hg0, hgs⟩, ⟨hgs0, hbs⟩, hgn0, hin⟩ := hF 10 _ 48 (by decide) rfl rfl
    simp only [putAll, List.take, List.drop, List.take_succ_cons, List.drop_succ_cons, y48, Act.put, List.setIfInBounds_toArray, List.set_cons_zero, List.set_cons_succ]
    clear y48 hF
    have hn1 : g ≠ gs := by
     obtain ⟨c, hc, -⟩ := hbs
     exact hat_ne hgs hc (by decide)
    have hn2 : g ≠ gn := by
     obtain ⟨c, hc, -⟩ := hin
     exact hat_ne hgs hc (by decide)
    have hn3 : gs ≠ gn := by
     obtain ⟨c, hc, -⟩ := hin
     obtain ⟨c', hc', -⟩ := hbs
     exact hat_ne hc' hc (by decide)
    have hgil := HSE.out.lt
    have hn4 : gi ≠ gs := by have := hB2.size; omega
    have hn5 : gi ≠ gn := by have := hB2.size; omega
    have hB5' : Below w.heap.size w w5 := below_call hB2 hB5 hB2.size
    have HB5 := Lib.hid hB5'
    have HS5 := Lib.hid (HSE.out.same (hat_below hB5' hgil))
    have hx5 := (hop hB5 hgx).1
    have hn6 : gx ≠ gn := by have := hat_lt hgx; omega
    have hn7 : gx ≠ gs := by have := hat_lt hgx; omega
    have HGN : Hid (w.heap.size ≤ gn ∧ w.heap.size ≤ gs) := Lib.hid (by have := hB2.size; omega)
    have HIN1 : Hid (Inos w5 gn M (wJ S 1)) := Lib.hid (by rw [wJ_one]; exact hin)
    have HBS := Lib.hid hbs
    have hbsl := hbs.lt
    clear hB5 hB5' hin hbs hgx hB2 hcI hc1 hcl hgs0 hgn0 hg0 HB1 HB2 hz1 hld0
    go_wp2_with fail
    have hg5l := hat_lt hgs
    go_loopw [6] (fun v wr => ∃ k : Nat, v = .int .i64 k ∧ 1 ≤ k ∧ k ≤ Yn + 1 ∧ Hid (Below w.heap.size w wr) ∧ Hid (Fr [gn] w5 wr) ∧ Hid (Inos wr gn M (wJ S k)) ∧ Hid (∀ j : Nat, 1 ≤ j → j < k → (rdInoR (S j)).2 = 0)) (fun v _ => Yn + 1 - (intOf v).toNat)
    case atStart => exact ⟨1, rfl, by omega, by omega, HB5, Lib.hid (Fr.refl _ _), HIN1, Lib.hid (fun j _ _ => by omega)⟩
    case round =>
     obtain ⟨i, rfl, hi1, hiY1, HB, HF, HI, HD⟩ := hrel
     have hxr := (HF.out.block gx (hat_lt hx5) (by simpa using hn6)).trans hx5
     have hsr := (HF.out.block g hg5l (by simpa using hn2)).trans hgs
     have hi0 : (0 : Int) ≤ (i : Int) := Int.natCast_nonneg _
     by_cases hiYn : i ≤ Yn
     ·have hiYl : (i : Int) ≤ (Yn : Int) := by omega
      have hiY : i < M := by have := HME.out; omega
      have hiYi : (i : Int) < (M : Int) := by omega
      have hiN : i < N := by omega
      have hiNi : (i : Int) < (N : Int) := by omega
      have hSr := HS5.out.same (HF.out.block gi HS5.out.lt (by simpa using hn5))
      obtain ⟨csr, tr, frr, hcr, hlI⟩ := hSr.load hiN
      obtain ⟨lI, bI⟩ := hSr.len hiN
      have HRI := Lib.hid (fun W => rrdIno_any (S i) lI bI W)
      have hxrl := hat_lt hxr
      clear lI bI hSr
      go_wp2_with fail
      refine wp_region_GH (by kernel_rfl) 16 (by decide) rfl (fun W => Fr [gn] wr W ∧ (Inos W gn M (wJ S i) ∨ Inos W gn M (wJ S (i + 1)))) (fun W W' => Inos W gn M (wJ S (i + 1)) → Inos W' gn M (wJ S (i + 1))) (fun i' v W => match i' with | 0 => v = (.pointer (some ⟨g, 0, none⟩)) | 1 => v = (.pointer (some ⟨g, 0, none⟩)) | 2 => v = (.pointer (some ⟨g, 4, none⟩)) | 3 => v = (.slice (some ⟨gn, 0, none⟩) M cn) | 4 => v = (.int .i64 (i : Int)) | 5 => v = (.slice (some ⟨gi, oi, none⟩) N ci) | 6 => v = (.int .i64 (i : Int)) | 7 => v = (.pointer (some ⟨gi, oi + i * 128, none⟩)) | 8 => v = (.agg (IV .u8 (S i))) | 9 => v = (.tuple #[.agg (IV .i64 (rdInoR (S i)).1), .int .i64 (rdInoR (S i)).2]) | 10 => v = (.tuple #[.agg (IV .i64 (rdInoR (S i)).1), .int .i64 (rdInoR (S i)).2]) | 11 => v = (.agg (IV .i64 (rdInoR (S i)).1)) | 12 => v = (.int .i64 (rdInoR (S i)).2) | 13 => v = (.pointer (some ⟨gn, i * 18, none⟩)) | 14 => True | _ => v = (.int .i64 (rdInoR (S i)).2)) (fun i' W => i' = 14 → Inos W gn M (wJ S (i + 1))) ⟨fr_drew (Fr.refl _ _), .inl (HI.out.same rfl)⟩ ?_ ?_ ?_ ?_
      ·intro i' v wa wb hi _ _ hE5 hG
       have hi' : i' = 0 ∨ i' = 1 ∨ i' = 2 ∨ i' = 3 ∨ i' = 4 ∨ i' = 5 ∨ i' = 6 ∨ i' = 7 ∨ i' = 8 ∨ i' = 9 ∨ i' = 10 ∨ i' = 11 ∨ i' = 12 ∨ i' = 13 ∨ i' = 14 ∨ i' = 15 := by omega
       rcases hi' with rfl | rfl | rfl | rfl | rfl | rfl | rfl | rfl | rfl | rfl | rfl | rfl | rfl | rfl | rfl | rfl
       ·exact hG
       ·exact hG
       ·exact hG
       ·exact hG
       ·exact hG
       ·exact hG
       ·exact hG
       ·exact hG
       ·exact hG
       ·exact hG
       ·exact hG
       ·exact hG
       ·exact hG
       ·exact hG
       ·exact hG
       ·exact hG
      ·intro i' wa wb hi _ _ hE5 hG e
       exact hE5 (hG e)
      ·intro i' o hi ho a' w' hBB hS hF hFH
       obtain ⟨hB, hBI⟩ := hBB
       have hi' : i' = 0 ∨ i' = 1 ∨ i' = 2 ∨ i' = 3 ∨ i' = 4 ∨ i' = 5 ∨ i' = 6 ∨ i' = 7 ∨ i' = 8 ∨ i' = 9 ∨ i' = 10 ∨ i' = 11 ∨ i' = 12 ∨ i' = 13 ∨ i' = 14 ∨ i' = 15 := by omega
       have hsr := (hB.block g (hat_lt hsr) (by simpa using hn2)).trans hsr
       have hcr := (hB.block gi (hat_lt hcr) (by simpa using hn5)).trans hcr
       rcases hi' with rfl | rfl | rfl | rfl | rfl | rfl | rfl | rfl | rfl | rfl | rfl | rfl | rfl | rfl | rfl | rfl
       all_goals (have ho' := Option.some.inj ho; subst ho')
       ·have q5 : a'.tmps[5]?.getD undef = (.pointer (some ⟨g, 0, none⟩)) := gtx ((hS 5 (by decide)).trans rfl)
        refine wpOp_val rfl rfl (v := (.pointer (some ⟨g, 0, none⟩))) (w1 := w') ?_ ⟨_, rfl, ⟨hB, hBI⟩, id, rfl, fun e => (by cases e)⟩
        simp [go_sem, q5]
       ·have q56 : a'.tmps[56]?.getD undef = (.pointer (some ⟨g, 0, none⟩)) := gtx ((hF 0 (by decide) _ 56 rfl rfl).trans rfl)
        refine wpOp_val rfl rfl (v := (.pointer (some ⟨g, 0, none⟩))) (w1 := w') ?_ ⟨_, rfl, ⟨hB, hBI⟩, id, rfl, fun e => (by cases e)⟩
        simp [go_sem, q56]
       ·have q57 : a'.tmps[57]?.getD undef = (.pointer (some ⟨g, 0, none⟩)) := gtx ((hF 1 (by decide) _ 57 rfl rfl).trans rfl)
        refine wpOp_val rfl rfl (v := (.pointer (some ⟨g, 4, none⟩))) (w1 := w') ?_ ⟨_, rfl, ⟨hB, hBI⟩, id, rfl, fun e => (by cases e)⟩
        simp [go_sem, q57]
       ·have q58 : a'.tmps[58]?.getD undef = (.pointer (some ⟨g, 4, none⟩)) := gtx ((hF 2 (by decide) _ 58 rfl rfl).trans rfl)
        refine wpOp_val rfl rfl (v := (.slice (some ⟨gn, 0, none⟩) M cn)) (w1 := w') ?_ ⟨_, rfl, ⟨hB, hBI⟩, id, rfl, fun e => (by cases e)⟩
        simp [go_sem, q58, hsr]
       ·have q6 : a'.tmps[6]?.getD undef = (.int .i64 (i : Int)) := gtx ((hS 6 (by decide)).trans rfl)
        refine wpOp_val rfl rfl (v := (.int .i64 (i : Int))) (w1 := w') ?_ ⟨_, rfl, ⟨hB, hBI⟩, id, rfl, fun e => (by cases e)⟩
        simp [go_sem, q6]
       ·have q0 : a'.tmps[0]?.getD undef = (.slice (some ⟨gi, oi, none⟩) N ci) := gtx ((hS 0 (by decide)).trans rfl)
        refine wpOp_val rfl rfl (v := (.slice (some ⟨gi, oi, none⟩) N ci)) (w1 := w') ?_ ⟨_, rfl, ⟨hB, hBI⟩, id, rfl, fun e => (by cases e)⟩
        simp [go_sem, q0]
       ·have q6 : a'.tmps[6]?.getD undef = (.int .i64 (i : Int)) := gtx ((hS 6 (by decide)).trans rfl)
        refine wpOp_val rfl rfl (v := (.int .i64 (i : Int))) (w1 := w') ?_ ⟨_, rfl, ⟨hB, hBI⟩, id, rfl, fun e => (by cases e)⟩
        simp [go_sem, q6]
       ·have q61 : a'.tmps[61]?.getD undef = (.slice (some ⟨gi, oi, none⟩) N ci) := gtx ((hF 5 (by decide) _ 61 rfl rfl).trans rfl)
        have q62 : a'.tmps[62]?.getD undef = (.int .i64 (i : Int)) := gtx ((hF 6 (by decide) _ 62 rfl rfl).trans rfl)
        refine wpOp_val rfl rfl (v := (.pointer (some ⟨gi, oi + i * 128, none⟩))) (w1 := w') ?_ ⟨_, rfl, ⟨hB, hBI⟩, id, rfl, fun e => (by cases e)⟩
        simp [go_sem, q61, q62, hiN, hi0, hiNi]
       ·have q63 : a'.tmps[63]?.getD undef = (.pointer (some ⟨gi, oi + i * 128, none⟩)) := gtx ((hF 7 (by decide) _ 63 rfl rfl).trans rfl)
        refine wpOp_val rfl rfl (v := (.agg (IV .u8 (S i)))) (w1 := w') ?_ ⟨_, rfl, ⟨hB, hBI⟩, id, rfl, fun e => (by cases e)⟩
        simp [go_sem, q63, hcr, hlI]
       ·have q64 : a'.tmps[64]?.getD undef = (.agg (IV .u8 (S i))) := gtx ((hF 8 (by decide) _ 64 rfl rfl).trans rfl)
        refine wpOp_call (f := 38) (args := #[.agg (IV .u8 (S i))]) rfl rfl (by simp [go_sem, q64]) (HRI.out w') ?_
        rintro e w'' ⟨rfl, hb'⟩
        have hk : ∀ {I0}, Inos w' gn M I0 → Inos w'' gn M I0 := fun h => h.same (hat_below hb' h.lt)
        exact ⟨_, rfl, _, rfl, ⟨hB.trans (fr_below hb' _), hBI.imp hk hk⟩, hk, rfl, fun e => (by cases e)⟩
       ·have q65 : a'.tmps[65]?.getD undef = (.tuple #[.agg (IV .i64 (rdInoR (S i)).1), .int .i64 (rdInoR (S i)).2]) := gtx ((hF 9 (by decide) _ 65 rfl rfl).trans rfl)
        refine wpOp_val rfl rfl (v := (.tuple #[.agg (IV .i64 (rdInoR (S i)).1), .int .i64 (rdInoR (S i)).2])) (w1 := w') ?_ ⟨_, rfl, ⟨hB, hBI⟩, id, rfl, fun e => (by cases e)⟩
        simp [go_sem, q65]
       ·have q55 : a'.tmps[55]?.getD undef = (.tuple #[.agg (IV .i64 (rdInoR (S i)).1), .int .i64 (rdInoR (S i)).2]) := gtx ((hF 10 (by decide) _ 55 rfl rfl).trans rfl)
        refine wpOp_val rfl rfl (v := (.agg (IV .i64 (rdInoR (S i)).1))) (w1 := w') ?_ ⟨_, rfl, ⟨hB, hBI⟩, id, rfl, fun e => (by cases e)⟩
        simp [go_sem, q55]
       ·have q55 : a'.tmps[55]?.getD undef = (.tuple #[.agg (IV .i64 (rdInoR (S i)).1), .int .i64 (rdInoR (S i)).2]) := gtx ((hF 10 (by decide) _ 55 rfl rfl).trans rfl)
        refine wpOp_val rfl rfl (v := (.int .i64 (rdInoR (S i)).2)) (w1 := w') ?_ ⟨_, rfl, ⟨hB, hBI⟩, id, rfl, fun e => (by cases e)⟩
        simp [go_sem, q55]
       ·have q59 : a'.tmps[59]?.getD undef = (.slice (some ⟨gn, 0, none⟩) M cn) := gtx ((hF 3 (by decide) _ 59 rfl rfl).trans rfl)
        have q60 : a'.tmps[60]?.getD undef = (.int .i64 (i : Int)) := gtx ((hF 4 (by decide) _ 60 rfl rfl).trans rfl)
        refine wpOp_val rfl rfl (v := (.pointer (some ⟨gn, i * 18, none⟩))) (w1 := w') ?_ ⟨_, rfl, ⟨hB, hBI⟩, id, rfl, fun e => (by cases e)⟩
        simp [go_sem, q59, q60, hiY, hi0, hiYi]
       ·have q68 : a'.tmps[68]?.getD undef = (.pointer (some ⟨gn, i * 18, none⟩)) := gtx ((hF 13 (by decide) _ 68 rfl rfl).trans rfl)
        have q66 : a'.tmps[66]?.getD undef = (.agg (IV .i64 (rdInoR (S i)).1)) := gtx ((hF 11 (by decide) _ 66 rfl rfl).trans rfl)
        obtain ⟨csN, hIc, hIz, hIx, hIJ⟩ : ∃ csN, hat w' gn = some (.cells csN 78) ∧ csN.size = M * 18 ∧ (∃ I0 : Nat → List Int, (∀ j, j < M → (I0 j).length = 18 ∧ csN.extract (j * 18) (j * 18 + 18) = IV .i64 (I0 j)) ∧ ∀ j, j < M → wJ S (i + 1) j = if j = i then (rdInoR (S i)).1 else I0 j) ∧ True := by
         rcases hBI with ⟨c, h1, h2, h3⟩ | ⟨c, h1, h2, h3⟩
         ·exact ⟨c, h1, h2, ⟨_, h3, fun j hj => wJ_succ S hi1 j⟩, trivial⟩
         ·exact ⟨c, h1, h2, ⟨_, h3, fun j hj => wJ_same S hi1 j⟩, trivial⟩
        obtain ⟨I0, hI1, hI2⟩ := hIx
        have hput := Inos.put hIc hIz hI1 hiY (rdInoR_length (S i)) hI2
        have hst : ∀ raw W0, stRow raw 18 (i * 18) gn (IV .i64 (rdInoR (S i)).1) W0 (some (.cells csN 78)) = .ok () (W0.setRow gn (splice csN (i * 18) (IV .i64 (rdInoR (S i)).1))) := fun raw W0 => stRow_part (by omega) (by simp) (by simp)
        refine wpOp_skip rfl rfl (w1 := w'.setRow gn (splice csN (i * 18) (IV .i64 (rdInoR (S i)).1))) ?_ ⟨undef, rfl, ⟨hB.trans (fr_setRow _ _ _), .inr hput⟩, fun _ => hput, trivial, fun _ => hput⟩
        simp [go_sem, q68, q66, hIc, hst]
       ·have q67 : a'.tmps[67]?.getD undef = (.int .i64 (rdInoR (S i)).2) := gtx ((hF 12 (by decide) _ 67 rfl rfl).trans rfl)
        refine wpOp_val rfl rfl (v := (.int .i64 (rdInoR (S i)).2)) (w1 := w') ?_ ⟨_, rfl, ⟨hB, hBI⟩, id, rfl, fun e => (by cases e)⟩
        simp [go_sem, q67]
      ·intro val w6 hBB hF hFH
       obtain ⟨hB6, -⟩ := hBB
       have hI6 : Inos w6 gn M (wJ S (i + 1)) := hFH 14 (by decide) rfl
       have y0 := hF 0 _ 56 (by decide) rfl rfl
       have y1 := hF 1 _ 57 (by decide) rfl rfl
       have y2 := hF 2 _ 58 (by decide) rfl rfl
       have y3 := hF 3 _ 59 (by decide) rfl rfl
       have y4 := hF 4 _ 60 (by decide) rfl rfl
       have y5 := hF 5 _ 61 (by decide) rfl rfl
       have y6 := hF 6 _ 62 (by decide) rfl rfl
       have y7 := hF 7 _ 63 (by decide) rfl rfl
       have y8 := hF 8 _ 64 (by decide) rfl rfl
       have y9 := hF 9 _ 65 (by decide) rfl rfl
       have y10 := hF 10 _ 55 (by decide) rfl rfl
       have y11 := hF 11 _ 66 (by decide) rfl rfl
       have y12 := hF 12 _ 67 (by decide) rfl rfl
       have y13 := hF 13 _ 68 (by decide) rfl rfl
       have y15 := hF 15 _ 4 (by decide) rfl rfl
       simp only [] at y0 y1 y2 y3 y4 y5 y6 y7 y8 y9 y10 y11 y12 y13 y15
       simp only [putAll, List.take, List.drop, List.take_succ_cons, List.drop_succ_cons, y0, y1, y2, y3, y4, y5, y6, y7, y8, y9, y10, y11, y12, y13, y15, Act.put, List.setIfInBounds_toArray, List.set_cons_zero, List.set_cons_succ]
       clear y0 y1 y2 y3 y4 y5 y6 y7 y8 y9 y10 y11 y12 y13 y15 hF
       have hs6 := (hB6.block g (hat_lt hsr) (by simpa using hn2)).trans hsr
       have hx6 := (hB6.block gx (hat_lt hxr) (by simpa using hn6)).trans hxr
       have HB6 : Hid (Below w.heap.size w w6) := Lib.hid (HB.out.trans (hB6.below HB.out.size (by simp; exact HGN.out.1)))
       have HF6 := Lib.hid (HF.out.trans hB6)
       have HI6 := Lib.hid hI6
       clear hB6 hI6 HI hsr hcr hxr hxrl hlI HRI
       by_cases her : (rdInoR (S i)).2 = 0
       ·have der : ((rdInoR (S i)).2 != 0) = false := by simpa using her
        have HD2 : Hid (∀ j : Nat, 1 ≤ j → j < i + 1 → (rdInoR (S j)).2 = 0) := Lib.hid (fun j h1 h2 => by
         by_cases e : j = i
         ·subst e; exact her
         ·exact HD.out j h1 (by omega))
        clear her
        go_wp2_with fail
        go_roundw
        case rel => exact ⟨i + 1, by go_num, by omega, by omega, HB6, HF6, HI6, HD2⟩
        case measure => (show Yn + 1 - (i + 1) < Yn + 1 - i); omega
       ·have der : ((rdInoR (S i)).2 != 0) = true := by simpa using her
        have HBAD : Hid (¬ WellP N S) := Lib.hid (fun h => her (h.rd i hi1 (by rw [HRR.out]; exact hiYl)))
        clear her
        go_wp2_with fail
        go_ret
        exact well_no HBAD.out HB6.out
     ·obtain rfl : i = Yn + 1 := by omega
      obtain ⟨w7, rfl⟩ : ∃ x, x = wr := ⟨_, rfl⟩
      have HI7 : Hid (Inos w7 gn M (wI S)) := Lib.hid (HI.out.congr (fun j hj => by rw [← HME.out]; exact (wJ_all S hj).symm))
      have HRD : Hid (∀ j : Nat, 1 ≤ j → j ≤ Yn → (rdInoR (S j)).2 = 0) := Lib.hid (fun j h1 h2 => HD.out j h1 (by omega))
      have HB7 := Lib.hid HB.out
      have hx7 := hxr
      obtain ⟨E, hEe⟩ : ∃ E : SEnv, E = { g := g, gs := gs, cs := cs, gi := gi, oi := oi, N := N, ci := ci, X := (N : Int), Y := (Yn : Int), S := S, ino := .slice (some ⟨gn, 0, none⟩) M cn } := ⟨_, rfl⟩
      have HEE := Lib.hid hEe
      have hE : SOk E := by
       subst hEe
       exact ⟨rfl, h9, Int.natCast_nonneg _, hn1, hn4⟩
      have HOK := Lib.hid hE
      have HSG7 : Hid (SG E w7 (fun _ => false)) := Lib.hid (by
       subst hEe
       exact ⟨hsr, HBS.out.same (HF.out.block gs HBS.out.lt (by simpa using hn3)), HS5.out.same (HF.out.block gi HS5.out.lt (by simpa using hn5))⟩)
      have HPT7 : Hid (ptrsA N Yn S (wI S) (List.range' 1 Yn) (fun _ => false) = ptrsA N Yn S (wI S) ((List.range' 1 Yn).drop (1 - 1)) (fun _ => false)) := Lib.hid rfl
      have hyf : ¬ ((Yn + 1 : Nat) : Int) ≤ (Yn : Int) := by omega
      clear HI HD HF HB HS5 HBS hgs hx5 hsr hg5l hxr hEe hE hiYn hi0
      go_wp2_with fail
      go_loopw [7] (fun v wr => ∃ (k : Nat) (seen : Int → Bool), v = .int .i64 k ∧ 1 ≤ k ∧ k ≤ Yn + 1 ∧ Hid (Below w.heap.size w wr) ∧ Hid (Fr [gs] w7 wr) ∧ Hid (SG E wr seen) ∧ Hid (ptrsA N Yn S (wI S) (List.range' 1 Yn) (fun _ => false) = ptrsA N Yn S (wI S) ((List.range' 1 Yn).drop (k - 1)) seen)) (fun v _ => Yn + 1 - (intOf v).toNat)
      case atStart => exact ⟨1, fun _ => false, rfl, by omega, by omega, HB7, Lib.hid (Fr.refl _ _), HSG7, HPT7⟩
      case round =>
       obtain ⟨i, seen, rfl, hi1, hiY1, HB, HF, HSG, HPT⟩ := hrel
       clear HSG7 HPT7 HB7
       have hxr := (HF.out.block gx (hat_lt hx7) (by simpa using hn7)).trans hx7
       have hsr := HSG.out.s
       simp only [HEE.out] at hsr
       have hIr := HI7.out.same (HF.out.block gn HI7.out.lt (by simpa using Ne.symm hn3))
       have hi0 : (0 : Int) ≤ (i : Int) := Int.natCast_nonneg _
       have hxrl := hat_lt hxr
       have hsrl := hat_lt hsr
       by_cases hiYn : i ≤ Yn
       ·have hiYl : (i : Int) ≤ (Yn : Int) := by omega
        have hiY : i < M := by have := HME.out; omega
        have hiYi : (i : Int) < (M : Int) := by omega
        have hier := HRD.out i hi1 hiYn
        obtain ⟨csN, hIc, hIl, hIld, hIall⟩ := hIr.load hiY
        have hk0 := hIall 0 (by omega)
        rw [Nat.add_zero] at hk0
        have hIcl := hat_lt hIc
        have hdrop : (List.range' 1 Yn).drop (i - 1) = i :: (List.range' 1 Yn).drop i := by
         have h1 := range1_get (n := Yn) (k := i - 1) (by omega)
         rw [show i - 1 + 1 = i by omega] at h1
         rw [drop_cons h1, show i - 1 + 1 = i by omega]
        have HPT1 := HPT.out
        rw [hdrop, ptrsA_cons] at HPT1
        have HPT2 := Lib.hid HPT1
        clear HPT1 hdrop hIall hIr
        by_cases hkz : nth (wI S i) 0 = 0
        ·have dkz : (nth (wI S i) 0 != 0) = false := by simpa using hkz
         have HPT3 : Hid (ptrsA N Yn S (wI S) (List.range' 1 Yn) (fun _ => false) = ptrsA N Yn S (wI S) ((List.range' 1 Yn).drop (i + 1 - 1)) seen) := Lib.hid (by rw [HPT2.out, if_pos hkz]; rfl)
         clear hkz
         go_wp2_with fail
         go_roundw
         case rel => exact ⟨i + 1, seen, by go_num, by omega, by omega, HB, HF, HSG, HPT3⟩
         case measure => (show Yn + 1 - (i + 1) < Yn + 1 - i); omega
        ·have dkz : (nth (wI S i) 0 != 0) = true := by simpa using hkz
         have hbd := ino_bounds hier (by rw [← wI_yes S hi1]; exact hkz)
         rw [← wI_yes S hi1] at hbd
         obtain ⟨b1, b2, b3, -⟩ := hbd
         have hcall := pointers_w HOK.out (wI S i) hIl b1 b2 b3 seen wr HSG.out
         simp only [HEE.out] at hcall
         rw [← HEE.out] at hcall
         have HCALL := Lib.hid hcall
         have HPT1 := HPT2.out
         rw [if_neg hkz] at HPT1
         have HPT3 := Lib.hid HPT1
         clear hkz hcall b1 b2 b3 HPT1 HPT2 hier
         go_wp2_with fail
         refine HCALL.out.mono ?_; rintro e w8 ⟨rfl, hsg, hf8⟩
         have HB8 : Hid (Below w.heap.size w w8) := Lib.hid (HB.out.trans (hf8.below HB.out.size (by simp; exact HGN.out.2)))
         have HF8 := Lib.hid (HF.out.trans hf8)
         cases hpw : ptrsW (N : Int) (Yn : Int) S (cntX (nth (wI S i) 2)) (wI S i) seen with
         | none =>
          have HBAD : Hid (¬ WellP N S) := Lib.hid (fun h => by
           have hp := h.pt
           rw [HRR.out] at hp
           simp only [Int.toNat_natCast] at hp
           rw [HPT3.out, hpw] at hp
           cases hp)
          clear hsg hf8 HCALL
          simp only [Option.isSome_none]
          go_wp2_with fail
          go_ret
          exact well_no HBAD.out HB8.out
         | some s2 =>
          have HSG8 := Lib.hid (hsg s2 hpw)
          have HPT4 : Hid (ptrsA N Yn S (wI S) (List.range' 1 Yn) (fun _ => false) = ptrsA N Yn S (wI S) ((List.range' 1 Yn).drop (i + 1 - 1)) s2) := Lib.hid (by rw [HPT3.out, hpw]; rfl)
          clear hsg hf8 HCALL hpw
          simp only [Option.isSome_some]
          go_wp2_with fail
          go_roundw
          case rel => exact ⟨i + 1, s2, by go_num, by omega, by omega, HB8, HF8, HSG8, HPT4⟩
          case measure => (show Yn + 1 - (i + 1) < Yn + 1 - i); omega
       ·obtain rfl : i = Yn + 1 := by omega
        have hyf : ¬ ((Yn + 1 : Nat) : Int) ≤ (Yn : Int) := by omega
        have HPA : Hid (ptrsA N Yn S (wI S) (List.range' 1 Yn) (fun _ => false) = some seen) := Lib.hid (by
         rw [HPT.out, List.drop_of_length_le (by simp)]; rfl)
        have hM1 : 1 < M := by have := HME.out; omega
        have hM1i : (1 : Int) < (M : Int) := by omega
        obtain ⟨csN, hIc, hIl, hIld, hIall⟩ := hIr.load hM1
        have hk1 : csN[18]? = some (.int .i64 (nth (wI S 1) 0)) := hIall 0 (by omega)
        have hIcl := hat_lt hIc
        have HIR := Lib.hid hIr
        clear hIr hIall hIld hIl HPT
        by_cases hrt : nth (wI S 1) 0 = 2
        ·have drt : (nth (wI S 1) 0 != 2) = false := by simpa using hrt
         have HRT := Lib.hid hrt
         have HAI : Hid (∀ i, 1 ≤ i → i < M → nth (wI S i) 0 ≠ 0 → Aims N S (wI S i) ∧ (0 ≤ nth (wI S i) 2 ∧ nth (wI S i) 2 ≤ 136704) ∧ ∀ k : Nat, k < 1068 → 0 ≤ blkW S (wI S i) k ∧ blkW S (wI S i) k < N) := Lib.hid (fun i h1 h2 h3 => by
          have h4 : i ≤ Yn := by have := HME.out; omega
          have hbd := ino_bounds (HRD.out i h1 h4) (by rw [← wI_yes S h1]; exact h3)
          rw [← wI_yes S h1] at hbd
          have hpe := pt_each (X := N) (Y := Yn) (S := S) (I := wI S) (l := List.range' 1 Yn) (s := fun _ => false) (by rw [HPA.out]; rfl) (i := i) (List.mem_range'_1.2 ⟨h1, by omega⟩) h3
          obtain ⟨q1, q2⟩ := aims_of (n := cntX (nth (wI S i) 2)) (N := N) (Int.natCast_nonneg Yn) rfl (by omega) (wI_len S i) hpe
          exact ⟨q1, ⟨hbd.1, hbd.2.1⟩, q2⟩)
         have hcall := named_w (gn := gn) (cn := cn) (M := M) (I := wI S) HOK.out (by rw [HEE.out]) (by omega) (by have := HME.out; omega) (fun i h1 h2 h3 => by
          obtain ⟨q1, q2, q3⟩ := HAI.out i h1 h2 (by rw [h3]; decide)
          simp only [HEE.out]
          refine ⟨q1, q2.1, q2.2, fun p hp => ?_⟩
          unfold blksW at hp
          rw [List.mem_map] at hp
          obtain ⟨k, hk, rfl⟩ := hp
          have hk2 := List.mem_range.1 hk
          exact q3 k (by unfold cntX at hk2; omega)) seen wr HSG.out HIR.out
         simp only [HEE.out] at hcall
         have HCALL := Lib.hid hcall
         clear hcall hrt
         go_wp2_with fail
         refine HCALL.out.mono ?_; rintro e w8 ⟨v1, v2, b, rfl, hb8, hiff, hout⟩
         have HB8 : Hid (Below w.heap.size w w8) := Lib.hid (below_call HB.out hb8 HB.out.size)
         have hx8 := (hop hb8 hxr).1
         have HS8 := Lib.hid (HSG.out.fr (fr_below hb8 []) (by simp) (by simp) (by simp))
         have HI8 := Lib.hid (HIR.out.same (hat_below hb8 HIR.out.lt))
         clear hb8 HCALL hIc hIcl hk1 hxr hsr hxrl hsrl HB HSG HIR
         cases b with
         | false =>
          have HBAD : Hid (¬ WellP N S) := Lib.hid (fun h => by
           have h1 := hiff.2 (well_un h HRR.out HME.out).1
           cases h1)
          clear hiff hout
          go_wp2_with fail
          go_ret
          exact well_no HBAD.out HB8.out
         | true =>
          have HDR := Lib.hid (hiff.1 rfl)
          obtain ⟨gt, gr, ct, cr, rch, rfl, rfl, hnum, hbool, hrch⟩ := hout rfl
          have HN8 := Lib.hid hnum
          have HR8 := Lib.hid hbool
          have HCH := Lib.hid hrch
          clear hiff hout hnum hbool hrch
          go_wp2_with fail
          have hx8l := hat_lt hx8
          go_loopw [11] (fun v wr => ∃ k : Nat, v = .int .i64 k ∧ 1 ≤ k ∧ k ≤ Yn + 1 ∧ Hid (Below w.heap.size w wr) ∧ Hid (Below w8.heap.size w8 wr) ∧ Hid (∀ j, 1 ≤ j → j < k → nth (wI S j) 0 ≠ 0 → InoOkW S (wI S) M j)) (fun v _ => Yn + 1 - (intOf v).toNat)
          case atStart => exact ⟨1, rfl, by omega, by omega, HB8, Lib.hid (Below.refl _ _), Lib.hid (fun j _ _ => by omega)⟩
          case round =>
           obtain ⟨i, rfl, hi1, hiY1, HB, HC, HAL⟩ := hrel
           have hxr := (hop HC.out hx8).1
           have hxrl := hat_lt hxr
           have hi0 : (0 : Int) ≤ (i : Int) := Int.natCast_nonneg _
           by_cases hiYn : i ≤ Yn
           ·have hiYl : (i : Int) ≤ (Yn : Int) := by omega
            have hiY : i < M := by have := HME.out; omega
            have hiYi : (i : Int) < (M : Int) := by omega
            have hsg := HS8.out.fr (fr_below HC.out []) (by simp) (by simp) (by simp)
            have hsr := hsg.s
            simp only [HEE.out] at hsr
            have HSGr := Lib.hid hsg
            have hIr := HI8.out.same (hat_below HC.out HI8.out.lt)
            obtain ⟨csN, hIc, hIl, hIld, hIall⟩ := hIr.load hiY
            have hIcl := hat_lt hIc
            have hsrl := hat_lt hsr
            have HI9 := Lib.hid hIr
            have hl18 : ∀ r w' t fr, ldRow r 18 0 w' (some (.cells (IV .i64 (wI S i)) t fr)) = .ok (.agg (IV .i64 (wI S i))) w' := fun r w' t fr => by rw [ldRow_part (by simp [hIl])]; simp [← hIl]
            have hc0 : (IV .i64 (wI S i))[0]? = some (.int .i64 (nth (wI S i) 0)) := by rw [IV_get?, nth_getElem? (by omega)]; rfl
            have hc1 : (IV .i64 (wI S i))[1]? = some (.int .i64 (nth (wI S i) 1)) := by rw [IV_get?, nth_getElem? (by omega)]; rfl
            clear hIall hIr hsg
            go_upto_region 27 with fail
            have hg9 := (hopN wr (.cells (IV .i64 (wI S i)) 78)).1
            have hB9 : Below wr.heap.size wr (wr.alloc (.cells (IV .i64 (wI S i)) 78)) := (Below.refl _ _).alloc (Nat.le_refl _) _
            have hx9 := (hop hB9 hxr).1
            have hs9 := (hop hB9 hsr).1
            have HB9 := Lib.hid (below_call HB.out hB9 HB.out.size)
            have HC9 := Lib.hid (below_call HC.out hB9 HC.out.size)
            have HSG9 := Lib.hid (HSGr.out.fr (fr_below hB9 []) (by simp) (by simp) (by simp))
            clear hB9
            generalize wr.heap.size = g9 at *
            generalize wr.alloc (.cells (IV .i64 (wI S i)) 78) = w9 at *
            have hg9l := hat_lt hg9
            have hx9l := hat_lt hx9
            clear hIc hIld hIcl hxr hxrl hsr hsrl HB HC HSGr HI9
            by_cases hkz : nth (wI S i) 0 = 0
            ·have dkz : (nth (wI S i) 0 == 0) = true := by simpa using hkz
             have HAL2 : Hid (∀ j, 1 ≤ j → j < i + 1 → nth (wI S j) 0 ≠ 0 → InoOkW S (wI S) M j) := Lib.hid (fun j h1 h2 h3 => by
              by_cases e : j = i
              ·subst e; exact absurd hkz h3
              ·exact HAL.out j h1 (by omega) h3)
             clear hkz
             go_wp2_with fail
             go_roundw
             case rel => exact ⟨i + 1, by go_num, by omega, by omega, HB9, HC9, HAL2⟩
             case measure => (show Yn + 1 - (i + 1) < Yn + 1 - i); omega
            ·have dkz : (nth (wI S i) 0 == 0) = false := by simpa using hkz
             have HKZ := Lib.hid hkz
             obtain ⟨haims0, ⟨hbz0, hbz1⟩, hbk⟩ := HAI.out i hi1 hiY hkz
             have haims : Aims E.N E.S (wI S i) := by simp only [HEE.out]; exact haims0
             have htl : nth (wI S i) 2 % 128 ≠ 0 → 0 ≤ blkW E.S (wI S i) (cntX (nth (wI S i) 2) - 1).toNat ∧ blkW E.S (wI S i) (cntX (nth (wI S i) 2) - 1).toNat < E.N := fun hz => by
              simp only [HEE.out]
              exact hbk _ (by unfold cntX; omega)
             have hrch := HCH.out
             obtain ⟨csT, hTc, hTz, hTall⟩ := HN8.out.same (hat_below HC9.out HN8.out.lt)
             obtain ⟨csR, hRc, hRz, hRall⟩ := HR8.out.same (hat_below HC9.out HR8.out.lt)
             have hTi := hTall i hiY
             have hRi := hRall i hiY
             simp only [] at hTi
             have hTcl := hat_lt hTc
             have hRcl := hat_lt hRc
             clear hTall hRall hkz hbk
             by_cases hone : i = 1
             ·have done : ((i : Int) == 1) = true := by simp; omega
              have HTW : Hid ((1 : Int) = wantW (entL S (wI S) M) M i) := Lib.hid (by unfold wantW; rw [if_pos hone])
              clear hone
              generalize (cntI (entL S (wI S) M) M i : Int) = c at *
              go_upto_region 31 with fail
              cases hrc : rch (i : Int) with
              | false =>
               rw [hrc] at hRi
               have HBAD : Hid (¬ WellP N S) := Lib.hid (fun h => by have h1 := (hrch.iff (fun i h => entL_out h) (fun i e he => by have := (entL_pos HDR.out i e he).1; omega) hiY).2 ((well_un h HRR.out HME.out).2 i hi1 hiY HKZ.out).rc; rw [hrc] at h1; cases h1)
               go_wp2_with fail
               go_ret
               exact well_no HBAD.out HB9.out
              | true =>
               rw [hrc] at hRi
               have HRC := Lib.hid ((hrch.iff (fun i h => entL_out h) (fun i e he => by have := (entL_pos HDR.out i e he).1; omega) hiY).1 hrc)
               clear hrc
               by_cases hln : nth (wI S i) 1 = 1
               ·have dln : (nth (wI S i) 1 != 1) = false := by simpa using hln
                have HLN := Lib.hid hln
                clear hln
                have HTC := Lib.hid (tail_w haims hbz0 hbz1 htl seen w9 HSG9.out)
                simp only [HEE.out] at HTC
                cases htw : tailW S (wI S i) with
                | false =>
                 have HBAD : Hid (¬ WellP N S) := Lib.hid (fun h => by have h1 := ((well_un h HRR.out HME.out).2 i hi1 hiY HKZ.out).tl; rw [htw] at h1; cases h1)
                 by_cases hk2 : nth (wI S i) 0 = 2
                 ·have dkd : (nth (wI S i) 0 == 2) = true := by simpa using hk2
                  clear hk2
                  go_wp2_with fail
                  refine HTC.out.mono ?_; rintro e w10 ⟨rfl, hb10⟩
                  have HB10 := Lib.hid (below_call HB9.out hb10 HB9.out.size)
                  have HC10 := Lib.hid (below_call HC9.out hb10 HC9.out.size)
                  rw [htw]
                  clear htw hb10 HTC
                  go_wp2_with fail
                  go_ret
                  exact well_no HBAD.out HB10.out
                 ·have dkd : (nth (wI S i) 0 == 2) = false := by simpa using hk2
                  clear hk2
                  go_wp2_with fail
                  refine HTC.out.mono ?_; rintro e w10 ⟨rfl, hb10⟩
                  have HB10 := Lib.hid (below_call HB9.out hb10 HB9.out.size)
                  have HC10 := Lib.hid (below_call HC9.out hb10 HC9.out.size)
                  rw [htw]
                  clear htw hb10 HTC
                  go_wp2_with fail
                  go_ret
                  exact well_no HBAD.out HB10.out
                | true =>
                 have HAL2 : Hid (∀ j, 1 ≤ j → j < i + 1 → nth (wI S j) 0 ≠ 0 → InoOkW S (wI S) M j) := Lib.hid (fun j h1 h2 h3 => by
                  by_cases e : j = i
                  ·subst e
                   exact ⟨HRC.out, by rw [← HTW.out]; exact HLN.out, by rw [← HTW.out]; omega, by rw [← HTW.out]; omega, fun h => by rw [← HTW.out], htw⟩
                  ·exact HAL.out j h1 (by omega) h3)
                 by_cases hk2 : nth (wI S i) 0 = 2
                 ·have dkd : (nth (wI S i) 0 == 2) = true := by simpa using hk2
                  clear hk2
                  go_wp2_with fail
                  refine HTC.out.mono ?_; rintro e w10 ⟨rfl, hb10⟩
                  have HB10 := Lib.hid (below_call HB9.out hb10 HB9.out.size)
                  have HC10 := Lib.hid (below_call HC9.out hb10 HC9.out.size)
                  rw [htw]
                  clear htw hb10 HTC
                  go_wp2_with fail
                  go_roundw
                  case rel => exact ⟨i + 1, by go_num, by omega, by omega, HB10, HC10, HAL2⟩
                  case measure => (show Yn + 1 - (i + 1) < Yn + 1 - i); omega
                 ·have dkd : (nth (wI S i) 0 == 2) = false := by simpa using hk2
                  clear hk2
                  go_wp2_with fail
                  refine HTC.out.mono ?_; rintro e w10 ⟨rfl, hb10⟩
                  have HB10 := Lib.hid (below_call HB9.out hb10 HB9.out.size)
                  have HC10 := Lib.hid (below_call HC9.out hb10 HC9.out.size)
                  rw [htw]
                  clear htw hb10 HTC
                  go_wp2_with fail
                  go_roundw
                  case rel => exact ⟨i + 1, by go_num, by omega, by omega, HB10, HC10, HAL2⟩
                  case measure => (show Yn + 1 - (i + 1) < Yn + 1 - i); omega
               ·have dln : (nth (wI S i) 1 != 1) = true := by simpa using hln
                have HLN := Lib.hid hln
                clear hln
                have HBAD : Hid (¬ WellP N S) := Lib.hid (fun h => by have h1 := ((well_un h HRR.out HME.out).2 i hi1 hiY HKZ.out).ln; rw [← HTW.out] at h1; exact HLN.out h1)
                go_wp2_with fail
                go_ret
                exact well_no HBAD.out HB9.out
             ·have done : ((i : Int) == 1) = false := by simp; omega
              obtain ⟨tw, htw1⟩ : ∃ tw : Int, tw = (cntI (entL S (wI S) M) M i : Int) := ⟨_, rfl⟩
              have HTW : Hid (tw = wantW (entL S (wI S) M) M i) := Lib.hid (by rw [htw1]; unfold wantW; rw [if_neg hone])
              rw [← htw1] at hTi
              clear hone htw1
              go_upto_region 31 with fail
              cases hrc : rch (i : Int) with
              | false =>
               rw [hrc] at hRi
               have HBAD : Hid (¬ WellP N S) := Lib.hid (fun h => by have h1 := (hrch.iff (fun i h => entL_out h) (fun i e he => by have := (entL_pos HDR.out i e he).1; omega) hiY).2 ((well_un h HRR.out HME.out).2 i hi1 hiY HKZ.out).rc; rw [hrc] at h1; cases h1)
               go_wp2_with fail
               go_ret
               exact well_no HBAD.out HB9.out
              | true =>
               rw [hrc] at hRi
               have HRC := Lib.hid ((hrch.iff (fun i h => entL_out h) (fun i e he => by have := (entL_pos HDR.out i e he).1; omega) hiY).1 hrc)
               clear hrc
               by_cases hln : nth (wI S i) 1 = tw
               ·have dln : (nth (wI S i) 1 != tw) = false := by simpa using hln
                have HLN := Lib.hid hln
                clear hln
                by_cases hw1 : tw < 1
                ·have dw1 : tw < 1 := hw1
                 have HBAD : Hid (¬ WellP N S) := Lib.hid (fun h => by have h1 := ((well_un h HRR.out HME.out).2 i hi1 hiY HKZ.out).w1; rw [← HTW.out] at h1; omega)
                 go_wp2_with fail
                 go_ret
                 exact well_no HBAD.out HB9.out
                ·by_cases hw2 : 100 < tw
                 ·have dw2 : 100 < tw := hw2
                  have HBAD : Hid (¬ WellP N S) := Lib.hid (fun h => by have h1 := ((well_un h HRR.out HME.out).2 i hi1 hiY HKZ.out).w2; rw [← HTW.out] at h1; omega)
                  go_wp2_with fail
                  go_ret
                  exact well_no HBAD.out HB9.out
                 ·by_cases hkd : nth (wI S i) 0 = 2 ∧ tw ≠ 1
                  ·have dkd : (nth (wI S i) 0 == 2) = true := by simpa using hkd.1
                   have dw3 : (tw != 1) = true := by simpa using hkd.2
                   have HKD := Lib.hid hkd
                   clear hkd
                   have HBAD : Hid (¬ WellP N S) := Lib.hid (fun h => by have h1 := ((well_un h HRR.out HME.out).2 i hi1 hiY HKZ.out).kd HKD.out.1; rw [← HTW.out] at h1; exact HKD.out.2 h1)
                   go_wp2_with fail
                   go_ret
                   exact well_no HBAD.out HB9.out
                  ·have HKD : Hid (nth (wI S i) 0 = 2 → tw = 1) := Lib.hid (fun h => Decidable.byContradiction fun h2 => hkd ⟨h, h2⟩)
                   have HTC := Lib.hid (tail_w haims hbz0 hbz1 htl seen w9 HSG9.out)
                   simp only [HEE.out] at HTC
                   cases htw : tailW S (wI S i) with
                   | false =>
                    have HBAD : Hid (¬ WellP N S) := Lib.hid (fun h => by have h1 := ((well_un h HRR.out HME.out).2 i hi1 hiY HKZ.out).tl; rw [htw] at h1; cases h1)
                    by_cases hk2 : nth (wI S i) 0 = 2
                    ·have dkd : (nth (wI S i) 0 == 2) = true := by simpa using hk2
                     have dw3 : (tw != 1) = false := by simpa using HKD.out hk2
                     clear hkd hk2
                     go_wp2_with fail
                     refine HTC.out.mono ?_; rintro e w10 ⟨rfl, hb10⟩
                     have HB10 := Lib.hid (below_call HB9.out hb10 HB9.out.size)
                     have HC10 := Lib.hid (below_call HC9.out hb10 HC9.out.size)
                     rw [htw]
                     clear htw hb10 HTC
                     go_wp2_with fail
                     go_ret
                     exact well_no HBAD.out HB10.out
                    ·have dkd : (nth (wI S i) 0 == 2) = false := by simpa using hk2
                     clear hkd hk2
                     go_wp2_with fail
                     refine HTC.out.mono ?_; rintro e w10 ⟨rfl, hb10⟩
                     have HB10 := Lib.hid (below_call HB9.out hb10 HB9.out.size)
                     have HC10 := Lib.hid (below_call HC9.out hb10 HC9.out.size)
                     rw [htw]
                     clear htw hb10 HTC
                     go_wp2_with fail
                     go_ret
                     exact well_no HBAD.out HB10.out
                   | true =>
                    have HAL2 : Hid (∀ j, 1 ≤ j → j < i + 1 → nth (wI S j) 0 ≠ 0 → InoOkW S (wI S) M j) := Lib.hid (fun j h1 h2 h3 => by
                     by_cases e : j = i
                     ·subst e
                      exact ⟨HRC.out, by rw [← HTW.out]; exact HLN.out, by rw [← HTW.out]; omega, by rw [← HTW.out]; omega, fun h => by rw [← HTW.out]; exact HKD.out h, htw⟩
                     ·exact HAL.out j h1 (by omega) h3)
                    by_cases hk2 : nth (wI S i) 0 = 2
                    ·have dkd : (nth (wI S i) 0 == 2) = true := by simpa using hk2
                     have dw3 : (tw != 1) = false := by simpa using HKD.out hk2
                     clear hkd hk2
                     go_wp2_with fail
                     refine HTC.out.mono ?_; rintro e w10 ⟨rfl, hb10⟩
                     have HB10 := Lib.hid (below_call HB9.out hb10 HB9.out.size)
                     have HC10 := Lib.hid (below_call HC9.out hb10 HC9.out.size)
                     rw [htw]
                     clear htw hb10 HTC
                     go_wp2_with fail
                     go_roundw
                     case rel => exact ⟨i + 1, by go_num, by omega, by omega, HB10, HC10, HAL2⟩
                     case measure => (show Yn + 1 - (i + 1) < Yn + 1 - i); omega
                    ·have dkd : (nth (wI S i) 0 == 2) = false := by simpa using hk2
                     clear hkd hk2
                     go_wp2_with fail
                     refine HTC.out.mono ?_; rintro e w10 ⟨rfl, hb10⟩
                     have HB10 := Lib.hid (below_call HB9.out hb10 HB9.out.size)
                     have HC10 := Lib.hid (below_call HC9.out hb10 HC9.out.size)
                     rw [htw]
                     clear htw hb10 HTC
                     go_wp2_with fail
                     go_roundw
                     case rel => exact ⟨i + 1, by go_num, by omega, by omega, HB10, HC10, HAL2⟩
                     case measure => (show Yn + 1 - (i + 1) < Yn + 1 - i); omega
               ·have dln : (nth (wI S i) 1 != tw) = true := by simpa using hln
                have HLN := Lib.hid hln
                clear hln
                have HBAD : Hid (¬ WellP N S) := Lib.hid (fun h => by have h1 := ((well_un h HRR.out HME.out).2 i hi1 hiY HKZ.out).ln; rw [← HTW.out] at h1; exact HLN.out h1)
                go_wp2_with fail
                go_ret
                exact well_no HBAD.out HB9.out
           ·obtain rfl : i = Yn + 1 := by omega
            have hyf : ¬ ((Yn + 1 : Nat) : Int) ≤ (Yn : Int) := by omega
            have HW : Hid (WellP N S) := Lib.hid (well_mk HRR.out he HME.out h8 h9 HRD.out (by rw [HPA.out]; rfl) HRT.out HDR.out (fun i h1 h2 h3 => HAL.out i h1 (by have := HME.out; omega) h3))
            go_wp2_with fail
            go_ret
            exact ⟨true, rfl, ⟨fun _ => HW.out, fun _ => rfl⟩, HB.out⟩
        ·have drt : (nth (wI S 1) 0 != 2) = true := by simpa using hrt
         have HBAD : Hid (¬ WellP N S) := Lib.hid (fun h => hrt h.rt)
         clear hrt
         go_wp2_with fail
         go_ret
         exact well_no HBAD.out HB.out
  ·have dx : (X != (N : Int)) = true := by simpa using hx
   have HBAD : Hid (¬ WellP N S) := Lib.hid (HNS.out (.inr hx))
   go_wp2_with fail
   go_ret
   exact well_no HBAD.out HB2.out
 ·have de : (er != 0) = true := by simpa using he
  have HBAD : Hid (¬ WellP N S) := Lib.hid (HNS.out (.inl he))
  go_wp2_with fail
  go_ret
  exact well_no HBAD.out HB2.out
theorem well_little (a : Option Addr) (N ci : Nat) (S : Nat → List Int) (w : World) (h : N < 8 ∨ 4096 < N) : Calls Tryz.prog 18 #[.slice a N ci] w (WellOut N S w) := by
 have HBAD := Lib.hid (well_small (S := S) h)
 cases d1 : decide ((N : Int) < 8) with
 | true =>
  have d2 : (N : Int) < 8 := of_decide_eq_true d1
  clear h
  go_enter Tryz.func18, Tryz.ntmps18
  go_wp2_with fail
  go_ret
  exact well_no HBAD.out (Below.refl _ _)
 | false =>
  have d2 : ¬ (N : Int) < 8 := of_decide_eq_false d1
  have d3 : (4096 : Int) < (N : Int) := by omega
  clear h
  go_enter Tryz.func18, Tryz.ntmps18
  go_wp2_with fail
  go_ret
  exact well_no HBAD.out (Below.refl _ _)
def Img0 (w : World) (v : Value) (N : Nat) (S : Nat → List Int) : Prop := ∃ a ci, v = .slice a N ci ∧ (0 < N → ∃ gi oi, a = some ⟨gi, oi, none⟩ ∧ Secs w gi oi N S)
theorem Img.zero {w : World} {v : Value} {N : Nat} {S : Nat → List Int} (h : Img w v N S) : Img0 w v N S := by
 obtain ⟨a, ci, h1, -, -, h4⟩ := h
 exact ⟨a, ci, h1, h4⟩
theorem Img0.same {w w' : World} {v : Value} {N : Nat} {S : Nat → List Int} (h : Img0 w v N S) (hf : Fr [] w w') : Img0 w' v N S := by
 obtain ⟨a, ci, h1, h4⟩ := h
 refine ⟨a, ci, h1, fun hN => ?_⟩
 obtain ⟨gi, oi, h5, h6⟩ := h4 hN
 exact ⟨gi, oi, h5, h6.same (hf.block _ h6.lt (by simp))⟩
theorem img0_of {w : World} {g N c k : Nat} {S : Nat → List Int} (h : WSecs w g N k S) : Img0 w (.slice (some ⟨g, 0, none⟩) N c) N S := ⟨_, _, rfl, fun _ => ⟨g, 0, rfl, h.secs⟩⟩
theorem Img0.len {w : World} {v : Value} {N : Nat} {S : Nat → List Int} (h : Img0 w v N S) : ∀ j, j < N → (S j).length = 128 ∧ Bytes (S j) := fun j hj => by
 obtain ⟨a, ci, -, h4⟩ := h
 obtain ⟨gi, oi, -, h6⟩ := h4 (by omega)
 exact h6.len hj
theorem look_all0 {v : Value} {N : Nat} {S : Nat → List Int} {w : World} (h : Img0 w v N S) :
  Calls Tryz.prog 35 #[v] w fun e w' => Below w.heap.size w w' ∧ ((lookE N S = 0 ∧ LookOut w w' N N (rdSupR (S 0)).2.1 S e) ∨ (lookE N S ≠ 0 ∧ e = .returned (.tuple #[.agg repNil, .int .i64 (lookE N S)]))) := by
 obtain ⟨a, ci, rfl, h3⟩ := h
 by_cases c1 : N < 8 ∨ 4096 < N
 ·have he : lookE N S = 120 := by unfold lookE; rw [if_pos c1]
  refine (look_small a N ci w c1).mono ?_
  rintro e w' ⟨rfl, hb⟩
  exact ⟨hb, .inr ⟨by rw [he]; decide, by rw [he]⟩⟩
 ·obtain ⟨gi, oi, rfl, hS⟩ := h3 (by omega)
  by_cases c2 : (rdSupR (S 0)).2.2 ≠ 0 ∨ (rdSupR (S 0)).1 ≠ N
  ·have he : lookE N S = 120 := by unfold lookE; rw [if_neg c1, if_pos c2]
   refine (look_super gi oi N ci S w hS (by omega) (by omega) c2).mono ?_
   rintro e w' ⟨rfl, hb⟩
   exact ⟨hb, .inr ⟨by rw [he]; decide, by rw [he]⟩⟩
  ·have e1 : (rdSupR (S 0)).2.2 = 0 := Decidable.byContradiction fun h4 => c2 (.inl h4)
   have e2 : (rdSupR (S 0)).1 = N := Decidable.byContradiction fun h4 => c2 (.inr h4)
   refine (look_good gi oi N ci S w hS (by omega) (by omega) e1 e2).mono ?_
   rintro e w' (⟨hr, ho⟩ | ⟨hr, rfl, hb⟩)
   ·rw [e2] at ho
    obtain ⟨gw, cw, v1, v2, v3, o1, o2, o3, k0, k1, k2, k3, k4, k5, k6⟩ := id ho
    exact ⟨k5, .inl ⟨by unfold lookE; rw [if_neg c1, if_neg c2, if_pos hr], ho⟩⟩
   ·have he : lookE N S = 121 := by unfold lookE; rw [if_neg c1, if_neg c2, if_neg hr]
    exact ⟨hb, .inr ⟨by rw [he]; decide, by rw [he]⟩⟩
theorem well_any0 {v : Value} {N : Nat} {S : Nat → List Int} {w : World} (h : Img0 w v N S) : Calls Tryz.prog 18 #[v] w (WellOut N S w) := by
 obtain ⟨a, ci, rfl, h3⟩ := h
 by_cases c : N < 8 ∨ 4096 < N
 ·exact well_little a N ci S w c
 ·obtain ⟨gi, oi, rfl, hS⟩ := h3 (by omega)
  exact well_walk hS (by omega) (by omega)
def SameOut (N1 N2 : Nat) (S1 S2 : Nat → List Int) (w : World) (e : Ending) (w' : World) : Prop := ∃ b, e = .returned (.bool b) ∧ (b = true ↔ N1 = N2 ∧ ∀ j, j < N1 → S1 j = S2 j) ∧ Fr [] w w'
theorem sectors_any {v1 v2 : Value} {N1 N2 : Nat} {S1 S2 : Nat → List Int} {w : World} (h1 : Img0 w v1 N1 S1) (h2 : Img0 w v2 N2 S2) (hN1 : N1 ≤ 100000) :
  Calls Tryz.prog 16 #[v1, v2] w (SameOut N1 N2 S1 S2 w) := by
 obtain ⟨a1, c1, rfl, H1⟩ := h1
 obtain ⟨a2, c2, rfl, H2⟩ := h2
 have H1 := Lib.hid H1
 have H2 := Lib.hid H2
 by_cases hN : N1 = N2
 ·subst hN
  have d1 : ((N1 : Int) != (N1 : Int)) = false := by simp
  go_enter Tryz.func16, Tryz.ntmps16
  go_wp2_with fail
  go_loopw [5] (fun v wr => ∃ k : Nat, v = .int .i64 k ∧ k ≤ N1 ∧ Hid (Fr [] w wr) ∧ Hid (∀ j, j < k → S1 j = S2 j)) (fun v wr => N1 - (intOf v).toNat)
  case atStart => exact ⟨0, rfl, Nat.zero_le _, Lib.hid (Fr.refl _ _), Lib.hid (fun j h => by omega)⟩
  case round =>
   obtain ⟨k, rfl, hk, HF, HE⟩ := hrel
   by_cases hkN : k < N1
   ·have hk0 : (0 : Int) ≤ (k : Int) := Int.natCast_nonneg _
    have hk1 : (k : Int) < (N1 : Int) := by omega
    obtain ⟨g1, o1, rfl, hs1⟩ := H1.out (by omega)
    obtain ⟨g2, o2, rfl, hs2⟩ := H2.out (by omega)
    have hr1 := hs1.same (HF.out.block _ hs1.lt (by simp))
    have hr2 := hs2.same (HF.out.block _ hs2.lt (by simp))
    obtain ⟨cs1, t1, f1, hc1, hl1⟩ := hr1.load hkN
    obtain ⟨cs2, t2, f2, hc2, hl2⟩ := hr2.load hkN
    have hn1 := (hr1.len hkN).1
    have hn2 := (hr2.len hkN).1
    clear hr1 hr2 hs1 hs2
    by_cases heq : S1 k = S2 k
    ·have hne : decide (S1 k = S2 k) = true := decide_eq_true heq
     have HE2 : Hid (∀ j, j < k + 1 → S1 j = S2 j) := Lib.hid (fun j hj => by
      by_cases e : j = k
      ·subst e; exact heq
      ·exact HE.out j (by omega))
     clear heq
     go_wp2_with fail
     go_region
     go_wp2_with fail
     go_roundw
     case rel => exact ⟨k + 1, by go_num, by omega, Lib.hid (fr_drew HF.out), HE2⟩
     case measure => (show N1 - (k + 1) < N1 - k); omega
    ·have hne : decide (S1 k = S2 k) = false := decide_eq_false heq
     have HNO : Hid (¬ ∀ j, j < N1 → S1 j = S2 j) := Lib.hid (fun h => heq (h k hkN))
     clear heq
     go_wp2_with fail
     go_region
     go_wp2_with fail
     go_ret
     exact ⟨false, rfl, ⟨fun h => (by cases h), fun h => absurd h.2 HNO.out⟩, fr_drew HF.out⟩
   ·obtain rfl : k = N1 := by omega
    go_wp2_with fail
    go_ret
    exact ⟨true, rfl, ⟨fun _ => ⟨rfl, HE.out⟩, fun _ => rfl⟩, HF.out⟩
 ·have d1 : ((N1 : Int) != (N2 : Int)) = true := by simp; omega
  have HNO : Hid (¬ (N1 = N2 ∧ ∀ j, j < N1 → S1 j = S2 j)) := Lib.hid (fun h => hN h.1)
  clear hN
  go_enter Tryz.func16, Tryz.ntmps16
  go_wp2_with fail
  go_ret
  exact ⟨false, rfl, ⟨fun h => (by cases h), fun h => absurd h HNO.out⟩, Fr.refl _ _⟩
structure RepV (w : World) (v0 v1 v2 v3 : Value) (o1 o2 o3 : Option Nat) (N : Nat) (S : Nat → List Int) (xs ys zs : List Int) : Prop where
 i : Img0 w v0 N S
 q1 : QRow w v1 o1 xs
 q2 : QRow w v2 o2 ys
 q3 : QRow w v3 o3 zs
 n0 : N ≤ 5000
 n1 : xs.length ≤ 100000
 n2 : ys.length ≤ 100000
 n3 : zs.length ≤ 100000
theorem RepV.same {w w' : World} {v0 v1 v2 v3 : Value} {o1 o2 o3 : Option Nat} {N : Nat} {S : Nat → List Int} {xs ys zs : List Int} (h : RepV w v0 v1 v2 v3 o1 o2 o3 N S xs ys zs) (hf : Fr [] w w') : RepV w' v0 v1 v2 v3 o1 o2 o3 N S xs ys zs :=
 ⟨h.i.same hf, h.q1.fr hf (fun _ _ => by simp), h.q2.fr hf (fun _ _ => by simp), h.q3.fr hf (fun _ _ => by simp), h.n0, h.n1, h.n2, h.n3⟩
def SameRep (N N' : Nat) (S S' : Nat → List Int) (xs ys zs xs' ys' zs' : List Int) (w : World) (e : Ending) (w' : World) : Prop :=
 ∃ b, e = .returned (.bool b) ∧ (b = true ↔ (N = N' ∧ ∀ j, j < N → S j = S' j) ∧ xs = xs' ∧ ys = ys' ∧ zs = zs') ∧ Below w.heap.size w w'
theorem Fr.bl {w w' : World} (h : Fr [] w w') : Below w.heap.size w w' := h.below (Nat.le_refl _) (by simp)
def bare (s : LS) : LS := { s with bk := fun _ => none }
theorem wipeL_len {s : List Int} (h : s.length = 128) {k : Nat} (hk : k ≤ 128) : (wipeL s k).length = 128 := by
 unfold wipeL
 simp only [List.length_append, List.length_take, zl_length]
 omega
theorem wipeL_twice {s : List Int} (h : s.length = 128) {k : Nat} (hk : k ≤ 128) : wipeL (wipeL s k) k = wipeL s k := by
 unfold wipeL
 rw [List.take_left' (by simp; omega)]
theorem firmX_fm {n : Int} {st : LS} {q : Int} (h : (firmX n st).fm q = true) : st.fm q = true ∨ ∃ k, st.bk k = some q := by
 unfold firmX at h
 simp only [Bool.or_eq_true, List.any_eq_true] at h
 rcases h with h | ⟨k, -, h⟩
 ·exact .inl h
 ·exact .inr ⟨k, by simpa using h⟩
theorem firmX_mono {n : Int} {st : LS} {q : Int} (h : st.fm q = true) : (firmX n st).fm q = true := by
 unfold firmX
 simp [h]
structure TakeI (X Y : Int) (A : Nat → List Int) (st st2 : LS) (n : Int) : Prop where
 si : SI X Y A (bare st2)
 gr : Gr st st2
 new : ∀ k q, st2.bk k = some q → isD X Y q = true ∧ st2.cl q = true ∧ st.cl q = false
 inj : ∀ k k' q, st2.bk k = some q → st2.bk k' = some q → k = k'
 keys : KeysIn n st2
theorem take_i {X Y : Int} (hY : 0 ≤ Y) {A : Nat → List Int} {st : LS} (h : SI X Y A (bare st)) (raw : List Int) : TakeI X Y A st (takeX X Y raw st).2 (cntX (nth raw 2)) := by
 obtain ⟨i, d, g⟩ := ptrs_i hY (cntX (nth raw 2)) raw h
 have hkeys : KeysIn (cntX (nth raw 2)) (ptrsX X Y (cntX (nth raw 2)) raw (bare st)).2 := ptrsX_keys X Y _ raw _ (fun k hk => by cases hk)
 have hnew : ∀ k q, (ptrsX X Y (cntX (nth raw 2)) raw (bare st)).2.bk k = some q → isD X Y q = true ∧ (ptrsX X Y (cntX (nth raw 2)) raw (bare st)).2.cl q = true ∧ st.cl q = false ∧ (ptrsX X Y (cntX (nth raw 2)) raw (bare st)).2.fm q = false := by
  intro k q hk
  obtain ⟨a, b, c⟩ := i.bk k q hk
  rcases d.new k q hk with ⟨k', h5⟩ | ⟨-, h5⟩
  ·cases h5
  ·exact ⟨a, b, h5, c⟩
 have hbk := takeX_bk X Y raw st
 have hg2 : Gr st (ptrsX X Y (cntX (nth raw 2)) raw (bare st)).2 := g
 unfold takeX
 simp only
 rw [show ({ st with bk := fun _ => none } : LS) = bare st from rfl]
 generalize ptrsX X Y (cntX (nth raw 2)) raw (bare st) = r at *
 split
 ·refine ⟨⟨fun j hj => ?_, i.cd, fun k q hk => (by cases hk), fun k k' q hk => (by cases hk), i.un, i.ln, fun j hj => ?_⟩, fun j hj => ?_, fun k q hk => ?_, i.inj, hkeys⟩
  ·rcases firmX_fm hj with h1 | ⟨k, h1⟩
   ·exact i.fc j h1
   ·exact (i.bk k _ h1).2.1
  ·rcases firmX_fm hj with h1 | ⟨k, h1⟩
   ·exact i.sub j h1
   ·obtain ⟨a, b, c, e⟩ := hnew k _ h1
    have h2 : r.2.S j = A j := by
     rw [d.same j e]
     exact h.un j c
    show subP (r.2.S j) _
    rw [h2]
    exact fun _ => .inl rfl
  ·obtain ⟨a, b, c⟩ := hg2 j hj
   refine ⟨a, ?_, c⟩
   apply Bool.eq_iff_iff.2
   constructor
   ·intro hf
    rcases firmX_fm hf with h1 | ⟨k, h1⟩
    ·rw [← b]; exact h1
    ·have := (hnew k _ h1).2.2.1
     rw [hj] at this; cases this
   ·intro hf
    exact firmX_mono (by rw [b]; exact hf)
  ·obtain ⟨a, b, c, -⟩ := hnew k q hk
   exact ⟨a, b, c⟩
 ·have htS : ∀ j : Nat, (tailX (cntX (nth raw 2)) (nth raw 2) r.2).S j ≠ r.2.S j → ∃ k, r.2.bk k = some (j : Int) ∧ ((tailX (cntX (nth raw 2)) (nth raw 2) r.2).S j = wipeL (r.2.S j) (nth raw 2 % 128).toNat) := by
   intro j hj
   unfold tailX at hj ⊢
   cases hb : r.2.bk (cntX (nth raw 2) - 1) with
   | none => rw [hb] at hj; exact absurd rfl hj
   | some p =>
    rw [hb] at hj
    simp only at hj ⊢
    split at hj
    ·exact absurd rfl hj
    ·rename_i hz
     have hp := (isD_nat hY (hnew _ _ hb).1).1
     by_cases hjp : j = p.toNat
     ·subst hjp
      refine ⟨_, by rw [hp]; exact hb, ?_⟩
      rw [if_neg hz]
      show updS _ _ _ _ = _
      rw [updS_eq]
     ·exact absurd (updS_ne _ _ hjp) hj
  have ht1 : (tailX (cntX (nth raw 2)) (nth raw 2) r.2).cl = r.2.cl ∧ (tailX (cntX (nth raw 2)) (nth raw 2) r.2).fm = r.2.fm ∧ (tailX (cntX (nth raw 2)) (nth raw 2) r.2).bk = r.2.bk := by
   unfold tailX
   split
   ·exact ⟨rfl, rfl, rfl⟩
   ·split <;> exact ⟨rfl, rfl, rfl⟩
  obtain ⟨t1, t2, t3⟩ := ht1
  have hk128 : (nth raw 2 % 128).toNat ≤ 128 := by omega
  refine ⟨⟨fun j hj => ?_, fun q hq => ?_, fun k q hk => (by cases hk), fun k k' q hk => (by cases hk), fun j hj => ?_, fun j hj => ?_, fun j hj => ?_⟩, fun j hj => ?_, fun k q hk => ?_, fun k k' q h1 h2 => ?_, fun k hk => ?_⟩
  ·have hj2 : (tailX (cntX (nth raw 2)) (nth raw 2) r.2).fm j = true := hj
   show (tailX (cntX (nth raw 2)) (nth raw 2) r.2).cl j = true
   rw [t2] at hj2; rw [t1]
   exact i.fc j hj2
  ·have hq2 : (tailX (cntX (nth raw 2)) (nth raw 2) r.2).cl q = true := hq
   rw [t1] at hq2
   exact i.cd q hq2
  ·have hj2 : (tailX (cntX (nth raw 2)) (nth raw 2) r.2).cl j = false := hj
   rw [t1] at hj2
   show (tailX (cntX (nth raw 2)) (nth raw 2) r.2).S j = _
   by_cases hc : (tailX (cntX (nth raw 2)) (nth raw 2) r.2).S j = r.2.S j
   ·rw [hc]; exact i.un j hj2
   ·obtain ⟨k, h1, -⟩ := htS j hc
    have := (i.bk k _ h1).2.1
    rw [hj2] at this; cases this
  ·show ((tailX (cntX (nth raw 2)) (nth raw 2) r.2).S j).length = 128 ∧ Bytes ((tailX (cntX (nth raw 2)) (nth raw 2) r.2).S j)
   obtain ⟨l1, l2⟩ := i.ln j hj
   by_cases hc : (tailX (cntX (nth raw 2)) (nth raw 2) r.2).S j = r.2.S j
   ·rw [hc]; exact ⟨l1, l2⟩
   ·obtain ⟨k, -, h1⟩ := htS j hc
    rw [h1]
    exact ⟨wipeL_len l1 hk128, bytes_wipeL l2 _⟩
  ·have hj2 : (tailX (cntX (nth raw 2)) (nth raw 2) r.2).fm j = true := hj
   rw [t2] at hj2
   show subP ((tailX (cntX (nth raw 2)) (nth raw 2) r.2).S j) _
   by_cases hc : (tailX (cntX (nth raw 2)) (nth raw 2) r.2).S j = r.2.S j
   ·rw [hc]; exact i.sub j hj2
   ·obtain ⟨k, h1, -⟩ := htS j hc
    have := (i.bk k _ h1).2.2
    rw [hj2] at this; cases this
  ·obtain ⟨a, b, c⟩ := hg2 j hj
   refine ⟨by show (tailX _ _ _).cl j = true; rw [t1]; exact a, by show (tailX _ _ _).fm j = _; rw [t2]; exact b, ?_⟩
   show (tailX (cntX (nth raw 2)) (nth raw 2) r.2).S j = _
   by_cases hc : (tailX (cntX (nth raw 2)) (nth raw 2) r.2).S j = r.2.S j
   ·rw [hc]; exact c
   ·obtain ⟨k, h1, -⟩ := htS j hc
    have := (hnew k _ h1).2.2.1
    rw [hj] at this; cases this
  ·have hk2 : (tailX (cntX (nth raw 2)) (nth raw 2) r.2).bk k = some q := hk
   rw [t3] at hk2
   obtain ⟨a, b, c, -⟩ := hnew k q hk2
   exact ⟨a, by show (tailX _ _ _).cl q = true; rw [t1]; exact b, c⟩
  ·have h1' : (tailX (cntX (nth raw 2)) (nth raw 2) r.2).bk k = some q := h1
   have h2' : (tailX (cntX (nth raw 2)) (nth raw 2) r.2).bk k' = some q := h2
   rw [t3] at h1' h2'
   exact i.inj k k' q h1' h2'
  ·have hk2 : ((tailX (cntX (nth raw 2)) (nth raw 2) r.2).bk k).isSome = true := hk
   rw [t3] at hk2
   exact hkeys k hk2
def pend (z : LZ) (j : Nat) : Prop := ∃ i ∈ z.q, ∃ t k, z.T i.toNat = some t ∧ t.bk k = some (j : Int)
structure InvZ (X Y : Int) (A : Nat → List Int) (z : LZ) : Prop where
 si : SI X Y A (bare z.st)
 blk : ∀ i t k q, z.T i = some t → t.bk k = some q → isD X Y q = true ∧ z.st.cl q = true
 inj : ∀ i t k i' t' k' q, z.T i = some t → t.bk k = some q → z.T i' = some t' → t'.bk k' = some q → i = i' ∧ k = k'
 keys : ∀ i t k q, z.T i = some t → t.bk k = some q → 0 ≤ k ∧ k < cntX (nth t.raw 2)
 qn : z.q.Nodup
 qT : ∀ i ∈ z.q, 0 ≤ i ∧ ∃ t, z.T i.toNat = some t ∧ nth t.raw 0 = 2
 snd : ∀ i t, z.T i = some t → soundR (A i) = true ∧ t.raw.length = 18 ∧ nth t.raw 0 = nth (rdInoR (A i)).1 0 ∧ nth t.raw 2 = nth (rdInoR (A i)).1 2 ∧ nth t.raw 3 = nth (rdInoR (A i)).1 3 ∧ ∀ j, 4 ≤ j → nth t.raw j = nth (rdInoR (A i)).1 j ∨ nth t.raw j = 0
 en : ∀ i t, z.T i = some t → 0 ≤ t.en ∧ t.en ≤ 100
theorem updT_eq (T : Nat → Option TI) (i : Nat) (t : TI) : updT T i t i = some t := by unfold updT; rw [if_pos rfl]
theorem updT_ne (T : Nat → Option TI) {i j : Nat} (t : TI) (h : j ≠ i) : updT T i t j = T j := by unfold updT; rw [if_neg h]
theorem ptrs_sub {X Y : Int} (hY : 0 ≤ Y) (n : Int) {raw : List Int} (hr : raw.length = 18) (st : LS) (j : Nat) (hj : 4 ≤ j) : nth (ptrsX X Y n raw st).1 j = nth raw j ∨ nth (ptrsX X Y n raw st).1 j = 0 := by
 obtain ⟨-, q1, q2, q3, q4⟩ := ptrs_nth (X := X) hY n hr st
 by_cases h16 : j < 16
 ·have e := q1 (j - 4) (by omega)
  rw [show 4 + (j - 4) = j by omega] at e
  rw [e]
  rcases (rowT_i (X := X) hY (fun _ => []) n 0).ok.sub ((raw.drop 4).take 12) st (j - 4) with h | h
  ·left
   rw [show (pA X Y n raw st).1 = (rowT X Y n 0 ((raw.drop 4).take 12) st).1 from rfl, h, nth_direct hr (by omega), show 4 + (j - 4) = j by omega]
  ·exact .inr h
 ·by_cases h17 : j = 16
  ·subst h17
   rw [q2]
   exact (sglT_i (X := X) hY (fun _ => []) n).ok.sub [nth raw 16] _ 0
  ·by_cases h18 : j = 17
   ·subst h18
    rw [q3]
    exact (dubT_i (X := X) hY (fun _ => []) n).ok.sub [nth raw 17] _ 0
   ·right
    exact nth_out (by omega)
theorem InvZ.take {X Y : Int} (hY : 0 ≤ Y) {A : Nat → List Int} {z : LZ} (h : InvZ X Y A z) {i : Nat} (hT : z.T i = none) (hs : soundR (A i) = true) {n : Int} (h0 : 0 ≤ n) (h1 : n ≤ 100) : InvZ X Y A (takeZ X Y i (rdInoR (A i)).1 n z) := by
 have hrl := rdInoR_length (A i)
 have t := take_i hY h.si (rdInoR (A i)).1
 obtain ⟨q0, -, -, -, q4⟩ := ptrs_nth (X := X) hY (cntX (nth (rdInoR (A i)).1 2)) hrl (bare z.st)
 have hsub := ptrs_sub (X := X) hY (cntX (nth (rdInoR (A i)).1 2)) hrl (bare z.st)
 have hf := takeX_fst X Y (rdInoR (A i)).1 z.st
 rw [show ({ z.st with bk := fun _ => none } : LS) = bare z.st from rfl] at hf
 generalize hraw : (rdInoR (A i)).1 = raw at *
 have hold : ∀ {j : Nat} {u : TI}, (takeZ X Y i raw n z).T j = some u → (j = i ∧ u = ⟨(takeX X Y raw z.st).1, n, (takeX X Y raw z.st).2.bk⟩) ∨ (j ≠ i ∧ z.T j = some u) := by
  intro j u hu
  have hu2 : updT z.T i ⟨(takeX X Y raw z.st).1, n, (takeX X Y raw z.st).2.bk⟩ j = some u := hu
  by_cases hj : j = i
  ·subst hj
   rw [updT_eq] at hu2
   exact .inl ⟨rfl, (Option.some.inj hu2).symm⟩
  ·rw [updT_ne _ _ hj] at hu2
   exact .inr ⟨hj, hu2⟩
 have hclq : ∀ q, isD X Y q = true → z.st.cl q = true → (takeX X Y raw z.st).2.cl q = true := by
  intro q hq hc
  have e := (isD_nat hY hq).1
  have := (t.gr q.toNat (by rw [e]; exact hc)).1
  rw [e] at this
  exact this
 refine ⟨t.si, fun j u k q hu hk => ?_, fun j u k j' u' k' q hu hk hu' hk' => ?_, fun j u k q hu hk => ?_, ?_, fun j hj => ?_, fun j u hu => ?_, fun j u hu => ?_⟩
 ·rcases hold hu with ⟨-, rfl⟩ | ⟨-, hu2⟩
  ·obtain ⟨a, b, -⟩ := t.new k q hk
   exact ⟨a, b⟩
  ·obtain ⟨a, b⟩ := h.blk j u k q hu2 hk
   exact ⟨a, hclq q a b⟩
 ·rcases hold hu with ⟨rfl, rfl⟩ | ⟨hj, hu2⟩
  ·rcases hold hu' with ⟨rfl, rfl⟩ | ⟨hj', hu2'⟩
   ·exact ⟨rfl, t.inj k k' q hk hk'⟩
   ·have a := (t.new k q hk).2.2
    have b := (h.blk j' u' k' q hu2' hk').2
    rw [a] at b; cases b
  ·rcases hold hu' with ⟨rfl, rfl⟩ | ⟨hj', hu2'⟩
   ·have a := (t.new k' q hk').2.2
    have b := (h.blk j u k q hu2 hk).2
    rw [a] at b; cases b
   ·exact h.inj j u k j' u' k' q hu2 hk hu2' hk'
 ·rcases hold hu with ⟨-, rfl⟩ | ⟨-, hu2⟩
  ·have := t.keys k (by rw [show (takeX X Y raw z.st).2.bk k = some q from hk]; rfl)
   show 0 ≤ k ∧ k < cntX (nth (takeX X Y raw z.st).1 2)
   rw [hf, q0 2 (by omega)]
   exact this
  ·exact h.keys j u k q hu2 hk
 ·show (if nth raw 0 = 2 then z.q ++ [(i : Int)] else z.q).Nodup
  split
  ·rw [List.nodup_append]
   refine ⟨h.qn, by simp, fun a ha b hb => ?_⟩
   rw [List.mem_singleton] at hb
   subst hb
   intro e
   subst e
   obtain ⟨-, u, hu, -⟩ := h.qT _ ha
   have : z.T i = some u := hu
   rw [hT] at this; cases this
  ·exact h.qn
 ·have hj2 : j ∈ (if nth raw 0 = 2 then z.q ++ [(i : Int)] else z.q) := hj
  have hq : j ∈ z.q → 0 ≤ j ∧ ∃ u, (takeZ X Y i raw n z).T j.toNat = some u ∧ nth u.raw 0 = 2 := by
   intro hm
   obtain ⟨a, u, hu, hk⟩ := h.qT j hm
   refine ⟨a, u, ?_, hk⟩
   show updT z.T i _ j.toNat = _
   rw [updT_ne _ _ (fun e => by rw [e, hT] at hu; cases hu)]
   exact hu
  split at hj2
  ·rename_i hk2
   rw [List.mem_append, List.mem_singleton] at hj2
   rcases hj2 with hm | rfl
   ·exact hq hm
   ·refine ⟨Int.natCast_nonneg _, ⟨(takeX X Y raw z.st).1, n, (takeX X Y raw z.st).2.bk⟩, updT_eq _ _ _, ?_⟩
    show nth (takeX X Y raw z.st).1 0 = 2
    rw [hf, q0 0 (by omega)]
    exact hk2
  ·exact hq hj2
 ·rcases hold hu with ⟨rfl, rfl⟩ | ⟨-, hu2⟩
  ·rw [hraw]
   refine ⟨hs, ?_, ?_, ?_, ?_, ?_⟩
   ·show (takeX X Y raw z.st).1.length = 18
    rw [hf]; exact q4
   ·show nth (takeX X Y raw z.st).1 0 = _
    rw [hf, q0 0 (by omega)]
   ·show nth (takeX X Y raw z.st).1 2 = _
    rw [hf, q0 2 (by omega)]
   ·show nth (takeX X Y raw z.st).1 3 = _
    rw [hf, q0 3 (by omega)]
   ·show ∀ j, 4 ≤ j → nth (takeX X Y raw z.st).1 j = _ ∨ nth (takeX X Y raw z.st).1 j = 0
    rw [hf]; exact hsub
  ·exact h.snd j u hu2
 ·rcases hold hu with ⟨rfl, rfl⟩ | ⟨-, hu2⟩
  ·exact ⟨h0, h1⟩
  ·exact h.en j u hu2
structure Stay (X Y : Int) (E E2 : Nat → Prop) (z z2 : LZ) : Prop where
 s : ∀ j : Nat, isD X Y j = true → z.st.cl j = true → ¬ pend z j → ¬ E j → z2.st.cl j = true ∧ ¬ pend z2 j ∧ ¬ E2 j ∧ z2.st.S j = z.st.S j
 f : ∀ j : Nat, z.st.fm j = true → z2.st.fm j = true
 t : ∀ i t, z.T i = some t → ∃ t2, z2.T i = some t2 ∧ t2.raw = t.raw ∧ t2.bk = t.bk
theorem Stay.refl (X Y : Int) (E : Nat → Prop) (z : LZ) : Stay X Y E E z z := ⟨fun j h1 h2 h3 h4 => ⟨h2, h3, h4, rfl⟩, fun j h => h, fun i t h => ⟨t, h, rfl, rfl⟩⟩
theorem Stay.trans {X Y : Int} {E1 E2 E3 : Nat → Prop} {a b c : LZ} (h : Stay X Y E1 E2 a b) (h2 : Stay X Y E2 E3 b c) : Stay X Y E1 E3 a c := by
 refine ⟨fun j h1 h3 h4 h5 => ?_, fun j hj => h2.f j (h.f j hj), fun i t ht => ?_⟩
 ·obtain ⟨a1, a2, a3, a4⟩ := h.s j h1 h3 h4 h5
  obtain ⟨b1, b2, b3, b4⟩ := h2.s j h1 a1 a2 a3
  exact ⟨b1, b2, b3, b4.trans a4⟩
 ·obtain ⟨t2, a1, a2, a3⟩ := h.t i t ht
  obtain ⟨t3, b1, b2, b3⟩ := h2.t i t2 a1
  exact ⟨t3, b1, b2.trans a2, b3.trans a3⟩
def rest (bk : Int → Option Int) (k : Nat) (j : Nat) : Prop := ∃ k' : Int, (k : Int) ≤ k' ∧ bk k' = some (j : Int)
theorem stay_take {X Y : Int} (hY : 0 ≤ Y) {A : Nat → List Int} {z : LZ} (h : InvZ X Y A z) {i : Nat} (hT : z.T i = none) (n : Int) (raw : List Int) (E : Nat → Prop) : Stay X Y E E z (takeZ X Y i raw n z) := by
 have t := take_i hY h.si raw
 refine ⟨fun j h1 h2 h3 h4 => ?_, fun j hj => ?_, fun j u hu => ?_⟩
 ·obtain ⟨a, b, c⟩ := t.gr j h2
  refine ⟨a, ?_, h4, c⟩
  rintro ⟨i2, hi2, u, k, hu, hk⟩
  have hu2 : updT z.T i ⟨(takeX X Y raw z.st).1, n, (takeX X Y raw z.st).2.bk⟩ i2.toNat = some u := hu
  have hi3 : i2 ∈ (if nth raw 0 = 2 then z.q ++ [(i : Int)] else z.q) := hi2
  by_cases hi : i2.toNat = i
  ·rw [hi, updT_eq] at hu2
   obtain rfl := Option.some.inj hu2
   have := (t.new k _ hk).2.2
   rw [h2] at this; cases this
  ·rw [updT_ne _ _ hi] at hu2
   split at hi3
   ·rw [List.mem_append, List.mem_singleton] at hi3
    rcases hi3 with h5 | rfl
    ·exact h3 ⟨i2, h5, u, k, hu2, hk⟩
    ·exact hi rfl
   ·exact h3 ⟨i2, hi3, u, k, hu2, hk⟩
 ·have := (t.gr j (h.si.fc j hj)).2.1
  show (takeX X Y raw z.st).2.fm j = true
  rw [this]; exact hj
 ·refine ⟨u, ?_, rfl, rfl⟩
  show updT z.T i _ j = _
  rw [updT_ne _ _ (fun e => by subst e; rw [hT] at hu; cases hu)]
  exact hu
theorem stay_en {X Y : Int} {z : LZ} {i : Nat} {t : TI} (ht : z.T i = some t) (n : Int) (E : Nat → Prop) : Stay X Y E E z { z with T := updT z.T i { t with en := n } } := by
 have hT : ∀ j u, updT z.T i { t with en := n } j = some u → ∃ u0, z.T j = some u0 ∧ u.raw = u0.raw ∧ u.bk = u0.bk := by
  intro j u hu
  by_cases hj : j = i
  ·subst hj
   rw [updT_eq] at hu
   obtain rfl := Option.some.inj hu
   exact ⟨t, ht, rfl, rfl⟩
  ·rw [updT_ne _ _ hj] at hu
   exact ⟨u, hu, rfl, rfl⟩
 refine ⟨fun j h1 h2 h3 h4 => ⟨h2, ?_, h4, rfl⟩, fun j hj => hj, fun j u hu => ?_⟩
 ·rintro ⟨i2, hi2, u, k, hu, hk⟩
  obtain ⟨u0, h5, h6, h7⟩ := hT _ u hu
  exact h3 ⟨i2, hi2, u0, k, h5, by rw [← h7]; exact hk⟩
 ·by_cases hj : j = i
  ·subst hj
   rw [ht] at hu
   obtain rfl := Option.some.inj hu
   exact ⟨_, updT_eq _ _ _, rfl, rfl⟩
  ·exact ⟨u, by show updT z.T i _ j = _; rw [updT_ne _ _ hj]; exact hu, rfl, rfl⟩
theorem InvZ.enu {X Y : Int} {A : Nat → List Int} {z : LZ} (h : InvZ X Y A z) {i : Nat} {t : TI} (ht : z.T i = some t) {n : Int} (h0 : 0 ≤ n) (h1 : n ≤ 100) : InvZ X Y A { z with T := updT z.T i { t with en := n } } := by
 have hT : ∀ j u, updT z.T i { t with en := n } j = some u → ∃ u0, z.T j = some u0 ∧ u.raw = u0.raw ∧ u.bk = u0.bk ∧ (u.en = u0.en ∨ u.en = n) := by
  intro j u hu
  by_cases hj : j = i
  ·subst hj
   rw [updT_eq] at hu
   obtain rfl := Option.some.inj hu
   exact ⟨t, ht, rfl, rfl, .inr rfl⟩
  ·rw [updT_ne _ _ hj] at hu
   exact ⟨u, hu, rfl, rfl, .inl rfl⟩
 refine ⟨h.si, fun j u k q hu hk => ?_, fun j u k j' u' k' q hu hk hu' hk' => ?_, fun j u k q hu hk => ?_, h.qn, fun j hj => ?_, fun j u hu => ?_, fun j u hu => ?_⟩
 ·obtain ⟨u0, a, b, c, -⟩ := hT j u hu
  exact h.blk j u0 k q a (by rw [← c]; exact hk)
 ·obtain ⟨u0, a, b, c, -⟩ := hT j u hu
  obtain ⟨u0', a', b', c', -⟩ := hT j' u' hu'
  exact h.inj j u0 k j' u0' k' q a (by rw [← c]; exact hk) a' (by rw [← c']; exact hk')
 ·obtain ⟨u0, a, b, c, -⟩ := hT j u hu
  rw [b]
  exact h.keys j u0 k q a (by rw [← c]; exact hk)
 ·obtain ⟨a, u, hu, hk⟩ := h.qT j hj
  refine ⟨a, ?_⟩
  by_cases hji : j.toNat = i
  ·refine ⟨_, by show updT z.T i _ j.toNat = _; rw [hji, updT_eq], ?_⟩
   rw [hji, ht] at hu
   obtain rfl := Option.some.inj hu
   exact hk
  ·exact ⟨u, by show updT z.T i _ j.toNat = _; rw [updT_ne _ _ hji]; exact hu, hk⟩
 ·obtain ⟨u0, a, b, c, -⟩ := hT j u hu
  rw [b]
  exact h.snd j u0 a
 ·obtain ⟨u0, a, b, c, d⟩ := hT j u hu
  rcases d with d | d
  ·rw [d]; exact h.en j u0 a
  ·rw [d]; exact ⟨h0, h1⟩
theorem enter_i {X Y : Int} (hY : 0 ≤ Y) {A : Nat → List Int} {z z2 : LZ} (h : InvZ X Y A z) {i : Nat} (he : enterZ X Y A i z = some z2) (E : Nat → Prop) : InvZ X Y A z2 ∧ Stay X Y E E z z2 ∧ (∀ j : Int, (∃ t, z.T j.toNat = some t) → j ∉ z.q → 0 ≤ j → j ∉ z2.q) ∧ ∀ j : Nat, z.st.cl j = true → z2.st.S j = z.st.S j := by
 unfold enterZ at he
 split at he
 ·rename_i t ht
  split at he
  ·cases he
  ·rename_i hc
   obtain rfl := Option.some.inj he
   have := h.en i t ht
   exact ⟨h.enu ht (by omega) (by have := fun e => hc (.inr e); omega), stay_en ht _ E, fun _ _ hj _ => hj, fun _ _ => rfl⟩
 ·rename_i ht
  split at he
  ·rename_i hs
   obtain rfl := Option.some.inj he
   refine ⟨h.take hY ht hs (by omega) (by omega), stay_take hY h ht 1 _ E, fun j hj hq h0 hq2 => ?_, fun j hj => ((take_i hY h.si (rdInoR (A i)).1).gr j hj).2.2⟩
   have hq3 : j ∈ (if nth (rdInoR (A i)).1 0 = 2 then z.q ++ [(i : Int)] else z.q) := hq2
   split at hq3
   ·rw [List.mem_append, List.mem_singleton] at hq3
    rcases hq3 with h5 | rfl
    ·exact hq h5
    ·obtain ⟨u, hu⟩ := hj
     have : z.T i = some u := hu
     rw [ht] at this; cases this
   ·exact hq hq3
  ·cases he
structure SlotI (X Y : Int) (A : Nat → List Int) (d : Nat) (E E2 : Nat → Prop) (z z2 : LZ) : Prop where
 inv : InvZ X Y A z2
 st : Stay X Y E E2 z z2
 q : (d : Int) ∉ z2.q
theorem rdPtr_zl : rdPtr (zl 128) = List.replicate 32 0 := by decide +kernel
theorem subP_zl (c : List Int) : subP (zl 128) c := by
 intro i
 right
 rw [rdPtr_zl]
 unfold nth
 rw [List.getElem?_replicate]
 split <;> rfl
theorem InvZ.wipe {X Y : Int} {A : Nat → List Int} {z : LZ} (h : InvZ X Y A z) {p : Nat} (hc : z.st.cl p = true) : InvZ X Y A (wipeZ p z) := by
 refine ⟨⟨h.si.fc, h.si.cd, fun k q hk => (by cases hk), fun k k' q hk => (by cases hk), fun j hj => ?_, fun j hj => ?_, fun j hj => ?_⟩, h.blk, h.inj, h.keys, h.qn, h.qT, h.snd, h.en⟩
 ·show updS z.st.S p (zl 128) j = A j
  rw [updS_ne _ _ (fun e => by subst e; rw [show z.st.cl j = false from hj] at hc; cases hc)]
  exact h.si.un j hj
 ·show (updS z.st.S p (zl 128) j).length = 128 ∧ Bytes (updS z.st.S p (zl 128) j)
  by_cases hjp : j = p
  ·subst hjp; rw [updS_eq]; exact ⟨zl_length _, bytes_zl _⟩
  ·rw [updS_ne _ _ hjp]; exact h.si.ln j hj
 ·show subP (updS z.st.S p (zl 128) j) _
  by_cases hjp : j = p
  ·subst hjp; rw [updS_eq]; exact subP_zl _
  ·rw [updS_ne _ _ hjp]; exact h.si.sub j hj
theorem slot_i {X Y : Int} (hY : 0 ≤ Y) {A : Nat → List Int} {d : Nat} {t : TI} {zn : LZ × (ByteArray → Bool)} (h : InvZ X Y A zn.1) (hT : ∃ t0, zn.1.T d = some t0 ∧ t0.bk = t.bk) (hq : (d : Int) ∉ zn.1.q) {k : Nat} {p : Int} (hk : t.bk k = some p) :
  SlotI X Y A d (rest t.bk k) (rest t.bk (k + 1)) zn.1 (slotZ X Y A p.toNat zn).1 := by
 obtain ⟨t0, ht0, hb0⟩ := hT
 obtain ⟨hd, hc⟩ := h.blk d t0 k p ht0 (by rw [hb0]; exact hk)
 have hp := (isD_nat hY hd).1
 have hmono : ∀ j, rest t.bk (k + 1) j → rest t.bk k j := fun j ⟨k', h1, h2⟩ => ⟨k', by omega, h2⟩
 have hpk : ∀ j : Nat, ¬ rest t.bk k j → j ≠ p.toNat := fun j hj e => hj ⟨k, Int.le_refl _, by rw [hk, e, hp]⟩
 have hstay : Stay X Y (rest t.bk k) (rest t.bk (k + 1)) zn.1 zn.1 := ⟨fun j h1 h2 h3 h4 => ⟨h2, h3, fun h5 => h4 (hmono j h5), rfl⟩, fun j h => h, fun i t h => ⟨t, h, rfl, rfl⟩⟩
 have hwipe : SlotI X Y A d (rest t.bk k) (rest t.bk (k + 1)) zn.1 (wipeZ p.toNat zn.1) := by
  refine ⟨h.wipe (by rw [hp]; exact hc), ⟨fun j h1 h2 h3 h4 => ⟨h2, h3, fun h5 => h4 (hmono j h5), ?_⟩, fun j h => h, fun i t h => ⟨t, h, rfl, rfl⟩⟩, hq⟩
  show updS zn.1.st.S p.toNat (zl 128) j = _
  exact updS_ne _ _ (hpk j h4)
 unfold slotZ
 split
 ·exact ⟨h, hstay, hq⟩
 ·split
  ·rename_i h2
   obtain ⟨-, -, h3⟩ := h2
   generalize (rdSloR (zn.1.st.S p.toNat)).1.toNat = i at *
   generalize (rdSloR (zn.1.st.S p.toNat)).2.1 = nm at *
   unfold enterR at h3 ⊢
   split at h3
   ·cases h3
   ·rename_i h4
    rw [if_neg h4]
    cases he : enterZ X Y A i zn.1 with
    | none => rw [he] at h3; cases h3
    | some z2 =>
     obtain ⟨a, b, c, -⟩ := enter_i hY h he (rest t.bk k)
     exact ⟨a, ⟨fun j h1 h2 h3 h4 => by
      obtain ⟨x1, x2, x3, x4⟩ := b.s j h1 h2 h3 h4
      exact ⟨x1, x2, fun h5 => h4 (hmono j h5), x4⟩, b.f, b.t⟩, c d ⟨t0, ht0⟩ hq (Int.natCast_nonneg _)⟩
  ·exact hwipe
theorem dirZ_i {X Y : Int} (hY : 0 ≤ Y) {A : Nat → List Int} {d : Nat} {t : TI} : ∀ (m k : Nat) (zn : LZ × (ByteArray → Bool)), InvZ X Y A zn.1 → (∃ t0, zn.1.T d = some t0 ∧ t0.bk = t.bk) → (d : Int) ∉ zn.1.q → SlotI X Y A d (rest t.bk k) (rest t.bk (k + m)) zn.1 (dirZ X Y A t.bk m k zn).1
 | 0, k, zn, h, hT, hq => ⟨h, Stay.refl _ _ _ _, hq⟩
 | m + 1, k, zn, h, hT, hq => by
  show SlotI X Y A d _ _ zn.1 (dirZ X Y A t.bk m (k + 1) _).1
  cases hk : t.bk k with
  | none =>
   have ih := dirZ_i hY m (k + 1) zn h hT hq
   have hst : Stay X Y (rest t.bk k) (rest t.bk (k + 1)) zn.1 zn.1 := ⟨fun j h1 h2 h3 h4 => ⟨h2, h3, fun ⟨k', h5, h6⟩ => h4 ⟨k', by omega, h6⟩, rfl⟩, fun j h => h, fun i t h => ⟨t, h, rfl, rfl⟩⟩
   exact ⟨ih.inv, by rw [show k + (m + 1) = k + 1 + m by omega]; exact hst.trans ih.st, ih.q⟩
  | some p =>
   have hs := slot_i hY h hT hq hk
   obtain ⟨t0, ht0, hb0⟩ := hT
   obtain ⟨t1, ht1, -, hb1⟩ := hs.st.t d t0 ht0
   have ih := dirZ_i hY m (k + 1) (slotZ X Y A p.toNat zn) hs.inv ⟨t1, ht1, hb1.trans hb0⟩ hs.q
   exact ⟨ih.inv, by rw [show k + (m + 1) = k + 1 + m by omega]; exact hs.st.trans ih.st, ih.q⟩
def noE (_ : Nat) : Prop := False
theorem InvZ.pop {X Y : Int} {A : Nat → List Int} {z : LZ} (h : InvZ X Y A z) {i : Int} {r : List Int} (hq : z.q = i :: r) : InvZ X Y A { z with q := r } :=
 ⟨h.si, h.blk, h.inj, h.keys, by have := h.qn; rw [hq] at this; exact (List.nodup_cons.1 this).2, fun j hj => h.qT j (by rw [hq]; exact List.mem_cons_of_mem _ hj), h.snd, h.en⟩
theorem dirOf_i {X Y : Int} (hY : 0 ≤ Y) {A : Nat → List Int} {z : LZ} (h : InvZ X Y A z) {i : Int} {r : List Int} (hq : z.q = i :: r) :
  InvZ X Y A (dirOf X Y A i.toNat { z with q := r }) ∧ Stay X Y noE noE z (dirOf X Y A i.toNat { z with q := r }) := by
 obtain ⟨h0, t, ht, -⟩ := h.qT i (by rw [hq]; exact List.mem_cons_self)
 have hp := h.pop hq
 have hir : i ∉ r := by have := h.qn; rw [hq] at this; exact (List.nodup_cons.1 this).1
 have hi : (i.toNat : Int) = i := by omega
 have hd := dirZ_i hY (t := t) (cntX (nth t.raw 2)).toNat 0 ({ z with q := r }, fun _ => false) hp ⟨t, ht, rfl⟩ (by rw [hi]; exact hir)
 have e : dirOf X Y A i.toNat { z with q := r } = (dirZ X Y A t.bk (cntX (nth t.raw 2)).toNat 0 ({ z with q := r }, fun _ => false)).1 := by
  unfold dirOf
  show (match z.T i.toNat with | none => _ | some t => _) = _
  rw [ht]
 rw [e]
 refine ⟨hd.inv, ?_⟩
 have s1 : Stay X Y noE (rest t.bk 0) z { z with q := r } := by
  refine ⟨fun j h1 h2 h3 h4 => ⟨h2, ?_, ?_, rfl⟩, fun j h => h, fun i t h => ⟨t, h, rfl, rfl⟩⟩
  ·rintro ⟨i2, hi2, u, k, hu, hk⟩
   exact h3 ⟨i2, by rw [hq]; exact List.mem_cons_of_mem _ hi2, u, k, hu, hk⟩
  ·rintro ⟨k', h5, h6⟩
   exact h3 ⟨i, by rw [hq]; exact List.mem_cons_self, t, k', ht, h6⟩
 have s2 := hd.st
 rw [Nat.zero_add] at s2
 have s3 := s1.trans s2
 refine ⟨fun j h1 h2 h3 h4 => ?_, s3.f, s3.t⟩
 obtain ⟨a, b, c, d⟩ := s3.s j h1 h2 h3 h4
 exact ⟨a, b, fun h => h, d⟩
theorem loop_i {X Y : Int} (hY : 0 ≤ Y) {A : Nat → List Int} : ∀ (f : Nat) (z : LZ), InvZ X Y A z → InvZ X Y A (loopZ X Y A f z) ∧ Stay X Y noE noE z (loopZ X Y A f z)
 | 0, z, h => ⟨h, Stay.refl _ _ _ _⟩
 | f + 1, z, h => by
  cases hq : z.q with
  | nil => rw [loopZ_nil _ _ _ _ _ hq]; exact ⟨h, Stay.refl _ _ _ _⟩
  | cons i r =>
   rw [loopZ_cons _ _ _ _ _ _ _ hq]
   obtain ⟨a, b⟩ := dirOf_i hY h hq
   obtain ⟨c, d⟩ := loop_i hY f _ a
   exact ⟨c, b.trans d⟩
end Go.Proofs.YtmnecpnkkapflaaGreat
