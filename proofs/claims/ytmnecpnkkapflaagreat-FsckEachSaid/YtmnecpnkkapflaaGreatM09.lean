import Derived.Laws.MakeOwn
import Derived.Test.YtmnecpnkkapflaaGreatM04
import Derived.Test.YtmnecpnkkapflaaGreatM05
import Derived.Test.YtmnecpnkkapflaaGreatM08
namespace Go.Proofs.YtmnecpnkkapflaaGreat
set_option maxHeartbeats 16000000
set_option maxRecDepth 1000000
set_option linter.unusedSimpArgs false
set_option linter.unusedVariables false
open Go.RowKit
def rootOk (S : Nat → List Int) : Prop := soundR (S 1) = true ∧ nth (rdInoR (S 1)).1 0 = 2
def LookOut (w w' : World) (N : Nat) (X Y : Int) (S : Nat → List Int) (e : Ending) : Prop :=
 ∃ gw cw v1 v2 v3 o1 o2 o3, e = .returned (.tuple #[.agg #[.slice (some ⟨gw, 0, none⟩) N cw, v1, v2, v3], .int .i64 0]) ∧ WSecs w' gw N cw (repS Y (lookZ X Y S)) ∧
  QRow w' v1 o1 (writeL N Y (repS Y (lookZ X Y S)) S (lookZ X Y S).st.fm) ∧ QRow w' v2 o2 (keysL fun p => ((lookZ X Y S).T p.toNat).isSome) ∧ QRow w' v3 o3 (keysL (lookZ X Y S).st.cl) ∧
  Below w.heap.size w w' ∧ w.heap.size ≤ gw ∧ OutRows (gw + 1) [o1, o2, o3]
structure Five (N cw : Nat) (S : Nat → List Int) (w0 w : World) (gw bc bt bf : Nat) : Prop where
 gw0 : w0.heap.size ≤ gw
 bc0 : w0.heap.size ≤ bc
 bt0 : w0.heap.size ≤ bt
 bf0 : w0.heap.size ≤ bf
 ws : WSecs w gw N cw S
 c : hat w bc = some (.map #[] 0)
 t : hat w bt = some (.map #[] 0)
 f : hat w bf = some (.map #[] 0)
 n1 : gw ≠ bc
 n2 : gw ≠ bt
 n3 : gw ≠ bf
 n4 : bc ≠ bt
 n5 : bc ≠ bf
 n6 : bt ≠ bf
theorem Five.fr {N cw : Nat} {S : Nat → List Int} {w0 w w' : World} {gw bc bt bf : Nat} (h : Five N cw S w0 w gw bc bt bf) (hf : Fr [] w w') : Five N cw S w0 w' gw bc bt bf := by
 obtain ⟨cs, h5, -⟩ := id h.ws
 exact ⟨h.gw0, h.bc0, h.bt0, h.bf0, h.ws.same (hf.block _ (hat_lt h5) (by simp)), (hf.block _ (hat_lt h.c) (by simp)).trans h.c, (hf.block _ (hat_lt h.t) (by simp)).trans h.t, (hf.block _ (hat_lt h.f) (by simp)).trans h.f, h.n1, h.n2, h.n3, h.n4, h.n5, h.n6⟩
def ownG (X Y : Int) (gi oi N ci : Nat) (S : Nat → List Int) (w0 : World) (i : Nat) (v : Value) (own : Nat → Option Nat) (w' : World) : Prop :=
 match i with
 | 0 => v = .agg #[.int .i64 X, .int .i64 Y]
 | 1 => v = .slice (some ⟨gi, oi, none⟩) N ci
 | 2 => v = .slice (some ⟨gi, oi, none⟩) N ci
 | 3 => ∃ g cw, v = .slice (some ⟨g, 0, none⟩) N cw ∧ w0.heap.size ≤ g ∧ WSecs w' g N cw S ∧ own g = some 3
 | 4 => ∃ b, v = .map (some b) ∧ w0.heap.size ≤ b ∧ hat w' b = some (.map #[] 0) ∧ own b = some 4
 | 5 => ∃ b, v = .map (some b) ∧ w0.heap.size ≤ b ∧ hat w' b = some (.map #[] 0) ∧ own b = some 5
 | 6 => ∃ b, v = .map (some b) ∧ w0.heap.size ≤ b ∧ hat w' b = some (.map #[] 0) ∧ own b = some 6
 | 7 => ∃ gw cw bc bt bf, v = .agg (lkCells X Y (.slice (some ⟨gi, oi, none⟩) N ci) gw N cw bc bt bf .nilFunc) ∧ Five N cw S w0 w' gw bc bt bf
 | _ => ∃ gl gw cw bc bt bf, v = .pointer (some ⟨gl, 0, none⟩) ∧ hat w' gl = some (.cells (lkCells X Y (.slice (some ⟨gi, oi, none⟩) N ci) gw N cw bc bt bf .nilFunc) 95) ∧ Five N cw S w0 w' gw bc bt bf ∧ w0.heap.size ≤ gl ∧ gl ∉ [gw, bc, bt, bf]
def ownI (w0 : World) (own : Nat → Option Nat) (w' : World) : Prop := Fr [] w0 w' ∧ ∀ b i, own b = some i → b < w'.heap.size
def ownE (own : Nat → Option Nat) (w : World) (own' : Nat → Option Nat) (w' : World) : Prop := Fr [] w w' ∧ ∀ b i, own b = some i → own' b = some i
def setO (own : Nat → Option Nat) (b i : Nat) : Nat → Option Nat := fun k => if k = b then some i else own k
theorem ownI_set {w0 w w' : World} {own : Nat → Option Nat} (h : ownI w0 own w) (hf : Fr [] w w') {b : Nat} (hb : b < w'.heap.size) (i : Nat) : ownI w0 (setO own b i) w' := by
 refine ⟨h.1.trans hf, fun k j hk => ?_⟩
 unfold setO at hk
 split at hk
 ·rename_i e; subst e; exact hb
 ·exact Nat.lt_of_lt_of_le (h.2 k j hk) hf.size
theorem ownE_set {w0 w w' : World} {own : Nat → Option Nat} (h : ownI w0 own w) (hf : Fr [] w w') {b : Nat} (hb : w.heap.size ≤ b) (i : Nat) : ownE own w (setO own b i) w' := by
 refine ⟨hf, fun k j hk => ?_⟩
 unfold setO
 rw [if_neg (fun e => by have := h.2 k j hk; omega)]
 exact hk
theorem ownI_stay {w0 w w' : World} {own : Nat → Option Nat} (h : ownI w0 own w) (hf : Fr [] w w') : ownI w0 own w' := ⟨h.1.trans hf, fun k j hk => Nat.lt_of_lt_of_le (h.2 k j hk) hf.size⟩
theorem ownG_stays {X Y : Int} {gi oi N ci : Nat} {S : Nat → List Int} {w0 : World} {i : Nat} {v : Value} {own own' : Nat → Option Nat} {w w' : World} (hE : ownE own w own' w') (h : ownG X Y gi oi N ci S w0 i v own w) : ownG X Y gi oi N ci S w0 i v own' w' := by
 unfold ownG at h ⊢
 split at h
 ·exact h
 ·exact h
 ·exact h
 ·obtain ⟨g, cw, h1, h2, h3, h4⟩ := h
  obtain ⟨cs, h5, -⟩ := id h3
  exact ⟨g, cw, h1, h2, h3.same (hE.1.block _ (hat_lt h5) (by simp)), hE.2 _ _ h4⟩
 ·obtain ⟨b, h1, h2, h3, h4⟩ := h
  exact ⟨b, h1, h2, (hE.1.block _ (hat_lt h3) (by simp)).trans h3, hE.2 _ _ h4⟩
 ·obtain ⟨b, h1, h2, h3, h4⟩ := h
  exact ⟨b, h1, h2, (hE.1.block _ (hat_lt h3) (by simp)).trans h3, hE.2 _ _ h4⟩
 ·obtain ⟨b, h1, h2, h3, h4⟩ := h
  exact ⟨b, h1, h2, (hE.1.block _ (hat_lt h3) (by simp)).trans h3, hE.2 _ _ h4⟩
 ·obtain ⟨gw, cw, bc, bt, bf, h1, h2⟩ := h
  exact ⟨gw, cw, bc, bt, bf, h1, h2.fr hE.1⟩
 ·obtain ⟨gl, gw, cw, bc, bt, bf, h1, h3, h2, h4⟩ := h
  exact ⟨gl, gw, cw, bc, bt, bf, h1, (hE.1.block _ (hat_lt h3) (by simp)).trans h3, h2.fr hE.1, h4⟩
theorem MB.of {w : World} {b : Nat} (h : hat w b = some (.map #[] 0)) : MB w b 0 (fun _ => false) := by
 obtain ⟨D, ⟨es, clock, hb, h1⟩, h2⟩ := MB.made w
 have hb2 : hat (w.alloc (.map #[] 0)) w.heap.size = some (.map #[] 0) := (hopN w _).1
 rw [show (w.alloc (.map #[] 0)).heap[w.heap.size]? = some (.map #[] 0) from hb2] at hb
 have hb3 := Option.some.inj hb
 injection hb3 with e1 e2
 subst e1; subst e2
 exact ⟨D, ⟨#[], 0, h, h1⟩, h2⟩
theorem SB.of {w : World} {b : Nat} (h : hat w b = some (.map #[] 0)) : SB w b (fun _ => false) := (MB.of h).tight (fun _ hp => by cases hp)
theorem PB.of {w : World} {b : Nat} (h : hat w b = some (.map #[] 0)) : PB w b (fun _ => none) := by
 obtain ⟨D, ⟨es, clock, hb, h1⟩, h2⟩ := MP.made w
 have hb2 : hat (w.alloc (.map #[] 0)) w.heap.size = some (.map #[] 0) := (hopN w _).1
 rw [show (w.alloc (.map #[] 0)).heap[w.heap.size]? = some (.map #[] 0) from hb2] at hb
 have hb3 := Option.some.inj hb
 injection hb3 with e1 e2
 subst e1; subst e2
 exact MP.tight (n := 0) ⟨D, ⟨#[], 0, h, h1⟩, h2⟩ (fun p hp => by cases hp)
theorem lw_start {N : Nat} {Y : Int} {gi oi ci gl gw cw bc bt bf gr : Nat} {S : Nat → List Int} {w0 w : World} (hm : SupMay N Y) (hgi : gi < w0.heap.size) (hsz : w0.heap.size ≤ w.heap.size) (hS : Secs w gi oi N S) (h5 : Five N cw S w0 w gw bc bt bf)
  (hgl : hat w gl = some (.cells (lkCells N Y (.slice (some ⟨gi, oi, none⟩) N ci) gw N cw bc bt bf (qfun gr)) 95)) (hgl0 : w0.heap.size ≤ gl) (hgn : gl ∉ [gw, bc, bt, bf]) (hgr : hat w gr = some (.cells #[.slice none 0 0] 32)) (hgr0 : w0.heap.size ≤ gr) (hrn : gr ∉ [gl, gw, bc, bf, bt]) :
  LW ⟨⟨gl, gw, N, bc, bt, bf, 0, cw, N, Y, .slice (some ⟨gi, oi, none⟩) N ci, qfun gr⟩, gr, gi, oi, ci, w0.heap.size, S⟩ none (fun _ => none) (zeroZ S) w := by
 obtain ⟨⟨x1, x2⟩, ⟨y1, y2⟩, xy⟩ := hm
 simp only [List.mem_cons, List.not_mem_nil, or_false, not_or] at hgn
 obtain ⟨g1, g2, g3, g4⟩ := hgn
 refine ⟨⟨x2, by show 0 ≤ Y; omega, rfl, g1, g2, g4, h5.n1, h5.n3, h5.n5, g3, h5.n2, h5.n4, fun e => h5.n6 e.symm⟩, ⟨rfl, hrn, fun g h => (by cases h)⟩, rfl, hS, hgi, fun k hk => ?_, hsz, by show Y < N; omega, ⟨hgl, h5.ws, SB.of h5.c, SB.of h5.f⟩, ⟨_, PB.of h5.t, fun _ => rfl⟩, fun _ _ => rfl, fun i v h => (by cases h), fun i j v u h => (by cases h), ⟨_, hgr, .inl ⟨rfl, rfl, rfl⟩, fun e => (by cases e)⟩, zeroZI _ _ _⟩
 simp only [mineW, List.cons_append, List.nil_append, Option.toList, List.mem_cons, List.not_mem_nil, or_false] at hk
 show w0.heap.size ≤ k
 rcases hk with rfl | rfl | rfl | rfl | rfl | rfl
 ·exact hgl0
 ·exact h5.gw0
 ·exact h5.bc0
 ·exact h5.bf0
 ·exact h5.bt0
 ·exact hgr0
theorem look_good (gi oi N ci : Nat) (S : Nat → List Int) (w : World) (hS : Secs w gi oi N S) (h8 : 8 ≤ N) (hN : N ≤ 4096) (h0 : (rdSupR (S 0)).2.2 = 0) (hX : (rdSupR (S 0)).1 = N) :
  Calls Tryz.prog 35 #[.slice (some ⟨gi, oi, none⟩) N ci] w fun e w' => (rootOk S ∧ LookOut w w' N (rdSupR (S 0)).1 (rdSupR (S 0)).2.1 S e) ∨ (¬ rootOk S ∧ e = .returned (.tuple #[.agg repNil, .int .i64 121]) ∧ Below w.heap.size w w') := by
 obtain ⟨cs, t, fr, hcs, hld⟩ := hS.load (show 0 < N by omega)
 obtain ⟨hl0, hb0⟩ := hS.len (show 0 < N by omega)
 have HRS := Lib.hid (fun W => lrdSup_any (S 0) hl0 hb0 W)
 rw [Nat.zero_mul, Nat.add_zero] at hld
 have hcl := hat_lt hcs
 have hz1 := (hopN w (.cells repNil 34)).1
 have hc1 := (hopA w (.cells repNil 34) hcs).1
 have hf1 := fr_alloc w (.cells repNil 34) []
 have d1 : ¬ (N : Int) < 8 := by omega
 have d2 : ¬ (4096 : Int) < (N : Int) := by omega
 have d3 : (0 : Int) < (N : Int) := by omega
 have HF1 := Lib.hid hf1
 have HMAY := Lib.hid (sup_one h0).1
 obtain ⟨X, Y, er, hR⟩ : ∃ X Y er, rdSupR (S 0) = (X, Y, er) := ⟨_, _, _, rfl⟩
 rw [hR] at HRS HMAY h0 hX
 rw [hR]
 simp only at h0 hX HMAY ⊢
 subst h0
 subst hX
 have HS := Lib.hid hS
 clear hS hf1 hR
 go_enter Tryz.func35, Tryz.ntmps35
 go_wp2_with fail
 generalize hW1 : w.alloc (.cells #[.slice none 0 0, .slice none 0 0, .slice none 0 0, .slice none 0 0] 34) = w1 at *
 refine (HRS.out w1).mono ?_; rintro e w2 ⟨rfl, hb2⟩
 have hz2 := (hop hb2 (show hat w1 w.heap.size = some (.cells repNil 34) by rw [← hW1]; exact (hopN w _).1)).1
 have hgz := hat_lt hz2
 have HF2 := Lib.hid ((show Fr [] w w1 by rw [← hW1]; exact fr_alloc w _ []).trans (fr_below hb2 []))
 have hXn : ((N : Int) != (N : Int)) = false := by simp
 unfold repNil at hz2
 clear hb2 hz1 hc1 hcs hld hW1 HF1 HRS
 go_wp2_with fail
 have hz3 := (hopA w2 (.cells #[.int .i64 (N : Int), .int .i64 Y] 68) hz2).1
 have hs3 := (hopN w2 (.cells #[.int .i64 (N : Int), .int .i64 Y] 68)).1
 have HF3 := Lib.hid (HF2.out.trans (fr_alloc w2 (.cells #[.int .i64 (N : Int), .int .i64 Y] 68) []))
 have hgz3 := hat_lt hs3
 generalize w2.alloc (.cells #[.int .i64 (N : Int), .int .i64 Y] 68) = w3 at *
 clear hz2 HF2
 have HS3 := Lib.hid (HS.out.same (HF3.out.block _ HS.out.lt (by simp)))
 refine wp_region_Gg (by kernel_rfl) 10 (by decide) rfl (ownI w3) ownE (ownG N Y gi oi N ci S w3) (fun _ => none) ⟨fr_drew (Fr.refl [] w3), fun _ _ h => by cases h⟩ ?_ ?_ ?_
 ·intro i v own wa own' wb hi hIa hIb hE hG; exact ownG_stays hE hG
 ·intro i o hi ho a' own w' hI hS hF
  have hi' : i = 0 ∨ i = 1 ∨ i = 2 ∨ i = 3 ∨ i = 4 ∨ i = 5 ∨ i = 6 ∨ i = 7 ∨ i = 8 ∨ i = 9 := by omega
  have hstay : ownE own w' own w' := ⟨Fr.refl _ _, fun _ _ h => h⟩
  have hnew : w'.heap.size < (w'.alloc (.map #[] 0)).heap.size := (hopN w' (.map #[] 0)).2
  have hfa := fr_alloc w' (.map #[] 0) []
  rcases hi' with rfl | rfl | rfl | rfl | rfl | rfl | rfl | rfl | rfl | rfl
  all_goals (have ho' := Option.some.inj ho; subst ho')
  ·exact wpOp_load_row 68 2 row68 (.tmp 4) rfl rfl rfl w2.heap.size _ ((hS 4 (by decide)).trans rfl) ((hI.1.block _ (hat_lt hs3) (by simp)).trans hs3) rfl ⟨_, own, rfl, hI, hstay, rfl⟩
  ·exact wpOp_move (.tmp 0) rfl rfl rfl _ ((hS 0 (by decide)).trans rfl) ⟨_, own, rfl, hI, hstay, rfl⟩
  ·exact wpOp_move (.tmp 0) rfl rfl rfl _ ((hS 0 (by decide)).trans rfl) ⟨_, own, rfl, hI, hstay, rfl⟩
  ·have e0 := gtx (hF 2 (by decide) _ 41 rfl rfl)
   refine wpOp_call (f := 48) (args := #[.slice (some ⟨gi, oi, none⟩) N ci]) rfl rfl (by simp [go_sem, e0]) (clone_any gi oi N ci S w' (HS3.out.same (hI.1.block _ HS3.out.lt (by simp))) (by omega) (by omega)) ?_
   rintro e w'' ⟨g, cw, rfl, hg0, hws, hb⟩
   obtain ⟨csw, hcsw, -⟩ := id hws
   exact ⟨_, rfl, _, setO own g 3, rfl, ownI_set hI (fr_below hb []) (hat_lt hcsw) 3, ownE_set hI (fr_below hb []) hg0 3, g, cw, rfl, Nat.le_trans hI.1.size hg0, hws, by simp [setO]⟩
  ·exact wpOp_val rfl rfl (v := .map (some w'.heap.size)) (w1 := w'.alloc (.map #[] 0)) (by simp [go_sem]) ⟨_, setO own w'.heap.size 4, rfl, ownI_set hI hfa hnew 4, ownE_set hI hfa (Nat.le_refl _) 4, _, rfl, hI.1.size, (hopN w' _).1, by simp [setO]⟩
  ·exact wpOp_val rfl rfl (v := .map (some w'.heap.size)) (w1 := w'.alloc (.map #[] 0)) (by simp [go_sem]) ⟨_, setO own w'.heap.size 5, rfl, ownI_set hI hfa hnew 5, ownE_set hI hfa (Nat.le_refl _) 5, _, rfl, hI.1.size, (hopN w' _).1, by simp [setO]⟩
  ·exact wpOp_val rfl rfl (v := .map (some w'.heap.size)) (w1 := w'.alloc (.map #[] 0)) (by simp [go_sem]) ⟨_, setO own w'.heap.size 6, rfl, ownI_set hI hfa hnew 6, ownE_set hI hfa (Nat.le_refl _) 6, _, rfl, hI.1.size, (hopN w' _).1, by simp [setO]⟩
  ·have e0 := gtx (hF 0 (by decide) _ 39 rfl rfl)
   have e1 := gtx (hF 1 (by decide) _ 40 rfl rfl)
   obtain ⟨gw, cw, e3, hgw0, hws4, o3⟩ := hF 3 (by decide) _ 42 rfl rfl
   obtain ⟨bc, e4, hbc0, hbc4, o4⟩ := hF 4 (by decide) _ 43 rfl rfl
   obtain ⟨bt, e5, hbt0, hbt4, o5⟩ := hF 5 (by decide) _ 44 rfl rfl
   obtain ⟨bf, e6, hbf0, hbf4, o6⟩ := hF 6 (by decide) _ 45 rfl rfl
   have e3 := gtx e3
   have e4 := gtx e4
   have e5 := gtx e5
   have e6 := gtx e6
   have n1 : gw ≠ bc := fun e => by rw [e, o4] at o3; cases o3
   have n2 : gw ≠ bt := fun e => by rw [e, o5] at o3; cases o3
   have n3 : gw ≠ bf := fun e => by rw [e, o6] at o3; cases o3
   have n4 : bc ≠ bt := fun e => by rw [e, o5] at o4; cases o4
   have n5 : bc ≠ bf := fun e => by rw [e, o6] at o4; cases o4
   have n6 : bt ≠ bf := fun e => by rw [e, o6] at o5; cases o5
   exact wpOp_val rfl rfl (v := .agg (lkCells N Y (.slice (some ⟨gi, oi, none⟩) N ci) gw N cw bc bt bf .nilFunc)) (w1 := w') (by simp [go_sem, e0, e1, e3, e4, e5, e6, lkCells]) ⟨_, own, rfl, hI, hstay, gw, cw, bc, bt, bf, rfl, hgw0, hbc0, hbt0, hbf0, hws4, hbc4, hbt4, hbf4, n1, n2, n3, n4, n5, n6⟩
  ·obtain ⟨gw, cw, bc, bt, bf, e7, h5⟩ := hF 7 (by decide) _ 46 rfl rfl
   have e7 := gtx e7
   obtain ⟨csw, hcsw, -⟩ := id h5.ws
   have z0 := hat_lt hcsw
   have z1 := hat_lt h5.c
   have z2 := hat_lt h5.t
   have z3 := hat_lt h5.f
   have hfb := fr_alloc w' (.cells (lkCells N Y (.slice (some ⟨gi, oi, none⟩) N ci) gw N cw bc bt bf .nilFunc) 95) []
   exact wpOp_val rfl rfl (v := .pointer (some ⟨w'.heap.size, 0, none⟩)) (w1 := w'.alloc (.cells (lkCells N Y (.slice (some ⟨gi, oi, none⟩) N ci) gw N cw bc bt bf .nilFunc) 95)) (by simp [go_sem, e7, lkCells]) ⟨_, own, rfl, ownI_stay hI hfb, ⟨hfb, fun _ _ h => h⟩, _, gw, cw, bc, bt, bf, rfl, (hopN w' _).1, h5.fr hfb, hI.1.size, by simp; omega⟩
  ·obtain ⟨gl, gw, cw, bc, bt, bf, e8, h5⟩ := hF 8 (by decide) _ 47 rfl rfl
   have e8 := gtx e8
   exact wpOp_val rfl rfl (v := .pointer (some ⟨gl, 0, none⟩)) (w1 := w') (by simp [go_sem, e8]) ⟨_, own, rfl, hI, hstay, gl, gw, cw, bc, bt, bf, rfl, h5⟩
 ·intro val own w4 hI hF
  obtain ⟨gl, gw, cw, bc, bt, bf, e9, hgl4, h5, hgl0, hgn⟩ := hF 9 _ 6 (by decide) rfl rfl
  have hz4 := (hI.1.block _ (hat_lt hz3) (by simp)).trans hz3
  have HF4 := Lib.hid (HF3.out.trans hI.1)
  have HS4 := Lib.hid (HS3.out.same (hI.1.block _ HS3.out.lt (by simp)))
  have H5 := Lib.hid h5
  have HGN := Lib.hid hgn
  have z34 := hI.1.size
  clear hF hI hs3 hz3 HF3 HS3 HS h5 hgn
  simp only [putAll, List.take, List.drop, List.take_succ_cons, List.drop_succ_cons, e9, Act.put, List.setIfInBounds_toArray, List.set_cons_zero, List.set_cons_succ]
  clear e9
  generalize val 0 = v0
  generalize val 1 = v1
  generalize val 2 = v2
  generalize val 3 = v3
  generalize val 4 = v4
  generalize val 5 = v5
  generalize val 6 = v6
  generalize val 7 = v7
  generalize val 8 = v8
  obtain ⟨⟨x1, x2⟩, ⟨y1, y2⟩, xy⟩ := HMAY.out
  have hcall := sound_yes N Y .nilFunc gi oi N ci S gl gw N cw bc bt bf 1 w4 hgl4 HS4.out (Nat.le_refl _) y1 (by omega) hN
  have HSOUND := Lib.hid (ino_sound (s := S 1))
  have hrl := rdInoR_length (S 1)
  unfold lkCells at hgl4
  go_wp2_with fail
  refine hcall.mono ?_; rintro e w5 ⟨rfl, hb5⟩
  have hgl5 := (hop hb5 hgl4).1
  have hz5 := (hop hb5 hz4).1
  have HF5 := Lib.hid (HF4.out.trans (fr_below hb5 []))
  have HS5 := Lib.hid (HS4.out.same (hat_below hb5 HS4.out.lt))
  have H55 := Lib.hid (H5.out.fr (fr_below hb5 []))
  have z45 := hb5.size
  have hzl5 := hat_lt hz5
  have hgll5 := hat_lt hgl5
  clear hb5 hgl4 hz4 HF4 HS4 H5 hcall
  have hk0 : (IV .i64 (rdInoR (S 1)).1)[0]? = some (.int .i64 (nth (rdInoR (S 1)).1 0)) := by
   rw [IV_get?, nth_getElem? (by omega)]; rfl
  have HRO : Hid (rootOk S ↔ soundR (S 1) = true ∧ nth (rdInoR (S 1)).1 0 = 2) := Lib.hid Iff.rfl
  have HFIN := Lib.hid (hat_put4 hz5 (.slice none 0 0) (.slice none 0 0) (.slice none 0 0) (.slice none 0 0))
  have HBEL := Lib.hid ((((HF5.out.mono (ex' := [w.heap.size]) (by simp)).trans (fr_put4 w5 w.heap.size (.slice none 0 0) (.slice none 0 0) (.slice none 0 0) (.slice none 0 0))).trans (fr_alloc _ (.cells (IV .i64 (rdInoR (S 1)).1) 78) [w.heap.size])).below (B := w.heap.size) (Nat.le_refl _) (by simp))
  generalize hRAW : (rdInoR (S 1)).1 = raw at *
  cases hsd : soundR (S 1) with
  | false =>
   rw [hsd] at HRO
   have hno : ¬ rootOk S := fun h => by have := (HRO.out.1 h).1; cases this
   clear HSOUND
   have HNO := Lib.hid hno
   clear hno hk0
   go_wp2_with fail
   exact ret_ct row34 rfl (cs := repNil) rfl (hopA _ _ HFIN.out).1 rfl rfl (.inr ⟨HNO.out, rfl, HBEL.out⟩)
  | true =>
   cases hkd : (nth raw 0 == 2) with
   | false =>
    have hkn : (nth raw 0 != 2) = true := by simpa using hkd
    have HNO := Lib.hid (show ¬ rootOk S from fun h => by have := (HRO.out.1 h).2; simp [this] at hkd)
    clear HSOUND HRO
    go_wp2_with fail
    exact ret_ct row34 rfl (cs := repNil) rfl (hopA _ _ HFIN.out).1 rfl rfl (.inr ⟨HNO.out, rfl, HBEL.out⟩)
   | true =>
    have hk2 : nth raw 0 = 2 := by simpa using hkd
    have HYES := Lib.hid (HRO.out.2 ⟨hsd, hk2⟩)
    have hkn : (nth raw 0 != 2) = false := by simpa using hkd
    have hld5 : ∀ r w', ldRow r 18 0 w' (some (.cells (IV .i64 raw) 78)) = .ok (.agg (IV .i64 raw)) w' := fun r w' => by rw [ldRow_part (by simp [hrl])]; simp [← hrl]
    obtain ⟨r1, r2, r3⟩ := HSOUND.out hsd
    have R3 := Lib.hid r3
    clear HRO HBEL HFIN HSOUND r3
    go_wp2_with fail
    have hw6 : ∀ (k : Nat) (cs : Array Value) (t : TypeId), hat (w5.setCell ⟨gl, 7, none⟩ (qfun (w5.heap.size + 1))) k = some (.cells cs t) → hat (((w5.setCell ⟨gl, 7, none⟩ (qfun (w5.heap.size + 1))).alloc (.cells (IV .i64 raw) 78)).alloc (.cells #[.slice none 0 0] 32)) k = some (.cells cs t) := fun k cs t h => (hopA _ _ (hopA _ _ h).1).1
    have hgl6 := hw6 gl _ _ (hat_setCell_at w5 gl 7 (qfun (w5.heap.size + 1)) _ _ _ hgl5)
    have hfs : Fr [gl] w5 (((w5.setCell ⟨gl, 7, none⟩ (qfun (w5.heap.size + 1))).alloc (.cells (IV .i64 raw) 78)).alloc (.cells #[.slice none 0 0] 32)) := ((fr_setCell _ _ _ _).trans (fr_alloc _ _ _)).trans (fr_alloc _ _ _)
    have hgr6 : hat (((w5.setCell ⟨gl, 7, none⟩ (qfun (w5.heap.size + 1))).alloc (.cells (IV .i64 raw) 78)).alloc (.cells #[.slice none 0 0] 32)) (w5.heap.size + 1) = some (.cells #[.slice none 0 0] 32) := hat_alloc_at _ _ _ (by simp)
    have h2z : w.heap.size ≠ gl := by omega
    have hz6 := (hfs.block _ (hat_lt hz5) (by simpa using h2z)).trans hz5
    have hgn := HGN.out
    simp only [List.mem_cons, List.not_mem_nil, or_false, not_or] at hgn
    obtain ⟨g1, g2, g3, g4⟩ := hgn
    have h56 : Five N cw S w3 (((w5.setCell ⟨gl, 7, none⟩ (qfun (w5.heap.size + 1))).alloc (.cells (IV .i64 raw) 78)).alloc (.cells #[.slice none 0 0] 32)) gw bc bt bf := by
     have h := H55.out
     obtain ⟨csw, h5w, -⟩ := id h.ws
     exact ⟨h.gw0, h.bc0, h.bt0, h.bf0, h.ws.same (hfs.block _ (hat_lt h5w) (by simpa using Ne.symm g1)), (hfs.block _ (hat_lt h.c) (by simpa using Ne.symm g2)).trans h.c, (hfs.block _ (hat_lt h.t) (by simpa using Ne.symm g3)).trans h.t, (hfs.block _ (hat_lt h.f) (by simpa using Ne.symm g4)).trans h.f, h.n1, h.n2, h.n3, h.n4, h.n5, h.n6⟩
    have hgi3 : gi < w3.heap.size := by omega
    have hlt5 : w3.heap.size ≤ w5.heap.size := by omega
    have hrn : w5.heap.size + 1 ∉ [gl, gw, bc, bf, bt] := by
     have h := H55.out
     obtain ⟨csw, h5w, -⟩ := id h.ws
     have a1 := hat_lt h5w
     have a2 := hat_lt h.c
     have a3 := hat_lt h.t
     have a4 := hat_lt h.f
     simp only [List.mem_cons, List.not_mem_nil, or_false, not_or]
     omega
    have HLW6 := Lib.hid (lw_start (ci := ci) (cw := cw) (gr := w5.heap.size + 1) HMAY.out hgi3 (Nat.le_trans hlt5 hfs.size) (HS5.out.same (hfs.block _ HS5.out.lt (by simp; omega))) h56 hgl6 hgl0 HGN.out hgr6 (by omega) hrn)
    have HF6 := Lib.hid (((HF5.out.mono (ex' := [gl]) (by simp)).trans hfs).old (ex' := []) (by simp; omega))
    unfold qfun at HLW6 HF6 hz6
    clear h56 hw6 hgl6 hgr6 hfs hz5 hgl5 H55 HS5 HF5
    generalize ((w5.setCell ⟨gl, 7, none⟩ (.func (.func 50) #[] #[.pointer (some ⟨w5.heap.size + 1, 0, none⟩)])).alloc (.cells (IV .i64 raw) 78)).alloc (.cells #[.slice none 0 0] 32) = w6 at *
    generalize w5.heap.size + 1 = gr at *
    generalize hV : (⟨⟨gl, gw, N, bc, bt, bf, 0, cw, N, Y, .slice (some ⟨gi, oi, none⟩) N ci, .func (.func 50) #[] #[.pointer (some ⟨gr, 0, none⟩)]⟩, gr, gi, oi, ci, w3.heap.size, S⟩ : WE) = V at HLW6
    have v1 : gl = V.E.gl := by rw [← hV]
    have v2 : gw = V.E.gw := by rw [← hV]
    have v3 : bt = V.E.bt := by rw [← hV]
    have v4 : gr = V.gr := by rw [← hV]
    have v5 : N = V.E.N := by rw [← hV]
    have v6 : Y = V.E.Y := by rw [← hV]
    have v7 : w3.heap.size = V.G0 := by rw [← hV]
    have v8 : S = V.IMG := by rw [← hV]
    have v9 : cw = V.E.cw := by rw [← hV]
    have v10 : (N : Int) = V.E.X := by rw [← hV]
    have hcall := take_lw HLW6.out 1 raw hrl (Nat.le_refl _) (by rw [← v6]; exact y1) rfl r1 r2 R3.out
    rw [← v1, ← v6, ← v10] at hcall
    refine hcall.mono ?_; rintro e w7 ⟨rfl, ob, B, ⟨gx, bx⟩, hlw7, hmv7, hB⟩
    have hl7 := hlw7.k.look
    unfold lkCells at hl7
    rw [← v1] at hl7
    have hp7 := hlw7.ptr 1 (by omega)
    rw [hB, show ((1 : Nat) : Int) = 1 from rfl] at hp7
    simp only [Option.map_some, ptrOf] at hp7
    have ht7 : (takeZ N Y 1 raw 0 (zeroZ S)).T 1 = some ⟨(takeX N Y raw (zeroZ S).st).1, 0, (takeX N Y raw (zeroZ S).st).2.bk⟩ := by simp [takeZ, updT]
    obtain ⟨t', ht', hgx7, -⟩ := hlw7.yes 1 _ hB
    rw [ht7] at ht'
    obtain rfl := Option.some.inj ht'
    simp only at hgx7
    have hz8 := inC_size (hlw7.zi.t 1 _ ht7).2.2.1 0 bx
    simp only at hz8
    generalize hc8 : inC (takeX N Y raw (zeroZ S).st).1 0 bx = c8 at hgx7 hz8
    have z18 : 18 < c8.size := by omega
    have hlw8 := hlw7.en hB ht7 (n := 1) (by omega) (by omega)
    have hz0 : startZ N Y S = { takeZ N Y 1 raw 0 (zeroZ S) with T := updT (takeZ N Y 1 raw 0 (zeroZ S)).T 1 ⟨(takeX N Y raw (zeroZ S).st).1, 1, (takeX N Y raw (zeroZ S).st).2.bk⟩ } := by rw [← hRAW]; exact startZ_en N Y S
    rw [← hz0] at hlw8
    have hqs : (startZ N Y S).q = [1] := by
     rw [hz0]
     show (if nth raw 0 = 2 then (zeroZ S).q ++ [((1 : Nat) : Int)] else _) = _
     rw [if_pos hk2]; rfl
    have HLW8 := Lib.hid hlw8
    have HQS := Lib.hid hqs
    have HB7 := Lib.hid ((hmv7.below HLW6.out (by simp)).trans ((fr_setCell w7 gx 18 (.int .i64 1)).below (B := V.G0) (Nat.le_trans HLW6.out.sz hmv7.size) (by obtain ⟨t0, -, -, -, h1, -⟩ := hlw7.yes 1 _ hB; simpa using h1)))
    have hq8 := hlw8.q
    rw [hqs, ← v4] at hq8
    have HQ8 := Lib.hid hq8
    have HVV : Hid (gl = V.E.gl ∧ gw = V.E.gw ∧ bt = V.E.bt ∧ gr = V.gr ∧ N = V.E.N ∧ Y = V.E.Y ∧ w3.heap.size = V.G0 ∧ S = V.IMG ∧ cw = V.E.cw ∧ (N : Int) = V.E.X) := Lib.hid ⟨v1, v2, v3, v4, v5, v6, v7, v8, v9, v10⟩
    clear hlw7 hlw8 hmv7 hc8 ht7 hcall hz0 hqs hq8 hB ht' v1 v2 v3 v4 v5 v6 v7 v8 v9 v10 hV
    go_wp2_with fail
    refine (next_some gr ob 1 [] _ HQ8.out).mono ?_; rintro e w9 ⟨rfl, hq9, hf9⟩
    have HLW9 : Hid (LW V ob B { startZ N Y S with q := [] } w9) := Lib.hid (HLW8.out.pop HQS.out (by rw [← HVV.out.2.2.2.1]; exact hq9) (by rw [← HVV.out.2.2.2.1]; exact hf9))
    have HB9 : Hid (Below V.G0 w6 w9) := Lib.hid (HB7.out.trans ((Moved.gr (V := V) (but := []) (ob := ob) (B := B) (by rw [← HVV.out.2.2.2.1]; exact hf9)).below HLW8.out (by simp)))
    have HKB : Hid (∃ v, B 1 = some v) := Lib.hid (by
     obtain ⟨-, t, ht⟩ := HLW8.out.zi.q 1 (by rw [HQS.out]; simp)
     cases hb : B 1 with
     | none =>
      have := HLW8.out.no 1 hb
      have e : (1 : Int).toNat = 1 := rfl
      rw [e, this] at ht; cases ht
     | some v => exact ⟨v, rfl⟩)
    have HLL : Hid (loopZ N Y S 8191 (dirOf N Y S 1 { startZ N Y S with q := [] }) = lookZ N Y S ∧ potZ { startZ N Y S with q := [] } ≤ 8191) := Lib.hid (by
     refine ⟨?_, ?_⟩
     ·unfold lookZ
      rw [loopZ_cons N Y S 8191 (startZ N Y S) 1 [] HQS.out]; rfl
     ·exact Nat.le_of_succ_le_succ (Nat.le_trans (Nat.le_of_eq (pot_pop HQS.out)) HLW8.out.zi.pot))
    clear hq9 hf9 HLW8 HQS HB7 HQ8 hl7 hp7 hgx7 hz8 z18 hk0 hk2 hkn hkd
    go_wp2_with fail
    have H3L : Hid (w.heap.size < w3.heap.size) := Lib.hid (by omega)
    have HZ6 := Lib.hid hz6
    clear hz6 hgz hgz3 z34 z45 hzl5 hgll5 hgl0 hgi3 hlt5 hcl h2z
    go_loopg [11, 12] (potZ { startZ N Y S with q := [] } + 1) (fun g i m wr => ∃ (ob : Option Nat) (B : Nat → Option (Nat × Nat)) (z : LZ), Hid (LW V ob B z wr) ∧ Hid (Below V.G0 w6 wr) ∧
     ((m = .bool true ∧ ∃ (k f : Nat), i = .int .i64 k ∧ k < 4096 ∧ Hid (∃ v, B k = some v) ∧ g = potZ z + 1 ∧ Hid (potZ z ≤ f) ∧ Hid (loopZ N Y S f (dirOf N Y S k z) = lookZ N Y S)) ∨ (m = .bool false ∧ i = .int .i64 0 ∧ g = 0 ∧ Hid (z = lookZ N Y S))))
    case atStart => exact ⟨ob, B, _, HLW9, HB9, .inl ⟨rfl, 1, 8191, rfl, by omega, HKB, rfl, Lib.hid HLL.out.2, Lib.hid HLL.out.1⟩⟩
    case round =>
     obtain ⟨ob1, B1, z1, H1, HB1, hor⟩ := hrel
     clear HLW9 HB9 HKB HLL
     rcases hor with ⟨rfl, k, f, rfl, hk, HK, rfl, HP, HE⟩ | ⟨rfl, rfl, rfl, HE⟩
     ·obtain ⟨v, hv⟩ := HK.out
      have hcall := dir_any H1.out k hk v hv
      rw [← HVV.out.1] at hcall
      have HC := Lib.hid hcall
      clear hcall hv
      go_wp2_with fail
      refine HC.out.mono ?_; rintro e wA ⟨rfl, obA, BA, hlwA, hmvA⟩
      have HMA := Lib.hid (HB1.out.trans (hmvA.below H1.out (by simp)))
      have hpot : potZ (dirOf V.E.X V.E.Y V.IMG k z1) ≤ potZ z1 := pot_dir (by have := hlwA.small; have := hlwA.img4096; omega) _ _ _
      rw [← HVV.out.2.2.2.2.2.2.2.2.2, ← HVV.out.2.2.2.2.2.1, ← HVV.out.2.2.2.2.2.2.2.1] at hlwA hpot
      have HLA := Lib.hid hlwA
      have hqA := hlwA.q
      rw [← HVV.out.2.2.2.1] at hqA
      clear hlwA hmvA HC
      cases hQ : (dirOf N Y S k z1).q with
      | nil =>
       rw [hQ] at hqA
       have HQA := Lib.hid hqA
       have HFI : Hid (dirOf N Y S k z1 = lookZ N Y S) := Lib.hid (by rw [← HE.out, loopZ_nil _ _ _ _ _ hQ])
       clear hqA hpot
       go_wp2_with fail
       refine (next_none gr obA _ HQA.out).mono ?_; rintro e wB ⟨rfl, rfl⟩
       go_wp2_with fail
       go_roundg 0
       case measure => omega
       case rel => exact ⟨obA, BA, _, HLA, HMA, .inr ⟨rfl, rfl, rfl, HFI⟩⟩
      | cons j r =>
       rw [hQ] at hqA
       have HQA := Lib.hid hqA
       obtain ⟨hj0, tj, htj⟩ := HLA.out.zi.q j (by rw [hQ]; simp)
       obtain ⟨jn, rfl⟩ := Int.eq_ofNat_of_zero_le hj0
       have htj : (dirOf N Y S k z1).T jn = some tj := htj
       have hj4 : jn < 4096 := by
        have h1 := (HLA.out.zi.t jn tj htj).2.1
        have h2 : Y = V.E.Y := HVV.out.2.2.2.2.2.1
        omega
       have hpp := pot_pop hQ
       obtain ⟨f', hf'⟩ : ∃ f', f = f' + 1 := ⟨f - 1, by have := HP.out; omega⟩
       have HE2 : Hid (loopZ N Y S f' (dirOf N Y S jn { dirOf N Y S k z1 with q := r }) = lookZ N Y S) := Lib.hid (by rw [← HE.out, hf', loopZ_cons _ _ _ _ _ _ _ hQ]; rfl)
       have HP2 : Hid (potZ { dirOf N Y S k z1 with q := r } ≤ f') := Lib.hid (Nat.le_of_succ_le_succ (Nat.le_trans (Nat.le_of_eq hpp) (Nat.le_trans hpot (Nat.le_trans HP.out (Nat.le_of_eq hf')))))
       have hlt : potZ { dirOf N Y S k z1 with q := r } + 1 < potZ z1 + 1 := Nat.lt_succ_of_le (Nat.le_trans (Nat.le_of_eq hpp) hpot)
       have HKJ : Hid (∃ v, BA jn = some v) := Lib.hid (by
        cases hb : BA jn with
        | none => (have h3 := HLA.out.no jn hb; rw [h3] at htj; cases htj)
        | some v => exact ⟨v, rfl⟩)
       have HQQ := Lib.hid hQ
       clear hqA hpot hpp hj0 htj hQ
       go_wp2_with fail
       refine (next_some gr obA jn r _ HQA.out).mono ?_; rintro e wB ⟨rfl, hqB, hfB⟩
       have HLB := Lib.hid (HLA.out.pop HQQ.out (by rw [← HVV.out.2.2.2.1]; exact hqB) (by rw [← HVV.out.2.2.2.1]; exact hfB))
       have HMB := Lib.hid (HMA.out.trans ((Moved.gr (V := V) (but := []) (ob := obA) (B := BA) (by rw [← HVV.out.2.2.2.1]; exact hfB)).below HLA.out (by simp)))
       clear hqB hfB
       go_wp2_with fail
       go_roundg (potZ { dirOf N Y S k z1 with q := r } + 1)
       case measure => exact hlt
       case rel => exact ⟨obA, BA, _, HLB, HMB, .inl ⟨rfl, jn, f', rfl, hj4, HKJ, rfl, HP2, HE2⟩⟩
     ·have hcall := report_any H1.out
      rw [← HVV.out.1] at hcall
      have HC := Lib.hid hcall
      have hzr : hat wr w.heap.size = _ := (HB1.out.block _ (by rw [← HVV.out.2.2.2.2.2.2.1]; exact H3L.out)).trans HZ6.out
      have HS1 := Lib.hid H1.out.sz
      clear hcall
      go_wp2_with fail
      refine HC.out.mono ?_; rintro e wE ⟨u1, u2, u3, o1, o2, o3, rfl, k1, k2, k3, k4, k5, k6⟩
      have hzE : hat wE w.heap.size = _ := (k5.block _ (by rw [← HVV.out.2.2.2.2.2.2.1]; exact H3L.out)).trans hzr
      have HE1 := Lib.hid (hat_put4 hzE (.slice (some ⟨V.E.gw, 0, none⟩) V.E.N V.E.cw) u1 u2 u3)
      have P4 := fr_put4 wE w.heap.size (.slice (some ⟨V.E.gw, 0, none⟩) V.E.N V.E.cw) u1 u2 u3
      have K := Lib.hid (show _ ∧ _ ∧ _ ∧ _ ∧ _ ∧ _ ∧ _ from ⟨k1, k2, k3, k4, k5, k6, P4⟩)
      clear k1 k2 k3 k4 k5 k6 P4 hzr HC
      obtain ⟨p1, q1, c1, rfl⟩ : ∃ p q c, u1 = .slice p q c := K.out.2.1.sl
      obtain ⟨p2, q2, c2, rfl⟩ : ∃ p q c, u2 = .slice p q c := K.out.2.2.1.sl
      obtain ⟨p3, q3, c3, rfl⟩ : ∃ p q c, u3 = .slice p q c := K.out.2.2.2.1.sl
      go_wp2_with fail
      refine ret_ct row34 rfl (cs := #[.slice (some ⟨V.E.gw, 0, none⟩) V.E.N V.E.cw, .slice p1 q1 c1, .slice p2 q2 c2, .slice p3 q3 c3]) rfl HE1.out rfl rfl (.inl ⟨HYES.out, ?_⟩)
      obtain ⟨k1, k2, k3, k4, k5, k6, P4⟩ := K.out
      obtain ⟨-, e2, -, -, e5, e6, e7, e8, -, -⟩ := HVV.out
      rw [← e5, ← e6, HE.out] at k1
      rw [← e5, ← e6, HE.out, ← e8] at k2
      rw [HE.out] at k3 k4
      rw [← e5] at P4 ⊢
      have hg := H1.out.lo V.E.gw (by simp [mineW])
      have hg2 := H1.out.mlt V.E.gw (by simp [mineW])
      have h3 := H3L.out
      have hs := HS1.out
      have hne : V.E.gw ∉ [w.heap.size] := by simp; omega
      have hqn : ∀ o ∈ [o1, o2, o3], ∀ q, o = some q → q ∉ [w.heap.size] := fun o ho q hq => by
       have := k6.1 o ho q hq
       simp; omega
      obtain ⟨csE, hcE, -⟩ := id k1
      refine ⟨V.E.gw, V.E.cw, _, _, _, o1, o2, o3, rfl, k1.same (P4.block _ (hat_lt hcE) hne), k2.fr P4 (hqn o1 (by simp)), k3.fr P4 (hqn o2 (by simp)), k4.fr P4 (hqn o3 (by simp)), ?_, by omega, fun o ho q hq => ?_, k6.2⟩
      ·have hw6 := HF6.out.size
       have hle : w.heap.size ≤ V.G0 := by omega
       exact (((HF6.out.below (B := w.heap.size) (Nat.le_refl _) (by simp)).trans (HB1.out.mono hle)).trans (k5.mono hle)).trans (P4.below (by have := k5.size; omega) (by simp))
      ·have := k6.1 o ho q hq
       omega
theorem QRow.cell {w : World} {v : Value} {ob : Option Nat} {xs : List Int} (h : QRow w v ob xs) {k : Nat} (hk : k < xs.length) : ∃ g off c cs, v = .slice (some ⟨g, off, none⟩) xs.length c ∧ ob = some g ∧ hat w g = some (.cells cs 3) ∧ cs[off + k]? = some (.int .i64 (nth xs k)) := by
 rcases h with ⟨-, -, rfl⟩ | ⟨g, off, c, cs, rfl, h1, h2, h3, h4, h5⟩
 ·simp at hk
 ·exact ⟨g, off, c, cs, rfl, h1, h2, h5 k _ (by rw [nth_getElem? hk])⟩
theorem ints_any {v1 v2 : Value} {o1 o2 : Option Nat} {xs ys : List Int} {w : World} (h1 : QRow w v1 o1 xs) (h2 : QRow w v2 o2 ys) (hx : xs.length ≤ 100000) (hy : ys.length ≤ 100000) :
  Calls Tryz.prog 19 #[v1, v2] w fun e w' => e = .returned (.bool (decide (xs = ys))) ∧ Fr [] w w' := by
 obtain ⟨a1, c1, e1⟩ := h1.slice
 obtain ⟨a2, c2, e2⟩ := h2.slice
 subst e1 e2
 have H1 := Lib.hid h1
 have H2 := Lib.hid h2
 clear h1 h2
 generalize hM : xs.length = M at *
 generalize hK : ys.length = K at *
 have HM := Lib.hid hM
 have HK := Lib.hid hK
 clear hM hK
 by_cases hMK : M = K
 ·subst hMK
  have d1 : ((M : Int) != (M : Int)) = false := by simp
  have hpost : ∀ (b : Bool) W, Fr [] w W → b = decide (xs = ys) → (fun e w' => e = Ending.returned (.bool (decide (xs = ys))) ∧ Fr [] w w') (.returned (.bool b)) W := fun b W hf hb => ⟨by rw [hb], hf⟩
  have HP := Lib.hid hpost
  clear hpost
  go_enter Tryz.func19, Tryz.ntmps19
  go_wp2_with fail
  go_loopw [5] (fun v wr => ∃ k : Nat, v = .int .i64 k ∧ k ≤ M ∧ Hid (∀ j, j < k → nth xs j = nth ys j) ∧ Hid (Fr [] w wr)) (fun v wr => M - (intOf v).toNat)
  case atStart => exact ⟨0, rfl, Nat.zero_le _, Lib.hid (fun j hj => by omega), Lib.hid (Fr.refl _ _)⟩
  case round =>
   obtain ⟨k, rfl, hk, HE, HF⟩ := hrel
   by_cases hkM : k < M
   ·have hk0 : (0 : Int) ≤ (k : Int) := Int.natCast_nonneg _
    have hk1 : (k : Int) < (M : Int) := by omega
    obtain ⟨g1, f1, cc1, cs1, s1, t1, u1, x1⟩ := (H1.out.fr HF.out (by simp)).cell (k := k) (by rw [HM.out]; exact hkM)
    obtain ⟨g2, f2, cc2, cs2, s2, t2, u2, x2⟩ := (H2.out.fr HF.out (by simp)).cell (k := k) (by rw [HK.out]; exact hkM)
    injection s1 with s1
    injection s2 with s2
    subst s1 s2 t1 t2
    cases hq : (nth xs k == nth ys k) with
    | true =>
     have hqn : (nth xs k != nth ys k) = false := by simpa using hq
     go_wp2_with fail
     go_region
     go_wp2_with fail
     go_roundw
     case rel =>
      refine ⟨k + 1, by go_num, by omega, Lib.hid (fun j hj => ?_), Lib.hid (fr_drew HF.out)⟩
      by_cases hjk : j = k
      ·subst hjk; simpa using hq
      ·exact HE.out j (by omega)
     case measure => (show M - (k + 1) < M - k); omega
    | false =>
     have hqn : (nth xs k != nth ys k) = true := by simpa using hq
     go_wp2_with fail
     go_region
     go_wp2_with fail
     go_ret
     refine HP.out false _ (fr_drew HF.out) ?_
     symm
     rw [decide_eq_false_iff_not]
     intro e
     rw [e] at hq
     simp at hq
   ·obtain rfl : k = M := by omega
    go_wp2_with fail
    go_ret
    refine HP.out true _ HF.out ?_
    symm
    rw [decide_eq_true_eq]
    apply List.ext_getElem?
    intro j
    by_cases hj : j < k
    ·rw [nth_getElem? (by rw [HM.out]; exact hj), nth_getElem? (by rw [HK.out]; exact hj), HE.out j hj]
    ·rw [List.getElem?_eq_none (by rw [HM.out]; omega), List.getElem?_eq_none (by rw [HK.out]; omega)]
 ·have d1 : ((M : Int) != (K : Int)) = true := by simp; omega
  have hne : decide (xs = ys) = false := by
   rw [decide_eq_false_iff_not]
   intro e
   rw [e] at HM
   exact hMK (HM.out.symm.trans HK.out)
  rw [hne]
  go_enter Tryz.func19, Tryz.ntmps19
  go_wp2_with fail
  go_ret
  exact ⟨rfl, Fr.refl _ _⟩
theorem ints_yes {v1 v2 : Value} {o1 o2 : Option Nat} {xs : List Int} {w : World} (h1 : QRow w v1 o1 xs) (h2 : QRow w v2 o2 xs) (hx : xs.length ≤ 100000) :
  Calls Tryz.prog 19 #[v1, v2] w fun e w' => e = .returned (.bool true) ∧ Fr [] w w' := by
 refine (ints_any h1 h2 hx hx).mono ?_
 rintro e w' ⟨rfl, h⟩
 exact ⟨by rw [decide_eq_true rfl], h⟩
theorem secs_append (gi oi N ci : Nat) (S : Nat → List Int) (w : World) (hS : Secs w gi oi N S) (h0 : 0 < N) (hN : N ≤ 4096) :
  ∃ g cw w2, (∀ ty, (Builtin.append_ #[26, 26] ty #[.slice (some ⟨w.heap.size, 0, none⟩) 0 0, .slice (some ⟨gi, oi, none⟩) N ci]).run Tryz.prog (w.alloc (.cells #[] 47)) = .ok (.slice (some ⟨g, 0, none⟩) N cw) w2) ∧ w.heap.size ≤ g ∧ N ≤ cw ∧ WSecs w2 g N cw S ∧ Below w.heap.size w w2 := by
 obtain ⟨cs, t, fr, hcs, hsz, hall⟩ := hS
 obtain ⟨inf, z, hi, hz, hzs, his, hib⟩ := info_sec
 have ht : Tryz.prog.underlying 26 = some (.slice 47) := Tryz.underlying26
 have hc0 : hat (w.alloc (.cells #[] 47)) gi = some (.cells cs t fr) := (hopA w _ hcs).1
 have hnl : (cs.extract oi (oi + N * 128)).toList.length = N * 128 := by simp; omega
 have hget : ∀ j u, (cs.extract oi (oi + N * 128)).toList[j]? = some u → cs[oi + j]? = some u ∧ j < N * 128 := fun j u hj => by
  have hjl : j < N * 128 := by
   have := (List.getElem?_eq_some_iff.1 hj).1
   omega
  rw [Array.getElem?_toList, Array.getElem?_extract, if_pos (by omega)] at hj
  exact ⟨hj, hjl⟩
 have hsrc : Src Tryz.prog inf.size 26 (.slice (some ⟨gi, oi, none⟩) N ci) N (cs.extract oi (oi + N * 128)).toList (w.alloc (.cells #[] 47)) :=
  Src.ofSlice _ ht ⟨gi, oi, none⟩ N ci _ (by rw [hnl, his]) (fun j u hj => by
   rw [add_none, cell_hat hc0]
   exact (hget j u hj).1) (fun u hu => by
   obtain ⟨j, hj⟩ := List.getElem?_of_mem hu
   obtain ⟨h1, h2⟩ := hget j u hj
   obtain ⟨x, hx⟩ := Secs.cell hsz hall h2
   rw [h1] at hx
   rw [Option.some.inj hx]; rfl)
 have hr := fun ty => run_append_grow_src (P := Tryz.prog) (w.alloc (.cells #[] 47)) 26 26 ty 47 inf z ht hi hz (some ⟨w.heap.size, 0, none⟩) 0 0 [] (run_firstCells_some _ inf.size 0 ⟨w.heap.size, 0, none⟩ 0 0 [] (by simp) (fun j u hj => by simp at hj)) (.slice (some ⟨gi, oi, none⟩) N ci) N _ hsrc (by omega) (by omega) (growslice_fits (by omega) (by rw [hib]; omega))
 simp only [Nat.zero_add, List.nil_append] at hr
 have hge := grownCap_ge (w.alloc (.cells #[] 47)) N 0 47
 refine ⟨_, _, _, hr, by simp, hge, ⟨_, hat_alloc_at _ _ _ rfl, by rw [Array.size_append, size_zeroCells, hzs, List.size_toArray, hnl]; omega, fun i hi => ?_⟩, (below_drew ((Below.refl w.heap.size w).alloc (Nat.le_refl _) _)).alloc (by simp) _⟩
 obtain ⟨h1, h2, h3⟩ := hall i hi
 refine ⟨h1, h2, ?_⟩
 rw [← h3]
 apply Array.ext_getElem?
 intro j
 rw [Array.getElem?_extract, Array.getElem?_extract]
 by_cases hj : j < 128
 ·rw [if_pos (by rw [Array.size_append, List.size_toArray, hnl]; omega), if_pos (by omega), Array.getElem?_append_left (by rw [List.size_toArray, hnl]; omega), List.getElem?_toArray, Array.getElem?_toList, Array.getElem?_extract, if_pos (by omega)]
  congr 1; omega
 ·rw [if_neg (by rw [Array.size_append, List.size_toArray, hnl]; omega), if_neg (by omega)]
theorem siftP_zeros {σ : Type} (goodP : Int → σ → Bool × σ) (keepP : Nat → Int → σ → Bool × σ) (base step n : Int) : ∀ (m k : Nat) (st : σ), siftP goodP keepP base step n k (List.replicate m 0) st = (List.replicate m 0, false, st)
 | 0, _, _ => rfl
 | m + 1, k, st => by
  rw [List.replicate_succ, siftP_cons, if_pos rfl, siftP_zeros goodP keepP base step n m (k + 1) st]
theorem ptrsX_one {X Y : Int} {kd lk sz md p n : Int} (hn : 0 < n) (st : LS) (hp : p ≠ 0) (hd : isD X Y p = true) (hc : st.cl p = false) :
  ptrsX X Y n ([kd, lk, sz, md, p] ++ List.replicate 13 0) st = ([kd, lk, sz, md, p] ++ List.replicate 13 0, { st with cl := addS st.cl p, bk := putI st.bk 0 p }) := by
 have h1 : (([kd, lk, sz, md, p] ++ List.replicate 13 0 : List Int).drop 4).take 12 = p :: List.replicate 11 0 := rfl
 have hg : goodX X Y p st = (true, { st with cl := addS st.cl p }) := by unfold goodX; rw [if_pos ⟨hd, hc⟩]
 have h2 : rowX X Y n 0 (p :: List.replicate 11 0) st = (p :: List.replicate 11 0, true, { st with cl := addS st.cl p, bk := putI st.bk 0 p }) := by
  unfold rowX
  rw [siftP_cons, if_neg hp, if_neg (by simp; omega), hg]
  simp only [keepRow, Bool.true_eq_false, if_false]
  rw [siftP_zeros]
  rfl
 have z0 : ∀ (kp : Nat → Int → LS → Bool × LS) (base : Int) (st : LS), siftP (goodX X Y) kp base 1 n 0 [0] st = ([0], false, st) := fun kp base st => siftP_zeros (goodX X Y) kp base 1 n 1 0 st
 unfold ptrsX
 simp only
 rw [h1, h2]
 have h16 : nth ([kd, lk, sz, md, p] ++ List.replicate 13 0) 16 = 0 := rfl
 have h17 : nth ([kd, lk, sz, md, p] ++ List.replicate 13 0) 17 = 0 := rfl
 rw [h16, h17]
 simp only [z0]
 rfl
def exA : List Int := [2, 7, 128, 0, 5] ++ List.replicate 13 0
def exA' : List Int := [2, 1, 128, 0, 5] ++ List.replicate 13 0
def exB : List Int := [1, 1, 3, 0, 6] ++ List.replicate 13 0
def exN : ByteArray := { data := #[97] }
def exH : List Int := [104, 101, 108, 108, 111] ++ zl 123
def exS : Nat → List Int := updS (updS (updS (updS (updS (fun _ => zl 128) 0 (supSec 16 4)) 1 (inoSec exA)) 2 (inoSec exB)) 5 (slotSec 2 exN)) 6 exH
theorem exA_may : InoMay exA := by
 unfold InoMay
 rw [if_neg (by decide)]
 refine ⟨by decide, fun j h1 h2 => ?_, ?_⟩
 ·have : j = 4 ∨ j = 5 ∨ j = 6 ∨ j = 7 ∨ j = 8 ∨ j = 9 ∨ j = 10 ∨ j = 11 ∨ j = 12 ∨ j = 13 ∨ j = 14 ∨ j = 15 ∨ j = 16 ∨ j = 17 := by omega
  rcases this with rfl | rfl | rfl | rfl | rfl | rfl | rfl | rfl | rfl | rfl | rfl | rfl | rfl | rfl <;> decide
 ·decide
theorem exA'_may : InoMay exA' := by
 unfold InoMay
 rw [if_neg (by decide)]
 refine ⟨by decide, fun j h1 h2 => ?_, ?_⟩
 ·have : j = 4 ∨ j = 5 ∨ j = 6 ∨ j = 7 ∨ j = 8 ∨ j = 9 ∨ j = 10 ∨ j = 11 ∨ j = 12 ∨ j = 13 ∨ j = 14 ∨ j = 15 ∨ j = 16 ∨ j = 17 := by omega
  rcases this with rfl | rfl | rfl | rfl | rfl | rfl | rfl | rfl | rfl | rfl | rfl | rfl | rfl | rfl <;> decide
 ·decide
theorem exB_may : InoMay exB := by
 unfold InoMay
 rw [if_neg (by decide)]
 refine ⟨by decide, fun j h1 h2 => ?_, ?_⟩
 ·have : j = 4 ∨ j = 5 ∨ j = 6 ∨ j = 7 ∨ j = 8 ∨ j = 9 ∨ j = 10 ∨ j = 11 ∨ j = 12 ∨ j = 13 ∨ j = 14 ∨ j = 15 ∨ j = 16 ∨ j = 17 := by omega
  rcases this with rfl | rfl | rfl | rfl | rfl | rfl | rfl | rfl | rfl | rfl | rfl | rfl | rfl | rfl <;> decide
 ·decide
theorem exN_may : SlotMay 2 exN := by decide +kernel
theorem ex_sup : SupMay 16 4 := by unfold SupMay; omega
theorem exS_at0 : exS 0 = supSec 16 4 := by simp [exS, updS]
theorem exS_at1 : exS 1 = inoSec exA := by simp [exS, updS]
theorem exS_at2 : exS 2 = inoSec exB := by simp [exS, updS]
theorem exS_at3 : exS 3 = zl 128 := by simp [exS, updS]
theorem exS_at4 : exS 4 = zl 128 := by simp [exS, updS]
theorem exS_at5 : exS 5 = slotSec 2 exN := by simp [exS, updS]
theorem exS_at6 : exS 6 = exH := by simp [exS, updS]
theorem exS_0 : rdSupR (exS 0) = (16, 4, 0) := by rw [exS_at0]; exact supSec_reads ex_sup
theorem exS_1 : rdInoR (exS 1) = (exA, 0) := by rw [exS_at1]; exact inoSec_reads (by decide) exA_may
theorem exS_2 : rdInoR (exS 2) = (exB, 0) := by rw [exS_at2]; exact inoSec_reads (by decide) exB_may
theorem ex_slo : slotR 2 exN = (slotSec 2 exN, 0) := by
 unfold slotR
 rw [if_neg (by omega), if_pos exN_may]
theorem exS_5 : rdSloR (exS 5) = (2, exN, 0) := by
 have h := slot_reads (x := 2) (s := exN) (by rw [ex_slo])
 rw [ex_slo] at h
 rw [exS_at5]
 exact h
def exT1 : TI := ⟨exA, 1, putI (fun _ => none) 0 5⟩
def exT2 : TI := ⟨exB, 1, putI (fun _ => none) 0 6⟩
def exZ : LZ := ⟨⟨updS exS 6 (wipeL exH 3), addS (addS (fun _ => false) 5) 6, (firmX 1 ⟨exS, addS (fun _ => false) 5, fun _ => false, putI (fun _ => none) 0 5⟩).fm, putI (fun _ => none) 0 6⟩, updT (updT (fun _ => none) 1 exT1) 2 exT2, []⟩
theorem ex_takeA : takeX 16 4 exA ⟨exS, fun _ => false, fun _ => false, fun _ => none⟩ = (exA, firmX 1 ⟨exS, addS (fun _ => false) 5, fun _ => false, putI (fun _ => none) 0 5⟩) := by
 unfold takeX
 have h2 : cntX (nth exA 2) = 1 := rfl
 rw [h2]
 have h := ptrsX_one (X := 16) (Y := 4) (kd := 2) (lk := 7) (sz := 128) (md := 0) (p := 5) (n := 1) (by omega) ⟨exS, fun _ => false, fun _ => false, fun _ => none⟩ (by omega) (by decide) rfl
 simp only
 rw [show ([2, 7, 128, 0, 5] ++ List.replicate 13 0 : List Int) = exA from rfl] at h
 rw [h, if_pos (by rfl)]
theorem ex_takeB (fm : Int → Bool) (bk : Int → Option Int) : takeX 16 4 exB ⟨exS, addS (fun _ => false) 5, fm, bk⟩ = (exB, ⟨updS exS 6 (wipeL exH 3), addS (addS (fun _ => false) 5) 6, fm, putI (fun _ => none) 0 6⟩) := by
 unfold takeX
 have h2 : cntX (nth exB 2) = 1 := rfl
 rw [h2]
 have h := ptrsX_one (X := 16) (Y := 4) (kd := 1) (lk := 1) (sz := 3) (md := 0) (p := 6) (n := 1) (by omega) ⟨exS, addS (fun _ => false) 5, fm, fun _ => none⟩ (by omega) (by decide) (by show addS (fun _ => false) 5 6 = false; decide)
 simp only
 rw [show ([1, 1, 3, 0, 6] ++ List.replicate 13 0 : List Int) = exB from rfl] at h
 rw [h, if_neg (by decide)]
 unfold tailX
 show (_, (⟨updS exS 6 (wipeL (exS 6) 3), _, _, _⟩ : LS)) = _
 rw [exS_at6]
theorem ex_start : startZ 16 4 exS = ⟨firmX 1 ⟨exS, addS (fun _ => false) 5, fun _ => false, putI (fun _ => none) 0 5⟩, updT (fun _ => none) 1 exT1, [1]⟩ := by
 unfold startZ takeZ
 rw [exS_1, ex_takeA]
 rfl
theorem ex_sound : soundR (exS 2) = true := by
 unfold soundR
 rw [exS_2]; decide
theorem ex_look : lookZ 16 4 exS = exZ := by
 unfold lookZ
 rw [ex_start, loopZ_cons 16 4 exS 8191 _ 1 [] rfl]
 have h1 : dirOf 16 4 exS (1 : Int).toNat ⟨firmX 1 ⟨exS, addS (fun _ => false) 5, fun _ => false, putI (fun _ => none) 0 5⟩, updT (fun _ => none) 1 exT1, []⟩ = exZ := by
  unfold dirOf
  have ht : updT (fun _ => none) 1 exT1 (1 : Int).toNat = some exT1 := rfl
  simp only [ht]
  have hc : (cntX (nth exT1.raw 2)).toNat = 1 := rfl
  have hb : exT1.bk ((0 : Nat) : Int) = some 5 := rfl
  rw [hc]
  simp only [dirZ, hb]
  unfold slotZ
  have h5 : rdSloR ((firmX 1 ⟨exS, addS (fun _ => false) 5, fun _ => false, putI (fun _ => none) 0 5⟩).S (5 : Int).toNat) = (2, exN, 0) := exS_5
  simp only [h5]
  rw [if_neg (by omega)]
  have he : enterR 16 4 exS (2 : Int).toNat exN (⟨firmX 1 ⟨exS, addS (fun _ => false) 5, fun _ => false, putI (fun _ => none) 0 5⟩, updT (fun _ => none) 1 exT1, []⟩, fun _ => false) = (true, exZ, addB (fun _ => false) exN) := by
   unfold enterR
   rw [if_neg (by simp)]
   have hz : enterZ 16 4 exS (2 : Int).toNat ⟨firmX 1 ⟨exS, addS (fun _ => false) 5, fun _ => false, putI (fun _ => none) 0 5⟩, updT (fun _ => none) 1 exT1, []⟩ = some exZ := by
    unfold enterZ
    have ht2 : updT (fun _ => none) 1 exT1 (2 : Int).toNat = none := rfl
    have hs2 : soundR (exS (2 : Int).toNat) = true := ex_sound
    have hr2 : rdInoR (exS (2 : Int).toNat) = (exB, 0) := exS_2
    simp only [ht2, hs2, if_true, hr2]
    unfold takeZ
    have hx := ex_takeB (firmX 1 ⟨exS, addS (fun _ => false) 5, fun _ => false, putI (fun _ => none) 0 5⟩).fm (firmX 1 ⟨exS, addS (fun _ => false) 5, fun _ => false, putI (fun _ => none) 0 5⟩).bk
    have hx2 : takeX 16 4 exB (firmX 1 ⟨exS, addS (fun _ => false) 5, fun _ => false, putI (fun _ => none) 0 5⟩) = _ := hx
    simp only
    rw [hx2]
    rfl
   simp only [hz]
  rw [he, if_pos ⟨trivial, by omega, rfl⟩]
 rw [h1]
 exact loopZ_nil _ _ _ _ _ rfl
theorem exW_1 : repS 4 exZ 1 = inoSec exA' := by
 unfold repS
 rw [if_pos (by omega)]
 show (inoR (exA.set 1 1)).1 = _
 rw [show exA.set 1 1 = exA' from rfl, inoR_yes exA'_may]
theorem exW_2 : repS 4 exZ 2 = inoSec exB := by
 unfold repS
 rw [if_pos (by omega)]
 show (inoR (exB.set 1 1)).1 = _
 rw [show exB.set 1 1 = exB from rfl, inoR_yes exB_may]
theorem exW_else (j : Nat) (h1 : j ≠ 1) (h6 : j ≠ 6) : repS 4 exZ j = exS j := by
 by_cases h2 : j = 2
 ·subst h2; rw [exW_2, exS_at2]
 ·unfold repS
  by_cases hj : 1 ≤ j ∧ (j : Int) ≤ 4
  ·rw [if_pos hj]
   have : j = 3 ∨ j = 4 := by omega
   rcases this with rfl | rfl
   ·rw [exS_at3]; rfl
   ·rw [exS_at4]; rfl
  ·rw [if_neg hj]
   show updS exS 6 _ j = _
   unfold updS
   rw [if_neg h6]
theorem exW_6 : repS 4 exZ 6 = [104, 101, 108] ++ zl 125 := by
 unfold repS
 rw [if_neg (by omega)]
 show updS exS 6 (wipeL exH 3) 6 = _
 decide +kernel
theorem exD (j : Nat) : decide (repS 4 exZ j ≠ exS j) = (decide (j = 1) || decide (j = 6)) := by
 by_cases h1 : j = 1
 ·subst h1
  rw [exW_1]
  have : inoSec exA' ≠ exS 1 := by rw [exS_at1]; decide +kernel
  simp [this]
 ·by_cases h6 : j = 6
  ·subst h6
   rw [exW_6]
   have : ([104, 101, 108] ++ zl 125 : List Int) ≠ exS 6 := by rw [exS_at6]; decide +kernel
   rw [decide_eq_true this]; rfl
  ·rw [exW_else j h1 h6]
   simp [h1, h6]
theorem ex_fm : ∀ p : Int, exZ.st.fm p = decide (p = 5) := by
 intro p
 show (false || (List.range (1 : Int).toNat).any fun k => putI (fun _ => none) 0 5 (k : Int) == some p) = _
 by_cases h : p = 5
 ·subst h; decide
 ·have h2 : (putI (fun _ => none) 0 5 ((0 : Nat) : Int) == some p) = false := by
   show (some 5 == some p) = false
   simp; omega
  have h3 : (List.range (1 : Int).toNat) = [0] := rfl
  simp only [h3, List.any_cons, List.any_nil, h2, h]
  decide
theorem ex_write : writeL 16 4 (repS 4 exZ) exS exZ.st.fm = [1, 6] := by
 unfold writeL differL
 simp only [exD, ex_fm]
 decide +kernel
theorem info_secz : ∃ i0 z, Tryz.prog.info? 47 = some i0 ∧ i0.zero = some z ∧ z.cells = IV .u8 (zl 128) ∧ i0.size = 128 ∧ i0.bytes = 128 := by
 have h : (Tryz.prog.info? 47).map (fun i => (i.zero.map (fun z => z.cells), i.size, i.bytes)) = some (some (IV .u8 (zl 128)), 128, 128) := by kernel_rfl
 cases hq : Tryz.prog.info? 47 with
 | none => rw [hq] at h; cases h
 | some inf =>
  rw [hq] at h
  simp only [Option.map_some, Option.some.injEq, Prod.mk.injEq] at h
  obtain ⟨h1, h2, h3⟩ := h
  cases hz : inf.zero with
  | none => rw [hz] at h1; cases h1
  | some z =>
   rw [hz] at h1
   simp only [Option.map_some, Option.some.injEq] at h1
   exact ⟨inf, z, rfl, hz, h1, h2, h3⟩
theorem WSecs.lt {w : World} {g N c : Nat} {S : Nat → List Int} (h : WSecs w g N c S) : g < w.heap.size := by
 obtain ⟨cs, h1, -⟩ := h; exact hat_lt h1
theorem make_secs (w : World) (N : Nat) (hN : N ≤ 4096) : ∃ w', (Instr.makeSlice 26 (.int .i64 N) (.int .i64 N)).run Tryz.prog w = .ok (.slice (some ⟨w.heap.size, 0, none⟩) N N) w' ∧ WSecs w' w.heap.size N N (fun _ => zl 128) ∧ Below w.heap.size w w' := by
 obtain ⟨i, z, h1, h2, h3, h4, h5⟩ := info_secz
 have hr := run_make (P := Tryz.prog) w 26 47 i z Tryz.underlying26 h1 h2 .i64 .i64 N N (by omega) (Int.le_refl _) (by rw [h5]; omega) (by omega)
 rw [Int.toNat_natCast, h4, h3] at hr
 refine ⟨_, hr, ⟨_, (hopN w _).1, by rw [size_madeCells]; exact ⟨Nat.le_refl _, Nat.le_refl _⟩, fun j hj => ⟨zl_length _, bytes_zl _, ?_⟩⟩, (Below.refl _ _).alloc (Nat.le_refl _) _⟩
 apply Array.ext_getElem?
 intro k
 rw [Array.getElem?_extract, IV_get?, size_madeCells]
 by_cases hk : k < 128
 ·rw [if_pos (by omega)]
  have hm : ((IV .u8 (zl 128)).size : Nat) = 128 := by simp
  have hlt : (j * 128 + k) % 128 < 128 := Nat.mod_lt _ (by omega)
  have hz : ∀ n, n < 128 → (IV .u8 (zl 128))[n]! = .int .u8 0 := fun n hn => by
   rw [getElem!_def, IV_get?]
   unfold zl
   rw [List.getElem?_replicate, if_pos hn]; rfl
  unfold madeCells
  rw [Array.getElem?_map, Array.getElem?_range, if_pos (by omega)]
  simp only [Option.map_some, hm, hz _ hlt]
  unfold zl
  rw [List.getElem?_replicate, if_pos hk]; rfl
 ·rw [if_neg (by omega), List.getElem?_eq_none (by simp; omega)]; rfl
theorem WSecs.secs {w : World} {g N c : Nat} {S : Nat → List Int} (h : WSecs w g N c S) : Secs w g 0 N S := by
 obtain ⟨cs, h1, h2, h3⟩ := h
 exact ⟨cs, _, _, h1, by omega, fun i hi => by simpa using h3 i hi⟩
theorem ex_root : rootOk exS := ⟨by unfold soundR; rw [exS_1]; decide, by rw [exS_1]; rfl⟩
theorem QRow.two {w : World} {g : Nat} {a b : Int} (h : hat w g = some (.cells #[.int .i64 a, .int .i64 b] 3)) : QRow w (.slice (some ⟨g, 0, none⟩) 2 2) (some g) [a, b] :=
 .inr ⟨g, 0, 2, _, rfl, rfl, h, Nat.le_refl _, Nat.le_refl _, fun j p hj => by
  rcases j with _ | _ | j
  ·simp at hj; subst hj; rfl
  ·simp at hj; subst hj; rfl
  ·simp at hj⟩
noncomputable def lookE (N : Nat) (S : Nat → List Int) : Int := open Classical in
 if N < 8 ∨ 4096 < N then 120 else if (rdSupR (S 0)).2.2 ≠ 0 ∨ (rdSupR (S 0)).1 ≠ N then 120 else if rootOk S then 0 else 121
theorem root_iff (S : Nat → List Int) : rootOk S ↔ (rdInoR (S 1)).2 = 0 ∧ nth (rdInoR (S 1)).1 0 = 2 := by
 unfold rootOk soundR
 simp only [Bool.and_eq_true, decide_eq_true_eq, Bool.not_eq_true', decide_eq_false_iff_not]
 constructor
 ·rintro ⟨⟨h1, h2⟩, h3⟩; exact ⟨h1, h3⟩
 ·rintro ⟨h1, h3⟩; exact ⟨⟨h1, by rw [h3]; decide⟩, h3⟩
theorem lookE_ok {N : Nat} {S : Nat → List Int} (h : lookE N S = 0) : 8 ≤ N ∧ N ≤ 4096 ∧ (rdSupR (S 0)).2.2 = 0 ∧ (rdSupR (S 0)).1 = N ∧ rootOk S := by
 unfold lookE at h
 split at h
 ·cases h
 ·split at h
  ·cases h
  ·split at h
   ·rename_i h1 h2 h3
    refine ⟨by omega, by omega, Decidable.byContradiction fun h4 => h2 (.inl h4), Decidable.byContradiction fun h4 => h2 (.inr h4), h3⟩
   ·cases h
theorem fr_new (w : World) (o : Obj) (ex : List Nat) : Fr ex w (w.alloc o) := fr_below ((Below.refl w.heap.size w).alloc (Nat.le_refl _) _) _
theorem Fr.past {ex ex' : List Nat} {w w' : World} (h : Fr ex w w') (hs : ∀ k ∈ ex, k ∈ ex' ∨ w.heap.size ≤ k) : Fr ex' w w' :=
 ⟨h.os, h.tape, h.output, h.size, fun b hb hn => h.block b hb fun hm => by
  rcases hs b hm with h1 | h1
  ·exact hn h1
  ·omega⟩
def Bools (w : World) (g N : Nat) (s : Int → Bool) : Prop := ∃ cs, hat w g = some (.cells cs 4) ∧ N ≤ cs.size ∧ ∀ j : Nat, j < N → cs[j]? = some (.bool (s j))
theorem Bools.lt {w : World} {g N : Nat} {s : Int → Bool} (h : Bools w g N s) : g < w.heap.size := by
 obtain ⟨cs, h1, -⟩ := h; exact hat_lt h1
theorem Bools.same {w w' : World} {g N : Nat} {s : Int → Bool} (h : Bools w g N s) (he : hat w' g = hat w g) : Bools w' g N s := by
 obtain ⟨cs, h1, h2⟩ := h
 exact ⟨cs, he.trans h1, h2⟩
theorem Bools.put {w : World} {g N : Nat} {s : Int → Bool} (h : Bools w g N s) {p : Nat} (hp : p < N) : Bools (w.setCell ⟨g, p, none⟩ (.bool true)) g N (addS s p) := by
 obtain ⟨cs, h1, h2, h3⟩ := h
 refine ⟨cs.setIfInBounds p (.bool true), hat_setCell_at _ _ _ _ _ _ _ h1, by simpa using h2, fun j hj => ?_⟩
 rw [Array.getElem?_setIfInBounds]
 by_cases hjp : p = j
 ·subst hjp
  rw [if_pos rfl, if_pos (by omega)]
  simp [addS]
 ·rw [if_neg hjp, h3 j hj]
  have : ¬ ((j : Int) = (p : Int)) := by omega
  simp [addS, this]
structure SEnv where
 (g gs cs gi oi N ci : Nat)
 (X Y : Int)
 (S : Nat → List Int)
 ino : Value
structure SG (E : SEnv) (w : World) (seen : Int → Bool) : Prop where
 s : hat w E.g = some (.cells #[.int .i64 E.X, .int .i64 E.Y, .slice (some ⟨E.gi, E.oi, none⟩) E.N E.ci, .slice (some ⟨E.gs, 0, none⟩) E.N E.cs, E.ino] 75)
 b : Bools w E.gs E.N seen
 i : Secs w E.gi E.oi E.N E.S
structure SOk (E : SEnv) : Prop where
 X : E.X = E.N
 N : E.N ≤ 4096
 Y0 : 0 ≤ E.Y
 n1 : E.g ≠ E.gs
 n2 : E.gi ≠ E.gs
theorem SG.fr {E : SEnv} {w w' : World} {seen : Int → Bool} {ex : List Nat} (h : SG E w seen) (hf : Fr ex w w') (h1 : E.g ∉ ex) (h2 : E.gs ∉ ex) (h3 : E.gi ∉ ex) : SG E w' seen :=
 ⟨(hf.block _ (hat_lt h.s) h1).trans h.s, h.b.same (hf.block _ h.b.lt h2), h.i.same (hf.block _ h.i.lt h3)⟩
@[go_sem] theorem ld_super5 (raw : Result Value) (w : World) (a b c d e : Value) (t : TypeId) (fr : Nat × Nat) : ldRow raw 2 0 w (some (.cells #[a, b, c, d, e] t fr)) = .ok (.agg #[a, b]) w := by
 rw [ldRow_part (by simp)]; rfl
def aimW (X Y idx n p : Int) (s : Int → Bool) : Bool := decide (idx < n) && isD X Y p && !s p
def aimS (X Y idx n p : Int) (s : Int → Bool) : Int → Bool := if aimW X Y idx n p s = true then addS s p else s
theorem aim_any {E : SEnv} (hE : SOk E) (p idx n : Int) (seen : Int → Bool) (w : World) (h : SG E w seen) (hp0 : 0 ≤ p) (hp1 : p ≤ 4294967295) :
  Calls Tryz.prog 61 #[.pointer (some ⟨E.g, 0, none⟩), .int .i64 p, .int .i64 idx, .int .i64 n] w fun e w' =>
   e = .returned (.bool (aimW E.X E.Y idx n p seen)) ∧ SG E w' (aimS E.X E.Y idx n p seen) ∧ Fr [E.gs] w w' := by
 have HS := Lib.hid h
 have hs := h.s
 clear h
 cases d1 : decide (n ≤ idx) with
 | true =>
  have d2 : decide (idx < n) = false := by simpa using of_decide_eq_true d1
  have HA : Hid (aimW E.X E.Y idx n p seen = false ∧ aimS E.X E.Y idx n p seen = seen) := Lib.hid (by unfold aimS aimW; rw [d2]; exact ⟨rfl, if_neg (by simp)⟩)
  have d3 : n ≤ idx := of_decide_eq_true d1
  clear d2
  go_enter Tryz.func61, Tryz.ntmps61
  go_wp2_with fail
  go_ret
  exact ⟨by rw [HA.out.1]; rfl, by rw [HA.out.2]; exact HS.out, (Fr.refl _ _)⟩
 | false =>
  have d2 : idx < n := by simpa using of_decide_eq_false d1
  have d3 : ¬ n ≤ idx := by omega
  have HD := Lib.hid (show decide (idx < n) = true from decide_eq_true d2)
  clear d2
  have hz := hat_lt hs
  cases hd : isD E.X E.Y p with
  | false =>
   have HA : Hid (aimW E.X E.Y idx n p seen = false ∧ aimS E.X E.Y idx n p seen = seen) := Lib.hid (by unfold aimS aimW; rw [HD.out, hd]; exact ⟨rfl, if_neg (by simp)⟩)
   clear HD
   go_enter Tryz.func61, Tryz.ntmps61
   go_wp2_with fail
   refine (risData_any E.X E.Y p _).mono ?_; rintro e w1 ⟨rfl, hb⟩
   rw [hd]
   have HF := Lib.hid (fr_below hb [E.gs])
   have HS1 := Lib.hid (HS.out.fr (fr_below hb []) (by simp) (by simp) (by simp))
   clear hb
   go_wp2_with fail
   go_ret
   exact ⟨by rw [HA.out.1]; rfl, by rw [HA.out.2]; exact HS1.out, HF.out⟩
  | true =>
   have hr : 0 ≤ p ∧ p < E.N := by
    unfold isD at hd
    have := of_decide_eq_true hd
    have := hE.Y0
    have := hE.X
    omega
   obtain ⟨pn, rfl⟩ := Int.eq_ofNat_of_zero_le hr.1
   have hpN : pn < E.N := by omega
   have hpi : (pn : Int) < (E.N : Int) := hr.2
   have hsb := HS.out.b
   obtain ⟨cs, hcs, hsz, hall⟩ := hsb
   have hcell := hall pn hpN
   clear hall hr
   cases hv : seen pn with
   | true =>
    rw [hv] at hcell
    have HA : Hid (aimW E.X E.Y idx n pn seen = false ∧ aimS E.X E.Y idx n pn seen = seen) := Lib.hid (by unfold aimS aimW; rw [HD.out, hd, hv]; exact ⟨rfl, if_neg (by simp)⟩)
    clear HD
    go_enter Tryz.func61, Tryz.ntmps61
    go_wp2_with fail
    refine (risData_any E.X E.Y pn _).mono ?_; rintro e w1 ⟨rfl, hb⟩
    rw [hd]
    have HF := Lib.hid (fr_below hb [E.gs])
    have HS1 := Lib.hid (HS.out.fr (fr_below hb []) (by simp) (by simp) (by simp))
    have hs1 := (hop hb hs).1
    have hcs1 := (hop hb hcs).1
    clear hb
    go_wp2_with fail
    go_ret
    exact ⟨by rw [HA.out.1]; rfl, by rw [HA.out.2]; exact HS1.out, HF.out⟩
   | false =>
    rw [hv] at hcell
    have HA : Hid (aimW E.X E.Y idx n pn seen = true ∧ aimS E.X E.Y idx n pn seen = addS seen pn) := Lib.hid (by unfold aimS aimW; rw [HD.out, hd, hv]; exact ⟨rfl, if_pos rfl⟩)
    clear HD
    go_enter Tryz.func61, Tryz.ntmps61
    go_wp2_with fail
    refine (risData_any E.X E.Y pn _).mono ?_; rintro e w1 ⟨rfl, hb⟩
    rw [hd]
    have hf1 := fr_below hb []
    have HS1 := Lib.hid (HS.out.fr hf1 (by simp) (by simp) (by simp))
    have hs1 := (hop hb hs).1
    have hcs1 := (hop hb hcs).1
    have HS2 : Hid (SG E (w1.setCell ⟨E.gs, pn, none⟩ (.bool true)) (addS seen pn)) := Lib.hid ⟨(hat_setCell _ ⟨E.gs, pn, none⟩ _ _ hE.n1).trans HS1.out.s, HS1.out.b.put hpN, HS1.out.i.same (hat_setCell _ ⟨E.gs, pn, none⟩ _ _ hE.n2)⟩
    have HF := Lib.hid ((hf1.mono (ex' := [E.gs]) (by simp)).trans (fr_setCell w1 E.gs pn (.bool true)))
    clear hb hf1
    go_wp2_with fail
    go_ret
    exact ⟨by rw [HA.out.1]; rfl, by rw [HA.out.2]; exact HS2.out, HF.out⟩
def rowW (X Y n base : Int) : Nat → List Int → (Int → Bool) → Option (Int → Bool)
 | _, [], s => some s
 | k, p :: r, s => if p = 0 then rowW X Y n base (k + 1) r s else if aimW X Y (base + k) n p s = true then rowW X Y n base (k + 1) r (addS s p) else none
theorem rowW_cons (X Y n base : Int) (k : Nat) (p : Int) (r : List Int) (s : Int → Bool) : rowW X Y n base k (p :: r) s = if p = 0 then rowW X Y n base (k + 1) r s else if aimW X Y (base + k) n p s = true then rowW X Y n base (k + 1) r (addS s p) else none := rfl
def someL (ps : List Int) : Bool := ps.any fun p => p != 0
def tabW (X Y : Int) (S : Nat → List Int) (n base : Int) (at' : Nat) (s : Int → Bool) : Option (Int → Bool) :=
 match rowW X Y n base 0 (rdPtr (S at')) s with
 | none => none
 | some s' => if someL (rdPtr (S at')) = true then some s' else none
theorem someL_succ {ps : List Int} {k : Nat} {p : Int} (h : ps[k]? = some p) : someL (ps.take (k + 1)) = (someL (ps.take k) || (p != 0)) := by
 unfold someL
 rw [List.take_add_one, h, List.any_append]
 simp
theorem table_w {E : SEnv} (hE : SOk E) (at' : Nat) (base n : Int) (seen : Int → Bool) (w : World) (h : SG E w seen) (ha : at' < E.N) (hb0 : 0 ≤ base) (hb1 : base ≤ 2000) :
  Calls Tryz.prog 62 #[.pointer (some ⟨E.g, 0, none⟩), .int .i64 at', .int .i64 base, .int .i64 n] w fun e w' =>
   e = .returned (.bool (tabW E.X E.Y E.S n base at' seen).isSome) ∧ (∀ s', tabW E.X E.Y E.S n base at' seen = some s' → SG E w' s') ∧ Fr [E.gs] w w' := by
 have HS := Lib.hid h
 have hs := h.s
 obtain ⟨csI, tI, frI, hcI, hlI⟩ := h.i.load ha
 obtain ⟨lI, bI⟩ := h.i.len ha
 have hpb := rdPtr_small bI
 have ha0 : (0 : Int) ≤ (at' : Int) := Int.natCast_nonneg _
 have ha1 : (at' : Int) < (E.N : Int) := by omega
 have HCALL := Lib.hid (fun W => rreadPointers_any (E.S at') lI bI W)
 have hgs := h.b.lt
 clear h bI
 have HP : Hid (∀ e w', e = Ending.returned (.bool (tabW E.X E.Y E.S n base at' seen).isSome) → (∀ s', tabW E.X E.Y E.S n base at' seen = some s' → SG E w' s') → Fr [E.gs] w w' → (e = .returned (.bool (tabW E.X E.Y E.S n base at' seen).isSome) ∧ (∀ s', tabW E.X E.Y E.S n base at' seen = some s' → SG E w' s') ∧ Fr [E.gs] w w')) := Lib.hid (fun e w' a b c => ⟨a, b, c⟩)
 have HTW : Hid (tabW E.X E.Y E.S n base at' seen = match rowW E.X E.Y n base 0 (rdPtr (E.S at')) seen with | none => none | some s' => if someL (rdPtr (E.S at')) = true then some s' else none) := Lib.hid rfl
 have hpl : (rdPtr (E.S at')).length = 32 := by simp
 have HPB := Lib.hid hpb
 clear hpb
 go_enter Tryz.func62, Tryz.ntmps62
 go_wp2_with fail
 refine (HCALL.out _).mono ?_; rintro e w1 ⟨rfl, hb⟩
 generalize hPS : rdPtr (E.S at') = ps at *
 have hgt := (hopN w1 (.cells (IV .i64 ps) 119)).1
 have hf1 : Fr [] w (w1.alloc (.cells (IV .i64 ps) 119)) := (fr_below hb []).trans (fr_new w1 _ _)
 have HSG := Lib.hid (HS.out.fr hf1 (by simp) (by simp) (by simp))
 have HF1 := Lib.hid hf1
 have hgn : w1.heap.size ≠ E.gs := by have := hb.size; omega
 clear hb hf1 hcI hlI lI HCALL
 go_wp2_with fail
 generalize w1.alloc (.cells (IV .i64 ps) 119) = w2 at *
 generalize w1.heap.size = gt at *
 go_loopw [10, 11] (fun sm v wr => ∃ (k : Nat) (s : Int → Bool), v = .int .i64 k ∧ sm = .bool (someL (ps.take k)) ∧ k ≤ 32 ∧ Hid (SG E wr s) ∧ Hid (Fr [E.gs] w2 wr) ∧ Hid (rowW E.X E.Y n base 0 ps seen = rowW E.X E.Y n base k (ps.drop k) s)) (fun _ v _ => 32 - (intOf v).toNat)
 case atStart => exact ⟨0, seen, rfl, rfl, by omega, HSG, Lib.hid (Fr.refl _ _), Lib.hid rfl⟩
 case round =>
  obtain ⟨k, s, rfl, rfl, hk, HG, HF, HE⟩ := hrel
  have hgr := (HF.out.block gt (hat_lt hgt) (by simpa using hgn)).trans hgt
  by_cases hk32 : k < 32
  ·obtain ⟨p, hpk⟩ := getElem_opt (l := ps) (k := k) (by omega)
   have hnp : nth ps k = p := by unfold nth; rw [hpk]; rfl
   subst hnp
   have hk0 : (0 : Int) ≤ (k : Int) := Int.natCast_nonneg _
   have hk1 : (k : Int) < 32 := by omega
   have hpp := HPB.out _ (List.mem_of_getElem? hpk)
   have hE1 := HE.out
   rw [drop_cons hpk, rowW_cons] at hE1
   have HSU := Lib.hid (someL_succ hpk)
   by_cases hp0 : nth ps k = 0
   ·rw [if_pos hp0] at hE1
    have HE2 := Lib.hid hE1
    have d1 : (nth ps k != 0) = false := by simpa using hp0
    have HSM : Hid (someL (ps.take (k + 1)) = someL (ps.take k)) := Lib.hid (by rw [HSU.out, d1, Bool.or_false])
    clear hE1 HSU
    cases hsm : someL (ps.take k)
    all_goals
     go_wp2_with fail
     go_roundw
     case rel => exact ⟨k + 1, s, by go_num, by rw [HSM.out, hsm], by omega, HG, HF, HE2⟩
     case measure => (show 32 - (k + 1) < 32 - k); omega
   ·rw [if_neg hp0] at hE1
    have d1 : (nth ps k != 0) = true := by simpa using hp0
    have HSM : Hid (someL (ps.take (k + 1)) = true) := Lib.hid (by rw [HSU.out, d1, Bool.or_true])
    have HE1 := Lib.hid hE1
    have HC := Lib.hid (aim_any hE (nth ps k) (base + k) n s wr HG.out hpp.1 hpp.2)
    clear hE1 HSU
    go_wp2_with fail
    refine HC.out.mono ?_; rintro e w3 ⟨rfl, hsg, hf3⟩
    have hgr3 := (hf3.block gt (hat_lt hgr) (by simpa using hgn)).trans hgr
    have hgl3 := hat_lt hgr3
    cases haim : aimW E.X E.Y (base + k) n (nth ps k) s with
    | false =>
     have hE2 := HE1.out
     rw [if_neg (by rw [haim]; simp)] at hE2
     have HN : Hid (tabW E.X E.Y E.S n base at' seen = none) := Lib.hid (by rw [HTW.out, hE2])
     have HFF := Lib.hid (((HF1.out.mono (ex' := [E.gs]) (by simp)).trans HF.out).trans hf3)
     clear hE2 hsg hf3 HC
     go_wp2_with fail
     go_ret
     refine HP.out _ _ ?_ (fun s' hs' => by rw [HN.out] at hs'; cases hs') HFF.out
     rw [HN.out]; rfl
    | true =>
     have hE2 := HE1.out
     rw [if_pos haim] at hE2
     have HE2 := Lib.hid hE2
     unfold aimS at hsg
     rw [if_pos haim] at hsg
     have HG3 := Lib.hid hsg
     have HF3 := Lib.hid (HF.out.trans hf3)
     clear hE2 hsg hf3 HC
     cases hsm : someL (ps.take k)
     all_goals
      go_wp2_with fail
      go_roundw
      case rel => exact ⟨k + 1, _, by go_num, by rw [HSM.out], by omega, HG3, HF3, HE2⟩
      case measure => (show 32 - (k + 1) < 32 - k); omega
  ·obtain rfl : k = 32 := by omega
   have hE2 := HE.out
   rw [show ps.drop 32 = [] from List.drop_of_length_le (by omega)] at hE2
   have hT : tabW E.X E.Y E.S n base at' seen = if someL ps = true then some s else none := by rw [HTW.out, hE2]; rfl
   rw [show ps.take 32 = ps from List.take_of_length_le (by omega)]
   have HT := Lib.hid hT
   have HFF := Lib.hid ((HF1.out.mono (ex' := [E.gs]) (by simp)).trans HF.out)
   clear hE2 hT
   go_wp2_with fail
   go_ret
   refine HP.out _ _ ?_ (fun s' hs' => ?_) HFF.out
   ·rw [HT.out]
    cases someL ps <;> rfl
   ·rw [HT.out] at hs'
    split at hs'
    ·cases hs'; exact HG.out
    ·cases hs'
def oneW (X Y n idx p : Int) (f : (Int → Bool) → Option (Int → Bool)) (s : Int → Bool) : Option (Int → Bool) := if p = 0 then some s else if aimW X Y idx n p s = true then f (addS s p) else none
def dblRowW (X Y : Int) (S : Nat → List Int) (n : Int) : Nat → List Int → (Int → Bool) → Option (Int → Bool)
 | _, [], s => some s
 | k, p :: r, s => match oneW X Y n (44 + 32 * k) p (tabW X Y S n (44 + 32 * k) p.toNat) s with | none => none | some s' => dblRowW X Y S n (k + 1) r s'
theorem dblRowW_cons (X Y : Int) (S : Nat → List Int) (n : Int) (k : Nat) (p : Int) (r : List Int) (s : Int → Bool) : dblRowW X Y S n k (p :: r) s = match oneW X Y n (44 + 32 * k) p (tabW X Y S n (44 + 32 * k) p.toNat) s with | none => none | some s' => dblRowW X Y S n (k + 1) r s' := rfl
def dblW (X Y : Int) (S : Nat → List Int) (n : Int) (at' : Nat) (s : Int → Bool) : Option (Int → Bool) :=
 match dblRowW X Y S n 0 (rdPtr (S at')) s with | none => none | some s' => if someL (rdPtr (S at')) = true then some s' else none
def dirL (raw : List Int) : List Int := (raw.drop 4).take 12
def ptrsW (X Y : Int) (S : Nat → List Int) (n : Int) (raw : List Int) (s : Int → Bool) : Option (Int → Bool) :=
 match rowW X Y n 0 0 (dirL raw) s with
 | none => none
 | some s1 => match oneW X Y n 12 (nth raw 16) (tabW X Y S n 12 (nth raw 16).toNat) s1 with
  | none => none
  | some s2 => oneW X Y n 44 (nth raw 17) (dblW X Y S n (nth raw 17).toNat) s2
theorem count_w (raw : List Int) (hr : raw.length = 18) (h0 : 0 ≤ nth raw 2) (h1 : nth raw 2 ≤ 136704) (w : World) :
  Calls Tryz.prog 60 #[.agg (IV .i64 raw)] w fun e w' => e = .returned (.int .i64 (cntX (nth raw 2))) ∧ Below w.heap.size w w' := by
 have hc : (IV .i64 raw)[2]? = some (.int .i64 (nth raw 2)) := by rw [IV_get?, nth_getElem? (by omega)]; rfl
 have HR : Hid (∀ x : Int, x = (nth raw 2 + 127) / 128 → x = cntX (nth raw 2)) := Lib.hid (fun x h => h)
 go_enter Tryz.func60, Tryz.ntmps60
 go_wp2_with fail
 go_ret
 exact ⟨ret_int (HR.out _ (by omega)), (Below.refl _ _).alloc (Nat.le_refl _) _⟩
theorem pointers_w {E : SEnv} (hE : SOk E) (raw : List Int) (hr : raw.length = 18) (hz0 : 0 ≤ nth raw 2) (hz1 : nth raw 2 ≤ 136704) (hp : ∀ p ∈ raw.drop 4, 0 ≤ p ∧ p ≤ 4294967295) (seen : Int → Bool) (w : World) (h : SG E w seen) :
  Calls Tryz.prog 39 #[.pointer (some ⟨E.g, 0, none⟩), .agg (IV .i64 raw)] w fun e w' =>
   e = .returned (.bool (ptrsW E.X E.Y E.S (cntX (nth raw 2)) raw seen).isSome) ∧ (∀ s', ptrsW E.X E.Y E.S (cntX (nth raw 2)) raw seen = some s' → SG E w' s') ∧ Fr [E.gs] w w' := by
 have HS := Lib.hid h
 have hgs := h.b.lt
 have hnn : 0 ≤ cntX (nth raw 2) ∧ cntX (nth raw 2) ≤ 1068 := by unfold cntX; omega
 obtain ⟨hn0, hn1⟩ := hnn
 have HC := Lib.hid (fun W => count_w raw hr hz0 hz1 W)
 have HP := Lib.hid hp
 have hld : ∀ r w' t fr, ldRow r 18 0 w' (some (.cells (IV .i64 raw) t fr)) = .ok (.agg (IV .i64 raw)) w' := fun r w' t fr => by rw [ldRow_part (by simp [hr])]; simp [← hr]
 have hgx := (hopN w (.cells (IV .i64 raw) 78)).1
 have hf1 : Fr [] w (w.alloc (.cells (IV .i64 raw) 78)) := fr_new w _ _
 have hgn : w.heap.size ≠ E.gs := by omega
 clear h hp hz0 hz1
 generalize hN : cntX (nth raw 2) = n at *
 have HPT : Hid (ptrsW E.X E.Y E.S n raw seen = match rowW E.X E.Y n 0 0 (dirL raw) seen with
  | none => none
  | some s1 => match oneW E.X E.Y n 12 (nth raw 16) (tabW E.X E.Y E.S n 12 (nth raw 16).toNat) s1 with
   | none => none
   | some s2 => oneW E.X E.Y n 44 (nth raw 17) (dblW E.X E.Y E.S n (nth raw 17).toNat) s2) := Lib.hid rfl
 generalize hPW : ptrsW E.X E.Y E.S n raw seen = PW at *
 clear hN hPW
 go_enter Tryz.func39, Tryz.ntmps39
 go_wp2_with fail
 refine (HC.out _).mono ?_; rintro e w2 ⟨rfl, hb2⟩
 have hgx2 := (hop hb2 hgx).1
 have hf2 := hf1.trans (fr_below hb2 [])
 have HSG := Lib.hid (HS.out.fr hf2 (by simp) (by simp) (by simp))
 have HF2 := Lib.hid hf2
 have hgl2 := hat_lt hgx2
 generalize w.heap.size = gx at *
 clear hb2 hf1 hf2 hgx HC
 have HDL : Hid (∀ k, k < 12 → (dirL raw)[k]? = some (nth raw (4 + k))) := Lib.hid (fun k hk => by
  unfold dirL
  rw [List.getElem?_take, if_pos hk, List.getElem?_drop, nth_getElem? (by omega)])
 have HPB : Hid (∀ j, 4 ≤ j → j < 18 → 0 ≤ nth raw j ∧ nth raw j ≤ 4294967295) := Lib.hid (fun j h1 h2 => HP.out _ (by
  refine List.mem_iff_getElem?.2 ⟨j - 4, ?_⟩
  rw [List.getElem?_drop, show 4 + (j - 4) = j by omega, nth_getElem? (by omega)]))
 have hdl : (dirL raw).length = 12 := by simp [dirL, hr]
 have HEND : Hid (∀ (b : Bool) W, Fr [E.gs] w W → b = PW.isSome → (∀ s', PW = some s' → SG E W s') → (Ending.returned (.bool b) = Ending.returned (.bool PW.isSome) ∧ (∀ s', PW = some s' → SG E W s') ∧ Fr [E.gs] w W)) := Lib.hid (fun b W h1 h2 h3 => ⟨by rw [h2], h3, h1⟩)
 go_wp2_with fail
 go_loopw [6] (fun v wr => ∃ (k : Nat) (s : Int → Bool), v = .int .i64 k ∧ k ≤ 12 ∧ Hid (SG E wr s) ∧ Hid (Fr [E.gs] w2 wr) ∧ Hid (rowW E.X E.Y n 0 0 (dirL raw) seen = rowW E.X E.Y n 0 k ((dirL raw).drop k) s)) (fun v _ => 12 - (intOf v).toNat)
 case atStart => exact ⟨0, seen, rfl, by omega, HSG, Lib.hid (Fr.refl _ _), Lib.hid rfl⟩
 case round =>
  obtain ⟨k, s, rfl, hk, HG, HF, HE⟩ := hrel
  have hgr := (HF.out.block gx hgl2 (by simpa using hgn)).trans hgx2
  have hgrl := hat_lt hgr
  by_cases hk12 : k < 12
  ·have hpk := HDL.out k hk12
   have hk0 : (0 : Int) ≤ (k : Int) := Int.natCast_nonneg _
   have hk1 : (k : Int) < 12 := by omega
   have hpp := HPB.out (4 + k) (by omega) (by omega)
   have hE1 := HE.out
   rw [drop_cons hpk, rowW_cons, Int.zero_add] at hE1
   have hcell : (IV .i64 raw)[4 + k]? = some (.int .i64 (nth raw (4 + k))) := by rw [IV_get?, nth_getElem? (by omega)]; rfl
   by_cases hp0 : nth raw (4 + k) = 0
   ·rw [if_pos hp0] at hE1
    have HE2 := Lib.hid hE1
    clear hE1
    go_wp2_with fail
    go_roundw
    case rel => exact ⟨k + 1, s, by go_num, by omega, HG, HF, HE2⟩
    case measure => (show 12 - (k + 1) < 12 - k); omega
   ·rw [if_neg hp0] at hE1
    have HE1 := Lib.hid hE1
    have HC := Lib.hid (aim_any hE (nth raw (4 + k)) k n s wr HG.out hpp.1 hpp.2)
    clear hE1
    go_wp2_with fail
    refine HC.out.mono ?_; rintro e w3 ⟨rfl, hsg, hf3⟩
    have hgr3 := (hf3.block gx (hat_lt hgr) (by simpa using hgn)).trans hgr
    have hgl3 := hat_lt hgr3
    cases haim : aimW E.X E.Y k n (nth raw (4 + k)) s with
    | false =>
     have hE2 := HE1.out
     rw [if_neg (by rw [haim]; simp)] at hE2
     have HN : Hid (PW = none) := Lib.hid (by rw [HPT.out, hE2])
     have HFF := Lib.hid (((HF2.out.mono (ex' := [E.gs]) (by simp)).trans HF.out).trans hf3)
     clear hE2 hsg hf3 HC
     go_wp2_with fail
     go_ret
     refine HEND.out false _ HFF.out ?_ (fun s' hs' => by rw [HN.out] at hs'; cases hs')
     rw [HN.out]; rfl
    | true =>
     have hE2 := HE1.out
     rw [if_pos haim] at hE2
     have HE2 := Lib.hid hE2
     unfold aimS at hsg
     rw [if_pos haim] at hsg
     have HG3 := Lib.hid hsg
     have HF3 := Lib.hid (HF.out.trans hf3)
     clear hE2 hsg hf3 HC
     go_wp2_with fail
     go_roundw
     case rel => exact ⟨k + 1, _, by go_num, by omega, HG3, HF3, HE2⟩
     case measure => (show 12 - (k + 1) < 12 - k); omega
  ·obtain rfl : k = 12 := by omega
   have hE2 := HE.out
   rw [show (dirL raw).drop 12 = [] from List.drop_of_length_le (by omega)] at hE2
   have hPT := HPT.out
   rw [hE2] at hPT
   have HPT2 : Hid (PW = match oneW E.X E.Y n 12 (nth raw 16) (tabW E.X E.Y E.S n 12 (nth raw 16).toNat) s with
    | none => none
    | some s2 => oneW E.X E.Y n 44 (nth raw 17) (dblW E.X E.Y E.S n (nth raw 17).toNat) s2) := Lib.hid hPT
   have HFA := Lib.hid ((HF2.out.mono (ex' := [E.gs]) (by simp)).trans HF.out)
   have hc16 : (IV .i64 raw)[16]? = some (.int .i64 (nth raw 16)) := by rw [IV_get?, nth_getElem? (by omega)]; rfl
   have hc17 : (IV .i64 raw)[17]? = some (.int .i64 (nth raw 17)) := by rw [IV_get?, nth_getElem? (by omega)]; rfl
   have hp16 := HPB.out 16 (by omega) (by omega)
   have hp17 := HPB.out 17 (by omega) (by omega)
   clear hE2 hPT HPT HE HDL HF2 HSG hgx2 hgl2
   go_upto_region 7 with fail
   go_cut [50] from 10 (fun b wx => ∃ c : Bool, b = .bool c ∧ Hid (Fr [E.gs] wr wx) ∧ Hid ((c = false ∧ ∃ s2, oneW E.X E.Y n 12 (nth raw 16) (tabW E.X E.Y E.S n 12 (nth raw 16).toNat) s = some s2 ∧ SG E wx s2) ∨ (c = true ∧ oneW E.X E.Y n 12 (nth raw 16) (tabW E.X E.Y E.S n 12 (nth raw 16).toNat) s = none)))
   case first =>
    by_cases h16 : nth raw 16 = 0
    ·have d16 : (nth raw 16 != 0) = false := by simpa using h16
     go_wp2_with fail
     go_meet
     case rel => exact ⟨false, rfl, Lib.hid (Fr.refl _ _), Lib.hid (.inl ⟨rfl, s, by unfold oneW; rw [if_pos h16], HG.out⟩)⟩
    ·have d16 : (nth raw 16 != 0) = true := by simpa using h16
     have HC := Lib.hid (aim_any hE (nth raw 16) 12 n s wr HG.out hp16.1 hp16.2)
     go_wp2_with fail
     refine HC.out.mono ?_; rintro e w3 ⟨rfl, hsg, hf3⟩
     have hgr3 := (hf3.block gx (hat_lt hgr) (by simpa using hgn)).trans hgr
     have hgl3 := hat_lt hgr3
     cases haim : aimW E.X E.Y 12 n (nth raw 16) s with
     | false =>
      have HF3 := Lib.hid hf3
      clear hsg hf3 HC
      go_wp2_with fail
      go_meet
      case rel => exact ⟨true, rfl, HF3, Lib.hid (.inr ⟨rfl, by unfold oneW; rw [if_neg h16, if_neg (by rw [haim]; simp)]⟩)⟩
     | true =>
      unfold aimS at hsg
      rw [if_pos haim] at hsg
      have HF3 := Lib.hid hf3
      have hlt : (nth raw 16).toNat < E.N ∧ ((nth raw 16).toNat : Int) = nth raw 16 := by
       have hd : isD E.X E.Y (nth raw 16) = true := by
        unfold aimW at haim
        simp only [Bool.and_eq_true] at haim
        exact haim.1.2
       unfold isD at hd
       have := of_decide_eq_true hd
       have := hE.X
       omega
      have hcall := table_w hE (nth raw 16).toNat 12 n (addS s (nth raw 16)) w3 hsg hlt.1 (by omega) (by omega)
      rw [hlt.2] at hcall
      have HC2 := Lib.hid hcall
      clear hsg hf3 HC hcall hlt
      go_wp2_with fail
      refine HC2.out.mono ?_; rintro e w4 ⟨rfl, hsg4, hf4⟩
      have HF4 := Lib.hid (HF3.out.trans hf4)
      cases hT : tabW E.X E.Y E.S n 12 (nth raw 16).toNat (addS s (nth raw 16)) with
      | none =>
       clear hsg4 hf4 HC2
       simp only [Option.isSome_none]
       go_wp2_with fail
       go_meet
       case rel => exact ⟨true, rfl, HF4, Lib.hid (.inr ⟨rfl, by unfold oneW; rw [if_neg h16, if_pos haim, hT]⟩)⟩
      | some s4 =>
       have HG4 := Lib.hid (hsg4 s4 hT)
       clear hsg4 hf4 HC2
       simp only [Option.isSome_some]
       go_wp2_with fail
       go_meet
       case rel => exact ⟨false, rfl, HF4, Lib.hid (.inl ⟨rfl, s4, by unfold oneW; rw [if_neg h16, if_pos haim, hT], HG4.out⟩)⟩
   case rest =>
    obtain ⟨c, rfl, HFc, HOR⟩ := hcut
    have HFT := Lib.hid (HFA.out.trans HFc.out)
    have hgrc := (HFc.out.block gx hgrl (by simpa using hgn)).trans hgr
    have hgcl := hat_lt hgrc
    cases c with
    | true =>
     have HN : Hid (PW = none) := Lib.hid (by
      rw [HPT2.out]
      rcases HOR.out with ⟨h, -⟩ | ⟨-, h⟩
      ·cases h
      ·rw [h])
     clear HOR
     go_wp2_with fail
     go_ret
     refine HEND.out false _ HFT.out ?_ (fun s' hs' => by rw [HN.out] at hs'; cases hs')
     rw [HN.out]; rfl
    | false =>
     obtain ⟨s2, HSS⟩ : ∃ s2, Hid (PW = oneW E.X E.Y n 44 (nth raw 17) (dblW E.X E.Y E.S n (nth raw 17).toNat) s2 ∧ SG E wc s2) := by
      rcases HOR.out with ⟨-, s2, h1, h2⟩ | ⟨h, -⟩
      ·exact ⟨s2, Lib.hid ⟨by rw [HPT2.out, h1], h2⟩⟩
      ·cases h
     clear HOR
     by_cases h17 : nth raw 17 = 0
     ·have d17 : (nth raw 17 == 0) = true := by simpa using h17
      have HN : Hid (PW = some s2) := Lib.hid (by rw [HSS.out.1]; unfold oneW; rw [if_pos h17])
      go_wp2_with fail
      go_ret
      refine HEND.out true _ HFT.out ?_ (fun s' hs' => by rw [HN.out] at hs'; cases hs'; exact HSS.out.2)
      rw [HN.out]; rfl
     ·have d17 : (nth raw 17 == 0) = false := by simpa using h17
      have HC := Lib.hid (aim_any hE (nth raw 17) 44 n s2 wc HSS.out.2 hp17.1 hp17.2)
      go_wp2_with fail
      refine HC.out.mono ?_; rintro e w3 ⟨rfl, hsg, hf3⟩
      have hgr3 := (hf3.block gx (hat_lt hgrc) (by simpa using hgn)).trans hgrc
      have hgl3 := hat_lt hgr3
      have HF3 := Lib.hid (HFT.out.trans hf3)
      cases haim : aimW E.X E.Y 44 n (nth raw 17) s2 with
      | false =>
       have HN : Hid (PW = none) := Lib.hid (by rw [HSS.out.1]; unfold oneW; rw [if_neg h17, if_neg (by rw [haim]; simp)])
       clear hsg hf3 HC
       go_wp2_with fail
       go_ret
       refine HEND.out false _ HF3.out ?_ (fun s' hs' => by rw [HN.out] at hs'; cases hs')
       rw [HN.out]; rfl
      | true =>
       unfold aimS at hsg
       rw [if_pos haim] at hsg
       have hlt : (nth raw 17).toNat < E.N ∧ ((nth raw 17).toNat : Int) = nth raw 17 := by
        have hd : isD E.X E.Y (nth raw 17) = true := by
         unfold aimW at haim
         simp only [Bool.and_eq_true] at haim
         exact haim.1.2
        unfold isD at hd
        have := of_decide_eq_true hd
        have := hE.X
        omega
       have HPW : Hid (PW = dblW E.X E.Y E.S n (nth raw 17).toNat (addS s2 (nth raw 17))) := Lib.hid (by rw [HSS.out.1]; unfold oneW; rw [if_neg h17, if_pos haim])
       have HG3 := Lib.hid hsg
       have hs3 := hsg.s
       obtain ⟨csI, tI, frI, hcI, hlI⟩ := hsg.i.load hlt.1
       obtain ⟨lI, bI⟩ := hsg.i.len hlt.1
       have HPB2 := Lib.hid (rdPtr_small bI)
       have HRP := Lib.hid (fun W => rreadPointers_any (E.S (nth raw 17).toNat) lI bI W)
       have hps : (rdPtr (E.S (nth raw 17).toNat)).length = 32 := by simp
       obtain ⟨hlt1, hlt2⟩ := hlt
       have hat0 : (0 : Int) ≤ nth raw 17 := hp17.1
       have hat1 : nth raw 17 < (E.N : Int) := by omega
       generalize hA17 : (nth raw 17).toNat = at' at *
       have hat2 : nth raw 17 = (at' : Int) := hlt2.symm
       have hsl3 := hat_lt hs3
       have hcl3 := hat_lt hcI
       clear hsg hf3 HC bI hlt2 hA17
       go_wp2_with fail
       refine wp_region_G (by kernel_rfl) 10 (by decide) rfl (fun W => Below w3.heap.size w3 W) (fun W W' => Below W.heap.size W W') (fun i v W => match i with | 0 => v = (.pointer (some ⟨E.g, 0, none⟩)) | 1 => v = (.pointer (some ⟨E.g, 0, none⟩)) | 2 => v = (.pointer (some ⟨E.g, 2, none⟩)) | 3 => v = (.slice (some ⟨E.gi, E.oi, none⟩) E.N E.ci) | 4 => v = (.pointer (some ⟨gx, 17, none⟩)) | 5 => v = (.int .i64 (at' : Int)) | 6 => v = (.pointer (some ⟨E.gi, E.oi + at' * 128, none⟩)) | 7 => v = (.agg (IV .u8 (E.S at'))) | 8 => v = (.agg (IV .i64 (rdPtr (E.S at')))) | _ => ∃ g7, v = .pointer (some ⟨g7, 0, none⟩) ∧ w3.heap.size ≤ g7 ∧ hat W g7 = some (.cells (IV .i64 (zl 32)) 119)) ((Below.refl _ _).drew) ?_ ?_ ?_
       ·intro i v wa wb hi _ _ hE5 hG
        have hi' : i = 0 ∨ i = 1 ∨ i = 2 ∨ i = 3 ∨ i = 4 ∨ i = 5 ∨ i = 6 ∨ i = 7 ∨ i = 8 ∨ i = 9 := by omega
        rcases hi' with rfl | rfl | rfl | rfl | rfl | rfl | rfl | rfl | rfl | rfl <;> try exact hG
        obtain ⟨g7, q1, q2, q3⟩ := hG
        exact ⟨g7, q1, q2, (hop hE5 q3).1⟩
       ·intro i o hi ho a' w' hB hS hF
        have hi' : i = 0 ∨ i = 1 ∨ i = 2 ∨ i = 3 ∨ i = 4 ∨ i = 5 ∨ i = 6 ∨ i = 7 ∨ i = 8 ∨ i = 9 := by omega
        have hs5 := (hop hB hs3).1
        have hg5 := (hop hB hgr3).1
        have hI5 := (hop hB hcI).1
        have hat0' : (0 : Int) ≤ (at' : Int) := Int.natCast_nonneg _
        have hc17' : (IV .i64 raw)[17]? = some (.int .i64 (at' : Int)) := by rw [hc17, hat2]
        rcases hi' with rfl | rfl | rfl | rfl | rfl | rfl | rfl | rfl | rfl | rfl
        all_goals (have ho' := Option.some.inj ho; subst ho')
        ·have q0 : a'.tmps[0]?.getD undef = (.pointer (some ⟨E.g, 0, none⟩)) := gtx ((hS 0 (by decide)).trans rfl)
         refine wpOp_val rfl rfl (v := (.pointer (some ⟨E.g, 0, none⟩))) (w1 := w') ?_ ⟨_, rfl, hB, Below.refl _ _, rfl⟩
         simp [go_sem, q0]
        ·have q60 : a'.tmps[60]?.getD undef = (.pointer (some ⟨E.g, 0, none⟩)) := gtx ((hF 0 (by decide) _ 60 rfl rfl).trans rfl)
         refine wpOp_val rfl rfl (v := (.pointer (some ⟨E.g, 0, none⟩))) (w1 := w') ?_ ⟨_, rfl, hB, Below.refl _ _, rfl⟩
         simp [go_sem, q60]
        ·have q61 : a'.tmps[61]?.getD undef = (.pointer (some ⟨E.g, 0, none⟩)) := gtx ((hF 1 (by decide) _ 61 rfl rfl).trans rfl)
         refine wpOp_val rfl rfl (v := (.pointer (some ⟨E.g, 2, none⟩))) (w1 := w') ?_ ⟨_, rfl, hB, Below.refl _ _, rfl⟩
         simp [go_sem, q61]
        ·have q62 : a'.tmps[62]?.getD undef = (.pointer (some ⟨E.g, 2, none⟩)) := gtx ((hF 2 (by decide) _ 62 rfl rfl).trans rfl)
         refine wpOp_val rfl rfl (v := (.slice (some ⟨E.gi, E.oi, none⟩) E.N E.ci)) (w1 := w') ?_ ⟨_, rfl, hB, Below.refl _ _, rfl⟩
         simp [go_sem, q62, hs5]
        ·have q3 : a'.tmps[3]?.getD undef = (.pointer (some ⟨gx, 0, none⟩)) := gtx ((hS 3 (by decide)).trans rfl)
         refine wpOp_val rfl rfl (v := (.pointer (some ⟨gx, 17, none⟩))) (w1 := w') ?_ ⟨_, rfl, hB, Below.refl _ _, rfl⟩
         simp [go_sem, q3]
        ·have q64 : a'.tmps[64]?.getD undef = (.pointer (some ⟨gx, 17, none⟩)) := gtx ((hF 4 (by decide) _ 64 rfl rfl).trans rfl)
         refine wpOp_val rfl rfl (v := (.int .i64 (at' : Int))) (w1 := w') ?_ ⟨_, rfl, hB, Below.refl _ _, rfl⟩
         simp [go_sem, q64, hg5, hc17']
        ·have q63 : a'.tmps[63]?.getD undef = (.slice (some ⟨E.gi, E.oi, none⟩) E.N E.ci) := gtx ((hF 3 (by decide) _ 63 rfl rfl).trans rfl)
         have q65 : a'.tmps[65]?.getD undef = (.int .i64 (at' : Int)) := gtx ((hF 5 (by decide) _ 65 rfl rfl).trans rfl)
         refine wpOp_val rfl rfl (v := (.pointer (some ⟨E.gi, E.oi + at' * 128, none⟩))) (w1 := w') ?_ ⟨_, rfl, hB, Below.refl _ _, rfl⟩
         simp [go_sem, q63, q65, hlt1, hat0']
        ·have q66 : a'.tmps[66]?.getD undef = (.pointer (some ⟨E.gi, E.oi + at' * 128, none⟩)) := gtx ((hF 6 (by decide) _ 66 rfl rfl).trans rfl)
         refine wpOp_val rfl rfl (v := (.agg (IV .u8 (E.S at')))) (w1 := w') ?_ ⟨_, rfl, hB, Below.refl _ _, rfl⟩
         simp [go_sem, q66, hI5, hlI]
        ·have q67 : a'.tmps[67]?.getD undef = (.agg (IV .u8 (E.S at'))) := gtx ((hF 7 (by decide) _ 67 rfl rfl).trans rfl)
         refine wpOp_call (f := 63) (args := #[.agg (IV .u8 (E.S at'))]) rfl rfl (by simp [go_sem, q67]) (HRP.out w') ?_
         rintro e w'' ⟨rfl, hb'⟩
         exact ⟨_, rfl, _, rfl, below_call hB hb' hB.size, hb', rfl⟩
        ·refine wpOp_val rfl rfl (v := .pointer (some ⟨w'.heap.size, 0, none⟩)) (w1 := w'.alloc (.cells (IV .i64 (zl 32)) 119)) ?_ ⟨_, rfl, below_new hB hB.size _, (Below.refl _ _).alloc (Nat.le_refl _) _, _, rfl, hB.size, (hopN w' _).1⟩
         simp [go_sem]
       ·intro val w5 hB5 hF
        have y0 := hF 0 _ 60 (by decide) rfl rfl
        have y1 := hF 1 _ 61 (by decide) rfl rfl
        have y2 := hF 2 _ 62 (by decide) rfl rfl
        have y3 := hF 3 _ 63 (by decide) rfl rfl
        have y4 := hF 4 _ 64 (by decide) rfl rfl
        have y5 := hF 5 _ 65 (by decide) rfl rfl
        have y6 := hF 6 _ 66 (by decide) rfl rfl
        have y7 := hF 7 _ 67 (by decide) rfl rfl
        have y8 := hF 8 _ 68 (by decide) rfl rfl
        obtain ⟨gt, y9, hgt0, hgt5⟩ := hF 9 _ 7 (by decide) rfl rfl
        simp only [] at y0 y1 y2 y3 y4 y5 y6 y7 y8
        simp only [putAll, List.take, List.drop, List.take_succ_cons, List.drop_succ_cons, y0, y1, y2, y3, y4, y5, y6, y7, y8, y9, Act.put, List.setIfInBounds_toArray, List.set_cons_zero, List.set_cons_succ]
        clear y0 y1 y2 y3 y4 y5 y6 y7 y8 y9 hF
        have HG5 := Lib.hid (HG3.out.fr (fr_below hB5 []) (by simp) (by simp) (by simp))
        have HF5 := Lib.hid (HF3.out.trans (fr_below hB5 [E.gs]))
        have hgtl := hat_lt hgt5
        have hgsl := HG3.out.b.lt
        clear hB5 hs3 hgr3 hcI hlI lI HRP hgl3 hsl3 hcl3
        go_wp2_with fail
        have h6 : hat (w5.setRow gt (IV .i64 (rdPtr (E.S at')))) gt = some (.cells (IV .i64 (rdPtr (E.S at'))) 119) := hat_setRow_at _ _ _ _ _ _ hgt5
        have hf6 : Fr [gt] w5 (w5.setRow gt (IV .i64 (rdPtr (E.S at')))) := fr_setRow _ _ _
        have hgg : gt ≠ E.gs := by omega
        have hsg6 : SG E (w5.setRow gt (IV .i64 (rdPtr (E.S at')))) (addS s2 (nth raw 17)) := HG5.out.fr hf6 (by simp; have := HG3.out.s; have := hat_lt this; omega) (by simpa using Ne.symm hgg) (by simp; have := HG3.out.i.lt; omega)
        have HG6 := Lib.hid hsg6
        have HDW : Hid (PW = match dblRowW E.X E.Y E.S n 0 (rdPtr (E.S at')) (addS s2 (nth raw 17)) with | none => none | some s' => if someL (rdPtr (E.S at')) = true then some s' else none) := Lib.hid (HPW.out)
        have HF6 : Hid (Fr [E.gs, gt] w (w5.setRow gt (IV .i64 (rdPtr (E.S at'))))) := Lib.hid ((HF5.out.mono (ex' := [E.gs, gt]) (by simp)).trans (hf6.mono (by simp)))
        have HW0 : Hid (w.heap.size ≤ gt) := Lib.hid (by have := HF3.out.size; omega)
        clear hf6 hsg6 hgt5 hgtl
        generalize w5.setRow gt (IV .i64 (rdPtr (E.S at'))) = w6 at *
        generalize hPS : rdPtr (E.S at') = ps at *
        go_loopw [8, 9] (fun sm v wr => ∃ (k : Nat) (s : Int → Bool), v = .int .i64 k ∧ sm = .bool (someL (ps.take k)) ∧ k ≤ 32 ∧ Hid (SG E wr s) ∧ Hid (Fr [E.gs] w6 wr) ∧ Hid (dblRowW E.X E.Y E.S n 0 ps (addS s2 (nth raw 17)) = dblRowW E.X E.Y E.S n k (ps.drop k) s)) (fun _ v _ => 32 - (intOf v).toNat)
        case atStart => exact ⟨0, addS s2 (nth raw 17), rfl, rfl, by omega, HG6, Lib.hid (Fr.refl _ _), Lib.hid rfl⟩
        case round =>
         obtain ⟨k, s3, rfl, rfl, hk, HGk, HFk, HEk⟩ := hrel
         have hgk := (HFk.out.block gt (hat_lt h6) (by simpa using hgg)).trans h6
         have HFALL : Hid (∀ W, Fr [E.gs] w6 W → Fr [E.gs] w W) := Lib.hid (fun W hW => ((HF6.out.trans (hW.mono (by simp))).past (ex' := [E.gs]) (by simp; exact .inr HW0.out)))
         by_cases hk32 : k < 32
         ·obtain ⟨p, hpk⟩ := getElem_opt (l := ps) (k := k) (by omega)
          have hnp : nth ps k = p := by unfold nth; rw [hpk]; rfl
          subst hnp
          have hk0 : (0 : Int) ≤ (k : Int) := Int.natCast_nonneg _
          have hk1 : (k : Int) < 32 := by omega
          have hpp := HPB2.out _ (List.mem_of_getElem? hpk)
          have hE1 := HEk.out
          rw [drop_cons hpk, dblRowW_cons] at hE1
          have HE1 := Lib.hid hE1
          have HSU := Lib.hid (someL_succ hpk)
          clear hE1
          by_cases hp0 : nth ps k = 0
          ·have HE2 : Hid (dblRowW E.X E.Y E.S n 0 ps (addS s2 (nth raw 17)) = dblRowW E.X E.Y E.S n (k + 1) (ps.drop (k + 1)) s3) := Lib.hid (by rw [HE1.out]; unfold oneW; rw [if_pos hp0])
           have d1 : (nth ps k != 0) = false := by simpa using hp0
           have HSM : Hid (someL (ps.take (k + 1)) = someL (ps.take k)) := Lib.hid (by rw [HSU.out, d1, Bool.or_false])
           clear HE1 HSU
           cases hsm : someL (ps.take k)
           all_goals
            go_wp2_with fail
            go_roundw
            case rel => exact ⟨k + 1, s3, by go_num, by rw [HSM.out, hsm], by omega, HGk, HFk, HE2⟩
            case measure => (show 32 - (k + 1) < 32 - k); omega
          ·have d1 : (nth ps k != 0) = true := by simpa using hp0
           have HSM : Hid (someL (ps.take (k + 1)) = true) := Lib.hid (by rw [HSU.out, d1, Bool.or_true])
           have HC := Lib.hid (aim_any hE (nth ps k) (44 + 32 * k) n s3 wr HGk.out hpp.1 hpp.2)
           clear HSU
           go_wp2_with fail
           refine HC.out.mono ?_; rintro e w7 ⟨rfl, hsg, hf7⟩
           have hgk7 := (hf7.block gt (hat_lt hgk) (by simpa using hgg)).trans hgk
           have hgl7 := hat_lt hgk7
           have HF7 := Lib.hid (HFk.out.trans hf7)
           cases haim2 : aimW E.X E.Y (44 + 32 * k) n (nth ps k) s3 with
           | false =>
            have HN : Hid (PW = none) := Lib.hid (by rw [HDW.out, HE1.out]; unfold oneW; rw [if_neg hp0, if_neg (by rw [haim2]; simp)])
            have HFF := Lib.hid (HFALL.out _ HF7.out)
            clear hsg hf7 HC
            go_wp2_with fail
            go_ret
            refine HEND.out false _ HFF.out ?_ (fun s' hs' => by rw [HN.out] at hs'; cases hs')
            rw [HN.out]; rfl
           | true =>
            unfold aimS at hsg
            rw [if_pos haim2] at hsg
            have hlt : (nth ps k).toNat < E.N ∧ ((nth ps k).toNat : Int) = nth ps k := by
             have hd : isD E.X E.Y (nth ps k) = true := by
              unfold aimW at haim2
              simp only [Bool.and_eq_true] at haim2
              exact haim2.1.2
             unfold isD at hd
             have := of_decide_eq_true hd
             have := hE.X
             omega
            have hcall := table_w hE (nth ps k).toNat (44 + 32 * k) n (addS s3 (nth ps k)) w7 hsg hlt.1 (by omega) (by omega)
            rw [hlt.2] at hcall
            have HC2 := Lib.hid hcall
            clear hsg hf7 HC hcall hlt
            go_wp2_with fail
            refine HC2.out.mono ?_; rintro e w8 ⟨rfl, hsg8, hf8⟩
            have HF8 := Lib.hid (HF7.out.trans hf8)
            have hgk8 := (hf8.block gt (hat_lt hgk7) (by simpa using hgg)).trans hgk7
            have hgl8 := hat_lt hgk8
            cases hT : tabW E.X E.Y E.S n (44 + 32 * k) (nth ps k).toNat (addS s3 (nth ps k)) with
            | none =>
             have HN : Hid (PW = none) := Lib.hid (by rw [HDW.out, HE1.out]; unfold oneW; rw [if_neg hp0, if_pos haim2, hT])
             have HFF := Lib.hid (HFALL.out _ HF8.out)
             clear hsg8 hf8 HC2
             simp only [Option.isSome_none]
             go_wp2_with fail
             go_ret
             refine HEND.out false _ HFF.out ?_ (fun s' hs' => by rw [HN.out] at hs'; cases hs')
             rw [HN.out]; rfl
            | some s4 =>
             have HG8 := Lib.hid (hsg8 s4 hT)
             have HE2 : Hid (dblRowW E.X E.Y E.S n 0 ps (addS s2 (nth raw 17)) = dblRowW E.X E.Y E.S n (k + 1) (ps.drop (k + 1)) s4) := Lib.hid (by rw [HE1.out]; unfold oneW; rw [if_neg hp0, if_pos haim2, hT])
             clear hsg8 hf8 HC2
             simp only [Option.isSome_some]
             cases hsm : someL (ps.take k)
             all_goals
              go_wp2_with fail
              go_roundw
              case rel => exact ⟨k + 1, s4, by go_num, by rw [HSM.out], by omega, HG8, HF8, HE2⟩
              case measure => (show 32 - (k + 1) < 32 - k); omega
         ·obtain rfl : k = 32 := by omega
          have hE2 := HEk.out
          rw [show ps.drop 32 = [] from List.drop_of_length_le (by omega)] at hE2
          have hT : PW = if someL ps = true then some s3 else none := by rw [HDW.out, hE2]; rfl
          rw [show ps.take 32 = ps from List.take_of_length_le (by omega)]
          have HT := Lib.hid hT
          have HFF := Lib.hid (HFALL.out _ HFk.out)
          clear hE2 hT
          go_wp2_with fail
          go_ret
          refine HEND.out (someL ps) _ HFF.out ?_ (fun s' hs' => ?_)
          ·rw [HT.out]
           cases someL ps <;> rfl
          ·rw [HT.out] at hs'
           split at hs'
           ·cases hs'; exact HGk.out
           ·cases hs'
end Go.Proofs.YtmnecpnkkapflaaGreat
