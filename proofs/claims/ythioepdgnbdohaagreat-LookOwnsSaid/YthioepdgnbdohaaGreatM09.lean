import Derived.Laws.MakeOwn
import Derived.Test.YthioepdgnbdohaaGreatM04
import Derived.Test.YthioepdgnbdohaaGreatM05
import Derived.Test.YthioepdgnbdohaaGreatM08
namespace Go.Proofs.YthioepdgnbdohaaGreat
set_option maxHeartbeats 16000000
set_option maxRecDepth 1000000
set_option linter.unusedSimpArgs false
set_option linter.unusedVariables false
open Go.RowKit
def Fm (S : Nat -> List Int) : Prop := Cj (S 1) = true /\ nth (Al (S 1)).1 0 = 2
def Z5 (w w' : World) (N : Nat) (X Y : Int) (S : Nat -> List Int) (e : Ending) : Prop :=
 ∃ gw cw v1 v2 v3 o1 o2 o3, e = .returned (.tuple #[.agg #[.slice (some ⟨gw, 0, none⟩) N cw, v1, v2, v3], .int .i64 0]) /\ Cf w' gw N cw (Dn Y (Dc X Y S)) /\
  Bc w' v1 o1 (Gw N Y (Dn Y (Dc X Y S)) S (Dc X Y S).st.fm) /\ Bc w' v2 o2 (Dk fun p => ((Dc X Y S).T p.toNat).isSome) /\ Bc w' v3 o3 (Dk (Dc X Y S).st.cl) /\
  Below w.heap.size w w' /\ w.heap.size <= gw /\ Z6 (gw + 1) [o1, o2, o3]
structure Yc (N cw : Nat) (S : Nat -> List Int) (w0 w : World) (gw bc bt bf : Nat) : Prop where
 gw0 : w0.heap.size <= gw
 bc0 : w0.heap.size <= bc
 bt0 : w0.heap.size <= bt
 bf0 : w0.heap.size <= bf
 ws : Cf w gw N cw S
 c : hat w bc = some (.map #[] 0)
 t : hat w bt = some (.map #[] 0)
 f : hat w bf = some (.map #[] 0)
 n1 : gw ≠ bc
 n2 : gw ≠ bt
 n3 : gw ≠ bf
 n4 : bc ≠ bt
 n5 : bc ≠ bf
 n6 : bt ≠ bf
theorem Yc.fr {N cw : Nat} {S : Nat -> List Int} {w0 w w' : World} {gw bc bt bf : Nat} (h : Yc N cw S w0 w gw bc bt bf) (hf : Fr [] w w') : Yc N cw S w0 w' gw bc bt bf := by
 obtain ⟨cs, h5, -⟩ := id h.ws;exact ⟨h.gw0, h.bc0, h.bt0, h.bf0, h.ws.same (hf.block _ (Aa h5) (by simp)), (hf.block _ (Aa h.c) (by simp)).trans h.c, (hf.block _ (Aa h.t) (by simp)).trans h.t, (hf.block _ (Aa h.f) (by simp)).trans h.f, h.n1, h.n2, h.n3, h.n4, h.n5, h.n6⟩
def lT (X Y : Int) (gi oi N ci : Nat) (S : Nat -> List Int) (w0 : World) (i : Nat) (v : Value) (own : Nat -> Option Nat) (w' : World) : Prop :=
 match i with
 | 0 => v = .agg #[.int .i64 X, .int .i64 Y]
 | 1 => v = .slice (some ⟨gi, oi, none⟩) N ci
 | 2 => v = .slice (some ⟨gi, oi, none⟩) N ci
 | 3 => ∃ g cw, v = .slice (some ⟨g, 0, none⟩) N cw /\ w0.heap.size <= g /\ Cf w' g N cw S /\ own g = some 3
 | 4 => ∃ b, v = .map (some b) /\ w0.heap.size <= b /\ hat w' b = some (.map #[] 0) /\ own b = some 4
 | 5 => ∃ b, v = .map (some b) /\ w0.heap.size <= b /\ hat w' b = some (.map #[] 0) /\ own b = some 5
 | 6 => ∃ b, v = .map (some b) /\ w0.heap.size <= b /\ hat w' b = some (.map #[] 0) /\ own b = some 6
 | 7 => ∃ gw cw bc bt bf, v = .agg (Bt X Y (.slice (some ⟨gi, oi, none⟩) N ci) gw N cw bc bt bf .nilFunc) /\ Yc N cw S w0 w' gw bc bt bf
 | _ => ∃ gl gw cw bc bt bf, v = .pointer (some ⟨gl, 0, none⟩) /\ hat w' gl = some (.cells (Bt X Y (.slice (some ⟨gi, oi, none⟩) N ci) gw N cw bc bt bf .nilFunc) 62) /\ Yc N cw S w0 w' gw bc bt bf /\ w0.heap.size <= gl /\ gl ∉ [gw, bc, bt, bf]
def Za (w0 : World) (own : Nat -> Option Nat) (w' : World) : Prop := Fr [] w0 w' /\ ∀ b i, own b = some i -> b < w'.heap.size
def Y8 (own : Nat -> Option Nat) (w : World) (own' : Nat -> Option Nat) (w' : World) : Prop := Fr [] w w' /\ ∀ b i, own b = some i -> own' b = some i
def Iu (own : Nat -> Option Nat) (b i : Nat) : Nat -> Option Nat := fun k => if k = b then some i else own k
theorem Gg {w0 w w' : World} {own : Nat -> Option Nat} (h : Za w0 own w) (hf : Fr [] w w') {b : Nat} (hb : b < w'.heap.size) (i : Nat) : Za w0 (Iu own b i) w' := by
 refine ⟨h.1.trans hf, fun k j hk => ?_⟩;unfold Iu at hk;split at hk
 ·rename_i e; subst e; exact hb
 ·exact Nat.lt_of_lt_of_le (h.2 k j hk) hf.size
theorem Gf {w0 w w' : World} {own : Nat -> Option Nat} (h : Za w0 own w) (hf : Fr [] w w') {b : Nat} (hb : w.heap.size <= b) (i : Nat) : Y8 own w (Iu own b i) w' := by
 refine ⟨hf, fun k j hk => ?_⟩;unfold Iu;rw [if_neg (fun e => by have := h.2 k j hk; omega)];exact hk
theorem Ot {w0 w w' : World} {own : Nat -> Option Nat} (h : Za w0 own w) (hf : Fr [] w w') : Za w0 own w' := ⟨h.1.trans hf, fun k j hk => Nat.lt_of_lt_of_le (h.2 k j hk) hf.size⟩
theorem Y9 {X Y : Int} {gi oi N ci : Nat} {S : Nat -> List Int} {w0 : World} {i : Nat} {v : Value} {own own' : Nat -> Option Nat} {w w' : World} (hE : Y8 own w own' w') (h : lT X Y gi oi N ci S w0 i v own w) : lT X Y gi oi N ci S w0 i v own' w' := by
 unfold lT at h ⊢;split at h
 ·exact h
 ·exact h
 ·exact h
 ·obtain ⟨g, cw, h1, h2, h3, h4⟩ := h;obtain ⟨cs, h5, -⟩ := id h3;exact ⟨g, cw, h1, h2, h3.same (hE.1.block _ (Aa h5) (by simp)), hE.2 _ _ h4⟩
 ·obtain ⟨b, h1, h2, h3, h4⟩ := h;exact ⟨b, h1, h2, (hE.1.block _ (Aa h3) (by simp)).trans h3, hE.2 _ _ h4⟩
 ·obtain ⟨b, h1, h2, h3, h4⟩ := h;exact ⟨b, h1, h2, (hE.1.block _ (Aa h3) (by simp)).trans h3, hE.2 _ _ h4⟩
 ·obtain ⟨b, h1, h2, h3, h4⟩ := h;exact ⟨b, h1, h2, (hE.1.block _ (Aa h3) (by simp)).trans h3, hE.2 _ _ h4⟩
 ·obtain ⟨gw, cw, bc, bt, bf, h1, h2⟩ := h;exact ⟨gw, cw, bc, bt, bf, h1, h2.fr hE.1⟩
 ·obtain ⟨gl, gw, cw, bc, bt, bf, h1, h3, h2, h4⟩ := h;exact ⟨gl, gw, cw, bc, bt, bf, h1, (hE.1.block _ (Aa h3) (by simp)).trans h3, h2.fr hE.1, h4⟩
theorem MB.of {w : World} {b : Nat} (h : hat w b = some (.map #[] 0)) : MB w b 0 (fun _ => false) := by
 obtain ⟨D, ⟨es, clock, hb, h1⟩, h2⟩ := MB.made w;have hb2 : hat (w.alloc (.map #[] 0)) w.heap.size = some (.map #[] 0) := (A7 w _).1;rw [show (w.alloc (.map #[] 0)).heap[w.heap.size]? = some (.map #[] 0) from hb2] at hb;have hb3 := Option.some.inj hb;injection hb3 with e1 e2
 subst e1; subst e2;exact ⟨D, ⟨#[], 0, h, h1⟩, h2⟩
theorem SB.of {w : World} {b : Nat} (h : hat w b = some (.map #[] 0)) : SB w b (fun _ => false) := (MB.of h).tight (fun _ hp => by cases hp)
theorem PB.of {w : World} {b : Nat} (h : hat w b = some (.map #[] 0)) : PB w b (fun _ => none) := by
 obtain ⟨D, ⟨es, clock, hb, h1⟩, h2⟩ := MP.made w;have hb2 : hat (w.alloc (.map #[] 0)) w.heap.size = some (.map #[] 0) := (A7 w _).1;rw [show (w.alloc (.map #[] 0)).heap[w.heap.size]? = some (.map #[] 0) from hb2] at hb;have hb3 := Option.some.inj hb;injection hb3 with e1 e2
 subst e1; subst e2;exact MP.tight (n := 0) ⟨D, ⟨#[], 0, h, h1⟩, h2⟩ (fun p hp => by cases hp)
theorem gX {N : Nat} {Y : Int} {gi oi ci gl gw cw bc bt bf gr : Nat} {S : Nat -> List Int} {w0 w : World} (hm : Ef N Y) (hgi : gi < w0.heap.size) (hsz : w0.heap.size <= w.heap.size) (hS : Gn w gi oi N S) (h5 : Yc N cw S w0 w gw bc bt bf)
  (hgl : hat w gl = some (.cells (Bt N Y (.slice (some ⟨gi, oi, none⟩) N ci) gw N cw bc bt bf (Ti gr)) 62)) (hgl0 : w0.heap.size <= gl) (hgn : gl ∉ [gw, bc, bt, bf]) (hgr : hat w gr = some (.cells #[.slice none 0 0] 24)) (hgr0 : w0.heap.size <= gr) (hrn : gr ∉ [gl, gw, bc, bf, bt]) :
  LW ⟨⟨gl, gw, N, bc, bt, bf, 0, cw, N, Y, .slice (some ⟨gi, oi, none⟩) N ci, Ti gr⟩, gr, gi, oi, ci, w0.heap.size, S⟩ none (fun _ => none) (Cd S) w := by
 obtain ⟨⟨x1, x2⟩, ⟨y1, y2⟩, xy⟩ := hm;simp only [List.mem_cons, List.not_mem_nil, or_false, not_or] at hgn;obtain ⟨g1, g2, g3, g4⟩ := hgn;refine ⟨⟨x2, by show 0 <= Y; omega, rfl, g1, g2, g4, h5.n1, h5.n3, h5.n5, g3, h5.n2, h5.n4, fun e => h5.n6 e.symm⟩, ⟨rfl, hrn, fun g h => (by cases h)⟩, rfl, hS, hgi, fun k hk => ?_, hsz, by show Y < N; omega, ⟨hgl, h5.ws, SB.of h5.c, SB.of h5.f⟩, ⟨_, PB.of h5.t, fun _ => rfl⟩, fun _ _ => rfl, fun i v h => (by cases h), fun i j v u h => (by cases h), ⟨_, hgr, .inl ⟨rfl, rfl, rfl⟩, fun e => (by cases e)⟩, Z1 _ _ _⟩;simp only [Bw, List.cons_append, List.nil_append, Option.toList, List.mem_cons, List.not_mem_nil, or_false] at hk;show w0.heap.size <= k
 rcases hk with rfl | rfl | rfl | rfl | rfl | rfl
 ·exact hgl0
 ·exact h5.gw0
 ·exact h5.bc0
 ·exact h5.bf0
 ·exact h5.bt0
 ·exact hgr0
theorem T6 (gi oi N ci : Nat) (S : Nat -> List Int) (w : World) (hS : Gn w gi oi N S) (h8 : 8 <= N) (hN : N <= 4096) (h0 : (A4 (S 0)).2.2 = 0) (hX : (A4 (S 0)).1 = N) :
  Calls Tryz.prog 10 #[.slice (some ⟨gi, oi, none⟩) N ci] w fun e w' => (Fm S /\ Z5 w w' N (A4 (S 0)).1 (A4 (S 0)).2.1 S e) \/ (¬ Fm S /\ e = .returned (.tuple #[.agg Bv, .int .i64 121]) /\ Below w.heap.size w w') := by
 obtain ⟨cs, t, fr, hcs, hld⟩ := hS.load (show 0 < N by omega);obtain ⟨hl0, hb0⟩ := hS.len (show 0 < N by omega);have HRS := sW (fun W => Rc (S 0) hl0 hb0 W);rw [Nat.zero_mul, Nat.add_zero] at hld;have hcl := Aa hcs;have hz1 := (A7 w (.cells Bv 26)).1;have hc1 := (B4 w (.cells Bv 26) hcs).1;have hf1 := A1 w (.cells Bv 26) [];have d1 : ¬ (N : Int) < 8 := by omega
 have d2 : ¬ (4096 : Int) < (N : Int) := by omega
 have d3 : (0 : Int) < (N : Int) := by omega
 have HF1 := sW hf1;have HMAY := sW (bF h0).1;obtain ⟨X, Y, er, hR⟩ : ∃ X Y er, A4 (S 0) = (X, Y, er) := ⟨_, _, _, rfl⟩;rw [hR] at HRS HMAY h0 hX;rw [hR];simp only at h0 hX HMAY ⊢;subst h0;subst hX;have HS := sW hS;clear hS hf1 hR;go_enter Tryz.func10, Tryz.ntmps10;go_wp2_with fail;generalize hW1 : w.alloc (.cells #[.slice none 0 0, .slice none 0 0, .slice none 0 0, .slice none 0 0] 26) = w1 at *;refine (HRS.out w1).mono ?_; rintro e w2 ⟨rfl, hb2⟩;have hz2 := (hop hb2 (show hat w1 w.heap.size = some (.cells Bv 26) by rw [<- hW1]; exact (A7 w _).1)).1;have hgz := Aa hz2;have HF2 := sW ((show Fr [] w w1 by rw [<- hW1]; exact A1 w _ []).trans (Ag hb2 []));have hXn : ((N : Int) != (N : Int)) = false := by simp
 unfold Bv at hz2;clear hb2 hz1 hc1 hcs hld hW1 HF1 HRS;go_wp2_with fail;have hz3 := (B4 w2 (.cells #[.int .i64 (N : Int), .int .i64 Y] 40) hz2).1;have hs3 := (A7 w2 (.cells #[.int .i64 (N : Int), .int .i64 Y] 40)).1;have HF3 := sW (HF2.out.trans (A1 w2 (.cells #[.int .i64 (N : Int), .int .i64 Y] 40) []));have hgz3 := Aa hs3;generalize w2.alloc (.cells #[.int .i64 (N : Int), .int .i64 Y] 40) = w3 at *;clear hz2 HF2;have HS3 := sW (HS.out.same (HF3.out.block _ HS.out.lt (by simp)));refine N4 (by kernel_rfl) 10 (by decide) rfl (Za w3) Y8 (lT N Y gi oi N ci S w3) (fun _ => none) ⟨Bj (Fr.refl [] w3), fun _ _ h => by cases h⟩ ?_ ?_ ?_
 ·intro i v own wa own' wb hi hIa hIb hE hG; exact Y9 hE hG
 ·intro i o hi ho a' own w' hI hS hF;have hi' : i = 0 \/ i = 1 \/ i = 2 \/ i = 3 \/ i = 4 \/ i = 5 \/ i = 6 \/ i = 7 \/ i = 8 \/ i = 9 := by omega
  have hstay : Y8 own w' own w' := ⟨Fr.refl _ _, fun _ _ h => h⟩;have hnew : w'.heap.size < (w'.alloc (.map #[] 0)).heap.size := (A7 w' (.map #[] 0)).2;have hfa := A1 w' (.map #[] 0) [];rcases hi' with rfl | rfl | rfl | rfl | rfl | rfl | rfl | rfl | rfl | rfl
  all_goals (have ho' := Option.some.inj ho; subst ho')
  ·exact Bl 40 2 Pq (.tmp 4) rfl rfl rfl w2.heap.size _ ((hS 4 (by decide)).trans rfl) ((hI.1.block _ (Aa hs3) (by simp)).trans hs3) rfl ⟨_, own, rfl, hI, hstay, rfl⟩
  ·exact Eu (.tmp 0) rfl rfl rfl _ ((hS 0 (by decide)).trans rfl) ⟨_, own, rfl, hI, hstay, rfl⟩
  ·exact Eu (.tmp 0) rfl rfl rfl _ ((hS 0 (by decide)).trans rfl) ⟨_, own, rfl, hI, hstay, rfl⟩
  ·have e0 := gtx (hF 2 (by decide) _ 41 rfl rfl);refine Bk (f := 24) (args := #[.slice (some ⟨gi, oi, none⟩) N ci]) rfl rfl (by simp [go_sem, e0]) (bR gi oi N ci S w' (HS3.out.same (hI.1.block _ HS3.out.lt (by simp))) (by omega) (by omega)) ?_;rintro e w'' ⟨g, cw, rfl, hg0, hws, hb⟩;obtain ⟨csw, hcsw, -⟩ := id hws;exact ⟨_, rfl, _, Iu own g 3, rfl, Gg hI (Ag hb []) (Aa hcsw) 3, Gf hI (Ag hb []) hg0 3, g, cw, rfl, Nat.le_trans hI.1.size hg0, hws, by simp [Iu]⟩
  ·exact Ae rfl rfl (v := .map (some w'.heap.size)) (w1 := w'.alloc (.map #[] 0)) (by simp [go_sem]) ⟨_, Iu own w'.heap.size 4, rfl, Gg hI hfa hnew 4, Gf hI hfa (Nat.le_refl _) 4, _, rfl, hI.1.size, (A7 w' _).1, by simp [Iu]⟩
  ·exact Ae rfl rfl (v := .map (some w'.heap.size)) (w1 := w'.alloc (.map #[] 0)) (by simp [go_sem]) ⟨_, Iu own w'.heap.size 5, rfl, Gg hI hfa hnew 5, Gf hI hfa (Nat.le_refl _) 5, _, rfl, hI.1.size, (A7 w' _).1, by simp [Iu]⟩
  ·exact Ae rfl rfl (v := .map (some w'.heap.size)) (w1 := w'.alloc (.map #[] 0)) (by simp [go_sem]) ⟨_, Iu own w'.heap.size 6, rfl, Gg hI hfa hnew 6, Gf hI hfa (Nat.le_refl _) 6, _, rfl, hI.1.size, (A7 w' _).1, by simp [Iu]⟩
  ·have e0 := gtx (hF 0 (by decide) _ 39 rfl rfl);have e1 := gtx (hF 1 (by decide) _ 40 rfl rfl);obtain ⟨gw, cw, e3, hgw0, hws4, o3⟩ := hF 3 (by decide) _ 42 rfl rfl;obtain ⟨bc, e4, hbc0, hbc4, o4⟩ := hF 4 (by decide) _ 43 rfl rfl;obtain ⟨bt, e5, hbt0, hbt4, o5⟩ := hF 5 (by decide) _ 44 rfl rfl;obtain ⟨bf, e6, hbf0, hbf4, o6⟩ := hF 6 (by decide) _ 45 rfl rfl;have e3 := gtx e3;have e4 := gtx e4;have e5 := gtx e5;have e6 := gtx e6;have n1 : gw ≠ bc := fun e => by rw [e, o4] at o3; cases o3
   have n2 : gw ≠ bt := fun e => by rw [e, o5] at o3; cases o3
   have n3 : gw ≠ bf := fun e => by rw [e, o6] at o3; cases o3
   have n4 : bc ≠ bt := fun e => by rw [e, o5] at o4; cases o4
   have n5 : bc ≠ bf := fun e => by rw [e, o6] at o4; cases o4
   have n6 : bt ≠ bf := fun e => by rw [e, o6] at o5; cases o5
   exact Ae rfl rfl (v := .agg (Bt N Y (.slice (some ⟨gi, oi, none⟩) N ci) gw N cw bc bt bf .nilFunc)) (w1 := w') (by simp [go_sem, e0, e1, e3, e4, e5, e6, Bt]) ⟨_, own, rfl, hI, hstay, gw, cw, bc, bt, bf, rfl, hgw0, hbc0, hbt0, hbf0, hws4, hbc4, hbt4, hbf4, n1, n2, n3, n4, n5, n6⟩
  ·obtain ⟨gw, cw, bc, bt, bf, e7, h5⟩ := hF 7 (by decide) _ 46 rfl rfl;have e7 := gtx e7;obtain ⟨csw, hcsw, -⟩ := id h5.ws;have z0 := Aa hcsw;have z1 := Aa h5.c;have z2 := Aa h5.t;have z3 := Aa h5.f;have hfb := A1 w' (.cells (Bt N Y (.slice (some ⟨gi, oi, none⟩) N ci) gw N cw bc bt bf .nilFunc) 62) [];exact Ae rfl rfl (v := .pointer (some ⟨w'.heap.size, 0, none⟩)) (w1 := w'.alloc (.cells (Bt N Y (.slice (some ⟨gi, oi, none⟩) N ci) gw N cw bc bt bf .nilFunc) 62)) (by simp [go_sem, e7, Bt]) ⟨_, own, rfl, Ot hI hfb, ⟨hfb, fun _ _ h => h⟩, _, gw, cw, bc, bt, bf, rfl, (A7 w' _).1, h5.fr hfb, hI.1.size, by simp; omega⟩
  ·obtain ⟨gl, gw, cw, bc, bt, bf, e8, h5⟩ := hF 8 (by decide) _ 47 rfl rfl;have e8 := gtx e8;exact Ae rfl rfl (v := .pointer (some ⟨gl, 0, none⟩)) (w1 := w') (by simp [go_sem, e8]) ⟨_, own, rfl, hI, hstay, gl, gw, cw, bc, bt, bf, rfl, h5⟩
 ·intro val own w4 hI hF;obtain ⟨gl, gw, cw, bc, bt, bf, e9, hgl4, h5, hgl0, hgn⟩ := hF 9 _ 6 (by decide) rfl rfl;have hz4 := (hI.1.block _ (Aa hz3) (by simp)).trans hz3;have HF4 := sW (HF3.out.trans hI.1);have HS4 := sW (HS3.out.same (hI.1.block _ HS3.out.lt (by simp)));have H5 := sW h5;have HGN := sW hgn;have z34 := hI.1.size;clear hF hI hs3 hz3 HF3 HS3 HS h5 hgn;simp only [Bg, List.take, List.drop, List.take_succ_cons, List.drop_succ_cons, e9, Act.put, List.setIfInBounds_toArray, List.set_cons_zero, List.set_cons_succ];clear e9;generalize val 0 = v0;generalize val 1 = v1;generalize val 2 = v2;generalize val 3 = v3;generalize val 4 = v4;generalize val 5 = v5;generalize val 6 = v6;generalize val 7 = v7;generalize val 8 = v8;obtain ⟨⟨x1, x2⟩, ⟨y1, y2⟩, xy⟩ := HMAY.out;have hcall := O2 N Y .nilFunc gi oi N ci S gl gw N cw bc bt bf 1 w4 hgl4 HS4.out (Nat.le_refl _) y1 (by omega) hN;have HSOUND := sW (Oe (s := S 1));have hrl := Br (S 1);unfold Bt at hgl4;go_wp2_with fail;refine hcall.mono ?_; rintro e w5 ⟨rfl, hb5⟩;have hgl5 := (hop hb5 hgl4).1;have hz5 := (hop hb5 hz4).1;have HF5 := sW (HF4.out.trans (Ag hb5 []));have HS5 := sW (HS4.out.same (Ba hb5 HS4.out.lt));have H55 := sW (H5.out.fr (Ag hb5 []));have z45 := hb5.size;have hzl5 := Aa hz5;have hgll5 := Aa hgl5;clear hb5 hgl4 hz4 HF4 HS4 H5 hcall;have hk0 : (IV .i64 (Al (S 1)).1)[0]? = some (.int .i64 (nth (Al (S 1)).1 0)) := by
   rw [Bh, Am (by omega)]; rfl
  have HRO : Hid (Fm S ↔ Cj (S 1) = true /\ nth (Al (S 1)).1 0 = 2) := sW Iff.rfl;have HFIN := sW (Fo hz5 (.slice none 0 0) (.slice none 0 0) (.slice none 0 0) (.slice none 0 0));have HBEL := sW ((((HF5.out.mono (ex' := [w.heap.size]) (by simp)).trans (Db w5 w.heap.size (.slice none 0 0) (.slice none 0 0) (.slice none 0 0) (.slice none 0 0))).trans (A1 _ (.cells (IV .i64 (Al (S 1)).1) 45) [w.heap.size])).below (B := w.heap.size) (Nat.le_refl _) (by simp));generalize hRAW : (Al (S 1)).1 = raw at *;cases hsd : Cj (S 1) with
  | false =>
   rw [hsd] at HRO;have hno : ¬ Fm S := fun h => by have := (HRO.out.1 h).1; cases this
   clear HSOUND;have HNO := sW hno;clear hno hk0;go_wp2_with fail;exact Ax Hs rfl (cs := Bv) rfl (B4 _ _ HFIN.out).1 rfl rfl (.inr ⟨HNO.out, rfl, HBEL.out⟩)
  | true =>
   cases hkd : (nth raw 0 == 2) with
   | false =>
    have hkn : (nth raw 0 != 2) = true := by simpa using hkd
    have HNO := sW (show ¬ Fm S from fun h => by have := (HRO.out.1 h).2; simp [this] at hkd);clear HSOUND HRO;go_wp2_with fail;exact Ax Hs rfl (cs := Bv) rfl (B4 _ _ HFIN.out).1 rfl rfl (.inr ⟨HNO.out, rfl, HBEL.out⟩)
   | true =>
    have hk2 : nth raw 0 = 2 := by simpa using hkd
    have HYES := sW (HRO.out.2 ⟨hsd, hk2⟩);have hkn : (nth raw 0 != 2) = false := by simpa using hkd
    have hld5 : ∀ r w', El r 18 0 w' (some (.cells (IV .i64 raw) 45)) = .ok (.agg (IV .i64 raw)) w' := fun r w' => by rw [Cy (by simp [hrl])]; simp [<- hrl]
    obtain ⟨r1, r2, r3⟩ := HSOUND.out hsd;have R3 := sW r3;clear HRO HBEL HFIN HSOUND r3;go_wp2_with fail;have hw6 : ∀ (k : Nat) (cs : Array Value) (t : TypeId), hat (w5.setCell ⟨gl, 7, none⟩ (Ti (w5.heap.size + 1))) k = some (.cells cs t) -> hat (((w5.setCell ⟨gl, 7, none⟩ (Ti (w5.heap.size + 1))).alloc (.cells (IV .i64 raw) 45)).alloc (.cells #[.slice none 0 0] 24)) k = some (.cells cs t) := fun k cs t h => (B4 _ _ (B4 _ _ h).1).1
    have hgl6 := hw6 gl _ _ (Ah w5 gl 7 (Ti (w5.heap.size + 1)) _ _ _ hgl5);have hfs : Fr [gl] w5 (((w5.setCell ⟨gl, 7, none⟩ (Ti (w5.heap.size + 1))).alloc (.cells (IV .i64 raw) 45)).alloc (.cells #[.slice none 0 0] 24)) := ((Ai _ _ _ _).trans (A1 _ _ _)).trans (A1 _ _ _);have hgr6 : hat (((w5.setCell ⟨gl, 7, none⟩ (Ti (w5.heap.size + 1))).alloc (.cells (IV .i64 raw) 45)).alloc (.cells #[.slice none 0 0] 24)) (w5.heap.size + 1) = some (.cells #[.slice none 0 0] 24) := A6 _ _ _ (by simp);have h2z : w.heap.size ≠ gl := by omega
    have hz6 := (hfs.block _ (Aa hz5) (by simpa using h2z)).trans hz5;have hgn := HGN.out;simp only [List.mem_cons, List.not_mem_nil, or_false, not_or] at hgn;obtain ⟨g1, g2, g3, g4⟩ := hgn;have h56 : Yc N cw S w3 (((w5.setCell ⟨gl, 7, none⟩ (Ti (w5.heap.size + 1))).alloc (.cells (IV .i64 raw) 45)).alloc (.cells #[.slice none 0 0] 24)) gw bc bt bf := by
     have h := H55.out;obtain ⟨csw, h5w, -⟩ := id h.ws;exact ⟨h.gw0, h.bc0, h.bt0, h.bf0, h.ws.same (hfs.block _ (Aa h5w) (by simpa using Ne.symm g1)), (hfs.block _ (Aa h.c) (by simpa using Ne.symm g2)).trans h.c, (hfs.block _ (Aa h.t) (by simpa using Ne.symm g3)).trans h.t, (hfs.block _ (Aa h.f) (by simpa using Ne.symm g4)).trans h.f, h.n1, h.n2, h.n3, h.n4, h.n5, h.n6⟩
    have hgi3 : gi < w3.heap.size := by omega
    have hlt5 : w3.heap.size <= w5.heap.size := by omega
    have hrn : w5.heap.size + 1 ∉ [gl, gw, bc, bf, bt] := by
     have h := H55.out;obtain ⟨csw, h5w, -⟩ := id h.ws;have a1 := Aa h5w;have a2 := Aa h.c;have a3 := Aa h.t;have a4 := Aa h.f;simp only [List.mem_cons, List.not_mem_nil, or_false, not_or];omega
    have HLW6 := sW (gX (ci := ci) (cw := cw) (gr := w5.heap.size + 1) HMAY.out hgi3 (Nat.le_trans hlt5 hfs.size) (HS5.out.same (hfs.block _ HS5.out.lt (by simp; omega))) h56 hgl6 hgl0 HGN.out hgr6 (by omega) hrn);have HF6 := sW (((HF5.out.mono (ex' := [gl]) (by simp)).trans hfs).old (ex' := []) (by simp; omega));unfold Ti at HLW6 HF6 hz6;clear h56 hw6 hgl6 hgr6 hfs hz5 hgl5 H55 HS5 HF5;generalize ((w5.setCell ⟨gl, 7, none⟩ (.func (.func 26) #[] #[.pointer (some ⟨w5.heap.size + 1, 0, none⟩)])).alloc (.cells (IV .i64 raw) 45)).alloc (.cells #[.slice none 0 0] 24) = w6 at *;generalize w5.heap.size + 1 = gr at *;generalize hV : (⟨⟨gl, gw, N, bc, bt, bf, 0, cw, N, Y, .slice (some ⟨gi, oi, none⟩) N ci, .func (.func 26) #[] #[.pointer (some ⟨gr, 0, none⟩)]⟩, gr, gi, oi, ci, w3.heap.size, S⟩ : WE) = V at HLW6;have v1 : gl = V.E.gl := by rw [<- hV]
    have v2 : gw = V.E.gw := by rw [<- hV]
    have v3 : bt = V.E.bt := by rw [<- hV]
    have v4 : gr = V.gr := by rw [<- hV]
    have v5 : N = V.E.N := by rw [<- hV]
    have v6 : Y = V.E.Y := by rw [<- hV]
    have v7 : w3.heap.size = V.G0 := by rw [<- hV]
    have v8 : S = V.IMG := by rw [<- hV]
    have v9 : cw = V.E.cw := by rw [<- hV]
    have v10 : (N : Int) = V.E.X := by rw [<- hV]
    have hcall := bG HLW6.out 1 raw hrl (Nat.le_refl _) (by rw [<- v6]; exact y1) rfl r1 r2 R3.out;rw [<- v1, <- v6, <- v10] at hcall;refine hcall.mono ?_; rintro e w7 ⟨rfl, ob, B, ⟨gx, bx⟩, hlw7, hmv7, hB⟩;have hl7 := hlw7.k.look;unfold Bt at hl7;rw [<- v1] at hl7;have hp7 := hlw7.ptr 1 (by omega);rw [hB, show ((1 : Nat) : Int) = 1 from rfl] at hp7;simp only [Option.map_some, Ll] at hp7;have ht7 : (C8 N Y 1 raw 0 (Cd S)).T 1 = some ⟨(Ap N Y raw (Cd S).st).1, 0, (Ap N Y raw (Cd S).st).2.bk⟩ := by simp [C8, A3]
    obtain ⟨t', ht', hgx7, -⟩ := hlw7.yes 1 _ hB;rw [ht7] at ht';obtain rfl := Option.some.inj ht';simp only at hgx7;have hz8 := E7 (hlw7.zi.t 1 _ ht7).2.2.1 0 bx;simp only at hz8;generalize hc8 : inC (Ap N Y raw (Cd S).st).1 0 bx = c8 at hgx7 hz8;have z18 : 18 < c8.size := by omega
    have hlw8 := hlw7.en hB ht7 (n := 1) (by omega) (by omega);have hz0 : C7 N Y S = { C8 N Y 1 raw 0 (Cd S) with T := A3 (C8 N Y 1 raw 0 (Cd S)).T 1 ⟨(Ap N Y raw (Cd S).st).1, 1, (Ap N Y raw (Cd S).st).2.bk⟩ } := by rw [<- hRAW]; exact eG N Y S
    rw [<- hz0] at hlw8;have hqs : (C7 N Y S).q = [1] := by
     rw [hz0];show (if nth raw 0 = 2 then (Cd S).q ++ [((1 : Nat) : Int)] else _) = _
     rw [if_pos hk2]; rfl
    have HLW8 := sW hlw8;have HQS := sW hqs;have HB7 := sW ((hmv7.below HLW6.out (by simp)).trans ((Ai w7 gx 18 (.int .i64 1)).below (B := V.G0) (Nat.le_trans HLW6.out.sz hmv7.size) (by obtain ⟨t0, -, -, -, h1, -⟩ := hlw7.yes 1 _ hB; simpa using h1)));have hq8 := hlw8.q;rw [hqs, <- v4] at hq8;have HQ8 := sW hq8;have HVV : Hid (gl = V.E.gl /\ gw = V.E.gw /\ bt = V.E.bt /\ gr = V.gr /\ N = V.E.N /\ Y = V.E.Y /\ w3.heap.size = V.G0 /\ S = V.IMG /\ cw = V.E.cw /\ (N : Int) = V.E.X) := sW ⟨v1, v2, v3, v4, v5, v6, v7, v8, v9, v10⟩;clear hlw7 hlw8 hmv7 hc8 ht7 hcall hz0 hqs hq8 hB ht' v1 v2 v3 v4 v5 v6 v7 v8 v9 v10 hV;go_wp2_with fail;refine (T9 gr ob 1 [] _ HQ8.out).mono ?_; rintro e w9 ⟨rfl, hq9, hf9⟩;have HLW9 : Hid (LW V ob B { C7 N Y S with q := [] } w9) := sW (HLW8.out.pop HQS.out (by rw [<- HVV.out.2.2.2.1]; exact hq9) (by rw [<- HVV.out.2.2.2.1]; exact hf9));have HB9 : Hid (Below V.G0 w6 w9) := sW (HB7.out.trans ((B8.gr (V := V) (but := []) (ob := ob) (B := B) (by rw [<- HVV.out.2.2.2.1]; exact hf9)).below HLW8.out (by simp)))
    have HKB : Hid (∃ v, B 1 = some v) := sW (by
     obtain ⟨-, t, ht⟩ := HLW8.out.zi.q 1 (by rw [HQS.out]; simp);cases hb : B 1 with
     | none =>
      have := HLW8.out.no 1 hb;have e : (1 : Int).toNat = 1 := rfl;rw [e, this] at ht; cases ht
     | some v => exact ⟨v, rfl⟩)
    have HLL : Hid (Hr N Y S 8191 (Cv N Y S 1 { C7 N Y S with q := [] }) = Dc N Y S /\ Ed { C7 N Y S with q := [] } <= 8191) := sW (by
     refine ⟨?_, ?_⟩
     ·unfold Dc;rw [Fz N Y S 8191 (C7 N Y S) 1 [] HQS.out]; rfl
     ·exact Nat.le_of_succ_le_succ (Nat.le_trans (Nat.le_of_eq (Qc HQS.out)) HLW8.out.zi.pot))
    clear hq9 hf9 HLW8 HQS HB7 HQ8 hl7 hp7 hgx7 hz8 z18 hk0 hk2 hkn hkd;go_wp2_with fail;have H3L : Hid (w.heap.size < w3.heap.size) := sW (by omega);have HZ6 := sW hz6;clear hz6 hgz hgz3 z34 z45 hzl5 hgll5 hgl0 hgi3 hlt5 hcl h2z
    go_loopg [11, 12] (Ed { C7 N Y S with q := [] } + 1) (fun g i m wr => ∃ (ob : Option Nat) (B : Nat -> Option (Nat × Nat)) (z : LZ), Hid (LW V ob B z wr) /\ Hid (Below V.G0 w6 wr) /\
     ((m = .bool true /\ ∃ (k f : Nat), i = .int .i64 k /\ k < 4096 /\ Hid (∃ v, B k = some v) /\ g = Ed z + 1 /\ Hid (Ed z <= f) /\ Hid (Hr N Y S f (Cv N Y S k z) = Dc N Y S)) \/ (m = .bool false /\ i = .int .i64 0 /\ g = 0 /\ Hid (z = Dc N Y S))))
    case atStart => exact ⟨ob, B, _, HLW9, HB9, .inl ⟨rfl, 1, 8191, rfl, by omega, HKB, rfl, sW HLL.out.2, sW HLL.out.1⟩⟩
    case round =>
     obtain ⟨ob1, B1, z1, H1, HB1, hor⟩ := hrel;clear HLW9 HB9 HKB HLL;rcases hor with ⟨rfl, k, f, rfl, hk, HK, rfl, HP, HE⟩ | ⟨rfl, rfl, rfl, HE⟩
     ·obtain ⟨v, hv⟩ := HK.out;have hcall := kP H1.out k hk v hv;rw [<- HVV.out.1] at hcall;have HC := sW hcall;clear hcall hv;go_wp2_with fail;refine HC.out.mono ?_; rintro e wA ⟨rfl, obA, BA, hlwA, hmvA⟩;have HMA := sW (HB1.out.trans (hmvA.below H1.out (by simp)));have hpot : Ed (Cv V.E.X V.E.Y V.IMG k z1) <= Ed z1 := Vb (by have := hlwA.small; have := hlwA.img4096; omega) _ _ _;rw [<- HVV.out.2.2.2.2.2.2.2.2.2, <- HVV.out.2.2.2.2.2.1, <- HVV.out.2.2.2.2.2.2.2.1] at hlwA hpot;have HLA := sW hlwA;have hqA := hlwA.q;rw [<- HVV.out.2.2.2.1] at hqA;clear hlwA hmvA HC;cases hQ : (Cv N Y S k z1).q with
      | nil =>
       rw [hQ] at hqA;have HQA := sW hqA;have HFI : Hid (Cv N Y S k z1 = Dc N Y S) := sW (by rw [<- HE.out, Ib _ _ _ _ _ hQ]);clear hqA hpot;go_wp2_with fail;refine (dI gr obA _ HQA.out).mono ?_; rintro e wB ⟨rfl, rfl⟩;go_wp2_with fail;go_roundg 0
       case measure => omega
       case rel => exact ⟨obA, BA, _, HLA, HMA, .inr ⟨rfl, rfl, rfl, HFI⟩⟩
      | cons j r =>
       rw [hQ] at hqA;have HQA := sW hqA;obtain ⟨hj0, tj, htj⟩ := HLA.out.zi.q j (by rw [hQ]; simp);obtain ⟨jn, rfl⟩ := Int.eq_ofNat_of_zero_le hj0;have htj : (Cv N Y S k z1).T jn = some tj := htj;have hj4 : jn < 4096 := by
        have h1 := (HLA.out.zi.t jn tj htj).2.1;have h2 : Y = V.E.Y := HVV.out.2.2.2.2.2.1;omega
       have hpp := Qc hQ;obtain ⟨f', hf'⟩ : ∃ f', f = f' + 1 := ⟨f - 1, by have := HP.out; omega⟩;have HE2 : Hid (Hr N Y S f' (Cv N Y S jn { Cv N Y S k z1 with q := r }) = Dc N Y S) := sW (by rw [<- HE.out, hf', Fz _ _ _ _ _ _ _ hQ]; rfl);have HP2 : Hid (Ed { Cv N Y S k z1 with q := r } <= f') := sW (Nat.le_of_succ_le_succ (Nat.le_trans (Nat.le_of_eq hpp) (Nat.le_trans hpot (Nat.le_trans HP.out (Nat.le_of_eq hf')))));have hlt : Ed { Cv N Y S k z1 with q := r } + 1 < Ed z1 + 1 := Nat.lt_succ_of_le (Nat.le_trans (Nat.le_of_eq hpp) hpot)
       have HKJ : Hid (∃ v, BA jn = some v) := sW (by
        cases hb : BA jn with
        | none => (have h3 := HLA.out.no jn hb; rw [h3] at htj; cases htj)
        | some v => exact ⟨v, rfl⟩)
       have HQQ := sW hQ;clear hqA hpot hpp hj0 htj hQ;go_wp2_with fail;refine (T9 gr obA jn r _ HQA.out).mono ?_; rintro e wB ⟨rfl, hqB, hfB⟩;have HLB := sW (HLA.out.pop HQQ.out (by rw [<- HVV.out.2.2.2.1]; exact hqB) (by rw [<- HVV.out.2.2.2.1]; exact hfB));have HMB := sW (HMA.out.trans ((B8.gr (V := V) (but := []) (ob := obA) (B := BA) (by rw [<- HVV.out.2.2.2.1]; exact hfB)).below HLA.out (by simp)));clear hqB hfB;go_wp2_with fail;go_roundg (Ed { Cv N Y S k z1 with q := r } + 1)
       case measure => exact hlt
       case rel => exact ⟨obA, BA, _, HLB, HMB, .inl ⟨rfl, jn, f', rfl, hj4, HKJ, rfl, HP2, HE2⟩⟩
     ·have hcall := Zj H1.out;rw [<- HVV.out.1] at hcall;have HC := sW hcall;have hzr : hat wr w.heap.size = _ := (HB1.out.block _ (by rw [<- HVV.out.2.2.2.2.2.2.1]; exact H3L.out)).trans HZ6.out;have HS1 := sW H1.out.sz;clear hcall;go_wp2_with fail;refine HC.out.mono ?_; rintro e wE ⟨u1, u2, u3, o1, o2, o3, rfl, k1, k2, k3, k4, k5, k6⟩;have hzE : hat wE w.heap.size = _ := (k5.block _ (by rw [<- HVV.out.2.2.2.2.2.2.1]; exact H3L.out)).trans hzr;have HE1 := sW (Fo hzE (.slice (some ⟨V.E.gw, 0, none⟩) V.E.N V.E.cw) u1 u2 u3);have P4 := Db wE w.heap.size (.slice (some ⟨V.E.gw, 0, none⟩) V.E.N V.E.cw) u1 u2 u3;have K := sW (show _ /\ _ /\ _ /\ _ /\ _ /\ _ /\ _ from ⟨k1, k2, k3, k4, k5, k6, P4⟩);clear k1 k2 k3 k4 k5 k6 P4 hzr HC;obtain ⟨p1, q1, c1, rfl⟩ : ∃ p q c, u1 = .slice p q c := K.out.2.1.sl;obtain ⟨p2, q2, c2, rfl⟩ : ∃ p q c, u2 = .slice p q c := K.out.2.2.1.sl;obtain ⟨p3, q3, c3, rfl⟩ : ∃ p q c, u3 = .slice p q c := K.out.2.2.2.1.sl;go_wp2_with fail;refine Ax Hs rfl (cs := #[.slice (some ⟨V.E.gw, 0, none⟩) V.E.N V.E.cw, .slice p1 q1 c1, .slice p2 q2 c2, .slice p3 q3 c3]) rfl HE1.out rfl rfl (.inl ⟨HYES.out, ?_⟩);obtain ⟨k1, k2, k3, k4, k5, k6, P4⟩ := K.out;obtain ⟨-, e2, -, -, e5, e6, e7, e8, -, -⟩ := HVV.out;rw [<- e5, <- e6, HE.out] at k1;rw [<- e5, <- e6, HE.out, <- e8] at k2;rw [HE.out] at k3 k4;rw [<- e5] at P4 ⊢;have hg := H1.out.lo V.E.gw (by simp [Bw]);have hg2 := H1.out.mlt V.E.gw (by simp [Bw]);have h3 := H3L.out;have hs := HS1.out;have hne : V.E.gw ∉ [w.heap.size] := by simp; omega
      have hqn : ∀ o ∈ [o1, o2, o3], ∀ q, o = some q -> q ∉ [w.heap.size] := fun o ho q hq => by
       have := k6.1 o ho q hq;simp; omega
      obtain ⟨csE, hcE, -⟩ := id k1;refine ⟨V.E.gw, V.E.cw, _, _, _, o1, o2, o3, rfl, k1.same (P4.block _ (Aa hcE) hne), k2.fr P4 (hqn o1 (by simp)), k3.fr P4 (hqn o2 (by simp)), k4.fr P4 (hqn o3 (by simp)), ?_, by omega, fun o ho q hq => ?_, k6.2⟩
      ·have hw6 := HF6.out.size;have hle : w.heap.size <= V.G0 := by omega
       exact (((HF6.out.below (B := w.heap.size) (Nat.le_refl _) (by simp)).trans (HB1.out.mono hle)).trans (k5.mono hle)).trans (P4.below (by have := k5.size; omega) (by simp))
      ·have := k6.1 o ho q hq;omega
theorem Bc.cell {w : World} {v : Value} {ob : Option Nat} {xs : List Int} (h : Bc w v ob xs) {k : Nat} (hk : k < xs.length) : ∃ g off c cs, v = .slice (some ⟨g, off, none⟩) xs.length c /\ ob = some g /\ hat w g = some (.cells cs 3) /\ cs[off + k]? = some (.int .i64 (nth xs k)) := by
 rcases h with ⟨-, -, rfl⟩ | ⟨g, off, c, cs, rfl, h1, h2, h3, h4, h5⟩
 ·simp at hk
 ·exact ⟨g, off, c, cs, rfl, h1, h2, h5 k _ (by rw [Am hk])⟩
theorem Jr {v1 v2 : Value} {o1 o2 : Option Nat} {xs ys : List Int} {w : World} (h1 : Bc w v1 o1 xs) (h2 : Bc w v2 o2 ys) (hx : xs.length <= 100000) (hy : ys.length <= 100000) :
  Calls Tryz.prog 17 #[v1, v2] w fun e w' => e = .returned (.bool (decide (xs = ys))) /\ Fr [] w w' := by
 obtain ⟨a1, c1, e1⟩ := h1.slice;obtain ⟨a2, c2, e2⟩ := h2.slice;subst e1 e2;have H1 := sW h1;have H2 := sW h2;clear h1 h2;generalize hM : xs.length = M at *;generalize hK : ys.length = K at *;have HM := sW hM;have HK := sW hK;clear hM hK;by_cases hMK : M = K
 ·subst hMK;have d1 : ((M : Int) != (M : Int)) = false := by simp
  have hpost : ∀ (b : Bool) W, Fr [] w W -> b = decide (xs = ys) -> (fun e w' => e = Ending.returned (.bool (decide (xs = ys))) /\ Fr [] w w') (.returned (.bool b)) W := fun b W hf hb => ⟨by rw [hb], hf⟩
  have HP := sW hpost;clear hpost;go_enter Tryz.func17, Tryz.ntmps17;go_wp2_with fail;go_loopw [5] (fun v wr => ∃ k : Nat, v = .int .i64 k /\ k <= M /\ Hid (∀ j, j < k -> nth xs j = nth ys j) /\ Hid (Fr [] w wr)) (fun v wr => M - (intOf v).toNat)
  case atStart => exact ⟨0, rfl, Nat.zero_le _, sW (fun j hj => by omega), sW (Fr.refl _ _)⟩
  case round =>
   obtain ⟨k, rfl, hk, HE, HF⟩ := hrel;by_cases hkM : k < M
   ·have hk0 : (0 : Int) <= (k : Int) := Int.natCast_nonneg _;have hk1 : (k : Int) < (M : Int) := by omega
    obtain ⟨g1, f1, cc1, cs1, s1, t1, u1, x1⟩ := (H1.out.fr HF.out (by simp)).cell (k := k) (by rw [HM.out]; exact hkM);obtain ⟨g2, f2, cc2, cs2, s2, t2, u2, x2⟩ := (H2.out.fr HF.out (by simp)).cell (k := k) (by rw [HK.out]; exact hkM);injection s1 with s1
    injection s2 with s2
    subst s1 s2 t1 t2;cases hq : (nth xs k == nth ys k) with
    | true =>
     have hqn : (nth xs k != nth ys k) = false := by simpa using hq
     go_wp2_with fail;go_region
     go_wp2_with fail;go_roundw
     case rel =>
      refine ⟨k + 1, by go_num, by omega, sW (fun j hj => ?_), sW (Bj HF.out)⟩;by_cases hjk : j = k
      ·subst hjk; simpa using hq
      ·exact HE.out j (by omega)
     case measure => (show M - (k + 1) < M - k); omega
    | false =>
     have hqn : (nth xs k != nth ys k) = true := by simpa using hq
     go_wp2_with fail;go_region
     go_wp2_with fail;go_ret;refine HP.out false _ (Bj HF.out) ?_;symm
     rw [decide_eq_false_iff_not];intro e;rw [e] at hq;simp at hq
   ·obtain rfl : k = M := by omega
    go_wp2_with fail;go_ret;refine HP.out true _ HF.out ?_;symm
    rw [decide_eq_true_eq];apply List.ext_getElem?
    intro j;by_cases hj : j < k
    ·rw [Am (by rw [HM.out]; exact hj), Am (by rw [HK.out]; exact hj), HE.out j hj]
    ·rw [List.getElem?_eq_none (by rw [HM.out]; omega), List.getElem?_eq_none (by rw [HK.out]; omega)]
 ·have d1 : ((M : Int) != (K : Int)) = true := by simp; omega
  have hne : decide (xs = ys) = false := by
   rw [decide_eq_false_iff_not];intro e;rw [e] at HM;exact hMK (HM.out.symm.trans HK.out)
  rw [hne];go_enter Tryz.func17, Tryz.ntmps17;go_wp2_with fail;go_ret;exact ⟨rfl, Fr.refl _ _⟩
theorem Ls {σ : Type} (Ar : Int -> σ -> Bool × σ) (keepP : Nat -> Int -> σ -> Bool × σ) (base step n : Int) : ∀ (m k : Nat) (st : σ), Av Ar keepP base step n k (List.replicate m 0) st = (List.replicate m 0, false, st)
 | 0, _, _ => rfl
 | m + 1, k, st => by
  rw [List.replicate_succ, Ep, if_pos rfl, Ls Ar keepP base step n m (k + 1) st]
theorem Ua {X Y : Int} {kd lk sz md p n : Int} (hn : 0 < n) (st : LS) (hp : p ≠ 0) (hd : isD X Y p = true) (hc : st.cl p = false) :
  Bd X Y n ([kd, lk, sz, md, p] ++ List.replicate 13 0) st = ([kd, lk, sz, md, p] ++ List.replicate 13 0, { st with cl := Bi st.cl p, bk := Ee st.bk 0 p }) := by
 have h1 : (([kd, lk, sz, md, p] ++ List.replicate 13 0 : List Int).drop 4).take 12 = p :: List.replicate 11 0 := rfl;have hg : As X Y p st = (true, { st with cl := Bi st.cl p }) := by unfold As; rw [if_pos ⟨hd, hc⟩]
 have h2 : Jw X Y n 0 (p :: List.replicate 11 0) st = (p :: List.replicate 11 0, true, { st with cl := Bi st.cl p, bk := Ee st.bk 0 p }) := by
  unfold Jw;rw [Ep, if_neg hp, if_neg (by simp; omega), hg];simp only [Cc, Bool.true_eq_false, if_false];rw [Ls];rfl
 have z0 : ∀ (kp : Nat -> Int -> LS -> Bool × LS) (base : Int) (st : LS), Av (As X Y) kp base 1 n 0 [0] st = ([0], false, st) := fun kp base st => Ls (As X Y) kp base 1 n 1 0 st
 unfold Bd;simp only;rw [h1, h2];have h16 : nth ([kd, lk, sz, md, p] ++ List.replicate 13 0) 16 = 0 := rfl;have h17 : nth ([kd, lk, sz, md, p] ++ List.replicate 13 0) 17 = 0 := rfl;rw [h16, h17];simp only [z0];rfl
def exA : List Int := [2, 7, 128, 0, 5] ++ List.replicate 13 0
def fI : List Int := [2, 1, 128, 0, 5] ++ List.replicate 13 0
def exB : List Int := [1, 1, 3, 0, 6] ++ List.replicate 13 0
def exN : ByteArray := { data := #[97] }
def exH : List Int := [104, 101, 108, 108, 111] ++ zl 123
def exS : Nat -> List Int := Bn (Bn (Bn (Bn (Bn (fun _ => zl 128) 0 (Bp 16 4)) 1 (A9 exA)) 2 (A9 exB)) 5 (A8 2 exN)) 6 exH
theorem aD : Bu exA := by
 unfold Bu;rw [if_neg (by decide)];refine ⟨by decide, fun j h1 h2 => ?_, ?_⟩
 ·have : j = 4 \/ j = 5 \/ j = 6 \/ j = 7 \/ j = 8 \/ j = 9 \/ j = 10 \/ j = 11 \/ j = 12 \/ j = 13 \/ j = 14 \/ j = 15 \/ j = 16 \/ j = 17 := by omega
  rcases this with rfl | rfl | rfl | rfl | rfl | rfl | rfl | rfl | rfl | rfl | rfl | rfl | rfl | rfl <;> decide
 ·decide
theorem fJ : Bu fI := by
 unfold Bu;rw [if_neg (by decide)];refine ⟨by decide, fun j h1 h2 => ?_, ?_⟩
 ·have : j = 4 \/ j = 5 \/ j = 6 \/ j = 7 \/ j = 8 \/ j = 9 \/ j = 10 \/ j = 11 \/ j = 12 \/ j = 13 \/ j = 14 \/ j = 15 \/ j = 16 \/ j = 17 := by omega
  rcases this with rfl | rfl | rfl | rfl | rfl | rfl | rfl | rfl | rfl | rfl | rfl | rfl | rfl | rfl <;> decide
 ·decide
theorem Ux : Bu exB := by
 unfold Bu;rw [if_neg (by decide)];refine ⟨by decide, fun j h1 h2 => ?_, ?_⟩
 ·have : j = 4 \/ j = 5 \/ j = 6 \/ j = 7 \/ j = 8 \/ j = 9 \/ j = 10 \/ j = 11 \/ j = 12 \/ j = 13 \/ j = 14 \/ j = 15 \/ j = 16 \/ j = 17 := by omega
  rcases this with rfl | rfl | rfl | rfl | rfl | rfl | rfl | rfl | rfl | rfl | rfl | rfl | rfl | rfl <;> decide
 ·decide
theorem kS : Ex 2 exN := by decide +kernel
theorem fR : Ef 16 4 := by unfold Ef; omega
theorem kT : exS 0 = Bp 16 4 := by simp [exS, Bn]
theorem aE : exS 1 = A9 exA := by simp [exS, Bn]
theorem aG : exS 2 = A9 exB := by simp [exS, Bn]
theorem kU : exS 3 = zl 128 := by simp [exS, Bn]
theorem kV : exS 4 = zl 128 := by simp [exS, Bn]
theorem kW : exS 5 = A8 2 exN := by simp [exS, Bn]
theorem aH : exS 6 = exH := by simp [exS, Bn]
theorem fK : A4 (exS 0) = (16, 4, 0) := by rw [kT]; exact Vu fR
theorem fN : Al (exS 1) = (exA, 0) := by rw [aE]; exact Hy (by decide) aD
theorem mR : Al (exS 2) = (exB, 0) := by rw [aG]; exact Hy (by decide) Ux
theorem Yn : Ck 2 exN = (A8 2 exN, 0) := by
 unfold Ck;rw [if_neg (by omega), if_pos kS]
theorem pU : A2 (exS 5) = (2, exN, 0) := by
 have h := Sq (x := 2) (s := exN) (by rw [Yn]);rw [Yn] at h;rw [kW];exact h
def Qo : TI := ⟨exA, 1, Ee (fun _ => none) 0 5⟩
def pV : TI := ⟨exB, 1, Ee (fun _ => none) 0 6⟩
def exZ : LZ := ⟨⟨Bn exS 6 (Df exH 3), Bi (Bi (fun _ => false) 5) 6, (E4 1 ⟨exS, Bi (fun _ => false) 5, fun _ => false, Ee (fun _ => none) 0 5⟩).fm, Ee (fun _ => none) 0 6⟩, A3 (A3 (fun _ => none) 1 Qo) 2 pV, []⟩
theorem fS : Ap 16 4 exA ⟨exS, fun _ => false, fun _ => false, fun _ => none⟩ = (exA, E4 1 ⟨exS, Bi (fun _ => false) 5, fun _ => false, Ee (fun _ => none) 0 5⟩) := by
 unfold Ap;have h2 : Aw (nth exA 2) = 1 := rfl;rw [h2];have h := Ua (X := 16) (Y := 4) (kd := 2) (lk := 7) (sz := 128) (md := 0) (p := 5) (n := 1) (by omega) ⟨exS, fun _ => false, fun _ => false, fun _ => none⟩ (by omega) (by decide) rfl;simp only;rw [show ([2, 7, 128, 0, 5] ++ List.replicate 13 0 : List Int) = exA from rfl] at h;rw [h, if_pos (by rfl)]
theorem fT (fm : Int -> Bool) (bk : Int -> Option Int) : Ap 16 4 exB ⟨exS, Bi (fun _ => false) 5, fm, bk⟩ = (exB, ⟨Bn exS 6 (Df exH 3), Bi (Bi (fun _ => false) 5) 6, fm, Ee (fun _ => none) 0 6⟩) := by
 unfold Ap;have h2 : Aw (nth exB 2) = 1 := rfl;rw [h2];have h := Ua (X := 16) (Y := 4) (kd := 1) (lk := 1) (sz := 3) (md := 0) (p := 6) (n := 1) (by omega) ⟨exS, Bi (fun _ => false) 5, fm, fun _ => none⟩ (by omega) (by decide) (by show Bi (fun _ => false) 5 6 = false; decide);simp only;rw [show ([1, 1, 3, 0, 6] ++ List.replicate 13 0 : List Int) = exB from rfl] at h;rw [h, if_neg (by decide)];unfold B7;show (_, (⟨Bn exS 6 (Df (exS 6) 3), _, _, _⟩ : LS)) = _
 rw [aH]
theorem fQ : C7 16 4 exS = ⟨E4 1 ⟨exS, Bi (fun _ => false) 5, fun _ => false, Ee (fun _ => none) 0 5⟩, A3 (fun _ => none) 1 Qo, [1]⟩ := by
 unfold C7 C8;rw [fN, fS];rfl
theorem fP : Cj (exS 2) = true := by
 unfold Cj;rw [mR]; decide
theorem kX : Dc 16 4 exS = exZ := by
 unfold Dc;rw [fQ, Fz 16 4 exS 8191 _ 1 [] rfl];have h1 : Cv 16 4 exS (1 : Int).toNat ⟨E4 1 ⟨exS, Bi (fun _ => false) 5, fun _ => false, Ee (fun _ => none) 0 5⟩, A3 (fun _ => none) 1 Qo, []⟩ = exZ := by
  unfold Cv;have ht : A3 (fun _ => none) 1 Qo (1 : Int).toNat = some Qo := rfl;simp only [ht];have hc : (Aw (nth Qo.raw 2)).toNat = 1 := rfl;have hb : Qo.bk ((0 : Nat) : Int) = some 5 := rfl;rw [hc];simp only [Jg, hb];unfold Ey;have h5 : A2 ((E4 1 ⟨exS, Bi (fun _ => false) 5, fun _ => false, Ee (fun _ => none) 0 5⟩).S (5 : Int).toNat) = (2, exN, 0) := pU;simp only [h5];rw [if_neg (by omega)];have he : Cq 16 4 exS (2 : Int).toNat exN (⟨E4 1 ⟨exS, Bi (fun _ => false) 5, fun _ => false, Ee (fun _ => none) 0 5⟩, A3 (fun _ => none) 1 Qo, []⟩, fun _ => false) = (true, exZ, La (fun _ => false) exN) := by
   unfold Cq;rw [if_neg (by simp)];have hz : Ct 16 4 exS (2 : Int).toNat ⟨E4 1 ⟨exS, Bi (fun _ => false) 5, fun _ => false, Ee (fun _ => none) 0 5⟩, A3 (fun _ => none) 1 Qo, []⟩ = some exZ := by
    unfold Ct;have ht2 : A3 (fun _ => none) 1 Qo (2 : Int).toNat = none := rfl;have hs2 : Cj (exS (2 : Int).toNat) = true := fP;have hr2 : Al (exS (2 : Int).toNat) = (exB, 0) := mR;simp only [ht2, hs2, if_true, hr2];unfold C8;have hx := fT (E4 1 ⟨exS, Bi (fun _ => false) 5, fun _ => false, Ee (fun _ => none) 0 5⟩).fm (E4 1 ⟨exS, Bi (fun _ => false) 5, fun _ => false, Ee (fun _ => none) 0 5⟩).bk;have hx2 : Ap 16 4 exB (E4 1 ⟨exS, Bi (fun _ => false) 5, fun _ => false, Ee (fun _ => none) 0 5⟩) = _ := hx;simp only;rw [hx2];rfl
   simp only [hz]
  rw [he, if_pos ⟨trivial, by omega, rfl⟩]
 rw [h1];exact Ib _ _ _ _ _ rfl
theorem mS : Dn 4 exZ 1 = A9 fI := by
 unfold Dn;rw [if_pos (by omega)];show (Da (exA.set 1 1)).1 = _
 rw [show exA.set 1 1 = fI from rfl, Ge fJ]
theorem pW : Dn 4 exZ 2 = A9 exB := by
 unfold Dn;rw [if_pos (by omega)];show (Da (exB.set 1 1)).1 = _
 rw [show exB.set 1 1 = exB from rfl, Ge Ux]
theorem fO (j : Nat) (h1 : j ≠ 1) (h6 : j ≠ 6) : Dn 4 exZ j = exS j := by
 by_cases h2 : j = 2
 ·subst h2; rw [pW, aG]
 ·unfold Dn;by_cases hj : 1 <= j /\ (j : Int) <= 4
  ·rw [if_pos hj];have : j = 3 \/ j = 4 := by omega
   rcases this with rfl | rfl
   ·rw [kU]; rfl
   ·rw [kV]; rfl
  ·rw [if_neg hj];show Bn exS 6 _ j = _
   unfold Bn;rw [if_neg h6]
theorem mT : Dn 4 exZ 6 = [104, 101, 108] ++ zl 125 := by
 unfold Dn;rw [if_neg (by omega)];show Bn exS 6 (Df exH 3) 6 = _
 decide +kernel
theorem exD (j : Nat) : decide (Dn 4 exZ j ≠ exS j) = (decide (j = 1) || decide (j = 6)) := by
 by_cases h1 : j = 1
 ·subst h1;rw [mS];have : A9 fI ≠ exS 1 := by rw [aE]; decide +kernel
  simp [this]
 ·by_cases h6 : j = 6
  ·subst h6;rw [mT];have : ([104, 101, 108] ++ zl 125 : List Int) ≠ exS 6 := by rw [aH]; decide +kernel
   rw [decide_eq_true this]; rfl
  ·rw [fO j h1 h6];simp [h1, h6]
theorem pX : ∀ p : Int, exZ.st.fm p = decide (p = 5) := by
 intro p;show (false || (List.range (1 : Int).toNat).any fun k => Ee (fun _ => none) 0 5 (k : Int) == some p) = _
 by_cases h : p = 5
 ·subst h; decide
 ·have h2 : (Ee (fun _ => none) 0 5 ((0 : Nat) : Int) == some p) = false := by
   show (some 5 == some p) = false
   simp; omega
  have h3 : (List.range (1 : Int).toNat) = [0] := rfl;simp only [h3, List.any_cons, List.any_nil, h2, h];decide
theorem fU : Gw 16 4 (Dn 4 exZ) exS exZ.st.fm = [1, 6] := by
 unfold Gw Bz;simp only [exD, pX];decide +kernel
theorem nN : Dk (fun p => (exZ.T p.toNat).isSome) = [1, 2] := by
 rw [Lj (s' := fun p => decide (p = 1) || decide (p = 2)) (fun i _ => ?_)]
 ·decide +kernel
 ·show (A3 (A3 (fun _ => none) 1 Qo) 2 pV i).isSome = _
  unfold A3;by_cases h2 : i = 2
  ·subst h2; rfl
  ·by_cases h1 : i = 1
   ·subst h1; rfl
   ·rw [if_neg h2, if_neg h1];have a1 : ¬ ((i : Int) = 1) := by omega
    have a2 : ¬ ((i : Int) = 2) := by omega
    simp [a1, a2]
theorem nM : Dk exZ.st.cl = [5, 6] := by
 rw [Lj (s' := fun p => decide (p = 5) || decide (p = 6)) (fun i _ => ?_)]
 ·decide +kernel
 ·show Bi (Bi (fun _ => false) 5) 6 (i : Int) = _
  simp [Bi]
theorem Tz : ∃ i0 z, Tryz.prog.info? 33 = some i0 /\ i0.zero = some z /\ z.cells = IV .u8 (zl 128) /\ i0.size = 128 /\ i0.bytes = 128 := by
 have h : (Tryz.prog.info? 33).map (fun i => (i.zero.map (fun z => z.cells), i.size, i.bytes)) = some (some (IV .u8 (zl 128)), 128, 128) := by kernel_rfl
 cases hq : Tryz.prog.info? 33 with
 | none => rw [hq] at h; cases h
 | some inf =>
  rw [hq] at h;simp only [Option.map_some, Option.some.injEq, Prod.mk.injEq] at h;obtain ⟨h1, h2, h3⟩ := h;cases hz : inf.zero with
  | none => rw [hz] at h1; cases h1
  | some z =>
   rw [hz] at h1;simp only [Option.map_some, Option.some.injEq] at h1;exact ⟨inf, z, rfl, hz, h1, h2, h3⟩
theorem Cf.lt {w : World} {g N c : Nat} {S : Nat -> List Int} (h : Cf w g N c S) : g < w.heap.size := by
 obtain ⟨cs, h1, -⟩ := h; exact Aa h1
theorem nP : (Array.foldl (fun cs (x : Value × Nat) => cs.setIfInBounds (4 + x.snd) x.fst) (IV .i64 ((((zl 18).set 0 2).set 1 7).set 2 128)) (IV .i64 ((zl 12).set 0 5)).zipIdx 0 12) = IV .i64 exA := by kernel_rfl
theorem nQ : (Array.foldl (fun cs (x : Value × Nat) => cs.setIfInBounds (4 + x.snd) x.fst) (IV .i64 ((((zl 18).set 0 1).set 1 1).set 2 3)) (IV .i64 ((zl 12).set 0 6)).zipIdx 0 12) = IV .i64 exB := by kernel_rfl
theorem dF (w : World) (N : Nat) (hN : N <= 4096) : ∃ w', (Instr.makeSlice 22 (.int .i64 N) (.int .i64 N)).run Tryz.prog w = .ok (.slice (some ⟨w.heap.size, 0, none⟩) N N) w' /\ Cf w' w.heap.size N N (fun _ => zl 128) /\ Below w.heap.size w w' := by
 obtain ⟨i, z, h1, h2, h3, h4, h5⟩ := Tz;have hr := run_make (P := Tryz.prog) w 22 33 i z Tryz.underlying22 h1 h2 .i64 .i64 N N (by omega) (Int.le_refl _) (by rw [h5]; omega) (by omega);rw [Int.toNat_natCast, h4, h3] at hr;refine ⟨_, hr, ⟨_, (A7 w _).1, by rw [size_madeCells]; exact ⟨Nat.le_refl _, Nat.le_refl _⟩, fun j hj => ⟨Ca _, Et _, ?_⟩⟩, (Below.refl _ _).alloc (Nat.le_refl _) _⟩;apply Array.ext_getElem?
 intro k;rw [Array.getElem?_extract, Bh, size_madeCells];by_cases hk : k < 128
 ·rw [if_pos (by omega)];have hm : ((IV .u8 (zl 128)).size : Nat) = 128 := by simp
  have hlt : (j * 128 + k) % 128 < 128 := Nat.mod_lt _ (by omega);have hz : ∀ n, n < 128 -> (IV .u8 (zl 128))[n]! = .int .u8 0 := fun n hn => by
   rw [getElem!_def, Bh];unfold zl;rw [List.getElem?_replicate, if_pos hn]; rfl
  unfold madeCells;rw [Array.getElem?_map, Array.getElem?_range, if_pos (by omega)];simp only [Option.map_some, hm, hz _ hlt];unfold zl;rw [List.getElem?_replicate, if_pos hk]; rfl
 ·rw [if_neg (by omega), List.getElem?_eq_none (by simp; omega)]; rfl
theorem cG : A0 ((((((zl 128).set 0 104).set 1 101).set 2 108).set 3 108).set 4 111) := by
 have h : ∀ x ∈ ((((((zl 128).set 0 104).set 1 101).set 2 108).set 3 108).set 4 111), 0 <= x /\ x < 256 := by decide +kernel
 exact h
theorem Wh (w : World) : Calls Tryz.prog 22 #[] w fun e w' => ∃ g, e = .returned (.slice (some ⟨g, 0, none⟩) 16 16) /\ w.heap.size <= g /\ Cf w' g 16 16 exS /\ Below w.heap.size w w' := by
 obtain ⟨w1, hr, hws, hb⟩ := dF w 16 (by omega);have HWS := sW hws;have HB := sW hb;have HZ := sW (Nat.le_refl w.heap.size);have hr16 : (Instr.makeSlice 22 (.int .i64 16) (.int .i64 16)).run Tryz.prog w = .ok (.slice (some ⟨w.heap.size, 0, none⟩) 16 16) w1 := hr;clear hws hb hr;go_enter Tryz.func22, Tryz.ntmps22;generalize hg : w.heap.size = g at *;have HG := sW hg;clear hg;go_wp2_with fail;have r0 : X5 16 4 = (Bp 16 4, 0) := Ss fR;have r1 : Da exA = (A9 exA, 0) := Ge aD;have r2 : Da exB = (A9 exB, 0) := Ge Ux;have l5 : (A8 2 exN).length = 128 := by decide +kernel
 have l0 : (Bp 16 4).length = 128 := Ms _ _;have l1 : (A9 exA).length = 128 := C5 _ _;have l2 : (A9 exB).length = 128 := C5 _ _;refine (jA 16 4 _ ⟨by omega, by omega⟩ ⟨by omega, by omega⟩).mono ?_; rintro e w2 ⟨rfl, hb2⟩;rw [r0];have hwa := HWS.out.same (Ba hb2 HWS.out.lt);obtain ⟨cs, hcs, hsz, -⟩ := id hwa;have hst : ∀ raw W, Cw raw 128 0 g (IV .u8 (Bp 16 4)) W (some (.cells cs 33 (0, 0))) = .ok () (W.setRow g (Ak cs 0 (IV .u8 (Bp 16 4)))) := fun raw W => Cb (by omega) (by simp [l0]) (by simp)
 have HWS2 : Hid (Cf (w2.setRow g (Ak cs 0 (IV .u8 (Bp 16 4)))) g 16 16 (Bn (fun _ => zl 128) 0 (Bp 16 4))) := sW (hwa.store (i := 0) hcs (by omega) (s := (Bp 16 4)) l0 (Vt _ _));have HB2 : Hid (Below g w (w2.setRow g (Ak cs 0 (IV .u8 (Bp 16 4))))) := sW ((HB.out.trans (hb2.mono (Nat.le_of_lt HWS.out.lt))).trans ((Cl w2 g (Ak cs 0 (IV .u8 (Bp 16 4)))).below (B := g) (Nat.le_of_lt (Aa hcs)) (by simp)));have hgl := Aa hcs;clear hwa hb2 HWS HB hr16;go_wp2_with fail;clear hst hsz hgl;generalize w2.setRow g (Ak cs 0 (IV .u8 (Bp 16 4))) = w2 at *;clear hcs;rw [nP];refine (Rv exA (by decide) _).mono ?_; rintro e w3 ⟨rfl, hb2⟩;rw [r1];have hwa := HWS2.out.same (Ba hb2 HWS2.out.lt);obtain ⟨cs, hcs, hsz, -⟩ := id hwa;have hst : ∀ raw W, Cw raw 128 128 g (IV .u8 (A9 exA)) W (some (.cells cs 33 (0, 0))) = .ok () (W.setRow g (Ak cs 128 (IV .u8 (A9 exA)))) := fun raw W => Cb (by omega) (by simp [l1]) (by simp)
 have HWS3 : Hid (Cf (w3.setRow g (Ak cs 128 (IV .u8 (A9 exA)))) g 16 16 (Bn (Bn (fun _ => zl 128) 0 (Bp 16 4)) 1 (A9 exA))) := sW (hwa.store (i := 1) hcs (by omega) (s := (A9 exA)) l1 (J5 _));have HB3 : Hid (Below g w (w3.setRow g (Ak cs 128 (IV .u8 (A9 exA))))) := sW ((HB2.out.trans (hb2.mono (Nat.le_of_lt HWS2.out.lt))).trans ((Cl w3 g (Ak cs 128 (IV .u8 (A9 exA)))).below (B := g) (Nat.le_of_lt (Aa hcs)) (by simp)));have hgl := Aa hcs;clear hwa hb2 HWS2 HB2;go_wp2_with fail;clear hst hsz hgl;generalize w3.setRow g (Ak cs 128 (IV .u8 (A9 exA))) = w3 at *;clear hcs;rw [nQ];refine (Rv exB (by decide) _).mono ?_; rintro e w4 ⟨rfl, hb2⟩;rw [r2];have hwa := HWS3.out.same (Ba hb2 HWS3.out.lt);obtain ⟨cs, hcs, hsz, -⟩ := id hwa;have hst : ∀ raw W, Cw raw 128 256 g (IV .u8 (A9 exB)) W (some (.cells cs 33 (0, 0))) = .ok () (W.setRow g (Ak cs 256 (IV .u8 (A9 exB)))) := fun raw W => Cb (by omega) (by simp [l2]) (by simp)
 have HWS4 : Hid (Cf (w4.setRow g (Ak cs 256 (IV .u8 (A9 exB)))) g 16 16 (Bn (Bn (Bn (fun _ => zl 128) 0 (Bp 16 4)) 1 (A9 exA)) 2 (A9 exB))) := sW (hwa.store (i := 2) hcs (by omega) (s := (A9 exB)) l2 (J5 _));have HB4 : Hid (Below g w (w4.setRow g (Ak cs 256 (IV .u8 (A9 exB))))) := sW ((HB3.out.trans (hb2.mono (Nat.le_of_lt HWS3.out.lt))).trans ((Cl w4 g (Ak cs 256 (IV .u8 (A9 exB)))).below (B := g) (Nat.le_of_lt (Aa hcs)) (by simp)));have hgl := Aa hcs;clear hwa hb2 HWS3 HB3;go_wp2_with fail;clear hst hsz hgl;generalize w4.setRow g (Ak cs 256 (IV .u8 (A9 exB))) = w4 at *;clear hcs;refine (iZ 2 exN _ (by decide)).mono ?_; rintro e w5 ⟨rfl, hb2⟩;rw [Yn];have hwa := HWS4.out.same (Ba hb2 HWS4.out.lt);obtain ⟨cs, hcs, hsz, -⟩ := id hwa;have hst : ∀ raw W, Cw raw 128 640 g (IV .u8 (A8 2 exN)) W (some (.cells cs 33 (0, 0))) = .ok () (W.setRow g (Ak cs 640 (IV .u8 (A8 2 exN)))) := fun raw W => Cb (by omega) (by simp [l5]) (by simp)
 have HWS5 : Hid (Cf (w5.setRow g (Ak cs 640 (IV .u8 (A8 2 exN)))) g 16 16 (Bn (Bn (Bn (Bn (fun _ => zl 128) 0 (Bp 16 4)) 1 (A9 exA)) 2 (A9 exB)) 5 (A8 2 exN))) := sW (hwa.store (i := 5) hcs (by omega) (s := (A8 2 exN)) l5 (Tm _ _ (by decide)));have HB5 : Hid (Below g w (w5.setRow g (Ak cs 640 (IV .u8 (A8 2 exN))))) := sW ((HB4.out.trans (hb2.mono (Nat.le_of_lt HWS4.out.lt))).trans ((Cl w5 g (Ak cs 640 (IV .u8 (A8 2 exN)))).below (B := g) (Nat.le_of_lt (Aa hcs)) (by simp)));have hgl := Aa hcs;clear hwa hb2 HWS4 HB4;have hsz2 : 2048 <= (Ak cs 640 (IV .u8 (A8 2 exN))).size := by rw [Hb _ _ _ (by rw [P6, l5]; omega)]; exact hsz.1
 have hst2 : ∀ raw W, Cw raw 128 768 g (IV .u8 ((((((zl 128).set 0 104).set 1 101).set 2 108).set 3 108).set 4 111)) W (some (.cells (Ak cs 640 (IV .u8 (A8 2 exN))) 33 (0, 0))) = .ok () (W.setRow g (Ak (Ak cs 640 (IV .u8 (A8 2 exN))) 768 (IV .u8 ((((((zl 128).set 0 104).set 1 101).set 2 108).set 3 108).set 4 111)))) := fun raw W => Cb (by omega) (by simp) (by simp)
 have hcs2 : hat (w5.setRow g (Ak cs 640 (IV .u8 (A8 2 exN)))) g = some (.cells (Ak cs 640 (IV .u8 (A8 2 exN))) 33) := Aq _ _ _ _ _ _ hcs;have HWS6 : Hid (Cf ((w5.setRow g (Ak cs 640 (IV .u8 (A8 2 exN)))).setRow g (Ak (Ak cs 640 (IV .u8 (A8 2 exN))) 768 (IV .u8 ((((((zl 128).set 0 104).set 1 101).set 2 108).set 3 108).set 4 111)))) g 16 16 exS) := sW (HWS5.out.store (i := 6) hcs2 (by omega) (s := ((((((zl 128).set 0 104).set 1 101).set 2 108).set 3 108).set 4 111)) (by simp) cG);have HB6 : Hid (Below g w ((w5.setRow g (Ak cs 640 (IV .u8 (A8 2 exN)))).setRow g (Ak (Ak cs 640 (IV .u8 (A8 2 exN))) 768 (IV .u8 ((((((zl 128).set 0 104).set 1 101).set 2 108).set 3 108).set 4 111))))) := sW (HB5.out.trans ((Cl (w5.setRow g (Ak cs 640 (IV .u8 (A8 2 exN)))) g (Ak (Ak cs 640 (IV .u8 (A8 2 exN))) 768 (IV .u8 ((((((zl 128).set 0 104).set 1 101).set 2 108).set 3 108).set 4 111)))).below (B := g) (Nat.le_of_lt (Aa hcs2)) (by simp)));clear hcs2;go_wp2_with fail;go_ret;exact ⟨g, rfl, Nat.le_refl _, HWS6.out, HB6.out⟩
theorem Cf.secs {w : World} {g N c : Nat} {S : Nat -> List Int} (h : Cf w g N c S) : Gn w g 0 N S := by
 obtain ⟨cs, h1, h2, h3⟩ := h;exact ⟨cs, _, _, h1, by omega, fun i hi => by simpa using h3 i hi⟩
theorem kY : Fm exS := ⟨by unfold Cj; rw [fN]; decide, by rw [fN]; rfl⟩
theorem Bc.two {w : World} {g : Nat} {a b : Int} (h : hat w g = some (.cells #[.int .i64 a, .int .i64 b] 3)) : Bc w (.slice (some ⟨g, 0, none⟩) 2 2) (some g) [a, b] :=
 .inr ⟨g, 0, 2, _, rfl, rfl, h, Nat.le_refl _, Nat.le_refl _, fun j p hj => by
  rcases j with _ | _ | j
  ·simp at hj; subst hj; rfl
  ·simp at hj; subst hj; rfl
  ·simp at hj⟩
theorem U7 (w : World) : Calls Tryz.prog 9 #[] w fun e w' => e = .returned (.bool true) /\ Below w.heap.size w w' := by
 go_enter Tryz.func9, Tryz.ntmps9;go_wp2_with fail;refine (Wh _).mono ?_; rintro e w1 ⟨g, rfl, hg0, hws, hb1⟩;have hcall := T6 g 0 16 16 exS w1 hws.secs (by omega) (by omega) (by rw [fK]) (by rw [fK]; rfl);rw [fK] at hcall;have HC := sW hcall;have HB1 := sW hb1;clear hws hb1 hcall;go_wp2_with fail;refine HC.out.mono ?_; rintro e w2 hor;rcases hor with ⟨-, gw, cw, v1, v2, v3, o1, o2, o3, rfl, k1, k2, k3, k4, k5, k6, k7⟩ | ⟨h, -⟩
 rotate_left
 ·exact absurd kY h
 simp only [kX, fU, nN, nM] at k1 k2 k3 k4;obtain ⟨p1, q1, c1, rfl⟩ := k2.sl;obtain ⟨p2, q2, c2, rfl⟩ := k3.sl;obtain ⟨p3, q3, c3, rfl⟩ := k4.sl;have HB2 := sW (HB1.out.trans (k5.mono HB1.out.size));have K1 := sW k1;have K2 := sW k2;have K3 := sW k3;have K4 := sW k4;clear HC k1 k2 k3 k4 k5 k6 k7 HB1;have hfW : Fr [] w2 ((w2.alloc (.cells #[.slice (some ⟨gw, 0, none⟩) 16 cw, .slice p1 q1 c1, .slice p2 q2 c2, .slice p3 q3 c3] 26)).alloc (.cells #[.int .i64 1, .int .i64 6] 3)) := (A1 _ _ _).trans (A1 _ _ _);have hR : hat ((w2.alloc (.cells #[.slice (some ⟨gw, 0, none⟩) 16 cw, .slice p1 q1 c1, .slice p2 q2 c2, .slice p3 q3 c3] 26)).alloc (.cells #[.int .i64 1, .int .i64 6] 3)) w2.heap.size = some (.cells #[.slice (some ⟨gw, 0, none⟩) 16 cw, .slice p1 q1 c1, .slice p2 q2 c2, .slice p3 q3 c3] 26) := (B4 _ _ (A7 w2 _).1).1;have hN : hat ((w2.alloc (.cells #[.slice (some ⟨gw, 0, none⟩) 16 cw, .slice p1 q1 c1, .slice p2 q2 c2, .slice p3 q3 c3] 26)).alloc (.cells #[.int .i64 1, .int .i64 6] 3)) (w2.heap.size + 1) = some (.cells #[.int .i64 1, .int .i64 6] 3) := A6 _ _ _ (by simp);go_wp2_with fail;refine (Jr (K2.out.fr hfW (by simp)) (Bc.two hN) (by simp) (by simp)).mono ?_; rintro e w3 ⟨rfl, hf⟩;rw [show decide (([1, 6] : List Int) = [1, 6]) = true from by decide];have hR : hat w3 w2.heap.size = _ := (hf.block _ (Aa hR) (by simp)).trans hR;have HFw3 := sW (hfW.trans hf);have hzr := Aa hR;generalize hzz : w2.heap.size = zr at *;clear hfW hN hf hzz;have hfW : Fr [] w3 (w3.alloc (.cells #[.int .i64 1, .int .i64 2] 3)) := A1 _ _ _;have hN : hat (w3.alloc (.cells #[.int .i64 1, .int .i64 2] 3)) w3.heap.size = some (.cells #[.int .i64 1, .int .i64 2] 3) := (A7 _ _).1;go_wp2_with fail;refine (Jr (K3.out.fr (HFw3.out.trans hfW) (by simp)) (Bc.two hN) (by simp) (by simp)).mono ?_; rintro e w4 ⟨rfl, hf⟩;rw [show decide (([1, 2] : List Int) = [1, 2]) = true from by decide];have hR : hat w4 zr = _ := ((hfW.trans hf).block _ (Aa hR) (by simp)).trans hR;have HFw4 := sW ((HFw3.out.trans hfW).trans hf);have hzr := Aa hR;clear hfW hN hf HFw3;have hfW : Fr [] w4 (w4.alloc (.cells #[.int .i64 5, .int .i64 6] 3)) := A1 _ _ _;have hN : hat (w4.alloc (.cells #[.int .i64 5, .int .i64 6] 3)) w4.heap.size = some (.cells #[.int .i64 5, .int .i64 6] 3) := (A7 _ _).1;go_wp2_with fail;refine (Jr (K4.out.fr (HFw4.out.trans hfW) (by simp)) (Bc.two hN) (by simp) (by simp)).mono ?_; rintro e w5 ⟨rfl, hf⟩;rw [show decide (([5, 6] : List Int) = [5, 6]) = true from by decide];have hR : hat w5 zr = _ := ((hfW.trans hf).block _ (Aa hR) (by simp)).trans hR;have HFw5 := sW ((HFw4.out.trans hfW).trans hf);have hzr := Aa hR;clear hfW hN hf HFw4;have hwW := K1.out;obtain ⟨csW, hcsW, hszW, hallW⟩ := hwW;have hcsW5 := (HFw5.out.block _ (Aa hcsW) (by simp)).trans hcsW;have hld6 : ∀ raw W, El raw 128 768 W (some (.cells csW 33 (0, 0))) = .ok (.agg (IV .u8 ((((zl 128).set 0 104).set 1 101).set 2 108))) W := fun raw W => by
  rw [Cy (by omega), show (768 : Nat) = 6 * 128 from rfl, (hallW 6 (by omega)).2.2, mT];congr 1
 have hc129 : csW[129]? = some (.int .u8 1) := by
  have h := congrArg (fun a => a[1]?) (hallW 1 (by omega)).2.2;simp only [Array.getElem?_extract] at h;rw [if_pos (by omega), Bh, mS] at h;rw [show 1 * 128 + 1 = 129 from rfl] at h;rw [h, show (A9 fI)[1]? = some 1 from by decide +kernel]; rfl
 have HBF := sW (HB2.out.trans (HFw5.out.below (B := w.heap.size) HB2.out.size (by simp)));clear hallW hszW hcsW K1 K2 K3 K4;go_wp2_with fail;go_ret;exact ⟨rfl, HBF.out⟩
noncomputable def Co (N : Nat) (S : Nat -> List Int) : Int := open Classical in
 if N < 8 \/ 4096 < N then 120 else if (A4 (S 0)).2.2 ≠ 0 \/ (A4 (S 0)).1 ≠ N then 120 else if Fm S then 0 else 121
theorem Wz {N : Nat} {S : Nat -> List Int} (h : Co N S = 0) : 8 <= N /\ N <= 4096 /\ (A4 (S 0)).2.2 = 0 /\ (A4 (S 0)).1 = N /\ Fm S := by
 unfold Co at h;split at h
 ·cases h
 ·split at h
  ·cases h
  ·split at h
   ·rename_i h1 h2 h3
    refine ⟨by omega, by omega, Decidable.byContradiction fun h4 => h2 (.inl h4), Decidable.byContradiction fun h4 => h2 (.inr h4), h3⟩
   ·cases h
theorem Dv (w : World) (o : Obj) (ex : List Nat) : Fr ex w (w.alloc o) := Ag ((Below.refl w.heap.size w).alloc (Nat.le_refl _) _) _
theorem Fr.past {ex ex' : List Nat} {w w' : World} (h : Fr ex w w') (hs : ∀ k ∈ ex, k ∈ ex' \/ w.heap.size <= k) : Fr ex' w w' :=
 ⟨h.os, h.tape, h.output, h.size, fun b hb hn => h.block b hb fun hm => by
  rcases hs b hm with h1 | h1
  ·exact hn h1
  ·omega⟩
def Ek (w : World) (g N : Nat) (s : Int -> Bool) : Prop := ∃ cs, hat w g = some (.cells cs 4) /\ N <= cs.size /\ ∀ j : Nat, j < N -> cs[j]? = some (.bool (s j))
theorem Ek.lt {w : World} {g N : Nat} {s : Int -> Bool} (h : Ek w g N s) : g < w.heap.size := by
 obtain ⟨cs, h1, -⟩ := h; exact Aa h1
theorem Ek.same {w w' : World} {g N : Nat} {s : Int -> Bool} (h : Ek w g N s) (he : hat w' g = hat w g) : Ek w' g N s := by
 obtain ⟨cs, h1, h2⟩ := h;exact ⟨cs, he.trans h1, h2⟩
theorem Ek.put {w : World} {g N : Nat} {s : Int -> Bool} (h : Ek w g N s) {p : Nat} (hp : p < N) : Ek (w.setCell ⟨g, p, none⟩ (.bool true)) g N (Bi s p) := by
 obtain ⟨cs, h1, h2, h3⟩ := h;refine ⟨cs.setIfInBounds p (.bool true), Ah _ _ _ _ _ _ _ h1, by simpa using h2, fun j hj => ?_⟩;rw [Array.getElem?_setIfInBounds];by_cases hjp : p = j
 ·subst hjp;rw [if_pos rfl, if_pos (by omega)];simp [Bi]
 ·rw [if_neg hjp, h3 j hj];have : ¬ ((j : Int) = (p : Int)) := by omega
  simp [Bi, this]
structure pG where
 (g gs cs gi oi N ci : Nat)
 (X Y : Int)
 (S : Nat -> List Int)
 ino : Value
structure SG (E : pG) (w : World) (seen : Int -> Bool) : Prop where
 s : hat w E.g = some (.cells #[.int .i64 E.X, .int .i64 E.Y, .slice (some ⟨E.gi, E.oi, none⟩) E.N E.ci, .slice (some ⟨E.gs, 0, none⟩) E.N E.cs, E.ino] 81)
 b : Ek w E.gs E.N seen
 i : Gn w E.gi E.oi E.N E.S
theorem SG.fr {E : pG} {w w' : World} {seen : Int -> Bool} {ex : List Nat} (h : SG E w seen) (hf : Fr ex w w') (h1 : E.g ∉ ex) (h2 : E.gs ∉ ex) (h3 : E.gi ∉ ex) : SG E w' seen :=
 ⟨(hf.block _ (Aa h.s) h1).trans h.s, h.b.same (hf.block _ h.b.lt h2), h.i.same (hf.block _ h.i.lt h3)⟩
@[go_sem] theorem oQ (raw : Result Value) (w : World) (a b c d e : Value) (t : TypeId) (fr : Nat × Nat) : El raw 2 0 w (some (.cells #[a, b, c, d, e] t fr)) = .ok (.agg #[a, b]) w := by
 rw [Cy (by simp)]; rfl
def Me (raw : List Int) : List Int := (raw.drop 4).take 12
theorem kI (raw : List Int) (hr : raw.length = 18) (h0 : 0 <= nth raw 2) (h1 : nth raw 2 <= 136704) (w : World) :
  Calls Tryz.prog 64 #[.agg (IV .i64 raw)] w fun e w' => e = .returned (.int .i64 (Aw (nth raw 2))) /\ Below w.heap.size w w' := by
 have hc : (IV .i64 raw)[2]? = some (.int .i64 (nth raw 2)) := by rw [Bh, Am (by omega)]; rfl
 have HR : Hid (∀ x : Int, x = (nth raw 2 + 127) / 128 -> x = Aw (nth raw 2)) := sW (fun x h => h);go_enter Tryz.func64, Tryz.ntmps64;go_wp2_with fail;go_ret;exact ⟨aV (HR.out _ (by omega)), (Below.refl _ _).alloc (Nat.le_refl _) _⟩
def Jp (S : Nat -> List Int) (p : Int) (i : Nat) : Int := if p = 0 then 0 else nth (An (S p.toNat)) i
def Dw (S : Nat -> List Int) (raw : List Int) (k : Nat) : Int :=
 if k < 12 then nth raw (4 + k) else if k < 44 then Jp S (nth raw 16) (k - 12) else Jp S (if nth raw 17 = 0 then 0 else nth (An (S (nth raw 17).toNat)) ((k - 44) / 32)) ((k - 44) % 32)
structure Up (N : Nat) (S : Nat -> List Int) (raw : List Int) : Prop where
 r : raw.length = 18
 p16 : 0 <= nth raw 16 /\ nth raw 16 < N
 p17 : 0 <= nth raw 17 /\ nth raw 17 < N
 d : nth raw 17 ≠ 0 -> ∀ p ∈ An (S (nth raw 17).toNat), p < N
def Cz (S : Nat -> List Int) : List Int -> List (Int × ByteArray) -> Option (List (Int × ByteArray))
 | [], a => some a
 | p :: r, a => if p = 0 then Cz S r a else if (A2 (S p.toNat)).2.2 ≠ 0 then none else if (A2 (S p.toNat)).1 = 0 then Cz S r a else Cz S r (a ++ [((A2 (S p.toNat)).1, (A2 (S p.toNat)).2.1)])
theorem Ha (S : Nat -> List Int) (p : Int) (r : List Int) (a : List (Int × ByteArray)) : Cz S (p :: r) a = if p = 0 then Cz S r a else if (A2 (S p.toNat)).2.2 ≠ 0 then none else if (A2 (S p.toNat)).1 = 0 then Cz S r a else Cz S r (a ++ [((A2 (S p.toNat)).1, (A2 (S p.toNat)).2.1)]) := rfl
def V6 (S : Nat -> List Int) (raw : List Int) : List Int := (List.range (Aw (nth raw 2)).toNat).map (Dw S raw)
theorem Np {w : World} {b b' : Nat} {e : TypeId} {size : Nat} {v : Value} {n : Nat} {xs : List Value} (h : w.ownsRow b e size v n xs) (hb : b' <= b) : w.ownsRow b' e size v n xs := by
 obtain ⟨h0, h⟩ := h;refine ⟨h0, h.imp_right ?_⟩;rintro ⟨g, cap, cur, h1, h2, h3⟩;exact ⟨g, cap, cur, h1, by omega, h3⟩
theorem Jh {w w' : World} {b : Nat} {e : TypeId} {size : Nat} {v : Value} {n : Nat} {xs : List Value} (h : w.ownsRow b e size v n xs) (hb : Below w.heap.size w w') : w'.ownsRow b e size v n xs := by
 obtain ⟨h0, h⟩ := h;refine ⟨h0, h.imp_right ?_⟩;rintro ⟨g, cap, cur, h1, h2, h3, h4⟩;exact ⟨g, cap, cur, h1, h2, (hop hb h3).1, h4⟩
section
variable {P : Program} {ops : Array Oper} {Q : Exit -> Act -> World -> Prop}
theorem Bo {i : Nat} {o : Oper} {K : Act -> World -> Prop} {a : Act} {w : World} {j d : Nat} {b b' : Bool} (ho : ops[i]? = some o) (hg : o.guard = some (j, b)) {oj : Oper} (hj : ops[j]? = some oj) (hd : oj.dst = some d) (h : gt a d = .bool b') (hb : (b == b') = false) (hk : K (a.put o.dst undef) w) : wpOp P ops Q i K a w := by
 have h1 : a.tmps[d]? = some (.bool b') := by
  unfold gt at h;rw [Array.getD_eq_getD_getElem?] at h;cases hx : a.tmps[d]? with
  | none => rw [hx] at h; cases h
  | some v => rw [hx] at h; exact congrArg some h
 have h2 : yielded ops a.tmps j = some b' := by
  unfold yielded;rw [hj];simp [hd, h1]
 have h3 : Region.wanted o (yielded ops a.tmps) = false := by
  simp [Region.wanted, hg, h2];intro e;subst e;cases b' <;> cases hb
 unfold wpOp;simp only [ho];rw [if_neg (by rw [h3]; simp)];exact hk
theorem eN {i : Nat} {o : Oper} {K : Act -> World -> Prop} {a : Act} {w w1 : World} (ho : ops[i]? = some o) (hg : o.guard = none)
  (hr : (execOp a.eval o).run P w = .ok .skip w1) (hk : K (a.put o.dst undef) w1) : wpOp P ops Q i K a w := by
 unfold wpOp;simp only [ho];rw [if_pos (by simp [Region.wanted, hg])];refine .inl ?_;unfold Oper.wp;rw [hr];exact hk
end
abbrev Ent := Int × ByteArray
def fC (L : Nat -> List Ent) (N j : Nat) : Nat := ((List.range (N + 1)).map fun i => (L i).countP fun e => decide (e.1 = (j : Int))).sum
def Vx (L : Nat -> List Ent) (c : Nat) (l : List Ent) : Nat -> List Ent := fun i => if i = c then l else L i
theorem Kj (L : Nat -> List Ent) (c : Nat) (l : List Ent) : Vx L c l c = l := by unfold Vx; rw [if_pos rfl]
theorem Jd (L : Nat -> List Ent) {c i : Nat} (l : List Ent) (h : i ≠ c) : Vx L c l i = L i := by unfold Vx; rw [if_neg h]
theorem bC (f g : Nat -> Nat) (c d : Nat) (h : ∀ i, i ≠ c -> f i = g i) (hc : f c = g c + d) : ∀ n : Nat, ((List.range n).map f).sum = ((List.range n).map g).sum + if c < n then d else 0
 | 0 => rfl
 | n + 1 => by
  rw [List.range_succ, List.map_append, List.map_append, List.sum_append, List.sum_append, bC f g c d h hc n];simp only [List.map_cons, List.map_nil, List.sum_cons, List.sum_nil];by_cases hn : n = c
  ·subst hn;rw [if_neg (by omega), if_pos (by omega), hc]; omega
  ·rw [h n hn];by_cases hl : c < n
   ·rw [if_pos hl, if_pos (by omega)]; omega
   ·rw [if_neg hl, if_neg (by omega)]; omega
theorem fD (L : Nat -> List Ent) {N c : Nat} (hc : c <= N) (e : Ent) (j : Nat) : fC (Vx L c (L c ++ [e])) N j = fC L N j + if e.1 = (j : Int) then 1 else 0 := by
 unfold fC;rw [bC (fun i => (Vx L c (L c ++ [e]) i).countP fun e => decide (e.1 = (j : Int))) (fun i => (L i).countP fun e => decide (e.1 = (j : Int))) c (if e.1 = (j : Int) then 1 else 0)]
 ·rw [if_pos (by omega)]
 ·intro i hi;simp only [Jd L _ hi]
 ·simp only [Kj, List.countP_append, List.countP_cons, List.countP_nil, decide_eq_true_eq];omega
theorem X4 (f : Nat -> Nat) : ∀ n : Nat, (∀ i, i < n -> f i = 0) -> ((List.range n).map f).sum = 0
 | 0, _ => rfl
 | n + 1, h => by
  rw [List.range_succ, List.map_append, List.sum_append, X4 f n (fun i hi => h i (by omega))];simp [h n (by omega)]
theorem Tq {L : Nat -> List Ent} {N j : Nat} (h : ∀ i e, e ∈ L i -> e.1 ≠ (j : Int)) : fC L N j = 0 :=
 X4 _ _ fun i _ => List.countP_eq_zero.2 fun e he => by simp [h i e he]
def bkL (bk : Int -> Option Int) (n : Nat) : List Int := (List.range n).map fun (k : Nat) => (bk k).getD 0
theorem Nc (bk : Int -> Option Int) (n : Nat) : bkL bk (n + 1) = bkL bk n ++ [(bk n).getD 0] := by
 unfold bkL;rw [List.range_succ, List.map_append]; rfl
theorem V4 (bk : Int -> Option Int) : bkL bk 0 = [] := rfl
theorem lM {bk : Int -> Option Int} {n : Nat} {p : Int} (h : p ∈ bkL bk n) (hp : p ≠ 0) : ∃ k : Nat, k < n /\ bk k = some p := by
 unfold bkL at h;rw [List.mem_map] at h;obtain ⟨k, hk, e⟩ := h;refine ⟨k, List.mem_range.1 hk, ?_⟩;cases hb : bk k with
 | none => rw [hb] at e; exact absurd e.symm hp
 | some q => rw [hb] at e; exact congrArg some e
theorem Kg (S : Nat -> List Int) : ∀ (a b : List Int) (l : List Ent), Cz S (a ++ b) l = (Cz S a l).bind (Cz S b)
 | [], b, l => rfl
 | p :: r, b, l => by
  rw [List.cons_append, Ha, Ha];split
  ·exact Kg S r b l
  ·split
   ·rfl
   ·split
    ·exact Kg S r b l
    ·exact Kg S r b _
theorem Lt {S S' : Nat -> List Int} : ∀ (a : List Int) (l : List Ent), (∀ p ∈ a, p ≠ 0 -> S' p.toNat = S p.toNat) -> Cz S' a l = Cz S a l
 | [], _, _ => rfl
 | p :: r, l, h => by
  have ih := fun l => Lt r l (fun q hq => h q (List.mem_cons_of_mem _ hq))
  rw [Ha, Ha, ih, ih];by_cases hp : p = 0
  ·rw [if_pos hp, if_pos hp]
  ·rw [if_neg hp, if_neg hp, h p (List.mem_cons_self ..) hp]
theorem Jb {S : Nat -> List Int} {a : List Int} {l : List Ent} (h : Cz S a [] = some l) (p : Int) : Cz S (a ++ [p]) [] = if p = 0 then some l else if (A2 (S p.toNat)).2.2 ≠ 0 then none else if (A2 (S p.toNat)).1 = 0 then some l else some (l ++ [((A2 (S p.toNat)).1, (A2 (S p.toNat)).2.1)]) := by
 rw [Kg, h];show Cz S [p] l = _
 rw [Ha];rfl
def Mv (w : World) (g N : Nat) (f : Nat -> Int) : Prop := ∃ cs, hat w g = some (.cells cs 3) /\ N <= cs.size /\ ∀ j : Nat, j < N -> cs[j]? = some (.int .i64 (f j))
theorem Mv.lt {w : World} {g N : Nat} {f : Nat -> Int} (h : Mv w g N f) : g < w.heap.size := by
 obtain ⟨cs, h1, -⟩ := h; exact Aa h1
theorem Mv.same {w w' : World} {g N : Nat} {f : Nat -> Int} (h : Mv w g N f) (he : hat w' g = hat w g) : Mv w' g N f := by
 obtain ⟨cs, h1, h2⟩ := h;exact ⟨cs, he.trans h1, h2⟩
theorem Mv.put {w : World} {g N : Nat} {f f' : Nat -> Int} (h : Mv w g N f) {p : Nat} {x : Int} (hp : p < N) (hf : ∀ j, f' j = if p = j then x else f j) : Mv (w.setCell ⟨g, p, none⟩ (.int .i64 x)) g N f' := by
 obtain ⟨cs, h1, h2, h3⟩ := h;refine ⟨cs.setIfInBounds p (.int .i64 x), Ah _ _ _ _ _ _ _ h1, by simpa using h2, fun j hj => ?_⟩;rw [Array.getElem?_setIfInBounds, hf];by_cases hjp : p = j
 ·subst hjp;rw [if_pos rfl, if_pos (by omega), if_pos rfl]
 ·rw [if_neg hjp, if_neg hjp, h3 j hj]
def Kz (w : World) (g M : Nat) (I : Nat -> List Int) : Prop := ∃ cs, hat w g = some (.cells cs 45) /\ cs.size = M * 18 /\ ∀ i, i < M -> (I i).length = 18 /\ cs.extract (i * 18) (i * 18 + 18) = IV .i64 (I i)
theorem Kz.lt {w : World} {g N : Nat} {I : Nat -> List Int} (h : Kz w g N I) : g < w.heap.size := by
 obtain ⟨cs, h1, -⟩ := h; exact Aa h1
theorem Kz.same {w w' : World} {g N : Nat} {I : Nat -> List Int} (h : Kz w g N I) (he : hat w' g = hat w g) : Kz w' g N I := by
 obtain ⟨cs, h1, h2⟩ := h;exact ⟨cs, he.trans h1, h2⟩
theorem Kz.load {w : World} {g M : Nat} {I : Nat -> List Int} (h : Kz w g M I) {i : Nat} (hi : i < M) :
  ∃ cs, hat w g = some (.cells cs 45) /\ (I i).length = 18 /\ (∀ raw w', El raw 18 (i * 18) w' (some (.cells cs 45)) = .ok (.agg (IV .i64 (I i))) w') /\ ∀ k, k < 18 -> cs[i * 18 + k]? = some (.int .i64 (nth (I i) k)) := by
 obtain ⟨cs, h1, h2, h3⟩ := h;obtain ⟨hl, hx⟩ := h3 i hi;refine ⟨cs, h1, hl, fun raw w' => ?_, fun k hk => ?_⟩
 ·rw [Cy (by omega), hx]
 ·have := congrArg (fun a : Array Value => a[k]?) hx;simp only [Array.getElem?_extract, Bh, Am (l := I i) (i := k) (by omega)] at this;rw [if_pos (by omega)] at this;exact this
theorem Tryz.infoW3 : (Tryz.prog.info? 3).map (fun i => (i.zero, i.size, i.bytes)) = some (some (.int .i64 0), 1, 8) := by kernel_rfl
theorem Tryz.infoW4 : (Tryz.prog.info? 4).map (fun i => (i.zero, i.size, i.bytes)) = some (some (.bool false), 1, 1) := by kernel_rfl
theorem W1 (z : Value) (n j : Nat) (hj : j < n) (hz : z.cells = #[z]) : (madeCells z.cells (n * 1))[j]? = some z := by
 rw [hz];unfold madeCells;rw [Array.getElem?_map, Array.getElem?_range, if_pos (by omega)];simp [Nat.mod_one]
theorem dE (w : World) (N : Nat) (hN : N <= 5000) : ∃ w', (Instr.makeSlice 24 (.int .i64 N) (.int .i64 N)).run Tryz.prog w = .ok (.slice (some ⟨w.heap.size, 0, none⟩) N N) w' /\ Mv w' w.heap.size N (fun _ => 0) /\ Below w.heap.size w w' := by
 obtain ⟨i, h2, h3, h4, h5⟩ := info_parts Tryz.infoW3;have hr := run_make (P := Tryz.prog) w 24 3 i (.int .i64 0) Tryz.underlying24 h2 h3 .i64 .i64 N N (by omega) (Int.le_refl _) (by rw [h5]; omega) (by omega);rw [Int.toNat_natCast, h4] at hr;refine ⟨_, hr, ⟨_, (A7 w _).1, by rw [size_madeCells]; omega, fun j hj => W1 _ _ _ hj rfl⟩, (Below.refl _ _).alloc (Nat.le_refl _) _⟩
theorem M1 (w : World) (N : Nat) (hN : N <= 5000) : ∃ w', (Instr.makeSlice 54 (.int .i64 N) (.int .i64 N)).run Tryz.prog w = .ok (.slice (some ⟨w.heap.size, 0, none⟩) N N) w' /\ Ek w' w.heap.size N (fun _ => false) /\ Below w.heap.size w w' := by
 obtain ⟨i, h2, h3, h4, h5⟩ := info_parts Tryz.infoW4;have hr := run_make (P := Tryz.prog) w 54 4 i (.bool false) Tryz.underlying54 h2 h3 .i64 .i64 N N (by omega) (Int.le_refl _) (by rw [h5]; omega) (by omega);rw [Int.toNat_natCast, h4] at hr;refine ⟨_, hr, ⟨_, (A7 w _).1, by rw [size_madeCells]; omega, fun j hj => W1 _ _ _ hj rfl⟩, (Below.refl _ _).alloc (Nat.le_refl _) _⟩
theorem cR : ∃ i0 z, Tryz.prog.info? 45 = some i0 /\ i0.zero = some z /\ z.cells = IV .i64 (zl 18) /\ i0.size = 18 /\ i0.bytes = 144 := by
 have h : (Tryz.prog.info? 45).map (fun i => (i.zero.map (fun z => z.cells), i.size, i.bytes)) = some (some (IV .i64 (zl 18)), 18, 144) := by kernel_rfl
 cases hq : Tryz.prog.info? 45 with
 | none => rw [hq] at h; cases h
 | some inf =>
  rw [hq] at h;simp only [Option.map_some, Option.some.injEq, Prod.mk.injEq] at h;obtain ⟨h1, h2, h3⟩ := h;cases hz : inf.zero with
  | none => rw [hz] at h1; cases h1
  | some z =>
   rw [hz] at h1;simp only [Option.map_some, Option.some.injEq] at h1;exact ⟨inf, z, rfl, hz, h1, h2, h3⟩
theorem dD (w : World) (N : Nat) (hN : N <= 5000) : ∃ w', (Instr.makeSlice 74 (.int .i64 N) (.int .i64 N)).run Tryz.prog w = .ok (.slice (some ⟨w.heap.size, 0, none⟩) N N) w' /\ Kz w' w.heap.size N (fun _ => zl 18) /\ Below w.heap.size w w' := by
 obtain ⟨i, z, h2, h3, hc, h4, h5⟩ := cR;have hr := run_make (P := Tryz.prog) w 74 45 i z Tryz.underlying74 h2 h3 .i64 .i64 N N (by omega) (Int.le_refl _) (by rw [h5]; omega) (by omega);rw [Int.toNat_natCast, h4, hc] at hr;refine ⟨_, hr, ⟨_, (A7 w _).1, by rw [size_madeCells], fun j hj => ⟨Ca _, ?_⟩⟩, (Below.refl _ _).alloc (Nat.le_refl _) _⟩;apply Array.ext_getElem?
 intro k;rw [Array.getElem?_extract, Bh, size_madeCells];by_cases hk : k < 18
 ·rw [if_pos (by omega)];have hm : ((IV .i64 (zl 18)).size : Nat) = 18 := by simp
  have hlt : (j * 18 + k) % 18 < 18 := Nat.mod_lt _ (by omega);have hz : ∀ n, n < 18 -> (IV .i64 (zl 18))[n]! = .int .i64 0 := fun n hn => by
   rw [getElem!_def, Bh];unfold zl;rw [List.getElem?_replicate, if_pos hn]; rfl
  unfold madeCells;rw [Array.getElem?_map, Array.getElem?_range, if_pos (by omega)];simp only [Option.map_some, hm, hz _ hlt];unfold zl;rw [List.getElem?_replicate, if_pos hk]; rfl
 ·rw [if_neg (by omega), List.getElem?_eq_none (by simp; omega)]; rfl
def eZ (w : World) (g : Nat) (l : List Ent) : Prop := ∃ cs, hat w g = some (.cells cs 93) /\ ∀ k x nm, l[k]? = some (x, nm) -> cs[k * 2]? = some (.int .i64 x) /\ cs[k * 2 + 1]? = some (.string nm)
theorem eZ.same {w w' : World} {g : Nat} {l : List Ent} (h : eZ w g l) (he : hat w' g = hat w g) : eZ w' g l := by
 obtain ⟨cs, h1, h2⟩ := h;exact ⟨cs, he.trans h1, h2⟩
def Z4 (I : Nat -> List Int) (M : Nat) (l : List Ent) : Prop := (∀ e ∈ l, 2 <= e.1 /\ e.1 < M /\ nth (I e.1.toNat) 0 ≠ 0) /\ (l.map Prod.snd).Nodup
def nK (S I : Nat -> List Int) (M i : Nat) : Prop := nth (I i) 0 = 2 -> ∃ l, Cz S (V6 S (I i)) [] = some l /\ Z4 I M l
def cA (S I : Nat -> List Int) (M : Nat) (i : Nat) : List Ent := if 1 <= i /\ i < M /\ nth (I i) 0 = 2 then (Cz S (V6 S (I i)) []).getD [] else []
theorem We {S I : Nat -> List Int} {M i : Nat} (h1 : 1 <= i) (h2 : i < M) (h3 : nth (I i) 0 = 2) {l : List Ent} (h : Cz S (V6 S (I i)) [] = some l) : cA S I M i = l := by
 unfold cA;rw [if_pos ⟨h1, h2, h3⟩, h]; rfl
theorem kR {S I : Nat -> List Int} {M i : Nat} (h3 : nth (I i) 0 ≠ 2) : cA S I M i = [] := by
 unfold cA;rw [if_neg (fun h => h3 h.2.2)]
def nE (L : Nat -> List Ent) (P : Nat -> Prop) : Prop := ∀ i e, P i -> e ∈ L i -> P e.1.toNat
def unr (M : Nat) (rch : Int -> Bool) : Nat := ((List.range M).filter fun (j : Nat) => !rch (j : Int)).length
theorem bJ {M : Nat} {rch : Int -> Bool} {x : Nat} (hx : x < M) (h : rch x = false) : unr M (Bi rch x) < unr M rch := by
 unfold unr;have e : (List.range M).filter (fun (j : Nat) => !Bi rch x (j : Int)) = ((List.range M).filter fun (j : Nat) => !rch (j : Int)).filter fun j => j != x := by
  rw [List.filter_filter];apply List.filter_congr
  intro j _;by_cases hj : j = x
  ·subst hj; simp [Bi]
  ·have : ¬ ((j : Int) = (x : Int)) := by omega
   simp [Bi, hj, this]
 rw [e, List.length_filter_lt_length_iff_exists];exact ⟨x, List.mem_filter.2 ⟨List.mem_range.2 hx, by simp [h]⟩, by simp⟩
def Hn (X Y base : Int) (k : Nat) (p : Int) (st : LS) : Bool × LS :=
 if isD X Y p = true /\ st.cl p = false then (true, { st with cl := Bi st.cl p, bk := Ee st.bk (base + k) p }) else (false, st)
noncomputable def Es (X Y : Int) (F : List Int -> LS -> List Int × Bool × LS) (p : Int) (st : LS) : Bool × LS :=
 if isD X Y p = true /\ st.cl p = false then Cu F p.toNat { st with cl := Bi st.cl p } else (false, st)
def F8 (T : Nat -> Int -> LS -> Bool × LS) (base step n : Int) : Nat -> List Int -> LS -> List Int × Bool × LS
 | _, [], st => ([], false, st)
 | k, p :: r, st =>
  if p = 0 \/ n <= base + step * k \/ (T k p st).1 = false then (0 :: (F8 T base step n (k + 1) r st).1, (F8 T base step n (k + 1) r st).2.1, (F8 T base step n (k + 1) r st).2.2)
  else (p :: (F8 T base step n (k + 1) r (T k p st).2).1, true, (F8 T base step n (k + 1) r (T k p st).2).2.2)
theorem Er (T : Nat -> Int -> LS -> Bool × LS) (base step n : Int) (k : Nat) (p : Int) (r : List Int) (st : LS) : F8 T base step n k (p :: r) st =
  if p = 0 \/ n <= base + step * k \/ (T k p st).1 = false then (0 :: (F8 T base step n (k + 1) r st).1, (F8 T base step n (k + 1) r st).2.1, (F8 T base step n (k + 1) r st).2.2)
  else (p :: (F8 T base step n (k + 1) r (T k p st).2).1, true, (F8 T base step n (k + 1) r (T k p st).2).2.2) := rfl
theorem Nw {Ar : Int -> LS -> Bool × LS} {keepP : Nat -> Int -> LS -> Bool × LS} {T : Nat -> Int -> LS -> Bool × LS} (base step n : Int)
  (hT : ∀ k p st, T k p st = if (Ar p st).1 = false then (false, (Ar p st).2) else keepP k p (Ar p st).2) (hF : ∀ k p st, (T k p st).1 = false -> (T k p st).2 = st) :
  ∀ (ps : List Int) (k : Nat) (st : LS), Av Ar keepP base step n k ps st = F8 T base step n k ps st
 | [], _, _ => rfl
 | p :: r, k, st => by
  rw [Ep, Er];simp only [Nw base step n hT hF r];by_cases h0 : p = 0
  ·rw [if_pos h0, if_pos (.inl h0)]
  ·rw [if_neg h0];by_cases h1 : n <= base + step * k
   ·rw [if_pos h1, if_pos (.inr (.inl h1))]
   ·rw [if_neg h1];have ht := hT k p st;by_cases h2 : (Ar p st).1 = false
    ·rw [if_pos h2] at ht;have hf := hF k p st (by rw [ht]);have e : (Ar p st).2 = st := by rw [ht] at hf; exact hf
     rw [if_pos h2, if_pos (.inr (.inr (by rw [ht]))), e]
    ·rw [if_neg h2] at ht;rw [if_neg h2, <- ht];by_cases h3 : (T k p st).1 = false
     ·rw [if_pos h3, if_pos (.inr (.inr h3)), hF k p st h3]
     ·rw [if_neg h3, if_neg (by rintro (h | h | h) <;> contradiction)]
def Gr (s s2 : LS) : Prop := ∀ j : Nat, s.cl j = true -> s2.cl j = true /\ s2.fm j = s.fm j /\ s2.S j = s.S j
theorem Gr.refl (s : LS) : Gr s s := fun _ h => ⟨h, rfl, rfl⟩
theorem Gr.trans {a b c : LS} (h : Gr a b) (h2 : Gr b c) : Gr a c := fun j hj => by
 obtain ⟨h3, h4, h5⟩ := h j hj;obtain ⟨h6, h7, h8⟩ := h2 j h3;exact ⟨h6, h7.trans h4, h8.trans h5⟩
def Qg (s : LS) : Prop := ∀ j : Nat, s.fm j = true -> s.cl j = true
structure Z8 (T : Int -> LS -> Bool × LS) : Prop where
 fail : ∀ p s, (T p s).1 = false -> (T p s).2 = s
 grow : ∀ p s, Gr s (T p s).2
 fmcl : ∀ p s, Qg s -> Qg (T p s).2
structure Ye (F : List Int -> LS -> List Int × Bool × LS) : Prop where
 fail : ∀ ps s, (F ps s).2.1 = false -> (F ps s).2.2 = s /\ ∀ i, nth (F ps s).1 i = 0
 grow : ∀ ps s, Gr s (F ps s).2.2
 fmcl : ∀ ps s, Qg s -> Qg (F ps s).2.2
 sub : ∀ ps s i, nth (F ps s).1 i = nth ps i \/ nth (F ps s).1 i = 0
 len : ∀ ps s, (F ps s).1.length = ps.length
theorem On (p : Int) (r : List Int) : nth (p :: r) 0 = p := rfl
theorem Oo (p : Int) (r : List Int) (i : Nat) : nth (p :: r) (i + 1) = nth r i := rfl
theorem Ce {X Y p : Int} (hY : 0 <= Y) (h : isD X Y p = true) : (p.toNat : Int) = p /\ p ≠ 0 := by
 unfold isD at h;have := of_decide_eq_true h;omega
theorem F1 (s : Int -> Bool) (p : Int) : Bi s p p = true := by simp [Bi]
theorem Ff {s : Int -> Bool} {p q : Int} (h : s q = true) : Bi s p q = true := by simp [Bi, h]
theorem Jz {s : Int -> Bool} {p q : Int} (h : q ≠ p) : Bi s p q = s q := by simp [Bi, h]
theorem kM {s : Int -> Bool} {p : Int} (h : s p = false) : Pw (Bi s p) p = s := by
 funext q
 unfold Pw Bi;by_cases hq : q = p
 ·subst hq; simp [h]
 ·simp [hq]
theorem Fk (S : Nat -> List Int) (i : Nat) (a : List Int) : Bn S i a i = a := by unfold Bn; rw [if_pos rfl]
theorem C0 (S : Nat -> List Int) {i j : Nat} (a : List Int) (h : j ≠ i) : Bn S i a j = S j := by unfold Bn; rw [if_neg h]
theorem Sm {T : Nat -> Int -> LS -> Bool × LS} (hT : ∀ k, Z8 (T k)) (base step n : Int) (k0 : Nat) : Ye (F8 T base step n k0) := by
 refine ⟨fun ps => ?_, fun ps => ?_, fun ps => ?_, fun ps => ?_, fun ps => ?_⟩
 ·induction ps generalizing k0 with
  | nil => intro s _; exact ⟨rfl, fun i => rfl⟩
  | cons p r ih =>
   intro s h;rw [Er] at h ⊢;split at h
   ·rename_i hc
    rw [if_pos hc];obtain ⟨h1, h2⟩ := ih (k0 + 1) s h;refine ⟨h1, fun i => ?_⟩;cases i with
    | zero => rfl
    | succ i => exact h2 i
   ·cases h
 ·induction ps generalizing k0 with
  | nil => intro s; exact Gr.refl _
  | cons p r ih =>
   intro s;rw [Er];split
   ·exact ih (k0 + 1) s
   ·exact ((hT k0).grow p s).trans (ih (k0 + 1) _)
 ·induction ps generalizing k0 with
  | nil => intro s h; exact h
  | cons p r ih =>
   intro s h;rw [Er];split
   ·exact ih (k0 + 1) s h
   ·exact ih (k0 + 1) _ ((hT k0).fmcl p s h)
 ·induction ps generalizing k0 with
  | nil => intro s i; exact .inl rfl
  | cons p r ih =>
   intro s i;rw [Er];split
   ·cases i with
    | zero => exact .inr rfl
    | succ i => exact ih (k0 + 1) s i
   ·cases i with
    | zero => exact .inl rfl
    | succ i => exact ih (k0 + 1) _ i
 ·induction ps generalizing k0 with
  | nil => intro s; rfl
  | cons p r ih =>
   intro s;rw [Er];split
   ·simp [ih (k0 + 1) s]
   ·simp [ih (k0 + 1) (T k0 p s).2]
theorem Un (X Y base : Int) (k : Nat) : Z8 (Hn X Y base k) := by
 refine ⟨fun p s h => ?_, fun p s => ?_, fun p s h => ?_⟩
 ·unfold Hn at h ⊢;split at h
  ·cases h
  ·rename_i hc; rw [if_neg hc]
 ·unfold Hn;split
  ·exact fun j hj => ⟨Ff hj, rfl, rfl⟩
  ·exact Gr.refl _
 ·unfold Hn;split
  ·exact fun j hj => Ff (h j hj)
  ·exact h
theorem Ip {X Y : Int} {F : List Int -> LS -> List Int × Bool × LS} {p : Int} {s : LS} (h : (Es X Y F p s).1 = true) :
  isD X Y p = true /\ s.cl p = false /\ (F (An (s.S p.toNat)) { s with cl := Bi s.cl p }).2.1 = true /\
  (Es X Y F p s).2 = { (F (An (s.S p.toNat)) { s with cl := Bi s.cl p }).2.2 with S := Bn (F (An (s.S p.toNat)) { s with cl := Bi s.cl p }).2.2.S p.toNat (Du (F (An (s.S p.toNat)) { s with cl := Bi s.cl p }).1).1, fm := Bi (F (An (s.S p.toNat)) { s with cl := Bi s.cl p }).2.2.fm p.toNat } := by
 unfold Es at h ⊢;split at h
 ·rename_i hc
  rw [if_pos hc];unfold Cu at h ⊢;split at h
  ·cases h
  ·rename_i hl
   rw [if_neg hl];exact ⟨hc.1, hc.2, by simpa using hl, rfl⟩
 ·cases h
theorem Mc {X Y : Int} (hY : 0 <= Y) {F : List Int -> LS -> List Int × Bool × LS} (hF : Ye F) : Z8 (Es X Y F) := by
 have hfail : ∀ p s, (Es X Y F p s).1 = false -> (Es X Y F p s).2 = s := by
  intro p s h;unfold Es at h ⊢;split at h
  ·rename_i hc
   rw [if_pos hc];unfold Cu at h ⊢;split at h
   ·rename_i hl
    rw [if_pos hl];have e := (hF.fail _ _ hl).1;have hp := (Ce hY hc.1).1;simp only;rw [e];simp only [hp, kM hc.2]
   ·cases h
  ·rename_i hc; rw [if_neg hc]
 refine ⟨hfail, fun p s => ?_, fun p s h => ?_⟩
 ·cases hb : (Es X Y F p s).1 with
  | false => rw [hfail p s hb]; exact Gr.refl _
  | true =>
   obtain ⟨h1, h2, h3, h4⟩ := Ip hb;rw [h4];obtain ⟨hp, -⟩ := Ce hY h1;intro j hj;have hjp : (j : Int) ≠ p := fun e => by rw [e, h2] at hj; cases hj
   have hjn : j ≠ p.toNat := fun e => hjp (by rw [e, hp])
   obtain ⟨g1, g2, g3⟩ := hF.grow (An (s.S p.toNat)) { s with cl := Bi s.cl p } j (Ff hj);refine ⟨g1, ?_, ?_⟩
   ·show Bi _ _ _ = _
    rw [Jz (by rw [hp]; exact hjp)]; exact g2
   ·show Bn _ _ _ _ = _
    rw [C0 _ _ hjn]; exact g3
 ·cases hb : (Es X Y F p s).1 with
  | false => rw [hfail p s hb]; exact h
  | true =>
   obtain ⟨h1, h2, h3, h4⟩ := Ip hb;rw [h4];obtain ⟨hp, -⟩ := Ce hY h1;intro j hj;have hc1 : Qg { s with cl := Bi s.cl p } := fun j hj => Ff (h j hj)
   by_cases hjp : (j : Int) = p
   ·have := (hF.grow (An (s.S p.toNat)) { s with cl := Bi s.cl p } j (by rw [hjp]; exact F1 _ _)).1;exact this
   ·have hj2 : Bi (F (An (s.S p.toNat)) { s with cl := Bi s.cl p }).2.2.fm p.toNat j = true := hj;rw [Jz (by rw [hp]; exact hjp)] at hj2;exact hF.fmcl _ _ hc1 j hj2
def X3 (a b : List Int) : Prop := ∀ i, nth (An a) i = nth (An b) i \/ nth (An a) i = 0
structure Sd (X Y : Int) (allw : Prop) (W A : Nat -> List Int) (f0 : Int -> Bool) (s s' : LS) : Prop where
 cl : s'.cl = s.cl
 fm : s'.fm = s.fm
 bk : s'.bk = s.bk
 S : ∀ j, s'.S j = s.S j \/ s'.S j = W j
 un : ∀ j : Nat, isD X Y j = true -> s.cl j = false -> s'.S j = A j /\ A0 (s.S j) /\ (¬ allw -> X3 (A j) (s.S j))
 f0 : ∀ j : Nat, f0 j = true -> s.cl j = true
 fc : Qg s
def Pro (allw : Prop) (W A : Nat -> List Int) (f0 : Int -> Bool) (s : LS) : Prop := ∀ j : Nat, s.fm j = true -> f0 j = false -> s.S j = W j /\ (allw -> A j = W j)
theorem Pro.back {allw : Prop} {W A : Nat -> List Int} {f0 : Int -> Bool} {s s2 : LS} (h : Pro allw W A f0 s2) (hg : Gr s s2) (hc : Qg s) : Pro allw W A f0 s := fun j hj h0 => by
 obtain ⟨h1, h2, h3⟩ := hg j (hc j hj);have := h j (by rw [h2]; exact hj) h0;rw [h3] at this;exact this
theorem Rm {o c : List Int} (hc : A0 c) (hs : ∀ i, nth o i = nth (An c) i \/ nth o i = 0) : Gc o := by
 intro j hj;rcases hs j with h | h
 ·rw [h];have hm : nth (An c) j ∈ An c := by
   unfold nth;rw [List.getElem?_eq_getElem (by simp; exact hj)];exact List.getElem_mem _
  exact I8 hc _ hm
 ·rw [h]; omega
end Go.Proofs.YthioepdgnbdohaaGreat
