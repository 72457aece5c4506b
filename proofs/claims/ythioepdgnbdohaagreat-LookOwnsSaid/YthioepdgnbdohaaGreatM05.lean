import Derived.Lib.SliceRun
import Derived.StringKeys
import Derived.Test.YthioepdgnbdohaaGreatM04
namespace Go.Proofs.YthioepdgnbdohaaGreat
set_option maxHeartbeats 16000000
set_option maxRecDepth 1000000
set_option linter.unusedSimpArgs false
set_option linter.unusedVariables false
open Go.RowKit
theorem E6 (w : World) (g i : Nat) (v : Value) (n : Nat) (h : n ≠ g) : hat (w.setCell ⟨g, i, none⟩ v) n = hat w n := E5 _ ⟨g, i, none⟩ v n h
structure Hh where
 (lv nv xv gx : Nat)
 n : Int
structure TV (E : Env) (T : Hh) (w : World) : Prop where
 l : hat w T.lv = some (.cells #[.pointer (some ⟨E.gl, 0, none⟩)] 56)
 n : hat w T.nv = some (.cells #[.int .i64 T.n] 3)
 x : hat w T.xv = some (.cells #[.pointer (some ⟨T.gx, 0, none⟩)] 70)
 g : ∃ cs, hat w T.gx = some (.cells cs 69) /\ cs.size = 20 /\ cs[19]? = some (.map (some E.bx))
theorem TV.fr {E : Env} {T : Hh} {w w' : World} {ex : List Nat} (h : TV E T w) (hf : Fr ex w w') (h1 : T.lv ∉ ex) (h2 : T.nv ∉ ex) (h3 : T.xv ∉ ex) (h4 : T.gx ∉ ex) : TV E T w' := by
 obtain ⟨cs, hg, hg2⟩ := h.g;exact ⟨(hf.block _ (Aa h.l) h1).trans h.l, (hf.block _ (Aa h.n) h2).trans h.n, (hf.block _ (Aa h.x) h3).trans h.x, cs, (hf.block _ (Aa hg) h4).trans hg, hg2⟩
theorem TV.cell {E : Env} {T : Hh} {w : World} (h : TV E T w) (g j : Nat) (v : Value) (h1 : g ≠ T.lv) (h2 : g ≠ T.nv) (h3 : g ≠ T.xv) (h4 : g = T.gx -> j <= 18) : TV E T (w.setCell ⟨g, j, none⟩ v) := by
 obtain ⟨cs, hg, hg2, hg3⟩ := h.g;refine ⟨(E6 w g j v _ h1.symm).trans h.l, (E6 w g j v _ h2.symm).trans h.n, (E6 w g j v _ h3.symm).trans h.x, ?_⟩;by_cases hgx : g = T.gx
 ·have hj := h4 hgx;subst hgx;refine ⟨cs.setIfInBounds j v, Ah _ _ _ _ _ _ _ hg, by simpa using hg2, ?_⟩;rw [Array.getElem?_setIfInBounds, if_neg (by omega)];exact hg3
 ·exact ⟨cs, (E6 w g j v _ (fun e => hgx e.symm)).trans hg, hg2, hg3⟩
def Eh (E : Env) : List Nat := [E.gl, E.gw, E.bc, E.bf, E.bx]
structure TOk (E : Env) (T : Hh) : Prop where
 l : T.lv ∉ Eh E
 n : T.nv ∉ Eh E
 x : T.xv ∉ Eh E
 g : T.gx ∉ Eh E
 n0 : 0 <= T.n
 n1 : T.n <= 1068
def Cc (base : Int) (k : Nat) (p : Int) (st : LS) : Bool × LS := (true, { st with bk := Ee st.bk (base + k) p })
def Nr (E : Env) (T : Hh) (base : Int) (ps : List Int) (st : LS) : List Int × Bool × LS := Av (Ar E) (Cc base) base 1 T.n 0 ps st
theorem Ww {E : Env} (hE : EOk E) {T : Hh} (hT : TOk E T) (fv : Nat) (base : Int) (k : Nat) (p : Int) (st : LS) (w : World) (h : LK E w st) (hv : TV E T w) (hf : hat w fv = some (.cells #[.int .i64 base] 3))
  (h0 : 0 <= base) (h1 : base <= 1068) (hk : k < 32) (hp0 : 0 <= p) (hp1 : p <= 4294967295) :
  Calls Tryz.prog 50 #[.int .i64 k, .int .i64 p, .pointer (some ⟨T.xv, 0, none⟩), .pointer (some ⟨fv, 0, none⟩)] w fun e w' =>
   e = .returned (.bool (Cc base k p st).1) /\ LK E w' (Cc base k p st).2 /\ Fr [E.bx] w w' := by
 obtain ⟨cs, hg, hgs, hg19⟩ := hv.g;have h19 : ∀ h : 19 < cs.size, cs[19]'h = Value.map (some E.bx) := fun h => by
  rw [Array.getElem?_eq_getElem h] at hg19;exact Option.some.inj hg19
 have hx := hv.x;have HL := sW h;obtain ⟨w1, hr, hm, ht⟩ := (show IB w.drew E.bx st.bk from h.blocks).put (p := base + k) (a := p) (by omega) (F4 hp0 hp1);have HM := sW hm;have HT := sW ht;have hk0 : (0 : Int) <= (k : Int) := Int.natCast_nonneg _;have hk1 : (k : Int) < 32 := by omega
 clear hm ht h;go_enter Tryz.func50, Tryz.ntmps50;go_wp2_with fail;go_region
 go_wp2_with fail;go_ret;have hl : LK E w.drew st := HL.out.fr (Bj (Fr.refl [] w)) (by simp) (by simp) (by simp) (by simp) (by simp);have hw := hl.want;obtain ⟨csw, hw, -⟩ := hw;exact ⟨rfl, ⟨(Bx HT.out hE.n7 (Aa hl.look)).trans hl.look, hl.want.same (Bx HT.out hE.n8 (Aa hw)), hl.claim.same (Bx HT.out hE.n9 hl.claim.lt), hl.firm.same (Bx HT.out hE.n10 hl.firm.lt), HM.out⟩, (Bj (Fr.refl _ w)).trans (F2 HT.out)⟩
theorem aY {E : Env} (hE : EOk E) {T : Hh} (hT : TOk E T) (gp op cp sz : Nat) (tg : TypeId) (re : Nat -> Option Value) (ps : List Int) (base : Int) (st : LS) (w : World) (h : LK E w st) (hv : TV E T w) (hN : Gb w gp op tg sz re ps)
  (hc : ps.length <= cp) (hm : ps.length <= 32) (h0 : 0 <= base) (h1 : base <= 1068) (hp : ∀ p ∈ ps, 0 <= p /\ p <= 4294967295)
  (hg : gp ∉ Eh E) (hl : gp ≠ T.lv) (hn : gp ≠ T.nv) (hx : gp ≠ T.xv) (hgx : gp = T.gx -> op + ps.length <= 19) :
  Calls Tryz.prog 48 #[.slice (some ⟨gp, op, none⟩) ps.length cp, .int .i64 base, .pointer (some ⟨T.lv, 0, none⟩), .pointer (some ⟨T.nv, 0, none⟩), .pointer (some ⟨T.xv, 0, none⟩)] w fun e w' =>
   e = .returned (.bool (Nr E T base ps st).2.1) /\ LK E w' (Nr E T base ps st).2.2 /\ TV E T w' /\ Gb w' gp op tg sz re (Nr E T base ps st).1 /\ Fr [E.bc, E.bx, gp] w w' := by
 have HL := sW h;have HV := sW hv;have HN := sW hN;have HP := sW hp;have hv1 := hv.l;have hv2 := hv.n;have hv3 := hv.x;have z1 := Aa hv1;have z2 := Aa hv2;have z3 := Aa hv3;clear h hv hN hp;go_enter Tryz.func48, Tryz.ntmps48;go_wp2_with fail;have hf0 : Fr [] w (w.alloc (.cells #[.int .i64 base] 3)) := Ag ((Below.refl w.heap.size w).alloc (Nat.le_refl _) _) [];have hN1 := HN.out;obtain ⟨csg, hg1, hg2⟩ := hN1;have hgl := Aa hg1;have hfv := A7 w (.cells #[.int .i64 base] 3);have hgf : gp ≠ w.heap.size := by omega
 have hbcf : E.bc ≠ w.heap.size := by have := HL.out.claim.lt; omega
 have hbxf : E.bx ≠ w.heap.size := by have := HL.out.blocks.lt; omega
 have hl0 := HL.out.fr hf0 (by simp) (by simp) (by simp) (by simp) (by simp);have hv0 := HV.out.fr hf0 (by simp) (by simp) (by simp) (by simp);have hn0 := HN.out.same (hf0.block gp hgl (by simp));generalize hfv' : w.heap.size = fv at *;generalize w.alloc (.cells #[.int .i64 base] 3) = w0 at *;have hg0 : gp < w0.heap.size := by have := hf0.size; omega
 obtain ⟨hm1, hm2, hm3, hm4, hm5⟩ : gp ≠ E.gl /\ gp ≠ E.gw /\ gp ≠ E.bc /\ gp ≠ E.bf /\ gp ≠ E.bx := by simpa [Eh] using hg
 obtain ⟨-, -, tl2, -, tl3⟩ : T.lv ≠ E.gl /\ T.lv ≠ E.gw /\ T.lv ≠ E.bc /\ T.lv ≠ E.bf /\ T.lv ≠ E.bx := by simpa [Eh] using hT.l
 obtain ⟨-, -, tn2, -, tn3⟩ : T.nv ≠ E.gl /\ T.nv ≠ E.gw /\ T.nv ≠ E.bc /\ T.nv ≠ E.bf /\ T.nv ≠ E.bx := by simpa [Eh] using hT.n
 obtain ⟨-, -, tx2, -, tx3⟩ : T.xv ≠ E.gl /\ T.xv ≠ E.gw /\ T.xv ≠ E.bc /\ T.xv ≠ E.bf /\ T.xv ≠ E.bx := by simpa [Eh] using hT.x
 obtain ⟨-, -, tg2, -, tg3⟩ : T.gx ≠ E.gl /\ T.gx ≠ E.gw /\ T.gx ≠ E.bc /\ T.gx ≠ E.bf /\ T.gx ≠ E.bx := by simpa [Eh] using hT.g
 refine (Sn (Ar E) (Cc base) base 1 T.n (fun w' st' => LK E w' st' /\ TV E T w' /\ hat w' fv = some (.cells #[.int .i64 base] 3) /\ Fr [E.bc, E.bx, gp] w0 w') _ 50 #[.pointer (some ⟨T.xv, 0, none⟩), .pointer (some ⟨fv, 0, none⟩)] gp op cp sz tg re ps st w0 ?hf ⟨hl0, hv0, hfv.1, Fr.refl _ _⟩ hn0 hc hm h0 (by omega) (by omega) (by omega) hT.n0 (by have := hT.n1; omega) HP.out ?hset ?hgood ?hkeep).mono ?post
 case hf =>
  intro args w;go_simp
 case hset =>
  rintro w1 st1 j v hj1 hj2 ⟨h1, h2, h3, h4⟩;have hfr := Ai w1 gp j v
  exact ⟨h1.fr hfr (by simpa using hm1.symm) (by simpa using hm2.symm) (by simpa using hm3.symm) (by simpa using hm4.symm) (by simpa using hm5.symm),
   h2.cell gp j v hl hn hx (fun e => by have := hgx e; omega), (E6 w1 gp j v _ hgf.symm).trans h3, h4.trans (hfr.mono (by simp))⟩
 case hgood =>
  rintro p st1 w1 hp0 hp1 ⟨h1, h2, h3, h4⟩;refine (Q5 hE p st1 w1 hp0 hp1 h1).mono ?_;rintro e w2 ⟨rfl, h5, h6⟩;exact ⟨rfl, ⟨h5, h2.fr h6 (by simpa using tl2) (by simpa using tn2) (by simpa using tx2) (by simpa using tg2), (h6.block fv (Aa h3) (by simpa using hbcf.symm)).trans h3, h4.trans (h6.mono (by simp))⟩, h6.block gp (Nat.lt_of_lt_of_le hg0 h4.size) (by simpa using hm3)⟩
 case hkeep =>
  rintro k p st1 w1 hk hp0 hp1 - ⟨h1, h2, h3, h4⟩;refine (Ww hE hT fv base k p st1 w1 h1 h2 h3 h0 (by omega) (by omega) hp0 hp1).mono ?_;rintro e w2 ⟨rfl, h5, h6⟩;exact ⟨rfl, ⟨h5, h2.fr h6 (by simpa using tl3) (by simpa using tn3) (by simpa using tx3) (by simpa using tg3), (h6.block fv (Aa h3) (by simpa using hbxf.symm)).trans h3, h4.trans (h6.mono (by simp))⟩, h6.block gp (Nat.lt_of_lt_of_le hg0 h4.size) (by simpa using hm5)⟩
 case post =>
  rintro e w1 ⟨rfl, ⟨h1, h2, h3, h4⟩, h5⟩;have HF := sW ((hf0.mono (by simp)).trans h4);have H1 := sW h1;have H2 := sW h2;have H5 := sW h5;clear h1 h2 h3 h4 h5 hl0 hv0 hn0 hfv hv1 hv2 hv3;go_wp2_with fail;go_ret;exact ⟨rfl, H1.out, H2.out, H5.out, HF.out⟩
structure TC (E : Env) (T : Hh) (rv bv : Nat) (w : World) : Prop where
 v : TV E T w
 r : hat w rv = some (.cells #[.func (.func 48) #[] #[.pointer (some ⟨T.lv, 0, none⟩), .pointer (some ⟨T.nv, 0, none⟩), .pointer (some ⟨T.xv, 0, none⟩)]] 97)
 b : hat w bv = some (.cells #[.func (.func 51) #[] #[.pointer (some ⟨T.lv, 0, none⟩), .pointer (some ⟨rv, 0, none⟩)]] 96)
def D6 (T : Hh) (rv bv : Nat) : List Nat := [T.lv, T.nv, T.xv, T.gx, rv, bv]
theorem TC.fr {E : Env} {T : Hh} {rv bv : Nat} {w w' : World} {ex : List Nat} (h : TC E T rv bv w) (hf : Fr ex w w') (hd : ∀ k ∈ ex, k ∉ D6 T rv bv) : TC E T rv bv w' := by
 have m : ∀ k, k ∈ D6 T rv bv -> k ∉ ex := fun k hk he => hd k he hk
 exact ⟨h.v.fr hf (m _ (by simp [D6])) (m _ (by simp [D6])) (m _ (by simp [D6])) (m _ (by simp [D6])), (hf.block _ (Aa h.r) (m _ (by simp [D6]))).trans h.r, (hf.block _ (Aa h.b) (m _ (by simp [D6]))).trans h.b⟩
theorem TC.lt {E : Env} {T : Hh} {rv bv : Nat} {w : World} (h : TC E T rv bv w) : ∀ k ∈ D6 T rv bv, k < w.heap.size := by
 obtain ⟨cs, hg, -⟩ := h.v.g;intro k hk;simp only [D6, List.mem_cons, List.mem_nil_iff, or_false] at hk;rcases hk with rfl | rfl | rfl | rfl | rfl | rfl
 ·exact Aa h.v.l
 ·exact Aa h.v.n
 ·exact Aa h.v.x
 ·exact Aa hg
 ·exact Aa h.r
 ·exact Aa h.b
structure COk (E : Env) (T : Hh) (rv bv : Nat) : Prop where
 t : TOk E T
 apart : ∀ k ∈ Eh E, k ∉ D6 T rv bv
theorem iV {E : Env} (hE : EOk E) {T : Hh} {rv bv : Nat} (hT : COk E T rv bv) (fv gt : Nat) (base : Int) (ps : List Int) (st : LS) (w : World) (h : LK E w st) (hv : TC E T rv bv w) (hf : hat w fv = some (.cells #[.int .i64 base] 3))
  (hN : Gb w gt 0 89 32 (fun _ => none) ps) (hl : ps.length = 32) (hp : ∀ p ∈ ps, 0 <= p /\ p <= 4294967295) (h0 : 0 <= base) (h1 : base <= 1068) (hg : gt ∉ Eh E) (hgt : gt ∉ D6 T rv bv) :
  Calls Tryz.prog 53 #[.slice (some ⟨gt, 0, none⟩) 32 32, .pointer (some ⟨rv, 0, none⟩), .pointer (some ⟨fv, 0, none⟩)] w fun e w' =>
   e = .returned (.bool (Nr E T base ps st).2.1) /\ LK E w' (Nr E T base ps st).2.2 /\ hat w' gt = some (.cells (IV .i64 (Nr E T base ps st).1) 89) /\ (Nr E T base ps st).1.length = 32 /\ Fr [gt, E.bc, E.bx] w w' := by
 have hr := hv.r;have HL := sW h;have HV := sW hv;have HN := sW hN;have HP := sW hp;clear h hv hN hp;simp only [D6, List.mem_cons, List.mem_nil_iff, or_false, not_or] at hgt;go_enter Tryz.func53, Tryz.ntmps53;go_wp2_with fail;have hc := aY hE hT.t gt 0 32 32 89 (fun _ => none) ps base st w HL.out HV.out.v HN.out (by omega) (by omega) h0 h1 HP.out hg hgt.1 hgt.2.1 hgt.2.2.1 (fun e => absurd e hgt.2.2.2.1);rw [hl] at hc;refine hc.mono ?_; rintro e w1 ⟨rfl, h2, h3, h4, h5⟩;have hlen : (Nr E T base ps st).1.length = 32 := (Ej _ _ _ _ _ _ _ _).trans hl;have h6 : hat w1 gt = some (.cells (IV .i64 (Nr E T base ps st).1) 89) := Gb.all (by rw [hlen]; exact h4);have H2 := sW h2;have H5 := sW h5;have H6 := sW h6;have HLEN := sW hlen;clear h2 h3 h4 h5 h6 hlen hc;go_wp2_with fail;go_ret;exact ⟨rfl, H2.out, H6.out, HLEN.out, H5.out.mono (by simp)⟩
noncomputable def Ql (E : Env) (T : Hh) (base p : Int) (st : LS) : Bool × LS := Cu (Nr E T base) p.toNat st
theorem Tp {E : Env} (hE : EOk E) {T : Hh} {rv bv : Nat} (hT : COk E T rv bv) (base p : Int) (st : LS) (w : World) (h : LK E w st) (hv : TC E T rv bv w)
  (h0 : 0 <= base) (h1 : base <= 1068) (hp : isD E.X E.Y p = true) :
  Calls Tryz.prog 51 #[.int .i64 p, .int .i64 base, .pointer (some ⟨T.lv, 0, none⟩), .pointer (some ⟨rv, 0, none⟩)] w fun e w' =>
   e = .returned (.bool (Ql E T base p st).1) /\ LK E w' (Ql E T base p st).2 /\ Fr [E.bc, E.gw, E.bf, E.bx] w w' := by
 have hr := Js hE hp;have hl := hv.v.l;have hlz := Aa hl;have HL := sW h;have HV := sW hv;clear h hv;have hpn : p = (p.toNat : Int) := by omega
 unfold Ql;generalize p.toNat = at' at *;subst hpn;go_enter Tryz.func51, Tryz.ntmps51;go_wp2_with fail;have hf0 : Fr [] w (w.alloc (.cells #[.int .i64 base] 3)) := Ag ((Below.refl w.heap.size w).alloc (Nat.le_refl _) _) [];have hfv := A7 w (.cells #[.int .i64 base] 3);have hlt := HV.out.lt;have hv0 := HV.out.fr hf0 (by simp);have hl0 := HL.out.fr hf0 (by simp) (by simp) (by simp) (by simp) (by simp);have hf2 := hf0.size;generalize hfv' : w.heap.size = fv at *;generalize w.alloc (.cells #[.int .i64 base] 3) = w0 at *;have hcl := HL.out.claim.lt;have hfr := HL.out.firm.lt;have hbl := HL.out.blocks.lt;refine (Um hE (Nr E T base) 53 #[.pointer (some ⟨rv, 0, none⟩), .pointer (some ⟨fv, 0, none⟩)] at' st w0 (fun W => TC E T rv bv W /\ hat W fv = some (.cells #[.int .i64 base] 3)) [E.bc, E.bx] ⟨hv0, hfv.1⟩ ?hJ ?hf (by omega) (by have := hE.small; have := hE.size; omega) hl0 ?hs).mono ?post
 case hJ =>
  rintro W W' ⟨h2, h3⟩ hfr;exact ⟨h2.fr hfr (by simp), (hfr.block fv (Aa h3) (by simp)).trans h3⟩
 case hf =>
  intro args w;go_simp
 case hs =>
  rintro ps gt st1 W hps hpb h2 ⟨h3, h4⟩ h5 h6 h7;refine (iV hE hT fv gt base ps st1 W h2 h3 h4 h5 hps hpb h0 h1 h6 ?_).mono fun e w' h => h
  intro hm;have := hlt gt hm;have := hfv.2;omega
 case post =>
  rintro e w1 ⟨rfl, h2, h3⟩;have H2 := sW h2;have H3 := sW ((hf0.mono (by simp)).trans (h3.mono (ex' := [E.bc, E.gw, E.bf, E.bx]) (by simp)));clear h2 h3 hl0 hv0 hfv hl;go_wp2_with fail;go_ret;exact ⟨rfl, H2.out, H3.out⟩
theorem Tw {E : Env} {p : Int} (h : ∃ s0, (Ar E p s0).1 = true) : isD E.X E.Y p = true := by
 obtain ⟨s0, h⟩ := h;unfold Ar at h;split at h
 ·rename_i h2; exact h2.1
 ·cases h
noncomputable def aM (E : Env) (T : Hh) (_k : Nat) (p : Int) (st : LS) : Bool × LS := Ql E T 12 p st
noncomputable def Wv (E : Env) (T : Hh) (k : Nat) (p : Int) (st : LS) : Bool × LS := Ql E T (44 + 32 * k) p st
noncomputable def V8 (E : Env) (T : Hh) (ps : List Int) (st : LS) : List Int × Bool × LS := Av (Ar E) (Wv E T) 44 32 T.n 0 ps st
noncomputable def aN (E : Env) (T : Hh) (_k : Nat) (p : Int) (st : LS) : Bool × LS := Cu (V8 E T) p.toNat st
theorem cT {E : Env} (hE : EOk E) {T : Hh} {rv bv : Nat} (hT : COk E T rv bv) (k : Nat) (p : Int) (st : LS) (w : World) (h : LK E w st) (hv : TC E T rv bv w) (hp : isD E.X E.Y p = true) :
  Calls Tryz.prog 54 #[.int .i64 k, .int .i64 p, .pointer (some ⟨bv, 0, none⟩)] w fun e w' =>
   e = .returned (.bool (aM E T k p st).1) /\ LK E w' (aM E T k p st).2 /\ Fr [E.bc, E.gw, E.bf, E.bx] w w' := by
 have hb := hv.b;have HL := sW h;have HV := sW hv;clear h hv;unfold aM;go_enter Tryz.func54, Tryz.ntmps54;go_wp2_with fail;refine (Tp hE hT 12 p st w HL.out HV.out (by omega) (by omega) hp).mono ?_; rintro e w1 ⟨rfl, h2, h3⟩;have H2 := sW h2;have H3 := sW h3;clear h2 h3;go_wp2_with fail;go_ret;exact ⟨rfl, H2.out, H3.out⟩
theorem cV {E : Env} (hE : EOk E) {T : Hh} {rv bv : Nat} (hT : COk E T rv bv) (k : Nat) (hk : k < 32) (p : Int) (st : LS) (w : World) (h : LK E w st) (hv : TC E T rv bv w) (hp : isD E.X E.Y p = true) :
  Calls Tryz.prog 57 #[.int .i64 k, .int .i64 p, .pointer (some ⟨bv, 0, none⟩)] w fun e w' =>
   e = .returned (.bool (Wv E T k p st).1) /\ LK E w' (Wv E T k p st).2 /\ Fr [E.bc, E.gw, E.bf, E.bx] w w' := by
 have hb := hv.b;have HL := sW h;have HV := sW hv;have hk0 : (0 : Int) <= (k : Int) := Int.natCast_nonneg _;have hk1 : (k : Int) < 32 := by omega
 clear h hv;unfold Wv;go_enter Tryz.func57, Tryz.ntmps57;go_wp2_with fail;refine (Tp hE hT (44 + 32 * k) p st w HL.out HV.out (by omega) (by omega) hp).mono ?_; rintro e w1 ⟨rfl, h2, h3⟩;have H2 := sW h2;have H3 := sW h3;clear h2 h3;go_wp2_with fail;go_ret;exact ⟨rfl, H2.out, H3.out⟩
theorem kK {E : Env} (hE : EOk E) {T : Hh} {rv bv : Nat} (hT : COk E T rv bv) (gt : Nat) (ps : List Int) (st : LS) (w : World) (h : LK E w st) (hv : TC E T rv bv w)
  (hN : Gb w gt 0 89 32 (fun _ => none) ps) (hl : ps.length = 32) (hp : ∀ p ∈ ps, 0 <= p /\ p <= 4294967295) (hg : gt ∉ Eh E) (hgt : gt ∉ D6 T rv bv) :
  Calls Tryz.prog 56 #[.slice (some ⟨gt, 0, none⟩) 32 32, .pointer (some ⟨T.lv, 0, none⟩), .pointer (some ⟨T.nv, 0, none⟩), .pointer (some ⟨bv, 0, none⟩)] w fun e w' =>
   e = .returned (.bool (V8 E T ps st).2.1) /\ LK E w' (V8 E T ps st).2.2 /\ hat w' gt = some (.cells (IV .i64 (V8 E T ps st).1) 89) /\ (V8 E T ps st).1.length = 32 /\ Fr [gt, E.bc, E.gw, E.bf, E.bx] w w' := by
 have hv1 := hv.v.l;have hv2 := hv.v.n;have HL := sW h;have HV := sW hv;have HN := sW hN;have HP := sW hp;clear h hv hN hp;have hgn : ∀ k ∈ D6 T rv bv, k ≠ gt := fun k hk e => hgt (e ▸ hk)
 have hgm : ∀ k ∈ Eh E, k ≠ gt := fun k hk e => hg (e ▸ hk)
 go_enter Tryz.func56, Tryz.ntmps56;go_wp2_with fail
 have hcall := Sn (Ar E) (Wv E T) 44 32 T.n (fun w' st' => LK E w' st' /\ TC E T rv bv w' /\ Fr [gt, E.bc, E.gw, E.bf, E.bx] w w') (.pointer (some ⟨E.gl, 0, none⟩)) 57 #[.pointer (some ⟨bv, 0, none⟩)] gt 0 32 32 89 (fun _ => none) ps st w (fun args w => by go_simp) ⟨HL.out, HV.out, Fr.refl _ _⟩ HN.out (by omega) (by omega) (by omega) (by omega) (by omega) (by omega) hT.t.n0 (by have := hT.t.n1; omega) HP.out
  (by
   rintro w1 st1 j v hj1 hj2 ⟨h1, h2, h3⟩;have hfr := Ai w1 gt j v;refine ⟨h1.fr hfr ?_ ?_ ?_ ?_ ?_, h2.fr hfr (by simpa using hgt), h3.trans (hfr.mono (by simp))⟩ <;> simpa using hgm _ (by simp [Eh]))
  (by
   rintro p st1 w1 hp0 hp1 ⟨h1, h2, h3⟩;refine (Q5 hE p st1 w1 hp0 hp1 h1).mono ?_;rintro e w2 ⟨rfl, h5, h6⟩;exact ⟨rfl, ⟨h5, h2.fr h6 (by simpa using hT.apart E.bc (by simp [Eh])), h3.trans (h6.mono (by simp))⟩, h6.block gt (Nat.lt_of_lt_of_le HN.out.lt h3.size) (by simpa using (hgm E.bc (by simp [Eh])).symm)⟩)
  (by
   rintro k p st1 w1 hk hp0 hp1 hgd ⟨h1, h2, h3⟩;refine (cV hE hT k (by omega) p st1 w1 h1 h2 (Tw hgd)).mono ?_;rintro e w2 ⟨rfl, h5, h6⟩;refine ⟨rfl, ⟨h5, h2.fr h6 ?_, h3.trans (h6.mono (by simp +contextual))⟩, h6.block gt (Nat.lt_of_lt_of_le HN.out.lt h3.size) ?_⟩
   ·intro q hq;exact hT.apart q (by simp only [List.mem_cons, List.mem_nil_iff, or_false] at hq; rcases hq with rfl | rfl | rfl | rfl <;> simp [Eh])
   ·intro hm;exact hg (by simp only [List.mem_cons, List.mem_nil_iff, or_false] at hm; rcases hm with e | e | e | e <;> simp [Eh, e]))
 rw [hl] at hcall;refine hcall.mono ?_; rintro e w1 ⟨rfl, ⟨h2, h3, h4⟩, h5⟩;have hlen : (V8 E T ps st).1.length = 32 := (Ej _ _ _ _ _ _ _ _).trans hl;have h6 : hat w1 gt = some (.cells (IV .i64 (V8 E T ps st).1) 89) := Gb.all (by rw [hlen]; exact h5);have H2 := sW h2;have H4 := sW h4;have H6 := sW h6;have HLEN := sW hlen;clear h2 h3 h4 h5 h6 hlen hcall;go_wp2_with fail;go_ret;exact ⟨rfl, H2.out, H6.out, HLEN.out, H4.out⟩
theorem cU {E : Env} (hE : EOk E) {T : Hh} {rv bv : Nat} (hT : COk E T rv bv) (k : Nat) (p : Int) (st : LS) (w : World) (h : LK E w st) (hv : TC E T rv bv w) (hp : isD E.X E.Y p = true) :
  Calls Tryz.prog 55 #[.int .i64 k, .int .i64 p, .pointer (some ⟨T.lv, 0, none⟩), .pointer (some ⟨T.nv, 0, none⟩), .pointer (some ⟨bv, 0, none⟩)] w fun e w' =>
   e = .returned (.bool (aN E T k p st).1) /\ LK E w' (aN E T k p st).2 /\ Fr [E.bc, E.gw, E.bf, E.bx] w w' := by
 have hr := Js hE hp;have hl := hv.v.l;have HL := sW h;have HV := sW hv;clear h hv;have hpn : p = (p.toNat : Int) := by omega
 unfold aN;generalize p.toNat = at' at *;subst hpn;have hlt := HV.out.lt;go_enter Tryz.func55, Tryz.ntmps55;go_wp2_with fail;refine (Um hE (V8 E T) 56 #[.pointer (some ⟨T.lv, 0, none⟩), .pointer (some ⟨T.nv, 0, none⟩), .pointer (some ⟨bv, 0, none⟩)] at' st w (fun W => TC E T rv bv W) [E.bc, E.gw, E.bf, E.bx] HV.out ?hJ ?hf (by omega) (by have := hE.small; have := hE.size; omega) HL.out ?hs).mono ?post
 case hJ =>
  rintro W W' h2 hfr;exact h2.fr hfr (by simp)
 case hf =>
  intro args w;go_simp
 case hs =>
  rintro ps gt st1 W hps hpb h2 h3 h5 h6 h7;refine (kK hE hT gt ps st1 W h2 h3 h5 hps hpb h6 ?_).mono fun e w' h => h
  intro hm;have := hlt gt hm;omega
 case post =>
  rintro e w1 ⟨rfl, h2, h3⟩;have H2 := sW h2;have H3 := sW (h3.mono (ex' := [E.bc, E.gw, E.bf, E.bx]) (by simp));clear h2 h3 hl;go_wp2_with fail;go_ret;exact ⟨rfl, H2.out, H3.out⟩
theorem Ui {E : Env} (hE : EOk E) {T : Hh} {rv bv : Nat} (hT : COk E T rv bv) (keepP : Nat -> Int -> LS -> Bool × LS) (base step : Int) (f : Nat) (caps : Array Value) (gp cp sz : Nat) (tg : TypeId) (re : Nat -> Option Value) (ps : List Int) (st : LS) (w : World)
  (hf : ∀ args w, (callFunc f args).run Tryz.prog w = .ok (.enter f args) w)
  (hk : ∀ (k : Nat) p st w, k < ps.length -> LK E w st -> TC E T rv bv w -> isD E.X E.Y p = true -> Calls Tryz.prog f (#[.int .i64 k, .int .i64 p] ++ caps) w fun e w' => e = .returned (.bool (keepP k p st).1) /\ LK E w' (keepP k p st).2 /\ Fr [E.bc, E.gw, E.bf, E.bx] w w')
  (h : LK E w st) (hv : TC E T rv bv w) (hN : Gb w gp 0 tg sz re ps) (hc : ps.length <= cp) (hm : ps.length <= 32) (h0 : 0 <= base) (h1 : base <= 2000) (h2 : 0 <= step) (h3 : step <= 100) (hp : ∀ p ∈ ps, 0 <= p /\ p <= 4294967295)
  (hg : gp ∉ Eh E) (hgt : gp ∉ D6 T rv bv) :
  Calls Tryz.prog 49 #[.pointer (some ⟨E.gl, 0, none⟩), .slice (some ⟨gp, 0, none⟩) ps.length cp, .int .i64 base, .int .i64 step, .int .i64 T.n, .func (.func f) #[] caps] w fun e w' =>
   e = .returned (.bool (Av (Ar E) keepP base step T.n 0 ps st).2.1) /\ LK E w' (Av (Ar E) keepP base step T.n 0 ps st).2.2 /\ TC E T rv bv w' /\ Gb w' gp 0 tg sz re (Av (Ar E) keepP base step T.n 0 ps st).1 /\ Fr [gp, E.bc, E.gw, E.bf, E.bx] w w' := by
 have hgm : ∀ k ∈ Eh E, k ≠ gp := fun k hk e => hg (e ▸ hk)
 refine (Sn (Ar E) keepP base step T.n (fun w' st' => LK E w' st' /\ TC E T rv bv w' /\ Fr [gp, E.bc, E.gw, E.bf, E.bx] w w') (.pointer (some ⟨E.gl, 0, none⟩)) f caps gp 0 cp sz tg re ps st w hf ⟨h, hv, Fr.refl _ _⟩ hN hc hm h0 h1 h2 h3 hT.t.n0 (by have := hT.t.n1; omega) hp ?_ ?_ ?_).mono ?_
 ·rintro w1 st1 j v hj1 hj2 ⟨h1, h2, h3⟩;have hfr := Ai w1 gp j v;refine ⟨h1.fr hfr ?_ ?_ ?_ ?_ ?_, h2.fr hfr (by simpa using hgt), h3.trans (hfr.mono (by simp))⟩ <;> simpa using hgm _ (by simp [Eh])
 ·rintro p st1 w1 hp0 hp1 ⟨h1, h2, h3⟩;refine (Q5 hE p st1 w1 hp0 hp1 h1).mono ?_;rintro e w2 ⟨rfl, h5, h6⟩;exact ⟨rfl, ⟨h5, h2.fr h6 (by simpa using hT.apart E.bc (by simp [Eh])), h3.trans (h6.mono (by simp))⟩, h6.block gp (Nat.lt_of_lt_of_le hN.lt h3.size) (by simpa using (hgm E.bc (by simp [Eh])).symm)⟩
 ·rintro k p st1 w1 hk1 hp0 hp1 hgd ⟨h1, h2, h3⟩;refine (hk k p st1 w1 hk1 h1 h2 (Tw hgd)).mono ?_;rintro e w2 ⟨rfl, h5, h6⟩;refine ⟨rfl, ⟨h5, h2.fr h6 ?_, h3.trans (h6.mono (by simp +contextual))⟩, h6.block gp (Nat.lt_of_lt_of_le hN.lt h3.size) ?_⟩
  ·intro q hq;exact hT.apart q (by simp only [List.mem_cons, List.mem_nil_iff, or_false] at hq; rcases hq with rfl | rfl | rfl | rfl <;> simp [Eh])
  ·intro hm;exact hg (by simp only [List.mem_cons, List.mem_nil_iff, or_false] at hm; rcases hm with e | e | e | e <;> simp [Eh, e])
 ·rintro e w1 ⟨rfl, ⟨h2, h3, h4⟩, h5⟩;exact ⟨rfl, h2, h3, h5, h4⟩
def Df (s : List Int) (k : Nat) : List Int := s.take k ++ zl (128 - k)
@[simp] theorem Nz {s : List Int} (h : s.length = 128) {k : Nat} (hk : k <= 128) : (Df s k).length = 128 := by
 simp [Df, h]; omega
theorem Pc {s : List Int} (h : A0 s) (k : Nat) : A0 (Df s k) := by
 intro x hx;unfold Df at hx;rw [List.mem_append] at hx;rcases hx with hx | hx
 ·exact h x (List.mem_of_mem_take hx)
 ·unfold zl at hx;rw [List.mem_replicate] at hx;omega
theorem Vk {w : World} {g : Nat} {s : List Int} {t : TypeId} (hg : hat w g = some (.cells (IV .u8 s) t)) (hs : s.length = 128) (k : Nat) (hk : k < 128) (ty : TypeId) :
  (Builtin.clear_ #[134] ty #[.slice (some ⟨g, k, none⟩) (128 - k) (128 - k)]).run Tryz.prog w = .ok (.tuple #[]) (w.setRow g (IV .u8 (Df s k))) := by
 have hv : ∀ w, (zeroValue 5).run Tryz.prog w = .ok (.int .u8 0) w := fun w => by kernel_rfl
 have hz : (Value.int .u8 0).cells = #[.int .u8 0] := rfl;have ht : Tryz.prog.underlying 134 = some (.slice 5) := Tryz.underlying134;obtain ⟨n, hn⟩ : ∃ n, 128 - k = n + 1 := ⟨127 - k, by omega⟩;have hzc : (Builtin.zeroCells (Value.int .u8 0).cells (128 - k)).toList = List.replicate (128 - k) (.int .u8 0) := by
  rw [hz];simp [Builtin.zeroCells];apply List.ext_getElem
  ·simp
  ·intro i h1 h2;simp [Nat.mod_one]
 have hst := Gk (P := Tryz.prog) g k t (List.replicate (128 - k) (.int .u8 0)) 0 (IV .u8 s) w hg (by simp [hs]; omega) (fun v hv' => by rw [List.eq_of_mem_replicate hv']; rfl);have he : ((IV .u8 s).toList.take (k + 0) ++ List.replicate (128 - k) (Value.int .u8 0) ++ (IV .u8 s).toList.drop (k + 0 + (List.replicate (128 - k) (Value.int .u8 0)).length)).toArray = IV .u8 (Df s k) := by
  have hd : (IV .u8 s).toList.drop (k + 0 + (List.replicate (128 - k) (Value.int .u8 0)).length) = [] := List.drop_of_length_le (by simp [hs]; omega);rw [hd];unfold IV Df zl;simp [List.map_take]
 rw [he] at hst;rw [hn] at hzc hst ⊢;simp only [Builtin.clear_, Sem.run_bind, run_underlying ht, Result.andThen_ok, hv];simp [hzc, hst, hv]
theorem jO (s : List Int) (hs : s.length = 128) (k : Nat) (hk : k < 128) (w : World) :
  Calls Tryz.prog 58 #[.agg (IV .u8 s), .int .i64 k] w fun e w' => e = .returned (.agg (IV .u8 (Df s k))) /\ Below w.heap.size w w' := by
 have hk0 : (0 : Int) <= (k : Int) := Int.natCast_nonneg _;have hk1 : (k : Int) < 128 := by omega
 have d1 : decide ((k : Int) < 128) = true := decide_eq_true hk1;have h1 : hat ((w.alloc (.cells (IV .u8 s) 33)).alloc (.cells (IV .u8 (zl 128)) 33)) w.heap.size = some (.cells (IV .u8 s) 33) := by simp [go_sem]
 have h2 : hat ((w.alloc (.cells (IV .u8 s) 33)).alloc (.cells (IV .u8 (zl 128)) 33)) (w.heap.size + 1) = some (.cells (IV .u8 (zl 128)) 33) := by simp [go_sem]
 have hb : Below w.heap.size w ((w.alloc (.cells (IV .u8 s) 33)).alloc (.cells (IV .u8 (zl 128)) 33)) := ((Below.refl w.heap.size w).alloc (Nat.le_refl _) _).alloc (by simp) _;have hr := Vk h1 hs k hk 0;have hw : (Df s k).length = 128 := Nz hs (by omega);have h3 := Aq _ _ (IV .u8 (Df s k)) _ _ _ h1;have h4 := (Be _ w.heap.size (w.heap.size + 1) (IV .u8 (Df s k)) (by omega)).trans h2;have hb2 := Af hb (Nat.le_refl _) (IV .u8 (Df s k));have HB := sW hb2;generalize hW : (w.alloc (.cells (IV .u8 s) 33)).alloc (.cells (IV .u8 (zl 128)) 33) = w1 at *;generalize hW2 : w1.setRow w.heap.size (IV .u8 (Df s k)) = w2 at *;clear hb hb2;go_enter Tryz.func58, Tryz.ntmps58;go_wp2_with fail;exact Pn Ch rfl (cs := IV .u8 (Df s k)) rfl (D1 h4 _).1 (by simp [hw]) rfl ⟨rfl, Af HB.out (by omega) _⟩
def I5 : Value -> Option (DataW Unit × List MemPlace)
 | .pointer none => some (.nil, [])
 | .pointer (some ⟨b, 0, none⟩) => some (.lit (.int .i64 b), [])
 | _ => none
def Ll : Option Nat -> Value
 | none => .pointer none
 | some b => .pointer (some ⟨b, 0, none⟩)
def Zd : Option Nat -> DataW Unit
 | none => .nil
 | some b => .lit (.int .i64 b)
theorem Ze (g : Option Nat) : I5 (Ll g) = some (Zd g, []) := by cases g <;> rfl
theorem Xe {v : Value} {g : Option Nat} {ps : List MemPlace} (h : I5 v = some (Zd g, ps)) : v = Ll g := by
 unfold I5 at h;split at h
 ·cases g with
  | none => rfl
  | some b => simp [Zd] at h
 ·cases g with
  | none => simp [Zd] at h
  | some b =>
   simp [Zd] at h;obtain ⟨h, -⟩ := h;have := h;rename_i b'
   have : b' = b := by omega
   subst this; rfl
 ·cases h
def MP (w : World) (b n : Nat) (f : Int -> Option Nat) : Prop :=
 ∃ D : DataW Unit, w.ownsMap Tryz.prog 3 I5 b n D /\ Go.Maps.IsMap D /\ (∀ p, Eg p -> Go.Maps.has D (.int .i64 p) = (f p).isSome) /\ ∀ p, Eg p -> D.atKey (.int .i64 p) .nil = Zd (f p)
theorem MP.lt {w : World} {b n : Nat} {f : Int -> Option Nat} (h : MP w b n f) : b < w.heap.size := by
 obtain ⟨D, h1, -⟩ := h; exact h1.lt
theorem MP.same {w w' : World} {b n : Nat} {f : Int -> Option Nat} (h : MP w b n f) (he : hat w' b = hat w b) : MP w' b n f := by
 obtain ⟨D, ⟨es, clock, hb, h1⟩, h2⟩ := h;exact ⟨D, ⟨es, clock, he.trans hb, h1⟩, h2⟩
theorem MP.made (w : World) : MP (w.alloc (.map #[] 0)) w.heap.size 0 (fun _ => none) :=
 ⟨.map [], World.ownsMap_made w _ _ _, Go.Maps.isMap_empty, fun _ _ => rfl, fun _ _ => rfl⟩
theorem mM (w : World) : (zeroValue 70).run Tryz.prog w = .ok (.pointer none) w := by kernel_rfl
theorem MP.look {w : World} {b n : Nat} {f : Int -> Option Nat} (h : MP w b n f) {p : Int} (hp : Eg p) :
  (Instr.lookup 59 (.map (some b)) (.int .i64 p) false).run Tryz.prog w = .ok (Ll (f p)) w := by
 obtain ⟨D, h1, -, h2, h3⟩ := h;obtain ⟨v, ps, hr, hv⟩ := h1.lookup (Go.Maps.int_keyed Tryz.underlying3) Tryz.underlying59 (mM w) (zd := .nil) (zp := []) rfl (Li hp);rw [h3 p hp] at hv;rw [Xe hv] at hr;exact hr
def Xg (f : Int -> Option Nat) (p : Int) (g : Nat) : Int -> Option Nat := fun q => if q = p then some g else f q
theorem MP.put {w : World} {b n : Nat} {f : Int -> Option Nat} (h : MP w b n f) (hn : n < maxLen) {p : Int} (g : Nat) (hp : Eg p) :
  ∃ w', (Instr.mapUpdate 59 (.map (some b)) (.int .i64 p) (.pointer (some ⟨g, 0, none⟩))).run Tryz.prog w = .ok () w' /\ MP w' b (n + 1) (Xg f p g) /\ w.mapTurned w' b := by
 obtain ⟨D, h1, h0, h2, h3⟩ := h;obtain ⟨w', hr, ho, ht⟩ := h1.store (Go.Maps.int_keyed Tryz.underlying3) Tryz.underlying59 hn (Li hp) (d := Zd (some g)) (ps := []) (val := .pointer (some ⟨g, 0, none⟩)) (Ze (some g));refine ⟨w', hr, ⟨_, ho, h0.put _ _, fun q hq => ?_, fun q hq => ?_⟩, ht⟩
 ·unfold Xg;by_cases hqp : q = p
  ·subst hqp;rw [Go.Maps.has_put_same h0 (Ia hq)]; simp
  ·rw [Go.Maps.has_put_other (F6 hqp), h2 q hq, if_neg hqp]
 ·unfold Xg;by_cases hqp : q = p
  ·subst hqp;rw [Go.Maps.atKey_put_same h0 (Ia hq)]; simp
  ·rw [Go.Maps.atKey_put_other (F6 hqp), h3 q hq, if_neg hqp]
def PB (w : World) (b : Nat) (f : Int -> Option Nat) : Prop := MP w b 4096 f /\ ∀ p, (f p).isSome = true -> 0 <= p /\ p < 4096
theorem MP.tight {w : World} {b n : Nat} {f : Int -> Option Nat} (h : MP w b n f) (hs : ∀ p, (f p).isSome = true -> 0 <= p /\ p < 4096) : PB w b f := by
 obtain ⟨D, h1, h2, h3, h4⟩ := h;exact ⟨⟨D, Ou h1 (fun p hp hh => hs p (by rw [<- h3 p hp]; exact hh)), h2, h3, h4⟩, hs⟩
theorem PB.same {w w' : World} {b : Nat} {f : Int -> Option Nat} (h : PB w b f) (he : hat w' b = hat w b) : PB w' b f := ⟨h.1.same he, h.2⟩
theorem PB.lt {w : World} {b : Nat} {f : Int -> Option Nat} (h : PB w b f) : b < w.heap.size := h.1.lt
theorem PB.put {w : World} {b : Nat} {f : Int -> Option Nat} (h : PB w b f) {p : Int} (g : Nat) (hp : 0 <= p /\ p < 4096) :
  ∃ w', (Instr.mapUpdate 59 (.map (some b)) (.int .i64 p) (.pointer (some ⟨g, 0, none⟩))).run Tryz.prog w = .ok () w' /\ PB w' b (Xg f p g) /\ w.mapTurned w' b := by
 obtain ⟨w', h1, h2, h3⟩ := h.1.put (by unfold maxLen; omega) (p := p) g (F4 hp.1 (by omega));refine ⟨w', h1, h2.tight fun q hq => ?_, h3⟩;unfold Xg at hq;by_cases hqp : q = p
 ·subst hqp; exact hp
 ·rw [if_neg hqp] at hq;exact h.2 q hq
def As (X Y : Int) (p : Int) (st : LS) : Bool × LS := if isD X Y p = true /\ st.cl p = false then (true, { st with cl := Bi st.cl p }) else (false, st)
def Jw (X Y n base : Int) (ps : List Int) (st : LS) : List Int × Bool × LS := Av (As X Y) (Cc base) base 1 n 0 ps st
noncomputable def Us (X Y n base p : Int) (st : LS) : Bool × LS := Cu (Jw X Y n base) p.toNat st
noncomputable def Lh (X Y n : Int) (_k : Nat) (p : Int) (st : LS) : Bool × LS := Us X Y n 12 p st
noncomputable def D4 (X Y n : Int) (k : Nat) (p : Int) (st : LS) : Bool × LS := Us X Y n (44 + 32 * k) p st
noncomputable def Ob (X Y n : Int) (ps : List Int) (st : LS) : List Int × Bool × LS := Av (As X Y) (D4 X Y n) 44 32 n 0 ps st
noncomputable def J7 (X Y n : Int) (_k : Nat) (p : Int) (st : LS) : Bool × LS := Cu (Ob X Y n) p.toNat st
noncomputable def Bd (X Y n : Int) (raw : List Int) (st : LS) : List Int × LS :=
 let a := Jw X Y n 0 ((raw.drop 4).take 12) st
 let b := Av (As X Y) (Lh X Y n) 12 1 n 0 [nth raw 16] a.2.2
 let c := Av (As X Y) (J7 X Y n) 44 1 n 0 [nth raw 17] b.2.2
 (raw.take 4 ++ (a.1 ++ (b.1 ++ c.1)), c.2.2)
def E4 (n : Int) (st : LS) : LS := { st with fm := fun q => st.fm q || (List.range n.toNat).any fun k => st.bk k == some q }
noncomputable def B7 (n z : Int) (st : LS) : LS :=
 match st.bk (n - 1) with
 | none => st
 | some p => if z % 128 = 0 then st else { st with S := Bn st.S p.toNat (Df (st.S p.toNat) (z % 128).toNat) }
def Aw (z : Int) : Int := (z + 127) / 128
noncomputable def Ap (X Y : Int) (raw : List Int) (st : LS) : List Int × LS :=
 let r := Bd X Y (Aw (nth raw 2)) raw { st with bk := fun _ => none }
 if nth raw 0 = 2 then (r.1, E4 (Aw (nth raw 2)) r.2) else (r.1, B7 (Aw (nth raw 2)) (nth raw 2) r.2)
theorem Dq {σ : Type} (Ar : Int -> σ -> Bool × σ) (keepP : Nat -> Int -> σ -> Bool × σ) (base step n : Int) (I : σ -> Prop)
  (hg : ∀ p st, I st -> I (Ar p st).2) (hk : ∀ (k : Nat) p st s0, base + step * k < n -> (Ar p s0).1 = true -> I st -> I (keepP k p st).2) : ∀ (r : List Int) (k : Nat) (st : σ), I st -> I (Av Ar keepP base step n k r st).2.2
 | [], _, _, h => h
 | p :: r, k, st, h => by
  rw [Ep];split
  ·exact Dq Ar keepP base step n I hg hk r _ _ h
  ·split
   ·exact Dq Ar keepP base step n I hg hk r _ _ h
   ·split
    ·exact Dq Ar keepP base step n I hg hk r _ _ (hg p st h)
    ·rename_i h1 h2
     have h3 : (Ar p st).1 = true := by cases hh : (Ar p st).1 <;> simp_all
     split
     ·exact Dq Ar keepP base step n I hg hk r _ _ (hk k p _ st (by omega) h3 (hg p st h))
     ·exact Dq Ar keepP base step n I hg hk r _ _ (hk k p _ st (by omega) h3 (hg p st h))
def Ev (n : Int) (st : LS) : Prop := ∀ k, (st.bk k).isSome = true -> 0 <= k /\ k < n
theorem F3 {I : LS -> Prop} {X Y : Int} (h : ∀ st (f : Int -> Bool), I st -> I { st with cl := f }) (p : Int) (st : LS) (hi : I st) : I (As X Y p st).2 := by
 unfold As;split
 ·exact h _ _ hi
 ·exact hi
theorem Kh {I : LS -> Prop} (siftF : List Int -> LS -> List Int × Bool × LS) (at' : Nat) (h1 : ∀ st (f : Int -> Bool), I st -> I { st with cl := f }) (h2 : ∀ st (S : Nat -> List Int) (f : Int -> Bool), I st -> I { st with S := S, fm := f })
  (hs : ∀ ps st, I st -> I (siftF ps st).2.2) (st : LS) (hi : I st) : I (Cu siftF at' st).2 := by
 unfold Cu;split
 ·exact h1 _ _ (hs _ _ hi)
 ·exact h2 _ _ _ (hs _ _ hi)
theorem gR {n : Int} {st : LS} (h : Ev n st) {k p : Int} (h0 : 0 <= k) (h1 : k < n) : Ev n { st with bk := Ee st.bk k p } := by
 intro q hq;simp only [Ee] at hq;split at hq
 ·rename_i e; subst e; exact ⟨h0, h1⟩
 ·exact h q hq
theorem Ug (X Y n base : Int) (hb : 0 <= base) (ps : List Int) (st : LS) (h : Ev n st) : Ev n (Jw X Y n base ps st).2.2 := by
 unfold Jw;refine Dq _ _ _ _ _ (Ev n) (fun p st h => F3 (fun _ _ h => h) p st h) (fun k p st _ hk _ h => ?_) ps 0 st h;exact gR h (by omega) (by omega)
theorem O9 (X Y n base p : Int) (hb : 0 <= base) (st : LS) (h : Ev n st) : Ev n (Us X Y n base p st).2 :=
 Kh _ _ (fun _ _ h => h) (fun _ _ _ h => h) (fun ps st h => Ug X Y n base hb ps st h) st h
theorem bT (X Y n : Int) (ps : List Int) (st : LS) (h : Ev n st) : Ev n (Ob X Y n ps st).2.2 := by
 unfold Ob;exact Dq _ _ _ _ _ (Ev n) (fun p st h => F3 (fun _ _ h => h) p st h) (fun k p st _ hk _ h => O9 X Y n _ p (by omega) st h) ps 0 st h
theorem M3 (X Y n : Int) (raw : List Int) (st : LS) (h : Ev n st) : Ev n (Bd X Y n raw st).2 := by
 unfold Bd;refine Dq _ _ _ _ _ (Ev n) (fun p st h => F3 (fun _ _ h => h) p st h) (fun k p st _ hk _ h => Kh _ _ (fun _ _ h => h) (fun _ _ _ h => h) (fun ps st h => bT X Y n ps st h) st h) _ 0 _ ?_;refine Dq _ _ _ _ _ (Ev n) (fun p st h => F3 (fun _ _ h => h) p st h) (fun k p st _ hk _ h => O9 X Y n _ p (by omega) st h) _ 0 _ ?_;exact Ug X Y n 0 (by omega) _ st h
def Fx (X Y : Int) (st : LS) : Prop := ∀ k p, st.bk k = some p -> isD X Y p = true
theorem L3 {X Y p : Int} {st : LS} (h : (As X Y p st).1 = true) : isD X Y p = true := by
 unfold As at h;split at h
 ·rename_i h2; exact h2.1
 ·cases h
theorem jM {X Y : Int} {st : LS} (h : Fx X Y st) {k p : Int} (hp : isD X Y p = true) : Fx X Y { st with bk := Ee st.bk k p } := by
 intro q r hq;simp only [Ee] at hq;split at hq
 ·cases hq; exact hp
 ·exact h q r hq
theorem Uh (X Y n base : Int) (ps : List Int) (st : LS) (h : Fx X Y st) : Fx X Y (Jw X Y n base ps st).2.2 := by
 unfold Jw;exact Dq _ _ _ _ _ (Fx X Y) (fun p st h => F3 (fun _ _ h => h) p st h) (fun k p st _ hk hg h => jM h (L3 hg)) ps 0 st h
theorem Pa (X Y n base p : Int) (st : LS) (h : Fx X Y st) : Fx X Y (Us X Y n base p st).2 :=
 Kh _ _ (fun _ _ h => h) (fun _ _ _ h => h) (fun ps st h => Uh X Y n base ps st h) st h
theorem bU (X Y n : Int) (ps : List Int) (st : LS) (h : Fx X Y st) : Fx X Y (Ob X Y n ps st).2.2 := by
 unfold Ob;exact Dq _ _ _ _ _ (Fx X Y) (fun p st h => F3 (fun _ _ h => h) p st h) (fun k p st _ hk _ h => Pa X Y n _ p st h) ps 0 st h
theorem Ro (X Y n : Int) (raw : List Int) (st : LS) (h : Fx X Y st) : Fx X Y (Bd X Y n raw st).2 := by
 unfold Bd;refine Dq _ _ _ _ _ (Fx X Y) (fun p st h => F3 (fun _ _ h => h) p st h) (fun k p st _ hk _ h => Kh _ _ (fun _ _ h => h) (fun _ _ _ h => h) (fun ps st h => bU X Y n ps st h) st h) _ 0 _ ?_;refine Dq _ _ _ _ _ (Fx X Y) (fun p st h => F3 (fun _ _ h => h) p st h) (fun k p st _ hk _ h => Pa X Y n _ p st h) _ 0 _ ?_;exact Uh X Y n 0 _ st h
theorem fY {n : Int} {st : LS} (hk : Ev n st) (fm' : Int -> Bool) (h : ∀ q, fm' q = true ↔ st.fm q = true \/ ∃ k, st.bk k = some q) : E4 n st = { st with fm := fm' } := by
 unfold E4;congr 1
 funext q
 apply Bool.eq_iff_iff.2
 rw [h q, Bool.or_eq_true, List.any_eq_true];constructor
 ·rintro (h | ⟨k, -, h⟩)
  ·exact .inl h
  ·exact .inr ⟨k, by simpa using h⟩
 ·rintro (h | ⟨k, h⟩)
  ·exact .inl h
  ·have h0 := hk k (by rw [h]; rfl);refine .inr ⟨k.toNat, List.mem_range.2 (by omega), ?_⟩;rw [show ((k.toNat : Nat) : Int) = k by omega, h];simp
theorem Yx {s : ByteArray} (h : s.size <= 40) : keyOf Tryz.prog 9 (.string s) = some (.string s.data.toList) := WideMaps.keyOf_string_mk Tryz.underlying9 (by unfold maxLen; omega)
theorem cW {s : ByteArray} (h : s.size <= 40) : WideAt.IsKeyLit (.string s.data.toList) := (Go.Maps.string_keyed Tryz.underlying9).key (Yx h)
theorem cX {s t : ByteArray} (h : s ≠ t) : (Lit.string s.data.toList) ≠ .string t.data.toList := fun e => h (by
 injection e with e
 cases s; cases t;simp only at e;congr 1
 exact Array.ext' e)
def NB (w : World) (b n : Nat) (s : ByteArray -> Bool) : Prop :=
 ∃ D : DataW Unit, w.ownsMap Tryz.prog 9 (plainElem Tryz.prog 4) b n D /\ Go.Maps.IsMap D /\ ∀ p : ByteArray, p.size <= 40 -> D.atKey (.string p.data.toList) (.lit (.bool false)) = .lit (.bool (s p))
theorem NB.lt {w : World} {b n : Nat} {s : ByteArray -> Bool} (h : NB w b n s) : b < w.heap.size := by
 obtain ⟨D, h1, -⟩ := h; exact h1.lt
theorem NB.same {w w' : World} {b n : Nat} {s : ByteArray -> Bool} (h : NB w b n s) (he : hat w' b = hat w b) : NB w' b n s := by
 obtain ⟨D, ⟨es, clock, hb, h1⟩, h2⟩ := h;exact ⟨D, ⟨es, clock, he.trans hb, h1⟩, h2⟩
theorem NB.made (w : World) : NB (w.alloc (.map #[] 0)) w.heap.size 0 (fun _ => false) :=
 ⟨.map [], World.ownsMap_made w _ _ _, Go.Maps.isMap_empty, fun _ _ => rfl⟩
theorem NB.of {w : World} {b : Nat} (h : hat w b = some (.map #[] 0)) : NB w b 0 (fun _ => false) := by
 obtain ⟨D, ⟨es, clock, hb, h1⟩, h2⟩ := NB.made w;have hb2 : hat (w.alloc (.map #[] 0)) w.heap.size = some (.map #[] 0) := (A7 w _).1;rw [show (w.alloc (.map #[] 0)).heap[w.heap.size]? = some (.map #[] 0) from hb2] at hb;have hb3 := Option.some.inj hb;injection hb3 with e1 e2
 subst e1; subst e2;exact ⟨D, ⟨#[], 0, h, h1⟩, h2⟩
theorem NB.look {w : World} {b n : Nat} {s : ByteArray -> Bool} (h : NB w b n s) {p : ByteArray} (hp : p.size <= 40) : (Instr.lookup 101 (.map (some b)) (.string p) false).run Tryz.prog w = .ok (.bool (s p)) w := by
 obtain ⟨D, h1, -, h3⟩ := h;obtain ⟨v, ps, hr, hv⟩ := h1.lookup (Go.Maps.string_keyed Tryz.underlying9) Tryz.underlying101 (Yb w) (zd := .lit (.bool false)) (zp := []) (by simp [plainElem, Tryz.underlying4]) (Yx hp);rw [h3 p hp] at hv;rw [Mm hv] at hr;exact hr
def La (s : ByteArray -> Bool) (p : ByteArray) : ByteArray -> Bool := fun q => s q || decide (q = p)
theorem NB.put {w : World} {b n : Nat} {s : ByteArray -> Bool} (h : NB w b n s) (hn : n < maxLen) {p : ByteArray} (hp : p.size <= 40) :
  ∃ w', (Instr.mapUpdate 101 (.map (some b)) (.string p) (.bool true)).run Tryz.prog w = .ok () w' /\ NB w' b (n + 1) (La s p) /\ w.mapTurned w' b := by
 obtain ⟨D, h1, h0, h3⟩ := h;obtain ⟨w', hr, ho, ht⟩ := h1.store (Go.Maps.string_keyed Tryz.underlying9) Tryz.underlying101 hn (Yx hp) (d := .lit (.bool true)) (ps := []) (val := .bool true) (by simp [plainElem, Tryz.underlying4]);refine ⟨w', hr, ⟨_, ho, h0.put _ _, fun q hq => ?_⟩, ht⟩;unfold La;by_cases hqp : q = p
 ·subst hqp;rw [Go.Maps.atKey_put_same h0 (cW hq)]; simp
 ·rw [Go.Maps.atKey_put_other (cX hqp), h3 q hq]; simp [hqp]
structure TI where
 raw : List Int
 en : Int
 bk : Int -> Option Int
structure LZ where
 st : LS
 T : Nat -> Option TI
 q : List Int
def A3 (T : Nat -> Option TI) (i : Nat) (t : TI) : Nat -> Option TI := fun j => if j = i then some t else T j
noncomputable def C8 (X Y : Int) (i : Nat) (raw : List Int) (n : Int) (z : LZ) : LZ :=
 { st := (Ap X Y raw z.st).2, T := A3 z.T i ⟨(Ap X Y raw z.st).1, n, (Ap X Y raw z.st).2.bk⟩, q := if nth raw 0 = 2 then z.q ++ [(i : Int)] else z.q }
noncomputable def Ct (X Y : Int) (IMG : Nat -> List Int) (i : Nat) (z : LZ) : Option LZ :=
 match z.T i with
 | some t => if nth t.raw 0 = 2 \/ t.en = 100 then none else some { z with T := A3 z.T i { t with en := t.en + 1 } }
 | none => if Cj (IMG i) = true then some (C8 X Y i (Al (IMG i)).1 1 z) else none
def Cx (p : Nat) (z : LZ) : LZ := { z with st := { z.st with S := Bn z.st.S p (zl 128) } }
noncomputable def Cq (X Y : Int) (IMG : Nat -> List Int) (i : Nat) (nm : ByteArray) (zn : LZ × (ByteArray -> Bool)) : Bool × LZ × (ByteArray -> Bool) :=
 if zn.2 nm = true \/ i = 1 then (false, zn) else
  match Ct X Y IMG i zn.1 with
  | some z' => (true, z', La zn.2 nm)
  | none => (false, zn)
noncomputable def Ey (X Y : Int) (IMG : Nat -> List Int) (p : Nat) (zn : LZ × (ByteArray -> Bool)) : LZ × (ByteArray -> Bool) :=
 if (A2 (zn.1.st.S p)).2.2 = 0 /\ (A2 (zn.1.st.S p)).1 = 0 then zn
 else if (A2 (zn.1.st.S p)).2.2 = 0 /\ (A2 (zn.1.st.S p)).1 <= Y /\ (Cq X Y IMG (A2 (zn.1.st.S p)).1.toNat (A2 (zn.1.st.S p)).2.1 zn).1 = true then
  (Cq X Y IMG (A2 (zn.1.st.S p)).1.toNat (A2 (zn.1.st.S p)).2.1 zn).2
 else (Cx p zn.1, zn.2)
noncomputable def Jg (X Y : Int) (IMG : Nat -> List Int) (bk : Int -> Option Int) : Nat -> Nat -> LZ × (ByteArray -> Bool) -> LZ × (ByteArray -> Bool)
 | 0, _, zn => zn
 | m + 1, k, zn => Jg X Y IMG bk m (k + 1) (match bk k with | none => zn | some p => Ey X Y IMG p.toNat zn)
noncomputable def Cv (X Y : Int) (IMG : Nat -> List Int) (i : Nat) (z : LZ) : LZ :=
 match z.T i with
 | none => z
 | some t => (Jg X Y IMG t.bk (Aw (nth t.raw 2)).toNat 0 (z, fun _ => false)).1
noncomputable def Hr (X Y : Int) (IMG : Nat -> List Int) : Nat -> LZ -> LZ
 | 0, z => z
 | f + 1, z => match z.q with
  | [] => z
  | i :: r => Hr X Y IMG f (Cv X Y IMG i.toNat { z with q := r })
noncomputable def C7 (X Y : Int) (IMG : Nat -> List Int) : LZ := C8 X Y 1 (Al (IMG 1)).1 1 ⟨⟨IMG, fun _ => false, fun _ => false, fun _ => none⟩, fun _ => none, []⟩
noncomputable def Dc (X Y : Int) (IMG : Nat -> List Int) : LZ := Hr X Y IMG 8192 (C7 X Y IMG)
def Pe (n : Nat) (T : Nat -> Option TI) : Nat := ((List.range n).filter fun i => (T i).isNone).length
def Ix (z : LZ) : Nat := Pe 4096 z.T
def Ed (z : LZ) : Nat := z.q.length + 2 * Ix z
theorem Yr {T : Nat -> Option TI} {n i : Nat} {t : TI} (hi : i < n) (h : T i = none) : Pe n (A3 T i t) < Pe n T := by
 unfold Pe;have e : (List.range n).filter (fun j => (A3 T i t j).isNone) = ((List.range n).filter fun j => (T j).isNone).filter fun j => j != i := by
  rw [List.filter_filter];apply List.filter_congr
  intro j _;unfold A3;by_cases hj : j = i
  ·subst hj; simp
  ·simp [hj]
 rw [e];rw [List.length_filter_lt_length_iff_exists];exact ⟨i, List.mem_filter.2 ⟨List.mem_range.2 hi, by simp [h]⟩, by simp⟩
theorem Yq {T : Nat -> Option TI} {n i : Nat} {t t' : TI} (h : T i = some t) : Pe n (A3 T i t') = Pe n T := by
 unfold Pe;congr 1
 apply List.filter_congr
 intro j _;unfold A3;by_cases hj : j = i
 ·subst hj; simp [h]
 ·simp [hj]
theorem cL {z z' : LZ} {i : Nat} {t : TI} (hi : i < 4096) (h : z.T i = none) (hz : z'.T = A3 z.T i t) : Ix z' < Ix z := by
 unfold Ix;rw [hz]; exact Yr hi h
theorem Od {z z' : LZ} {i : Nat} {t t' : TI} (h : z.T i = some t) (hz : z'.T = A3 z.T i t') : Ix z' = Ix z := by
 unfold Ix;rw [hz]; exact Yq h
theorem Xd (X Y : Int) {i : Nat} (raw : List Int) (n : Int) {z : LZ} (hi : i < 4096) (h : z.T i = none) : Ed (C8 X Y i raw n z) < Ed z := by
 have := cL (z' := C8 X Y i raw n z) hi h rfl;have h2 : (C8 X Y i raw n z).q.length <= z.q.length + 1 := by
  unfold C8;show (if nth raw 0 = 2 then z.q ++ [(i : Int)] else z.q).length <= _
  split <;> simp
 unfold Ed;omega
theorem dK {X Y : Int} {IMG : Nat -> List Int} {i : Nat} {z z' : LZ} (hi : i < 4096) (h : Ct X Y IMG i z = some z') : Ed z' <= Ed z := by
 unfold Ct at h;split at h
 ·rename_i t ht
  split at h
  ·cases h
  ·cases h;unfold Ed;rw [Od (z' := { z with T := A3 z.T i { t with en := t.en + 1 } }) ht rfl];exact Nat.le_refl _
 ·rename_i ht
  split at h
  ·cases h;exact Nat.le_of_lt (Xd X Y _ _ hi ht)
  ·cases h
theorem Zb {X Y : Int} {IMG : Nat -> List Int} {i : Nat} (nm : ByteArray) (zn : LZ × (ByteArray -> Bool)) (hi : i < 4096) : Ed (Cq X Y IMG i nm zn).2.1 <= Ed zn.1 := by
 unfold Cq;split
 ·exact Nat.le_refl _
 ·split
  ·rename_i h; exact dK hi h
  ·exact Nat.le_refl _
def Km (z z' : LZ) : Prop := ∀ i t, z.T i = some t -> ∃ t', z'.T i = some t' /\ t'.bk = t.bk
theorem Km.refl (z : LZ) : Km z z := fun i t h => ⟨t, h, rfl⟩
theorem Km.trans {a b c : LZ} (h : Km a b) (h2 : Km b c) : Km a c := fun i t ht => by
 obtain ⟨t', ht', e⟩ := h i t ht;obtain ⟨t2, ht2, e2⟩ := h2 i t' ht';exact ⟨t2, ht2, e2.trans e⟩
theorem Wx {X Y : Int} {IMG : Nat -> List Int} {i : Nat} {z z' : LZ} (h : Ct X Y IMG i z = some z') : Km z z' := by
 unfold Ct at h;split at h
 ·rename_i t ht
  split at h
  ·cases h
  ·cases h;intro j u hu;by_cases hj : j = i
   ·subst hj;rw [ht] at hu; cases hu;exact ⟨{ t with en := t.en + 1 }, by show A3 z.T j _ j = _; unfold A3; rw [if_pos rfl], rfl⟩
   ·exact ⟨u, by show A3 z.T i _ j = _; unfold A3; rw [if_neg hj]; exact hu, rfl⟩
 ·rename_i ht
  split at h
  ·cases h;intro j u hu;exact ⟨u, by show A3 z.T i _ j = _; unfold A3; rw [if_neg (fun e => by subst e; rw [ht] at hu; cases hu)]; exact hu, rfl⟩
  ·cases h
theorem U6 (X Y : Int) (IMG : Nat -> List Int) (i : Nat) (nm : ByteArray) (zn : LZ × (ByteArray -> Bool)) : Km zn.1 (Cq X Y IMG i nm zn).2.1 := by
 unfold Cq;split
 ·exact Km.refl _
 ·split
  ·rename_i h; exact Wx h
  ·exact Km.refl _
structure ZI (X Y : Int) (z : LZ) : Prop where
 t : ∀ i t, z.T i = some t -> 1 <= i /\ (i : Int) <= Y /\ t.raw.length = 18 /\ 0 <= nth t.raw 2 /\ nth t.raw 2 <= 136704 /\ 0 <= t.en /\ t.en <= 100 /\ ∀ k p, t.bk k = some p -> isD X Y p = true
 q : ∀ i ∈ z.q, 0 <= i /\ ∃ t, z.T i.toNat = some t
 pot : Ed z <= 8192
theorem Ub (X Y n : Int) (raw : List Int) (st : LS) (h : raw.length = 18) : (Bd X Y n raw st).1.length = 18 /\ ∀ j, j < 4 -> nth (Bd X Y n raw st).1 j = nth raw j := by
 unfold Bd;refine ⟨?_, fun j hj => ?_⟩
 ·simp only [List.length_append, Ej, Jw];simp [h]
 ·show nth (raw.take 4 ++ _) j = _
  rw [Hj (by simp [h]; omega)];unfold nth;rw [List.getElem?_take, if_pos hj]
theorem Mb (X Y : Int) (raw : List Int) (st : LS) : (Ap X Y raw st).1 = (Bd X Y (Aw (nth raw 2)) raw { st with bk := fun _ => none }).1 := by
 unfold Ap;simp only;split <;> rfl
theorem jH (n z : Int) (st : LS) : (B7 n z st).bk = st.bk := by
 unfold B7;split
 ·rfl
 ·split <;> rfl
theorem X7 (X Y : Int) (raw : List Int) (st : LS) : (Ap X Y raw st).2.bk = (Bd X Y (Aw (nth raw 2)) raw { st with bk := fun _ => none }).2.bk := by
 unfold Ap;simp only;split
 ·rfl
 ·exact jH _ _ _
theorem Zy (X Y : Int) (raw : List Int) (st : LS) (k p : Int) (h : (Ap X Y raw st).2.bk k = some p) : isD X Y p = true := by
 rw [X7] at h;exact Ro X Y _ raw _ (fun k p hk => by cases hk) k p h
theorem ZI.take {X Y : Int} {z : LZ} (h : ZI X Y z) {i : Nat} {raw : List Int} {n : Int} (h1 : 1 <= i) (hY : (i : Int) <= Y) (hi : i < 4096) (hr : raw.length = 18) (hz0 : 0 <= nth raw 2) (hz1 : nth raw 2 <= 136704) (hn0 : 0 <= n) (hn1 : n <= 100) (hT : z.T i = none) : ZI X Y (C8 X Y i raw n z) := by
 obtain ⟨hl, hs⟩ := Ub X Y (Aw (nth raw 2)) raw { z.st with bk := fun _ => none } hr;refine ⟨fun j t ht => ?_, fun j hj => ?_, Nat.le_trans (Nat.le_of_lt (Xd X Y raw n hi hT)) h.pot⟩
 ·have ht2 : A3 z.T i ⟨(Ap X Y raw z.st).1, n, (Ap X Y raw z.st).2.bk⟩ j = some t := ht;unfold A3 at ht2;split at ht2
  ·rename_i e
   subst e;cases ht2;refine ⟨h1, hY, ?_, ?_, ?_, hn0, hn1, fun k p hk => Zy X Y raw z.st k p hk⟩
   ·show (Ap X Y raw z.st).1.length = 18
    rw [Mb]; exact hl
   ·show 0 <= nth (Ap X Y raw z.st).1 2
    rw [Mb, hs 2 (by omega)]; exact hz0
   ·show nth (Ap X Y raw z.st).1 2 <= _
    rw [Mb, hs 2 (by omega)]; exact hz1
  ·exact h.t j t ht2
 ·have hj2 : j ∈ (if nth raw 0 = 2 then z.q ++ [(i : Int)] else z.q) := hj;have hold : j ∈ z.q -> 0 <= j /\ ∃ t, (C8 X Y i raw n z).T j.toNat = some t := fun hm => by
   obtain ⟨h0, t, ht⟩ := h.q j hm;refine ⟨h0, t, ?_⟩;show A3 z.T i _ j.toNat = _
   unfold A3;rw [if_neg (fun e => by rw [e, hT] at ht; cases ht)];exact ht
  split at hj2
  ·rw [List.mem_append] at hj2;rcases hj2 with hm | hm
   ·exact hold hm
   ·rw [List.mem_singleton] at hm;subst hm;refine ⟨Int.natCast_nonneg _, ⟨(Ap X Y raw z.st).1, n, (Ap X Y raw z.st).2.bk⟩, ?_⟩;show A3 z.T i _ i = _
    unfold A3;rw [if_pos rfl]
  ·exact hold hj2
theorem ZI.en {X Y : Int} {z : LZ} (h : ZI X Y z) {i : Nat} {t : TI} (ht : z.T i = some t) {n : Int} (h0 : 0 <= n) (h1 : n <= 100) : ZI X Y { z with T := A3 z.T i { t with en := n } } := by
 refine ⟨fun j t' ht' => ?_, fun j hj => ?_, ?_⟩
 ·have ht2 : A3 z.T i { t with en := n } j = some t' := ht';unfold A3 at ht2;split at ht2
  ·rename_i e
   subst e;cases ht2;obtain ⟨a1, a2, a3, a4, a5, a6, a7, a8⟩ := h.t j t ht;exact ⟨a1, a2, a3, a4, a5, h0, h1, a8⟩
  ·exact h.t j t' ht2
 ·obtain ⟨h0, t', ht'⟩ := h.q j hj;refine ⟨h0, ?_⟩;show ∃ t'', A3 z.T i _ j.toNat = some t''
  unfold A3;split
  ·exact ⟨_, rfl⟩
  ·exact ⟨t', ht'⟩
 ·have := Od (z' := { z with T := A3 z.T i { t with en := n } }) ht rfl;have hp := h.pot;unfold Ed at *;rw [this];exact hp
theorem ZI.wipe {X Y : Int} {z : LZ} (h : ZI X Y z) (p : Nat) : ZI X Y (Cx p z) := ⟨h.t, h.q, h.pot⟩
end Go.Proofs.YthioepdgnbdohaaGreat
