import Derived.Lib.SliceRun
import Derived.StringKeys
import Derived.Test.YtmnecpnkkapflaaGreatM04
namespace Go.Proofs.YtmnecpnkkapflaaGreat
set_option maxHeartbeats 16000000
set_option maxRecDepth 1000000
set_option linter.unusedSimpArgs false
set_option linter.unusedVariables false
open Go.RowKit
theorem hat_setCell_ne (w : World) (g i : Nat) (v : Value) (n : Nat) (h : n ≠ g) : hat (w.setCell ⟨g, i, none⟩ v) n = hat w n := hat_setCell _ ⟨g, i, none⟩ v n h
structure TEnv where
 (lv nv xv gx : Nat)
 n : Int
structure TV (E : Env) (T : TEnv) (w : World) : Prop where
 l : hat w T.lv = some (.cells #[.pointer (some ⟨E.gl, 0, none⟩)] 89)
 n : hat w T.nv = some (.cells #[.int .i64 T.n] 3)
 x : hat w T.xv = some (.cells #[.pointer (some ⟨T.gx, 0, none⟩)] 103)
 g : ∃ cs, hat w T.gx = some (.cells cs 102) ∧ cs.size = 20 ∧ cs[19]? = some (.map (some E.bx))
theorem TV.fr {E : Env} {T : TEnv} {w w' : World} {ex : List Nat} (h : TV E T w) (hf : Fr ex w w') (h1 : T.lv ∉ ex) (h2 : T.nv ∉ ex) (h3 : T.xv ∉ ex) (h4 : T.gx ∉ ex) : TV E T w' := by
 obtain ⟨cs, hg, hg2⟩ := h.g
 exact ⟨(hf.block _ (hat_lt h.l) h1).trans h.l, (hf.block _ (hat_lt h.n) h2).trans h.n, (hf.block _ (hat_lt h.x) h3).trans h.x, cs, (hf.block _ (hat_lt hg) h4).trans hg, hg2⟩
theorem TV.cell {E : Env} {T : TEnv} {w : World} (h : TV E T w) (g j : Nat) (v : Value) (h1 : g ≠ T.lv) (h2 : g ≠ T.nv) (h3 : g ≠ T.xv) (h4 : g = T.gx → j ≤ 18) : TV E T (w.setCell ⟨g, j, none⟩ v) := by
 obtain ⟨cs, hg, hg2, hg3⟩ := h.g
 refine ⟨(hat_setCell_ne w g j v _ h1.symm).trans h.l, (hat_setCell_ne w g j v _ h2.symm).trans h.n, (hat_setCell_ne w g j v _ h3.symm).trans h.x, ?_⟩
 by_cases hgx : g = T.gx
 ·have hj := h4 hgx
  subst hgx
  refine ⟨cs.setIfInBounds j v, hat_setCell_at _ _ _ _ _ _ _ hg, by simpa using hg2, ?_⟩
  rw [Array.getElem?_setIfInBounds, if_neg (by omega)]
  exact hg3
 ·exact ⟨cs, (hat_setCell_ne w g j v _ (fun e => hgx e.symm)).trans hg, hg2, hg3⟩
def mine (E : Env) : List Nat := [E.gl, E.gw, E.bc, E.bf, E.bx]
structure TOk (E : Env) (T : TEnv) : Prop where
 l : T.lv ∉ mine E
 n : T.nv ∉ mine E
 x : T.xv ∉ mine E
 g : T.gx ∉ mine E
 n0 : 0 ≤ T.n
 n1 : T.n ≤ 1068
def keepRow (base : Int) (k : Nat) (p : Int) (st : LS) : Bool × LS := (true, { st with bk := putI st.bk (base + k) p })
def rowP (E : Env) (T : TEnv) (base : Int) (ps : List Int) (st : LS) : List Int × Bool × LS := siftP (goodP E) (keepRow base) base 1 T.n 0 ps st
theorem keepRow_any {E : Env} (hE : EOk E) {T : TEnv} (hT : TOk E T) (fv : Nat) (base : Int) (k : Nat) (p : Int) (st : LS) (w : World) (h : LK E w st) (hv : TV E T w) (hf : hat w fv = some (.cells #[.int .i64 base] 3))
  (h0 : 0 ≤ base) (h1 : base ≤ 1068) (hk : k < 32) (hp0 : 0 ≤ p) (hp1 : p ≤ 4294967295) :
  Calls Tryz.prog 77 #[.int .i64 k, .int .i64 p, .pointer (some ⟨T.xv, 0, none⟩), .pointer (some ⟨fv, 0, none⟩)] w fun e w' =>
   e = .returned (.bool (keepRow base k p st).1) ∧ LK E w' (keepRow base k p st).2 ∧ Fr [E.bx] w w' := by
 obtain ⟨cs, hg, hgs, hg19⟩ := hv.g
 have h19 : ∀ h : 19 < cs.size, cs[19]'h = Value.map (some E.bx) := fun h => by
  rw [Array.getElem?_eq_getElem h] at hg19
  exact Option.some.inj hg19
 have hx := hv.x
 have HL := Lib.hid h
 obtain ⟨w1, hr, hm, ht⟩ := (show IB w.drew E.bx st.bk from h.blocks).put (p := base + k) (a := p) (by omega) (i64_small hp0 hp1)
 have HM := Lib.hid hm
 have HT := Lib.hid ht
 have hk0 : (0 : Int) ≤ (k : Int) := Int.natCast_nonneg _
 have hk1 : (k : Int) < 32 := by omega
 clear hm ht h
 go_enter Tryz.func77, Tryz.ntmps77
 go_wp2_with fail
 go_region
 go_wp2_with fail
 go_ret
 have hl : LK E w.drew st := HL.out.fr (fr_drew (Fr.refl [] w)) (by simp) (by simp) (by simp) (by simp) (by simp)
 have hw := hl.want
 obtain ⟨csw, hw, -⟩ := hw
 exact ⟨rfl, ⟨(turned_hat HT.out hE.n7 (hat_lt hl.look)).trans hl.look, hl.want.same (turned_hat HT.out hE.n8 (hat_lt hw)), hl.claim.same (turned_hat HT.out hE.n9 hl.claim.lt), hl.firm.same (turned_hat HT.out hE.n10 hl.firm.lt), HM.out⟩, (fr_drew (Fr.refl _ w)).trans (fr_turned HT.out)⟩
theorem row_any {E : Env} (hE : EOk E) {T : TEnv} (hT : TOk E T) (gp op cp sz : Nat) (tg : TypeId) (re : Nat → Option Value) (ps : List Int) (base : Int) (st : LS) (w : World) (h : LK E w st) (hv : TV E T w) (hN : Nums w gp op tg sz re ps)
  (hc : ps.length ≤ cp) (hm : ps.length ≤ 32) (h0 : 0 ≤ base) (h1 : base ≤ 1068) (hp : ∀ p ∈ ps, 0 ≤ p ∧ p ≤ 4294967295)
  (hg : gp ∉ mine E) (hl : gp ≠ T.lv) (hn : gp ≠ T.nv) (hx : gp ≠ T.xv) (hgx : gp = T.gx → op + ps.length ≤ 19) :
  Calls Tryz.prog 75 #[.slice (some ⟨gp, op, none⟩) ps.length cp, .int .i64 base, .pointer (some ⟨T.lv, 0, none⟩), .pointer (some ⟨T.nv, 0, none⟩), .pointer (some ⟨T.xv, 0, none⟩)] w fun e w' =>
   e = .returned (.bool (rowP E T base ps st).2.1) ∧ LK E w' (rowP E T base ps st).2.2 ∧ TV E T w' ∧ Nums w' gp op tg sz re (rowP E T base ps st).1 ∧ Fr [E.bc, E.bx, gp] w w' := by
 have HL := Lib.hid h
 have HV := Lib.hid hv
 have HN := Lib.hid hN
 have HP := Lib.hid hp
 have hv1 := hv.l
 have hv2 := hv.n
 have hv3 := hv.x
 have z1 := hat_lt hv1
 have z2 := hat_lt hv2
 have z3 := hat_lt hv3
 clear h hv hN hp
 go_enter Tryz.func75, Tryz.ntmps75
 go_wp2_with fail
 have hf0 : Fr [] w (w.alloc (.cells #[.int .i64 base] 3)) := fr_below ((Below.refl w.heap.size w).alloc (Nat.le_refl _) _) []
 have hN1 := HN.out
 obtain ⟨csg, hg1, hg2⟩ := hN1
 have hgl := hat_lt hg1
 have hfv := hopN w (.cells #[.int .i64 base] 3)
 have hgf : gp ≠ w.heap.size := by omega
 have hbcf : E.bc ≠ w.heap.size := by have := HL.out.claim.lt; omega
 have hbxf : E.bx ≠ w.heap.size := by have := HL.out.blocks.lt; omega
 have hl0 := HL.out.fr hf0 (by simp) (by simp) (by simp) (by simp) (by simp)
 have hv0 := HV.out.fr hf0 (by simp) (by simp) (by simp) (by simp)
 have hn0 := HN.out.same (hf0.block gp hgl (by simp))
 generalize hfv' : w.heap.size = fv at *
 generalize w.alloc (.cells #[.int .i64 base] 3) = w0 at *
 have hg0 : gp < w0.heap.size := by have := hf0.size; omega
 obtain ⟨hm1, hm2, hm3, hm4, hm5⟩ : gp ≠ E.gl ∧ gp ≠ E.gw ∧ gp ≠ E.bc ∧ gp ≠ E.bf ∧ gp ≠ E.bx := by simpa [mine] using hg
 obtain ⟨-, -, tl2, -, tl3⟩ : T.lv ≠ E.gl ∧ T.lv ≠ E.gw ∧ T.lv ≠ E.bc ∧ T.lv ≠ E.bf ∧ T.lv ≠ E.bx := by simpa [mine] using hT.l
 obtain ⟨-, -, tn2, -, tn3⟩ : T.nv ≠ E.gl ∧ T.nv ≠ E.gw ∧ T.nv ≠ E.bc ∧ T.nv ≠ E.bf ∧ T.nv ≠ E.bx := by simpa [mine] using hT.n
 obtain ⟨-, -, tx2, -, tx3⟩ : T.xv ≠ E.gl ∧ T.xv ≠ E.gw ∧ T.xv ≠ E.bc ∧ T.xv ≠ E.bf ∧ T.xv ≠ E.bx := by simpa [mine] using hT.x
 obtain ⟨-, -, tg2, -, tg3⟩ : T.gx ≠ E.gl ∧ T.gx ≠ E.gw ∧ T.gx ≠ E.bc ∧ T.gx ≠ E.bf ∧ T.gx ≠ E.bx := by simpa [mine] using hT.g
 refine (sift_any (goodP E) (keepRow base) base 1 T.n (fun w' st' => LK E w' st' ∧ TV E T w' ∧ hat w' fv = some (.cells #[.int .i64 base] 3) ∧ Fr [E.bc, E.bx, gp] w0 w') _ 77 #[.pointer (some ⟨T.xv, 0, none⟩), .pointer (some ⟨fv, 0, none⟩)] gp op cp sz tg re ps st w0 ?hf ⟨hl0, hv0, hfv.1, Fr.refl _ _⟩ hn0 hc hm h0 (by omega) (by omega) (by omega) hT.n0 (by have := hT.n1; omega) HP.out ?hset ?hgood ?hkeep).mono ?post
 case hf =>
  intro args w
  go_simp
 case hset =>
  rintro w1 st1 j v hj1 hj2 ⟨h1, h2, h3, h4⟩
  have hfr := fr_setCell w1 gp j v
  exact ⟨h1.fr hfr (by simpa using hm1.symm) (by simpa using hm2.symm) (by simpa using hm3.symm) (by simpa using hm4.symm) (by simpa using hm5.symm),
   h2.cell gp j v hl hn hx (fun e => by have := hgx e; omega), (hat_setCell_ne w1 gp j v _ hgf.symm).trans h3, h4.trans (hfr.mono (by simp))⟩
 case hgood =>
  rintro p st1 w1 hp0 hp1 ⟨h1, h2, h3, h4⟩
  refine (good_any hE p st1 w1 hp0 hp1 h1).mono ?_
  rintro e w2 ⟨rfl, h5, h6⟩
  exact ⟨rfl, ⟨h5, h2.fr h6 (by simpa using tl2) (by simpa using tn2) (by simpa using tx2) (by simpa using tg2), (h6.block fv (hat_lt h3) (by simpa using hbcf.symm)).trans h3, h4.trans (h6.mono (by simp))⟩, h6.block gp (Nat.lt_of_lt_of_le hg0 h4.size) (by simpa using hm3)⟩
 case hkeep =>
  rintro k p st1 w1 hk hp0 hp1 - ⟨h1, h2, h3, h4⟩
  refine (keepRow_any hE hT fv base k p st1 w1 h1 h2 h3 h0 (by omega) (by omega) hp0 hp1).mono ?_
  rintro e w2 ⟨rfl, h5, h6⟩
  exact ⟨rfl, ⟨h5, h2.fr h6 (by simpa using tl3) (by simpa using tn3) (by simpa using tx3) (by simpa using tg3), (h6.block fv (hat_lt h3) (by simpa using hbxf.symm)).trans h3, h4.trans (h6.mono (by simp))⟩, h6.block gp (Nat.lt_of_lt_of_le hg0 h4.size) (by simpa using hm5)⟩
 case post =>
  rintro e w1 ⟨rfl, ⟨h1, h2, h3, h4⟩, h5⟩
  have HF := Lib.hid ((hf0.mono (by simp)).trans h4)
  have H1 := Lib.hid h1
  have H2 := Lib.hid h2
  have H5 := Lib.hid h5
  clear h1 h2 h3 h4 h5 hl0 hv0 hn0 hfv hv1 hv2 hv3
  go_wp2_with fail
  go_ret
  exact ⟨rfl, H1.out, H2.out, H5.out, HF.out⟩
structure TC (E : Env) (T : TEnv) (rv bv : Nat) (w : World) : Prop where
 v : TV E T w
 r : hat w rv = some (.cells #[.func (.func 75) #[] #[.pointer (some ⟨T.lv, 0, none⟩), .pointer (some ⟨T.nv, 0, none⟩), .pointer (some ⟨T.xv, 0, none⟩)]] 132)
 b : hat w bv = some (.cells #[.func (.func 78) #[] #[.pointer (some ⟨T.lv, 0, none⟩), .pointer (some ⟨rv, 0, none⟩)]] 131)
def theirs (T : TEnv) (rv bv : Nat) : List Nat := [T.lv, T.nv, T.xv, T.gx, rv, bv]
theorem TC.fr {E : Env} {T : TEnv} {rv bv : Nat} {w w' : World} {ex : List Nat} (h : TC E T rv bv w) (hf : Fr ex w w') (hd : ∀ k ∈ ex, k ∉ theirs T rv bv) : TC E T rv bv w' := by
 have m : ∀ k, k ∈ theirs T rv bv → k ∉ ex := fun k hk he => hd k he hk
 exact ⟨h.v.fr hf (m _ (by simp [theirs])) (m _ (by simp [theirs])) (m _ (by simp [theirs])) (m _ (by simp [theirs])), (hf.block _ (hat_lt h.r) (m _ (by simp [theirs]))).trans h.r, (hf.block _ (hat_lt h.b) (m _ (by simp [theirs]))).trans h.b⟩
theorem TC.lt {E : Env} {T : TEnv} {rv bv : Nat} {w : World} (h : TC E T rv bv w) : ∀ k ∈ theirs T rv bv, k < w.heap.size := by
 obtain ⟨cs, hg, -⟩ := h.v.g
 intro k hk
 simp only [theirs, List.mem_cons, List.mem_nil_iff, or_false] at hk
 rcases hk with rfl | rfl | rfl | rfl | rfl | rfl
 ·exact hat_lt h.v.l
 ·exact hat_lt h.v.n
 ·exact hat_lt h.v.x
 ·exact hat_lt hg
 ·exact hat_lt h.r
 ·exact hat_lt h.b
structure COk (E : Env) (T : TEnv) (rv bv : Nat) : Prop where
 t : TOk E T
 apart : ∀ k ∈ mine E, k ∉ theirs T rv bv
theorem rowT_any {E : Env} (hE : EOk E) {T : TEnv} {rv bv : Nat} (hT : COk E T rv bv) (fv gt : Nat) (base : Int) (ps : List Int) (st : LS) (w : World) (h : LK E w st) (hv : TC E T rv bv w) (hf : hat w fv = some (.cells #[.int .i64 base] 3))
  (hN : Nums w gt 0 119 32 (fun _ => none) ps) (hl : ps.length = 32) (hp : ∀ p ∈ ps, 0 ≤ p ∧ p ≤ 4294967295) (h0 : 0 ≤ base) (h1 : base ≤ 1068) (hg : gt ∉ mine E) (hgt : gt ∉ theirs T rv bv) :
  Calls Tryz.prog 80 #[.slice (some ⟨gt, 0, none⟩) 32 32, .pointer (some ⟨rv, 0, none⟩), .pointer (some ⟨fv, 0, none⟩)] w fun e w' =>
   e = .returned (.bool (rowP E T base ps st).2.1) ∧ LK E w' (rowP E T base ps st).2.2 ∧ hat w' gt = some (.cells (IV .i64 (rowP E T base ps st).1) 119) ∧ (rowP E T base ps st).1.length = 32 ∧ Fr [gt, E.bc, E.bx] w w' := by
 have hr := hv.r
 have HL := Lib.hid h
 have HV := Lib.hid hv
 have HN := Lib.hid hN
 have HP := Lib.hid hp
 clear h hv hN hp
 simp only [theirs, List.mem_cons, List.mem_nil_iff, or_false, not_or] at hgt
 go_enter Tryz.func80, Tryz.ntmps80
 go_wp2_with fail
 have hc := row_any hE hT.t gt 0 32 32 119 (fun _ => none) ps base st w HL.out HV.out.v HN.out (by omega) (by omega) h0 h1 HP.out hg hgt.1 hgt.2.1 hgt.2.2.1 (fun e => absurd e hgt.2.2.2.1)
 rw [hl] at hc
 refine hc.mono ?_; rintro e w1 ⟨rfl, h2, h3, h4, h5⟩
 have hlen : (rowP E T base ps st).1.length = 32 := (siftP_len _ _ _ _ _ _ _ _).trans hl
 have h6 : hat w1 gt = some (.cells (IV .i64 (rowP E T base ps st).1) 119) := Nums.all (by rw [hlen]; exact h4)
 have H2 := Lib.hid h2
 have H5 := Lib.hid h5
 have H6 := Lib.hid h6
 have HLEN := Lib.hid hlen
 clear h2 h3 h4 h5 h6 hlen hc
 go_wp2_with fail
 go_ret
 exact ⟨rfl, H2.out, H6.out, HLEN.out, H5.out.mono (by simp)⟩
noncomputable def belowP (E : Env) (T : TEnv) (base p : Int) (st : LS) : Bool × LS := tableP (rowP E T base) p.toNat st
theorem below_any {E : Env} (hE : EOk E) {T : TEnv} {rv bv : Nat} (hT : COk E T rv bv) (base p : Int) (st : LS) (w : World) (h : LK E w st) (hv : TC E T rv bv w)
  (h0 : 0 ≤ base) (h1 : base ≤ 1068) (hp : isD E.X E.Y p = true) :
  Calls Tryz.prog 78 #[.int .i64 p, .int .i64 base, .pointer (some ⟨T.lv, 0, none⟩), .pointer (some ⟨rv, 0, none⟩)] w fun e w' =>
   e = .returned (.bool (belowP E T base p st).1) ∧ LK E w' (belowP E T base p st).2 ∧ Fr [E.bc, E.gw, E.bf, E.bx] w w' := by
 have hr := isD_range hE hp
 have hl := hv.v.l
 have hlz := hat_lt hl
 have HL := Lib.hid h
 have HV := Lib.hid hv
 clear h hv
 have hpn : p = (p.toNat : Int) := by omega
 unfold belowP
 generalize p.toNat = at' at *
 subst hpn
 go_enter Tryz.func78, Tryz.ntmps78
 go_wp2_with fail
 have hf0 : Fr [] w (w.alloc (.cells #[.int .i64 base] 3)) := fr_below ((Below.refl w.heap.size w).alloc (Nat.le_refl _) _) []
 have hfv := hopN w (.cells #[.int .i64 base] 3)
 have hlt := HV.out.lt
 have hv0 := HV.out.fr hf0 (by simp)
 have hl0 := HL.out.fr hf0 (by simp) (by simp) (by simp) (by simp) (by simp)
 have hf2 := hf0.size
 generalize hfv' : w.heap.size = fv at *
 generalize w.alloc (.cells #[.int .i64 base] 3) = w0 at *
 have hcl := HL.out.claim.lt
 have hfr := HL.out.firm.lt
 have hbl := HL.out.blocks.lt
 refine (table_any hE (rowP E T base) 80 #[.pointer (some ⟨rv, 0, none⟩), .pointer (some ⟨fv, 0, none⟩)] at' st w0 (fun W => TC E T rv bv W ∧ hat W fv = some (.cells #[.int .i64 base] 3)) [E.bc, E.bx] ⟨hv0, hfv.1⟩ ?hJ ?hf (by omega) (by have := hE.small; have := hE.size; omega) hl0 ?hs).mono ?post
 case hJ =>
  rintro W W' ⟨h2, h3⟩ hfr
  exact ⟨h2.fr hfr (by simp), (hfr.block fv (hat_lt h3) (by simp)).trans h3⟩
 case hf =>
  intro args w
  go_simp
 case hs =>
  rintro ps gt st1 W hps hpb h2 ⟨h3, h4⟩ h5 h6 h7
  refine (rowT_any hE hT fv gt base ps st1 W h2 h3 h4 h5 hps hpb h0 h1 h6 ?_).mono fun e w' h => h
  intro hm
  have := hlt gt hm
  have := hfv.2
  omega
 case post =>
  rintro e w1 ⟨rfl, h2, h3⟩
  have H2 := Lib.hid h2
  have H3 := Lib.hid ((hf0.mono (by simp)).trans (h3.mono (ex' := [E.bc, E.gw, E.bf, E.bx]) (by simp)))
  clear h2 h3 hl0 hv0 hfv hl
  go_wp2_with fail
  go_ret
  exact ⟨rfl, H2.out, H3.out⟩
theorem goodP_isD {E : Env} {p : Int} (h : ∃ s0, (goodP E p s0).1 = true) : isD E.X E.Y p = true := by
 obtain ⟨s0, h⟩ := h
 unfold goodP at h
 split at h
 ·rename_i h2; exact h2.1
 ·cases h
noncomputable def keep3 (E : Env) (T : TEnv) (_k : Nat) (p : Int) (st : LS) : Bool × LS := belowP E T 12 p st
noncomputable def keep9 (E : Env) (T : TEnv) (k : Nat) (p : Int) (st : LS) : Bool × LS := belowP E T (44 + 32 * k) p st
noncomputable def dblP (E : Env) (T : TEnv) (ps : List Int) (st : LS) : List Int × Bool × LS := siftP (goodP E) (keep9 E T) 44 32 T.n 0 ps st
noncomputable def keep4 (E : Env) (T : TEnv) (_k : Nat) (p : Int) (st : LS) : Bool × LS := tableP (dblP E T) p.toNat st
theorem keep3_any {E : Env} (hE : EOk E) {T : TEnv} {rv bv : Nat} (hT : COk E T rv bv) (k : Nat) (p : Int) (st : LS) (w : World) (h : LK E w st) (hv : TC E T rv bv w) (hp : isD E.X E.Y p = true) :
  Calls Tryz.prog 81 #[.int .i64 k, .int .i64 p, .pointer (some ⟨bv, 0, none⟩)] w fun e w' =>
   e = .returned (.bool (keep3 E T k p st).1) ∧ LK E w' (keep3 E T k p st).2 ∧ Fr [E.bc, E.gw, E.bf, E.bx] w w' := by
 have hb := hv.b
 have HL := Lib.hid h
 have HV := Lib.hid hv
 clear h hv
 unfold keep3
 go_enter Tryz.func81, Tryz.ntmps81
 go_wp2_with fail
 refine (below_any hE hT 12 p st w HL.out HV.out (by omega) (by omega) hp).mono ?_; rintro e w1 ⟨rfl, h2, h3⟩
 have H2 := Lib.hid h2
 have H3 := Lib.hid h3
 clear h2 h3
 go_wp2_with fail
 go_ret
 exact ⟨rfl, H2.out, H3.out⟩
theorem keep9_any {E : Env} (hE : EOk E) {T : TEnv} {rv bv : Nat} (hT : COk E T rv bv) (k : Nat) (hk : k < 32) (p : Int) (st : LS) (w : World) (h : LK E w st) (hv : TC E T rv bv w) (hp : isD E.X E.Y p = true) :
  Calls Tryz.prog 84 #[.int .i64 k, .int .i64 p, .pointer (some ⟨bv, 0, none⟩)] w fun e w' =>
   e = .returned (.bool (keep9 E T k p st).1) ∧ LK E w' (keep9 E T k p st).2 ∧ Fr [E.bc, E.gw, E.bf, E.bx] w w' := by
 have hb := hv.b
 have HL := Lib.hid h
 have HV := Lib.hid hv
 have hk0 : (0 : Int) ≤ (k : Int) := Int.natCast_nonneg _
 have hk1 : (k : Int) < 32 := by omega
 clear h hv
 unfold keep9
 go_enter Tryz.func84, Tryz.ntmps84
 go_wp2_with fail
 refine (below_any hE hT (44 + 32 * k) p st w HL.out HV.out (by omega) (by omega) hp).mono ?_; rintro e w1 ⟨rfl, h2, h3⟩
 have H2 := Lib.hid h2
 have H3 := Lib.hid h3
 clear h2 h3
 go_wp2_with fail
 go_ret
 exact ⟨rfl, H2.out, H3.out⟩
theorem dbl_any {E : Env} (hE : EOk E) {T : TEnv} {rv bv : Nat} (hT : COk E T rv bv) (gt : Nat) (ps : List Int) (st : LS) (w : World) (h : LK E w st) (hv : TC E T rv bv w)
  (hN : Nums w gt 0 119 32 (fun _ => none) ps) (hl : ps.length = 32) (hp : ∀ p ∈ ps, 0 ≤ p ∧ p ≤ 4294967295) (hg : gt ∉ mine E) (hgt : gt ∉ theirs T rv bv) :
  Calls Tryz.prog 83 #[.slice (some ⟨gt, 0, none⟩) 32 32, .pointer (some ⟨T.lv, 0, none⟩), .pointer (some ⟨T.nv, 0, none⟩), .pointer (some ⟨bv, 0, none⟩)] w fun e w' =>
   e = .returned (.bool (dblP E T ps st).2.1) ∧ LK E w' (dblP E T ps st).2.2 ∧ hat w' gt = some (.cells (IV .i64 (dblP E T ps st).1) 119) ∧ (dblP E T ps st).1.length = 32 ∧ Fr [gt, E.bc, E.gw, E.bf, E.bx] w w' := by
 have hv1 := hv.v.l
 have hv2 := hv.v.n
 have HL := Lib.hid h
 have HV := Lib.hid hv
 have HN := Lib.hid hN
 have HP := Lib.hid hp
 clear h hv hN hp
 have hgn : ∀ k ∈ theirs T rv bv, k ≠ gt := fun k hk e => hgt (e ▸ hk)
 have hgm : ∀ k ∈ mine E, k ≠ gt := fun k hk e => hg (e ▸ hk)
 go_enter Tryz.func83, Tryz.ntmps83
 go_wp2_with fail
 have hcall := sift_any (goodP E) (keep9 E T) 44 32 T.n (fun w' st' => LK E w' st' ∧ TC E T rv bv w' ∧ Fr [gt, E.bc, E.gw, E.bf, E.bx] w w') (.pointer (some ⟨E.gl, 0, none⟩)) 84 #[.pointer (some ⟨bv, 0, none⟩)] gt 0 32 32 119 (fun _ => none) ps st w (fun args w => by go_simp) ⟨HL.out, HV.out, Fr.refl _ _⟩ HN.out (by omega) (by omega) (by omega) (by omega) (by omega) (by omega) hT.t.n0 (by have := hT.t.n1; omega) HP.out
  (by
   rintro w1 st1 j v hj1 hj2 ⟨h1, h2, h3⟩
   have hfr := fr_setCell w1 gt j v
   refine ⟨h1.fr hfr ?_ ?_ ?_ ?_ ?_, h2.fr hfr (by simpa using hgt), h3.trans (hfr.mono (by simp))⟩ <;> simpa using hgm _ (by simp [mine]))
  (by
   rintro p st1 w1 hp0 hp1 ⟨h1, h2, h3⟩
   refine (good_any hE p st1 w1 hp0 hp1 h1).mono ?_
   rintro e w2 ⟨rfl, h5, h6⟩
   exact ⟨rfl, ⟨h5, h2.fr h6 (by simpa using hT.apart E.bc (by simp [mine])), h3.trans (h6.mono (by simp))⟩, h6.block gt (Nat.lt_of_lt_of_le HN.out.lt h3.size) (by simpa using (hgm E.bc (by simp [mine])).symm)⟩)
  (by
   rintro k p st1 w1 hk hp0 hp1 hgd ⟨h1, h2, h3⟩
   refine (keep9_any hE hT k (by omega) p st1 w1 h1 h2 (goodP_isD hgd)).mono ?_
   rintro e w2 ⟨rfl, h5, h6⟩
   refine ⟨rfl, ⟨h5, h2.fr h6 ?_, h3.trans (h6.mono (by simp +contextual))⟩, h6.block gt (Nat.lt_of_lt_of_le HN.out.lt h3.size) ?_⟩
   ·intro q hq
    exact hT.apart q (by simp only [List.mem_cons, List.mem_nil_iff, or_false] at hq; rcases hq with rfl | rfl | rfl | rfl <;> simp [mine])
   ·intro hm
    exact hg (by simp only [List.mem_cons, List.mem_nil_iff, or_false] at hm; rcases hm with e | e | e | e <;> simp [mine, e]))
 rw [hl] at hcall
 refine hcall.mono ?_; rintro e w1 ⟨rfl, ⟨h2, h3, h4⟩, h5⟩
 have hlen : (dblP E T ps st).1.length = 32 := (siftP_len _ _ _ _ _ _ _ _).trans hl
 have h6 : hat w1 gt = some (.cells (IV .i64 (dblP E T ps st).1) 119) := Nums.all (by rw [hlen]; exact h5)
 have H2 := Lib.hid h2
 have H4 := Lib.hid h4
 have H6 := Lib.hid h6
 have HLEN := Lib.hid hlen
 clear h2 h3 h4 h5 h6 hlen hcall
 go_wp2_with fail
 go_ret
 exact ⟨rfl, H2.out, H6.out, HLEN.out, H4.out⟩
theorem keep4_any {E : Env} (hE : EOk E) {T : TEnv} {rv bv : Nat} (hT : COk E T rv bv) (k : Nat) (p : Int) (st : LS) (w : World) (h : LK E w st) (hv : TC E T rv bv w) (hp : isD E.X E.Y p = true) :
  Calls Tryz.prog 82 #[.int .i64 k, .int .i64 p, .pointer (some ⟨T.lv, 0, none⟩), .pointer (some ⟨T.nv, 0, none⟩), .pointer (some ⟨bv, 0, none⟩)] w fun e w' =>
   e = .returned (.bool (keep4 E T k p st).1) ∧ LK E w' (keep4 E T k p st).2 ∧ Fr [E.bc, E.gw, E.bf, E.bx] w w' := by
 have hr := isD_range hE hp
 have hl := hv.v.l
 have HL := Lib.hid h
 have HV := Lib.hid hv
 clear h hv
 have hpn : p = (p.toNat : Int) := by omega
 unfold keep4
 generalize p.toNat = at' at *
 subst hpn
 have hlt := HV.out.lt
 go_enter Tryz.func82, Tryz.ntmps82
 go_wp2_with fail
 refine (table_any hE (dblP E T) 83 #[.pointer (some ⟨T.lv, 0, none⟩), .pointer (some ⟨T.nv, 0, none⟩), .pointer (some ⟨bv, 0, none⟩)] at' st w (fun W => TC E T rv bv W) [E.bc, E.gw, E.bf, E.bx] HV.out ?hJ ?hf (by omega) (by have := hE.small; have := hE.size; omega) HL.out ?hs).mono ?post
 case hJ =>
  rintro W W' h2 hfr
  exact h2.fr hfr (by simp)
 case hf =>
  intro args w
  go_simp
 case hs =>
  rintro ps gt st1 W hps hpb h2 h3 h5 h6 h7
  refine (dbl_any hE hT gt ps st1 W h2 h3 h5 hps hpb h6 ?_).mono fun e w' h => h
  intro hm
  have := hlt gt hm
  omega
 case post =>
  rintro e w1 ⟨rfl, h2, h3⟩
  have H2 := Lib.hid h2
  have H3 := Lib.hid (h3.mono (ex' := [E.bc, E.gw, E.bf, E.bx]) (by simp))
  clear h2 h3 hl
  go_wp2_with fail
  go_ret
  exact ⟨rfl, H2.out, H3.out⟩
theorem siftK_any {E : Env} (hE : EOk E) {T : TEnv} {rv bv : Nat} (hT : COk E T rv bv) (keepP : Nat → Int → LS → Bool × LS) (base step : Int) (f : Nat) (caps : Array Value) (gp cp sz : Nat) (tg : TypeId) (re : Nat → Option Value) (ps : List Int) (st : LS) (w : World)
  (hf : ∀ args w, (callFunc f args).run Tryz.prog w = .ok (.enter f args) w)
  (hk : ∀ (k : Nat) p st w, k < ps.length → LK E w st → TC E T rv bv w → isD E.X E.Y p = true → Calls Tryz.prog f (#[.int .i64 k, .int .i64 p] ++ caps) w fun e w' => e = .returned (.bool (keepP k p st).1) ∧ LK E w' (keepP k p st).2 ∧ Fr [E.bc, E.gw, E.bf, E.bx] w w')
  (h : LK E w st) (hv : TC E T rv bv w) (hN : Nums w gp 0 tg sz re ps) (hc : ps.length ≤ cp) (hm : ps.length ≤ 32) (h0 : 0 ≤ base) (h1 : base ≤ 2000) (h2 : 0 ≤ step) (h3 : step ≤ 100) (hp : ∀ p ∈ ps, 0 ≤ p ∧ p ≤ 4294967295)
  (hg : gp ∉ mine E) (hgt : gp ∉ theirs T rv bv) :
  Calls Tryz.prog 76 #[.pointer (some ⟨E.gl, 0, none⟩), .slice (some ⟨gp, 0, none⟩) ps.length cp, .int .i64 base, .int .i64 step, .int .i64 T.n, .func (.func f) #[] caps] w fun e w' =>
   e = .returned (.bool (siftP (goodP E) keepP base step T.n 0 ps st).2.1) ∧ LK E w' (siftP (goodP E) keepP base step T.n 0 ps st).2.2 ∧ TC E T rv bv w' ∧ Nums w' gp 0 tg sz re (siftP (goodP E) keepP base step T.n 0 ps st).1 ∧ Fr [gp, E.bc, E.gw, E.bf, E.bx] w w' := by
 have hgm : ∀ k ∈ mine E, k ≠ gp := fun k hk e => hg (e ▸ hk)
 refine (sift_any (goodP E) keepP base step T.n (fun w' st' => LK E w' st' ∧ TC E T rv bv w' ∧ Fr [gp, E.bc, E.gw, E.bf, E.bx] w w') (.pointer (some ⟨E.gl, 0, none⟩)) f caps gp 0 cp sz tg re ps st w hf ⟨h, hv, Fr.refl _ _⟩ hN hc hm h0 h1 h2 h3 hT.t.n0 (by have := hT.t.n1; omega) hp ?_ ?_ ?_).mono ?_
 ·rintro w1 st1 j v hj1 hj2 ⟨h1, h2, h3⟩
  have hfr := fr_setCell w1 gp j v
  refine ⟨h1.fr hfr ?_ ?_ ?_ ?_ ?_, h2.fr hfr (by simpa using hgt), h3.trans (hfr.mono (by simp))⟩ <;> simpa using hgm _ (by simp [mine])
 ·rintro p st1 w1 hp0 hp1 ⟨h1, h2, h3⟩
  refine (good_any hE p st1 w1 hp0 hp1 h1).mono ?_
  rintro e w2 ⟨rfl, h5, h6⟩
  exact ⟨rfl, ⟨h5, h2.fr h6 (by simpa using hT.apart E.bc (by simp [mine])), h3.trans (h6.mono (by simp))⟩, h6.block gp (Nat.lt_of_lt_of_le hN.lt h3.size) (by simpa using (hgm E.bc (by simp [mine])).symm)⟩
 ·rintro k p st1 w1 hk1 hp0 hp1 hgd ⟨h1, h2, h3⟩
  refine (hk k p st1 w1 hk1 h1 h2 (goodP_isD hgd)).mono ?_
  rintro e w2 ⟨rfl, h5, h6⟩
  refine ⟨rfl, ⟨h5, h2.fr h6 ?_, h3.trans (h6.mono (by simp +contextual))⟩, h6.block gp (Nat.lt_of_lt_of_le hN.lt h3.size) ?_⟩
  ·intro q hq
   exact hT.apart q (by simp only [List.mem_cons, List.mem_nil_iff, or_false] at hq; rcases hq with rfl | rfl | rfl | rfl <;> simp [mine])
  ·intro hm
   exact hg (by simp only [List.mem_cons, List.mem_nil_iff, or_false] at hm; rcases hm with e | e | e | e <;> simp [mine, e])
 ·rintro e w1 ⟨rfl, ⟨h2, h3, h4⟩, h5⟩
  exact ⟨rfl, h2, h3, h5, h4⟩
def wipeL (s : List Int) (k : Nat) : List Int := s.take k ++ zl (128 - k)
@[simp] theorem wipeL_length {s : List Int} (h : s.length = 128) {k : Nat} (hk : k ≤ 128) : (wipeL s k).length = 128 := by
 simp [wipeL, h]; omega
theorem bytes_wipeL {s : List Int} (h : Bytes s) (k : Nat) : Bytes (wipeL s k) := by
 intro x hx
 unfold wipeL at hx
 rw [List.mem_append] at hx
 rcases hx with hx | hx
 ·exact h x (List.mem_of_mem_take hx)
 ·unfold zl at hx
  rw [List.mem_replicate] at hx
  omega
theorem run_clear_u8 {w : World} {g : Nat} {s : List Int} {t : TypeId} (hg : hat w g = some (.cells (IV .u8 s) t)) (hs : s.length = 128) (k : Nat) (hk : k < 128) (ty : TypeId) :
  (Builtin.clear_ #[42] ty #[.slice (some ⟨g, k, none⟩) (128 - k) (128 - k)]).run Tryz.prog w = .ok (.tuple #[]) (w.setRow g (IV .u8 (wipeL s k))) := by
 have hv : ∀ w, (zeroValue 5).run Tryz.prog w = .ok (.int .u8 0) w := fun w => by kernel_rfl
 have hz : (Value.int .u8 0).cells = #[.int .u8 0] := rfl
 have ht : Tryz.prog.underlying 42 = some (.slice 5) := Tryz.underlying42
 obtain ⟨n, hn⟩ : ∃ n, 128 - k = n + 1 := ⟨127 - k, by omega⟩
 have hzc : (Builtin.zeroCells (Value.int .u8 0).cells (128 - k)).toList = List.replicate (128 - k) (.int .u8 0) := by
  rw [hz]
  simp [Builtin.zeroCells]
  apply List.ext_getElem
  ·simp
  ·intro i h1 h2
   simp [Nat.mod_one]
 have hst := run_storeCells_at (P := Tryz.prog) g k t (List.replicate (128 - k) (.int .u8 0)) 0 (IV .u8 s) w hg (by simp [hs]; omega) (fun v hv' => by rw [List.eq_of_mem_replicate hv']; rfl)
 have he : ((IV .u8 s).toList.take (k + 0) ++ List.replicate (128 - k) (Value.int .u8 0) ++ (IV .u8 s).toList.drop (k + 0 + (List.replicate (128 - k) (Value.int .u8 0)).length)).toArray = IV .u8 (wipeL s k) := by
  have hd : (IV .u8 s).toList.drop (k + 0 + (List.replicate (128 - k) (Value.int .u8 0)).length) = [] := List.drop_of_length_le (by simp [hs]; omega)
  rw [hd]
  unfold IV wipeL zl
  simp [List.map_take]
 rw [he] at hst
 rw [hn] at hzc hst ⊢
 simp only [Builtin.clear_, Sem.run_bind, run_underlying ht, Result.andThen_ok, hv]
 simp [hzc, hst, hv]
theorem wipe_any (s : List Int) (hs : s.length = 128) (k : Nat) (hk : k < 128) (w : World) :
  Calls Tryz.prog 85 #[.agg (IV .u8 s), .int .i64 k] w fun e w' => e = .returned (.agg (IV .u8 (wipeL s k))) ∧ Below w.heap.size w w' := by
 have hk0 : (0 : Int) ≤ (k : Int) := Int.natCast_nonneg _
 have hk1 : (k : Int) < 128 := by omega
 have d1 : decide ((k : Int) < 128) = true := decide_eq_true hk1
 have h1 : hat ((w.alloc (.cells (IV .u8 s) 47)).alloc (.cells (IV .u8 (zl 128)) 47)) w.heap.size = some (.cells (IV .u8 s) 47) := by simp [go_sem]
 have h2 : hat ((w.alloc (.cells (IV .u8 s) 47)).alloc (.cells (IV .u8 (zl 128)) 47)) (w.heap.size + 1) = some (.cells (IV .u8 (zl 128)) 47) := by simp [go_sem]
 have hb : Below w.heap.size w ((w.alloc (.cells (IV .u8 s) 47)).alloc (.cells (IV .u8 (zl 128)) 47)) := ((Below.refl w.heap.size w).alloc (Nat.le_refl _) _).alloc (by simp) _
 have hr := run_clear_u8 h1 hs k hk 0
 have hw : (wipeL s k).length = 128 := wipeL_length hs (by omega)
 have h3 := hat_setRow_at _ _ (IV .u8 (wipeL s k)) _ _ _ h1
 have h4 := (hat_setRow _ w.heap.size (w.heap.size + 1) (IV .u8 (wipeL s k)) (by omega)).trans h2
 have hb2 := below_setRow hb (Nat.le_refl _) (IV .u8 (wipeL s k))
 have HB := Lib.hid hb2
 generalize hW : (w.alloc (.cells (IV .u8 s) 47)).alloc (.cells (IV .u8 (zl 128)) 47) = w1 at *
 generalize hW2 : w1.setRow w.heap.size (IV .u8 (wipeL s k)) = w2 at *
 clear hb hb2
 go_enter Tryz.func85, Tryz.ntmps85
 go_wp2_with fail
 exact ret_c row47 rfl (cs := IV .u8 (wipeL s k)) rfl (hopS h4 _).1 (by simp [hw]) rfl ⟨rfl, below_setRow HB.out (by omega) _⟩
def ptrElem : Value → Option (DataW Unit × List MemPlace)
 | .pointer none => some (.nil, [])
 | .pointer (some ⟨b, 0, none⟩) => some (.lit (.int .i64 b), [])
 | _ => none
def ptrOf : Option Nat → Value
 | none => .pointer none
 | some b => .pointer (some ⟨b, 0, none⟩)
def ptrD : Option Nat → DataW Unit
 | none => .nil
 | some b => .lit (.int .i64 b)
theorem ptrElem_of (g : Option Nat) : ptrElem (ptrOf g) = some (ptrD g, []) := by cases g <;> rfl
theorem ptrElem_inv {v : Value} {g : Option Nat} {ps : List MemPlace} (h : ptrElem v = some (ptrD g, ps)) : v = ptrOf g := by
 unfold ptrElem at h
 split at h
 ·cases g with
  | none => rfl
  | some b => simp [ptrD] at h
 ·cases g with
  | none => simp [ptrD] at h
  | some b =>
   simp [ptrD] at h
   obtain ⟨h, -⟩ := h
   have := h
   rename_i b'
   have : b' = b := by omega
   subst this; rfl
 ·cases h
def MP (w : World) (b n : Nat) (f : Int → Option Nat) : Prop :=
 ∃ D : DataW Unit, w.ownsMap Tryz.prog 3 ptrElem b n D ∧ Go.Maps.IsMap D ∧ (∀ p, i64ok p → Go.Maps.has D (.int .i64 p) = (f p).isSome) ∧ ∀ p, i64ok p → D.atKey (.int .i64 p) .nil = ptrD (f p)
theorem MP.lt {w : World} {b n : Nat} {f : Int → Option Nat} (h : MP w b n f) : b < w.heap.size := by
 obtain ⟨D, h1, -⟩ := h; exact h1.lt
theorem MP.same {w w' : World} {b n : Nat} {f : Int → Option Nat} (h : MP w b n f) (he : hat w' b = hat w b) : MP w' b n f := by
 obtain ⟨D, ⟨es, clock, hb, h1⟩, h2⟩ := h
 exact ⟨D, ⟨es, clock, he.trans hb, h1⟩, h2⟩
theorem MP.made (w : World) : MP (w.alloc (.map #[] 0)) w.heap.size 0 (fun _ => none) :=
 ⟨.map [], World.ownsMap_made w _ _ _, Go.Maps.isMap_empty, fun _ _ => rfl, fun _ _ => rfl⟩
theorem zeroPtr (w : World) : (zeroValue 103).run Tryz.prog w = .ok (.pointer none) w := by kernel_rfl
theorem MP.look {w : World} {b n : Nat} {f : Int → Option Nat} (h : MP w b n f) {p : Int} (hp : i64ok p) :
  (Instr.lookup 92 (.map (some b)) (.int .i64 p) false).run Tryz.prog w = .ok (ptrOf (f p)) w := by
 obtain ⟨D, h1, -, h2, h3⟩ := h
 obtain ⟨v, ps, hr, hv⟩ := h1.lookup (Go.Maps.int_keyed Tryz.underlying3) Tryz.underlying92 (zeroPtr w) (zd := .nil) (zp := []) rfl (keyInt hp)
 rw [h3 p hp] at hv
 rw [ptrElem_inv hv] at hr
 exact hr
def putN (f : Int → Option Nat) (p : Int) (g : Nat) : Int → Option Nat := fun q => if q = p then some g else f q
theorem MP.put {w : World} {b n : Nat} {f : Int → Option Nat} (h : MP w b n f) (hn : n < maxLen) {p : Int} (g : Nat) (hp : i64ok p) :
  ∃ w', (Instr.mapUpdate 92 (.map (some b)) (.int .i64 p) (.pointer (some ⟨g, 0, none⟩))).run Tryz.prog w = .ok () w' ∧ MP w' b (n + 1) (putN f p g) ∧ w.mapTurned w' b := by
 obtain ⟨D, h1, h0, h2, h3⟩ := h
 obtain ⟨w', hr, ho, ht⟩ := h1.store (Go.Maps.int_keyed Tryz.underlying3) Tryz.underlying92 hn (keyInt hp) (d := ptrD (some g)) (ps := []) (val := .pointer (some ⟨g, 0, none⟩)) (ptrElem_of (some g))
 refine ⟨w', hr, ⟨_, ho, h0.put _ _, fun q hq => ?_, fun q hq => ?_⟩, ht⟩
 ·unfold putN
  by_cases hqp : q = p
  ·subst hqp
   rw [Go.Maps.has_put_same h0 (keyInt_is hq)]; simp
  ·rw [Go.Maps.has_put_other (litInt_ne hqp), h2 q hq, if_neg hqp]
 ·unfold putN
  by_cases hqp : q = p
  ·subst hqp
   rw [Go.Maps.atKey_put_same h0 (keyInt_is hq)]; simp
  ·rw [Go.Maps.atKey_put_other (litInt_ne hqp), h3 q hq, if_neg hqp]
def PB (w : World) (b : Nat) (f : Int → Option Nat) : Prop := MP w b 4096 f ∧ ∀ p, (f p).isSome = true → 0 ≤ p ∧ p < 4096
theorem MP.tight {w : World} {b n : Nat} {f : Int → Option Nat} (h : MP w b n f) (hs : ∀ p, (f p).isSome = true → 0 ≤ p ∧ p < 4096) : PB w b f := by
 obtain ⟨D, h1, h2, h3, h4⟩ := h
 exact ⟨⟨D, own_tight h1 (fun p hp hh => hs p (by rw [← h3 p hp]; exact hh)), h2, h3, h4⟩, hs⟩
theorem PB.same {w w' : World} {b : Nat} {f : Int → Option Nat} (h : PB w b f) (he : hat w' b = hat w b) : PB w' b f := ⟨h.1.same he, h.2⟩
theorem PB.lt {w : World} {b : Nat} {f : Int → Option Nat} (h : PB w b f) : b < w.heap.size := h.1.lt
theorem PB.put {w : World} {b : Nat} {f : Int → Option Nat} (h : PB w b f) {p : Int} (g : Nat) (hp : 0 ≤ p ∧ p < 4096) :
  ∃ w', (Instr.mapUpdate 92 (.map (some b)) (.int .i64 p) (.pointer (some ⟨g, 0, none⟩))).run Tryz.prog w = .ok () w' ∧ PB w' b (putN f p g) ∧ w.mapTurned w' b := by
 obtain ⟨w', h1, h2, h3⟩ := h.1.put (by unfold maxLen; omega) (p := p) g (i64_small hp.1 (by omega))
 refine ⟨w', h1, h2.tight fun q hq => ?_, h3⟩
 unfold putN at hq
 by_cases hqp : q = p
 ·subst hqp; exact hp
 ·rw [if_neg hqp] at hq
  exact h.2 q hq
def goodX (X Y : Int) (p : Int) (st : LS) : Bool × LS := if isD X Y p = true ∧ st.cl p = false then (true, { st with cl := addS st.cl p }) else (false, st)
def rowX (X Y n base : Int) (ps : List Int) (st : LS) : List Int × Bool × LS := siftP (goodX X Y) (keepRow base) base 1 n 0 ps st
noncomputable def belowX (X Y n base p : Int) (st : LS) : Bool × LS := tableP (rowX X Y n base) p.toNat st
noncomputable def keep3X (X Y n : Int) (_k : Nat) (p : Int) (st : LS) : Bool × LS := belowX X Y n 12 p st
noncomputable def keep9X (X Y n : Int) (k : Nat) (p : Int) (st : LS) : Bool × LS := belowX X Y n (44 + 32 * k) p st
noncomputable def dblX (X Y n : Int) (ps : List Int) (st : LS) : List Int × Bool × LS := siftP (goodX X Y) (keep9X X Y n) 44 32 n 0 ps st
noncomputable def keep4X (X Y n : Int) (_k : Nat) (p : Int) (st : LS) : Bool × LS := tableP (dblX X Y n) p.toNat st
noncomputable def ptrsX (X Y n : Int) (raw : List Int) (st : LS) : List Int × LS :=
 let a := rowX X Y n 0 ((raw.drop 4).take 12) st
 let b := siftP (goodX X Y) (keep3X X Y n) 12 1 n 0 [nth raw 16] a.2.2
 let c := siftP (goodX X Y) (keep4X X Y n) 44 1 n 0 [nth raw 17] b.2.2
 (raw.take 4 ++ (a.1 ++ (b.1 ++ c.1)), c.2.2)
def firmX (n : Int) (st : LS) : LS := { st with fm := fun q => st.fm q || (List.range n.toNat).any fun k => st.bk k == some q }
noncomputable def tailX (n z : Int) (st : LS) : LS :=
 match st.bk (n - 1) with
 | none => st
 | some p => if z % 128 = 0 then st else { st with S := updS st.S p.toNat (wipeL (st.S p.toNat) (z % 128).toNat) }
def cntX (z : Int) : Int := (z + 127) / 128
noncomputable def takeX (X Y : Int) (raw : List Int) (st : LS) : List Int × LS :=
 let r := ptrsX X Y (cntX (nth raw 2)) raw { st with bk := fun _ => none }
 if nth raw 0 = 2 then (r.1, firmX (cntX (nth raw 2)) r.2) else (r.1, tailX (cntX (nth raw 2)) (nth raw 2) r.2)
theorem siftP_inv {σ : Type} (goodP : Int → σ → Bool × σ) (keepP : Nat → Int → σ → Bool × σ) (base step n : Int) (I : σ → Prop)
  (hg : ∀ p st, I st → I (goodP p st).2) (hk : ∀ (k : Nat) p st s0, base + step * k < n → (goodP p s0).1 = true → I st → I (keepP k p st).2) : ∀ (r : List Int) (k : Nat) (st : σ), I st → I (siftP goodP keepP base step n k r st).2.2
 | [], _, _, h => h
 | p :: r, k, st, h => by
  rw [siftP_cons]
  split
  ·exact siftP_inv goodP keepP base step n I hg hk r _ _ h
  ·split
   ·exact siftP_inv goodP keepP base step n I hg hk r _ _ h
   ·split
    ·exact siftP_inv goodP keepP base step n I hg hk r _ _ (hg p st h)
    ·rename_i h1 h2
     have h3 : (goodP p st).1 = true := by cases hh : (goodP p st).1 <;> simp_all
     split
     ·exact siftP_inv goodP keepP base step n I hg hk r _ _ (hk k p _ st (by omega) h3 (hg p st h))
     ·exact siftP_inv goodP keepP base step n I hg hk r _ _ (hk k p _ st (by omega) h3 (hg p st h))
def KeysIn (n : Int) (st : LS) : Prop := ∀ k, (st.bk k).isSome = true → 0 ≤ k ∧ k < n
theorem goodX_inv {I : LS → Prop} {X Y : Int} (h : ∀ st (f : Int → Bool), I st → I { st with cl := f }) (p : Int) (st : LS) (hi : I st) : I (goodX X Y p st).2 := by
 unfold goodX
 split
 ·exact h _ _ hi
 ·exact hi
theorem tableP_inv {I : LS → Prop} (siftF : List Int → LS → List Int × Bool × LS) (at' : Nat) (h1 : ∀ st (f : Int → Bool), I st → I { st with cl := f }) (h2 : ∀ st (S : Nat → List Int) (f : Int → Bool), I st → I { st with S := S, fm := f })
  (hs : ∀ ps st, I st → I (siftF ps st).2.2) (st : LS) (hi : I st) : I (tableP siftF at' st).2 := by
 unfold tableP
 split
 ·exact h1 _ _ (hs _ _ hi)
 ·exact h2 _ _ _ (hs _ _ hi)
theorem keys_put {n : Int} {st : LS} (h : KeysIn n st) {k p : Int} (h0 : 0 ≤ k) (h1 : k < n) : KeysIn n { st with bk := putI st.bk k p } := by
 intro q hq
 simp only [putI] at hq
 split at hq
 ·rename_i e; subst e; exact ⟨h0, h1⟩
 ·exact h q hq
theorem rowX_keys (X Y n base : Int) (hb : 0 ≤ base) (ps : List Int) (st : LS) (h : KeysIn n st) : KeysIn n (rowX X Y n base ps st).2.2 := by
 unfold rowX
 refine siftP_inv _ _ _ _ _ (KeysIn n) (fun p st h => goodX_inv (fun _ _ h => h) p st h) (fun k p st _ hk _ h => ?_) ps 0 st h
 exact keys_put h (by omega) (by omega)
theorem belowX_keys (X Y n base p : Int) (hb : 0 ≤ base) (st : LS) (h : KeysIn n st) : KeysIn n (belowX X Y n base p st).2 :=
 tableP_inv _ _ (fun _ _ h => h) (fun _ _ _ h => h) (fun ps st h => rowX_keys X Y n base hb ps st h) st h
theorem dblX_keys (X Y n : Int) (ps : List Int) (st : LS) (h : KeysIn n st) : KeysIn n (dblX X Y n ps st).2.2 := by
 unfold dblX
 exact siftP_inv _ _ _ _ _ (KeysIn n) (fun p st h => goodX_inv (fun _ _ h => h) p st h) (fun k p st _ hk _ h => belowX_keys X Y n _ p (by omega) st h) ps 0 st h
theorem ptrsX_keys (X Y n : Int) (raw : List Int) (st : LS) (h : KeysIn n st) : KeysIn n (ptrsX X Y n raw st).2 := by
 unfold ptrsX
 refine siftP_inv _ _ _ _ _ (KeysIn n) (fun p st h => goodX_inv (fun _ _ h => h) p st h) (fun k p st _ hk _ h => tableP_inv _ _ (fun _ _ h => h) (fun _ _ _ h => h) (fun ps st h => dblX_keys X Y n ps st h) st h) _ 0 _ ?_
 refine siftP_inv _ _ _ _ _ (KeysIn n) (fun p st h => goodX_inv (fun _ _ h => h) p st h) (fun k p st _ hk _ h => belowX_keys X Y n _ p (by omega) st h) _ 0 _ ?_
 exact rowX_keys X Y n 0 (by omega) _ st h
def ValsIn (X Y : Int) (st : LS) : Prop := ∀ k p, st.bk k = some p → isD X Y p = true
theorem goodX_isD {X Y p : Int} {st : LS} (h : (goodX X Y p st).1 = true) : isD X Y p = true := by
 unfold goodX at h
 split at h
 ·rename_i h2; exact h2.1
 ·cases h
theorem vals_put {X Y : Int} {st : LS} (h : ValsIn X Y st) {k p : Int} (hp : isD X Y p = true) : ValsIn X Y { st with bk := putI st.bk k p } := by
 intro q r hq
 simp only [putI] at hq
 split at hq
 ·cases hq; exact hp
 ·exact h q r hq
theorem rowX_vals (X Y n base : Int) (ps : List Int) (st : LS) (h : ValsIn X Y st) : ValsIn X Y (rowX X Y n base ps st).2.2 := by
 unfold rowX
 exact siftP_inv _ _ _ _ _ (ValsIn X Y) (fun p st h => goodX_inv (fun _ _ h => h) p st h) (fun k p st _ hk hg h => vals_put h (goodX_isD hg)) ps 0 st h
theorem belowX_vals (X Y n base p : Int) (st : LS) (h : ValsIn X Y st) : ValsIn X Y (belowX X Y n base p st).2 :=
 tableP_inv _ _ (fun _ _ h => h) (fun _ _ _ h => h) (fun ps st h => rowX_vals X Y n base ps st h) st h
theorem dblX_vals (X Y n : Int) (ps : List Int) (st : LS) (h : ValsIn X Y st) : ValsIn X Y (dblX X Y n ps st).2.2 := by
 unfold dblX
 exact siftP_inv _ _ _ _ _ (ValsIn X Y) (fun p st h => goodX_inv (fun _ _ h => h) p st h) (fun k p st _ hk _ h => belowX_vals X Y n _ p st h) ps 0 st h
theorem ptrsX_vals (X Y n : Int) (raw : List Int) (st : LS) (h : ValsIn X Y st) : ValsIn X Y (ptrsX X Y n raw st).2 := by
 unfold ptrsX
 refine siftP_inv _ _ _ _ _ (ValsIn X Y) (fun p st h => goodX_inv (fun _ _ h => h) p st h) (fun k p st _ hk _ h => tableP_inv _ _ (fun _ _ h => h) (fun _ _ _ h => h) (fun ps st h => dblX_vals X Y n ps st h) st h) _ 0 _ ?_
 refine siftP_inv _ _ _ _ _ (ValsIn X Y) (fun p st h => goodX_inv (fun _ _ h => h) p st h) (fun k p st _ hk _ h => belowX_vals X Y n _ p st h) _ 0 _ ?_
 exact rowX_vals X Y n 0 _ st h
theorem firmX_of {n : Int} {st : LS} (hk : KeysIn n st) (fm' : Int → Bool) (h : ∀ q, fm' q = true ↔ st.fm q = true ∨ ∃ k, st.bk k = some q) : firmX n st = { st with fm := fm' } := by
 unfold firmX
 congr 1
 funext q
 apply Bool.eq_iff_iff.2
 rw [h q, Bool.or_eq_true, List.any_eq_true]
 constructor
 ·rintro (h | ⟨k, -, h⟩)
  ·exact .inl h
  ·exact .inr ⟨k, by simpa using h⟩
 ·rintro (h | ⟨k, h⟩)
  ·exact .inl h
  ·have h0 := hk k (by rw [h]; rfl)
   refine .inr ⟨k.toNat, List.mem_range.2 (by omega), ?_⟩
   rw [show ((k.toNat : Nat) : Int) = k by omega, h]
   simp
theorem keyStr {s : ByteArray} (h : s.size ≤ 40) : keyOf Tryz.prog 9 (.string s) = some (.string s.data.toList) := WideMaps.keyOf_string_mk Tryz.underlying9 (by unfold maxLen; omega)
theorem keyStr_is {s : ByteArray} (h : s.size ≤ 40) : WideAt.IsKeyLit (.string s.data.toList) := (Go.Maps.string_keyed Tryz.underlying9).key (keyStr h)
theorem litStr_ne {s t : ByteArray} (h : s ≠ t) : (Lit.string s.data.toList) ≠ .string t.data.toList := fun e => h (by
 injection e with e
 cases s; cases t
 simp only at e
 congr 1
 exact Array.ext' e)
def NB (w : World) (b n : Nat) (s : ByteArray → Bool) : Prop :=
 ∃ D : DataW Unit, w.ownsMap Tryz.prog 9 (plainElem Tryz.prog 4) b n D ∧ Go.Maps.IsMap D ∧ ∀ p : ByteArray, p.size ≤ 40 → D.atKey (.string p.data.toList) (.lit (.bool false)) = .lit (.bool (s p))
theorem NB.lt {w : World} {b n : Nat} {s : ByteArray → Bool} (h : NB w b n s) : b < w.heap.size := by
 obtain ⟨D, h1, -⟩ := h; exact h1.lt
theorem NB.same {w w' : World} {b n : Nat} {s : ByteArray → Bool} (h : NB w b n s) (he : hat w' b = hat w b) : NB w' b n s := by
 obtain ⟨D, ⟨es, clock, hb, h1⟩, h2⟩ := h
 exact ⟨D, ⟨es, clock, he.trans hb, h1⟩, h2⟩
theorem NB.made (w : World) : NB (w.alloc (.map #[] 0)) w.heap.size 0 (fun _ => false) :=
 ⟨.map [], World.ownsMap_made w _ _ _, Go.Maps.isMap_empty, fun _ _ => rfl⟩
theorem NB.of {w : World} {b : Nat} (h : hat w b = some (.map #[] 0)) : NB w b 0 (fun _ => false) := by
 obtain ⟨D, ⟨es, clock, hb, h1⟩, h2⟩ := NB.made w
 have hb2 : hat (w.alloc (.map #[] 0)) w.heap.size = some (.map #[] 0) := (hopN w _).1
 rw [show (w.alloc (.map #[] 0)).heap[w.heap.size]? = some (.map #[] 0) from hb2] at hb
 have hb3 := Option.some.inj hb
 injection hb3 with e1 e2
 subst e1; subst e2
 exact ⟨D, ⟨#[], 0, h, h1⟩, h2⟩
theorem NB.look {w : World} {b n : Nat} {s : ByteArray → Bool} (h : NB w b n s) {p : ByteArray} (hp : p.size ≤ 40) : (Instr.lookup 136 (.map (some b)) (.string p) false).run Tryz.prog w = .ok (.bool (s p)) w := by
 obtain ⟨D, h1, -, h3⟩ := h
 obtain ⟨v, ps, hr, hv⟩ := h1.lookup (Go.Maps.string_keyed Tryz.underlying9) Tryz.underlying136 (zeroBool w) (zd := .lit (.bool false)) (zp := []) (by simp [plainElem, Tryz.underlying4]) (keyStr hp)
 rw [h3 p hp] at hv
 rw [plainBool_inv hv] at hr
 exact hr
def addB (s : ByteArray → Bool) (p : ByteArray) : ByteArray → Bool := fun q => s q || decide (q = p)
theorem NB.put {w : World} {b n : Nat} {s : ByteArray → Bool} (h : NB w b n s) (hn : n < maxLen) {p : ByteArray} (hp : p.size ≤ 40) :
  ∃ w', (Instr.mapUpdate 136 (.map (some b)) (.string p) (.bool true)).run Tryz.prog w = .ok () w' ∧ NB w' b (n + 1) (addB s p) ∧ w.mapTurned w' b := by
 obtain ⟨D, h1, h0, h3⟩ := h
 obtain ⟨w', hr, ho, ht⟩ := h1.store (Go.Maps.string_keyed Tryz.underlying9) Tryz.underlying136 hn (keyStr hp) (d := .lit (.bool true)) (ps := []) (val := .bool true) (by simp [plainElem, Tryz.underlying4])
 refine ⟨w', hr, ⟨_, ho, h0.put _ _, fun q hq => ?_⟩, ht⟩
 unfold addB
 by_cases hqp : q = p
 ·subst hqp
  rw [Go.Maps.atKey_put_same h0 (keyStr_is hq)]; simp
 ·rw [Go.Maps.atKey_put_other (litStr_ne hqp), h3 q hq]; simp [hqp]
structure TI where
 raw : List Int
 en : Int
 bk : Int → Option Int
structure LZ where
 st : LS
 T : Nat → Option TI
 q : List Int
def updT (T : Nat → Option TI) (i : Nat) (t : TI) : Nat → Option TI := fun j => if j = i then some t else T j
noncomputable def takeZ (X Y : Int) (i : Nat) (raw : List Int) (n : Int) (z : LZ) : LZ :=
 { st := (takeX X Y raw z.st).2, T := updT z.T i ⟨(takeX X Y raw z.st).1, n, (takeX X Y raw z.st).2.bk⟩, q := if nth raw 0 = 2 then z.q ++ [(i : Int)] else z.q }
noncomputable def enterZ (X Y : Int) (IMG : Nat → List Int) (i : Nat) (z : LZ) : Option LZ :=
 match z.T i with
 | some t => if nth t.raw 0 = 2 ∨ t.en = 100 then none else some { z with T := updT z.T i { t with en := t.en + 1 } }
 | none => if soundR (IMG i) = true then some (takeZ X Y i (rdInoR (IMG i)).1 1 z) else none
def wipeZ (p : Nat) (z : LZ) : LZ := { z with st := { z.st with S := updS z.st.S p (zl 128) } }
noncomputable def enterR (X Y : Int) (IMG : Nat → List Int) (i : Nat) (nm : ByteArray) (zn : LZ × (ByteArray → Bool)) : Bool × LZ × (ByteArray → Bool) :=
 if zn.2 nm = true ∨ i = 1 then (false, zn) else
  match enterZ X Y IMG i zn.1 with
  | some z' => (true, z', addB zn.2 nm)
  | none => (false, zn)
noncomputable def slotZ (X Y : Int) (IMG : Nat → List Int) (p : Nat) (zn : LZ × (ByteArray → Bool)) : LZ × (ByteArray → Bool) :=
 if (rdSloR (zn.1.st.S p)).2.2 = 0 ∧ (rdSloR (zn.1.st.S p)).1 = 0 then zn
 else if (rdSloR (zn.1.st.S p)).2.2 = 0 ∧ (rdSloR (zn.1.st.S p)).1 ≤ Y ∧ (enterR X Y IMG (rdSloR (zn.1.st.S p)).1.toNat (rdSloR (zn.1.st.S p)).2.1 zn).1 = true then
  (enterR X Y IMG (rdSloR (zn.1.st.S p)).1.toNat (rdSloR (zn.1.st.S p)).2.1 zn).2
 else (wipeZ p zn.1, zn.2)
noncomputable def dirZ (X Y : Int) (IMG : Nat → List Int) (bk : Int → Option Int) : Nat → Nat → LZ × (ByteArray → Bool) → LZ × (ByteArray → Bool)
 | 0, _, zn => zn
 | m + 1, k, zn => dirZ X Y IMG bk m (k + 1) (match bk k with | none => zn | some p => slotZ X Y IMG p.toNat zn)
noncomputable def dirOf (X Y : Int) (IMG : Nat → List Int) (i : Nat) (z : LZ) : LZ :=
 match z.T i with
 | none => z
 | some t => (dirZ X Y IMG t.bk (cntX (nth t.raw 2)).toNat 0 (z, fun _ => false)).1
noncomputable def loopZ (X Y : Int) (IMG : Nat → List Int) : Nat → LZ → LZ
 | 0, z => z
 | f + 1, z => match z.q with
  | [] => z
  | i :: r => loopZ X Y IMG f (dirOf X Y IMG i.toNat { z with q := r })
noncomputable def startZ (X Y : Int) (IMG : Nat → List Int) : LZ := takeZ X Y 1 (rdInoR (IMG 1)).1 1 ⟨⟨IMG, fun _ => false, fun _ => false, fun _ => none⟩, fun _ => none, []⟩
noncomputable def lookZ (X Y : Int) (IMG : Nat → List Int) : LZ := loopZ X Y IMG 8192 (startZ X Y IMG)
def freeT (n : Nat) (T : Nat → Option TI) : Nat := ((List.range n).filter fun i => (T i).isNone).length
def freeZ (z : LZ) : Nat := freeT 4096 z.T
def potZ (z : LZ) : Nat := z.q.length + 2 * freeZ z
theorem freeT_take {T : Nat → Option TI} {n i : Nat} {t : TI} (hi : i < n) (h : T i = none) : freeT n (updT T i t) < freeT n T := by
 unfold freeT
 have e : (List.range n).filter (fun j => (updT T i t j).isNone) = ((List.range n).filter fun j => (T j).isNone).filter fun j => j != i := by
  rw [List.filter_filter]
  apply List.filter_congr
  intro j _
  unfold updT
  by_cases hj : j = i
  ·subst hj; simp
  ·simp [hj]
 rw [e]
 rw [List.length_filter_lt_length_iff_exists]
 exact ⟨i, List.mem_filter.2 ⟨List.mem_range.2 hi, by simp [h]⟩, by simp⟩
theorem freeT_same {T : Nat → Option TI} {n i : Nat} {t t' : TI} (h : T i = some t) : freeT n (updT T i t') = freeT n T := by
 unfold freeT
 congr 1
 apply List.filter_congr
 intro j _
 unfold updT
 by_cases hj : j = i
 ·subst hj; simp [h]
 ·simp [hj]
theorem free_take {z z' : LZ} {i : Nat} {t : TI} (hi : i < 4096) (h : z.T i = none) (hz : z'.T = updT z.T i t) : freeZ z' < freeZ z := by
 unfold freeZ
 rw [hz]; exact freeT_take hi h
theorem free_same {z z' : LZ} {i : Nat} {t t' : TI} (h : z.T i = some t) (hz : z'.T = updT z.T i t') : freeZ z' = freeZ z := by
 unfold freeZ
 rw [hz]; exact freeT_same h
theorem pot_take (X Y : Int) {i : Nat} (raw : List Int) (n : Int) {z : LZ} (hi : i < 4096) (h : z.T i = none) : potZ (takeZ X Y i raw n z) < potZ z := by
 have := free_take (z' := takeZ X Y i raw n z) hi h rfl
 have h2 : (takeZ X Y i raw n z).q.length ≤ z.q.length + 1 := by
  unfold takeZ
  show (if nth raw 0 = 2 then z.q ++ [(i : Int)] else z.q).length ≤ _
  split <;> simp
 unfold potZ
 omega
theorem pot_enter {X Y : Int} {IMG : Nat → List Int} {i : Nat} {z z' : LZ} (hi : i < 4096) (h : enterZ X Y IMG i z = some z') : potZ z' ≤ potZ z := by
 unfold enterZ at h
 split at h
 ·rename_i t ht
  split at h
  ·cases h
  ·cases h
   unfold potZ
   rw [free_same (z' := { z with T := updT z.T i { t with en := t.en + 1 } }) ht rfl]
   exact Nat.le_refl _
 ·rename_i ht
  split at h
  ·cases h
   exact Nat.le_of_lt (pot_take X Y _ _ hi ht)
  ·cases h
theorem pot_enterR {X Y : Int} {IMG : Nat → List Int} {i : Nat} (nm : ByteArray) (zn : LZ × (ByteArray → Bool)) (hi : i < 4096) : potZ (enterR X Y IMG i nm zn).2.1 ≤ potZ zn.1 := by
 unfold enterR
 split
 ·exact Nat.le_refl _
 ·split
  ·rename_i h; exact pot_enter hi h
  ·exact Nat.le_refl _
def Keeps (z z' : LZ) : Prop := ∀ i t, z.T i = some t → ∃ t', z'.T i = some t' ∧ t'.bk = t.bk
theorem Keeps.refl (z : LZ) : Keeps z z := fun i t h => ⟨t, h, rfl⟩
theorem Keeps.trans {a b c : LZ} (h : Keeps a b) (h2 : Keeps b c) : Keeps a c := fun i t ht => by
 obtain ⟨t', ht', e⟩ := h i t ht
 obtain ⟨t2, ht2, e2⟩ := h2 i t' ht'
 exact ⟨t2, ht2, e2.trans e⟩
theorem keeps_enter {X Y : Int} {IMG : Nat → List Int} {i : Nat} {z z' : LZ} (h : enterZ X Y IMG i z = some z') : Keeps z z' := by
 unfold enterZ at h
 split at h
 ·rename_i t ht
  split at h
  ·cases h
  ·cases h
   intro j u hu
   by_cases hj : j = i
   ·subst hj
    rw [ht] at hu; cases hu
    exact ⟨{ t with en := t.en + 1 }, by show updT z.T j _ j = _; unfold updT; rw [if_pos rfl], rfl⟩
   ·exact ⟨u, by show updT z.T i _ j = _; unfold updT; rw [if_neg hj]; exact hu, rfl⟩
 ·rename_i ht
  split at h
  ·cases h
   intro j u hu
   exact ⟨u, by show updT z.T i _ j = _; unfold updT; rw [if_neg (fun e => by subst e; rw [ht] at hu; cases hu)]; exact hu, rfl⟩
  ·cases h
theorem keeps_enterR (X Y : Int) (IMG : Nat → List Int) (i : Nat) (nm : ByteArray) (zn : LZ × (ByteArray → Bool)) : Keeps zn.1 (enterR X Y IMG i nm zn).2.1 := by
 unfold enterR
 split
 ·exact Keeps.refl _
 ·split
  ·rename_i h; exact keeps_enter h
  ·exact Keeps.refl _
structure ZI (X Y : Int) (z : LZ) : Prop where
 t : ∀ i t, z.T i = some t → 1 ≤ i ∧ (i : Int) ≤ Y ∧ t.raw.length = 18 ∧ 0 ≤ nth t.raw 2 ∧ nth t.raw 2 ≤ 136704 ∧ 0 ≤ t.en ∧ t.en ≤ 100 ∧ ∀ k p, t.bk k = some p → isD X Y p = true
 q : ∀ i ∈ z.q, 0 ≤ i ∧ ∃ t, z.T i.toNat = some t
 pot : potZ z ≤ 8192
theorem ptrsX_raw (X Y n : Int) (raw : List Int) (st : LS) (h : raw.length = 18) : (ptrsX X Y n raw st).1.length = 18 ∧ ∀ j, j < 4 → nth (ptrsX X Y n raw st).1 j = nth raw j := by
 unfold ptrsX
 refine ⟨?_, fun j hj => ?_⟩
 ·simp only [List.length_append, siftP_len, rowX]
  simp [h]
 ·show nth (raw.take 4 ++ _) j = _
  rw [nth_append_left (by simp [h]; omega)]
  unfold nth
  rw [List.getElem?_take, if_pos hj]
theorem takeX_fst (X Y : Int) (raw : List Int) (st : LS) : (takeX X Y raw st).1 = (ptrsX X Y (cntX (nth raw 2)) raw { st with bk := fun _ => none }).1 := by
 unfold takeX
 simp only
 split <;> rfl
theorem tailX_bk (n z : Int) (st : LS) : (tailX n z st).bk = st.bk := by
 unfold tailX
 split
 ·rfl
 ·split <;> rfl
theorem takeX_bk (X Y : Int) (raw : List Int) (st : LS) : (takeX X Y raw st).2.bk = (ptrsX X Y (cntX (nth raw 2)) raw { st with bk := fun _ => none }).2.bk := by
 unfold takeX
 simp only
 split
 ·rfl
 ·exact tailX_bk _ _ _
theorem takeX_vals (X Y : Int) (raw : List Int) (st : LS) (k p : Int) (h : (takeX X Y raw st).2.bk k = some p) : isD X Y p = true := by
 rw [takeX_bk] at h
 exact ptrsX_vals X Y _ raw _ (fun k p hk => by cases hk) k p h
theorem ZI.take {X Y : Int} {z : LZ} (h : ZI X Y z) {i : Nat} {raw : List Int} {n : Int} (h1 : 1 ≤ i) (hY : (i : Int) ≤ Y) (hi : i < 4096) (hr : raw.length = 18) (hz0 : 0 ≤ nth raw 2) (hz1 : nth raw 2 ≤ 136704) (hn0 : 0 ≤ n) (hn1 : n ≤ 100) (hT : z.T i = none) : ZI X Y (takeZ X Y i raw n z) := by
 obtain ⟨hl, hs⟩ := ptrsX_raw X Y (cntX (nth raw 2)) raw { z.st with bk := fun _ => none } hr
 refine ⟨fun j t ht => ?_, fun j hj => ?_, Nat.le_trans (Nat.le_of_lt (pot_take X Y raw n hi hT)) h.pot⟩
 ·have ht2 : updT z.T i ⟨(takeX X Y raw z.st).1, n, (takeX X Y raw z.st).2.bk⟩ j = some t := ht
  unfold updT at ht2
  split at ht2
  ·rename_i e
   subst e
   cases ht2
   refine ⟨h1, hY, ?_, ?_, ?_, hn0, hn1, fun k p hk => takeX_vals X Y raw z.st k p hk⟩
   ·show (takeX X Y raw z.st).1.length = 18
    rw [takeX_fst]; exact hl
   ·show 0 ≤ nth (takeX X Y raw z.st).1 2
    rw [takeX_fst, hs 2 (by omega)]; exact hz0
   ·show nth (takeX X Y raw z.st).1 2 ≤ _
    rw [takeX_fst, hs 2 (by omega)]; exact hz1
  ·exact h.t j t ht2
 ·have hj2 : j ∈ (if nth raw 0 = 2 then z.q ++ [(i : Int)] else z.q) := hj
  have hold : j ∈ z.q → 0 ≤ j ∧ ∃ t, (takeZ X Y i raw n z).T j.toNat = some t := fun hm => by
   obtain ⟨h0, t, ht⟩ := h.q j hm
   refine ⟨h0, t, ?_⟩
   show updT z.T i _ j.toNat = _
   unfold updT
   rw [if_neg (fun e => by rw [e, hT] at ht; cases ht)]
   exact ht
  split at hj2
  ·rw [List.mem_append] at hj2
   rcases hj2 with hm | hm
   ·exact hold hm
   ·rw [List.mem_singleton] at hm
    subst hm
    refine ⟨Int.natCast_nonneg _, ⟨(takeX X Y raw z.st).1, n, (takeX X Y raw z.st).2.bk⟩, ?_⟩
    show updT z.T i _ i = _
    unfold updT
    rw [if_pos rfl]
  ·exact hold hj2
theorem ZI.en {X Y : Int} {z : LZ} (h : ZI X Y z) {i : Nat} {t : TI} (ht : z.T i = some t) {n : Int} (h0 : 0 ≤ n) (h1 : n ≤ 100) : ZI X Y { z with T := updT z.T i { t with en := n } } := by
 refine ⟨fun j t' ht' => ?_, fun j hj => ?_, ?_⟩
 ·have ht2 : updT z.T i { t with en := n } j = some t' := ht'
  unfold updT at ht2
  split at ht2
  ·rename_i e
   subst e
   cases ht2
   obtain ⟨a1, a2, a3, a4, a5, a6, a7, a8⟩ := h.t j t ht
   exact ⟨a1, a2, a3, a4, a5, h0, h1, a8⟩
  ·exact h.t j t' ht2
 ·obtain ⟨h0, t', ht'⟩ := h.q j hj
  refine ⟨h0, ?_⟩
  show ∃ t'', updT z.T i _ j.toNat = some t''
  unfold updT
  split
  ·exact ⟨_, rfl⟩
  ·exact ⟨t', ht'⟩
 ·have := free_same (z' := { z with T := updT z.T i { t with en := n } }) ht rfl
  have hp := h.pot
  unfold potZ at *
  rw [this]
  exact hp
theorem ZI.wipe {X Y : Int} {z : LZ} (h : ZI X Y z) (p : Nat) : ZI X Y (wipeZ p z) := ⟨h.t, h.q, h.pot⟩
end Go.Proofs.YtmnecpnkkapflaaGreat
