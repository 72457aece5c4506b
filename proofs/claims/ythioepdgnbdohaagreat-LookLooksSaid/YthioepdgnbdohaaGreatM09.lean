import Derived.Test.YthioepdgnbdohaaGreatM05
import Derived.Test.YthioepdgnbdohaaGreatM07
import Derived.Test.YthioepdgnbdohaaGreatM08
namespace Go.Proofs.YthioepdgnbdohaaGreat
set_option maxHeartbeats 16000000
set_option maxRecDepth 1000000
set_option linter.unusedSimpArgs false
set_option linter.unusedVariables false
open Go.RowKit
theorem slo_ok {s : List Int} (h : (rdSloR s).2.2 = 0) (h0 : (rdSloR s).1 ≠ 0) : 1 ≤ (rdSloR s).1 ∧ (rdSloR s).1 ≤ 512 ∧ (rdSloR s).2.1.size ≤ 40 := by
 unfold rdSloR at *
 split at h
 ·rename_i h1
  rw [if_pos h1] at h0 ⊢
  have h2 : (slotR (getB s 0 4) (rdNm s)).2 = 0 := by rw [h1]
  rcases slot_yes h2 with h3 | h3
  ·exact absurd h3.1 h0
  ·exact ⟨h3.1.1, h3.1.2, h3.size.2⟩
 ·cases h
theorem enterR_false {X Y : Int} {IMG : Nat → List Int} {i : Nat} {nm : ByteArray} {zn : LZ × (ByteArray → Bool)} (h : (enterR X Y IMG i nm zn).1 = false) : (enterR X Y IMG i nm zn).2 = zn := by
 unfold enterR at *
 split
 ·rfl
 ·rename_i h1
  rw [if_neg h1] at h
  split
  ·rename_i h2
   rw [h2] at h
   cases h
  ·rfl
theorem LW.st {V : WE} {ob : Option Nat} {B : Nat → Option (Nat × Nat)} {z : LZ} {w w' : World} {st : LS} (h : LW V ob B z w) (hf : Fr [V.E.gw] w w') (hk : LK0 V.E w' st) : LW V ob B { z with st := st } w' := by
 have hm : V.E.gw ∈ mineW V ob := by simp [mineW]
 have hg := h.lo _ hm
 have hgi : V.gi ∉ [V.E.gw] := fun hx => by
  rw [List.mem_singleton] at hx
  have := h.gi0; omega
 obtain ⟨tk, hpb, htk⟩ := h.pb
 have hv := h.qo.v
 refine ⟨h.e0, h.qo, h.img, h.secs.same (hf.block _ h.secs.lt hgi), h.gi0, h.lo, Nat.le_trans h.sz hf.size, h.small, hk,
  ⟨tk, hpb.same (hf.block _ hpb.lt (by have := h.e0.m2; simp; omega)), htk⟩, h.no, fun i v hv => ?_, h.inj, h.q.fr hf (by simp at hv ⊢; omega) (fun g hg => by have := h.qo.b g hg; simp at this ⊢; omega), ⟨h.zi.t, h.zi.q, h.zi.pot⟩⟩
 obtain ⟨t, h1, h2, h3, h4, h5, h6, h7⟩ := h.yes i v hv
 exact ⟨t, h1, (hf.block _ (hat_lt h2) (fun hx => by rw [List.mem_singleton] at hx; exact h6 (by rw [hx]; exact hm))).trans h2, h3.same (hf.block _ h3.lt (fun hx => by rw [List.mem_singleton] at hx; exact h7 (by rw [hx]; exact hm))), h4, h5, h6, h7⟩
theorem LW.wipe {V : WE} {ob : Option Nat} {B : Nat → Option (Nat × Nat)} {z : LZ} {w : World} (h : LW V ob B z w) {p : Nat} (hp : p < V.E.N) {cs : Array Value} (hcs : hat w V.E.gw = some (.cells cs 33)) :
  LW V ob B (wipeZ p z) (w.setRow V.E.gw (splice cs (p * 128) (IV .u8 (zl 128)))) :=
 h.st (fr_setRow _ _ _) ⟨(hat_setRow _ _ _ _ h.e0.n1).trans h.k.look, h.k.want.store hcs hp (zl_length 128) (bytes_zl 128), h.k.claim.same (hat_setRow _ _ _ _ h.e0.n4.symm), h.k.firm.same (hat_setRow _ _ _ _ h.e0.n5.symm)⟩
theorem Moved.gw {V : WE} {but : List Nat} {ob : Option Nat} {B : Nat → Option (Nat × Nat)} (w : World) (cs : Array Value) : Moved V but ob B w ob B (w.setRow V.E.gw cs) :=
 Moved.of (fr_setRow _ _ _) (fun k hk => .inr fun ha => ha.1 (by rw [List.mem_singleton] at hk; subst hk; simp [mineW]))
theorem dir_any {V : WE} {ob : Option Nat} {B : Nat → Option (Nat × Nat)} {z : LZ} {w : World} (h : LW V ob B z w) (i : Nat) (hi : i < 4096) (v : Nat × Nat) (hB : B i = some v) :
  Calls Tryz.prog 29 #[.pointer (some ⟨V.E.gl, 0, none⟩), .int .i64 i] w fun e w' => e = .returned (.tuple #[]) ∧ ∃ ob' B', LW V ob' B' (dirOf V.E.X V.E.Y V.IMG i z) w' ∧ Moved V [] ob B w ob' B' w' := by
 obtain ⟨hN4, hNX⟩ := h.img4096
 have hsm := h.small
 have hY0 := h.e0.pos
 obtain ⟨gx, bx⟩ := v
 obtain ⟨t, hT, hgx, -⟩ := h.yes i _ hB
 simp only at hgx
 obtain ⟨-, -, hrl, hz0, hz1, -⟩ := h.zi.t i t hT
 have hp := h.ptr i (by omega)
 rw [hB] at hp
 simp only [Option.map_some, ptrOf] at hp
 have hl := h.k.look
 unfold lkCells at hl
 have hDO : dirOf V.E.X V.E.Y V.IMG i z = (dirZ V.E.X V.E.Y V.IMG t.bk (cntX (nth t.raw 2)).toNat 0 (z, fun _ => false)).1 := by unfold dirOf; rw [hT]
 rw [hDO]
 have hgxl := hat_lt hgx
 have hgxa := (hopA w (.map #[] 0) hgx).1
 have hk2 := inC_get hrl t.en bx (show 2 < 18 by omega)
 have hc0 : 0 ≤ cntX (nth t.raw 2) := by unfold cntX; omega
 have hc1 : cntX (nth t.raw 2) ≤ 1068 := by unfold cntX; omega
 have hcnt := fun W hW => count_any gx (inC t.raw t.en bx) (nth t.raw 2) W hW hk2 hz0 hz1
 rw [show (nth t.raw 2 + 127) / 128 = cntX (nth t.raw 2) from rfl] at hcnt
 obtain ⟨M, hM⟩ := Int.eq_ofNat_of_zero_le hc0
 rw [hM] at hcnt ⊢
 rw [Int.toNat_natCast]
 have hM1 : M ≤ 1068 := by omega
 have HCNT := Lib.hid hcnt
 have H := Lib.hid h
 have HT := Lib.hid hT
 have HF1 := Lib.hid (fr_alloc w (.map #[] 0) [])
 have HNB := Lib.hid (NB.of (hopN w (.map #[] 0)).1)
 have hnbl := (hopN w (.map #[] 0)).2
 have HNA := Lib.hid (Apart.new h (Nat.le_refl w.heap.size))
 have hnb0 := h.sz
 clear hcnt h hT hDO hc0 hc1 hM
 go_enter Tryz.func29, Tryz.ntmps29
 go_wp2_with fail
 generalize hW1 : w.alloc (.map #[] 0) = w1 at *
 refine (HCNT.out w1 hgxa).mono ?_; rintro e w2 ⟨rfl, hb2⟩
 have hf2 : Fr [] w1 w2 := fr_below hb2 []
 have HMV2 := Lib.hid ((Moved.of (V := V) (but := []) (ob := ob) (B := B) HF1.out (by simp)).trans (Moved.of hf2 (by simp)))
 have HF2 := Lib.hid (HF1.out.trans hf2)
 have HLW2 := Lib.hid ((H.out.fr HF1.out (by simp)).fr hf2 (by simp))
 have HNB2 := Lib.hid (HNB.out.same (hf2.block _ hnbl (by simp)))
 have hnbl2 := HNB2.out.lt
 clear hb2 hf2 hp hl hgx hgxl hgxa
 generalize hnb : w.heap.size = nb at *
 go_wp2_with fail
 go_loopw [20] (fun v wr => ∃ (k : Nat) (zn : LZ × (ByteArray → Bool)) (n' : Nat) (ob' : Option Nat) (B' : Nat → Option (Nat × Nat)), v = .int .i64 k ∧ k ≤ M ∧ n' ≤ k ∧ Hid (LW V ob' B' zn.1 wr) ∧ Hid (NB wr nb n' zn.2) ∧ Hid (Moved V [nb] ob B w2 ob' B' wr)
   ∧ Hid (dirZ V.E.X V.E.Y V.IMG t.bk M 0 (z, fun _ => false) = dirZ V.E.X V.E.Y V.IMG t.bk (M - k) k zn) ∧ Hid (Keeps z zn.1)) (fun v wr => M - (intOf v).toNat)
 case atStart => exact ⟨0, (z, fun _ => false), 0, ob, B, rfl, Nat.zero_le _, Nat.le_refl _, HLW2, HNB2, Lib.hid (Moved.refl _ _ _ _ _), Lib.hid rfl, Lib.hid (Keeps.refl _)⟩
 case round =>
  obtain ⟨k, zn, n', ob', B', rfl, hk, hn', HLW, HNBR, HMV, HE, HK⟩ := hrel
  have hlw := HLW.out
  obtain ⟨t', hT', hbk⟩ := HK.out i t HT.out
  have hB' := HMV.out.ext i _ hB
  obtain ⟨t'', hT'', hgx, hib, -⟩ := hlw.yes i _ hB'
  rw [hT'] at hT''
  obtain rfl : t' = t'' := by injection hT''
  simp only at hgx hib
  obtain ⟨-, -, hrl', -, -, -, -, hvals⟩ := hlw.zi.t i t' hT'
  have k19 := inC_19 hrl' t'.en bx
  have hz8 := inC_size hrl' t'.en bx
  have hl := hlw.k.look
  unfold lkCells at hl
  rw [hbk] at hib hvals
  generalize hc8 : inC t'.raw t'.en bx = c8 at hgx k19 hz8
  have j19 : ∀ h : 19 < c8.size, c8[19]'h = Value.map (some bx) := fun h => by
   rw [Array.getElem?_eq_getElem h] at k19
   exact Option.some.inj k19
  have z19 : 19 < c8.size := by omega
  have hlkp := hib.1.look (p := (k : Int)) ⟨by omega, by omega⟩
  clear hlw k19 hc8 hT'' hib
  by_cases hkM : k < M
  ·have hkM' : (k : Int) < (M : Int) := by omega
   have hstep : dirZ V.E.X V.E.Y V.IMG t.bk (M - k) k zn = dirZ V.E.X V.E.Y V.IMG t.bk (M - (k + 1)) (k + 1) (match t.bk k with | none => zn | some p => slotZ V.E.X V.E.Y V.IMG p.toNat zn) := by
    rw [show M - k = (M - (k + 1)) + 1 by omega]; rfl
   have HE2 := Lib.hid (HE.out.trans hstep)
   clear hstep
   cases hbkk : t.bk k with
   | none =>
    have hE := HE2.out
    rw [hbkk] at hE hlkp
    have HE3 := Lib.hid hE
    clear hE
    go_wp2_with fail
    go_roundw
    case rel => exact ⟨k + 1, zn, n', ob', B', by go_num, by omega, by omega, HLW, HNBR, HMV, HE3, HK⟩
    case measure => (show M - (k + 1) < M - k); omega
   | some p =>
    have hpd := hvals _ _ hbkk
    have hE := HE2.out
    rw [hbkk] at hE hlkp
    have HE3 := Lib.hid hE
    unfold isD at hpd
    have hpd2 := of_decide_eq_true hpd
    obtain ⟨at', rfl⟩ := Int.eq_ofNat_of_zero_le (show 0 ≤ p by omega)
    have hatN : at' < V.E.N := by omega
    have hat0 : (0 : Int) ≤ (at' : Int) := Int.natCast_nonneg _
    have hat1 : (at' : Int) < (V.E.N : Int) := by omega
    obtain ⟨csw, hcsw, hldw, hlenw, hbyw⟩ := HLW.out.k.want.load hatN
    obtain ⟨ino, nm, er, hR⟩ : ∃ ino nm er, rdSloR (zn.1.st.S at') = (ino, nm, er) := ⟨_, _, _, rfl⟩
    have HRS : Hid (∀ W, Calls Tryz.prog 59 #[.agg (IV .u8 (zn.1.st.S at'))] W fun e w' => e = .returned (.tuple #[.agg #[.int .i64 ino, .string nm], .int .i64 er]) ∧ Below W.heap.size W w') := Lib.hid (fun W => by
     have h := lrdSlo_any (zn.1.st.S at') hlenw hbyw W
     rw [hR] at h
     exact h)
    have HOKS : Hid (er = 0 → ino ≠ 0 → 1 ≤ ino ∧ ino ≤ 512 ∧ nm.size ≤ 40) := Lib.hid (by
     have h := slo_ok (s := zn.1.st.S at')
     rw [hR] at h
     exact h)
    have HSZ : Hid (slotZ V.E.X V.E.Y V.IMG at' zn = if er = 0 ∧ ino = 0 then zn else if er = 0 ∧ ino ≤ V.E.Y ∧ (enterR V.E.X V.E.Y V.IMG ino.toNat nm zn).1 = true then (enterR V.E.X V.E.Y V.IMG ino.toNat nm zn).2 else (wipeZ at' zn.1, zn.2)) := Lib.hid (by
     unfold slotZ
     rw [hR])
    have HE3 : Hid (dirZ V.E.X V.E.Y V.IMG t.bk M 0 (z, fun _ => false) = dirZ V.E.X V.E.Y V.IMG t.bk (M - (k + 1)) (k + 1) (slotZ V.E.X V.E.Y V.IMG at' zn)) := Lib.hid (by
     have h := HE2.out
     rw [hbkk] at h
     exact h)
    have hcw0 := HLW.out.k.want
    obtain ⟨csw', hcsw', hsw, -⟩ := hcw0
    rw [hcsw] at hcsw'
    obtain rfl : csw = csw' := by (have h1 := Option.some.inj hcsw'; injection h1)
    have hst : ∀ raw' w', stRow raw' 128 (at' * 128) V.E.gw (IV .u8 (zl 128)) w' (some (.cells csw 33 (0, 0))) = .ok () (w'.setRow V.E.gw (splice csw (at' * 128) (IV .u8 (zl 128)))) := fun raw' w' =>
     stRow_part (by omega) (by simp) (by simp)
    clear hE HE2 hR hlenw hbyw hcsw' hpd hvals
    go_wp2_with fail
    refine (HRS.out wr).mono ?_; rintro e w3 ⟨rfl, hb3⟩
    have hf4 : Fr [] wr (w3.alloc (.cells #[.int .i64 ino, .string nm] 93)) := (fr_below hb3 []).trans (fr_alloc _ _ _)
    have HLW4 := Lib.hid (HLW.out.fr hf4 (by simp))
    have HNB4 := Lib.hid (HNBR.out.same (hf4.block _ HNBR.out.lt (by simp)))
    have HMV4 := Lib.hid (HMV.out.trans (Moved.of hf4 (by simp)))
    have hl4 := (hf4.block _ (hat_lt hl) (by simp)).trans hl
    have hcsw4 := (hf4.block _ (hat_lt hcsw) (by simp)).trans hcsw
    have hsl4 := (hopN w3 (.cells #[.int .i64 ino, .string nm] 93)).1
    have hz4 := (hopN w3 (.cells #[.int .i64 ino, .string nm] 93)).2
    have hl4l := hat_lt hl4
    have HSA := Lib.hid (Apart.new HLW.out (show wr.heap.size ≤ w3.heap.size from hb3.size))
    have hnbr := HNBR.out.lt
    have hwr3 := hb3.size
    have hw4l := hat_lt hcsw4
    clear hf4 hb3 hl hcsw hgx HLW HNBR HMV hlkp
    cases hed : (er == 0) with
    | false =>
     have hen : ¬ er = 0 := by simpa using hed
     have hedn : (er != 0) = true := by simpa using hen
     go_wp2_with fail
     generalize w3.alloc (.cells #[.int .i64 ino, .string nm] 93) = w4 at *
     generalize w3.heap.size = sb at *
     refine wp_region_noPanic ?_
     refine wp_region_held_drew (S := (fun w' => hat w' V.E.gl = some (.cells #[.int .i64 V.E.X, .int .i64 V.E.Y, V.E.img, .slice (some ⟨V.E.gw, 0, none⟩) V.E.N V.E.cw, .map (some V.E.bc), .map (some V.E.bt), .map (some V.E.bf), V.E.qf] 62) ∧ hat w' sb = some (.cells #[.int .i64 ino, .string nm] 93))) (by kernel_rfl) ⟨hl4, hsl4⟩ (fun hHeld => ?_)
     refine wpAnyH_take (i := 0) (oi := { dst := some 52, op := Op.move (Operand.tmp 10), type := 27, pos := "look.go:154", after := #[], guard := none }) (v := ?va0) rfl (by kernel_rfl) (by kernel_rfl) (by kernel_rfl) (fun _ _ _ h => h) (Or.inl ⟨by rfl, ?hya0⟩) (by assumption) ?resta0
     case hya0 => (intro w' hSw; (try dsimp only at hSw); go_simp; (try with_reducible rfl))
     try simp only [Act.put, List.setIfInBounds_toArray, List.set_cons_zero, List.set_cons_succ]
     refine wpAnyH_take (i := 1) (oi := { dst := some 53, op := Op.binOp BinOp.neq 27 (Operand.tmp 52) (Operand.const (Value.int IntKind.i64 0)) 27, type := 4, pos := "look.go:154", after := #[{ on := 0, ground := Ground.data }], guard := none }) (v := ?va1) rfl (by kernel_rfl) (by kernel_rfl) (by kernel_rfl) (fun _ _ _ h => h) (Or.inl ⟨by rfl, ?hya1⟩) (by assumption) ?resta1
     case hya1 => (intro w' hSw; (try dsimp only at hSw); go_simp; (try with_reducible rfl))
     try simp only [Act.put, List.setIfInBounds_toArray, List.set_cons_zero, List.set_cons_succ]
     refine wpAnyH_take (i := 2) (oi := { dst := some 54, op := Op.move (Operand.tmp 53), type := 4, pos := "look.go:154", after := #[{ on := 1, ground := Ground.data }], guard := none }) (v := ?va2) rfl (by kernel_rfl) (by kernel_rfl) (by kernel_rfl) (fun _ _ _ h => h) (Or.inl ⟨by rfl, ?hya2⟩) (by assumption) ?resta2
     case hya2 => (intro w' hSw; (try dsimp only at hSw); go_simp; (try with_reducible rfl))
     try simp only [Act.put, List.setIfInBounds_toArray, List.set_cons_zero, List.set_cons_succ]
     refine wpAnyH_take (i := 3) (oi := { dst := some 55, op := Op.fieldAddr 93 (Operand.tmp 9) 0, type := 0, pos := "look.go:154", after := #[{ on := 2, ground := Ground.guard }], guard := some (2, false) }) (v := undef) rfl (by kernel_rfl) (by kernel_rfl) (by kernel_rfl) (fun _ _ _ h => h) (Or.inr ⟨by rfl, rfl⟩) (by assumption) ?_
     try simp only [Act.put, List.setIfInBounds_toArray, List.set_cons_zero, List.set_cons_succ]
     refine wpAnyH_take (i := 4) (oi := { dst := some 56, op := Op.load 3 (Operand.tmp 55), type := 3, pos := "look.go:154", after := #[{ on := 3, ground := Ground.data }, { on := 2, ground := Ground.guard }], guard := some (2, false) }) (v := undef) rfl (by kernel_rfl) (by kernel_rfl) (by kernel_rfl) (fun _ _ _ h => h) (Or.inr ⟨by rfl, rfl⟩) (by assumption) ?_
     try simp only [Act.put, List.setIfInBounds_toArray, List.set_cons_zero, List.set_cons_succ]
     refine wpAnyH_take (i := 5) (oi := { dst := some 57, op := Op.move (Operand.tmp 0), type := 56, pos := "look.go:154", after := #[{ on := 2, ground := Ground.guard }], guard := some (2, false) }) (v := undef) rfl (by kernel_rfl) (by kernel_rfl) (by kernel_rfl) (fun _ _ _ h => h) (Or.inr ⟨by rfl, rfl⟩) (by assumption) ?_
     try simp only [Act.put, List.setIfInBounds_toArray, List.set_cons_zero, List.set_cons_succ]
     refine wpAnyH_take (i := 6) (oi := { dst := some 58, op := Op.nilCheck (Operand.tmp 57), type := 0, pos := "look.go:154", after := #[{ on := 5, ground := Ground.data }, { on := 2, ground := Ground.guard }], guard := some (2, false) }) (v := undef) rfl (by kernel_rfl) (by kernel_rfl) (by kernel_rfl) (fun _ _ _ h => h) (Or.inr ⟨by rfl, rfl⟩) (by assumption) ?_
     try simp only [Act.put, List.setIfInBounds_toArray, List.set_cons_zero, List.set_cons_succ]
     refine wpAnyH_take (i := 7) (oi := { dst := some 59, op := Op.fieldAddr 62 (Operand.tmp 58) 0, type := 0, pos := "look.go:154", after := #[{ on := 6, ground := Ground.data }, { on := 2, ground := Ground.guard }], guard := some (2, false) }) (v := undef) rfl (by kernel_rfl) (by kernel_rfl) (by kernel_rfl) (fun _ _ _ h => h) (Or.inr ⟨by rfl, rfl⟩) (by assumption) ?_
     try simp only [Act.put, List.setIfInBounds_toArray, List.set_cons_zero, List.set_cons_succ]
     refine wpAnyH_take (i := 8) (oi := { dst := some 60, op := Op.fieldAddr 40 (Operand.tmp 59) 1, type := 0, pos := "look.go:154", after := #[{ on := 7, ground := Ground.data }, { on := 2, ground := Ground.guard }], guard := some (2, false) }) (v := undef) rfl (by kernel_rfl) (by kernel_rfl) (by kernel_rfl) (fun _ _ _ h => h) (Or.inr ⟨by rfl, rfl⟩) (by assumption) ?_
     try simp only [Act.put, List.setIfInBounds_toArray, List.set_cons_zero, List.set_cons_succ]
     refine wpAnyH_take (i := 9) (oi := { dst := some 61, op := Op.load 3 (Operand.tmp 60), type := 3, pos := "look.go:154", after := #[{ on := 8, ground := Ground.data }, { on := 2, ground := Ground.guard }], guard := some (2, false) }) (v := undef) rfl (by kernel_rfl) (by kernel_rfl) (by kernel_rfl) (fun _ _ _ h => h) (Or.inr ⟨by rfl, rfl⟩) (by assumption) ?_
     try simp only [Act.put, List.setIfInBounds_toArray, List.set_cons_zero, List.set_cons_succ]
     refine wpAnyH_take (i := 10) (oi := { dst := some 62, op := Op.binOp BinOp.gtr 3 (Operand.tmp 56) (Operand.tmp 61) 3, type := 4, pos := "look.go:154", after := #[{ on := 4, ground := Ground.data }, { on := 9, ground := Ground.data }, { on := 2, ground := Ground.guard }], guard := some (2, false) }) (v := undef) rfl (by kernel_rfl) (by kernel_rfl) (by kernel_rfl) (fun _ _ _ h => h) (Or.inr ⟨by rfl, rfl⟩) (by assumption) ?_
     try simp only [Act.put, List.setIfInBounds_toArray, List.set_cons_zero, List.set_cons_succ]
     refine wpAnyH_take (i := 11) (oi := { dst := some 63, op := Op.pick (Operand.tmp 54) (Operand.const (Value.bool true)) (Operand.tmp 62), type := 4, pos := "look.go:154", after := #[{ on := 2, ground := Ground.data }, { on := 10, ground := Ground.data }], guard := none }) (v := ?va11) rfl (by kernel_rfl) (by kernel_rfl) (by kernel_rfl) (fun _ _ _ h => h) (Or.inl ⟨by rfl, ?hya11⟩) (by assumption) ?resta11
     case hya11 => (intro w' hSw; (try dsimp only at hSw); go_simp; (try with_reducible rfl))
     try simp only [Act.put, List.setIfInBounds_toArray, List.set_cons_zero, List.set_cons_succ]
     refine wpAnyH_take (i := 12) (oi := { dst := some 64, op := Op.move (Operand.tmp 63), type := 4, pos := "look.go:154", after := #[{ on := 11, ground := Ground.data }, { on := 2, ground := Ground.chain }], guard := none }) (v := ?va12) rfl (by kernel_rfl) (by kernel_rfl) (by kernel_rfl) (fun _ _ _ h => h) (Or.inl ⟨by rfl, ?hya12⟩) (by assumption) ?resta12
     case hya12 => (intro w' hSw; (try dsimp only at hSw); go_simp; (try with_reducible rfl))
     try simp only [Act.put, List.setIfInBounds_toArray, List.set_cons_zero, List.set_cons_succ]
     refine wpAnyH_take (i := 13) (oi := { dst := some 65, op := Op.move (Operand.tmp 0), type := 56, pos := "look.go:154", after := #[{ on := 12, ground := Ground.guard }], guard := some (12, false) }) (v := undef) rfl (by kernel_rfl) (by kernel_rfl) (by kernel_rfl) (fun _ _ _ h => h) (Or.inr ⟨by rfl, rfl⟩) (by assumption) ?_
     try simp only [Act.put, List.setIfInBounds_toArray, List.set_cons_zero, List.set_cons_succ]
     refine wpAnyH_take (i := 14) (oi := { dst := some 66, op := Op.load 93 (Operand.tmp 9), type := 93, pos := "look.go:154", after := #[{ on := 12, ground := Ground.guard }], guard := some (12, false) }) (v := undef) rfl (by kernel_rfl) (by kernel_rfl) (by kernel_rfl) (fun _ _ _ h => h) (Or.inr ⟨by rfl, rfl⟩) (by assumption) ?_
     try simp only [Act.put, List.setIfInBounds_toArray, List.set_cons_zero, List.set_cons_succ]
     refine wpAnyH_take (i := 15) (oi := { dst := some 67, op := Op.move (Operand.tmp 5), type := 101, pos := "look.go:154", after := #[{ on := 12, ground := Ground.guard }], guard := some (12, false) }) (v := undef) rfl (by kernel_rfl) (by kernel_rfl) (by kernel_rfl) (fun _ _ _ h => h) (Or.inr ⟨by rfl, rfl⟩) (by assumption) ?_
     try simp only [Act.put, List.setIfInBounds_toArray, List.set_cons_zero, List.set_cons_succ]
     refine wpAnyH_take (i := 16) (oi := { dst := some 68, op := Op.call { callee := Callee.value (Operand.func 60), args := #[Operand.tmp 65, Operand.tmp 66, Operand.tmp 67], argTypes := #[56, 93, 101] }, type := 4, pos := "look.go:154", after := #[{ on := 13, ground := Ground.data }, { on := 14, ground := Ground.data }, { on := 15, ground := Ground.data }, { on := 12, ground := Ground.chain }, { on := 12, ground := Ground.guard }], guard := some (12, false) }) (v := undef) rfl (by kernel_rfl) (by kernel_rfl) (by kernel_rfl) (fun _ _ _ h => h) (Or.inr ⟨by rfl, rfl⟩) (by assumption) ?_
     try simp only [Act.put, List.setIfInBounds_toArray, List.set_cons_zero, List.set_cons_succ]
     refine wpAnyH_take (i := 17) (oi := { dst := some 69, op := Op.unOp UnOp.not 4 (Operand.tmp 68), type := 4, pos := "look.go:154", after := #[{ on := 16, ground := Ground.data }, { on := 12, ground := Ground.guard }], guard := some (12, false) }) (v := undef) rfl (by kernel_rfl) (by kernel_rfl) (by kernel_rfl) (fun _ _ _ h => h) (Or.inr ⟨by rfl, rfl⟩) (by assumption) ?_
     try simp only [Act.put, List.setIfInBounds_toArray, List.set_cons_zero, List.set_cons_succ]
     refine wpAnyH_take (i := 18) (oi := { dst := some 70, op := Op.pick (Operand.tmp 64) (Operand.const (Value.bool true)) (Operand.tmp 69), type := 4, pos := "look.go:154", after := #[{ on := 12, ground := Ground.data }, { on := 17, ground := Ground.data }], guard := none }) (v := ?va18) rfl (by kernel_rfl) (by kernel_rfl) (by kernel_rfl) (fun _ _ _ h => h) (Or.inl ⟨by rfl, ?hya18⟩) (by assumption) ?resta18
     case hya18 => (intro w' hSw; (try dsimp only at hSw); go_simp; (try with_reducible rfl))
     try simp only [Act.put, List.setIfInBounds_toArray, List.set_cons_zero, List.set_cons_succ]
     refine wpAnyH_done (by kernel_rfl) (NoPanic.normal ?_) _
     clear hcsw4 hst
     obtain ⟨cswx, hcswx, hszx, -⟩ := HLW4.out.k.want
     have hstx : ∀ raw' w', stRow raw' 128 (at' * 128) V.E.gw (IV .u8 (zl 128)) w' (some (.cells cswx 33 (0, 0))) = .ok () (w'.setRow V.E.gw (splice cswx (at' * 128) (IV .u8 (zl 128)))) := fun raw' w' => stRow_part (by omega) (by simp) (by simp)
     have hcswl := hat_lt hcswx
     go_wp2_with fail
     go_roundw
     case rel =>
      have hax := HMV4.out.apart nb hnbl2 HNA.out
      have hnw : nb ≠ V.E.gw := fun e => hax.1 (by rw [e]; simp [mineW])
      refine ⟨k + 1, (wipeZ at' zn.1, zn.2), n', ob', B', by go_num, by omega, by omega, Lib.hid ((HLW4.out.fr (fr_drew (Fr.refl [] _)) (by simp)).wipe hatN hcswx), Lib.hid ((HNB4.out.same (hat_drew _ _)).same (hat_setRow _ _ _ _ hnw)), Lib.hid ((HMV4.out.trans (Moved.of (fr_drew (Fr.refl [] _)) (by simp))).trans (Moved.gw _ _)), Lib.hid ?_, Lib.hid ?_⟩
      ·rw [HE3.out, HSZ.out]
       rw [if_neg (fun h => hen h.1), if_neg (fun h => hen h.1)]
      ·exact HK.out
     case measure => (show M - (k + 1) < M - k); omega
    | true =>
     have hen : er = 0 := by simpa using hed
     have hedn : (er != 0) = false := by simpa using hen
     cases hid : (ino == 0) with
     | true =>
      have hin : ino = 0 := by simpa using hid
      have HIN := Lib.hid hin
      have HEN := Lib.hid hen
      clear hin hen
      go_wp2_with fail
      go_roundw
      case rel =>
       refine ⟨k + 1, zn, n', ob', B', by go_num, by omega, by omega, HLW4, HNB4, HMV4, Lib.hid ?_, HK⟩
       rw [HE3.out, HSZ.out, if_pos ⟨HEN.out, HIN.out⟩]
      case measure => (show M - (k + 1) < M - k); omega
     | false =>
      have hin : ¬ ino = 0 := by simpa using hid
      obtain ⟨hi0, hi1, hnm⟩ := HOKS.out hen hin
      have HEN := Lib.hid hen
      clear hen
      cases hyd : decide (V.E.Y < ino) with
      | true =>
       have hyn : V.E.Y < ino := of_decide_eq_true hyd
       go_wp2_with fail
       generalize w3.alloc (.cells #[.int .i64 ino, .string nm] 93) = w4 at *
       generalize w3.heap.size = sb at *
       refine wp_region_noPanic ?_
       refine wp_region_held_drew (S := (fun w' => hat w' V.E.gl = some (.cells #[.int .i64 V.E.X, .int .i64 V.E.Y, V.E.img, .slice (some ⟨V.E.gw, 0, none⟩) V.E.N V.E.cw, .map (some V.E.bc), .map (some V.E.bt), .map (some V.E.bf), V.E.qf] 62) ∧ hat w' sb = some (.cells #[.int .i64 ino, .string nm] 93))) (by kernel_rfl) ⟨hl4, hsl4⟩ (fun hHeld => ?_)
       refine wpAnyH_take (i := 0) (oi := { dst := some 52, op := Op.move (Operand.tmp 10), type := 27, pos := "look.go:154", after := #[], guard := none }) (v := ?vb0) rfl (by kernel_rfl) (by kernel_rfl) (by kernel_rfl) (fun _ _ _ h => h) (Or.inl ⟨by rfl, ?hyb0⟩) (by assumption) ?restb0
       case hyb0 => (intro w' hSw; (try dsimp only at hSw); go_simp; (try with_reducible rfl))
       try simp only [Act.put, List.setIfInBounds_toArray, List.set_cons_zero, List.set_cons_succ]
       refine wpAnyH_take (i := 1) (oi := { dst := some 53, op := Op.binOp BinOp.neq 27 (Operand.tmp 52) (Operand.const (Value.int IntKind.i64 0)) 27, type := 4, pos := "look.go:154", after := #[{ on := 0, ground := Ground.data }], guard := none }) (v := ?vb1) rfl (by kernel_rfl) (by kernel_rfl) (by kernel_rfl) (fun _ _ _ h => h) (Or.inl ⟨by rfl, ?hyb1⟩) (by assumption) ?restb1
       case hyb1 => (intro w' hSw; (try dsimp only at hSw); go_simp; (try with_reducible rfl))
       try simp only [Act.put, List.setIfInBounds_toArray, List.set_cons_zero, List.set_cons_succ]
       refine wpAnyH_take (i := 2) (oi := { dst := some 54, op := Op.move (Operand.tmp 53), type := 4, pos := "look.go:154", after := #[{ on := 1, ground := Ground.data }], guard := none }) (v := ?vb2) rfl (by kernel_rfl) (by kernel_rfl) (by kernel_rfl) (fun _ _ _ h => h) (Or.inl ⟨by rfl, ?hyb2⟩) (by assumption) ?restb2
       case hyb2 => (intro w' hSw; (try dsimp only at hSw); go_simp; (try with_reducible rfl))
       try simp only [Act.put, List.setIfInBounds_toArray, List.set_cons_zero, List.set_cons_succ]
       refine wpAnyH_take (i := 3) (oi := { dst := some 55, op := Op.fieldAddr 93 (Operand.tmp 9) 0, type := 0, pos := "look.go:154", after := #[{ on := 2, ground := Ground.guard }], guard := some (2, false) }) (v := ?vb3) rfl (by kernel_rfl) (by kernel_rfl) (by kernel_rfl) (fun _ _ _ h => h) (Or.inl ⟨by rfl, ?hyb3⟩) (by assumption) ?restb3
       case hyb3 => (intro w' hSw; (try dsimp only at hSw); go_simp; (try with_reducible rfl))
       try simp only [Act.put, List.setIfInBounds_toArray, List.set_cons_zero, List.set_cons_succ]
       refine wpAnyH_take (i := 4) (oi := { dst := some 56, op := Op.load 3 (Operand.tmp 55), type := 3, pos := "look.go:154", after := #[{ on := 3, ground := Ground.data }, { on := 2, ground := Ground.guard }], guard := some (2, false) }) (v := ?vb4) rfl (by kernel_rfl) (by kernel_rfl) (by kernel_rfl) (fun _ _ _ h => h) (Or.inl ⟨by rfl, ?hyb4⟩) (by assumption) ?restb4
       case hyb4 => (intro w' hSw; (try dsimp only at hSw); go_simp; (try with_reducible rfl))
       try simp only [Act.put, List.setIfInBounds_toArray, List.set_cons_zero, List.set_cons_succ]
       refine wpAnyH_take (i := 5) (oi := { dst := some 57, op := Op.move (Operand.tmp 0), type := 56, pos := "look.go:154", after := #[{ on := 2, ground := Ground.guard }], guard := some (2, false) }) (v := ?vb5) rfl (by kernel_rfl) (by kernel_rfl) (by kernel_rfl) (fun _ _ _ h => h) (Or.inl ⟨by rfl, ?hyb5⟩) (by assumption) ?restb5
       case hyb5 => (intro w' hSw; (try dsimp only at hSw); go_simp; (try with_reducible rfl))
       try simp only [Act.put, List.setIfInBounds_toArray, List.set_cons_zero, List.set_cons_succ]
       refine wpAnyH_take (i := 6) (oi := { dst := some 58, op := Op.nilCheck (Operand.tmp 57), type := 0, pos := "look.go:154", after := #[{ on := 5, ground := Ground.data }, { on := 2, ground := Ground.guard }], guard := some (2, false) }) (v := ?vb6) rfl (by kernel_rfl) (by kernel_rfl) (by kernel_rfl) (fun _ _ _ h => h) (Or.inl ⟨by rfl, ?hyb6⟩) (by assumption) ?restb6
       case hyb6 => (intro w' hSw; (try dsimp only at hSw); go_simp; (try with_reducible rfl))
       try simp only [Act.put, List.setIfInBounds_toArray, List.set_cons_zero, List.set_cons_succ]
       refine wpAnyH_take (i := 7) (oi := { dst := some 59, op := Op.fieldAddr 62 (Operand.tmp 58) 0, type := 0, pos := "look.go:154", after := #[{ on := 6, ground := Ground.data }, { on := 2, ground := Ground.guard }], guard := some (2, false) }) (v := ?vb7) rfl (by kernel_rfl) (by kernel_rfl) (by kernel_rfl) (fun _ _ _ h => h) (Or.inl ⟨by rfl, ?hyb7⟩) (by assumption) ?restb7
       case hyb7 => (intro w' hSw; (try dsimp only at hSw); go_simp; (try with_reducible rfl))
       try simp only [Act.put, List.setIfInBounds_toArray, List.set_cons_zero, List.set_cons_succ]
       refine wpAnyH_take (i := 8) (oi := { dst := some 60, op := Op.fieldAddr 40 (Operand.tmp 59) 1, type := 0, pos := "look.go:154", after := #[{ on := 7, ground := Ground.data }, { on := 2, ground := Ground.guard }], guard := some (2, false) }) (v := ?vb8) rfl (by kernel_rfl) (by kernel_rfl) (by kernel_rfl) (fun _ _ _ h => h) (Or.inl ⟨by rfl, ?hyb8⟩) (by assumption) ?restb8
       case hyb8 => (intro w' hSw; (try dsimp only at hSw); go_simp; (try with_reducible rfl))
       try simp only [Act.put, List.setIfInBounds_toArray, List.set_cons_zero, List.set_cons_succ]
       refine wpAnyH_take (i := 9) (oi := { dst := some 61, op := Op.load 3 (Operand.tmp 60), type := 3, pos := "look.go:154", after := #[{ on := 8, ground := Ground.data }, { on := 2, ground := Ground.guard }], guard := some (2, false) }) (v := ?vb9) rfl (by kernel_rfl) (by kernel_rfl) (by kernel_rfl) (fun _ _ _ h => h) (Or.inl ⟨by rfl, ?hyb9⟩) (by assumption) ?restb9
       case hyb9 => (intro w' hSw; (try dsimp only at hSw); go_simp; (try with_reducible rfl))
       try simp only [Act.put, List.setIfInBounds_toArray, List.set_cons_zero, List.set_cons_succ]
       refine wpAnyH_take (i := 10) (oi := { dst := some 62, op := Op.binOp BinOp.gtr 3 (Operand.tmp 56) (Operand.tmp 61) 3, type := 4, pos := "look.go:154", after := #[{ on := 4, ground := Ground.data }, { on := 9, ground := Ground.data }, { on := 2, ground := Ground.guard }], guard := some (2, false) }) (v := ?vb10) rfl (by kernel_rfl) (by kernel_rfl) (by kernel_rfl) (fun _ _ _ h => h) (Or.inl ⟨by rfl, ?hyb10⟩) (by assumption) ?restb10
       case hyb10 => (intro w' hSw; (try dsimp only at hSw); go_simp; (try with_reducible rfl))
       try simp only [Act.put, List.setIfInBounds_toArray, List.set_cons_zero, List.set_cons_succ]
       refine wpAnyH_take (i := 11) (oi := { dst := some 63, op := Op.pick (Operand.tmp 54) (Operand.const (Value.bool true)) (Operand.tmp 62), type := 4, pos := "look.go:154", after := #[{ on := 2, ground := Ground.data }, { on := 10, ground := Ground.data }], guard := none }) (v := ?vb11) rfl (by kernel_rfl) (by kernel_rfl) (by kernel_rfl) (fun _ _ _ h => h) (Or.inl ⟨by rfl, ?hyb11⟩) (by assumption) ?restb11
       case hyb11 => (intro w' hSw; (try dsimp only at hSw); go_simp; (try with_reducible rfl))
       try simp only [Act.put, List.setIfInBounds_toArray, List.set_cons_zero, List.set_cons_succ]
       refine wpAnyH_take (i := 12) (oi := { dst := some 64, op := Op.move (Operand.tmp 63), type := 4, pos := "look.go:154", after := #[{ on := 11, ground := Ground.data }, { on := 2, ground := Ground.chain }], guard := none }) (v := ?vb12) rfl (by kernel_rfl) (by kernel_rfl) (by kernel_rfl) (fun _ _ _ h => h) (Or.inl ⟨by rfl, ?hyb12⟩) (by assumption) ?restb12
       case hyb12 => (intro w' hSw; (try dsimp only at hSw); go_simp; (try with_reducible rfl))
       try simp only [Act.put, List.setIfInBounds_toArray, List.set_cons_zero, List.set_cons_succ]
       refine wpAnyH_take (i := 13) (oi := { dst := some 65, op := Op.move (Operand.tmp 0), type := 56, pos := "look.go:154", after := #[{ on := 12, ground := Ground.guard }], guard := some (12, false) }) (v := undef) rfl (by kernel_rfl) (by kernel_rfl) (by kernel_rfl) (fun _ _ _ h => h) (Or.inr ⟨by rfl, rfl⟩) (by assumption) ?_
       try simp only [Act.put, List.setIfInBounds_toArray, List.set_cons_zero, List.set_cons_succ]
       refine wpAnyH_take (i := 14) (oi := { dst := some 66, op := Op.load 93 (Operand.tmp 9), type := 93, pos := "look.go:154", after := #[{ on := 12, ground := Ground.guard }], guard := some (12, false) }) (v := undef) rfl (by kernel_rfl) (by kernel_rfl) (by kernel_rfl) (fun _ _ _ h => h) (Or.inr ⟨by rfl, rfl⟩) (by assumption) ?_
       try simp only [Act.put, List.setIfInBounds_toArray, List.set_cons_zero, List.set_cons_succ]
       refine wpAnyH_take (i := 15) (oi := { dst := some 67, op := Op.move (Operand.tmp 5), type := 101, pos := "look.go:154", after := #[{ on := 12, ground := Ground.guard }], guard := some (12, false) }) (v := undef) rfl (by kernel_rfl) (by kernel_rfl) (by kernel_rfl) (fun _ _ _ h => h) (Or.inr ⟨by rfl, rfl⟩) (by assumption) ?_
       try simp only [Act.put, List.setIfInBounds_toArray, List.set_cons_zero, List.set_cons_succ]
       refine wpAnyH_take (i := 16) (oi := { dst := some 68, op := Op.call { callee := Callee.value (Operand.func 60), args := #[Operand.tmp 65, Operand.tmp 66, Operand.tmp 67], argTypes := #[56, 93, 101] }, type := 4, pos := "look.go:154", after := #[{ on := 13, ground := Ground.data }, { on := 14, ground := Ground.data }, { on := 15, ground := Ground.data }, { on := 12, ground := Ground.chain }, { on := 12, ground := Ground.guard }], guard := some (12, false) }) (v := undef) rfl (by kernel_rfl) (by kernel_rfl) (by kernel_rfl) (fun _ _ _ h => h) (Or.inr ⟨by rfl, rfl⟩) (by assumption) ?_
       try simp only [Act.put, List.setIfInBounds_toArray, List.set_cons_zero, List.set_cons_succ]
       refine wpAnyH_take (i := 17) (oi := { dst := some 69, op := Op.unOp UnOp.not 4 (Operand.tmp 68), type := 4, pos := "look.go:154", after := #[{ on := 16, ground := Ground.data }, { on := 12, ground := Ground.guard }], guard := some (12, false) }) (v := undef) rfl (by kernel_rfl) (by kernel_rfl) (by kernel_rfl) (fun _ _ _ h => h) (Or.inr ⟨by rfl, rfl⟩) (by assumption) ?_
       try simp only [Act.put, List.setIfInBounds_toArray, List.set_cons_zero, List.set_cons_succ]
       refine wpAnyH_take (i := 18) (oi := { dst := some 70, op := Op.pick (Operand.tmp 64) (Operand.const (Value.bool true)) (Operand.tmp 69), type := 4, pos := "look.go:154", after := #[{ on := 12, ground := Ground.data }, { on := 17, ground := Ground.data }], guard := none }) (v := ?vb18) rfl (by kernel_rfl) (by kernel_rfl) (by kernel_rfl) (fun _ _ _ h => h) (Or.inl ⟨by rfl, ?hyb18⟩) (by assumption) ?restb18
       case hyb18 => (intro w' hSw; (try dsimp only at hSw); go_simp; (try with_reducible rfl))
       try simp only [Act.put, List.setIfInBounds_toArray, List.set_cons_zero, List.set_cons_succ]
       refine wpAnyH_done (by kernel_rfl) (NoPanic.normal ?_) _
       clear hcsw4 hst
       obtain ⟨cswx, hcswx, hszx, -⟩ := HLW4.out.k.want
       have hstx : ∀ raw' w', stRow raw' 128 (at' * 128) V.E.gw (IV .u8 (zl 128)) w' (some (.cells cswx 33 (0, 0))) = .ok () (w'.setRow V.E.gw (splice cswx (at' * 128) (IV .u8 (zl 128)))) := fun raw' w' => stRow_part (by omega) (by simp) (by simp)
       have hcswl := hat_lt hcswx
       go_wp2_with fail
       go_roundw
       case rel =>
        have hax := HMV4.out.apart nb hnbl2 HNA.out
        have hnw : nb ≠ V.E.gw := fun e => hax.1 (by rw [e]; simp [mineW])
        refine ⟨k + 1, (wipeZ at' zn.1, zn.2), n', ob', B', by go_num, by omega, by omega, Lib.hid ((HLW4.out.fr (fr_drew (Fr.refl [] _)) (by simp)).wipe hatN hcswx), Lib.hid ((HNB4.out.same (hat_drew _ _)).same (hat_setRow _ _ _ _ hnw)), Lib.hid ((HMV4.out.trans (Moved.of (fr_drew (Fr.refl [] _)) (by simp))).trans (Moved.gw _ _)), Lib.hid ?_, Lib.hid ?_⟩
        ·rw [HE3.out, HSZ.out]
         rw [if_neg (fun h => hin h.2), if_neg (fun h => by have := h.2.1; omega)]
        ·exact HK.out
       case measure => (show M - (k + 1) < M - k); omega
      | false =>
       have hyn : ¬ V.E.Y < ino := of_decide_eq_false hyd
       obtain ⟨inn, rfl⟩ := Int.eq_ofNat_of_zero_le (show 0 ≤ ino by omega)
       have HSZ2 := HSZ.out
       rw [Int.toNat_natCast] at HSZ2
       obtain ⟨r, zn2, hER⟩ : ∃ r zn2, enterR V.E.X V.E.Y V.IMG inn nm zn = (r, zn2) := ⟨_, _, rfl⟩
       rw [hER, if_neg (fun h => hin h.2)] at HSZ2
       have HSZ3 := Lib.hid HSZ2
       have HAP := HMV4.out.apart nb hnbl2 HNA.out
       have hent := enter_any (zn := zn) (HLW4.out.fr (fr_drew (Fr.refl [] _)) (by simp)) inn nm hnm nb n' (HNB4.out.same (hat_drew _ _)) (by unfold maxLen; omega) HAP hnb0 (by omega) (by omega)
       rw [hER] at hent
       have HENT := Lib.hid hent
       have HKP := Lib.hid (keeps_enterR V.E.X V.E.Y V.IMG inn nm zn)
       have HERF := Lib.hid (fun h => enterR_false (X := V.E.X) (Y := V.E.Y) (IMG := V.IMG) (i := inn) (nm := nm) (zn := zn) h)
       rw [hER] at HKP HERF
       clear HSZ2 hent HAP hER HSZ
       go_wp2_with fail
       generalize w3.alloc (.cells #[.int .i64 inn, .string nm] 93) = w4 at *
       generalize w3.heap.size = sb at *
       refine wp_region_noPanic ?_
       refine wp_region_held_drew (S := (fun w' => hat w' V.E.gl = some (.cells #[.int .i64 V.E.X, .int .i64 V.E.Y, V.E.img, .slice (some ⟨V.E.gw, 0, none⟩) V.E.N V.E.cw, .map (some V.E.bc), .map (some V.E.bt), .map (some V.E.bf), V.E.qf] 62) ∧ hat w' sb = some (.cells #[.int .i64 inn, .string nm] 93))) (by kernel_rfl) ⟨hl4, hsl4⟩ (fun hHeld => ?_)
       refine wpAnyH_take (i := 0) (oi := { dst := some 52, op := Op.move (Operand.tmp 10), type := 27, pos := "look.go:154", after := #[], guard := none }) (v := ?vc0) rfl (by kernel_rfl) (by kernel_rfl) (by kernel_rfl) (fun _ _ _ h => h) (Or.inl ⟨by rfl, ?hyc0⟩) (by assumption) ?restc0
       case hyc0 => (intro w' hSw; (try dsimp only at hSw); go_simp; (try with_reducible rfl))
       try simp only [Act.put, List.setIfInBounds_toArray, List.set_cons_zero, List.set_cons_succ]
       refine wpAnyH_take (i := 1) (oi := { dst := some 53, op := Op.binOp BinOp.neq 27 (Operand.tmp 52) (Operand.const (Value.int IntKind.i64 0)) 27, type := 4, pos := "look.go:154", after := #[{ on := 0, ground := Ground.data }], guard := none }) (v := ?vc1) rfl (by kernel_rfl) (by kernel_rfl) (by kernel_rfl) (fun _ _ _ h => h) (Or.inl ⟨by rfl, ?hyc1⟩) (by assumption) ?restc1
       case hyc1 => (intro w' hSw; (try dsimp only at hSw); go_simp; (try with_reducible rfl))
       try simp only [Act.put, List.setIfInBounds_toArray, List.set_cons_zero, List.set_cons_succ]
       refine wpAnyH_take (i := 2) (oi := { dst := some 54, op := Op.move (Operand.tmp 53), type := 4, pos := "look.go:154", after := #[{ on := 1, ground := Ground.data }], guard := none }) (v := ?vc2) rfl (by kernel_rfl) (by kernel_rfl) (by kernel_rfl) (fun _ _ _ h => h) (Or.inl ⟨by rfl, ?hyc2⟩) (by assumption) ?restc2
       case hyc2 => (intro w' hSw; (try dsimp only at hSw); go_simp; (try with_reducible rfl))
       try simp only [Act.put, List.setIfInBounds_toArray, List.set_cons_zero, List.set_cons_succ]
       refine wpAnyH_take (i := 3) (oi := { dst := some 55, op := Op.fieldAddr 93 (Operand.tmp 9) 0, type := 0, pos := "look.go:154", after := #[{ on := 2, ground := Ground.guard }], guard := some (2, false) }) (v := ?vc3) rfl (by kernel_rfl) (by kernel_rfl) (by kernel_rfl) (fun _ _ _ h => h) (Or.inl ⟨by rfl, ?hyc3⟩) (by assumption) ?restc3
       case hyc3 => (intro w' hSw; (try dsimp only at hSw); go_simp; (try with_reducible rfl))
       try simp only [Act.put, List.setIfInBounds_toArray, List.set_cons_zero, List.set_cons_succ]
       refine wpAnyH_take (i := 4) (oi := { dst := some 56, op := Op.load 3 (Operand.tmp 55), type := 3, pos := "look.go:154", after := #[{ on := 3, ground := Ground.data }, { on := 2, ground := Ground.guard }], guard := some (2, false) }) (v := ?vc4) rfl (by kernel_rfl) (by kernel_rfl) (by kernel_rfl) (fun _ _ _ h => h) (Or.inl ⟨by rfl, ?hyc4⟩) (by assumption) ?restc4
       case hyc4 => (intro w' hSw; (try dsimp only at hSw); go_simp; (try with_reducible rfl))
       try simp only [Act.put, List.setIfInBounds_toArray, List.set_cons_zero, List.set_cons_succ]
       refine wpAnyH_take (i := 5) (oi := { dst := some 57, op := Op.move (Operand.tmp 0), type := 56, pos := "look.go:154", after := #[{ on := 2, ground := Ground.guard }], guard := some (2, false) }) (v := ?vc5) rfl (by kernel_rfl) (by kernel_rfl) (by kernel_rfl) (fun _ _ _ h => h) (Or.inl ⟨by rfl, ?hyc5⟩) (by assumption) ?restc5
       case hyc5 => (intro w' hSw; (try dsimp only at hSw); go_simp; (try with_reducible rfl))
       try simp only [Act.put, List.setIfInBounds_toArray, List.set_cons_zero, List.set_cons_succ]
       refine wpAnyH_take (i := 6) (oi := { dst := some 58, op := Op.nilCheck (Operand.tmp 57), type := 0, pos := "look.go:154", after := #[{ on := 5, ground := Ground.data }, { on := 2, ground := Ground.guard }], guard := some (2, false) }) (v := ?vc6) rfl (by kernel_rfl) (by kernel_rfl) (by kernel_rfl) (fun _ _ _ h => h) (Or.inl ⟨by rfl, ?hyc6⟩) (by assumption) ?restc6
       case hyc6 => (intro w' hSw; (try dsimp only at hSw); go_simp; (try with_reducible rfl))
       try simp only [Act.put, List.setIfInBounds_toArray, List.set_cons_zero, List.set_cons_succ]
       refine wpAnyH_take (i := 7) (oi := { dst := some 59, op := Op.fieldAddr 62 (Operand.tmp 58) 0, type := 0, pos := "look.go:154", after := #[{ on := 6, ground := Ground.data }, { on := 2, ground := Ground.guard }], guard := some (2, false) }) (v := ?vc7) rfl (by kernel_rfl) (by kernel_rfl) (by kernel_rfl) (fun _ _ _ h => h) (Or.inl ⟨by rfl, ?hyc7⟩) (by assumption) ?restc7
       case hyc7 => (intro w' hSw; (try dsimp only at hSw); go_simp; (try with_reducible rfl))
       try simp only [Act.put, List.setIfInBounds_toArray, List.set_cons_zero, List.set_cons_succ]
       refine wpAnyH_take (i := 8) (oi := { dst := some 60, op := Op.fieldAddr 40 (Operand.tmp 59) 1, type := 0, pos := "look.go:154", after := #[{ on := 7, ground := Ground.data }, { on := 2, ground := Ground.guard }], guard := some (2, false) }) (v := ?vc8) rfl (by kernel_rfl) (by kernel_rfl) (by kernel_rfl) (fun _ _ _ h => h) (Or.inl ⟨by rfl, ?hyc8⟩) (by assumption) ?restc8
       case hyc8 => (intro w' hSw; (try dsimp only at hSw); go_simp; (try with_reducible rfl))
       try simp only [Act.put, List.setIfInBounds_toArray, List.set_cons_zero, List.set_cons_succ]
       refine wpAnyH_take (i := 9) (oi := { dst := some 61, op := Op.load 3 (Operand.tmp 60), type := 3, pos := "look.go:154", after := #[{ on := 8, ground := Ground.data }, { on := 2, ground := Ground.guard }], guard := some (2, false) }) (v := ?vc9) rfl (by kernel_rfl) (by kernel_rfl) (by kernel_rfl) (fun _ _ _ h => h) (Or.inl ⟨by rfl, ?hyc9⟩) (by assumption) ?restc9
       case hyc9 => (intro w' hSw; (try dsimp only at hSw); go_simp; (try with_reducible rfl))
       try simp only [Act.put, List.setIfInBounds_toArray, List.set_cons_zero, List.set_cons_succ]
       refine wpAnyH_take (i := 10) (oi := { dst := some 62, op := Op.binOp BinOp.gtr 3 (Operand.tmp 56) (Operand.tmp 61) 3, type := 4, pos := "look.go:154", after := #[{ on := 4, ground := Ground.data }, { on := 9, ground := Ground.data }, { on := 2, ground := Ground.guard }], guard := some (2, false) }) (v := ?vc10) rfl (by kernel_rfl) (by kernel_rfl) (by kernel_rfl) (fun _ _ _ h => h) (Or.inl ⟨by rfl, ?hyc10⟩) (by assumption) ?restc10
       case hyc10 => (intro w' hSw; (try dsimp only at hSw); go_simp; (try with_reducible rfl))
       try simp only [Act.put, List.setIfInBounds_toArray, List.set_cons_zero, List.set_cons_succ]
       refine wpAnyH_take (i := 11) (oi := { dst := some 63, op := Op.pick (Operand.tmp 54) (Operand.const (Value.bool true)) (Operand.tmp 62), type := 4, pos := "look.go:154", after := #[{ on := 2, ground := Ground.data }, { on := 10, ground := Ground.data }], guard := none }) (v := ?vc11) rfl (by kernel_rfl) (by kernel_rfl) (by kernel_rfl) (fun _ _ _ h => h) (Or.inl ⟨by rfl, ?hyc11⟩) (by assumption) ?restc11
       case hyc11 => (intro w' hSw; (try dsimp only at hSw); go_simp; (try with_reducible rfl))
       try simp only [Act.put, List.setIfInBounds_toArray, List.set_cons_zero, List.set_cons_succ]
       refine wpAnyH_take (i := 12) (oi := { dst := some 64, op := Op.move (Operand.tmp 63), type := 4, pos := "look.go:154", after := #[{ on := 11, ground := Ground.data }, { on := 2, ground := Ground.chain }], guard := none }) (v := ?vc12) rfl (by kernel_rfl) (by kernel_rfl) (by kernel_rfl) (fun _ _ _ h => h) (Or.inl ⟨by rfl, ?hyc12⟩) (by assumption) ?restc12
       case hyc12 => (intro w' hSw; (try dsimp only at hSw); go_simp; (try with_reducible rfl))
       try simp only [Act.put, List.setIfInBounds_toArray, List.set_cons_zero, List.set_cons_succ]
       refine wpAnyH_take (i := 13) (oi := { dst := some 65, op := Op.move (Operand.tmp 0), type := 56, pos := "look.go:154", after := #[{ on := 12, ground := Ground.guard }], guard := some (12, false) }) (v := ?vc13) rfl (by kernel_rfl) (by kernel_rfl) (by kernel_rfl) (fun _ _ _ h => h) (Or.inl ⟨by rfl, ?hyc13⟩) (by assumption) ?restc13
       case hyc13 => (intro w' hSw; (try dsimp only at hSw); go_simp; (try with_reducible rfl))
       try simp only [Act.put, List.setIfInBounds_toArray, List.set_cons_zero, List.set_cons_succ]
       refine wpAnyH_take (i := 14) (oi := { dst := some 66, op := Op.load 93 (Operand.tmp 9), type := 93, pos := "look.go:154", after := #[{ on := 12, ground := Ground.guard }], guard := some (12, false) }) (v := ?vc14) rfl (by kernel_rfl) (by kernel_rfl) (by kernel_rfl) (fun _ _ _ h => h) (Or.inl ⟨by rfl, ?hyc14⟩) (by assumption) ?restc14
       case hyc14 => (intro w' hSw; (try dsimp only at hSw); go_simp; (try with_reducible rfl))
       try simp only [Act.put, List.setIfInBounds_toArray, List.set_cons_zero, List.set_cons_succ]
       refine wpAnyH_take (i := 15) (oi := { dst := some 67, op := Op.move (Operand.tmp 5), type := 101, pos := "look.go:154", after := #[{ on := 12, ground := Ground.guard }], guard := some (12, false) }) (v := ?vc15) rfl (by kernel_rfl) (by kernel_rfl) (by kernel_rfl) (fun _ _ _ h => h) (Or.inl ⟨by rfl, ?hyc15⟩) (by assumption) ?restc15
       case hyc15 => (intro w' hSw; (try dsimp only at hSw); go_simp; (try with_reducible rfl))
       try simp only [Act.put, List.setIfInBounds_toArray, List.set_cons_zero, List.set_cons_succ]
       refine wpAnyH_ready (rs := [16]) (by kernel_rfl) (by simp) ?_
       refine AllReadyH.cons (o := { dst := some 68, op := Op.call { callee := Callee.value (Operand.func 60), args := #[Operand.tmp 65, Operand.tmp 66, Operand.tmp 67], argTypes := #[56, 93, 101] }, type := 4, pos := "look.go:154", after := #[{ on := 13, ground := Ground.data }, { on := 14, ground := Ground.data }, { on := 15, ground := Ground.data }, { on := 12, ground := Ground.chain }, { on := 12, ground := Ground.guard }], guard := some (12, false) }) rfl (fun K hK => ?_) AllReadyH.nil
       go_simp
       refine HENT.out.mono ?_; rintro e w5 ⟨rfl, ob2, B2, n2, hn2, hlw5, hnb5, hmv5⟩
       have hl5 := hlw5.k.look
       unfold lkCells at hl5
       have hsl5 := (hmv5.block sb hz4 HSA.out (by simp; omega)).trans hsl4
       have HLW5 := Lib.hid hlw5
       have HNB5 := Lib.hid hnb5
       have HMV5 := Lib.hid ((HMV4.out.trans (Moved.of (fr_drew (Fr.refl [] _)) (by simp))).trans hmv5)
       clear hlw5 hnb5 hmv5
       refine hK.out _ _ ⟨hl5, hsl5⟩ (fun hHeld => ?_)
       clear hK K
       try simp only [Act.put, List.setIfInBounds_toArray, List.set_cons_zero, List.set_cons_succ]
       cases r with
       | true =>
        refine wpAnyH_take (i := 17) (oi := { dst := some 69, op := Op.unOp UnOp.not 4 (Operand.tmp 68), type := 4, pos := "look.go:154", after := #[{ on := 16, ground := Ground.data }, { on := 12, ground := Ground.guard }], guard := some (12, false) }) (v := ?vd17) rfl (by kernel_rfl) (by kernel_rfl) (by kernel_rfl) (fun _ _ _ h => h) (Or.inl ⟨by rfl, ?hyd17⟩) (by assumption) ?restd17
        case hyd17 => (intro w' hSw; (try dsimp only at hSw); go_simp; (try with_reducible rfl))
        try simp only [Act.put, List.setIfInBounds_toArray, List.set_cons_zero, List.set_cons_succ]
        refine wpAnyH_take (i := 18) (oi := { dst := some 70, op := Op.pick (Operand.tmp 64) (Operand.const (Value.bool true)) (Operand.tmp 69), type := 4, pos := "look.go:154", after := #[{ on := 12, ground := Ground.data }, { on := 17, ground := Ground.data }], guard := none }) (v := ?vd18) rfl (by kernel_rfl) (by kernel_rfl) (by kernel_rfl) (fun _ _ _ h => h) (Or.inl ⟨by rfl, ?hyd18⟩) (by assumption) ?restd18
        case hyd18 => (intro w' hSw; (try dsimp only at hSw); go_simp; (try with_reducible rfl))
        try simp only [Act.put, List.setIfInBounds_toArray, List.set_cons_zero, List.set_cons_succ]
        refine wpAnyH_done (by kernel_rfl) (NoPanic.normal ?_) _
        go_wp2_with fail
        go_roundw
        case rel =>
         refine ⟨k + 1, zn2, n2, ob2, B2, by go_num, by omega, by omega, HLW5, HNB5, HMV5, Lib.hid ?_, Lib.hid (HK.out.trans HKP.out)⟩
         rw [HE3.out, HSZ3.out, if_pos ⟨HEN.out, by omega, rfl⟩]
        case measure => (show M - (k + 1) < M - k); omega
       | false =>
        have hz2 : zn2 = zn := HERF.out rfl
        subst hz2
        refine wpAnyH_take (i := 17) (oi := { dst := some 69, op := Op.unOp UnOp.not 4 (Operand.tmp 68), type := 4, pos := "look.go:154", after := #[{ on := 16, ground := Ground.data }, { on := 12, ground := Ground.guard }], guard := some (12, false) }) (v := ?ve17) rfl (by kernel_rfl) (by kernel_rfl) (by kernel_rfl) (fun _ _ _ h => h) (Or.inl ⟨by rfl, ?hye17⟩) (by assumption) ?reste17
        case hye17 => (intro w' hSw; (try dsimp only at hSw); go_simp; (try with_reducible rfl))
        try simp only [Act.put, List.setIfInBounds_toArray, List.set_cons_zero, List.set_cons_succ]
        refine wpAnyH_take (i := 18) (oi := { dst := some 70, op := Op.pick (Operand.tmp 64) (Operand.const (Value.bool true)) (Operand.tmp 69), type := 4, pos := "look.go:154", after := #[{ on := 12, ground := Ground.data }, { on := 17, ground := Ground.data }], guard := none }) (v := ?ve18) rfl (by kernel_rfl) (by kernel_rfl) (by kernel_rfl) (fun _ _ _ h => h) (Or.inl ⟨by rfl, ?hye18⟩) (by assumption) ?reste18
        case hye18 => (intro w' hSw; (try dsimp only at hSw); go_simp; (try with_reducible rfl))
        try simp only [Act.put, List.setIfInBounds_toArray, List.set_cons_zero, List.set_cons_succ]
        refine wpAnyH_done (by kernel_rfl) (NoPanic.normal ?_) _
        obtain ⟨cswx, hcswx, hszx, -⟩ := HLW5.out.k.want
        have hstx : ∀ raw' w', stRow raw' 128 (at' * 128) V.E.gw (IV .u8 (zl 128)) w' (some (.cells cswx 33 (0, 0))) = .ok () (w'.setRow V.E.gw (splice cswx (at' * 128) (IV .u8 (zl 128)))) := fun raw' w' => stRow_part (by omega) (by simp) (by simp)
        have hcswl := hat_lt hcswx
        go_wp2_with fail
        go_roundw
        case rel =>
         have hax := HMV5.out.apart nb hnbl2 HNA.out
         have hnw : nb ≠ V.E.gw := fun e => hax.1 (by rw [e]; simp [mineW])
         refine ⟨k + 1, (wipeZ at' zn2.1, zn2.2), n2, ob2, B2, by go_num, by omega, by omega, Lib.hid (HLW5.out.wipe hatN hcswx), Lib.hid (HNB5.out.same (hat_setRow _ _ _ _ hnw)), Lib.hid (HMV5.out.trans (Moved.gw _ _)), Lib.hid ?_, Lib.hid ?_⟩
         ·rw [HE3.out]
          rw [HSZ3.out, if_neg (fun h => by cases h.2.2)]
         ·exact HK.out
        case measure => (show M - (k + 1) < M - k); omega
  ·obtain rfl : k = M := by omega
   have hE := HE.out
   rw [Nat.sub_self] at hE
   have HE2 := Lib.hid hE
   clear hE
   go_wp2_with fail
   refine bodyPost_end (results_none rfl _ _ _) rfl ?_
   rw [HE2.out]
   exact ⟨rfl, ob', B', HLW.out, Moved.from HF2.out HMV.out [] (fun k hk => by rw [List.mem_singleton] at hk; exact .inr (by omega))⟩
def doneB (z : LZ) (c k : Nat) (i : Nat) (t : TI) : Nat := if (i : Int) ∈ z.q then 0 else if i = c then k else (cntX (nth t.raw 2)).toNat
structure WZ (X Y : Int) (A : Nat → List Int) (L : Nat → List Ent) (c k : Nat) (z : LZ) : Prop where
 inv : InvZ X Y A z
 pz : PZ X Y z
 cz : CZ A z
 rg : ∀ i e, e ∈ L i → 2 ≤ e.1 ∧ e.1 ≤ Y ∧ ∃ t, z.T e.1.toNat = some t
 nd : ∀ i, ((L i).map Prod.snd).Nodup
 nl : ∀ i, L i ≠ [] → ∃ t, z.T i = some t ∧ nth t.raw 0 = 2
 ix : ∀ i t, z.T i = some t → 1 ≤ i ∧ (i : Int) ≤ Y
 en : ∀ j t, z.T j = some t → t.en = (if j = 1 then 1 else 0) + (cntL L Y.toNat j : Int)
 po : ∀ j t, z.T j = some t → 1 ≤ t.en ∧ (nth t.raw 0 = 2 → t.en = 1)
 rc : ∀ P : Nat → Prop, P 1 → (∀ i e, P i → e ∈ L i → P e.1.toNat) → ∀ j t, z.T j = some t → P j
 r1 : ∃ t, z.T 1 = some t
 sl : ∀ i t, z.T i = some t → nth t.raw 0 = 2 → slotsW z.st.S (bkL t.bk (doneB z c k i t)) [] = some (L i)
theorem WZ.blocks {X Y : Int} (hY : 0 ≤ Y) {A : Nat → List Int} {L : Nat → List Ent} {c k : Nat} {z : LZ} (h : WZ X Y A L c k z) {i : Nat} {t : TI} (ht : z.T i = some t) {n : Nat} {p : Int} (hp : p ∈ bkL t.bk n) (h0 : p ≠ 0) : z.st.cl (p.toNat : Nat) = true ∧ ∃ k' : Nat, k' < n ∧ t.bk k' = some p := by
 obtain ⟨k', h1, h2⟩ := mem_bkL hp h0
 obtain ⟨hd, hc⟩ := h.inv.blk i t k' p ht h2
 rw [(isD_nat hY hd).1]
 exact ⟨hc, k', h1, h2⟩
theorem WZ.skip {X Y : Int} {A : Nat → List Int} {L : Nat → List Ent} {c k : Nat} {z : LZ} (h : WZ X Y A L c k z) (hs : ∀ t, z.T c = some t → nth t.raw 0 = 2 → slotsW z.st.S (bkL t.bk (k + 1)) [] = slotsW z.st.S (bkL t.bk k) []) : WZ X Y A L c (k + 1) z := by
 refine ⟨h.inv, h.pz, h.cz, h.rg, h.nd, h.nl, h.ix, h.en, h.po, h.rc, h.r1, fun i t ht hk => ?_⟩
 have h1 := h.sl i t ht hk
 unfold doneB at h1 ⊢
 by_cases hq : (i : Int) ∈ z.q
 ·rw [if_pos hq] at h1 ⊢; exact h1
 ·rw [if_neg hq] at h1 ⊢
  by_cases hc : i = c
  ·subst hc
   rw [if_pos rfl] at h1 ⊢
   rw [hs t ht hk]; exact h1
  ·rw [if_neg hc] at h1 ⊢; exact h1
theorem WZ.wipe {X Y : Int} (hY : 0 ≤ Y) {A : Nat → List Int} {L : Nat → List Ent} {c k : Nat} {z : LZ} (h : WZ X Y A L c k z) {t : TI} (ht : z.T c = some t) (h2 : nth t.raw 0 = 2) (hq : (c : Int) ∉ z.q) {p : Int} (hk : t.bk k = some p) : WZ X Y A L c (k + 1) (wipeZ p.toNat z) := by
 obtain ⟨hd, hc⟩ := h.inv.blk c t k p ht hk
 obtain ⟨hp, hp0⟩ := isD_nat hY hd
 refine ⟨h.inv.wipe (by rw [hp]; exact hc), h.pz.wipe hY ht hk, h.cz.wipe hY h.inv ht h2 hk, h.rg, h.nd, h.nl, h.ix, h.en, h.po, h.rc, h.r1, fun i u hu hu2 => ?_⟩
 have h1 := h.sl i u hu hu2
 have hoth : ∀ n, (∀ k' : Nat, k' < n → u.bk k' = some p → i = c ∧ k' = k → False) → slotsW (wipeZ p.toNat z).st.S (bkL u.bk n) [] = slotsW z.st.S (bkL u.bk n) [] := by
  intro n hn
  refine slotsW_same _ _ (fun q hq h0 => updS_ne _ _ (fun e => ?_))
  obtain ⟨-, k', h3, h4⟩ := h.blocks hY hu hq h0
  have hdq := (h.inv.blk i u k' q hu h4).1
  have e2 : q = p := by rw [← (isD_nat hY hdq).1, ← hp, e]
  subst e2
  obtain ⟨a, b⟩ := h.inv.inj i u k' c t k q hu h4 ht hk
  exact hn k' h3 h4 ⟨a, by omega⟩
 have e : doneB (wipeZ p.toNat z) c (k + 1) i u = if (i : Int) ∈ z.q then 0 else if i = c then k + 1 else (cntX (nth u.raw 2)).toNat := rfl
 rw [e]
 unfold doneB at h1
 by_cases hqi : (i : Int) ∈ z.q
 ·rw [if_pos hqi] at h1 ⊢; exact h1
 ·rw [if_neg hqi] at h1 ⊢
  by_cases hic : i = c
  ·subst hic
   rw [if_pos rfl] at h1 ⊢
   have eu : u = t := by
    have hu' : z.T i = some u := hu
    rw [ht] at hu'; exact (Option.some.inj hu').symm
   subst eu
   have h3 := hoth k (fun k' hk' _ ⟨_, e⟩ => by omega)
   rw [h1] at h3
   rw [bkL_succ, slotsW_snoc h3, hk]
   simp only [Option.getD_some]
   have hS : (wipeZ p.toNat z).st.S p.toNat = zl 128 := updS_eq _ _ _
   rw [hS, slot_zero]
   simp
  ·rw [if_neg hic] at h1 ⊢
   rw [hoth _ (fun k' _ _ ⟨e, _⟩ => hic e)]; exact h1
theorem WZ.entry {X Y : Int} (hY : 0 ≤ Y) {A : Nat → List Int} {L : Nat → List Ent} {c k : Nat} {z z2 : LZ} (h : WZ X Y A L c k z) {t : TI} (ht : z.T c = some t) (h2 : nth t.raw 0 = 2) (hq : (c : Int) ∉ z.q) {p : Int} (hk : t.bk k = some p)
  {x : Nat} {nm : ByteArray} (hx2 : 2 ≤ x) (hxY : (x : Int) ≤ Y) (hr : rdSloR (z.st.S p.toNat) = ((x : Int), nm, 0)) (hn : nm ∉ (L c).map Prod.snd) (he : enterZ X Y A x z = some z2) :
  WZ X Y A (updE L c (L c ++ [((x : Int), nm)])) c (k + 1) z2 := by
 obtain ⟨i1, i2, i3, i4⟩ := enter_i hY h.inv he noE
 obtain ⟨hd, hcp⟩ := h.inv.blk c t k p ht hk
 obtain ⟨hp, hp0⟩ := isD_nat hY hd
 have hcY := h.ix c t ht
 have hT : (∀ j u, z.T j = some u → ∃ u2, z2.T j = some u2 ∧ u2.raw = u.raw ∧ u2.bk = u.bk ∧ u2.en = u.en + (if j = x then 1 else 0)) ∧ (∀ j u2, z2.T j = some u2 → (∃ u, z.T j = some u ∧ u2.raw = u.raw ∧ u2.bk = u.bk ∧ u2.en = u.en + (if j = x then 1 else 0)) ∨ (z.T j = none ∧ j = x ∧ u2.en = 1 ∧ ((j : Int) ∈ z2.q ↔ nth u2.raw 0 = 2))) ∧ (∀ j u, z.T j = some u → ((j : Int) ∈ z2.q ↔ (j : Int) ∈ z.q)) ∧ (∃ u2, z2.T x = some u2) ∧ (PZ X Y z2 ∧ CZ A z2) ∧ (∀ u, z.T x = some u → nth u.raw 0 ≠ 2) := by
  unfold enterZ at he
  split at he
  ·rename_i u hu
   split at he
   ·cases he
   ·rename_i hno
    obtain rfl := Option.some.inj he
    refine ⟨fun j v hv => ?_, fun j v hv => ?_, fun _ _ _ => Iff.rfl, ⟨_, updT_eq _ _ _⟩, ⟨h.pz.enu hu _, h.cz.enu hu _⟩, fun v hv => ?_⟩
    ·by_cases hj : j = x
     ·subst hj
      rw [hu] at hv; cases hv
      exact ⟨_, updT_eq _ _ _, rfl, rfl, by rw [if_pos rfl]⟩
     ·exact ⟨v, (updT_ne _ _ hj).trans hv, rfl, rfl, by rw [if_neg hj]; omega⟩
    ·left
     have hv2 : updT z.T x { u with en := u.en + 1 } j = some v := hv
     by_cases hj : j = x
     ·subst hj
      rw [updT_eq] at hv2
      cases hv2
      exact ⟨u, hu, rfl, rfl, by rw [if_pos rfl]⟩
     ·rw [updT_ne _ _ hj] at hv2
      exact ⟨v, hv2, rfl, rfl, by rw [if_neg hj]; omega⟩
    ·rw [hu] at hv; cases hv
     exact fun e => hno (.inl e)
  ·rename_i hu
   split at he
   ·rename_i hso
    obtain rfl := Option.some.inj he
    have hkind : nth (takeX X Y (rdInoR (A x)).1 z.st).1 0 = nth (rdInoR (A x)).1 0 := by
     rw [(takeX_parts X Y _ z.st).1]
     exact (ptrs_nth (X := X) hY _ (rdInoR_length _) (bare z.st)).1 0 (by omega)
    have hnq : ∀ j u, z.T j = some u → j ≠ x := fun j u hv e => by rw [e, hu] at hv; cases hv
    refine ⟨fun j v hv => ⟨v, (updT_ne _ _ (hnq j v hv)).trans hv, rfl, rfl, by rw [if_neg (hnq j v hv)]; omega⟩, fun j v hv => ?_, fun j v hv => ?_, ⟨_, updT_eq _ _ _⟩, ⟨h.pz.take hY h.inv hu (rdInoR_length _) 1, h.cz.take hY h.inv hu (rdInoR_length _) 1⟩, fun v hv => by rw [hu] at hv; cases hv⟩
    ·have hv2 : updT z.T x ⟨(takeX X Y (rdInoR (A x)).1 z.st).1, 1, (takeX X Y (rdInoR (A x)).1 z.st).2.bk⟩ j = some v := hv
     by_cases hj : j = x
     ·subst hj
      rw [updT_eq] at hv2
      cases hv2
      refine .inr ⟨hu, rfl, rfl, ?_⟩
      show ((j : Int) ∈ (if nth (rdInoR (A j)).1 0 = 2 then z.q ++ [(j : Int)] else z.q)) ↔ nth (takeX X Y (rdInoR (A j)).1 z.st).1 0 = 2
      rw [hkind]
      have hnz : (j : Int) ∉ z.q := fun hm => by
       obtain ⟨-, v, hv, -⟩ := h.inv.qT _ hm
       rw [Int.toNat_natCast, hu] at hv; cases hv
      split
      ·rename_i h5; simp [h5]
      ·rename_i h5; simp [h5, hnz]
     ·rw [updT_ne _ _ hj] at hv2
      exact .inl ⟨v, hv2, rfl, rfl, by rw [if_neg hj]; omega⟩
    ·show ((j : Int) ∈ (if nth (rdInoR (A x)).1 0 = 2 then z.q ++ [(x : Int)] else z.q)) ↔ _
     have := hnq j v hv
     split
     ·rw [List.mem_append, List.mem_singleton]
      constructor
      ·rintro (h5 | h5)
       ·exact h5
       ·omega
      ·exact .inl
     ·exact Iff.rfl
   ·cases he
 obtain ⟨t1, t2, t3, t4, t5, t6⟩ := hT
 have hmem : ∀ i e, e ∈ updE L c (L c ++ [((x : Int), nm)]) i → e ∈ L i ∨ (i = c ∧ e = ((x : Int), nm)) := by
  intro i e hm
  by_cases hi : i = c
  ·subst hi
   rw [updE_eq, List.mem_append, List.mem_singleton] at hm
   rcases hm with hm | hm
   ·exact .inl hm
   ·exact .inr ⟨rfl, hm⟩
  ·rw [updE_ne _ _ hi] at hm; exact .inl hm
 have hcN : c ≤ Y.toNat := by omega
 refine ⟨i1, t5.1, t5.2, fun i e hm => ?_, fun i => ?_, fun i hm => ?_, fun j u2 hu2 => ?_, fun j u2 hu2 => ?_, fun j u2 hu2 => ?_, fun P hP1 hPL j u2 hu2 => ?_, ?_, fun i u2 hu2 hk2 => ?_⟩
 ·rcases hmem i e hm with hm | ⟨-, rfl⟩
  ·obtain ⟨a, b, u, hu⟩ := h.rg i e hm
   obtain ⟨u2, hu2, -⟩ := t1 _ u hu
   exact ⟨a, b, u2, hu2⟩
  ·exact ⟨by show (2 : Int) ≤ x; omega, hxY, by rw [Int.toNat_natCast]; exact t4⟩
 ·by_cases hi : i = c
  ·subst hi
   rw [updE_eq, List.map_append, List.nodup_append]
   refine ⟨h.nd i, by simp, fun a ha b hb => ?_⟩
   simp at hb
   subst hb
   intro e
   subst e
   exact hn ha
  ·rw [updE_ne _ _ hi]; exact h.nd i
 ·by_cases hi : i = c
  ·subst hi
   obtain ⟨u2, a, b, -⟩ := t1 i t ht
   exact ⟨u2, a, by rw [b]; exact h2⟩
  ·rw [updE_ne _ _ hi] at hm
   obtain ⟨u, hu, e⟩ := h.nl i hm
   obtain ⟨u2, a, b, -⟩ := t1 i u hu
   exact ⟨u2, a, by rw [b]; exact e⟩
 ·rcases t2 j u2 hu2 with ⟨u, hu, -⟩ | ⟨-, rfl, -⟩
  ·exact h.ix j u hu
  ·exact ⟨by omega, hxY⟩
 ·rw [cntL_upd L hcN]
  rcases t2 j u2 hu2 with ⟨u, hu, -, -, e⟩ | ⟨hno, rfl, e, -⟩
  ·rw [e, h.en j u hu]
   show _ = _ + ((_ + if (x : Int) = (j : Int) then 1 else 0 : Nat) : Int)
   by_cases hj : j = x
   ·rw [if_pos hj, if_pos (show (x : Int) = (j : Int) by omega)]; omega
   ·rw [if_neg hj, if_neg (show ¬ (x : Int) = (j : Int) by omega)]; omega
  ·rw [e, cntL_zero (fun i e he hx => by
    obtain ⟨-, -, u, hu⟩ := h.rg i e he
    rw [hx, Int.toNat_natCast, hno] at hu; cases hu), if_neg (by omega)]
   show 1 = (0 : Int) + ((0 + if (j : Int) = (j : Int) then 1 else 0 : Nat) : Int)
   rw [if_pos rfl]; rfl
 ·rcases t2 j u2 hu2 with ⟨u, hu, e1, -, e⟩ | ⟨hno, rfl, e, -⟩
  ·obtain ⟨a, b⟩ := h.po j u hu
   rw [e1, e]
   by_cases hj : j = x
   ·rw [if_pos hj]
    refine ⟨by omega, fun h5 => ?_⟩
    subst hj
    exact absurd h5 (t6 u hu)
   ·rw [if_neg hj]
    exact ⟨by omega, fun h5 => by rw [b h5]; rfl⟩
  ·exact ⟨by omega, fun _ => e⟩
 ·have hPold : ∀ j u, z.T j = some u → P j := h.rc P hP1 (fun i e hi he => by
   refine hPL i e hi ?_
   by_cases hic : i = c
   ·subst hic; rw [updE_eq]; exact List.mem_append_left _ he
   ·rw [updE_ne _ _ hic]; exact he)
  rcases t2 j u2 hu2 with ⟨u, hu, -⟩ | ⟨-, rfl, -⟩
  ·exact hPold j u hu
  ·have := hPL c ((j : Int), nm) (hPold c t ht) (by rw [updE_eq]; exact List.mem_append_right _ (List.mem_singleton.2 rfl))
   rw [show ((j : Int), nm).1.toNat = j from Int.toNat_natCast j] at this
   exact this
 ·obtain ⟨u, hu⟩ := h.r1
  obtain ⟨u2, a, -⟩ := t1 1 u hu
  exact ⟨u2, a⟩
 ·rcases t2 i u2 hu2 with ⟨u, hu, e1, e2, -⟩ | ⟨hno, rfl, -, hqm⟩
  ·rw [e1] at hk2
   have h1 := h.sl i u hu hk2
   have hS : ∀ n, slotsW z2.st.S (bkL u.bk n) [] = slotsW z.st.S (bkL u.bk n) [] := fun n => slotsW_same _ _ (fun q hq0 h0 => i4 _ (h.blocks hY hu hq0 h0).1)
   have hdb : doneB z2 c (k + 1) i u2 = if (i : Int) ∈ z.q then 0 else if i = c then k + 1 else (cntX (nth u.raw 2)).toNat := by
    unfold doneB
    rw [e1]
    by_cases hqi : (i : Int) ∈ z.q
    ·rw [if_pos ((t3 i u hu).2 hqi), if_pos hqi]
    ·rw [if_neg (fun h5 => hqi ((t3 i u hu).1 h5)), if_neg hqi]
   rw [hdb, e2]
   unfold doneB at h1
   by_cases hqi : (i : Int) ∈ z.q
   ·rw [if_pos hqi] at h1 ⊢
    rw [hS]
    by_cases hic : i = c
    ·subst hic; exact absurd hqi hq
    ·rw [updE_ne _ _ hic]; exact h1
   ·rw [if_neg hqi] at h1 ⊢
    by_cases hic : i = c
    ·subst hic
     rw [if_pos rfl] at h1 ⊢
     have eu : u = t := by rw [ht] at hu; exact (Option.some.inj hu).symm
     subst eu
     have h3 := hS k
     rw [h1] at h3
     rw [bkL_succ, slotsW_snoc h3, hk, updE_eq]
     simp only [Option.getD_some]
     rw [i4 _ (by rw [hp]; exact hcp), hr, if_neg hp0]
     simp only
     rw [if_neg (by simp), if_neg (by omega)]
    ·rw [if_neg hic] at h1 ⊢
     rw [hS, updE_ne _ _ hic]; exact h1
  ·have hdb : doneB z2 c (k + 1) i u2 = 0 := by
    unfold doneB
    rw [if_pos (hqm.2 hk2)]
   have hL : L i = [] := Decidable.byContradiction fun h5 => by
    obtain ⟨u, hu, -⟩ := h.nl i h5
    rw [hno] at hu; cases hu
   have hic : i ≠ c := fun e => by rw [e, ht] at hno; cases hno
   rw [hdb, bkL_zero, updE_ne _ _ hic, hL]
   rfl
def NmIs (l : List Ent) (nm : ByteArray → Bool) : Prop := ∀ x, nm x = true ↔ x ∈ l.map Prod.snd
theorem slot_wz {X Y : Int} (hY : 0 ≤ Y) {A : Nat → List Int} {L : Nat → List Ent} {c k : Nat} {zn : LZ × (ByteArray → Bool)} (h : WZ X Y A L c k zn.1) (hn : NmIs (L c) zn.2) {t : TI} (hT : zn.1.T c = some t) (h2 : nth t.raw 0 = 2) (hq : (c : Int) ∉ zn.1.q) {p : Int} (hk : t.bk k = some p) :
  ∃ L2, WZ X Y A L2 c (k + 1) (slotZ X Y A p.toNat zn).1 ∧ NmIs (L2 c) (slotZ X Y A p.toNat zn).2 := by
 obtain ⟨hd, hcp⟩ := h.inv.blk c t k p hT hk
 obtain ⟨hp, hp0⟩ := isD_nat hY hd
 have hwipe : ∃ L2, WZ X Y A L2 c (k + 1) (wipeZ p.toNat zn.1) ∧ NmIs (L2 c) zn.2 := ⟨L, h.wipe hY hT h2 hq hk, hn⟩
 have hsl := h.sl c t hT h2
 unfold doneB at hsl
 rw [if_neg hq, if_pos rfl] at hsl
 unfold slotZ
 split
 ·rename_i hz
  refine ⟨L, h.skip (fun u hu _ => ?_), hn⟩
  have eu : u = t := by rw [hT] at hu; exact (Option.some.inj hu).symm
  subst eu
  rw [bkL_succ, slotsW_snoc hsl, hk, hsl]
  simp only [Option.getD_some]
  rw [if_neg hp0, if_neg (by rw [hz.1]; simp), if_pos hz.2]
 ·rename_i hz
  split
  ·rename_i h3
   obtain ⟨e0, e1, e2⟩ := h3
   have hne : (rdSloR (zn.1.st.S p.toNat)).1 ≠ 0 := fun e => hz ⟨e0, e⟩
   obtain ⟨s1, -, -⟩ := slo_ok e0 hne
   obtain ⟨x, hx⟩ := Int.eq_ofNat_of_zero_le (show 0 ≤ (rdSloR (zn.1.st.S p.toNat)).1 by omega)
   have hr : rdSloR (zn.1.st.S p.toNat) = ((x : Int), (rdSloR (zn.1.st.S p.toNat)).2.1, 0) := by rw [← hx, ← e0]
   generalize (rdSloR (zn.1.st.S p.toNat)).2.1 = nm at *
   rw [hx, Int.toNat_natCast] at e2 ⊢
   rw [hx] at e1 s1
   unfold enterR at e2 ⊢
   split at e2
   ·cases e2
   ·rename_i h4
    rw [if_neg h4]
    have hx1 : x ≠ 1 := fun e => h4 (.inr e)
    have hnn : nm ∉ (L c).map Prod.snd := fun hm => h4 (.inl ((hn nm).2 hm))
    cases he : enterZ X Y A x zn.1 with
    | none => rw [he] at e2; cases e2
    | some z2 =>
     refine ⟨updE L c (L c ++ [((x : Int), nm)]), h.entry hY hT h2 hq hk (by omega) e1 hr hnn he, fun y => ?_⟩
     show addB zn.2 nm y = true ↔ _
     rw [updE_eq, List.map_append, List.mem_append, ← hn y]
     unfold addB
     simp
  ·exact hwipe
theorem dir_wz {X Y : Int} (hY : 0 ≤ Y) {A : Nat → List Int} {c : Nat} {t : TI} (h2 : nth t.raw 0 = 2) : ∀ (m k : Nat) (L : Nat → List Ent) (zn : LZ × (ByteArray → Bool)), WZ X Y A L c k zn.1 → NmIs (L c) zn.2 → (∃ t0, zn.1.T c = some t0 ∧ t0.bk = t.bk ∧ t0.raw = t.raw) → (c : Int) ∉ zn.1.q →
  ∃ L2, WZ X Y A L2 c (k + m) (dirZ X Y A t.bk m k zn).1
 | 0, k, L, zn, h, hn, hT, hq => ⟨L, h⟩
 | m + 1, k, L, zn, h, hn, hT, hq => by
  show ∃ L2, WZ X Y A L2 c _ (dirZ X Y A t.bk m (k + 1) _).1
  rw [show k + (m + 1) = k + 1 + m by omega]
  obtain ⟨t0, ht0, hb0, hr0⟩ := hT
  have h20 : nth t0.raw 0 = 2 := by rw [hr0]; exact h2
  cases hk : t.bk k with
  | none =>
   refine dir_wz hY h2 m (k + 1) L zn (h.skip (fun u hu _ => ?_)) hn ⟨t0, ht0, hb0, hr0⟩ hq
   have hsl := h.sl c t0 ht0 h20
   unfold doneB at hsl
   rw [if_neg hq, if_pos rfl] at hsl
   have eu : u = t0 := by rw [ht0] at hu; exact (Option.some.inj hu).symm
   subst eu
   rw [bkL_succ, slotsW_snoc hsl, hb0, hk, hb0.symm, hsl]
   rfl
  | some p =>
   obtain ⟨L2, a, b⟩ := slot_wz hY h hn ht0 h20 hq (by rw [hb0]; exact hk)
   have hs := slot_i hY (t := t) h.inv ⟨t0, ht0, hb0⟩ hq hk
   obtain ⟨t1, ht1, hr1, hb1⟩ := hs.st.t c t0 ht0
   exact dir_wz hY h2 m (k + 1) L2 (slotZ X Y A p.toNat zn) a b ⟨t1, ht1, hb1.trans hb0, hr1.trans hr0⟩ hs.q
theorem WZ.pop {X Y : Int} {A : Nat → List Int} {L : Nat → List Ent} {k : Nat} {z : LZ} (h : WZ X Y A L 0 k z) {i : Nat} {r : List Int} (hq : z.q = (i : Int) :: r) : WZ X Y A L i 0 { z with q := r } := by
 have hir : (i : Int) ∉ r := by have := h.inv.qn; rw [hq] at this; exact (List.nodup_cons.1 this).1
 refine ⟨h.inv.pop hq, h.pz.q r, h.cz.q r, h.rg, h.nd, h.nl, h.ix, h.en, h.po, h.rc, h.r1, fun j t ht h2 => ?_⟩
 have h1 := h.sl j t ht h2
 have e : doneB { z with q := r } i 0 j t = doneB z 0 k j t := by
  unfold doneB
  rw [hq]
  show (if (j : Int) ∈ r then 0 else _) = _
  have hj := (h.ix j t ht).1
  by_cases hji : j = i
  ·subst hji
   rw [if_neg hir, if_pos rfl, if_pos (List.mem_cons_self ..)]
  ·by_cases hm : (j : Int) ∈ r
   ·rw [if_pos hm, if_pos (List.mem_cons_of_mem _ hm)]
   ·rw [if_neg hm, if_neg hji, if_neg (fun h5 => (List.mem_cons.1 h5).elim (fun h6 => hji (by omega)) hm), if_neg (by omega)]
 rw [e]; exact h1
theorem WZ.over {X Y : Int} {A : Nat → List Int} {L : Nat → List Ent} {c k : Nat} {z : LZ} (h : WZ X Y A L c k z) (hk : ∀ t, z.T c = some t → nth t.raw 0 = 2 → k = (cntX (nth t.raw 2)).toNat) : WZ X Y A L 0 0 z := by
 refine ⟨h.inv, h.pz, h.cz, h.rg, h.nd, h.nl, h.ix, h.en, h.po, h.rc, h.r1, fun j t ht h2 => ?_⟩
 have h1 := h.sl j t ht h2
 have hj := (h.ix j t ht).1
 have e : doneB z 0 0 j t = doneB z c k j t := by
  unfold doneB
  by_cases hm : (j : Int) ∈ z.q
  ·rw [if_pos hm, if_pos hm]
  ·rw [if_neg hm, if_neg hm, if_neg (by omega)]
   by_cases hjc : j = c
   ·subst hjc; rw [if_pos rfl, hk t ht h2]
   ·rw [if_neg hjc]
 rw [e]; exact h1
theorem dirOf_wz {X Y : Int} (hY : 0 ≤ Y) {A : Nat → List Int} {L : Nat → List Ent} {z : LZ} (h : WZ X Y A L 0 0 z) {i : Int} {r : List Int} (hq : z.q = i :: r) : ∃ L2, WZ X Y A L2 0 0 (dirOf X Y A i.toNat { z with q := r }) := by
 obtain ⟨h0, t, ht, h2⟩ := h.inv.qT i (by rw [hq]; exact List.mem_cons_self)
 obtain ⟨c, rfl⟩ := Int.eq_ofNat_of_zero_le h0
 have hir : (c : Int) ∉ r := by have := h.inv.qn; rw [hq] at this; exact (List.nodup_cons.1 this).1
 rw [Int.toNat_natCast] at ht ⊢
 have hp := h.pop hq
 have hsl := hp.sl c t ht h2
 unfold doneB at hsl
 rw [if_neg hir, if_pos rfl, bkL_zero] at hsl
 have hL : L c = [] := (Option.some.inj hsl).symm
 obtain ⟨L2, h3⟩ := dir_wz hY h2 (cntX (nth t.raw 2)).toNat 0 L ({ z with q := r }, fun _ => false) hp (fun x => by rw [hL]; simp) ⟨t, ht, rfl, rfl⟩ hir
 have hd := dirZ_i hY (t := t) (cntX (nth t.raw 2)).toNat 0 ({ z with q := r }, fun _ => false) hp.inv ⟨t, ht, rfl⟩ hir
 have e : dirOf X Y A c { z with q := r } = (dirZ X Y A t.bk (cntX (nth t.raw 2)).toNat 0 ({ z with q := r }, fun _ => false)).1 := by
  unfold dirOf
  show (match z.T c with | none => _ | some t => _) = _
  rw [ht]
 rw [e]
 refine ⟨L2, h3.over (fun u hu _ => ?_)⟩
 obtain ⟨t2, ht2, hr2, -⟩ := hd.st.t c t ht
 rw [ht2] at hu; cases hu
 rw [hr2]; omega
theorem loop_wz {X Y : Int} (hY : 0 ≤ Y) {A : Nat → List Int} : ∀ (f : Nat) (L : Nat → List Ent) (z : LZ), WZ X Y A L 0 0 z → ∃ L2, WZ X Y A L2 0 0 (loopZ X Y A f z)
 | 0, L, z, h => ⟨L, h⟩
 | f + 1, L, z, h => by
  cases hq : z.q with
  | nil => rw [loopZ_nil _ _ _ _ _ hq]; exact ⟨L, h⟩
  | cons i r =>
   rw [loopZ_cons _ _ _ _ _ _ _ hq]
   obtain ⟨L2, h2⟩ := dirOf_wz hY h hq
   exact loop_wz hY f L2 _ h2
theorem q_nil {z : LZ} (h : potZ z ≤ 0) : z.q = [] := by
 have h2 : z.q.length + 2 * freeZ z ≤ 0 := h
 generalize freeZ z = n at h2
 exact List.length_eq_zero_iff.1 (by omega)
theorem loop_over {X Y : Int} (hY9 : Y < 4096) (A : Nat → List Int) (f : Nat) : ∀ (z : LZ), potZ z ≤ f → (loopZ X Y A f z).q = [] := by
 induction f with
 | zero => intro z h; exact q_nil h
 | succ f ih =>
  intro z h
  cases hq : z.q with
  | nil => rw [loopZ_nil _ _ _ _ _ hq]; exact hq
  | cons i r =>
   rw [loopZ_cons _ _ _ _ _ _ _ hq]
   refine ih _ ?_
   have h1 := pot_dir (X := X) hY9 A i.toNat { z with q := r }
   have h2 := pot_pop hq
   generalize potZ (dirOf X Y A i.toNat { z with q := r }) = a at *
   generalize potZ { z with q := r } = b at *
   generalize potZ z = c at *
   omega
noncomputable def inoW (ze : LZ) (i : Nat) : List Int := match ze.T i with | none => zl 128 | some t => (inoR (t.raw.set 1 t.en)).1
structure Two (X Y : Int) (A A' W : Nat → List Int) (ze : LZ) (allw : Prop) : Prop where
 Y0 : 0 ≤ Y
 ino : ∀ i : Nat, 1 ≤ i → (i : Int) ≤ Y → (A' i = A i ∨ A' i = inoW ze i) ∧ (allw → A' i = inoW ze i)
 inv : InvZ X Y A ze
structure Fin (X Y : Int) (A' W : Nat → List Int) (ze : LZ) (allw : Prop) (E : Nat → Prop) (z : LZ) : Prop where
 s : ∀ j : Nat, isD X Y j = true → z.st.cl j = true → ¬ pend z j → ¬ E j → z.st.S j = W j
 f : ∀ j : Nat, z.st.fm j = true → allw → A' j = W j
 t : ∀ i t, z.T i = some t → ∃ te, ze.T i = some te ∧ te.raw = t.raw ∧ te.bk = t.bk
theorem Fin.back {X Y : Int} {A' W : Nat → List Int} {ze : LZ} {allw : Prop} {E E2 : Nat → Prop} {z z2 : LZ} (h : Fin X Y A' W ze allw E2 z2) (hs : Stay X Y E E2 z z2) : Fin X Y A' W ze allw E z := by
 refine ⟨fun j h1 h2 h3 h4 => ?_, fun j hj ha => h.f j (hs.f j hj) ha, fun i t ht => ?_⟩
 ·obtain ⟨a, b, c, d⟩ := hs.s j h1 h2 h3 h4
  rw [← d]
  exact h.s j h1 a b c
 ·obtain ⟨t2, a, b, c⟩ := hs.t i t ht
  obtain ⟨te, d, e, f⟩ := h.t i t2 a
  exact ⟨te, d, e.trans b, f.trans c⟩
structure RZ (X Y : Int) (A' W : Nat → List Int) (allw : Prop) (z z' : LZ) : Prop where
 sd : Sd X Y allw W A' z.st.fm (bare z.st) (bare z'.st)
 q : z'.q = z.q
 n : ∀ i, z.T i = none → z'.T i = none
 t : ∀ i t, z.T i = some t → ∃ t', z'.T i = some t' ∧ t'.bk = t.bk ∧ t'.en = t.en ∧ (∀ j, j ≠ 1 → nth t'.raw j = nth t.raw j) ∧ t'.raw.length = 18
theorem pruned_may {l o : List Int} (h : InoMay l) (h0 : nth l 0 ≠ 0) (hl : o.length = 18) (e0 : nth o 0 = nth l 0) (e2 : nth o 2 = nth l 2) (e3 : nth o 3 = nth l 3) (hs : ∀ j, 4 ≤ j → nth o j = nth l j ∨ nth o j = 0) {n : Int} (hn0 : 0 ≤ n) (hn1 : n ≤ 100) : InoMay (o.set 1 n) := by
 have hset : ∀ j, j ≠ 1 → nth (o.set 1 n) j = nth o j := fun j hj => by
  unfold nth; rw [List.getElem?_set_ne (Ne.symm hj)]
 have hset1 : nth (o.set 1 n) 1 = n := by
  unfold nth; rw [List.getElem?_set_self (by omega)]; rfl
 unfold InoMay at h ⊢
 rw [if_neg h0] at h
 rw [if_neg (by rw [hset 0 (by omega), e0]; exact h0)]
 obtain ⟨⟨a, -, b, c⟩, d, e⟩ := h
 refine ⟨⟨by rw [hset 0 (by omega), e0]; exact a, by rw [hset1]; exact ⟨hn0, hn1⟩, by rw [hset 2 (by omega), e2]; exact b, by rw [hset 3 (by omega), e3]; exact c⟩, fun j h4 h18 => ?_, by rw [hset 0 (by omega), e0, hset 2 (by omega), e2]; exact e⟩
 rw [hset j (by omega)]
 rcases hs j h4 with h | h
 ·rw [h]; exact d j h4 h18
 ·rw [h]; omega
theorem sound_may {s : List Int} (h : soundR s = true) : InoMay (rdInoR s).1 ∧ nth (rdInoR s).1 0 ≠ 0 := by
 unfold soundR at h
 simp only [Bool.and_eq_true, decide_eq_true_eq, Bool.not_eq_true', decide_eq_false_iff_not] at h
 exact ⟨(ino_one h.1).1, h.2⟩
theorem nth_set_ne (o : List Int) (n : Int) {j : Nat} (hj : j ≠ 1) : nth (o.set 1 n) j = nth o j := by unfold nth; rw [List.getElem?_set_ne (Ne.symm hj)]
theorem inoW_reads {X Y : Int} {A : Nat → List Int} {ze : LZ} (h : InvZ X Y A ze) {i : Nat} {t : TI} (ht : ze.T i = some t) : rdInoR (inoW ze i) = (t.raw.set 1 t.en, 0) ∧ InoMay (t.raw.set 1 t.en) ∧ nth t.raw 0 ≠ 0 := by
 obtain ⟨hs, hl, e0, e2, e3, hsb⟩ := h.snd i t ht
 obtain ⟨n0, n1⟩ := h.en i t ht
 obtain ⟨m1, m2⟩ := sound_may hs
 have hm := pruned_may m1 m2 hl e0 e2 e3 hsb n0 n1
 have hlen : (t.raw.set 1 t.en).length = 18 := by rw [List.length_set]; exact hl
 have hw : inoW ze i = inoSec (t.raw.set 1 t.en) := by
  unfold inoW
  rw [ht]
  show (inoR (t.raw.set 1 t.en)).1 = _
  rw [inoR_yes hm]
 rw [hw]
 exact ⟨inoSec_reads hlen hm, hm, by rw [e0]; exact m2⟩
noncomputable def stepR (i : Nat) (z : LZ) : LZ :=
 match z.T i with
 | none => wipeZ i z
 | some t => { st := { z.st with S := updS z.st.S i (inoR (t.raw.set 1 t.en)).1 }, T := updT z.T i { t with raw := t.raw.set 1 t.en }, q := z.q }
noncomputable def loopR : Nat → Nat → LZ → LZ
 | 0, _, z => z
 | m + 1, k, z => loopR m (k + 1) (stepR k z)
theorem LW.turn {V : WE} {ob : Option Nat} {B : Nat → Option (Nat × Nat)} {z : LZ} {w : World} (h : LW V ob B z w) {i : Nat} {v : Nat × Nat} {t t' : TI} (hB : B i = some v) (ht : z.T i = some t) {j : Nat} {x : Value} (hbk : t'.bk = t.bk) (hl : t'.raw.length = 18) (h2 : nth t'.raw 2 = nth t.raw 2) (h0 : 0 ≤ t'.en) (h1 : t'.en ≤ 100)
  (hc : (inC t.raw t.en v.2).setIfInBounds j x = inC t'.raw t'.en v.2) :
  LW V ob B { z with T := updT z.T i t' } (w.setCell ⟨v.1, j, none⟩ x) := by
 have hf : Fr [v.1] w (w.setCell ⟨v.1, j, none⟩ x) := fr_setCell _ _ _ _
 obtain ⟨t0, ht', hg, hb, l1, l2, n1, n2⟩ := h.yes i v hB
 rw [ht] at ht'
 cases ht'
 have hm : ∀ k ∈ mineW V ob, k ∉ [v.1] := fun k hk hx => by
  rw [List.mem_singleton] at hx
  subst hx; exact n1 hk
 have hgi : V.gi ∉ [v.1] := fun hx => by
  rw [List.mem_singleton] at hx
  have := h.gi0; omega
 obtain ⟨tk, hpb, htk⟩ := h.pb
 obtain ⟨z1, z2, z3, z4, z5, z6, z7, z8⟩ := h.zi.t i t ht
 refine ⟨h.e0, h.qo, h.img, h.secs.same (hf.block _ h.secs.lt hgi), h.gi0, h.lo, Nat.le_trans h.sz hf.size, h.small, h.k.fr hf (hm _ (by simp [mineW])) (hm _ (by simp [mineW])) (hm _ (by simp [mineW])) (hm _ (by simp [mineW])),
  ⟨tk, hpb.same (hf.block _ hpb.lt (hm _ (by simp [mineW]))), htk⟩, fun j hj => ?_, fun j u hu => ?_, h.inj, h.q.fr hf (hm _ (by simp [mineW])) (fun g hg => hm _ (by simp [mineW, hg])), ⟨fun k t1 ht1 => ?_, fun k hk => ?_, ?_⟩⟩
 ·show updT z.T i _ j = none
  unfold updT
  rw [if_neg (fun e => by subst e; rw [hB] at hj; cases hj)]
  exact h.no j hj
 ·by_cases hji : j = i
  ·subst hji
   rw [hB] at hu
   cases hu
   refine ⟨t', by simp [updT], ?_, ?_, l1, l2, n1, n2⟩
   ·rw [hat_setCell_at _ _ _ _ _ _ _ hg, hc]
   ·rw [hbk]
    exact hb.same (hf.block _ hb.lt (fun hx => by
     rw [List.mem_singleton] at hx
     exact h.cross hB hB hx.symm))
  ·obtain ⟨t2, h1, h2, h3, h4⟩ := h.yes j u hu
   refine ⟨t2, by show updT z.T i _ j = _; unfold updT; rw [if_neg hji]; exact h1, (hf.block _ (hat_lt h2) (fun hx => ?_)).trans h2, h3.same (hf.block _ h3.lt (fun hx => ?_)), h4⟩
   ·rw [List.mem_singleton] at hx
    exact h.inj j i u v hu hB hji hx
   ·rw [List.mem_singleton] at hx
    exact h.cross hB hu hx.symm
 ·have ht2 : updT z.T i t' k = some t1 := ht1
  unfold updT at ht2
  split at ht2
  ·rename_i e
   subst e
   cases ht2
   exact ⟨z1, z2, hl, by rw [h2]; exact z4, by rw [h2]; exact z5, h0, h1, by rw [hbk]; exact z8⟩
  ·exact h.zi.t k t1 ht2
 ·obtain ⟨h0, t1, ht1⟩ := h.zi.q k hk
  refine ⟨h0, ?_⟩
  show ∃ t'', updT z.T i _ k.toNat = some t''
  unfold updT
  split
  ·exact ⟨_, rfl⟩
  ·exact ⟨t1, ht1⟩
 ·have := free_same (z' := { z with T := updT z.T i t' }) ht rfl
  have hp := h.zi.pot
  unfold potZ at *
  rw [this]
  exact hp
theorem inC_link {raw : List Int} (h : raw.length = 18) (en n : Int) (bx : Nat) : (inC raw en bx).setIfInBounds 1 (.int .i64 n) = inC (raw.set 1 n) en bx := by
 obtain ⟨a0, a1, a2, a3, a4, a5, a6, a7, a8, a9, b0, b1, b2, b3, b4, b5, b6, b7, rfl⟩ := list_18 h
 simp [inC, Array.setIfInBounds]
theorem ld_inC {raw : List Int} (h : raw.length = 18) (en : Int) (bx : Nat) (r : Result Value) (w : World) (t : TypeId) : ldRow r 18 0 w (some (.cells (inC raw en bx) t)) = .ok (.agg (IV .i64 raw)) w := by
 rw [ldRow_part (by rw [inC_size h]; omega)]
 obtain ⟨a0, a1, a2, a3, a4, a5, a6, a7, a8, a9, b0, b1, b2, b3, b4, b5, b6, b7, rfl⟩ := list_18 h
 simp [inC, IV]
theorem LW.store {V : WE} {ob : Option Nat} {B : Nat → Option (Nat × Nat)} {z : LZ} {w : World} (h : LW V ob B z w) {p : Nat} (hp : p < V.E.N) {s : List Int} (hl : s.length = 128) (hb : Bytes s) {cs : Array Value} (hcs : hat w V.E.gw = some (.cells cs 33)) :
  LW V ob B { z with st := { z.st with S := updS z.st.S p s } } (w.setRow V.E.gw (splice cs (p * 128) (IV .u8 s))) :=
 h.st (fr_setRow _ _ _) ⟨(hat_setRow _ _ _ _ h.e0.n1).trans h.k.look, h.k.want.store hcs hp hl hb, h.k.claim.same (hat_setRow _ _ _ _ h.e0.n4.symm), h.k.firm.same (hat_setRow _ _ _ _ h.e0.n5.symm)⟩
theorem updS_twice (S : Nat → List Int) (i : Nat) (a b : List Int) : updS (updS S i a) i b = updS S i b := by
 funext j
 unfold updS
 split <;> rfl
theorem inoR_bytes (l : List Int) : Bytes (inoR l).1 := by
 by_cases h : InoMay l
 ·simp only [inoR_yes h]; exact inoSec_bytes l
 ·simp only [inoR_no h]; exact bytes_zl 128
noncomputable def repS (Y : Int) (z : LZ) : Nat → List Int := fun j => if 1 ≤ j ∧ (j : Int) ≤ Y then (match z.T j with | none => zl 128 | some t => (inoR (t.raw.set 1 t.en)).1) else z.st.S j
theorem stepR_T (k : Nat) (z : LZ) (j : Nat) (h : j ≠ k) : (stepR k z).T j = z.T j := by
 unfold stepR
 split
 ·rfl
 ·show updT z.T k _ j = _
  unfold updT
  rw [if_neg h]
theorem stepR_S (k : Nat) (z : LZ) (j : Nat) : (stepR k z).st.S j = if j = k then (match z.T k with | none => zl 128 | some t => (inoR (t.raw.set 1 t.en)).1) else z.st.S j := by
 unfold stepR
 cases h : z.T k with
 | none => rfl
 | some t => rfl
theorem stepR_cl (k : Nat) (z : LZ) : (stepR k z).st.cl = z.st.cl ∧ (stepR k z).st.fm = z.st.fm ∧ ∀ j, ((stepR k z).T j).isSome = (z.T j).isSome := by
 unfold stepR
 cases h : z.T k with
 | none => exact ⟨rfl, rfl, fun _ => rfl⟩
 | some t =>
  refine ⟨rfl, rfl, fun j => ?_⟩
  show (updT z.T k _ j).isSome = _
  unfold updT
  by_cases hj : j = k
  ·subst hj; rw [if_pos rfl, h]; rfl
  ·rw [if_neg hj]
theorem loopR_all : ∀ (m k : Nat) (z : LZ), (loopR m k z).st.cl = z.st.cl ∧ (loopR m k z).st.fm = z.st.fm ∧ (∀ j, ((loopR m k z).T j).isSome = (z.T j).isSome) ∧
  ∀ j, (loopR m k z).st.S j = if k ≤ j ∧ j < k + m then (match z.T j with | none => zl 128 | some t => (inoR (t.raw.set 1 t.en)).1) else z.st.S j
 | 0, k, z => ⟨rfl, rfl, fun _ => rfl, fun j => by rw [if_neg (by omega)]; rfl⟩
 | m + 1, k, z => by
  obtain ⟨a1, a2, a3, a4⟩ := loopR_all m (k + 1) (stepR k z)
  obtain ⟨b1, b2, b3⟩ := stepR_cl k z
  refine ⟨a1.trans b1, a2.trans b2, fun j => (a3 j).trans (b3 j), fun j => ?_⟩
  show (loopR m (k + 1) (stepR k z)).st.S j = _
  rw [a4 j]
  by_cases h1 : k + 1 ≤ j ∧ j < k + 1 + m
  ·rw [if_pos h1, if_pos (by omega), stepR_T k z j (by omega)]
  ·rw [if_neg h1, stepR_S]
   by_cases h2 : j = k
   ·subst h2
    rw [if_pos rfl, if_pos (by omega)]
   ·rw [if_neg h2, if_neg (by omega)]
theorem loopR_S (Y : Nat) (z : LZ) : (loopR Y 1 z).st.S = repS Y z := by
 funext j
 rw [(loopR_all Y 1 z).2.2.2 j]
 unfold repS
 by_cases h : 1 ≤ j ∧ j < 1 + Y
 ·rw [if_pos h, if_pos (by omega)]
 ·rw [if_neg h, if_neg (by omega)]
end Go.Proofs.YthioepdgnbdohaaGreat
