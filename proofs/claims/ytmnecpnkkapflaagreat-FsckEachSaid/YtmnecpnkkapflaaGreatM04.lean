import Derived.Deep.AppendSrc
import Derived.Maps.AppendAt
import Derived.ProofKit
import Derived.Carry
import Derived.OpenShut
import Derived.Deep.Slices
import Derived.Deep.RegionHeld3
import Derived.Test.YtmnecpnkkapflaaGreatM01
import Derived.Test.YtmnecpnkkapflaaGreatM03
namespace Go.Proofs.YtmnecpnkkapflaaGreat
set_option maxHeartbeats 16000000
set_option maxRecDepth 1000000
set_option linter.unusedSimpArgs false
set_option linter.unusedVariables false
open Go.RowKit
def lkCells (X Y : Int) (img : Value) (gw N cw : Nat) (bc bt bf : Nat) (qf : Value) : Array Value :=
 #[.int .i64 X, .int .i64 Y, img, .slice (some ⟨gw, 0, none⟩) N cw, .map (some bc), .map (some bt), .map (some bf), qf]
@[go_sem] theorem ld_super (raw : Result Value) (w : World) (a b c d e f g h : Value) (t : TypeId) (fr : Nat × Nat) : ldRow raw 2 0 w (some (.cells #[a, b, c, d, e, f, g, h] t fr)) = .ok (.agg #[a, b]) w := by
 rw [ldRow_part (by simp)]; rfl
theorem good_yes (X Y p : Int) (img qf : Value) (gl gw N cw bc bt bf n : Nat) (s : Int → Bool) (w : World) (hl : hat w gl = some (.cells (lkCells X Y img gw N cw bc bt bf qf) 95)) (hc : MB w bc n s) (hn : n < maxLen) (hp : i64ok p)
  (hd : isD X Y p = true) (hs : s p = false) :
  Calls Tryz.prog 109 #[.pointer (some ⟨gl, 0, none⟩), .int .i64 p] w fun e w' => e = .returned (.bool true) ∧ ∃ w1, Below w.heap.size w w1 ∧ w1.mapTurned w' bc ∧ MB w' bc (n + 1) (fun q => s q || decide (q = p)) := by
 go_enter Tryz.func109, Tryz.ntmps109
 unfold lkCells at hl
 have HC := Lib.hid hc
 clear hc
 go_wp2_with fail
 refine (lisData_any X Y p _).mono ?_; rintro e w1 ⟨rfl, hb⟩
 rw [hd]
 obtain ⟨hl1, -⟩ := hop hb hl
 have hc1 := HC.out.same (hat_below hb HC.out.lt)
 have hlk := hc1.look hp
 rw [hs] at hlk
 obtain ⟨w2, hr, hm, ht⟩ := hc1.put hn hp
 have HM := Lib.hid hm
 have HT := Lib.hid ht
 have HB := Lib.hid hb
 clear hm ht hb hl hc1 HC
 go_wp2_with fail
 go_ret
 exact ⟨rfl, w1, HB.out, HT.out, HM.out⟩
theorem good_no (X Y p : Int) (img qf : Value) (gl gw N cw bc bt bf n : Nat) (s : Int → Bool) (w : World) (hl : hat w gl = some (.cells (lkCells X Y img gw N cw bc bt bf qf) 95)) (hc : MB w bc n s) (hp : i64ok p)
  (hd : isD X Y p = false ∨ s p = true) :
  Calls Tryz.prog 109 #[.pointer (some ⟨gl, 0, none⟩), .int .i64 p] w fun e w' => e = .returned (.bool false) ∧ Below w.heap.size w w' := by
 go_enter Tryz.func109, Tryz.ntmps109
 unfold lkCells at hl
 have HC := Lib.hid hc
 clear hc
 go_wp2_with fail
 refine (lisData_any X Y p _).mono ?_; rintro e w1 ⟨rfl, hb⟩
 obtain ⟨hl1, -⟩ := hop hb hl
 have hc1 := HC.out.same (hat_below hb HC.out.lt)
 have hlk := hc1.look hp
 clear hc1 HC hl
 cases hd2 : isD X Y p with
 | false =>
  clear hd
  go_wp2_with fail
  go_ret
  exact ⟨rfl, hb⟩
 | true =>
  rw [hd2] at hd
  have hs : s p = true := by rcases hd with h | h <;> first | cases h | exact h
  rw [hs] at hlk
  clear hd hs
  go_wp2_with fail
  go_ret
  exact ⟨rfl, hb⟩
theorem count_any (x : Nat) (cs : Array Value) (z : Int) (w : World) (hx : hat w x = some (.cells cs 102)) (hz : cs[2]? = some (.int .i64 z)) (h0 : 0 ≤ z) (h1 : z ≤ 136704) :
  Calls Tryz.prog 74 #[.pointer (some ⟨x, 0, none⟩)] w fun e w' => e = .returned (.int .i64 ((z + 127) / 128)) ∧ Below w.heap.size w w' := by
 go_enter Tryz.func74, Tryz.ntmps74
 go_wp2_with fail
 go_ret
 exact ⟨ret_int (by omega), Below.refl _ _⟩
noncomputable def supR (x y : Int) : List Int × Int := open Classical in if SupMay x y then (supSec x y, 0) else (zl 128, 60)
theorem supR_yes {x y : Int} (h : SupMay x y) : supR x y = (supSec x y, 0) := by unfold supR; rw [if_pos h]
theorem supR_no {x y : Int} (h : ¬ SupMay x y) : supR x y = (zl 128, 60) := by unfold supR; rw [if_neg h]
theorem supSec_length (x y : Int) : (supSec x y).length = 128 := by simp [supSec]; decide
@[go_sem, simp] theorem supR_length (x y : Int) : (supR x y).1.length = 128 := by
 by_cases h : SupMay x y
 ·simp only [supR_yes h]; exact supSec_length x y
 ·simp only [supR_no h, zl_length]
noncomputable def supV (x y : Int) : Value := .tuple #[.agg (IV .u8 (supR x y).1), .int .i64 (supR x y).2]
def In64 (x : Int) : Prop := -9223372036854775808 ≤ x ∧ x ≤ 9223372036854775807
noncomputable def rdSupR (s : List Int) : Int × Int × Int := open Classical in
 if SupMay (getB s 4 4) (getB s 8 4) ∧ supSec (getB s 4 4) (getB s 8 4) = s then (getB s 4 4, getB s 8 4, 0) else (0, 0, 60)
theorem rdSupV_eq (s : List Int) : rdSuperV s = .tuple #[.agg #[.int .i64 (rdSupR s).1, .int .i64 (rdSupR s).2.1], .int .i64 (rdSupR s).2.2] := by
 unfold rdSuperV rdSupR
 split <;> rfl
theorem lrdSup_any (s : List Int) (hs : s.length = 128) (hb : Bytes s) (w : World) :
  Calls Tryz.prog 47 #[.agg (IV .u8 s)] w fun e w' => e = .returned (.tuple #[.agg #[.int .i64 (rdSupR s).1, .int .i64 (rdSupR s).2.1], .int .i64 (rdSupR s).2.2]) ∧ Below w.heap.size w w' := by
 rw [← rdSupV_eq]; exact lreadSuper_any s hs hb w
theorem rrdSup_any (s : List Int) (hs : s.length = 128) (hb : Bytes s) (w : World) :
  Calls Tryz.prog 37 #[.agg (IV .u8 s)] w fun e w' => e = .returned (.tuple #[.agg #[.int .i64 (rdSupR s).1, .int .i64 (rdSupR s).2.1], .int .i64 (rdSupR s).2.2]) ∧ Below w.heap.size w w' := by
 rw [← rdSupV_eq]; exact rreadSuper_any s hs hb w
noncomputable def inoR (l : List Int) : List Int × Int := open Classical in if InoMay l then (inoSec l, 0) else (zl 128, 61)
theorem inoR_yes {l : List Int} (h : InoMay l) : inoR l = (inoSec l, 0) := by unfold inoR; rw [if_pos h]
theorem inoR_no {l : List Int} (h : ¬ InoMay l) : inoR l = (zl 128, 61) := by unfold inoR; rw [if_neg h]
@[go_sem, simp] theorem inoR_length (l : List Int) : (inoR l).1.length = 128 := by
 by_cases h : InoMay l
 ·simp only [inoR_yes h]; unfold inoSec; exact inoSecN_length _ _
 ·simp only [inoR_no h, zl_length]
theorem lino_any (l : List Int) (hl : l.length = 18) (w : World) :
  Calls Tryz.prog 88 #[.agg (IV .i64 l)] w fun e w' => e = .returned (.tuple #[.agg (IV .u8 (inoR l).1), .int .i64 (inoR l).2]) ∧ Below w.heap.size w w' := by
 by_cases h : InoMay l
 ·simp only [inoR_yes h]; exact linodeSector_ok l hl h w
 ·simp only [inoR_no h]; exact linodeSector_no l hl h w
noncomputable def rdInoR (s : List Int) : List Int × Int := open Classical in
 if InoMay (rdIno (getB s 8 8) s) ∧ inoSec (rdIno (getB s 8 8) s) = s then (rdIno (getB s 8 8) s, 0) else (zl 18, 61)
theorem rdInoV_eq (s : List Int) : rdInoV s = .tuple #[.agg (IV .i64 (rdInoR s).1), .int .i64 (rdInoR s).2] := by
 unfold rdInoV rdInoR
 split <;> rfl
@[go_sem, simp] theorem rdInoR_length (s : List Int) : (rdInoR s).1.length = 18 := by
 unfold rdInoR
 split
 ·exact rdIno_length _ _
 ·simp
theorem lrdIno_any (s : List Int) (hs : s.length = 128) (hb : Bytes s) (w : World) :
  Calls Tryz.prog 73 #[.agg (IV .u8 s)] w fun e w' => e = .returned (.tuple #[.agg (IV .i64 (rdInoR s).1), .int .i64 (rdInoR s).2]) ∧ Below w.heap.size w w' := by
 rw [← rdInoV_eq]; exact lreadInode_any s hs hb w
theorem rrdIno_any (s : List Int) (hs : s.length = 128) (hb : Bytes s) (w : World) :
  Calls Tryz.prog 38 #[.agg (IV .u8 s)] w fun e w' => e = .returned (.tuple #[.agg (IV .i64 (rdInoR s).1), .int .i64 (rdInoR s).2]) ∧ Below w.heap.size w w' := by
 rw [← rdInoV_eq]; exact rreadInode_any s hs hb w
noncomputable def ptrR (x : List Int) : List Int × Int := open Classical in if PtrMay x then (ptrSecN x 32, 0) else (zl 128, 62)
theorem ptrR_yes {l : List Int} (h : PtrMay l) : ptrR l = (ptrSecN l 32, 0) := by unfold ptrR; rw [if_pos h]
theorem ptrR_no {l : List Int} (h : ¬ PtrMay l) : ptrR l = (zl 128, 62) := by unfold ptrR; rw [if_neg h]
theorem ptrV_eq (x : List Int) : ptrV x = .tuple #[.agg (IV .u8 (ptrR x).1), .int .i64 (ptrR x).2] := by
 by_cases h : PtrMay x
 ·simp only [ptrV_yes h, ptrR_yes h]
 ·simp only [ptrV_no h, ptrR_no h]
@[go_sem, simp] theorem ptrR_length (l : List Int) : (ptrR l).1.length = 128 := by
 by_cases h : PtrMay l
 ·simp only [ptrR_yes h]; exact ptrSecN_length _ _
 ·simp only [ptrR_no h, zl_length]
theorem lptr_any (x : List Int) (hx : x.length = 32) (w : World) :
  Calls Tryz.prog 111 #[.agg (IV .i64 x)] w fun e w' => e = .returned (.tuple #[.agg (IV .u8 (ptrR x).1), .int .i64 (ptrR x).2]) ∧ Below w.heap.size w w' := by
 rw [← ptrV_eq]; exact lpointersSector_any x hx w
def rdSloR (s : List Int) : Int × ByteArray × Int := if slotR (getB s 0 4) (rdNm s) = (s, 0) then (getB s 0 4, rdNm s, 0) else (0, { data := #[] }, 63)
theorem rdSlotV_eq (s : List Int) : rdSlotV s = .tuple #[.agg #[.int .i64 (rdSloR s).1, .string (rdSloR s).2.1], .int .i64 (rdSloR s).2.2] := by
 unfold rdSlotV rdSloR
 split <;> rfl
theorem lrdSlo_any (s : List Int) (hs : s.length = 128) (hb : Bytes s) (w : World) :
  Calls Tryz.prog 86 #[.agg (IV .u8 s)] w fun e w' => e = .returned (.tuple #[.agg #[.int .i64 (rdSloR s).1, .string (rdSloR s).2.1], .int .i64 (rdSloR s).2.2]) ∧ Below w.heap.size w w' := by
 rw [← rdSlotV_eq]; exact lreadSlot_any s hs hb w
theorem rrdSlo_any (s : List Int) (hs : s.length = 128) (hb : Bytes s) (w : World) :
  Calls Tryz.prog 95 #[.agg (IV .u8 s)] w fun e w' => e = .returned (.tuple #[.agg #[.int .i64 (rdSloR s).1, .string (rdSloR s).2.1], .int .i64 (rdSloR s).2.2]) ∧ Below w.heap.size w w' := by
 rw [← rdSlotV_eq]; exact rreadSlot_any s hs hb w
theorem below_drew {B : Nat} {a w : World} (h : Below B a w) : Below B a w.drew := ⟨h.os, h.tape, h.output, h.size, h.block⟩
def Secs (w : World) (g o N : Nat) (S : Nat → List Int) : Prop := ∃ cs t fr, hat w g = some (.cells cs t fr) ∧ o + N * 128 ≤ cs.size ∧
 ∀ i, i < N → (S i).length = 128 ∧ Bytes (S i) ∧ cs.extract (o + i * 128) (o + i * 128 + 128) = IV .u8 (S i)
theorem Secs.lt {w : World} {g o N : Nat} {S : Nat → List Int} (h : Secs w g o N S) : g < w.heap.size := by
 obtain ⟨cs, t, fr, h1, -⟩ := h; exact hat_lt h1
theorem Secs.same {w w' : World} {g o N : Nat} {S : Nat → List Int} (h : Secs w g o N S) (he : hat w' g = hat w g) : Secs w' g o N S := by
 obtain ⟨cs, t, fr, h1, h2⟩ := h
 exact ⟨cs, t, fr, he.trans h1, h2⟩
theorem Secs.load {w : World} {g o N : Nat} {S : Nat → List Int} (h : Secs w g o N S) {i : Nat} (hi : i < N) :
  ∃ cs t fr, hat w g = some (.cells cs t fr) ∧ ∀ raw w', ldRow raw 128 (o + i * 128) w' (some (.cells cs t fr)) = .ok (.agg (IV .u8 (S i))) w' := by
 obtain ⟨cs, t, fr, h1, h2, h3⟩ := h
 refine ⟨cs, t, fr, h1, fun raw w' => ?_⟩
 rw [ldRow_part (by omega), (h3 i hi).2.2]
theorem Secs.len {w : World} {g o N : Nat} {S : Nat → List Int} (h : Secs w g o N S) {i : Nat} (hi : i < N) : (S i).length = 128 ∧ Bytes (S i) := by
 obtain ⟨cs, t, fr, h1, h2, h3⟩ := h
 exact ⟨(h3 i hi).1, (h3 i hi).2.1⟩
noncomputable def soundR (s : List Int) : Bool := decide ((rdInoR s).2 = 0) && !decide (nth (rdInoR s).1 0 = 0)
theorem sound_yes (X Y : Int) (qf : Value) (gi oi N ci : Nat) (S : Nat → List Int) (gl gw NW cw bc bt bf : Nat) (i : Nat) (w : World) (hl : hat w gl = some (.cells (lkCells X Y (.slice (some ⟨gi, oi, none⟩) N ci) gw NW cw bc bt bf qf) 95))
  (hS : Secs w gi oi N S) (h1 : 1 ≤ i) (hY : (i : Int) ≤ Y) (hN : Y < N) (hN2 : N ≤ 4096) :
  Calls Tryz.prog 49 #[.pointer (some ⟨gl, 0, none⟩), .int .i64 i] w fun e w' => e = .returned (.tuple #[.agg (IV .i64 (rdInoR (S i)).1), .bool (soundR (S i))]) ∧ Below w.heap.size w w' := by
 unfold lkCells at hl
 have hi : i < N := by omega
 obtain ⟨cs, t, fr, hcs, hld⟩ := hS.load hi
 obtain ⟨hlen, hby⟩ := hS.len hi
 have hcall := fun w => lrdIno_any (S i) hlen hby w
 have hrl := rdInoR_length (S i)
 unfold soundR
 generalize (rdInoR (S i)).1 = l at *
 generalize (rdInoR (S i)).2 = c at *
 have HCALL := Lib.hid hcall
 clear hcall
 have hgl := hat_lt hl
 have hgi := hat_lt hcs
 have d1 : decide ((i : Int) < 1) = false := decide_eq_false (by omega)
 have d2 : decide (Y < (i : Int)) = false := decide_eq_false (by omega)
 have hiN : (i : Int) < (N : Int) := by omega
 clear hS hlen hby
 go_enter Tryz.func49, Tryz.ntmps49
 go_wp2_with fail
 refine (HCALL.out _).mono ?_; rintro e w1 ⟨rfl, hb⟩
 have hsz := hb.size
 have hres : hat w1 w.heap.size = some (.cells (IV .i64 (zl 18)) 78) := (hat_below hb (hopN w _).2).trans (hopN w _).1
 have hlt : w.heap.size < w1.heap.size := hat_lt hres
 have hb0 : Below w.heap.size w w1 := ((Below.refl w.heap.size w).alloc (Nat.le_refl _) _).trans (hb.mono (by simp))
 have HB := Lib.hid hb0
 clear hb hsz hb0
 cases dc : (c == 0)
 ·go_wp2_with fail
  go_region
  go_wp2_with fail
  refine ret_ct row78 rfl (cs := IV .i64 l) rfl (hopA _ _ (hopS hres _).1).1 (by simp [hrl]) rfl ⟨?_, below_drew (below_new (below_setRow HB.out (Nat.le_refl _) _) (by simp; omega) _)⟩
  have hc0 : ¬ c = 0 := by simpa using dc
  simp [hc0]
 ·go_wp2_with fail
  go_region
  go_wp2_with fail
  refine ret_ct row78 rfl (cs := IV .i64 l) rfl (hopA _ _ (hopS hres _).1).1 (by simp [hrl]) rfl ⟨?_, below_drew (below_new (below_setRow HB.out (Nat.le_refl _) _) (by simp; omega) _)⟩
  have hc0 : c = 0 := by simpa using dc
  by_cases h0 : nth l 0 = 0 <;> simp [hc0, h0]
theorem getElem_opt {α : Type} {l : List α} {k : Nat} (h : k < l.length) : ∃ x, l[k]? = some x := ⟨l[k], List.getElem?_eq_getElem h⟩
theorem drop_cons {α : Type} {l : List α} {k : Nat} {x : α} (h : l[k]? = some x) : l.drop k = x :: l.drop (k + 1) := by
 obtain ⟨hk, rfl⟩ := List.getElem?_eq_some_iff.1 h
 exact List.drop_eq_getElem_cons hk
theorem set_mid {pre r : List Int} {p : Int} {k : Nat} (h : pre.length = k) : (pre ++ p :: r).set k 0 = (pre ++ [0]) ++ r := by
 subst h; simp
def siftP {σ : Type} (goodP : Int → σ → Bool × σ) (keepP : Nat → Int → σ → Bool × σ) (base step n : Int) : Nat → List Int → σ → List Int × Bool × σ
 | _, [], st => ([], false, st)
 | k, p :: r, st =>
  if p = 0 then (0 :: (siftP goodP keepP base step n (k + 1) r st).1, (siftP goodP keepP base step n (k + 1) r st).2.1, (siftP goodP keepP base step n (k + 1) r st).2.2)
  else if n ≤ base + step * k then (0 :: (siftP goodP keepP base step n (k + 1) r st).1, (siftP goodP keepP base step n (k + 1) r st).2.1, (siftP goodP keepP base step n (k + 1) r st).2.2)
  else if (goodP p st).1 = false then (0 :: (siftP goodP keepP base step n (k + 1) r (goodP p st).2).1, (siftP goodP keepP base step n (k + 1) r (goodP p st).2).2.1, (siftP goodP keepP base step n (k + 1) r (goodP p st).2).2.2)
  else if (keepP k p (goodP p st).2).1 = false then
   (0 :: (siftP goodP keepP base step n (k + 1) r (keepP k p (goodP p st).2).2).1, (siftP goodP keepP base step n (k + 1) r (keepP k p (goodP p st).2).2).2.1, (siftP goodP keepP base step n (k + 1) r (keepP k p (goodP p st).2).2).2.2)
  else (p :: (siftP goodP keepP base step n (k + 1) r (keepP k p (goodP p st).2).2).1, true, (siftP goodP keepP base step n (k + 1) r (keepP k p (goodP p st).2).2).2.2)
theorem siftP_cons {σ : Type} (goodP : Int → σ → Bool × σ) (keepP : Nat → Int → σ → Bool × σ) (base step n : Int) (k : Nat) (p : Int) (r : List Int) (st : σ) : siftP goodP keepP base step n k (p :: r) st =
  if p = 0 then (0 :: (siftP goodP keepP base step n (k + 1) r st).1, (siftP goodP keepP base step n (k + 1) r st).2.1, (siftP goodP keepP base step n (k + 1) r st).2.2)
  else if n ≤ base + step * k then (0 :: (siftP goodP keepP base step n (k + 1) r st).1, (siftP goodP keepP base step n (k + 1) r st).2.1, (siftP goodP keepP base step n (k + 1) r st).2.2)
  else if (goodP p st).1 = false then (0 :: (siftP goodP keepP base step n (k + 1) r (goodP p st).2).1, (siftP goodP keepP base step n (k + 1) r (goodP p st).2).2.1, (siftP goodP keepP base step n (k + 1) r (goodP p st).2).2.2)
  else if (keepP k p (goodP p st).2).1 = false then
   (0 :: (siftP goodP keepP base step n (k + 1) r (keepP k p (goodP p st).2).2).1, (siftP goodP keepP base step n (k + 1) r (keepP k p (goodP p st).2).2).2.1, (siftP goodP keepP base step n (k + 1) r (keepP k p (goodP p st).2).2).2.2)
  else (p :: (siftP goodP keepP base step n (k + 1) r (keepP k p (goodP p st).2).2).1, true, (siftP goodP keepP base step n (k + 1) r (keepP k p (goodP p st).2).2).2.2) := rfl
theorem siftP_len {σ : Type} (goodP : Int → σ → Bool × σ) (keepP : Nat → Int → σ → Bool × σ) (base step n : Int) : ∀ (r : List Int) (k : Nat) (st : σ), (siftP goodP keepP base step n k r st).1.length = r.length
 | [], _, _ => rfl
 | p :: r, k, st => by
  unfold siftP
  split
  ·simp [siftP_len goodP keepP base step n r]
  ·split
   ·simp [siftP_len goodP keepP base step n r]
   ·split
    ·simp [siftP_len goodP keepP base step n r]
    ·split
     ·simp [siftP_len goodP keepP base step n r]
     ·simp [siftP_len goodP keepP base step n r]
def Nums (w : World) (g o : Nat) (t : TypeId) (sz : Nat) (re : Nat → Option Value) (ps : List Int) : Prop := ∃ cs, hat w g = some (.cells cs t (0, 0)) ∧ cs.size = sz ∧ o + ps.length ≤ cs.size ∧ (∀ j p, ps[j]? = some p → cs[o + j]? = some (.int .i64 p)) ∧ ∀ j, (j < o ∨ o + ps.length ≤ j) → cs[j]? = re j
theorem Nums.same {w w' : World} {g o sz : Nat} {t : TypeId} {re : Nat → Option Value} {ps : List Int} (h : Nums w g o t sz re ps) (he : hat w' g = hat w g) : Nums w' g o t sz re ps := by
 obtain ⟨cs, h1, h2⟩ := h
 exact ⟨cs, he.trans h1, h2⟩
theorem Nums.cell {w : World} {g o j sz : Nat} {t : TypeId} {re : Nat → Option Value} {ps : List Int} {p : Int} (h : Nums w g o t sz re ps) (hj : ps[j]? = some p) : ∃ cs, hat w g = some (.cells cs t (0, 0)) ∧ cs[o + j]? = some (.int .i64 p) := by
 obtain ⟨cs, h1, h2, h3, h4, -⟩ := h
 exact ⟨cs, h1, h4 j p hj⟩
theorem Nums.lt {w : World} {g o sz : Nat} {t : TypeId} {re : Nat → Option Value} {ps : List Int} (h : Nums w g o t sz re ps) : g < w.heap.size := by
 obtain ⟨cs, h1, -⟩ := h; exact hat_lt h1
theorem Nums.zero {w : World} {g o j sz : Nat} {t : TypeId} {re : Nat → Option Value} {ps : List Int} (h : Nums w g o t sz re ps) (hj : j < ps.length) : Nums (w.setCell ⟨g, o + j, none⟩ (.int .i64 0)) g o t sz re (ps.set j 0) := by
 obtain ⟨cs, h1, h0, h2, h3, h4⟩ := h
 refine ⟨cs.setIfInBounds (o + j) (.int .i64 0), hat_setCell_at _ _ _ _ _ _ _ h1, by simpa using h0, by simpa using h2, fun i p hi => ?_, fun i hi => ?_⟩
 rotate_left
 ·rw [List.length_set] at hi
  rw [Array.getElem?_setIfInBounds, if_neg (by omega)]
  exact h4 i hi
 rw [List.getElem?_set] at hi
 rw [Array.getElem?_setIfInBounds]
 by_cases hij : j = i
 ·subst hij
  rw [if_pos rfl, if_pos hj] at hi
  obtain rfl := Option.some.inj hi
  rw [if_pos rfl, if_pos (by omega)]
 ·rw [if_neg hij] at hi
  rw [if_neg (by omega)]
  exact h3 i p hi
theorem Nums.all {w : World} {g : Nat} {t : TypeId} {re : Nat → Option Value} {ps : List Int} (h : Nums w g 0 t ps.length re ps) : hat w g = some (.cells (IV .i64 ps) t) := by
 obtain ⟨cs, h1, h0, h2, h3, -⟩ := h
 rw [h1]
 have : cs = IV .i64 ps := by
  apply Array.ext_getElem?
  intro j
  rw [IV_get?]
  by_cases hj : j < ps.length
  ·have h4 := h3 j ps[j] (List.getElem?_eq_getElem hj)
   rw [Nat.zero_add] at h4
   rw [h4, List.getElem?_eq_getElem hj]; rfl
  ·rw [Array.getElem?_eq_none (by omega), List.getElem?_eq_none (by omega)]; rfl
 rw [this]
theorem sift_any {σ : Type} (goodP : Int → σ → Bool × σ) (keepP : Nat → Int → σ → Bool × σ) (base step n : Int) (I : World → σ → Prop) (lv : Value) (f : Nat) (caps : Array Value) (gp op cp sz : Nat) (tg : TypeId) (re : Nat → Option Value) (ps : List Int) (st : σ) (w : World)
  (hf : ∀ args w, (callFunc f args).run Tryz.prog w = .ok (.enter f args) w) (hI : I w st) (hN : Nums w gp op tg sz re ps) (hc : ps.length ≤ cp) (hm : ps.length ≤ 32) (h0 : 0 ≤ base) (h1 : base ≤ 2000) (h2 : 0 ≤ step) (h3 : step ≤ 100) (h4 : 0 ≤ n) (h5 : n ≤ 100000) (hp : ∀ p ∈ ps, 0 ≤ p ∧ p ≤ 4294967295)
  (hset : ∀ w st j v, op ≤ j → j < op + ps.length → I w st → I (w.setCell ⟨gp, j, none⟩ v) st)
  (hgood : ∀ p st w, 0 ≤ p → p ≤ 4294967295 → I w st → Calls Tryz.prog 109 #[lv, .int .i64 p] w fun e w' => e = .returned (.bool (goodP p st).1) ∧ I w' (goodP p st).2 ∧ hat w' gp = hat w gp)
  (hkeep : ∀ (k : Nat) p st w, k < ps.length → 0 ≤ p → p ≤ 4294967295 → (∃ s0, (goodP p s0).1 = true) → I w st → Calls Tryz.prog f (#[.int .i64 k, .int .i64 p] ++ caps) w fun e w' => e = .returned (.bool (keepP k p st).1) ∧ I w' (keepP k p st).2 ∧ hat w' gp = hat w gp) :
  Calls Tryz.prog 76 #[lv, .slice (some ⟨gp, op, none⟩) ps.length cp, .int .i64 base, .int .i64 step, .int .i64 n, .func (.func f) #[] caps] w fun e w' =>
   e = .returned (.bool (siftP goodP keepP base step n 0 ps st).2.1) ∧ I w' (siftP goodP keepP base step n 0 ps st).2.2 ∧ Nums w' gp op tg sz re (siftP goodP keepP base step n 0 ps st).1 := by
 have HI := Lib.hid hI
 have HN := Lib.hid hN
 have HS := Lib.hid hset
 have HG := Lib.hid hgood
 have HK := Lib.hid hkeep
 have HP := Lib.hid hp
 clear hI hN hset hgood hkeep hp
 generalize hM : ps.length = M at *
 have HM := Lib.hid hM
 clear hM
 go_enter Tryz.func76, Tryz.ntmps76
 go_wp2_with fail
 go_loopw [13, 18] (fun lf i wr => ∃ (k : Nat) (pre : List Int) (b : Bool) (st' : σ), k ≤ M ∧ i = .int .i64 k ∧ lf = .bool b ∧ pre.length = k ∧ I wr st' ∧ Nums wr gp op tg sz re (pre ++ ps.drop k) ∧
   siftP goodP keepP base step n 0 ps st = (pre ++ (siftP goodP keepP base step n k (ps.drop k) st').1, b || (siftP goodP keepP base step n k (ps.drop k) st').2.1, (siftP goodP keepP base step n k (ps.drop k) st').2.2)) (fun _ i _ => M - (intOf i).toNat)
 case atStart => exact ⟨0, [], false, st, Nat.zero_le _, rfl, rfl, rfl, HI.out, by simpa using HN.out, by simp⟩
 case round =>
  obtain ⟨k, pre, b, st', hk, rfl, rfl, hpl, hI, hN, he⟩ := hrel
  have HI := Lib.hid hI
  have HN := Lib.hid hN
  have HE := Lib.hid he
  have HL := Lib.hid hpl
  clear hI hN he hpl
  by_cases hkM : k < M
  ·obtain ⟨p, hpk⟩ := getElem_opt (l := ps) (k := k) (by rw [HM.out]; exact hkM)
   have hdr := drop_cons hpk
   have hpb := HP.out p (List.mem_of_getElem? hpk)
   obtain ⟨hpb0, hpb1⟩ := hpb
   have hE := HE.out
   rw [hdr, siftP_cons] at hE
   have hcell := HN.out.cell (j := k) (p := p) (by rw [List.getElem?_append_right (by rw [HL.out]; exact Nat.le_refl _), HL.out, Nat.sub_self, hdr]; rfl)
   obtain ⟨cs, hcs, hck⟩ := hcell
   have hki0 : (0 : Int) ≤ (k : Int) := Int.natCast_nonneg _
   have hki1 : (k : Int) < (M : Int) := by omega
   have HD := Lib.hid hdr
   clear hdr HE
   by_cases hp0 : p = 0
   ·rw [if_pos hp0] at hE
    have HE := Lib.hid hE
    have dp : (p == 0) = true := by simpa using hp0
    clear hE
    go_wp2_with fail
    go_roundw
    case rel =>
     refine ⟨k + 1, pre ++ [0], b, st', by omega, by go_num, rfl, by simp [HL.out], HI.out, ?_, ?_⟩
     ·have h := HN.out
      rw [HD.out, hp0] at h
      simpa using h
     ·rw [HE.out]; simp
    case measure => (show M - (k + 1) < M - k); omega
   ·rw [if_neg hp0] at hE
    have dp : (p == 0) = false := by simpa using hp0
    have hks : 0 ≤ step * (k : Int) ∧ step * (k : Int) ≤ 3200 := ⟨Int.mul_nonneg h2 hki0, by have := Int.mul_le_mul h3 (show (k : Int) ≤ 32 by omega) hki0 (by omega); omega⟩
    obtain ⟨hks0, hks1⟩ := hks
    generalize hSK : step * (k : Int) = SK at *
    by_cases hnb : n ≤ base + SK
    ·rw [if_pos hnb] at hE
     have HE := Lib.hid hE
     have dn : decide (n ≤ base + SK) = true := decide_eq_true hnb
     clear hE
     have hz := HN.out.zero (j := k) (by simp [HL.out, HD.out])
     rw [HD.out, set_mid HL.out] at hz
     have HZ := Lib.hid hz
     clear hz
     go_wp2_with fail
     go_roundw
     case rel => exact ⟨k + 1, pre ++ [0], b, st', by omega, by go_num, rfl, by simp [HL.out], HS.out _ _ _ _ (by omega) (by omega) HI.out, HZ.out, by rw [HE.out]; simp⟩
     case measure => (show M - (k + 1) < M - k); omega
    ·rw [if_neg hnb] at hE
     have dn : decide (n ≤ base + SK) = false := decide_eq_false hnb
     have HE := Lib.hid hE
     clear hE
     go_wp2_with fail
     refine (HG.out p st' wr hpb0 hpb1 HI.out).mono ?_; rintro e w2 ⟨rfl, hI2, hg2⟩
     have HI2 := Lib.hid hI2
     have hcs2 := hg2.trans hcs
     have hN2 := HN.out.same hg2
     have hz := (hN2.zero (j := k) (by simp [HL.out, HD.out]))
     have hd2 := hN2
     rw [HD.out, set_mid HL.out] at hz
     have HZ := Lib.hid hz
     have HN2 := Lib.hid hN2
     clear hI2 hz hd2 hN2 hg2
     cases hgb : (goodP p st').1 with
     | false =>
      have hE := HE.out
      rw [if_pos hgb] at hE
      have HE := Lib.hid hE
      clear hE hgb
      go_wp2_with fail
      go_roundw
      case rel => exact ⟨k + 1, pre ++ [0], b, (goodP p st').2, by omega, by go_num, rfl, by simp [HL.out], HS.out _ _ _ _ (by omega) (by omega) HI2.out, HZ.out, by rw [HE.out]; simp⟩
      case measure => (show M - (k + 1) < M - k); omega
     | true =>
      have hE := HE.out
      rw [if_neg (by rw [hgb]; decide)] at hE
      have HE := Lib.hid hE
      have HGB : Hid (∃ s0, (goodP p s0).1 = true) := Lib.hid ⟨st', hgb⟩
      clear hE hgb
      go_wp2_with fail
      refine (HK.out k p (goodP p st').2 w2 hkM hpb0 hpb1 HGB.out HI2.out).mono ?_; rintro e w3 ⟨rfl, hI3, hg3⟩
      have HI3 := Lib.hid hI3
      have hcs3 := hg3.trans hcs2
      have hN3 := HN2.out.same hg3
      have hz := (hN3.zero (j := k) (by simp [HL.out, HD.out]))
      have hd3 := hN3
      rw [HD.out, set_mid HL.out] at hz
      rw [HD.out] at hd3
      have HZ := Lib.hid hz
      have HD3 := Lib.hid hd3
      clear hI3 hz hd3 hN3 hg3 hcs2
      cases hkb : (keepP k p (goodP p st').2).1 with
      | false =>
       have hE := HE.out
       rw [if_pos hkb] at hE
       have HE := Lib.hid hE
       clear hE hkb
       go_wp2_with fail
       go_roundw
       case rel => exact ⟨k + 1, pre ++ [0], b, (keepP k p (goodP p st').2).2, by omega, by go_num, rfl, by simp [HL.out], HS.out _ _ _ _ (by omega) (by omega) HI3.out, HZ.out, by rw [HE.out]; simp⟩
       case measure => (show M - (k + 1) < M - k); omega
      | true =>
       have hE := HE.out
       rw [if_neg (by rw [hkb]; decide)] at hE
       have HE := Lib.hid hE
       clear hE hkb
       go_wp2_with fail
       go_roundw
       case rel => exact ⟨k + 1, pre ++ [p], true, (keepP k p (goodP p st').2).2, by omega, by go_num, rfl, by simp [HL.out], HI3.out, by simpa using HD3.out, by rw [HE.out]; simp⟩
       case measure => (show M - (k + 1) < M - k); omega
  ·obtain rfl : k = M := by omega
   have hdr : ps.drop k = [] := List.drop_of_length_le (by rw [HM.out]; exact Nat.le_refl _)
   have hE := HE.out
   have hNN := HN.out
   rw [hdr] at hE hNN
   simp [siftP] at hE hNN
   have HNN := Lib.hid hNN
   have HE := Lib.hid hE
   clear hE hNN hdr HN
   go_wp2_with fail
   go_ret
   rw [HE.out]
   exact ⟨rfl, HI.out, HNN.out⟩
theorem filter_one (n : Nat) : ∀ l : List Nat, l.Pairwise (· ≠ ·) → l.length ≤ (l.filter fun x => x != n).length + 1
 | [], _ => by simp
 | x :: r, hp => by
  rw [List.pairwise_cons] at hp
  by_cases hx : x = n
  ·subst hx
   have hr : r.filter (fun y => y != x) = r := by
    rw [List.filter_eq_self]
    intro y hy
    have := hp.1 y hy
    simpa using fun e => this e.symm
   rw [List.filter_cons_of_neg (by simp), hr]
   simp
  ·rw [List.filter_cons_of_pos (by simpa using hx)]
   have := filter_one n r hp.2
   rw [List.length_cons, List.length_cons]; omega
theorem few_nats : ∀ (n : Nat) (l : List Nat), l.Pairwise (· ≠ ·) → (∀ x ∈ l, x < n) → l.length ≤ n
 | 0, l, _, h => by
  cases l with
  | nil => simp
  | cons x r => exact absurd (h x (by simp)) (by omega)
 | n + 1, l, hp, h => by
  have h1 : (l.filter fun x => x != n).length ≤ n := few_nats n _ (hp.filter _) (fun x hx => by
   rw [List.mem_filter] at hx
   have := h x hx.1
   have h2 : x ≠ n := by simpa using hx.2
   omega)
  have := filter_one n l hp
  omega
def keyNat : Lit → Nat
 | .int _ p => p.toNat
 | _ => 0
theorem map_apart {α : Type} (l : List α) (f : α → Nat) (R : α → α → Prop) (hp : l.Pairwise R) (hf : ∀ a ∈ l, ∀ b ∈ l, R a b → f a ≠ f b) : (l.map f).Pairwise (· ≠ ·) := by
 induction l with
 | nil => simp
 | cons x r ih =>
  rw [List.pairwise_cons] at hp
  rw [List.map_cons, List.pairwise_cons]
  refine ⟨fun y hy => ?_, ih hp.2 (fun a ha b hb => hf a (by simp [ha]) b (by simp [hb]))⟩
  obtain ⟨z, hz, rfl⟩ := List.mem_map.1 hy
  exact hf x (by simp) z (by simp [hz]) (hp.1 z hz)
theorem i64_of_wf {p : Int} (h : (Lit.int .i64 p).wf = true) : i64ok p := by
 simp [Lit.wf, IntKind.min, IntKind.max, IntKind.signed, IntKind.bits] at h
 exact ⟨by omega, by omega⟩
theorem own_tight {w : World} {R : Value → Option (DataW Unit × List MemPlace)} {b n : Nat} {D : DataW Unit} (h : w.ownsMap Tryz.prog 3 R b n D) (hk : ∀ p, i64ok p → Go.Maps.has D (.int .i64 p) = true → 0 ≤ p ∧ p < 4096) : w.ownsMap Tryz.prog 3 R b 4096 D := by
 have htidy := h.tidy (Go.Maps.int_keyed Tryz.underlying3)
 obtain ⟨es, clock, hb, F, hs, hD⟩ := h
 refine ⟨es, clock, hb, F, ?_, hD⟩
 obtain ⟨l, hl, hp⟩ := htidy
 have hlen : es.size = l.length := by
  rw [hl] at hD
  injection hD with hD
  have h2 := congrArg List.length hD
  rw [length_sorted] at h2
  simpa using h2.symm
 have hkey : ∀ x ∈ l, ∃ p : Int, x.1 = .int .i64 p ∧ 0 ≤ p ∧ p < 4096 := fun x hx => by
  have hx0 := hx
  rw [hl] at hD
  injection hD with hD
  rw [hD] at hx
  have hx2 := (WideShapes.sorted_perm _).mem_iff.1 hx
  obtain ⟨v, hv⟩ := Go.Maps.fit_keys F x hx2
  have hkl : WideAt.IsKeyLit x.1 := (Go.Maps.int_keyed Tryz.underlying3).key hv
  obtain ⟨p, -, h1, hw⟩ := Go.Maps.keyOf_int_inv Tryz.underlying3 hv
  have hhas : Go.Maps.has D (.int .i64 p) = true := by
   rw [hl, ← h1]
   show l.any _ = true
   rw [List.any_eq_true]
   exact ⟨x, hx0, WideAt.sameKey_self hkl⟩
  exact ⟨p, h1, hk p (i64_of_wf hw) hhas⟩
 rw [hlen]
 have := few_nats 4096 (l.map fun x => keyNat x.1) (map_apart l _ _ hp (fun a ha b hb hab e => by
  obtain ⟨p, h1, h2, h3⟩ := hkey a ha
  obtain ⟨q, h4, h5, h6⟩ := hkey b hb
  rw [h1, h4] at hab e
  simp only [keyNat] at e
  exact hab (by rw [show p = q by omega]))) (fun x hx => by
  obtain ⟨z, hz, rfl⟩ := List.mem_map.1 hx
  obtain ⟨p, h1, h2, h3⟩ := hkey z hz
  rw [h1]
  simp only [keyNat]; omega)
 simpa using this
def SB (w : World) (b : Nat) (s : Int → Bool) : Prop := MB w b 4096 s ∧ ∀ p, s p = true → 0 ≤ p ∧ p < 4096
theorem MB.tight {w : World} {b n : Nat} {s : Int → Bool} (h : MB w b n s) (hs : ∀ p, s p = true → 0 ≤ p ∧ p < 4096) : SB w b s := by
 obtain ⟨D, h1, h2, h3, h4⟩ := h
 exact ⟨⟨D, own_tight h1 (fun p hp hh => hs p (by rw [← h3 p hp]; exact hh)), h2, h3, h4⟩, hs⟩
theorem SB.same {w w' : World} {b : Nat} {s : Int → Bool} (h : SB w b s) (he : hat w' b = hat w b) : SB w' b s := ⟨h.1.same he, h.2⟩
theorem SB.lt {w : World} {b : Nat} {s : Int → Bool} (h : SB w b s) : b < w.heap.size := h.1.lt
def addS (s : Int → Bool) (p : Int) : Int → Bool := fun q => s q || decide (q = p)
def delS (s : Int → Bool) (p : Int) : Int → Bool := fun q => s q && !decide (q = p)
theorem MB.added {w : World} {b n : Nat} {s : Int → Bool} {p : Int} (h : MB w b n (fun q => s q || decide (q = p))) (hs : ∀ p, s p = true → 0 ≤ p ∧ p < 4096) (hp : 0 ≤ p ∧ p < 4096) : SB w b (addS s p) := by
 refine MB.tight (s := addS s p) h fun q hq => ?_
 have hq2 : s q = true ∨ q = p := by simpa [addS] using hq
 rcases hq2 with hq | rfl
 ·exact hs q hq
 ·exact hp
theorem i64_small {p : Int} (h0 : 0 ≤ p) (h1 : p ≤ 4294967295) : i64ok p := ⟨by omega, by omega⟩
theorem SB.put {w : World} {b : Nat} {s : Int → Bool} (h : SB w b s) {p : Int} (hp : 0 ≤ p ∧ p < 4096) :
  ∃ w', (Instr.mapUpdate 91 (.map (some b)) (.int .i64 p) (.bool true)).run Tryz.prog w = .ok () w' ∧ SB w' b (addS s p) ∧ w.mapTurned w' b := by
 obtain ⟨w', h1, h2, h3⟩ := h.1.put (by unfold maxLen; omega) (p := p) (i64_small hp.1 (by omega))
 exact ⟨w', h1, h2.added h.2 hp, h3⟩
theorem SB.del {w : World} {b : Nat} {s : Int → Bool} (h : SB w b s) {p : Int} (hp : 0 ≤ p ∧ p ≤ 4294967295) (ty : TypeId) :
  ∃ w', (Builtin.delete_ #[91, 3] ty #[.map (some b), .int .i64 p]).run Tryz.prog w = .ok (.tuple #[]) w' ∧ SB w' b (delS s p) ∧ w.mapTurned w' b := by
 obtain ⟨w', h1, h2, h3⟩ := h.1.del (p := p) (i64_small hp.1 hp.2) ty
 refine ⟨w', h1, MB.tight (s := delS s p) h2 fun q hq => ?_, h3⟩
 have hq2 : s q = true ∧ ¬ q = p := by simpa [delS] using hq
 exact h.2 q hq2.1
def MI (w : World) (b n : Nat) (f : Int → Option Int) : Prop :=
 ∃ D : DataW Unit, w.ownsMap Tryz.prog 3 (plainElem Tryz.prog 3) b n D ∧ Go.Maps.IsMap D ∧ (∀ p, i64ok p → Go.Maps.has D (.int .i64 p) = (f p).isSome) ∧ ∀ p, i64ok p → D.atKey (.int .i64 p) (.lit (.int .i64 0)) = .lit (.int .i64 ((f p).getD 0))
theorem MI.lt {w : World} {b n : Nat} {f : Int → Option Int} (h : MI w b n f) : b < w.heap.size := by
 obtain ⟨D, h1, -⟩ := h; exact h1.lt
theorem MI.same {w w' : World} {b n : Nat} {f : Int → Option Int} (h : MI w b n f) (he : hat w' b = hat w b) : MI w' b n f := by
 obtain ⟨D, ⟨es, clock, hb, h1⟩, h2⟩ := h
 exact ⟨D, ⟨es, clock, he.trans hb, h1⟩, h2⟩
theorem MI.made (w : World) : MI (w.alloc (.map #[] 0)) w.heap.size 0 (fun _ => none) :=
 ⟨.map [], World.ownsMap_made w _ _ _, Go.Maps.isMap_empty, fun _ _ => rfl, fun _ _ => rfl⟩
theorem zeroInt (w : World) : (zeroValue 3).run Tryz.prog w = .ok (.int .i64 0) w := by kernel_rfl
theorem plainInt_mk {a : Int} (h : i64ok a) : plainElem (H := Unit) Tryz.prog 3 (.int .i64 a) = some (.lit (.int .i64 a), []) := plainElem_int Tryz.underlying3 (i64wf h)
theorem MI.look {w : World} {b n : Nat} {f : Int → Option Int} (h : MI w b n f) {p : Int} (hp : i64ok p) :
  (Instr.lookup 100 (.map (some b)) (.int .i64 p) true).run Tryz.prog w = .ok (.tuple #[.int .i64 ((f p).getD 0), .bool (f p).isSome]) w := by
 obtain ⟨D, h1, -, h2, h3⟩ := h
 obtain ⟨v, ps, hr, hv⟩ := h1.look_ok (Go.Maps.int_keyed Tryz.underlying3) Tryz.underlying100 (zeroInt w) (zd := .lit (.int .i64 0)) (zp := []) (plainInt_mk ⟨by omega, by omega⟩) (keyInt hp)
 rw [h3 p hp] at hv
 obtain ⟨a, rfl, ha, -⟩ := plainElem_int_inv Tryz.underlying3 hv
 have ha2 : (f p).getD 0 = a := by
  have := congrArg Prod.fst ha
  simpa using this
 rw [h2 p hp, ← ha2] at hr
 exact hr
def putI (f : Int → Option Int) (p a : Int) : Int → Option Int := fun q => if q = p then some a else f q
theorem MI.put {w : World} {b n : Nat} {f : Int → Option Int} (h : MI w b n f) (hn : n < maxLen) {p a : Int} (hp : i64ok p) (ha : i64ok a) :
  ∃ w', (Instr.mapUpdate 100 (.map (some b)) (.int .i64 p) (.int .i64 a)).run Tryz.prog w = .ok () w' ∧ MI w' b (n + 1) (putI f p a) ∧ w.mapTurned w' b := by
 obtain ⟨D, h1, h0, h2, h3⟩ := h
 obtain ⟨w', hr, ho, ht⟩ := h1.store (Go.Maps.int_keyed Tryz.underlying3) Tryz.underlying100 hn (keyInt hp) (d := .lit (.int .i64 a)) (ps := []) (val := .int .i64 a) (plainInt_mk ha)
 refine ⟨w', hr, ⟨_, ho, h0.put _ _, fun q hq => ?_, fun q hq => ?_⟩, ht⟩
 ·unfold putI
  by_cases hqp : q = p
  ·subst hqp
   rw [Go.Maps.has_put_same h0 (keyInt_is hq)]; simp
  ·rw [Go.Maps.has_put_other (litInt_ne hqp), h2 q hq, if_neg hqp]
 ·unfold putI
  by_cases hqp : q = p
  ·subst hqp
   rw [Go.Maps.atKey_put_same h0 (keyInt_is hq)]; simp
  ·rw [Go.Maps.atKey_put_other (litInt_ne hqp), h3 q hq, if_neg hqp]
def IB (w : World) (b : Nat) (f : Int → Option Int) : Prop := MI w b 4096 f ∧ ∀ p, (f p).isSome = true → 0 ≤ p ∧ p < 4096
theorem MI.tight {w : World} {b n : Nat} {f : Int → Option Int} (h : MI w b n f) (hs : ∀ p, (f p).isSome = true → 0 ≤ p ∧ p < 4096) : IB w b f := by
 obtain ⟨D, h1, h2, h3, h4⟩ := h
 exact ⟨⟨D, own_tight h1 (fun p hp hh => hs p (by rw [← h3 p hp]; exact hh)), h2, h3, h4⟩, hs⟩
theorem IB.same {w w' : World} {b : Nat} {f : Int → Option Int} (h : IB w b f) (he : hat w' b = hat w b) : IB w' b f := ⟨h.1.same he, h.2⟩
theorem IB.lt {w : World} {b : Nat} {f : Int → Option Int} (h : IB w b f) : b < w.heap.size := h.1.lt
theorem IB.put {w : World} {b : Nat} {f : Int → Option Int} (h : IB w b f) {p a : Int} (hp : 0 ≤ p ∧ p < 4096) (ha : i64ok a) :
  ∃ w', (Instr.mapUpdate 100 (.map (some b)) (.int .i64 p) (.int .i64 a)).run Tryz.prog w = .ok () w' ∧ IB w' b (putI f p a) ∧ w.mapTurned w' b := by
 obtain ⟨w', h1, h2, h3⟩ := h.1.put (by unfold maxLen; omega) (p := p) (i64_small hp.1 (by omega)) ha
 refine ⟨w', h1, h2.tight fun q hq => ?_, h3⟩
 unfold putI at hq
 by_cases hqp : q = p
 ·subst hqp; exact hp
 ·rw [if_neg hqp] at hq
  exact h.2 q hq
structure Fr (ex : List Nat) (w w' : World) : Prop where
 os : w'.os = w.os
 tape : w'.tape = w.tape
 output : w'.output = w.output
 size : w.heap.size ≤ w'.heap.size
 block : ∀ b, b < w.heap.size → b ∉ ex → hat w' b = hat w b
theorem Fr.refl (ex : List Nat) (w : World) : Fr ex w w := ⟨rfl, rfl, rfl, Nat.le_refl _, fun _ _ _ => rfl⟩
theorem Fr.trans {ex : List Nat} {a b c : World} (h : Fr ex a b) (h2 : Fr ex b c) : Fr ex a c :=
 ⟨h2.os.trans h.os, h2.tape.trans h.tape, h2.output.trans h.output, Nat.le_trans h.size h2.size, fun k hk hn => (h2.block k (Nat.lt_of_lt_of_le hk h.size) hn).trans (h.block k hk hn)⟩
theorem Fr.mono {ex ex' : List Nat} {a b : World} (h : Fr ex a b) (hs : ∀ k ∈ ex, k ∈ ex') : Fr ex' a b :=
 ⟨h.os, h.tape, h.output, h.size, fun k hk hn => h.block k hk fun hm => hn (hs k hm)⟩
theorem fr_below {w w' : World} (h : Below w.heap.size w w') (ex : List Nat) : Fr ex w w' := ⟨h.os, h.tape, h.output, h.size, fun b hb _ => h.block b hb⟩
theorem fr_turned {w w' : World} {b : Nat} (h : w.mapTurned w' b) : Fr [b] w w' :=
 ⟨h.grown.os, h.grown.tape, h.grown.output, h.grown.size, fun k hk hn => turned_hat h (by simpa using hn) hk⟩
theorem fr_setRow (w : World) (g : Nat) (cs : Array Value) : Fr [g] w (w.setRow g cs) :=
 ⟨(below_setRow (Below.refl 0 w) (Nat.zero_le _) cs).os, (below_setRow (Below.refl 0 w) (Nat.zero_le _) cs).tape, (below_setRow (Below.refl 0 w) (Nat.zero_le _) cs).output, (below_setRow (Below.refl 0 w) (Nat.zero_le _) cs).size, fun k hk hn => hat_setRow _ _ _ _ (by simpa using hn)⟩
theorem fr_setCell (w : World) (g i : Nat) (v : Value) : Fr [g] w (w.setCell ⟨g, i, none⟩ v) :=
 ⟨rfl, rfl, rfl, by simp [World.setCell], fun k hk hn => hat_setCell _ ⟨g, i, none⟩ _ _ (by simpa using hn)⟩
theorem fr_drew {ex : List Nat} {a w : World} (h : Fr ex a w) : Fr ex a w.drew := ⟨h.os, h.tape, h.output, h.size, h.block⟩
theorem Fr.below {ex : List Nat} {w w' : World} {B : Nat} (h : Fr ex w w') (hB : B ≤ w.heap.size) (he : ∀ k ∈ ex, B ≤ k) : Below B w w' :=
 ⟨h.os, h.tape, h.output, h.size, fun k hk => h.block k (Nat.lt_of_lt_of_le hk hB) fun hm => by have := he k hm; omega⟩
structure Env where
 (gl gw N bc bt bf bx cw : Nat)
 (X Y : Int)
 (img qf : Value)
def WSecs (w : World) (g N c : Nat) (S : Nat → List Int) : Prop := ∃ cs, hat w g = some (.cells cs 47) ∧ (N * 128 ≤ cs.size ∧ c * 128 ≤ cs.size) ∧
 ∀ i, i < N → (S i).length = 128 ∧ Bytes (S i) ∧ cs.extract (i * 128) (i * 128 + 128) = IV .u8 (S i)
theorem WSecs.same {w w' : World} {g N c : Nat} {S : Nat → List Int} (h : WSecs w g N c S) (he : hat w' g = hat w g) : WSecs w' g N c S := by
 obtain ⟨cs, h1, h2⟩ := h
 exact ⟨cs, he.trans h1, h2⟩
structure LS where
 S : Nat → List Int
 cl : Int → Bool
 fm : Int → Bool
 bk : Int → Option Int
structure LK (E : Env) (w : World) (st : LS) : Prop where
 look : hat w E.gl = some (.cells (lkCells E.X E.Y E.img E.gw E.N E.cw E.bc E.bt E.bf E.qf) 95)
 want : WSecs w E.gw E.N E.cw st.S
 claim : SB w E.bc st.cl
 firm : SB w E.bf st.fm
 blocks : IB w E.bx st.bk
structure EOk (E : Env) : Prop where
 small : E.X ≤ 4096
 pos : 0 ≤ E.Y
 size : E.X = E.N
 n1 : E.gl ≠ E.gw
 n2 : E.gl ≠ E.bc
 n3 : E.gl ≠ E.bf
 n4 : E.gw ≠ E.bc
 n5 : E.gw ≠ E.bf
 n6 : E.bc ≠ E.bf
 n7 : E.gl ≠ E.bx
 n8 : E.gw ≠ E.bx
 n9 : E.bc ≠ E.bx
 n10 : E.bf ≠ E.bx
theorem LK.fr {E : Env} {w w' : World} {st : LS} {ex : List Nat} (h : LK E w st) (hf : Fr ex w w') (h1 : E.gl ∉ ex) (h2 : E.gw ∉ ex) (h3 : E.bc ∉ ex) (h4 : E.bf ∉ ex) (h5 : E.bx ∉ ex) : LK E w' st := by
 have hw := h.want
 obtain ⟨cs, hw1, -⟩ := hw
 exact ⟨(hf.block _ (hat_lt h.look) h1).trans h.look, h.want.same (hf.block _ (hat_lt hw1) h2), h.claim.same (hf.block _ h.claim.lt h3), h.firm.same (hf.block _ h.firm.lt h4), h.blocks.same (hf.block _ h.blocks.lt h5)⟩
def goodP (E : Env) (p : Int) (st : LS) : Bool × LS := if isD E.X E.Y p = true ∧ st.cl p = false then (true, { st with cl := addS st.cl p }) else (false, st)
theorem isD_range {E : Env} (h : EOk E) {p : Int} (hd : isD E.X E.Y p = true) : 0 ≤ p ∧ p < 4096 ∧ p < E.N := by
 unfold isD at hd
 have := of_decide_eq_true hd
 have h1 := h.small
 have h2 := h.pos
 have h3 := h.size
 omega
theorem good_any {E : Env} (hE : EOk E) (p : Int) (st : LS) (w : World) (h0 : 0 ≤ p) (h1 : p ≤ 4294967295) (h : LK E w st) :
  Calls Tryz.prog 109 #[.pointer (some ⟨E.gl, 0, none⟩), .int .i64 p] w fun e w' => e = .returned (.bool (goodP E p st).1) ∧ LK E w' (goodP E p st).2 ∧ Fr [E.bc] w w' := by
 unfold goodP
 by_cases hg : isD E.X E.Y p = true ∧ st.cl p = false
 ·rw [if_pos hg]
  have hr := isD_range hE hg.1
  refine (good_yes E.X E.Y p E.img E.qf E.gl E.gw E.N E.cw E.bc E.bt E.bf 4096 st.cl w h.look h.claim.1 (by unfold maxLen; omega) (i64_small h0 h1) hg.1 hg.2).mono ?_
  rintro e w' ⟨rfl, w1, hb, ht, hm⟩
  have hf : Fr [E.bc] w w' := (fr_below hb _).trans (fr_turned ht)
  have hlk := h.fr (fr_below hb []) (by simp) (by simp) (by simp) (by simp) (by simp)
  have hw1 := hlk.want
  obtain ⟨cs, hw1, -⟩ := hw1
  exact ⟨rfl, ⟨(turned_hat ht hE.n2 (hat_lt hlk.look)).trans hlk.look, hlk.want.same (turned_hat ht hE.n4 (hat_lt hw1)), hm.added h.claim.2 ⟨hr.1, hr.2.1⟩, hlk.firm.same (turned_hat ht hE.n6.symm hlk.firm.lt), hlk.blocks.same (turned_hat ht hE.n9.symm hlk.blocks.lt)⟩, hf⟩
 ·rw [if_neg hg]
  refine (good_no E.X E.Y p E.img E.qf E.gl E.gw E.N E.cw E.bc E.bt E.bf 4096 st.cl w h.look h.claim.1 (i64_small h0 h1) ?_).mono ?_
  ·cases hd : isD E.X E.Y p with
   | false => exact .inl rfl
   | true =>
    cases hc : st.cl p with
    | true => exact .inr rfl
    | false => exact absurd ⟨hd, hc⟩ hg
  ·rintro e w' ⟨rfl, hb⟩
   exact ⟨rfl, h.fr (fr_below hb []) (by simp) (by simp) (by simp) (by simp) (by simp), fr_below hb _⟩
def QRow (w : World) (v : Value) (ob : Option Nat) (xs : List Int) : Prop :=
 (v = .slice none 0 0 ∧ ob = none ∧ xs = []) ∨
 ∃ g off c cs, v = .slice (some ⟨g, off, none⟩) xs.length c ∧ ob = some g ∧ hat w g = some (.cells cs 3) ∧ xs.length ≤ c ∧ off + c ≤ cs.size ∧ ∀ j p, xs[j]? = some p → cs[off + j]? = some (.int .i64 p)
theorem QRow.lt {w : World} {v : Value} {ob : Option Nat} {xs : List Int} (h : QRow w v ob xs) : ∀ g, ob = some g → g < w.heap.size := by
 rintro g rfl
 rcases h with ⟨-, h, -⟩ | ⟨g', off, c, cs, -, h, h2, -⟩
 ·cases h
 ·cases h; exact hat_lt h2
theorem QRow.fr {w w' : World} {v : Value} {ob : Option Nat} {xs : List Int} {ex : List Nat} (h : QRow w v ob xs) (hf : Fr ex w w') (hn : ∀ g, ob = some g → g ∉ ex) : QRow w' v ob xs := by
 rcases h with h | ⟨g, off, c, cs, h1, h2, h3, h4⟩
 ·exact .inl h
 ·exact .inr ⟨g, off, c, cs, h1, h2, (hf.block _ (hat_lt h3) (hn g h2)).trans h3, h4⟩
theorem add_none (g off j : Nat) : (⟨g, off, none⟩ : Addr).add j = ⟨g, off + j, none⟩ := by unfold Addr.add; split <;> simp_all
theorem run_append_q {w : World} {v : Value} {ob : Option Nat} {xs : List Int} (h : QRow w v ob xs) (hn : xs.length ≤ 100000) (i : Int) (b : Nat) (hb : hat w b = some (.cells #[.int .i64 i] 3)) (ty : TypeId) :
  ∃ v' w' ob', (Builtin.append_ #[32, 32] ty #[v, .slice (some ⟨b, 0, none⟩) 1 1]).run Tryz.prog w = .ok v' w' ∧ QRow w' v' ob' (xs ++ [i]) ∧ Fr ob.toList w w' ∧ (ob' = ob ∨ ∃ g, ob' = some g ∧ w.heap.size ≤ g) := by
 have ht : Tryz.prog.underlying 32 = some (.slice 3) := Tryz.underlying32
 have h0 : (Tryz.prog.info? 3).map (fun i => (i.size, i.bytes)) = some (1, 8) := by kernel_rfl
 have h00 : (Tryz.prog.info? 3).bind (·.zero) = some (.int .i64 0) := by kernel_rfl
 obtain ⟨inf, hi, hz, hsz, hby⟩ : ∃ inf, Tryz.prog.info? 3 = some inf ∧ inf.zero = some (.int .i64 0) ∧ inf.size = 1 ∧ inf.bytes = 8 := by
  cases hq : Tryz.prog.info? 3 with
  | none => rw [hq] at h0; cases h0
  | some inf =>
   rw [hq] at h0 h00
   simp at h0 h00
   exact ⟨inf, rfl, h00, h0.1, h0.2⟩
 have hs : ∀ W : World, hat W b = some (.cells #[.int .i64 i] 3) → Src Tryz.prog inf.size 32 (.slice (some ⟨b, 0, none⟩) 1 1) 1 [.int .i64 i] W := fun W hW =>
  Src.ofSlice W ht ⟨b, 0, none⟩ 1 1 [.int .i64 i] (by rw [hsz]; rfl) (fun j u hj => by
   rw [add_none, cell_hat hW]
   simpa using hj) (fun u hu => by simp at hu; subst hu; rfl)
 by_cases hroom : ∃ g off c cs, v = .slice (some ⟨g, off, none⟩) xs.length c ∧ ob = some g ∧ hat w g = some (.cells cs 3) ∧ xs.length + 1 ≤ c ∧ off + c ≤ cs.size ∧ ∀ j p, xs[j]? = some p → cs[off + j]? = some (.int .i64 p)
 ·obtain ⟨g, off, c, cs, rfl, rfl, hg, hc, hcs, hx⟩ := hroom
  have hr := run_append_room_src (P := Tryz.prog) w 32 32 ty 3 inf ht hi g off xs.length c _ 1 [.int .i64 i] (hs w hb) hc
   (fun j hj => by
    rw [hsz, cell_hat hg]
    simp at hj
    subst hj
    rw [Array.getElem?_eq_getElem (by omega)]; rfl)
   (fun j hj => frozen_hat hg _)
  rw [hsz, Nat.mul_one] at hr
  refine ⟨_, _, some g, hr, .inr ⟨g, off, c, cs.setIfInBounds (off + xs.length) (.int .i64 i), by simp, rfl, ?_, by simpa using hc, by simpa using hcs, fun j p hj => ?_⟩, ?_, .inl rfl⟩
  ·exact hat_setCell_at _ _ _ _ _ _ _ hg
  ·rw [Array.getElem?_setIfInBounds]
   by_cases hjl : j = xs.length
   ·subst hjl
    rw [if_pos rfl, if_pos (by omega)]
    simpa using hj
   ·rw [if_neg (by omega)]
    have : j < xs.length := by
     have := (List.getElem?_eq_some_iff.1 hj).1
     simp at this; omega
    rw [List.getElem?_append_left this] at hj
    exact hx j p hj
  ·exact (fr_setCell w g (off + xs.length) (.int .i64 i)).mono (by simp)
 ·obtain ⟨base, cp, hv, hcp, hold⟩ : ∃ base cp, v = .slice base xs.length cp ∧ cp < xs.length + 1 ∧ (Builtin.firstCells inf.size xs.length (.slice base xs.length cp)).run Tryz.prog w.drew = .ok (xs.map (Value.int .i64)).toArray w.drew := by
   rcases h with ⟨rfl, rfl, rfl⟩ | ⟨g, off, c, cs, rfl, rfl, hg, hc, hcs, hx⟩
   ·exact ⟨none, 0, rfl, by simp, run_firstCells_none w.drew _ 0 0 0⟩
   ·refine ⟨some ⟨g, off, none⟩, c, rfl, ?_, ?_⟩
    ·refine Nat.lt_of_not_le fun hle => hroom ⟨g, off, c, cs, rfl, rfl, hg, by omega, hcs, hx⟩
    ·refine run_firstCells_some w.drew _ xs.length ⟨g, off, none⟩ xs.length c (xs.map (Value.int .i64)) (by rw [hsz]; simp) fun j u hj => ?_
     rw [add_none]
     show w.cell? _ = _
     rw [cell_hat hg]
     rw [List.getElem?_map] at hj
     cases hxj : xs[j]? with
     | none => rw [hxj] at hj; cases hj
     | some p => rw [hxj] at hj; rw [hx j p hxj, ← hj]; rfl
  subst hv
  have hr := run_append_grow_src (P := Tryz.prog) w 32 32 ty 3 inf (.int .i64 0) ht hi hz base xs.length cp _ hold _ 1 [.int .i64 i] (hs w hb) hcp (by omega) (growslice_fits hcp (by rw [hby]; omega))
  have hge := grownCap_ge w (xs.length + 1) cp 3
  refine ⟨_, _, some w.heap.size, hr, .inr ⟨w.heap.size, 0, grownCap w (xs.length + 1) cp 3, _, by rw [List.length_append]; rfl, rfl, hat_alloc_at w.drew _ _ rfl, by simpa using hge, ?_, fun j p hj => ?_⟩, ?_, .inr ⟨_, rfl, Nat.le_refl _⟩⟩
  ·have hz2 : (Value.int .i64 0).cells.size = 1 := rfl
   rw [Array.size_append, size_zeroCells, hz2]
   simp
   omega
  ·have hjl : j < xs.length + 1 := by
    have := (List.getElem?_eq_some_iff.1 hj).1
    simpa using this
   rw [Nat.zero_add, Array.getElem?_append_left (by simpa using hjl)]
   have he : (xs.map (Value.int .i64) ++ [Value.int .i64 i]) = (xs ++ [i]).map (Value.int .i64) := by simp
   rw [he, List.getElem?_toArray, List.getElem?_map, hj]
   rfl
  ·exact fr_below (show Below w.heap.size w (w.drew.alloc _) from Below.alloc (show Below w.heap.size w w.drew from ⟨rfl, rfl, rfl, Nat.le_refl _, fun _ _ => rfl⟩) (Nat.le_refl _) _) _
def QVar (w : World) (gr : Nat) (ob : Option Nat) (xs : List Int) : Prop := ∃ v, hat w gr = some (.cells #[v] 32) ∧ QRow w v ob xs ∧ ob ≠ some gr
theorem QVar.fr {w w' : World} {gr : Nat} {ob : Option Nat} {xs : List Int} {ex : List Nat} (h : QVar w gr ob xs) (hf : Fr ex w w') (h1 : gr ∉ ex) (h2 : ∀ g, ob = some g → g ∉ ex) : QVar w' gr ob xs := by
 obtain ⟨v, hv, hq, hn⟩ := h
 exact ⟨v, (hf.block _ (hat_lt hv) h1).trans hv, hq.fr hf h2, hn⟩
theorem QVar.lt {w : World} {gr : Nat} {ob : Option Nat} {xs : List Int} (h : QVar w gr ob xs) : gr < w.heap.size := by
 obtain ⟨v, hv, -⟩ := h; exact hat_lt hv
theorem QVar.blt {w : World} {gr : Nat} {ob : Option Nat} {xs : List Int} (h : QVar w gr ob xs) : ∀ g, ob = some g → g < w.heap.size := by
 obtain ⟨v, hv, hq, -⟩ := h; exact hq.lt
theorem QRow.one {w : World} {v : Value} {ob : Option Nat} {xs : List Int} (h : QRow w v ob xs) : v.oneCell' = true := by
 rcases h with ⟨rfl, -⟩ | ⟨g, off, c, cs, rfl, -⟩ <;> rfl
theorem QRow.slice {w : World} {v : Value} {ob : Option Nat} {xs : List Int} (h : QRow w v ob xs) : ∃ a c, v = .slice a xs.length c := by
 rcases h with ⟨rfl, -, rfl⟩ | ⟨g, off, c, cs, rfl, -⟩
 ·exact ⟨none, 0, rfl⟩
 ·exact ⟨_, _, rfl⟩
theorem wpList_append_run {P : Program} (w : World) {ops : Array Oper} {rest : List Oper} {o : Oper} {a : Act} {Q : Exit → Act → World → Prop} (hgd : o.guard = none) (s x : Operand) (t : TypeId)
  (ho : o.op = .call { callee := .builtin .append, args := #[s, x], argTypes := #[t, t] }) (v u : Value) (hs : a.eval s = v) (hx : a.eval x = u) (v' : Value) (w' : World)
  (hr : (Builtin.append_ #[t, t] o.type #[v, u]).run P w = .ok v' w') (h : wpList P ops Q rest (a.put o.dst v') w') : wpList P ops Q (o :: rest) a w := by
 refine wpList_plain hgd fun K hK => ?_
 unfold Oper.wp
 simp [execOp, ho, resolve, invoke, builtin, hs, hx, hr, Result.andThen]
 exact hK _ _ h
theorem queue_any (gr : Nat) (ob : Option Nat) (xs : List Int) (i : Int) (w : World) (h : QVar w gr ob xs) (hn : xs.length ≤ 100000) :
  Calls Tryz.prog 50 #[.int .i64 i, .pointer (some ⟨gr, 0, none⟩)] w fun e w' => e = .returned (.tuple #[]) ∧ ∃ ob', QVar w' gr ob' (xs ++ [i]) ∧ Fr (gr :: ob.toList) w w' ∧ (ob' = ob ∨ ∃ g, ob' = some g ∧ w.heap.size ≤ g) := by
 obtain ⟨v, hv, hq, hne⟩ := h
 have hgr := hat_lt hv
 have hfa : Fr [] w (w.alloc (.cells #[.int .i64 i] 3)) := fr_below ((Below.refl _ w).alloc (Nat.le_refl _) _) _
 obtain ⟨v', w', ob', hr, hq', hf', ho'⟩ := run_append_q (hq.fr hfa (by simp)) hn i w.heap.size (hopN w _).1 32
 have hv1 : hat (w.alloc (.cells #[.int .i64 i] 3)) gr = some (.cells #[v] 32) := (hopA w _ hv).1
 have hgo : gr ∉ ob.toList := by
  intro hm
  cases ob with
  | none => simp at hm
  | some g => simp at hm; exact hne (by rw [hm])
 have hv2 : hat w' gr = some (.cells #[v] 32) := (hf'.block gr (by simp; omega) hgo).trans hv1
 obtain ⟨a', c', hsl⟩ := hq'.slice
 have HQ := Lib.hid hq'
 have HF := Lib.hid hf'
 have HO := Lib.hid ho'
 have HSL := Lib.hid hsl
 rw [hsl] at hr
 have hz := hfa.size
 clear hq' hf' ho' hq hfa hsl
 go_enter Tryz.func50, Tryz.ntmps50
 go_wp2_with (at_builtin; refine wpList_append_run _ rfl (.tmp 3) (.tmp 5) 32 rfl _ _ rfl rfl _ _ hr ?_)
 refine bodyPost_end (results_none rfl _ _ _) rfl ?_
 have h2 : Fr [gr] w' (w'.setCell ⟨gr, 0, none⟩ (.slice a' (xs.length + 1) c')) := fr_setCell _ _ _ _
 have hlen : (xs ++ [i]).length = xs.length + 1 := by simp
 have hsl := HSL.out
 rw [hlen] at hsl
 have hob' : ∀ g, ob' = some g → g ≠ gr := by
  intro g hg e
  subst e
  rcases HO.out with h | ⟨g', h, hl⟩
  ·exact hne (by rw [← h, hg])
  ·rw [hg] at h; cases h
   simp at hl; omega
 have hQ := HQ.out
 rw [hsl] at hQ
 refine ⟨rfl, ob', ⟨_, hat_setCell_at _ _ _ _ _ _ _ hv2, hQ.fr h2 (fun g hg => by simpa using hob' g hg), fun e => hob' gr e rfl⟩, ?_, ?_⟩
 ·exact ((fr_below ((Below.refl w.heap.size w).alloc (Nat.le_refl _) _) _).trans (HF.out.mono (fun k hk => List.mem_cons_of_mem _ hk))).trans (h2.mono (by simp))
 ·rcases HO.out with h | ⟨g', h, hl⟩
  ·exact .inl h
  ·exact .inr ⟨g', h, Nat.le_trans hz hl⟩
theorem next_none (gr : Nat) (ob : Option Nat) (w : World) (h : QVar w gr ob []) :
  Calls Tryz.prog 51 #[.pointer (some ⟨gr, 0, none⟩)] w fun e w' => e = .returned (.tuple #[.int .i64 0, .bool false]) ∧ w' = w := by
 obtain ⟨v, hv, hq, hne⟩ := h
 obtain ⟨a, c, rfl⟩ := hq.slice
 clear hq
 go_enter Tryz.func51, Tryz.ntmps51
 go_wp2_with fail
 go_ret2
 exact ⟨rfl, rfl⟩
theorem next_some (gr : Nat) (ob : Option Nat) (x : Int) (xs : List Int) (w : World) (h : QVar w gr ob (x :: xs)) :
  Calls Tryz.prog 51 #[.pointer (some ⟨gr, 0, none⟩)] w fun e w' => e = .returned (.tuple #[.int .i64 x, .bool true]) ∧ QVar w' gr ob xs ∧ Fr [gr] w w' := by
 obtain ⟨v, hv, hq, hne⟩ := h
 rcases hq with ⟨-, -, h⟩ | ⟨g, off, c, cs, rfl, hob, hg, hc, hcs, hx⟩
 ·cases h
 have h0 := hx 0 x rfl
 rw [Nat.add_zero] at h0
 have hgg : g ≠ gr := fun e => hne (by rw [hob, e])
 have HX := Lib.hid hx
 have HNE := Lib.hid hne
 have HOB := Lib.hid hob
 simp only [List.length_cons] at hv hc
 clear hx hne hob
 have hl0 : ((xs.length : Int) + 1 == 0) = false := by simp; omega
 by_cases hc1 : c = 1
 ·subst hc1
  obtain rfl : xs = [] := List.eq_nil_of_length_eq_zero (by omega)
  simp only [List.length_nil, Nat.zero_add] at hv hl0
  clear hc
  go_enter Tryz.func51, Tryz.ntmps51
  go_wp2_with fail
  go_ret2
  have h2 : Fr [gr] w (w.setCell ⟨gr, 0, none⟩ (.slice (some ⟨g, off, none⟩) 0 0)) := fr_setCell _ _ _ _
  refine ⟨rfl, ⟨_, hat_setCell_at _ _ _ _ _ _ _ hv, .inr ⟨g, off, 0, cs, rfl, HOB.out, (h2.block _ (hat_lt hg) (by simpa using hgg)).trans hg, by simp, by omega, fun j p hj => by simp at hj⟩, HNE.out⟩, h2⟩
 ·go_enter Tryz.func51, Tryz.ntmps51
  go_wp2_with fail
  go_ret2
  have h2 : Fr [gr] w (w.setCell ⟨gr, 0, none⟩ (.slice (some ⟨g, off + 1, none⟩) xs.length (c - 1))) := fr_setCell _ _ _ _
  refine ⟨rfl, ⟨_, hat_setCell_at _ _ _ _ _ _ _ hv, .inr ⟨g, off + 1, c - 1, cs, rfl, HOB.out, (h2.block _ (hat_lt hg) (by simpa using hgg)).trans hg, by omega, by omega, fun j p hj => ?_⟩, HNE.out⟩, h2⟩
  have := HX.out (j + 1) p (by simpa using hj)
  rw [show off + 1 + j = off + (j + 1) by omega]
  exact this
open Go.ChangeShapes Go.WideShapes Go.ChangeAt Go.RowKit
theorem cell_int {P : Program} {w : World} {base : Nat} {t : TypeId} {k : IntKind} {v : Value} (ht : P.underlying t = some (.int k)) (h : Cell.okWide P w .any base t v) : ∃ n, v = .int k n ∧ (Lit.int k n).wf = true := by
 unfold Cell.okWide at h
 rw [ht] at h
 cases v <;> simp [Cell.ok, ht] at h
 obtain ⟨rfl, h⟩ := h
 exact ⟨_, rfl, by simpa [Lit.wf, IntKind.has] using h⟩
theorem cell_str {P : Program} {w : World} {base : Nat} {t : TypeId} {v : Value} (ht : P.underlying t = some .string) (h : Cell.okWide P w .any base t v) : ∃ s : ByteArray, v = .string s ∧ s.size ≤ maxLen := by
 unfold Cell.okWide at h
 rw [ht] at h
 cases v <;> simp [Cell.ok, ht] at h
 refine ⟨_, rfl, ?_⟩
 unfold maxLen
 omega
theorem ints_of {k : IntKind} : ∀ (cs : List Value), (∀ v ∈ cs, ∃ n, v = .int k n ∧ (Lit.int k n).wf = true) → ∃ l : List Int, cs = l.map (Value.int k) ∧ ∀ x ∈ l, (Lit.int k x).wf = true
 | [], _ => ⟨[], rfl, by simp⟩
 | v :: cs, h => by
  obtain ⟨n, rfl, hn⟩ := h v (by simp)
  obtain ⟨l, rfl, hl⟩ := ints_of cs (fun v hv => h v (by simp [hv]))
  exact ⟨n :: l, rfl, by simpa using ⟨hn, hl⟩⟩
theorem open_row {P : Program} {w : World} {base : Nat} {t : TypeId} {v : Value} {ts : List TypeId} (hc : P.cellTypes P.depth t = some ts) (hs : P.cellsOf t = ts.length) (h : ∃ cs, v = .agg cs ∧ cs.size = P.cellsOf t ∧ Row.okWide P w .any base t cs) :
  ∃ cs : Array Value, v = .agg cs ∧ cs.size = ts.length ∧ ∀ (i : Nat) (u : TypeId), ts[i]? = some u → ∃ c, cs[i]? = some c ∧ Cell.okWide P w .any base u c := by
 obtain ⟨cs, rfl, hz, ts', h1, _, h2⟩ := h
 rw [hc] at h1
 obtain rfl := Option.some.inj h1
 refine ⟨cs, rfl, hz.trans hs, fun i u hu => ?_⟩
 have hi : i < ts.length := by
  by_cases h : i < ts.length
  ·exact h
  ·rw [List.getElem?_eq_none (by omega)] at hu; cases hu
 have hi' : i < cs.size := by rw [hz, hs]; exact hi
 obtain ⟨u', hu', hok⟩ := h2 i cs[i] (Array.getElem?_eq_getElem hi')
 rw [Nat.mod_eq_of_lt hi, hu] at hu'
 obtain rfl := Option.some.inj hu'
 exact ⟨cs[i], Array.getElem?_eq_getElem hi', hok⟩
theorem open_IV {P : Program} {w : World} {base n : Nat} {t e : TypeId} {k : IntKind} {v : Value} (he : P.underlying e = some (.int k)) (hc : P.cellTypes P.depth t = some (List.replicate n e)) (hs : P.cellsOf t = n)
  (h : ∃ cs, v = .agg cs ∧ cs.size = P.cellsOf t ∧ Row.okWide P w .any base t cs) : ∃ l : List Int, v = .agg (IV k l) ∧ l.length = n ∧ ∀ x ∈ l, (Lit.int k x).wf = true := by
 obtain ⟨cs, rfl, hz, hf⟩ := open_row hc (by simpa using hs) h
 obtain ⟨l, hl, hw⟩ := ints_of (k := k) cs.toList (fun v hv => by
  obtain ⟨i, hi, rfl⟩ := List.getElem_of_mem hv
  have hi' : i < n := by simpa [hz] using hi
  obtain ⟨c, hc', hok⟩ := hf i e (by simp [hi'])
  have hi2 : i < cs.size := by simpa using hi
  rw [Array.getElem?_eq_getElem hi2] at hc'
  obtain rfl := Option.some.inj hc'
  obtain ⟨m, hm, hw⟩ := cell_int he hok
  exact ⟨m, by simpa using hm, hw⟩)
 refine ⟨l, ?_, ?_, hw⟩
 ·have : cs = cs.toList.toArray := by simp
  rw [this, hl]; rfl
 ·have := congrArg List.length hl
  simp [hz] at this; exact this.symm
theorem open_IVS {P : Program} {w : World} {base n : Nat} {t e st : TypeId} {k : IntKind} {v : Value} (he : P.underlying e = some (.int k)) (hst : P.underlying st = some .string) (hc : P.cellTypes P.depth t = some (List.replicate n e ++ [st])) (hs : P.cellsOf t = n + 1)
  (h : ∃ cs, v = .agg cs ∧ cs.size = P.cellsOf t ∧ Row.okWide P w .any base t cs) : ∃ (l : List Int) (s : ByteArray), v = .agg (IV k l ++ #[.string s]) ∧ l.length = n ∧ (∀ x ∈ l, (Lit.int k x).wf = true) ∧ s.size ≤ maxLen := by
 obtain ⟨cs, rfl, hz, hf⟩ := open_row hc (by simpa using hs) h
 simp only [List.length_append, List.length_replicate, List.length_cons, List.length_nil] at hz
 obtain ⟨l, hl, hw⟩ := ints_of (k := k) (cs.toList.take n) (fun v hv => by
  obtain ⟨i, hi, rfl⟩ := List.getElem_of_mem hv
  have hi' : i < n := by simp [hz] at hi; omega
  obtain ⟨c, hc', hok⟩ := hf i e (by rw [List.getElem?_append_left (by simpa using hi')]; simp [hi'])
  have hi2 : i < cs.size := by omega
  rw [Array.getElem?_eq_getElem hi2] at hc'
  obtain rfl := Option.some.inj hc'
  obtain ⟨m, hm, hw⟩ := cell_int he hok
  exact ⟨m, by simpa using hm, hw⟩)
 obtain ⟨c, hc', hok⟩ := hf n st (by rw [List.getElem?_append_right (by simp)]; simp)
 obtain ⟨s, rfl, hss⟩ := cell_str hst hok
 have hlen : l.length = n := by
  have := congrArg List.length hl
  simp [hz] at this; omega
 refine ⟨l, s, ?_, hlen, hw, hss⟩
 have e1 : cs.toList = l.map (Value.int k) ++ [.string s] := by
  rw [← hl, ← List.take_append_drop n cs.toList]
  congr 1
  ·simp
  ·have : cs.toList.drop n = [cs.toList[n]'(by simp [hz])] := by
    rw [List.drop_eq_getElem_cons (by simp [hz])]
    congr 1
    exact List.drop_eq_nil_of_le (by simp [hz])
   rw [this]
   rw [Array.getElem?_eq_getElem (by omega)] at hc'
   have := Option.some.inj hc'
   simp [this]
 have : cs = cs.toList.toArray := by simp
 rw [this, e1]; simp [IV]
theorem ints_bytes {l : List Int} (h : ∀ x ∈ l, (Lit.int .u8 x).wf = true) : ∀ x ∈ l, 0 ≤ x ∧ x < 256 := fun x hx => by
 have := bounds_u8 (h x hx); omega
theorem ints_i64 {l : List Int} (h : ∀ x ∈ l, (Lit.int .i64 x).wf = true) : ∀ i, -9223372036854775808 ≤ nth l i ∧ nth l i ≤ 9223372036854775807 := fun i => by
 unfold nth
 cases hi : l[i]? with
 | none => simp
 | some x =>
  have := bounds_i64 (h x (List.mem_of_getElem? hi))
  simp; omega
theorem list_two {α : Type} {l : List α} (h : l.length = 2) : ∃ x y, l = [x, y] := by
 match l, h with
 | [x, y], _ => exact ⟨x, y, rfl⟩
theorem trodAll_below {H : Type} {enc : TypeId × Value → H} {P : Program} (hl : laidOutB P = true) {W W' : World} (hb : Below W.heap.size W W') :
  ∀ {ts : List TypeId} {vs : List Value} {ds : List (DataW H)} {ps : List MemPlace}, (ts.all fun t => P.readableRec t && decide (t < P.types.size)) = true → DataW.TrodAll enc P W 0 (fun _ => true) true ts vs ds ps → (∀ x ∈ ps, x.block < W.heap.size) →
   DataW.TrodAll enc P W' 0 (fun b => decide (b < W.heap.size)) true ts vs ds ps
 | [], [], [], _, _, h, _ => h
 | [], [], _ :: _, _, _, h, _ => h.elim
 | [], _ :: _, [], _, _, h, _ => h.elim
 | [], _ :: _, _ :: _, _, _, h, _ => h.elim
 | _ :: _, [], [], _, _, h, _ => h.elim
 | _ :: _, [], _ :: _, _, _, h, _ => h.elim
 | _ :: _, _ :: _, [], _, _, h, _ => h.elim
 | t :: ts, v :: vs, d :: ds, ps, hr, ⟨p, q, h1, h2, e⟩, hs => by
  simp only [List.all_cons, Bool.and_eq_true, decide_eq_true_eq] at hr
  exact ⟨p, q, Below.trod hl hr.1.1 hr.1.2 h1 hb (fun x hx => hs x (by rw [e]; exact List.mem_append_left _ hx)), trodAll_below hl hb hr.2 h2 (fun x hx => hs x (by rw [e]; exact List.mem_append_right _ hx)), e⟩
theorem post_law {H : Type} {enc : TypeId × Value → H} {P : Program} {f : Func} {s : ChangeSpec} {W W' : World} {args : Array Value} {ds : List (DataW H)} {before : List MemPlace} {T : TypeId} (hl : laidOutB P = true)
  (hW : DataW.Whole enc P f.params.toList s.vars false W args.toList ds [] before) (hvars : s.vars = []) (hres : (s.fn H ds).results = [.lit (.bool true)]) (hargs : (s.fn H ds).args = ds) (hvs : (s.fn H ds).vars = [])
  (hr : (f.params.toList.all fun t => P.readableRec t && decide (t < P.types.size)) = true) (hrt : f.resultTypes = #[T]) (hT : P.underlying T = some .bool) (hb : Below W.heap.size W W') :
  s.post enc P f false true false false W args (.bool true) W' := by
 have hW' := hW
 have hlt : ∀ x ∈ before, x.block < W.heap.size := fun x hx => by simpa using hW'.lt x hx
 obtain ⟨p, q, hA, hV, rfl, -, -⟩ := hW
 rw [hvars] at hV
 have hq : q = [] := (trodVars_none hV).2
 subst hq
 refine ⟨ds, [], _, [], p, [], hW', ?_, ?_, ?_, hb.frame _, fun h => by cases h⟩
 ·rw [List.append_nil, hres, hrt]
  exact trodAll_mk1 (shut_bool hT true)
 ·rw [List.append_nil, hargs]
  exact trodAll_below hl hb hr hA (fun x hx => hlt x (by simp [hx]))
 ·rw [List.append_nil, hvs, hvars]
  rfl
def Img (w : World) (v : Value) (N : Nat) (S : Nat → List Int) : Prop :=
 ∃ a ci, v = .slice a N ci ∧ N ≤ ci ∧ ci ≤ maxLen ∧ (0 < N → ∃ gi oi, a = some ⟨gi, oi, none⟩ ∧ Secs w gi oi N S)
theorem Img.same {w w' : World} {v : Value} {N : Nat} {S : Nat → List Int} (h : Img w v N S) (hf : Fr [] w w') : Img w' v N S := by
 obtain ⟨a, ci, h1, h2, h3, h4⟩ := h
 refine ⟨a, ci, h1, h2, h3, fun hN => ?_⟩
 obtain ⟨gi, oi, h5, h6⟩ := h4 hN
 exact ⟨gi, oi, h5, h6.same (hf.block _ h6.lt (by simp))⟩
theorem hat_of_cell {w : World} {a : Addr} {v : Value} (h : w.cell? a = some v) : ∃ g o cs t fr, a = ⟨g, o, none⟩ ∧ hat w g = some (.cells cs t fr) ∧ cs[o]? = some v := by
 obtain ⟨b, off, spot⟩ := a
 have hs : spot = none := by simpa using World.cell?_spot h
 subst hs
 cases hh : w.heap[b]? with
 | none => unfold World.cell? at h; simp [hh] at h
 | some o =>
  cases o with
  | cells cs t fr => exact ⟨b, off, cs, t, fr, rfl, hh, by rw [← cell_hat (w := w) hh]; exact h⟩
  | _ => unfold World.cell? at h; simp [hh] at h
def numV : Value → Int
 | .int _ n => n
 | _ => 0
theorem Tryz.cellsSec : Tryz.prog.cellsOf 47 = 128 := by kernel_rfl
theorem Tryz.cellsU8 : Tryz.prog.cellsOf 5 = 1 := by kernel_rfl
theorem img_of {H : Type} {enc : TypeId × Value → H} {W : World} {base : Nat} {v : Value} {d : DataW H} {p : List MemPlace} (hv : Value.okWide Tryz.prog W .any base 26 v)
  (h : DataW.Trod enc Tryz.prog W 0 (fun _ => true) true 26 v d p) : ∃ N S, Img W v N S := by
 obtain ⟨a0, len0, cap0, rfl⟩ := okWide_slice Tryz.underlying26 hv
 obtain ⟨fuel, hf⟩ := h
 rcases Go.Deep.open_slice Tryz.underlying26 hf with ⟨hcs, hx⟩ | ⟨a, len, cap, m, n, D, Pl, hcs, -, hl, hm, hz, hx, hcell⟩
 ·have e : (Value.slice a0 len0 cap0) = .slice none 0 0 := by simpa [Value.cells] using hcs
  rw [e]
  exact ⟨0, fun _ => [], none, 0, rfl, Nat.le_refl _, by simp, fun h => by omega⟩
 ·have e : (Value.slice a0 len0 cap0) = .slice (some a) len cap := by simpa [Value.cells] using hcs
  rw [e]
  simp only [if_true] at hz
  subst hz
  simp only [Tryz.cellsSec] at hcell
  have key : ∀ i, i < len → ∀ j, j < 128 → ∃ z : Int, W.cell? ((a.add (i * 128)).add j) = some (.int .u8 z) ∧ (Lit.int .u8 z).wf = true := by
   intro i hi j hj
   obtain ⟨cs', hc, ht⟩ := hcell i (by omega)
   obtain ⟨-, hlen, hget⟩ := World.cells?_some hc
   obtain ⟨xs, k, -, -, -, hxs, hel⟩ := DataW.trod_array Tryz.underlying47 ht
   have hel' := hel j hj
   rw [Tryz.cellsU8, Nat.mul_one, List.getElem?_eq_getElem (by omega)] at hel'
   obtain ⟨z, hz, -, hwf⟩ := DataW.trod_int Tryz.underlying5 hel'
   have hj2 : cs'[j]? = some (.int .u8 z) := by
    have h0 : ((cs'.drop j).take 1)[0]? = some (.int .u8 z) := by rw [hz]; rfl
    rw [List.getElem?_take, if_pos (by omega), List.getElem?_drop] at h0
    simpa using h0
   refine ⟨z, ?_, hwf⟩
   rw [← hj2, ← hget j hj]
  refine ⟨len, fun i => (List.range 128).map fun j => match W.cell? ((a.add (i * 128)).add j) with | some v => numV v | none => 0, some a, m, rfl, hl, hm, fun hN => ?_⟩
  obtain ⟨z0, h0, -⟩ := key 0 hN 0 (by omega)
  obtain ⟨g, o, cs, t, fr, ha, hg, hc0⟩ := hat_of_cell h0
  obtain ⟨b, off, spot⟩ := a
  have hb : b = g ∧ off = o ∧ spot = none := by
   cases spot with
   | none =>
    rw [add_none, add_none] at ha
    injection ha with e1 e2 e3
    exact ⟨e1, by omega, rfl⟩
   | some q =>
    exfalso
    have := World.cell?_spot h0
    simp [Addr.add] at this
  obtain ⟨rfl, rfl, rfl⟩ := hb
  simp only [add_none] at key
  have key2 : ∀ i, i < len → ∀ j, j < 128 → ∃ z : Int, cs[off + i * 128 + j]? = some (.int .u8 z) ∧ (Lit.int .u8 z).wf = true ∧ (match W.cell? (((⟨b, off, none⟩ : Addr).add (i * 128)).add j) with | some v => numV v | none => 0) = z := by
   intro i hi j hj
   obtain ⟨z, h1, h2⟩ := key i hi j hj
   refine ⟨z, ?_, h2, ?_⟩
   ·rw [← cell_hat hg]; exact h1
   ·rw [add_none, add_none, h1]; rfl
  refine ⟨b, off, rfl, cs, t, fr, hg, ?_, fun i hi => ⟨by simp, ?_, ?_⟩⟩
  ·obtain ⟨z, h1, -⟩ := key2 (len - 1) (by omega) 127 (by omega)
   have := (Array.getElem?_eq_some_iff.1 h1).1
   omega
  ·intro x hx
   obtain ⟨j, hj, rfl⟩ := List.mem_map.1 hx
   obtain ⟨z, h1, h2, h3⟩ := key2 i hi j (List.mem_range.1 hj)
   rw [h3]
   simp [Lit.wf, IntKind.min, IntKind.max, IntKind.signed, IntKind.bits] at h2
   omega
  ·apply Array.ext_getElem?
   intro j
   have hsz : off + i * 128 + 128 ≤ cs.size := by
    obtain ⟨z, h1, -⟩ := key2 i hi 127 (by omega)
    have := (Array.getElem?_eq_some_iff.1 h1).1
    omega
   rw [Array.getElem?_extract, IV_get?]
   by_cases hj : j < 128
   ·obtain ⟨z, h1, h2, h3⟩ := key2 i hi j hj
    rw [if_pos (by omega), List.getElem?_map, List.getElem?_range hj, h1]
    simp only [Option.map_some, h3]
   ·rw [if_neg (by omega), List.getElem?_eq_none (by simp; omega)]; rfl
theorem getB_congr (s t : List Int) : ∀ (n a : Nat), (∀ j, a ≤ j → j < a + n → nth s j = nth t j) → getB s a n = getB t a n
 | 0, _, _ => rfl
 | n + 1, a, h => by
  simp only [getB]
  rw [h a (by omega) (by omega), getB_congr s t n (a + 1) (fun j h1 h2 => h j (by omega) (by omega))]
theorem getB_digits (s : List Int) : ∀ (n a : Nat) (v : Int), (∀ j, j < n → nth s (a + j) = v / 2 ^ (8 * j) % 256) → getB s a n = v % 256 ^ n
 | 0, _, v, _ => by simp [getB, Int.emod_one]
 | n + 1, a, v, h => by
  have h0 := h 0 (by omega)
  have ih := getB_digits s n (a + 1) (v / 256) (fun j hj => by
   have := h (j + 1) (by omega)
   rw [show a + 1 + j = a + (j + 1) by omega, this]
   rw [Int.ediv_ediv_of_nonneg (by omega : (0 : Int) ≤ 256)]
   congr 2
   rw [show 8 * (j + 1) = 8 + 8 * j by omega, Int.pow_add]
   rfl)
  simp only [getB]
  rw [ih]
  simp only [Nat.add_zero, Nat.mul_zero, Int.pow_zero, Int.ediv_one] at h0
  rw [h0, show (256 : Int) ^ (n + 1) = 256 * 256 ^ n by rw [Int.pow_succ]; omega, Int.mul_comm 256 ((v / 256) % 256 ^ n)]
  rw [Int.emod_def v (256 * 256 ^ n), Int.emod_def (v / 256) (256 ^ n), Int.emod_def v 256, ← Int.ediv_ediv_of_nonneg (by omega : (0 : Int) ≤ 256)]
  rw [Int.sub_mul, Int.mul_comm (v / 256) 256, Int.mul_assoc 256, Int.mul_comm 256 (256 ^ n * _)]
  omega
theorem getB_setB (s : List Int) (a n : Nat) (v : Int) (h : a + n ≤ s.length) (h0 : 0 ≤ v) (hv : v < 256 ^ n) : getB (setB s a n v) a n = v := by
 rw [getB_digits _ n a v (fun j hj => by rw [nth_setB _ _ _ _ h, if_pos (by omega), show a + j - a = j by omega])]
 exact Int.emod_eq_of_lt h0 hv
theorem getB_setB_off (s : List Int) (a n b m : Nat) (v : Int) (h : b + m ≤ s.length) (hd : a + n ≤ b ∨ b + m ≤ a) : getB (setB s b m v) a n = getB s a n :=
 getB_congr _ _ _ _ fun j h1 h2 => by rw [nth_setB _ _ _ _ h, if_neg (by omega)]
theorem bytes_of_nth {s : List Int} (h : ∀ j, j < s.length → 0 ≤ nth s j ∧ nth s j < 256) : Bytes s := by
 intro x hx
 obtain ⟨i, hi, rfl⟩ := List.getElem_of_mem hx
 rw [nth_getElem hi]; exact h i hi
theorem Bytes.setB {s : List Int} (hb : Bytes s) (a n : Nat) (v : Int) (h : a + n ≤ s.length) : Bytes (setB s a n v) := by
 refine bytes_of_nth fun j _ => ?_
 rw [nth_setB _ _ _ _ h]
 split
 ·omega
 ·exact hb.at j
theorem Bytes.putL {s bs : List Int} (hb : Bytes s) (hs : Bytes bs) (a : Nat) (h : a + bs.length ≤ s.length) : Bytes (putL s a bs) := by
 refine bytes_of_nth fun j _ => ?_
 rw [nth_putL _ _ _ _ h]
 split
 ·exact hs.at _
 ·exact hb.at j
theorem bytes_zl (n : Nat) : Bytes (zl n) := by
 refine bytes_of_nth fun j _ => ?_
 rw [zl_get]; omega
theorem mark_len : (putL (zl 128) 0 markL).length = 128 := by rw [putL_length _ _ _ (by rw [zl_length]; decide)]; exact zl_length _
theorem supSec_x (x y : Int) (h0 : 0 ≤ x) (h1 : x < 4294967296) : getB (supSec x y) 4 4 = x := by
 unfold supSec
 rw [getB_setB_off _ _ _ _ _ _ (by rw [setB_length, mark_len]; decide) (by omega)]
 exact getB_setB _ _ _ _ (by rw [mark_len]; decide) h0 h1
theorem supSec_y (x y : Int) (h0 : 0 ≤ y) (h1 : y < 4294967296) : getB (supSec x y) 8 4 = y := by
 unfold supSec
 exact getB_setB _ _ _ _ (by rw [setB_length, mark_len]; decide) h0 h1
theorem fields_apart : ∀ j, j < 18 → ∀ k, k < 18 → j ≠ k → fAt j + fWd j ≤ fAt k ∨ fAt k + fWd k ≤ fAt j := by decide
theorem inoSecN_bytes (l : List Int) : ∀ n, n ≤ 18 → Bytes (inoSecN l n)
 | 0, _ => bytes_zl _
 | n + 1, h => by
  rw [inoSecN_succ]
  exact Bytes.setB (inoSecN_bytes l n (by omega)) _ _ _ (by rw [inoSecN_length]; exact fAt_le n (by omega))
theorem inoSecN_get (l : List Int) (hf : ∀ j, j < 18 → 0 ≤ nth l (fCell j) ∧ nth l (fCell j) < 256 ^ fWd j) : ∀ n, n ≤ 18 → ∀ j, j < n → getB (inoSecN l n) (fAt j) (fWd j) = nth l (fCell j)
 | 0, _, j, hj => by omega
 | n + 1, h, j, hj => by
  rw [inoSecN_succ]
  by_cases hjn : j = n
  ·subst hjn
   exact getB_setB _ _ _ _ (by rw [inoSecN_length]; exact fAt_le j (by omega)) (hf j (by omega)).1 (hf j (by omega)).2
  ·rw [getB_setB_off _ _ _ _ _ _ (by rw [inoSecN_length]; exact fAt_le n (by omega)) (fields_apart j (by omega) n (by omega) hjn)]
   exact inoSecN_get l hf n (by omega) j (by omega)
theorem list18 {l : List Int} (h : l.length = 18) : l = [nth l 0, nth l 1, nth l 2, nth l 3, nth l 4, nth l 5, nth l 6, nth l 7, nth l 8, nth l 9, nth l 10, nth l 11, nth l 12, nth l 13, nth l 14, nth l 15, nth l 16, nth l 17] := by
 refine nth_ext (by simp [h]) fun i hi => ?_
 rw [h] at hi
 have : i = 0 ∨ i = 1 ∨ i = 2 ∨ i = 3 ∨ i = 4 ∨ i = 5 ∨ i = 6 ∨ i = 7 ∨ i = 8 ∨ i = 9 ∨ i = 10 ∨ i = 11 ∨ i = 12 ∨ i = 13 ∨ i = 14 ∨ i = 15 ∨ i = 16 ∨ i = 17 := by omega
 rcases this with rfl | rfl | rfl | rfl | rfl | rfl | rfl | rfl | rfl | rfl | rfl | rfl | rfl | rfl | rfl | rfl | rfl | rfl <;> rfl
theorem inoSec_back (l : List Int) (hl : l.length = 18) (hf : ∀ j, j < 18 → 0 ≤ nth l (fCell j) ∧ nth l (fCell j) < 256 ^ fWd j) : rdIno (getB (inoSec l) 8 8) (inoSec l) = l := by
 have g := inoSecN_get l hf 18 (by omega)
 have g0 := g 0 (by omega); have g1 := g 1 (by omega); have g2 := g 2 (by omega); have g3 := g 3 (by omega); have g4 := g 4 (by omega); have g5 := g 5 (by omega)
 have g6 := g 6 (by omega); have g7 := g 7 (by omega); have g8 := g 8 (by omega); have g9 := g 9 (by omega); have g10 := g 10 (by omega); have g11 := g 11 (by omega)
 have g12 := g 12 (by omega); have g13 := g 13 (by omega); have g14 := g 14 (by omega); have g15 := g 15 (by omega); have g16 := g 16 (by omega); have g17 := g 17 (by omega)
 clear g
 change getB (inoSec l) _ _ = _ at g0 g1 g2 g3 g4 g5 g6 g7 g8 g9 g10 g11 g12 g13 g14 g15 g16 g17
 generalize inoSec l = s at *
 simp only [fAt, fWd, fCell] at *
 conv => rhs; rw [list18 hl]
 simp only [rdIno, List.range, List.range.loop, List.map_cons, List.map_nil, List.cons_append, List.nil_append]
 simp only [Nat.mul_zero, Nat.add_zero, g0, g1, g2, g3, g4, g5, g6, g7, g8, g9, g10, g11, g12, g13, g14, g15, g16, g17]
theorem ptrSecN_bytes (x : List Int) : ∀ n, n ≤ 32 → Bytes (ptrSecN x n)
 | 0, _ => bytes_zl _
 | n + 1, h => by
  rw [ptrSecN_succ]
  exact Bytes.setB (ptrSecN_bytes x n (by omega)) _ _ _ (by rw [ptrSecN_length]; omega)
theorem ptrSecN_get (x : List Int) (hf : PtrMay x) : ∀ n, n ≤ 32 → ∀ j, j < n → getB (ptrSecN x n) (4 * j) 4 = nth x j
 | 0, _, j, hj => by omega
 | n + 1, h, j, hj => by
  rw [ptrSecN_succ]
  by_cases hjn : j = n
  ·subst hjn
   have := hf j (by omega)
   have p4 : (256 : Int) ^ 4 = 4294967296 := by decide
   exact getB_setB _ _ _ _ (by rw [ptrSecN_length]; omega) this.1 (by rw [p4]; omega)
  ·rw [getB_setB_off _ _ _ _ _ _ (by rw [ptrSecN_length]; omega) (by omega)]
   exact ptrSecN_get x hf n (by omega) j (by omega)
theorem ptr_back (x : List Int) (hx : x.length = 32) (hf : PtrMay x) : rdPtr (ptrSecN x 32) = x := by
 refine nth_ext (by simp [hx]) fun i hi => ?_
 simp at hi
 rw [rdPtr_nth _ _ hi, ptrSecN_get x hf 32 (by omega) i hi]
theorem ptrSecN_nth (x : List Int) : ∀ n, n ≤ 32 → ∀ j k, k < 4 → nth (ptrSecN x n) (4 * j + k) = if j < n then nth x j / 2 ^ (8 * k) % 256 else 0
 | 0, _, j, k, _ => by simp [ptrSecN, zl_get]
 | n + 1, h, j, k, hk => by
  rw [ptrSecN_succ, nth_setB _ _ _ _ (by rw [ptrSecN_length]; omega)]
  by_cases hjn : j = n
  ·subst hjn
   rw [if_pos (by omega), if_pos (by omega), show 4 * j + k - 4 * j = k by omega]
  ·rw [if_neg (by omega), ptrSecN_nth x n (by omega) j k hk]
   by_cases hlt : j < n
   ·rw [if_pos hlt, if_pos (by omega)]
   ·rw [if_neg hlt, if_neg (by omega)]
theorem getB4_digit {s : List Int} (hb : Bytes s) (a k : Nat) (hk : k < 4) : getB s a 4 / 2 ^ (8 * k) % 256 = nth s (a + k) := by
 have h0 := hb.at a; have h1 := hb.at (a + 1); have h2 := hb.at (a + 2); have h3 := hb.at (a + 3)
 have e : getB s a 4 = nth s a + 256 * (nth s (a + 1) + 256 * (nth s (a + 2) + 256 * nth s (a + 3))) := by
  simp only [getB, Int.mul_zero, Int.add_zero]
 rw [e]
 have p1 : (2 : Int) ^ (8 * 1) = 256 := by decide
 have p2 : (2 : Int) ^ (8 * 2) = 65536 := by decide
 have p3 : (2 : Int) ^ (8 * 3) = 16777216 := by decide
 have : k = 0 ∨ k = 1 ∨ k = 2 ∨ k = 3 := by omega
 rcases this with rfl | rfl | rfl | rfl
 ·simp only [Nat.mul_zero, Int.pow_zero, Int.ediv_one, Nat.add_zero]
  omega
 ·rw [p1]; omega
 ·rw [p2]; omega
 ·rw [p3]; omega
theorem getB4_lt {s : List Int} (hb : Bytes s) (a : Nat) : 0 ≤ getB s a 4 ∧ getB s a 4 ≤ 4294967295 := by
 have h0 := hb.at a; have h1 := hb.at (a + 1); have h2 := hb.at (a + 2); have h3 := hb.at (a + 3)
 have e : getB s a 4 = nth s a + 256 * (nth s (a + 1) + 256 * (nth s (a + 2) + 256 * nth s (a + 3))) := by
  simp only [getB, Int.mul_zero, Int.add_zero]
 rw [e]; omega
theorem ptr_one {s : List Int} (hs : s.length = 128) (hb : Bytes s) : PtrMay (rdPtr s) ∧ ptrSecN (rdPtr s) 32 = s := by
 constructor
 ·intro j hj
  rw [rdPtr_nth _ _ hj]; exact getB4_lt hb _
 ·refine nth_ext (by rw [ptrSecN_length, hs]) fun i hi => ?_
  rw [ptrSecN_length] at hi
  have := ptrSecN_nth (rdPtr s) 32 (by omega) (i / 4) (i % 4) (by omega)
  have e : 4 * (i / 4) + i % 4 = i := by omega
  rw [if_pos (by omega), rdPtr_nth _ _ (by omega), getB4_digit hb _ _ (by omega), e] at this
  exact this
theorem supSec_reads {x y : Int} (h : SupMay x y) : rdSupR (supSec x y) = (x, y, 0) := by
 obtain ⟨⟨h1, h2⟩, ⟨h3, h4⟩, h5⟩ := id h
 unfold rdSupR
 rw [supSec_x x y (by omega) (by omega), supSec_y x y (by omega) (by omega), if_pos ⟨h, rfl⟩]
theorem sup_one {s : List Int} (h : (rdSupR s).2.2 = 0) : SupMay (rdSupR s).1 (rdSupR s).2.1 ∧ supSec (rdSupR s).1 (rdSupR s).2.1 = s := by
 unfold rdSupR at *
 split at h
 ·rename_i hc; rw [if_pos hc]; exact hc
 ·cases h
theorem getB_zl (n a : Nat) : ∀ m, getB (zl n) a m = 0
 | 0 => rfl
 | m + 1 => by
  simp only [getB, zl_get]
  have := getB_congr (zl n) (zl n) m (a + 1) (fun _ _ _ => rfl)
  have h : ∀ m a, getB (zl n) a m = 0 := by
   intro m; induction m with
   | zero => intro a; rfl
   | succ m ih => intro a; simp only [getB, zl_get, ih]; omega
  rw [h]; omega
theorem ino_fits {l : List Int} (h : InoMay l) (j : Nat) (hj : j < 18) : 0 ≤ nth l (fCell j) ∧ nth l (fCell j) < 256 ^ fWd j := by
 obtain ⟨h1, h2, h3⟩ := inoMay_fits l h j hj
 refine ⟨h1, ?_⟩
 by_cases h8 : fWd j < 8
 ·have := h3 h8
  rwa [Int.pow_mul] at this
 ·have : fWd j = 8 := by have := fWd_pos j; omega
  rw [this]
  have p8 : (256 : Int) ^ 8 = 18446744073709551616 := by decide
  rw [p8]; omega
theorem inoSec_reads {l : List Int} (hl : l.length = 18) (h : InoMay l) : rdInoR (inoSec l) = (l, 0) := by
 have e := inoSec_back l hl (ino_fits h)
 unfold rdInoR
 rw [e, if_pos ⟨h, rfl⟩]
theorem inoSec_bytes (l : List Int) : Bytes (inoSec l) := inoSecN_bytes l 18 (by omega)
theorem ino_one {s : List Int} (h : (rdInoR s).2 = 0) : InoMay (rdInoR s).1 ∧ inoSec (rdInoR s).1 = s := by
 unfold rdInoR at *
 split at h
 ·rename_i hc; rw [if_pos hc]; exact hc
 ·cases h
theorem ino_zero : rdInoR (zl 128) = (zl 18, 0) := by
 have hm : InoMay (zl 18) := by unfold InoMay; rw [if_pos (zl_get _ _)]
 have e : inoSec (zl 18) = zl 128 := by decide +kernel
 have := inoSec_reads (zl_length 18) hm
 rwa [e] at this
theorem ptr_one' {s : List Int} (hs : s.length = 128) (hb : Bytes s) : ptrR (rdPtr s) = (s, 0) := by
 obtain ⟨h1, h2⟩ := ptr_one hs hb
 rw [ptrR_yes h1, h2]
theorem slot_len {s : ByteArray} (h : s.size ≤ 40) : (putL (zl 128) 5 (nmL s)).length = 128 := by
 rw [putL_length _ _ _ (by rw [zl_length, nmL_length]; omega)]; exact zl_length _
theorem slotSec_x (x : Int) (s : ByteArray) (h : s.size ≤ 40) (h0 : 0 ≤ x) (h1 : x < 4294967296) : getB (slotSec x s) 0 4 = x := by
 unfold slotSec
 rw [getB_setB_off _ _ _ _ _ _ (by rw [setB_length, slot_len h]; omega) (by omega)]
 exact getB_setB _ _ _ _ (by rw [slot_len h]; omega) h0 h1
theorem slotSec_n (x : Int) (s : ByteArray) (h : s.size ≤ 40) : nth (slotSec x s) 4 = s.size := by
 unfold slotSec
 rw [nth_setB _ _ _ _ (by rw [setB_length, slot_len h]; omega), if_pos (by omega)]
 simp only [Nat.sub_self, Nat.mul_zero, Int.pow_zero, Int.ediv_one]
 omega
theorem slotSec_raw (x : Int) (s : ByteArray) (h : s.size ≤ 40) (i : Nat) (hi : i < s.size) : nth (slotSec x s) (5 + i) = nth (nmL s) i := by
 unfold slotSec
 rw [nth_setB _ _ _ _ (by rw [setB_length, slot_len h]; omega), if_neg (by omega), nth_setB _ _ _ _ (by rw [slot_len h]; omega), if_neg (by omega),
  nth_putL _ _ _ _ (by rw [zl_length, nmL_length]; omega), if_pos (by rw [nmL_length]; omega), show 5 + i - 5 = i by omega]
theorem slotSec_nm (x : Int) (s : ByteArray) (h : s.size ≤ 40) : rdNm (slotSec x s) = s := by
 unfold rdNm
 rw [slotSec_n x s h, if_pos (by omega)]
 have e : rawNm (slotSec x s) ((s.size : Int)).toNat = s.data.toList := by
  apply List.ext_getElem
  ·rw [rawNm_length, len_data]; omega
  ·intro i h1 h2
   have hi : i < s.size := by rw [len_data] at h2; exact h2
   have hr : ∀ (t : List Int) (n : Nat) (h1 : i < (rawNm t n).length), (rawNm t n)[i] = UInt8.ofNat (nth t (5 + i)).toNat := fun t n h1 => by simp [rawNm]
   rw [hr, slotSec_raw x s h i hi]
   have hn : nth (nmL s) i = ((s.data.toList[i]'h2).toNat : Int) := by
    unfold nth nmL
    rw [List.getElem?_map, List.getElem?_eq_getElem h2]
    rfl
   rw [hn, Int.toNat_natCast, UInt8.ofNat_toNat]
 rw [e]
theorem slot_yes {x : Int} {s : ByteArray} (h : (slotR x s).2 = 0) : (x = 0 ∧ s.toList = []) ∨ SlotMay x s := by
 unfold slotR at h
 by_cases h1 : x = 0 ∧ s.toList = []
 ·exact .inl h1
 ·rw [if_neg h1] at h
  by_cases h2 : SlotMay x s
  ·exact .inr h2
  ·rw [if_neg h2] at h; cases h
theorem empty_of {s : ByteArray} (h : s.toList = []) : s = { data := #[] } := by
 rw [Lib.toList_data] at h
 obtain ⟨⟨l⟩⟩ := s
 obtain rfl : l = [] := h
 rfl
theorem rdNm_zero : rdNm (zl 128) = { data := #[] } := by decide +kernel
theorem slot_reads {x : Int} {s : ByteArray} (h : (slotR x s).2 = 0) : rdSloR (slotR x s).1 = (x, s, 0) := by
 rcases slot_yes h with ⟨rfl, he⟩ | hm
 ·obtain rfl := empty_of he
  have e : slotR 0 { data := #[] } = (zl 128, 0) := by unfold slotR; rw [if_pos ⟨rfl, he⟩]
  simp only [e]
  unfold rdSloR
  rw [getB_zl, rdNm_zero, if_pos e]
 ·have hz : ¬ (x = 0 ∧ s.toList = []) := fun hc => by have := hm.1.1; omega
  have e : slotR x s = (slotSec x s, 0) := by unfold slotR; rw [if_neg hz, if_pos hm]
  simp only [e]
  unfold rdSloR
  have h40 := hm.size.2
  have h1 := hm.1.1
  have h2 := hm.1.2
  rw [slotSec_x x s h40 (by omega) (by omega), slotSec_nm x s h40, if_pos e]
theorem slot_zero : rdSloR (zl 128) = (0, { data := #[] }, 0) := by
 have he : slotR 0 { data := #[] } = (zl 128, 0) := by unfold slotR; rw [if_pos ⟨rfl, by decide +kernel⟩]
 have := slot_reads (x := 0) (s := { data := #[] }) (by rw [he])
 rwa [he] at this
def updS (S : Nat → List Int) (i : Nat) (s : List Int) : Nat → List Int := fun j => if j = i then s else S j
noncomputable def tableP (siftF : List Int → LS → List Int × Bool × LS) (at' : Nat) (st : LS) : Bool × LS :=
 if (siftF (rdPtr (st.S at')) st).2.1 = false then (false, { (siftF (rdPtr (st.S at')) st).2.2 with cl := delS (siftF (rdPtr (st.S at')) st).2.2.cl at' })
 else (true, { (siftF (rdPtr (st.S at')) st).2.2 with S := updS (siftF (rdPtr (st.S at')) st).2.2.S at' (ptrR (siftF (rdPtr (st.S at')) st).1).1, fm := addS (siftF (rdPtr (st.S at')) st).2.2.fm at' })
theorem WSecs.load {w : World} {g N c : Nat} {S : Nat → List Int} (h : WSecs w g N c S) {i : Nat} (hi : i < N) :
  ∃ cs, hat w g = some (.cells cs 47) ∧ (∀ raw w', ldRow raw 128 (i * 128) w' (some (.cells cs 47)) = .ok (.agg (IV .u8 (S i))) w') ∧ (S i).length = 128 ∧ Bytes (S i) := by
 obtain ⟨cs, h1, h2, h3⟩ := h
 refine ⟨cs, h1, fun raw w' => ?_, (h3 i hi).1, (h3 i hi).2.1⟩
 rw [ldRow_part (by omega), (h3 i hi).2.2]
theorem splice_list (old : Array Value) (off : Nat) (cs : Array Value) : (splice old off cs).toList = old.toList.take off ++ (cs.toList ++ old.toList.drop (off + cs.size)) := by
 unfold splice
 simp
theorem splice_at {cs new : Array Value} {m i : Nat} (hi : i * m + m ≤ cs.size) (hn : new.size = m) : (splice cs (i * m) new).extract (i * m) (i * m + m) = new := by
 apply Array.ext'
 rw [Array.toList_extract, List.extract_eq_take_drop, splice_list]
 have hlen : (cs.toList.take (i * m)).length = i * m := by simp; omega
 rw [Nat.add_sub_cancel_left, List.drop_left' hlen, List.take_left' (by simpa using hn)]
theorem splice_off {cs new : Array Value} {m i j : Nat} (hi : i * m + m ≤ cs.size) (hn : new.size = m) (hji : j * m + m ≤ i * m ∨ i * m + m ≤ j * m) : (splice cs (i * m) new).extract (j * m) (j * m + m) = cs.extract (j * m) (j * m + m) := by
 apply Array.ext'
 rw [Array.toList_extract, Array.toList_extract, List.extract_eq_take_drop, List.extract_eq_take_drop, splice_list]
 have hlen : (cs.toList.take (i * m)).length = i * m := by simp; omega
 apply List.ext_getElem?
 intro k
 rw [List.getElem?_take, List.getElem?_take]
 split
 ·rename_i hk
  rw [List.getElem?_drop, List.getElem?_drop]
  rcases hji with h4 | h4
  ·rw [List.getElem?_append_left (by rw [hlen]; omega), List.getElem?_take, if_pos (by omega)]
  ·rw [List.getElem?_append_right (by rw [hlen]; omega), hlen, List.getElem?_append_right (by rw [Array.length_toList, hn]; omega), Array.length_toList, List.getElem?_drop, hn]
   congr 1
   omega
 ·rfl
theorem WSecs.store {w : World} {g N c : Nat} {S : Nat → List Int} (h : WSecs w g N c S) {cs : Array Value} (hcs : hat w g = some (.cells cs 47)) {i : Nat} (hi : i < N) {s : List Int} (hl : s.length = 128) (hb : Bytes s) :
  WSecs (w.setRow g (splice cs (i * 128) (IV .u8 s))) g N c (updS S i s) := by
 obtain ⟨cs', h1, h2, h3⟩ := h
 rw [hcs] at h1
 obtain rfl : cs = cs' := by
  have := Option.some.inj h1
  injection this
 have hsz : (IV .u8 s).size = 128 := by rw [IV_size, hl]
 have hi2 : i * 128 + 128 ≤ N * 128 := by omega
 refine ⟨splice cs (i * 128) (IV .u8 s), hat_setRow_at _ _ _ _ _ _ hcs, (by rw [splice_size _ _ _ (by rw [hsz]; omega)]; exact h2), fun j hj => ?_⟩
 unfold updS
 by_cases hji : j = i
 ·subst hji
  rw [if_pos rfl]
  exact ⟨hl, hb, splice_at (by omega) hsz⟩
 ·rw [if_neg hji]
  refine ⟨(h3 j hj).1, (h3 j hj).2.1, (splice_off (by omega) hsz (by omega)).trans (h3 j hj).2.2⟩
theorem rdPtr_small {s : List Int} (hb : Bytes s) : ∀ p ∈ rdPtr s, 0 ≤ p ∧ p ≤ 4294967295 := by
 intro p hp
 unfold rdPtr at hp
 rw [List.mem_map] at hp
 obtain ⟨i, hi, he⟩ := hp
 rw [← he]
 exact getB4_lt hb (4 * i)
theorem ptrR_bytes (l : List Int) : Bytes (ptrR l).1 := by
 by_cases h : PtrMay l
 ·simp only [ptrR_yes h]; exact ptrSecN_bytes l 32 (by omega)
 ·simp only [ptrR_no h]; exact bytes_zl 128
theorem Fr.drop_new {ex : List Nat} {w a b : World} {g : Nat} (h : Fr [] w a) (h2 : Fr (g :: ex) a b) (hg : w.heap.size ≤ g) : Fr ex w b :=
 ⟨h2.os.trans h.os, h2.tape.trans h.tape, h2.output.trans h.output, Nat.le_trans h.size h2.size, fun k hk hn => (h2.block k (Nat.lt_of_lt_of_le hk h.size) (by simp only [List.mem_cons, not_or]; exact ⟨by omega, hn⟩)).trans (h.block k hk (by simp))⟩
theorem table_any {E : Env} (hE : EOk E) (siftF : List Int → LS → List Int × Bool × LS) (f : Nat) (caps : Array Value) (at' : Nat) (st : LS) (w : World) (J : World → Prop) (ex : List Nat) (hJ : J w) (hJf : ∀ w w', J w → Fr [] w w' → J w')
  (hf : ∀ args w, (callFunc f args).run Tryz.prog w = .ok (.enter f args) w) (ha : at' < E.N) (hN : E.N ≤ 4096) (h : LK E w st)
  (hsift : ∀ (ps : List Int) (gt : Nat) (st : LS) (W : World), ps.length = 32 → (∀ p ∈ ps, 0 ≤ p ∧ p ≤ 4294967295) → LK E W st → J W → Nums W gt 0 119 32 (fun _ => none) ps → gt ∉ [E.gl, E.gw, E.bc, E.bf, E.bx] → w.heap.size ≤ gt →
   Calls Tryz.prog f (#[.slice (some ⟨gt, 0, none⟩) 32 32] ++ caps) W fun e w' => e = .returned (.bool (siftF ps st).2.1) ∧ LK E w' (siftF ps st).2.2 ∧ hat w' gt = some (.cells (IV .i64 (siftF ps st).1) 119) ∧ (siftF ps st).1.length = 32 ∧ Fr (gt :: ex) W w') :
  Calls Tryz.prog 79 #[.pointer (some ⟨E.gl, 0, none⟩), .int .i64 at', .func (.func f) #[] caps] w fun e w' => e = .returned (.bool (tableP siftF at' st).1) ∧ LK E w' (tableP siftF at' st).2 ∧ Fr ([E.bc, E.gw, E.bf] ++ ex) w w' := by
 have hl := h.look
 unfold lkCells at hl
 obtain ⟨cs, hcs, hld, hlen, hby⟩ := h.want.load ha
 have HBY := Lib.hid hby
 have HS := Lib.hid hsift
 have HH := Lib.hid h
 clear hby hsift
 have ha0 : (0 : Int) ≤ (at' : Int) := Int.natCast_nonneg _
 have ha1 : (at' : Int) < (E.N : Int) := by omega
 go_enter Tryz.func79, Tryz.ntmps79
 go_wp2_with fail
 refine (lreadPointers_any (st.S at') hlen HBY.out _).mono ?_; rintro e w1 ⟨rfl, hb⟩
 go_wp2_with fail
 have hb2 := below_new hb hb.size (.cells (IV .i64 (rdPtr (st.S at'))) 119)
 have hlk2 := HH.out.fr (fr_below hb2 []) (by simp) (by simp) (by simp) (by simp) (by simp)
 have hg2 := hopN w1 (.cells (IV .i64 (rdPtr (st.S at'))) 119)
 have hz1 := hb.size
 have hn2 : Nums (w1.alloc (.cells (IV .i64 (rdPtr (st.S at'))) 119)) w1.heap.size 0 119 32 (fun _ => none) (rdPtr (st.S at')) := ⟨_, hg2.1, by simp, by simp, fun j p hj => (by rw [Nat.zero_add, IV_get?, hj]; rfl), fun j hj => Array.getElem?_eq_none (by simp at hj ⊢; omega)⟩
 have hgn : w1.heap.size ∉ [E.gl, E.gw, E.bc, E.bf, E.bx] := by
  have a1 := hat_lt HH.out.look
  have a2 := hat_lt hcs
  have a3 := HH.out.claim.lt
  have a4 := HH.out.firm.lt
  have a5 := HH.out.blocks.lt
  simp only [List.mem_cons, List.mem_nil_iff, or_false]
  omega
 have HB2 := Lib.hid hb2
 have HGN := Lib.hid hgn
 refine (HS.out (rdPtr (st.S at')) w1.heap.size st _ (by simp) (rdPtr_small HBY.out) hlk2 (hJf _ _ hJ (fr_below hb2 [])) hn2 hgn hz1).mono ?_; rintro e w3 ⟨rfl, hlk3, hg3, hl3, hf3⟩
 clear hb2 hlk2 hg2 hn2 hgn hl hcs hld hlen HS hb
 generalize hR : siftF (rdPtr (st.S at')) st = R at *
 have HR := Lib.hid hR
 clear hR
 obtain ⟨ps, left, st3⟩ := R
 simp only at hlk3 hg3 hl3
 have HL3 := Lib.hid hlk3
 have HF3 := Lib.hid hf3
 have hl := hlk3.look
 unfold lkCells at hl
 cases left with
 | false =>
  obtain ⟨w4, hr, hm, ht⟩ := hlk3.claim.del (p := (at' : Int)) ⟨ha0, by omega⟩ 0
  have HM4 := Lib.hid hm
  have HT4 := Lib.hid ht
  clear hm ht hlk3 hf3 hg3 hl3
  go_wp2_with fail
  go_ret
  have hfr : Fr ([E.bc, E.gw, E.bf] ++ ex) w w4 := ((Fr.drop_new (fr_below HB2.out []) HF3.out hz1).mono (by simp +contextual)).trans ((fr_turned HT4.out).mono (by simp))
  have h3 := HL3.out
  have hw3 := h3.want
  obtain ⟨cs3, hw3, -⟩ := hw3
  unfold tableP
  rw [HR.out]
  exact ⟨rfl, ⟨(turned_hat HT4.out hE.n2 (hat_lt h3.look)).trans h3.look, h3.want.same (turned_hat HT4.out hE.n4 (hat_lt hw3)), HM4.out, h3.firm.same (turned_hat HT4.out hE.n6.symm h3.firm.lt), h3.blocks.same (turned_hat HT4.out hE.n9.symm h3.blocks.lt)⟩, hfr⟩
 | true =>
  have hcl := hlk3.want
  obtain ⟨cs3, hcs3, hs3, hs3b⟩ := hcl
  have hst : ∀ raw w', stRow raw 128 (at' * 128) E.gw (IV .u8 (ptrR ps).1) w' (some (.cells cs3 47 (0, 0))) = .ok () (w'.setRow E.gw (splice cs3 (at' * 128) (IV .u8 (ptrR ps).1))) := fun raw w' =>
   stRow_part (by omega) (by simp) (by simp)
  have HPL := Lib.hid hl3
  clear hs3b hf3
  have hgt : w1.heap.size ≠ E.gw := fun e => HGN.out (by rw [e]; simp)
  have hgt0 : w1.heap.size < w3.heap.size := hat_lt hg3
  have hgl0 : E.gl < w3.heap.size := hat_lt hl
  generalize w1.heap.size = gt at *
  have hn1 := hE.n1
  go_wp2_with fail
  go_region_with ((refine (lptr_any ps HPL.out _).mono ?_; rintro e w5 ⟨rfl, hb5⟩; have hb5 : Below w3.heap.size w3 w5 := ⟨hb5.os, hb5.tape, hb5.output, hb5.size, hb5.block⟩; have fl5 := (hop hb5 hl).1; have fg5 := (hop hb5 hg3).1; have fw5 := (hop hb5 hcs3).1))
  all_goals
   have hf5 : Fr [] w3 w5 := fr_below hb5 []
   have hlk5 := HL3.out.fr hf5 (by simp) (by simp) (by simp) (by simp) (by simp)
   have hw6 := hlk5.want.store fw5 ha (ptrR_length ps) (ptrR_bytes ps)
   have hl6 : hat (w5.setRow E.gw (splice cs3 (at' * 128) (IV .u8 (ptrR ps).1))) E.gl = _ := (hat_setRow _ _ _ _ hE.n1).trans fl5
   have hc6 := hlk5.claim.same (hat_setRow w5 E.gw E.bc (splice cs3 (at' * 128) (IV .u8 (ptrR ps).1)) hE.n4.symm)
   have hb6 := hlk5.blocks.same (hat_setRow w5 E.gw E.bx (splice cs3 (at' * 128) (IV .u8 (ptrR ps).1)) hE.n8.symm)
   have hm6 := hlk5.firm.same (hat_setRow w5 E.gw E.bf (splice cs3 (at' * 128) (IV .u8 (ptrR ps).1)) hE.n5.symm)
   have hf6 : Fr ([E.bc, E.gw, E.bf] ++ ex) w3 (w5.setRow E.gw (splice cs3 (at' * 128) (IV .u8 (ptrR ps).1))) := (hf5.mono (by simp)).trans ((fr_setRow _ _ _).mono (by simp))
   generalize w5.setRow E.gw (splice cs3 (at' * 128) (IV .u8 (ptrR ps).1)) = w6 at *
   obtain ⟨w7, hr7, hm7, ht7⟩ := hm6.put (p := (at' : Int)) ⟨ha0, by omega⟩
   have HW6 := Lib.hid hw6
   have HC6 := Lib.hid hc6
   have HX6 := Lib.hid hb6
   have HF6 := Lib.hid hf6
   have HM7 := Lib.hid hm7
   have HT7 := Lib.hid ht7
   have hl6s := hat_lt hl6
   clear hw6 hc6 hb6 hm6 hf6 hm7 ht7 hlk5 hf5 hlk3
   go_wp2_with fail
   go_ret
   unfold tableP
   rw [HR.out]
   have hfr : Fr ([E.bc, E.gw, E.bf] ++ ex) w w7 := (((Fr.drop_new (fr_below HB2.out []) HF3.out hz1).mono (by simp +contextual)).trans HF6.out).trans ((fr_turned HT7.out).mono (by simp))
   have hw6 := HW6.out
   obtain ⟨cs6, hw6, -⟩ := hw6
   exact ⟨rfl, ⟨(turned_hat HT7.out hE.n3 hl6s).trans hl6, HW6.out.same (turned_hat HT7.out hE.n5 (hat_lt hw6)), HC6.out.same (turned_hat HT7.out hE.n6 HC6.out.lt), HM7.out, HX6.out.same (turned_hat HT7.out hE.n10.symm HX6.out.lt)⟩, hfr⟩
end Go.Proofs.YtmnecpnkkapflaaGreat
