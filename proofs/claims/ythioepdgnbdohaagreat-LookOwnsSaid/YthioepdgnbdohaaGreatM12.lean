import Derived.Great.BuildSlice
import Derived.Deep.CutBlock
import Derived.Test.YthioepdgnbdohaaGreatM09
import Derived.Test.YthioepdgnbdohaaGreatM11
namespace Go.Proofs.YthioepdgnbdohaaGreat
set_option maxHeartbeats 16000000
set_option maxRecDepth 1000000
set_option linter.unusedSimpArgs false
set_option linter.unusedVariables false
open Go.RowKit
def Ec (m : Nat) : List Int := (zl 128).set 0 (m : Int)
theorem Dz (m : Nat) : (Ec m).length = 128 := by unfold Ec; rw [List.length_set]; exact Ca _
theorem Gq {m : Nat} (h : m < 256) : A0 (Ec m) := by
 intro x hx;unfold Ec at hx;rcases List.mem_or_eq_of_mem_set hx with h1 | rfl
 ·exact Et _ x h1
 ·omega
def Nu (k : Nat) (m : Int) (xs : List Int) : List Int := List.replicate k m ++ xs.drop k
theorem dY {k : Nat} {m : Int} {xs : List Int} (h : k < xs.length) : (Nu k m xs).set k m = Nu (k + 1) m xs := by
 unfold Nu;rw [List.set_append_right _ _ (by simp), List.length_replicate, Nat.sub_self, List.drop_eq_getElem_cons h, List.set_cons_zero, List.replicate_succ', List.append_assoc];rfl
theorem Sl {k : Nat} {m : Int} {xs : List Int} (h : k <= xs.length) : (Nu k m xs).length = xs.length := by unfold Nu; simp; omega
theorem O1 (m : Int) (xs : List Int) : Nu 0 m xs = xs := by simp [Nu]
theorem O0 (m : Int) (xs : List Int) : Nu xs.length m xs = List.replicate xs.length m := by simp [Nu]
def Zr (k : Nat) (s : List Int) (S : Nat -> List Int) : Nat -> List Int := fun j => if j < k then s else S j
theorem dW (s : List Int) (S : Nat -> List Int) : Zr 0 s S = S := by funext j; simp [Zr]
theorem dV (k : Nat) (s : List Int) (S : Nat -> List Int) : Bn (Zr k s S) k s = Zr (k + 1) s S := by
 funext j
 unfold Bn Zr;by_cases h1 : j = k
 ·subst h1; simp
 ·by_cases h2 : j < k
  ·rw [if_neg h1, if_pos h2, if_pos (by omega)]
  ·rw [if_neg h1, if_neg h2, if_neg (by omega)]
def RP.mark (R : RP) (m : Nat) : RP := { R with S := fun _ => Ec m, xs := List.replicate R.xs.length (10000 + m : Int), ys := List.replicate R.ys.length (20000 + m : Int), zs := List.replicate R.zs.length (30000 + m : Int) }
theorem Bc.put {w : World} {g off c : Nat} {ob : Option Nat} {xs : List Int} (h : Bc w (.slice (some ⟨g, off, none⟩) xs.length c) ob xs) {k : Nat} (hk : k < xs.length) (x : Int) :
  Bc (w.setCell ⟨g, off + k, none⟩ (.int .i64 x)) (.slice (some ⟨g, off, none⟩) xs.length c) ob (xs.set k x) := by
 rcases h with ⟨h, -⟩ | ⟨g', off', c', cs, e, h1, h2, h3, h4, h5⟩
 ·cases h
 ·injection e with e1 e2 e3
  injection e1 with e1
  injection e1 with p1 p2
  subst p1 p2 e3;refine .inr ⟨g, off, c, cs.setIfInBounds (off + k) (.int .i64 x), by rw [List.length_set], h1, Ah _ _ _ _ _ _ _ h2, by rw [List.length_set]; exact h3, by rw [Array.size_setIfInBounds]; exact h4, fun j p hj => ?_⟩;rw [Array.getElem?_setIfInBounds];by_cases hjk : j = k
  ·subst hjk;rw [List.getElem?_set_self hk] at hj;rw [if_pos rfl, if_pos (by omega), Option.some.inj hj]
  ·rw [if_neg (by omega)];rw [List.getElem?_set_ne (by omega)] at hj;exact h5 j p hj
theorem Ew.ne {w : World} {v v' : Value} {o o' : Option Nat} {N : Nat} {S : Nat -> List Int} {xs : List Int} (h : Ew w v o N S) (h' : Bc w v' o' xs) {g q : Nat} (hg : o = some g) (hq : o' = some q) : q ≠ g := by
 rintro rfl;rcases h.g with ⟨-, h, -⟩ | ⟨g', off, c, cs, -, h, hc, -⟩
 ·rw [hg] at h; cases h
 ·rcases h' with ⟨-, h2, -⟩ | ⟨g2, _, _, cs2, -, h2, hc2, -⟩
  ·rw [hq] at h2; cases h2
  ·rw [hg] at h; rw [hq] at h2;cases h; cases h2;rw [hc] at hc2;injection hc2 with hc2
   injection hc2 with _ hc2
   revert hc2; decide
theorem Bc.put' {w : World} {v : Value} {ob : Option Nat} {xs : List Int} {k : Nat} {m : Int} (h : Bc w v ob (Nu k m xs)) (hk : k < xs.length) :
  ∃ g off c cs, v = .slice (some ⟨g, off, none⟩) xs.length c /\ ob = some g /\ hat w g = some (.cells cs 3) /\ off + k < cs.size /\ Bc (w.setCell ⟨g, off + k, none⟩ (.int .i64 m)) v ob (Nu (k + 1) m xs) /\ Fr [g] w (w.setCell ⟨g, off + k, none⟩ (.int .i64 m)) := by
 obtain ⟨g, off, c, cs, e, h1, h2, -⟩ := h.cell (k := k) (by rw [Sl (by omega)]; exact hk);subst e;have hp := h.put (k := k) (by rw [Sl (by omega)]; exact hk) m;rw [dY hk] at hp;rcases h with ⟨e, -⟩ | ⟨g', off', c', cs', e, a1, a2, a3, a4, a5⟩
 ·cases e
 ·injection e with e1 e2 e3
  injection e1 with e1
  injection e1 with p1 p2
  subst p1 p2 e3;rw [Sl (by omega)] at hp a3 ⊢;refine ⟨g, off, c, cs', rfl, h1, a2, by omega, hp, Ai _ _ _ _⟩
theorem fV {R : RP} {w : World} (h : Iq w R) (m : Nat) (hm : m <= 200) :
  Calls Tryz.prog 14 #[R.val, .int .i64 m] w fun e w' => e = .returned (.tuple #[]) /\ Iq w' (R.mark m) /\ Fr R.os w w' := by
 obtain ⟨v0, v1, v2, v3, o0, o1, o2, o3, N, S, xs, ys, zs⟩ := R;obtain ⟨r0, r1, r2, r3, d12, d13, d23, n0, n1, n2, n3⟩ := h;simp only at r0 r1 r2 r3 d12 d13 d23 n0 n1 n2 n3;have HD := sW (show _ /\ _ /\ _ from ⟨d12, d13, d23⟩);have hne : ∀ g, o0 = some g -> (∀ q, o1 = some q -> q ≠ g) /\ (∀ q, o2 = some q -> q ≠ g) /\ (∀ q, o3 = some q -> q ≠ g) := fun g hg => ⟨fun q hq => r0.ne r1 hg hq, fun q hq => r0.ne r2 hg hq, fun q hq => r0.ne r3 hg hq⟩
 have HNE := sW hne;obtain ⟨a0, c0, rfl⟩ := r0.g.slice;obtain ⟨a1, c1, e1⟩ := r1.slice;obtain ⟨a2, c2, e2⟩ := r2.slice;obtain ⟨a3, c3, e3⟩ := r3.slice;subst e1 e2 e3;have H0 := sW r0;have H1 := sW r1;have H2 := sW r2;have H3 := sW r3;clear r0 r1 r2 r3 d12 d13 d23 hne;unfold RP.val;go_enter Tryz.func14, Tryz.ntmps14;go_wp2_with fail;obtain ⟨w1, hw1⟩ : ∃ w1, w1 = w.alloc (.cells #[.slice a0 N c0, .slice a1 xs.length c1, .slice a2 ys.length c2, .slice a3 zs.length c3] 26) := ⟨_, rfl⟩;have hgb : hat w1 w.heap.size = some (.cells #[.slice a0 N c0, .slice a1 xs.length c1, .slice a2 ys.length c2, .slice a3 zs.length c3] 26) := by rw [hw1]; exact (A7 w _).1
 have hf1 : Fr [] w w1 := by rw [hw1]; exact Dv w _ []
 rw [<- hw1];have hno : ∀ (o : Option Nat) (l : List Int) (v : Value), Bc w v o l -> ∀ g, o = some g -> w.heap.size ≠ g := fun o l v h g hg => by have := h.lt g hg; omega
 have hb0 : ∀ g, o0 = some g -> w.heap.size ≠ g := fun g hg => by have := H0.out.g.lt g hg; omega
 have HB := sW (show _ /\ _ /\ _ /\ _ from ⟨hb0, hno _ _ _ H1.out, hno _ _ _ H2.out, hno _ _ _ H3.out⟩);have HF1 := sW hf1;have HG := sW hgb;clear hno hb0 hw1 hf1 hgb;generalize w.heap.size = gb at *;go_loopw [4] (fun v wr => ∃ k : Nat, v = .int .i64 k /\ k <= N /\ Hid (Fr o0.toList w1 wr) /\ Hid (Ew wr (.slice a0 N c0) o0 N (Zr k (Ec m) S))) (fun v wr => N - (intOf v).toNat)
 case atStart => exact ⟨0, rfl, Nat.zero_le _, sW (Fr.refl _ _), sW (by rw [dW]; exact H0.out.fr HF1.out (by simp))⟩
 case round =>
  obtain ⟨k, rfl, hk, HF, HS⟩ := hrel;have hg := (HF.out.block gb (Aa HG.out) (fun h => HB.out.1 gb (by simpa using h) rfl)).trans HG.out;have hgl := Aa hg;by_cases hkN : k < N
  ·have hk0 : (0 : Int) <= (k : Int) := Int.natCast_nonneg _;have hk1 : (k : Int) < (N : Int) := by omega
   obtain ⟨g, off, c, cs, e, ho, hcs, hsz, hput⟩ := HS.out.put hkN (Dz m) (Gq (show m < 256 by omega));injection e with e1 e2 e3
   subst e1 e3;have HP := sW hput;have hst : ∀ raw w', Cw raw 128 (off + k * 128) g (IV .u8 ((zl 128).set 0 (m : Int))) w' (some (.cells cs 33 (0, 0))) = .ok () (w'.setRow g (Ak cs (off + k * 128) (IV .u8 (Ec m)))) := fun raw w' => Cb (by omega) (by simp [Dz]) (by simp)
   clear hput hgl;have hgl := Aa hg;go_wp2_with fail;go_roundw
   case rel => exact ⟨k + 1, by go_num, by omega, sW (HF.out.trans ((Cl wr g _).mono (by rw [ho]; simp))), sW (by rw [<- dV]; exact HP.out)⟩
   case measure => (show N - (k + 1) < N - k); omega
  ·have hkk : k = N := by omega
   clear hg hgl;have HW1 := HS;rw [hkk] at HW1;have R0 : Hid (Ew wr (.slice a0 N c0) o0 N (fun _ => Ec m)) := sW (HW1.out.congr fun j hj => by unfold Zr; rw [if_pos hj]);have HA1 := sW ((HF1.out.mono (ex' := o0.toList) (by simp)).trans HF.out);have G1 := sW ((HF.out.block gb (Aa HG.out) (fun h => HB.out.1 gb (by simpa using h) rfl)).trans HG.out);have Q1 := sW (H1.out.fr HA1.out (fun g hg hm => by
    have h : o0 = some g := by simpa using hm
    exact (HNE.out _ h).1 _ hg rfl))
   have hgl := Aa G1.out;have hg := G1.out;clear HS HF HW1;subst hkk;go_wp2_with fail;clear hg hgl;go_loopw [5] (fun v wx => ∃ k : Nat, v = .int .i64 k /\ k <= xs.length /\ Hid (Fr o1.toList wr wx) /\ Hid (Bc wx (.slice a1 xs.length c1) o1 (Nu k (10000 + m : Int) xs))) (fun v wx => xs.length - (intOf v).toNat)
   case atStart => exact ⟨0, rfl, Nat.zero_le _, sW (Fr.refl _ _), sW (by rw [O1]; exact Q1.out)⟩
   case round =>
    obtain ⟨k, rfl, hk, HFi, HS⟩ := hrel;have hg := (HFi.out.block gb (Aa G1.out) (fun h => HB.out.2.1 gb (by simpa using h) rfl)).trans G1.out;have hgl := Aa hg;by_cases hkN : k < xs.length
    ·have hk0 : (0 : Int) <= (k : Int) := Int.natCast_nonneg _;have hk1 : (k : Int) < (xs.length : Int) := by omega
     obtain ⟨g, off, c, cs, e, ho, hcs, hsz, hput, hfr⟩ := HS.out.put' hkN;injection e with e1 e2 e3
     subst e1 e3;have HP := sW hput;have HR := sW (HFi.out.trans (hfr.mono (ex' := o1.toList) (by rw [ho]; simp)));obtain ⟨x0, hx0⟩ : ∃ x0, cs[off + k]? = some x0 := ⟨_, Array.getElem?_eq_getElem hsz⟩;clear hput hfr hsz;go_wp2_with fail;go_roundw
     case rel => exact ⟨k + 1, by go_num, by omega, HR, HP⟩
     case measure => (show xs.length - (k + 1) < xs.length - k); omega
    ·have hkk : k = xs.length := by omega
     have R1 := HS;rw [hkk, O0] at R1;have R0 := sW (R0.out.fr HFi.out (fun g hg hm => by
      have h : o1 = some g := by simpa using hm
      exact (HNE.out _ hg).1 _ h rfl))
     have HA2 : Hid (Fr (o0.toList ++ o1.toList) w _) := sW ((HA1.out.mono (ex' := o0.toList ++ o1.toList) (fun b hb => List.mem_append_left _ hb)).trans (HFi.out.mono (ex' := o0.toList ++ o1.toList) (fun b hb => List.mem_append_right _ hb)));have G2 := sW ((HFi.out.block gb (Aa G1.out) (fun h => HB.out.2.1 gb (by simpa using h) rfl)).trans G1.out);have Q2 := sW (H2.out.fr HA2.out (fun g hg hm => by
      simp only [List.mem_append, Option.mem_toList] at hm;rcases hm with h | h
      ·exact (HNE.out _ h).2.1 _ hg rfl
      ·exact HD.out.1 _ h hg))
     clear HS HFi hk hkN;subst hkk;go_wp2_with fail;clear hg hgl;go_loopw [6] (fun v wx => ∃ k : Nat, v = .int .i64 k /\ k <= ys.length /\ Hid (Fr o2.toList wr wx) /\ Hid (Bc wx (.slice a2 ys.length c2) o2 (Nu k (20000 + m : Int) ys))) (fun v wx => ys.length - (intOf v).toNat)
     case atStart => exact ⟨0, rfl, Nat.zero_le _, sW (Fr.refl _ _), sW (by rw [O1]; exact Q2.out)⟩
     case round =>
      obtain ⟨k, rfl, hk, HFi, HS⟩ := hrel;have hg := (HFi.out.block gb (Aa G2.out) (fun h => HB.out.2.2.1 gb (by simpa using h) rfl)).trans G2.out;have hgl := Aa hg;by_cases hkN : k < ys.length
      ·have hk0 : (0 : Int) <= (k : Int) := Int.natCast_nonneg _;have hk1 : (k : Int) < (ys.length : Int) := by omega
       obtain ⟨g, off, c, cs, e, ho, hcs, hsz, hput, hfr⟩ := HS.out.put' hkN;injection e with e1 e2 e3
       subst e1 e3;have HP := sW hput;have HR := sW (HFi.out.trans (hfr.mono (ex' := o2.toList) (by rw [ho]; simp)));obtain ⟨x0, hx0⟩ : ∃ x0, cs[off + k]? = some x0 := ⟨_, Array.getElem?_eq_getElem hsz⟩;clear hput hfr hsz;go_wp2_with fail;go_roundw
       case rel => exact ⟨k + 1, by go_num, by omega, HR, HP⟩
       case measure => (show ys.length - (k + 1) < ys.length - k); omega
      ·have hkk : k = ys.length := by omega
       have R2 := HS;rw [hkk, O0] at R2;have R0 := sW (R0.out.fr HFi.out (fun g hg hm => by
        have h : o2 = some g := by simpa using hm
        exact (HNE.out _ hg).2.1 _ h rfl))
       have R1 := sW (R1.out.fr HFi.out (fun g hg hm => by
        have h : o2 = some g := by simpa using hm
        exact HD.out.1 _ hg h))
       have HA3 : Hid (Fr (o0.toList ++ o1.toList ++ o2.toList) w _) := sW ((HA2.out.mono (ex' := o0.toList ++ o1.toList ++ o2.toList) (fun b hb => List.mem_append_left _ hb)).trans (HFi.out.mono (ex' := o0.toList ++ o1.toList ++ o2.toList) (fun b hb => List.mem_append_right _ hb)));have G3 := sW ((HFi.out.block gb (Aa G2.out) (fun h => HB.out.2.2.1 gb (by simpa using h) rfl)).trans G2.out);have Q3 := sW (H3.out.fr HA3.out (fun g hg hm => by
        simp only [List.mem_append, Option.mem_toList] at hm;rcases hm with (h | h) | h
        ·exact (HNE.out _ h).2.2 _ hg rfl
        ·exact HD.out.2.1 _ h hg
        ·exact HD.out.2.2 _ h hg))
       clear HS HFi hk hkN;subst hkk;go_wp2_with fail;clear hg hgl;go_loopw [7] (fun v wx => ∃ k : Nat, v = .int .i64 k /\ k <= zs.length /\ Hid (Fr o3.toList wr wx) /\ Hid (Bc wx (.slice a3 zs.length c3) o3 (Nu k (30000 + m : Int) zs))) (fun v wx => zs.length - (intOf v).toNat)
       case atStart => exact ⟨0, rfl, Nat.zero_le _, sW (Fr.refl _ _), sW (by rw [O1]; exact Q3.out)⟩
       case round =>
        obtain ⟨k, rfl, hk, HFi, HS⟩ := hrel;have hg := (HFi.out.block gb (Aa G3.out) (fun h => HB.out.2.2.2 gb (by simpa using h) rfl)).trans G3.out;have hgl := Aa hg;by_cases hkN : k < zs.length
        ·have hk0 : (0 : Int) <= (k : Int) := Int.natCast_nonneg _;have hk1 : (k : Int) < (zs.length : Int) := by omega
         obtain ⟨g, off, c, cs, e, ho, hcs, hsz, hput, hfr⟩ := HS.out.put' hkN;injection e with e1 e2 e3
         subst e1 e3;have HP := sW hput;have HR := sW (HFi.out.trans (hfr.mono (ex' := o3.toList) (by rw [ho]; simp)));obtain ⟨x0, hx0⟩ : ∃ x0, cs[off + k]? = some x0 := ⟨_, Array.getElem?_eq_getElem hsz⟩;clear hput hfr hsz;go_wp2_with fail;go_roundw
         case rel => exact ⟨k + 1, by go_num, by omega, HR, HP⟩
         case measure => (show zs.length - (k + 1) < zs.length - k); omega
        ·have hkk : k = zs.length := by omega
         have R3 := HS;rw [hkk, O0] at R3;have R0 := sW (R0.out.fr HFi.out (fun g hg hm => by
          have h : o3 = some g := by simpa using hm
          exact (HNE.out _ hg).2.2 _ h rfl))
         have R1 := sW (R1.out.fr HFi.out (fun g hg hm => by
          have h : o3 = some g := by simpa using hm
          exact HD.out.2.1 _ hg h))
         have R2 := sW (R2.out.fr HFi.out (fun g hg hm => by
          have h : o3 = some g := by simpa using hm
          exact HD.out.2.2 _ hg h))
         have HA4 : Hid (Fr (o0.toList ++ o1.toList ++ o2.toList ++ o3.toList) w _) := sW ((HA3.out.mono (ex' := o0.toList ++ o1.toList ++ o2.toList ++ o3.toList) (fun b hb => List.mem_append_left _ hb)).trans (HFi.out.mono (ex' := o0.toList ++ o1.toList ++ o2.toList ++ o3.toList) (fun b hb => List.mem_append_right _ hb)));clear HS HFi hk hkN;subst hkk;go_wp2_with fail;go_end0
         exact ⟨rfl, ⟨R0.out, R1.out, R2.out, R3.out, HD.out.1, HD.out.2.1, HD.out.2.2, n0, by simpa [RP.mark] using n1, by simpa [RP.mark] using n2, by simpa [RP.mark] using n3⟩, HA4.out⟩
structure S8 (w : World) (n : Nat) (R : Nat -> RP) : Prop where
 rep : ∀ i, i < n -> Iq w (R i)
 dis : ∀ i j, i < n -> j < n -> i ≠ j -> ∀ g ∈ (R i).os, g ∉ (R j).os
theorem S8.fr {w w' : World} {n : Nat} {R : Nat -> RP} {ex : List Nat} (h : S8 w n R) (hf : Fr ex w w') (hn : ∀ i, i < n -> ∀ g ∈ (R i).os, g ∉ ex) : S8 w' n R :=
 ⟨fun i hi => (h.rep i hi).fr hf (hn i hi), h.dis⟩
theorem RP.mark_os (R : RP) (m : Nat) : (R.mark m).os = R.os := rfl
def Eo (k : Nat) (R : Nat -> RP) : Nat -> RP := fun i => if i < k then (R i).mark (i + 1) else R i
theorem Gp (k : Nat) (R : Nat -> RP) (i : Nat) : (Eo k R i).os = (R i).os := by unfold Eo; split <;> rfl
theorem L6 (k : Nat) (R : Nat -> RP) : Eo k R k = R k := by unfold Eo; rw [if_neg (Nat.lt_irrefl k)]
theorem W4 (R : Nat -> RP) : Eo 0 R = R := by funext i; unfold Eo; rw [if_neg (Nat.not_lt_zero i)]
theorem S8.mark {w w' : World} {n k : Nat} {R : Nat -> RP} (h : S8 w n (Eo k R)) (hk : k < n) (h1 : Iq w' ((Eo k R k).mark (k + 1))) (hf : Fr (Eo k R k).os w w') : S8 w' n (Eo (k + 1) R) := by
 refine ⟨fun i hi => ?_, fun i j hi hj hij => by rw [Gp, Gp]; have := h.dis i j hi hj hij; rw [Gp, Gp] at this; exact this⟩;by_cases hik : i = k
 ·subst hik;have e : Eo (i + 1) R i = (Eo i R i).mark (i + 1) := by rw [L6]; unfold Eo; rw [if_pos (Nat.lt_succ_self i)]
  rw [e]; exact h1
 ·have e : Eo (k + 1) R i = Eo k R i := by
   unfold Eo;by_cases h2 : i < k
   ·rw [if_pos h2, if_pos (by omega)]
   ·rw [if_neg h2, if_neg (by omega)]
  rw [e];exact (h.rep i hi).fr hf (h.dis i k hi hk hik)
def Fi (R : Nat -> RP) (k : Nat) : Value := if k % 4 = 0 then (R (k / 4)).v0 else if k % 4 = 1 then (R (k / 4)).v1 else if k % 4 = 2 then (R (k / 4)).v2 else (R (k / 4)).v3
theorem Di.rep {w : World} {g off n c : Nat} {ob : Option Nat} {R : Nat -> RP} (h : Di 26 4 w (.slice (some ⟨g, off, none⟩) n c) ob n (Fi R)) {i : Nat} (hi : i < n) :
  ∃ cs, hat w g = some (.cells cs 26) /\ ob = some g /\ ∀ raw w', El raw 4 (off + i * 4) w' (some (.cells cs 26)) = .ok (R i).val w' := by
 rcases h with ⟨h, -⟩ | ⟨g', off', c', cs, e, h2, h3, h4, h5, h6⟩
 ·cases h
 ·injection e with e1 e2 e3
  injection e1 with e1
  injection e1 with p1 p2
  subst p1 p2 e3;refine ⟨cs, h3, h2, fun raw w' => ?_⟩;rw [Cy (by omega)];unfold RP.val;congr 2
  apply Array.ext_getElem?
  intro j;rw [Array.getElem?_extract];have key : ∀ q, q < 4 -> cs[off + i * 4 + q]? = some (Fi R (i * 4 + q)) := fun q hq => by
   have := h6 (i * 4 + q) (by omega);rw [<- Nat.add_assoc] at this;exact this
  have e4 : ∀ q, q < 4 -> (i * 4 + q) / 4 = i /\ (i * 4 + q) % 4 = q := fun q hq => by omega
  rcases j with _ | _ | _ | _ | j
  ·rw [if_pos (by omega), key 0 (by omega)]; unfold Fi; rw [(e4 0 (by omega)).1, (e4 0 (by omega)).2]; rfl
  ·rw [if_pos (by omega), key 1 (by omega)]; unfold Fi; rw [(e4 1 (by omega)).1, (e4 1 (by omega)).2]; rfl
  ·rw [if_pos (by omega), key 2 (by omega)]; unfold Fi; rw [(e4 2 (by omega)).1, (e4 2 (by omega)).2]; rfl
  ·rw [if_pos (by omega), key 3 (by omega)]; unfold Fi; rw [(e4 3 (by omega)).1, (e4 3 (by omega)).2]; rfl
  ·rw [if_neg (by omega)]; simp
structure Is (T : TypeId) (sz : Nat) (w : World) (v : Value) (o : Option Nat) (vx : Value) (ox : Option Nat) (n m : Nat) (f : Nat -> Value) (B : Nat) : Prop where
 x : Di T sz w vx ox (n + m) f
 l : Di T sz w v o n f
 e : (∃ a c, v = .slice a n c /\ vx = .slice a (n + m) c /\ ox = o) \/ ∃ g, ox = some g /\ B <= g
 c : ∃ a c, vx = .slice a (n + m) c /\ (n + m <= c \/ vx = v)
 b : ∀ g, o = some g -> g < B
theorem Is.fr {T : TypeId} {sz : Nat} {w w' : World} {v vx : Value} {o ox : Option Nat} {n m B : Nat} {f : Nat -> Value} {ex : List Nat} (h : Is T sz w v o vx ox n m f B) (hf : Fr ex w w') (h1 : ∀ g, o = some g -> g ∉ ex) (h2 : ∀ g, ox = some g -> g ∉ ex) : Is T sz w' v o vx ox n m f B :=
 ⟨h.x.fr hf h2, h.l.fr hf h1, h.e, h.c, h.b⟩
theorem Is.zero {T : TypeId} {sz : Nat} {w : World} {v : Value} {o : Option Nat} {n B : Nat} {f : Nat -> Value} (h : Di T sz w v o n f) (hb : ∀ g, o = some g -> g < B) : Is T sz w v o v o n 0 f B := by
 obtain ⟨a, c, hv⟩ := h.slice;exact ⟨h, h, .inl ⟨a, c, hv, hv, rfl⟩, ⟨a, c, hv, .inr rfl⟩, hb⟩
theorem Is.step {P : Program} {ST T : TypeId} {sz By : Nat} (ht : P.underlying ST = some (.slice T)) {inf : TypeInfo} {z : Value} (hi : P.info? T = some inf) (hz : inf.zero = some z) (hzs : z.cells.size = sz) (his : inf.size = sz) (hib : inf.bytes = By)
  {w : World} {v vx u : Value} {o ox : Option Nat} {n m B : Nat} {f : Nat -> Value} (h : Is T sz w v o vx ox n m f B) {news : List Value} (hs : Src P sz ST u 1 news w) (hnw : ∀ k, k < sz -> news[k]? = some (f ((n + m) * sz + k))) (hB : 0 < By) (hn : (n + m + 1) * By <= 140737488355328) (hBw : B <= w.heap.size) (ty : TypeId) :
  ∃ vx' w' ox', (Builtin.append_ #[ST, ST] ty #[vx, u]).run P w = .ok vx' w' /\ Is T sz w' v o vx' ox' n (m + 1) f B /\ Fr ox.toList w w' /\ (ox' = ox \/ ∃ g, ox' = some g /\ w.heap.size <= g) /\ ∃ a c, vx' = .slice a (n + m + 1) c := by
 obtain ⟨v', w', ob', h1, h2, h3⟩ := Kf ht hi hz hzs his hib h.x (f2 := fun k => f ((n + m) * sz + k)) hs (fun k hk => hnw k (by omega)) hB hn ty;have he : V7 ((n + m) * sz) f (fun k => f ((n + m) * sz + k)) = f := by
  funext k
  unfold V7;by_cases hk : k < (n + m) * sz
  ·rw [if_pos hk]
  ·rw [if_neg hk];show f ((n + m) * sz + (k - (n + m) * sz)) = f k
   rw [Nat.add_sub_cancel' (Nat.le_of_not_lt hk)]
 rw [he] at h2;obtain ⟨⟨a', c', hv', hc'⟩, h3'⟩ := id h3;refine ⟨v', w', ob', h1, ⟨h2, ?_, ?_, ⟨a', c', hv', .inl hc'⟩, h.b⟩, h3.fr, h3.ob, a', c', hv'⟩
 ·rcases h3' with ⟨a, c, q1, q2, q3, q4⟩ | ⟨g, q1, q2, q3⟩
  ·rcases h.e with ⟨a2, c2, p1, p2, p3⟩ | ⟨g, p1, p2⟩
   ·have e : a = a2 /\ c = c2 := by
     rw [q1] at p2;injection p2 with x1 x2 x3
     exact ⟨x1, x3⟩
    obtain ⟨rfl, rfl⟩ := e;subst q2 p1 q3 p3;rcases h2 with ⟨hx, -, hn0⟩ | ⟨g, off, c2, cs, hx, ho, hcs, s1, s2, s3⟩
    ·omega
    ·injection hx with x1 x2 x3
     subst x1 x3;have hle : n * sz <= (n + m + 1) * sz := Nat.mul_le_mul_right _ (by omega);exact .inr ⟨g, off, c, cs, rfl, ho, hcs, by omega, s2, fun k hk => s3 k (by omega)⟩
   ·refine h.l.fr q4 fun b hb hm => ?_
    have := h.b b hb;rw [p1] at hm;simp at hm;omega
  ·exact h.l.fr q3 (by simp)
 ·rcases h3' with ⟨a, c, q1, q2, q3, q4⟩ | ⟨g, q1, q2, q3⟩
  ·rcases h.e with ⟨a2, c2, p1, p2, p3⟩ | ⟨g, p1, p2⟩
   ·have e : a = a2 /\ c = c2 := by
     rw [q1] at p2;injection p2 with x1 x2 x3
     exact ⟨x1, x3⟩
    obtain ⟨rfl, rfl⟩ := e;exact .inl ⟨a, c, p1, q2, q3.trans p3⟩
   ·exact .inr ⟨g, q3.trans p1, p2⟩
  ·exact .inr ⟨g, q1, Nat.le_trans hBw q2⟩
theorem Qu {v0 v1 v2 v3 : Value} {o1 o2 o3 : Option Nat} {N : Nat} {S : Nat -> List Int} {xs ys zs : List Int} {w : World} (h : K8 w v0 v1 v2 v3 o1 o2 o3 N S xs ys zs) (m : Nat) (hm : m <= 200)
  (hS : ∀ j, j < N -> S j = Ec m) (hx : ∀ x ∈ xs, x = 10000 + (m : Int)) (hy : ∀ x ∈ ys, x = 20000 + (m : Int)) (hz : ∀ x ∈ zs, x = 30000 + (m : Int)) :
  Calls Tryz.prog 15 #[.agg #[v0, v1, v2, v3], .int .i64 m] w fun e w' => e = .returned (.bool true) /\ Fr [] w w' := by
 obtain ⟨r0, r1, r2, r3, n0, n1, n2, n3⟩ := h;obtain ⟨a0, c0, rfl, h0⟩ := id r0;obtain ⟨a1, c1, e1⟩ := r1.slice;obtain ⟨a2, c2, e2⟩ := r2.slice;obtain ⟨a3, c3, e3⟩ := r3.slice;subst e1 e2 e3;have H0 := sW r0;have H1 := sW r1;have H2 := sW r2;have H3 := sW r3;have HS := sW hS;have HX := sW (show _ /\ _ /\ _ from ⟨hx, hy, hz⟩);clear r0 r1 r2 r3 h0 hS hx hy hz;go_enter Tryz.func15, Tryz.ntmps15;go_wp2_with fail;obtain ⟨w1, hw1⟩ : ∃ w1, w1 = w.alloc (.cells #[.slice a0 N c0, .slice a1 xs.length c1, .slice a2 ys.length c2, .slice a3 zs.length c3] 26) := ⟨_, rfl⟩;have hgb : hat w1 w.heap.size = some (.cells #[.slice a0 N c0, .slice a1 xs.length c1, .slice a2 ys.length c2, .slice a3 zs.length c3] 26) := by rw [hw1]; exact (A7 w _).1
 have hf1 : Fr [] w w1 := by rw [hw1]; exact Dv w _ []
 rw [<- hw1];have HF1 := sW hf1;have HG := sW hgb;clear hw1 hf1 hgb;generalize w.heap.size = gb at *;go_loopw [5] (fun v wr => ∃ k : Nat, v = .int .i64 k /\ k <= N /\ Hid (Fr [] w wr) /\ Hid (hat wr gb = some (.cells #[.slice a0 N c0, .slice a1 xs.length c1, .slice a2 ys.length c2, .slice a3 zs.length c3] 26))) (fun v wr => N - (intOf v).toNat)
 case atStart => exact ⟨0, rfl, Nat.zero_le _, HF1, HG⟩
 case round =>
  obtain ⟨k, rfl, hk, HF, HG2⟩ := hrel;have hg := HG2.out;have hgl := Aa hg;by_cases hkN : k < N
  ·have hk0 : (0 : Int) <= (k : Int) := Int.natCast_nonneg _;have hk1 : (k : Int) < (N : Int) := by omega
   obtain ⟨a, c, e, hh⟩ := id H0.out;obtain ⟨gi, oi, ea, hsec⟩ := hh (by omega);injection e with e1 e2 e3
   subst e1 e3 ea;obtain ⟨cs, t, fr, hcs, hld⟩ := (hsec.same (HF.out.block _ hsec.lt (by simp))).load hkN;rw [HS.out k hkN] at hld;unfold Ec at hld;have hne : decide ((zl 128).set 0 (m : Int) = (zl 128).set 0 (m : Int)) = true := decide_eq_true rfl;clear hsec hh;go_wp2_with fail;go_roundw
   case rel => exact ⟨k + 1, by go_num, by omega, HF, HG2⟩
   case measure => (show N - (k + 1) < N - k); omega
  ·have hkk : k = N := by omega
   clear HG HF1;subst hkk;go_wp2_with fail;clear hg hgl;go_loopw [6] (fun v wx => ∃ k : Nat, v = .int .i64 k /\ k <= xs.length /\ Hid (Fr [] w wx) /\ Hid (hat wx gb = some (.cells #[.slice a0 _ c0, .slice a1 xs.length c1, .slice a2 ys.length c2, .slice a3 zs.length c3] 26))) (fun v wx => xs.length - (intOf v).toNat)
   case atStart => exact ⟨0, rfl, Nat.zero_le _, HF, HG2⟩
   case round =>
    obtain ⟨k, rfl, hk, HE1, HH1⟩ := hrel;have hg := HH1.out;have hgl := Aa hg;by_cases hkN : k < xs.length
    ·have hk0 : (0 : Int) <= (k : Int) := Int.natCast_nonneg _;have hk1 : (k : Int) < (xs.length : Int) := by omega
     obtain ⟨g, off, c, cs, e, -, hcs, hx⟩ := (H1.out.fr HE1.out (by simp)).cell (k := k) hkN;injection e with e1 e2 e3
     subst e1 e3;rw [HX.out.1 (nth xs k) (by unfold nth; rw [List.getElem?_eq_getElem hkN]; exact List.getElem_mem _)] at hx;go_wp2_with fail;go_roundw
     case rel => exact ⟨k + 1, by go_num, by omega, HE1, HH1⟩
     case measure => (show xs.length - (k + 1) < xs.length - k); omega
    ·have hkk : k = xs.length := by omega
     clear hk hkN;subst hkk;go_wp2_with fail;clear hg hgl;go_loopw [7] (fun v wx => ∃ k : Nat, v = .int .i64 k /\ k <= ys.length /\ Hid (Fr [] w wx) /\ Hid (hat wx gb = some (.cells #[.slice a0 _ c0, .slice a1 xs.length c1, .slice a2 ys.length c2, .slice a3 zs.length c3] 26))) (fun v wx => ys.length - (intOf v).toNat)
     case atStart => exact ⟨0, rfl, Nat.zero_le _, HE1, HH1⟩
     case round =>
      obtain ⟨k, rfl, hk, HE2, HH2⟩ := hrel;have hg := HH2.out;have hgl := Aa hg;by_cases hkN : k < ys.length
      ·have hk0 : (0 : Int) <= (k : Int) := Int.natCast_nonneg _;have hk1 : (k : Int) < (ys.length : Int) := by omega
       obtain ⟨g, off, c, cs, e, -, hcs, hx⟩ := (H2.out.fr HE2.out (by simp)).cell (k := k) hkN;injection e with e1 e2 e3
       subst e1 e3;rw [HX.out.2.1 (nth ys k) (by unfold nth; rw [List.getElem?_eq_getElem hkN]; exact List.getElem_mem _)] at hx;go_wp2_with fail;go_roundw
       case rel => exact ⟨k + 1, by go_num, by omega, HE2, HH2⟩
       case measure => (show ys.length - (k + 1) < ys.length - k); omega
      ·have hkk : k = ys.length := by omega
       clear hk hkN;subst hkk;go_wp2_with fail;clear hg hgl;go_loopw [8] (fun v wx => ∃ k : Nat, v = .int .i64 k /\ k <= zs.length /\ Hid (Fr [] w wx) /\ Hid (hat wx gb = some (.cells #[.slice a0 _ c0, .slice a1 xs.length c1, .slice a2 ys.length c2, .slice a3 zs.length c3] 26))) (fun v wx => zs.length - (intOf v).toNat)
       case atStart => exact ⟨0, rfl, Nat.zero_le _, HE2, HH2⟩
       case round =>
        obtain ⟨k, rfl, hk, HE3, HH3⟩ := hrel;have hg := HH3.out;have hgl := Aa hg;by_cases hkN : k < zs.length
        ·have hk0 : (0 : Int) <= (k : Int) := Int.natCast_nonneg _;have hk1 : (k : Int) < (zs.length : Int) := by omega
         obtain ⟨g, off, c, cs, e, -, hcs, hx⟩ := (H3.out.fr HE3.out (by simp)).cell (k := k) hkN;injection e with e1 e2 e3
         subst e1 e3;rw [HX.out.2.2 (nth zs k) (by unfold nth; rw [List.getElem?_eq_getElem hkN]; exact List.getElem_mem _)] at hx;go_wp2_with fail;go_roundw
         case rel => exact ⟨k + 1, by go_num, by omega, HE3, HH3⟩
         case measure => (show zs.length - (k + 1) < zs.length - k); omega
        ·have hkk : k = zs.length := by omega
         clear hk hkN;subst hkk;go_wp2_with fail;go_ret;exact ⟨rfl, HE3.out⟩
theorem Di.ne {T T' : TypeId} {sz sz' : Nat} {w : World} {v v' : Value} {o o' : Option Nat} {n n' : Nat} {f f' : Nat -> Value} (h : Di T sz w v o n f) (h' : Di T' sz' w v' o' n' f') (ht : T ≠ T') {g q : Nat} (hg : o = some g) (hq : o' = some q) : q ≠ g := by
 rintro rfl;rcases h with ⟨-, h, -⟩ | ⟨g1, _, _, cs, -, h, hc, -⟩
 ·rw [hg] at h; cases h
 ·rcases h' with ⟨-, h2, -⟩ | ⟨g2, _, _, cs2, -, h2, hc2, -⟩
  ·rw [hq] at h2; cases h2
  ·rw [hg] at h; rw [hq] at h2;cases h; cases h2;rw [hc] at hc2;injection hc2 with hc2
   injection hc2 with _ hc2
   exact ht hc2
theorem Bc.g {w : World} {v : Value} {o : Option Nat} {xs : List Int} (h : Bc w v o xs) : Di 3 1 w v o xs.length (fun k => .int .i64 (nth xs k)) /\ ∃ a c, v = .slice a xs.length c /\ xs.length <= c := by
 rcases h with ⟨rfl, rfl, rfl⟩ | ⟨g, off, c, cs, rfl, rfl, h1, h2, h3, h4⟩
 ·exact ⟨.inl ⟨rfl, rfl, rfl⟩, none, 0, rfl, Nat.le_refl _⟩
 ·exact ⟨.inr ⟨g, off, c, cs, rfl, rfl, h1, by omega, by omega, fun k hk => h4 k _ (by unfold nth; rw [List.getElem?_eq_getElem (by omega)]; rfl)⟩, _, _, rfl, h2⟩
theorem Di.q {w : World} {v : Value} {o : Option Nat} {n : Nat} {f : Nat -> Value} {xs : List Int} (h : Di 3 1 w v o n f) (hc : ∃ a c, v = .slice a n c /\ n <= c) (hn : xs.length = n) (hf : ∀ k, k < n -> f k = .int .i64 (nth xs k)) : Bc w v o xs := by
 subst hn;rcases h with ⟨rfl, rfl, h⟩ | ⟨g, off, c, cs, rfl, rfl, h1, h2, h3, h4⟩
 ·exact .inl ⟨rfl, rfl, List.eq_nil_of_length_eq_zero h⟩
 ·obtain ⟨a, c', e, hle⟩ := hc;injection e with e1 e2 e3
  subst e3;refine .inr ⟨g, off, c, cs, rfl, rfl, h1, hle, by omega, fun j p hj => ?_⟩;have hjl := (List.getElem?_eq_some_iff.1 hj).1;rw [h4 j (by omega), hf j hjl];unfold nth; rw [hj]; rfl
theorem J9 {n : Nat} {x : Int} {k : Nat} (hk : k < n) : nth (List.replicate n x) k = x := by
 unfold nth; rw [List.getElem?_replicate, if_pos hk]; rfl
def RP.set0 (X : RP) (v : Value) (o : Option Nat) : RP := { X with v0 := v, o0 := o }
def RP.set1 (X : RP) (v : Value) (o : Option Nat) : RP := { X with v1 := v, o1 := o }
def RP.set2 (X : RP) (v : Value) (o : Option Nat) : RP := { X with v2 := v, o2 := o }
def RP.set3 (X : RP) (v : Value) (o : Option Nat) : RP := { X with v3 := v, o3 := o }
structure Ez (w : World) (R X : RP) (m j0 j1 j2 j3 B : Nat) : Prop where
 x0 : Is 33 128 w R.v0 R.o0 X.v0 X.o0 R.N j0 (Jl fun _ => Ec m) B
 x1 : Is 3 1 w R.v1 R.o1 X.v1 X.o1 R.xs.length j1 (fun _ => .int .i64 (10000 + m)) B
 x2 : Is 3 1 w R.v2 R.o2 X.v2 X.o2 R.ys.length j2 (fun _ => .int .i64 (20000 + m)) B
 x3 : Is 3 1 w R.v3 R.o3 X.v3 X.o3 R.zs.length j3 (fun _ => .int .i64 (30000 + m)) B
 d12 : ∀ g, X.o1 = some g -> X.o2 ≠ some g
 d13 : ∀ g, X.o1 = some g -> X.o3 ≠ some g
 d23 : ∀ g, X.o2 = some g -> X.o3 ≠ some g
 e12 : ∀ g, R.o1 = some g -> R.o2 ≠ some g
 e13 : ∀ g, R.o1 = some g -> R.o3 ≠ some g
 e23 : ∀ g, R.o2 = some g -> R.o3 ≠ some g
 n0 : R.N <= 4900
 n1 : R.xs.length <= 4900
 n2 : R.ys.length <= 4900
 n3 : R.zs.length <= 4900
 c1 : ∃ a c, R.v1 = .slice a R.xs.length c /\ R.xs.length <= c
 c2 : ∃ a c, R.v2 = .slice a R.ys.length c /\ R.ys.length <= c
 c3 : ∃ a c, R.v3 = .slice a R.zs.length c /\ R.zs.length <= c
theorem Is.ob {T : TypeId} {sz : Nat} {w : World} {v vx : Value} {o ox : Option Nat} {n m B : Nat} {f : Nat -> Value} (h : Is T sz w v o vx ox n m f B) {g : Nat} (hg : ox = some g) : o = some g \/ B <= g := by
 rcases h.e with ⟨-, -, -, -, e⟩ | ⟨q, h1, h2⟩
 ·exact .inl (e.symm.trans hg)
 ·rw [hg] at h1; cases h1; exact .inr h2
theorem Ez.os {w : World} {R X : RP} {m j0 j1 j2 j3 B : Nat} (h : Ez w R X m j0 j1 j2 j3 B) : ∀ g ∈ X.os, g ∈ R.os \/ B <= g := fun g hg => by
 rcases RP.mem_os.1 hg with e | e | e | e
 ·exact (h.x0.ob e).imp (fun h => RP.mem_os.2 (.inl h)) id
 ·exact (h.x1.ob e).imp (fun h => RP.mem_os.2 (.inr (.inl h))) id
 ·exact (h.x2.ob e).imp (fun h => RP.mem_os.2 (.inr (.inr (.inl h)))) id
 ·exact (h.x3.ob e).imp (fun h => RP.mem_os.2 (.inr (.inr (.inr h)))) id
theorem Ez.fr {w w' : World} {R X : RP} {m j0 j1 j2 j3 B : Nat} {ex : List Nat} (h : Ez w R X m j0 j1 j2 j3 B) (hf : Fr ex w w') (h1 : ∀ g ∈ R.os, g ∉ ex) (h2 : ∀ g ∈ X.os, g ∉ ex) : Ez w' R X m j0 j1 j2 j3 B :=
 ⟨h.x0.fr hf (fun g hg => h1 g (RP.mem_os.2 (.inl hg))) (fun g hg => h2 g (RP.mem_os.2 (.inl hg))), h.x1.fr hf (fun g hg => h1 g (RP.mem_os.2 (.inr (.inl hg)))) (fun g hg => h2 g (RP.mem_os.2 (.inr (.inl hg)))),
  h.x2.fr hf (fun g hg => h1 g (RP.mem_os.2 (.inr (.inr (.inl hg))))) (fun g hg => h2 g (RP.mem_os.2 (.inr (.inr (.inl hg))))), h.x3.fr hf (fun g hg => h1 g (RP.mem_os.2 (.inr (.inr (.inr hg))))) (fun g hg => h2 g (RP.mem_os.2 (.inr (.inr (.inr hg))))),
  h.d12, h.d13, h.d23, h.e12, h.e13, h.e23, h.n0, h.n1, h.n2, h.n3, h.c1, h.c2, h.c3⟩
theorem Ez.lt {w : World} {R X : RP} {m j0 j1 j2 j3 B : Nat} (h : Ez w R X m j0 j1 j2 j3 B) : ∀ g ∈ X.os, g < w.heap.size := fun g hg => by
 rcases RP.mem_os.1 hg with e | e | e | e
 ·exact h.x0.x.lt g e
 ·exact h.x1.x.lt g e
 ·exact h.x2.x.lt g e
 ·exact h.x3.x.lt g e
theorem Ez.start {w : World} {R : RP} {m B : Nat} (h : Iq w (R.mark m)) (hb : ∀ g ∈ R.os, g < B) : Ez w (R.mark m) (R.mark m) m 0 0 0 0 B := by
 obtain ⟨g1, c1⟩ := h.r1.g;obtain ⟨g2, c2⟩ := h.r2.g;obtain ⟨g3, c3⟩ := h.r3.g;have key : ∀ (l : List Int) (x : Int) (k : Nat), k < (List.replicate l.length x).length * 1 -> (Value.int .i64 (nth (List.replicate l.length x) k)) = .int .i64 x := fun l x k hk => by rw [J9 (by simpa using hk)]
 exact ⟨Is.zero h.r0.g (fun g hg => hb g (RP.mem_os.2 (.inl hg))), Is.zero (g1.congr (key R.xs _)) (fun g hg => hb g (RP.mem_os.2 (.inr (.inl hg)))), Is.zero (g2.congr (key R.ys _)) (fun g hg => hb g (RP.mem_os.2 (.inr (.inr (.inl hg))))), Is.zero (g3.congr (key R.zs _)) (fun g hg => hb g (RP.mem_os.2 (.inr (.inr (.inr hg))))),
  h.d12, h.d13, h.d23, h.d12, h.d13, h.d23, h.n0, h.n1, h.n2, h.n3, c1, c2, c3⟩
theorem Fa : (33 : TypeId) ≠ 3 := by decide
theorem Ez.step0 {w : World} {R X : RP} {m j0 j1 j2 j3 B b : Nat} (h : Ez w R X m j0 j1 j2 j3 B) (hm : m < 256) (hb : hat w b = some (.cells (IV .u8 ((zl 128).set 0 (m : Int))) 33)) (hB : B <= w.heap.size) (hj : j0 <= 50) (ty : TypeId) :
  ∃ v' w' o', (Builtin.append_ #[22, 22] ty #[X.v0, .slice (some ⟨b, 0, none⟩) 1 1]).run Tryz.prog w = .ok v' w' /\ Ez w' R (X.set0 v' o') m (j0 + 1) j1 j2 j3 B /\ Fr X.o0.toList w w' /\ (o' = X.o0 \/ ∃ g, o' = some g /\ w.heap.size <= g) /\ ∃ a n c, v' = .slice a n c := by
 obtain ⟨inf, z, hi, hz, hzs, his, hib⟩ := Lf
 have hS : G6 w (.slice (some ⟨b, 0, none⟩) 1 1) 1 (fun _ => Ec m) := ⟨_, _, rfl, fun _ => ⟨b, 0, rfl, _, _, _, hb, by simp [Ca], fun i hi => ⟨Dz m, Gq hm, by
  obtain rfl : i = 0 := by omega
  unfold Ec;simp [Ca]⟩⟩⟩
 obtain ⟨news, hs, hnw⟩ := hS.src;have n0 := h.n0;obtain ⟨v', w', o', h1, h2, h3, h4, a, c, h5⟩ := h.x0.step (P := Tryz.prog) (ST := 22) Tryz.underlying22 hi hz hzs his hib hs (fun k hk => by
  have e : ((R.N + j0) * 128 + k) % 128 = k % 128 := by omega
  rw [hnw k (by omega)];show some (Value.int .u8 (nth (Ec m) (k % 128))) = some (Value.int .u8 (nth (Ec m) (((R.N + j0) * 128 + k) % 128)))
  rw [e]) (by omega) (by omega) hB ty
 have hx : ∀ {v vx : Value} {o ox : Option Nat} {n j : Nat} {f : Nat -> Value}, Is 3 1 w v o vx ox n j f B -> Is 3 1 w' v o vx ox n j f B := fun hx =>
  hx.fr h3 (fun g hg hm => h.x0.x.ne hx.l Fa (by simpa using hm) hg rfl) (fun g hg hm => h.x0.x.ne hx.x Fa (by simpa using hm) hg rfl)
 exact ⟨v', w', o', h1, ⟨h2, hx h.x1, hx h.x2, hx h.x3, h.d12, h.d13, h.d23, h.e12, h.e13, h.e23, h.n0, h.n1, h.n2, h.n3, h.c1, h.c2, h.c3⟩, h3, h4, a, _, c, h5⟩
theorem Vs {w : World} {b : Nat} {x : Int} (hb : hat w b = some (.cells #[.int .i64 x] 3)) : ∃ news, Src Tryz.prog 1 24 (.slice (some ⟨b, 0, none⟩) 1 1) 1 news w /\ ∀ k, k < 1 -> news[k]? = some (.int .i64 x) := by
 have h : Bc w (.slice (some ⟨b, 0, none⟩) 1 1) (some b) [x] := .inr ⟨b, 0, 1, _, rfl, rfl, hb, by simp, by simp, fun j p hj => by
  rcases j with _ | j
  ·simpa using hj
  ·simp at hj⟩
 exact ⟨_, h.src, fun k hk => by
  cases k with
  | zero => rfl
  | succ k => exact absurd hk (by omega)⟩
theorem Ez.step1 {w : World} {R X : RP} {m j0 j1 j2 j3 B b : Nat} (h : Ez w R X m j0 j1 j2 j3 B) (hb : hat w b = some (.cells #[.int .i64 (10000 + m)] 3)) (hB : B <= w.heap.size) (hj : j1 <= 50) (ty : TypeId) :
  ∃ v' w' o', (Builtin.append_ #[24, 24] ty #[X.v1, .slice (some ⟨b, 0, none⟩) 1 1]).run Tryz.prog w = .ok v' w' /\ Ez w' R (X.set1 v' o') m j0 (j1 + 1) j2 j3 B /\ Fr X.o1.toList w w' /\ (o' = X.o1 \/ ∃ g, o' = some g /\ w.heap.size <= g) /\ ∃ a n c, v' = .slice a n c := by
 obtain ⟨inf, hi, hz, his, hib⟩ := Jq;obtain ⟨news, hs, hnw⟩ := Vs hb;have n1 := h.n1;obtain ⟨v', w', o', h1, h2, h3, h4, a, c, h5⟩ := h.x1.step (P := Tryz.prog) (ST := 24) Tryz.underlying24 hi hz rfl his hib hs (fun k hk => hnw k hk) (by omega) (by omega) hB ty
 exact ⟨v', w', o', h1, ⟨(h.x0.fr h3 (fun g hg hm => h.x1.x.ne h.x0.l (Ne.symm Fa) (by simpa using hm) hg rfl) (fun g hg hm => h.x1.x.ne h.x0.x (Ne.symm Fa) (by simpa using hm) hg rfl)), h2,
  (h.x2.fr h3 (fun g hg hm => by
  have hm : X.o1 = some g := by simpa using hm
  rcases h.x1.ob hm with q | q
  ·exact h.e12 _ q hg
  ·have := h.x2.b g hg; omega) (fun g hg hm => by
  have hm : X.o1 = some g := by simpa using hm
  exact h.d12 _ hm hg)), (h.x3.fr h3 (fun g hg hm => by
  have hm : X.o1 = some g := by simpa using hm
  rcases h.x1.ob hm with q | q
  ·exact h.e13 _ q hg
  ·have := h.x3.b g hg; omega) (fun g hg hm => by
  have hm : X.o1 = some g := by simpa using hm
  exact h.d13 _ hm hg)),
  (fun g hg hk => by
  rcases h4 with q | ⟨g', q, q2⟩
  ·exact h.d12 g (q.symm.trans hg) hk
  ·have e : some g' = some g := q.symm.trans hg;injection e with e
   have := h.x2.x.lt g hk; omega), (fun g hg hk => by
  rcases h4 with q | ⟨g', q, q2⟩
  ·exact h.d13 g (q.symm.trans hg) hk
  ·have e : some g' = some g := q.symm.trans hg;injection e with e
   have := h.x3.x.lt g hk; omega), h.d23, h.e12, h.e13, h.e23, h.n0, h.n1, h.n2, h.n3, h.c1, h.c2, h.c3⟩, h3, h4, a, _, c, h5⟩
theorem Ez.step2 {w : World} {R X : RP} {m j0 j1 j2 j3 B b : Nat} (h : Ez w R X m j0 j1 j2 j3 B) (hb : hat w b = some (.cells #[.int .i64 (20000 + m)] 3)) (hB : B <= w.heap.size) (hj : j2 <= 50) (ty : TypeId) :
  ∃ v' w' o', (Builtin.append_ #[24, 24] ty #[X.v2, .slice (some ⟨b, 0, none⟩) 1 1]).run Tryz.prog w = .ok v' w' /\ Ez w' R (X.set2 v' o') m j0 j1 (j2 + 1) j3 B /\ Fr X.o2.toList w w' /\ (o' = X.o2 \/ ∃ g, o' = some g /\ w.heap.size <= g) /\ ∃ a n c, v' = .slice a n c := by
 obtain ⟨inf, hi, hz, his, hib⟩ := Jq;obtain ⟨news, hs, hnw⟩ := Vs hb;have n2 := h.n2;obtain ⟨v', w', o', h1, h2, h3, h4, a, c, h5⟩ := h.x2.step (P := Tryz.prog) (ST := 24) Tryz.underlying24 hi hz rfl his hib hs (fun k hk => hnw k hk) (by omega) (by omega) hB ty;exact ⟨v', w', o', h1, ⟨(h.x0.fr h3 (fun g hg hm => h.x2.x.ne h.x0.l (Ne.symm Fa) (by simpa using hm) hg rfl) (fun g hg hm => h.x2.x.ne h.x0.x (Ne.symm Fa) (by simpa using hm) hg rfl)), (h.x1.fr h3 (fun g hg hm => by
  have hm : X.o2 = some g := by simpa using hm
  rcases h.x2.ob hm with q | q
  ·exact h.e12 _ hg q
  ·have := h.x1.b g hg; omega) (fun g hg hm => by
  have hm : X.o2 = some g := by simpa using hm
  exact h.d12 _ hg hm)),
  h2, (h.x3.fr h3 (fun g hg hm => by
  have hm : X.o2 = some g := by simpa using hm
  rcases h.x2.ob hm with q | q
  ·exact h.e23 _ q hg
  ·have := h.x3.b g hg; omega) (fun g hg hm => by
  have hm : X.o2 = some g := by simpa using hm
  exact h.d23 _ hm hg)),
  (fun g hk hg => by
  rcases h4 with q | ⟨g', q, q2⟩
  ·exact h.d12 g hk (q.symm.trans hg)
  ·have e : some g' = some g := q.symm.trans hg;injection e with e
   have := h.x1.x.lt g hk; omega), h.d13, (fun g hg hk => by
  rcases h4 with q | ⟨g', q, q2⟩
  ·exact h.d23 g (q.symm.trans hg) hk
  ·have e : some g' = some g := q.symm.trans hg;injection e with e
   have := h.x3.x.lt g hk; omega), h.e12, h.e13, h.e23, h.n0, h.n1, h.n2, h.n3, h.c1, h.c2, h.c3⟩, h3, h4, a, _, c, h5⟩
theorem Ez.step3 {w : World} {R X : RP} {m j0 j1 j2 j3 B b : Nat} (h : Ez w R X m j0 j1 j2 j3 B) (hb : hat w b = some (.cells #[.int .i64 (30000 + m)] 3)) (hB : B <= w.heap.size) (hj : j3 <= 50) (ty : TypeId) :
  ∃ v' w' o', (Builtin.append_ #[24, 24] ty #[X.v3, .slice (some ⟨b, 0, none⟩) 1 1]).run Tryz.prog w = .ok v' w' /\ Ez w' R (X.set3 v' o') m j0 j1 j2 (j3 + 1) B /\ Fr X.o3.toList w w' /\ (o' = X.o3 \/ ∃ g, o' = some g /\ w.heap.size <= g) /\ ∃ a n c, v' = .slice a n c := by
 obtain ⟨inf, hi, hz, his, hib⟩ := Jq;obtain ⟨news, hs, hnw⟩ := Vs hb;have n3 := h.n3;obtain ⟨v', w', o', h1, h2, h3, h4, a, c, h5⟩ := h.x3.step (P := Tryz.prog) (ST := 24) Tryz.underlying24 hi hz rfl his hib hs (fun k hk => hnw k hk) (by omega) (by omega) hB ty;exact ⟨v', w', o', h1, ⟨(h.x0.fr h3 (fun g hg hm => h.x3.x.ne h.x0.l (Ne.symm Fa) (by simpa using hm) hg rfl) (fun g hg hm => h.x3.x.ne h.x0.x (Ne.symm Fa) (by simpa using hm) hg rfl)), (h.x1.fr h3 (fun g hg hm => by
  have hm : X.o3 = some g := by simpa using hm
  rcases h.x3.ob hm with q | q
  ·exact h.e13 _ hg q
  ·have := h.x1.b g hg; omega) (fun g hg hm => by
  have hm : X.o3 = some g := by simpa using hm
  exact h.d13 _ hg hm)),
  (h.x2.fr h3 (fun g hg hm => by
  have hm : X.o3 = some g := by simpa using hm
  rcases h.x3.ob hm with q | q
  ·exact h.e23 _ hg q
  ·have := h.x2.b g hg; omega) (fun g hg hm => by
  have hm : X.o3 = some g := by simpa using hm
  exact h.d23 _ hg hm)), h2,
  h.d12, (fun g hk hg => by
  rcases h4 with q | ⟨g', q, q2⟩
  ·exact h.d13 g hk (q.symm.trans hg)
  ·have e : some g' = some g := q.symm.trans hg;injection e with e
   have := h.x1.x.lt g hk; omega), (fun g hk hg => by
  rcases h4 with q | ⟨g', q, q2⟩
  ·exact h.d23 g hk (q.symm.trans hg)
  ·have e : some g' = some g := q.symm.trans hg;injection e with e
   have := h.x2.x.lt g hk; omega), h.e12, h.e13, h.e23, h.n0, h.n1, h.n2, h.n3, h.c1, h.c2, h.c3⟩, h3, h4, a, _, c, h5⟩
theorem Is.cq {w : World} {v vx : Value} {o ox : Option Nat} {n j B : Nat} {f : Nat -> Value} (h : Is 3 1 w v o vx ox n (j + 1) f B) : ∃ a c, vx = .slice a (n + (j + 1)) c /\ n + (j + 1) <= c := by
 obtain ⟨a, c, h1, h2⟩ := h.c;refine ⟨a, c, h1, h2.elim id fun e => ?_⟩;obtain ⟨a2, c2, h3⟩ := h.l.slice;rw [e, h3] at h1;injection h1 with _ h1
 omega
theorem Ez.repV {w : World} {R X : RP} {m j B : Nat} (hm : m < 256) (hj : j < 50) (h : Ez w R X m (j + 1) (j + 1) (j + 1) (j + 1) B) :
  K8 w X.v0 X.v1 X.v2 X.v3 X.o1 X.o2 X.o3 (R.N + (j + 1)) (fun _ => Ec m) (List.replicate (R.xs.length + (j + 1)) (10000 + m)) (List.replicate (R.ys.length + (j + 1)) (20000 + m)) (List.replicate (R.zs.length + (j + 1)) (30000 + m)) := by
 have hs : Ew w X.v0 X.o0 (R.N + (j + 1)) (fun _ => Ec m) := ⟨h.x0.x, fun i hi => ⟨Dz m, Gq hm⟩⟩;have := h.n0; have := h.n1; have := h.n2; have := h.n3;exact ⟨hs.img, h.x1.x.q h.x1.cq (by simp) (fun k hk => by rw [J9 hk]), h.x2.x.q h.x2.cq (by simp) (fun k hk => by rw [J9 hk]), h.x3.x.q h.x3.cq (by simp) (fun k hk => by rw [J9 hk]), by omega, by simp; omega, by simp; omega, by simp; omega⟩
theorem Ez.repL {w : World} {R X : RP} {m j0 j1 j2 j3 B : Nat} (hm : m < 256) (h : Ez w R X m j0 j1 j2 j3 B) :
  K8 w R.v0 R.v1 R.v2 R.v3 R.o1 R.o2 R.o3 R.N (fun _ => Ec m) (List.replicate R.xs.length (10000 + m)) (List.replicate R.ys.length (20000 + m)) (List.replicate R.zs.length (30000 + m)) := by
 have hs : Ew w R.v0 R.o0 R.N (fun _ => Ec m) := ⟨h.x0.l, fun i hi => ⟨Dz m, Gq hm⟩⟩;have := h.n0; have := h.n1; have := h.n2; have := h.n3;exact ⟨hs.img, h.x1.l.q h.c1 (by simp) (fun k hk => by rw [J9 hk]), h.x2.l.q h.c2 (by simp) (fun k hk => by rw [J9 hk]), h.x3.l.q h.c3 (by simp) (fun k hk => by rw [J9 hk]), by omega, by simp; omega, by simp; omega, by simp; omega⟩
theorem aA (l : List (List Int)) (hl : ∀ s ∈ l, s.length = 128) (h0 : 0 < l.length) (h1 : l.length <= 100) (W : World) :
  (Instr.buildSlice 22 l.length (((l.map fun s => Value.agg (IV .u8 s)).zipIdx 0).map fun x => (x.2, x.1)).toArray).run Tryz.prog W = .ok (.slice (some ⟨W.heap.size, 0, none⟩) l.length l.length) (W.alloc (.cells (IV .u8 l.flatten) 33)) := by
 obtain ⟨i, z, e1, e2, e3, e4, e5⟩ := Tz;refine run_buildSlice W _ 33 l.length _ _ i z Tryz.underlying22 e1 e2 (by rw [e4]; omega) (by rw [e4]; omega) ?_;rw [e4];have h := Great.fill_whole (s := 128) (by omega) (l.map fun s => Value.agg (IV .u8 s)) ((Array.range (l.length * 128)).map (z.cells[· % z.cells.size]!)) (fun v hv => by
  obtain ⟨s, hs, rfl⟩ := List.mem_map.1 hv;show (IV .u8 s).size = 128
  rw [P6, hl s hs]) (by simp)
 have e : ((l.map fun s => Value.agg (IV .u8 s)).flatMap fun v => v.cells.toList).toArray = IV .u8 l.flatten := by
  apply Array.ext'
  unfold IV;simp only [List.flatMap_map];clear hl h0 h1 h;induction l with
  | nil => rfl
  | cons s l ih =>
   rw [List.flatMap_cons, List.flatten_cons, List.map_append, ih];rfl
 rw [e] at h;exact h
theorem jP {P : Program} {o : Oper} {a : Act} {w : World} {K : Act -> World -> Prop} {Q : Exit -> Act -> World -> Prop} (t : TypeId) (x : Operand) (ho : o.op = .buildSlice t 1 #[(0, x)]) (v : Value) (hx : a.eval x = v) (v' : Value) (w' : World)
  (hr : (Instr.buildSlice t 1 #[(0, v)]).run P w = .ok v' w') (h : K (a.put o.dst v') w') : o.wp P a w K Q := by
 unfold Oper.wp execOp;simp only [ho, Sem.run_bind, List.map_toArray, List.map_cons, List.map_nil, hx, hr, Result.andThen_ok];exact h
theorem oM {P : Program} {o : Oper} {a : Act} {w : World} {K : Act -> World -> Prop} {Q : Exit -> Act -> World -> Prop} (t : TypeId) (x y : Operand) (ho : o.op = .buildSlice t 2 #[(0, x), (1, y)]) (v u : Value) (hx : a.eval x = v) (hy : a.eval y = u) (v' : Value) (w' : World)
  (hr : (Instr.buildSlice t 2 #[(0, v), (1, u)]).run P w = .ok v' w') (h : K (a.put o.dst v') w') : o.wp P a w K Q := by
 unfold Oper.wp execOp;simp only [ho, Sem.run_bind, List.map_toArray, List.map_cons, List.map_nil, hx, hy, hr, Result.andThen_ok];exact h
theorem jL {W : World} {b : Nat} {s1 s2 : List Int} (h : hat W b = some (.cells (IV .u8 [s1, s2].flatten) 33)) (l1 : s1.length = 128) (l2 : s2.length = 128) (b1 : A0 s1) (b2 : A0 s2) : G6 W (.slice (some ⟨b, 0, none⟩) 2 2) 2 (fun i => if i = 0 then s1 else s2) := by
 refine ⟨_, _, rfl, fun _ => ⟨b, 0, rfl, _, _, _, h, by simp [l1, l2], fun i hi => ?_⟩⟩;have hl : ∀ j, j < 2 -> (if j = 0 then s1 else s2).length = 128 /\ A0 (if j = 0 then s1 else s2) := fun j hj => by
  split
  ·exact ⟨l1, b1⟩
  ·exact ⟨l2, b2⟩
 refine ⟨(hl i hi).1, (hl i hi).2, ?_⟩;show _ = IV .u8 (if i = 0 then s1 else s2)
 refine (Lc (hl i hi).1 (by simp [l1, l2]; omega)).2 fun k hk => ?_
 rw [Bh];have e : [s1, s2].flatten = s1 ++ s2 := by simp
 rw [e];by_cases hi0 : i = 0
 ·subst hi0;rw [if_pos rfl, List.getElem?_append_left (by omega), show 0 + 0 * 128 + k = k by omega, Am (by omega)]; rfl
 ·obtain rfl : i = 1 := by omega
  rw [if_neg (by omega), List.getElem?_append_right (by omega), l1, show 0 + 1 * 128 + k - 128 = k by omega, Am (by omega)]; rfl
theorem Ew.cutTo {w : World} {g off c N M : Nat} {S : Nat -> List Int} (h : Ew w (.slice (some ⟨g, off, none⟩) N c) (some g) N S) (hM : M <= N) : Ew w (.slice (some ⟨g, off, none⟩) M c) (some g) M S := by
 refine ⟨?_, fun j hj => h.len j (by omega)⟩;rcases h.g with ⟨h, -⟩ | ⟨g', off', c', cs, e, h1, h2, h3⟩
 ·cases h
 ·injection e with e1 e2 e3
  injection e1 with e1
  injection e1 with p1 p2
  subst p1 p2 e3;obtain ⟨k1, k2, k3⟩ := h3;exact .inr ⟨g, off, c, cs, rfl, rfl, h2, by omega, k2, fun k hk => k3 k (by omega)⟩
theorem Iq.parts {w : World} {R : RP} (h : Iq w R) : ∃ a0 c0 a1 c1 a2 c2 a3 c3, R.v0 = .slice a0 R.N c0 /\ R.v1 = .slice a1 R.xs.length c1 /\ R.v2 = .slice a2 R.ys.length c2 /\ R.v3 = .slice a3 R.zs.length c3 := by
 obtain ⟨a0, c0, e0⟩ := h.r0.g.slice;obtain ⟨a1, c1, e1⟩ := h.r1.slice;obtain ⟨a2, c2, e2⟩ := h.r2.slice;obtain ⟨a3, c3, e3⟩ := h.r3.slice;exact ⟨a0, c0, a1, c1, a2, c2, a3, c3, e0, e1, e2, e3⟩
theorem Iq.laid {w : World} {R : RP} (h : Iq w R) : ∃ a0 c0 a1 c1 a2 c2 a3 c3, R.val = .agg #[.slice a0 R.N c0, .slice a1 R.xs.length c1, .slice a2 R.ys.length c2, .slice a3 R.zs.length c3] /\
  hat (w.alloc (.cells #[.slice a0 R.N c0, .slice a1 R.xs.length c1, .slice a2 R.ys.length c2, .slice a3 R.zs.length c3] 26)) w.heap.size = some (.cells #[.slice a0 R.N c0, .slice a1 R.xs.length c1, .slice a2 R.ys.length c2, .slice a3 R.zs.length c3] 26) /\
  Iq (w.alloc (.cells #[.slice a0 R.N c0, .slice a1 R.xs.length c1, .slice a2 R.ys.length c2, .slice a3 R.zs.length c3] 26)) R /\ (R.v0 = .slice a0 R.N c0 /\ R.v1 = .slice a1 R.xs.length c1 /\ R.v2 = .slice a2 R.ys.length c2 /\ R.v3 = .slice a3 R.zs.length c3) := by
 obtain ⟨a0, c0, a1, c1, a2, c2, a3, c3, e0, e1, e2, e3⟩ := h.parts;exact ⟨a0, c0, a1, c1, a2, c2, a3, c3, by unfold RP.val; rw [e0, e1, e2, e3], (A7 w _).1, h.fr (Dv w _ []) (by simp), e0, e1, e2, e3⟩
theorem Ws : ∃ i0 z, Tryz.prog.info? 26 = some i0 /\ i0.zero = some z /\ z.cells.size = 4 /\ i0.size = 4 /\ i0.bytes = 96 := by
 have h : (Tryz.prog.info? 26).map (fun i => (i.zero.map (fun z => z.cells.size), i.size, i.bytes)) = some (some 4, 4, 96) := by kernel_rfl
 cases hq : Tryz.prog.info? 26 with
 | none => rw [hq] at h; cases h
 | some inf =>
  rw [hq] at h;simp at h;obtain ⟨h1, h2, h3⟩ := h;obtain ⟨z, hz, h1⟩ := h1;exact ⟨inf, z, rfl, hz, h1, h2, h3⟩
theorem Z9 (l : List (Array Value)) (hl : ∀ s ∈ l, s.size = 4) (h0 : 0 < l.length) (h1 : l.length <= 100) (W : World) :
  (Instr.buildSlice 35 l.length (((l.map Value.agg).zipIdx 0).map fun x => (x.2, x.1)).toArray).run Tryz.prog W = .ok (.slice (some ⟨W.heap.size, 0, none⟩) l.length l.length) (W.alloc (.cells (l.flatMap Array.toList).toArray 26)) := by
 obtain ⟨i, z, e1, e2, e3, e4, e5⟩ := Ws;refine run_buildSlice W _ 26 l.length _ _ i z Tryz.underlying35 e1 e2 (by rw [e4]; omega) (by rw [e4]; omega) ?_;rw [e4];have h := Great.fill_whole (s := 4) (by omega) (l.map Value.agg) ((Array.range (l.length * 4)).map (z.cells[· % z.cells.size]!)) (fun v hv => by
  obtain ⟨s, hs, rfl⟩ := List.mem_map.1 hv;show s.size = 4
  exact hl s hs) (by simp)
 have e : ((l.map Value.agg).flatMap fun v => v.cells.toList).toArray = (l.flatMap Array.toList).toArray := by
  rw [List.flatMap_map];rfl
 rw [e] at h;exact h
theorem oN {P : Program} {o : Oper} {a : Act} {w : World} {K : Act -> World -> Prop} {Q : Exit -> Act -> World -> Prop} (t : TypeId) (x y z : Operand) (ho : o.op = .buildSlice t 3 #[(0, x), (1, y), (2, z)]) (v u r : Value) (hx : a.eval x = v) (hy : a.eval y = u) (hz : a.eval z = r) (v' : Value) (w' : World)
  (hr : (Instr.buildSlice t 3 #[(0, v), (1, u), (2, r)]).run P w = .ok v' w') (h : K (a.put o.dst v') w') : o.wp P a w K Q := by
 unfold Oper.wp execOp;simp only [ho, Sem.run_bind, List.map_toArray, List.map_cons, List.map_nil, hx, hy, hz, hr, Result.andThen_ok];exact h
structure In (w0 w : World) (R X : RP) (m j0 j1 j2 j3 gx : Nat) : Prop where
 x : Ez w R X m j0 j1 j2 j3 (gx + 1)
 h : hat w gx = some (.cells #[X.v0, X.v1, X.v2, X.v3] 26)
 f : Fr R.os w0 w
 n : gx ∉ R.os
 z : w0.heap.size <= gx
theorem In.fstep {w0 w w' : World} {R X : RP} {m j0 j1 j2 j3 gx : Nat} {ex : List Nat} (h : In w0 w R X m j0 j1 j2 j3 gx) (hf : Fr ex w w') (hx : ∀ k ∈ ex, k ∈ X.os \/ gx <= k) : Fr R.os w0 w' := by
 have h1 : Fr (R.os ++ ex) w0 w' := (h.f.mono (fun k hk => List.mem_append_left _ hk)).trans (hf.mono (fun k hk => List.mem_append_right _ hk));refine h1.past fun k hk => ?_
 rcases List.mem_append.1 hk with hk | hk
 ·exact .inl hk
 ·have := h.z;rcases hx k hk with hk | hk
  ·rcases h.x.os k hk with hk | hk
   ·exact .inl hk
   ·exact .inr (by omega)
  ·exact .inr (by omega)
theorem In.nx {w0 w : World} {R X : RP} {m j0 j1 j2 j3 gx : Nat} (h : In w0 w R X m j0 j1 j2 j3 gx) : gx ∉ X.os := fun hm => by
 rcases h.x.os gx hm with hk | hk
 ·exact h.n hk
 ·omega
theorem In.put {w0 w w1 w2 : World} {R X X' : RP} {m j0 j1 j2 j3 i0 i1 i2 i3 gx i : Nat} {oi : Option Nat} {v : Value} (h : In w0 w R X m j0 j1 j2 j3 gx) (hf1 : Fr [] w w1) (hf2 : Fr oi.toList w1 w2) (ho : ∀ g, oi = some g -> g ∈ X.os) (hx : Ez w2 R X' m i0 i1 i2 i3 (gx + 1))
  (hv : (#[X.v0, X.v1, X.v2, X.v3] : Array Value).setIfInBounds i v = #[X'.v0, X'.v1, X'.v2, X'.v3]) :
  hat w2 gx = some (.cells #[X.v0, X.v1, X.v2, X.v3] 26) /\ In w0 (w2.setCell ⟨gx, i, none⟩ v) R X' m i0 i1 i2 i3 gx := by
 have hg1 := (hf1.block gx (Aa h.h) (by simp)).trans h.h;have hg2 : hat w2 gx = _ := (hf2.block gx (Aa hg1) (fun hm => h.nx (ho gx (by simpa using hm)))).trans hg1;have hn' : gx ∉ X'.os := fun hm => by
  rcases hx.os gx hm with hk | hk
  ·exact h.n hk
  ·omega
 refine ⟨hg2, ⟨hx.fr (Ai w2 gx i v) (fun g hg hm => ?_) (fun g hg hm => ?_), ?_, ?_, h.n, h.z⟩⟩
 ·simp at hm; subst hm; exact h.n hg
 ·simp at hm; subst hm; exact hn' hg
 ·rw [Ah _ _ _ _ _ _ _ hg2, hv]
 ·refine h.fstep (ex := oi.toList ++ [gx]) (((hf1.mono (by simp)).trans (hf2.mono (fun k hk => List.mem_append_left _ hk))).trans ((Ai w2 gx i v).mono (fun k hk => List.mem_append_right _ hk))) fun k hk => ?_
  rcases List.mem_append.1 hk with hk | hk
  ·exact .inl (ho k (by simpa using hk))
  ·simp at hk; exact .inr (by omega)
theorem In.step0 {w0 w : World} {R X : RP} {m j0 j1 j2 j3 gx : Nat} (h : In w0 w R X m j0 j1 j2 j3 gx) (hm : m < 256) (hj : j0 <= 50) (ty : TypeId) :
  ∃ a n c w2 o', (Builtin.append_ #[22, 22] ty #[X.v0, .slice (some ⟨w.heap.size, 0, none⟩) 1 1]).run Tryz.prog (w.alloc (.cells (IV .u8 [Ec m].flatten) 33)) = .ok (.slice a n c) w2 /\
   hat w2 gx = some (.cells #[X.v0, X.v1, X.v2, X.v3] 26) /\ In w0 (w2.setCell ⟨gx, 0, none⟩ (.slice a n c)) R (X.set0 (.slice a n c) o') m (j0 + 1) j1 j2 j3 gx := by
 have hf1 := Dv w (.cells (IV .u8 [Ec m].flatten) 33) [];have hx1 := h.x.fr hf1 (by simp) (by simp);have hl := Aa h.h;have hs := hf1.size;obtain ⟨v', w2, o', hr, hx2, hf2, ho, a, n, c, rfl⟩ := hx1.step0 hm (b := w.heap.size) (by rw [(A7 w _).1]; simp [Ec]) (by omega) hj ty;have hp := h.put (v := .slice a n c) (i := 0) hf1 hf2 (fun g hg => RP.mem_os.2 (.inl hg)) hx2 rfl;exact ⟨a, n, c, w2, o', hr, hp.1, hp.2⟩
theorem In.step1 {w0 w : World} {R X : RP} {m j0 j1 j2 j3 gx : Nat} (h : In w0 w R X m j0 j1 j2 j3 gx) (hj : j1 <= 50) (ty : TypeId) :
  ∃ a n c w2 o', (Builtin.append_ #[24, 24] ty #[X.v1, .slice (some ⟨w.heap.size, 0, none⟩) 1 1]).run Tryz.prog (w.alloc (.cells #[.int .i64 (10000 + m)] 3)) = .ok (.slice a n c) w2 /\
   hat w2 gx = some (.cells #[X.v0, X.v1, X.v2, X.v3] 26) /\ In w0 (w2.setCell ⟨gx, 1, none⟩ (.slice a n c)) R (X.set1 (.slice a n c) o') m j0 (j1 + 1) j2 j3 gx := by
 have hf1 := Dv w (.cells #[.int .i64 (10000 + m)] 3) [];have hx1 := h.x.fr hf1 (by simp) (by simp);have hl := Aa h.h;have hs := hf1.size;obtain ⟨v', w2, o', hr, hx2, hf2, ho, a, n, c, rfl⟩ := hx1.step1 (b := w.heap.size) (A7 w _).1 (by omega) hj ty;have hp := h.put (v := .slice a n c) (i := 1) hf1 hf2 (fun g hg => RP.mem_os.2 (.inr (.inl hg))) hx2 rfl;exact ⟨a, n, c, w2, o', hr, hp.1, hp.2⟩
theorem In.step2 {w0 w : World} {R X : RP} {m j0 j1 j2 j3 gx : Nat} (h : In w0 w R X m j0 j1 j2 j3 gx) (hj : j2 <= 50) (ty : TypeId) :
  ∃ a n c w2 o', (Builtin.append_ #[24, 24] ty #[X.v2, .slice (some ⟨w.heap.size, 0, none⟩) 1 1]).run Tryz.prog (w.alloc (.cells #[.int .i64 (20000 + m)] 3)) = .ok (.slice a n c) w2 /\
   hat w2 gx = some (.cells #[X.v0, X.v1, X.v2, X.v3] 26) /\ In w0 (w2.setCell ⟨gx, 2, none⟩ (.slice a n c)) R (X.set2 (.slice a n c) o') m j0 j1 (j2 + 1) j3 gx := by
 have hf1 := Dv w (.cells #[.int .i64 (20000 + m)] 3) [];have hx1 := h.x.fr hf1 (by simp) (by simp);have hl := Aa h.h;have hs := hf1.size;obtain ⟨v', w2, o', hr, hx2, hf2, ho, a, n, c, rfl⟩ := hx1.step2 (b := w.heap.size) (A7 w _).1 (by omega) hj ty;have hp := h.put (v := .slice a n c) (i := 2) hf1 hf2 (fun g hg => RP.mem_os.2 (.inr (.inr (.inl hg)))) hx2 rfl;exact ⟨a, n, c, w2, o', hr, hp.1, hp.2⟩
theorem In.step3 {w0 w : World} {R X : RP} {m j0 j1 j2 j3 gx : Nat} (h : In w0 w R X m j0 j1 j2 j3 gx) (hj : j3 <= 50) (ty : TypeId) :
  ∃ a n c w2 o', (Builtin.append_ #[24, 24] ty #[X.v3, .slice (some ⟨w.heap.size, 0, none⟩) 1 1]).run Tryz.prog (w.alloc (.cells #[.int .i64 (30000 + m)] 3)) = .ok (.slice a n c) w2 /\
   hat w2 gx = some (.cells #[X.v0, X.v1, X.v2, X.v3] 26) /\ In w0 (w2.setCell ⟨gx, 3, none⟩ (.slice a n c)) R (X.set3 (.slice a n c) o') m j0 j1 j2 (j3 + 1) gx := by
 have hf1 := Dv w (.cells #[.int .i64 (30000 + m)] 3) [];have hx1 := h.x.fr hf1 (by simp) (by simp);have hl := Aa h.h;have hs := hf1.size;obtain ⟨v', w2, o', hr, hx2, hf2, ho, a, n, c, rfl⟩ := hx1.step3 (b := w.heap.size) (A7 w _).1 (by omega) hj ty;have hp := h.put (v := .slice a n c) (i := 3) hf1 hf2 (fun g hg => RP.mem_os.2 (.inr (.inr (.inr hg)))) hx2 rfl;exact ⟨a, n, c, w2, o', hr, hp.1, hp.2⟩
def mZ : Nat -> Code -> Code
 | 0, c => c
 | k + 1, .seq _ b => mZ k b
 | _ + 1, _ => .skip
theorem Di.reps {w : World} {b : Nat} {cs : Array Value} {n : Nat} {R : Nat -> RP} (h : hat w b = some (.cells cs 26)) (hs : cs.size = n * 4) (hc : ∀ k, k < n * 4 -> cs[k]? = some (Fi R k)) : Di 26 4 w (.slice (some ⟨b, 0, none⟩) n n) (some b) n (Fi R) :=
 .inr ⟨b, 0, n, cs, rfl, rfl, h, by omega, by omega, fun k hk => by rw [Nat.zero_add]; exact hc k hk⟩
theorem iO {R : RP} (k : Nat) (hk : k < 1 * 4) : (#[R.v0, R.v1, R.v2, R.v3] : Array Value)[k]? = some (Fi (fun _ => R) k) := by
 rcases k with _ | _ | _ | _ | k
 ·rfl
 ·rfl
 ·rfl
 ·rfl
 ·omega
theorem iD {w : World} {vm : Value} {om : Option Nat} {k : Nat} {X : Nat -> RP} {Z : RP} (h : Di 26 4 w vm om k (Fi X)) (hk : k <= 100) (h1 : ∀ q, q < 1 * 4 -> (Fi (fun _ => Z) q).oneCell' = true) (ty : TypeId) :
  ∃ a n c w2 om', (Builtin.append_ #[35, 35] ty #[vm, .slice (some ⟨w.heap.size, 0, none⟩) 1 1]).run Tryz.prog (w.alloc (.cells ([#[Z.v0, Z.v1, Z.v2, Z.v3]].flatMap Array.toList).toArray 26)) = .ok (.slice a n c) w2 /\
   Di 26 4 w2 (.slice a n c) om' (k + 1) (Fi (fun i => if i = k then Z else X i)) /\ Fr om.toList w w2 /\ (om' = om \/ ∃ g, om' = some g /\ w.heap.size <= g) := by
 obtain ⟨inf, z, hi, hz, hzs, his, hib⟩ := Ws;have hf1 := Dv w (.cells ([#[Z.v0, Z.v1, Z.v2, Z.v3]].flatMap Array.toList).toArray 26) [];have hb : Di 26 4 (w.alloc (.cells ([#[Z.v0, Z.v1, Z.v2, Z.v3]].flatMap Array.toList).toArray 26)) (.slice (some ⟨w.heap.size, 0, none⟩) 1 1) (some w.heap.size) 1 (Fi fun _ => Z) := Di.reps (A7 w _).1 (by simp) (fun q hq => by
  have := iO (R := Z) q hq;simpa using this)
 obtain ⟨news, hs, hnw⟩ := hb.src (P := Tryz.prog) Tryz.underlying35 h1;obtain ⟨v', w2, om', hr, hg, hgr⟩ := Kf (P := Tryz.prog) (ST := 35) Tryz.underlying35 hi hz hzs his hib (h.fr hf1 (by simp)) hs hnw (by omega) (by omega) ty;obtain ⟨a, c, rfl⟩ := hg.slice;refine ⟨a, k + 1, c, w2, om', hr, hg.congr fun q hq => ?_, (hf1.mono (by simp)).trans hgr.fr, hgr.ob.imp id (fun ⟨g, h1, h2⟩ => ⟨g, h1, Nat.le_trans hf1.size h2⟩)⟩;unfold V7;by_cases hq4 : q < k * 4
 ·rw [if_pos hq4];have e1 : ¬ q / 4 = k := by omega
  simp only [Fi, if_neg e1]
 ·rw [if_neg hq4];have e1 : q / 4 = k := by omega
  have e2 : (q - k * 4) % 4 = q % 4 := by omega
  simp only [Fi, if_pos e1, e2]
theorem Di.repc {w : World} {g off n c : Nat} {ob : Option Nat} {R : Nat -> RP} (h : Di 26 4 w (.slice (some ⟨g, off, none⟩) n c) ob n (Fi R)) {i : Nat} (hi : i < n) :
  ∃ cs, hat w g = some (.cells cs 26) /\ cs[off + i * 4]? = some (R i).v0 /\ cs[off + i * 4 + 1]? = some (R i).v1 /\ cs[off + i * 4 + 2]? = some (R i).v2 /\ cs[off + i * 4 + 3]? = some (R i).v3 := by
 rcases h with ⟨h, -⟩ | ⟨g', off', c', cs, e, h2, h3, h4, h5, h6⟩
 ·cases h
 ·injection e with e1 e2 e3
  injection e1 with e1
  injection e1 with p1 p2
  subst p1 p2 e3;have key : ∀ q, q < 4 -> cs[off + i * 4 + q]? = some (Fi R (i * 4 + q)) := fun q hq => by
   have := h6 (i * 4 + q) (by omega);rw [<- Nat.add_assoc] at this;exact this
  have e4 : ∀ q, q < 4 -> (i * 4 + q) / 4 = i /\ (i * 4 + q) % 4 = q := fun q hq => by omega
  refine ⟨cs, h3, ?_, ?_, ?_, ?_⟩
  ·rw [<- Nat.add_zero (off + i * 4), key 0 (by omega)]; unfold Fi; rw [(e4 0 (by omega)).1, (e4 0 (by omega)).2]; rfl
  ·rw [key 1 (by omega)]; unfold Fi; rw [(e4 1 (by omega)).1, (e4 1 (by omega)).2]; rfl
  ·rw [key 2 (by omega)]; unfold Fi; rw [(e4 2 (by omega)).1, (e4 2 (by omega)).2]; rfl
  ·rw [key 3 (by omega)]; unfold Fi; rw [(e4 3 (by omega)).1, (e4 3 (by omega)).2]; rfl
theorem Yg (x : Int) (w : World) : (Instr.build 33 #[(0, .int .u8 x)]).run Tryz.prog w = .ok (.agg (IV .u8 ((zl 128).set 0 x))) w := by kernel_rfl
theorem eO {P : Program} {o : Oper} {a : Act} {w : World} {K : Act -> World -> Prop} {Q : Exit -> Act -> World -> Prop} (t : TypeId) (x : Operand) (ho : o.op = .build t #[(0, x)]) (v : Value) (hx : a.eval x = v) (v' : Value)
  (hr : (Instr.build t #[(0, v)]).run P w = .ok v' w) (h : K (a.put o.dst v') w) : o.wp P a w K Q := by
 unfold Oper.wp execOp;simp only [ho, Sem.run_bind, List.map_toArray, List.map_cons, List.map_nil, hx, hr, Result.andThen_ok];exact h
noncomputable def owC (k : Nat) : Code := mZ k (Tryz.f4.body.getD .skip)
def owP (w0 : World) : Ending -> World -> Prop := fun e w' => e = .returned (.bool true) /\ Below w0.heap.size w0 w'
structure OwS (w0 wS : World) (N : Nat) (T : Nat -> List Int) (vm : Value) (gF gs Bs : Nat) (s0 s1 s2 s3 : Value) (o1 o2 o3 : Option Nat) (OS : List Nat) : Prop where
 m : Ew wS vm (some gF) N T
 k : ∀ ex w2, (∀ g ∈ ex, g < Bs) -> Fr ex wS w2 -> K8 w2 s0 s1 s2 s3 o1 o2 o3 (Hq N T) (Kq N T) (Ft N T) (Fs N T) (Fq N T)
 g : hat wS gs = some (.cells #[s0, s1, s2, s3] 26)
 n : gF ∉ OS
 lo : ∀ g ∈ OS, w0.heap.size <= g /\ g < Bs
 gs : Bs <= gs
 b : Below w0.heap.size w0 wS
theorem OwS.below {w0 wS w : World} {N : Nat} {T : Nat -> List Int} {vm : Value} {gF gs Bs : Nat} {s0 s1 s2 s3 : Value} {o1 o2 o3 : Option Nat} {OS : List Nat} (h : OwS w0 wS N T vm gF gs Bs s0 s1 s2 s3 o1 o2 o3 OS) (hf : Fr OS wS w) : Below w0.heap.size w0 w :=
 h.b.trans (hf.below h.b.size (fun k hk => (h.lo k hk).1))
section
variable {w0 wS : World} {N : Nat} {T : Nat -> List Int} {vm : Value} {gF gs Bs : Nat} {s0 s1 s2 s3 : Value} {o1 o2 o3 : Option Nat} {OS : List Nat}
structure OwR (w : World) (vl vr : Value) (ol or : Option Nat) (R X : Nat -> RP) : Prop where
 l : Di 26 4 w vl ol 3 (Fi R)
 r : Di 26 4 w vr or 3 (Fi X)
 a : ∀ n, n < 3 -> ∃ M p q r, K8 w (R n).v0 (R n).v1 (R n).v2 (R n).v3 (R n).o1 (R n).o2 (R n).o3 M (fun _ => Ec (n + 1)) (List.replicate p (10000 + (n + 1 : Nat))) (List.replicate q (20000 + (n + 1 : Nat))) (List.replicate r (30000 + (n + 1 : Nat)))
 x : ∀ n, n < 3 -> ∃ M p q r, K8 w (X n).v0 (X n).v1 (X n).v2 (X n).v3 (X n).o1 (X n).o2 (X n).o3 M (fun _ => Ec (n + 1)) (List.replicate p (10000 + (n + 1 : Nat))) (List.replicate q (20000 + (n + 1 : Nat))) (List.replicate r (30000 + (n + 1 : Nat)))
theorem OwR.same {w w' : World} {vl vr : Value} {ol or : Option Nat} {R X : Nat -> RP} (h : OwR w vl vr ol or R X) (hf : Fr [] w w') : OwR w' vl vr ol or R X :=
 ⟨h.l.fr hf (by simp), h.r.fr hf (by simp), fun n hn => by
  obtain ⟨M, p, q, r, h1⟩ := h.a n hn;exact ⟨M, p, q, r, h1.same hf⟩, fun n hn => by
  obtain ⟨M, p, q, r, h1⟩ := h.x n hn;exact ⟨M, p, q, r, h1.same hf⟩⟩
theorem L7 {n : Nat} {x y : Int} (h : x ∈ List.replicate n y) : x = y := (List.mem_replicate.1 h).2
theorem qF (w : World) (h : OwS w0 wS N T vm gF gs Bs s0 s1 s2 s3 o1 o2 o3 OS) (hf : Fr OS wS w) {gl cl gr fr cr : Nat} {ol or : Option Nat} {R X : Nat -> RP} (hR : OwR w (.slice (some ⟨gl, 0, none⟩) 3 cl) (.slice (some ⟨gr, fr, none⟩) 3 cr) ol or R X) (u0 u1 u2 u3 u4 u6 u8 u9 u10 u11 u12 u13 u14 u15 u19 u21 u22 u23 u24 u25 u26 u27 u28 u29 u30 u31 u32 u33 u34 u35 u36 u37 u38 u39 u40 u41 u42 u43 u44 u45 u46 u47 u48 u49 u50 u51 u52 u53 u54 u55 u56 u57 u58 u59 u60 u61 u62 u63 u64 u65 u66 u67 u68 u69 u70 u71 u72 u73 u74 u75 u76 u77 u78 u79 u80 u81 u82 u83 u84 u85 u86 u87 u88 u89 u90 u91 u92 u93 u94 u95 u96 u97 u98 u99 u100 u101 u102 u103 u104 u105 u106 u107 u108 u109 u110 u111 u112 u113 u114 u115 u116 u117 u118 u119 u120 u121 u122 u123 u124 u125 u126 u127 u128 u129 u130 u131 u132 u133 u134 u135 u136 u137 u138 u139 u140 u141 u142 u143 u144 u145 u146 u147 u148 u149 u150 u151 u152 u153 u154 u155 u156 u157 u158 u159 u160 u161 u162 u163 u164 u165 u166 u167 u168 u169 u170 u171 u172 u173 u174 u175 u176 u177 u178 u179 u180 u181 u182 u183 u184 u185 u186 u187 u188 u189 u190 u191 u192 u193 u194 u195 u196 u197 u198 u199 u200 u201 u202 u203 u204 u205 u206 u207 u208 u209 u210 u211 u212 u213 u214 u215 u216 u217 u218 u219 u220 u221 u222 u223 u224 u225 u226 u227 u228 u229 u230 : Value) :
  Code.wp Tryz.prog (owC 17) (bodyPost Tryz.prog Tryz.f4 (owP w0)) ⟨#[u0, u1, u2, u3, u4, .bool true, u6, vm, u8, u9, u10, u11, u12, u13, u14, u15, .pointer (some ⟨gs, 0, none⟩), .int .i64 (Co N T), .slice (some ⟨gl, 0, none⟩) 3 cl, u19, .slice (some ⟨gr, fr, none⟩) 3 cr, u21, u22, u23, u24, u25, u26, u27, u28, u29, u30, u31, u32, u33, u34, u35, u36, u37, u38, u39, u40, u41, u42, u43, u44, u45, u46, u47, u48, u49, u50, u51, u52, u53, u54, u55, u56, u57, u58, u59, u60, u61, u62, u63, u64, u65, u66, u67, u68, u69, u70, u71, u72, u73, u74, u75, u76, u77, u78, u79, u80, u81, u82, u83, u84, u85, u86, u87, u88, u89, u90, u91, u92, u93, u94, u95, u96, u97, u98, u99, u100, u101, u102, u103, u104, u105, u106, u107, u108, u109, u110, u111, u112, u113, u114, u115, u116, u117, u118, u119, u120, u121, u122, u123, u124, u125, u126, u127, u128, u129, u130, u131, u132, u133, u134, u135, u136, u137, u138, u139, u140, u141, u142, u143, u144, u145, u146, u147, u148, u149, u150, u151, u152, u153, u154, u155, u156, u157, u158, u159, u160, u161, u162, u163, u164, u165, u166, u167, u168, u169, u170, u171, u172, u173, u174, u175, u176, u177, u178, u179, u180, u181, u182, u183, u184, u185, u186, u187, u188, u189, u190, u191, u192, u193, u194, u195, u196, u197, u198, u199, u200, u201, u202, u203, u204, u205, u206, u207, u208, u209, u210, u211, u212, u213, u214, u215, u216, u217, u218, u219, u220, u221, u222, u223, u224, u225, u226, u227, u228, u229, u230], []⟩ w := by
 conv => arg 2; whnf
 have H := sW h;have HF := sW hf;have HR := sW hR;clear h hf hR;obtain ⟨E, hE⟩ : ∃ E, Co N T = E := ⟨_, rfl⟩;have HE := sW hE;rw [hE];clear hE;go_wp2_with fail;go_loopw [24] (fun v wr => ∃ k : Nat, v = .int .i64 k /\ k <= 3 /\ Hid (Fr OS wS wr) /\ Hid (OwR wr (.slice (some ⟨gl, 0, none⟩) 3 cl) (.slice (some ⟨gr, fr, none⟩) 3 cr) ol or R X)) (fun v _ => 3 - (intOf v).toNat)
 case atStart => exact ⟨0, rfl, by omega, HF, HR⟩
 case round =>
  obtain ⟨k, rfl, hk, HF, HR⟩ := hrel;by_cases hlt : k < 3
  ·obtain ⟨cs, hcs, c0, c1, c2, c3⟩ := HR.out.l.repc hlt;obtain ⟨ct, hct, d0, d1, d2, d3⟩ := HR.out.r.repc hlt;have hcl := Aa hcs;rw [Nat.zero_add] at c0 c1 c2 c3;have hk0 : (0 : Int) <= (k : Int) := Int.natCast_nonneg _;have hk1 : (k : Int) < 3 := by omega
   have hm : ((k : Int) + 1) = ((k + 1 : Nat) : Int) := by omega
   have HMM := sW hm;clear hm;obtain ⟨M', p', q', r', h1⟩ := HR.out.a k hlt;obtain ⟨M, p, q, r, h2⟩ := HR.out.x k hlt;have C1 := sW (Qu h1 (k + 1) (by omega) (fun _ _ => rfl) (fun _ => L7) (fun _ => L7) (fun _ => L7));have H2 := sW h2;clear h1 h2;go_wp2_with fail;rw [HMM.out];refine C1.out.mono ?_; rintro e w1 ⟨rfl, hf1⟩;have hct1 := (hf1.block _ (Aa hct) (by simp)).trans hct;have C2 := sW (Qu (H2.out.same hf1) (k + 1) (by omega) (fun _ _ => rfl) (fun _ => L7) (fun _ => L7) (fun _ => L7));have HF1 := sW hf1;clear hf1 hcs c0 c1 c2 c3 hcl hct;have hcl1 := Aa hct1;go_wp2_with fail;rw [HMM.out];refine C2.out.mono ?_; rintro e w2 ⟨rfl, hf2⟩;have HF2 := sW (HF1.out.trans hf2);clear hf2 hct1 d0 d1 d2 d3 hcl1;go_wp2_with fail;go_roundw
   case rel => exact ⟨k + 1, by go_num, by omega, sW (HF.out.trans (HF2.out.mono (by simp))), sW (HR.out.same HF2.out)⟩
   case measure => (show 3 - (k + 1) < 3 - k); omega
  ·obtain rfl : k = 3 := by omega
   have HM := sW (H.out.m.fr HF.out (fun g hg hm => by cases hg; exact H.out.n hm));have HG := sW ((HF.out.block gs (Aa H.out.g) (fun hm => by have := H.out.lo gs hm; have := H.out.gs; omega)).trans H.out.g);go_wp2_with fail;refine (Nl HM.out.img).mono ?_; rintro e w1 ⟨hb, R, rfl, hR, hL, hoR⟩;obtain ⟨a0, c0, a1, c1, a2, c2, a3, c3, hv, hg, hR1, he⟩ := hR.laid;have hf1 := (Ag hb OS).trans (Dv w1 (.cells #[.slice a0 R.N c0, .slice a1 R.xs.length c1, .slice a2 R.ys.length c2, .slice a3 R.zs.length c3] 26) OS);have HF2 := sW (HF.out.trans hf1);have hgs2 : hat _ gs = _ := (hf1.block gs (Aa HG.out) (fun hm => by have := H.out.lo gs hm; have := H.out.gs; omega)).trans HG.out;have hRV := hR1.repV;rw [he.1, he.2.1, he.2.2.1, he.2.2.2] at hRV;have HRV := sW hRV;have HL := sW hL;rw [hv, HE.out];clear hb hR hL hoR hR1 hv he hf1 hRV;go_upto_region 40 with fail;generalize w1.alloc (.cells #[.slice a0 R.N c0, .slice a1 R.xs.length c1, .slice a2 R.ys.length c2, .slice a3 R.zs.length c3] 26) = w2 at *;generalize w1.heap.size = gd at *;have hgl := Aa hg;have hgsl := Aa hgs2;go_wp2_with fail;refine (Nt HRV.out (H.out.k OS w2 (fun g hg => (H.out.lo g hg).2) HF2.out)).mono ?_; rintro e w3 ⟨b, rfl, hb, hb3⟩;obtain rfl : b = true := hb.2 ⟨⟨HL.out.n, fun j _ => congrFun HL.out.s j⟩, HL.out.x, HL.out.y, HL.out.z⟩;have HB3 := sW (H.out.below (HF2.out.trans (Ag hb3 OS)));clear hb hb3 hg hgs2 hgl hgsl;go_wp2_with fail;go_ret;exact ⟨rfl, HB3.out⟩
end
structure OwG (w1 w : World) (gl cl : Nat) (R : Nat -> RP) (OS : List Nat) (k : Nat) (v : Value) (om : Option Nat) (X : Nat -> RP) : Prop where
 l : Di 26 4 w (.slice (some ⟨gl, 0, none⟩) 3 cl) (some gl) 3 (Fi R)
 r : Di 26 4 w v om k (Fi X)
 ro : ∀ g, om = some g -> w1.heap.size <= g
 os : ∀ n, n < 3 -> ∀ g ∈ (R n).os, g ∈ OS /\ g < w1.heap.size /\ g ≠ gl
 gl : gl < w1.heap.size
 dis : ∀ i j, i < 3 -> j < 3 -> i ≠ j -> ∀ g ∈ (R i).os, g ∉ (R j).os
 t : ∀ n, k <= n -> n < 3 -> Iq w ((R n).mark (n + 1))
 x : ∀ n, n < k -> ∃ B, w1.heap.size <= B /\ Ez w ((R n).mark (n + 1)) (X n) (n + 1) 9 9 9 9 B
 z : w1.heap.size <= w.heap.size
theorem Ez.apart {w : World} {R X : RP} {m j0 j1 j2 j3 B n : Nat} {v : Value} {om : Option Nat} {f : Nat -> Value} (h : Ez w R X m j0 j1 j2 j3 B) (hr : Di 26 4 w v om n f) : ∀ g, om = some g -> g ∉ X.os /\ g ∉ R.os := by
 intro g hg;have hs : (26 : TypeId) ≠ 33 := by decide
 have hi : (26 : TypeId) ≠ 3 := by decide
 refine ⟨fun hm => ?_, fun hm => ?_⟩
 ·rcases RP.mem_os.1 hm with e | e | e | e
  ·exact hr.ne h.x0.x hs hg e rfl
  ·exact hr.ne h.x1.x hi hg e rfl
  ·exact hr.ne h.x2.x hi hg e rfl
  ·exact hr.ne h.x3.x hi hg e rfl
 ·rcases RP.mem_os.1 hm with e | e | e | e
  ·exact hr.ne h.x0.l hs hg e rfl
  ·exact hr.ne h.x1.l hi hg e rfl
  ·exact hr.ne h.x2.l hi hg e rfl
  ·exact hr.ne h.x3.l hi hg e rfl
theorem Iq.apart {w : World} {R : RP} {n : Nat} {v : Value} {om : Option Nat} {f : Nat -> Value} (h : Iq w R) (hr : Di 26 4 w v om n f) : ∀ g, om = some g -> g ∉ R.os := by
 intro g hg hm;have hs : (26 : TypeId) ≠ 33 := by decide
 have hi : (26 : TypeId) ≠ 3 := by decide
 rcases RP.mem_os.1 hm with e | e | e | e
 ·exact hr.ne h.r0.g hs hg e rfl
 ·exact hr.ne h.r1.g.1 hi hg e rfl
 ·exact hr.ne h.r2.g.1 hi hg e rfl
 ·exact hr.ne h.r3.g.1 hi hg e rfl
theorem OwG.grown {w1 w w' : World} {gl cl : Nat} {R : Nat -> RP} {OS : List Nat} {k : Nat} {v : Value} {om : Option Nat} {X : Nat -> RP} (h : OwG w1 w gl cl R OS k v om X) (hk : k < 3) (hf : Fr (R k).os w w') :
  Di 26 4 w' (.slice (some ⟨gl, 0, none⟩) 3 cl) (some gl) 3 (Fi R) /\ Di 26 4 w' v om k (Fi X) /\ (∀ n, k < n -> n < 3 -> Iq w' ((R n).mark (n + 1))) /\ (∀ n, n < k -> ∃ B, w1.heap.size <= B /\ Ez w' ((R n).mark (n + 1)) (X n) (n + 1) 9 9 9 9 B) := by
 refine ⟨h.l.fr hf (fun g hg hm => ?_), h.r.fr hf (fun g hg hm => ?_), fun n h1 h2 => (h.t n (by omega) h2).fr hf (fun g hg hm => ?_), fun n hn => ?_⟩
 ·cases hg;exact (h.os k hk _ hm).2.2 rfl
 ·have := h.ro g hg;have := (h.os k hk g hm).2.1;omega
 ·rw [RP.mark_os] at hg;exact h.dis n k h2 hk (by omega) g hg hm
 ·obtain ⟨B, hB, hx⟩ := h.x n hn;refine ⟨B, hB, hx.fr hf (fun g hg hm => h.dis n k (by omega) hk (by omega) g hg hm) (fun g hg hm => ?_)⟩;rcases hx.os g hg with hg | hg
  ·exact h.dis n k (by omega) hk (by omega) g hg hm
  ·have := (h.os k hk g hm).2.1;omega
theorem OwG.next {w1 w w' w2 : World} {gl cl : Nat} {R : Nat -> RP} {OS : List Nat} {k B : Nat} {v v' : Value} {om om' : Option Nat} {X : Nat -> RP} {Z : RP} (h : OwG w1 w gl cl R OS k v om X) (hk : k < 3) (hf : Fr (R k).os w w') (hZ : Ez w' ((R k).mark (k + 1)) Z (k + 1) 9 9 9 9 B) (hB : w1.heap.size <= B)
  (hg : Di 26 4 w2 v' om' (k + 1) (Fi (fun i => if i = k then Z else X i))) (hf2 : Fr om.toList w' w2) (ho : om' = om \/ ∃ g, om' = some g /\ w'.heap.size <= g) : OwG w1 w2 gl cl R OS (k + 1) v' om' (fun i => if i = k then Z else X i) := by
 obtain ⟨g1, g2, g3, g4⟩ := h.grown hk hf;refine ⟨g1.fr hf2 (fun g hg hm => ?_), hg, fun g hg => ?_, h.os, h.gl, h.dis, fun n h1 h2 => (g3 n (by omega) h2).fr hf2 (fun g hg hm => ?_), fun n hn => ?_, Nat.le_trans h.z (Nat.le_trans hf.size hf2.size)⟩
 ·cases hg;have hm : om = some gl := by simpa using hm
  have := h.ro gl hm;have := h.gl;omega
 ·rcases ho with ho | ⟨q, ho, hq⟩
  ·exact h.ro g (ho.symm.trans hg)
  ·rw [hg] at ho;cases ho;have := h.z;have := hf.size;omega
 ·exact (g3 n (by omega) h2).apart g2 g (by simpa using hm) hg
 ·by_cases hnk : n = k
  ·subst hnk;refine ⟨B, hB, ?_⟩;rw [if_pos rfl];exact hZ.fr hf2 (fun g hg hm => (hZ.apart g2 g (by simpa using hm)).2 hg) (fun g hg hm => (hZ.apart g2 g (by simpa using hm)).1 hg)
  ·obtain ⟨B', hB', hx⟩ := g4 n (by omega);refine ⟨B', hB', ?_⟩;rw [if_neg hnk];exact hx.fr hf2 (fun g hg hm => (hx.apart g2 g (by simpa using hm)).2 hg) (fun g hg hm => (hx.apart g2 g (by simpa using hm)).1 hg)
section
variable {w0 wS : World} {N : Nat} {T : Nat -> List Int} {vm : Value} {gF gs Bs : Nat} {s0 s1 s2 s3 : Value} {o1 o2 o3 : Option Nat} {OS : List Nat}
theorem qE (w : World) (h : OwS w0 wS N T vm gF gs Bs s0 s1 s2 s3 o1 o2 o3 OS) (hf : Fr OS wS w) {gl cl : Nat} {R : Nat -> RP} (hG : OwG w w gl cl R OS 0 (.slice none 0 0) none R) (u0 u1 u2 u3 u4 u6 u8 u9 u10 u11 u12 u13 u14 u15 u19 u20 u21 u22 u23 u24 u25 u26 u27 u28 u29 u30 u31 u32 u33 u34 u35 u36 u37 u38 u39 u40 u41 u42 u43 u44 u45 u46 u47 u48 u49 u50 u51 u52 u53 u54 u55 u56 u57 u58 u59 u60 u61 u62 u63 u64 u65 u66 u67 u68 u69 u70 u71 u72 u73 u74 u75 u76 u77 u78 u79 u80 u81 u82 u83 u84 u85 u86 u87 u88 u89 u90 u91 u92 u93 u94 u95 u96 u97 u98 u99 u100 u101 u102 u103 u104 u105 u106 u107 u108 u109 u110 u111 u112 u113 u114 u115 u116 u117 u118 u119 u120 u121 u122 u123 u124 u125 u126 u127 u128 u129 u130 u131 u132 u133 u134 u135 u136 u137 u138 u139 u140 u141 u142 u143 u144 u145 u146 u147 u148 u149 u150 u151 u152 u153 u154 u155 u156 u157 u158 u159 u160 u161 u162 u163 u164 u165 u166 u167 u168 u169 u170 u171 u172 u173 u174 u175 u176 u177 u178 u179 u180 u181 u182 u183 u184 u185 u186 u187 u188 u189 u190 u191 u192 u193 u194 u195 u196 u197 u198 u199 u200 u201 u202 u203 u204 u205 u206 u207 u208 u209 u210 u211 u212 u213 u214 u215 u216 u217 u218 u219 u220 u221 u222 u223 u224 u225 u226 u227 u228 u229 u230 : Value) :
  Code.wp Tryz.prog (owC 15) (bodyPost Tryz.prog Tryz.f4 (owP w0)) ⟨#[u0, u1, u2, u3, u4, .bool true, u6, vm, u8, u9, u10, u11, u12, u13, u14, u15, .pointer (some ⟨gs, 0, none⟩), .int .i64 (Co N T), .slice (some ⟨gl, 0, none⟩) 3 cl, u19, u20, u21, u22, u23, u24, u25, u26, u27, u28, u29, u30, u31, u32, u33, u34, u35, u36, u37, u38, u39, u40, u41, u42, u43, u44, u45, u46, u47, u48, u49, u50, u51, u52, u53, u54, u55, u56, u57, u58, u59, u60, u61, u62, u63, u64, u65, u66, u67, u68, u69, u70, u71, u72, u73, u74, u75, u76, u77, u78, u79, u80, u81, u82, u83, u84, u85, u86, u87, u88, u89, u90, u91, u92, u93, u94, u95, u96, u97, u98, u99, u100, u101, u102, u103, u104, u105, u106, u107, u108, u109, u110, u111, u112, u113, u114, u115, u116, u117, u118, u119, u120, u121, u122, u123, u124, u125, u126, u127, u128, u129, u130, u131, u132, u133, u134, u135, u136, u137, u138, u139, u140, u141, u142, u143, u144, u145, u146, u147, u148, u149, u150, u151, u152, u153, u154, u155, u156, u157, u158, u159, u160, u161, u162, u163, u164, u165, u166, u167, u168, u169, u170, u171, u172, u173, u174, u175, u176, u177, u178, u179, u180, u181, u182, u183, u184, u185, u186, u187, u188, u189, u190, u191, u192, u193, u194, u195, u196, u197, u198, u199, u200, u201, u202, u203, u204, u205, u206, u207, u208, u209, u210, u211, u212, u213, u214, u215, u216, u217, u218, u219, u220, u221, u222, u223, u224, u225, u226, u227, u228, u229, u230], []⟩ w := by
 conv => arg 2; whnf
 have H := sW h;have HF := sW hf;have HG := sW hG;have HF0 := sW hf;clear h hf hG;obtain ⟨E, hE⟩ : ∃ E, Co N T = E := ⟨_, rfl⟩;have HE := sW hE;rw [hE];clear hE;go_upto_block 2 with fail
 go_cut [20] from 21 (fun v wx => ∃ om X, Hid (OwG w wx gl cl R OS 3 v om X) /\ Hid (Fr OS wS wx))
 case first =>
  go_wp2_with fail;go_loopw [20, 21] (fun v i wr => ∃ (k : Nat) (om : Option Nat) (X : Nat -> RP), i = .int .i64 k /\ k <= 3 /\ Hid (OwG w wr gl cl R OS k v om X) /\ Hid (Fr OS wS wr)) (fun _ v _ => 3 - (intOf v).toNat)
  case atStart => exact ⟨0, none, R, rfl, by omega, HG, HF⟩
  case round =>
   obtain ⟨k, om, X, rfl, hk, HG, HF⟩ := hrel;by_cases hlt : k < 3
   ·obtain ⟨cs, hcs, c0, c1, c2, c3⟩ := HG.out.l.repc hlt;obtain ⟨a0, k0, a1, k1, a2, k2, a3, k3, e0, e1, e2, e3⟩ := (HG.out.t k (Nat.le_refl _) hlt).parts;change (R k).v0 = _ at e0;change (R k).v1 = _ at e1;change (R k).v2 = _ at e2;change (R k).v3 = _ at e3;have hcl := Aa hcs;rw [Nat.zero_add] at c0 c1 c2 c3
    have HIN : Hid (In wr (wr.alloc (.cells #[(R k).v0, (R k).v1, (R k).v2, (R k).v3] 26)) ((R k).mark (k + 1)) ((R k).mark (k + 1)) (k + 1) 0 0 0 0 wr.heap.size) := sW
     ⟨Ez.start (R := R k) (m := k + 1) ((HG.out.t k (Nat.le_refl _) hlt).fr (Dv _ _ []) (by simp)) (fun g hg => by have := (HG.out.os k hlt g hg).2.1; have := HG.out.z; omega), (A7 wr _).1, Dv _ _ _, fun hm => by have := (HG.out.os k hlt _ hm).2.1; have := HG.out.z; omega, Nat.le_refl _⟩
    rw [e0, e1, e2, e3] at HIN;rw [e0] at c0;rw [e1] at c1;rw [e2] at c2;rw [e3] at c3;have hk0 : (0 : Int) <= (k : Int) := Int.natCast_nonneg _;have hk1 : (k : Int) < 3 := by omega
    have HEE := sW (show _ /\ _ /\ _ /\ _ from ⟨e0, e1, e2, e3⟩);have HHG := sW HG.out;clear e0 e1 e2 e3;go_upto_region 26 with fail;obtain ⟨w7, rfl⟩ : ∃ x, x = wr := ⟨_, rfl⟩;generalize w7.alloc (.cells #[.slice a0 ((R k).mark (k + 1)).N k0, .slice a1 ((R k).mark (k + 1)).xs.length k1, .slice a2 ((R k).mark (k + 1)).ys.length k2, .slice a3 ((R k).mark (k + 1)).zs.length k3] 26) = w8 at *;generalize hgx : w7.heap.size = gx at *;have HGX := sW hgx;clear hgx hcs c0 c1 c2 c3 hcl;go_wp2_with fail;go_loopw [23] (fun v wx => ∃ (j : Nat) (Z : RP), v = .int .i64 j /\ j <= 9 /\ Hid (In w7 wx ((R k).mark (k + 1)) Z (k + 1) j j j j gx)) (fun v _ => 9 - (intOf v).toNat)
    case atStart => exact ⟨0, _, rfl, by omega, HIN⟩
    case round =>
     obtain ⟨j, Z, rfl, hj, HI⟩ := hrel;by_cases hj9 : j < 9
     ·have hgx := HI.out.h;have hgxl := Aa hgx;obtain ⟨a, n, c, w2, o', hr, hg2, hI2⟩ := HI.out.step0 (by omega) (by omega) 22;have hbs : (Instr.buildSlice 22 1 #[(0, .agg (IV .u8 ((zl 128).set 0 ((k : Int) + 1))))]).run Tryz.prog wr = .ok (.slice (some ⟨wr.heap.size, 0, none⟩) 1 1) (wr.alloc (.cells (IV .u8 [Ec (k + 1)].flatten) 33)) := aA [Ec (k + 1)] (by simp [Dz]) (by simp) (by simp) wr;have HR1 := sW hr;have HG2 := sW hg2;have HI2 := sW hI2;have HBS := sW hbs;clear hr hg2 hI2 hbs;go_upto_region 29 with fail;iterate 17 (first | go_values | go_skip | go_guarded | go_step | go_upon | go_back)
      refine eO 33 (.tmp 158) rfl _ rfl _ (Yg _ _) ?_;iterate 2 (first | go_values | go_skip | go_guarded | go_step | go_upon | go_back)
      refine jP 22 (.tmp 159) rfl _ rfl _ _ HBS.out ?_;iterate 1 (first | go_values | go_skip | go_guarded | go_step | go_upon | go_back)
      at_builtin;refine Ao _ rfl (.tmp 155) (.tmp 160) 22 rfl _ _ rfl rfl _ _ HR1.out ?_;have hg2 := HG2.out;have hg2l := Aa hg2;clear hgx hgxl;go_upto_region 30 with fail;trace "r30"
      generalize w2.setCell ⟨gx, 0, none⟩ (.slice a n c) = y0 at *;have hg0 := HI2.out.h;have hg0l := Aa hg0;clear hg2 hg2l HR1 HG2 HI HBS;have HI10 := HI2;obtain ⟨a1', n1', c1', x1, o1', hr, hg2, hI2⟩ := HI2.out.step1 (by omega) 24;rw [show (10000 + ((k + 1 : Nat) : Int)) = 10000 + (k : Int) + 1 by omega] at hr;have HR1 := sW hr;have HG2 := sW hg2;have HJ1 := sW hI2;clear hr hg2 hI2 HI2;iterate 19 (first | go_values | go_skip | go_guarded | go_step | go_upon | go_back)
      at_builtin;refine Ao _ rfl (.tmp 164) (.tmp 168) 24 rfl _ _ rfl rfl _ _ HR1.out ?_;have hg2 := HG2.out;have hg2l := Aa hg2;clear hg0 hg0l;go_upto_region 31 with fail;trace "r31"
      generalize x1.setCell ⟨gx, 1, none⟩ (.slice a1' n1' c1') = y1 at *;have hg0 := HJ1.out.h;have hg0l := Aa hg0;clear hg2 hg2l HR1 HG2 HI10;have HI20 := HJ1;obtain ⟨a2', n2', c2', x2, o2', hr, hg2, hI2⟩ := HJ1.out.step2 (by omega) 24;rw [show (20000 + ((k + 1 : Nat) : Int)) = 20000 + (k : Int) + 1 by omega] at hr;have HR1 := sW hr;have HG2 := sW hg2;have HJ2 := sW hI2;clear hr hg2 hI2 HJ1;iterate 19 (first | go_values | go_skip | go_guarded | go_step | go_upon | go_back)
      at_builtin;refine Ao _ rfl (.tmp 172) (.tmp 176) 24 rfl _ _ rfl rfl _ _ HR1.out ?_;have hg2 := HG2.out;have hg2l := Aa hg2;clear hg0 hg0l;go_upto_region 32 with fail;trace "r32"
      generalize x2.setCell ⟨gx, 2, none⟩ (.slice a2' n2' c2') = y2 at *;have hg0 := HJ2.out.h;have hg0l := Aa hg0;clear hg2 hg2l HR1 HG2 HI20;have HI30 := HJ2;obtain ⟨a3', n3', c3', x3, o3', hr, hg2, hI2⟩ := HJ2.out.step3 (by omega) 24;rw [show (30000 + ((k + 1 : Nat) : Int)) = 30000 + (k : Int) + 1 by omega] at hr;have HR1 := sW hr;have HG2 := sW hg2;have HJ3 := sW hI2;clear hr hg2 hI2 HJ2;iterate 19 (first | go_values | go_skip | go_guarded | go_step | go_upon | go_back)
      at_builtin;refine Ao _ rfl (.tmp 180) (.tmp 184) 24 rfl _ _ rfl rfl _ _ HR1.out ?_;have hg2 := HG2.out;have hg2l := Aa hg2;clear hg0 hg0l;go_upto_region 28 with fail;trace "r28"
      generalize x3.setCell ⟨gx, 3, none⟩ (.slice a3' n3' c3') = y3 at *;have hg0 := HJ3.out.h;have hg0l := Aa hg0;clear hg2 hg2l HR1 HG2 HI30;go_wp2_with fail;go_roundw
      case rel => exact ⟨j + 1, _, by go_num, by omega, HJ3⟩
      case measure => (show 9 - (j + 1) < 9 - j); omega
     ·obtain rfl : j = 9 := by omega
      have hgx := HI.out.h;have hgxl := Aa hgx;have hfR : Fr (R k).os w7 wr := HI.out.f;have hone : ∀ q, q < 1 * 4 -> (Fi (fun _ => Z) q).oneCell' = true := fun q hq => by
       obtain ⟨b0, d0, h0⟩ := HI.out.x.x0.x.slice;obtain ⟨b1, d1, h1⟩ := HI.out.x.x1.x.slice;obtain ⟨b2, d2, h2⟩ := HI.out.x.x2.x.slice;obtain ⟨b3, d3, h3⟩ := HI.out.x.x3.x.slice;unfold Fi;rw [h0, h1, h2, h3];split
       ·rfl
       ·split
        ·rfl
        ·split <;> rfl
      obtain ⟨a, n, c, w2, om', hr, hg2, hf2, ho2⟩ := iD (Z := Z) (HG.out.grown hlt hfR).2.1 (by omega) hone 35;have hbs : (Instr.buildSlice 35 1 #[(0, .agg #[Z.v0, Z.v1, Z.v2, Z.v3])]).run Tryz.prog wr = .ok (.slice (some ⟨wr.heap.size, 0, none⟩) 1 1) (wr.alloc (.cells ([#[Z.v0, Z.v1, Z.v2, Z.v3]].flatMap Array.toList).toArray 26)) := Z9 [#[Z.v0, Z.v1, Z.v2, Z.v3]] (by simp) (by simp) (by simp) wr;have HN := sW (HG.out.next hlt hfR HI.out.x (by have := HG.out.z; have := HGX.out; omega) hg2 hf2 ho2);have HFN : Hid (Fr OS wS w2) := sW (((HF.out.trans (hfR.mono (fun g hg => (HG.out.os k hlt g hg).1))).mono (ex' := OS ++ om.toList) (fun g hg => List.mem_append_left _ hg)).trans (hf2.mono (fun g hg => List.mem_append_right _ hg)) |>.past (fun g hg => by
       rcases List.mem_append.1 hg with hg | hg
       ·exact .inl hg
       ·have := HG.out.ro g (by simpa using hg);have := HF0.out.size;exact .inr (by omega)))
      have HR1 := sW hr;have HBS := sW hbs;clear hr hg2 hf2 ho2 hbs hone hfR;go_upto_region 33 with fail;iterate 8 (first | go_values | go_skip | go_guarded | go_step | go_upon | go_back)
      refine jP 35 (.tmp 188) rfl _ rfl _ _ HBS.out ?_;iterate 1 (first | go_values | go_skip | go_guarded | go_step | go_upon | go_back)
      at_builtin;refine Ao _ rfl (.tmp 187) (.tmp 189) 35 rfl _ _ rfl rfl _ _ HR1.out ?_;clear hgx hgxl HR1 HBS;go_wp2_with fail;go_roundw
      case rel => exact ⟨k + 1, om', _, by go_num, by omega, HN, HFN⟩
      case measure => (show 3 - (k + 1) < 3 - k); omega
   ·obtain rfl : k = 3 := by omega
    go_wp2_with fail;go_meet
    case rel => exact ⟨om, X, HG, HF⟩
 case rest =>
  obtain ⟨om, X, HG3, HF3⟩ := hcut;obtain ⟨gr, fr, cr, hv⟩ : ∃ gr fr cr, u20 = .slice (some ⟨gr, fr, none⟩) 3 cr := by
   rcases HG3.out.r with ⟨-, -, h⟩ | ⟨g, off, c, cs, e, -⟩
   ·cases h
   ·exact ⟨g, off, c, e⟩
  subst hv;have hE := HE.out;subst hE;refine (show ∀ a w, Code.wp _ (owC 17) _ a w -> _ from by assumption) _ _ (qF (ol := some gl) (or := om) (R := R) (X := X) wc H.out HF3.out ⟨HG3.out.l, HG3.out.r, fun n hn => ?_, fun n hn => ?_⟩ _ _ _ _ _ _ _ _ _ _ _ _ _ _ _ _ _ _ _ _ _ _ _ _ _ _ _ _ _ _ _ _ _ _ _ _ _ _ _ _ _ _ _ _ _ _ _ _ _ _ _ _ _ _ _ _ _ _ _ _ _ _ _ _ _ _ _ _ _ _ _ _ _ _ _ _ _ _ _ _ _ _ _ _ _ _ _ _ _ _ _ _ _ _ _ _ _ _ _ _ _ _ _ _ _ _ _ _ _ _ _ _ _ _ _ _ _ _ _ _ _ _ _ _ _ _ _ _ _ _ _ _ _ _ _ _ _ _ _ _ _ _ _ _ _ _ _ _ _ _ _ _ _ _ _ _ _ _ _ _ _ _ _ _ _ _ _ _ _ _ _ _ _ _ _ _ _ _ _ _ _ _ _ _ _ _ _ _ _ _ _ _ _ _ _ _ _ _ _ _ _ _ _ _ _ _ _ _ _ _ _ _ _ _ _ _ _ _ _ _ _ _ _ _ _)
  ·obtain ⟨B, -, hx⟩ := HG3.out.x n hn;exact ⟨_, _, _, _, Ez.repL (R := (R n).mark (n + 1)) (by omega) hx⟩
  ·obtain ⟨B, -, hx⟩ := HG3.out.x n hn;exact ⟨_, _, _, _, Ez.repV (R := (R n).mark (n + 1)) (j := 8) (by omega) (by omega) hx⟩
end
def R3 (A B C : RP) : Nat -> RP := fun i => if i = 0 then A else if i = 1 then B else C
theorem eY (A B C : RP) (k : Nat) (hk : k < 3 * 4) : (([#[A.v0, A.v1, A.v2, A.v3], #[B.v0, B.v1, B.v2, B.v3], #[C.v0, C.v1, C.v2, C.v3]] : List (Array Value)).flatMap Array.toList).toArray[k]? = some (Fi (R3 A B C) k) := by
 rcases k with _ | _ | _ | _ | _ | _ | _ | _ | _ | _ | _ | _ | k
 all_goals first | rfl | omega
section
variable {w0 wS : World} {N : Nat} {T : Nat -> List Int} {vm : Value} {gF gs Bs : Nat} {s0 s1 s2 s3 : Value} {o1 o2 o3 : Option Nat} {OS : List Nat}
theorem qD (w : World) (h : OwS w0 wS N T vm gF gs Bs s0 s1 s2 s3 o1 o2 o3 OS) (hf : Fr OS wS w) {ga gb ge : Nat} {A B C : RP} (hA : hat w ga = some (.cells #[A.v0, A.v1, A.v2, A.v3] 26)) (hB : hat w gb = some (.cells #[B.v0, B.v1, B.v2, B.v3] 26)) (hC : hat w ge = some (.cells #[C.v0, C.v1, C.v2, C.v3] 26))
  (hR : S8 w 3 (R3 A B C)) (hOS : ∀ n, n < 3 -> ∀ g ∈ (R3 A B C n).os, g ∈ OS) (u0 u1 u2 u3 u4 u6 u9 u11 u12 u13 u15 u18 u19 u20 u21 u22 u23 u24 u25 u26 u27 u28 u29 u30 u31 u32 u33 u34 u35 u36 u37 u38 u39 u40 u41 u42 u43 u44 u45 u46 u47 u48 u49 u50 u51 u52 u53 u54 u55 u56 u57 u58 u59 u60 u61 u62 u63 u64 u65 u66 u67 u68 u69 u70 u71 u72 u73 u74 u75 u76 u77 u78 u79 u80 u81 u82 u83 u84 u85 u86 u87 u88 u89 u90 u91 u92 u93 u94 u95 u96 u97 u98 u99 u100 u101 u102 u103 u104 u105 u106 u107 u108 u109 u110 u111 u112 u113 u114 u115 u116 u117 u118 u119 u120 u121 u122 u123 u124 u125 u126 u127 u128 u129 u130 u131 u132 u133 u134 u135 u136 u137 u138 u139 u140 u141 u142 u143 u144 u145 u146 u147 u148 u149 u150 u151 u152 u153 u154 u155 u156 u157 u158 u159 u160 u161 u162 u163 u164 u165 u166 u167 u168 u169 u170 u171 u172 u173 u174 u175 u176 u177 u178 u179 u180 u181 u182 u183 u184 u185 u186 u187 u188 u189 u190 u191 u192 u193 u194 u195 u196 u197 u198 u199 u200 u201 u202 u203 u204 u205 u206 u207 u208 u209 u210 u211 u212 u213 u214 u215 u216 u217 u218 u219 u220 u221 u222 u223 u224 u225 u226 u227 u228 u229 u230 : Value) :
  Code.wp Tryz.prog (owC 13) (bodyPost Tryz.prog Tryz.f4 (owP w0)) ⟨#[u0, u1, u2, u3, u4, .bool true, u6, vm, .pointer (some ⟨ga, 0, none⟩), u9, .pointer (some ⟨gb, 0, none⟩), u11, u12, u13, .pointer (some ⟨ge, 0, none⟩), u15, .pointer (some ⟨gs, 0, none⟩), .int .i64 (Co N T), u18, u19, u20, u21, u22, u23, u24, u25, u26, u27, u28, u29, u30, u31, u32, u33, u34, u35, u36, u37, u38, u39, u40, u41, u42, u43, u44, u45, u46, u47, u48, u49, u50, u51, u52, u53, u54, u55, u56, u57, u58, u59, u60, u61, u62, u63, u64, u65, u66, u67, u68, u69, u70, u71, u72, u73, u74, u75, u76, u77, u78, u79, u80, u81, u82, u83, u84, u85, u86, u87, u88, u89, u90, u91, u92, u93, u94, u95, u96, u97, u98, u99, u100, u101, u102, u103, u104, u105, u106, u107, u108, u109, u110, u111, u112, u113, u114, u115, u116, u117, u118, u119, u120, u121, u122, u123, u124, u125, u126, u127, u128, u129, u130, u131, u132, u133, u134, u135, u136, u137, u138, u139, u140, u141, u142, u143, u144, u145, u146, u147, u148, u149, u150, u151, u152, u153, u154, u155, u156, u157, u158, u159, u160, u161, u162, u163, u164, u165, u166, u167, u168, u169, u170, u171, u172, u173, u174, u175, u176, u177, u178, u179, u180, u181, u182, u183, u184, u185, u186, u187, u188, u189, u190, u191, u192, u193, u194, u195, u196, u197, u198, u199, u200, u201, u202, u203, u204, u205, u206, u207, u208, u209, u210, u211, u212, u213, u214, u215, u216, u217, u218, u219, u220, u221, u222, u223, u224, u225, u226, u227, u228, u229, u230], []⟩ w := by
 conv => arg 2; whnf
 have H := sW h;have HF := sW (hf.trans (Dv w (.cells ([#[A.v0, A.v1, A.v2, A.v3], #[B.v0, B.v1, B.v2, B.v3], #[C.v0, C.v1, C.v2, C.v3]].flatMap Array.toList).toArray 26) _));have HR := sW (hR.fr (Dv w (.cells ([#[A.v0, A.v1, A.v2, A.v3], #[B.v0, B.v1, B.v2, B.v3], #[C.v0, C.v1, C.v2, C.v3]].flatMap Array.toList).toArray 26) []) (by simp));have HL : Hid (Di 26 4 (w.alloc (.cells ([#[A.v0, A.v1, A.v2, A.v3], #[B.v0, B.v1, B.v2, B.v3], #[C.v0, C.v1, C.v2, C.v3]].flatMap Array.toList).toArray 26)) (.slice (some ⟨w.heap.size, 0, none⟩) 3 3) (some w.heap.size) 3 (Fi (R3 A B C))) := sW (Di.reps (A7 w _).1 (by simp) (eY A B C));have HBS : Hid ((Instr.buildSlice 35 3 #[(0, .agg #[A.v0, A.v1, A.v2, A.v3]), (1, .agg #[B.v0, B.v1, B.v2, B.v3]), (2, .agg #[C.v0, C.v1, C.v2, C.v3])]).run Tryz.prog w = .ok (.slice (some ⟨w.heap.size, 0, none⟩) 3 3) (w.alloc (.cells ([#[A.v0, A.v1, A.v2, A.v3], #[B.v0, B.v1, B.v2, B.v3], #[C.v0, C.v1, C.v2, C.v3]].flatMap Array.toList).toArray 26))) := sW (Z9 [#[A.v0, A.v1, A.v2, A.v3], #[B.v0, B.v1, B.v2, B.v3], #[C.v0, C.v1, C.v2, C.v3]] (by simp) (by simp) (by simp) w);have HOS := sW hOS;have HLO : Hid (∀ n, n < 3 -> ∀ g ∈ (R3 A B C n).os, g < w.heap.size) := sW (fun n hn => (hR.rep n hn).lt);clear h hf hR hOS;have hAl := Aa hA;have hBl := Aa hB;have hCl := Aa hC;obtain ⟨E, hE⟩ : ∃ E, Co N T = E := ⟨_, rfl⟩;have HE := sW hE;rw [hE];clear hE;iterate 12 (first | go_values | go_skip | go_guarded | go_step | go_upon | go_back)
 refine oN 35 (.tmp 123) (.tmp 124) (.tmp 125) rfl _ _ _ rfl rfl rfl _ _ HBS.out ?_;clear hA hB hC hAl hBl hCl;generalize w.alloc (.cells ([#[A.v0, A.v1, A.v2, A.v3], #[B.v0, B.v1, B.v2, B.v3], #[C.v0, C.v1, C.v2, C.v3]].flatMap Array.toList).toArray 26) = w1 at *;generalize w.heap.size = gl at *;go_upto_block 0 with fail
 go_cut [] from 19 (fun wx => Hid (Di 26 4 wx (.slice (some ⟨gl, 0, none⟩) 3 3) (some gl) 3 (Fi (R3 A B C))) /\ Hid (S8 wx 3 (Eo 3 (R3 A B C))) /\ Hid (Fr OS wS wx))
 case first =>
  go_wp2_with fail;go_loopw [19] (fun v wr => ∃ k : Nat, v = .int .i64 k /\ k <= 3 /\ Hid (Di 26 4 wr (.slice (some ⟨gl, 0, none⟩) 3 3) (some gl) 3 (Fi (R3 A B C))) /\ Hid (S8 wr 3 (Eo k (R3 A B C))) /\ Hid (Fr OS wS wr)) (fun v _ => 3 - (intOf v).toNat)
  case atStart => exact ⟨0, rfl, by omega, HL, sW (by rw [W4]; exact HR.out), HF⟩
  case round =>
   obtain ⟨k, rfl, hk, HL, HR, HF⟩ := hrel;by_cases hlt : k < 3
   ·obtain ⟨cs, hcs, c0, c1, c2, c3⟩ := HL.out.repc hlt;have hcl := Aa hcs;rw [Nat.zero_add] at c0 c1 c2 c3;have hk0 : (0 : Int) <= (k : Int) := Int.natCast_nonneg _;have hk1 : (k : Int) < 3 := by omega
    have h1 := HR.out.rep k hlt;rw [L6] at h1;have HC := sW (fV h1 (k + 1) (by omega));clear h1;go_wp2_with fail;rw [show ((k : Int) + 1) = ((k + 1 : Nat) : Int) by omega];refine HC.out.mono ?_; rintro e w2 ⟨rfl, hm, hf2⟩;have HR2 := sW (HR.out.mark hlt (by rw [L6]; exact hm) (by rw [L6]; exact hf2));have HF2 := sW (HF.out.trans (hf2.mono (HOS.out k hlt)));have HL2 := sW (HL.out.fr hf2 (fun g hg hm => by
     cases hg;have := HLO.out k hlt gl hm;omega))
    clear hm hf2 hcs c0 c1 c2 c3 hcl;go_wp2_with fail;go_roundw
    case rel => exact ⟨k + 1, by go_num, by omega, HL2, HR2, HF2⟩
    case measure => (show 3 - (k + 1) < 3 - k); omega
   ·obtain rfl : k = 3 := by omega
    go_wp2_with fail;go_meet
    case rel => exact ⟨HL, HR, HF⟩
 case rest =>
  obtain ⟨HL3, HR3, HF3⟩ := hcut;have hE := HE.out;subst hE;refine (show ∀ a w, Code.wp _ (owC 15) _ a w -> _ from by assumption) _ _ (qE (R := R3 A B C) wc H.out HF3.out ⟨HL3.out, .inl ⟨rfl, rfl, rfl⟩, fun g hg => (by cases hg), fun n hn g hg => ⟨HOS.out n hn g hg, ?_, ?_⟩, HL3.out.lt gl rfl, fun i j hi hj hij => ?_, fun n _ hn => ?_, fun n hn => absurd hn (Nat.not_lt_zero n), Nat.le_refl _⟩ _ _ _ _ _ _ _ _ _ _ _ _ _ _ _ _ _ _ _ _ _ _ _ _ _ _ _ _ _ _ _ _ _ _ _ _ _ _ _ _ _ _ _ _ _ _ _ _ _ _ _ _ _ _ _ _ _ _ _ _ _ _ _ _ _ _ _ _ _ _ _ _ _ _ _ _ _ _ _ _ _ _ _ _ _ _ _ _ _ _ _ _ _ _ _ _ _ _ _ _ _ _ _ _ _ _ _ _ _ _ _ _ _ _ _ _ _ _ _ _ _ _ _ _ _ _ _ _ _ _ _ _ _ _ _ _ _ _ _ _ _ _ _ _ _ _ _ _ _ _ _ _ _ _ _ _ _ _ _ _ _ _ _ _ _ _ _ _ _ _ _ _ _ _ _ _ _ _ _ _ _ _ _ _ _ _ _ _ _ _ _ _ _ _ _ _ _ _ _ _ _ _ _ _ _ _ _ _ _ _ _ _ _ _ _ _ _ _ _ _ _ _ _ _ _ _)
  ·have h1 := (HR3.out.rep n hn).lt g (by rw [Gp]; exact hg);exact h1
  ·rintro rfl;have := HLO.out n hn g hg;omega
  ·have := HR3.out.dis i j hi hj hij;rw [Gp, Gp] at this;exact this
  ·have h1 := HR3.out.rep n hn;unfold Eo at h1;rw [if_pos hn] at h1;exact h1
end
end Go.Proofs.YthioepdgnbdohaaGreat
