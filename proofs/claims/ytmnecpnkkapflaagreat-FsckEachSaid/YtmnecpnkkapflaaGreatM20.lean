import Derived.Test.YtmnecpnkkapflaaGreatM13
import Derived.Test.YtmnecpnkkapflaaGreatM17
namespace Go.Proofs.YtmnecpnkkapflaaGreat
set_option maxHeartbeats 16000000
set_option maxRecDepth 1000000
set_option linter.unusedSimpArgs false
set_option linter.unusedVariables false
open Go.RowKit
theorem cutS_take {S W : Nat → List Int} {L : List Int} {k j : Nat} (h : L[k]? = some (j : Int)) : updS (cutS S W (L.take k)) j (W j) = cutS S W (L.take (k + 1)) := by
 funext i
 have hk := (List.getElem?_eq_some_iff.1 h).1
 have e : L.take (k + 1) = L.take k ++ [(j : Int)] := by
  rw [List.take_add_one, h]; rfl
 unfold updS cutS
 rw [e]
 by_cases hi : i = j
 ·subst hi
  simp
 ·rw [if_neg hi]
  have : ((i : Int) ∈ L.take k ++ [(j : Int)]) ↔ (i : Int) ∈ L.take k := by
   rw [List.mem_append, List.mem_singleton]
   constructor
   ·rintro (h | h)
    ·exact h
    ·omega
   ·exact .inl
  simp only [this]
theorem QRow.dropS {w : World} {g off c : Nat} {ob : Option Nat} {xs : List Int} (h : QRow w (.slice (some ⟨g, off, none⟩) xs.length c) ob xs) {k : Nat} (hk : k ≤ xs.length) : QRow w (.slice (some ⟨g, off + k, none⟩) (xs.length - k) (c - k)) ob (xs.drop k) := by
 rcases h with ⟨h, -⟩ | ⟨g', off', c', cs, e, h1, h2, h3, h4, h5⟩
 ·cases h
 ·injection e with e1 e2 e3
  injection e1 with e1
  injection e1 with p1 p2
  subst p1 p2 e3
  refine .inr ⟨g, off + k, c - k, cs, by rw [List.length_drop], h1, h2, by rw [List.length_drop]; omega, by omega, fun j p hj => ?_⟩
  rw [List.getElem?_drop] at hj
  rw [Nat.add_assoc]
  exact h5 (k + j) p hj
theorem cutS_nil (S W : Nat → List Int) (L : List Int) : cutS S W (L.take 0) = S := by
 funext i
 unfold cutS
 simp
noncomputable def eachD (N : Nat) (S : Nat → List Int) (k : Nat) : DS := ⟨cutS S (lookS N S) ((lookX N S).take k), k, true, false, 0⟩
theorem each_run {N : Nat} {S : Nat → List Int} (he : lookE N S = 0) {k : Nat} (hk : k < (lookX N S).length) : runD N (armD k (imgD S)) = (22, eachD N S k) := by
 have hr : runD N (armD k (imgD S)) = wrD (lookS N S) (lookX N S) (armD k (imgD S)) := by
  unfold runD
  rw [if_neg (by show ¬ false = true; decide), if_neg (fun hh => hh he)]
  rfl
 rw [hr, wr_armed _ k (armD k (imgD S)) lookX_nat rfl rfl rfl, if_neg (by omega)]
 show ((22 : Int), (⟨cutS S (lookS N S) ((lookX N S).take k), 0 + (k : Int), true, false, 0⟩ : DS)) = _
 rw [Int.zero_add]
 rfl
theorem each_again {N : Nat} {S : Nat → List Int} (hS : ∀ j, j < N → (S j).length = 128 ∧ Bytes (S j)) (he : lookE N S = 0) (k : Nat) :
  (runD N (restD (eachD N S k))).1 = 0 ∧ lookX N (restD (eachD N S k)).S = (lookX N S).drop k ∧ ∀ j, j < N → (runD N (restD (eachD N S k))).2.S j = lookS N S j := by
 obtain ⟨c1, c2, c3, -, -⟩ := cut_look hS he k
 have hr := run_fresh (N := N) (d := restD (eachD N S k)) rfl rfl c1
 refine ⟨by rw [hr], c3, fun j hj => ?_⟩
 rw [hr]
 exact (cut_all (S := (restD (eachD N S k)).S) c1 hj).trans (by show lookS N (cutS S (lookS N S) ((lookX N S).take k)) j = _; rw [c2])
theorem fsckEach_any {v : Value} {sec : Int} {sp : List Spot} {w : World} (h : Pic w v sec sp) : Calls Tryz.prog 10 #[v] w fun e w' => e = .returned (.bool true) ∧ Below w.heap.size w w' := by
 have H := Lib.hid h
 obtain ⟨-, a, c, rfl, -⟩ := h
 have hf0 := fr_new w (.cells #[.int .i64 sec, .slice a sp.length c] 25) []
 have hg0 := (hopN w (.cells #[.int .i64 sec, .slice a sp.length c] 25)).1
 have HF0 := Lib.hid hf0
 clear hf0
 go_enter Tryz.func10, Tryz.ntmps10
 go_wp2_with fail
 generalize w.alloc (.cells #[.int .i64 sec, .slice a sp.length c] 25) = w0 at *
 refine (image_pic (H.out.fr HF0.out)).mono ?_; rintro e w3 ⟨gi, rfl, hws, hb3, hgi⟩
 have hP := picN_small sec
 have HF3 := Lib.hid (HF0.out.trans (fr_below hb3 []))
 have HW := Lib.hid hws
 generalize picN sec = N at *
 generalize picS sec sp = S at *
 have HSL := Lib.hid (fun j hj => hws.secs.len (i := j) hj)
 have HZ3 := Lib.hid HF3.out.size
 clear hws hb3 hg0
 go_wp2_with fail
 refine (from_any (img0_of HW.out) hP.1 (by omega)).mono ?_; rintro e w4 ⟨gd, gs, rfl, hdk, hb4, hd1, hd2⟩
 have HF4 := Lib.hid (HF3.out.trans (fr_below hb4 []))
 have HW4 := Lib.hid (HW.out.same (hat_below hb4 HW.out.lt))
 have HD4 := Lib.hid hdk
 have HGD := Lib.hid (show w3.heap.size ≤ gd ∧ w3.heap.size ≤ gs from ⟨hd1, hd2⟩)
 have HGI : Hid (gi ∉ [gd, gs]) := Lib.hid (by have := HW.out.lt; simp; omega)
 clear hdk hb4 hd1 hd2
 go_wp2_with fail
 refine (known13_true _).mono ?_; rintro e w5 ⟨rfl, hb5⟩
 have HF5 := Lib.hid (HF4.out.trans (fr_below hb5 []))
 have HD5 := Lib.hid (HD4.out.fr (fr_below hb5 []) (by simp) (by simp))
 have HW5 := Lib.hid (HW4.out.same (hat_below hb5 HW4.out.lt))
 clear hb5
 go_wp2_with fail
 refine (run_any HD5.out (img_ok S) (by simp [imgD]) (by omega)).mono ?_; rintro e wq ⟨R, hR⟩
 obtain ⟨a0, c0, a1, c1, a2, c2, a3, c3, hv, hh⟩ := hR.hold
 obtain rfl := hR.e
 rw [hv, run_fst]
 have HRY := Lib.hid (show _ ∧ _ from ⟨hR.y, hR.n⟩)
 have HN1 := Lib.hid hR.r.n1
 have HK6 := Lib.hid hh.k
 have HG6 := Lib.hid hh.g
 have HF6 := Lib.hid ((HF5.out.mono (ex' := [gd, gs]) (by simp)).trans hh.f)
 have HW6 := Lib.hid (HW5.out.same (hh.f.block _ HW5.out.lt HGI.out))
 have HS0 := Lib.hid hh.s0
 have HS1 := Lib.hid hh.s1
 clear hR hv hh HF3 HF4 HF5 HD4 HD5 HW HW4 HW5
 go_upto_region 6 with fail
 generalize wq.alloc (.cells #[.slice a0 R.N c0, .slice a1 R.xs.length c1, .slice a2 R.ys.length c2, .slice a3 R.zs.length c3] 34) = w6 at *
 generalize wq.heap.size = gr at *
 have hg6 := HG6.out
 have hg6l := hat_lt hg6
 by_cases he : lookE N S = 0
 ·have hRL := HRY.out.1 (by rw [run_fst]; exact he)
  have hrn : R.N = N := by rw [hRL.n]; show lookN N S = N; unfold lookN; rw [if_pos he]
  have hrx : R.xs = lookX N S := hRL.x
  have hrs : R.S = lookS N S := hRL.s
  have HCNT : Hid ((runD N (imgD S)).2.cnt = (R.xs.length : Int)) := Lib.hid (by
   rw [run_fresh (d := imgD S) rfl rfl he, hrx]
   show (0 : Int) + ((lookX N S).length : Int) = ((lookX N S).length : Int)
   omega)
  have HRX := Lib.hid hrx
  have HRS := Lib.hid hrs
  have HE := Lib.hid he
  rw [hrn] at hg6
  have HA0 : Hid (SecR w6 (.slice a0 N c0) R.o0 N (lookS N S)) := Lib.hid (by
   have h1 := HS0.out
   rw [hrn, hrs] at h1
   exact h1)
  rw [he]
  clear hRL hrn hrx hrs he HRY HS0 hg6l
  have HG6 := Lib.hid hg6
  have hxn := HN1.out
  clear hg6
  go_wp2_with fail
  go_loopw [8] (fun v wr => ∃ k : Nat, v = .int .i64 k ∧ k ≤ R.xs.length ∧ k ≤ 20 ∧ Hid (Fr [] w6 wr)) (fun v wr => R.xs.length - (intOf v).toNat)
  case atStart => exact ⟨0, rfl, Nat.zero_le _, by omega, Lib.hid (Fr.refl _ _)⟩
  case round =>
   obtain ⟨k, rfl, hk, hk20, HF⟩ := hrel
   have hk0 : (0 : Int) ≤ (k : Int) := Int.natCast_nonneg _
   have hgr := (HF.out.block gr (hat_lt HG6.out) (by simp)).trans HG6.out
   have hgrl := hat_lt hgr
   by_cases hkN : k < R.xs.length ∧ k < 20
   ·have hk1 : (k : Int) < (R.xs.length : Int) := by omega
    have hk2 : decide ((k : Int) < 20) = true := decide_eq_true (by omega)
    go_wp2_with fail
    clear hgr hgrl
    refine (from_any (img0_of (HW6.out.same (HF.out.block _ HW6.out.lt (by simp)))) hP.1 (by omega)).mono ?_; rintro e w7 ⟨gc, gt, rfl, hdk, hb7, hd1, hd2⟩
    have HC7 := Lib.hid hdk
    have HGC := Lib.hid (show wr.heap.size ≤ gc ∧ wr.heap.size ≤ gt from ⟨hd1, hd2⟩)
    have HF7 := Lib.hid (fr_below hb7 [gc, gt])
    clear hdk hb7 hd1 hd2
    go_wp2_with fail
    refine (arm_any HC7.out (n := k) (by omega)).mono ?_; rintro e w8 ⟨-, hx2⟩
    obtain ⟨rfl, hdk, hf⟩ := hx2 rfl
    have HC8 := Lib.hid hdk
    have HF8 := Lib.hid (HF7.out.trans (hf.mono (by simp)))
    clear hx2 hdk hf HC7 HF7
    have HER := Lib.hid (each_run HE.out (k := k) (by rw [← HRX.out]; omega))
    go_wp2_with fail
    refine (run_any HC8.out ⟨by show (0 : Int) ≤ 0; omega, by show (0 : Int) ≤ _; omega, by show (0 : Int) ≤ (k : Int); omega, by show (k : Int) ≤ _; omega⟩ (by show (0 : Int) ≤ _; omega) (by omega)).mono ?_; rintro e wp ⟨Q, hQ⟩
    obtain ⟨b0, e0, b1, e1, b2, e2, b3, e3, hv, hh⟩ := hQ.hold
    obtain rfl := hQ.e
    rw [hv, HER.out]
    have hk9 := hh.k
    rw [HER.out] at hk9
    have HK9 := Lib.hid hk9
    have HF9 := Lib.hid (HF8.out.trans hh.f)
    clear hQ hv hh hk9 HF8 HC8
    simp only
    go_upto_region 16 with fail
    generalize wp.alloc (.cells #[.slice b0 Q.N e0, .slice b1 Q.xs.length e1, .slice b2 Q.ys.length e2, .slice b3 Q.zs.length e3] 34) = w9 at *
    generalize wp.heap.size = gq at *
    have HP9 := Lib.hid (HF.out.trans (HF9.out.past (ex' := []) (fun q hq => .inr (by have := HGC.out; simp at hq; omega))))
    have HW9 := Lib.hid (HW6.out.same (HP9.out.block _ HW6.out.lt (by simp)))
    obtain ⟨gn, cn, w10, hap, hgn0, hcn, hwn, hbn⟩ := secs_append gi 0 N N S w9 HW9.out.secs (by omega) (by omega)
    have HAP := Lib.hid hap
    have HWN := Lib.hid hwn
    have HF10 := Lib.hid (fr_below hbn [])
    have HGN := Lib.hid hgn0
    clear hap hwn hbn hgn0
    go_wp2_with (at_builtin; refine wpList_append_run _ rfl (.tmp 86) (.tmp 87) 26 rfl _ _ rfl rfl _ _ (HAP.out _) ?_)
    go_loopw [14] (fun v wx => ∃ i : Nat, v = .int .i64 i ∧ i ≤ k ∧ Hid (Fr [] w9 wx) ∧ Hid (WSecs wx gn N cn (cutS S (lookS N S) (R.xs.take i)))) (fun v wx => k - (intOf v).toNat)
    case atStart => exact ⟨0, rfl, Nat.zero_le _, HF10, Lib.hid (by rw [cutS_nil]; exact HWN.out)⟩
    case round =>
     obtain ⟨i, rfl, hi, HFx, HN⟩ := hrel
     have hi0 : (0 : Int) ≤ (i : Int) := Int.natCast_nonneg _
     have HPx := Lib.hid (HP9.out.trans HFx.out)
     by_cases hin : i < k
     ·have hi1 : (i : Int) < (k : Int) := by omega
      have hi2 : (i : Int) < (R.xs.length : Int) := by omega
      have hgx := (HPx.out.block gr (hat_lt HG6.out) (by simp)).trans HG6.out
      have hgxl := hat_lt hgx
      obtain ⟨j, hj, hjN⟩ : ∃ j : Nat, nth R.xs i = j ∧ j < N := by rw [HRX.out]; exact lookX_at (by rw [← HRX.out]; omega)
      have hLk : R.xs[i]? = some (j : Int) := by
       rw [← hj]; unfold nth; rw [List.getElem?_eq_getElem (by omega)]; rfl
      obtain ⟨g2, f2, cc1, cs1, s1, -, u1, x1⟩ := (HS1.out.fr HPx.out (by simp)).cell (k := i) (by omega)
      injection s1 with s1 s2 s3
      subst s1 s3
      rw [hj] at x1
      obtain ⟨aW, cW, eW, hW⟩ := (HA0.out.fr HPx.out (by simp)).img
      obtain ⟨gW, oW, eaW, hSW⟩ := hW (by omega)
      injection eW with f1 f2 f3
      subst f1 f3 eaW
      obtain ⟨csW, tW, frW, hcW, hlW⟩ := hSW.load hjN
      obtain ⟨hnW, hbW⟩ := hSW.len hjN
      obtain ⟨csN, hcN, hszN, -⟩ := id HN.out
      have hstN : ∀ raw w', stRow raw 128 (j * 128) gn (IV .u8 (lookS N S j)) w' (some (.cells csN 47 (0, 0))) = .ok () (w'.setRow gn (splice csN (j * 128) (IV .u8 (lookS N S j)))) := fun raw w' => stRow_part (by omega) (by simp [hnW]) (by simp)
      have hj0 : (0 : Int) ≤ (j : Int) := Int.natCast_nonneg _
      have hj1 : (j : Int) < (N : Int) := by omega
      have HNEW : Hid (WSecs (wr.drew.setRow gn (splice csN (j * 128) (IV .u8 (lookS N S j)))) gn N cn (cutS S (lookS N S) (R.xs.take (i + 1)))) := Lib.hid (by
       rw [← cutS_take hLk]
       exact WSecs.store (w := wr.drew) HN.out hcN hjN hnW hbW)
      have HFn : Hid (Fr [] w9 (wr.drew.setRow gn (splice csN (j * 128) (IV .u8 (lookS N S j))))) := Lib.hid (((fr_drew (HFx.out.mono (ex' := [gn]) (by simp))).trans (fr_setRow wr.drew gn (splice csN (j * 128) (IV .u8 (lookS N S j))))).past (fun q hq => .inr (by have := HGN.out; simp at hq; omega)))
      clear hbW hszN hnW hLk hj hW hSW
      go_wp2_with fail
      go_region
      go_wp2_with fail
      go_roundw
      case rel => exact ⟨i + 1, by go_num, by omega, HFn, HNEW⟩
      case measure => (show k - (i + 1) < k - i); omega
     ·obtain rfl : i = k := by omega
      have HNk := HN
      rw [HRX.out] at HNk
      have HKx := Lib.hid (HK9.out.fr HFx.out (by simp) (by simp))
      clear hi hin
      go_wp2_with fail
      refine (image_any HKx.out (by omega)).mono ?_; rintro e w11 ⟨gj, rfl, hwj, hb11, hgj⟩
      have HN11 := Lib.hid (HNk.out.same (hat_below hb11 HNk.out.lt))
      have HF11 := Lib.hid (fr_below hb11 [])
      have HJ := Lib.hid hwj
      clear hwj hb11
      go_wp2_with fail
      refine (same_yes (img0_of HJ.out) (img0_of HN11.out) (by omega) (fun j hj => rfl)).mono ?_; rintro e w12 ⟨rfl, hf12⟩
      have HF12 := Lib.hid (HF11.out.trans hf12)
      have HK12 := Lib.hid (HKx.out.fr HF12.out (by simp) (by simp))
      clear hf12
      go_wp2_with fail
      refine (restart_any HK12.out).mono ?_; rintro e w13 ⟨rfl, hdk, hf⟩
      have HF13 := Lib.hid ((HF12.out.mono (ex' := [gc, gt]) (by simp)).trans (hf.mono (by simp)))
      have HK13 := Lib.hid hdk
      clear hdk hf HK12
      go_wp2_with fail
      refine (run_any HK13.out ⟨by show (0 : Int) ≤ (i : Int); omega, by show (i : Int) ≤ _; omega, by show (0 : Int) ≤ 0; omega, by show (0 : Int) ≤ _; omega⟩ (by show (i : Int) ≤ _; omega) (by omega)).mono ?_; rintro e wp2 ⟨P, hPP⟩
      obtain ⟨p0, q0, p1, q1, p2, q2, p3, q3, hv, hh⟩ := hPP.hold
      obtain rfl := hPP.e
      have HAG := Lib.hid (each_again HSL.out HE.out i)
      rw [hv, HAG.out.1]
      have hpx : P.xs = R.xs.drop i := by rw [(hPP.y HAG.out.1).x, HRX.out]; exact HAG.out.2.1
      have HPX := Lib.hid hpx
      have HKp := Lib.hid hh.k
      have HGp := Lib.hid hh.g
      have HQp := Lib.hid hh.s1
      have HP14 := Lib.hid (HF.out.trans (((HF9.out.trans (HFx.out.mono (by simp))).trans (HF13.out.trans hh.f)).past (ex' := []) (fun q hq => .inr (by have := HGC.out; simp at hq; omega))))
      clear hv hh hPP hpx HF9 HFx HF13 HK13 HN11 HJ HF11 HF12 HN HNk HKx HK9 HWN HAP HF10 HW9 HP9 HPx HER
      go_upto_region 25 with fail
      generalize wp2.alloc (.cells #[.slice p0 P.N q0, .slice p1 P.xs.length q1, .slice p2 P.ys.length q2, .slice p3 P.zs.length q3] 34) = w14 at *
      generalize wp2.heap.size = gP at *
      obtain ⟨g2, f2, cc1, cs1, s1, -, -, -⟩ := HS1.out.cell (k := i) (by omega)
      injection s1 with s1 s2 s3
      subst s1 s3
      clear s2
      have HEND := Lib.hid (show Fr [] w6 w14.drew from fr_drew HP14.out)
      have HQ2 := Lib.hid ((HS1.out.fr HEND.out (by simp)).dropS (k := i) (by omega))
      have HQ1 := Lib.hid ((show ∀ ys, P.xs = ys → QRow w14.drew (.slice p1 P.xs.length q1) P.o1 ys from fun ys e => by subst e; exact HQp.out.fr (fr_drew (Fr.refl [] w14)) (by simp)) _ HPX.out)
      have HA2 := Lib.hid (HA0.out.fr HEND.out (by simp))
      have HK14 := Lib.hid (HKp.out.fr (fr_drew (Fr.refl [] w14)) (by simp) (by simp))
      have x1 : hat w14.drew gr = some (.cells #[.slice a0 N c0, .slice (some ⟨g2, f2, none⟩) R.xs.length c1, .slice a2 R.ys.length c2, .slice a3 R.zs.length c3] 34) := (HEND.out.block gr (hat_lt HG6.out) (by simp)).trans HG6.out
      have x2 : hat w14.drew gP = some (.cells #[.slice p0 P.N q0, .slice p1 P.xs.length q1, .slice p2 P.ys.length q2, .slice p3 P.zs.length q3] 34) := HGp.out
      have hcap : R.xs.length ≤ c1 := by
       rcases HS1.out with ⟨h, -⟩ | ⟨g', off', c', cs, e, h1, h2, h3, h4, h5⟩
       ·cases h
       ·injection e with e1 e2 e3
        subst e3
        exact h3
      have hck2 : (c1 : Int) - (i : Int) ≠ 0 := by omega
      have hci : ¬ c1 = i := by omega
      have hkL : (i : Int) ≤ (R.xs.length : Int) := by omega
      have hkC : (i : Int) ≤ (c1 : Int) := by omega
      have hlD : (R.xs.drop i).length ≤ 100000 := by rw [List.length_drop]; omega
      have HEQ : Hid (∀ j, j < N → (runD N (restD (eachD N S i))).2.S j = lookS N S j) := Lib.hid HAG.out.2.2
      have hN9 : N ≤ 100000 := by omega
      have hN4 : N ≤ 4096 := by omega
      have noq : ∀ {o : Option Nat} (g : Nat), o = some g → g ∉ ([] : List Nat) := fun _ _ => List.not_mem_nil
      have nin : ∀ g : Nat, g ∉ ([] : List Nat) := fun _ => List.not_mem_nil
      have z1 := hat_lt x1
      have z2 := hat_lt x2
      generalize (runD N (restD (eachD N S i))).2 = d2 at *
      go_region_held3 (fun w' => hat w' gr = some (.cells #[.slice a0 N c0, .slice (some ⟨g2, f2, none⟩) R.xs.length c1, .slice a2 R.ys.length c2, .slice a3 R.zs.length c3] 34) ∧ hat w' gP = some (.cells #[.slice p0 P.N q0, .slice p1 P.xs.length q1, .slice p2 P.ys.length q2, .slice p3 P.zs.length q3] 34)) (first | assumption | (refine ⟨?_, ?_⟩ <;> assumption))
       (first
        | (with_reducible refine (ints_yes HQ1.out HQ2.out hlD).mono ?_; rintro e wU ⟨rfl, hfU⟩; have u1 := (hfU.block gr (hat_lt x1) (nin _)).trans x1; have u2 := (hfU.block gP (hat_lt x2) (nin _)).trans x2; have HXU := Lib.hid hfU)
        | (with_reducible refine (image_any (HK14.out.fr HXU.out (nin _) (nin _)) hN4).mono ?_; rintro e wI ⟨gj, rfl, hwj, hbI, hgj⟩; have i1 := (hop hbI u1).1; have i2 := (hop hbI u2).1; have HXI := Lib.hid (HXU.out.trans (fr_below hbI [])); have HWI := Lib.hid hwj)
        | (with_reducible refine (same_yes (img0_of HWI.out) (HA2.out.fr HXI.out noq).img hN9 HEQ.out).mono ?_; rintro e wT ⟨rfl, hfT⟩; have t1 := (hfT.block gr (hat_lt i1) (nin _)).trans i1; have t2 := (hfT.block gP (hat_lt i2) (nin _)).trans i2; have HXT := Lib.hid (HXI.out.trans hfT))
        | fail)
      all_goals
       go_wp2_with fail
       go_roundw
       case rel => exact ⟨i + 1, by go_num, by omega, by omega, Lib.hid (HEND.out.trans HXT.out)⟩
       case measure => (show R.xs.length - (i + 1) < R.xs.length - i); omega
   ·have HWR : Hid (∀ wX, DK wX gd gs N (runD N (imgD S)).2 → Calls Tryz.prog 15 #[.pointer (some ⟨gd, 0, none⟩)] wX fun e w' => e = .returned (.int .i64 (R.xs.length : Int)) ∧ w' = wX) := Lib.hid (fun wX hX => by
     have := writes_any hX
     rw [HCNT.out] at this
     exact this)
    have HKe := Lib.hid (HK6.out.fr (fr_drew HF.out) (by simp) (by simp))
    have HFIN := Lib.hid (HF6.out.trans ((fr_drew HF.out).mono (ex' := [gd, gs]) (by simp)))
    have hz : R.xs.length ≤ k ∨ (k < R.xs.length ∧ 20 ≤ k) := by omega
    have x1 : hat wr.drew gr = some (.cells #[.slice a0 N c0, .slice a1 R.xs.length c1, .slice a2 R.ys.length c2, .slice a3 R.zs.length c3] 34) := hgr
    clear hkN
    rcases hz with hz1 | hz1
    ·have d1 : decide ((k : Int) < (R.xs.length : Int)) = false := decide_eq_false (by omega)
     go_wp2_with fail
     go_region_held3 (fun w' => hat w' gr = some (.cells #[.slice a0 N c0, .slice a1 R.xs.length c1, .slice a2 R.ys.length c2, .slice a3 R.zs.length c3] 34)) (assumption)
      (first
       | (with_reducible refine (HWR.out _ HKe.out).mono ?_; rintro e wW ⟨rfl, rfl⟩)
       | fail)
     all_goals
      go_wp2_with fail
      go_ret
      exact ⟨rfl, HFIN.out.below (Nat.le_refl _) (fun k hk => by
       have h1 := HGD.out
       have h3 := HZ3.out
       simp at hk; omega)⟩
    ·have d1 : decide ((k : Int) < (R.xs.length : Int)) = true := decide_eq_true (by omega)
     have d2 : decide ((k : Int) < 20) = false := decide_eq_false (by omega)
     go_wp2_with fail
     go_region_held3 (fun w' => hat w' gr = some (.cells #[.slice a0 N c0, .slice a1 R.xs.length c1, .slice a2 R.ys.length c2, .slice a3 R.zs.length c3] 34)) (assumption)
      (first
       | (with_reducible refine (HWR.out _ HKe.out).mono ?_; rintro e wW ⟨rfl, rfl⟩)
       | fail)
     all_goals
      go_wp2_with fail
      go_ret
      exact ⟨rfl, HFIN.out.below (Nat.le_refl _) (fun k hk => by
       have h1 := HGD.out
       have h3 := HZ3.out
       simp at hk; omega)⟩
 ·have hnil := Nil.lens (HRY.out.2 (by rw [run_fst]; exact he))
  have hrb := run_bad (N := N) (d := imgD S) rfl he
  have hK := HK6.out
  rw [hrb] at hK
  rw [hnil.2.1] at hg6
  have HK6 := Lib.hid hK
  have hor := lookE_or he
  have hc0 : (imgD S).cnt = 0 := rfl
  clear hK hrb hnil HRY
  rcases hor with hor | hor
  all_goals
   rw [hor]
   go_wp2_with fail
   refine (writes_any HK6.out).mono ?_; rintro e w7 ⟨rfl, rfl⟩
   rw [hc0]
   go_wp2_with fail
   refine (image_any HK6.out (by omega)).mono ?_; rintro e w8 ⟨gj, rfl, hwj, hb8, hgj⟩
   have HW8 := Lib.hid (HW6.out.same (hat_below hb8 HW6.out.lt))
   have HJ := Lib.hid hwj
   have HF8 := Lib.hid (HF6.out.trans (fr_below hb8 _))
   clear hwj hb8
   go_wp2_with fail
   refine (same_yes (img0_of HJ.out) (img0_of HW8.out) (by omega) (fun j hj => rfl)).mono ?_; rintro e w9 ⟨rfl, hf9⟩
   have HF9 := Lib.hid (HF8.out.trans (hf9.mono (by simp)))
   clear hf9
   go_wp2_with fail
   go_ret
   exact ⟨rfl, HF9.out.below (Nat.le_refl _) (fun k hk => by
    have h1 := HGD.out
    have h3 := HZ3.out
    simp at hk; omega)⟩
end Go.Proofs.YtmnecpnkkapflaaGreat
