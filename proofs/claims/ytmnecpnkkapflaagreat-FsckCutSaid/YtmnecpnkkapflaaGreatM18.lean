import Derived.Test.YtmnecpnkkapflaaGreatM13
import Derived.Test.YtmnecpnkkapflaaGreatM17
namespace Go.Proofs.YtmnecpnkkapflaaGreat
set_option maxHeartbeats 16000000
set_option maxRecDepth 1000000
set_option linter.unusedSimpArgs false
set_option linter.unusedVariables false
open Go.RowKit
theorem fsckCut_any {v u : Value} {sec : Int} {sp : List Spot} {l : List Int} {w : World} (h : Pic w v sec sp) (hl : NRow w u l) : Calls Tryz.prog 9 #[v, u] w fun e w' => e = .returned (.bool true) ∧ Below w.heap.size w w' := by
 have H := Lib.hid h
 have HL := Lib.hid hl
 obtain ⟨-, a, c, rfl, -⟩ := h
 obtain ⟨al, cl, rfl, hll, -⟩ := hl
 have hf0 := fr_new w (.cells #[.int .i64 sec, .slice a sp.length c] 25) []
 have hg0 := (hopN w (.cells #[.int .i64 sec, .slice a sp.length c] 25)).1
 have HF0 := Lib.hid hf0
 clear hf0
 go_enter Tryz.func9, Tryz.ntmps9
 go_wp2_with fail
 generalize w.alloc (.cells #[.int .i64 sec, .slice a sp.length c] 25) = w0 at *
 refine (image_pic (H.out.fr HF0.out)).mono ?_; rintro e w3 ⟨gi, rfl, hws, hb3, hgi⟩
 have hP := picN_small sec
 have HF3 := Lib.hid (HF0.out.trans (fr_below hb3 []))
 have HW := Lib.hid hws
 generalize picN sec = N at *
 generalize picS sec sp = S at *
 have HSL := Lib.hid (fun j hj => hws.secs.len (i := j) hj)
 have HZ3 := Lib.hid HF3.out.size
 clear hws hb3 hg0
 go_wp2_with fail
 refine (from_any (img0_of HW.out) hP.1 (by omega)).mono ?_; rintro e w4 ⟨gd, gs, rfl, hdk, hb4, hd1, hd2⟩
 have HF4 := Lib.hid (HF3.out.trans (fr_below hb4 []))
 have HW4 := Lib.hid (HW.out.same (hat_below hb4 HW.out.lt))
 have HD4 := Lib.hid hdk
 have HGD := Lib.hid (show w3.heap.size ≤ gd ∧ w3.heap.size ≤ gs ∧ gd < w4.heap.size ∧ gs < w4.heap.size from ⟨hd1, hd2, hat_lt hdk.hd, hdk.hs.lt⟩)
 clear hdk hb4 hd1 hd2
 go_wp2_with fail
 refine (from_any (img0_of HW4.out) hP.1 (by omega)).mono ?_; rintro e w5 ⟨gc, gt, rfl, hdk, hb5, hd1, hd2⟩
 have HF5 := Lib.hid (HF4.out.trans (fr_below hb5 []))
 have HC5 := Lib.hid hdk
 have HD5 := Lib.hid (HD4.out.fr (fr_below hb5 []) (by simp) (by simp))
 have HGC := Lib.hid (show w3.heap.size ≤ gc ∧ w3.heap.size ≤ gt ∧ gc < w5.heap.size ∧ gt < w5.heap.size from ⟨by have := HGD.out; omega, by have := HGD.out; omega, hat_lt hdk.hd, hdk.hs.lt⟩)
 have HNE := Lib.hid (show gc ≠ gd ∧ gc ≠ gs ∧ gt ≠ gd ∧ gt ≠ gs by have := HGD.out; omega)
 clear hdk hb5 hd1 hd2 HD4 HF4 HW4 HF3 HW
 go_wp2_with fail
 refine (known13_true _).mono ?_; rintro e w6 ⟨rfl, hb6⟩
 have HF6 := Lib.hid (HF5.out.trans (fr_below hb6 []))
 have HD6 := Lib.hid (HD5.out.fr (fr_below hb6 []) (by simp) (by simp))
 have HC6 := Lib.hid (HC5.out.fr (fr_below hb6 []) (by simp) (by simp))
 have HZ6 := Lib.hid hb6.size
 clear hb6 HF5 HD5 HC5
 go_wp2_with fail
 refine (run_any HD6.out (img_ok S) (by simp [imgD]) (by omega)).mono ?_; rintro e wq ⟨R, hR⟩
 obtain ⟨a0, c0, a1, c1, a2, c2, a3, c3, hv, hh⟩ := hR.hold
 obtain rfl := hR.e
 rw [hv]
 have HRY := Lib.hid hR.y
 have HN1 := Lib.hid hR.r.n1
 have HN2 := Lib.hid (show _ ∧ _ from ⟨hR.r.n2, hR.r.n3⟩)
 have HH := Lib.hid hh
 have hxl : (lookX N S).length ≤ 4900 := by
  by_cases he : lookE N S = 0
  ·have h1 := HRY.out (by rw [run_fst]; exact he)
   have h2 := HN1.out
   rw [h1.x] at h2
   exact h2
  ·unfold lookX
   rw [if_neg he]
   simp
 have HXL := Lib.hid hxl
 have HFST := Lib.hid (run_fst N S)
 rw [HFST.out]
 have hE22 : ¬ ((22 : Int) = lookE N S) := by
  by_cases he : lookE N S = 0
  ·rw [he]; decide
  ·rcases lookE_or he with e | e <;> rw [e] <;> decide
 have HX1 : Hid (gd ∉ [gc, gt] ∧ gs ∉ [gc, gt]) := Lib.hid (by have := HNE.out; simp; omega)
 clear hR hv hh hxl
 have hg := HH.out.g
 have hgl := hat_lt hg
 have hnd := HH.out.nd
 have HK7 := Lib.hid HH.out.k
 have HC7 := Lib.hid (HC6.out.fr HH.out.f (by simp; exact ⟨HNE.out.1, HNE.out.2.1⟩) (by simp; exact ⟨HNE.out.2.2.1, HNE.out.2.2.2⟩))
 have HF7 := Lib.hid ((HF6.out.mono (ex' := [gd, gs]) (by simp)).trans HH.out.f)
 have HZ7 := Lib.hid HH.out.z
 have HS0 := Lib.hid HH.out.s0
 have HQ2 := Lib.hid HH.out.s2
 have HQ3 := Lib.hid HH.out.s3
 have HO := Lib.hid HH.out.o
 clear HH HN1
 go_upto_region 7 with fail
 generalize wq.alloc (.cells #[.slice a0 R.N c0, .slice a1 R.xs.length c1, .slice a2 R.ys.length c2, .slice a3 R.zs.length c3] 34) = w7 at *
 generalize wq.heap.size = gr at *
 have hgr : Hid (gr ≠ gd ∧ gr ≠ gs ∧ gr ≠ gc ∧ gr ≠ gt) := Lib.hid ⟨hnd.1, hnd.2, by have := HGC.out; have := HZ7.out; have := HZ6.out; omega, by have := HGC.out; have := HZ7.out; have := HZ6.out; omega⟩
 clear hnd hgl
 have HG7 := Lib.hid hg
 have HF7 := Lib.hid (HF7.out.mono (ex' := [gd, gs, gc, gt]) (by simp))
 clear hg
 go_wp2_with fail
 go_loopw [12] (fun v wr => ∃ k : Nat, v = .int .i64 k ∧ k ≤ l.length ∧ k ≤ 20 ∧ ∃ dk : DS, Hid (DK wr gc gt N dk) ∧ Hid (CutSt N S dk) ∧ Hid (Fr [gc, gt] w7 wr)) (fun v wr => l.length - (intOf v).toNat)
 case atStart => exact ⟨0, rfl, Nat.zero_le _, by omega, imgD S, HC7, Lib.hid (cutSt_img N S), Lib.hid (Fr.refl _ _)⟩
 case round =>
  obtain ⟨k, rfl, hk, hk20, dk, HD, HC, HF⟩ := hrel
  have hk0 : (0 : Int) ≤ (k : Int) := Int.natCast_nonneg _
  by_cases hkN : k < l.length ∧ k < 20
  ·have hk1 : (k : Int) < (l.length : Int) := by omega
   have hk2 : decide ((k : Int) < 20) = true := decide_eq_true (by omega)
   have HFw : Hid (Fr [] w wr) := Lib.hid ((HF7.out.trans (HF.out.mono (ex' := [gd, gs, gc, gt]) (by simp))).past (fun k hk => .inr (by
    have h1 := HGD.out
    have h2 := HGC.out
    have h3 := HZ3.out
    simp at hk; omega)))
   obtain ⟨gl, ol, csl, tl, frl, x, eal, hgl, hxl, hx⟩ := (HL.out.fr HFw.out).cell hkN.1
   subst eal
   have hll2 := hat_lt hgl
   have HX := Lib.hid hx
   clear hx
   go_wp2_with fail
   refine (pick_is x 6 HX.out.1 HX.out.2 (by omega) (by omega) wr).mono ?_; rintro e w8 ⟨rfl, rfl⟩
   have hp6 := pickN_lt x (n := 6) (by omega)
   generalize pickN x 6 = n at *
   clear hgl hxl hll2
   go_wp2_with fail
   refine (arm_any HD.out (n := n) (by omega)).mono ?_; rintro e w9 ⟨-, hx2⟩
   obtain ⟨rfl, hdk, hf⟩ := hx2 HC.out.o
   have HD9 := Lib.hid hdk
   have HF9 := Lib.hid (HF.out.trans (hf.mono (by simp)))
   clear hx2 hdk hf
   go_wp2_with fail
   refine (run_any HD9.out ⟨HC.out.c.1, by have h1 := HC.out.c.2; have h2 := HXL.out; show dk.cnt ≤ _; omega, by show (0 : Int) ≤ (n : Int); omega, by show (n : Int) ≤ _; omega⟩ (by have h1 := HC.out.c.2; have h2 := HXL.out; show dk.cnt ≤ _; omega) (by omega)).mono ?_; rintro e wp ⟨Q, hQ⟩
   obtain ⟨b0, e0, b1, e1, b2, e2, b3, e3, hv, hh⟩ := hQ.hold
   obtain rfl := hQ.e
   rw [hv]
   have HST := HC.out.step HSL.out n
   have HDp := hh.k
   have HFp := Lib.hid (HF9.out.trans hh.f)
   clear hQ hv hh
   generalize runD N (armD n dk) = rr at *
   obtain ⟨h9, d9⟩ := rr
   have HDp := Lib.hid HDp
   simp only at HST
   obtain ⟨hor, hst⟩ := HST
   have HST := Lib.hid hst
   clear hst
   simp only
   go_upto_region 12 with fail
   generalize wp.alloc (.cells #[.slice b0 Q.N e0, .slice b1 Q.xs.length e1, .slice b2 Q.ys.length e2, .slice b3 Q.zs.length e3] 34) = wA at *
   generalize wp.heap.size = gq at *
   rcases hor with rfl | rfl
   all_goals
    go_wp2_with fail
    refine (restart_any HDp.out).mono ?_; rintro e wz ⟨rfl, hdk, hf⟩
    have HDz := Lib.hid hdk
    have HFz := Lib.hid (HFp.out.trans (hf.mono (by simp)))
    clear hdk hf
    go_wp2_with fail
    go_roundw
    case rel => exact ⟨k + 1, by go_num, by omega, by omega, restD d9, HDz, HST, HFz⟩
    case measure => (show l.length - (k + 1) < l.length - k); omega
  ·have hz : Hid (l.length ≤ k ∨ (k < l.length ∧ 20 ≤ k)) := Lib.hid (by omega)
   clear hkN
   have HG8 := Lib.hid ((HF.out.block gr (hat_lt HG7.out) (by simp; exact ⟨hgr.out.2.2.1, hgr.out.2.2.2⟩)).trans HG7.out)
   have HK8 := Lib.hid (HK7.out.fr HF.out HX1.out.1 HX1.out.2)
   have hqk : 0 ≤ dk.cnt ∧ dk.cnt ≤ 4900 := by have h1 := HC.out.c; have h2 := HXL.out; omega
   have HQK : Hid (DOk dk ∧ dk.cnt ≤ 900000000000) := Lib.hid ⟨⟨hqk.1, by omega, by rw [HC.out.l]; omega, by rw [HC.out.l]; omega⟩, by omega⟩
   have HFIN := Lib.hid (HC.out.fin HSL.out)
   have HHC := Lib.hid hqk
   clear hqk
   rcases hz.out with hz1 | hz1
   ·have d1 : decide ((k : Int) < (l.length : Int)) = false := decide_eq_false (by omega)
    go_wp2_with fail
    refine (run_any HD.out HQK.out.1 HQK.out.2 (by omega)).mono ?_; rintro e wp ⟨Q, hQ⟩
    obtain ⟨b0, e0, b1, e1, b2, e2, b3, e3, hv, hh⟩ := hQ.hold
    obtain rfl := hQ.e
    rw [hv, HFIN.out.1]
    have HQY := Lib.hid hQ.y
    have HH2 := Lib.hid hh
    clear hQ hv hh
    have hg9 := HH2.out.g
    have hr9 := (HH2.out.f.block gr (hat_lt HG8.out) (by simp; exact ⟨hgr.out.2.2.1, hgr.out.2.2.2⟩)).trans HG8.out
    have HKc := Lib.hid HH2.out.k
    have HKd := Lib.hid (HK8.out.fr HH2.out.f HX1.out.1 HX1.out.2)
    have HF9 := Lib.hid (HF7.out.trans ((HF.out.trans HH2.out.f).mono (ex' := [gd, gs, gc, gt]) (by simp)))
    have HFq := Lib.hid (HF.out.trans HH2.out.f)
    have HQS := Lib.hid HH2.out.s0
    have HQ29 := Lib.hid HH2.out.s2
    have HQ39 := Lib.hid HH2.out.s3
    have hgq : wp.heap.size ≠ gr := by have := hat_lt HG8.out; have := HH2.out.z; omega
    clear HH2
    go_upto_region 16 with fail
    generalize wp.alloc (.cells #[.slice b0 Q.N e0, .slice b1 Q.xs.length e1, .slice b2 Q.ys.length e2, .slice b3 Q.zs.length e3] 34) = w9 at *
    generalize wp.heap.size = gq at *
    have HR9 := Lib.hid hr9
    have HG9 := Lib.hid hg9
    clear hr9 hg9
    go_wp2_with fail
    refine (image_any HKc.out (by omega)).mono ?_; rintro e wA ⟨gj, rfl, hwj, hbA, hgj⟩
    have HJ := Lib.hid hwj
    have HFa := Lib.hid (fr_below hbA [])
    clear hwj hbA
    go_wp2_with fail
    refine (image_any (HKd.out.fr HFa.out (by simp) (by simp)) (by omega)).mono ?_; rintro e wB ⟨gk, rfl, hwk, hbB, hgk⟩
    have HK := Lib.hid hwk
    have HJ2 := Lib.hid (HJ.out.same (hat_below hbB HJ.out.lt))
    have HFb := Lib.hid (HFa.out.trans (fr_below hbB []))
    clear hwk hbB
    go_wp2_with fail
    refine (same_yes (img0_of HJ2.out) (img0_of HK.out) (by omega) (fun j hj => by rw [HFIN.out.2.1])).mono ?_; rintro e wC ⟨rfl, hfC⟩
    have HFc := Lib.hid (HFb.out.trans hfC)
    clear hfC
    go_wp2_with fail
    refine (writes_any (HKc.out.fr HFc.out (by simp) (by simp))).mono ?_; rintro e wD ⟨rfl, rfl⟩
    rw [HFIN.out.2.2.1]
    go_wp2_with fail
    refine (writes_any (HKd.out.fr HFc.out (by simp) (by simp))).mono ?_; rintro e wE ⟨rfl, rfl⟩
    have HF10 := Lib.hid (HF9.out.trans (HFc.out.mono (by simp)))
    by_cases he : lookE N S = 0
    ·have HE := Lib.hid he
     have HRL := Lib.hid (HRY.out (by rw [HFST.out]; exact he))
     have HQL := Lib.hid (HQY.out (by rw [HFIN.out.1]; exact he))
     have hrn : R.N = N := by rw [HRL.out.n]; show lookN N S = N; unfold lookN; rw [if_pos he]
     have hqn : Q.N = N := by rw [HQL.out.n]; unfold lookN; rw [if_pos (HFIN.out.2.2.2 he).1]
     have hy : Q.ys = R.ys := by rw [HQL.out.y, HRL.out.y]; exact (HFIN.out.2.2.2 he).2.2.1
     have hz : Q.zs = R.zs := by rw [HQL.out.z, HRL.out.z]; exact (HFIN.out.2.2.2 he).2.2.2
     have hr11 := (HFc.out.block gr (hat_lt HR9.out) (by simp)).trans HR9.out
     have hg11 := (HFc.out.block gq (hat_lt HG9.out) (by simp)).trans HG9.out
     rw [hrn] at hr11
     rw [hqn, hy, hz] at hg11
     have hdis : ∀ g ∈ R.os, g ∉ [gc, gt] := fun g hg => by
      have h1 := HO.out g hg
      have h2 := HGC.out
      have h3 := HZ6.out
      simp; omega
     have hX0 : Fr [] w9 wE.drew := fr_drew HFc.out
     have HA2 : Hid (SecR wE.drew (.slice a0 N c0) R.o0 N (lookS N S)) := Lib.hid (by
      have h1 := (HS0.out.fr HFq.out (fun g hg => hdis g (RP.mem_os.2 (.inl hg)))).fr hX0 (by simp)
      rw [hrn] at h1
      have h2 : R.S = lookS N S := HRL.out.s
      rw [h2] at h1
      exact h1)
     have HA1 : Hid (SecR wE.drew (.slice b0 N e0) Q.o0 N (lookS N S)) := Lib.hid (by
      have h1 := HQS.out.fr hX0 (by simp)
      rw [hqn] at h1
      have h2 : Q.S = lookS N S := HQL.out.s.trans (HFIN.out.2.2.2 he).2.1
      rw [h2] at h1
      exact h1)
     have HB2 := Lib.hid ((HQ2.out.fr HFq.out (fun g hg => hdis g (RP.mem_os.2 (.inr (.inr (.inl hg)))))).fr hX0 (by simp))
     have HB3 := Lib.hid ((HQ3.out.fr HFq.out (fun g hg => hdis g (RP.mem_os.2 (.inr (.inr (.inr hg)))))).fr hX0 (by simp))
     have hb4 := HQ29.out.fr hX0 (by simp)
     have hb5 := HQ39.out.fr hX0 (by simp)
     rw [hy] at hb4
     rw [hz] at hb5
     have HB4 := Lib.hid hb4
     have HB5 := Lib.hid hb5
     have HKe := Lib.hid (HKd.out.fr hX0 (by simp) (by simp))
     have HEQ2 : Hid (∀ j, j < N → lookS N S j = (runD N (imgD S)).2.S j) := Lib.hid (fun j hj => by
      rw [run_fresh (d := imgD S) rfl rfl he]
      exact (cut_all he hj).symm)
     have x1 : hat wE.drew gr = some (.cells #[.slice a0 N c0, .slice a1 R.xs.length c1, .slice a2 R.ys.length c2, .slice a3 R.zs.length c3] 34) := hr11
     have x2 : hat wE.drew gq = some (.cells #[.slice b0 N e0, .slice b1 Q.xs.length e1, .slice b2 R.ys.length e2, .slice b3 R.zs.length e3] 34) := hg11
     have hN9 : N ≤ 100000 := by omega
     have hN4 : N ≤ 4096 := by omega
     have hly : R.ys.length ≤ 100000 := by have := HN2.out.1; omega
     have hlz : R.zs.length ≤ 100000 := by have := HN2.out.2; omega
     have noq : ∀ {o : Option Nat} (g : Nat), o = some g → g ∉ ([] : List Nat) := fun _ _ => List.not_mem_nil
     have nin : ∀ g : Nat, g ∉ ([] : List Nat) := fun _ => List.not_mem_nil
     have HX := Lib.hid (HF9.out.trans (hX0.mono (ex' := [gd, gs, gc, gt]) (by simp)))
     have z1 := hat_lt x1
     have z2 := hat_lt x2
     clear hr11 hg11 hX0 hdis hb4 hb5 hrn hqn hy hz
     rw [he]
     generalize (runD N (imgD S)).2 = d1 at *
     clear he
     go_upto_region 18 with fail
     go_region_held3 (fun w' => hat w' gr = some (.cells #[.slice a0 N c0, .slice a1 R.xs.length c1, .slice a2 R.ys.length c2, .slice a3 R.zs.length c3] 34) ∧ hat w' gq = some (.cells #[.slice b0 N e0, .slice b1 Q.xs.length e1, .slice b2 R.ys.length e2, .slice b3 R.zs.length e3] 34)) (first | assumption | (refine ⟨?_, ?_⟩ <;> assumption))
      (first
       | (with_reducible refine (image_any HKe.out hN4).mono ?_; rintro e wI ⟨gj, rfl, hwj, hbI, hgj⟩; have i1 := (hop hbI x1).1; have i2 := (hop hbI x2).1; have HXI := Lib.hid (fr_below hbI []); have HWI := Lib.hid hwj)
       | (with_reducible refine (same_yes (HA2.out.fr HXI.out noq).img (img0_of HWI.out) hN9 HEQ2.out).mono ?_; rintro e wT ⟨rfl, hfT⟩; have t1 := (hfT.block gr (hat_lt i1) (nin _)).trans i1; have t2 := (hfT.block gq (hat_lt i2) (nin _)).trans i2; have HXT := Lib.hid (HXI.out.trans hfT))
       | (with_reducible refine (same_yes (HA1.out.fr HXT.out noq).img (HA2.out.fr HXT.out noq).img hN9 (fun _ _ => rfl)).mono ?_; rintro e wS ⟨rfl, hfS⟩; have s1 := (hfS.block gr (hat_lt t1) (nin _)).trans t1; have s2 := (hfS.block gq (hat_lt t2) (nin _)).trans t2; have HXS := Lib.hid (HXT.out.trans hfS))
       | (with_reducible refine (ints_yes (HB4.out.fr HXS.out noq) (HB2.out.fr HXS.out noq) hly).mono ?_; rintro e wU ⟨rfl, hfU⟩; have u1 := (hfU.block gr (hat_lt s1) (nin _)).trans s1; have u2 := (hfU.block gq (hat_lt s2) (nin _)).trans s2; have HXU := Lib.hid (HXS.out.trans hfU))
       | (with_reducible refine (ints_yes (HB5.out.fr HXU.out noq) (HB3.out.fr HXU.out noq) hlz).mono ?_; rintro e wV ⟨rfl, hfV⟩; have v1 := (hfV.block gr (hat_lt u1) (nin _)).trans u1; have v2 := (hfV.block gq (hat_lt u2) (nin _)).trans u2; have HXV := Lib.hid (HXU.out.trans hfV))
       | fail)
     all_goals
      go_wp2_with fail
      go_ret
      exact ⟨rfl, (HX.out.trans (HXV.out.mono (by simp))).below (Nat.le_refl _) (fun k hk => by
       have h1 := HGD.out
       have h2 := HGC.out
       have h3 := HZ3.out
       simp at hk; omega)⟩
    ·have hor := lookE_or he
     have HX := Lib.hid (HF9.out.trans ((fr_drew HFc.out).mono (ex' := [gd, gs, gc, gt]) (by simp)))
     clear hE22 he
     generalize lookE N S = E at *
     go_upto_region 18 with fail
     rcases hor with rfl | rfl
     all_goals
      go_region
      go_wp2_with fail
      go_ret
      exact ⟨rfl, HX.out.below (Nat.le_refl _) (fun k hk => by
       have h1 := HGD.out
       have h2 := HGC.out
       have h3 := HZ3.out
       simp at hk; omega)⟩
   ·have d1 : decide ((k : Int) < (l.length : Int)) = true := decide_eq_true (by omega)
    have d2 : decide ((k : Int) < 20) = false := decide_eq_false (by omega)
    go_wp2_with fail
    refine (run_any HD.out HQK.out.1 HQK.out.2 (by omega)).mono ?_; rintro e wp ⟨Q, hQ⟩
    obtain ⟨b0, e0, b1, e1, b2, e2, b3, e3, hv, hh⟩ := hQ.hold
    obtain rfl := hQ.e
    rw [hv, HFIN.out.1]
    have HQY := Lib.hid hQ.y
    have HH2 := Lib.hid hh
    clear hQ hv hh
    have hg9 := HH2.out.g
    have hr9 := (HH2.out.f.block gr (hat_lt HG8.out) (by simp; exact ⟨hgr.out.2.2.1, hgr.out.2.2.2⟩)).trans HG8.out
    have HKc := Lib.hid HH2.out.k
    have HKd := Lib.hid (HK8.out.fr HH2.out.f HX1.out.1 HX1.out.2)
    have HF9 := Lib.hid (HF7.out.trans ((HF.out.trans HH2.out.f).mono (ex' := [gd, gs, gc, gt]) (by simp)))
    have HFq := Lib.hid (HF.out.trans HH2.out.f)
    have HQS := Lib.hid HH2.out.s0
    have HQ29 := Lib.hid HH2.out.s2
    have HQ39 := Lib.hid HH2.out.s3
    have hgq : wp.heap.size ≠ gr := by have := hat_lt HG8.out; have := HH2.out.z; omega
    clear HH2
    go_upto_region 16 with fail
    generalize wp.alloc (.cells #[.slice b0 Q.N e0, .slice b1 Q.xs.length e1, .slice b2 Q.ys.length e2, .slice b3 Q.zs.length e3] 34) = w9 at *
    generalize wp.heap.size = gq at *
    have HR9 := Lib.hid hr9
    have HG9 := Lib.hid hg9
    clear hr9 hg9
    go_wp2_with fail
    refine (image_any HKc.out (by omega)).mono ?_; rintro e wA ⟨gj, rfl, hwj, hbA, hgj⟩
    have HJ := Lib.hid hwj
    have HFa := Lib.hid (fr_below hbA [])
    clear hwj hbA
    go_wp2_with fail
    refine (image_any (HKd.out.fr HFa.out (by simp) (by simp)) (by omega)).mono ?_; rintro e wB ⟨gk, rfl, hwk, hbB, hgk⟩
    have HK := Lib.hid hwk
    have HJ2 := Lib.hid (HJ.out.same (hat_below hbB HJ.out.lt))
    have HFb := Lib.hid (HFa.out.trans (fr_below hbB []))
    clear hwk hbB
    go_wp2_with fail
    refine (same_yes (img0_of HJ2.out) (img0_of HK.out) (by omega) (fun j hj => by rw [HFIN.out.2.1])).mono ?_; rintro e wC ⟨rfl, hfC⟩
    have HFc := Lib.hid (HFb.out.trans hfC)
    clear hfC
    go_wp2_with fail
    refine (writes_any (HKc.out.fr HFc.out (by simp) (by simp))).mono ?_; rintro e wD ⟨rfl, rfl⟩
    rw [HFIN.out.2.2.1]
    go_wp2_with fail
    refine (writes_any (HKd.out.fr HFc.out (by simp) (by simp))).mono ?_; rintro e wE ⟨rfl, rfl⟩
    have HF10 := Lib.hid (HF9.out.trans (HFc.out.mono (by simp)))
    by_cases he : lookE N S = 0
    ·have HE := Lib.hid he
     have HRL := Lib.hid (HRY.out (by rw [HFST.out]; exact he))
     have HQL := Lib.hid (HQY.out (by rw [HFIN.out.1]; exact he))
     have hrn : R.N = N := by rw [HRL.out.n]; show lookN N S = N; unfold lookN; rw [if_pos he]
     have hqn : Q.N = N := by rw [HQL.out.n]; unfold lookN; rw [if_pos (HFIN.out.2.2.2 he).1]
     have hy : Q.ys = R.ys := by rw [HQL.out.y, HRL.out.y]; exact (HFIN.out.2.2.2 he).2.2.1
     have hz : Q.zs = R.zs := by rw [HQL.out.z, HRL.out.z]; exact (HFIN.out.2.2.2 he).2.2.2
     have hr11 := (HFc.out.block gr (hat_lt HR9.out) (by simp)).trans HR9.out
     have hg11 := (HFc.out.block gq (hat_lt HG9.out) (by simp)).trans HG9.out
     rw [hrn] at hr11
     rw [hqn, hy, hz] at hg11
     have hdis : ∀ g ∈ R.os, g ∉ [gc, gt] := fun g hg => by
      have h1 := HO.out g hg
      have h2 := HGC.out
      have h3 := HZ6.out
      simp; omega
     have hX0 : Fr [] w9 wE.drew := fr_drew HFc.out
     have HA2 : Hid (SecR wE.drew (.slice a0 N c0) R.o0 N (lookS N S)) := Lib.hid (by
      have h1 := (HS0.out.fr HFq.out (fun g hg => hdis g (RP.mem_os.2 (.inl hg)))).fr hX0 (by simp)
      rw [hrn] at h1
      have h2 : R.S = lookS N S := HRL.out.s
      rw [h2] at h1
      exact h1)
     have HA1 : Hid (SecR wE.drew (.slice b0 N e0) Q.o0 N (lookS N S)) := Lib.hid (by
      have h1 := HQS.out.fr hX0 (by simp)
      rw [hqn] at h1
      have h2 : Q.S = lookS N S := HQL.out.s.trans (HFIN.out.2.2.2 he).2.1
      rw [h2] at h1
      exact h1)
     have HB2 := Lib.hid ((HQ2.out.fr HFq.out (fun g hg => hdis g (RP.mem_os.2 (.inr (.inr (.inl hg)))))).fr hX0 (by simp))
     have HB3 := Lib.hid ((HQ3.out.fr HFq.out (fun g hg => hdis g (RP.mem_os.2 (.inr (.inr (.inr hg)))))).fr hX0 (by simp))
     have hb4 := HQ29.out.fr hX0 (by simp)
     have hb5 := HQ39.out.fr hX0 (by simp)
     rw [hy] at hb4
     rw [hz] at hb5
     have HB4 := Lib.hid hb4
     have HB5 := Lib.hid hb5
     have HKe := Lib.hid (HKd.out.fr hX0 (by simp) (by simp))
     have HEQ2 : Hid (∀ j, j < N → lookS N S j = (runD N (imgD S)).2.S j) := Lib.hid (fun j hj => by
      rw [run_fresh (d := imgD S) rfl rfl he]
      exact (cut_all he hj).symm)
     have x1 : hat wE.drew gr = some (.cells #[.slice a0 N c0, .slice a1 R.xs.length c1, .slice a2 R.ys.length c2, .slice a3 R.zs.length c3] 34) := hr11
     have x2 : hat wE.drew gq = some (.cells #[.slice b0 N e0, .slice b1 Q.xs.length e1, .slice b2 R.ys.length e2, .slice b3 R.zs.length e3] 34) := hg11
     have hN9 : N ≤ 100000 := by omega
     have hN4 : N ≤ 4096 := by omega
     have hly : R.ys.length ≤ 100000 := by have := HN2.out.1; omega
     have hlz : R.zs.length ≤ 100000 := by have := HN2.out.2; omega
     have noq : ∀ {o : Option Nat} (g : Nat), o = some g → g ∉ ([] : List Nat) := fun _ _ => List.not_mem_nil
     have nin : ∀ g : Nat, g ∉ ([] : List Nat) := fun _ => List.not_mem_nil
     have HX := Lib.hid (HF9.out.trans (hX0.mono (ex' := [gd, gs, gc, gt]) (by simp)))
     have z1 := hat_lt x1
     have z2 := hat_lt x2
     clear hr11 hg11 hX0 hdis hb4 hb5 hrn hqn hy hz
     rw [he]
     generalize (runD N (imgD S)).2 = d1 at *
     clear he
     go_upto_region 18 with fail
     go_region_held3 (fun w' => hat w' gr = some (.cells #[.slice a0 N c0, .slice a1 R.xs.length c1, .slice a2 R.ys.length c2, .slice a3 R.zs.length c3] 34) ∧ hat w' gq = some (.cells #[.slice b0 N e0, .slice b1 Q.xs.length e1, .slice b2 R.ys.length e2, .slice b3 R.zs.length e3] 34)) (first | assumption | (refine ⟨?_, ?_⟩ <;> assumption))
      (first
       | (with_reducible refine (image_any HKe.out hN4).mono ?_; rintro e wI ⟨gj, rfl, hwj, hbI, hgj⟩; have i1 := (hop hbI x1).1; have i2 := (hop hbI x2).1; have HXI := Lib.hid (fr_below hbI []); have HWI := Lib.hid hwj)
       | (with_reducible refine (same_yes (HA2.out.fr HXI.out noq).img (img0_of HWI.out) hN9 HEQ2.out).mono ?_; rintro e wT ⟨rfl, hfT⟩; have t1 := (hfT.block gr (hat_lt i1) (nin _)).trans i1; have t2 := (hfT.block gq (hat_lt i2) (nin _)).trans i2; have HXT := Lib.hid (HXI.out.trans hfT))
       | (with_reducible refine (same_yes (HA1.out.fr HXT.out noq).img (HA2.out.fr HXT.out noq).img hN9 (fun _ _ => rfl)).mono ?_; rintro e wS ⟨rfl, hfS⟩; have s1 := (hfS.block gr (hat_lt t1) (nin _)).trans t1; have s2 := (hfS.block gq (hat_lt t2) (nin _)).trans t2; have HXS := Lib.hid (HXT.out.trans hfS))
       | (with_reducible refine (ints_yes (HB4.out.fr HXS.out noq) (HB2.out.fr HXS.out noq) hly).mono ?_; rintro e wU ⟨rfl, hfU⟩; have u1 := (hfU.block gr (hat_lt s1) (nin _)).trans s1; have u2 := (hfU.block gq (hat_lt s2) (nin _)).trans s2; have HXU := Lib.hid (HXS.out.trans hfU))
       | (with_reducible refine (ints_yes (HB5.out.fr HXU.out noq) (HB3.out.fr HXU.out noq) hlz).mono ?_; rintro e wV ⟨rfl, hfV⟩; have v1 := (hfV.block gr (hat_lt u1) (nin _)).trans u1; have v2 := (hfV.block gq (hat_lt u2) (nin _)).trans u2; have HXV := Lib.hid (HXU.out.trans hfV))
       | fail)
     all_goals
      go_wp2_with fail
      go_ret
      exact ⟨rfl, (HX.out.trans (HXV.out.mono (by simp))).below (Nat.le_refl _) (fun k hk => by
       have h1 := HGD.out
       have h2 := HGC.out
       have h3 := HZ3.out
       simp at hk; omega)⟩
    ·have hor := lookE_or he
     have HX := Lib.hid (HF9.out.trans ((fr_drew HFc.out).mono (ex' := [gd, gs, gc, gt]) (by simp)))
     clear hE22 he
     generalize lookE N S = E at *
     go_upto_region 18 with fail
     rcases hor with rfl | rfl
     all_goals
      go_region
      go_wp2_with fail
      go_ret
      exact ⟨rfl, HX.out.below (Nat.le_refl _) (fun k hk => by
       have h1 := HGD.out
       have h2 := HGC.out
       have h3 := HZ3.out
       simp at hk; omega)⟩
end Go.Proofs.YtmnecpnkkapflaaGreat
