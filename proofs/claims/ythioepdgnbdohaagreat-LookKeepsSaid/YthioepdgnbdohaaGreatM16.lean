/- Contracts and laws that the claim leans on, laid together in the order in which they build. -/
import Derived.Test.YthioepdgnbdohaaGreatM09
import Derived.Test.YthioepdgnbdohaaGreatM13
import Derived.Test.YthioepdgnbdohaaGreatM15

/- Nothing comes from nowhere: the law's walk. -/
namespace Go.Proofs.YthioepdgnbdohaaGreat
set_option linter.unusedSimpArgs false
set_option linter.unusedVariables false
open Go.RowKit

theorem well_yes3 {v : Value} {N : Nat} {S : Nat → List Int} {w : World} (h : WellP N S) (hi : Img0 w v N S) : Calls Tryz.prog 16 #[v] w fun e w' => e = .returned (.bool true) ∧ Below w.heap.size w w' := by
  refine (well_any0 hi).mono ?_
  rintro e w' ⟨b, rfl, hb, hf⟩
  exact ⟨by rw [hb.2 h], hf⟩
theorem lookE_or3 {N : Nat} {S : Nat → List Int} (h : lookE N S ≠ 0) : lookE N S = 120 ∨ lookE N S = 121 := by
  unfold lookE at h ⊢
  split
  · exact .inl rfl
  · split
    · exact .inl rfl
    · split
      · rename_i h1 h2 h3
        rw [if_neg h1, if_neg h2, if_pos h3] at h
        exact absurd rfl h
      · exact .inr rfl
/-- a sector's bytes, cell by cell -/
theorem Secs.bytes {w : World} {g o N : Nat} {S : Nat → List Int} (h : Secs w g o N S) {i : Nat} (hi : i < N) : ∃ cs t fr, hat w g = some (.cells cs t fr) ∧ (∀ raw w', ldRow raw 128 (o + i * 128) w' (some (.cells cs t fr)) = .ok (.agg (IV .u8 (S i))) w') ∧ ∀ k, k < 128 → cs[o + i * 128 + k]? = some (.int .u8 (nth (S i) k)) := by
  obtain ⟨cs, t, fr, h1, h2, h3⟩ := h
  obtain ⟨h4, -, h5⟩ := h3 i hi
  refine ⟨cs, t, fr, h1, fun raw w' => by rw [ldRow_part (by omega), h5], fun k hk => ?_⟩
  have := congrArg (fun a : Array Value => a[k]?) h5
  simp only [Array.getElem?_extract, IV_get?, nth_getElem? (l := S i) (i := k) (by omega)] at this
  rw [if_pos (by omega)] at this
  exact this
theorem ptC_ext {l : List Pt} {k : Nat} {a b c : Int} {cs : Array Value} (h : l[k]? = some (a, b, c)) (hall : ∀ (j : Nat) (u : Value), (ptC l)[j]? = some u → cs[j]? = some u) : cs[k * 3]? = some (.int .i64 a) ∧ cs[k * 3 + 1]? = some (.int .i64 b) ∧ cs[k * 3 + 2]? = some (.int .i64 c) ∧ cs.extract (k * 3) (k * 3 + 3) = #[.int .i64 a, .int .i64 b, .int .i64 c] := by
  obtain ⟨x, y, z⟩ := ptC_get l k a b c h
  have x := hall _ _ x
  have y := hall _ _ y
  have z := hall _ _ z
  have hz := (Array.getElem?_eq_some_iff.1 z).1
  refine ⟨x, y, z, ?_⟩
  apply Array.ext_getElem?
  intro i
  rw [Array.getElem?_extract]
  by_cases h0 : i = 0
  · subst h0; rw [if_pos (by omega)]; exact x
  · by_cases h1 : i = 1
    · subst h1; rw [if_pos (by omega)]; exact y
    · by_cases h2 : i = 2
      · subst h2; rw [if_pos (by omega)]; exact z
      · rw [if_neg (by omega), Array.getElem?_eq_none (by show 3 ≤ i; omega)]
set_option maxHeartbeats 8000000 in
set_option maxRecDepth 100000 in
theorem lookKeeps_any {v : Value} {N : Nat} {S : Nat → List Int} {w : World} (h : Img w v N S) :
    Calls Tryz.prog 7 #[v] w fun e w' => e = .returned (.bool true) ∧ Below w.heap.size w w' := by
  have HI := Lib.hid h.zero
  have HLN := Lib.hid h.zero.len
  obtain ⟨av, ci, rfl, -, -, hsec⟩ := h
  have HSEC := Lib.hid hsec
  clear hsec
  go_enter Tryz.func7, Tryz.ntmps7
  go_wp2_with fail
  refine (known12_true _).mono ?_; rintro e w1 ⟨rfl, hb1⟩
  have HI1 := Lib.hid (HI.out.same (fr_below hb1 []))
  have HB1 := Lib.hid hb1
  clear hb1
  go_wp2_with fail
  refine (look_all0 HI1.out).mono ?_; rintro e w2 ⟨hb2, hor⟩
  have HB2 := Lib.hid (below_call HB1.out hb2 HB1.out.size)
  clear hb2
  rcases hor with ⟨he, hout⟩ | ⟨hne, rfl⟩
  · obtain ⟨h8, hN9, -⟩ := lookE_ok he
    obtain ⟨gi, oi, rfl, hsec⟩ := HSEC.out (by omega)
    obtain ⟨gw, cw, v1, v2, v3, o1, o2, o3, rfl, k1, k2, k3, k4, k5, k6, k7⟩ := hout
    obtain ⟨Yn, hu⟩ := look_keepsP HLN.out he
    have hwp := look_well HLN.out he
    obtain ⟨a1, n1, c1, rfl⟩ := k2.sl
    obtain ⟨a2, n2, c2, rfl⟩ := k3.sl
    obtain ⟨a3, n3, c3, rfl⟩ := k4.sl
    clear k2 k3 k4 k5 k6 k7
    generalize repS (rdSupR (S 0)).2.1 (lookZ N (rdSupR (S 0)).2.1 S) = WW at *
    have HW := Lib.hid k1
    have HU := Lib.hid hu
    have HWP := Lib.hid hwp
    have hY1 : 1 ≤ Yn := hu.y1
    have hYN : Yn < N := hu.yN
    clear k1 hu hwp he
    have hB3 : Below w2.heap.size w2 (w2.alloc (.cells #[.slice (some ⟨gw, 0, none⟩) N cw, .slice a1 n1 c1, .slice a2 n2 c2, .slice a3 n3 c3] 26)) := (Below.refl _ _).alloc (Nat.le_refl _) _
    have hg3 := (hopN w2 (.cells #[.slice (some ⟨gw, 0, none⟩) N cw, .slice a1 n1 c1, .slice a2 n2 c2, .slice a3 n3 c3] 26)).1
    have HB3 := Lib.hid (below_call HB2.out hB3 HB2.out.size)
    have HW3 := Lib.hid (HW.out.same (hat_below hB3 HW.out.lt))
    have HS3 : Hid (Secs (w2.alloc (.cells #[.slice (some ⟨gw, 0, none⟩) N cw, .slice a1 n1 c1, .slice a2 n2 c2, .slice a3 n3 c3] 26)) gi oi N S) := Lib.hid (hsec.same (HB3.out.block gi hsec.lt))
    clear hB3 hsec
    go_upto_region 5 with fail
    generalize w2.heap.size = g3 at *
    generalize w2.alloc (.cells #[.slice (some ⟨gw, 0, none⟩) N cw, .slice a1 n1 c1, .slice a2 n2 c2, .slice a3 n3 c3] 26) = w3 at *
    have hg3l := hat_lt hg3
    have hnn : ((N : Int) != (N : Int)) = false := by simp
    go_wp2_with fail
    refine (well_yes3 HWP.out (img0_of HW3.out)).mono ?_; rintro e w4 ⟨rfl, hb4⟩
    have HB4 := Lib.hid (below_call HB3.out hb4 HB3.out.size)
    have hg4 := (hop hb4 hg3).1
    have HW4 := Lib.hid (HW3.out.same (hat_below hb4 HW3.out.lt))
    have HS4 := Lib.hid (HS3.out.same (hat_below hb4 HS3.out.lt))
    have hg4l := hat_lt hg4
    clear hb4 hg3 hg3l
    have hN0 : 0 < N := by omega
    have hN0i : (0 : Int) < (N : Int) := by omega
    obtain ⟨csS, tS, fS, hcS, hlS⟩ := HS4.out.load hN0
    rw [Nat.zero_mul, Nat.add_zero] at hlS
    obtain ⟨hls, hbs⟩ := HS4.out.len hN0
    have hcSl := hat_lt hcS
    have HCS := Lib.hid (fun W => rrdSup_any (S 0) hls hbs W)
    rw [HU.out.sup] at HCS
    generalize (rdSupR (S 0)).1 = X0 at *
    generalize (rdSupR (S 0)).2.2 = E0 at *
    clear hls hbs
    go_wp2_with fail
    refine (HCS.out _).mono ?_; rintro e w5 ⟨rfl, hb5⟩
    have hgx := (hopN w5 (.cells #[.int .i64 X0, .int .i64 Yn] 40)).1
    have hB6 : Below w4.heap.size w4 (w5.alloc (.cells #[.int .i64 X0, .int .i64 Yn] 40)) := hb5.alloc hb5.size _
    have HB6 := Lib.hid (below_call HB4.out hB6 HB4.out.size)
    have hg6 := (hop hB6 hg4).1
    have HW6 := Lib.hid (HW4.out.same (hat_below hB6 HW4.out.lt))
    have HS6 := Lib.hid (HS4.out.same (hat_below hB6 HS4.out.lt))
    clear hB6 hb5 hg4 hg4l hcS hcSl hlS HCS HW3 HS3 HI HI1 HB1 HB2 HB3 HB4
    go_upto_region 10 with fail
    generalize w5.alloc (.cells #[.int .i64 X0, .int .i64 Yn] 40) = w6 at *
    generalize w5.heap.size = gx at *
    go_wp2_with fail
    go_loopw [8] (fun kv wr => ∃ k : Nat, kv = .int .i64 k ∧ 1 ≤ k ∧ k ≤ Yn + 1 ∧ Hid (Below w6.heap.size w6 wr)) (fun v _ => Yn + 1 - (intOf v).toNat)
    case atStart => exact ⟨1, rfl, by omega, by omega, Lib.hid (Below.refl _ _)⟩
    case round =>
      obtain ⟨k, rfl, hk1, hkY, HF⟩ := hrel
      have hg3r := (hop HF.out hg6).1
      have hgxr := (hop HF.out hgx).1
      have hg3rl := hat_lt hg3r
      have hgxrl := hat_lt hgxr
      have hk0 : (0 : Int) ≤ (k : Int) := Int.natCast_nonneg _
      have HWr := Lib.hid (HW6.out.same (hat_below HF.out HW6.out.lt))
      have HSr := Lib.hid (HS6.out.same (hat_below HF.out HS6.out.lt))
      obtain ⟨w7, hw7⟩ : ∃ x, x = wr := ⟨_, rfl⟩
      subst hw7
      by_cases hkYn : k ≤ Yn
      · have hkYi : (k : Int) ≤ (Yn : Int) := by omega
        have hkN : k < N := by omega
        have hkNi : (k : Int) < (N : Int) := by omega
        obtain ⟨csr, hcr, hlr, hlk, hbk⟩ := HWr.out.load hkN
        have hcrl := hat_lt hcr
        have hwi : (rdInoR (WW k)).1 = wI WW k := by unfold wI; rw [if_neg (by omega)]
        have hr18 := wI_len WW k
        obtain ⟨raw, hre⟩ : ∃ raw, wI WW k = raw := ⟨_, rfl⟩
        rw [hre] at hwi hr18
        have HCI := Lib.hid (fun W => rrdIno_any (WW k) hlk hbk W)
        rw [hwi] at HCI
        have HWI := Lib.hid hwi
        have HRE := Lib.hid hre
        have hc0 : (IV .i64 raw)[0]? = some (.int .i64 (nth raw 0)) := by rw [IV_get?, nth_getElem? (by omega)]; rfl
        have hc2 : (IV .i64 raw)[2]? = some (.int .i64 (nth raw 2)) := by rw [IV_get?, nth_getElem? (by omega)]; rfl
        have hc3 : (IV .i64 raw)[3]? = some (.int .i64 (nth raw 3)) := by rw [IV_get?, nth_getElem? (by omega)]; rfl
        clear hlk hbk hwi hre
        go_wp2_with fail
        refine (HCI.out _).mono ?_; rintro e w8 ⟨rfl, hb8⟩
        have hgi := (hopN w8 (.cells (IV .i64 raw) 45)).1
        have hB9 : Below w7.heap.size w7 (w8.alloc (.cells (IV .i64 raw) 45)) := hb8.alloc hb8.size _
        have HF9 := Lib.hid (below_call HF.out hB9 HF.out.size)
        have hg9 := (hop hB9 hg3r).1
        have hgx9 := (hop hB9 hgxr).1
        have HW9 := Lib.hid (HWr.out.same (hat_below hB9 HWr.out.lt))
        have HS9 := Lib.hid (HSr.out.same (hat_below hB9 HSr.out.lt))
        obtain ⟨csT, tT, fT, hcT, hlT⟩ := HS9.out.load hkN
        obtain ⟨hlt, hbt⟩ := HS9.out.len hkN
        have HCT := Lib.hid (fun W => rrdIno_any (S k) hlt hbt W)
        clear hb8 hB9 hcr hcrl hlr HWr HSr hg3r hg3rl hgxr hgxrl HF HCI hlt hbt
        go_upto_region 14 with fail
        generalize w8.alloc (.cells (IV .i64 raw) 45) = w9 at *
        generalize w8.heap.size = gy at *
        have hgyl := hat_lt hgi
        have hcTl := hat_lt hcT
        have hg9l := hat_lt hg9
        go_wp2_with fail
        refine (HCT.out _).mono ?_; rintro e w10 ⟨rfl, hb10⟩
        have hr0 : (rdInoR (S k)).1.length = 18 := rdInoR_length _
        have HINO := Lib.hid (HU.out.ino k hk1 hkYn)
        rw [HRE.out] at HINO
        generalize (rdInoR (S k)).1 = raw0 at *
        generalize (rdInoR (S k)).2 = f0 at *
        have hgz := (hopN w10 (.cells (IV .i64 raw0) 45)).1
        have hB11 : Below w9.heap.size w9 (w10.alloc (.cells (IV .i64 raw0) 45)) := hb10.alloc hb10.size _
        have HF11 := Lib.hid (below_call HF9.out hB11 HF9.out.size)
        have hg11 := (hop hB11 hg9).1
        have hgx11 := (hop hB11 hgx9).1
        have hgy11 := (hop hB11 hgi).1
        have HW11 := Lib.hid (HW9.out.same (hat_below hB11 HW9.out.lt))
        have HS11 := Lib.hid (HS9.out.same (hat_below hB11 HS9.out.lt))
        clear hb10 hB11 hcT hcTl hlT hg9 hg9l hgx9 hgi hgyl HW9 HS9 HF9 HCT
        go_upto_region 15 with fail
        generalize w10.alloc (.cells (IV .i64 raw0) 45) = w11 at *
        generalize w10.heap.size = gz at *
        have hgyl := hat_lt hgy11
        have hgzl := hat_lt hgz
        have hg11l := hat_lt hg11
        by_cases hkd : nth raw 0 = 0
        · have hd : (nth raw 0 == 0) = true := by simpa using hkd
          clear hkd
          go_wp2_with fail
          go_roundw
          case rel => exact ⟨k + 1, by go_num, by omega, by omega, HF11⟩
          case measure => (show Yn + 1 - (k + 1) < Yn + 1 - k); omega
        · have hd : (nth raw 0 == 0) = false := by simpa using hkd
          have HKD := Lib.hid hkd
          obtain ⟨i1, i2, i3, i4⟩ := HINO.out hkd
          have hz0 : (IV .i64 raw0)[0]? = some (.int .i64 (nth raw 0)) := by rw [IV_get?, nth_getElem? (by omega), ← i2]; rfl
          have hz2 : (IV .i64 raw0)[2]? = some (.int .i64 (nth raw 2)) := by rw [IV_get?, nth_getElem? (by omega), ← i3]; rfl
          have hz3 : (IV .i64 raw0)[3]? = some (.int .i64 (nth raw 3)) := by rw [IV_get?, nth_getElem? (by omega), ← i4]; rfl
          subst i1
          clear hkd i2 i3 i4 HINO hr0
          go_wp2_with fail
          have HAI := Lib.hid (HU.out.aims k hk1 hkYn (by rw [HRE.out]; exact HKD.out))
          rw [HRE.out] at HAI
          refine (follow_w k w11 HW11.out.secs hkN hN9 HWI.out HAI.out.1 HAI.out.2.1 HAI.out.2.2).mono ?_; rintro e w12 ⟨vl, gb, cb, rfl, hP, hNB, hgb0, hb12⟩
          have hlen := follL_len WW (k : Int) raw
          have HPT := Lib.hid (HU.out.pts k hk1 hkYn (by rw [HRE.out]; exact HKD.out))
          have HBL := Lib.hid (HU.out.blk k hk1 hkYn (by rw [HRE.out]; exact HKD.out))
          rw [HRE.out] at HPT HBL
          generalize follL WW (k : Int) raw = l at *
          generalize follB WW raw = fb at *
          obtain ⟨n, hn⟩ : ∃ n : Nat, cntX (nth raw 2) = n := ⟨(cntX (nth raw 2)).toNat, by unfold cntX; have := HAI.out.2.1; omega⟩
          have hn9 : n ≤ 1068 := by have := HAI.out.2.2; unfold cntX at hn; omega
          rw [hn] at HBL hNB
          rw [hn]
          simp only [Int.toNat_natCast] at hNB ⊢
          obtain ⟨gl, cl, csl, rfl, hgl0, hgl, hall⟩ := hP.at (fun e => by rw [e] at hlen; simp at hlen)
          have HAL := Lib.hid hall
          have HF12 := Lib.hid (below_call HF11.out hb12 HF11.out.size)
          have hg12 := (hop hb12 hg11).1
          have hgx12 := (hop hb12 hgx11).1
          have hgy12 := (hop hb12 hgy11).1
          have HW12 := Lib.hid (HW11.out.same (hat_below hb12 HW11.out.lt))
          have HS12 := Lib.hid (HS11.out.same (hat_below hb12 HS11.out.lt))
          have HNB := Lib.hid hNB
          have hll : l.length ≤ 2000 := hlen.2
          have hgll := hat_lt hgl
          have HSZ := Lib.hid hn
          clear hP hb12 hall hlen hgl0 hNB hgb0 HF11 HW11 HS11 hg11 hgx11 hgy11 hgyl hgzl hg11l hgz hn hz0 hz2 hz3 hc3
          go_wp2_with fail
          go_loopw [15] (fun jv wr2 => ∃ j : Nat, jv = .int .i64 j ∧ j ≤ l.length ∧ Hid (Below w12.heap.size w12 wr2)) (fun v _ => l.length - (intOf v).toNat)
          case atStart => exact ⟨0, rfl, by omega, Lib.hid (Below.refl _ _)⟩
          case round =>
            obtain ⟨j, rfl, hjl', HF2⟩ := hrel
            have hj0 : (0 : Int) ≤ (j : Int) := Int.natCast_nonneg _
            obtain ⟨w13, hw13⟩ : ∃ x, x = wr := ⟨_, rfl⟩
            subst hw13
            by_cases hjl : j < l.length
            · have hji : (j : Int) < (l.length : Int) := by omega
              obtain ⟨a, b, q, hlj⟩ : ∃ a b q, l[j]? = some (a, b, q) := ⟨_, _, _, List.getElem?_eq_getElem hjl⟩
              obtain ⟨hca, hcb, hcq, hcx⟩ := ptC_ext hlj HAL.out
              have hgl2 := (hop HF2.out hgl).1
              have hgx2 := (hop HF2.out hgx12).1
              have hgl2l := hat_lt hgl2
              have hgx2l := hat_lt hgx2
              by_cases hq0 : q = 0
              · subst hq0
                clear hlj
                go_wp2_with fail
                refine wp_region_vals (by kernel_rfl) 22 (by decide) rfl (fun i => match i with | 0 => (.slice (some ⟨gl, 0, none⟩) l.length cl) | 1 => (.int .i64 (j : Int)) | 2 => (.pointer (some ⟨gl, j * 3, none⟩)) | 3 => (.pointer (some ⟨gl, j * 3 + 2, none⟩)) | 4 => (.int .i64 0) | 5 => (.bool false) | 6 => (.bool false) | 7 => undef | 8 => undef | 9 => undef | 10 => undef | 11 => undef | 12 => undef | 13 => undef | 14 => undef | 15 => undef | 16 => undef | 17 => undef | 18 => undef | 19 => undef | 20 => undef | _ => (.bool false)) ?_ ?_
                · intro i' o ho0 ho a' w' hB hS hF
                  have hi' : i' = 0 ∨ i' = 1 ∨ i' = 2 ∨ i' = 3 ∨ i' = 4 ∨ i' = 5 ∨ i' = 6 ∨ i' = 7 ∨ i' = 8 ∨ i' = 9 ∨ i' = 10 ∨ i' = 11 ∨ i' = 12 ∨ i' = 13 ∨ i' = 14 ∨ i' = 15 ∨ i' = 16 ∨ i' = 17 ∨ i' = 18 ∨ i' = 19 ∨ i' = 20 ∨ i' = 21 := by omega
                  have hgl2 := (hop hB hgl2).1
                  have hgx2 := (hop hB hgx2).1
                  rcases hi' with rfl | rfl | rfl | rfl | rfl | rfl | rfl | rfl | rfl | rfl | rfl | rfl | rfl | rfl | rfl | rfl | rfl | rfl | rfl | rfl | rfl | rfl
                  all_goals (have ho' := Option.some.inj ho; subst ho')
                  · have q13 : a'.tmps[13]?.getD undef = (.slice (some ⟨gl, 0, none⟩) l.length cl) := gtx ((hS 13 (by decide)).trans rfl)
                    refine wpOp_val_g rfl (wanted_free rfl) ?_ ⟨rfl, hB⟩
                    simp [go_sem, q13]
                  · have q15 : a'.tmps[15]?.getD undef = (.int .i64 (j : Int)) := gtx ((hS 15 (by decide)).trans rfl)
                    refine wpOp_val_g rfl (wanted_free rfl) ?_ ⟨rfl, hB⟩
                    simp [go_sem, q15]
                  · have q111 := gtx (hF 0 (by decide) _ 111 rfl rfl)
                    have q112 := gtx (hF 1 (by decide) _ 112 rfl rfl)
                    refine wpOp_val_g rfl (wanted_free rfl) ?_ ⟨rfl, hB⟩
                    simp [go_sem, q111, q112, hj0, hji, hjl]
                  · have q113 := gtx (hF 2 (by decide) _ 113 rfl rfl)
                    refine wpOp_val_g rfl (wanted_free rfl) ?_ ⟨rfl, hB⟩
                    simp [go_sem, q113]
                  · have q114 := gtx (hF 3 (by decide) _ 114 rfl rfl)
                    refine wpOp_val_g rfl (wanted_free rfl) ?_ ⟨rfl, hB⟩
                    simp [go_sem, q114, hgl2, hcq]
                  · have q115 := gtx (hF 4 (by decide) _ 115 rfl rfl)
                    refine wpOp_val_g rfl (wanted_free rfl) ?_ ⟨rfl, hB⟩
                    simp [go_sem, q115]
                  · have q116 := gtx (hF 5 (by decide) _ 116 rfl rfl)
                    refine wpOp_val_g rfl (wanted_free rfl) ?_ ⟨rfl, hB⟩
                    simp [go_sem, q116]
                  · exact wpOp_shut rfl rfl rfl rfl (hF 6 (by decide) _ 117 rfl rfl) rfl ⟨rfl, hB⟩
                  · exact wpOp_shut rfl rfl rfl rfl (hF 6 (by decide) _ 117 rfl rfl) rfl ⟨rfl, hB⟩
                  · exact wpOp_shut rfl rfl rfl rfl (hF 6 (by decide) _ 117 rfl rfl) rfl ⟨rfl, hB⟩
                  · exact wpOp_shut rfl rfl rfl rfl (hF 6 (by decide) _ 117 rfl rfl) rfl ⟨rfl, hB⟩
                  · exact wpOp_shut rfl rfl rfl rfl (hF 6 (by decide) _ 117 rfl rfl) rfl ⟨rfl, hB⟩
                  · exact wpOp_shut rfl rfl rfl rfl (hF 6 (by decide) _ 117 rfl rfl) rfl ⟨rfl, hB⟩
                  · exact wpOp_shut rfl rfl rfl rfl (hF 6 (by decide) _ 117 rfl rfl) rfl ⟨rfl, hB⟩
                  · exact wpOp_shut rfl rfl rfl rfl (hF 6 (by decide) _ 117 rfl rfl) rfl ⟨rfl, hB⟩
                  · exact wpOp_shut rfl rfl rfl rfl (hF 6 (by decide) _ 117 rfl rfl) rfl ⟨rfl, hB⟩
                  · exact wpOp_shut rfl rfl rfl rfl (hF 6 (by decide) _ 117 rfl rfl) rfl ⟨rfl, hB⟩
                  · exact wpOp_shut rfl rfl rfl rfl (hF 6 (by decide) _ 117 rfl rfl) rfl ⟨rfl, hB⟩
                  · exact wpOp_shut rfl rfl rfl rfl (hF 6 (by decide) _ 117 rfl rfl) rfl ⟨rfl, hB⟩
                  · exact wpOp_shut rfl rfl rfl rfl (hF 6 (by decide) _ 117 rfl rfl) rfl ⟨rfl, hB⟩
                  · exact wpOp_shut rfl rfl rfl rfl (hF 6 (by decide) _ 117 rfl rfl) rfl ⟨rfl, hB⟩
                  · have q117 := gtx (hF 6 (by decide) _ 117 rfl rfl)
                    have q131 := gtx (hF 20 (by decide) _ 131 rfl rfl)
                    refine wpOp_val_g rfl (wanted_free rfl) ?_ ⟨rfl, hB⟩
                    simp [go_sem, q117, q131]
                intro w14 hB14
                simp only [putAll, List.take, List.drop, List.take_succ_cons, List.drop_succ_cons, Act.put, List.setIfInBounds_toArray, List.set_cons_zero, List.set_cons_succ]
                go_wp2_with fail
                go_roundw
                case rel => exact ⟨j + 1, by go_num, by omega, Lib.hid (below_call HF2.out hB14 HF2.out.size)⟩
                case measure => (show l.length - (j + 1) < l.length - j); omega
              · obtain ⟨an, bn, rfl, rfl, haN, hbn, hst⟩ := HPT.out j a b q hlj hq0
                have hqn : (q != 0) = true := by simpa using hq0
                have hqq : (q != q) = false := by simp
                have HST := Lib.hid (stood_w (ci := ci) an bn q Yn w13 (HS12.out.same (hat_below HF2.out HS12.out.lt)) haN hN9 hbn)
                have HCL : Hid (∀ w', Below w13.heap.size w13 w' → Calls Tryz.prog 21 #[.slice (some ⟨gi, oi, none⟩) N ci, .int .i64 Yn, .agg #[.int .i64 an, .int .i64 bn, .int .i64 q]] w' fun e w'' => e = .returned (.int .i64 q) ∧ Below w'.heap.size w' w'') := Lib.hid (fun w' hw' => by
                  have h1 := HS12.out.same (hat_below HF2.out HS12.out.lt)
                  have h2 := stood_w (ci := ci) an bn q Yn w' (h1.same (hat_below hw' h1.lt)) haN hN9 hbn
                  rw [hst] at h2
                  exact h2)
                clear hlj hq0 haN hbn hst HST
                go_wp2_with fail
                refine wp_region_vals (by kernel_rfl) 22 (by decide) rfl (fun i => match i with | 0 => (.slice (some ⟨gl, 0, none⟩) l.length cl) | 1 => (.int .i64 (j : Int)) | 2 => (.pointer (some ⟨gl, j * 3, none⟩)) | 3 => (.pointer (some ⟨gl, j * 3 + 2, none⟩)) | 4 => (.int .i64 q) | 5 => (.bool true) | 6 => (.bool true) | 7 => (.slice (some ⟨gi, oi, none⟩) N ci) | 8 => (.pointer (some ⟨gx, 1, none⟩)) | 9 => (.int .i64 (Yn : Int)) | 10 => (.slice (some ⟨gl, 0, none⟩) l.length cl) | 11 => (.int .i64 (j : Int)) | 12 => (.pointer (some ⟨gl, j * 3, none⟩)) | 13 => (.agg #[.int .i64 (an : Int), .int .i64 (bn : Int), .int .i64 q]) | 14 => (.int .i64 q) | 15 => (.slice (some ⟨gl, 0, none⟩) l.length cl) | 16 => (.int .i64 (j : Int)) | 17 => (.pointer (some ⟨gl, j * 3, none⟩)) | 18 => (.pointer (some ⟨gl, j * 3 + 2, none⟩)) | 19 => (.int .i64 q) | 20 => (.bool false) | _ => (.bool false)) ?_ ?_
                · intro i' o ho0 ho a' w' hB hS hF
                  have hi' : i' = 0 ∨ i' = 1 ∨ i' = 2 ∨ i' = 3 ∨ i' = 4 ∨ i' = 5 ∨ i' = 6 ∨ i' = 7 ∨ i' = 8 ∨ i' = 9 ∨ i' = 10 ∨ i' = 11 ∨ i' = 12 ∨ i' = 13 ∨ i' = 14 ∨ i' = 15 ∨ i' = 16 ∨ i' = 17 ∨ i' = 18 ∨ i' = 19 ∨ i' = 20 ∨ i' = 21 := by omega
                  have hgl2 := (hop hB hgl2).1
                  have hgx2 := (hop hB hgx2).1
                  rcases hi' with rfl | rfl | rfl | rfl | rfl | rfl | rfl | rfl | rfl | rfl | rfl | rfl | rfl | rfl | rfl | rfl | rfl | rfl | rfl | rfl | rfl | rfl
                  all_goals (have ho' := Option.some.inj ho; subst ho')
                  · have q13 : a'.tmps[13]?.getD undef = (.slice (some ⟨gl, 0, none⟩) l.length cl) := gtx ((hS 13 (by decide)).trans rfl)
                    refine wpOp_val_g rfl (wanted_free rfl) ?_ ⟨rfl, hB⟩
                    simp [go_sem, q13]
                  · have q15 : a'.tmps[15]?.getD undef = (.int .i64 (j : Int)) := gtx ((hS 15 (by decide)).trans rfl)
                    refine wpOp_val_g rfl (wanted_free rfl) ?_ ⟨rfl, hB⟩
                    simp [go_sem, q15]
                  · have q111 := gtx (hF 0 (by decide) _ 111 rfl rfl)
                    have q112 := gtx (hF 1 (by decide) _ 112 rfl rfl)
                    refine wpOp_val_g rfl (wanted_free rfl) ?_ ⟨rfl, hB⟩
                    simp [go_sem, q111, q112, hj0, hji, hjl]
                  · have q113 := gtx (hF 2 (by decide) _ 113 rfl rfl)
                    refine wpOp_val_g rfl (wanted_free rfl) ?_ ⟨rfl, hB⟩
                    simp [go_sem, q113]
                  · have q114 := gtx (hF 3 (by decide) _ 114 rfl rfl)
                    refine wpOp_val_g rfl (wanted_free rfl) ?_ ⟨rfl, hB⟩
                    simp [go_sem, q114, hgl2, hcq]
                  · have q115 := gtx (hF 4 (by decide) _ 115 rfl rfl)
                    refine wpOp_val_g rfl (wanted_free rfl) ?_ ⟨rfl, hB⟩
                    simp [go_sem, q115, hqn]
                  · have q116 := gtx (hF 5 (by decide) _ 116 rfl rfl)
                    refine wpOp_val_g rfl (wanted_free rfl) ?_ ⟨rfl, hB⟩
                    simp [go_sem, q116]
                  · have q0 : a'.tmps[0]?.getD undef = (.slice (some ⟨gi, oi, none⟩) N ci) := gtx ((hS 0 (by decide)).trans rfl)
                    refine wpOp_val_g rfl (wanted_of rfl rfl rfl (hF 6 (by decide) _ 117 rfl rfl)) ?_ ⟨rfl, hB⟩
                    simp [go_sem, q0]
                  · have q6 : a'.tmps[6]?.getD undef = (.pointer (some ⟨gx, 0, none⟩)) := gtx ((hS 6 (by decide)).trans rfl)
                    refine wpOp_val_g rfl (wanted_of rfl rfl rfl (hF 6 (by decide) _ 117 rfl rfl)) ?_ ⟨rfl, hB⟩
                    simp [go_sem, q6]
                  · have q119 := gtx (hF 8 (by decide) _ 119 rfl rfl)
                    refine wpOp_val_g rfl (wanted_of rfl rfl rfl (hF 6 (by decide) _ 117 rfl rfl)) ?_ ⟨rfl, hB⟩
                    simp [go_sem, q119, hgx2]
                  · have q13 : a'.tmps[13]?.getD undef = (.slice (some ⟨gl, 0, none⟩) l.length cl) := gtx ((hS 13 (by decide)).trans rfl)
                    refine wpOp_val_g rfl (wanted_of rfl rfl rfl (hF 6 (by decide) _ 117 rfl rfl)) ?_ ⟨rfl, hB⟩
                    simp [go_sem, q13]
                  · have q15 : a'.tmps[15]?.getD undef = (.int .i64 (j : Int)) := gtx ((hS 15 (by decide)).trans rfl)
                    refine wpOp_val_g rfl (wanted_of rfl rfl rfl (hF 6 (by decide) _ 117 rfl rfl)) ?_ ⟨rfl, hB⟩
                    simp [go_sem, q15]
                  · have q121 := gtx (hF 10 (by decide) _ 121 rfl rfl)
                    have q122 := gtx (hF 11 (by decide) _ 122 rfl rfl)
                    refine wpOp_val_g rfl (wanted_of rfl rfl rfl (hF 6 (by decide) _ 117 rfl rfl)) ?_ ⟨rfl, hB⟩
                    simp [go_sem, q121, q122, hj0, hji, hjl]
                  · have q123 := gtx (hF 12 (by decide) _ 123 rfl rfl)
                    refine wpOp_val_g rfl (wanted_of rfl rfl rfl (hF 6 (by decide) _ 117 rfl rfl)) ?_ ⟨rfl, hB⟩
                    simp [go_sem, q123, hgl2, hca, hcb, hcq, hcx]
                  · have q118 := gtx (hF 7 (by decide) _ 118 rfl rfl)
                    have q120 := gtx (hF 9 (by decide) _ 120 rfl rfl)
                    have q124 := gtx (hF 13 (by decide) _ 124 rfl rfl)
                    refine wpOp_call_g (f := 21) (args := #[.slice (some ⟨gi, oi, none⟩) N ci, .int .i64 (Yn : Int), .agg #[.int .i64 (an : Int), .int .i64 (bn : Int), .int .i64 q]]) rfl (wanted_of rfl rfl rfl (hF 6 (by decide) _ 117 rfl rfl)) (by simp [go_sem, q118, q120, q124]) (HCL.out w' hB) ?_
                    rintro e w'' ⟨rfl, hb'⟩
                    exact ⟨_, rfl, rfl, below_call hB hb' hB.size⟩
                  · have q13 : a'.tmps[13]?.getD undef = (.slice (some ⟨gl, 0, none⟩) l.length cl) := gtx ((hS 13 (by decide)).trans rfl)
                    refine wpOp_val_g rfl (wanted_of rfl rfl rfl (hF 6 (by decide) _ 117 rfl rfl)) ?_ ⟨rfl, hB⟩
                    simp [go_sem, q13]
                  · have q15 : a'.tmps[15]?.getD undef = (.int .i64 (j : Int)) := gtx ((hS 15 (by decide)).trans rfl)
                    refine wpOp_val_g rfl (wanted_of rfl rfl rfl (hF 6 (by decide) _ 117 rfl rfl)) ?_ ⟨rfl, hB⟩
                    simp [go_sem, q15]
                  · have q126 := gtx (hF 15 (by decide) _ 126 rfl rfl)
                    have q127 := gtx (hF 16 (by decide) _ 127 rfl rfl)
                    refine wpOp_val_g rfl (wanted_of rfl rfl rfl (hF 6 (by decide) _ 117 rfl rfl)) ?_ ⟨rfl, hB⟩
                    simp [go_sem, q126, q127, hj0, hji, hjl]
                  · have q128 := gtx (hF 17 (by decide) _ 128 rfl rfl)
                    refine wpOp_val_g rfl (wanted_of rfl rfl rfl (hF 6 (by decide) _ 117 rfl rfl)) ?_ ⟨rfl, hB⟩
                    simp [go_sem, q128]
                  · have q129 := gtx (hF 18 (by decide) _ 129 rfl rfl)
                    refine wpOp_val_g rfl (wanted_of rfl rfl rfl (hF 6 (by decide) _ 117 rfl rfl)) ?_ ⟨rfl, hB⟩
                    simp [go_sem, q129, hgl2, hcq]
                  · have q125 := gtx (hF 14 (by decide) _ 125 rfl rfl)
                    have q130 := gtx (hF 19 (by decide) _ 130 rfl rfl)
                    refine wpOp_val_g rfl (wanted_of rfl rfl rfl (hF 6 (by decide) _ 117 rfl rfl)) ?_ ⟨rfl, hB⟩
                    simp [go_sem, q125, q130, hqq]
                  · have q117 := gtx (hF 6 (by decide) _ 117 rfl rfl)
                    have q131 := gtx (hF 20 (by decide) _ 131 rfl rfl)
                    refine wpOp_val_g rfl (wanted_free rfl) ?_ ⟨rfl, hB⟩
                    simp [go_sem, q117, q131]
                intro w14 hB14
                simp only [putAll, List.take, List.drop, List.take_succ_cons, List.drop_succ_cons, Act.put, List.setIfInBounds_toArray, List.set_cons_zero, List.set_cons_succ]
                go_wp2_with fail
                go_roundw
                case rel => exact ⟨j + 1, by go_num, by omega, Lib.hid (below_call HF2.out hB14 HF2.out.size)⟩
                case measure => (show l.length - (j + 1) < l.length - j); omega
            · have hji : ¬ (j : Int) < (l.length : Int) := by omega
              have hg13 := (hop HF2.out hg12).1
              have hgy13 := (hop HF2.out hgy12).1
              have HW13 := Lib.hid (HW12.out.same (hat_below HF2.out HW12.out.lt))
              have HS13 := Lib.hid (HS12.out.same (hat_below HF2.out HS12.out.lt))
              have HN13 := Lib.hid (HNB.out.same (hat_below HF2.out HNB.out.lt))
              have HF13 := Lib.hid (below_call HF12.out HF2.out HF12.out.size)
              clear HF2 hg12 hgy12 HW12 HS12 HNB HF12 hgl hgll hgx12 HAL HPT
              go_wp2_with fail
              go_loopw [16] (fun jv wr2 => ∃ j : Nat, jv = .int .i64 j ∧ j ≤ n ∧ Hid (Below w13.heap.size w13 wr2)) (fun v _ => n - (intOf v).toNat)
              case atStart => exact ⟨0, rfl, by omega, Lib.hid (Below.refl _ _)⟩
              case round =>
                obtain ⟨m, rfl, hmn', HF2⟩ := hrel
                have hm0 : (0 : Int) ≤ (m : Int) := Int.natCast_nonneg _
                obtain ⟨w14, hw14⟩ : ∃ x, x = wr := ⟨_, rfl⟩
                subst hw14
                by_cases hmn : m < n
                · have hmi : (m : Int) < (n : Int) := by omega
                  obtain ⟨csB, hcB, hzB, hallB⟩ := HN13.out.same (hat_below HF2.out HN13.out.lt)
                  have hcm := hallB m hmn
                  have hcBl := hat_lt hcB
                  have HM := Lib.hid (HBL.out m (by omega))
                  generalize fb m = q at *
                  clear hallB
                  have hgy2 := (hop HF2.out hgy13).1
                  have hgy2l := hat_lt hgy2
                  by_cases hq0 : q = 0
                  · subst hq0
                    go_wp2_with fail
                    go_roundw
                    case rel => exact ⟨m + 1, by go_num, by omega, HF2⟩
                    case measure => (show n - (m + 1) < n - m); omega
                  · obtain ⟨p, rfl, hp0, hpN, hp2, hp1⟩ := HM.out.resolve_left hq0
                    have hqe : ((p : Int) == 0) = false := by simpa using hp0
                    have hpi : (p : Int) < (N : Int) := by omega
                    have hpp : (0 : Int) ≤ (p : Int) := Int.natCast_nonneg _
                    have hg2 := (hop HF2.out hg13).1
                    have hg2l := hat_lt hg2
                    have HW2 := HW13.out.same (hat_below HF2.out HW13.out.lt)
                    have HS2 := HS13.out.same (hat_below HF2.out HS13.out.lt)
                    obtain ⟨csW, tW, fW, hcW, hlW, hbW⟩ := HW2.secs.bytes hpN
                    obtain ⟨csI, tI, fI, hcI, hlI, hbI⟩ := HS2.bytes hpN
                    simp only [Nat.zero_add] at hlW hbW
                    have hlw := (HW2.secs.len hpN).1
                    have hli := (HS2.len hpN).1
                    have hcWl := hat_lt hcW
                    have hcIl := hat_lt hcI
                    have HBW := Lib.hid hbW
                    have HBI := Lib.hid hbI
                    clear HW2 HS2 hbW hbI hq0 hp0 HM
                    by_cases hk2 : nth raw 0 = 2
                    · have hd2 : (nth raw 0 == 2) = true := by simpa using hk2
                      by_cases hz : WW p = zl 128
                      · have hdz : decide (WW p = zl 128) = true := decide_eq_true hz
                        clear hp1 hp2 hk2 hz
                        go_wp2_with fail
                        refine wp_region_vals (by kernel_rfl) 19 (by decide) rfl (fun i => match i with | 0 => (.pointer (some ⟨g3, 0, none⟩)) | 1 => (.slice (some ⟨gw, 0, none⟩) N cw) | 2 => (.int .i64 (p : Int)) | 3 => (.pointer (some ⟨gw, p * 128, none⟩)) | 4 => (.agg (IV .u8 (WW p))) | 5 => (.agg (IV .u8 (zl 128))) | 6 => (.bool false) | 7 => (.bool false) | 8 => undef | 9 => undef | 10 => undef | 11 => undef | 12 => undef | 13 => undef | 14 => undef | 15 => undef | 16 => undef | 17 => undef | _ => (.bool false)) ?_ ?_
                        · intro i' o ho0 ho a' w' hB hS hF
                          have hi' : i' = 0 ∨ i' = 1 ∨ i' = 2 ∨ i' = 3 ∨ i' = 4 ∨ i' = 5 ∨ i' = 6 ∨ i' = 7 ∨ i' = 8 ∨ i' = 9 ∨ i' = 10 ∨ i' = 11 ∨ i' = 12 ∨ i' = 13 ∨ i' = 14 ∨ i' = 15 ∨ i' = 16 ∨ i' = 17 ∨ i' = 18 := by omega
                          have hg2 := (hop hB hg2).1
                          have hcW := (hop hB hcW).1
                          have hcI := (hop hB hcI).1
                          rcases hi' with rfl | rfl | rfl | rfl | rfl | rfl | rfl | rfl | rfl | rfl | rfl | rfl | rfl | rfl | rfl | rfl | rfl | rfl | rfl
                          all_goals (have ho' := Option.some.inj ho; subst ho')
                          · have q4 : a'.tmps[4]?.getD undef = (.pointer (some ⟨g3, 0, none⟩)) := gtx ((hS 4 (by decide)).trans rfl)
                            refine wpOp_val_g rfl (wanted_free rfl) ?_ ⟨rfl, hB⟩
                            simp [go_sem, q4]
                          · have q148 := gtx (hF 0 (by decide) _ 148 rfl rfl)
                            refine wpOp_val_g rfl (wanted_free rfl) ?_ ⟨rfl, hB⟩
                            simp [go_sem, q148, hg2]
                          · have q17 : a'.tmps[17]?.getD undef = (.int .i64 (p : Int)) := gtx ((hS 17 (by decide)).trans rfl)
                            refine wpOp_val_g rfl (wanted_free rfl) ?_ ⟨rfl, hB⟩
                            simp [go_sem, q17]
                          · have q149 := gtx (hF 1 (by decide) _ 149 rfl rfl)
                            have q150 := gtx (hF 2 (by decide) _ 150 rfl rfl)
                            refine wpOp_val_g rfl (wanted_free rfl) ?_ ⟨rfl, hB⟩
                            simp [go_sem, q149, q150, hpp, hpi, hpN]
                          · have q151 := gtx (hF 3 (by decide) _ 151 rfl rfl)
                            refine wpOp_val_g rfl (wanted_free rfl) ?_ ⟨rfl, hB⟩
                            simp [go_sem, q151, hcW, hlW]
                          · refine wpOp_val_g rfl (wanted_free rfl) ?_ ⟨rfl, hB⟩
                            simp [go_sem]
                          · have q152 := gtx (hF 4 (by decide) _ 152 rfl rfl)
                            have q153 := gtx (hF 5 (by decide) _ 153 rfl rfl)
                            refine wpOp_val_g rfl (wanted_free rfl) ?_ ⟨rfl, hB⟩
                            simp [go_sem, q152, q153, hlw, hdz]
                          · have q154 := gtx (hF 6 (by decide) _ 154 rfl rfl)
                            refine wpOp_val_g rfl (wanted_free rfl) ?_ ⟨rfl, hB⟩
                            simp [go_sem, q154]
                          · exact wpOp_shut rfl rfl rfl rfl (hF 7 (by decide) _ 155 rfl rfl) rfl ⟨rfl, hB⟩
                          · exact wpOp_shut rfl rfl rfl rfl (hF 7 (by decide) _ 155 rfl rfl) rfl ⟨rfl, hB⟩
                          · exact wpOp_shut rfl rfl rfl rfl (hF 7 (by decide) _ 155 rfl rfl) rfl ⟨rfl, hB⟩
                          · exact wpOp_shut rfl rfl rfl rfl (hF 7 (by decide) _ 155 rfl rfl) rfl ⟨rfl, hB⟩
                          · exact wpOp_shut rfl rfl rfl rfl (hF 7 (by decide) _ 155 rfl rfl) rfl ⟨rfl, hB⟩
                          · exact wpOp_shut rfl rfl rfl rfl (hF 7 (by decide) _ 155 rfl rfl) rfl ⟨rfl, hB⟩
                          · exact wpOp_shut rfl rfl rfl rfl (hF 7 (by decide) _ 155 rfl rfl) rfl ⟨rfl, hB⟩
                          · exact wpOp_shut rfl rfl rfl rfl (hF 7 (by decide) _ 155 rfl rfl) rfl ⟨rfl, hB⟩
                          · exact wpOp_shut rfl rfl rfl rfl (hF 7 (by decide) _ 155 rfl rfl) rfl ⟨rfl, hB⟩
                          · exact wpOp_shut rfl rfl rfl rfl (hF 7 (by decide) _ 155 rfl rfl) rfl ⟨rfl, hB⟩
                          · have q155 := gtx (hF 7 (by decide) _ 155 rfl rfl)
                            have q165 := gtx (hF 17 (by decide) _ 165 rfl rfl)
                            refine wpOp_val_g rfl (wanted_free rfl) ?_ ⟨rfl, hB⟩
                            simp [go_sem, q155, q165]
                        intro w15 hB15
                        simp only [putAll, List.take, List.drop, List.take_succ_cons, List.drop_succ_cons, Act.put, List.setIfInBounds_toArray, List.set_cons_zero, List.set_cons_succ]
                        go_wp2_with fail
                        go_roundw
                        case rel => exact ⟨m + 1, by go_num, by omega, Lib.hid (below_call HF2.out hB15 HF2.out.size)⟩
                        case measure => (show n - (m + 1) < n - m); omega
                      · have hdz : decide (WW p = zl 128) = false := decide_eq_false hz
                        have hds : decide (WW p = S p) = true := decide_eq_true ((hp2 hk2).resolve_left hz)
                        clear hp1 hp2 hk2 hz
                        go_wp2_with fail
                        refine wp_region_vals (by kernel_rfl) 19 (by decide) rfl (fun i => match i with | 0 => (.pointer (some ⟨g3, 0, none⟩)) | 1 => (.slice (some ⟨gw, 0, none⟩) N cw) | 2 => (.int .i64 (p : Int)) | 3 => (.pointer (some ⟨gw, p * 128, none⟩)) | 4 => (.agg (IV .u8 (WW p))) | 5 => (.agg (IV .u8 (zl 128))) | 6 => (.bool true) | 7 => (.bool true) | 8 => (.pointer (some ⟨g3, 0, none⟩)) | 9 => (.slice (some ⟨gw, 0, none⟩) N cw) | 10 => (.int .i64 (p : Int)) | 11 => (.pointer (some ⟨gw, p * 128, none⟩)) | 12 => (.agg (IV .u8 (WW p))) | 13 => (.slice (some ⟨gi, oi, none⟩) N ci) | 14 => (.int .i64 (p : Int)) | 15 => (.pointer (some ⟨gi, oi + p * 128, none⟩)) | 16 => (.agg (IV .u8 (S p))) | 17 => (.bool false) | _ => (.bool false)) ?_ ?_
                        · intro i' o ho0 ho a' w' hB hS hF
                          have hi' : i' = 0 ∨ i' = 1 ∨ i' = 2 ∨ i' = 3 ∨ i' = 4 ∨ i' = 5 ∨ i' = 6 ∨ i' = 7 ∨ i' = 8 ∨ i' = 9 ∨ i' = 10 ∨ i' = 11 ∨ i' = 12 ∨ i' = 13 ∨ i' = 14 ∨ i' = 15 ∨ i' = 16 ∨ i' = 17 ∨ i' = 18 := by omega
                          have hg2 := (hop hB hg2).1
                          have hcW := (hop hB hcW).1
                          have hcI := (hop hB hcI).1
                          rcases hi' with rfl | rfl | rfl | rfl | rfl | rfl | rfl | rfl | rfl | rfl | rfl | rfl | rfl | rfl | rfl | rfl | rfl | rfl | rfl
                          all_goals (have ho' := Option.some.inj ho; subst ho')
                          · have q4 : a'.tmps[4]?.getD undef = (.pointer (some ⟨g3, 0, none⟩)) := gtx ((hS 4 (by decide)).trans rfl)
                            refine wpOp_val_g rfl (wanted_free rfl) ?_ ⟨rfl, hB⟩
                            simp [go_sem, q4]
                          · have q148 := gtx (hF 0 (by decide) _ 148 rfl rfl)
                            refine wpOp_val_g rfl (wanted_free rfl) ?_ ⟨rfl, hB⟩
                            simp [go_sem, q148, hg2]
                          · have q17 : a'.tmps[17]?.getD undef = (.int .i64 (p : Int)) := gtx ((hS 17 (by decide)).trans rfl)
                            refine wpOp_val_g rfl (wanted_free rfl) ?_ ⟨rfl, hB⟩
                            simp [go_sem, q17]
                          · have q149 := gtx (hF 1 (by decide) _ 149 rfl rfl)
                            have q150 := gtx (hF 2 (by decide) _ 150 rfl rfl)
                            refine wpOp_val_g rfl (wanted_free rfl) ?_ ⟨rfl, hB⟩
                            simp [go_sem, q149, q150, hpp, hpi, hpN]
                          · have q151 := gtx (hF 3 (by decide) _ 151 rfl rfl)
                            refine wpOp_val_g rfl (wanted_free rfl) ?_ ⟨rfl, hB⟩
                            simp [go_sem, q151, hcW, hlW]
                          · refine wpOp_val_g rfl (wanted_free rfl) ?_ ⟨rfl, hB⟩
                            simp [go_sem]
                          · have q152 := gtx (hF 4 (by decide) _ 152 rfl rfl)
                            have q153 := gtx (hF 5 (by decide) _ 153 rfl rfl)
                            refine wpOp_val_g rfl (wanted_free rfl) ?_ ⟨rfl, hB⟩
                            simp [go_sem, q152, q153, hlw, hdz]
                          · have q154 := gtx (hF 6 (by decide) _ 154 rfl rfl)
                            refine wpOp_val_g rfl (wanted_free rfl) ?_ ⟨rfl, hB⟩
                            simp [go_sem, q154]
                          · have q4 : a'.tmps[4]?.getD undef = (.pointer (some ⟨g3, 0, none⟩)) := gtx ((hS 4 (by decide)).trans rfl)
                            refine wpOp_val_g rfl (wanted_of rfl rfl rfl (hF 7 (by decide) _ 155 rfl rfl)) ?_ ⟨rfl, hB⟩
                            simp [go_sem, q4]
                          · have q156 := gtx (hF 8 (by decide) _ 156 rfl rfl)
                            refine wpOp_val_g rfl (wanted_of rfl rfl rfl (hF 7 (by decide) _ 155 rfl rfl)) ?_ ⟨rfl, hB⟩
                            simp [go_sem, q156, hg2]
                          · have q17 : a'.tmps[17]?.getD undef = (.int .i64 (p : Int)) := gtx ((hS 17 (by decide)).trans rfl)
                            refine wpOp_val_g rfl (wanted_of rfl rfl rfl (hF 7 (by decide) _ 155 rfl rfl)) ?_ ⟨rfl, hB⟩
                            simp [go_sem, q17]
                          · have q157 := gtx (hF 9 (by decide) _ 157 rfl rfl)
                            have q158 := gtx (hF 10 (by decide) _ 158 rfl rfl)
                            refine wpOp_val_g rfl (wanted_of rfl rfl rfl (hF 7 (by decide) _ 155 rfl rfl)) ?_ ⟨rfl, hB⟩
                            simp [go_sem, q157, q158, hpp, hpi, hpN]
                          · have q159 := gtx (hF 11 (by decide) _ 159 rfl rfl)
                            refine wpOp_val_g rfl (wanted_of rfl rfl rfl (hF 7 (by decide) _ 155 rfl rfl)) ?_ ⟨rfl, hB⟩
                            simp [go_sem, q159, hcW, hlW]
                          · have q0 : a'.tmps[0]?.getD undef = (.slice (some ⟨gi, oi, none⟩) N ci) := gtx ((hS 0 (by decide)).trans rfl)
                            refine wpOp_val_g rfl (wanted_of rfl rfl rfl (hF 7 (by decide) _ 155 rfl rfl)) ?_ ⟨rfl, hB⟩
                            simp [go_sem, q0]
                          · have q17 : a'.tmps[17]?.getD undef = (.int .i64 (p : Int)) := gtx ((hS 17 (by decide)).trans rfl)
                            refine wpOp_val_g rfl (wanted_of rfl rfl rfl (hF 7 (by decide) _ 155 rfl rfl)) ?_ ⟨rfl, hB⟩
                            simp [go_sem, q17]
                          · have q161 := gtx (hF 13 (by decide) _ 161 rfl rfl)
                            have q162 := gtx (hF 14 (by decide) _ 162 rfl rfl)
                            refine wpOp_val_g rfl (wanted_of rfl rfl rfl (hF 7 (by decide) _ 155 rfl rfl)) ?_ ⟨rfl, hB⟩
                            simp [go_sem, q161, q162, hpp, hpi, hpN]
                          · have q163 := gtx (hF 15 (by decide) _ 163 rfl rfl)
                            refine wpOp_val_g rfl (wanted_of rfl rfl rfl (hF 7 (by decide) _ 155 rfl rfl)) ?_ ⟨rfl, hB⟩
                            simp [go_sem, q163, hcI, hlI]
                          · have q160 := gtx (hF 12 (by decide) _ 160 rfl rfl)
                            have q164 := gtx (hF 16 (by decide) _ 164 rfl rfl)
                            refine wpOp_val_g rfl (wanted_of rfl rfl rfl (hF 7 (by decide) _ 155 rfl rfl)) ?_ ⟨rfl, hB⟩
                            simp [go_sem, q160, q164, hlw, hli, hds]
                          · have q155 := gtx (hF 7 (by decide) _ 155 rfl rfl)
                            have q165 := gtx (hF 17 (by decide) _ 165 rfl rfl)
                            refine wpOp_val_g rfl (wanted_free rfl) ?_ ⟨rfl, hB⟩
                            simp [go_sem, q155, q165]
                        intro w15 hB15
                        simp only [putAll, List.take, List.drop, List.take_succ_cons, List.drop_succ_cons, Act.put, List.setIfInBounds_toArray, List.set_cons_zero, List.set_cons_succ]
                        go_wp2_with fail
                        go_roundw
                        case rel => exact ⟨m + 1, by go_num, by omega, Lib.hid (below_call HF2.out hB15 HF2.out.size)⟩
                        case measure => (show n - (m + 1) < n - m); omega
                    · have hd2 : (nth raw 0 == 2) = false := by simpa using hk2
                      have HP1 := Lib.hid (hp1 hk2)
                      have HZ : Hid (0 ≤ nth raw 2 ∧ nth raw 2 ≤ 136704) := Lib.hid HAI.out.2
                      clear hp1 hp2 hk2
                      obtain ⟨z, hz⟩ : ∃ z, nth raw 2 = z := ⟨_, rfl⟩
                      rw [hz] at HP1 HZ hc2
                      go_wp2_with fail
                      clear hcB hcBl hcm
                      go_loopw [18] (fun jv wr2 => ∃ j : Nat, jv = .int .i64 j ∧ j ≤ 128 ∧ Hid (Below w14.heap.size w14 wr2)) (fun v _ => 128 - (intOf v).toNat)
                      case atStart => exact ⟨0, rfl, by omega, Lib.hid (Below.refl _ _)⟩
                      case round =>
                        obtain ⟨b, rfl, hb', HF3⟩ := hrel
                        have hb0 : (0 : Int) ≤ (b : Int) := Int.natCast_nonneg _
                        have hgy3 := (hop HF3.out hgy2).1
                        have hgy3l := hat_lt hgy3
                        have hw1 : IntKind.i64.wrap (128 * (m : Int)) = 128 * (m : Int) := by rw [IntKind.wrap_i64]; omega
                        have hw2 : IntKind.i64.wrap (128 * (m : Int) + (b : Int)) = 128 * (m : Int) + (b : Int) := by rw [IntKind.wrap_i64]; omega
                        by_cases hb128 : b < 128
                        · have hbi : (b : Int) < 128 := by omega
                          by_cases hbz : 128 * (m : Int) + (b : Int) < z
                          · have hg33 := (hop HF3.out hg2).1
                            have hcW3 := (hop HF3.out hcW).1
                            have hcI3 := (hop HF3.out hcI).1
                            have hcw := HBW.out b hb128
                            have hci := HBI.out b hb128
                            rw [HP1.out b hb128 hbz] at hcw
                            have hg33l := hat_lt hg33
                            have hcW3l := hat_lt hcW3
                            have hcI3l := hat_lt hcI3
                            go_wp2_with fail
                            refine wp_region_vals (by kernel_rfl) 14 (by decide) rfl (fun i => match i with | 0 => (.pointer (some ⟨g3, 0, none⟩)) | 1 => (.slice (some ⟨gw, 0, none⟩) N cw) | 2 => (.int .i64 (p : Int)) | 3 => (.int .i64 (b : Int)) | 4 => (.pointer (some ⟨gw, p * 128, none⟩)) | 5 => (.pointer (some ⟨gw, p * 128 + b, none⟩)) | 6 => (.int .u8 (nth (S p) b)) | 7 => (.slice (some ⟨gi, oi, none⟩) N ci) | 8 => (.int .i64 (p : Int)) | 9 => (.int .i64 (b : Int)) | 10 => (.pointer (some ⟨gi, oi + p * 128, none⟩)) | 11 => (.pointer (some ⟨gi, oi + p * 128 + b, none⟩)) | 12 => (.int .u8 (nth (S p) b)) | _ => (.bool false)) ?_ ?_
                            · intro i' o ho0 ho a' w' hB hS hF
                              have hi' : i' = 0 ∨ i' = 1 ∨ i' = 2 ∨ i' = 3 ∨ i' = 4 ∨ i' = 5 ∨ i' = 6 ∨ i' = 7 ∨ i' = 8 ∨ i' = 9 ∨ i' = 10 ∨ i' = 11 ∨ i' = 12 ∨ i' = 13 := by omega
                              have hg33 := (hop hB hg33).1
                              have hcW3 := (hop hB hcW3).1
                              have hcI3 := (hop hB hcI3).1
                              rcases hi' with rfl | rfl | rfl | rfl | rfl | rfl | rfl | rfl | rfl | rfl | rfl | rfl | rfl | rfl
                              all_goals (have ho' := Option.some.inj ho; subst ho')
                              · have q4 : a'.tmps[4]?.getD undef = (.pointer (some ⟨g3, 0, none⟩)) := gtx ((hS 4 (by decide)).trans rfl)
                                refine wpOp_val_g rfl (wanted_free rfl) ?_ ⟨rfl, hB⟩
                                simp [go_sem, q4]
                              · have q180 := gtx (hF 0 (by decide) _ 180 rfl rfl)
                                refine wpOp_val_g rfl (wanted_free rfl) ?_ ⟨rfl, hB⟩
                                simp [go_sem, q180, hg33]
                              · have q17 : a'.tmps[17]?.getD undef = (.int .i64 (p : Int)) := gtx ((hS 17 (by decide)).trans rfl)
                                refine wpOp_val_g rfl (wanted_free rfl) ?_ ⟨rfl, hB⟩
                                simp [go_sem, q17]
                              · have q18 : a'.tmps[18]?.getD undef = (.int .i64 (b : Int)) := gtx ((hS 18 (by decide)).trans rfl)
                                refine wpOp_val_g rfl (wanted_free rfl) ?_ ⟨rfl, hB⟩
                                simp [go_sem, q18]
                              · have q181 := gtx (hF 1 (by decide) _ 181 rfl rfl)
                                have q182 := gtx (hF 2 (by decide) _ 182 rfl rfl)
                                refine wpOp_val_g rfl (wanted_free rfl) ?_ ⟨rfl, hB⟩
                                simp [go_sem, q181, q182, hpp, hpi, hpN]
                              · have q184 := gtx (hF 4 (by decide) _ 184 rfl rfl)
                                have q183 := gtx (hF 3 (by decide) _ 183 rfl rfl)
                                refine wpOp_val_g rfl (wanted_free rfl) ?_ ⟨rfl, hB⟩
                                simp [go_sem, q184, q183, hb0, hbi, hb128]
                              · have q185 := gtx (hF 5 (by decide) _ 185 rfl rfl)
                                refine wpOp_val_g rfl (wanted_free rfl) ?_ ⟨rfl, hB⟩
                                simp [go_sem, q185, hcW3, hcw]
                              · have q0 : a'.tmps[0]?.getD undef = (.slice (some ⟨gi, oi, none⟩) N ci) := gtx ((hS 0 (by decide)).trans rfl)
                                refine wpOp_val_g rfl (wanted_free rfl) ?_ ⟨rfl, hB⟩
                                simp [go_sem, q0]
                              · have q17 : a'.tmps[17]?.getD undef = (.int .i64 (p : Int)) := gtx ((hS 17 (by decide)).trans rfl)
                                refine wpOp_val_g rfl (wanted_free rfl) ?_ ⟨rfl, hB⟩
                                simp [go_sem, q17]
                              · have q18 : a'.tmps[18]?.getD undef = (.int .i64 (b : Int)) := gtx ((hS 18 (by decide)).trans rfl)
                                refine wpOp_val_g rfl (wanted_free rfl) ?_ ⟨rfl, hB⟩
                                simp [go_sem, q18]
                              · have q187 := gtx (hF 7 (by decide) _ 187 rfl rfl)
                                have q188 := gtx (hF 8 (by decide) _ 188 rfl rfl)
                                refine wpOp_val_g rfl (wanted_free rfl) ?_ ⟨rfl, hB⟩
                                simp [go_sem, q187, q188, hpp, hpi, hpN]
                              · have q190 := gtx (hF 10 (by decide) _ 190 rfl rfl)
                                have q189 := gtx (hF 9 (by decide) _ 189 rfl rfl)
                                refine wpOp_val_g rfl (wanted_free rfl) ?_ ⟨rfl, hB⟩
                                simp [go_sem, q190, q189, hb0, hbi, hb128]
                              · have q191 := gtx (hF 11 (by decide) _ 191 rfl rfl)
                                refine wpOp_val_g rfl (wanted_free rfl) ?_ ⟨rfl, hB⟩
                                simp [go_sem, q191, hcI3, hci]
                              · have q186 := gtx (hF 6 (by decide) _ 186 rfl rfl)
                                have q192 := gtx (hF 12 (by decide) _ 192 rfl rfl)
                                refine wpOp_val_g rfl (wanted_free rfl) ?_ ⟨rfl, hB⟩
                                simp [go_sem, q186, q192]
                            intro w16 hB16
                            simp only [putAll, List.take, List.drop, List.take_succ_cons, List.drop_succ_cons, Act.put, List.setIfInBounds_toArray, List.set_cons_zero, List.set_cons_succ]
                            go_wp2_with fail
                            go_roundw
                            case rel => exact ⟨b + 1, by go_num, by omega, Lib.hid (below_call HF3.out hB16 HF3.out.size)⟩
                            case measure => (show 128 - (b + 1) < 128 - b); omega
                          · have HF4 := Lib.hid (below_call HF2.out HF3.out HF2.out.size)
                            go_wp2_with fail
                            go_roundw
                            case rel => exact ⟨m + 1, by go_num, by omega, HF4⟩
                            case measure => (show n - (m + 1) < n - m); omega
                        · have hbi : ¬ (b : Int) < 128 := by omega
                          have HF4 := Lib.hid (below_call HF2.out HF3.out HF2.out.size)
                          go_wp2_with fail
                          go_roundw
                          case rel => exact ⟨m + 1, by go_num, by omega, HF4⟩
                          case measure => (show n - (m + 1) < n - m); omega
                · have hmi : ¬ (m : Int) < (n : Int) := by omega
                  have HFk := Lib.hid (below_call HF13.out HF2.out HF13.out.size)
                  go_wp2_with fail
                  go_roundw
                  case rel => exact ⟨k + 1, by go_num, by omega, by omega, HFk⟩
                  case measure => (show Yn + 1 - (k + 1) < Yn + 1 - k); omega
      · have hkYi : ¬ (k : Int) ≤ (Yn : Int) := by omega
        have HEND := Lib.hid (below_call HB6.out HF.out HB6.out.size)
        go_wp2_with fail
        go_ret
        exact ⟨rfl, HEND.out⟩
  · have hE := lookE_or3 hne
    generalize lookE N S = E at *
    have hB3 : Below w2.heap.size w2 (w2.alloc (.cells repNil 26)) := (Below.refl _ _).alloc (Nat.le_refl _) _
    have HB3 := Lib.hid (below_call HB2.out hB3 HB2.out.size)
    clear hB3 hne
    unfold repNil at *
    rcases hE with rfl | rfl
    all_goals
      go_wp2_with fail
      go_ret
      exact ⟨rfl, HB3.out⟩
end Go.Proofs.YthioepdgnbdohaaGreat
