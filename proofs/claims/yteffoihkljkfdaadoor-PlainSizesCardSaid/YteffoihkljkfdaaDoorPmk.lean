/- make: the walk. -/
import Derived.Test.YteffoihkljkfdaaDoorPmp
namespace Go.Proofs.YteffoihkljkfdaaDoor
set_option linter.unusedSimpArgs false
set_option linter.unusedVariables false
open Go.RowKit

theorem make_e1 {S : PS} {l : List ByteArray} {k m : Int} (h : (S.last l).e ≠ 0) : S.make l k m = (S, .err (S.last l).e) := by unfold PS.make; rw [if_pos h]
theorem make_e2 {S : PS} {l : List ByteArray} {k m : Int} (h : (S.last l).e = 0) (h2 : ((S.nd (S.last l).d).names (S.last l).name).isSome = true) : S.make l k m = (S, .err 111) := by unfold PS.make; rw [if_neg (by simp [h]), if_pos h2]
theorem make_e3 {S : PS} {l : List ByteArray} {k m : Int} (h : (S.last l).e = 0) (h2 : (S.nd (S.last l).d).names (S.last l).name = none) (h3 : S.freeI = 0) : S.make l k m = (S, .err 81) := by unfold PS.make; rw [if_neg (by simp [h]), if_neg (by simp [h2]), if_pos h3]
theorem make_e4 {S : PS} {l : List ByteArray} {k m : Int} (h : (S.last l).e = 0) (h2 : (S.nd (S.last l).d).names (S.last l).name = none) (h3 : S.freeI ≠ 0) (h4 : (S.place (S.nd (S.last l).d)).2 ≠ 0) : S.make l k m = (S, .err (S.place (S.nd (S.last l).d)).2) := by unfold PS.make; rw [if_neg (by simp [h]), if_neg (by simp [h2]), if_neg h3, if_pos h4]
theorem make_ok {S : PS} {l : List ByteArray} {k m : Int} (h : (S.last l).e = 0) (h2 : (S.nd (S.last l).d).names (S.last l).name = none) (h3 : S.freeI ≠ 0) (h4 : (S.place (S.nd (S.last l).d)).2 = 0) :
    S.make l k m = (S.made (S.last l).d S.freeI (S.place (S.nd (S.last l).d)).1 k m (S.last l).name, ⟨0, (S.made (S.last l).d S.freeI (S.place (S.nd (S.last l).d)).1 k m (S.last l).name).stat S.freeI, [], []⟩) := by
  unfold PS.make
  rw [if_neg (by simp [h]), if_neg (by simp [h2]), if_neg h3, if_neg (by simp [h4])]
  rfl
theorem place_code (S : PS) (d : Nd) : (S.place d).2 = 0 ∨ (S.place d).2 = 112 ∨ (S.place d).2 = 80 := by
  unfold PS.place
  split
  · exact .inl rfl
  · split
    · exact .inr (.inl rfl)
    · split
      · exact .inr (.inr rfl)
      · exact .inl rfl
theorem last_code (S : PS) (l : List ByteArray) : (S.last l).e = 0 ∨ (S.last l).e = 110 ∨ (S.last l).e = 113 ∨ (S.last l).e = 143 := by
  unfold PS.last
  split
  · exact .inr (.inr (.inr rfl))
  · simp only
    have := (walk_code S l.dropLast 1).1
    split
    · exact .inr (.inr (.inl rfl))
    · rcases this with h | h | h
      · exact .inl h
      · exact .inr (.inl h)
      · exact .inr (.inr (.inl h))
set_option maxHeartbeats 16000000 in
set_option maxRecDepth 100000 in
theorem make_any {w : World} {gp bn c : Nat} {S : PS} {A : Int → NA} {own : Nat → Option (Int × Nat)} (h : PW w gp bn c S A own) {v : Value} {l : List ByteArray} {B : Nat} (hv : Strs w B v l) (hl : ∀ s ∈ l, 0 < s.size ∧ s.size ≤ 40) {kind made : Int} (hk : kind = 1 ∨ kind = 2) (hm : 0 ≤ made ∧ made ≤ 1099511627776) :
    Calls Tryd.prog 48 #[.pointer (some ⟨gp, 0, none⟩), v, .int .i64 kind, .int .i64 made] w fun e w' => ∃ own' av, e = .returned av ∧ AnsAt w' w.heap.size own' av (S.make l kind made).2 ∧ Mvd w w' gp bn own (S.make l kind made).1 own' := by
  have H := Lib.hid h
  have HV := Lib.hid hv
  have HL := Lib.hid hl
  obtain ⟨w0, hw0⟩ : ∃ x, x = w.alloc (.cells ans0 37) := ⟨_, rfl⟩
  obtain ⟨ga, hgae⟩ : ∃ x, x = w.heap.size := ⟨_, rfl⟩
  have HGAE := Lib.hid (show w.heap.size ≤ ga by omega)
  have HG0 := Lib.hid (show hat w0 ga = some (.cells ans0 37) by rw [hw0, hgae]; exact (hopN w _).1)
  have HF0 := Lib.hid (show Fr [] w w0 by rw [hw0]; exact fr_new w _ [])
  clear h hv hl
  go_enter Tryd.func48, Tryd.ntmps48
  go_upto_region 1 with fail
  have hw0' : w0 = w.alloc (.cells #[.int .i64 0, .int .i64 0, .int .i64 0, .int .i64 0, .int .i64 0, .int .i64 0, .int .i64 0, .slice none 0 0, .slice none 0 0, .bool false] 37) := hw0
  rw [← hw0', ← hgae]
  clear hw0' hw0 hgae
  go_wp2_with fail
  refine (last_any (H.out.t.fr HF0.out (by simp)) H.out.f (B := 0) (HV.out.fr' HF0.out) (fun s hs => (HL.out s hs).2)).mono ?_; rintro e w1 ⟨rfl, hb1⟩
  have HF1 := Lib.hid (HF0.out.trans (fr_below hb1 []))
  have HG1 := Lib.hid (hop hb1 HG0.out).1
  clear hb1 HG0 HF0
  obtain ⟨d, hd⟩ : ∃ x, x = (S.last l).d := ⟨_, rfl⟩
  obtain ⟨name, hname⟩ : ∃ x, x = (S.last l).name := ⟨_, rfl⟩
  obtain ⟨e, he⟩ : ∃ x, x = (S.last l).e := ⟨_, rfl⟩
  rw [← hd, ← hname, ← he]
  have HLN := Lib.hid (show d = (S.last l).d ∧ name = (S.last l).name ∧ e = (S.last l).e from ⟨hd, hname, he⟩)
  have HLC := Lib.hid (show e = 0 ∨ e = 110 ∨ e = 113 ∨ e = 143 by rw [he]; exact last_code S l)
  clear hd hname he
  by_cases he0 : e = 0
  · subst he0
    obtain ⟨a1, a2, a3⟩ := last_ok H.out.f (HLN.out.2.2.symm)
    rw [← HLN.out.1] at a1 a2
    rw [← HLN.out.2.1] at a3
    have hn := PS.nd_get a1
    have HD := Lib.hid (show S.nodes d = some (S.nd d) ∧ (S.nd d).kind = 2 from ⟨hn, a2⟩)
    have HNM := Lib.hid (show 0 < name.size ∧ name.size ≤ 40 from HL.out _ a3)
    have hT1 := H.out.t.fr HF1.out (by simp)
    have hp1 := hT1.p
    have hpl1 := hat_lt hp1
    have hlk := hT1.look_yes hn
    have hh1 := (hT1.n d _ hn).h
    have hhl1 := hat_lt hh1
    have HT1 := Lib.hid hT1
    cases hnm : (S.nd d).names name with
    | some j =>
      have hln := look_name_yes (hT1.n d _ hn) hnm
      have HQ := Lib.hid (show S.make l kind made = (S, .err 111) from make_e2 HLN.out.2.2.symm (by rw [← HLN.out.1, ← HLN.out.2.1, hnm]; rfl))
      clear hnm hn hT1 a1 a2 a3
      have hga := HG1.out
      unfold ans0 at hga
      have hgal := hat_lt hga
      go_wp2_with fail
      refine ret_c row37 rfl (cs := #[.int .i64 111, .int .i64 0, .int .i64 0, .int .i64 0, .int .i64 0, .int .i64 0, .int .i64 0, .slice none 0 0, .slice none 0 0, .bool false]) rfl (hat_setRow_at _ _ _ _ _ _ HG1.out) rfl rfl ?_
      exact ⟨own, _, rfl, by rw [HQ.out]; exact ans_err _ _ _ _, by rw [HQ.out]; exact H.out.stay (((((HF1.out).mono (ex' := [ga]) (by simp)).trans (fr_setRow _ ga _)).past (ex' := []) (fun g hg => .inr (by have := HGAE.out; simp at hg; omega)))).bl⟩
    | none =>
      have hln := look_name_no (hT1.n d _ hn) (s := name) (by have := HNM.out; unfold maxLen; omega) hnm
      have HNN := Lib.hid hnm
      clear hnm hn hT1 a1 a2 a3
      go_wp2_with fail
      refine (free_any HT1.out H.out.o).mono ?_; rintro e w2 ⟨rfl, rfl⟩
      obtain ⟨i, hi⟩ : ∃ x, x = S.freeI := ⟨_, rfl⟩
      rw [← hi]
      have HI := Lib.hid hi
      clear hi
      by_cases hi0 : i = 0
      · subst hi0
        have HQ := Lib.hid (show S.make l kind made = (S, .err 81) from make_e3 HLN.out.2.2.symm (by rw [← HLN.out.1, ← HLN.out.2.1, HNN.out]) HI.out.symm)
        have hga := HG1.out
        unfold ans0 at hga
        have hgal := hat_lt hga
        go_wp2_with fail
        refine ret_c row37 rfl (cs := #[.int .i64 81, .int .i64 0, .int .i64 0, .int .i64 0, .int .i64 0, .int .i64 0, .int .i64 0, .slice none 0 0, .slice none 0 0, .bool false]) rfl (hat_setRow_at _ _ _ _ _ _ HG1.out) rfl rfl ?_
        exact ⟨own, _, rfl, by rw [HQ.out]; exact ans_err _ _ _ _, by rw [HQ.out]; exact H.out.stay (((((HF1.out).mono (ex' := [ga]) (by simp)).trans (fr_setRow _ ga _)).past (ex' := []) (fun g hg => .inr (by have := HGAE.out; simp at hg; omega)))).bl⟩
      · have hi0' : ¬ S.freeI = 0 := by rw [← HI.out]; exact hi0
        have HFI := Lib.hid (show 2 ≤ i ∧ i ≤ S.inodes ∧ S.nodes i = none by rw [HI.out]; exact freeI_ok hi0')
        have HI0 := Lib.hid hi0'
        clear hi0'
        go_wp2_with fail
        refine (place_any HT1.out H.out.o (HT1.out.n d _ HD.out.1) (H.out.o.n d _ HD.out.1)).mono ?_; rintro e w3 ⟨rfl, hb3⟩
        obtain ⟨k, hkk⟩ : ∃ x, x = (S.place (S.nd d)).1 := ⟨_, rfl⟩
        obtain ⟨e2, he2⟩ : ∃ x, x = (S.place (S.nd d)).2 := ⟨_, rfl⟩
        rw [← hkk, ← he2]
        have HPL := Lib.hid (show k = (S.place (S.nd d)).1 ∧ e2 = (S.place (S.nd d)).2 from ⟨hkk, he2⟩)
        have HF3 := Lib.hid (HF1.out.trans (fr_below hb3 []))
        have HG3 := Lib.hid (hop hb3 HG1.out).1
        clear hkk he2 hb3 hlk hln hh1 hhl1 hp1 hpl1 HT1 HG1 HF1
        have hT3 := H.out.t.fr HF3.out (by simp)
        have hp3 := hT3.p
        have hpl3 := hat_lt hp3
        have HT3 := Lib.hid hT3
        clear hT3
        by_cases he2 : e2 = 0
        · subst he2
          have HQ := Lib.hid (make_ok (k := kind) (m := made) HLN.out.2.2.symm (by rw [← HLN.out.1, ← HLN.out.2.1, HNN.out]) HI0.out (by rw [← HLN.out.1, ← HPL.out.2]))
          have hmm := @run_makeMap Tryd.prog
          rcases hk with rfl | rfl
          · have hq := HQ.out
            rw [← HI.out, ← HLN.out.1, ← HPL.out.1, ← HLN.out.2.1] at hq
            have hsw := make_wf (kind := 1) H.out.o H.out.f HL.out (by simp) hm
            rw [hq] at hsw
            have HSW := Lib.hid hsw
            have HQQ := Lib.hid hq
            have HKK := Lib.hid (show k = (S.nd d).slots.length ∧ (S.nd d).slots.length < 1068 ∨ ∃ j : Nat, k = j ∧ j < (S.nd d).slots.length from by
              rcases place_ok (S := S) (d := S.nd d) (H.out.o.n d _ HD.out.1).sl HPL.out.2.symm with h | ⟨j, h⟩
              · exact .inl ⟨by rw [HPL.out.1]; exact h.1, h.2.1⟩
              · exact .inr ⟨j, by rw [HPL.out.1]; exact h.1, h.2.1⟩)
            clear hq hsw HQ
            go_upto_region 16 with fail
            obtain ⟨w4, hw4⟩ : ∃ x, x = (w3.alloc (.map #[] 0)).alloc (.cells #[.int .i64 1, .int .i64 1, .int .i64 0, .int .i64 made, .map (some w3.heap.size), .slice none 0 0, .map none] 74) := ⟨_, rfl⟩
            obtain ⟨an, han⟩ : ∃ x, x = (⟨w3.heap.size + 1, some w3.heap.size, none, none, .map (some w3.heap.size), .map none, .slice none 0 0, 0, 0⟩ : NA) := ⟨_, rfl⟩
            have hfr := fresh1 w3 made
            rw [← hw4, ← han] at hfr
            rw [← hw4]
            obtain ⟨gd, hgd⟩ : ∃ x, x = w3.heap.size := ⟨_, rfl⟩
            obtain ⟨gn, hgn⟩ : ∃ x, x = gd + 1 := ⟨_, rfl⟩
            rw [← hgd, ← hgn] at han
            rw [← hgd, ← hgn]
            have HF4 := Lib.hid (HF3.out.trans hfr.2)
            have HAN := Lib.hid (show an.g = gn ∧ an.db = some gd ∧ an.sb = none ∧ (∀ b, an.nb = some b → b = gn + 1) ∧ ((1 : Int) = 2 → an.nb.isSome = true) from by rw [han]; exact ⟨rfl, rfl, rfl, fun b hb => (by cases hb), fun h => absurd h (by decide)⟩)
            have HS4 := Lib.hid (show w.heap.size ≤ gd ∧ gn = gd + 1 ∧ gn < w4.heap.size ∧ (∀ b, an.nb = some b → b < w4.heap.size) ∧ ga < gd from ⟨by rw [hgd]; exact HF3.out.size, hgn, by have := (hfr.1.lts).1; rw [HAN.out.1] at this; exact this, hfr.1.lts.2.2.2, by rw [hgd]; exact hat_lt HG3.out⟩)
            have HN4 := Lib.hid hfr.1
            have HG4 := Lib.hid ((hfr.2.block _ (hat_lt HG3.out) (by simp)).trans HG3.out)
            clear hfr hw4 han hgd hgn hmm hp3 hpl3 HT3 HG3 HF3
            obtain ⟨hdn, hdk⟩ := HD.out
            have hT4 := H.out.t.fr HF4.out (by simp)
            have hcb : c ≤ 513 := by rw [H.out.t.cnt H.out.o]; exact cntB_le _ _
            have hii : i64ok i := by have := HFI.out; have := H.out.o.i; exact ⟨by omega, by omega⟩
            obtain ⟨w5, hr5, hm5, ht5⟩ := hT4.m.put (t := 75) (e := 69) Tryd.underlying75 (by unfold maxLen; omega) (x := i) hii (.pointer (some ⟨gn, 0, none⟩))
            have hr5 : (Instr.mapUpdate 75 (.map (some bn)) (.int .i64 i) (.pointer (some ⟨gn, 0, none⟩))).run Tryd.prog w4 = .ok () w5 := hr5
            have hf5 := fr_turned ht5
            have hbn := H.out.t.m.lt
            have hgpb : gp ≠ bn := fun e => by have h1 := H.out.t.op.1; rw [e, H.out.t.op.2] at h1; cases h1
            have hp4 := hT4.p
            have hpl4 := hat_lt hp4
            have hp5 : hat w5 gp = _ := (hf5.block gp hpl4 (by simpa using hgpb)).trans hp4
            have hpl5 := hat_lt hp5
            have hdi : d ≠ i := fun e => by have h1 := HFI.out.2.2; rw [← e, hdn] at h1; cases h1
            have hlk5 : (Instr.lookup 75 (.map (some bn)) (.int .i64 d) false).run Tryd.prog w5 = .ok (.pointer (some ⟨(A d).g, 0, none⟩)) w5 := by
              have h1 := hm5.lookc (e := 69) Tryd.underlying75 (z := .pointer none) (by kernel_rfl) (x := d) (H.out.t.m.okey (x := d) (by rw [ptrM_key, hdn]; rfl))
              rw [if_neg hdi, ptrM_key, hdn] at h1
              exact h1
            have HF5 := Lib.hid ((HF4.out.mono (ex' := [bn]) (by simp)).trans hf5)
            have hN5 := H.out.t.other hdn HF5.out (fun b hb q hq => by
              simp at hb
              rw [hb, H.out.t.op.2] at hq
              cases hq
              have := H.out.o.k d (by rw [hdn]; rfl)
              show (-1 : Int) ≠ d
              omega)
            have HN5 := Lib.hid hN5
            have HNN5 := Lib.hid (HN4.out.fr hf5 (by have := HAN.out.1; have := HS4.out; simp; omega) (fun b hb => by have := HAN.out.2.1; rw [this] at hb; cases hb; have := HS4.out; simp; omega) (fun b hb => by have := HAN.out.2.2.1; rw [this] at hb; cases hb) (fun b hb => by have := HAN.out.2.2.2.1 b hb; have := HS4.out; simp; omega))
            have HM5 := Lib.hid hm5
            have HG5 := Lib.hid ((hf5.block _ (hat_lt HG4.out) (by have := HGAE.out; simp; omega)).trans HG4.out)
            obtain ⟨nb, hnb⟩ := Option.isSome_iff_exists.1 ((H.out.h d _ hdn).1 hdk)
            have HNB := Lib.hid hnb
            have HSZ := Lib.hid (show w4.heap.size ≤ w5.heap.size from hf5.size)
            clear hT4 hm5 hf5 ht5 hN5 hnb HN4 HF4 HG4
            go_wp2_with fail
            obtain ⟨ap1, ap2, ap3⟩ := H.out.t.apart hdn
            refine (set_any HN5.out (H.out.o.n d _ hdn) (fun s j h => ((H.out.f.n d _ hdn).nm s j h).1) HNB.out (ap1 nb HNB.out) (fun b hb => ⟨(ap2 b hb).1, (ap2 b hb).2 nb HNB.out⟩) (fun b hb => ⟨(ap3 b hb).1, (ap3 b hb).2.1 nb HNB.out, (ap3 b hb).2.2⟩) HKK.out (show name.size ≤ maxLen from by have := HNM.out; unfold maxLen; omega) hii).mono ?_
            rintro e w6 ⟨rfl, a', h1, h2, h3, h4, h5, h6⟩
            have hltd := (H.out.t.n d _ hdn).lts
            have hold : ∀ b ∈ (A d).g :: nb :: (A d).sb.toList, b < w.heap.size := fun b hb => by
              simp at hb
              rcases hb with rfl | rfl | hb
              · exact hltd.1
              · exact hltd.2.2.2 _ HNB.out
              · exact hltd.2.2.1 _ hb
            have hbx : bn ∉ (A d).g :: nb :: (A d).sb.toList := fun hm => by
              have hog := H.out.t.og d _ hdn
              have hob := H.out.t.op.2
              simp at hm
              rcases hm with e | e | e
              · rw [e, hog.1] at hob; cases hob
              · rw [e, hog.2.2.2 _ HNB.out] at hob; cases hob
              · rw [hog.2.2.1 _ e] at hob; cases hob
            have hgex : ∀ b, w.heap.size ≤ b → b ∉ (A d).g :: nb :: (A d).sb.toList := fun b hb hm => by have := hold b hm; omega
            obtain ⟨own', ⟨A', hpw⟩, ho, hga, hun⟩ := made_pw (w := w) (w6 := w6) H.out (d := d) (i := i) (k := k) (kind := 1) (made := made) (name := name) (an := an) (a' := a') (nb := nb) (gd := gd) hdn hdk HFI.out.2.2 HSW.out
              ((HF5.out.mono (ex' := bn :: (A d).g :: nb :: (A d).sb.toList) (by simp)).trans (h6.mono (fun b hb => .tail _ hb))) HNB.out (by rw [HAN.out.1]; exact HM5.out.fr h6 hbx)
              (HNN5.out.fr h6 (hgex _ (by have := HAN.out.1; have := HS4.out; omega)) (fun b hb => hgex _ (by have h7 := HAN.out.2.1; rw [h7] at hb; cases hb; exact HS4.out.1)) (fun b hb => by have h7 := HAN.out.2.2.1; rw [h7] at hb; cases hb) (fun b hb => hgex _ (by have h7 := HAN.out.2.2.2.1 b hb; have h8 := HS4.out; omega))) h5
              (by have h7 := HAN.out.1; have h8 := HS4.out; omega) HAN.out.2.2.1 HAN.out.2.1 (by have h7 := HAN.out.1; have h8 := HS4.out; omega) (fun b hb => by have h6 := HAN.out.1; have h7 := HAN.out.2.2.2.1 b hb; have h8 := HS4.out; omega) (fun h => HAN.out.2.2.2.2 (by first | exact h | trivial))
              h1 h2 h3 (h4.imp id fun ⟨g, e1, e2⟩ => ⟨g, e1, by have h8 := HS4.out; have h9 := HSZ.out; omega, by have h7 := HAN.out.1; have h8 := HS4.out; have h9 := HSZ.out; omega, by have h8 := HS4.out; have h9 := HSZ.out; omega, fun h10 => by have h8 := HS4.out.2.2.2.1 g h10; have h9 := HSZ.out; omega⟩)
            have hgan := hga ga HGAE.out (by have h7 := HAN.out.1; have h8 := HS4.out; omega) (by have h8 := HS4.out; omega) (fun h10 => by have h7 := HAN.out.2.2.2.1 _ h10; have h8 := HS4.out; omega) (fun h10 => by
              rcases h4 with e | ⟨g, e1, e2⟩
              · rw [e] at h10; have := hltd.2.2.1 _ h10; have := HGAE.out; omega
              · rw [e1] at h10; cases h10; have h8 := HS4.out; have h9 := HSZ.out; omega)
            have HPW := Lib.hid hpw
            have HO := Lib.hid ho
            have HGN := Lib.hid hgan
            have HUN := Lib.hid hun
            have HG6 := Lib.hid ((h6.block _ (hat_lt HG5.out) (hgex _ HGAE.out)).trans HG5.out)
            clear h1 h2 h3 h4 h5 h6 hpw ho hgan hun hga hgex hbx hold hltd ap1 ap2 ap3 HM5 HNN5 HN5 HF5 HG5 hlk5 hp5 hpl5 hp4 hpl4 hr5 HSZ
            go_wp2_with fail
            refine (stat_any HPW.out.t HPW.out.o (i := i) (show (if i = d then _ else if i = i then _ else _ : Option Nd).isSome = true from by rw [if_neg (Ne.symm hdi), if_pos rfl]; rfl)).mono ?_; rintro e w7 ⟨rfl, hb7⟩
            have HG7 := Lib.hid (hop hb7 HG6.out).1
            have HB7 := Lib.hid hb7
            clear hb7
            have HST : Hid ((S.make l 1 made).2 = ⟨0, (S.made d i k 1 made name).stat i, [], []⟩) := Lib.hid (by rw [HQQ.out])
            generalize (S.made d i k 1 made name).stat i = st at *
            obtain ⟨s1, s2, s3, s4, s5, s6⟩ := st
            have hsv : (Sta.mk s1 s2 s3 s4 s5 s6).val = .agg #[.int .i64 s1, .int .i64 s2, .int .i64 s3, .int .i64 s4, .int .i64 s5, .int .i64 s6] := rfl
            rw [hsv]
            clear hsv
            have hg7 := HG7.out
            unfold ans0 at hg7
            have hgl7 := hat_lt hg7
            go_wp2_with fail
            refine ret_c row37 rfl (cs := #[.int .i64 0, .int .i64 s1, .int .i64 s2, .int .i64 s3, .int .i64 s4, .int .i64 s5, .int .i64 s6, .slice none 0 0, .slice none 0 0, .bool false]) rfl (hat_setRow_at _ _ _ _ _ _ HG7.out) rfl rfl ?_
            refine ⟨own', _, rfl, by rw [HST.out]; exact ans_stat _ _ _ ⟨s1, s2, s3, s4, s5, s6⟩, ?_⟩
            rw [HQQ.out]
            have hfr8 := ((fr_below HB7.out [ga]).trans (fr_setRow w7 ga #[.int .i64 0, .int .i64 s1, .int .i64 s2, .int .i64 s3, .int .i64 s4, .int .i64 s5, .int .i64 s6, .slice none 0 0, .slice none 0 0, .bool false]))
            exact ⟨⟨_, A', HPW.out.fr hfr8 (by simp; exact HGN.out)⟩, HUN.out.later hfr8 (by simp; exact HGAE.out), HO.out⟩
          · have hq := HQ.out
            rw [← HI.out, ← HLN.out.1, ← HPL.out.1, ← HLN.out.2.1] at hq
            have hsw := make_wf (kind := 2) H.out.o H.out.f HL.out (by simp) hm
            rw [hq] at hsw
            have HSW := Lib.hid hsw
            have HQQ := Lib.hid hq
            have HKK := Lib.hid (show k = (S.nd d).slots.length ∧ (S.nd d).slots.length < 1068 ∨ ∃ j : Nat, k = j ∧ j < (S.nd d).slots.length from by
              rcases place_ok (S := S) (d := S.nd d) (H.out.o.n d _ HD.out.1).sl HPL.out.2.symm with h | ⟨j, h⟩
              · exact .inl ⟨by rw [HPL.out.1]; exact h.1, h.2.1⟩
              · exact .inr ⟨j, by rw [HPL.out.1]; exact h.1, h.2.1⟩)
            clear hq hsw HQ
            go_upto_region 16 with fail
            obtain ⟨w4, hw4⟩ : ∃ x, x = ((w3.alloc (.map #[] 0)).alloc (.cells #[.int .i64 2, .int .i64 1, .int .i64 0, .int .i64 made, .map (some w3.heap.size), .slice none 0 0, .map (some (w3.heap.size + 1 + 1))] 74)).alloc (.map #[] 0) := ⟨_, rfl⟩
            obtain ⟨an, han⟩ : ∃ x, x = (⟨w3.heap.size + 1, some w3.heap.size, some (w3.heap.size + 1 + 1), none, .map (some w3.heap.size), .map (some (w3.heap.size + 1 + 1)), .slice none 0 0, 0, 0⟩ : NA) := ⟨_, rfl⟩
            have hfr := fresh2 w3 made
            rw [← hw4, ← han] at hfr
            rw [← hw4]
            obtain ⟨gd, hgd⟩ : ∃ x, x = w3.heap.size := ⟨_, rfl⟩
            obtain ⟨gn, hgn⟩ : ∃ x, x = gd + 1 := ⟨_, rfl⟩
            rw [← hgd, ← hgn] at han
            rw [← hgd, ← hgn]
            have HF4 := Lib.hid (HF3.out.trans hfr.2)
            have HAN := Lib.hid (show an.g = gn ∧ an.db = some gd ∧ an.sb = none ∧ (∀ b, an.nb = some b → b = gn + 1) ∧ ((2 : Int) = 2 → an.nb.isSome = true) from by rw [han]; exact ⟨rfl, rfl, rfl, fun b hb => (by cases hb; rfl), fun h => rfl⟩)
            have HS4 := Lib.hid (show w.heap.size ≤ gd ∧ gn = gd + 1 ∧ gn < w4.heap.size ∧ (∀ b, an.nb = some b → b < w4.heap.size) ∧ ga < gd from ⟨by rw [hgd]; exact HF3.out.size, hgn, by have := (hfr.1.lts).1; rw [HAN.out.1] at this; exact this, hfr.1.lts.2.2.2, by rw [hgd]; exact hat_lt HG3.out⟩)
            have HN4 := Lib.hid hfr.1
            have HG4 := Lib.hid ((hfr.2.block _ (hat_lt HG3.out) (by simp)).trans HG3.out)
            clear hfr hw4 han hgd hgn hmm hp3 hpl3 HT3 HG3 HF3
            obtain ⟨hdn, hdk⟩ := HD.out
            have hT4 := H.out.t.fr HF4.out (by simp)
            have hcb : c ≤ 513 := by rw [H.out.t.cnt H.out.o]; exact cntB_le _ _
            have hii : i64ok i := by have := HFI.out; have := H.out.o.i; exact ⟨by omega, by omega⟩
            obtain ⟨w5, hr5, hm5, ht5⟩ := hT4.m.put (t := 75) (e := 69) Tryd.underlying75 (by unfold maxLen; omega) (x := i) hii (.pointer (some ⟨gn, 0, none⟩))
            have hr5 : (Instr.mapUpdate 75 (.map (some bn)) (.int .i64 i) (.pointer (some ⟨gn, 0, none⟩))).run Tryd.prog w4 = .ok () w5 := hr5
            have hf5 := fr_turned ht5
            have hbn := H.out.t.m.lt
            have hgpb : gp ≠ bn := fun e => by have h1 := H.out.t.op.1; rw [e, H.out.t.op.2] at h1; cases h1
            have hp4 := hT4.p
            have hpl4 := hat_lt hp4
            have hp5 : hat w5 gp = _ := (hf5.block gp hpl4 (by simpa using hgpb)).trans hp4
            have hpl5 := hat_lt hp5
            have hdi : d ≠ i := fun e => by have h1 := HFI.out.2.2; rw [← e, hdn] at h1; cases h1
            have hlk5 : (Instr.lookup 75 (.map (some bn)) (.int .i64 d) false).run Tryd.prog w5 = .ok (.pointer (some ⟨(A d).g, 0, none⟩)) w5 := by
              have h1 := hm5.lookc (e := 69) Tryd.underlying75 (z := .pointer none) (by kernel_rfl) (x := d) (H.out.t.m.okey (x := d) (by rw [ptrM_key, hdn]; rfl))
              rw [if_neg hdi, ptrM_key, hdn] at h1
              exact h1
            have HF5 := Lib.hid ((HF4.out.mono (ex' := [bn]) (by simp)).trans hf5)
            have hN5 := H.out.t.other hdn HF5.out (fun b hb q hq => by
              simp at hb
              rw [hb, H.out.t.op.2] at hq
              cases hq
              have := H.out.o.k d (by rw [hdn]; rfl)
              show (-1 : Int) ≠ d
              omega)
            have HN5 := Lib.hid hN5
            have HNN5 := Lib.hid (HN4.out.fr hf5 (by have := HAN.out.1; have := HS4.out; simp; omega) (fun b hb => by have := HAN.out.2.1; rw [this] at hb; cases hb; have := HS4.out; simp; omega) (fun b hb => by have := HAN.out.2.2.1; rw [this] at hb; cases hb) (fun b hb => by have := HAN.out.2.2.2.1 b hb; have := HS4.out; simp; omega))
            have HM5 := Lib.hid hm5
            have HG5 := Lib.hid ((hf5.block _ (hat_lt HG4.out) (by have := HGAE.out; simp; omega)).trans HG4.out)
            obtain ⟨nb, hnb⟩ := Option.isSome_iff_exists.1 ((H.out.h d _ hdn).1 hdk)
            have HNB := Lib.hid hnb
            have HSZ := Lib.hid (show w4.heap.size ≤ w5.heap.size from hf5.size)
            clear hT4 hm5 hf5 ht5 hN5 hnb HN4 HF4 HG4
            go_wp2_with fail
            obtain ⟨ap1, ap2, ap3⟩ := H.out.t.apart hdn
            refine (set_any HN5.out (H.out.o.n d _ hdn) (fun s j h => ((H.out.f.n d _ hdn).nm s j h).1) HNB.out (ap1 nb HNB.out) (fun b hb => ⟨(ap2 b hb).1, (ap2 b hb).2 nb HNB.out⟩) (fun b hb => ⟨(ap3 b hb).1, (ap3 b hb).2.1 nb HNB.out, (ap3 b hb).2.2⟩) HKK.out (show name.size ≤ maxLen from by have := HNM.out; unfold maxLen; omega) hii).mono ?_
            rintro e w6 ⟨rfl, a', h1, h2, h3, h4, h5, h6⟩
            have hltd := (H.out.t.n d _ hdn).lts
            have hold : ∀ b ∈ (A d).g :: nb :: (A d).sb.toList, b < w.heap.size := fun b hb => by
              simp at hb
              rcases hb with rfl | rfl | hb
              · exact hltd.1
              · exact hltd.2.2.2 _ HNB.out
              · exact hltd.2.2.1 _ hb
            have hbx : bn ∉ (A d).g :: nb :: (A d).sb.toList := fun hm => by
              have hog := H.out.t.og d _ hdn
              have hob := H.out.t.op.2
              simp at hm
              rcases hm with e | e | e
              · rw [e, hog.1] at hob; cases hob
              · rw [e, hog.2.2.2 _ HNB.out] at hob; cases hob
              · rw [hog.2.2.1 _ e] at hob; cases hob
            have hgex : ∀ b, w.heap.size ≤ b → b ∉ (A d).g :: nb :: (A d).sb.toList := fun b hb hm => by have := hold b hm; omega
            obtain ⟨own', ⟨A', hpw⟩, ho, hga, hun⟩ := made_pw (w := w) (w6 := w6) H.out (d := d) (i := i) (k := k) (kind := 2) (made := made) (name := name) (an := an) (a' := a') (nb := nb) (gd := gd) hdn hdk HFI.out.2.2 HSW.out
              ((HF5.out.mono (ex' := bn :: (A d).g :: nb :: (A d).sb.toList) (by simp)).trans (h6.mono (fun b hb => .tail _ hb))) HNB.out (by rw [HAN.out.1]; exact HM5.out.fr h6 hbx)
              (HNN5.out.fr h6 (hgex _ (by have := HAN.out.1; have := HS4.out; omega)) (fun b hb => hgex _ (by have h7 := HAN.out.2.1; rw [h7] at hb; cases hb; exact HS4.out.1)) (fun b hb => by have h7 := HAN.out.2.2.1; rw [h7] at hb; cases hb) (fun b hb => hgex _ (by have h7 := HAN.out.2.2.2.1 b hb; have h8 := HS4.out; omega))) h5
              (by have h7 := HAN.out.1; have h8 := HS4.out; omega) HAN.out.2.2.1 HAN.out.2.1 (by have h7 := HAN.out.1; have h8 := HS4.out; omega) (fun b hb => by have h6 := HAN.out.1; have h7 := HAN.out.2.2.2.1 b hb; have h8 := HS4.out; omega) (fun h => HAN.out.2.2.2.2 (by first | exact h | trivial))
              h1 h2 h3 (h4.imp id fun ⟨g, e1, e2⟩ => ⟨g, e1, by have h8 := HS4.out; have h9 := HSZ.out; omega, by have h7 := HAN.out.1; have h8 := HS4.out; have h9 := HSZ.out; omega, by have h8 := HS4.out; have h9 := HSZ.out; omega, fun h10 => by have h8 := HS4.out.2.2.2.1 g h10; have h9 := HSZ.out; omega⟩)
            have hgan := hga ga HGAE.out (by have h7 := HAN.out.1; have h8 := HS4.out; omega) (by have h8 := HS4.out; omega) (fun h10 => by have h7 := HAN.out.2.2.2.1 _ h10; have h8 := HS4.out; omega) (fun h10 => by
              rcases h4 with e | ⟨g, e1, e2⟩
              · rw [e] at h10; have := hltd.2.2.1 _ h10; have := HGAE.out; omega
              · rw [e1] at h10; cases h10; have h8 := HS4.out; have h9 := HSZ.out; omega)
            have HPW := Lib.hid hpw
            have HO := Lib.hid ho
            have HGN := Lib.hid hgan
            have HUN := Lib.hid hun
            have HG6 := Lib.hid ((h6.block _ (hat_lt HG5.out) (hgex _ HGAE.out)).trans HG5.out)
            clear h1 h2 h3 h4 h5 h6 hpw ho hgan hun hga hgex hbx hold hltd ap1 ap2 ap3 HM5 HNN5 HN5 HF5 HG5 hlk5 hp5 hpl5 hp4 hpl4 hr5 HSZ
            go_wp2_with fail
            refine (stat_any HPW.out.t HPW.out.o (i := i) (show (if i = d then _ else if i = i then _ else _ : Option Nd).isSome = true from by rw [if_neg (Ne.symm hdi), if_pos rfl]; rfl)).mono ?_; rintro e w7 ⟨rfl, hb7⟩
            have HG7 := Lib.hid (hop hb7 HG6.out).1
            have HB7 := Lib.hid hb7
            clear hb7
            have HST : Hid ((S.make l 2 made).2 = ⟨0, (S.made d i k 2 made name).stat i, [], []⟩) := Lib.hid (by rw [HQQ.out])
            generalize (S.made d i k 2 made name).stat i = st at *
            obtain ⟨s1, s2, s3, s4, s5, s6⟩ := st
            have hsv : (Sta.mk s1 s2 s3 s4 s5 s6).val = .agg #[.int .i64 s1, .int .i64 s2, .int .i64 s3, .int .i64 s4, .int .i64 s5, .int .i64 s6] := rfl
            rw [hsv]
            clear hsv
            have hg7 := HG7.out
            unfold ans0 at hg7
            have hgl7 := hat_lt hg7
            go_wp2_with fail
            refine ret_c row37 rfl (cs := #[.int .i64 0, .int .i64 s1, .int .i64 s2, .int .i64 s3, .int .i64 s4, .int .i64 s5, .int .i64 s6, .slice none 0 0, .slice none 0 0, .bool false]) rfl (hat_setRow_at _ _ _ _ _ _ HG7.out) rfl rfl ?_
            refine ⟨own', _, rfl, by rw [HST.out]; exact ans_stat _ _ _ ⟨s1, s2, s3, s4, s5, s6⟩, ?_⟩
            rw [HQQ.out]
            have hfr8 := ((fr_below HB7.out [ga]).trans (fr_setRow w7 ga #[.int .i64 0, .int .i64 s1, .int .i64 s2, .int .i64 s3, .int .i64 s4, .int .i64 s5, .int .i64 s6, .slice none 0 0, .slice none 0 0, .bool false]))
            exact ⟨⟨_, A', HPW.out.fr hfr8 (by simp; exact HGN.out)⟩, HUN.out.later hfr8 (by simp; exact HGAE.out), HO.out⟩
        · have HQ := Lib.hid (show S.make l kind made = (S, .err e2) from by rw [HPL.out.2, HLN.out.1]; exact make_e4 HLN.out.2.2.symm (by rw [← HLN.out.1, ← HLN.out.2.1, HNN.out]) HI0.out (by rw [← HLN.out.1, ← HPL.out.2]; exact he2))
          have hga := HG3.out
          unfold ans0 at hga
          have hgal := hat_lt hga
          go_wp2_with fail
          refine ret_c row37 rfl (cs := #[.int .i64 e2, .int .i64 0, .int .i64 0, .int .i64 0, .int .i64 0, .int .i64 0, .int .i64 0, .slice none 0 0, .slice none 0 0, .bool false]) rfl (hat_setRow_at _ _ _ _ _ _ HG3.out) rfl rfl ?_
          exact ⟨own, _, rfl, by rw [HQ.out]; exact ans_err _ _ _ _, by rw [HQ.out]; exact H.out.stay (((((HF3.out).mono (ex' := [ga]) (by simp)).trans (fr_setRow _ ga _)).past (ex' := []) (fun g hg => .inr (by have := HGAE.out; simp at hg; omega)))).bl⟩
  · have HQ := Lib.hid (show S.make l kind made = (S, .err e) from by rw [HLN.out.2.2]; exact make_e1 (by rw [← HLN.out.2.2]; exact he0))
    have hga := HG1.out
    unfold ans0 at hga
    have hgal := hat_lt hga
    go_wp2_with fail
    refine ret_c row37 rfl (cs := #[.int .i64 e, .int .i64 0, .int .i64 0, .int .i64 0, .int .i64 0, .int .i64 0, .int .i64 0, .slice none 0 0, .slice none 0 0, .bool false]) rfl (hat_setRow_at _ _ _ _ _ _ HG1.out) rfl rfl ?_
    exact ⟨own, _, rfl, by rw [HQ.out]; exact ans_err _ _ _ _, by rw [HQ.out]; exact H.out.stay (((((HF1.out).mono (ex' := [ga]) (by simp)).trans (fr_setRow _ ga _)).past (ex' := []) (fun g hg => .inr (by have := HGAE.out; simp at hg; omega)))).bl⟩
end Go.Proofs.YteffoihkljkfdaaDoor
