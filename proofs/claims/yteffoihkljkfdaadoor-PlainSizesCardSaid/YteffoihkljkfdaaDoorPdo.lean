/- Do: the walk. -/
import Derived.Test.YteffoihkljkfdaaDoorPde
import Derived.Test.YteffoihkljkfdaaDoorSpl
namespace Go.Proofs.YteffoihkljkfdaaDoor
set_option linter.unusedSimpArgs false
set_option linter.unusedVariables false
open Go.RowKit

/-- a refusal tells its code alone -/
def PS.told1 (r : PS × Ans) : PS × Ans := if r.2.code ≠ 0 then (r.1, .err r.2.code) else r
/-- an operation of one path -/
def PS.do1 (S : PS) (o : OpV) (F : List ByteArray → PS × Ans) : PS × Ans :=
  if mayZ o = false then (S, .err 150) else if (spl o.path).2 ≠ 0 then (S, .err (spl o.path).2) else PS.told1 (F (spl o.path).1)
theorem spl_names (p : ByteArray) : ∀ s ∈ (spl p).1, 0 < s.size ∧ s.size ≤ 40 := by
  intro s hs
  unfold spl at hs
  split at hs
  · cases hs
  · split at hs
    · cases hs
    · split at hs
      · cases hs
      · split at hs
        · rename_i h
          have := h s hs
          have h1 := this.1
          have h2 := this.2.1
          rw [len_data] at h1 h2
          omega
        · cases hs
set_option maxHeartbeats 8000000 in
set_option maxRecDepth 100000 in
theorem do_with {w : World} {gp bn c : Nat} {S : PS} {A : Int → NA} {own : Nat → Option (Int × Nat)} (h : PW w gp bn c S A own) {o : OpV} (h3 : o.kind ≠ 3) (h6 : o.kind ≠ 6) (h12 : o.kind ≠ 12) (h14 : o.kind ≠ 14) {dv : Value} (ho : OpAt w own o dv) {m : Int} (hm : w.cell? ⟨0, 0, none⟩ = some (.int .i64 m)) (F : List ByteArray → PS × Ans)
    (HF : ∀ (w1 : World) (fv : Value) (l : List ByteArray), mayZ o = true → PW w1 gp bn c S A (nrm w own) → OpAt w1 (nrm w own) o dv → Strs w1 0 fv l → (∀ s ∈ l, 0 < s.size ∧ s.size ≤ 40) →
      Calls Tryd.prog 27 #[.pointer (some ⟨gp, 0, none⟩), .agg (opV o dv), fv, .slice none 0 0] w1 fun e w' => ∃ own' av, e = .returned av ∧ AnsAt w' w1.heap.size own' av (F l).2 ∧ Mvd w1 w' gp bn (nrm w own) (F l).1 own') :
    Calls Tryd.prog 12 #[.pointer (some ⟨gp, 0, none⟩), .agg (opV o dv)] w fun e w' => ∃ own' av, e = .returned av ∧ AnsAt w' w.heap.size own' av (S.do1 o F).2 ∧ Mvd w w' gp bn own (S.do1 o F).1 own' := by
  have H := Lib.hid h.nrm
  have HO := Lib.hid ho
  have HFF := Lib.hid HF
  obtain ⟨od, hdr, hdn⟩ := ho.d
  obtain ⟨da, dc, rfl⟩ := hdr.slice
  have HR : Hid (S.do1 o F = if mayZ o = false then (S, .err 150) else if (spl o.path).2 ≠ 0 then (S, .err (spl o.path).2) else PS.told1 (F (spl o.path).1)) := Lib.hid rfl
  have HSP : Hid (∀ s ∈ (spl o.path).1, 0 < s.size ∧ s.size ≤ 40) := Lib.hid (spl_names o.path)
  generalize hR : S.do1 o F = R at *
  clear hR
  have HFN := Lib.hid (fun (w : World) => @fine_any w o da dc ho.l)
  generalize hM : mayZ o = M at *
  clear hM ho hdr hdn h HF
  obtain ⟨kind, path, dest, off, len, data, made, pick⟩ := o
  simp only at h3 h6 h12 h14 HR HSP
  have hb3 : (kind == 3) = false := by simpa using h3
  have hb6 : (kind == 6) = false := by simpa using h6
  have hb12 : (kind != 12) = true := by simpa using h12
  have hb14 : (kind != 14) = true := by simpa using h14
  clear h3 h6 h12 h14
  unfold opV at HFN HFF ⊢
  simp only at HFN HFF ⊢
  obtain ⟨w0, hw0⟩ : ∃ x, x = (w.alloc (.cells #[.int .i64 kind, .string path, .string dest, .int .i64 off, .int .i64 len, .slice da data.length dc, .int .i64 made, .int .i64 pick] 40)).alloc (.cells ans0 37) := ⟨_, rfl⟩
  obtain ⟨go, hgo⟩ : ∃ x, x = w.heap.size := ⟨_, rfl⟩
  obtain ⟨ga, hga⟩ : ∃ x, x = go + 1 := ⟨_, rfl⟩
  have hf0 : Fr [] w w0 := by rw [hw0]; exact (fr_new _ _ _).trans (fr_new _ _ _)
  have hop0 : hat w0 go = some (.cells #[.int .i64 kind, .string path, .string dest, .int .i64 off, .int .i64 len, .slice da data.length dc, .int .i64 made, .int .i64 pick] 40) := by rw [hw0, hgo]; exact (hopA _ _ (hopN w _).1).1
  have hga0 : hat w0 ga = some (.cells ans0 37) := by
    have e := (hopN (w.alloc (.cells #[.int .i64 kind, .string path, .string dest, .int .i64 off, .int .i64 len, .slice da data.length dc, .int .i64 made, .int .i64 pick] 40)) (.cells ans0 37)).1
    rw [show (w.alloc (.cells #[.int .i64 kind, .string path, .string dest, .int .i64 off, .int .i64 len, .slice da data.length dc, .int .i64 made, .int .i64 pick] 40)).heap.size = ga by rw [hga, hgo]; simp] at e
    rw [hw0]; exact e
  have HG0 := Lib.hid hga0
  have HF0 := Lib.hid hf0
  have HGE := Lib.hid (show w.heap.size ≤ go ∧ w.heap.size ≤ ga ∧ go < ga from by omega)
  have HM := Lib.hid hm
  have HOP := Lib.hid hop0
  clear hm
  go_enter Tryd.func12, Tryd.ntmps12
  go_upto_region 1 with fail
  have hw0' : w0 = (w.alloc (.cells #[.int .i64 kind, .string path, .string dest, .int .i64 off, .int .i64 len, .slice da data.length dc, .int .i64 made, .int .i64 pick] 40)).alloc (.cells #[.int .i64 0, .int .i64 0, .int .i64 0, .int .i64 0, .int .i64 0, .int .i64 0, .int .i64 0, .slice none 0 0, .slice none 0 0, .bool false] 37) := hw0
  rw [← hgo, ← hga]
  rw [← hw0']
  clear hw0' hw0 hf0 hga hgo hga0
  have hol0 := hat_lt hop0
  go_wp2_with fail
  refine (HFN.out w0).mono ?_; rintro e w1 ⟨rfl, hb1⟩
  have HF1 := Lib.hid (HF0.out.trans (fr_below hb1 []))
  have HG1 := Lib.hid (hop hb1 HG0.out).1
  have hop1 := (hop hb1 hop0).1
  have hol1 := hat_lt hop1
  clear hb1 hop0 hol0 HG0 HF0
  cases M with
  | false =>
    have HQ := Lib.hid (show R = (S, .err 150) by rw [HR.out, if_pos rfl])
    have hga := HG1.out
    unfold ans0 at hga
    have hgal := hat_lt hga
    go_wp2_with fail
    refine ret_c row37 rfl (cs := #[.int .i64 150, .int .i64 0, .int .i64 0, .int .i64 0, .int .i64 0, .int .i64 0, .int .i64 0, .slice none 0 0, .slice none 0 0, .bool false]) rfl (hat_setRow_at _ _ _ _ _ _ HG1.out) rfl rfl ?_
    exact ⟨nrm w own, _, rfl, by rw [HQ.out]; exact ans_err _ _ _ _, by rw [HQ.out]; exact Mvd.then ⟨⟨c, A, H.out.fr HF1.out (by simp)⟩, (HF1.out).un (by simp), fun b hb => nrm_lt hb⟩ (fr_setRow _ ga _) (by simp; exact ⟨nrm_ge HGE.out.2.1, HGE.out.2.1⟩)⟩
  | true =>
    have hm1 : w1.cell? ⟨0, 0, none⟩ = some (.int .i64 m) := by
      have h1 := HM.out
      rw [cell?_of_hat] at h1 ⊢
      have hlt : 0 < w.heap.size := by
        rcases Nat.lt_or_ge 0 w.heap.size with h | h
        · exact h
        · have : hat w 0 = none := Array.getElem?_eq_none h
          rw [this] at h1; cases h1
      rw [HF1.out.block 0 hlt (by simp)]
      exact h1
    have HSPL := Lib.hid (split_any path m w1 hm1)
    clear hm1
    go_wp2_with fail
    refine HSPL.out.mono ?_; rintro e w2 ⟨v, rfl, hst, hb2⟩
    have HF2 := Lib.hid (HF1.out.trans (fr_below hb2 []))
    have HG2 := Lib.hid (hop hb2 HG1.out).1
    have hop2 := (hop hb2 hop1).1
    have hol2 := hat_lt hop2
    have HST := Lib.hid (hst.le (Nat.zero_le _))
    clear hb2 hop1 hol1 HG1 HF1 hst HSPL
    generalize spl path = sp at *
    obtain ⟨l, e⟩ := sp
    simp only at HR HSP HST ⊢
    by_cases he : e = 0
    · subst he
      have HQ := Lib.hid (show R = PS.told1 (F l) by rw [HR.out, if_neg (by simp), if_neg (by simp)])
      go_wp2_with fail
      refine (HFF.out w2 v l (by trivial) (H.out.fr HF2.out (by simp)) (HO.out.fr HF2.out (by simp) (fun b hb => nrm_lt hb)) HST.out HSP.out).mono ?_; rintro e w3 ⟨own', av, rfl, ha, hmv⟩
      have hgan : nrm w own ga = none := nrm_ge HGE.out.2.1
      have HG3 := Lib.hid ((hmv.2.1.block ga (hat_lt HG2.out) hgan).trans HG2.out)
      have HGN := Lib.hid ((hmv.2.2 ga (hat_lt HG2.out)).trans hgan)
      have HGL := Lib.hid (hat_lt HG2.out)
      have HMV := Lib.hid (hmv.from HF2.out)
      have HAN := Lib.hid ha
      obtain ⟨dv, ev, od1, oe1, rfl, hd1, he1, -⟩ := ha
      obtain ⟨d1, d2, rfl⟩ := hd1.slice
      obtain ⟨e1, e2, rfl⟩ := he1.slice
      unfold ansV at HAN ⊢
      generalize hx : F l = r at *
      obtain ⟨rS, ⟨xc, ⟨x1, x2, x3, x4, x5, x6⟩, xd, xe⟩⟩ := r
      simp only at HAN HMV ⊢
      have hone : oneAll #[.int .i64 xc, .int .i64 x1, .int .i64 x2, .int .i64 x3, .int .i64 x4, .int .i64 x5, .int .i64 x6, .slice d1 xd.length d2, .slice e1 xe.length e2, .bool false] = true := by simp [oneAll, Value.oneCell']
      clear hmv hop2 hol2 hd1 he1 hx
      go_upto_region 14 with fail
      obtain ⟨w4, hw4⟩ : ∃ x, x = w3.alloc (.cells #[.int .i64 xc, .int .i64 x1, .int .i64 x2, .int .i64 x3, .int .i64 x4, .int .i64 x5, .int .i64 x6, .slice d1 xd.length d2, .slice e1 xe.length e2, .bool false] 37) := ⟨_, rfl⟩
      obtain ⟨gb, hgb⟩ : ∃ x, x = w3.heap.size := ⟨_, rfl⟩
      have hf4 : Fr [] w3 w4 := by rw [hw4]; exact fr_new _ _ _
      have hgb4 : hat w4 gb = some (.cells #[.int .i64 xc, .int .i64 x1, .int .i64 x2, .int .i64 x3, .int .i64 x4, .int .i64 x5, .int .i64 x6, .slice d1 xd.length d2, .slice e1 xe.length e2, .bool false] 37) := by rw [hw4, hgb]; exact (hopN w3 _).1
      have hg4 := (hf4.block _ (hat_lt HG3.out) (by simp)).trans HG3.out
      have HG4 := Lib.hid hg4
      have HF4 := Lib.hid (show Fr [ga] w3 (w4) from hf4.mono (by simp))
      rw [← hw4, ← hgb]
      clear hw4 hgb hf4
      unfold ans0 at hg4
      have hgl4 := hat_lt hg4
      have hgbl := hat_lt hgb4
      by_cases hxc : xc = 0
      · subst hxc
        have HQ2 := Lib.hid (show R = (rS, ⟨0, ⟨x1, x2, x3, x4, x5, x6⟩, xd, xe⟩) by rw [HQ.out]; unfold PS.told1; rw [if_neg (by simp)])
        go_wp2_with fail
        refine ret_c row37 rfl (cs := #[.int .i64 0, .int .i64 x1, .int .i64 x2, .int .i64 x3, .int .i64 x4, .int .i64 x5, .int .i64 x6, .slice d1 xd.length d2, .slice e1 xe.length e2, .bool false]) rfl (hat_setRow_at _ _ _ _ _ _ HG4.out) rfl rfl ?_
        exact ⟨own', _, rfl, by rw [HQ2.out]; exact HAN.out.fr' (HF4.out.trans (fr_setRow w4 ga _)) (by simp; exact HGL.out) HF2.out.size, by rw [HQ2.out]; exact HMV.out.then (HF4.out.trans (fr_setRow w4 ga _)) (by simp; exact ⟨HGN.out, HGE.out.2.1⟩)⟩
      · have HQ2 := Lib.hid (show R = (rS, .err xc) by rw [HQ.out]; unfold PS.told1; rw [if_pos (by simpa using hxc)])
        go_wp2_with fail
        refine ret_c row37 rfl (cs := #[.int .i64 xc, .int .i64 0, .int .i64 0, .int .i64 0, .int .i64 0, .int .i64 0, .int .i64 0, .slice none 0 0, .slice none 0 0, .bool false]) rfl (hat_setRow_at _ _ _ _ _ _ HG4.out) rfl rfl ?_
        exact ⟨own', _, rfl, by rw [HQ2.out]; exact ans_err _ _ _ _, by rw [HQ2.out]; exact HMV.out.then (HF4.out.trans (fr_setRow w4 ga _)) (by simp; exact ⟨HGN.out, HGE.out.2.1⟩)⟩
    · have HQ := Lib.hid (show R = (S, .err e) by rw [HR.out, if_neg (by simp), if_pos (by simpa using he)])
      have hga := HG2.out
      unfold ans0 at hga
      have hgal := hat_lt hga
      go_wp2_with fail
      refine ret_c row37 rfl (cs := #[.int .i64 e, .int .i64 0, .int .i64 0, .int .i64 0, .int .i64 0, .int .i64 0, .int .i64 0, .slice none 0 0, .slice none 0 0, .bool false]) rfl (hat_setRow_at _ _ _ _ _ _ HG2.out) rfl rfl ?_
      exact ⟨nrm w own, _, rfl, by rw [HQ.out]; exact ans_err _ _ _ _, by rw [HQ.out]; exact Mvd.then ⟨⟨c, A, H.out.fr HF2.out (by simp)⟩, (HF2.out).un (by simp), fun b hb => nrm_lt hb⟩ (fr_setRow _ ga _) (by simp; exact ⟨nrm_ge HGE.out.2.1, HGE.out.2.1⟩)⟩
end Go.Proofs.YteffoihkljkfdaaDoor
