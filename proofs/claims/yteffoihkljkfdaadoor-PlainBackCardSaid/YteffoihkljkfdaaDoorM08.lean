/- Contracts and laws that the claim leans on, laid together in the order in which they build. -/
import Derived.Test.YteffoihkljkfdaaDoorM06
import Derived.Test.YteffoihkljkfdaaDoorM07

/- asks and does: every kind. -/
namespace Go.Proofs.YteffoihkljkfdaaDoor
set_option linter.unusedSimpArgs false
set_option linter.unusedVariables false
open Go.RowKit

theorem asks_any {w : World} {gp bn c : Nat} {S : PS} {A : Int → NA} {own : Nat → Option (Int × Nat)} (h : PW w gp bn c S A own) {i : Int} (hi : (S.nodes i).isSome = true) {o : OpV} (hk : o.kind = 7 ∨ o.kind = 8 ∨ o.kind = 9 ∨ o.kind = 10 ∨ o.kind = 11 ∨ o.kind = 13) {dv : Value} (ho : OpAt w own o dv) :
    Calls Tryd.prog 54 #[.pointer (some ⟨gp, 0, none⟩), .agg (opV o dv), .int .i64 i] w fun e w' => ∃ own' av, e = .returned av ∧ AnsAt w' w.heap.size own' av (S.ask o i).2 ∧ Mvd w w' gp bn own (S.ask o i).1 own' := by
  rcases hk with hk | hk | hk | hk | hk | hk
  · exact asks7 h hi hk ho
  · rcases kind_cases h.f hi with h1 | h2
    · have e : S.ask o i = ((S.truncate i o.off).1, .err (S.truncate i o.off).2) := by unfold PS.ask; simp [hk, h1]
      rw [e]
      exact asks_trunc h hi hk ho h1
    · have e : S.ask o i = (S, .err 102) := by unfold PS.ask; simp [hk, h2]
      rw [e]
      exact asks_dir8 h hi hk ho h2
  · exact asks9 h hi hk ho
  · exact asks10 h hi hk ho
  · exact asks_list h hi hk ho
  · rcases kind_cases h.f hi with h1 | h2
    · have e : S.ask o i = (S, .err 0) := by unfold PS.ask; simp [hk, h1]
      rw [e]
      exact asks_fsync h hi hk ho h1
    · have e : S.ask o i = (S, .err 102) := by unfold PS.ask; simp [hk, h2]
      rw [e]
      exact asks_dir13 h hi hk ho h2
set_option maxHeartbeats 8000000 in
set_option maxRecDepth 100000 in
theorem does_asked {w : World} {gp bn c : Nat} {S : PS} {A : Int → NA} {own : Nat → Option (Int × Nat)} (h : PW w gp bn c S A own) {o : OpV} (hk : o.kind = 7 ∨ o.kind = 8 ∨ o.kind = 9 ∨ o.kind = 10 ∨ o.kind = 11 ∨ o.kind = 13) {dv : Value} (ho : OpAt w own o dv) {fv tv : Value} {l : List ByteArray} {B : Nat} (hv : Strs w B fv l) (hl : ∀ s ∈ l, 0 < s.size ∧ s.size ≤ 40) :
    Calls Tryd.prog 27 #[.pointer (some ⟨gp, 0, none⟩), .agg (opV o dv), fv, tv] w fun e w' => ∃ own' av, e = .returned av ∧ AnsAt w' w.heap.size own' av (S.asked o l).2 ∧ Mvd w w' gp bn own (S.asked o l).1 own' := by
  have H := Lib.hid h.nrm
  have HO := Lib.hid ho
  have HV := Lib.hid hv
  have HL := Lib.hid hl
  obtain ⟨od, hdr, hdn⟩ := ho.d
  obtain ⟨da, dc, rfl⟩ := hdr.slice
  obtain ⟨kind, path, dest, off, len, data, made, pick⟩ := o
  simp only at hk
  have hb1 : (kind == 1) = false := by simp; omega
  have hb2 : (kind == 2) = false := by simp; omega
  have hb3 : (kind == 3) = false := by simp; omega
  have hb4 : (kind == 4) = false := by simp; omega
  have hb5 : (kind == 5) = false := by simp; omega
  have hb6 : (kind == 6) = false := by simp; omega
  have hb12 : (kind == 12) = false := by simp; omega
  have hb14 : (kind == 14) = false := by simp; omega
  have HK := Lib.hid hk
  clear ho hdr hdn h hv hl hk
  unfold opV
  simp only at HO ⊢
  obtain ⟨w0, hw0⟩ : ∃ x, x = (w.alloc (.cells #[.int .i64 kind, .string path, .string dest, .int .i64 off, .int .i64 len, .slice da data.length dc, .int .i64 made, .int .i64 pick] 40)).alloc (.cells ans0 37) := ⟨_, rfl⟩
  obtain ⟨go, hgo⟩ : ∃ x, x = w.heap.size := ⟨_, rfl⟩
  obtain ⟨ga, hga⟩ : ∃ x, x = go + 1 := ⟨_, rfl⟩
  have hf0 : Fr [] w w0 := by rw [hw0]; exact (fr_new _ _ _).trans (fr_new _ _ _)
  have hop0 : hat w0 go = some (.cells #[.int .i64 kind, .string path, .string dest, .int .i64 off, .int .i64 len, .slice da data.length dc, .int .i64 made, .int .i64 pick] 40) := by rw [hw0, hgo]; exact (hopA _ _ (hopN w _).1).1
  have hga0 : hat w0 ga = some (.cells ans0 37) := by
    have e := (hopN (w.alloc (.cells #[.int .i64 kind, .string path, .string dest, .int .i64 off, .int .i64 len, .slice da data.length dc, .int .i64 made, .int .i64 pick] 40)) (.cells ans0 37)).1
    rw [show (w.alloc (.cells #[.int .i64 kind, .string path, .string dest, .int .i64 off, .int .i64 len, .slice da data.length dc, .int .i64 made, .int .i64 pick] 40)).heap.size = ga by rw [hga, hgo]; simp] at e
    rw [hw0]; exact e
  have HG0 := Lib.hid hga0
  have HF0 := Lib.hid hf0
  have HP0 := Lib.hid (H.out.fr hf0 (by simp))
  have HGE := Lib.hid (show w.heap.size ≤ go ∧ w.heap.size ≤ ga ∧ go < ga from by omega)
  have HO0 := Lib.hid (HO.out.fr (own' := nrm w own) hf0 (by simp) (fun b hb => nrm_lt hb))
  have HV0 := Lib.hid (HV.out.fr' hf0)
  go_enter Tryd.func27, Tryd.ntmps27
  go_upto_region 1 with fail
  have hw0' : w0 = (w.alloc (.cells #[.int .i64 kind, .string path, .string dest, .int .i64 off, .int .i64 len, .slice da data.length dc, .int .i64 made, .int .i64 pick] 40)).alloc (.cells #[.int .i64 0, .int .i64 0, .int .i64 0, .int .i64 0, .int .i64 0, .int .i64 0, .int .i64 0, .slice none 0 0, .slice none 0 0, .bool false] 37) := hw0
  rw [← hgo, ← hga]
  rw [← hw0']
  clear hw0' hw0 hf0 hga hgo hga0
  have hol0 := hat_lt hop0
  go_wp2_with fail
  refine (walk_any HP0.out.t HP0.out.f HV0.out (fun s hs => (HL.out s hs).2)).mono ?_; rintro e w1 ⟨rfl, rfl⟩
  have HWC := Lib.hid (walk_code S l 1)
  have HWT := Lib.hid (fun h => walk_there HP0.out.f l 1 (root_there HP0.out.f) h)
  have HAK : Hid (S.asked ⟨kind, path, dest, off, len, data, made, pick⟩ l = if (S.walk l 1).2 ≠ 0 then (S, .err (S.walk l 1).2) else S.ask ⟨kind, path, dest, off, len, data, made, pick⟩ (S.walk l 1).1) := Lib.hid rfl
  generalize S.walk l 1 = r at *
  obtain ⟨i, e⟩ := r
  simp only at HWC HWT HAK ⊢
  by_cases he : e = 0
  · subst he
    have hi := HWT.out rfl
    have HAE := Lib.hid (show S.asked ⟨kind, path, dest, off, len, data, made, pick⟩ l = S.ask ⟨kind, path, dest, off, len, data, made, pick⟩ i by rw [HAK.out, if_neg (by simp)])
    go_wp2_with fail
    refine (asks_any HP0.out hi (o := ⟨kind, path, dest, off, len, data, made, pick⟩) HK.out HO0.out).mono ?_; rintro e w2 ⟨own', av, rfl, ha, hmv⟩
    have hgan : nrm w own ga = none := nrm_ge HGE.out.2.1
    have hg1 := (hmv.2.1.block ga (hat_lt HG0.out) hgan).trans HG0.out
    have HG1 := Lib.hid hg1
    have HGN := Lib.hid ((hmv.2.2 ga (hat_lt HG0.out)).trans hgan)
    have HMV := Lib.hid (hmv.from HF0.out)
    have HAN := Lib.hid ha
    obtain ⟨dv, ev, od1, oe1, rfl, hd1, he1, -⟩ := ha
    obtain ⟨d1, d2, rfl⟩ := hd1.slice
    obtain ⟨e1, e2, rfl⟩ := he1.slice
    unfold ansV at HAN ⊢
    generalize hx : (S.ask ⟨kind, path, dest, off, len, data, made, pick⟩ i).2 = x at *
    have HX := Lib.hid hx
    clear hx
    obtain ⟨xc, ⟨x1, x2, x3, x4, x5, x6⟩, xd, xe⟩ := x
    simp only at HAN ⊢
    unfold ans0 at hg1
    have hgl1 := hat_lt hg1
    have hone : oneAll #[.int .i64 xc, .int .i64 x1, .int .i64 x2, .int .i64 x3, .int .i64 x4, .int .i64 x5, .int .i64 x6, .slice d1 xd.length d2, .slice e1 xe.length e2, .bool false] = true := by simp [oneAll, Value.oneCell']
    clear hmv hol0 hop0 hd1 he1
    go_wp2_with fail
    refine ret_c row37 rfl (cs := #[.int .i64 xc, .int .i64 x1, .int .i64 x2, .int .i64 x3, .int .i64 x4, .int .i64 x5, .int .i64 x6, .slice d1 xd.length d2, .slice e1 xe.length e2, .bool false]) rfl (hat_setRow_at _ _ _ _ _ _ HG1.out) rfl rfl ?_
    exact ⟨own', _, rfl, by rw [HAE.out, HX.out]; exact HAN.out.fr' (fr_setRow w2 ga _) (by simp; exact hat_lt HG0.out) HF0.out.size, by rw [HAE.out]; exact HMV.out.then (fr_setRow w2 ga _) (by simp; exact ⟨HGN.out, HGE.out.2.1⟩)⟩
  · have HAE := Lib.hid (show S.asked ⟨kind, path, dest, off, len, data, made, pick⟩ l = (S, .err e) by rw [HAK.out, if_pos (by simpa using he)])
    have hga := HG0.out
    unfold ans0 at hga
    have hgal := hat_lt hga
    go_wp2_with fail
    refine ret_c row37 rfl (cs := #[.int .i64 e, .int .i64 0, .int .i64 0, .int .i64 0, .int .i64 0, .int .i64 0, .int .i64 0, .slice none 0 0, .slice none 0 0, .bool false]) rfl (hat_setRow_at _ _ _ _ _ _ HG0.out) rfl rfl ?_
    exact ⟨nrm w own, _, rfl, by rw [HAE.out]; exact ans_err _ _ _ _, by rw [HAE.out]; exact Mvd.then ⟨⟨c, A, HP0.out⟩, (HF0.out).un (by simp), fun b hb => nrm_lt hb⟩ (fr_setRow _ ga _) (by simp; exact ⟨nrm_ge HGE.out.2.1, HGE.out.2.1⟩)⟩
set_option maxHeartbeats 8000000 in
set_option maxRecDepth 100000 in
theorem does_link {w : World} {gp bn c : Nat} {S : PS} {A : Int → NA} {own : Nat → Option (Int × Nat)} (h : PW w gp bn c S A own) {o : OpV} (hk : o.kind = 3) (hg : Good S) {dv : Value} (ho : OpAt w own o dv) {fv tv : Value} {l : List ByteArray} {B : Nat} (hv : Strs w B fv l) (hl : ∀ s ∈ l, 0 < s.size ∧ s.size ≤ 40) {l2 : List ByteArray} {B2 : Nat} (hv2 : Strs w B2 tv l2) (hl2 : ∀ s ∈ l2, 0 < s.size ∧ s.size ≤ 40) :
    Calls Tryd.prog 27 #[.pointer (some ⟨gp, 0, none⟩), .agg (opV o dv), fv, tv] w fun e w' => ∃ own' av, e = .returned av ∧ AnsAt w' w.heap.size own' av (.err (S.link l l2).2) ∧ Mvd w w' gp bn own (S.link l l2).1 own' := by
  have H := Lib.hid h.nrm
  have HO := Lib.hid ho
  have HV := Lib.hid hv
  have HL := Lib.hid hl
  obtain ⟨od, hdr, hdn⟩ := ho.d
  obtain ⟨da, dc, rfl⟩ := hdr.slice
  obtain ⟨kind, path, dest, off, len, data, made, pick⟩ := o
  simp only at hk
  subst hk
  clear ho hdr hdn h hv hl
  unfold opV
  simp only at HO ⊢
  obtain ⟨w0, hw0⟩ : ∃ x, x = (w.alloc (.cells #[.int .i64 3, .string path, .string dest, .int .i64 off, .int .i64 len, .slice da data.length dc, .int .i64 made, .int .i64 pick] 40)).alloc (.cells ans0 37) := ⟨_, rfl⟩
  obtain ⟨go, hgo⟩ : ∃ x, x = w.heap.size := ⟨_, rfl⟩
  obtain ⟨ga, hga⟩ : ∃ x, x = go + 1 := ⟨_, rfl⟩
  have hf0 : Fr [] w w0 := by rw [hw0]; exact (fr_new _ _ _).trans (fr_new _ _ _)
  have hop0 : hat w0 go = some (.cells #[.int .i64 3, .string path, .string dest, .int .i64 off, .int .i64 len, .slice da data.length dc, .int .i64 made, .int .i64 pick] 40) := by rw [hw0, hgo]; exact (hopA _ _ (hopN w _).1).1
  have hga0 : hat w0 ga = some (.cells ans0 37) := by
    have e := (hopN (w.alloc (.cells #[.int .i64 3, .string path, .string dest, .int .i64 off, .int .i64 len, .slice da data.length dc, .int .i64 made, .int .i64 pick] 40)) (.cells ans0 37)).1
    rw [show (w.alloc (.cells #[.int .i64 3, .string path, .string dest, .int .i64 off, .int .i64 len, .slice da data.length dc, .int .i64 made, .int .i64 pick] 40)).heap.size = ga by rw [hga, hgo]; simp] at e
    rw [hw0]; exact e
  have HG0 := Lib.hid hga0
  have HF0 := Lib.hid hf0
  have HP0 := Lib.hid (H.out.fr hf0 (by simp))
  have HGE := Lib.hid (show w.heap.size ≤ go ∧ w.heap.size ≤ ga ∧ go < ga from by omega)
  have HO0 := Lib.hid (HO.out.fr (own' := nrm w own) hf0 (by simp) (fun b hb => nrm_lt hb))
  have HV0 := Lib.hid (HV.out.fr' hf0)
  have HV2 := Lib.hid (hv2.fr' hf0)
  have HL2 := Lib.hid hl2
  clear hv2 hl2
  go_enter Tryd.func27, Tryd.ntmps27
  go_upto_region 1 with fail
  have hw0' : w0 = (w.alloc (.cells #[.int .i64 3, .string path, .string dest, .int .i64 off, .int .i64 len, .slice da data.length dc, .int .i64 made, .int .i64 pick] 40)).alloc (.cells #[.int .i64 0, .int .i64 0, .int .i64 0, .int .i64 0, .int .i64 0, .int .i64 0, .int .i64 0, .slice none 0 0, .slice none 0 0, .bool false] 37) := hw0
  rw [← hgo, ← hga]
  rw [← hw0']
  clear hw0' hw0 hf0 hga hgo hga0
  have hol0 := hat_lt hop0
  go_wp2_with fail
  refine (link_any HP0.out hg HV0.out (fun s hs => (HL.out s hs).2) HV2.out HL2.out).mono ?_; rintro e w1 ⟨rfl, own', hmv⟩
  have hgan : nrm w own ga = none := nrm_ge HGE.out.2.1
  have hg1 := (hmv.2.1.block ga (hat_lt HG0.out) hgan).trans HG0.out
  have HG1 := Lib.hid hg1
  have HGN := Lib.hid ((hmv.2.2 ga (hat_lt HG0.out)).trans hgan)
  have HMV := Lib.hid (hmv.from HF0.out)
  unfold ans0 at hg1
  have hgl1 := hat_lt hg1
  obtain ⟨code, hc⟩ : ∃ x, x = (S.link l l2).2 := ⟨_, rfl⟩
  rw [← hc]
  have HC := Lib.hid hc.symm
  clear hc
  clear hmv hol0 hop0
  go_wp2_with fail
  refine ret_c row37 rfl (cs := #[.int .i64 code, .int .i64 0, .int .i64 0, .int .i64 0, .int .i64 0, .int .i64 0, .int .i64 0, .slice none 0 0, .slice none 0 0, .bool false]) rfl (hat_setRow_at _ _ _ _ _ _ HG1.out) rfl rfl ?_
  exact ⟨own', _, rfl, by show AnsAt _ _ _ _ (.err (S.link l l2).2); rw [HC.out]; exact ans_err _ _ _ _, HMV.out.then (fr_setRow w1 ga _) (by simp; exact ⟨HGN.out, HGE.out.2.1⟩)⟩
set_option maxHeartbeats 8000000 in
set_option maxRecDepth 100000 in
theorem does_unlink {w : World} {gp bn c : Nat} {S : PS} {A : Int → NA} {own : Nat → Option (Int × Nat)} (h : PW w gp bn c S A own) {o : OpV} (hk : o.kind = 4) (hg : Good S) {dv : Value} (ho : OpAt w own o dv) {fv tv : Value} {l : List ByteArray} {B : Nat} (hv : Strs w B fv l) (hl : ∀ s ∈ l, 0 < s.size ∧ s.size ≤ 40) :
    Calls Tryd.prog 27 #[.pointer (some ⟨gp, 0, none⟩), .agg (opV o dv), fv, tv] w fun e w' => ∃ own' av, e = .returned av ∧ AnsAt w' w.heap.size own' av (.err (S.unlink l).2) ∧ Mvd w w' gp bn own (S.unlink l).1 own' := by
  have H := Lib.hid h.nrm
  have HO := Lib.hid ho
  have HV := Lib.hid hv
  have HL := Lib.hid hl
  obtain ⟨od, hdr, hdn⟩ := ho.d
  obtain ⟨da, dc, rfl⟩ := hdr.slice
  obtain ⟨kind, path, dest, off, len, data, made, pick⟩ := o
  simp only at hk
  subst hk
  clear ho hdr hdn h hv hl
  unfold opV
  simp only at HO ⊢
  obtain ⟨w0, hw0⟩ : ∃ x, x = (w.alloc (.cells #[.int .i64 4, .string path, .string dest, .int .i64 off, .int .i64 len, .slice da data.length dc, .int .i64 made, .int .i64 pick] 40)).alloc (.cells ans0 37) := ⟨_, rfl⟩
  obtain ⟨go, hgo⟩ : ∃ x, x = w.heap.size := ⟨_, rfl⟩
  obtain ⟨ga, hga⟩ : ∃ x, x = go + 1 := ⟨_, rfl⟩
  have hf0 : Fr [] w w0 := by rw [hw0]; exact (fr_new _ _ _).trans (fr_new _ _ _)
  have hop0 : hat w0 go = some (.cells #[.int .i64 4, .string path, .string dest, .int .i64 off, .int .i64 len, .slice da data.length dc, .int .i64 made, .int .i64 pick] 40) := by rw [hw0, hgo]; exact (hopA _ _ (hopN w _).1).1
  have hga0 : hat w0 ga = some (.cells ans0 37) := by
    have e := (hopN (w.alloc (.cells #[.int .i64 4, .string path, .string dest, .int .i64 off, .int .i64 len, .slice da data.length dc, .int .i64 made, .int .i64 pick] 40)) (.cells ans0 37)).1
    rw [show (w.alloc (.cells #[.int .i64 4, .string path, .string dest, .int .i64 off, .int .i64 len, .slice da data.length dc, .int .i64 made, .int .i64 pick] 40)).heap.size = ga by rw [hga, hgo]; simp] at e
    rw [hw0]; exact e
  have HG0 := Lib.hid hga0
  have HF0 := Lib.hid hf0
  have HP0 := Lib.hid (H.out.fr hf0 (by simp))
  have HGE := Lib.hid (show w.heap.size ≤ go ∧ w.heap.size ≤ ga ∧ go < ga from by omega)
  have HO0 := Lib.hid (HO.out.fr (own' := nrm w own) hf0 (by simp) (fun b hb => nrm_lt hb))
  have HV0 := Lib.hid (HV.out.fr' hf0)
  go_enter Tryd.func27, Tryd.ntmps27
  go_upto_region 1 with fail
  have hw0' : w0 = (w.alloc (.cells #[.int .i64 4, .string path, .string dest, .int .i64 off, .int .i64 len, .slice da data.length dc, .int .i64 made, .int .i64 pick] 40)).alloc (.cells #[.int .i64 0, .int .i64 0, .int .i64 0, .int .i64 0, .int .i64 0, .int .i64 0, .int .i64 0, .slice none 0 0, .slice none 0 0, .bool false] 37) := hw0
  rw [← hgo, ← hga]
  rw [← hw0']
  clear hw0' hw0 hf0 hga hgo hga0
  have hol0 := hat_lt hop0
  go_wp2_with fail
  refine (unlink_any HP0.out hg HV0.out (fun s hs => (HL.out s hs).2)).mono ?_; rintro e w1 ⟨rfl, own', hmv⟩
  have hgan : nrm w own ga = none := nrm_ge HGE.out.2.1
  have hg1 := (hmv.2.1.block ga (hat_lt HG0.out) hgan).trans HG0.out
  have HG1 := Lib.hid hg1
  have HGN := Lib.hid ((hmv.2.2 ga (hat_lt HG0.out)).trans hgan)
  have HMV := Lib.hid (hmv.from HF0.out)
  unfold ans0 at hg1
  have hgl1 := hat_lt hg1
  obtain ⟨code, hc⟩ : ∃ x, x = (S.unlink l).2 := ⟨_, rfl⟩
  rw [← hc]
  have HC := Lib.hid hc.symm
  clear hc
  clear hmv hol0 hop0
  go_wp2_with fail
  refine ret_c row37 rfl (cs := #[.int .i64 code, .int .i64 0, .int .i64 0, .int .i64 0, .int .i64 0, .int .i64 0, .int .i64 0, .slice none 0 0, .slice none 0 0, .bool false]) rfl (hat_setRow_at _ _ _ _ _ _ HG1.out) rfl rfl ?_
  exact ⟨own', _, rfl, by show AnsAt _ _ _ _ (.err (S.unlink l).2); rw [HC.out]; exact ans_err _ _ _ _, HMV.out.then (fr_setRow w1 ga _) (by simp; exact ⟨HGN.out, HGE.out.2.1⟩)⟩
set_option maxHeartbeats 8000000 in
set_option maxRecDepth 100000 in
theorem does_rmdir {w : World} {gp bn c : Nat} {S : PS} {A : Int → NA} {own : Nat → Option (Int × Nat)} (h : PW w gp bn c S A own) {o : OpV} (hk : o.kind = 5) (hg : Good S) {dv : Value} (ho : OpAt w own o dv) {fv tv : Value} {l : List ByteArray} {B : Nat} (hv : Strs w B fv l) (hl : ∀ s ∈ l, 0 < s.size ∧ s.size ≤ 40) :
    Calls Tryd.prog 27 #[.pointer (some ⟨gp, 0, none⟩), .agg (opV o dv), fv, tv] w fun e w' => ∃ own' av, e = .returned av ∧ AnsAt w' w.heap.size own' av (.err (S.rmdir l).2) ∧ Mvd w w' gp bn own (S.rmdir l).1 own' := by
  have H := Lib.hid h.nrm
  have HO := Lib.hid ho
  have HV := Lib.hid hv
  have HL := Lib.hid hl
  obtain ⟨od, hdr, hdn⟩ := ho.d
  obtain ⟨da, dc, rfl⟩ := hdr.slice
  obtain ⟨kind, path, dest, off, len, data, made, pick⟩ := o
  simp only at hk
  subst hk
  clear ho hdr hdn h hv hl
  unfold opV
  simp only at HO ⊢
  obtain ⟨w0, hw0⟩ : ∃ x, x = (w.alloc (.cells #[.int .i64 5, .string path, .string dest, .int .i64 off, .int .i64 len, .slice da data.length dc, .int .i64 made, .int .i64 pick] 40)).alloc (.cells ans0 37) := ⟨_, rfl⟩
  obtain ⟨go, hgo⟩ : ∃ x, x = w.heap.size := ⟨_, rfl⟩
  obtain ⟨ga, hga⟩ : ∃ x, x = go + 1 := ⟨_, rfl⟩
  have hf0 : Fr [] w w0 := by rw [hw0]; exact (fr_new _ _ _).trans (fr_new _ _ _)
  have hop0 : hat w0 go = some (.cells #[.int .i64 5, .string path, .string dest, .int .i64 off, .int .i64 len, .slice da data.length dc, .int .i64 made, .int .i64 pick] 40) := by rw [hw0, hgo]; exact (hopA _ _ (hopN w _).1).1
  have hga0 : hat w0 ga = some (.cells ans0 37) := by
    have e := (hopN (w.alloc (.cells #[.int .i64 5, .string path, .string dest, .int .i64 off, .int .i64 len, .slice da data.length dc, .int .i64 made, .int .i64 pick] 40)) (.cells ans0 37)).1
    rw [show (w.alloc (.cells #[.int .i64 5, .string path, .string dest, .int .i64 off, .int .i64 len, .slice da data.length dc, .int .i64 made, .int .i64 pick] 40)).heap.size = ga by rw [hga, hgo]; simp] at e
    rw [hw0]; exact e
  have HG0 := Lib.hid hga0
  have HF0 := Lib.hid hf0
  have HP0 := Lib.hid (H.out.fr hf0 (by simp))
  have HGE := Lib.hid (show w.heap.size ≤ go ∧ w.heap.size ≤ ga ∧ go < ga from by omega)
  have HO0 := Lib.hid (HO.out.fr (own' := nrm w own) hf0 (by simp) (fun b hb => nrm_lt hb))
  have HV0 := Lib.hid (HV.out.fr' hf0)
  go_enter Tryd.func27, Tryd.ntmps27
  go_upto_region 1 with fail
  have hw0' : w0 = (w.alloc (.cells #[.int .i64 5, .string path, .string dest, .int .i64 off, .int .i64 len, .slice da data.length dc, .int .i64 made, .int .i64 pick] 40)).alloc (.cells #[.int .i64 0, .int .i64 0, .int .i64 0, .int .i64 0, .int .i64 0, .int .i64 0, .int .i64 0, .slice none 0 0, .slice none 0 0, .bool false] 37) := hw0
  rw [← hgo, ← hga]
  rw [← hw0']
  clear hw0' hw0 hf0 hga hgo hga0
  have hol0 := hat_lt hop0
  go_wp2_with fail
  refine (rmdir_any HP0.out hg HV0.out (fun s hs => (HL.out s hs).2)).mono ?_; rintro e w1 ⟨rfl, own', hmv⟩
  have hgan : nrm w own ga = none := nrm_ge HGE.out.2.1
  have hg1 := (hmv.2.1.block ga (hat_lt HG0.out) hgan).trans HG0.out
  have HG1 := Lib.hid hg1
  have HGN := Lib.hid ((hmv.2.2 ga (hat_lt HG0.out)).trans hgan)
  have HMV := Lib.hid (hmv.from HF0.out)
  unfold ans0 at hg1
  have hgl1 := hat_lt hg1
  obtain ⟨code, hc⟩ : ∃ x, x = (S.rmdir l).2 := ⟨_, rfl⟩
  rw [← hc]
  have HC := Lib.hid hc.symm
  clear hc
  clear hmv hol0 hop0
  go_wp2_with fail
  refine ret_c row37 rfl (cs := #[.int .i64 code, .int .i64 0, .int .i64 0, .int .i64 0, .int .i64 0, .int .i64 0, .int .i64 0, .slice none 0 0, .slice none 0 0, .bool false]) rfl (hat_setRow_at _ _ _ _ _ _ HG1.out) rfl rfl ?_
  exact ⟨own', _, rfl, by show AnsAt _ _ _ _ (.err (S.rmdir l).2); rw [HC.out]; exact ans_err _ _ _ _, HMV.out.then (fr_setRow w1 ga _) (by simp; exact ⟨HGN.out, HGE.out.2.1⟩)⟩
set_option maxHeartbeats 8000000 in
set_option maxRecDepth 100000 in
theorem does_rename {w : World} {gp bn c : Nat} {S : PS} {A : Int → NA} {own : Nat → Option (Int × Nat)} (h : PW w gp bn c S A own) {o : OpV} (hk : o.kind = 6) (hg : Good S) {dv : Value} (ho : OpAt w own o dv) {fv tv : Value} {l : List ByteArray} {B : Nat} (hv : Strs w B fv l) (hl : ∀ s ∈ l, 0 < s.size ∧ s.size ≤ 40) {l2 : List ByteArray} {B2 : Nat} (hv2 : Strs w B2 tv l2) (hl2 : ∀ s ∈ l2, 0 < s.size ∧ s.size ≤ 40) :
    Calls Tryd.prog 27 #[.pointer (some ⟨gp, 0, none⟩), .agg (opV o dv), fv, tv] w fun e w' => ∃ own' av, e = .returned av ∧ AnsAt w' w.heap.size own' av (.err (S.rename l l2).2) ∧ Mvd w w' gp bn own (S.rename l l2).1 own' := by
  have H := Lib.hid h.nrm
  have HO := Lib.hid ho
  have HV := Lib.hid hv
  have HL := Lib.hid hl
  obtain ⟨od, hdr, hdn⟩ := ho.d
  obtain ⟨da, dc, rfl⟩ := hdr.slice
  obtain ⟨kind, path, dest, off, len, data, made, pick⟩ := o
  simp only at hk
  subst hk
  clear ho hdr hdn h hv hl
  unfold opV
  simp only at HO ⊢
  obtain ⟨w0, hw0⟩ : ∃ x, x = (w.alloc (.cells #[.int .i64 6, .string path, .string dest, .int .i64 off, .int .i64 len, .slice da data.length dc, .int .i64 made, .int .i64 pick] 40)).alloc (.cells ans0 37) := ⟨_, rfl⟩
  obtain ⟨go, hgo⟩ : ∃ x, x = w.heap.size := ⟨_, rfl⟩
  obtain ⟨ga, hga⟩ : ∃ x, x = go + 1 := ⟨_, rfl⟩
  have hf0 : Fr [] w w0 := by rw [hw0]; exact (fr_new _ _ _).trans (fr_new _ _ _)
  have hop0 : hat w0 go = some (.cells #[.int .i64 6, .string path, .string dest, .int .i64 off, .int .i64 len, .slice da data.length dc, .int .i64 made, .int .i64 pick] 40) := by rw [hw0, hgo]; exact (hopA _ _ (hopN w _).1).1
  have hga0 : hat w0 ga = some (.cells ans0 37) := by
    have e := (hopN (w.alloc (.cells #[.int .i64 6, .string path, .string dest, .int .i64 off, .int .i64 len, .slice da data.length dc, .int .i64 made, .int .i64 pick] 40)) (.cells ans0 37)).1
    rw [show (w.alloc (.cells #[.int .i64 6, .string path, .string dest, .int .i64 off, .int .i64 len, .slice da data.length dc, .int .i64 made, .int .i64 pick] 40)).heap.size = ga by rw [hga, hgo]; simp] at e
    rw [hw0]; exact e
  have HG0 := Lib.hid hga0
  have HF0 := Lib.hid hf0
  have HP0 := Lib.hid (H.out.fr hf0 (by simp))
  have HGE := Lib.hid (show w.heap.size ≤ go ∧ w.heap.size ≤ ga ∧ go < ga from by omega)
  have HO0 := Lib.hid (HO.out.fr (own' := nrm w own) hf0 (by simp) (fun b hb => nrm_lt hb))
  have HV0 := Lib.hid (HV.out.fr' hf0)
  have HV2 := Lib.hid (hv2.fr' hf0)
  have HL2 := Lib.hid hl2
  clear hv2 hl2
  go_enter Tryd.func27, Tryd.ntmps27
  go_upto_region 1 with fail
  have hw0' : w0 = (w.alloc (.cells #[.int .i64 6, .string path, .string dest, .int .i64 off, .int .i64 len, .slice da data.length dc, .int .i64 made, .int .i64 pick] 40)).alloc (.cells #[.int .i64 0, .int .i64 0, .int .i64 0, .int .i64 0, .int .i64 0, .int .i64 0, .int .i64 0, .slice none 0 0, .slice none 0 0, .bool false] 37) := hw0
  rw [← hgo, ← hga]
  rw [← hw0']
  clear hw0' hw0 hf0 hga hgo hga0
  have hol0 := hat_lt hop0
  go_wp2_with fail
  refine (rename_any HP0.out hg HV0.out (fun s hs => (HL.out s hs).2) HV2.out HL2.out).mono ?_; rintro e w1 ⟨rfl, own', hmv⟩
  have hgan : nrm w own ga = none := nrm_ge HGE.out.2.1
  have hg1 := (hmv.2.1.block ga (hat_lt HG0.out) hgan).trans HG0.out
  have HG1 := Lib.hid hg1
  have HGN := Lib.hid ((hmv.2.2 ga (hat_lt HG0.out)).trans hgan)
  have HMV := Lib.hid (hmv.from HF0.out)
  unfold ans0 at hg1
  have hgl1 := hat_lt hg1
  obtain ⟨code, hc⟩ : ∃ x, x = (S.rename l l2).2 := ⟨_, rfl⟩
  rw [← hc]
  have HC := Lib.hid hc.symm
  clear hc
  clear hmv hol0 hop0
  go_wp2_with fail
  refine ret_c row37 rfl (cs := #[.int .i64 code, .int .i64 0, .int .i64 0, .int .i64 0, .int .i64 0, .int .i64 0, .int .i64 0, .slice none 0 0, .slice none 0 0, .bool false]) rfl (hat_setRow_at _ _ _ _ _ _ HG1.out) rfl rfl ?_
  exact ⟨own', _, rfl, by show AnsAt _ _ _ _ (.err (S.rename l l2).2); rw [HC.out]; exact ans_err _ _ _ _, HMV.out.then (fr_setRow w1 ga _) (by simp; exact ⟨HGN.out, HGE.out.2.1⟩)⟩
set_option maxHeartbeats 8000000 in
set_option maxRecDepth 100000 in
theorem does_none12 {w : World} {gp bn c : Nat} {S : PS} {A : Int → NA} {own : Nat → Option (Int × Nat)} (h : PW w gp bn c S A own) {o : OpV} (hk : o.kind = 12) {dv : Value} (ho : OpAt w own o dv) {fv tv : Value} {l : List ByteArray} {B : Nat} (hv : Strs w B fv l) (hl : ∀ s ∈ l, 0 < s.size ∧ s.size ≤ 40) :
    Calls Tryd.prog 27 #[.pointer (some ⟨gp, 0, none⟩), .agg (opV o dv), fv, tv] w fun e w' => ∃ own' av, e = .returned av ∧ AnsAt w' w.heap.size own' av (.err 0) ∧ Mvd w w' gp bn own S own' := by
  have H := Lib.hid h.nrm
  have HO := Lib.hid ho
  have HV := Lib.hid hv
  have HL := Lib.hid hl
  obtain ⟨od, hdr, hdn⟩ := ho.d
  obtain ⟨da, dc, rfl⟩ := hdr.slice
  obtain ⟨kind, path, dest, off, len, data, made, pick⟩ := o
  simp only at hk
  subst hk
  clear ho hdr hdn h hv hl
  unfold opV
  simp only at HO ⊢
  obtain ⟨w0, hw0⟩ : ∃ x, x = (w.alloc (.cells #[.int .i64 12, .string path, .string dest, .int .i64 off, .int .i64 len, .slice da data.length dc, .int .i64 made, .int .i64 pick] 40)).alloc (.cells ans0 37) := ⟨_, rfl⟩
  obtain ⟨go, hgo⟩ : ∃ x, x = w.heap.size := ⟨_, rfl⟩
  obtain ⟨ga, hga⟩ : ∃ x, x = go + 1 := ⟨_, rfl⟩
  have hf0 : Fr [] w w0 := by rw [hw0]; exact (fr_new _ _ _).trans (fr_new _ _ _)
  have hop0 : hat w0 go = some (.cells #[.int .i64 12, .string path, .string dest, .int .i64 off, .int .i64 len, .slice da data.length dc, .int .i64 made, .int .i64 pick] 40) := by rw [hw0, hgo]; exact (hopA _ _ (hopN w _).1).1
  have hga0 : hat w0 ga = some (.cells ans0 37) := by
    have e := (hopN (w.alloc (.cells #[.int .i64 12, .string path, .string dest, .int .i64 off, .int .i64 len, .slice da data.length dc, .int .i64 made, .int .i64 pick] 40)) (.cells ans0 37)).1
    rw [show (w.alloc (.cells #[.int .i64 12, .string path, .string dest, .int .i64 off, .int .i64 len, .slice da data.length dc, .int .i64 made, .int .i64 pick] 40)).heap.size = ga by rw [hga, hgo]; simp] at e
    rw [hw0]; exact e
  have HG0 := Lib.hid hga0
  have HF0 := Lib.hid hf0
  have HP0 := Lib.hid (H.out.fr hf0 (by simp))
  have HGE := Lib.hid (show w.heap.size ≤ go ∧ w.heap.size ≤ ga ∧ go < ga from by omega)
  have HO0 := Lib.hid (HO.out.fr (own' := nrm w own) hf0 (by simp) (fun b hb => nrm_lt hb))
  have HV0 := Lib.hid (HV.out.fr' hf0)
  go_enter Tryd.func27, Tryd.ntmps27
  go_upto_region 1 with fail
  have hw0' : w0 = (w.alloc (.cells #[.int .i64 12, .string path, .string dest, .int .i64 off, .int .i64 len, .slice da data.length dc, .int .i64 made, .int .i64 pick] 40)).alloc (.cells #[.int .i64 0, .int .i64 0, .int .i64 0, .int .i64 0, .int .i64 0, .int .i64 0, .int .i64 0, .slice none 0 0, .slice none 0 0, .bool false] 37) := hw0
  rw [← hgo, ← hga]
  rw [← hw0']
  clear hw0' hw0 hf0 hga hgo hga0
  have hol0 := hat_lt hop0
  have hga := HG0.out
  unfold ans0 at hga
  have hgal := hat_lt hga
  go_wp2_with fail
  refine ret_c row37 rfl (cs := #[.int .i64 0, .int .i64 0, .int .i64 0, .int .i64 0, .int .i64 0, .int .i64 0, .int .i64 0, .slice none 0 0, .slice none 0 0, .bool false]) rfl (hat_setRow_at _ _ _ _ _ _ HG0.out) rfl rfl ?_
  exact ⟨nrm w own, _, rfl, ans_err _ _ _ _, Mvd.then ⟨⟨c, A, HP0.out⟩, (HF0.out).un (by simp), fun b hb => nrm_lt hb⟩ (fr_setRow w0 ga _) (by simp; exact ⟨nrm_ge HGE.out.2.1, HGE.out.2.1⟩)⟩
set_option maxHeartbeats 8000000 in
set_option maxRecDepth 100000 in
theorem does_none14 {w : World} {gp bn c : Nat} {S : PS} {A : Int → NA} {own : Nat → Option (Int × Nat)} (h : PW w gp bn c S A own) {o : OpV} (hk : o.kind = 14) {dv : Value} (ho : OpAt w own o dv) {fv tv : Value} {l : List ByteArray} {B : Nat} (hv : Strs w B fv l) (hl : ∀ s ∈ l, 0 < s.size ∧ s.size ≤ 40) :
    Calls Tryd.prog 27 #[.pointer (some ⟨gp, 0, none⟩), .agg (opV o dv), fv, tv] w fun e w' => ∃ own' av, e = .returned av ∧ AnsAt w' w.heap.size own' av (.err 0) ∧ Mvd w w' gp bn own S own' := by
  have H := Lib.hid h.nrm
  have HO := Lib.hid ho
  have HV := Lib.hid hv
  have HL := Lib.hid hl
  obtain ⟨od, hdr, hdn⟩ := ho.d
  obtain ⟨da, dc, rfl⟩ := hdr.slice
  obtain ⟨kind, path, dest, off, len, data, made, pick⟩ := o
  simp only at hk
  subst hk
  clear ho hdr hdn h hv hl
  unfold opV
  simp only at HO ⊢
  obtain ⟨w0, hw0⟩ : ∃ x, x = (w.alloc (.cells #[.int .i64 14, .string path, .string dest, .int .i64 off, .int .i64 len, .slice da data.length dc, .int .i64 made, .int .i64 pick] 40)).alloc (.cells ans0 37) := ⟨_, rfl⟩
  obtain ⟨go, hgo⟩ : ∃ x, x = w.heap.size := ⟨_, rfl⟩
  obtain ⟨ga, hga⟩ : ∃ x, x = go + 1 := ⟨_, rfl⟩
  have hf0 : Fr [] w w0 := by rw [hw0]; exact (fr_new _ _ _).trans (fr_new _ _ _)
  have hop0 : hat w0 go = some (.cells #[.int .i64 14, .string path, .string dest, .int .i64 off, .int .i64 len, .slice da data.length dc, .int .i64 made, .int .i64 pick] 40) := by rw [hw0, hgo]; exact (hopA _ _ (hopN w _).1).1
  have hga0 : hat w0 ga = some (.cells ans0 37) := by
    have e := (hopN (w.alloc (.cells #[.int .i64 14, .string path, .string dest, .int .i64 off, .int .i64 len, .slice da data.length dc, .int .i64 made, .int .i64 pick] 40)) (.cells ans0 37)).1
    rw [show (w.alloc (.cells #[.int .i64 14, .string path, .string dest, .int .i64 off, .int .i64 len, .slice da data.length dc, .int .i64 made, .int .i64 pick] 40)).heap.size = ga by rw [hga, hgo]; simp] at e
    rw [hw0]; exact e
  have HG0 := Lib.hid hga0
  have HF0 := Lib.hid hf0
  have HP0 := Lib.hid (H.out.fr hf0 (by simp))
  have HGE := Lib.hid (show w.heap.size ≤ go ∧ w.heap.size ≤ ga ∧ go < ga from by omega)
  have HO0 := Lib.hid (HO.out.fr (own' := nrm w own) hf0 (by simp) (fun b hb => nrm_lt hb))
  have HV0 := Lib.hid (HV.out.fr' hf0)
  go_enter Tryd.func27, Tryd.ntmps27
  go_upto_region 1 with fail
  have hw0' : w0 = (w.alloc (.cells #[.int .i64 14, .string path, .string dest, .int .i64 off, .int .i64 len, .slice da data.length dc, .int .i64 made, .int .i64 pick] 40)).alloc (.cells #[.int .i64 0, .int .i64 0, .int .i64 0, .int .i64 0, .int .i64 0, .int .i64 0, .int .i64 0, .slice none 0 0, .slice none 0 0, .bool false] 37) := hw0
  rw [← hgo, ← hga]
  rw [← hw0']
  clear hw0' hw0 hf0 hga hgo hga0
  have hol0 := hat_lt hop0
  have hga := HG0.out
  unfold ans0 at hga
  have hgal := hat_lt hga
  go_wp2_with fail
  refine ret_c row37 rfl (cs := #[.int .i64 0, .int .i64 0, .int .i64 0, .int .i64 0, .int .i64 0, .int .i64 0, .int .i64 0, .slice none 0 0, .slice none 0 0, .bool false]) rfl (hat_setRow_at _ _ _ _ _ _ HG0.out) rfl rfl ?_
  exact ⟨nrm w own, _, rfl, ans_err _ _ _ _, Mvd.then ⟨⟨c, A, HP0.out⟩, (HF0.out).un (by simp), fun b hb => nrm_lt hb⟩ (fr_setRow w0 ga _) (by simp; exact ⟨nrm_ge HGE.out.2.1, HGE.out.2.1⟩)⟩
/-- does: every kind that may be -/
theorem does_any {w : World} {gp bn c : Nat} {S : PS} {A : Int → NA} {own : Nat → Option (Int × Nat)} (h : PW w gp bn c S A own) (hg : Good S) {o : OpV} (hk : 1 ≤ o.kind ∧ o.kind ≤ 14) (hma : 0 ≤ o.made ∧ o.made ≤ 1099511627776) {dv : Value} (ho : OpAt w own o dv) {fv tv : Value} {l : List ByteArray} {B : Nat} (hv : Strs w B fv l) (hl : ∀ s ∈ l, 0 < s.size ∧ s.size ≤ 40) {l2 : List ByteArray} {B2 : Nat} (hv2 : Strs w B2 tv l2) (hl2 : ∀ s ∈ l2, 0 < s.size ∧ s.size ≤ 40) :
    Calls Tryd.prog 27 #[.pointer (some ⟨gp, 0, none⟩), .agg (opV o dv), fv, tv] w fun e w' => ∃ own' av, e = .returned av ∧ AnsAt w' w.heap.size own' av (S.does o l l2).2 ∧ Mvd w w' gp bn own (S.does o l l2).1 own' := by
  have hc : o.kind = 1 ∨ o.kind = 2 ∨ o.kind = 3 ∨ o.kind = 4 ∨ o.kind = 5 ∨ o.kind = 6 ∨ o.kind = 12 ∨ o.kind = 14 ∨ (o.kind = 7 ∨ o.kind = 8 ∨ o.kind = 9 ∨ o.kind = 10 ∨ o.kind = 11 ∨ o.kind = 13) := by omega
  rcases hc with h1 | h1 | h1 | h1 | h1 | h1 | h1 | h1 | h1
  · have e : S.does o l l2 = S.make l 1 o.made := by unfold PS.does; rw [if_pos h1]
    rw [e]; exact does_create h h1 hma ho hv hl
  · have e : S.does o l l2 = S.make l 2 o.made := by unfold PS.does; rw [if_neg (by omega), if_pos h1]
    rw [e]; exact does_mkdir h h1 hma ho hv hl
  · have e : S.does o l l2 = ((S.link l l2).1, .err (S.link l l2).2) := by unfold PS.does; rw [if_neg (by omega), if_neg (by omega), if_pos h1]
    rw [e]; exact does_link h h1 hg ho hv hl hv2 hl2
  · have e : S.does o l l2 = ((S.unlink l).1, .err (S.unlink l).2) := by unfold PS.does; rw [if_neg (by omega), if_neg (by omega), if_neg (by omega), if_pos h1]
    rw [e]; exact does_unlink h h1 hg ho hv hl
  · have e : S.does o l l2 = ((S.rmdir l).1, .err (S.rmdir l).2) := by unfold PS.does; rw [if_neg (by omega), if_neg (by omega), if_neg (by omega), if_neg (by omega), if_pos h1]
    rw [e]; exact does_rmdir h h1 hg ho hv hl
  · have e : S.does o l l2 = ((S.rename l l2).1, .err (S.rename l l2).2) := by unfold PS.does; rw [if_neg (by omega), if_neg (by omega), if_neg (by omega), if_neg (by omega), if_neg (by omega), if_pos h1]
    rw [e]; exact does_rename h h1 hg ho hv hl hv2 hl2
  · have e : S.does o l l2 = (S, .err 0) := by unfold PS.does; rw [if_neg (by omega), if_neg (by omega), if_neg (by omega), if_neg (by omega), if_neg (by omega), if_neg (by omega), if_pos (.inl h1)]
    rw [e]; exact does_none12 h h1 ho hv hl
  · have e : S.does o l l2 = (S, .err 0) := by unfold PS.does; rw [if_neg (by omega), if_neg (by omega), if_neg (by omega), if_neg (by omega), if_neg (by omega), if_neg (by omega), if_pos (.inr h1)]
    rw [e]; exact does_none14 h h1 ho hv hl
  · have e : S.does o l l2 = S.asked o l := by unfold PS.does; rw [if_neg (by omega), if_neg (by omega), if_neg (by omega), if_neg (by omega), if_neg (by omega), if_neg (by omega), if_neg (by omega)]
    rw [e]; exact does_asked h h1 ho hv hl
end Go.Proofs.YteffoihkljkfdaaDoor

/- Do: every kind. -/
namespace Go.Proofs.YteffoihkljkfdaaDoor
set_option linter.unusedSimpArgs false
set_option linter.unusedVariables false
open Go.RowKit

/-- an operation of two paths -/
def PS.do2 (S : PS) (o : OpV) (F : List ByteArray → List ByteArray → PS × Ans) : PS × Ans :=
  if mayZ o = false then (S, .err 150) else if (spl o.path).2 ≠ 0 then (S, .err (spl o.path).2) else if (spl o.dest).2 ≠ 0 then (S, .err (spl o.dest).2) else PS.told1 (F (spl o.path).1 (spl o.dest).1)
set_option maxHeartbeats 8000000 in
set_option maxRecDepth 100000 in
theorem do_two3 {w : World} {gp bn c : Nat} {S : PS} {A : Int → NA} {own : Nat → Option (Int × Nat)} (h : PW w gp bn c S A own) {o : OpV} (hk : o.kind = 3) {dv : Value} (ho : OpAt w own o dv) {m : Int} (hm : w.cell? ⟨0, 0, none⟩ = some (.int .i64 m)) (F : List ByteArray → List ByteArray → PS × Ans)
    (HF : ∀ (w1 : World) (fv tv : Value) (l l2 : List ByteArray), mayZ o = true → PW w1 gp bn c S A (nrm w own) → OpAt w1 (nrm w own) o dv → Strs w1 0 fv l → (∀ s ∈ l, 0 < s.size ∧ s.size ≤ 40) → Strs w1 0 tv l2 → (∀ s ∈ l2, 0 < s.size ∧ s.size ≤ 40) →
      Calls Tryd.prog 27 #[.pointer (some ⟨gp, 0, none⟩), .agg (opV o dv), fv, tv] w1 fun e w' => ∃ own' av, e = .returned av ∧ AnsAt w' w1.heap.size own' av (F l l2).2 ∧ Mvd w1 w' gp bn (nrm w own) (F l l2).1 own') :
    Calls Tryd.prog 12 #[.pointer (some ⟨gp, 0, none⟩), .agg (opV o dv)] w fun e w' => ∃ own' av, e = .returned av ∧ AnsAt w' w.heap.size own' av (S.do2 o F).2 ∧ Mvd w w' gp bn own (S.do2 o F).1 own' := by
  have H := Lib.hid h.nrm
  have HO := Lib.hid ho
  have HFF := Lib.hid HF
  obtain ⟨od, hdr, hdn⟩ := ho.d
  obtain ⟨da, dc, rfl⟩ := hdr.slice
  have HR : Hid (S.do2 o F = if mayZ o = false then (S, .err 150) else if (spl o.path).2 ≠ 0 then (S, .err (spl o.path).2) else if (spl o.dest).2 ≠ 0 then (S, .err (spl o.dest).2) else PS.told1 (F (spl o.path).1 (spl o.dest).1)) := Lib.hid rfl
  have HSP : Hid (∀ s ∈ (spl o.path).1, 0 < s.size ∧ s.size ≤ 40) := Lib.hid (spl_names o.path)
  have HSP2 : Hid (∀ s ∈ (spl o.dest).1, 0 < s.size ∧ s.size ≤ 40) := Lib.hid (spl_names o.dest)
  generalize hR : S.do2 o F = R at *
  clear hR
  have HFN := Lib.hid (fun (w : World) => @fine_any w o da dc ho.l)
  generalize hM : mayZ o = M at *
  clear hM ho hdr hdn h HF
  obtain ⟨kind, path, dest, off, len, data, made, pick⟩ := o
  simp only at hk HR HSP HSP2
  subst hk
  unfold opV at HFN HFF ⊢
  simp only at HFN HFF ⊢
  obtain ⟨w0, hw0⟩ : ∃ x, x = (w.alloc (.cells #[.int .i64 3, .string path, .string dest, .int .i64 off, .int .i64 len, .slice da data.length dc, .int .i64 made, .int .i64 pick] 40)).alloc (.cells ans0 37) := ⟨_, rfl⟩
  obtain ⟨go, hgo⟩ : ∃ x, x = w.heap.size := ⟨_, rfl⟩
  obtain ⟨ga, hga⟩ : ∃ x, x = go + 1 := ⟨_, rfl⟩
  have hf0 : Fr [] w w0 := by rw [hw0]; exact (fr_new _ _ _).trans (fr_new _ _ _)
  have hop0 : hat w0 go = some (.cells #[.int .i64 3, .string path, .string dest, .int .i64 off, .int .i64 len, .slice da data.length dc, .int .i64 made, .int .i64 pick] 40) := by rw [hw0, hgo]; exact (hopA _ _ (hopN w _).1).1
  have hga0 : hat w0 ga = some (.cells ans0 37) := by
    have e := (hopN (w.alloc (.cells #[.int .i64 3, .string path, .string dest, .int .i64 off, .int .i64 len, .slice da data.length dc, .int .i64 made, .int .i64 pick] 40)) (.cells ans0 37)).1
    rw [show (w.alloc (.cells #[.int .i64 3, .string path, .string dest, .int .i64 off, .int .i64 len, .slice da data.length dc, .int .i64 made, .int .i64 pick] 40)).heap.size = ga by rw [hga, hgo]; simp] at e
    rw [hw0]; exact e
  have HG0 := Lib.hid hga0
  have HF0 := Lib.hid hf0
  have HGE := Lib.hid (show w.heap.size ≤ go ∧ w.heap.size ≤ ga ∧ go < ga from by omega)
  have HM := Lib.hid hm
  have HOP := Lib.hid hop0
  clear hm
  go_enter Tryd.func12, Tryd.ntmps12
  go_upto_region 1 with fail
  have hw0' : w0 = (w.alloc (.cells #[.int .i64 3, .string path, .string dest, .int .i64 off, .int .i64 len, .slice da data.length dc, .int .i64 made, .int .i64 pick] 40)).alloc (.cells #[.int .i64 0, .int .i64 0, .int .i64 0, .int .i64 0, .int .i64 0, .int .i64 0, .int .i64 0, .slice none 0 0, .slice none 0 0, .bool false] 37) := hw0
  rw [← hgo, ← hga]
  rw [← hw0']
  clear hw0' hw0 hf0 hga hgo hga0
  have hol0 := hat_lt hop0
  go_wp2_with fail
  refine (HFN.out w0).mono ?_; rintro e w1 ⟨rfl, hb1⟩
  have HF1 := Lib.hid (HF0.out.trans (fr_below hb1 []))
  have HG1 := Lib.hid (hop hb1 HG0.out).1
  have hop1 := (hop hb1 hop0).1
  have hol1 := hat_lt hop1
  clear hb1 hop0 hol0 HG0 HF0
  cases M with
  | false =>
    have HQ := Lib.hid (show R = (S, .err 150) by rw [HR.out, if_pos rfl])
    have hga := HG1.out
    unfold ans0 at hga
    have hgal := hat_lt hga
    go_wp2_with fail
    refine ret_c row37 rfl (cs := #[.int .i64 150, .int .i64 0, .int .i64 0, .int .i64 0, .int .i64 0, .int .i64 0, .int .i64 0, .slice none 0 0, .slice none 0 0, .bool false]) rfl (hat_setRow_at _ _ _ _ _ _ HG1.out) rfl rfl ?_
    exact ⟨nrm w own, _, rfl, by rw [HQ.out]; exact ans_err _ _ _ _, by rw [HQ.out]; exact Mvd.then ⟨⟨c, A, H.out.fr HF1.out (by simp)⟩, (HF1.out).un (by simp), fun b hb => nrm_lt hb⟩ (fr_setRow _ ga _) (by simp; exact ⟨nrm_ge HGE.out.2.1, HGE.out.2.1⟩)⟩
  | true =>
    have hm1 : w1.cell? ⟨0, 0, none⟩ = some (.int .i64 m) := by
      have h1 := HM.out
      rw [cell?_of_hat] at h1 ⊢
      have hlt : 0 < w.heap.size := by
        rcases Nat.lt_or_ge 0 w.heap.size with h | h
        · exact h
        · have : hat w 0 = none := Array.getElem?_eq_none h
          rw [this] at h1; cases h1
      rw [HF1.out.block 0 hlt (by simp)]
      exact h1
    have HSPL := Lib.hid (split_any path m w1 hm1)
    clear hm1
    go_wp2_with fail
    refine HSPL.out.mono ?_; rintro e w2 ⟨v, rfl, hst, hb2⟩
    have HF2 := Lib.hid (HF1.out.trans (fr_below hb2 []))
    have HG2 := Lib.hid (hop hb2 HG1.out).1
    have hop2 := (hop hb2 hop1).1
    have hol2 := hat_lt hop2
    have HST := Lib.hid (hst.le (Nat.zero_le _))
    clear hb2 hop1 hol1 HG1 HF1 hst HSPL
    generalize spl path = sp at *
    obtain ⟨l, e⟩ := sp
    simp only at HR HSP HST ⊢
    by_cases he : e = 0
    · subst he
      have hm2 : w2.cell? ⟨0, 0, none⟩ = some (.int .i64 m) := by
        have h1 := HM.out
        rw [cell?_of_hat] at h1 ⊢
        have hlt : 0 < w.heap.size := by
          rcases Nat.lt_or_ge 0 w.heap.size with h | h
          · exact h
          · have : hat w 0 = none := Array.getElem?_eq_none h
            rw [this] at h1; cases h1
        rw [HF2.out.block 0 hlt (by simp)]
        exact h1
      have HSPL := Lib.hid (split_any dest m w2 hm2)
      clear hm2
      go_wp2_with fail
      refine HSPL.out.mono ?_; rintro e w5 ⟨v2, rfl, hst, hb2⟩
      have HST := Lib.hid (HST.out.fr' (fr_below hb2 []))
      have HF2 := Lib.hid (HF2.out.trans (fr_below hb2 []))
      have HG2 := Lib.hid (hop hb2 HG2.out).1
      have hop2 := (hop hb2 hop2).1
      have hol2 := hat_lt hop2
      have HST2 := Lib.hid (hst.le (Nat.zero_le _))
      clear hb2 hst HSPL
      obtain ⟨w2, rfl⟩ : ∃ x, x = w5 := ⟨_, rfl⟩
      generalize spl dest = sp at *
      obtain ⟨l2, e⟩ := sp
      simp only at HR HSP2 HST2 ⊢
      by_cases he : e = 0
      · subst he
        have HQ := Lib.hid (show R = PS.told1 (F l l2) by rw [HR.out, if_neg (by simp), if_neg (by simp), if_neg (by simp)])
        go_wp2_with fail
        refine (HFF.out w2 v v2 l l2 (by trivial) (H.out.fr HF2.out (by simp)) (HO.out.fr HF2.out (by simp) (fun b hb => nrm_lt hb)) HST.out HSP.out HST2.out HSP2.out).mono ?_; rintro e w3 ⟨own', av, rfl, ha, hmv⟩
        have hgan : nrm w own ga = none := nrm_ge HGE.out.2.1
        have HG3 := Lib.hid ((hmv.2.1.block ga (hat_lt HG2.out) hgan).trans HG2.out)
        have HGN := Lib.hid ((hmv.2.2 ga (hat_lt HG2.out)).trans hgan)
        have HGL := Lib.hid (hat_lt HG2.out)
        have HMV := Lib.hid (hmv.from HF2.out)
        have HAN := Lib.hid ha
        obtain ⟨dv, ev, od1, oe1, rfl, hd1, he1, -⟩ := ha
        obtain ⟨d1, d2, rfl⟩ := hd1.slice
        obtain ⟨e1, e2, rfl⟩ := he1.slice
        unfold ansV at HAN ⊢
        generalize hx : F l l2 = r at *
        obtain ⟨rS, ⟨xc, ⟨x1, x2, x3, x4, x5, x6⟩, xd, xe⟩⟩ := r
        simp only at HAN HMV ⊢
        have hone : oneAll #[.int .i64 xc, .int .i64 x1, .int .i64 x2, .int .i64 x3, .int .i64 x4, .int .i64 x5, .int .i64 x6, .slice d1 xd.length d2, .slice e1 xe.length e2, .bool false] = true := by simp [oneAll, Value.oneCell']
        clear hmv hop2 hol2 hd1 he1 hx
        go_upto_region 14 with fail
        obtain ⟨w4, hw4⟩ : ∃ x, x = w3.alloc (.cells #[.int .i64 xc, .int .i64 x1, .int .i64 x2, .int .i64 x3, .int .i64 x4, .int .i64 x5, .int .i64 x6, .slice d1 xd.length d2, .slice e1 xe.length e2, .bool false] 37) := ⟨_, rfl⟩
        obtain ⟨gb, hgb⟩ : ∃ x, x = w3.heap.size := ⟨_, rfl⟩
        have hf4 : Fr [] w3 w4 := by rw [hw4]; exact fr_new _ _ _
        have hgb4 : hat w4 gb = some (.cells #[.int .i64 xc, .int .i64 x1, .int .i64 x2, .int .i64 x3, .int .i64 x4, .int .i64 x5, .int .i64 x6, .slice d1 xd.length d2, .slice e1 xe.length e2, .bool false] 37) := by rw [hw4, hgb]; exact (hopN w3 _).1
        have hg4 := (hf4.block _ (hat_lt HG3.out) (by simp)).trans HG3.out
        have HG4 := Lib.hid hg4
        have HF4 := Lib.hid (show Fr [ga] w3 (w4) from hf4.mono (by simp))
        rw [← hw4, ← hgb]
        clear hw4 hgb hf4
        unfold ans0 at hg4
        have hgl4 := hat_lt hg4
        have hgbl := hat_lt hgb4
        by_cases hxc : xc = 0
        · subst hxc
          have HQ2 := Lib.hid (show R = (rS, ⟨0, ⟨x1, x2, x3, x4, x5, x6⟩, xd, xe⟩) by rw [HQ.out]; unfold PS.told1; rw [if_neg (by simp)])
          go_wp2_with fail
          refine ret_c row37 rfl (cs := #[.int .i64 0, .int .i64 x1, .int .i64 x2, .int .i64 x3, .int .i64 x4, .int .i64 x5, .int .i64 x6, .slice d1 xd.length d2, .slice e1 xe.length e2, .bool false]) rfl (hat_setRow_at _ _ _ _ _ _ HG4.out) rfl rfl ?_
          exact ⟨own', _, rfl, by rw [HQ2.out]; exact HAN.out.fr' (HF4.out.trans (fr_setRow w4 ga _)) (by simp; exact HGL.out) HF2.out.size, by rw [HQ2.out]; exact HMV.out.then (HF4.out.trans (fr_setRow w4 ga _)) (by simp; exact ⟨HGN.out, HGE.out.2.1⟩)⟩
        · have HQ2 := Lib.hid (show R = (rS, .err xc) by rw [HQ.out]; unfold PS.told1; rw [if_pos (by simpa using hxc)])
          go_wp2_with fail
          refine ret_c row37 rfl (cs := #[.int .i64 xc, .int .i64 0, .int .i64 0, .int .i64 0, .int .i64 0, .int .i64 0, .int .i64 0, .slice none 0 0, .slice none 0 0, .bool false]) rfl (hat_setRow_at _ _ _ _ _ _ HG4.out) rfl rfl ?_
          exact ⟨own', _, rfl, by rw [HQ2.out]; exact ans_err _ _ _ _, by rw [HQ2.out]; exact HMV.out.then (HF4.out.trans (fr_setRow w4 ga _)) (by simp; exact ⟨HGN.out, HGE.out.2.1⟩)⟩
      · have HQ := Lib.hid (show R = (S, .err e) by rw [HR.out, if_neg (by simp), if_neg (by simp), if_pos (by simpa using he)])
        have hga := HG2.out
        unfold ans0 at hga
        have hgal := hat_lt hga
        go_wp2_with fail
        refine ret_c row37 rfl (cs := #[.int .i64 e, .int .i64 0, .int .i64 0, .int .i64 0, .int .i64 0, .int .i64 0, .int .i64 0, .slice none 0 0, .slice none 0 0, .bool false]) rfl (hat_setRow_at _ _ _ _ _ _ HG2.out) rfl rfl ?_
        exact ⟨nrm w own, _, rfl, by rw [HQ.out]; exact ans_err _ _ _ _, by rw [HQ.out]; exact Mvd.then ⟨⟨c, A, H.out.fr HF2.out (by simp)⟩, (HF2.out).un (by simp), fun b hb => nrm_lt hb⟩ (fr_setRow _ ga _) (by simp; exact ⟨nrm_ge HGE.out.2.1, HGE.out.2.1⟩)⟩
    · have HQ := Lib.hid (show R = (S, .err e) by rw [HR.out, if_neg (by simp), if_pos (by simpa using he)])
      have hga := HG2.out
      unfold ans0 at hga
      have hgal := hat_lt hga
      go_wp2_with fail
      refine ret_c row37 rfl (cs := #[.int .i64 e, .int .i64 0, .int .i64 0, .int .i64 0, .int .i64 0, .int .i64 0, .int .i64 0, .slice none 0 0, .slice none 0 0, .bool false]) rfl (hat_setRow_at _ _ _ _ _ _ HG2.out) rfl rfl ?_
      exact ⟨nrm w own, _, rfl, by rw [HQ.out]; exact ans_err _ _ _ _, by rw [HQ.out]; exact Mvd.then ⟨⟨c, A, H.out.fr HF2.out (by simp)⟩, (HF2.out).un (by simp), fun b hb => nrm_lt hb⟩ (fr_setRow _ ga _) (by simp; exact ⟨nrm_ge HGE.out.2.1, HGE.out.2.1⟩)⟩
set_option maxHeartbeats 8000000 in
set_option maxRecDepth 100000 in
theorem do_two6 {w : World} {gp bn c : Nat} {S : PS} {A : Int → NA} {own : Nat → Option (Int × Nat)} (h : PW w gp bn c S A own) {o : OpV} (hk : o.kind = 6) {dv : Value} (ho : OpAt w own o dv) {m : Int} (hm : w.cell? ⟨0, 0, none⟩ = some (.int .i64 m)) (F : List ByteArray → List ByteArray → PS × Ans)
    (HF : ∀ (w1 : World) (fv tv : Value) (l l2 : List ByteArray), mayZ o = true → PW w1 gp bn c S A (nrm w own) → OpAt w1 (nrm w own) o dv → Strs w1 0 fv l → (∀ s ∈ l, 0 < s.size ∧ s.size ≤ 40) → Strs w1 0 tv l2 → (∀ s ∈ l2, 0 < s.size ∧ s.size ≤ 40) →
      Calls Tryd.prog 27 #[.pointer (some ⟨gp, 0, none⟩), .agg (opV o dv), fv, tv] w1 fun e w' => ∃ own' av, e = .returned av ∧ AnsAt w' w1.heap.size own' av (F l l2).2 ∧ Mvd w1 w' gp bn (nrm w own) (F l l2).1 own') :
    Calls Tryd.prog 12 #[.pointer (some ⟨gp, 0, none⟩), .agg (opV o dv)] w fun e w' => ∃ own' av, e = .returned av ∧ AnsAt w' w.heap.size own' av (S.do2 o F).2 ∧ Mvd w w' gp bn own (S.do2 o F).1 own' := by
  have H := Lib.hid h.nrm
  have HO := Lib.hid ho
  have HFF := Lib.hid HF
  obtain ⟨od, hdr, hdn⟩ := ho.d
  obtain ⟨da, dc, rfl⟩ := hdr.slice
  have HR : Hid (S.do2 o F = if mayZ o = false then (S, .err 150) else if (spl o.path).2 ≠ 0 then (S, .err (spl o.path).2) else if (spl o.dest).2 ≠ 0 then (S, .err (spl o.dest).2) else PS.told1 (F (spl o.path).1 (spl o.dest).1)) := Lib.hid rfl
  have HSP : Hid (∀ s ∈ (spl o.path).1, 0 < s.size ∧ s.size ≤ 40) := Lib.hid (spl_names o.path)
  have HSP2 : Hid (∀ s ∈ (spl o.dest).1, 0 < s.size ∧ s.size ≤ 40) := Lib.hid (spl_names o.dest)
  generalize hR : S.do2 o F = R at *
  clear hR
  have HFN := Lib.hid (fun (w : World) => @fine_any w o da dc ho.l)
  generalize hM : mayZ o = M at *
  clear hM ho hdr hdn h HF
  obtain ⟨kind, path, dest, off, len, data, made, pick⟩ := o
  simp only at hk HR HSP HSP2
  subst hk
  unfold opV at HFN HFF ⊢
  simp only at HFN HFF ⊢
  obtain ⟨w0, hw0⟩ : ∃ x, x = (w.alloc (.cells #[.int .i64 6, .string path, .string dest, .int .i64 off, .int .i64 len, .slice da data.length dc, .int .i64 made, .int .i64 pick] 40)).alloc (.cells ans0 37) := ⟨_, rfl⟩
  obtain ⟨go, hgo⟩ : ∃ x, x = w.heap.size := ⟨_, rfl⟩
  obtain ⟨ga, hga⟩ : ∃ x, x = go + 1 := ⟨_, rfl⟩
  have hf0 : Fr [] w w0 := by rw [hw0]; exact (fr_new _ _ _).trans (fr_new _ _ _)
  have hop0 : hat w0 go = some (.cells #[.int .i64 6, .string path, .string dest, .int .i64 off, .int .i64 len, .slice da data.length dc, .int .i64 made, .int .i64 pick] 40) := by rw [hw0, hgo]; exact (hopA _ _ (hopN w _).1).1
  have hga0 : hat w0 ga = some (.cells ans0 37) := by
    have e := (hopN (w.alloc (.cells #[.int .i64 6, .string path, .string dest, .int .i64 off, .int .i64 len, .slice da data.length dc, .int .i64 made, .int .i64 pick] 40)) (.cells ans0 37)).1
    rw [show (w.alloc (.cells #[.int .i64 6, .string path, .string dest, .int .i64 off, .int .i64 len, .slice da data.length dc, .int .i64 made, .int .i64 pick] 40)).heap.size = ga by rw [hga, hgo]; simp] at e
    rw [hw0]; exact e
  have HG0 := Lib.hid hga0
  have HF0 := Lib.hid hf0
  have HGE := Lib.hid (show w.heap.size ≤ go ∧ w.heap.size ≤ ga ∧ go < ga from by omega)
  have HM := Lib.hid hm
  have HOP := Lib.hid hop0
  clear hm
  go_enter Tryd.func12, Tryd.ntmps12
  go_upto_region 1 with fail
  have hw0' : w0 = (w.alloc (.cells #[.int .i64 6, .string path, .string dest, .int .i64 off, .int .i64 len, .slice da data.length dc, .int .i64 made, .int .i64 pick] 40)).alloc (.cells #[.int .i64 0, .int .i64 0, .int .i64 0, .int .i64 0, .int .i64 0, .int .i64 0, .int .i64 0, .slice none 0 0, .slice none 0 0, .bool false] 37) := hw0
  rw [← hgo, ← hga]
  rw [← hw0']
  clear hw0' hw0 hf0 hga hgo hga0
  have hol0 := hat_lt hop0
  go_wp2_with fail
  refine (HFN.out w0).mono ?_; rintro e w1 ⟨rfl, hb1⟩
  have HF1 := Lib.hid (HF0.out.trans (fr_below hb1 []))
  have HG1 := Lib.hid (hop hb1 HG0.out).1
  have hop1 := (hop hb1 hop0).1
  have hol1 := hat_lt hop1
  clear hb1 hop0 hol0 HG0 HF0
  cases M with
  | false =>
    have HQ := Lib.hid (show R = (S, .err 150) by rw [HR.out, if_pos rfl])
    have hga := HG1.out
    unfold ans0 at hga
    have hgal := hat_lt hga
    go_wp2_with fail
    refine ret_c row37 rfl (cs := #[.int .i64 150, .int .i64 0, .int .i64 0, .int .i64 0, .int .i64 0, .int .i64 0, .int .i64 0, .slice none 0 0, .slice none 0 0, .bool false]) rfl (hat_setRow_at _ _ _ _ _ _ HG1.out) rfl rfl ?_
    exact ⟨nrm w own, _, rfl, by rw [HQ.out]; exact ans_err _ _ _ _, by rw [HQ.out]; exact Mvd.then ⟨⟨c, A, H.out.fr HF1.out (by simp)⟩, (HF1.out).un (by simp), fun b hb => nrm_lt hb⟩ (fr_setRow _ ga _) (by simp; exact ⟨nrm_ge HGE.out.2.1, HGE.out.2.1⟩)⟩
  | true =>
    have hm1 : w1.cell? ⟨0, 0, none⟩ = some (.int .i64 m) := by
      have h1 := HM.out
      rw [cell?_of_hat] at h1 ⊢
      have hlt : 0 < w.heap.size := by
        rcases Nat.lt_or_ge 0 w.heap.size with h | h
        · exact h
        · have : hat w 0 = none := Array.getElem?_eq_none h
          rw [this] at h1; cases h1
      rw [HF1.out.block 0 hlt (by simp)]
      exact h1
    have HSPL := Lib.hid (split_any path m w1 hm1)
    clear hm1
    go_wp2_with fail
    refine HSPL.out.mono ?_; rintro e w2 ⟨v, rfl, hst, hb2⟩
    have HF2 := Lib.hid (HF1.out.trans (fr_below hb2 []))
    have HG2 := Lib.hid (hop hb2 HG1.out).1
    have hop2 := (hop hb2 hop1).1
    have hol2 := hat_lt hop2
    have HST := Lib.hid (hst.le (Nat.zero_le _))
    clear hb2 hop1 hol1 HG1 HF1 hst HSPL
    generalize spl path = sp at *
    obtain ⟨l, e⟩ := sp
    simp only at HR HSP HST ⊢
    by_cases he : e = 0
    · subst he
      have hm2 : w2.cell? ⟨0, 0, none⟩ = some (.int .i64 m) := by
        have h1 := HM.out
        rw [cell?_of_hat] at h1 ⊢
        have hlt : 0 < w.heap.size := by
          rcases Nat.lt_or_ge 0 w.heap.size with h | h
          · exact h
          · have : hat w 0 = none := Array.getElem?_eq_none h
            rw [this] at h1; cases h1
        rw [HF2.out.block 0 hlt (by simp)]
        exact h1
      have HSPL := Lib.hid (split_any dest m w2 hm2)
      clear hm2
      go_wp2_with fail
      refine HSPL.out.mono ?_; rintro e w5 ⟨v2, rfl, hst, hb2⟩
      have HST := Lib.hid (HST.out.fr' (fr_below hb2 []))
      have HF2 := Lib.hid (HF2.out.trans (fr_below hb2 []))
      have HG2 := Lib.hid (hop hb2 HG2.out).1
      have hop2 := (hop hb2 hop2).1
      have hol2 := hat_lt hop2
      have HST2 := Lib.hid (hst.le (Nat.zero_le _))
      clear hb2 hst HSPL
      obtain ⟨w2, rfl⟩ : ∃ x, x = w5 := ⟨_, rfl⟩
      generalize spl dest = sp at *
      obtain ⟨l2, e⟩ := sp
      simp only at HR HSP2 HST2 ⊢
      by_cases he : e = 0
      · subst he
        have HQ := Lib.hid (show R = PS.told1 (F l l2) by rw [HR.out, if_neg (by simp), if_neg (by simp), if_neg (by simp)])
        go_wp2_with fail
        refine (HFF.out w2 v v2 l l2 (by trivial) (H.out.fr HF2.out (by simp)) (HO.out.fr HF2.out (by simp) (fun b hb => nrm_lt hb)) HST.out HSP.out HST2.out HSP2.out).mono ?_; rintro e w3 ⟨own', av, rfl, ha, hmv⟩
        have hgan : nrm w own ga = none := nrm_ge HGE.out.2.1
        have HG3 := Lib.hid ((hmv.2.1.block ga (hat_lt HG2.out) hgan).trans HG2.out)
        have HGN := Lib.hid ((hmv.2.2 ga (hat_lt HG2.out)).trans hgan)
        have HGL := Lib.hid (hat_lt HG2.out)
        have HMV := Lib.hid (hmv.from HF2.out)
        have HAN := Lib.hid ha
        obtain ⟨dv, ev, od1, oe1, rfl, hd1, he1, -⟩ := ha
        obtain ⟨d1, d2, rfl⟩ := hd1.slice
        obtain ⟨e1, e2, rfl⟩ := he1.slice
        unfold ansV at HAN ⊢
        generalize hx : F l l2 = r at *
        obtain ⟨rS, ⟨xc, ⟨x1, x2, x3, x4, x5, x6⟩, xd, xe⟩⟩ := r
        simp only at HAN HMV ⊢
        have hone : oneAll #[.int .i64 xc, .int .i64 x1, .int .i64 x2, .int .i64 x3, .int .i64 x4, .int .i64 x5, .int .i64 x6, .slice d1 xd.length d2, .slice e1 xe.length e2, .bool false] = true := by simp [oneAll, Value.oneCell']
        clear hmv hop2 hol2 hd1 he1 hx
        go_upto_region 14 with fail
        obtain ⟨w4, hw4⟩ : ∃ x, x = w3.alloc (.cells #[.int .i64 xc, .int .i64 x1, .int .i64 x2, .int .i64 x3, .int .i64 x4, .int .i64 x5, .int .i64 x6, .slice d1 xd.length d2, .slice e1 xe.length e2, .bool false] 37) := ⟨_, rfl⟩
        obtain ⟨gb, hgb⟩ : ∃ x, x = w3.heap.size := ⟨_, rfl⟩
        have hf4 : Fr [] w3 w4 := by rw [hw4]; exact fr_new _ _ _
        have hgb4 : hat w4 gb = some (.cells #[.int .i64 xc, .int .i64 x1, .int .i64 x2, .int .i64 x3, .int .i64 x4, .int .i64 x5, .int .i64 x6, .slice d1 xd.length d2, .slice e1 xe.length e2, .bool false] 37) := by rw [hw4, hgb]; exact (hopN w3 _).1
        have hg4 := (hf4.block _ (hat_lt HG3.out) (by simp)).trans HG3.out
        have HG4 := Lib.hid hg4
        have HF4 := Lib.hid (show Fr [ga] w3 (w4) from hf4.mono (by simp))
        rw [← hw4, ← hgb]
        clear hw4 hgb hf4
        unfold ans0 at hg4
        have hgl4 := hat_lt hg4
        have hgbl := hat_lt hgb4
        by_cases hxc : xc = 0
        · subst hxc
          have HQ2 := Lib.hid (show R = (rS, ⟨0, ⟨x1, x2, x3, x4, x5, x6⟩, xd, xe⟩) by rw [HQ.out]; unfold PS.told1; rw [if_neg (by simp)])
          go_wp2_with fail
          refine ret_c row37 rfl (cs := #[.int .i64 0, .int .i64 x1, .int .i64 x2, .int .i64 x3, .int .i64 x4, .int .i64 x5, .int .i64 x6, .slice d1 xd.length d2, .slice e1 xe.length e2, .bool false]) rfl (hat_setRow_at _ _ _ _ _ _ HG4.out) rfl rfl ?_
          exact ⟨own', _, rfl, by rw [HQ2.out]; exact HAN.out.fr' (HF4.out.trans (fr_setRow w4 ga _)) (by simp; exact HGL.out) HF2.out.size, by rw [HQ2.out]; exact HMV.out.then (HF4.out.trans (fr_setRow w4 ga _)) (by simp; exact ⟨HGN.out, HGE.out.2.1⟩)⟩
        · have HQ2 := Lib.hid (show R = (rS, .err xc) by rw [HQ.out]; unfold PS.told1; rw [if_pos (by simpa using hxc)])
          go_wp2_with fail
          refine ret_c row37 rfl (cs := #[.int .i64 xc, .int .i64 0, .int .i64 0, .int .i64 0, .int .i64 0, .int .i64 0, .int .i64 0, .slice none 0 0, .slice none 0 0, .bool false]) rfl (hat_setRow_at _ _ _ _ _ _ HG4.out) rfl rfl ?_
          exact ⟨own', _, rfl, by rw [HQ2.out]; exact ans_err _ _ _ _, by rw [HQ2.out]; exact HMV.out.then (HF4.out.trans (fr_setRow w4 ga _)) (by simp; exact ⟨HGN.out, HGE.out.2.1⟩)⟩
      · have HQ := Lib.hid (show R = (S, .err e) by rw [HR.out, if_neg (by simp), if_neg (by simp), if_pos (by simpa using he)])
        have hga := HG2.out
        unfold ans0 at hga
        have hgal := hat_lt hga
        go_wp2_with fail
        refine ret_c row37 rfl (cs := #[.int .i64 e, .int .i64 0, .int .i64 0, .int .i64 0, .int .i64 0, .int .i64 0, .int .i64 0, .slice none 0 0, .slice none 0 0, .bool false]) rfl (hat_setRow_at _ _ _ _ _ _ HG2.out) rfl rfl ?_
        exact ⟨nrm w own, _, rfl, by rw [HQ.out]; exact ans_err _ _ _ _, by rw [HQ.out]; exact Mvd.then ⟨⟨c, A, H.out.fr HF2.out (by simp)⟩, (HF2.out).un (by simp), fun b hb => nrm_lt hb⟩ (fr_setRow _ ga _) (by simp; exact ⟨nrm_ge HGE.out.2.1, HGE.out.2.1⟩)⟩
    · have HQ := Lib.hid (show R = (S, .err e) by rw [HR.out, if_neg (by simp), if_pos (by simpa using he)])
      have hga := HG2.out
      unfold ans0 at hga
      have hgal := hat_lt hga
      go_wp2_with fail
      refine ret_c row37 rfl (cs := #[.int .i64 e, .int .i64 0, .int .i64 0, .int .i64 0, .int .i64 0, .int .i64 0, .int .i64 0, .slice none 0 0, .slice none 0 0, .bool false]) rfl (hat_setRow_at _ _ _ _ _ _ HG2.out) rfl rfl ?_
      exact ⟨nrm w own, _, rfl, by rw [HQ.out]; exact ans_err _ _ _ _, by rw [HQ.out]; exact Mvd.then ⟨⟨c, A, H.out.fr HF2.out (by simp)⟩, (HF2.out).un (by simp), fun b hb => nrm_lt hb⟩ (fr_setRow _ ga _) (by simp; exact ⟨nrm_ge HGE.out.2.1, HGE.out.2.1⟩)⟩
set_option maxHeartbeats 8000000 in
set_option maxRecDepth 100000 in
theorem do_none12 {w : World} {gp bn c : Nat} {S : PS} {A : Int → NA} {own : Nat → Option (Int × Nat)} (h : PW w gp bn c S A own) {o : OpV} (hk : o.kind = 12) {dv : Value} (ho : OpAt w own o dv) {m : Int} (hm : w.cell? ⟨0, 0, none⟩ = some (.int .i64 m)) :
    Calls Tryd.prog 12 #[.pointer (some ⟨gp, 0, none⟩), .agg (opV o dv)] w fun e w' => ∃ own' av, e = .returned av ∧ AnsAt w' w.heap.size own' av (if mayZ o = false then Ans.err 150 else .err 0) ∧ Mvd w w' gp bn own S own' := by
  have H := Lib.hid h.nrm
  have HO := Lib.hid ho
  obtain ⟨od, hdr, hdn⟩ := ho.d
  obtain ⟨da, dc, rfl⟩ := hdr.slice
  obtain ⟨R, hR⟩ : ∃ R, R = (if mayZ o = false then Ans.err 150 else Ans.err 0) := ⟨_, rfl⟩
  rw [← hR]
  have HR := Lib.hid hR
  clear hR
  have HFN := Lib.hid (fun (w : World) => @fine_any w o da dc ho.l)
  generalize hM : mayZ o = M at *
  clear hM ho hdr hdn h
  obtain ⟨kind, path, dest, off, len, data, made, pick⟩ := o
  simp only at hk HR
  subst hk
  unfold opV at HFN ⊢
  simp only at HFN ⊢
  obtain ⟨w0, hw0⟩ : ∃ x, x = (w.alloc (.cells #[.int .i64 12, .string path, .string dest, .int .i64 off, .int .i64 len, .slice da data.length dc, .int .i64 made, .int .i64 pick] 40)).alloc (.cells ans0 37) := ⟨_, rfl⟩
  obtain ⟨go, hgo⟩ : ∃ x, x = w.heap.size := ⟨_, rfl⟩
  obtain ⟨ga, hga⟩ : ∃ x, x = go + 1 := ⟨_, rfl⟩
  have hf0 : Fr [] w w0 := by rw [hw0]; exact (fr_new _ _ _).trans (fr_new _ _ _)
  have hop0 : hat w0 go = some (.cells #[.int .i64 12, .string path, .string dest, .int .i64 off, .int .i64 len, .slice da data.length dc, .int .i64 made, .int .i64 pick] 40) := by rw [hw0, hgo]; exact (hopA _ _ (hopN w _).1).1
  have hga0 : hat w0 ga = some (.cells ans0 37) := by
    have e := (hopN (w.alloc (.cells #[.int .i64 12, .string path, .string dest, .int .i64 off, .int .i64 len, .slice da data.length dc, .int .i64 made, .int .i64 pick] 40)) (.cells ans0 37)).1
    rw [show (w.alloc (.cells #[.int .i64 12, .string path, .string dest, .int .i64 off, .int .i64 len, .slice da data.length dc, .int .i64 made, .int .i64 pick] 40)).heap.size = ga by rw [hga, hgo]; simp] at e
    rw [hw0]; exact e
  have HG0 := Lib.hid hga0
  have HF0 := Lib.hid hf0
  have HGE := Lib.hid (show w.heap.size ≤ go ∧ w.heap.size ≤ ga ∧ go < ga from by omega)
  have HM := Lib.hid hm
  have HOP := Lib.hid hop0
  clear hm
  go_enter Tryd.func12, Tryd.ntmps12
  go_upto_region 1 with fail
  have hw0' : w0 = (w.alloc (.cells #[.int .i64 12, .string path, .string dest, .int .i64 off, .int .i64 len, .slice da data.length dc, .int .i64 made, .int .i64 pick] 40)).alloc (.cells #[.int .i64 0, .int .i64 0, .int .i64 0, .int .i64 0, .int .i64 0, .int .i64 0, .int .i64 0, .slice none 0 0, .slice none 0 0, .bool false] 37) := hw0
  rw [← hgo, ← hga]
  rw [← hw0']
  clear hw0' hw0 hf0 hga hgo hga0
  have hol0 := hat_lt hop0
  go_wp2_with fail
  refine (HFN.out w0).mono ?_; rintro e w1 ⟨rfl, hb1⟩
  have HF1 := Lib.hid (HF0.out.trans (fr_below hb1 []))
  have HG1 := Lib.hid (hop hb1 HG0.out).1
  have hop1 := (hop hb1 hop0).1
  have hol1 := hat_lt hop1
  clear hb1 hop0 hol0 HG0 HF0
  cases M with
  | false =>
    have HQ := Lib.hid (show R = .err 150 by rw [HR.out, if_pos rfl])
    have hga := HG1.out
    unfold ans0 at hga
    have hgal := hat_lt hga
    go_wp2_with fail
    refine ret_c row37 rfl (cs := #[.int .i64 150, .int .i64 0, .int .i64 0, .int .i64 0, .int .i64 0, .int .i64 0, .int .i64 0, .slice none 0 0, .slice none 0 0, .bool false]) rfl (hat_setRow_at _ _ _ _ _ _ HG1.out) rfl rfl ?_
    exact ⟨nrm w own, _, rfl, by rw [HQ.out]; exact ans_err _ _ _ _, Mvd.then ⟨⟨c, A, H.out.fr HF1.out (by simp)⟩, (HF1.out).un (by simp), fun b hb => nrm_lt hb⟩ (fr_setRow _ ga _) (by simp; exact ⟨nrm_ge HGE.out.2.1, HGE.out.2.1⟩)⟩
  | true =>
    have HQ := Lib.hid (show R = .err 0 by rw [HR.out, if_neg (by simp)])
    have hdn := (does_none12 (H.out.fr HF1.out (by simp)) (o := ⟨12, path, dest, off, len, data, made, pick⟩) rfl (HO.out.fr HF1.out (by simp) (fun b hb => nrm_lt hb)) (fv := .slice none 0 0) (tv := .slice none 0 0) (l := []) (B := 0) (.inl ⟨rfl, rfl⟩) (fun s h => (nomatch h)))
    unfold opV at hdn
    simp only at hdn
    have HDN := Lib.hid hdn
    clear hdn
    go_wp2_with fail
    refine HDN.out.mono ?_; rintro e w3 ⟨own', av, rfl, ha, hmv⟩
    have hgan : nrm w own ga = none := nrm_ge HGE.out.2.1
    have HG3 := Lib.hid ((hmv.2.1.block ga (hat_lt HG1.out) hgan).trans HG1.out)
    have HGN := Lib.hid ((hmv.2.2 ga (hat_lt HG1.out)).trans hgan)
    have HMV := Lib.hid (hmv.from HF1.out)
    have HAN := Lib.hid ha
    obtain ⟨dv, ev, od1, oe1, rfl, hd1, he1, -⟩ := ha
    obtain ⟨d1, d2, rfl⟩ := hd1.slice
    obtain ⟨e1, e2, rfl⟩ := he1.slice
    have HD1 := Lib.hid hd1
    have HE1 := Lib.hid he1
    unfold ansV Ans.err Sta.zero
    simp only [List.length_nil]
    clear hmv hop1 hol1 hd1 he1
    go_upto_region 14 with fail
    obtain ⟨w4, hw4⟩ : ∃ x, x = w3.alloc (.cells #[.int .i64 0, .int .i64 0, .int .i64 0, .int .i64 0, .int .i64 0, .int .i64 0, .int .i64 0, .slice d1 0 d2, .slice e1 0 e2, .bool false] 37) := ⟨_, rfl⟩
    obtain ⟨gb, hgb⟩ : ∃ x, x = w3.heap.size := ⟨_, rfl⟩
    have hf4 : Fr [] w3 w4 := by rw [hw4]; exact fr_new _ _ _
    have hgb4 : hat w4 gb = some (.cells #[.int .i64 0, .int .i64 0, .int .i64 0, .int .i64 0, .int .i64 0, .int .i64 0, .int .i64 0, .slice d1 0 d2, .slice e1 0 e2, .bool false] 37) := by rw [hw4, hgb]; exact (hopN w3 _).1
    have hg4 := (hf4.block _ (hat_lt HG3.out) (by simp)).trans HG3.out
    have HG4 := Lib.hid hg4
    have HF4 := Lib.hid (show Fr [ga] w3 (w4) from hf4.mono (by simp))
    rw [← hw4, ← hgb]
    clear hw4 hgb hf4
    unfold ans0 at hg4
    have hgl4 := hat_lt hg4
    have hgbl := hat_lt hgb4
    go_wp2_with fail
    refine ret_c row37 rfl (cs := #[.int .i64 0, .int .i64 0, .int .i64 0, .int .i64 0, .int .i64 0, .int .i64 0, .int .i64 0, .slice d1 0 d2, .slice e1 0 e2, .bool false]) rfl (hat_setRow_at _ _ _ _ _ _ HG4.out) rfl rfl ?_
    exact ⟨own', _, rfl, by rw [HQ.out]; exact HAN.out.fr' (HF4.out.trans (fr_setRow w4 ga _)) (by simp; exact hat_lt HG1.out) HF1.out.size, HMV.out.then (HF4.out.trans (fr_setRow w4 ga _)) (by simp; exact ⟨HGN.out, HGE.out.2.1⟩)⟩
set_option maxHeartbeats 8000000 in
set_option maxRecDepth 100000 in
theorem do_none14 {w : World} {gp bn c : Nat} {S : PS} {A : Int → NA} {own : Nat → Option (Int × Nat)} (h : PW w gp bn c S A own) {o : OpV} (hk : o.kind = 14) {dv : Value} (ho : OpAt w own o dv) {m : Int} (hm : w.cell? ⟨0, 0, none⟩ = some (.int .i64 m)) :
    Calls Tryd.prog 12 #[.pointer (some ⟨gp, 0, none⟩), .agg (opV o dv)] w fun e w' => ∃ own' av, e = .returned av ∧ AnsAt w' w.heap.size own' av (if mayZ o = false then Ans.err 150 else .err 0) ∧ Mvd w w' gp bn own S own' := by
  have H := Lib.hid h.nrm
  have HO := Lib.hid ho
  obtain ⟨od, hdr, hdn⟩ := ho.d
  obtain ⟨da, dc, rfl⟩ := hdr.slice
  obtain ⟨R, hR⟩ : ∃ R, R = (if mayZ o = false then Ans.err 150 else Ans.err 0) := ⟨_, rfl⟩
  rw [← hR]
  have HR := Lib.hid hR
  clear hR
  have HFN := Lib.hid (fun (w : World) => @fine_any w o da dc ho.l)
  generalize hM : mayZ o = M at *
  clear hM ho hdr hdn h
  obtain ⟨kind, path, dest, off, len, data, made, pick⟩ := o
  simp only at hk HR
  subst hk
  unfold opV at HFN ⊢
  simp only at HFN ⊢
  obtain ⟨w0, hw0⟩ : ∃ x, x = (w.alloc (.cells #[.int .i64 14, .string path, .string dest, .int .i64 off, .int .i64 len, .slice da data.length dc, .int .i64 made, .int .i64 pick] 40)).alloc (.cells ans0 37) := ⟨_, rfl⟩
  obtain ⟨go, hgo⟩ : ∃ x, x = w.heap.size := ⟨_, rfl⟩
  obtain ⟨ga, hga⟩ : ∃ x, x = go + 1 := ⟨_, rfl⟩
  have hf0 : Fr [] w w0 := by rw [hw0]; exact (fr_new _ _ _).trans (fr_new _ _ _)
  have hop0 : hat w0 go = some (.cells #[.int .i64 14, .string path, .string dest, .int .i64 off, .int .i64 len, .slice da data.length dc, .int .i64 made, .int .i64 pick] 40) := by rw [hw0, hgo]; exact (hopA _ _ (hopN w _).1).1
  have hga0 : hat w0 ga = some (.cells ans0 37) := by
    have e := (hopN (w.alloc (.cells #[.int .i64 14, .string path, .string dest, .int .i64 off, .int .i64 len, .slice da data.length dc, .int .i64 made, .int .i64 pick] 40)) (.cells ans0 37)).1
    rw [show (w.alloc (.cells #[.int .i64 14, .string path, .string dest, .int .i64 off, .int .i64 len, .slice da data.length dc, .int .i64 made, .int .i64 pick] 40)).heap.size = ga by rw [hga, hgo]; simp] at e
    rw [hw0]; exact e
  have HG0 := Lib.hid hga0
  have HF0 := Lib.hid hf0
  have HGE := Lib.hid (show w.heap.size ≤ go ∧ w.heap.size ≤ ga ∧ go < ga from by omega)
  have HM := Lib.hid hm
  have HOP := Lib.hid hop0
  clear hm
  go_enter Tryd.func12, Tryd.ntmps12
  go_upto_region 1 with fail
  have hw0' : w0 = (w.alloc (.cells #[.int .i64 14, .string path, .string dest, .int .i64 off, .int .i64 len, .slice da data.length dc, .int .i64 made, .int .i64 pick] 40)).alloc (.cells #[.int .i64 0, .int .i64 0, .int .i64 0, .int .i64 0, .int .i64 0, .int .i64 0, .int .i64 0, .slice none 0 0, .slice none 0 0, .bool false] 37) := hw0
  rw [← hgo, ← hga]
  rw [← hw0']
  clear hw0' hw0 hf0 hga hgo hga0
  have hol0 := hat_lt hop0
  go_wp2_with fail
  refine (HFN.out w0).mono ?_; rintro e w1 ⟨rfl, hb1⟩
  have HF1 := Lib.hid (HF0.out.trans (fr_below hb1 []))
  have HG1 := Lib.hid (hop hb1 HG0.out).1
  have hop1 := (hop hb1 hop0).1
  have hol1 := hat_lt hop1
  clear hb1 hop0 hol0 HG0 HF0
  cases M with
  | false =>
    have HQ := Lib.hid (show R = .err 150 by rw [HR.out, if_pos rfl])
    have hga := HG1.out
    unfold ans0 at hga
    have hgal := hat_lt hga
    go_wp2_with fail
    refine ret_c row37 rfl (cs := #[.int .i64 150, .int .i64 0, .int .i64 0, .int .i64 0, .int .i64 0, .int .i64 0, .int .i64 0, .slice none 0 0, .slice none 0 0, .bool false]) rfl (hat_setRow_at _ _ _ _ _ _ HG1.out) rfl rfl ?_
    exact ⟨nrm w own, _, rfl, by rw [HQ.out]; exact ans_err _ _ _ _, Mvd.then ⟨⟨c, A, H.out.fr HF1.out (by simp)⟩, (HF1.out).un (by simp), fun b hb => nrm_lt hb⟩ (fr_setRow _ ga _) (by simp; exact ⟨nrm_ge HGE.out.2.1, HGE.out.2.1⟩)⟩
  | true =>
    have HQ := Lib.hid (show R = .err 0 by rw [HR.out, if_neg (by simp)])
    have hdn := (does_none14 (H.out.fr HF1.out (by simp)) (o := ⟨14, path, dest, off, len, data, made, pick⟩) rfl (HO.out.fr HF1.out (by simp) (fun b hb => nrm_lt hb)) (fv := .slice none 0 0) (tv := .slice none 0 0) (l := []) (B := 0) (.inl ⟨rfl, rfl⟩) (fun s h => (nomatch h)))
    unfold opV at hdn
    simp only at hdn
    have HDN := Lib.hid hdn
    clear hdn
    go_wp2_with fail
    refine HDN.out.mono ?_; rintro e w3 ⟨own', av, rfl, ha, hmv⟩
    have hgan : nrm w own ga = none := nrm_ge HGE.out.2.1
    have HG3 := Lib.hid ((hmv.2.1.block ga (hat_lt HG1.out) hgan).trans HG1.out)
    have HGN := Lib.hid ((hmv.2.2 ga (hat_lt HG1.out)).trans hgan)
    have HMV := Lib.hid (hmv.from HF1.out)
    have HAN := Lib.hid ha
    obtain ⟨dv, ev, od1, oe1, rfl, hd1, he1, -⟩ := ha
    obtain ⟨d1, d2, rfl⟩ := hd1.slice
    obtain ⟨e1, e2, rfl⟩ := he1.slice
    have HD1 := Lib.hid hd1
    have HE1 := Lib.hid he1
    unfold ansV Ans.err Sta.zero
    simp only [List.length_nil]
    clear hmv hop1 hol1 hd1 he1
    go_upto_region 14 with fail
    obtain ⟨w4, hw4⟩ : ∃ x, x = w3.alloc (.cells #[.int .i64 0, .int .i64 0, .int .i64 0, .int .i64 0, .int .i64 0, .int .i64 0, .int .i64 0, .slice d1 0 d2, .slice e1 0 e2, .bool false] 37) := ⟨_, rfl⟩
    obtain ⟨gb, hgb⟩ : ∃ x, x = w3.heap.size := ⟨_, rfl⟩
    have hf4 : Fr [] w3 w4 := by rw [hw4]; exact fr_new _ _ _
    have hgb4 : hat w4 gb = some (.cells #[.int .i64 0, .int .i64 0, .int .i64 0, .int .i64 0, .int .i64 0, .int .i64 0, .int .i64 0, .slice d1 0 d2, .slice e1 0 e2, .bool false] 37) := by rw [hw4, hgb]; exact (hopN w3 _).1
    have hg4 := (hf4.block _ (hat_lt HG3.out) (by simp)).trans HG3.out
    have HG4 := Lib.hid hg4
    have HF4 := Lib.hid (show Fr [ga] w3 (w4) from hf4.mono (by simp))
    rw [← hw4, ← hgb]
    clear hw4 hgb hf4
    unfold ans0 at hg4
    have hgl4 := hat_lt hg4
    have hgbl := hat_lt hgb4
    go_wp2_with fail
    refine ret_c row37 rfl (cs := #[.int .i64 0, .int .i64 0, .int .i64 0, .int .i64 0, .int .i64 0, .int .i64 0, .int .i64 0, .slice d1 0 d2, .slice e1 0 e2, .bool false]) rfl (hat_setRow_at _ _ _ _ _ _ HG4.out) rfl rfl ?_
    exact ⟨own', _, rfl, by rw [HQ.out]; exact HAN.out.fr' (HF4.out.trans (fr_setRow w4 ga _)) (by simp; exact hat_lt HG1.out) HF1.out.size, HMV.out.then (HF4.out.trans (fr_setRow w4 ga _)) (by simp; exact ⟨HGN.out, HGE.out.2.1⟩)⟩
theorem strs_nil (w : World) : Strs w 0 (.slice none 0 0) [] := .inl ⟨rfl, rfl⟩
theorem doo_two {S : PS} {o : OpV} (h : o.kind = 3 ∨ o.kind = 6) : S.doo o = S.do2 o (S.does o) := by
  unfold PS.doo PS.do2
  by_cases hm : mayZ o = false
  · rw [if_pos hm, if_pos hm]
  · rw [if_neg hm, if_neg hm]
    by_cases h1 : (spl o.path).2 ≠ 0
    · have e : o.names = ([], [], (spl o.path).2) := by unfold OpV.names; rw [if_neg (by omega), if_pos h1]
      rw [e, if_pos h1, if_pos h1]
    · by_cases h2 : (spl o.dest).2 ≠ 0
      · have e : o.names = ([], [], (spl o.dest).2) := by unfold OpV.names; rw [if_neg (by omega), if_neg h1, if_pos h, if_pos h2]
        rw [e, if_neg h1, if_pos h2, if_pos h2]
      · have e : o.names = ((spl o.path).1, (spl o.dest).1, 0) := by unfold OpV.names; rw [if_neg (by omega), if_neg h1, if_pos h, if_neg h2]
        rw [e, if_neg h1, if_neg h2, if_neg (by simp)]
theorem doo_one {S : PS} {o : OpV} (h3 : o.kind ≠ 3) (h6 : o.kind ≠ 6) (h12 : o.kind ≠ 12) (h14 : o.kind ≠ 14) : S.doo o = S.do1 o (fun l => S.does o l []) := by
  unfold PS.doo PS.do1
  by_cases hm : mayZ o = false
  · rw [if_pos hm, if_pos hm]
  · rw [if_neg hm, if_neg hm]
    by_cases h1 : (spl o.path).2 ≠ 0
    · have e : o.names = ([], [], (spl o.path).2) := by unfold OpV.names; rw [if_neg (by omega), if_pos h1]
      rw [e, if_pos h1, if_pos h1]
    · have e : o.names = ((spl o.path).1, [], 0) := by unfold OpV.names; rw [if_neg (by omega), if_neg h1, if_neg (by omega)]
      rw [e, if_neg h1, if_neg (by simp)]
/-- Do: what it comes to -/
theorem do_any {w : World} {gp bn c : Nat} {S : PS} {A : Int → NA} {own : Nat → Option (Int × Nat)} (h : PW w gp bn c S A own) (hg : Good S) {o : OpV} {dv : Value} (ho : OpAt w own o dv) {m : Int} (hm : w.cell? ⟨0, 0, none⟩ = some (.int .i64 m)) :
    Calls Tryd.prog 12 #[.pointer (some ⟨gp, 0, none⟩), .agg (opV o dv)] w fun e w' => ∃ own' av, e = .returned av ∧ AnsAt w' w.heap.size own' av (S.doo o).2 ∧ Mvd w w' gp bn own (S.doo o).1 own' := by
  have hin : mayZ o = true → (1 ≤ o.kind ∧ o.kind ≤ 14) ∧ 0 ≤ o.made ∧ o.made ≤ 1099511627776 := fun hmz => by
    by_cases hin : 1 ≤ o.kind ∧ o.kind ≤ 14 ∧ 0 ≤ o.made ∧ o.made ≤ 1099511627776
    · exact ⟨⟨hin.1, hin.2.1⟩, hin.2.2.1, hin.2.2.2⟩
    · rw [may_out hin] at hmz; cases hmz
  have hnil : ∀ s ∈ ([] : List ByteArray), 0 < s.size ∧ s.size ≤ 40 := fun s h => (nomatch h)
  by_cases h3 : o.kind = 3
  · rw [doo_two (.inl h3)]
    exact do_two3 h h3 ho hm _ fun w1 fv tv l l2 hmay q1 q2 q3 q4 q5 q6 => does_any q1 hg (hin hmay).1 (hin hmay).2 q2 q3 q4 q5 q6
  · by_cases h6 : o.kind = 6
    · rw [doo_two (.inr h6)]
      exact do_two6 h h6 ho hm _ fun w1 fv tv l l2 hmay q1 q2 q3 q4 q5 q6 => does_any q1 hg (hin hmay).1 (hin hmay).2 q2 q3 q4 q5 q6
    · have hdn : o.kind = 12 ∨ o.kind = 14 → S.doo o = (S, if mayZ o = false then Ans.err 150 else .err 0) := fun hk => by
        have e : o.names = ([], [], 0) := by unfold OpV.names; rw [if_pos hk]
        have e2 : S.does o [] [] = (S, .err 0) := by
          unfold PS.does
          rw [if_neg (by omega), if_neg (by omega), if_neg (by omega), if_neg (by omega), if_neg (by omega), if_neg (by omega), if_pos hk]
        unfold PS.doo
        by_cases hmz : mayZ o = false
        · rw [if_pos hmz, if_pos hmz]
        · rw [if_neg hmz, if_neg hmz, e, if_neg (by simp)]
          show PS.told1 (S.does o [] []) = _
          rw [e2]; rfl
      by_cases h12 : o.kind = 12
      · rw [hdn (.inl h12)]
        exact do_none12 h h12 ho hm
      · by_cases h14 : o.kind = 14
        · rw [hdn (.inr h14)]
          exact do_none14 h h14 ho hm
        · have e := doo_one (S := S) (o := o) h3 h6 h12 h14
          rw [e]
          exact do_with h h3 h6 h12 h14 ho hm _ fun w1 fv l hmay q1 q2 q3 q4 => does_any q1 hg (hin hmay).1 (hin hmay).2 q2 q3 q4 (strs_nil w1) hnil
end Go.Proofs.YteffoihkljkfdaaDoor

/- What the laws tell of a plain file system, as a text: plain. -/
namespace Go.Proofs.YteffoihkljkfdaaDoor
set_option linter.unusedSimpArgs false
set_option linter.unusedVariables false
open Go.RowKit

def digB (n : Nat) : ByteArray := ByteArray.mk #[UInt8.ofNat (48 + n)]
/-- a number, written -/
def numN (n : Nat) : ByteArray := if n < 10 then ByteArray.mk #[32] ++ digB n else numN (n / 10) ++ digB (n % 10)
termination_by n
decreasing_by omega
def numZ (n : Int) : ByteArray := if n < 0 then ByteArray.mk #[45] ++ numN (-n).toNat else numN n.toNat
def bytesB (l : List Int) : ByteArray := ByteArray.mk ((l.map fun x => x.toNat.toUInt8).toArray)
def nlB : ByteArray := ByteArray.mk #[10]
/-- the path of a name in a directory -/
def belowB (d n : ByteArray) : ByteArray := if d = slash then slash ++ n else d ++ slash ++ n
def opS (p : ByteArray) : OpV := ⟨10, p, emp, 0, 0, [], 0, 0⟩
def opL (p : ByteArray) : OpV := ⟨11, p, emp, 0, 0, [], 0, 0⟩
def opR (p : ByteArray) : OpV := ⟨9, p, emp, 0, 131072, [], 0, 0⟩
noncomputable def PS.aS (S : PS) (p : ByteArray) : Ans := (S.doo (opS p)).2
noncomputable def PS.aL (S : PS) (p : ByteArray) : Ans := (S.doo (opL p)).2
noncomputable def PS.aR (S : PS) (p : ByteArray) : Ans := (S.doo (opR p)).2
noncomputable def PS.kids (S : PS) (p : ByteArray) : List ByteArray := (S.aL p).ents.map fun e => belowB p e.1
/-- all that is told of a path -/
noncomputable def PS.rowT (S : PS) (p : ByteArray) : ByteArray := p ++ numZ (S.aS p).stat.ino ++ numZ (S.aS p).stat.kind ++ numZ (S.aS p).stat.links ++ numZ (S.aS p).stat.size ++ numZ (S.aS p).stat.made ++ numZ (S.aS p).stat.blocks ++ bytesB (S.aR p).data ++ nlB
/-- names, numbers, links and bytes of a path -/
noncomputable def PS.rowL (S : PS) (p : ByteArray) : ByteArray := p ++ numZ (S.aS p).stat.ino ++ numZ (S.aS p).stat.kind ++ numZ (S.aS p).stat.links ++ bytesB (S.aR p).data ++ nlB
/-- path by path: at most n more, from the i-th on -/
noncomputable def PS.walkT (S : PS) (row : ByteArray → ByteArray) : Nat → List ByteArray → Nat → ByteArray → ByteArray
  | 0, _, _, s => s
  | n + 1, ps, i, s => match ps[i]? with
    | none => s
    | some p => S.walkT row n (ps ++ S.kids p) (i + 1) (s ++ row p)
noncomputable def PS.listedT (S : PS) : ByteArray := S.walkT S.rowL 300 [slash] 0 emp
noncomputable def PS.toldT (S : PS) : ByteArray := S.walkT S.rowT 300 [slash] 0 emp ++ numZ S.free ++ numZ 0 ++ numZ S.left
theorem walkT_congr {S T : PS} {row row' : ByteArray → ByteArray} (hr : ∀ p, row p = row' p) (hk : ∀ p, S.kids p = T.kids p) : ∀ (n : Nat) (ps : List ByteArray) (i : Nat) (s : ByteArray), S.walkT row n ps i s = T.walkT row' n ps i s
  | 0, _, _, _ => rfl
  | n + 1, ps, i, s => by
    unfold PS.walkT
    cases ps[i]? with
    | none => rfl
    | some p => simp only [hr, hk]; exact walkT_congr hr hk n _ _ _
end Go.Proofs.YteffoihkljkfdaaDoor

/- Numbers and paths, written: the walks. -/
namespace Go.Proofs.YteffoihkljkfdaaDoor
set_option linter.unusedSimpArgs false
set_option linter.unusedVariables false
open Go.RowKit

theorem slash_iff (d : ByteArray) : (d.toList == [47]) = decide (d = slash) := by
  by_cases h : d = slash
  · subst h; rw [Lib.toList_data]; decide
  · rw [decide_eq_false h]
    refine beq_eq_false_iff_ne.2 fun e => h ?_
    rw [Lib.toList_data] at e
    cases d with
    | mk a =>
      show ByteArray.mk a = ByteArray.mk #[47]
      congr 1
      exact Array.toList_inj.1 e
theorem below_any (d n : ByteArray) (w : World) (hsz : d.size + n.size ≤ 4611686018427387904) : Calls Tryd.prog 37 #[.string d, .string n] w fun e w' => e = .returned (.string (belowB d n)) ∧ w' = w := by
  have hs := slash_iff d
  by_cases h : d = slash
  · have HQ := Lib.hid (show belowB d n = slash ++ n by unfold belowB; rw [if_pos h])
    rw [decide_eq_true h] at hs
    have h1 : ¬ 9223372036854775807 < 1 + n.size := by omega
    clear h hsz
    go_enter Tryd.func37, Tryd.ntmps37
    go_wp2_with fail
    go_ret
    exact ⟨by rw [HQ.out]; rfl, rfl⟩
  · have HQ := Lib.hid (show belowB d n = d ++ slash ++ n by unfold belowB; rw [if_neg h])
    rw [decide_eq_false h] at hs
    have h1 : ¬ 9223372036854775807 < d.size + 1 := by omega
    have h2 : ¬ 9223372036854775807 < d.size + 1 + n.size := by omega
    clear h hsz
    go_enter Tryd.func37, Tryd.ntmps37
    go_wp2_with fail
    go_ret
    exact ⟨by rw [HQ.out]; rfl, rfl⟩
theorem numN_size : ∀ (k n : Nat), n < 10 ^ (k + 1) → (numN n).size ≤ k + 2
  | 0, n, h => by
    rw [numN, if_pos (by omega)]
    exact Nat.le_of_eq rfl
  | k + 1, n, h => by
    rw [numN]
    split
    · have e : (ByteArray.mk #[32] ++ digB n).size = 2 := rfl
      omega
    · have := numN_size k (n / 10) (by
        have : n < 10 ^ (k + 1) * 10 := by rw [← Nat.pow_succ]; exact h
        omega)
      rw [ByteArray.size_append]
      have e : (digB (n % 10)).size = 1 := rfl
      omega
theorem numN_20 {n : Nat} (h : n ≤ 9223372036854775807) : (numN n).size ≤ 20 := numN_size 18 n (by omega)
/-- one byte as a text -/
theorem conv_one {w : World} {g : Nat} {T : TypeId} {fr : Nat × Nat} {x : Int} (hx : 0 ≤ x ∧ x < 256) (h : hat w g = some (.cells #[.int .u8 x] T fr)) : (convert 34 9 (.slice (some ⟨g, 0, none⟩) 1 1)).run Tryd.prog w = .ok (.string (ByteArray.mk #[x.toNat.toUInt8])) w := by
  refine run_convert_bytes_back (P := Tryd.prog) w 34 9 5 ⟨g, 0, none⟩ 1 [x.toNat.toUInt8] Tryd.underlying34 Tryd.underlying5 Tryd.underlying9 (fun j hj => ?_)
  obtain rfl : j = 0 := by simp at hj; omega
  rw [add_none, cell_hat h]
  simp
  omega
set_option maxHeartbeats 4000000 in
theorem number_any : ∀ (n : Nat), (n : Int) ≤ 9223372036854775807 → ∀ (w : World), Calls Tryd.prog 38 #[.int .i64 n] w fun e w' => e = .returned (.string (numN n)) ∧ Below w.heap.size w w' := by
  intro n
  induction n using Nat.strongRecOn with
  | ind n ih =>
  intro hn w
  have IH := Lib.hid ih
  clear ih
  have h0 : ¬ (n : Int) < 0 := by omega
  by_cases h10 : n < 10
  · have HQ := Lib.hid (show numN n = ByteArray.mk #[32] ++ digB n by rw [numN, if_pos h10])
    have h10' : (n : Int) < 10 := by omega
    have hcv := conv_one (w := w.alloc (.cells #[.int .u8 (48 + (n : Int))] 5)) (g := w.heap.size) (x := 48 + (n : Int)) (by omega) (hopN w _).1
    go_enter Tryd.func38, Tryd.ntmps38
    go_wp2_with fail
    go_ret
    exact ⟨by rw [HQ.out]; unfold digB; rw [UInt8.ofNat_add]; rfl, (Below.refl _ _).alloc (Nat.le_refl _) _⟩
  · have HQ := Lib.hid (show numN n = numN (n / 10) ++ digB (n % 10) by rw [numN, if_neg h10])
    have h10' : ¬ (n : Int) < 10 := by omega
    have e1 : IntKind.i64.wrap ((n : Int) / 10) = ((n / 10 : Nat) : Int) := by rw [IntWalk.i64_in _ ⟨by omega, by omega⟩]; omega
    have e2 : IntKind.u8.wrap (IntKind.i64.wrap (48 + (n : Int).tmod 10)) = 48 + ((n % 10 : Nat) : Int) := by
      rw [Int.tmod_eq_emod_of_nonneg (by omega), IntWalk.i64_in _ ⟨by omega, by omega⟩, IntWalk.u8_in _ ⟨by omega, by omega⟩]
      omega
    have HIH := Lib.hid (IH.out (n / 10) (by omega) (by omega))
    rw [← e1] at HIH
    have h20 := numN_20 (n := n / 10) (by omega)
    go_enter Tryd.func38, Tryd.ntmps38
    go_wp2_with fail
    have HE := Lib.hid e2
    obtain ⟨X, hX⟩ : ∃ x, x = IntKind.u8.wrap (IntKind.i64.wrap (48 + (n : Int).tmod 10)) := ⟨_, rfl⟩
    have hX1 : 0 ≤ X ∧ X < 256 := by rw [hX, e2]; omega
    have hlen : ¬ 9223372036854775807 < (numN (n / 10)).size + (ByteArray.mk #[X.toNat.toUInt8]).size := by
      have : (ByteArray.mk #[X.toNat.toUInt8]).size = 1 := rfl
      omega
    refine wp_region_G (by kernel_rfl) 10 (by decide) rfl (fun w' => Below w.heap.size w w') (fun w1 w2 => Below w1.heap.size w1 w2)
      (fun i v w' => match i with
        | 0 => v = .int .i64 n
        | 1 => v = .int .i64 (IntKind.i64.wrap ((n : Int) / 10))
        | 2 => v = .string (numN (n / 10))
        | 3 => v = .int .i64 n
        | 4 => v = .int .i64 ((n : Int).tmod 10)
        | 5 => v = .int .i64 (IntKind.i64.wrap (48 + (n : Int).tmod 10))
        | 6 => v = .int .u8 X
        | 7 => ∃ g, v = .slice (some ⟨g, 0, none⟩) 1 1 ∧ hat w' g = some (.cells #[.int .u8 X] 5)
        | 8 => v = .string (ByteArray.mk #[X.toNat.toUInt8])
        | _ => v = .string (numN (n / 10) ++ ByteArray.mk #[X.toNat.toUInt8])) ((Below.refl _ _).drew) ?_ ?_ ?_
    · intro i v w1 w2 hi hI hI' hE hG
      have hi' : i = 0 ∨ i = 1 ∨ i = 2 ∨ i = 3 ∨ i = 4 ∨ i = 5 ∨ i = 6 ∨ i = 7 ∨ i = 8 ∨ i = 9 := by omega
      rcases hi' with rfl | rfl | rfl | rfl | rfl | rfl | rfl | rfl | rfl | rfl
      case inr.inr.inr.inr.inr.inr.inr.inl =>
        obtain ⟨g, h1, h2⟩ := hG
        exact ⟨g, h1, (hop hE h2).1⟩
      all_goals exact hG
    · intro i' o ho0 ho a' w' hB hS hF
      have hi' : i' = 0 ∨ i' = 1 ∨ i' = 2 ∨ i' = 3 ∨ i' = 4 ∨ i' = 5 ∨ i' = 6 ∨ i' = 7 ∨ i' = 8 ∨ i' = 9 := by omega
      rcases hi' with rfl | rfl | rfl | rfl | rfl | rfl | rfl | rfl | rfl | rfl
      all_goals (have ho' := Option.some.inj ho; subst ho')
      · have q0 : a'.tmps[0]?.getD undef = .int .i64 n := gtx ((hS 0 (by decide)).trans rfl)
        refine wpOp_val_g rfl (wanted_free rfl) ?_ ⟨_, rfl, hB, Below.refl _ _, rfl⟩
        simp [go_sem, q0]
      · have q17 := gtx (hF 0 (by decide) _ 17 rfl rfl)
        refine wpOp_val_g rfl (wanted_free rfl) ?_ ⟨_, rfl, hB, Below.refl _ _, rfl⟩
        simp [go_sem, q17]
      · have q18 := gtx (hF 1 (by decide) _ 18 rfl rfl)
        refine wpOp_call_g (f := 38) (args := #[.int .i64 (IntKind.i64.wrap ((n : Int) / 10))]) rfl (wanted_free rfl) (by simp [go_sem, q18]) (HIH.out w') ?_
        rintro e w'' ⟨rfl, hb'⟩
        exact ⟨_, rfl, _, rfl, below_call hB hb' hB.size, hb', rfl⟩
      · have q0 : a'.tmps[0]?.getD undef = .int .i64 n := gtx ((hS 0 (by decide)).trans rfl)
        refine wpOp_val_g rfl (wanted_free rfl) ?_ ⟨_, rfl, hB, Below.refl _ _, rfl⟩
        simp [go_sem, q0]
      · have q20 := gtx (hF 3 (by decide) _ 20 rfl rfl)
        refine wpOp_val_g rfl (wanted_free rfl) ?_ ⟨_, rfl, hB, Below.refl _ _, rfl⟩
        simp [go_sem, q20]
      · have q21 := gtx (hF 4 (by decide) _ 21 rfl rfl)
        refine wpOp_val_g rfl (wanted_free rfl) ?_ ⟨_, rfl, hB, Below.refl _ _, rfl⟩
        simp [go_sem, q21]
      · have q22 := gtx (hF 5 (by decide) _ 22 rfl rfl)
        refine wpOp_val_g rfl (wanted_free rfl) ?_ ⟨_, rfl, hB, Below.refl _ _, rfl⟩
        simp [go_sem, q22, hX]
      · have q23 := gtx (hF 6 (by decide) _ 23 rfl rfl)
        refine wpOp_val_g (w1 := w'.alloc (.cells #[.int .u8 X] 5)) (v := .slice (some ⟨w'.heap.size, 0, none⟩) 1 1) rfl (wanted_free rfl) ?_ ⟨_, rfl, hB.alloc hB.size _, (Below.refl _ _).alloc (Nat.le_refl _) _, w'.heap.size, rfl, (hopN w' _).1⟩
        simp [go_sem, q23]
      · obtain ⟨g, h1, h2⟩ := hF 7 (by decide) _ 24 rfl rfl
        have q24 := gtx h1
        have hcv := conv_one (w := w') (g := g) (x := X) hX1 h2
        refine wpOp_val_g rfl (wanted_free rfl) ?_ ⟨_, rfl, hB, Below.refl _ _, rfl⟩
        simp [go_sem, q24, hcv]
      · have q19 := gtx (hF 2 (by decide) _ 19 rfl rfl)
        have q25 := gtx (hF 8 (by decide) _ 25 rfl rfl)
        refine wpOp_val_g rfl (wanted_free rfl) ?_ ⟨_, rfl, hB, Below.refl _ _, rfl⟩
        simp [go_sem, q19, q25]
        omega
    · intro val w5 hB5 hF5
      have e9 : val 9 = .string (numN (n / 10) ++ ByteArray.mk #[X.toNat.toUInt8]) := hF5 9 _ 26 (by decide) rfl rfl
      simp only [putAll, List.take, List.drop, List.take_succ_cons, List.drop_succ_cons, Act.put, List.setIfInBounds_toArray, List.set_cons_zero, List.set_cons_succ]
      rw [e9]
      have HB5 := Lib.hid hB5
      clear hF5 hB5 hlen hX1
      go_wp2_with fail
      go_ret
      have hq : ByteArray.mk #[X.toNat.toUInt8] = digB (n % 10) := by
        rw [hX, HE.out]
        unfold digB
        congr 3
      exact ⟨by rw [HQ.out, hq]; rfl, HB5.out⟩
end Go.Proofs.YteffoihkljkfdaaDoor

/- The same but for directories' slots: plain. -/
namespace Go.Proofs.YteffoihkljkfdaaDoor
set_option linter.unusedSimpArgs false
set_option linter.unusedVariables false
open Go.RowKit

/-- the same, but for directories' sizes and slots -/
structure Sml (S T : PS) : Prop where
  i : S.inodes = T.inodes
  n : ∀ i, (S.nodes i).isSome = (T.nodes i).isSome
  k : ∀ i, (S.nd i).kind = (T.nd i).kind
  l : ∀ i, (S.nd i).links = (T.nd i).links
  m : ∀ i, (S.nd i).names = (T.nd i).names
  d : ∀ i, (S.nd i).data = (T.nd i).data
  s : ∀ i, (S.nd i).kind = 1 → (S.nd i).size = (T.nd i).size
theorem Sml.refl (S : PS) : Sml S S := ⟨rfl, fun _ => rfl, fun _ => rfl, fun _ => rfl, fun _ => rfl, fun _ => rfl, fun _ _ => rfl⟩
theorem Sml.symm {S T : PS} (h : Sml S T) : Sml T S := ⟨h.i.symm, fun i => (h.n i).symm, fun i => (h.k i).symm, fun i => (h.l i).symm, fun i => (h.m i).symm, fun i => (h.d i).symm, fun i hi => (h.s i ((h.k i).trans hi)).symm⟩
theorem Sml.trans {S T U : PS} (h : Sml S T) (h2 : Sml T U) : Sml S U := ⟨h.i.trans h2.i, fun i => (h.n i).trans (h2.n i), fun i => (h.k i).trans (h2.k i), fun i => (h.l i).trans (h2.l i), fun i => (h.m i).trans (h2.m i), fun i => (h.d i).trans (h2.d i), fun i hi => (h.s i hi).trans (h2.s i ((h.k i).symm.trans hi))⟩
theorem Sml.walk {S T : PS} (h : Sml S T) : ∀ (l : List ByteArray) (i : Int), S.walk l i = T.walk l i
  | [], _ => rfl
  | s :: l, i => by
    unfold PS.walk
    rw [h.k, h.m]
    split
    · rfl
    · cases (T.nd i).names s with
      | none => rfl
      | some j => exact h.walk l j
theorem nd_wf {S : PS} (h : PWf S) (i : Int) : S.nd i = Nd.nil ∨ NWf S (S.nd i) := by
  cases hn : S.nodes i with
  | none => exact .inl (nd_none hn)
  | some n => rw [PS.nd_some hn]; exact .inr (h.n i n hn)
theorem Sml.sorted {S T : PS} (h : Sml S T) (hS : PWf S) (hT : PWf T) (i : Int) : (S.nd i).sorted = (T.nd i).sorted := by
  cases hn : S.nodes i with
  | none =>
    have : T.nodes i = none := by have := h.n i; rw [hn] at this; cases hq : T.nodes i with | none => rfl | some n => rw [hq] at this; cases this
    rw [nd_none hn, nd_none this]
  | some n =>
    have hs : (S.nodes i).isSome = true := by rw [hn]; rfl
    have hW := hS.n i _ (PS.nd_get hs)
    have hW2 := hT.n i _ (PS.nd_get ((h.n i).symm.trans hs))
    have hmm : ∀ s, s ∈ (S.nd i).sorted ↔ ((T.nd i).names s).isSome = true := fun s => by
      rw [← h.m]
      unfold Nd.sorted
      rw [List.mem_mergeSort, List.mem_filter]
      constructor
      · rintro ⟨a, b⟩
        exact hW.sn s a (by simpa using b)
      · intro hs
        cases hj : (S.nd i).names s with
        | none => rw [hj] at hs; cases hs
        | some j =>
          obtain ⟨a, b, c, d⟩ := hW.nm s j hj
          exact ⟨a, by simpa using c⟩
    have hnd : (S.nd i).sorted.Nodup := (List.mergeSort_perm _ _).nodup_iff.2 hW.nd
    rw [← sorted_of hW2 hnd hmm]
    unfold Nd.sorted
    exact (sort_perm (List.mergeSort_perm _ _)).symm
theorem Sml.ents {S T : PS} (h : Sml S T) (hS : PWf S) (hT : PWf T) (i : Int) : S.ents (S.nd i) = T.ents (T.nd i) := by
  have e : (S.nd i).sorted = (T.nd i).sorted := h.sorted hS hT i
  unfold Nd.sorted at e
  unfold PS.ents
  rw [e, h.m]
  refine List.map_congr_left fun s _ => ?_
  rw [h.k]
theorem Sml.read {S T : PS} (h : Sml S T) {i : Int} (hk : (S.nd i).kind = 1) (off most : Int) : (S.nd i).read off most = (T.nd i).read off most := by
  unfold Nd.read Nd.byte
  rw [h.s i hk, h.d]
/-- what is told of a path, sizes of directories and sectors aside -/
theorem Sml.asked {S T : PS} (h : Sml S T) (hS : PWf S) (hT : PWf T) (o : OpV) (l : List ByteArray) (hk : o.kind = 9 ∨ o.kind = 10 ∨ o.kind = 11) :
    (S.asked o l).2.code = (T.asked o l).2.code ∧ (S.asked o l).2.data = (T.asked o l).2.data ∧ (S.asked o l).2.ents = (T.asked o l).2.ents ∧ (S.asked o l).2.stat.ino = (T.asked o l).2.stat.ino ∧ (S.asked o l).2.stat.kind = (T.asked o l).2.stat.kind ∧ (S.asked o l).2.stat.links = (T.asked o l).2.stat.links := by
  unfold PS.asked
  rw [h.walk]
  split
  · exact ⟨rfl, rfl, rfl, rfl, rfl, rfl⟩
  · rename_i hc
    generalize hj : (T.walk l 1).1 = j at *
    have hjt : (S.nodes j).isSome = true := by
      rw [← hj, ← h.walk]
      exact walk_there hS l 1 (root_there hS) (by rw [h.walk]; omega)
    unfold PS.ask
    rcases hk with hk | hk | hk
    · rw [hk, h.k]
      by_cases h2 : (T.nd j).kind = 2
      · simp [h2, Ans.err]
      · have h1 : (S.nd j).kind = 1 := (kind_cases hS hjt).resolve_right (by rw [h.k]; exact h2)
        simp [h2, h.read h1]
    · rw [if_pos hk, if_pos hk]
      exact ⟨rfl, rfl, rfl, rfl, h.k j, h.l j⟩
    · simp only [hk]
      rw [h.k]
      by_cases h2 : (T.nd j).kind = 2
      · simp [h2, h.ents hS hT]
      · simp [h2, Ans.err]
theorem does_ask {S : PS} {o : OpV} (h : 9 ≤ o.kind ∧ o.kind ≤ 11) (l l2 : List ByteArray) : S.does o l l2 = S.asked o l := by
  unfold PS.does
  rw [if_neg (by omega), if_neg (by omega), if_neg (by omega), if_neg (by omega), if_neg (by omega), if_neg (by omega), if_neg (by omega)]
theorem Sml.doo {S T : PS} (h : Sml S T) (hS : PWf S) (hT : PWf T) (o : OpV) (hk : o.kind = 9 ∨ o.kind = 10 ∨ o.kind = 11) :
    (S.doo o).2.code = (T.doo o).2.code ∧ (S.doo o).2.data = (T.doo o).2.data ∧ (S.doo o).2.ents = (T.doo o).2.ents ∧ (S.doo o).2.stat.ino = (T.doo o).2.stat.ino ∧ (S.doo o).2.stat.kind = (T.doo o).2.stat.kind ∧ (S.doo o).2.stat.links = (T.doo o).2.stat.links := by
  unfold PS.doo
  split
  · exact ⟨rfl, rfl, rfl, rfl, rfl, rfl⟩
  · split
    · exact ⟨rfl, rfl, rfl, rfl, rfl, rfl⟩
    · rw [does_ask (by omega), does_ask (by omega)]
      obtain ⟨a, b, c, d, e, f⟩ := h.asked hS hT o o.names.1 hk
      unfold PS.told1
      by_cases hc : (T.asked o o.names.1).2.code ≠ 0
      · rw [if_pos (by rw [a]; exact hc), if_pos hc]
        exact ⟨a, rfl, rfl, rfl, rfl, rfl⟩
      · rw [if_neg (by rw [a]; exact hc), if_neg hc]
        exact ⟨a, b, c, d, e, f⟩
theorem Sml.listed {S T : PS} (h : Sml S T) (hS : PWf S) (hT : PWf T) : S.listedT = T.listedT := by
  unfold PS.listedT
  refine walkT_congr (fun p => ?_) (fun p => ?_) _ _ _ _
  · have h1 := h.doo hS hT (opS p) (.inr (.inl rfl))
    have h2 := h.doo hS hT (opR p) (.inl rfl)
    unfold PS.rowL PS.aS PS.aR
    rw [h1.2.2.2.1, h1.2.2.2.2.1, h1.2.2.2.2.2, h2.2.1]
  · unfold PS.kids PS.aL
    rw [(h.doo hS hT (opL p) (.inr (.inr rfl))).2.2.1]
end Go.Proofs.YteffoihkljkfdaaDoor

/- What a law has in hand beside a plain file system: blocks that are nobody's stay. -/
namespace Go.Proofs.YteffoihkljkfdaaDoor
set_option linter.unusedSimpArgs false
set_option linter.unusedVariables false
open Go.RowKit

theorem Mvd.nrm {w wr : World} {gp bn : Nat} {own own' : Nat → Option (Int × Nat)} {S : PS} (h : Mvd w wr gp bn own S own') : Mvd w wr gp bn own S (nrm wr own') := by
  obtain ⟨⟨c, A, h1⟩, h2, h3⟩ := h
  exact ⟨⟨c, A, h1.nrm⟩, h2, fun b hb => (nrm_lt (Nat.lt_of_lt_of_le hb h2.size)).trans (h3 b hb)⟩
/-- a plain file system S, and blocks L that are nobody's -/
structure TI (w wr : World) (gp bn : Nat) (own : Nat → Option (Int × Nat)) (S : PS) (own' : Nat → Option (Int × Nat)) (L : List (Nat × Obj)) : Prop where
  mv : Mvd w wr gp bn own S own'
  k : ∀ p ∈ L, hat wr p.1 = some p.2 ∧ own' p.1 = none
theorem TI.start {w : World} {gp bn c : Nat} {S : PS} {A : Int → NA} {own : Nat → Option (Int × Nat)} (h : PW w gp bn c S A own) : TI w w gp bn own S own [] := ⟨h.stay (Below.refl _ _), fun p hp => (nomatch hp)⟩
theorem TI.pw {w wr : World} {gp bn : Nat} {own own' : Nat → Option (Int × Nat)} {S : PS} {L : List (Nat × Obj)} (h : TI w wr gp bn own S own' L) : ∃ c A, PW wr gp bn c S A own' := h.mv.1
theorem TI.at {w wr : World} {gp bn : Nat} {own own' : Nat → Option (Int × Nat)} {S : PS} {L : List (Nat × Obj)} (h : TI w wr gp bn own S own' L) {g : Nat} {o : Obj} (hm : (g, o) ∈ L) : hat wr g = some o := (h.k _ hm).1
/-- behind an operation -/
theorem TI.do {w wr w1 : World} {gp bn : Nat} {own own' own1 : Nat → Option (Int × Nat)} {S S' : PS} {L : List (Nat × Obj)} (h : TI w wr gp bn own S own' L) (hm : Mvd wr w1 gp bn own' S' own1) : TI w w1 gp bn own S' own1 L :=
  ⟨h.mv.trans hm, fun p hp => by
    obtain ⟨h1, h2⟩ := h.k p hp
    have hl := hat_lt h1
    exact ⟨(hm.2.1.block _ hl h2).trans h1, (hm.2.2 _ hl).trans h2⟩⟩
/-- behind what turns nothing that was there but ex -/
theorem TI.fr {w wr w1 : World} {gp bn : Nat} {own own' : Nat → Option (Int × Nat)} {S : PS} {L : List (Nat × Obj)} {ex : List Nat} (h : TI w wr gp bn own S own' L) (hf : Fr ex wr w1) (hx : ∀ b ∈ ex, w.heap.size ≤ b ∧ own' b = none) (hL : ∀ p ∈ L, p.1 ∉ ex) : TI w w1 gp bn own S (nrm wr own') L :=
  ⟨h.mv.nrm.then hf (fun b hb => ⟨by
      unfold Go.Proofs.YteffoihkljkfdaaDoor.nrm
      split
      · exact (hx b hb).2
      · rfl, (hx b hb).1⟩), fun p hp => by
    obtain ⟨h1, h2⟩ := h.k p hp
    have hl := hat_lt h1
    exact ⟨(hf.block _ hl (hL p hp)).trans h1, (nrm_lt hl).trans h2⟩⟩
theorem TI.below {w wr w1 : World} {gp bn : Nat} {own own' : Nat → Option (Int × Nat)} {S : PS} {L : List (Nat × Obj)} (h : TI w wr gp bn own S own' L) (hb : Below wr.heap.size wr w1) : TI w w1 gp bn own S (nrm wr own') L :=
  h.fr (fr_below hb []) (by simp) (by simp)
/-- a new block -/
theorem TI.add {w wr w1 : World} {gp bn : Nat} {own own' : Nat → Option (Int × Nat)} {S : PS} {L : List (Nat × Obj)} (h : TI w wr gp bn own S own' L) (hf : Fr [] wr w1) {g : Nat} {o : Obj} (ho : hat w1 g = some o) (hg : wr.heap.size ≤ g) : TI w w1 gp bn own S (nrm wr own') ((g, o) :: L) := by
  have h1 := h.fr hf (by simp) (by simp)
  refine ⟨h1.mv, fun p hp => ?_⟩
  rcases List.mem_cons.1 hp with rfl | hp
  · exact ⟨ho, nrm_ge hg⟩
  · exact h1.k p hp
/-- a block more, that is there -/
theorem TI.more {w wr : World} {gp bn : Nat} {own own' : Nat → Option (Int × Nat)} {S : PS} {L : List (Nat × Obj)} (h : TI w wr gp bn own S own' L) {g : Nat} {o : Obj} (ho : hat wr g = some o) (hn : own' g = none) : TI w wr gp bn own S own' ((g, o) :: L) :=
  ⟨h.mv, fun p hp => by
    rcases List.mem_cons.1 hp with rfl | hp
    · exact ⟨ho, hn⟩
    · exact h.k p hp⟩
theorem TI.sub {w wr : World} {gp bn : Nat} {own own' : Nat → Option (Int × Nat)} {S : PS} {L L' : List (Nat × Obj)} (h : TI w wr gp bn own S own' L) (hs : ∀ p ∈ L', p ∈ L) : TI w wr gp bn own S own' L' := ⟨h.mv, fun p hp => h.k p (hs p hp)⟩
/-- cells hold a row -/
structure RowIn (cs : Array Value) (off cp m sz : Nat) (F : Nat → Value) : Prop where
  n : off + m * sz ≤ cs.size
  c : off + cp * sz ≤ cs.size
  f : ∀ k, k < m * sz → cs[off + k]? = some (F k)
theorem RowIn.row {T : TypeId} {sz : Nat} {w : World} {g off c n : Nat} {cs : Array Value} {f : Nat → Value} (h : RowIn cs off c n sz f) (hg : hat w g = some (.cells cs T)) : GRow T sz w (.slice (some ⟨g, off, none⟩) n c) (some g) n f := .inr ⟨g, off, c, cs, rfl, rfl, hg, h.n, h.c, h.f⟩
theorem GRow.rowIn {T : TypeId} {sz : Nat} {w : World} {g off c n n' : Nat} {ob : Option Nat} {f : Nat → Value} (h : GRow T sz w (.slice (some ⟨g, off, none⟩) n' c) ob n f) : n' = n ∧ ob = some g ∧ ∃ cs, hat w g = some (.cells cs T) ∧ RowIn cs off c n sz f := by
  rcases h with ⟨h, -⟩ | ⟨g', off', c', cs, e, h2, h3, h4, h5, h6⟩
  · cases h
  · injection e with e1 e2 e3
    injection e1 with e1
    injection e1 with p1 p2
    subst p1 p2 e3 e2
    exact ⟨rfl, h2, cs, h3, h4, h5, h6⟩
theorem RowIn.cell {w : World} {g off c n : Nat} {T : TypeId} {cs : Array Value} {f : Nat → Value} (h : RowIn cs off c n 1 f) (hg : hat w g = some (.cells cs T)) {k : Nat} (hk : k < n) : cellOf (off + k) (hat w g) = some (f k) := by
  rw [hg]
  exact h.f k (by omega)
set_option maxHeartbeats 4000000 in
set_option maxRecDepth 100000 in
/-- a number, written: of any sign -/
theorem numZ_any {n : Int} (h : -9223372036854775807 ≤ n ∧ n ≤ 9223372036854775807) (w : World) : Calls Tryd.prog 38 #[.int .i64 n] w fun e w' => e = .returned (.string (numZ n)) ∧ Below w.heap.size w w' := by
  by_cases h0 : n < 0
  · have HQ := Lib.hid (show numZ n = ByteArray.mk #[45] ++ numN (-n).toNat by unfold numZ; rw [if_pos h0])
    have hc := number_any (-n).toNat (by omega)
    have hneg : (((-n).toNat : Nat) : Int) = -n := by omega
    rw [hneg] at hc
    have HC := Lib.hid hc
    have h20 := numN_20 (n := (-n).toNat) (by omega)
    have hsz : ¬ 9223372036854775807 < 1 + (numN (-n).toNat).size := by omega
    clear hc hneg
    go_enter Tryd.func38, Tryd.ntmps38
    go_wp2_with fail
    with_reducible refine (HC.out w).mono ?_; rintro e w1 ⟨rfl, hb1⟩
    have HB := Lib.hid hb1
    clear hb1
    go_wp2_with fail
    go_ret
    exact ⟨by rw [HQ.out]; rfl, HB.out⟩
  · have e : numZ n = numN n.toNat := by unfold numZ; rw [if_neg h0]
    have := number_any n.toNat (by omega) w
    rw [e]
    rw [show ((n.toNat : Nat) : Int) = n by omega] at this
    exact this
theorem numZ_21 {n : Int} (h : -9223372036854775807 ≤ n ∧ n ≤ 9223372036854775807) : (numZ n).size ≤ 21 := by
  unfold numZ
  split
  · have := numN_20 (n := (-n).toNat) (by omega)
    rw [ByteArray.size_append]
    have e : (ByteArray.mk #[45]).size = 1 := rfl
    omega
  · have := numN_20 (n := n.toNat) (by omega)
    omega
/-- a row that is nobody's -/
structure RowN (T : TypeId) (sz : Nat) (w : World) (own : Nat → Option (Int × Nat)) (v : Value) (ob : Option Nat) (n : Nat) (f : Nat → Value) : Prop where
  r : GRow T sz w v ob n f
  n : ∀ g, ob = some g → own g = none
theorem GRow.same {T : TypeId} {sz : Nat} {w w' : World} {v : Value} {ob : Option Nat} {n : Nat} {f : Nat → Value} (h : GRow T sz w v ob n f) (hs : ∀ g, ob = some g → hat w' g = hat w g) : GRow T sz w' v ob n f := by
  rcases h with h | ⟨g, off, c, cs, h1, h2, h3, h4⟩
  · exact .inl h
  · exact .inr ⟨g, off, c, cs, h1, h2, (hs g h2).trans h3, h4⟩
theorem RowN.do {T : TypeId} {sz : Nat} {wr w1 : World} {gp bn : Nat} {own' own1 : Nat → Option (Int × Nat)} {S' : PS} {v : Value} {ob : Option Nat} {n : Nat} {f : Nat → Value} (h : RowN T sz wr own' v ob n f) (hm : Mvd wr w1 gp bn own' S' own1) : RowN T sz w1 own1 v ob n f :=
  ⟨h.r.same fun g hg => hm.2.1.block g (h.r.lt g hg) (h.n g hg), fun g hg => (hm.2.2 g (h.r.lt g hg)).trans (h.n g hg)⟩
theorem RowN.fr {T : TypeId} {sz : Nat} {wr w1 : World} {own' : Nat → Option (Int × Nat)} {v : Value} {ob : Option Nat} {n : Nat} {f : Nat → Value} {ex : List Nat} (h : RowN T sz wr own' v ob n f) (hf : Fr ex wr w1) (hx : ∀ g, ob = some g → g ∉ ex) : RowN T sz w1 (nrm wr own') v ob n f :=
  ⟨h.r.fr hf hx, fun g hg => (nrm_lt (h.r.lt g hg)).trans (h.n g hg)⟩
/-- rows of unlike types lie apart -/
theorem GRow.ne {T T' : TypeId} {sz sz' : Nat} {w : World} {v v' : Value} {n n' : Nat} {f f' : Nat → Value} {g g' : Nat} (h : GRow T sz w v (some g) n f) (h' : GRow T' sz' w v' (some g') n' f') (hT : T ≠ T') : g ≠ g' := by
  intro e
  subst e
  rcases h with ⟨-, h, -⟩ | ⟨g1, off, c, cs, -, h2, h3, -⟩
  · cases h
  · cases h2
    rcases h' with ⟨-, h, -⟩ | ⟨g2, off2, c2, cs2, -, h5, h6, -⟩
    · cases h
    · cases h5
      rw [h3] at h6
      cases h6
      exact hT rfl
theorem GRow.ne_obj {T T' : TypeId} {sz : Nat} {w : World} {v : Value} {n : Nat} {f : Nat → Value} {g g' : Nat} {cs : Array Value} (h : GRow T sz w v (some g) n f) (h' : hat w g' = some (.cells cs T')) (hT : T ≠ T') : g ≠ g' := by
  intro e
  subst e
  rcases h with ⟨-, h, -⟩ | ⟨g1, off, c, cs1, -, h2, h3, -⟩
  · cases h
  · cases h2
    rw [h3] at h'
    cases h'
    exact hT rfl
/-- what is told of a path: how great -/
def ABnd (a : Ans) : Prop := (0 ≤ a.stat.ino ∧ a.stat.ino ≤ 512) ∧ (0 ≤ a.stat.kind ∧ a.stat.kind ≤ 2) ∧ (0 ≤ a.stat.links ∧ a.stat.links ≤ 100) ∧ (0 ≤ a.stat.size ∧ a.stat.size ≤ 136704) ∧ (0 ≤ a.stat.made ∧ a.stat.made ≤ 1099511627776) ∧ (0 ≤ a.stat.blocks ∧ a.stat.blocks ≤ 3000) ∧
    a.data.length ≤ 131072 ∧ (∀ b ∈ a.data, 0 ≤ b ∧ b < 256) ∧ a.ents.length ≤ 1068 ∧ ∀ e ∈ a.ents, 0 < e.1.size ∧ e.1.size ≤ 40
theorem err_bound (e : Int) : ABnd (.err e) := by
  refine ⟨⟨?_, ?_⟩, ⟨?_, ?_⟩, ⟨?_, ?_⟩, ⟨?_, ?_⟩, ⟨?_, ?_⟩, ⟨?_, ?_⟩, Nat.zero_le _, fun b hb => (nomatch hb), Nat.zero_le _, fun b hb => (nomatch hb)⟩ <;> (show (_ : Int) ≤ _; simp [Ans.err, Sta.zero])
theorem asked_bound {S : PS} (hg : Good S) {o : OpV} (hk : 9 ≤ o.kind ∧ o.kind ≤ 11) (l : List ByteArray) : ABnd (S.asked o l).2 := by
  have zero := err_bound
  unfold PS.asked
  split
  · exact zero _
  · rename_i hc
    generalize hj : (S.walk l 1).1 = j at *
    have hjt : (S.nodes j).isSome = true := by
      rw [← hj]
      exact walk_there hg.f l 1 (root_there hg.f) (by omega)
    have hW := hg.f.n j _ (PS.nd_get hjt)
    have hO := hg.o.n j _ (PS.nd_get hjt)
    unfold PS.ask
    split
    · have hc := Nd.count_le hO
      have h1 := hg.o.k j hjt
      have h2 := hg.o.i
      have h3 := hW.kd
      have h4 := hW.lk
      refine ⟨⟨by show 0 ≤ j; omega, by show j ≤ 512; omega⟩, ⟨by show 0 ≤ (S.nd j).kind; omega, by show (S.nd j).kind ≤ 2; omega⟩, ⟨by show 0 ≤ (S.nd j).links; omega, h4.2⟩, hW.sz, hW.md, ⟨hc.1, hc.2⟩, Nat.zero_le _, fun b hb => (nomatch hb), Nat.zero_le _, fun b hb => (nomatch hb)⟩
    · split
      · split
        · exact zero _
        · refine ⟨(zero 0).1, (zero 0).2.1, (zero 0).2.2.1, (zero 0).2.2.2.1, (zero 0).2.2.2.2.1, (zero 0).2.2.2.2.2.1, Nat.zero_le _, fun b hb => (nomatch hb), ?_, fun e he => ?_⟩
          · show (S.ents (S.nd j)).length ≤ 1068
            rw [ents_eq, List.length_map]
            unfold Nd.sorted
            rw [List.length_mergeSort]
            exact Nat.le_trans (List.length_filter_le _ _) hO.sl
          · have he' : e ∈ S.ents (S.nd j) := he
            rw [ents_eq] at he'
            obtain ⟨s, hs, rfl⟩ := List.mem_map.1 he'
            unfold Nd.sorted at hs
            rw [List.mem_mergeSort, List.mem_filter] at hs
            have h1 := hW.sn s hs.1 (by simpa using hs.2)
            cases hq : (S.nd j).names s with
            | none => rw [hq] at h1; cases h1
            | some i =>
              have := hW.nm s i hq
              exact ⟨this.2.2.1, this.2.1⟩
      · split
        · exact zero _
        · split
          · omega
          · split
            · omega
            · split
              · unfold Nd.read
                split
                · exact zero _
                · split
                  · exact zero _
                  · rename_i h1 h2
                    refine ⟨(zero 0).1, (zero 0).2.1, (zero 0).2.2.1, (zero 0).2.2.2.1, (zero 0).2.2.2.2.1, (zero 0).2.2.2.2.2.1, ?_, fun b hb => ?_, Nat.zero_le _, fun b hb => (nomatch hb)⟩
                    · show (List.map _ (List.range _)).length ≤ _
                      rw [List.length_map, List.length_range]
                      omega
                    · have hb' : b ∈ (List.range (min o.len ((S.nd j).size - o.off)).toNat).map fun (q : Nat) => (S.nd j).byte (o.off + q) := hb
                      obtain ⟨q, -, rfl⟩ := List.mem_map.1 hb'
                      unfold Nd.byte
                      cases hq : (S.nd j).data ((o.off + q) / 128) with
                      | none =>
                        simp only [Option.getD_none, zero128]
                        rw [List.getD_eq_getElem?_getD, List.getElem?_replicate]
                        split <;> simp
                      | some s =>
                        simp only [Option.getD_some]
                        rw [List.getD_eq_getElem?_getD]
                        cases hx : s[((o.off + q) % 128).toNat]? with
                        | none => simp
                        | some y => exact (hW.db _ s hq).2.1 y (List.mem_of_getElem? hx)
              · exact zero _
theorem doo_bound {S : PS} (hg : Good S) {o : OpV} (hk : 9 ≤ o.kind ∧ o.kind ≤ 11) : ABnd (S.doo o).2 := by
  unfold PS.doo
  split
  · exact err_bound _
  · split
    · exact err_bound _
    · rw [does_ask hk]
      unfold PS.told1
      split
      · exact err_bound _
      · exact asked_bound hg hk _
theorem numZ_some {n : Int} (h : 0 ≤ n ∧ n ≤ 1099511627776) : (numZ n).size ≤ 21 := numZ_21 ⟨by omega, by omega⟩
end Go.Proofs.YteffoihkljkfdaaDoor
