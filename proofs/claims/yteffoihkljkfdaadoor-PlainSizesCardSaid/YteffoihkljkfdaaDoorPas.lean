/- asks: the walks, kind by kind. -/
import Derived.Test.YteffoihkljkfdaaDoorPmw
namespace Go.Proofs.YteffoihkljkfdaaDoor
set_option linter.unusedSimpArgs false
set_option linter.unusedVariables false
open Go.RowKit

set_option maxHeartbeats 8000000 in
set_option maxRecDepth 100000 in
theorem asks_write {w : World} {gp bn c : Nat} {S : PS} {A : Int → NA} {own : Nat → Option (Int × Nat)} (h : PW w gp bn c S A own) {i : Int} (hi : (S.nodes i).isSome = true) {o : OpV} (hk : o.kind = 7) {dv : Value} (ho : OpAt w own o dv) (hk1 : (S.nd i).kind = 1) :
    Calls Tryd.prog 54 #[.pointer (some ⟨gp, 0, none⟩), .agg (opV o dv), .int .i64 i] w fun e w' => ∃ own' av, e = .returned av ∧ AnsAt w' w.heap.size own' av (.err (S.write i o.off o.data).2) ∧ Mvd w w' gp bn own ((S.write i o.off o.data).1) own' := by
  have hn := PS.nd_get hi
  have H := Lib.hid h.nrm
  have HO := Lib.hid ho
  obtain ⟨od, hdr, hdn⟩ := ho.d
  obtain ⟨da, dc, rfl⟩ := hdr.slice
  obtain ⟨kind, path, dest, off, len, data, made, pick⟩ := o
  simp only at hk
  subst hk
  have HDR := Lib.hid hdr
  clear ho hdr hdn h
  unfold opV
  simp only at HO HDR ⊢
  obtain ⟨w0, hw0⟩ : ∃ x, x = (w.alloc (.cells #[.int .i64 7, .string path, .string dest, .int .i64 off, .int .i64 len, .slice da data.length dc, .int .i64 made, .int .i64 pick] 40)).alloc (.cells ans0 37) := ⟨_, rfl⟩
  obtain ⟨go, hgo⟩ : ∃ x, x = w.heap.size := ⟨_, rfl⟩
  obtain ⟨ga, hga⟩ : ∃ x, x = go + 1 := ⟨_, rfl⟩
  have hf0 : Fr [] w w0 := by rw [hw0]; exact (fr_new _ _ _).trans (fr_new _ _ _)
  have hop0 : hat w0 go = some (.cells #[.int .i64 7, .string path, .string dest, .int .i64 off, .int .i64 len, .slice da data.length dc, .int .i64 made, .int .i64 pick] 40) := by rw [hw0, hgo]; exact (hopA _ _ (hopN w _).1).1
  have hga0 : hat w0 ga = some (.cells ans0 37) := by
    have e := (hopN (w.alloc (.cells #[.int .i64 7, .string path, .string dest, .int .i64 off, .int .i64 len, .slice da data.length dc, .int .i64 made, .int .i64 pick] 40)) (.cells ans0 37)).1
    rw [show (w.alloc (.cells #[.int .i64 7, .string path, .string dest, .int .i64 off, .int .i64 len, .slice da data.length dc, .int .i64 made, .int .i64 pick] 40)).heap.size = ga by rw [hga, hgo]; simp] at e
    rw [hw0]; exact e
  have HG0 := Lib.hid hga0
  have HF0 := Lib.hid hf0
  have HP0 := Lib.hid (H.out.fr hf0 (by simp))
  have HGE := Lib.hid (show w.heap.size ≤ go ∧ w.heap.size ≤ ga ∧ go < ga from by omega)
  have HO0 := Lib.hid (HO.out.fr (own' := nrm w own) hf0 (by simp) (fun b hb => nrm_lt hb))
  go_enter Tryd.func54, Tryd.ntmps54
  go_upto_region 1 with fail
  have hw0' : w0 = (w.alloc (.cells #[.int .i64 7, .string path, .string dest, .int .i64 off, .int .i64 len, .slice da data.length dc, .int .i64 made, .int .i64 pick] 40)).alloc (.cells #[.int .i64 0, .int .i64 0, .int .i64 0, .int .i64 0, .int .i64 0, .int .i64 0, .int .i64 0, .slice none 0 0, .slice none 0 0, .bool false] 37) := hw0
  rw [← hgo, ← hga]
  rw [← hw0']
  clear hw0' hw0 hf0 hga hgo hga0
  have hp0 := HP0.out.t.p
  have hpl0 := hat_lt hp0
  have hol0 := hat_lt hop0
  have hlk := HP0.out.t.look_yes hn
  have hnn := HP0.out.t.n i _ hn
  have hh := hnn.h
  have hhl := hat_lt hh
  have HNN := Lib.hid hnn
  clear hnn
  have hk2 : ¬ (S.nd i).kind = 2 := by rw [hk1]; decide
  go_wp2_with fail
  refine (write_any HP0.out hi hk1 (hdv := (HDR.out.fr HF0.out (by simp))) HO.out.c HO.out.b HO.out.l).mono ?_; rintro e w1 ⟨own', rfl, hmv⟩
  have hgan : nrm w own ga = none := nrm_ge HGE.out.2.1
  have hg1 := (hmv.2.1.block ga (hat_lt HG0.out) hgan).trans HG0.out
  have HG1 := Lib.hid hg1
  have HGN := Lib.hid ((hmv.2.2 ga (hat_lt HG0.out)).trans hgan)
  have HMV := Lib.hid (hmv.from HF0.out)
  unfold ans0 at hg1
  have hgl1 := hat_lt hg1
  obtain ⟨code, hc⟩ : ∃ x, x = (S.write i off data).2 := ⟨_, rfl⟩
  rw [← hc]
  have HC := Lib.hid hc.symm
  clear hc
  clear hmv hp0 hpl0 hol0 hlk hh hhl hop0
  go_wp2_with fail
  refine ret_c row37 rfl (cs := #[.int .i64 code, .int .i64 0, .int .i64 0, .int .i64 0, .int .i64 0, .int .i64 0, .int .i64 0, .slice none 0 0, .slice none 0 0, .bool false]) rfl (hat_setRow_at _ _ _ _ _ _ HG1.out) rfl rfl ?_
  exact ⟨own', _, rfl, by show AnsAt _ _ _ _ (.err (S.write i off data).2); rw [HC.out]; exact ans_err _ _ _ _, HMV.out.then (fr_setRow w1 ga _) (by simp; exact ⟨HGN.out, HGE.out.2.1⟩)⟩
set_option maxHeartbeats 8000000 in
set_option maxRecDepth 100000 in
theorem asks_dir7 {w : World} {gp bn c : Nat} {S : PS} {A : Int → NA} {own : Nat → Option (Int × Nat)} (h : PW w gp bn c S A own) {i : Int} (hi : (S.nodes i).isSome = true) {o : OpV} (hk : o.kind = 7) {dv : Value} (ho : OpAt w own o dv) (hk2 : (S.nd i).kind = 2) :
    Calls Tryd.prog 54 #[.pointer (some ⟨gp, 0, none⟩), .agg (opV o dv), .int .i64 i] w fun e w' => ∃ own' av, e = .returned av ∧ AnsAt w' w.heap.size own' av (.err 102) ∧ Mvd w w' gp bn own (S) own' := by
  have hn := PS.nd_get hi
  have H := Lib.hid h.nrm
  have HO := Lib.hid ho
  obtain ⟨od, hdr, hdn⟩ := ho.d
  obtain ⟨da, dc, rfl⟩ := hdr.slice
  obtain ⟨kind, path, dest, off, len, data, made, pick⟩ := o
  simp only at hk
  subst hk
  have HDR := Lib.hid hdr
  clear ho hdr hdn h
  unfold opV
  simp only at HO HDR ⊢
  obtain ⟨w0, hw0⟩ : ∃ x, x = (w.alloc (.cells #[.int .i64 7, .string path, .string dest, .int .i64 off, .int .i64 len, .slice da data.length dc, .int .i64 made, .int .i64 pick] 40)).alloc (.cells ans0 37) := ⟨_, rfl⟩
  obtain ⟨go, hgo⟩ : ∃ x, x = w.heap.size := ⟨_, rfl⟩
  obtain ⟨ga, hga⟩ : ∃ x, x = go + 1 := ⟨_, rfl⟩
  have hf0 : Fr [] w w0 := by rw [hw0]; exact (fr_new _ _ _).trans (fr_new _ _ _)
  have hop0 : hat w0 go = some (.cells #[.int .i64 7, .string path, .string dest, .int .i64 off, .int .i64 len, .slice da data.length dc, .int .i64 made, .int .i64 pick] 40) := by rw [hw0, hgo]; exact (hopA _ _ (hopN w _).1).1
  have hga0 : hat w0 ga = some (.cells ans0 37) := by
    have e := (hopN (w.alloc (.cells #[.int .i64 7, .string path, .string dest, .int .i64 off, .int .i64 len, .slice da data.length dc, .int .i64 made, .int .i64 pick] 40)) (.cells ans0 37)).1
    rw [show (w.alloc (.cells #[.int .i64 7, .string path, .string dest, .int .i64 off, .int .i64 len, .slice da data.length dc, .int .i64 made, .int .i64 pick] 40)).heap.size = ga by rw [hga, hgo]; simp] at e
    rw [hw0]; exact e
  have HG0 := Lib.hid hga0
  have HF0 := Lib.hid hf0
  have HP0 := Lib.hid (H.out.fr hf0 (by simp))
  have HGE := Lib.hid (show w.heap.size ≤ go ∧ w.heap.size ≤ ga ∧ go < ga from by omega)
  have HO0 := Lib.hid (HO.out.fr (own' := nrm w own) hf0 (by simp) (fun b hb => nrm_lt hb))
  go_enter Tryd.func54, Tryd.ntmps54
  go_upto_region 1 with fail
  have hw0' : w0 = (w.alloc (.cells #[.int .i64 7, .string path, .string dest, .int .i64 off, .int .i64 len, .slice da data.length dc, .int .i64 made, .int .i64 pick] 40)).alloc (.cells #[.int .i64 0, .int .i64 0, .int .i64 0, .int .i64 0, .int .i64 0, .int .i64 0, .int .i64 0, .slice none 0 0, .slice none 0 0, .bool false] 37) := hw0
  rw [← hgo, ← hga]
  rw [← hw0']
  clear hw0' hw0 hf0 hga hgo hga0
  have hp0 := HP0.out.t.p
  have hpl0 := hat_lt hp0
  have hol0 := hat_lt hop0
  have hlk := HP0.out.t.look_yes hn
  have hnn := HP0.out.t.n i _ hn
  have hh := hnn.h
  have hhl := hat_lt hh
  have HNN := Lib.hid hnn
  clear hnn
  rw [hk2] at hh
  have hga := HG0.out
  unfold ans0 at hga
  have hgal := hat_lt hga
  go_wp2_with fail
  refine ret_c row37 rfl (cs := #[.int .i64 102, .int .i64 0, .int .i64 0, .int .i64 0, .int .i64 0, .int .i64 0, .int .i64 0, .slice none 0 0, .slice none 0 0, .bool false]) rfl (hat_setRow_at _ _ _ _ _ _ HG0.out) rfl rfl ?_
  exact ⟨nrm w own, _, rfl, ans_err _ _ _ _, Mvd.then ⟨⟨c, A, HP0.out⟩, (HF0.out).un (by simp), fun b hb => nrm_lt hb⟩ (fr_setRow w0 ga _) (by simp; exact ⟨nrm_ge HGE.out.2.1, HGE.out.2.1⟩)⟩
set_option maxHeartbeats 8000000 in
set_option maxRecDepth 100000 in
theorem asks_dir8 {w : World} {gp bn c : Nat} {S : PS} {A : Int → NA} {own : Nat → Option (Int × Nat)} (h : PW w gp bn c S A own) {i : Int} (hi : (S.nodes i).isSome = true) {o : OpV} (hk : o.kind = 8) {dv : Value} (ho : OpAt w own o dv) (hk2 : (S.nd i).kind = 2) :
    Calls Tryd.prog 54 #[.pointer (some ⟨gp, 0, none⟩), .agg (opV o dv), .int .i64 i] w fun e w' => ∃ own' av, e = .returned av ∧ AnsAt w' w.heap.size own' av (.err 102) ∧ Mvd w w' gp bn own (S) own' := by
  have hn := PS.nd_get hi
  have H := Lib.hid h.nrm
  have HO := Lib.hid ho
  obtain ⟨od, hdr, hdn⟩ := ho.d
  obtain ⟨da, dc, rfl⟩ := hdr.slice
  obtain ⟨kind, path, dest, off, len, data, made, pick⟩ := o
  simp only at hk
  subst hk
  have HDR := Lib.hid hdr
  clear ho hdr hdn h
  unfold opV
  simp only at HO HDR ⊢
  obtain ⟨w0, hw0⟩ : ∃ x, x = (w.alloc (.cells #[.int .i64 8, .string path, .string dest, .int .i64 off, .int .i64 len, .slice da data.length dc, .int .i64 made, .int .i64 pick] 40)).alloc (.cells ans0 37) := ⟨_, rfl⟩
  obtain ⟨go, hgo⟩ : ∃ x, x = w.heap.size := ⟨_, rfl⟩
  obtain ⟨ga, hga⟩ : ∃ x, x = go + 1 := ⟨_, rfl⟩
  have hf0 : Fr [] w w0 := by rw [hw0]; exact (fr_new _ _ _).trans (fr_new _ _ _)
  have hop0 : hat w0 go = some (.cells #[.int .i64 8, .string path, .string dest, .int .i64 off, .int .i64 len, .slice da data.length dc, .int .i64 made, .int .i64 pick] 40) := by rw [hw0, hgo]; exact (hopA _ _ (hopN w _).1).1
  have hga0 : hat w0 ga = some (.cells ans0 37) := by
    have e := (hopN (w.alloc (.cells #[.int .i64 8, .string path, .string dest, .int .i64 off, .int .i64 len, .slice da data.length dc, .int .i64 made, .int .i64 pick] 40)) (.cells ans0 37)).1
    rw [show (w.alloc (.cells #[.int .i64 8, .string path, .string dest, .int .i64 off, .int .i64 len, .slice da data.length dc, .int .i64 made, .int .i64 pick] 40)).heap.size = ga by rw [hga, hgo]; simp] at e
    rw [hw0]; exact e
  have HG0 := Lib.hid hga0
  have HF0 := Lib.hid hf0
  have HP0 := Lib.hid (H.out.fr hf0 (by simp))
  have HGE := Lib.hid (show w.heap.size ≤ go ∧ w.heap.size ≤ ga ∧ go < ga from by omega)
  have HO0 := Lib.hid (HO.out.fr (own' := nrm w own) hf0 (by simp) (fun b hb => nrm_lt hb))
  go_enter Tryd.func54, Tryd.ntmps54
  go_upto_region 1 with fail
  have hw0' : w0 = (w.alloc (.cells #[.int .i64 8, .string path, .string dest, .int .i64 off, .int .i64 len, .slice da data.length dc, .int .i64 made, .int .i64 pick] 40)).alloc (.cells #[.int .i64 0, .int .i64 0, .int .i64 0, .int .i64 0, .int .i64 0, .int .i64 0, .int .i64 0, .slice none 0 0, .slice none 0 0, .bool false] 37) := hw0
  rw [← hgo, ← hga]
  rw [← hw0']
  clear hw0' hw0 hf0 hga hgo hga0
  have hp0 := HP0.out.t.p
  have hpl0 := hat_lt hp0
  have hol0 := hat_lt hop0
  have hlk := HP0.out.t.look_yes hn
  have hnn := HP0.out.t.n i _ hn
  have hh := hnn.h
  have hhl := hat_lt hh
  have HNN := Lib.hid hnn
  clear hnn
  rw [hk2] at hh
  have hga := HG0.out
  unfold ans0 at hga
  have hgal := hat_lt hga
  go_wp2_with fail
  refine ret_c row37 rfl (cs := #[.int .i64 102, .int .i64 0, .int .i64 0, .int .i64 0, .int .i64 0, .int .i64 0, .int .i64 0, .slice none 0 0, .slice none 0 0, .bool false]) rfl (hat_setRow_at _ _ _ _ _ _ HG0.out) rfl rfl ?_
  exact ⟨nrm w own, _, rfl, ans_err _ _ _ _, Mvd.then ⟨⟨c, A, HP0.out⟩, (HF0.out).un (by simp), fun b hb => nrm_lt hb⟩ (fr_setRow w0 ga _) (by simp; exact ⟨nrm_ge HGE.out.2.1, HGE.out.2.1⟩)⟩
set_option maxHeartbeats 8000000 in
set_option maxRecDepth 100000 in
theorem asks_dir9 {w : World} {gp bn c : Nat} {S : PS} {A : Int → NA} {own : Nat → Option (Int × Nat)} (h : PW w gp bn c S A own) {i : Int} (hi : (S.nodes i).isSome = true) {o : OpV} (hk : o.kind = 9) {dv : Value} (ho : OpAt w own o dv) (hk2 : (S.nd i).kind = 2) :
    Calls Tryd.prog 54 #[.pointer (some ⟨gp, 0, none⟩), .agg (opV o dv), .int .i64 i] w fun e w' => ∃ own' av, e = .returned av ∧ AnsAt w' w.heap.size own' av (.err 102) ∧ Mvd w w' gp bn own (S) own' := by
  have hn := PS.nd_get hi
  have H := Lib.hid h.nrm
  have HO := Lib.hid ho
  obtain ⟨od, hdr, hdn⟩ := ho.d
  obtain ⟨da, dc, rfl⟩ := hdr.slice
  obtain ⟨kind, path, dest, off, len, data, made, pick⟩ := o
  simp only at hk
  subst hk
  have HDR := Lib.hid hdr
  clear ho hdr hdn h
  unfold opV
  simp only at HO HDR ⊢
  obtain ⟨w0, hw0⟩ : ∃ x, x = (w.alloc (.cells #[.int .i64 9, .string path, .string dest, .int .i64 off, .int .i64 len, .slice da data.length dc, .int .i64 made, .int .i64 pick] 40)).alloc (.cells ans0 37) := ⟨_, rfl⟩
  obtain ⟨go, hgo⟩ : ∃ x, x = w.heap.size := ⟨_, rfl⟩
  obtain ⟨ga, hga⟩ : ∃ x, x = go + 1 := ⟨_, rfl⟩
  have hf0 : Fr [] w w0 := by rw [hw0]; exact (fr_new _ _ _).trans (fr_new _ _ _)
  have hop0 : hat w0 go = some (.cells #[.int .i64 9, .string path, .string dest, .int .i64 off, .int .i64 len, .slice da data.length dc, .int .i64 made, .int .i64 pick] 40) := by rw [hw0, hgo]; exact (hopA _ _ (hopN w _).1).1
  have hga0 : hat w0 ga = some (.cells ans0 37) := by
    have e := (hopN (w.alloc (.cells #[.int .i64 9, .string path, .string dest, .int .i64 off, .int .i64 len, .slice da data.length dc, .int .i64 made, .int .i64 pick] 40)) (.cells ans0 37)).1
    rw [show (w.alloc (.cells #[.int .i64 9, .string path, .string dest, .int .i64 off, .int .i64 len, .slice da data.length dc, .int .i64 made, .int .i64 pick] 40)).heap.size = ga by rw [hga, hgo]; simp] at e
    rw [hw0]; exact e
  have HG0 := Lib.hid hga0
  have HF0 := Lib.hid hf0
  have HP0 := Lib.hid (H.out.fr hf0 (by simp))
  have HGE := Lib.hid (show w.heap.size ≤ go ∧ w.heap.size ≤ ga ∧ go < ga from by omega)
  have HO0 := Lib.hid (HO.out.fr (own' := nrm w own) hf0 (by simp) (fun b hb => nrm_lt hb))
  go_enter Tryd.func54, Tryd.ntmps54
  go_upto_region 1 with fail
  have hw0' : w0 = (w.alloc (.cells #[.int .i64 9, .string path, .string dest, .int .i64 off, .int .i64 len, .slice da data.length dc, .int .i64 made, .int .i64 pick] 40)).alloc (.cells #[.int .i64 0, .int .i64 0, .int .i64 0, .int .i64 0, .int .i64 0, .int .i64 0, .int .i64 0, .slice none 0 0, .slice none 0 0, .bool false] 37) := hw0
  rw [← hgo, ← hga]
  rw [← hw0']
  clear hw0' hw0 hf0 hga hgo hga0
  have hp0 := HP0.out.t.p
  have hpl0 := hat_lt hp0
  have hol0 := hat_lt hop0
  have hlk := HP0.out.t.look_yes hn
  have hnn := HP0.out.t.n i _ hn
  have hh := hnn.h
  have hhl := hat_lt hh
  have HNN := Lib.hid hnn
  clear hnn
  rw [hk2] at hh
  have hga := HG0.out
  unfold ans0 at hga
  have hgal := hat_lt hga
  go_wp2_with fail
  refine ret_c row37 rfl (cs := #[.int .i64 102, .int .i64 0, .int .i64 0, .int .i64 0, .int .i64 0, .int .i64 0, .int .i64 0, .slice none 0 0, .slice none 0 0, .bool false]) rfl (hat_setRow_at _ _ _ _ _ _ HG0.out) rfl rfl ?_
  exact ⟨nrm w own, _, rfl, ans_err _ _ _ _, Mvd.then ⟨⟨c, A, HP0.out⟩, (HF0.out).un (by simp), fun b hb => nrm_lt hb⟩ (fr_setRow w0 ga _) (by simp; exact ⟨nrm_ge HGE.out.2.1, HGE.out.2.1⟩)⟩
set_option maxHeartbeats 8000000 in
set_option maxRecDepth 100000 in
theorem asks_dir13 {w : World} {gp bn c : Nat} {S : PS} {A : Int → NA} {own : Nat → Option (Int × Nat)} (h : PW w gp bn c S A own) {i : Int} (hi : (S.nodes i).isSome = true) {o : OpV} (hk : o.kind = 13) {dv : Value} (ho : OpAt w own o dv) (hk2 : (S.nd i).kind = 2) :
    Calls Tryd.prog 54 #[.pointer (some ⟨gp, 0, none⟩), .agg (opV o dv), .int .i64 i] w fun e w' => ∃ own' av, e = .returned av ∧ AnsAt w' w.heap.size own' av (.err 102) ∧ Mvd w w' gp bn own (S) own' := by
  have hn := PS.nd_get hi
  have H := Lib.hid h.nrm
  have HO := Lib.hid ho
  obtain ⟨od, hdr, hdn⟩ := ho.d
  obtain ⟨da, dc, rfl⟩ := hdr.slice
  obtain ⟨kind, path, dest, off, len, data, made, pick⟩ := o
  simp only at hk
  subst hk
  have HDR := Lib.hid hdr
  clear ho hdr hdn h
  unfold opV
  simp only at HO HDR ⊢
  obtain ⟨w0, hw0⟩ : ∃ x, x = (w.alloc (.cells #[.int .i64 13, .string path, .string dest, .int .i64 off, .int .i64 len, .slice da data.length dc, .int .i64 made, .int .i64 pick] 40)).alloc (.cells ans0 37) := ⟨_, rfl⟩
  obtain ⟨go, hgo⟩ : ∃ x, x = w.heap.size := ⟨_, rfl⟩
  obtain ⟨ga, hga⟩ : ∃ x, x = go + 1 := ⟨_, rfl⟩
  have hf0 : Fr [] w w0 := by rw [hw0]; exact (fr_new _ _ _).trans (fr_new _ _ _)
  have hop0 : hat w0 go = some (.cells #[.int .i64 13, .string path, .string dest, .int .i64 off, .int .i64 len, .slice da data.length dc, .int .i64 made, .int .i64 pick] 40) := by rw [hw0, hgo]; exact (hopA _ _ (hopN w _).1).1
  have hga0 : hat w0 ga = some (.cells ans0 37) := by
    have e := (hopN (w.alloc (.cells #[.int .i64 13, .string path, .string dest, .int .i64 off, .int .i64 len, .slice da data.length dc, .int .i64 made, .int .i64 pick] 40)) (.cells ans0 37)).1
    rw [show (w.alloc (.cells #[.int .i64 13, .string path, .string dest, .int .i64 off, .int .i64 len, .slice da data.length dc, .int .i64 made, .int .i64 pick] 40)).heap.size = ga by rw [hga, hgo]; simp] at e
    rw [hw0]; exact e
  have HG0 := Lib.hid hga0
  have HF0 := Lib.hid hf0
  have HP0 := Lib.hid (H.out.fr hf0 (by simp))
  have HGE := Lib.hid (show w.heap.size ≤ go ∧ w.heap.size ≤ ga ∧ go < ga from by omega)
  have HO0 := Lib.hid (HO.out.fr (own' := nrm w own) hf0 (by simp) (fun b hb => nrm_lt hb))
  go_enter Tryd.func54, Tryd.ntmps54
  go_upto_region 1 with fail
  have hw0' : w0 = (w.alloc (.cells #[.int .i64 13, .string path, .string dest, .int .i64 off, .int .i64 len, .slice da data.length dc, .int .i64 made, .int .i64 pick] 40)).alloc (.cells #[.int .i64 0, .int .i64 0, .int .i64 0, .int .i64 0, .int .i64 0, .int .i64 0, .int .i64 0, .slice none 0 0, .slice none 0 0, .bool false] 37) := hw0
  rw [← hgo, ← hga]
  rw [← hw0']
  clear hw0' hw0 hf0 hga hgo hga0
  have hp0 := HP0.out.t.p
  have hpl0 := hat_lt hp0
  have hol0 := hat_lt hop0
  have hlk := HP0.out.t.look_yes hn
  have hnn := HP0.out.t.n i _ hn
  have hh := hnn.h
  have hhl := hat_lt hh
  have HNN := Lib.hid hnn
  clear hnn
  rw [hk2] at hh
  have hga := HG0.out
  unfold ans0 at hga
  have hgal := hat_lt hga
  go_wp2_with fail
  refine ret_c row37 rfl (cs := #[.int .i64 102, .int .i64 0, .int .i64 0, .int .i64 0, .int .i64 0, .int .i64 0, .int .i64 0, .slice none 0 0, .slice none 0 0, .bool false]) rfl (hat_setRow_at _ _ _ _ _ _ HG0.out) rfl rfl ?_
  exact ⟨nrm w own, _, rfl, ans_err _ _ _ _, Mvd.then ⟨⟨c, A, HP0.out⟩, (HF0.out).un (by simp), fun b hb => nrm_lt hb⟩ (fr_setRow w0 ga _) (by simp; exact ⟨nrm_ge HGE.out.2.1, HGE.out.2.1⟩)⟩
set_option maxHeartbeats 8000000 in
set_option maxRecDepth 100000 in
theorem asks_read {w : World} {gp bn c : Nat} {S : PS} {A : Int → NA} {own : Nat → Option (Int × Nat)} (h : PW w gp bn c S A own) {i : Int} (hi : (S.nodes i).isSome = true) {o : OpV} (hk : o.kind = 9) {dv : Value} (ho : OpAt w own o dv) (hk1 : (S.nd i).kind = 1) :
    Calls Tryd.prog 54 #[.pointer (some ⟨gp, 0, none⟩), .agg (opV o dv), .int .i64 i] w fun e w' => ∃ own' av, e = .returned av ∧ AnsAt w' w.heap.size own' av ((S.nd i).read o.off o.len) ∧ Mvd w w' gp bn own (S) own' := by
  have hn := PS.nd_get hi
  have H := Lib.hid h.nrm
  have HO := Lib.hid ho
  obtain ⟨od, hdr, hdn⟩ := ho.d
  obtain ⟨da, dc, rfl⟩ := hdr.slice
  obtain ⟨kind, path, dest, off, len, data, made, pick⟩ := o
  simp only at hk
  subst hk
  have HDR := Lib.hid hdr
  clear ho hdr hdn h
  unfold opV
  simp only at HO HDR ⊢
  obtain ⟨w0, hw0⟩ : ∃ x, x = (w.alloc (.cells #[.int .i64 9, .string path, .string dest, .int .i64 off, .int .i64 len, .slice da data.length dc, .int .i64 made, .int .i64 pick] 40)).alloc (.cells ans0 37) := ⟨_, rfl⟩
  obtain ⟨go, hgo⟩ : ∃ x, x = w.heap.size := ⟨_, rfl⟩
  obtain ⟨ga, hga⟩ : ∃ x, x = go + 1 := ⟨_, rfl⟩
  have hf0 : Fr [] w w0 := by rw [hw0]; exact (fr_new _ _ _).trans (fr_new _ _ _)
  have hop0 : hat w0 go = some (.cells #[.int .i64 9, .string path, .string dest, .int .i64 off, .int .i64 len, .slice da data.length dc, .int .i64 made, .int .i64 pick] 40) := by rw [hw0, hgo]; exact (hopA _ _ (hopN w _).1).1
  have hga0 : hat w0 ga = some (.cells ans0 37) := by
    have e := (hopN (w.alloc (.cells #[.int .i64 9, .string path, .string dest, .int .i64 off, .int .i64 len, .slice da data.length dc, .int .i64 made, .int .i64 pick] 40)) (.cells ans0 37)).1
    rw [show (w.alloc (.cells #[.int .i64 9, .string path, .string dest, .int .i64 off, .int .i64 len, .slice da data.length dc, .int .i64 made, .int .i64 pick] 40)).heap.size = ga by rw [hga, hgo]; simp] at e
    rw [hw0]; exact e
  have HG0 := Lib.hid hga0
  have HF0 := Lib.hid hf0
  have HP0 := Lib.hid (H.out.fr hf0 (by simp))
  have HGE := Lib.hid (show w.heap.size ≤ go ∧ w.heap.size ≤ ga ∧ go < ga from by omega)
  have HO0 := Lib.hid (HO.out.fr (own' := nrm w own) hf0 (by simp) (fun b hb => nrm_lt hb))
  go_enter Tryd.func54, Tryd.ntmps54
  go_upto_region 1 with fail
  have hw0' : w0 = (w.alloc (.cells #[.int .i64 9, .string path, .string dest, .int .i64 off, .int .i64 len, .slice da data.length dc, .int .i64 made, .int .i64 pick] 40)).alloc (.cells #[.int .i64 0, .int .i64 0, .int .i64 0, .int .i64 0, .int .i64 0, .int .i64 0, .int .i64 0, .slice none 0 0, .slice none 0 0, .bool false] 37) := hw0
  rw [← hgo, ← hga]
  rw [← hw0']
  clear hw0' hw0 hf0 hga hgo hga0
  have hp0 := HP0.out.t.p
  have hpl0 := hat_lt hp0
  have hol0 := hat_lt hop0
  have hlk := HP0.out.t.look_yes hn
  have hnn := HP0.out.t.n i _ hn
  have hh := hnn.h
  have hhl := hat_lt hh
  have HNN := Lib.hid hnn
  clear hnn
  have hk2 : ¬ (S.nd i).kind = 2 := by rw [hk1]; decide
  go_wp2_with fail
  refine (read_any HNN.out (HP0.out.o.n i _ hn) (HP0.out.f.n i _ hn).sz).mono ?_; rintro e w1 ⟨av, rfl, ha, hb1⟩
  have hg1 := (hop hb1 HG0.out).1
  have HG1 := Lib.hid hg1
  have HAN := Lib.hid ha
  obtain ⟨dv, ev, od1, oe1, rfl, hd1, he1, -⟩ := ha
  obtain ⟨d1, d2, rfl⟩ := hd1.slice
  obtain ⟨e1, e2, rfl⟩ := he1.slice
  have HB1 := Lib.hid hb1
  unfold ansV at HAN ⊢
  generalize hx : (S.nd i).read off len = x at *
  have HX := Lib.hid hx
  clear hx
  obtain ⟨xc, ⟨x1, x2, x3, x4, x5, x6⟩, xd, xe⟩ := x
  simp only at HAN ⊢
  unfold ans0 at hg1
  have hgl1 := hat_lt hg1
  have hone : oneAll #[.int .i64 xc, .int .i64 x1, .int .i64 x2, .int .i64 x3, .int .i64 x4, .int .i64 x5, .int .i64 x6, .slice d1 xd.length d2, .slice e1 xe.length e2, .bool false] = true := by simp [oneAll, Value.oneCell']
  clear hb1 hp0 hpl0 hol0 hlk hh hhl hop0 hd1 he1
  go_wp2_with fail
  refine ret_c row37 rfl (cs := #[.int .i64 xc, .int .i64 x1, .int .i64 x2, .int .i64 x3, .int .i64 x4, .int .i64 x5, .int .i64 x6, .slice d1 xd.length d2, .slice e1 xe.length e2, .bool false]) rfl (hat_setRow_at _ _ _ _ _ _ HG1.out) rfl rfl ?_
  exact ⟨nrm w own, _, rfl, by show AnsAt _ _ _ _ ((S.nd i).read off len); rw [HX.out]; exact HAN.out.fr (fr_setRow w1 ga _) (by simp; exact hat_lt HG0.out) (fun b hb => nrm_ge (Nat.le_trans HF0.out.size hb)) HF0.out.size, Mvd.then ⟨⟨c, A, HP0.out.fr (fr_below HB1.out []) (by simp)⟩, (HF0.out.trans (fr_below HB1.out [])).un (by simp), fun b hb => nrm_lt hb⟩ (fr_setRow w1 ga _) (by simp; exact ⟨nrm_ge HGE.out.2.1, HGE.out.2.1⟩)⟩
set_option maxHeartbeats 8000000 in
set_option maxRecDepth 100000 in
theorem asks_stat {w : World} {gp bn c : Nat} {S : PS} {A : Int → NA} {own : Nat → Option (Int × Nat)} (h : PW w gp bn c S A own) {i : Int} (hi : (S.nodes i).isSome = true) {o : OpV} (hk : o.kind = 10) {dv : Value} (ho : OpAt w own o dv) :
    Calls Tryd.prog 54 #[.pointer (some ⟨gp, 0, none⟩), .agg (opV o dv), .int .i64 i] w fun e w' => ∃ own' av, e = .returned av ∧ AnsAt w' w.heap.size own' av (⟨0, S.stat i, [], []⟩) ∧ Mvd w w' gp bn own (S) own' := by
  have hn := PS.nd_get hi
  have H := Lib.hid h.nrm
  have HO := Lib.hid ho
  obtain ⟨od, hdr, hdn⟩ := ho.d
  obtain ⟨da, dc, rfl⟩ := hdr.slice
  obtain ⟨kind, path, dest, off, len, data, made, pick⟩ := o
  simp only at hk
  subst hk
  have HDR := Lib.hid hdr
  clear ho hdr hdn h
  unfold opV
  simp only at HO HDR ⊢
  obtain ⟨w0, hw0⟩ : ∃ x, x = (w.alloc (.cells #[.int .i64 10, .string path, .string dest, .int .i64 off, .int .i64 len, .slice da data.length dc, .int .i64 made, .int .i64 pick] 40)).alloc (.cells ans0 37) := ⟨_, rfl⟩
  obtain ⟨go, hgo⟩ : ∃ x, x = w.heap.size := ⟨_, rfl⟩
  obtain ⟨ga, hga⟩ : ∃ x, x = go + 1 := ⟨_, rfl⟩
  have hf0 : Fr [] w w0 := by rw [hw0]; exact (fr_new _ _ _).trans (fr_new _ _ _)
  have hop0 : hat w0 go = some (.cells #[.int .i64 10, .string path, .string dest, .int .i64 off, .int .i64 len, .slice da data.length dc, .int .i64 made, .int .i64 pick] 40) := by rw [hw0, hgo]; exact (hopA _ _ (hopN w _).1).1
  have hga0 : hat w0 ga = some (.cells ans0 37) := by
    have e := (hopN (w.alloc (.cells #[.int .i64 10, .string path, .string dest, .int .i64 off, .int .i64 len, .slice da data.length dc, .int .i64 made, .int .i64 pick] 40)) (.cells ans0 37)).1
    rw [show (w.alloc (.cells #[.int .i64 10, .string path, .string dest, .int .i64 off, .int .i64 len, .slice da data.length dc, .int .i64 made, .int .i64 pick] 40)).heap.size = ga by rw [hga, hgo]; simp] at e
    rw [hw0]; exact e
  have HG0 := Lib.hid hga0
  have HF0 := Lib.hid hf0
  have HP0 := Lib.hid (H.out.fr hf0 (by simp))
  have HGE := Lib.hid (show w.heap.size ≤ go ∧ w.heap.size ≤ ga ∧ go < ga from by omega)
  have HO0 := Lib.hid (HO.out.fr (own' := nrm w own) hf0 (by simp) (fun b hb => nrm_lt hb))
  go_enter Tryd.func54, Tryd.ntmps54
  go_upto_region 1 with fail
  have hw0' : w0 = (w.alloc (.cells #[.int .i64 10, .string path, .string dest, .int .i64 off, .int .i64 len, .slice da data.length dc, .int .i64 made, .int .i64 pick] 40)).alloc (.cells #[.int .i64 0, .int .i64 0, .int .i64 0, .int .i64 0, .int .i64 0, .int .i64 0, .int .i64 0, .slice none 0 0, .slice none 0 0, .bool false] 37) := hw0
  rw [← hgo, ← hga]
  rw [← hw0']
  clear hw0' hw0 hf0 hga hgo hga0
  have hp0 := HP0.out.t.p
  have hpl0 := hat_lt hp0
  have hol0 := hat_lt hop0
  have hlk := HP0.out.t.look_yes hn
  have hnn := HP0.out.t.n i _ hn
  have hh := hnn.h
  have hhl := hat_lt hh
  have HNN := Lib.hid hnn
  clear hnn
  go_wp2_with fail
  refine (stat_any HP0.out.t HP0.out.o hi).mono ?_; rintro e w1 ⟨rfl, hb1⟩
  have hg1 := (hop hb1 HG0.out).1
  have HG1 := Lib.hid hg1
  have HB1 := Lib.hid hb1
  generalize hx : S.stat i = st at *
  have HX := Lib.hid hx
  clear hx
  obtain ⟨x1, x2, x3, x4, x5, x6⟩ := st
  have hsv : (Sta.mk x1 x2 x3 x4 x5 x6).val = .agg #[.int .i64 x1, .int .i64 x2, .int .i64 x3, .int .i64 x4, .int .i64 x5, .int .i64 x6] := rfl
  rw [hsv]
  clear hsv
  unfold ans0 at hg1
  have hgl1 := hat_lt hg1
  clear hb1 hp0 hpl0 hol0 hlk hh hhl hop0
  go_wp2_with fail
  refine ret_c row37 rfl (cs := #[.int .i64 0, .int .i64 x1, .int .i64 x2, .int .i64 x3, .int .i64 x4, .int .i64 x5, .int .i64 x6, .slice none 0 0, .slice none 0 0, .bool false]) rfl (hat_setRow_at _ _ _ _ _ _ HG1.out) rfl rfl ?_
  exact ⟨nrm w own, _, rfl, by rw [HX.out]; exact ans_stat _ _ _ ⟨x1, x2, x3, x4, x5, x6⟩, Mvd.then ⟨⟨c, A, HP0.out.fr (fr_below HB1.out []) (by simp)⟩, (HF0.out.trans (fr_below HB1.out [])).un (by simp), fun b hb => nrm_lt hb⟩ (fr_setRow w1 ga _) (by simp; exact ⟨nrm_ge HGE.out.2.1, HGE.out.2.1⟩)⟩
end Go.Proofs.YteffoihkljkfdaaDoor
