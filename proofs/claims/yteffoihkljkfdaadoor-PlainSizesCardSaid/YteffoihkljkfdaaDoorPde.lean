/- does: the walks, kind by kind. -/
import Derived.Test.YteffoihkljkfdaaDoorPas
import Derived.Test.YteffoihkljkfdaaDoorPmk
namespace Go.Proofs.YteffoihkljkfdaaDoor
set_option linter.unusedSimpArgs false
set_option linter.unusedVariables false
open Go.RowKit

/-- which of two texts is the lesser, as numbers -/
def leB (a b : ByteArray) : Bool := decide (Lib.compareBytes a.data.toList b.data.toList ≤ 0)
/-- a directory's entries, by rising names -/
def PS.ents (S : PS) (n : Nd) : List (ByteArray × Int × Int) := ((n.slots.filter fun s => decide (0 < s.size)).mergeSort leB).map fun s => (s, (n.names s).getD 0, (S.nd ((n.names s).getD 0)).kind)
def PS.truncate (S : PS) (i size : Int) : PS × Int := if size < 0 ∨ 136704 < size then (S, 101) else (S.put i (some ((S.nd i).trunc size)), 0)
/-- what an operation of an inode does -/
def PS.ask (S : PS) (o : OpV) (i : Int) : PS × Ans :=
  if o.kind = 10 then (S, ⟨0, S.stat i, [], []⟩)
  else if o.kind = 11 then (if (S.nd i).kind ≠ 2 then (S, .err 113) else (S, ⟨0, Sta.zero, [], S.ents (S.nd i)⟩))
  else if (S.nd i).kind = 2 then (S, .err 102)
  else if o.kind = 7 then ((S.write i o.off o.data).1, .err (S.write i o.off o.data).2)
  else if o.kind = 8 then ((S.truncate i o.off).1, .err (S.truncate i o.off).2)
  else if o.kind = 9 then (S, (S.nd i).read o.off o.len)
  else (S, .err 0)
def PS.asked (S : PS) (o : OpV) (l : List ByteArray) : PS × Ans := if (S.walk l 1).2 ≠ 0 then (S, .err (S.walk l 1).2) else S.ask o (S.walk l 1).1
theorem kind_cases {S : PS} (h : PWf S) {i : Int} (hi : (S.nodes i).isSome = true) : (S.nd i).kind = 1 ∨ (S.nd i).kind = 2 := (h.n i _ (PS.nd_get hi)).kd
theorem asks7 {w : World} {gp bn c : Nat} {S : PS} {A : Int → NA} {own : Nat → Option (Int × Nat)} (h : PW w gp bn c S A own) {i : Int} (hi : (S.nodes i).isSome = true) {o : OpV} (hk : o.kind = 7) {dv : Value} (ho : OpAt w own o dv) :
    Calls Tryd.prog 54 #[.pointer (some ⟨gp, 0, none⟩), .agg (opV o dv), .int .i64 i] w fun e w' => ∃ own' av, e = .returned av ∧ AnsAt w' w.heap.size own' av (S.ask o i).2 ∧ Mvd w w' gp bn own (S.ask o i).1 own' := by
  rcases kind_cases h.f hi with h1 | h2
  · have e : S.ask o i = ((S.write i o.off o.data).1, .err (S.write i o.off o.data).2) := by unfold PS.ask; simp [hk, h1]
    rw [e]
    exact asks_write h hi hk ho h1
  · have e : S.ask o i = (S, .err 102) := by unfold PS.ask; simp [hk, h2]
    rw [e]
    exact asks_dir7 h hi hk ho h2
theorem asks9 {w : World} {gp bn c : Nat} {S : PS} {A : Int → NA} {own : Nat → Option (Int × Nat)} (h : PW w gp bn c S A own) {i : Int} (hi : (S.nodes i).isSome = true) {o : OpV} (hk : o.kind = 9) {dv : Value} (ho : OpAt w own o dv) :
    Calls Tryd.prog 54 #[.pointer (some ⟨gp, 0, none⟩), .agg (opV o dv), .int .i64 i] w fun e w' => ∃ own' av, e = .returned av ∧ AnsAt w' w.heap.size own' av (S.ask o i).2 ∧ Mvd w w' gp bn own (S.ask o i).1 own' := by
  rcases kind_cases h.f hi with h1 | h2
  · have e : S.ask o i = (S, (S.nd i).read o.off o.len) := by unfold PS.ask; simp [hk, h1]
    rw [e]
    exact asks_read h hi hk ho h1
  · have e : S.ask o i = (S, .err 102) := by unfold PS.ask; simp [hk, h2]
    rw [e]
    exact asks_dir9 h hi hk ho h2
theorem asks10 {w : World} {gp bn c : Nat} {S : PS} {A : Int → NA} {own : Nat → Option (Int × Nat)} (h : PW w gp bn c S A own) {i : Int} (hi : (S.nodes i).isSome = true) {o : OpV} (hk : o.kind = 10) {dv : Value} (ho : OpAt w own o dv) :
    Calls Tryd.prog 54 #[.pointer (some ⟨gp, 0, none⟩), .agg (opV o dv), .int .i64 i] w fun e w' => ∃ own' av, e = .returned av ∧ AnsAt w' w.heap.size own' av (S.ask o i).2 ∧ Mvd w w' gp bn own (S.ask o i).1 own' := by
  have e : S.ask o i = (S, ⟨0, S.stat i, [], []⟩) := by unfold PS.ask; simp [hk]
  rw [e]
  exact asks_stat h hi hk ho

set_option maxHeartbeats 8000000 in
set_option maxRecDepth 100000 in
theorem does_create {w : World} {gp bn c : Nat} {S : PS} {A : Int → NA} {own : Nat → Option (Int × Nat)} (h : PW w gp bn c S A own) {o : OpV} (hk : o.kind = 1) (hma : 0 ≤ o.made ∧ o.made ≤ 1099511627776) {dv : Value} (ho : OpAt w own o dv) {fv tv : Value} {l : List ByteArray} {B : Nat} (hv : Strs w B fv l) (hl : ∀ s ∈ l, 0 < s.size ∧ s.size ≤ 40) :
    Calls Tryd.prog 27 #[.pointer (some ⟨gp, 0, none⟩), .agg (opV o dv), fv, tv] w fun e w' => ∃ own' av, e = .returned av ∧ AnsAt w' w.heap.size own' av (S.make l 1 o.made).2 ∧ Mvd w w' gp bn own (S.make l 1 o.made).1 own' := by
  have H := Lib.hid h.nrm
  have HO := Lib.hid ho
  have HV := Lib.hid hv
  have HL := Lib.hid hl
  obtain ⟨od, hdr, hdn⟩ := ho.d
  obtain ⟨da, dc, rfl⟩ := hdr.slice
  obtain ⟨kind, path, dest, off, len, data, made, pick⟩ := o
  simp only at hk hma
  subst hk
  clear ho hdr hdn h hv hl
  unfold opV
  simp only at HO ⊢
  obtain ⟨w0, hw0⟩ : ∃ x, x = (w.alloc (.cells #[.int .i64 1, .string path, .string dest, .int .i64 off, .int .i64 len, .slice da data.length dc, .int .i64 made, .int .i64 pick] 40)).alloc (.cells ans0 37) := ⟨_, rfl⟩
  obtain ⟨go, hgo⟩ : ∃ x, x = w.heap.size := ⟨_, rfl⟩
  obtain ⟨ga, hga⟩ : ∃ x, x = go + 1 := ⟨_, rfl⟩
  have hf0 : Fr [] w w0 := by rw [hw0]; exact (fr_new _ _ _).trans (fr_new _ _ _)
  have hop0 : hat w0 go = some (.cells #[.int .i64 1, .string path, .string dest, .int .i64 off, .int .i64 len, .slice da data.length dc, .int .i64 made, .int .i64 pick] 40) := by rw [hw0, hgo]; exact (hopA _ _ (hopN w _).1).1
  have hga0 : hat w0 ga = some (.cells ans0 37) := by
    have e := (hopN (w.alloc (.cells #[.int .i64 1, .string path, .string dest, .int .i64 off, .int .i64 len, .slice da data.length dc, .int .i64 made, .int .i64 pick] 40)) (.cells ans0 37)).1
    rw [show (w.alloc (.cells #[.int .i64 1, .string path, .string dest, .int .i64 off, .int .i64 len, .slice da data.length dc, .int .i64 made, .int .i64 pick] 40)).heap.size = ga by rw [hga, hgo]; simp] at e
    rw [hw0]; exact e
  have HG0 := Lib.hid hga0
  have HF0 := Lib.hid hf0
  have HP0 := Lib.hid (H.out.fr hf0 (by simp))
  have HGE := Lib.hid (show w.heap.size ≤ go ∧ w.heap.size ≤ ga ∧ go < ga from by omega)
  have HO0 := Lib.hid (HO.out.fr (own' := nrm w own) hf0 (by simp) (fun b hb => nrm_lt hb))
  have HV0 := Lib.hid (HV.out.fr' hf0)
  go_enter Tryd.func27, Tryd.ntmps27
  go_upto_region 1 with fail
  have hw0' : w0 = (w.alloc (.cells #[.int .i64 1, .string path, .string dest, .int .i64 off, .int .i64 len, .slice da data.length dc, .int .i64 made, .int .i64 pick] 40)).alloc (.cells #[.int .i64 0, .int .i64 0, .int .i64 0, .int .i64 0, .int .i64 0, .int .i64 0, .int .i64 0, .slice none 0 0, .slice none 0 0, .bool false] 37) := hw0
  rw [← hgo, ← hga]
  rw [← hw0']
  clear hw0' hw0 hf0 hga hgo hga0
  have hol0 := hat_lt hop0
  go_wp2_with fail
  refine (make_any HP0.out HV0.out HL.out (kind := 1) (made := made) (by simp) hma).mono ?_; rintro e w1 ⟨own', av, rfl, ha, hmv⟩
  have hgan : nrm w own ga = none := nrm_ge HGE.out.2.1
  have hg1 := (hmv.2.1.block ga (hat_lt HG0.out) hgan).trans HG0.out
  have HG1 := Lib.hid hg1
  have HGN := Lib.hid ((hmv.2.2 ga (hat_lt HG0.out)).trans hgan)
  have HMV := Lib.hid (hmv.from HF0.out)
  have HAN := Lib.hid ha
  obtain ⟨dv, ev, od1, oe1, rfl, hd1, he1, -⟩ := ha
  obtain ⟨d1, d2, rfl⟩ := hd1.slice
  obtain ⟨e1, e2, rfl⟩ := he1.slice
  unfold ansV at HAN ⊢
  generalize hx : (S.make l 1 made).2 = x at *
  have HX := Lib.hid hx
  clear hx
  obtain ⟨xc, ⟨x1, x2, x3, x4, x5, x6⟩, xd, xe⟩ := x
  simp only at HAN ⊢
  unfold ans0 at hg1
  have hgl1 := hat_lt hg1
  have hone : oneAll #[.int .i64 xc, .int .i64 x1, .int .i64 x2, .int .i64 x3, .int .i64 x4, .int .i64 x5, .int .i64 x6, .slice d1 xd.length d2, .slice e1 xe.length e2, .bool false] = true := by simp [oneAll, Value.oneCell']
  clear hmv hol0 hop0 hd1 he1
  go_wp2_with fail
  refine ret_c row37 rfl (cs := #[.int .i64 xc, .int .i64 x1, .int .i64 x2, .int .i64 x3, .int .i64 x4, .int .i64 x5, .int .i64 x6, .slice d1 xd.length d2, .slice e1 xe.length e2, .bool false]) rfl (hat_setRow_at _ _ _ _ _ _ HG1.out) rfl rfl ?_
  exact ⟨own', _, rfl, by show AnsAt _ _ _ _ (S.make l 1 made).2; rw [HX.out]; exact HAN.out.fr' (fr_setRow w1 ga _) (by simp; exact hat_lt HG0.out) HF0.out.size, HMV.out.then (fr_setRow w1 ga _) (by simp; exact ⟨HGN.out, HGE.out.2.1⟩)⟩
set_option maxHeartbeats 8000000 in
set_option maxRecDepth 100000 in
theorem does_mkdir {w : World} {gp bn c : Nat} {S : PS} {A : Int → NA} {own : Nat → Option (Int × Nat)} (h : PW w gp bn c S A own) {o : OpV} (hk : o.kind = 2) (hma : 0 ≤ o.made ∧ o.made ≤ 1099511627776) {dv : Value} (ho : OpAt w own o dv) {fv tv : Value} {l : List ByteArray} {B : Nat} (hv : Strs w B fv l) (hl : ∀ s ∈ l, 0 < s.size ∧ s.size ≤ 40) :
    Calls Tryd.prog 27 #[.pointer (some ⟨gp, 0, none⟩), .agg (opV o dv), fv, tv] w fun e w' => ∃ own' av, e = .returned av ∧ AnsAt w' w.heap.size own' av (S.make l 2 o.made).2 ∧ Mvd w w' gp bn own (S.make l 2 o.made).1 own' := by
  have H := Lib.hid h.nrm
  have HO := Lib.hid ho
  have HV := Lib.hid hv
  have HL := Lib.hid hl
  obtain ⟨od, hdr, hdn⟩ := ho.d
  obtain ⟨da, dc, rfl⟩ := hdr.slice
  obtain ⟨kind, path, dest, off, len, data, made, pick⟩ := o
  simp only at hk hma
  subst hk
  clear ho hdr hdn h hv hl
  unfold opV
  simp only at HO ⊢
  obtain ⟨w0, hw0⟩ : ∃ x, x = (w.alloc (.cells #[.int .i64 2, .string path, .string dest, .int .i64 off, .int .i64 len, .slice da data.length dc, .int .i64 made, .int .i64 pick] 40)).alloc (.cells ans0 37) := ⟨_, rfl⟩
  obtain ⟨go, hgo⟩ : ∃ x, x = w.heap.size := ⟨_, rfl⟩
  obtain ⟨ga, hga⟩ : ∃ x, x = go + 1 := ⟨_, rfl⟩
  have hf0 : Fr [] w w0 := by rw [hw0]; exact (fr_new _ _ _).trans (fr_new _ _ _)
  have hop0 : hat w0 go = some (.cells #[.int .i64 2, .string path, .string dest, .int .i64 off, .int .i64 len, .slice da data.length dc, .int .i64 made, .int .i64 pick] 40) := by rw [hw0, hgo]; exact (hopA _ _ (hopN w _).1).1
  have hga0 : hat w0 ga = some (.cells ans0 37) := by
    have e := (hopN (w.alloc (.cells #[.int .i64 2, .string path, .string dest, .int .i64 off, .int .i64 len, .slice da data.length dc, .int .i64 made, .int .i64 pick] 40)) (.cells ans0 37)).1
    rw [show (w.alloc (.cells #[.int .i64 2, .string path, .string dest, .int .i64 off, .int .i64 len, .slice da data.length dc, .int .i64 made, .int .i64 pick] 40)).heap.size = ga by rw [hga, hgo]; simp] at e
    rw [hw0]; exact e
  have HG0 := Lib.hid hga0
  have HF0 := Lib.hid hf0
  have HP0 := Lib.hid (H.out.fr hf0 (by simp))
  have HGE := Lib.hid (show w.heap.size ≤ go ∧ w.heap.size ≤ ga ∧ go < ga from by omega)
  have HO0 := Lib.hid (HO.out.fr (own' := nrm w own) hf0 (by simp) (fun b hb => nrm_lt hb))
  have HV0 := Lib.hid (HV.out.fr' hf0)
  go_enter Tryd.func27, Tryd.ntmps27
  go_upto_region 1 with fail
  have hw0' : w0 = (w.alloc (.cells #[.int .i64 2, .string path, .string dest, .int .i64 off, .int .i64 len, .slice da data.length dc, .int .i64 made, .int .i64 pick] 40)).alloc (.cells #[.int .i64 0, .int .i64 0, .int .i64 0, .int .i64 0, .int .i64 0, .int .i64 0, .int .i64 0, .slice none 0 0, .slice none 0 0, .bool false] 37) := hw0
  rw [← hgo, ← hga]
  rw [← hw0']
  clear hw0' hw0 hf0 hga hgo hga0
  have hol0 := hat_lt hop0
  go_wp2_with fail
  refine (make_any HP0.out HV0.out HL.out (kind := 2) (made := made) (by simp) hma).mono ?_; rintro e w1 ⟨own', av, rfl, ha, hmv⟩
  have hgan : nrm w own ga = none := nrm_ge HGE.out.2.1
  have hg1 := (hmv.2.1.block ga (hat_lt HG0.out) hgan).trans HG0.out
  have HG1 := Lib.hid hg1
  have HGN := Lib.hid ((hmv.2.2 ga (hat_lt HG0.out)).trans hgan)
  have HMV := Lib.hid (hmv.from HF0.out)
  have HAN := Lib.hid ha
  obtain ⟨dv, ev, od1, oe1, rfl, hd1, he1, -⟩ := ha
  obtain ⟨d1, d2, rfl⟩ := hd1.slice
  obtain ⟨e1, e2, rfl⟩ := he1.slice
  unfold ansV at HAN ⊢
  generalize hx : (S.make l 2 made).2 = x at *
  have HX := Lib.hid hx
  clear hx
  obtain ⟨xc, ⟨x1, x2, x3, x4, x5, x6⟩, xd, xe⟩ := x
  simp only at HAN ⊢
  unfold ans0 at hg1
  have hgl1 := hat_lt hg1
  have hone : oneAll #[.int .i64 xc, .int .i64 x1, .int .i64 x2, .int .i64 x3, .int .i64 x4, .int .i64 x5, .int .i64 x6, .slice d1 xd.length d2, .slice e1 xe.length e2, .bool false] = true := by simp [oneAll, Value.oneCell']
  clear hmv hol0 hop0 hd1 he1
  go_wp2_with fail
  refine ret_c row37 rfl (cs := #[.int .i64 xc, .int .i64 x1, .int .i64 x2, .int .i64 x3, .int .i64 x4, .int .i64 x5, .int .i64 x6, .slice d1 xd.length d2, .slice e1 xe.length e2, .bool false]) rfl (hat_setRow_at _ _ _ _ _ _ HG1.out) rfl rfl ?_
  exact ⟨own', _, rfl, by show AnsAt _ _ _ _ (S.make l 2 made).2; rw [HX.out]; exact HAN.out.fr' (fr_setRow w1 ga _) (by simp; exact hat_lt HG0.out) HF0.out.size, HMV.out.then (fr_setRow w1 ga _) (by simp; exact ⟨HGN.out, HGE.out.2.1⟩)⟩
set_option maxHeartbeats 8000000 in
set_option maxRecDepth 100000 in
theorem does_ask7 {w : World} {gp bn c : Nat} {S : PS} {A : Int → NA} {own : Nat → Option (Int × Nat)} (h : PW w gp bn c S A own) {o : OpV} (hk : o.kind = 7) (hma : 0 ≤ o.made ∧ o.made ≤ 1099511627776) {dv : Value} (ho : OpAt w own o dv) {fv tv : Value} {l : List ByteArray} {B : Nat} (hv : Strs w B fv l) (hl : ∀ s ∈ l, 0 < s.size ∧ s.size ≤ 40) :
    Calls Tryd.prog 27 #[.pointer (some ⟨gp, 0, none⟩), .agg (opV o dv), fv, tv] w fun e w' => ∃ own' av, e = .returned av ∧ AnsAt w' w.heap.size own' av (S.asked o l).2 ∧ Mvd w w' gp bn own (S.asked o l).1 own' := by
  have H := Lib.hid h.nrm
  have HO := Lib.hid ho
  have HV := Lib.hid hv
  have HL := Lib.hid hl
  obtain ⟨od, hdr, hdn⟩ := ho.d
  obtain ⟨da, dc, rfl⟩ := hdr.slice
  obtain ⟨kind, path, dest, off, len, data, made, pick⟩ := o
  simp only at hk hma
  subst hk
  clear ho hdr hdn h hv hl
  unfold opV
  simp only at HO ⊢
  obtain ⟨w0, hw0⟩ : ∃ x, x = (w.alloc (.cells #[.int .i64 7, .string path, .string dest, .int .i64 off, .int .i64 len, .slice da data.length dc, .int .i64 made, .int .i64 pick] 40)).alloc (.cells ans0 37) := ⟨_, rfl⟩
  obtain ⟨go, hgo⟩ : ∃ x, x = w.heap.size := ⟨_, rfl⟩
  obtain ⟨ga, hga⟩ : ∃ x, x = go + 1 := ⟨_, rfl⟩
  have hf0 : Fr [] w w0 := by rw [hw0]; exact (fr_new _ _ _).trans (fr_new _ _ _)
  have hop0 : hat w0 go = some (.cells #[.int .i64 7, .string path, .string dest, .int .i64 off, .int .i64 len, .slice da data.length dc, .int .i64 made, .int .i64 pick] 40) := by rw [hw0, hgo]; exact (hopA _ _ (hopN w _).1).1
  have hga0 : hat w0 ga = some (.cells ans0 37) := by
    have e := (hopN (w.alloc (.cells #[.int .i64 7, .string path, .string dest, .int .i64 off, .int .i64 len, .slice da data.length dc, .int .i64 made, .int .i64 pick] 40)) (.cells ans0 37)).1
    rw [show (w.alloc (.cells #[.int .i64 7, .string path, .string dest, .int .i64 off, .int .i64 len, .slice da data.length dc, .int .i64 made, .int .i64 pick] 40)).heap.size = ga by rw [hga, hgo]; simp] at e
    rw [hw0]; exact e
  have HG0 := Lib.hid hga0
  have HF0 := Lib.hid hf0
  have HP0 := Lib.hid (H.out.fr hf0 (by simp))
  have HGE := Lib.hid (show w.heap.size ≤ go ∧ w.heap.size ≤ ga ∧ go < ga from by omega)
  have HO0 := Lib.hid (HO.out.fr (own' := nrm w own) hf0 (by simp) (fun b hb => nrm_lt hb))
  have HV0 := Lib.hid (HV.out.fr' hf0)
  go_enter Tryd.func27, Tryd.ntmps27
  go_upto_region 1 with fail
  have hw0' : w0 = (w.alloc (.cells #[.int .i64 7, .string path, .string dest, .int .i64 off, .int .i64 len, .slice da data.length dc, .int .i64 made, .int .i64 pick] 40)).alloc (.cells #[.int .i64 0, .int .i64 0, .int .i64 0, .int .i64 0, .int .i64 0, .int .i64 0, .int .i64 0, .slice none 0 0, .slice none 0 0, .bool false] 37) := hw0
  rw [← hgo, ← hga]
  rw [← hw0']
  clear hw0' hw0 hf0 hga hgo hga0
  have hol0 := hat_lt hop0
  have hnn : nrm w (nrm w own) = nrm w own := by funext b; unfold nrm; split <;> rfl
  go_wp2_with fail
  refine (walk_any HP0.out.t HP0.out.f HV0.out (fun s hs => (HL.out s hs).2)).mono ?_; rintro e w1 ⟨rfl, rfl⟩
  have HWC := Lib.hid (walk_code S l 1)
  have HWT := Lib.hid (fun h => walk_there HP0.out.f l 1 (root_there HP0.out.f) h)
  have HAK : Hid (S.asked ⟨7, path, dest, off, len, data, made, pick⟩ l = if (S.walk l 1).2 ≠ 0 then (S, .err (S.walk l 1).2) else S.ask ⟨7, path, dest, off, len, data, made, pick⟩ (S.walk l 1).1) := Lib.hid rfl
  generalize S.walk l 1 = r at *
  obtain ⟨i, e⟩ := r
  simp only at HWC HWT HAK ⊢
  by_cases he : e = 0
  · subst he
    have hi := HWT.out rfl
    have HAE := Lib.hid (show S.asked ⟨7, path, dest, off, len, data, made, pick⟩ l = S.ask ⟨7, path, dest, off, len, data, made, pick⟩ i by rw [HAK.out, if_neg (by simp)])
    go_wp2_with fail
    refine (asks7 HP0.out hi (o := ⟨7, path, dest, off, len, data, made, pick⟩) rfl HO0.out).mono ?_; rintro e w2 ⟨own', av, rfl, ha, hmv⟩
    have hgan : nrm w own ga = none := nrm_ge HGE.out.2.1
    have hg1 := (hmv.2.1.block ga (hat_lt HG0.out) hgan).trans HG0.out
    have HG1 := Lib.hid hg1
    have HGN := Lib.hid ((hmv.2.2 ga (hat_lt HG0.out)).trans hgan)
    have HMV := Lib.hid (hmv.from HF0.out)
    have HAN := Lib.hid ha
    obtain ⟨dv, ev, od1, oe1, rfl, hd1, he1, -⟩ := ha
    obtain ⟨d1, d2, rfl⟩ := hd1.slice
    obtain ⟨e1, e2, rfl⟩ := he1.slice
    unfold ansV at HAN ⊢
    generalize hx : (S.ask ⟨7, path, dest, off, len, data, made, pick⟩ i).2 = x at *
    have HX := Lib.hid hx
    clear hx
    obtain ⟨xc, ⟨x1, x2, x3, x4, x5, x6⟩, xd, xe⟩ := x
    simp only at HAN ⊢
    unfold ans0 at hg1
    have hgl1 := hat_lt hg1
    have hone : oneAll #[.int .i64 xc, .int .i64 x1, .int .i64 x2, .int .i64 x3, .int .i64 x4, .int .i64 x5, .int .i64 x6, .slice d1 xd.length d2, .slice e1 xe.length e2, .bool false] = true := by simp [oneAll, Value.oneCell']
    clear hmv hol0 hop0 hd1 he1
    go_wp2_with fail
    refine ret_c row37 rfl (cs := #[.int .i64 xc, .int .i64 x1, .int .i64 x2, .int .i64 x3, .int .i64 x4, .int .i64 x5, .int .i64 x6, .slice d1 xd.length d2, .slice e1 xe.length e2, .bool false]) rfl (hat_setRow_at _ _ _ _ _ _ HG1.out) rfl rfl ?_
    exact ⟨own', _, rfl, by rw [HAE.out, HX.out]; exact HAN.out.fr' (fr_setRow w2 ga _) (by simp; exact hat_lt HG0.out) HF0.out.size, by rw [HAE.out]; exact HMV.out.then (fr_setRow w2 ga _) (by simp; exact ⟨HGN.out, HGE.out.2.1⟩)⟩
  · have HAE := Lib.hid (show S.asked ⟨7, path, dest, off, len, data, made, pick⟩ l = (S, .err e) by rw [HAK.out, if_pos (by simpa using he)])
    have hga := HG0.out
    unfold ans0 at hga
    have hgal := hat_lt hga
    go_wp2_with fail
    refine ret_c row37 rfl (cs := #[.int .i64 e, .int .i64 0, .int .i64 0, .int .i64 0, .int .i64 0, .int .i64 0, .int .i64 0, .slice none 0 0, .slice none 0 0, .bool false]) rfl (hat_setRow_at _ _ _ _ _ _ HG0.out) rfl rfl ?_
    exact ⟨nrm w own, _, rfl, by rw [HAE.out]; exact ans_err _ _ _ _, by rw [HAE.out]; exact Mvd.then ⟨⟨c, A, HP0.out⟩, (HF0.out).un (by simp), fun b hb => nrm_lt hb⟩ (fr_setRow _ ga _) (by simp; exact ⟨nrm_ge HGE.out.2.1, HGE.out.2.1⟩)⟩
set_option maxHeartbeats 8000000 in
set_option maxRecDepth 100000 in
theorem does_ask9 {w : World} {gp bn c : Nat} {S : PS} {A : Int → NA} {own : Nat → Option (Int × Nat)} (h : PW w gp bn c S A own) {o : OpV} (hk : o.kind = 9) (hma : 0 ≤ o.made ∧ o.made ≤ 1099511627776) {dv : Value} (ho : OpAt w own o dv) {fv tv : Value} {l : List ByteArray} {B : Nat} (hv : Strs w B fv l) (hl : ∀ s ∈ l, 0 < s.size ∧ s.size ≤ 40) :
    Calls Tryd.prog 27 #[.pointer (some ⟨gp, 0, none⟩), .agg (opV o dv), fv, tv] w fun e w' => ∃ own' av, e = .returned av ∧ AnsAt w' w.heap.size own' av (S.asked o l).2 ∧ Mvd w w' gp bn own (S.asked o l).1 own' := by
  have H := Lib.hid h.nrm
  have HO := Lib.hid ho
  have HV := Lib.hid hv
  have HL := Lib.hid hl
  obtain ⟨od, hdr, hdn⟩ := ho.d
  obtain ⟨da, dc, rfl⟩ := hdr.slice
  obtain ⟨kind, path, dest, off, len, data, made, pick⟩ := o
  simp only at hk hma
  subst hk
  clear ho hdr hdn h hv hl
  unfold opV
  simp only at HO ⊢
  obtain ⟨w0, hw0⟩ : ∃ x, x = (w.alloc (.cells #[.int .i64 9, .string path, .string dest, .int .i64 off, .int .i64 len, .slice da data.length dc, .int .i64 made, .int .i64 pick] 40)).alloc (.cells ans0 37) := ⟨_, rfl⟩
  obtain ⟨go, hgo⟩ : ∃ x, x = w.heap.size := ⟨_, rfl⟩
  obtain ⟨ga, hga⟩ : ∃ x, x = go + 1 := ⟨_, rfl⟩
  have hf0 : Fr [] w w0 := by rw [hw0]; exact (fr_new _ _ _).trans (fr_new _ _ _)
  have hop0 : hat w0 go = some (.cells #[.int .i64 9, .string path, .string dest, .int .i64 off, .int .i64 len, .slice da data.length dc, .int .i64 made, .int .i64 pick] 40) := by rw [hw0, hgo]; exact (hopA _ _ (hopN w _).1).1
  have hga0 : hat w0 ga = some (.cells ans0 37) := by
    have e := (hopN (w.alloc (.cells #[.int .i64 9, .string path, .string dest, .int .i64 off, .int .i64 len, .slice da data.length dc, .int .i64 made, .int .i64 pick] 40)) (.cells ans0 37)).1
    rw [show (w.alloc (.cells #[.int .i64 9, .string path, .string dest, .int .i64 off, .int .i64 len, .slice da data.length dc, .int .i64 made, .int .i64 pick] 40)).heap.size = ga by rw [hga, hgo]; simp] at e
    rw [hw0]; exact e
  have HG0 := Lib.hid hga0
  have HF0 := Lib.hid hf0
  have HP0 := Lib.hid (H.out.fr hf0 (by simp))
  have HGE := Lib.hid (show w.heap.size ≤ go ∧ w.heap.size ≤ ga ∧ go < ga from by omega)
  have HO0 := Lib.hid (HO.out.fr (own' := nrm w own) hf0 (by simp) (fun b hb => nrm_lt hb))
  have HV0 := Lib.hid (HV.out.fr' hf0)
  go_enter Tryd.func27, Tryd.ntmps27
  go_upto_region 1 with fail
  have hw0' : w0 = (w.alloc (.cells #[.int .i64 9, .string path, .string dest, .int .i64 off, .int .i64 len, .slice da data.length dc, .int .i64 made, .int .i64 pick] 40)).alloc (.cells #[.int .i64 0, .int .i64 0, .int .i64 0, .int .i64 0, .int .i64 0, .int .i64 0, .int .i64 0, .slice none 0 0, .slice none 0 0, .bool false] 37) := hw0
  rw [← hgo, ← hga]
  rw [← hw0']
  clear hw0' hw0 hf0 hga hgo hga0
  have hol0 := hat_lt hop0
  have hnn : nrm w (nrm w own) = nrm w own := by funext b; unfold nrm; split <;> rfl
  go_wp2_with fail
  refine (walk_any HP0.out.t HP0.out.f HV0.out (fun s hs => (HL.out s hs).2)).mono ?_; rintro e w1 ⟨rfl, rfl⟩
  have HWC := Lib.hid (walk_code S l 1)
  have HWT := Lib.hid (fun h => walk_there HP0.out.f l 1 (root_there HP0.out.f) h)
  have HAK : Hid (S.asked ⟨9, path, dest, off, len, data, made, pick⟩ l = if (S.walk l 1).2 ≠ 0 then (S, .err (S.walk l 1).2) else S.ask ⟨9, path, dest, off, len, data, made, pick⟩ (S.walk l 1).1) := Lib.hid rfl
  generalize S.walk l 1 = r at *
  obtain ⟨i, e⟩ := r
  simp only at HWC HWT HAK ⊢
  by_cases he : e = 0
  · subst he
    have hi := HWT.out rfl
    have HAE := Lib.hid (show S.asked ⟨9, path, dest, off, len, data, made, pick⟩ l = S.ask ⟨9, path, dest, off, len, data, made, pick⟩ i by rw [HAK.out, if_neg (by simp)])
    go_wp2_with fail
    refine (asks9 HP0.out hi (o := ⟨9, path, dest, off, len, data, made, pick⟩) rfl HO0.out).mono ?_; rintro e w2 ⟨own', av, rfl, ha, hmv⟩
    have hgan : nrm w own ga = none := nrm_ge HGE.out.2.1
    have hg1 := (hmv.2.1.block ga (hat_lt HG0.out) hgan).trans HG0.out
    have HG1 := Lib.hid hg1
    have HGN := Lib.hid ((hmv.2.2 ga (hat_lt HG0.out)).trans hgan)
    have HMV := Lib.hid (hmv.from HF0.out)
    have HAN := Lib.hid ha
    obtain ⟨dv, ev, od1, oe1, rfl, hd1, he1, -⟩ := ha
    obtain ⟨d1, d2, rfl⟩ := hd1.slice
    obtain ⟨e1, e2, rfl⟩ := he1.slice
    unfold ansV at HAN ⊢
    generalize hx : (S.ask ⟨9, path, dest, off, len, data, made, pick⟩ i).2 = x at *
    have HX := Lib.hid hx
    clear hx
    obtain ⟨xc, ⟨x1, x2, x3, x4, x5, x6⟩, xd, xe⟩ := x
    simp only at HAN ⊢
    unfold ans0 at hg1
    have hgl1 := hat_lt hg1
    have hone : oneAll #[.int .i64 xc, .int .i64 x1, .int .i64 x2, .int .i64 x3, .int .i64 x4, .int .i64 x5, .int .i64 x6, .slice d1 xd.length d2, .slice e1 xe.length e2, .bool false] = true := by simp [oneAll, Value.oneCell']
    clear hmv hol0 hop0 hd1 he1
    go_wp2_with fail
    refine ret_c row37 rfl (cs := #[.int .i64 xc, .int .i64 x1, .int .i64 x2, .int .i64 x3, .int .i64 x4, .int .i64 x5, .int .i64 x6, .slice d1 xd.length d2, .slice e1 xe.length e2, .bool false]) rfl (hat_setRow_at _ _ _ _ _ _ HG1.out) rfl rfl ?_
    exact ⟨own', _, rfl, by rw [HAE.out, HX.out]; exact HAN.out.fr' (fr_setRow w2 ga _) (by simp; exact hat_lt HG0.out) HF0.out.size, by rw [HAE.out]; exact HMV.out.then (fr_setRow w2 ga _) (by simp; exact ⟨HGN.out, HGE.out.2.1⟩)⟩
  · have HAE := Lib.hid (show S.asked ⟨9, path, dest, off, len, data, made, pick⟩ l = (S, .err e) by rw [HAK.out, if_pos (by simpa using he)])
    have hga := HG0.out
    unfold ans0 at hga
    have hgal := hat_lt hga
    go_wp2_with fail
    refine ret_c row37 rfl (cs := #[.int .i64 e, .int .i64 0, .int .i64 0, .int .i64 0, .int .i64 0, .int .i64 0, .int .i64 0, .slice none 0 0, .slice none 0 0, .bool false]) rfl (hat_setRow_at _ _ _ _ _ _ HG0.out) rfl rfl ?_
    exact ⟨nrm w own, _, rfl, by rw [HAE.out]; exact ans_err _ _ _ _, by rw [HAE.out]; exact Mvd.then ⟨⟨c, A, HP0.out⟩, (HF0.out).un (by simp), fun b hb => nrm_lt hb⟩ (fr_setRow _ ga _) (by simp; exact ⟨nrm_ge HGE.out.2.1, HGE.out.2.1⟩)⟩
set_option maxHeartbeats 8000000 in
set_option maxRecDepth 100000 in
theorem does_ask10 {w : World} {gp bn c : Nat} {S : PS} {A : Int → NA} {own : Nat → Option (Int × Nat)} (h : PW w gp bn c S A own) {o : OpV} (hk : o.kind = 10) (hma : 0 ≤ o.made ∧ o.made ≤ 1099511627776) {dv : Value} (ho : OpAt w own o dv) {fv tv : Value} {l : List ByteArray} {B : Nat} (hv : Strs w B fv l) (hl : ∀ s ∈ l, 0 < s.size ∧ s.size ≤ 40) :
    Calls Tryd.prog 27 #[.pointer (some ⟨gp, 0, none⟩), .agg (opV o dv), fv, tv] w fun e w' => ∃ own' av, e = .returned av ∧ AnsAt w' w.heap.size own' av (S.asked o l).2 ∧ Mvd w w' gp bn own (S.asked o l).1 own' := by
  have H := Lib.hid h.nrm
  have HO := Lib.hid ho
  have HV := Lib.hid hv
  have HL := Lib.hid hl
  obtain ⟨od, hdr, hdn⟩ := ho.d
  obtain ⟨da, dc, rfl⟩ := hdr.slice
  obtain ⟨kind, path, dest, off, len, data, made, pick⟩ := o
  simp only at hk hma
  subst hk
  clear ho hdr hdn h hv hl
  unfold opV
  simp only at HO ⊢
  obtain ⟨w0, hw0⟩ : ∃ x, x = (w.alloc (.cells #[.int .i64 10, .string path, .string dest, .int .i64 off, .int .i64 len, .slice da data.length dc, .int .i64 made, .int .i64 pick] 40)).alloc (.cells ans0 37) := ⟨_, rfl⟩
  obtain ⟨go, hgo⟩ : ∃ x, x = w.heap.size := ⟨_, rfl⟩
  obtain ⟨ga, hga⟩ : ∃ x, x = go + 1 := ⟨_, rfl⟩
  have hf0 : Fr [] w w0 := by rw [hw0]; exact (fr_new _ _ _).trans (fr_new _ _ _)
  have hop0 : hat w0 go = some (.cells #[.int .i64 10, .string path, .string dest, .int .i64 off, .int .i64 len, .slice da data.length dc, .int .i64 made, .int .i64 pick] 40) := by rw [hw0, hgo]; exact (hopA _ _ (hopN w _).1).1
  have hga0 : hat w0 ga = some (.cells ans0 37) := by
    have e := (hopN (w.alloc (.cells #[.int .i64 10, .string path, .string dest, .int .i64 off, .int .i64 len, .slice da data.length dc, .int .i64 made, .int .i64 pick] 40)) (.cells ans0 37)).1
    rw [show (w.alloc (.cells #[.int .i64 10, .string path, .string dest, .int .i64 off, .int .i64 len, .slice da data.length dc, .int .i64 made, .int .i64 pick] 40)).heap.size = ga by rw [hga, hgo]; simp] at e
    rw [hw0]; exact e
  have HG0 := Lib.hid hga0
  have HF0 := Lib.hid hf0
  have HP0 := Lib.hid (H.out.fr hf0 (by simp))
  have HGE := Lib.hid (show w.heap.size ≤ go ∧ w.heap.size ≤ ga ∧ go < ga from by omega)
  have HO0 := Lib.hid (HO.out.fr (own' := nrm w own) hf0 (by simp) (fun b hb => nrm_lt hb))
  have HV0 := Lib.hid (HV.out.fr' hf0)
  go_enter Tryd.func27, Tryd.ntmps27
  go_upto_region 1 with fail
  have hw0' : w0 = (w.alloc (.cells #[.int .i64 10, .string path, .string dest, .int .i64 off, .int .i64 len, .slice da data.length dc, .int .i64 made, .int .i64 pick] 40)).alloc (.cells #[.int .i64 0, .int .i64 0, .int .i64 0, .int .i64 0, .int .i64 0, .int .i64 0, .int .i64 0, .slice none 0 0, .slice none 0 0, .bool false] 37) := hw0
  rw [← hgo, ← hga]
  rw [← hw0']
  clear hw0' hw0 hf0 hga hgo hga0
  have hol0 := hat_lt hop0
  have hnn : nrm w (nrm w own) = nrm w own := by funext b; unfold nrm; split <;> rfl
  go_wp2_with fail
  refine (walk_any HP0.out.t HP0.out.f HV0.out (fun s hs => (HL.out s hs).2)).mono ?_; rintro e w1 ⟨rfl, rfl⟩
  have HWC := Lib.hid (walk_code S l 1)
  have HWT := Lib.hid (fun h => walk_there HP0.out.f l 1 (root_there HP0.out.f) h)
  have HAK : Hid (S.asked ⟨10, path, dest, off, len, data, made, pick⟩ l = if (S.walk l 1).2 ≠ 0 then (S, .err (S.walk l 1).2) else S.ask ⟨10, path, dest, off, len, data, made, pick⟩ (S.walk l 1).1) := Lib.hid rfl
  generalize S.walk l 1 = r at *
  obtain ⟨i, e⟩ := r
  simp only at HWC HWT HAK ⊢
  by_cases he : e = 0
  · subst he
    have hi := HWT.out rfl
    have HAE := Lib.hid (show S.asked ⟨10, path, dest, off, len, data, made, pick⟩ l = S.ask ⟨10, path, dest, off, len, data, made, pick⟩ i by rw [HAK.out, if_neg (by simp)])
    go_wp2_with fail
    refine (asks10 HP0.out hi (o := ⟨10, path, dest, off, len, data, made, pick⟩) rfl HO0.out).mono ?_; rintro e w2 ⟨own', av, rfl, ha, hmv⟩
    have hgan : nrm w own ga = none := nrm_ge HGE.out.2.1
    have hg1 := (hmv.2.1.block ga (hat_lt HG0.out) hgan).trans HG0.out
    have HG1 := Lib.hid hg1
    have HGN := Lib.hid ((hmv.2.2 ga (hat_lt HG0.out)).trans hgan)
    have HMV := Lib.hid (hmv.from HF0.out)
    have HAN := Lib.hid ha
    obtain ⟨dv, ev, od1, oe1, rfl, hd1, he1, -⟩ := ha
    obtain ⟨d1, d2, rfl⟩ := hd1.slice
    obtain ⟨e1, e2, rfl⟩ := he1.slice
    unfold ansV at HAN ⊢
    generalize hx : (S.ask ⟨10, path, dest, off, len, data, made, pick⟩ i).2 = x at *
    have HX := Lib.hid hx
    clear hx
    obtain ⟨xc, ⟨x1, x2, x3, x4, x5, x6⟩, xd, xe⟩ := x
    simp only at HAN ⊢
    unfold ans0 at hg1
    have hgl1 := hat_lt hg1
    have hone : oneAll #[.int .i64 xc, .int .i64 x1, .int .i64 x2, .int .i64 x3, .int .i64 x4, .int .i64 x5, .int .i64 x6, .slice d1 xd.length d2, .slice e1 xe.length e2, .bool false] = true := by simp [oneAll, Value.oneCell']
    clear hmv hol0 hop0 hd1 he1
    go_wp2_with fail
    refine ret_c row37 rfl (cs := #[.int .i64 xc, .int .i64 x1, .int .i64 x2, .int .i64 x3, .int .i64 x4, .int .i64 x5, .int .i64 x6, .slice d1 xd.length d2, .slice e1 xe.length e2, .bool false]) rfl (hat_setRow_at _ _ _ _ _ _ HG1.out) rfl rfl ?_
    exact ⟨own', _, rfl, by rw [HAE.out, HX.out]; exact HAN.out.fr' (fr_setRow w2 ga _) (by simp; exact hat_lt HG0.out) HF0.out.size, by rw [HAE.out]; exact HMV.out.then (fr_setRow w2 ga _) (by simp; exact ⟨HGN.out, HGE.out.2.1⟩)⟩
  · have HAE := Lib.hid (show S.asked ⟨10, path, dest, off, len, data, made, pick⟩ l = (S, .err e) by rw [HAK.out, if_pos (by simpa using he)])
    have hga := HG0.out
    unfold ans0 at hga
    have hgal := hat_lt hga
    go_wp2_with fail
    refine ret_c row37 rfl (cs := #[.int .i64 e, .int .i64 0, .int .i64 0, .int .i64 0, .int .i64 0, .int .i64 0, .int .i64 0, .slice none 0 0, .slice none 0 0, .bool false]) rfl (hat_setRow_at _ _ _ _ _ _ HG0.out) rfl rfl ?_
    exact ⟨nrm w own, _, rfl, by rw [HAE.out]; exact ans_err _ _ _ _, by rw [HAE.out]; exact Mvd.then ⟨⟨c, A, HP0.out⟩, (HF0.out).un (by simp), fun b hb => nrm_lt hb⟩ (fr_setRow _ ga _) (by simp; exact ⟨nrm_ge HGE.out.2.1, HGE.out.2.1⟩)⟩
end Go.Proofs.YteffoihkljkfdaaDoor
