/- Contracts and laws that the claim leans on, laid together in the order in which they build. -/
import Derived.Test.YteffoihkljkfdaaDoorM03
import Derived.Test.YteffoihkljkfdaaDoorM05
import Derived.Test.YteffoihkljkfdaaDoorM06

/- Do: the walk. -/
namespace Go.Proofs.YteffoihkljkfdaaDoor
set_option linter.unusedSimpArgs false
set_option linter.unusedVariables false
open Go.RowKit

/-- a refusal tells its code alone -/
def PS.told1 (r : PS × Ans) : PS × Ans := if r.2.code ≠ 0 then (r.1, .err r.2.code) else r
/-- an operation of one path -/
def PS.do1 (S : PS) (o : OpV) (F : List ByteArray → PS × Ans) : PS × Ans :=
  if mayZ o = false then (S, .err 150) else if (spl o.path).2 ≠ 0 then (S, .err (spl o.path).2) else PS.told1 (F (spl o.path).1)
theorem spl_names (p : ByteArray) : ∀ s ∈ (spl p).1, 0 < s.size ∧ s.size ≤ 40 := by
  intro s hs
  unfold spl at hs
  split at hs
  · cases hs
  · split at hs
    · cases hs
    · split at hs
      · cases hs
      · split at hs
        · rename_i h
          have := h s hs
          have h1 := this.1
          have h2 := this.2.1
          rw [len_data] at h1 h2
          omega
        · cases hs
set_option maxHeartbeats 8000000 in
set_option maxRecDepth 100000 in
theorem do_with {w : World} {gp bn c : Nat} {S : PS} {A : Int → NA} {own : Nat → Option (Int × Nat)} (h : PW w gp bn c S A own) {o : OpV} (h3 : o.kind ≠ 3) (h6 : o.kind ≠ 6) (h12 : o.kind ≠ 12) (h14 : o.kind ≠ 14) {dv : Value} (ho : OpAt w own o dv) {m : Int} (hm : w.cell? ⟨0, 0, none⟩ = some (.int .i64 m)) (F : List ByteArray → PS × Ans)
    (HF : ∀ (w1 : World) (fv : Value) (l : List ByteArray), mayZ o = true → PW w1 gp bn c S A (nrm w own) → OpAt w1 (nrm w own) o dv → Strs w1 0 fv l → (∀ s ∈ l, 0 < s.size ∧ s.size ≤ 40) →
      Calls Tryd.prog 27 #[.pointer (some ⟨gp, 0, none⟩), .agg (opV o dv), fv, .slice none 0 0] w1 fun e w' => ∃ own' av, e = .returned av ∧ AnsAt w' w1.heap.size own' av (F l).2 ∧ Mvd w1 w' gp bn (nrm w own) (F l).1 own') :
    Calls Tryd.prog 12 #[.pointer (some ⟨gp, 0, none⟩), .agg (opV o dv)] w fun e w' => ∃ own' av, e = .returned av ∧ AnsAt w' w.heap.size own' av (S.do1 o F).2 ∧ Mvd w w' gp bn own (S.do1 o F).1 own' := by
  have H := Lib.hid h.nrm
  have HO := Lib.hid ho
  have HFF := Lib.hid HF
  obtain ⟨od, hdr, hdn⟩ := ho.d
  obtain ⟨da, dc, rfl⟩ := hdr.slice
  have HR : Hid (S.do1 o F = if mayZ o = false then (S, .err 150) else if (spl o.path).2 ≠ 0 then (S, .err (spl o.path).2) else PS.told1 (F (spl o.path).1)) := Lib.hid rfl
  have HSP : Hid (∀ s ∈ (spl o.path).1, 0 < s.size ∧ s.size ≤ 40) := Lib.hid (spl_names o.path)
  generalize hR : S.do1 o F = R at *
  clear hR
  have HFN := Lib.hid (fun (w : World) => @fine_any w o da dc ho.l)
  generalize hM : mayZ o = M at *
  clear hM ho hdr hdn h HF
  obtain ⟨kind, path, dest, off, len, data, made, pick⟩ := o
  simp only at h3 h6 h12 h14 HR HSP
  have hb3 : (kind == 3) = false := by simpa using h3
  have hb6 : (kind == 6) = false := by simpa using h6
  have hb12 : (kind != 12) = true := by simpa using h12
  have hb14 : (kind != 14) = true := by simpa using h14
  clear h3 h6 h12 h14
  unfold opV at HFN HFF ⊢
  simp only at HFN HFF ⊢
  obtain ⟨w0, hw0⟩ : ∃ x, x = (w.alloc (.cells #[.int .i64 kind, .string path, .string dest, .int .i64 off, .int .i64 len, .slice da data.length dc, .int .i64 made, .int .i64 pick] 40)).alloc (.cells ans0 37) := ⟨_, rfl⟩
  obtain ⟨go, hgo⟩ : ∃ x, x = w.heap.size := ⟨_, rfl⟩
  obtain ⟨ga, hga⟩ : ∃ x, x = go + 1 := ⟨_, rfl⟩
  have hf0 : Fr [] w w0 := by rw [hw0]; exact (fr_new _ _ _).trans (fr_new _ _ _)
  have hop0 : hat w0 go = some (.cells #[.int .i64 kind, .string path, .string dest, .int .i64 off, .int .i64 len, .slice da data.length dc, .int .i64 made, .int .i64 pick] 40) := by rw [hw0, hgo]; exact (hopA _ _ (hopN w _).1).1
  have hga0 : hat w0 ga = some (.cells ans0 37) := by
    have e := (hopN (w.alloc (.cells #[.int .i64 kind, .string path, .string dest, .int .i64 off, .int .i64 len, .slice da data.length dc, .int .i64 made, .int .i64 pick] 40)) (.cells ans0 37)).1
    rw [show (w.alloc (.cells #[.int .i64 kind, .string path, .string dest, .int .i64 off, .int .i64 len, .slice da data.length dc, .int .i64 made, .int .i64 pick] 40)).heap.size = ga by rw [hga, hgo]; simp] at e
    rw [hw0]; exact e
  have HG0 := Lib.hid hga0
  have HF0 := Lib.hid hf0
  have HGE := Lib.hid (show w.heap.size ≤ go ∧ w.heap.size ≤ ga ∧ go < ga from by omega)
  have HM := Lib.hid hm
  have HOP := Lib.hid hop0
  clear hm
  go_enter Tryd.func12, Tryd.ntmps12
  go_upto_region 1 with fail
  have hw0' : w0 = (w.alloc (.cells #[.int .i64 kind, .string path, .string dest, .int .i64 off, .int .i64 len, .slice da data.length dc, .int .i64 made, .int .i64 pick] 40)).alloc (.cells #[.int .i64 0, .int .i64 0, .int .i64 0, .int .i64 0, .int .i64 0, .int .i64 0, .int .i64 0, .slice none 0 0, .slice none 0 0, .bool false] 37) := hw0
  rw [← hgo, ← hga]
  rw [← hw0']
  clear hw0' hw0 hf0 hga hgo hga0
  have hol0 := hat_lt hop0
  go_wp2_with fail
  refine (HFN.out w0).mono ?_; rintro e w1 ⟨rfl, hb1⟩
  have HF1 := Lib.hid (HF0.out.trans (fr_below hb1 []))
  have HG1 := Lib.hid (hop hb1 HG0.out).1
  have hop1 := (hop hb1 hop0).1
  have hol1 := hat_lt hop1
  clear hb1 hop0 hol0 HG0 HF0
  cases M with
  | false =>
    have HQ := Lib.hid (show R = (S, .err 150) by rw [HR.out, if_pos rfl])
    have hga := HG1.out
    unfold ans0 at hga
    have hgal := hat_lt hga
    go_wp2_with fail
    refine ret_c row37 rfl (cs := #[.int .i64 150, .int .i64 0, .int .i64 0, .int .i64 0, .int .i64 0, .int .i64 0, .int .i64 0, .slice none 0 0, .slice none 0 0, .bool false]) rfl (hat_setRow_at _ _ _ _ _ _ HG1.out) rfl rfl ?_
    exact ⟨nrm w own, _, rfl, by rw [HQ.out]; exact ans_err _ _ _ _, by rw [HQ.out]; exact Mvd.then ⟨⟨c, A, H.out.fr HF1.out (by simp)⟩, (HF1.out).un (by simp), fun b hb => nrm_lt hb⟩ (fr_setRow _ ga _) (by simp; exact ⟨nrm_ge HGE.out.2.1, HGE.out.2.1⟩)⟩
  | true =>
    have hm1 : w1.cell? ⟨0, 0, none⟩ = some (.int .i64 m) := by
      have h1 := HM.out
      rw [cell?_of_hat] at h1 ⊢
      have hlt : 0 < w.heap.size := by
        rcases Nat.lt_or_ge 0 w.heap.size with h | h
        · exact h
        · have : hat w 0 = none := Array.getElem?_eq_none h
          rw [this] at h1; cases h1
      rw [HF1.out.block 0 hlt (by simp)]
      exact h1
    have HSPL := Lib.hid (split_any path m w1 hm1)
    clear hm1
    go_wp2_with fail
    refine HSPL.out.mono ?_; rintro e w2 ⟨v, rfl, hst, hb2⟩
    have HF2 := Lib.hid (HF1.out.trans (fr_below hb2 []))
    have HG2 := Lib.hid (hop hb2 HG1.out).1
    have hop2 := (hop hb2 hop1).1
    have hol2 := hat_lt hop2
    have HST := Lib.hid (hst.le (Nat.zero_le _))
    clear hb2 hop1 hol1 HG1 HF1 hst HSPL
    generalize spl path = sp at *
    obtain ⟨l, e⟩ := sp
    simp only at HR HSP HST ⊢
    by_cases he : e = 0
    · subst he
      have HQ := Lib.hid (show R = PS.told1 (F l) by rw [HR.out, if_neg (by simp), if_neg (by simp)])
      go_wp2_with fail
      refine (HFF.out w2 v l (by trivial) (H.out.fr HF2.out (by simp)) (HO.out.fr HF2.out (by simp) (fun b hb => nrm_lt hb)) HST.out HSP.out).mono ?_; rintro e w3 ⟨own', av, rfl, ha, hmv⟩
      have hgan : nrm w own ga = none := nrm_ge HGE.out.2.1
      have HG3 := Lib.hid ((hmv.2.1.block ga (hat_lt HG2.out) hgan).trans HG2.out)
      have HGN := Lib.hid ((hmv.2.2 ga (hat_lt HG2.out)).trans hgan)
      have HGL := Lib.hid (hat_lt HG2.out)
      have HMV := Lib.hid (hmv.from HF2.out)
      have HAN := Lib.hid ha
      obtain ⟨dv, ev, od1, oe1, rfl, hd1, he1, -⟩ := ha
      obtain ⟨d1, d2, rfl⟩ := hd1.slice
      obtain ⟨e1, e2, rfl⟩ := he1.slice
      unfold ansV at HAN ⊢
      generalize hx : F l = r at *
      obtain ⟨rS, ⟨xc, ⟨x1, x2, x3, x4, x5, x6⟩, xd, xe⟩⟩ := r
      simp only at HAN HMV ⊢
      have hone : oneAll #[.int .i64 xc, .int .i64 x1, .int .i64 x2, .int .i64 x3, .int .i64 x4, .int .i64 x5, .int .i64 x6, .slice d1 xd.length d2, .slice e1 xe.length e2, .bool false] = true := by simp [oneAll, Value.oneCell']
      clear hmv hop2 hol2 hd1 he1 hx
      go_upto_region 14 with fail
      obtain ⟨w4, hw4⟩ : ∃ x, x = w3.alloc (.cells #[.int .i64 xc, .int .i64 x1, .int .i64 x2, .int .i64 x3, .int .i64 x4, .int .i64 x5, .int .i64 x6, .slice d1 xd.length d2, .slice e1 xe.length e2, .bool false] 37) := ⟨_, rfl⟩
      obtain ⟨gb, hgb⟩ : ∃ x, x = w3.heap.size := ⟨_, rfl⟩
      have hf4 : Fr [] w3 w4 := by rw [hw4]; exact fr_new _ _ _
      have hgb4 : hat w4 gb = some (.cells #[.int .i64 xc, .int .i64 x1, .int .i64 x2, .int .i64 x3, .int .i64 x4, .int .i64 x5, .int .i64 x6, .slice d1 xd.length d2, .slice e1 xe.length e2, .bool false] 37) := by rw [hw4, hgb]; exact (hopN w3 _).1
      have hg4 := (hf4.block _ (hat_lt HG3.out) (by simp)).trans HG3.out
      have HG4 := Lib.hid hg4
      have HF4 := Lib.hid (show Fr [ga] w3 (w4) from hf4.mono (by simp))
      rw [← hw4, ← hgb]
      clear hw4 hgb hf4
      unfold ans0 at hg4
      have hgl4 := hat_lt hg4
      have hgbl := hat_lt hgb4
      by_cases hxc : xc = 0
      · subst hxc
        have HQ2 := Lib.hid (show R = (rS, ⟨0, ⟨x1, x2, x3, x4, x5, x6⟩, xd, xe⟩) by rw [HQ.out]; unfold PS.told1; rw [if_neg (by simp)])
        go_wp2_with fail
        refine ret_c row37 rfl (cs := #[.int .i64 0, .int .i64 x1, .int .i64 x2, .int .i64 x3, .int .i64 x4, .int .i64 x5, .int .i64 x6, .slice d1 xd.length d2, .slice e1 xe.length e2, .bool false]) rfl (hat_setRow_at _ _ _ _ _ _ HG4.out) rfl rfl ?_
        exact ⟨own', _, rfl, by rw [HQ2.out]; exact HAN.out.fr' (HF4.out.trans (fr_setRow w4 ga _)) (by simp; exact HGL.out) HF2.out.size, by rw [HQ2.out]; exact HMV.out.then (HF4.out.trans (fr_setRow w4 ga _)) (by simp; exact ⟨HGN.out, HGE.out.2.1⟩)⟩
      · have HQ2 := Lib.hid (show R = (rS, .err xc) by rw [HQ.out]; unfold PS.told1; rw [if_pos (by simpa using hxc)])
        go_wp2_with fail
        refine ret_c row37 rfl (cs := #[.int .i64 xc, .int .i64 0, .int .i64 0, .int .i64 0, .int .i64 0, .int .i64 0, .int .i64 0, .slice none 0 0, .slice none 0 0, .bool false]) rfl (hat_setRow_at _ _ _ _ _ _ HG4.out) rfl rfl ?_
        exact ⟨own', _, rfl, by rw [HQ2.out]; exact ans_err _ _ _ _, by rw [HQ2.out]; exact HMV.out.then (HF4.out.trans (fr_setRow w4 ga _)) (by simp; exact ⟨HGN.out, HGE.out.2.1⟩)⟩
    · have HQ := Lib.hid (show R = (S, .err e) by rw [HR.out, if_neg (by simp), if_pos (by simpa using he)])
      have hga := HG2.out
      unfold ans0 at hga
      have hgal := hat_lt hga
      go_wp2_with fail
      refine ret_c row37 rfl (cs := #[.int .i64 e, .int .i64 0, .int .i64 0, .int .i64 0, .int .i64 0, .int .i64 0, .int .i64 0, .slice none 0 0, .slice none 0 0, .bool false]) rfl (hat_setRow_at _ _ _ _ _ _ HG2.out) rfl rfl ?_
      exact ⟨nrm w own, _, rfl, by rw [HQ.out]; exact ans_err _ _ _ _, by rw [HQ.out]; exact Mvd.then ⟨⟨c, A, H.out.fr HF2.out (by simp)⟩, (HF2.out).un (by simp), fun b hb => nrm_lt hb⟩ (fr_setRow _ ga _) (by simp; exact ⟨nrm_ge HGE.out.2.1, HGE.out.2.1⟩)⟩
end Go.Proofs.YteffoihkljkfdaaDoor

/- rename keeps what holds: plain. -/
namespace Go.Proofs.YteffoihkljkfdaaDoor
set_option linter.unusedSimpArgs false
set_option linter.unusedVariables false
open Go.RowKit

/-- a name laid in t, another one taken away from d -/
def PS.moved (S : PS) (d : Int) (old : ByteArray) (t k : Int) (name : ByteArray) (i : Int) : PS := (S.put t (some ((S.nd t).set k name i))).cleared d old
noncomputable def PS.move (S : PS) (d : Int) (old : ByteArray) (t : Int) (name : ByteArray) (i : Int) : Option Int → PS × Int
  | some j =>
    if (S.nd i).kind = 2 then (S, 111) else if (S.nd j).kind = 2 then (S, 111) else if i = j then (S, 0) else if (S.nd i).links = 100 then (S, 142)
    else ((S.moved d old t (Lib.idxOfS (S.nd t).slots name) name i).less j, 0)
  | none =>
    if (S.nd i).kind = 2 ∧ S.under t i = true then (S, 141) else if (S.nd i).kind ≠ 2 ∧ (S.nd i).links = 100 then (S, 142)
    else if (S.place (S.nd t)).2 ≠ 0 then (S, (S.place (S.nd t)).2) else (S.moved d old t (S.place (S.nd t)).1 name i, 0)
theorem move_some (S : PS) (d : Int) (old : ByteArray) (t : Int) (name : ByteArray) (i j : Int) : S.move d old t name i (some j) = if (S.nd i).kind = 2 then (S, 111) else if (S.nd j).kind = 2 then (S, 111) else if i = j then (S, 0) else if (S.nd i).links = 100 then (S, 142)
    else ((S.moved d old t (Lib.idxOfS (S.nd t).slots name) name i).less j, 0) := rfl
theorem move_none (S : PS) (d : Int) (old : ByteArray) (t : Int) (name : ByteArray) (i : Int) : S.move d old t name i none = if (S.nd i).kind = 2 ∧ S.under t i = true then (S, 141) else if (S.nd i).kind ≠ 2 ∧ (S.nd i).links = 100 then (S, 142)
    else if (S.place (S.nd t)).2 ≠ 0 then (S, (S.place (S.nd t)).2) else (S.moved d old t (S.place (S.nd t)).1 name i, 0) := rfl
noncomputable def PS.rename (S : PS) (fr to_ : List ByteArray) : PS × Int :=
  if (S.last fr).e ≠ 0 then (S, (S.last fr).e)
  else if (S.last to_).e ≠ 0 then (S, (S.last to_).e)
  else match (S.nd (S.last fr).d).names (S.last fr).name with
  | none => (S, 110)
  | some i =>
    if (S.last fr).d = (S.last to_).d ∧ (S.last fr).name = (S.last to_).name then (S, 0)
    else S.move (S.last fr).d (S.last fr).name (S.last to_).d (S.last to_).name i ((S.nd (S.last to_).d).names (S.last to_).name)
theorem Und.trans_edge {S : PS} {a b i : Int} {s : ByteArray} (h : Und S a i) (hn : (S.nd a).names s = some b) (hk : (S.nd b).kind = 2) : Und S b i := by
  induction h with
  | here => exact .deep hn hk .here
  | deep h1 h2 _ ih => exact .deep h1 h2 ih
/-- a name more: still no ring -/
theorem lay_tree {S : PS} (h : Tree S) {t i k : Int} {name : ByteArray} (ht : (S.nodes t).isSome = true) (hi : (S.nd i).kind = 2 → ¬ Und S t i) : Tree (S.put t (some ((S.nd t).set k name i))) := by
  obtain ⟨r, hr⟩ := h
  have htn := PS.nd_get ht
  have hkind : ∀ x, ((S.put t (some ((S.nd t).set k name i))).nd x).kind = (S.nd x).kind := fun x => by
    by_cases hx : x = t
    · subst hx; rw [nd_put_same, (set_links _ _ _ _).2]
    · rw [nd_put_other _ _ hx]
  refine ⟨fun x => if @decide (Und S x i) (Classical.propDecidable _) = true ∧ (S.nd i).kind = 2 then r x + r t + 1 else r x, fun d n s j h1 h2 h3 => ?_⟩
  rw [hkind] at h3
  show (if _ then _ else _) < (if _ then _ else _)
  have hold : ∀ n0, S.nodes d = some n0 → n0.names s = some j → (if @decide (Und S d i) (Classical.propDecidable _) = true ∧ (S.nd i).kind = 2 then r d + r t + 1 else r d) < (if @decide (Und S j i) (Classical.propDecidable _) = true ∧ (S.nd i).kind = 2 then r j + r t + 1 else r j) := fun n0 e1 e2 => by
    have hlt := hr d n0 s j e1 e2 h3
    by_cases hk : (S.nd i).kind = 2
    · by_cases hd : Und S d i
      · have hj : Und S j i := hd.trans_edge (s := s) (by rw [PS.nd_some e1]; exact e2) h3
        rw [if_pos ⟨@decide_eq_true _ (Classical.propDecidable _) hd, hk⟩, if_pos ⟨@decide_eq_true _ (Classical.propDecidable _) hj, hk⟩]
        omega
      · rw [if_neg (fun e => hd (@of_decide_eq_true _ (Classical.propDecidable _) e.1))]
        split <;> omega
    · rw [if_neg (fun e => hk e.2), if_neg (fun e => hk e.2)]
      exact hlt
  by_cases hd : d = t
  · subst hd
    rw [PS.put_same] at h1; cases h1
    rw [set_names] at h2
    by_cases hs : s = name
    · rw [if_pos hs] at h2; cases h2
      have hnu := hi h3
      rw [if_neg (fun e => hnu (@of_decide_eq_true _ (Classical.propDecidable _) e.1)), if_pos ⟨@decide_eq_true _ (Classical.propDecidable _) .here, h3⟩]
      omega
    · rw [if_neg hs] at h2
      exact hold _ htn h2
  · rw [PS.put_other _ _ hd] at h1
    exact hold n h1 h2
/-- what holds of a place where a name is laid -/
def PlaceAt (n : Nd) (k : Int) : Prop := (k = n.slots.length ∧ n.slots.length < 1068 ∧ emp ∉ n.slots) ∨ ∃ j : Nat, k = j ∧ j < n.slots.length ∧ n.slots = n.slots.take j ++ emp :: n.slots.drop (j + 1)
theorem frsh_wf {S : PS} (hO : POk S) (hW : PWf S) {t i k : Int} {name : ByteArray} (ht : (S.nodes t).isSome = true) (htk : (S.nd t).kind = 2) (hi : (S.nodes i).isSome = true) (hp : PlaceAt (S.nd t) k) (hn : 0 < name.size ∧ name.size ≤ 40) (hf : (S.nd t).names name = none) :
    (POk (S.put t (some ((S.nd t).set k name i))) ∧ PWf (S.put t (some ((S.nd t).set k name i)))) ∧ ∀ x, (S.put t (some ((S.nd t).set k name i))).namedN x = S.namedN x + (if x = i then 1 else 0) := by
  have htn := PS.nd_get ht
  have hkt := hO.k t ht
  have hii := hO.i
  have hset := set_wf (S := S) (S' := S) (d := S.nd t) (i := i) (name := name) (k := k) (hW.n t _ htn) (hO.n t _ htn) htk hp hn hf hi (fun j hj => hj)
  refine ⟨put_wf hO hW ht (fun e => by rw [(set_links _ _ _ _).2]; exact e) hset, fun x => ?_⟩
  rw [namedN_put (by omega), namesOf_set (hW.n t _ htn) hp hn.1 hf]
  omega
theorem nd_ext {a b : Nd} (h1 : a.kind = b.kind) (h2 : a.links = b.links) (h3 : a.size = b.size) (h4 : a.made = b.made) (h5 : a.data = b.data) (h6 : a.slots = b.slots) (h7 : a.names = b.names) : a = b := by
  cases a; cases b
  simp only at h1 h2 h3 h4 h5 h6 h7
  subst h1 h2 h3 h4 h5 h6 h7
  rfl
/-- laid over: as if it had been taken away first -/
theorem over_eq {n : Nd} {name : ByteArray} (hm : name ∈ n.slots) (i : Int) : n.set (Lib.idxOfS n.slots name) name i = (n.clr name).set (Lib.idxOfS n.slots name) name i ∧ PlaceAt (n.clr name) (Lib.idxOfS n.slots name) ∧ Lib.idxOfS n.slots name ≠ n.slots.length ∧ ∃ j : Nat, Lib.idxOfS n.slots name = j ∧ j < n.slots.length := by
  obtain ⟨k, h1, h2, h3, -⟩ := idx_at hm
  have hs : (n.clr name).slots = n.slots.set k emp := by show n.slots.set (Lib.idxOfS n.slots name).toNat emp = _; rw [h1]; rfl
  have hl : (n.clr name).slots.length = n.slots.length := by rw [hs, List.length_set]
  refine ⟨?_, .inr ⟨k, h1, by rw [hl]; exact h2, ?_⟩, by omega, k, h1, h2⟩
  · rw [h1]
    unfold Nd.set
    rw [if_neg (by omega), if_neg (by rw [hl]; omega)]
    refine nd_ext rfl rfl rfl rfl rfl ?_ ?_
    · show n.slots.set (k : Int).toNat name = (n.clr name).slots.set (k : Int).toNat name
      rw [hs]; simp
    · funext s
      show (if s = name then some i else n.names s) = if s = name then some i else (if s = name then none else n.names s)
      split <;> rfl
  · rw [hs, List.set_eq_take_append_cons_drop, if_pos h2]
    have e1 : (n.slots.take k).length = k := by rw [List.length_take]; omega
    rw [List.take_left' e1, show k + 1 = (n.slots.take k ++ [emp]).length by simp [e1], show n.slots.take k ++ emp :: n.slots.drop ((n.slots.take k ++ [emp]).length) = (n.slots.take k ++ [emp]) ++ n.slots.drop ((n.slots.take k ++ [emp]).length) by simp, List.drop_left]
    simp
theorem over_wf {S : PS} (hO : POk S) (hW : PWf S) {t i j : Int} {name : ByteArray} (ht : (S.nodes t).isSome = true) (htk : (S.nd t).kind = 2) (hi : (S.nodes i).isSome = true) (hn : 0 < name.size ∧ name.size ≤ 40) (hf : (S.nd t).names name = some j) :
    (POk (S.put t (some ((S.nd t).set (Lib.idxOfS (S.nd t).slots name) name i))) ∧ PWf (S.put t (some ((S.nd t).set (Lib.idxOfS (S.nd t).slots name) name i)))) ∧ ∀ x, (S.put t (some ((S.nd t).set (Lib.idxOfS (S.nd t).slots name) name i))).namedN x = S.namedN x + (if x = i then 1 else 0) - (if x = j then 1 else 0) := by
  have htn := PS.nd_get ht
  have hkt := hO.k t ht
  have hii := hO.i
  have hwt := hW.n t _ htn
  obtain ⟨e, hp, -, -⟩ := over_eq (hwt.nm name j hf).1 i
  obtain ⟨c1, c2⟩ := clr_wf (S' := S) hwt (hO.n t _ htn) htk hf (fun s j hs _ => (hwt.nm s j hs).2.2.2)
  have hfc : ((S.nd t).clr name).names name = none := if_pos rfl
  have hset := set_wf (S := S) (S' := S) (d := (S.nd t).clr name) (i := i) (name := name) c1 c2 htk hp hn hfc hi (fun j hj => hj)
  have hno := namesOf_set (S := S) c1 hp hn.1 hfc i
  rw [← e] at hset hno
  refine ⟨put_wf hO hW ht (fun e => by rw [(set_links _ _ _ _).2]; exact e) hset, fun x => ?_⟩
  rw [namedN_put (by omega), hno, namesOf_clr hwt hf]
  omega
/-- one entry less, of one that has an entry less -/
theorem less_lw {T S : PS} (hO : POk T) (hW : PWf T) (hL : LW S) {j : Int} (hc : ∀ x, T.namedN x = S.namedN x - (if x = j then 1 else 0)) (hT : ∀ x n, T.nodes x = some n → ∃ n0, S.nodes x = some n0 ∧ n.links = n0.links ∧ n.kind = n0.kind)
    (hj : (T.nodes j).isSome = true) (hj1 : j ≠ 1) (he : Empt (T.nd j)) : POk (T.less j) ∧ PWf (T.less j) ∧ LW (T.less j) := by
  have hjn := PS.nd_get hj
  obtain ⟨n0, e1, e2, e3⟩ := hT j _ hjn
  have hil := hL.l j n0 e1 hj1
  have hkj := hO.k j hj
  have hii := hO.i
  have hlk := (hW.n j _ hjn).lk
  unfold PS.less
  by_cases hdel : (T.nd j).links - 1 = 0 ∨ (T.nd j).kind = 2
  · rw [if_pos hdel]
    have hl1 : (T.nd j).links = 1 := by
      rcases hdel with h | h
      · omega
      · rw [e2]; exact hL.d j n0 e1 (by rw [← e3]; exact h)
    have h0 : T.namedN j = 0 := by rw [hc, if_pos rfl, hil, ← e2, hl1]; rfl
    obtain ⟨dO, dW⟩ := del_wf hO hW hj hj1 h0
    have hdn2 : ∀ x, (T.put j none).namedN x = S.namedN x - (if x = j then 1 else 0) := fun x => by
      rw [namedN_del (by omega), empt_of he, hc]; omega
    refine ⟨dO, dW, ⟨fun x n hx hx1 => ?_, ?_, fun x n hx hk2 => ?_⟩⟩
    · have hxj : x ≠ j := fun e => by rw [e, PS.put_same] at hx; cases hx
      rw [PS.put_other _ _ hxj] at hx
      obtain ⟨m, a1, a2, -⟩ := hT x n hx
      rw [hdn2, if_neg hxj, a2, hL.l x m a1 hx1]; omega
    · rw [hdn2, hL.r, if_neg (Ne.symm hj1)]; rfl
    · have hxj : x ≠ j := fun e => by rw [e, PS.put_same] at hx; cases hx
      rw [PS.put_other _ _ hxj] at hx
      obtain ⟨m, a1, a2, a3⟩ := hT x n hx
      rw [a2]; exact hL.d x m a1 (by rw [← a3]; exact hk2)
  · rw [if_neg hdel]
    have hk1 : (T.nd j).kind = 1 := by
      rcases (hW.n j _ hjn).kd with h | h
      · exact h
      · exact absurd (.inr h) hdel
    have hw : NWf T { T.nd j with links := (T.nd j).links - 1 } ∧ NOk { T.nd j with links := (T.nd j).links - 1 } := by
      have h := hW.n j _ hjn
      have h2 := hO.n j _ hjn
      exact ⟨⟨h.kd, ⟨by show 1 ≤ (T.nd j).links - 1; omega, by show (T.nd j).links - 1 ≤ 100; omega⟩, h.sz, h.md, h.fl, h.dr, h.nm, h.sn, h.nd, h.db⟩, ⟨h2.dk, h2.dl, h2.sl⟩⟩
    obtain ⟨pO, pW⟩ := put_wf hO hW (i := j) hj (fun h => by rw [hk1] at h; cases h) hw
    have hdn2 : ∀ x, (T.put j (some { T.nd j with links := (T.nd j).links - 1 })).namedN x = S.namedN x - (if x = j then 1 else 0) := fun x => by
      rw [namedN_put (by omega), namesOf_same (n := T.nd j) (n' := { T.nd j with links := (T.nd j).links - 1 }) rfl rfl, hc]; omega
    refine ⟨pO, pW, ⟨fun x n hx hx1 => ?_, ?_, fun x n hx hk2 => ?_⟩⟩
    · by_cases hxj : x = j
      · subst hxj
        rw [PS.put_same] at hx; cases hx
        rw [hdn2, if_pos rfl, hil, ← e2]
      · rw [PS.put_other _ _ hxj] at hx
        obtain ⟨m, a1, a2, -⟩ := hT x n hx
        rw [hdn2, if_neg hxj, a2, hL.l x m a1 hx1]; omega
    · rw [hdn2, hL.r, if_neg (Ne.symm hj1)]; rfl
    · by_cases hxj : x = j
      · subst hxj
        rw [PS.put_same] at hx; cases hx
        have h2 : (T.nd x).kind = 2 := hk2
        rw [hk1] at h2; cases h2
      · rw [PS.put_other _ _ hxj] at hx
        obtain ⟨m, a1, a2, a3⟩ := hT x n hx
        rw [a2]; exact hL.d x m a1 (by rw [← a3]; exact hk2)
/-- the second step: the elder name is taken away -/
theorem moved_step {S : PS} {d t k i : Int} {old name : ByteArray} (hd : (S.nodes d).isSome = true) (hdk : (S.nd d).kind = 2) (hold : (S.nd d).names old = some i) (hne : d = t → old ≠ name)
    (h1 : POk (S.put t (some ((S.nd t).set k name i))) ∧ PWf (S.put t (some ((S.nd t).set k name i)))) (ht : (S.nodes t).isSome = true) :
    (((S.put t (some ((S.nd t).set k name i))).nodes d).isSome = true ∧ ((S.put t (some ((S.nd t).set k name i))).nd d).kind = 2 ∧ ((S.put t (some ((S.nd t).set k name i))).nd d).names old = some i) ∧
    (POk (S.moved d old t k name i) ∧ PWf (S.moved d old t k name i)) ∧ (∀ x, (S.moved d old t k name i).namedN x = (S.put t (some ((S.nd t).set k name i))).namedN x - (if x = i then 1 else 0)) ∧
    (∀ x n, (S.moved d old t k name i).nodes x = some n → ∃ n0, S.nodes x = some n0 ∧ n.links = n0.links ∧ n.kind = n0.kind) ∧
    (∀ x, x ≠ t → x ≠ d → (S.moved d old t k name i).nodes x = S.nodes x) ∧ (Tree (S.put t (some ((S.nd t).set k name i))) → Tree (S.moved d old t k name i)) := by
  have a1 : ((S.put t (some ((S.nd t).set k name i))).nodes d).isSome = true := by
    by_cases e : d = t
    · subst e; rw [PS.put_same]; rfl
    · rw [PS.put_other _ _ e]; exact hd
  have a2 : ((S.put t (some ((S.nd t).set k name i))).nd d).kind = 2 := by
    by_cases e : d = t
    · subst e; rw [nd_put_same, (set_links _ _ _ _).2]; exact hdk
    · rw [nd_put_other _ _ e]; exact hdk
  have a3 : ((S.put t (some ((S.nd t).set k name i))).nd d).names old = some i := by
    by_cases e : d = t
    · have h := hne e
      subst e; rw [nd_put_same, set_names, if_neg h]; exact hold
    · rw [nd_put_other _ _ e]; exact hold
  have hdn := PS.nd_get a1
  have hT1 : ∀ x n, (S.put t (some ((S.nd t).set k name i))).nodes x = some n → ∃ n0, S.nodes x = some n0 ∧ n.links = n0.links ∧ n.kind = n0.kind := fun x n hx => by
    by_cases e : x = t
    · subst e
      rw [PS.put_same] at hx; cases hx
      exact ⟨_, PS.nd_get ht, (set_links _ _ _ _).1, (set_links _ _ _ _).2⟩
    · rw [PS.put_other _ _ e] at hx
      exact ⟨n, hx, rfl, rfl⟩
  refine ⟨⟨a1, a2, a3⟩, cleared_wf h1.1 h1.2 a1 a2 a3, cleared_named h1.1 h1.2 a1 a3, fun x n hx => ?_, fun x hxt hxd => ?_, fun htr => ?_⟩
  · unfold PS.moved PS.cleared at hx
    by_cases e : x = d
    · subst e
      rw [PS.put_same] at hx; cases hx
      obtain ⟨n0, b1, b2, b3⟩ := hT1 x _ hdn
      exact ⟨n0, b1, b2, b3⟩
    · rw [PS.put_other _ _ e] at hx
      exact hT1 x n hx
  · unfold PS.moved PS.cleared
    rw [PS.put_other _ _ hxd, PS.put_other _ _ hxt]
  · exact put_tree htr hdn rfl (fun s j hs => by
      have hs' : (if s = old then none else ((S.put t (some ((S.nd t).set k name i))).nd d).names s) = some j := hs
      split at hs'
      · cases hs'
      · exact hs')
theorem move_good {S : PS} (h : Good S) {d t i : Int} {old name : ByteArray} (hd : (S.nodes d).isSome = true) (hdk : (S.nd d).kind = 2) (hold : (S.nd d).names old = some i) (hne : d = t → old ≠ name) (ht : (S.nodes t).isSome = true) (htk : (S.nd t).kind = 2) (hn : 0 < name.size ∧ name.size ≤ 40) :
    Good (S.move d old t name i ((S.nd t).names name)).1 := by
  have hi := ((h.f.n d _ (PS.nd_get hd)).nm old i hold).2.2.2
  cases hq : (S.nd t).names name with
  | some j =>
    have hjt := ((h.f.n t _ (PS.nd_get ht)).nm name j hq).2.2.2
    rw [move_some]
    split
    · exact h
    · rename_i h1
      split
      · exact h
      · rename_i h2
        split
        · exact h
        · rename_i h3
          split
          · exact h
          · rename_i h4
            obtain ⟨w1, w2⟩ := over_wf h.o h.f ht htk hi hn hq
            obtain ⟨-, b1, b2, b3, b4, b5⟩ := moved_step hd hdk hold hne w1 ht
            have hjt2 : j ≠ t := fun e => h2 (by rw [e]; exact htk)
            have hjd2 : j ≠ d := fun e => h2 (by rw [e]; exact hdk)
            have hj1 : j ≠ 1 := fun e => by
              have := named_none h.o h.f h.l.r (PS.nd_get ht) name
              rw [e] at hq
              exact this hq
            have hjn := b4 j hjt2 hjd2
            have hjnd : (S.moved d old t (Lib.idxOfS (S.nd t).slots name) name i).nd j = S.nd j := congrArg (fun o => Option.getD o Nd.nil) hjn
            obtain ⟨c1, c2, c3⟩ := less_lw (S := S) (j := j) b1.1 b1.2 h.l (fun x => by rw [b2, w2]; omega) b3 (by rw [hjn]; exact hjt) hj1 (by rw [hjnd]; exact file_empt h.f hjt h2)
            exact ⟨c1, c2, c3, less_tree (b5 (lay_tree h.t ht (fun e => absurd e h1))) (by rw [hjn]; exact hjt)⟩
  | none =>
    rw [move_none]
    split
    · exact h
    · rename_i h1
      split
      · exact h
      · split
        · exact h
        · rename_i h3 h4
          obtain ⟨w1, w2⟩ := frsh_wf h.o h.f ht htk hi (place_ok (S := S) (h.o.n t _ (PS.nd_get ht)).sl (by omega)) hn hq
          obtain ⟨-, b1, b2, b3, b4, b5⟩ := moved_step hd hdk hold hne w1 ht
          refine ⟨b1.1, b1.2, ⟨fun x n hx hx1 => ?_, ?_, fun x n hx hk2 => ?_⟩, b5 (lay_tree h.t ht (fun e hu => h1 ⟨e, under_yes hu⟩))⟩
          · obtain ⟨m, a1, a2, -⟩ := b3 x n hx
            have hb := b2 x
            have hw := w2 x
            have hl := h.l.l x m a1 hx1
            show (S.moved d old t (S.place (S.nd t)).1 name i).namedN x = n.links
            omega
          · have hb := b2 1
            have hw := w2 1
            have hl := h.l.r
            show (S.moved d old t (S.place (S.nd t)).1 name i).namedN 1 = 0
            omega
          · obtain ⟨m, a1, a2, a3⟩ := b3 x n hx
            rw [a2]; exact h.l.d x m a1 (by rw [← a3]; exact hk2)
theorem rename_good {S : PS} (h : Good S) {fr to_ : List ByteArray} (hl : ∀ s ∈ to_, 0 < s.size ∧ s.size ≤ 40) : Good (S.rename fr to_).1 := by
  unfold PS.rename
  split
  · exact h
  · split
    · exact h
    · rename_i h1 h2
      obtain ⟨a1, a2, -⟩ := last_ok (S := S) h.f (l := fr) (by omega)
      obtain ⟨b1, b2, b3⟩ := last_ok (S := S) h.f (l := to_) (by omega)
      cases hq : (S.nd (S.last fr).d).names (S.last fr).name with
      | none => exact h
      | some i =>
        show Good (if _ then _ else _ : PS × Int).1
        split
        · exact h
        · rename_i h3
          exact move_good h a1 a2 hq (fun e e2 => h3 ⟨e, e2⟩) b1 b2 (hl _ b3)
end Go.Proofs.YteffoihkljkfdaaDoor

/- What Do comes to: plain. -/
namespace Go.Proofs.YteffoihkljkfdaaDoor
set_option linter.unusedSimpArgs false
set_option linter.unusedVariables false
open Go.RowKit

/-- what an operation of these names does -/
noncomputable def PS.does (S : PS) (o : OpV) (l l2 : List ByteArray) : PS × Ans :=
  if o.kind = 1 then S.make l 1 o.made
  else if o.kind = 2 then S.make l 2 o.made
  else if o.kind = 3 then ((S.link l l2).1, .err (S.link l l2).2)
  else if o.kind = 4 then ((S.unlink l).1, .err (S.unlink l).2)
  else if o.kind = 5 then ((S.rmdir l).1, .err (S.rmdir l).2)
  else if o.kind = 6 then ((S.rename l l2).1, .err (S.rename l l2).2)
  else if o.kind = 12 ∨ o.kind = 14 then (S, .err 0)
  else S.asked o l
/-- the names that an operation speaks of, or what stops it -/
def OpV.names (o : OpV) : List ByteArray × List ByteArray × Int :=
  if o.kind = 12 ∨ o.kind = 14 then ([], [], 0)
  else if (spl o.path).2 ≠ 0 then ([], [], (spl o.path).2)
  else if o.kind = 3 ∨ o.kind = 6 then (if (spl o.dest).2 ≠ 0 then ([], [], (spl o.dest).2) else ((spl o.path).1, (spl o.dest).1, 0))
  else ((spl o.path).1, [], 0)
noncomputable def PS.doo (S : PS) (o : OpV) : PS × Ans :=
  if mayZ o = false then (S, .err 150)
  else if o.names.2.2 ≠ 0 then (S, .err o.names.2.2)
  else PS.told1 (S.does o o.names.1 o.names.2.1)
theorem names_ok (o : OpV) : (∀ s ∈ o.names.1, 0 < s.size ∧ s.size ≤ 40) ∧ ∀ s ∈ o.names.2.1, 0 < s.size ∧ s.size ≤ 40 := by
  have nil : ∀ s ∈ ([] : List ByteArray), 0 < s.size ∧ s.size ≤ 40 := fun s h => (nomatch h)
  unfold OpV.names
  split
  · exact ⟨nil, nil⟩
  · split
    · exact ⟨nil, nil⟩
    · split
      · split
        · exact ⟨nil, nil⟩
        · exact ⟨spl_names _, spl_names _⟩
      · exact ⟨spl_names _, nil⟩
theorem told1_good {r : PS × Ans} (h : Good r.1) : Good (PS.told1 r).1 := by
  unfold PS.told1
  split <;> exact h
theorem told1_fst (r : PS × Ans) : (PS.told1 r).1 = r.1 := by
  unfold PS.told1
  split <;> rfl
theorem told1_code (r : PS × Ans) : (PS.told1 r).2.code = r.2.code := by
  unfold PS.told1
  split <;> rfl
theorem make_tree {S : PS} (h : Good S) {l : List ByteArray} {kind made : Int} : Tree (S.make l kind made).1 := by
  unfold PS.make
  split
  · exact h.t
  · rename_i h1
    split
    · exact h.t
    · rename_i h2
      split
      · exact h.t
      · rename_i h3
        split
        · exact h.t
        · rename_i h4
          have h1 : (S.last l).e = 0 := by omega
          obtain ⟨a1, a2, a3⟩ := last_ok h.f h1
          obtain ⟨b1, b2, b3⟩ := freeI_ok h3
          have hdn := PS.nd_get a1
          generalize hD : (S.last l).d = d at *
          generalize hI : S.freeI = i at *
          have hdi : d ≠ i := fun e => by rw [e, b3] at a1; cases a1
          obtain ⟨r, hr⟩ := h.t
          have hT : ∀ j, (((S.put i (some (freshN kind made))).put d (some ((S.nd d).set (S.place (S.nd d)).1 (S.last l).name i))).nodes j) = if j = d then some ((S.nd d).set (S.place (S.nd d)).1 (S.last l).name i) else if j = i then some (freshN kind made) else S.nodes j := fun j => rfl
          have old : ∀ e n s j, S.nodes e = some n → n.names s = some j → ((((S.put i (some (freshN kind made))).put d (some ((S.nd d).set (S.place (S.nd d)).1 (S.last l).name i))).nd j).kind = 2) → j ≠ i ∧ r e < r j := fun e n s j q1 q2 q3 => by
            have hj := ((h.f.n e n q1).nm s j q2).2.2.2
            have hji : j ≠ i := fun e => by rw [e, b3] at hj; cases hj
            refine ⟨hji, hr e n s j q1 q2 ?_⟩
            by_cases hjd : j = d
            · subst hjd; exact a2
            · have e2 : ((S.put i (some (freshN kind made))).put d (some ((S.nd d).set (S.place (S.nd d)).1 (S.last l).name i))).nd j = S.nd j := by
                rw [nd_put_other _ _ hjd, nd_put_other _ _ hji]
              rw [e2] at q3
              exact q3
          refine ⟨fun x => if x = i then r d + 1 else r x, fun e n s j q1 q2 q3 => ?_⟩
          rw [hT] at q1
          show (if e = i then r d + 1 else r e) < (if j = i then r d + 1 else r j)
          by_cases hed : e = d
          · rw [if_pos hed] at q1
            cases q1
            rw [set_names] at q2
            by_cases hs : s = (S.last l).name
            · rw [if_pos hs] at q2
              cases q2
              rw [if_neg (by rw [hed]; exact hdi), if_pos rfl, hed]
              omega
            · rw [if_neg hs] at q2
              obtain ⟨k1, k2⟩ := old d _ s j hdn q2 q3
              rw [if_neg (by rw [hed]; exact hdi), if_neg k1, hed]
              exact k2
          · rw [if_neg hed] at q1
            by_cases hei : e = i
            · rw [if_pos hei] at q1
              cases q1
              cases q2
            · rw [if_neg hei] at q1
              obtain ⟨k1, k2⟩ := old e n s j q1 q2 q3
              rw [if_neg hei, if_neg k1]
              exact k2
theorem make_good {S : PS} (h : Good S) {l : List ByteArray} (hl : ∀ s ∈ l, 0 < s.size ∧ s.size ≤ 40) {kind made : Int} (hk : kind = 1 ∨ kind = 2) (hm : 0 ≤ made ∧ made ≤ 1099511627776) : Good (S.make l kind made).1 := by
  have hw := make_wf h.o h.f hl hk hm
  refine ⟨hw.1, hw.2, make_lw h.o h.f h.l hl, ?_⟩
  exact make_tree h
theorem ask_good {S : PS} (h : Good S) {o : OpV} (hd : ∀ b ∈ o.data, 0 ≤ b ∧ b < 256) {i : Int} (hi : (S.nodes i).isSome = true) : Good (S.ask o i).1 := by
  unfold PS.ask
  split
  · exact h
  · split
    · split <;> exact h
    · split
      · exact h
      · rename_i h2
        have hk : (S.nd i).kind = 1 := (kind_cases h.f hi).resolve_right h2
        split
        · exact write_good h hi hk hd
        · split
          · unfold PS.truncate
            split
            · exact h
            · rename_i h3
              exact trunc_good h hi hk (by omega)
          · split <;> exact h
theorem asked_good {S : PS} (h : Good S) {o : OpV} (hd : ∀ b ∈ o.data, 0 ≤ b ∧ b < 256) (l : List ByteArray) : Good (S.asked o l).1 := by
  unfold PS.asked
  split
  · exact h
  · rename_i h1
    exact ask_good h hd (walk_there h.f l 1 (root_there h.f) (by omega))
theorem does_good {S : PS} (h : Good S) {o : OpV} (hm : 0 ≤ o.made ∧ o.made ≤ 1099511627776) (hd : ∀ b ∈ o.data, 0 ≤ b ∧ b < 256) {l l2 : List ByteArray} (hl : ∀ s ∈ l, 0 < s.size ∧ s.size ≤ 40) (hl2 : ∀ s ∈ l2, 0 < s.size ∧ s.size ≤ 40) : Good (S.does o l l2).1 := by
  unfold PS.does
  split
  · exact make_good h hl (.inl rfl) hm
  · split
    · exact make_good h hl (.inr rfl) hm
    · split
      · exact link_good h hl2
      · split
        · exact unlink_good h l
        · split
          · exact rmdir_good h l
          · split
            · exact rename_good h hl2
            · split
              · exact h
              · exact asked_good h hd l
/-- all that holds of a state stays, whatever is done -/
theorem doo_good {S : PS} (h : Good S) {o : OpV} (hd : ∀ b ∈ o.data, 0 ≤ b ∧ b < 256) : Good (S.doo o).1 := by
  unfold PS.doo
  split
  · exact h
  · rename_i hm
    split
    · exact h
    · refine told1_good (does_good h ?_ hd (names_ok o).1 (names_ok o).2)
      by_cases hin : 1 ≤ o.kind ∧ o.kind ≤ 14 ∧ 0 ≤ o.made ∧ o.made ≤ 1099511627776
      · exact ⟨hin.2.2.1, hin.2.2.2⟩
      · rw [may_out hin] at hm; exact absurd rfl hm
/-- what is refused changes nothing -/
theorem make_same {S : PS} {l : List ByteArray} {kind made : Int} (h : (S.make l kind made).2.code ≠ 0) : (S.make l kind made).1 = S := by
  unfold PS.make at h ⊢
  repeat (split at h <;> rename_i hc <;> (first | (rw [if_pos hc]; done) | rw [if_neg hc]))
  exact absurd rfl h
theorem link_same {S : PS} {l l2 : List ByteArray} (h : (S.link l l2).2 ≠ 0) : (S.link l l2).1 = S := by
  unfold PS.link at h ⊢
  repeat (split at h <;> rename_i hc <;> (first | (rw [if_pos hc]; done) | rw [if_neg hc]))
  exact absurd rfl h
theorem unlink_same {S : PS} {l : List ByteArray} (h : (S.unlink l).2 ≠ 0) : (S.unlink l).1 = S := by
  unfold PS.unlink at h ⊢
  repeat (split at h <;> rename_i hc <;> (first | (rw [if_pos hc]; done) | rw [if_neg hc]))
  exact absurd rfl h
theorem rmdir_same {S : PS} {l : List ByteArray} (h : (S.rmdir l).2 ≠ 0) : (S.rmdir l).1 = S := by
  unfold PS.rmdir at h ⊢
  repeat (split at h <;> rename_i hc <;> (first | (rw [if_pos hc]; done) | rw [if_neg hc]))
  exact absurd rfl h
theorem move_same {S : PS} {d : Int} {old : ByteArray} {t : Int} {name : ByteArray} {i : Int} {o : Option Int} (h : (S.move d old t name i o).2 ≠ 0) : (S.move d old t name i o).1 = S := by
  cases o with
  | some j =>
    rw [move_some] at h ⊢
    repeat (split at h <;> rename_i hc <;> (first | (rw [if_pos hc]; done) | rw [if_neg hc]))
    exact absurd rfl h
  | none =>
    rw [move_none] at h ⊢
    repeat (split at h <;> rename_i hc <;> (first | (rw [if_pos hc]; done) | rw [if_neg hc]))
    exact absurd rfl h
theorem rename_same {S : PS} {l l2 : List ByteArray} (h : (S.rename l l2).2 ≠ 0) : (S.rename l l2).1 = S := by
  unfold PS.rename at h ⊢
  split
  · rfl
  · rename_i h1
    rw [if_neg h1] at h
    split
    · rfl
    · rename_i h2
      rw [if_neg h2] at h
      cases hq : (S.nd (S.last l).d).names (S.last l).name with
      | none => rfl
      | some i =>
        rw [hq] at h
        simp only at h ⊢
        split
        · rfl
        · rename_i h3
          rw [if_neg h3] at h
          exact move_same h
theorem write_same {S : PS} {i off : Int} {data : List Int} (h : (S.write i off data).2 ≠ 0) : (S.write i off data).1 = S := by
  unfold PS.write at h ⊢
  repeat (split at h <;> rename_i hc <;> (first | (rw [if_pos hc]; done) | rw [if_neg hc]))
  exact absurd rfl h
theorem truncate_same {S : PS} {i size : Int} (h : (S.truncate i size).2 ≠ 0) : (S.truncate i size).1 = S := by
  unfold PS.truncate at h ⊢
  split at h
  · rename_i hc; rw [if_pos hc]
  · exact absurd rfl h
theorem ask_same {S : PS} {o : OpV} {i : Int} (h : (S.ask o i).2.code ≠ 0 ∨ 9 ≤ o.kind) : (S.ask o i).1 = S := by
  unfold PS.ask at h ⊢
  split
  · rfl
  · rename_i h1
    rw [if_neg h1] at h
    split
    · split <;> rfl
    · rename_i h2
      rw [if_neg h2] at h
      split
      · rfl
      · rename_i h3
        rw [if_neg h3] at h
        split
        · rename_i h4
          rw [if_pos h4] at h
          exact write_same (h.resolve_right (by omega))
        · rename_i h4
          rw [if_neg h4] at h
          split
          · rename_i h5
            rw [if_pos h5] at h
            exact truncate_same (h.resolve_right (by omega))
          · split <;> rfl
theorem asked_same {S : PS} {o : OpV} {l : List ByteArray} (h : (S.asked o l).2.code ≠ 0 ∨ 9 ≤ o.kind) : (S.asked o l).1 = S := by
  unfold PS.asked at h ⊢
  split
  · rfl
  · rename_i h1
    rw [if_neg h1] at h
    exact ask_same h
theorem does_same {S : PS} {o : OpV} {l l2 : List ByteArray} (h : (S.does o l l2).2.code ≠ 0 ∨ 9 ≤ o.kind) : (S.does o l l2).1 = S := by
  unfold PS.does at h ⊢
  split
  · rename_i h1; rw [if_pos h1] at h; exact make_same (h.resolve_right (by omega))
  · rename_i h1
    rw [if_neg h1] at h
    split
    · rename_i h2; rw [if_pos h2] at h; exact make_same (h.resolve_right (by omega))
    · rename_i h2
      rw [if_neg h2] at h
      split
      · rename_i h3; rw [if_pos h3] at h; exact link_same (h.resolve_right (by omega))
      · rename_i h3
        rw [if_neg h3] at h
        split
        · rename_i h4; rw [if_pos h4] at h; exact unlink_same (h.resolve_right (by omega))
        · rename_i h4
          rw [if_neg h4] at h
          split
          · rename_i h5; rw [if_pos h5] at h; exact rmdir_same (h.resolve_right (by omega))
          · rename_i h5
            rw [if_neg h5] at h
            split
            · rename_i h6; rw [if_pos h6] at h; exact rename_same (h.resolve_right (by omega))
            · rename_i h6
              rw [if_neg h6] at h
              split
              · rfl
              · rename_i h7
                rw [if_neg h7] at h
                exact asked_same h
/-- what is refused, and what is asked, changes nothing -/
theorem doo_same {S : PS} {o : OpV} (h : (S.doo o).2.code ≠ 0 ∨ 9 ≤ o.kind) : (S.doo o).1 = S := by
  unfold PS.doo at h ⊢
  split
  · rfl
  · rename_i h1
    rw [if_neg h1] at h
    split
    · rfl
    · rename_i h2
      rw [if_neg h2, told1_code] at h
      rw [told1_fst]
      exact does_same h
/-- a refusal tells its code alone -/
theorem doo_err {S : PS} {o : OpV} (h : (S.doo o).2.code ≠ 0) : (S.doo o).2 = .err (S.doo o).2.code := by
  unfold PS.doo at h ⊢
  split
  · rfl
  · rename_i h1
    rw [if_neg h1] at h
    split
    · rfl
    · rename_i h2
      rw [if_neg h2, told1_code] at h
      unfold PS.told1
      rw [if_pos h]
      rfl
end Go.Proofs.YteffoihkljkfdaaDoor

/- link: the walk. -/
namespace Go.Proofs.YteffoihkljkfdaaDoor
set_option linter.unusedSimpArgs false
set_option linter.unusedVariables false
open Go.RowKit

theorem more_wf {S : PS} (h : Good S) {i : Int} (hi : (S.nodes i).isSome = true) (hlk : (S.nd i).links < 100) : POk (S.put i (some (S.nd i).more)) ∧ PWf (S.put i (some (S.nd i).more)) := by
  have hin := PS.nd_get hi
  have hwi := h.f.n i _ hin
  exact put_wf h.o h.f hi (fun e => e) ⟨⟨hwi.kd, ⟨by show 1 ≤ (S.nd i).links + 1; have := hwi.lk; omega, by show (S.nd i).links + 1 ≤ 100; omega⟩, hwi.sz, hwi.md, hwi.fl, hwi.dr, hwi.nm, hwi.sn, hwi.nd, hwi.db⟩, ⟨(h.o.n i _ hin).dk, (h.o.n i _ hin).dl, (h.o.n i _ hin).sl⟩⟩
/-- one link more: where all lies then -/
theorem more_at {w : World} {gp bn c : Nat} {S : PS} {A : Int → NA} {own : Nat → Option (Int × Nat)} (h : PW w gp bn c S A own) (hg : Good S) {i : Int} (hi : (S.nodes i).isSome = true) (hlk : (S.nd i).links < 100) :
    ∃ own', Mvd w (w.setCell ⟨(A i).g, 1, none⟩ (.int .i64 ((S.nd i).links + 1))) gp bn own (S.put i (some (S.nd i).more)) own' := by
  have hn := PS.nd_get hi
  have hno := h.t.n i _ hn
  have hap := h.t.apart hn
  have hlt := hno.lts
  have hf1 : Fr [(A i).g] w (w.setCell ⟨(A i).g, 1, none⟩ (.int .i64 ((S.nd i).links + 1))) := fr_setCell _ _ _ _
  have hna : NodeAt (w.setCell ⟨(A i).g, 1, none⟩ (.int .i64 ((S.nd i).links + 1))) (A i) (S.nd i).more :=
    ⟨hat_setCell_at _ _ _ _ _ _ _ hno.h, hno.d.fr hf1 (fun b hb => by simp; exact (hap.2.2 b hb).1), hno.s.fr hf1 (fun b hb => by simp; exact (hap.2.1 b hb).1), hno.m.fr hf1 (fun b hb => by simp; exact hap.1 b hb)⟩
  exact Mvd.of (upd_pw h hn (more_wf hg hi hlk) hf1 (fun b hb _ => by simp at hb; subst hb; exact ⟨_, (h.t.og i _ hn).1, rfl⟩) hna rfl (fun b hb => .inl hb) (fun b hb => .inl hb) (fun b hb => .inl hb) (fun b hb => ⟨fun h1 => absurd (hlt.2.1 b h1) (by omega), fun h1 => absurd (hlt.2.2.1 b h1) (by omega)⟩) (show ((S.nd i).kind = 2 → (A i).nb.isSome = true) ∧ ((S.nd i).kind = 1 → (A i).db.isSome = true) from h.h i _ hn))
theorem place_at {S : PS} {d : Nd} (hd : d.slots.length ≤ 1068) (h : (S.place d).2 = 0) : (S.place d).1 = d.slots.length ∧ d.slots.length < 1068 ∨ ∃ j : Nat, (S.place d).1 = j ∧ j < d.slots.length := by
  rcases place_ok hd h with h | ⟨j, h⟩
  · exact .inl ⟨h.1, h.2.1⟩
  · exact .inr ⟨j, h.1, h.2.1⟩
set_option maxHeartbeats 8000000 in
set_option maxRecDepth 100000 in
theorem link_any {w : World} {gp bn c : Nat} {S : PS} {A : Int → NA} {own : Nat → Option (Int × Nat)} (h : PW w gp bn c S A own) (hg : Good S) {v v2 : Value} {l l2 : List ByteArray} {B B2 : Nat} (hv : Strs w B v l) (hl : ∀ s ∈ l, s.size ≤ 40) (hv2 : Strs w B2 v2 l2) (hl2 : ∀ s ∈ l2, 0 < s.size ∧ s.size ≤ 40) :
    Calls Tryd.prog 49 #[.pointer (some ⟨gp, 0, none⟩), v, v2] w fun e w' => e = .returned (.int .i64 (S.link l l2).2) ∧ ∃ own', Mvd w w' gp bn own (S.link l l2).1 own' := by
  have H := Lib.hid h
  have HV := Lib.hid hv
  have HV2 := Lib.hid hv2
  clear h hv hv2
  have HUN : Hid (S.link l l2 = if (S.walk l 1).2 ≠ 0 then (S, (S.walk l 1).2)
  else if (S.last l2).e ≠ 0 then (S, (S.last l2).e)
  else if ((S.nd (S.last l2).d).names (S.last l2).name).isSome then (S, 111)
  else if (S.nd (S.walk l 1).1).kind = 2 then (S, 102)
  else if (S.nd (S.walk l 1).1).links = 100 then (S, 142)
  else if (S.place (S.nd (S.last l2).d)).2 ≠ 0 then (S, (S.place (S.nd (S.last l2).d)).2)
  else (S.named (S.last l2).d (S.place (S.nd (S.last l2).d)).1 (S.walk l 1).1 (S.last l2).name, 0)) := Lib.hid rfl
  have HGL : Hid (Good (S.link l l2).1) := Lib.hid (link_good hg hl2)
  go_enter Tryd.func49, Tryd.ntmps49
  go_wp2_with fail
  refine (walk_any H.out.t H.out.f HV.out hl).mono ?_; rintro e w1 ⟨rfl, rfl⟩
  have HWT := Lib.hid (fun h => walk_there H.out.f l 1 (root_there H.out.f) h)
  generalize S.walk l 1 = r at *
  obtain ⟨i, e⟩ := r
  simp only at HWT HUN ⊢
  by_cases he : e = 0
  · subst he
    have hi := HWT.out rfl
    go_wp2_with fail
    refine (last_any H.out.t H.out.f HV2.out (fun s hs => (hl2 s hs).2)).mono ?_; rintro e w1 ⟨rfl, hb1⟩
    have HB1 := Lib.hid hb1
    clear hb1
    have HLO := Lib.hid (fun h => last_ok (S := S) H.out.f (l := l2) h)
    generalize S.last l2 = r at *
    obtain ⟨d, name, e⟩ := r
    simp only at HLO HUN ⊢
    by_cases he : e = 0
    · subst he
      obtain ⟨a1, a2, a3⟩ := HLO.out rfl
      have hn := PS.nd_get hi
      have hdn := PS.nd_get a1
      have HNM := Lib.hid (hl2 _ a3)
      have HP1 := Lib.hid (H.out.fr (fr_below HB1.out []) (by simp))
      have hp1 := HP1.out.t.p
      have hpl1 := hat_lt hp1
      have hlk := HP1.out.t.look_yes hn
      have hlkd := HP1.out.t.look_yes hdn
      have hh1 := (HP1.out.t.n i _ hn).h
      have hhl1 := hat_lt hh1
      have hhd1 := (HP1.out.t.n d _ hdn).h
      have hhdl1 := hat_lt hhd1
      have HA := Lib.hid (show (S.nodes d).isSome = true ∧ (S.nd d).kind = 2 ∧ (S.nodes i).isSome = true from ⟨a1, a2, hi⟩)
      cases hnm : (S.nd d).names name with
      | some j =>
        have hln := look_name_yes (HP1.out.t.n d _ hdn) hnm
        have HQ := Lib.hid (show S.link l l2 = (S, 111) by rw [HUN.out, if_neg (by simp), if_neg (by simp), if_pos (by rw [hnm]; rfl)])
        clear hnm hn hdn a1 a2 a3 hi
        go_wp2_with fail
        go_ret
        rw [HQ.out]
        exact ⟨rfl, own, H.out.stay HB1.out⟩
      | none =>
        have hln := look_name_no (HP1.out.t.n d _ hdn) (s := name) (by have := HNM.out; unfold maxLen; omega) hnm
        have HNN := Lib.hid hnm
        clear hnm hn hdn a1 a2 a3 hi
        by_cases hk : (S.nd i).kind = 2
        · have HQ := Lib.hid (show S.link l l2 = (S, 102) by rw [HUN.out, if_neg (by simp), if_neg (by simp), if_neg (by rw [HNN.out]; simp), if_pos hk])
          rw [hk] at hh1
          go_wp2_with fail
          go_ret
          rw [HQ.out]
          exact ⟨rfl, own, H.out.stay HB1.out⟩
        · have HK := Lib.hid hk
          have hkb : ((S.nd i).kind == 2) = false := by simpa using hk
          clear hk
          by_cases hlk1 : (S.nd i).links = 100
          · have HQ := Lib.hid (show S.link l l2 = (S, 142) by rw [HUN.out, if_neg (by simp), if_neg (by simp), if_neg (by rw [HNN.out]; simp), if_neg HK.out, if_pos hlk1])
            rw [hlk1] at hh1
            go_wp2_with fail
            go_ret
            rw [HQ.out]
            exact ⟨rfl, own, H.out.stay HB1.out⟩
          · have HLK := Lib.hid hlk1
            have hlb : ((S.nd i).links == 100) = false := by simpa using hlk1
            clear hlk1
            go_wp2_with fail
            refine (place_any HP1.out.t H.out.o (HP1.out.t.n d _ (PS.nd_get HA.out.1)) (H.out.o.n d _ (PS.nd_get HA.out.1))).mono ?_; rintro e w3 ⟨rfl, hb3⟩
            have HB3 := Lib.hid hb3
            clear hb3 hlk hlkd hh1 hhl1 hhd1 hhdl1 hp1 hpl1 hln
            have HPO := Lib.hid (fun h => place_at (S := S) (d := S.nd d) (H.out.o.n d _ (PS.nd_get HA.out.1)).sl h)
            generalize S.place (S.nd d) = r at *
            obtain ⟨k, e⟩ := r
            simp only at HPO HUN ⊢
            by_cases he : e = 0
            · subst he
              have HQ := Lib.hid (show S.link l l2 = (S.named d k i name, 0) by rw [HUN.out, if_neg (by simp), if_neg (by simp), if_neg (by rw [HNN.out]; simp), if_neg HK.out, if_neg HLK.out, if_neg (by simp)])
              have HP3 := Lib.hid (HP1.out.fr (fr_below HB3.out []) (by simp))
              have hn := PS.nd_get HA.out.2.2
              have hlkr := (H.out.f.n i _ hn).lk
              have hlt : (S.nd i).links < 100 := by have := HLK.out; omega
              have hp3 := HP3.out.t.p
              have hpl3 := hat_lt hp3
              have hlk := HP3.out.t.look_yes hn
              have hh3 := (HP3.out.t.n i _ hn).h
              have hhl3 := hat_lt hh3
              obtain ⟨own4, hm4⟩ := more_at HP3.out hg HA.out.2.2 hlt
              have HM4 := Lib.hid hm4
              obtain ⟨c4, A4, hp4⟩ := hm4.1
              have HP4 := Lib.hid hp4
              have HDI := Lib.hid (show d ≠ i from fun e => HK.out (by rw [← e]; exact HA.out.2.1))
              have HPO2 := Lib.hid (HPO.out rfl)
              obtain ⟨hl1, hl2⟩ := hlkr
              have HH3 := Lib.hid hh3
              have HB3x := Lib.hid HB3.out
              clear hm4 hp4 hn HPO
              go_upto_region 18 with fail
              generalize hw4 : w3.setCell ⟨(A i).g, 1, none⟩ (.int .i64 ((S.nd i).links + 1)) = w4 at *
              clear hh3 hhl3 hlk hp3 hpl3
              have hd4 : (S.put i (some (S.nd i).more)).nodes d = S.nodes d := PS.put_other _ _ HDI.out
              have hnd4 : (S.put i (some (S.nd i).more)).nd d = S.nd d := nd_put_other _ _ HDI.out
              have hds4 : ((S.put i (some (S.nd i).more)).nodes d).isSome = true := by rw [hd4]; exact HA.out.1
              have hp4 := HP4.out.t.p
              have hpl4 := hat_lt hp4
              have hlk4 := HP4.out.t.look_yes (PS.nd_get hds4)
              have HSA := Lib.hid (set_at HP4.out hds4 (by rw [hnd4]; exact HA.out.2.1) (k := k) (i := i) (name := name) (by rw [hnd4]; exact HPO2.out) HNM.out.2 (by rw [PS.put_same]; rfl) (by
                rw [hnd4]
                have := HGL.out
                rw [HQ.out] at this
                exact ⟨this.o, this.f⟩))
              rw [hnd4] at HSA
              clear hd4 hnd4 hds4
              go_wp2_with fail
              refine HSA.out.mono ?_; rintro e w5 ⟨rfl, own5, hm5⟩
              have HM5 := Lib.hid hm5
              clear hm5
              go_wp2_with fail
              go_ret
              rw [HQ.out]
              exact ⟨rfl, own5, (((H.out.stay HB1.out).trans (HP1.out.stay HB3.out)).trans HM4.out).trans HM5.out⟩
            · have HQ := Lib.hid (show S.link l l2 = (S, e) by rw [HUN.out, if_neg (by simp), if_neg (by simp), if_neg (by rw [HNN.out]; simp), if_neg HK.out, if_neg HLK.out, if_pos (by simpa using he)])
              go_wp2_with fail
              go_ret
              rw [HQ.out]
              exact ⟨rfl, own, (H.out.stay HB1.out).trans (HP1.out.stay HB3.out)⟩
    · have HQ := Lib.hid (show S.link l l2 = (S, e) by rw [HUN.out, if_neg (by simp), if_pos (by simpa using he)])
      go_wp2_with fail
      go_ret
      rw [HQ.out]
      exact ⟨rfl, own, H.out.stay HB1.out⟩
  · have HQ := Lib.hid (show S.link l l2 = (S, e) by rw [HUN.out, if_pos (by simpa using he)])
    go_wp2_with fail
    go_ret
    rw [HQ.out]
    exact ⟨rfl, own, H.out.stay (Below.refl _ _)⟩
end Go.Proofs.YteffoihkljkfdaaDoor

/- rename: the walk. -/
namespace Go.Proofs.YteffoihkljkfdaaDoor
set_option linter.unusedSimpArgs false
set_option linter.unusedVariables false
open Go.RowKit

theorem ne_texts {a b : ByteArray} (h : a ≠ b) : (a.toList == b.toList) = false := by
  refine beq_eq_false_iff_ne.2 fun e => h ?_
  rw [Lib.toList_data, Lib.toList_data] at e
  cases a; cases b
  exact congrArg ByteArray.mk (Array.toList_inj.1 e)
/-- the way on from where the name is laid: what the callees are handed -/
theorem laid_at {w : World} {gp bn c : Nat} {S : PS} {A : Int → NA} {own : Nat → Option (Int × Nat)} (h : PW w gp bn c S A own) {d t i k : Int} {old name : ByteArray} (hd : (S.nodes d).isSome = true) (hdk : (S.nd d).kind = 2) (hold : (S.nd d).names old = some i) (hne : d = t → old ≠ name) (ht : (S.nodes t).isSome = true) (htk : (S.nd t).kind = 2) (hn : 0 < name.size ∧ name.size ≤ 40)
    (hkk : k = (S.nd t).slots.length ∧ (S.nd t).slots.length < 1068 ∨ ∃ j : Nat, k = j ∧ j < (S.nd t).slots.length) (h1 : POk (S.put t (some ((S.nd t).set k name i))) ∧ PWf (S.put t (some ((S.nd t).set k name i)))) :
    Calls Tryd.prog 64 #[.pointer (some ⟨(A t).g, 0, none⟩), .int .i64 k, .string name, .int .i64 i] w fun e w' => e = .returned (.tuple #[]) ∧ ∃ own' c' A', Mvd w w' gp bn own (S.put t (some ((S.nd t).set k name i))) own' ∧ PW w' gp bn c' (S.put t (some ((S.nd t).set k name i))) A' own' ∧
      Calls Tryd.prog 67 #[.pointer (some ⟨(A' d).g, 0, none⟩), .string old] w' fun e w2 => e = .returned (.tuple #[]) ∧ ∃ own2, Mvd w w2 gp bn own (S.moved d old t k name i) own2 := by
  have hi := ((h.f.n d _ (PS.nd_get hd)).nm old i hold).2.2.2
  refine (set_at h ht htk hkk hn.2 hi h1).mono ?_
  rintro e w' ⟨rfl, own', hm⟩
  obtain ⟨c', A', hp⟩ := hm.1
  refine ⟨rfl, own', c', A', hm, hp, ?_⟩
  obtain ⟨⟨a1, a2, a3⟩, -⟩ := moved_step hd hdk hold hne h1 ht
  refine (clear_at hp a1 a2 a3).mono ?_
  rintro e w2 ⟨rfl, own2, hm2⟩
  exact ⟨rfl, own2, hm.trans hm2⟩
set_option maxHeartbeats 16000000 in
set_option maxRecDepth 100000 in
theorem rename_any {w : World} {gp bn c : Nat} {S : PS} {A : Int → NA} {own : Nat → Option (Int × Nat)} (h : PW w gp bn c S A own) (hg : Good S) {v v2 : Value} {l l2 : List ByteArray} {B B2 : Nat} (hv : Strs w B v l) (hl : ∀ s ∈ l, s.size ≤ 40) (hv2 : Strs w B2 v2 l2) (hl2 : ∀ s ∈ l2, 0 < s.size ∧ s.size ≤ 40) :
    Calls Tryd.prog 52 #[.pointer (some ⟨gp, 0, none⟩), v, v2] w fun e w' => e = .returned (.int .i64 (S.rename l l2).2) ∧ ∃ own', Mvd w w' gp bn own (S.rename l l2).1 own' := by
  have H := Lib.hid h
  have HV := Lib.hid hv
  have HV2 := Lib.hid hv2
  clear h hv hv2
  have HUN : Hid (S.rename l l2 = if (S.last l).e ≠ 0 then (S, (S.last l).e)
  else if (S.last l2).e ≠ 0 then (S, (S.last l2).e)
  else match (S.nd (S.last l).d).names (S.last l).name with
  | none => (S, 110)
  | some i =>
    if (S.last l).d = (S.last l2).d ∧ (S.last l).name = (S.last l2).name then (S, 0)
    else S.move (S.last l).d (S.last l).name (S.last l2).d (S.last l2).name i ((S.nd (S.last l2).d).names (S.last l2).name)) := Lib.hid rfl
  generalize hR : S.rename l l2 = R at *
  clear hR
  go_enter Tryd.func52, Tryd.ntmps52
  go_wp2_with fail
  refine (last_any H.out.t H.out.f HV.out hl).mono ?_; rintro e w1 ⟨rfl, hb1⟩
  have HB1 := Lib.hid hb1
  have HLO := Lib.hid (fun h => last_ok (S := S) H.out.f (l := l) h)
  generalize S.last l = r at *
  obtain ⟨d, old, e⟩ := r
  simp only at HLO HUN ⊢
  clear hb1
  by_cases he : e = 0
  · subst he
    go_wp2_with fail
    refine (last_any (H.out.t.fr (fr_below HB1.out []) (by simp)) H.out.f (HV2.out.fr' (fr_below HB1.out [])) (fun s hs => (hl2 s hs).2)).mono ?_; rintro e w2 ⟨rfl, hb2⟩
    have HF2 := Lib.hid ((fr_below HB1.out []).trans (fr_below hb2 []))
    have HLO2 := Lib.hid (fun h => last_ok (S := S) H.out.f (l := l2) h)
    generalize S.last l2 = r at *
    obtain ⟨t, name, e⟩ := r
    simp only at HLO2 HUN ⊢
    clear hb2
    by_cases he : e = 0
    · subst he
      obtain ⟨a1, a2, a3⟩ := HLO.out (by trivial)
      obtain ⟨b1, b2, b3⟩ := HLO2.out (by trivial)
      have HN1 := Lib.hid (hl _ a3)
      have HN2 := Lib.hid (hl2 _ b3)
      have hdn := PS.nd_get a1
      have htn := PS.nd_get b1
      have HP2 := Lib.hid (H.out.fr HF2.out (by simp))
      have hp2 := HP2.out.t.p
      have hpl2 := hat_lt hp2
      have hlkd := HP2.out.t.look_yes hdn
      have hlkt := HP2.out.t.look_yes htn
      have hhd := (HP2.out.t.n d _ hdn).h
      have hhdl := hat_lt hhd
      have hht := (HP2.out.t.n t _ htn).h
      have hhtl := hat_lt hht
      have HA := Lib.hid (show (S.nodes d).isSome = true ∧ (S.nd d).kind = 2 ∧ (S.nodes t).isSome = true ∧ (S.nd t).kind = 2 from ⟨a1, a2, b1, b2⟩)
      have HDN := Lib.hid hdn
      have HTN := Lib.hid htn
      clear a1 a2 a3 b1 b2 b3 HLO HLO2 hdn htn
      cases hnm : (S.nd d).names old with
      | none =>
        have hln := look_name_no (HP2.out.t.n d _ HDN.out) (s := old) (by have := HN1.out; unfold maxLen; omega) hnm
        have HQ := Lib.hid (show R = (S, 110) by rw [HUN.out, if_neg (by simp), if_neg (by simp), hnm])
        clear hnm
        go_wp2_with fail
        go_ret
        rw [HQ.out]
        exact ⟨rfl, own, H.out.stay HF2.out.bl⟩
      | some i =>
        have hln := look_name_yes (HP2.out.t.n d _ HDN.out) hnm
        have HNM := Lib.hid hnm
        have HQ0 := Lib.hid (show R = if d = t ∧ old = name then (S, 0) else S.move d old t name i ((S.nd t).names name) by rw [HUN.out, if_neg (by simp), if_neg (by simp), hnm])
        have hii := ((H.out.f.n d _ HDN.out).nm old i hnm).2.2.2
        have hin := PS.nd_get hii
        have hlki := HP2.out.t.look_yes hin
        have hhi := (HP2.out.t.n i _ hin).h
        have hhil := hat_lt hhi
        have HIN := Lib.hid (show (S.nodes i).isSome = true ∧ S.nodes i = some (S.nd i) from ⟨hii, hin⟩)
        clear hnm hii hin HUN
        by_cases hsame : d = t ∧ old = name
        · have HQ := Lib.hid (show R = (S, 0) by rw [HQ0.out, if_pos hsame])
          obtain ⟨rfl, rfl⟩ := hsame
          go_wp2_with fail
          go_ret
          rw [HQ.out]
          exact ⟨rfl, own, H.out.stay HF2.out.bl⟩
        · have HNS := Lib.hid (show d = t → old ≠ name from fun e e2 => hsame ⟨e, e2⟩)
          have HQ1 := Lib.hid (show R = S.move d old t name i ((S.nd t).names name) by rw [HQ0.out, if_neg hsame])
          have HG := Lib.hid (move_good hg HA.out.1 HA.out.2.1 HNM.out HNS.out HA.out.2.2.1 HA.out.2.2.2 HN2.out)
          by_cases hdt : d = t
          · subst hdt
            have hon := HNS.out (by trivial)
            have honb := ne_texts hon
            clear hon
            clear hsame HQ0
            cases hnt : (S.nd d).names name with
            | none =>
              have hlt := look_name_no (HP2.out.t.n d _ HTN.out) (s := name) (by have := HN2.out; unfold maxLen; omega) hnt
              have HNT := Lib.hid hnt
              rw [hnt] at HQ1 HG
              rw [move_none] at HQ1
              clear hnt
              by_cases hk : (S.nd i).kind = 2
              · have HK := Lib.hid hk
                rw [hk] at hhi
                clear hk
                go_wp2_with fail
                refine (under_any HP2.out.t hg HIN.out.1 HK.out).mono ?_; rintro e w3 ⟨rfl, hb3⟩
                have HF3 := Lib.hid (HF2.out.trans (fr_below hb3 []))
                have HP3 := Lib.hid (H.out.fr HF3.out (by simp))
                clear hb3 hp2 hpl2 hlkd hlkt hhd hhdl hht hhtl hlki hhi hhil hln hlt
                cases hu : S.under d i with
                | true =>
                  have HQ := Lib.hid (show R = (S, 141) by rw [HQ1.out, if_pos ⟨HK.out, hu⟩])
                  go_wp2_with fail
                  go_ret
                  rw [HQ.out]
                  exact ⟨rfl, own, H.out.stay HF3.out.bl⟩
                | false =>
                  have hp3 := HP3.out.t.p
                  have hpl3 := hat_lt hp3
                  have hlkt3 := HP3.out.t.look_yes HTN.out
                  go_wp2_with fail
                  refine (place_any HP3.out.t H.out.o (HP3.out.t.n d _ HTN.out) (H.out.o.n d _ HTN.out)).mono ?_; rintro e w4 ⟨rfl, hb4⟩
                  have HF4 := Lib.hid (HF3.out.trans (fr_below hb4 []))
                  have HP4 := Lib.hid (H.out.fr HF4.out (by simp))
                  have hp4 := HP4.out.t.p
                  have hpl4 := hat_lt hp4
                  have hlkt4 := HP4.out.t.look_yes HTN.out
                  have HPO := Lib.hid (fun h => place_ok (S := S) (d := S.nd d) (H.out.o.n d _ HTN.out).sl h)
                  have HPA := Lib.hid (fun h => place_at (S := S) (d := S.nd d) (H.out.o.n d _ HTN.out).sl h)
                  clear hb4 hp3 hpl3 hlkt3
                  generalize S.place (S.nd d) = r at *
                  obtain ⟨k, e⟩ := r
                  simp only at HPO HPA HQ1 ⊢
                  by_cases he : e = 0
                  · subst he
                    have HQ := Lib.hid (show R = (S.moved d old d k name i, 0) by rw [HQ1.out, if_neg (fun e => of_under_no hu (of_under e.2)), if_neg (fun e => e.1 HK.out), if_neg (by simp)])
                    have HLA := Lib.hid (laid_at HP4.out (d := d) (t := d) (i := i) (k := k) (old := old) (name := name) HA.out.1 HA.out.2.1 HNM.out (fun _ => HNS.out (by first | trivial | assumption)) HA.out.2.2.1 HA.out.2.2.2 HN2.out (HPA.out (by trivial)) (frsh_wf H.out.o H.out.f HA.out.2.2.1 HA.out.2.2.2 HIN.out.1 (HPO.out (by trivial)) HN2.out HNT.out).1)
                    have HMS := Lib.hid (moved_step (d := d) (t := d) (i := i) (old := old) (name := name) (k := k) HA.out.1 HA.out.2.1 HNM.out (fun _ => HNS.out (by first | trivial | assumption)) (frsh_wf H.out.o H.out.f HA.out.2.2.1 HA.out.2.2.2 HIN.out.1 (HPO.out (by trivial)) HN2.out HNT.out).1 HA.out.2.2.1)
                    go_wp2_with fail
                    refine HLA.out.mono ?_; rintro e w5 ⟨rfl, own5, c5, A5, hm5, hp5, hcl⟩
                    have HCL := Lib.hid hcl
                    have HM5 := Lib.hid hm5
                    have hlkd5 := hp5.t.look_yes (PS.nd_get HMS.out.1.1)
                    have hpp5 := hp5.t.p
                    have hppl5 := hat_lt hpp5
                    clear hcl hm5 hp5
                    go_wp2_with fail
                    refine HCL.out.mono ?_; rintro e w6 ⟨rfl, own6, hm6⟩
                    have HM6 := Lib.hid hm6
                    clear hm6
                    go_wp2_with fail
                    go_ret
                    rw [HQ.out]
                    exact ⟨rfl, own6, (H.out.stay HF4.out.bl).trans HM6.out⟩
                  · have HQ := Lib.hid (show R = (S, e) by rw [HQ1.out, if_neg (fun e => of_under_no hu (of_under e.2)), if_neg (fun e => e.1 HK.out), if_pos (by simpa using he)])
                    go_wp2_with fail
                    go_ret
                    rw [HQ.out]
                    exact ⟨rfl, own, H.out.stay HF4.out.bl⟩
              · have HK := Lib.hid hk
                have hkb : ((S.nd i).kind == 2) = false := by simpa using hk
                clear hk
                by_cases hl100 : (S.nd i).links = 100
                · have HQ := Lib.hid (show R = (S, 142) by rw [HQ1.out, if_neg (fun e => HK.out e.1), if_pos ⟨HK.out, hl100⟩])
                  rw [hl100] at hhi
                  go_wp2_with fail
                  go_ret
                  rw [HQ.out]
                  exact ⟨rfl, own, H.out.stay HF2.out.bl⟩
                · have HLK := Lib.hid hl100
                  have hlb : ((S.nd i).links == 100) = false := by simpa using hl100
                  clear hl100
                  go_wp2_with fail
                  refine (idx_g (HP2.out.t.n d _ HTN.out).s (by have := (H.out.o.n d _ HTN.out).sl; omega) name).mono ?_; rintro e w3 ⟨rfl, rfl⟩
                  clear hp2 hpl2 hlkd hlkt hhd hhdl hht hhtl hlki hhi hhil hln hlt hkb hlb
                  have hp3 := HP2.out.t.p
                  have hpl3 := hat_lt hp3
                  have hlkt3 := HP2.out.t.look_yes HTN.out
                  go_wp2_with fail
                  refine (place_any HP2.out.t H.out.o (HP2.out.t.n d _ HTN.out) (H.out.o.n d _ HTN.out)).mono ?_; rintro e w4 ⟨rfl, hb4⟩
                  have HF4 := Lib.hid (HF2.out.trans (fr_below hb4 []))
                  have HP4 := Lib.hid (H.out.fr HF4.out (by simp))
                  have hp4 := HP4.out.t.p
                  have hpl4 := hat_lt hp4
                  have hlkt4 := HP4.out.t.look_yes HTN.out
                  have HPO := Lib.hid (fun h => place_ok (S := S) (d := S.nd d) (H.out.o.n d _ HTN.out).sl h)
                  have HPA := Lib.hid (fun h => place_at (S := S) (d := S.nd d) (H.out.o.n d _ HTN.out).sl h)
                  clear hb4 hp3 hpl3 hlkt3
                  generalize S.place (S.nd d) = r at *
                  obtain ⟨k, e⟩ := r
                  simp only at HPO HPA HQ1 ⊢
                  by_cases he : e = 0
                  · subst he
                    have HQ := Lib.hid (show R = (S.moved d old d k name i, 0) by rw [HQ1.out, if_neg (fun e => HK.out e.1), if_neg (fun e => HLK.out e.2), if_neg (by simp)])
                    have HLA := Lib.hid (laid_at HP4.out (d := d) (t := d) (i := i) (k := k) (old := old) (name := name) HA.out.1 HA.out.2.1 HNM.out (fun _ => HNS.out (by first | trivial | assumption)) HA.out.2.2.1 HA.out.2.2.2 HN2.out (HPA.out (by trivial)) (frsh_wf H.out.o H.out.f HA.out.2.2.1 HA.out.2.2.2 HIN.out.1 (HPO.out (by trivial)) HN2.out HNT.out).1)
                    have HMS := Lib.hid (moved_step (d := d) (t := d) (i := i) (old := old) (name := name) (k := k) HA.out.1 HA.out.2.1 HNM.out (fun _ => HNS.out (by first | trivial | assumption)) (frsh_wf H.out.o H.out.f HA.out.2.2.1 HA.out.2.2.2 HIN.out.1 (HPO.out (by trivial)) HN2.out HNT.out).1 HA.out.2.2.1)
                    go_wp2_with fail
                    refine HLA.out.mono ?_; rintro e w5 ⟨rfl, own5, c5, A5, hm5, hp5, hcl⟩
                    have HCL := Lib.hid hcl
                    have HM5 := Lib.hid hm5
                    have hlkd5 := hp5.t.look_yes (PS.nd_get HMS.out.1.1)
                    have hpp5 := hp5.t.p
                    have hppl5 := hat_lt hpp5
                    clear hcl hm5 hp5
                    go_wp2_with fail
                    refine HCL.out.mono ?_; rintro e w6 ⟨rfl, own6, hm6⟩
                    have HM6 := Lib.hid hm6
                    clear hm6
                    go_wp2_with fail
                    go_ret
                    rw [HQ.out]
                    exact ⟨rfl, own6, (H.out.stay HF4.out.bl).trans HM6.out⟩
                  · have HQ := Lib.hid (show R = (S, e) by rw [HQ1.out, if_neg (fun e => HK.out e.1), if_neg (fun e => HLK.out e.2), if_pos (by simpa using he)])
                    go_wp2_with fail
                    go_ret
                    rw [HQ.out]
                    exact ⟨rfl, own, H.out.stay HF4.out.bl⟩
            | some j =>
              have hlt := look_name_yes (HP2.out.t.n d _ HTN.out) hnt
              have HNT := Lib.hid hnt
              rw [hnt] at HQ1 HG
              rw [move_some] at HQ1
              clear hnt
              by_cases hk : (S.nd i).kind = 2
              · have HQ := Lib.hid (show R = (S, 111) by rw [HQ1.out, if_pos hk])
                rw [hk] at hhi
                clear hk
                go_wp2_with fail
                go_ret
                rw [HQ.out]
                exact ⟨rfl, own, H.out.stay HF2.out.bl⟩
              · have HK := Lib.hid hk
                have hkb : ((S.nd i).kind == 2) = false := by simpa using hk
                clear hk
                have hjs := ((H.out.f.n d _ HTN.out).nm name j HNT.out).2.2.2
                have HJS := Lib.hid hjs
                have hjn := PS.nd_get hjs
                have hlkj := HP2.out.t.look_yes hjn
                have hhj := (HP2.out.t.n j _ hjn).h
                have hhjl := hat_lt hhj
                clear hjs hjn
                by_cases hkj : (S.nd j).kind = 2
                · have HQ := Lib.hid (show R = (S, 111) by rw [HQ1.out, if_neg HK.out, if_pos hkj])
                  rw [hkj] at hhj
                  clear hkj
                  go_wp2_with fail
                  go_ret
                  rw [HQ.out]
                  exact ⟨rfl, own, H.out.stay HF2.out.bl⟩
                · have HKJ := Lib.hid hkj
                  have hkjb : ((S.nd j).kind == 2) = false := by simpa using hkj
                  clear hkj
                  by_cases hij : i = j
                  · have HQ := Lib.hid (show R = (S, 0) by rw [HQ1.out, if_neg HK.out, if_neg HKJ.out, if_pos hij])
                    have hijb : (i == j) = true := by simpa using hij
                    clear hij
                    go_wp2_with fail
                    go_ret
                    rw [HQ.out]
                    exact ⟨rfl, own, H.out.stay HF2.out.bl⟩
                  · have HIJ := Lib.hid hij
                    have hijb : (i == j) = false := by simpa using hij
                    clear hij
                    by_cases hl100 : (S.nd i).links = 100
                    · have HQ := Lib.hid (show R = (S, 142) by rw [HQ1.out, if_neg HK.out, if_neg HKJ.out, if_neg HIJ.out, if_pos hl100])
                      rw [hl100] at hhi
                      go_wp2_with fail
                      go_ret
                      rw [HQ.out]
                      exact ⟨rfl, own, H.out.stay HF2.out.bl⟩
                    · have HLK := Lib.hid hl100
                      have hlb : ((S.nd i).links == 100) = false := by simpa using hl100
                      clear hl100
                      have HQ := Lib.hid (show R = ((S.moved d old d (Lib.idxOfS (S.nd d).slots name) name i).less j, 0) by rw [HQ1.out, if_neg HK.out, if_neg HKJ.out, if_neg HIJ.out, if_neg HLK.out])
                      have HG := Lib.hid (show Good R.1 from by rw [HQ1.out, ← move_some]; exact HG.out)
                      have HJT := Lib.hid (show j ≠ d ∧ j ≠ d from ⟨fun e => HKJ.out (by rw [e]; exact HA.out.2.2.2), fun e => HKJ.out (by rw [e]; exact HA.out.2.1)⟩)
                      have HKI := Lib.hid (over_eq ((H.out.f.n d _ HTN.out).nm name j HNT.out).1 i).2.2.2
                      have HOW := Lib.hid (over_wf H.out.o H.out.f (t := d) (i := i) HA.out.2.2.1 HA.out.2.2.2 HIN.out.1 HN2.out HNT.out)
                      go_wp2_with fail
                      refine (idx_g (HP2.out.t.n d _ HTN.out).s (by have := (H.out.o.n d _ HTN.out).sl; omega) name).mono ?_; rintro e w3 ⟨rfl, rfl⟩
                      generalize Lib.idxOfS (S.nd d).slots name = k at *
                      have HLA := Lib.hid (laid_at HP2.out (d := d) (t := d) (i := i) (k := k) (old := old) (name := name) HA.out.1 HA.out.2.1 HNM.out (fun _ => HNS.out (by first | trivial | assumption)) HA.out.2.2.1 HA.out.2.2.2 HN2.out (.inr HKI.out) (HOW.out).1)
                      have HMS := Lib.hid (moved_step (d := d) (t := d) (i := i) (old := old) (name := name) (k := k) HA.out.1 HA.out.2.1 HNM.out (fun _ => HNS.out (by first | trivial | assumption)) (HOW.out).1 HA.out.2.2.1)
                      go_wp2_with fail
                      refine HLA.out.mono ?_; rintro e w5 ⟨rfl, own5, c5, A5, hm5, hp5, hcl⟩
                      have HCL := Lib.hid hcl
                      have HM5 := Lib.hid hm5
                      have hlkd5 := hp5.t.look_yes (PS.nd_get HMS.out.1.1)
                      have hpp5 := hp5.t.p
                      have hppl5 := hat_lt hpp5
                      clear hcl hm5 hp5
                      go_wp2_with fail
                      refine HCL.out.mono ?_; rintro e w6 ⟨rfl, own6, hm6⟩
                      have HM6 := Lib.hid hm6
                      clear hm6
                      obtain ⟨c6, A6, hp6⟩ := HM6.out.1
                      have HP6 := Lib.hid hp6
                      clear hp6
                      go_wp2_with fail
                      refine (less_any HP6.out (i := j) (by rw [HMS.out.2.2.2.2.1 j HJT.out.1 HJT.out.2]; exact HJS.out) (by have hgg := HG.out; rw [HQ.out] at hgg; exact ⟨hgg.o, hgg.f⟩)).mono ?_; rintro e w7 ⟨own7, rfl, hm7⟩
                      have HM7 := Lib.hid hm7
                      clear hm7
                      go_wp2_with fail
                      go_ret
                      rw [HQ.out]
                      exact ⟨rfl, own7, ((H.out.stay HF2.out.bl).trans HM6.out).trans HM7.out⟩
          · clear hsame HQ0
            cases hnt : (S.nd t).names name with
            | none =>
              have hlt := look_name_no (HP2.out.t.n t _ HTN.out) (s := name) (by have := HN2.out; unfold maxLen; omega) hnt
              have HNT := Lib.hid hnt
              rw [hnt] at HQ1 HG
              rw [move_none] at HQ1
              clear hnt
              by_cases hk : (S.nd i).kind = 2
              · have HK := Lib.hid hk
                rw [hk] at hhi
                clear hk
                go_wp2_with fail
                refine (under_any HP2.out.t hg HIN.out.1 HK.out).mono ?_; rintro e w3 ⟨rfl, hb3⟩
                have HF3 := Lib.hid (HF2.out.trans (fr_below hb3 []))
                have HP3 := Lib.hid (H.out.fr HF3.out (by simp))
                clear hb3 hp2 hpl2 hlkd hlkt hhd hhdl hht hhtl hlki hhi hhil hln hlt
                cases hu : S.under t i with
                | true =>
                  have HQ := Lib.hid (show R = (S, 141) by rw [HQ1.out, if_pos ⟨HK.out, hu⟩])
                  go_wp2_with fail
                  go_ret
                  rw [HQ.out]
                  exact ⟨rfl, own, H.out.stay HF3.out.bl⟩
                | false =>
                  have hp3 := HP3.out.t.p
                  have hpl3 := hat_lt hp3
                  have hlkt3 := HP3.out.t.look_yes HTN.out
                  go_wp2_with fail
                  refine (place_any HP3.out.t H.out.o (HP3.out.t.n t _ HTN.out) (H.out.o.n t _ HTN.out)).mono ?_; rintro e w4 ⟨rfl, hb4⟩
                  have HF4 := Lib.hid (HF3.out.trans (fr_below hb4 []))
                  have HP4 := Lib.hid (H.out.fr HF4.out (by simp))
                  have hp4 := HP4.out.t.p
                  have hpl4 := hat_lt hp4
                  have hlkt4 := HP4.out.t.look_yes HTN.out
                  have HPO := Lib.hid (fun h => place_ok (S := S) (d := S.nd t) (H.out.o.n t _ HTN.out).sl h)
                  have HPA := Lib.hid (fun h => place_at (S := S) (d := S.nd t) (H.out.o.n t _ HTN.out).sl h)
                  clear hb4 hp3 hpl3 hlkt3
                  generalize S.place (S.nd t) = r at *
                  obtain ⟨k, e⟩ := r
                  simp only at HPO HPA HQ1 ⊢
                  by_cases he : e = 0
                  · subst he
                    have HQ := Lib.hid (show R = (S.moved d old t k name i, 0) by rw [HQ1.out, if_neg (fun e => of_under_no hu (of_under e.2)), if_neg (fun e => e.1 HK.out), if_neg (by simp)])
                    have HLA := Lib.hid (laid_at HP4.out (d := d) (t := t) (i := i) (k := k) (old := old) (name := name) HA.out.1 HA.out.2.1 HNM.out (fun _ => HNS.out (by first | trivial | assumption)) HA.out.2.2.1 HA.out.2.2.2 HN2.out (HPA.out (by trivial)) (frsh_wf H.out.o H.out.f HA.out.2.2.1 HA.out.2.2.2 HIN.out.1 (HPO.out (by trivial)) HN2.out HNT.out).1)
                    have HMS := Lib.hid (moved_step (d := d) (t := t) (i := i) (old := old) (name := name) (k := k) HA.out.1 HA.out.2.1 HNM.out (fun _ => HNS.out (by first | trivial | assumption)) (frsh_wf H.out.o H.out.f HA.out.2.2.1 HA.out.2.2.2 HIN.out.1 (HPO.out (by trivial)) HN2.out HNT.out).1 HA.out.2.2.1)
                    go_wp2_with fail
                    refine HLA.out.mono ?_; rintro e w5 ⟨rfl, own5, c5, A5, hm5, hp5, hcl⟩
                    have HCL := Lib.hid hcl
                    have HM5 := Lib.hid hm5
                    have hlkd5 := hp5.t.look_yes (PS.nd_get HMS.out.1.1)
                    have hpp5 := hp5.t.p
                    have hppl5 := hat_lt hpp5
                    clear hcl hm5 hp5
                    go_wp2_with fail
                    refine HCL.out.mono ?_; rintro e w6 ⟨rfl, own6, hm6⟩
                    have HM6 := Lib.hid hm6
                    clear hm6
                    go_wp2_with fail
                    go_ret
                    rw [HQ.out]
                    exact ⟨rfl, own6, (H.out.stay HF4.out.bl).trans HM6.out⟩
                  · have HQ := Lib.hid (show R = (S, e) by rw [HQ1.out, if_neg (fun e => of_under_no hu (of_under e.2)), if_neg (fun e => e.1 HK.out), if_pos (by simpa using he)])
                    go_wp2_with fail
                    go_ret
                    rw [HQ.out]
                    exact ⟨rfl, own, H.out.stay HF4.out.bl⟩
              · have HK := Lib.hid hk
                have hkb : ((S.nd i).kind == 2) = false := by simpa using hk
                clear hk
                by_cases hl100 : (S.nd i).links = 100
                · have HQ := Lib.hid (show R = (S, 142) by rw [HQ1.out, if_neg (fun e => HK.out e.1), if_pos ⟨HK.out, hl100⟩])
                  rw [hl100] at hhi
                  go_wp2_with fail
                  go_ret
                  rw [HQ.out]
                  exact ⟨rfl, own, H.out.stay HF2.out.bl⟩
                · have HLK := Lib.hid hl100
                  have hlb : ((S.nd i).links == 100) = false := by simpa using hl100
                  clear hl100
                  go_wp2_with fail
                  refine (idx_g (HP2.out.t.n t _ HTN.out).s (by have := (H.out.o.n t _ HTN.out).sl; omega) name).mono ?_; rintro e w3 ⟨rfl, rfl⟩
                  clear hp2 hpl2 hlkd hlkt hhd hhdl hht hhtl hlki hhi hhil hln hlt hkb hlb
                  have hp3 := HP2.out.t.p
                  have hpl3 := hat_lt hp3
                  have hlkt3 := HP2.out.t.look_yes HTN.out
                  go_wp2_with fail
                  refine (place_any HP2.out.t H.out.o (HP2.out.t.n t _ HTN.out) (H.out.o.n t _ HTN.out)).mono ?_; rintro e w4 ⟨rfl, hb4⟩
                  have HF4 := Lib.hid (HF2.out.trans (fr_below hb4 []))
                  have HP4 := Lib.hid (H.out.fr HF4.out (by simp))
                  have hp4 := HP4.out.t.p
                  have hpl4 := hat_lt hp4
                  have hlkt4 := HP4.out.t.look_yes HTN.out
                  have HPO := Lib.hid (fun h => place_ok (S := S) (d := S.nd t) (H.out.o.n t _ HTN.out).sl h)
                  have HPA := Lib.hid (fun h => place_at (S := S) (d := S.nd t) (H.out.o.n t _ HTN.out).sl h)
                  clear hb4 hp3 hpl3 hlkt3
                  generalize S.place (S.nd t) = r at *
                  obtain ⟨k, e⟩ := r
                  simp only at HPO HPA HQ1 ⊢
                  by_cases he : e = 0
                  · subst he
                    have HQ := Lib.hid (show R = (S.moved d old t k name i, 0) by rw [HQ1.out, if_neg (fun e => HK.out e.1), if_neg (fun e => HLK.out e.2), if_neg (by simp)])
                    have HLA := Lib.hid (laid_at HP4.out (d := d) (t := t) (i := i) (k := k) (old := old) (name := name) HA.out.1 HA.out.2.1 HNM.out (fun _ => HNS.out (by first | trivial | assumption)) HA.out.2.2.1 HA.out.2.2.2 HN2.out (HPA.out (by trivial)) (frsh_wf H.out.o H.out.f HA.out.2.2.1 HA.out.2.2.2 HIN.out.1 (HPO.out (by trivial)) HN2.out HNT.out).1)
                    have HMS := Lib.hid (moved_step (d := d) (t := t) (i := i) (old := old) (name := name) (k := k) HA.out.1 HA.out.2.1 HNM.out (fun _ => HNS.out (by first | trivial | assumption)) (frsh_wf H.out.o H.out.f HA.out.2.2.1 HA.out.2.2.2 HIN.out.1 (HPO.out (by trivial)) HN2.out HNT.out).1 HA.out.2.2.1)
                    go_wp2_with fail
                    refine HLA.out.mono ?_; rintro e w5 ⟨rfl, own5, c5, A5, hm5, hp5, hcl⟩
                    have HCL := Lib.hid hcl
                    have HM5 := Lib.hid hm5
                    have hlkd5 := hp5.t.look_yes (PS.nd_get HMS.out.1.1)
                    have hpp5 := hp5.t.p
                    have hppl5 := hat_lt hpp5
                    clear hcl hm5 hp5
                    go_wp2_with fail
                    refine HCL.out.mono ?_; rintro e w6 ⟨rfl, own6, hm6⟩
                    have HM6 := Lib.hid hm6
                    clear hm6
                    go_wp2_with fail
                    go_ret
                    rw [HQ.out]
                    exact ⟨rfl, own6, (H.out.stay HF4.out.bl).trans HM6.out⟩
                  · have HQ := Lib.hid (show R = (S, e) by rw [HQ1.out, if_neg (fun e => HK.out e.1), if_neg (fun e => HLK.out e.2), if_pos (by simpa using he)])
                    go_wp2_with fail
                    go_ret
                    rw [HQ.out]
                    exact ⟨rfl, own, H.out.stay HF4.out.bl⟩
            | some j =>
              have hlt := look_name_yes (HP2.out.t.n t _ HTN.out) hnt
              have HNT := Lib.hid hnt
              rw [hnt] at HQ1 HG
              rw [move_some] at HQ1
              clear hnt
              by_cases hk : (S.nd i).kind = 2
              · have HQ := Lib.hid (show R = (S, 111) by rw [HQ1.out, if_pos hk])
                rw [hk] at hhi
                clear hk
                go_wp2_with fail
                go_ret
                rw [HQ.out]
                exact ⟨rfl, own, H.out.stay HF2.out.bl⟩
              · have HK := Lib.hid hk
                have hkb : ((S.nd i).kind == 2) = false := by simpa using hk
                clear hk
                have hjs := ((H.out.f.n t _ HTN.out).nm name j HNT.out).2.2.2
                have HJS := Lib.hid hjs
                have hjn := PS.nd_get hjs
                have hlkj := HP2.out.t.look_yes hjn
                have hhj := (HP2.out.t.n j _ hjn).h
                have hhjl := hat_lt hhj
                clear hjs hjn
                by_cases hkj : (S.nd j).kind = 2
                · have HQ := Lib.hid (show R = (S, 111) by rw [HQ1.out, if_neg HK.out, if_pos hkj])
                  rw [hkj] at hhj
                  clear hkj
                  go_wp2_with fail
                  go_ret
                  rw [HQ.out]
                  exact ⟨rfl, own, H.out.stay HF2.out.bl⟩
                · have HKJ := Lib.hid hkj
                  have hkjb : ((S.nd j).kind == 2) = false := by simpa using hkj
                  clear hkj
                  by_cases hij : i = j
                  · have HQ := Lib.hid (show R = (S, 0) by rw [HQ1.out, if_neg HK.out, if_neg HKJ.out, if_pos hij])
                    have hijb : (i == j) = true := by simpa using hij
                    clear hij
                    go_wp2_with fail
                    go_ret
                    rw [HQ.out]
                    exact ⟨rfl, own, H.out.stay HF2.out.bl⟩
                  · have HIJ := Lib.hid hij
                    have hijb : (i == j) = false := by simpa using hij
                    clear hij
                    by_cases hl100 : (S.nd i).links = 100
                    · have HQ := Lib.hid (show R = (S, 142) by rw [HQ1.out, if_neg HK.out, if_neg HKJ.out, if_neg HIJ.out, if_pos hl100])
                      rw [hl100] at hhi
                      go_wp2_with fail
                      go_ret
                      rw [HQ.out]
                      exact ⟨rfl, own, H.out.stay HF2.out.bl⟩
                    · have HLK := Lib.hid hl100
                      have hlb : ((S.nd i).links == 100) = false := by simpa using hl100
                      clear hl100
                      have HQ := Lib.hid (show R = ((S.moved d old t (Lib.idxOfS (S.nd t).slots name) name i).less j, 0) by rw [HQ1.out, if_neg HK.out, if_neg HKJ.out, if_neg HIJ.out, if_neg HLK.out])
                      have HG := Lib.hid (show Good R.1 from by rw [HQ1.out, ← move_some]; exact HG.out)
                      have HJT := Lib.hid (show j ≠ t ∧ j ≠ d from ⟨fun e => HKJ.out (by rw [e]; exact HA.out.2.2.2), fun e => HKJ.out (by rw [e]; exact HA.out.2.1)⟩)
                      have HKI := Lib.hid (over_eq ((H.out.f.n t _ HTN.out).nm name j HNT.out).1 i).2.2.2
                      have HOW := Lib.hid (over_wf H.out.o H.out.f (t := t) (i := i) HA.out.2.2.1 HA.out.2.2.2 HIN.out.1 HN2.out HNT.out)
                      go_wp2_with fail
                      refine (idx_g (HP2.out.t.n t _ HTN.out).s (by have := (H.out.o.n t _ HTN.out).sl; omega) name).mono ?_; rintro e w3 ⟨rfl, rfl⟩
                      generalize Lib.idxOfS (S.nd t).slots name = k at *
                      have HLA := Lib.hid (laid_at HP2.out (d := d) (t := t) (i := i) (k := k) (old := old) (name := name) HA.out.1 HA.out.2.1 HNM.out (fun _ => HNS.out (by first | trivial | assumption)) HA.out.2.2.1 HA.out.2.2.2 HN2.out (.inr HKI.out) (HOW.out).1)
                      have HMS := Lib.hid (moved_step (d := d) (t := t) (i := i) (old := old) (name := name) (k := k) HA.out.1 HA.out.2.1 HNM.out (fun _ => HNS.out (by first | trivial | assumption)) (HOW.out).1 HA.out.2.2.1)
                      go_wp2_with fail
                      refine HLA.out.mono ?_; rintro e w5 ⟨rfl, own5, c5, A5, hm5, hp5, hcl⟩
                      have HCL := Lib.hid hcl
                      have HM5 := Lib.hid hm5
                      have hlkd5 := hp5.t.look_yes (PS.nd_get HMS.out.1.1)
                      have hpp5 := hp5.t.p
                      have hppl5 := hat_lt hpp5
                      clear hcl hm5 hp5
                      go_wp2_with fail
                      refine HCL.out.mono ?_; rintro e w6 ⟨rfl, own6, hm6⟩
                      have HM6 := Lib.hid hm6
                      clear hm6
                      obtain ⟨c6, A6, hp6⟩ := HM6.out.1
                      have HP6 := Lib.hid hp6
                      clear hp6
                      go_wp2_with fail
                      refine (less_any HP6.out (i := j) (by rw [HMS.out.2.2.2.2.1 j HJT.out.1 HJT.out.2]; exact HJS.out) (by have hgg := HG.out; rw [HQ.out] at hgg; exact ⟨hgg.o, hgg.f⟩)).mono ?_; rintro e w7 ⟨own7, rfl, hm7⟩
                      have HM7 := Lib.hid hm7
                      clear hm7
                      go_wp2_with fail
                      go_ret
                      rw [HQ.out]
                      exact ⟨rfl, own7, ((H.out.stay HF2.out.bl).trans HM6.out).trans HM7.out⟩
    · have HQ := Lib.hid (show R = (S, e) by rw [HUN.out, if_neg (by simp), if_pos (by simpa using he)])
      go_wp2_with fail
      go_ret
      rw [HQ.out]
      exact ⟨rfl, own, H.out.stay HF2.out.bl⟩
  · have HQ := Lib.hid (show R = (S, e) by rw [HUN.out, if_pos (by simpa using he)])
    go_wp2_with fail
    go_ret
    rw [HQ.out]
    exact ⟨rfl, own, H.out.stay HB1.out⟩
end Go.Proofs.YteffoihkljkfdaaDoor
