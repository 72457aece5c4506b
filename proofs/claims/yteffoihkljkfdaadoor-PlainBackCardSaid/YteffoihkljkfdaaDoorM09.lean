/- Contracts and laws that the claim leans on, laid together in the order in which they build. -/
import Derived.Lib.SlBytesConst
import Derived.ProofKit
import Derived.Carry
import Derived.OpenShut
import Derived.Test.YteffoihkljkfdaaDoorM01
import Derived.Test.YteffoihkljkfdaaDoorM02
import Derived.Test.YteffoihkljkfdaaDoorM03
import Derived.Test.YteffoihkljkfdaaDoorM04
import Derived.Test.YteffoihkljkfdaaDoorM07
import Derived.Test.YteffoihkljkfdaaDoorM08

/- What told and listed need: plain, and rows as texts. -/
namespace Go.Proofs.YteffoihkljkfdaaDoor
set_option linter.unusedSimpArgs false
set_option linter.unusedVariables false
open Go.RowKit

theorem room_bound {S : PS} (hO : POk S) : (-10000000 ≤ S.free ∧ S.free ≤ 10000000) ∧ -10000000 ≤ S.left ∧ S.left ≤ 10000000 := by
  have h1 := PS.used_le hO
  have h2 := hO.s
  have h3 := hO.i
  have h4 : cntB 513 (fun i => (S.nodes i).isSome) ≤ 513 := by
    unfold cntB
    exact Nat.le_trans (List.length_filter_le _ _) (by simp)
  unfold PS.free PS.left
  omega
theorem bytesB_size (l : List Int) : (bytesB l).size = l.length := by
  show ((l.map fun x => x.toNat.toUInt8).toArray).size = l.length
  simp
/-- a row of bytes as a text -/
theorem conv_row {w : World} {dv : Value} {od : Option Nat} {l : List Int} (h : GRow 5 1 w dv od l.length (byC l)) (hb : ∀ b ∈ l, 0 ≤ b ∧ b < 256) : (convert 34 9 dv).run Tryd.prog w = .ok (.string (bytesB l)) w := by
  rcases h with ⟨rfl, -, h0⟩ | ⟨g, off, c, cs, rfl, -, hg, h2, h3, h4⟩
  · rw [run_convert_bytes_nil w 34 5 Tryd.underlying34 Tryd.underlying5 0 0 9 Tryd.underlying9]
    rw [List.length_eq_zero_iff.1 h0]
    rfl
  · have := run_convert_bytes_back (P := Tryd.prog) w 34 9 5 ⟨g, off, none⟩ c (l.map fun x => x.toNat.toUInt8) Tryd.underlying34 Tryd.underlying5 Tryd.underlying9 (fun j hj => by
      have hj' : j < l.length := by simpa using hj
      rw [add_none, cell_hat hg, h4 j (by omega)]
      unfold byC
      rw [List.getD_eq_getElem?_getD, List.getElem?_eq_getElem hj', Option.getD_some, List.getElem_map]
      have := hb _ (List.getElem_mem hj')
      congr 2
      simp
      omega)
    rw [List.length_map] at this
    exact this
theorem belowB_size (d n : ByteArray) : (belowB d n).size ≤ d.size + n.size + 1 := by
  unfold belowB
  have e : slash.size = 1 := rfl
  split
  · rw [ByteArray.size_append]; omega
  · rw [ByteArray.size_append, ByteArray.size_append]; omega
/-- the state of a walk path by path -/
structure WT (S : PS) (row : ByteArray → ByteArray) (R : ByteArray) (j : Nat) (qs : List ByteArray) (str : ByteArray) : Prop where
  r : S.walkT row (300 - j) qs j str = R
  i : j ≤ 300
  p : ∀ p ∈ qs, p.size ≤ 42 * j + 1
  l : qs.length ≤ 1 + 1068 * j
  s : str.size ≤ 200000 * j
theorem WT.step {S : PS} (hg : Good S) {row : ByteArray → ByteArray} {R : ByteArray} {i : Nat} {ps : List ByteArray} {s p : ByteArray} (h : WT S row R i ps s) (hi : i < 300) (hp : ps[i]? = some p) (hr : (row p).size ≤ 200000) : WT S row R (i + 1) (ps ++ S.kids p) (s ++ row p) := by
  have hb := doo_bound hg (o := opL p) ⟨by show (9 : Int) ≤ 11; omega, by show (11 : Int) ≤ 11; omega⟩
  have hps := h.p p (List.mem_of_getElem? hp)
  refine ⟨?_, by omega, fun q hq => ?_, ?_, ?_⟩
  · rw [← h.r, show 300 - i = (300 - (i + 1)) + 1 by omega]
    show _ = S.walkT row ((300 - (i + 1)) + 1) ps i s
    rw [PS.walkT, hp]
  · rcases List.mem_append.1 hq with h1 | h1
    · have := h.p q h1; omega
    · unfold PS.kids at h1
      obtain ⟨e, he, rfl⟩ := List.mem_map.1 h1
      have h2 := hb.2.2.2.2.2.2.2.2.2 e he
      have h3 := belowB_size p e.1
      omega
  · rw [List.length_append]
    have h1 := hb.2.2.2.2.2.2.2.2.1
    have h2 : (S.kids p).length = (S.doo (opL p)).2.ents.length := by unfold PS.kids PS.aL; rw [List.length_map]
    have := h.l
    omega
  · rw [ByteArray.size_append]
    have := h.s
    omega
theorem WT.stop {S : PS} {row : ByteArray → ByteArray} {R : ByteArray} {i : Nat} {ps : List ByteArray} {s : ByteArray} (h : WT S row R i ps s) (hi : ps.length ≤ i ∨ 300 ≤ i) : s = R := by
  rw [← h.r]
  by_cases h3 : i < 300
  · have hl : ps.length ≤ i := by omega
    rw [show 300 - i = (300 - (i + 1)) + 1 by omega]
    rw [PS.walkT, List.getElem?_eq_none hl]
  · rw [show 300 - i = 0 by omega]
    rfl
theorem WT.start (S : PS) (row : ByteArray → ByteArray) : WT S row (S.walkT row 300 [slash] 0 emp) 0 [slash] emp := ⟨rfl, by omega, fun p hp => by simp at hp; subst hp; exact Nat.le_refl _, by simp, Nat.zero_le _⟩
theorem rowL_size {S : PS} (hg : Good S) {p : ByteArray} (hp : p.size ≤ 20000) : (S.rowL p).size ≤ 200000 := by
  have h1 := doo_bound hg (o := opS p) ⟨by show (9 : Int) ≤ 10; omega, by show (10 : Int) ≤ 11; omega⟩
  have h2 := doo_bound hg (o := opR p) ⟨by show (9 : Int) ≤ 9; omega, by show (9 : Int) ≤ 11; omega⟩
  have e1 := numZ_some (n := (S.aS p).stat.ino) (by have := h1.1; unfold PS.aS; omega)
  have e2 := numZ_some (n := (S.aS p).stat.kind) (by have := h1.2.1; unfold PS.aS; omega)
  have e3 := numZ_some (n := (S.aS p).stat.links) (by have := h1.2.2.1; unfold PS.aS; omega)
  have e4 : (bytesB (S.aR p).data).size ≤ 131072 := by rw [bytesB_size]; exact h2.2.2.2.2.2.2.1
  have e5 : nlB.size = 1 := rfl
  unfold PS.rowL
  simp only [ByteArray.size_append]
  omega
theorem rowT_size {S : PS} (hg : Good S) {p : ByteArray} (hp : p.size ≤ 20000) : (S.rowT p).size ≤ 200000 := by
  have h1 := doo_bound hg (o := opS p) ⟨by show (9 : Int) ≤ 10; omega, by show (10 : Int) ≤ 11; omega⟩
  have h2 := doo_bound hg (o := opR p) ⟨by show (9 : Int) ≤ 9; omega, by show (9 : Int) ≤ 11; omega⟩
  have e1 := numZ_some (n := (S.aS p).stat.ino) (by have := h1.1; unfold PS.aS; omega)
  have e2 := numZ_some (n := (S.aS p).stat.kind) (by have := h1.2.1; unfold PS.aS; omega)
  have e3 := numZ_some (n := (S.aS p).stat.links) (by have := h1.2.2.1; unfold PS.aS; omega)
  have f1 := numZ_some (n := (S.aS p).stat.size) (by have := h1.2.2.2.1; unfold PS.aS; omega)
  have f2 := numZ_some (n := (S.aS p).stat.made) (by have := h1.2.2.2.2.1; unfold PS.aS; omega)
  have f3 := numZ_some (n := (S.aS p).stat.blocks) (by have := h1.2.2.2.2.2.1; unfold PS.aS; omega)
  have e4 : (bytesB (S.aR p).data).size ≤ 131072 := by rw [bytesB_size]; exact h2.2.2.2.2.2.2.1
  have e5 : nlB.size = 1 := rfl
  unfold PS.rowT
  simp only [ByteArray.size_append]
  omega
/-- what told and listed have in hand -/
structure Tell (w wr : World) (gp bn : Nat) (own : Nat → Option (Int × Nat)) (S : PS) (own' : Nat → Option (Int × Nat)) (L : List (Nat × Array Value)) (pv : Value) (pob : Option Nat) (ps : List ByteArray) (dv : Value) (dob : Option Nat) (data : List Int) (ev : Value) (eob : Option Nat) (ents : List (ByteArray × Int × Int)) : Prop where
  t : TI w wr gp bn own S own' (L.map fun p => (p.1, .cells p.2 37))
  p : RowN 9 1 wr own' pv pob ps.length (strC ps)
  pf : ∀ b, pob = some b → w.heap.size ≤ b
  d : RowN 5 1 wr own' dv dob data.length (byC data)
  e : RowN 98 3 wr own' ev eob ents.length (entC ents)
section
variable {w wr w1 : World} {gp bn : Nat} {own own' own1 : Nat → Option (Int × Nat)} {S : PS} {L : List (Nat × Array Value)} {pv : Value} {pob : Option Nat} {ps : List ByteArray} {dv : Value} {dob : Option Nat} {data : List Int} {ev : Value} {eob : Option Nat} {ents : List (ByteArray × Int × Int)}
theorem Tell.do (h : Tell w wr gp bn own S own' L pv pob ps dv dob data ev eob ents) (hm : Mvd wr w1 gp bn own' S own1) : Tell w w1 gp bn own S own1 L pv pob ps dv dob data ev eob ents :=
  ⟨h.t.do hm, h.p.do hm, h.pf, h.d.do hm, h.e.do hm⟩
theorem Tell.fr (h : Tell w wr gp bn own S own' L pv pob ps dv dob data ev eob ents) (hf : Fr [] wr w1) : Tell w w1 gp bn own S (nrm wr own') L pv pob ps dv dob data ev eob ents :=
  ⟨h.t.fr hf (by simp) (by simp), h.p.fr hf (by simp), h.pf, h.d.fr hf (by simp), h.e.fr hf (by simp)⟩
theorem Tell.box (h : Tell w wr gp bn own S own' L pv pob ps dv dob data ev eob ents) (hf : Fr [] wr w1) {g : Nat} {cs : Array Value} (ho : hat w1 g = some (.cells cs 37)) (hg : wr.heap.size ≤ g) : Tell w w1 gp bn own S (nrm wr own') ((g, cs) :: L) pv pob ps dv dob data ev eob ents :=
  ⟨h.t.add hf ho hg, h.p.fr hf (by simp), h.pf, h.d.fr hf (by simp), h.e.fr hf (by simp)⟩
theorem Tell.boxAt (h : Tell w wr gp bn own S own' L pv pob ps dv dob data ev eob ents) {g : Nat} {cs : Array Value} (hm : (g, cs) ∈ L) : hat wr g = some (.cells cs 37) :=
  (h.t.k (g, .cells cs 37) (List.mem_map.2 ⟨(g, cs), hm, rfl⟩)).1
theorem Tell.sub {L' : List (Nat × Array Value)} (h : Tell w wr gp bn own S own' L pv pob ps dv dob data ev eob ents) (hs : ∀ p ∈ L', p ∈ L) : Tell w wr gp bn own S own' L' pv pob ps dv dob data ev eob ents :=
  ⟨h.t.sub fun p hp => by
    obtain ⟨q, hq, rfl⟩ := List.mem_map.1 hp
    exact List.mem_map.2 ⟨q, hs q hq, rfl⟩, h.p, h.pf, h.d, h.e⟩
theorem rowNil (T : TypeId) (sz : Nat) (w : World) (own : Nat → Option (Int × Nat)) (f : Nat → Value) : RowN T sz w own (.slice none 0 0) none 0 f := ⟨.inl ⟨rfl, rfl, rfl⟩, fun g hg => (nomatch hg)⟩
theorem Tell.bare (h : Tell w wr gp bn own S own' L pv pob ps dv dob data ev eob ents) : Tell w wr gp bn own S own' [] pv pob ps (.slice none 0 0) none [] (.slice none 0 0) none [] :=
  ⟨h.t.sub (by simp), h.p, h.pf, rowNil _ _ _ _ _, rowNil _ _ _ _ _⟩
theorem Tell.setD (h : Tell w wr gp bn own S own' L pv pob ps dv dob data ev eob ents) {dv' : Value} {dob' : Option Nat} {data' : List Int} (h1 : GRow 5 1 wr dv' dob' data'.length (byC data')) (h2 : ∀ g, dob' = some g → own' g = none) : Tell w wr gp bn own S own' L pv pob ps dv' dob' data' ev eob ents := ⟨h.t, h.p, h.pf, ⟨h1, h2⟩, h.e⟩
theorem Tell.setE (h : Tell w wr gp bn own S own' L pv pob ps dv dob data ev eob ents) {ev' : Value} {eob' : Option Nat} {ents' : List (ByteArray × Int × Int)} (h1 : GRow 98 3 wr ev' eob' ents'.length (entC ents')) (h2 : ∀ g, eob' = some g → own' g = none) : Tell w wr gp bn own S own' L pv pob ps dv dob data ev' eob' ents' := ⟨h.t, h.p, h.pf, h.d, ⟨h1, h2⟩⟩
theorem pathCell {g off c : Nat} (h : Tell w wr gp bn own S own' L (.slice (some ⟨g, off, none⟩) ps.length c) (some g) ps dv dob data ev eob ents) {i : Nat} {p : ByteArray} (hi : ps[i]? = some p) : cellOf (off + i) (hat wr g) = some (.string p) := by
  have hlt := (List.getElem?_eq_some_iff.1 hi).1
  obtain ⟨-, -, cs, h1, h2⟩ := h.p.r.rowIn
  rw [h2.cell h1 hlt]
  unfold strC
  rw [List.getD_eq_getElem?_getD, hi]
  rfl
theorem push_big {w : World} {v : Value} {ob : Option Nat} {l : List ByteArray} (h : GRow 9 1 w v ob l.length (strC l)) (hl : l.length ≤ 25000000) (s : ByteArray) (ty : TypeId) :
    ∃ a c w2 ob', (Builtin.append_ #[72, 72] ty #[v, .slice (some ⟨w.heap.size, 0, none⟩) 1 1]).run Tryd.prog (w.alloc (.cells #[.string s] 9)) = .ok (.slice a (l.length + 1) c) w2 ∧
      GRow 9 1 w2 (.slice a (l.length + 1) c) ob' (l ++ [s]).length (strC (l ++ [s])) ∧ Fr ob.toList w w2 ∧ (ob' = ob ∨ ∃ g, ob' = some g ∧ w.heap.size ≤ g) ∧
      ∀ g off c, v = .slice (some ⟨g, off, none⟩) l.length c → ∀ k, k < l.length → cellOf (off + k) (hat w2 g) = some (strC l k) := by
  obtain ⟨inf, hi, hz, his, hib⟩ := info_str
  have hf1 := fr_new w (.cells #[.string s] 9) []
  have hb : GRow 9 1 (w.alloc (.cells #[.string s] 9)) (.slice (some ⟨w.heap.size, 0, none⟩) 1 1) (some w.heap.size) 1 (fun _ => .string s) := .inr ⟨w.heap.size, 0, 1, #[.string s], rfl, rfl, (hopN w _).1, by simp, by simp, fun q hq => by
    obtain rfl : q = 0 := by omega
    rfl⟩
  obtain ⟨news, hs, hnw⟩ := hb.src (P := Tryd.prog) Tryd.underlying72 (fun q hq => rfl)
  obtain ⟨v', w2, om', hr, hg, hgr⟩ := run_append_g (P := Tryd.prog) (ST := 72) (sz := 1) Tryd.underlying72 hi hz rfl his hib (h.fr hf1 (by simp)) hs hnw (by omega) (by omega) ty
  obtain ⟨a, c, rfl⟩ := hg.slice
  refine ⟨a, c, w2, om', hr, ?_, (hf1.mono (by simp)).trans hgr.fr, hgr.ob.imp id (fun ⟨g, h1, h2⟩ => ⟨g, h1, Nat.le_trans hf1.size h2⟩), fun g0 off0 c0 hv0 k hk => ?_⟩
  rotate_left
  · rcases hgr.2 with ⟨a1, c1, e1, e2, -, -⟩ | ⟨g1, -, -, hF⟩
    · rw [hv0] at e1
      have q1 := (Value.slice.inj e1).1
      have q2 := (Value.slice.inj e2).1
      rw [q2, ← q1] at hg
      obtain ⟨-, -, cs, h1, h2⟩ := hg.rowIn
      rw [h1]
      show cs[off0 + k]? = _
      rw [h2.f k (by omega)]
      unfold catF
      rw [if_pos (by omega)]
    · rw [hv0] at h
      obtain ⟨-, -, cs, h1, h2⟩ := h.rowIn
      rw [hF.block g0 (Nat.lt_of_lt_of_le (hat_lt h1) hf1.size) (by simp), hf1.block g0 (hat_lt h1) (by simp), h1]
      exact h2.f k (by omega)
  rw [List.length_append]
  refine hg.congr fun q hq => ?_
  unfold catF strC
  rw [Nat.mul_one]
  simp only [List.getD_eq_getElem?_getD]
  by_cases hql : q < l.length
  · rw [if_pos hql, List.getElem?_append_left hql]
  · rw [if_neg hql]
    obtain rfl : q = l.length := by simp at hq; omega
    simp
/-- an append whose run is known, in a region that draws its order -/
theorem step_append_run {P : Program} (w : World) {ops : Array Oper} {o : Oper} {a : Act} {K : Act → World → Prop} {Q : Exit → Act → World → Prop} {E : Prop} (hgd : o.guard = none) (s x : Operand) (t : TypeId)
    (ho : o.op = .call { callee := .builtin .append, args := #[s, x], argTypes := #[t, t] }) (v u : Value) (hs : a.eval s = v) (hx : a.eval x = u) (v' : Value) (w' : World)
    (hr : (Builtin.append_ #[t, t] o.type #[v, u]).run P w = .ok v' w') (h : K (a.put o.dst v') w') : if Region.wanted o (yielded ops a.tmps) = true then Oper.wp P o a w K Q else E := by
  rw [if_pos (wanted_free hgd)]
  unfold Oper.wp
  simp [execOp, ho, resolve, invoke, builtin, hs, hx, hr, Result.andThen]
  exact h
/-- what the row's region reads -/
theorem regS {g off c g1 g3 : Nat} {cs1 cs3 : Array Value} (h : Tell w wr gp bn own S own' L (.slice (some ⟨g, off, none⟩) ps.length c) (some g) ps dv dob data ev eob ents) {i : Nat} {p : ByteArray} (hi : ps[i]? = some p) (m1 : (g1, cs1) ∈ L) (m3 : (g3, cs3) ∈ L) (hb : ∀ b ∈ data, 0 ≤ b ∧ b < 256) :
    cellOf (off + i) (hat wr g) = some (.string p) ∧ hat wr g1 = some (.cells cs1 37) ∧ hat wr g3 = some (.cells cs3 37) ∧ (convert 34 9 dv).run Tryd.prog wr = .ok (.string (bytesB data)) wr :=
  ⟨pathCell h hi, h.boxAt m1, h.boxAt m3, conv_row h.d.r hb⟩
/-- a path more -/
theorem Tell.push (h : Tell w wr gp bn own S own' L pv pob ps dv dob data ev eob ents) (hf : Fr pob.toList wr w1) {pv' : Value} {pob' : Option Nat} {ps' : List ByteArray} (hr : GRow 9 1 w1 pv' pob' ps'.length (strC ps')) (ho : pob' = pob ∨ ∃ g, pob' = some g ∧ wr.heap.size ≤ g) : Tell w w1 gp bn own S (nrm wr own') L pv' pob' ps' dv dob data ev eob ents := by
  have hp : ∀ b ∈ pob.toList, pob = some b := fun b hb => by simpa using hb
  have ne : ∀ b T sz v n f g, b ∈ pob.toList → GRow T sz wr v (some g) n f → T ≠ 9 → g ≠ b := fun b T sz v n f g hb hr hT => by
    have h1 := h.p.r
    rw [hp b hb] at h1
    exact (h1.ne hr (Ne.symm hT)).symm
  refine ⟨h.t.fr hf (fun b hb => ⟨h.pf b (hp b hb), h.p.n b (hp b hb)⟩) (fun q hq hb => ?_), ⟨hr, fun g hg => ?_⟩, fun b hb => ?_, h.d.fr hf (fun g hg hb => ?_), h.e.fr hf (fun g hg hb => ?_)⟩
  · obtain ⟨x, hx, rfl⟩ := List.mem_map.1 hq
    have h1 := h.p.r
    rw [hp _ hb] at h1
    exact h1.ne_obj (h.boxAt (g := x.1) (cs := x.2) hx) (by decide) rfl
  · rcases ho with e | ⟨g', e, hge⟩
    · rw [e] at hg
      exact (nrm_lt (h.p.r.lt g hg)).trans (h.p.n g hg)
    · rw [e] at hg; cases hg
      exact nrm_ge hge
  · rcases ho with e | ⟨g', e, hge⟩
    · rw [e] at hb; exact h.pf b hb
    · rw [e] at hb; cases hb
      exact Nat.le_trans h.t.mv.2.1.size hge
  · have h1 := h.d.r
    rw [hg] at h1
    exact ne g _ _ _ _ _ g hb h1 (by decide) rfl
  · have h1 := h.e.r
    rw [hg] at h1
    exact ne g _ _ _ _ _ g hb h1 (by decide) rfl
end
end Go.Proofs.YteffoihkljkfdaaDoor

/- Do, kind by kind. -/
namespace Go.Proofs.YteffoihkljkfdaaDoor
set_option linter.unusedSimpArgs false
set_option linter.unusedVariables false
open Go.RowKit

theorem may_made {o : OpV} (h : mayZ o = true) : 0 ≤ o.made ∧ o.made ≤ 1099511627776 := by
  by_cases hin : 1 ≤ o.kind ∧ o.kind ≤ 14 ∧ 0 ≤ o.made ∧ o.made ≤ 1099511627776
  · exact ⟨hin.2.2.1, hin.2.2.2⟩
  · rw [may_out hin] at h; cases h
theorem do_create {w : World} {gp bn c : Nat} {S : PS} {A : Int → NA} {own : Nat → Option (Int × Nat)} (h : PW w gp bn c S A own) {o : OpV} (hk : o.kind = 1) {dv : Value} (ho : OpAt w own o dv) {m : Int} (hm : w.cell? ⟨0, 0, none⟩ = some (.int .i64 m)) :
    Calls Tryd.prog 12 #[.pointer (some ⟨gp, 0, none⟩), .agg (opV o dv)] w fun e w' => ∃ own' av, e = .returned av ∧ AnsAt w' w.heap.size own' av (S.do1 o fun l => S.make l 1 o.made).2 ∧ Mvd w w' gp bn own (S.do1 o fun l => S.make l 1 o.made).1 own' :=
  do_with h (by omega) (by omega) (by omega) (by omega) ho hm _ fun w1 fv l hmay h1 h2 h3 h4 => does_create h1 hk (may_made hmay) h2 h3 h4
theorem do_mkdir {w : World} {gp bn c : Nat} {S : PS} {A : Int → NA} {own : Nat → Option (Int × Nat)} (h : PW w gp bn c S A own) {o : OpV} (hk : o.kind = 2) {dv : Value} (ho : OpAt w own o dv) {m : Int} (hm : w.cell? ⟨0, 0, none⟩ = some (.int .i64 m)) :
    Calls Tryd.prog 12 #[.pointer (some ⟨gp, 0, none⟩), .agg (opV o dv)] w fun e w' => ∃ own' av, e = .returned av ∧ AnsAt w' w.heap.size own' av (S.do1 o fun l => S.make l 2 o.made).2 ∧ Mvd w w' gp bn own (S.do1 o fun l => S.make l 2 o.made).1 own' :=
  do_with h (by omega) (by omega) (by omega) (by omega) ho hm _ fun w1 fv l hmay h1 h2 h3 h4 => does_mkdir h1 hk (may_made hmay) h2 h3 h4
theorem do_ask7 {w : World} {gp bn c : Nat} {S : PS} {A : Int → NA} {own : Nat → Option (Int × Nat)} (h : PW w gp bn c S A own) {o : OpV} (hk : o.kind = 7) {dv : Value} (ho : OpAt w own o dv) {m : Int} (hm : w.cell? ⟨0, 0, none⟩ = some (.int .i64 m)) :
    Calls Tryd.prog 12 #[.pointer (some ⟨gp, 0, none⟩), .agg (opV o dv)] w fun e w' => ∃ own' av, e = .returned av ∧ AnsAt w' w.heap.size own' av (S.do1 o (S.asked o)).2 ∧ Mvd w w' gp bn own (S.do1 o (S.asked o)).1 own' :=
  do_with h (by omega) (by omega) (by omega) (by omega) ho hm _ fun w1 fv l hmay h1 h2 h3 h4 => does_ask7 h1 hk (may_made hmay) h2 h3 h4
theorem do_ask9 {w : World} {gp bn c : Nat} {S : PS} {A : Int → NA} {own : Nat → Option (Int × Nat)} (h : PW w gp bn c S A own) {o : OpV} (hk : o.kind = 9) {dv : Value} (ho : OpAt w own o dv) {m : Int} (hm : w.cell? ⟨0, 0, none⟩ = some (.int .i64 m)) :
    Calls Tryd.prog 12 #[.pointer (some ⟨gp, 0, none⟩), .agg (opV o dv)] w fun e w' => ∃ own' av, e = .returned av ∧ AnsAt w' w.heap.size own' av (S.do1 o (S.asked o)).2 ∧ Mvd w w' gp bn own (S.do1 o (S.asked o)).1 own' :=
  do_with h (by omega) (by omega) (by omega) (by omega) ho hm _ fun w1 fv l hmay h1 h2 h3 h4 => does_ask9 h1 hk (may_made hmay) h2 h3 h4
theorem do_ask10 {w : World} {gp bn c : Nat} {S : PS} {A : Int → NA} {own : Nat → Option (Int × Nat)} (h : PW w gp bn c S A own) {o : OpV} (hk : o.kind = 10) {dv : Value} (ho : OpAt w own o dv) {m : Int} (hm : w.cell? ⟨0, 0, none⟩ = some (.int .i64 m)) :
    Calls Tryd.prog 12 #[.pointer (some ⟨gp, 0, none⟩), .agg (opV o dv)] w fun e w' => ∃ own' av, e = .returned av ∧ AnsAt w' w.heap.size own' av (S.do1 o (S.asked o)).2 ∧ Mvd w w' gp bn own (S.do1 o (S.asked o)).1 own' :=
  do_with h (by omega) (by omega) (by omega) (by omega) ho hm _ fun w1 fv l hmay h1 h2 h3 h4 => does_ask10 h1 hk (may_made hmay) h2 h3 h4
/-- the operations of the law's own example -/
def kO1 : OpV := ⟨1, ByteArray.mk #[47, 97], ByteArray.mk #[], 0, 0, [], 5, 0⟩
def kO2 : OpV := ⟨7, ByteArray.mk #[47, 97], ByteArray.mk #[], 130, 0, [120, 121, 122], 0, 0⟩
def kO3 : OpV := ⟨9, ByteArray.mk #[47, 97], ByteArray.mk #[], 128, 99, [], 0, 0⟩
def kO4 : OpV := ⟨2, ByteArray.mk #[47, 97, 47, 98], ByteArray.mk #[], 0, 0, [], 0, 0⟩
def kS0 : PS := newS 40 8
def kR1 : PS × Ans := kS0.do1 kO1 fun l => kS0.make l 1 kO1.made
def kR2 : PS × Ans := kR1.1.do1 kO2 (kR1.1.asked kO2)
def kR3 : PS × Ans := kR2.1.do1 kO3 (kR2.1.asked kO3)
def kR4 : PS × Ans := kR3.1.do1 kO4 fun l => kR3.1.make l 2 kO4.made
end Go.Proofs.YteffoihkljkfdaaDoor

/- The law's own example: plain. -/
namespace Go.Proofs.YteffoihkljkfdaaDoor
set_option linter.unusedSimpArgs false
set_option linter.unusedVariables false
open Go.RowKit
set_option maxRecDepth 100000
set_option maxHeartbeats 4000000
theorem kR1_eq : kR1.2 = ⟨0, ⟨2, 1, 1, 0, 5, 0⟩, [], []⟩ := by kernel_rfl
theorem kR2_code : kR2.2.code = 0 := by kernel_rfl
theorem kR3_eq : kR3.2 = ⟨0, Sta.zero, [0, 0, 120, 121, 122], []⟩ := by kernel_rfl
theorem kR4_code : kR4.2.code = 113 := by kernel_rfl
theorem kR4_room : kR4.1.free = 29 ∧ kR4.1.left = 6 := ⟨by kernel_rfl, by kernel_rfl⟩
end Go.Proofs.YteffoihkljkfdaaDoor

/- known: the walk. -/
namespace Go.Proofs.YteffoihkljkfdaaDoor
set_option linter.unusedSimpArgs false
set_option linter.unusedVariables false
open Go.RowKit

theorem cell0_fr {w w' : World} {m : Int} {own : Nat → Option (Int × Nat)} (h : w.cell? ⟨0, 0, none⟩ = some (.int .i64 m)) (hu : Un own w w') (ho : own 0 = none) : w'.cell? ⟨0, 0, none⟩ = some (.int .i64 m) := by
  rw [cell?_of_hat] at h ⊢
  have hlt : 0 < w.heap.size := by
    rcases Nat.lt_or_ge 0 w.heap.size with h1 | h1
    · exact h1
    · have : hat w 0 = none := Array.getElem?_eq_none h1
      rw [this] at h; cases h
  rw [hu.block 0 hlt ho]
  exact h
theorem cell0_lt {w : World} {m : Int} (h : w.cell? ⟨0, 0, none⟩ = some (.int .i64 m)) : 0 < w.heap.size := by
  rw [cell?_of_hat] at h
  rcases Nat.lt_or_ge 0 w.heap.size with h1 | h1
  · exact h1
  · have : hat w 0 = none := Array.getElem?_eq_none h1
    rw [this] at h; cases h
/-- a plain file system S in world w, at gp; what was there in w0 is nobody's -/
structure Here (w0 w : World) (gp : Nat) (S : PS) (own : Nat → Option (Int × Nat)) : Prop where
  p : ∃ bn c A, PW w gp bn c S A own
  u : Fr [] w0 w
  n : ∀ b, b < w0.heap.size → own b = none
theorem Here.new {w w' : World} {gp : Nat} {S : PS} (h : NewAt w w' gp S) : ∃ own, Here w w' gp S own := by
  obtain ⟨bn, c, A, own, h1, h2, h3⟩ := h
  exact ⟨own, ⟨bn, c, A, h1⟩, fr_below h2 [], h3⟩
theorem Here.fr {w0 w w' : World} {gp : Nat} {S : PS} {own : Nat → Option (Int × Nat)} (h : Here w0 w gp S own) (hf : Fr [] w w') : Here w0 w' gp S (nrm w own) := by
  obtain ⟨bn, c, A, h1⟩ := h.p
  exact ⟨⟨bn, c, A, h1.nrm.fr hf (by simp)⟩, h.u.trans hf, fun b hb => by
    unfold nrm
    split
    · exact h.n b hb
    · rfl⟩
theorem Here.moved {w0 w w' : World} {gp bn : Nat} {S S' : PS} {own own' : Nat → Option (Int × Nat)} (h : Here w0 w gp S own) (hm : Mvd w w' gp bn own S' own') : Here w0 w' gp S' own' := by
  obtain ⟨⟨c', A', h1⟩, h2, h3⟩ := hm
  refine ⟨⟨bn, c', A', h1⟩, ⟨h2.os.trans h.u.os, h2.tape.trans h.u.tape, h2.output.trans h.u.output, Nat.le_trans h.u.size h2.size, fun b hb _ => ?_⟩, fun b hb => ?_⟩
  · exact (h2.block b (Nat.lt_of_lt_of_le hb h.u.size) (h.n b hb)).trans (h.u.block b hb (by simp))
  · exact (h3 b (Nat.lt_of_lt_of_le hb h.u.size)).trans (h.n b hb)
theorem opAt_nil (w : World) (own : Nat → Option (Int × Nat)) (k : Int) (p q : ByteArray) (a b c d : Int) : OpAt w own ⟨k, p, q, a, b, [], c, d⟩ (.slice none 0 0) :=
  ⟨⟨none, .inl ⟨⟨_, _, rfl⟩, rfl, rfl⟩, fun b hb => (nomatch hb)⟩, fun a l c h => by cases h; exact Nat.le_refl _, fun x hx => (nomatch hx), Nat.zero_le _⟩
set_option maxHeartbeats 16000000 in
set_option maxRecDepth 100000 in
theorem known_any {w : World} {m : Int} (hm : w.cell? ⟨0, 0, none⟩ = some (.int .i64 m)) : Calls Tryd.prog 9 #[] w fun e w' => e = .returned (.bool true) ∧ Below w.heap.size w w' := by
  have HM := Lib.hid hm
  have h00 := cell0_lt hm
  have H00 := Lib.hid h00
  have kc := fun (w : World) (C : Array Value) (n c : Nat) => Lib.run_convert_bytes_const (P := Tryd.prog) w 34 5 C n c Tryd.underlying34 Tryd.underlying5
  clear hm h00
  go_enter Tryd.func9, Tryd.ntmps9
  go_wp2_with fail
  refine (new_any (s := 40) (n := 8) (by unfold badS; omega)).mono ?_; rintro e w1 ⟨gp, rfl, hnew⟩
  obtain ⟨own1, hh1⟩ := Here.new hnew
  have HH1 := Lib.hid hh1
  have HM1 := Lib.hid (cell0_fr HM.out (hh1.u.un (own := fun _ => none) (by simp)) rfl)
  clear hnew hh1
  go_wp2_with fail
  obtain ⟨bn1, c1, A1, hp1⟩ := HH1.out.p
  refine (do_create (o := kO1) hp1 rfl (dv := .slice none 0 0) (opAt_nil _ _ _ _ _ _ _ _ _) HM1.out).mono ?_; rintro e w2 ⟨own2, av, rfl, ha, hmv⟩
  have HH2 := Lib.hid (show Here w w2 gp kR1.1 own2 from HH1.out.moved hmv)
  have ha1 : AnsAt w2 w1.heap.size own2 av kR1.2 := ha
  rw [kR1_eq] at ha1
  obtain ⟨dv1, ev1, od1, oe1, rfl, hd1, he1, -⟩ := ha1
  obtain ⟨d1, dc1, rfl⟩ := hd1.slice
  obtain ⟨e1, ec1, rfl⟩ := he1.slice
  have HM2 := Lib.hid (cell0_fr HM.out (HH2.out.u.un (own := fun _ => none) (by simp)) rfl)
  unfold ansV
  simp only [List.length_nil]
  clear ha hmv hp1 hd1 he1
  go_upto_region 5 with fail
  obtain ⟨g1, hg1⟩ : ∃ x, x = w2.heap.size := ⟨_, rfl⟩
  obtain ⟨w3, hw3⟩ : ∃ x, x = w2.alloc (.cells #[.int .i64 0, .int .i64 2, .int .i64 1, .int .i64 1, .int .i64 0, .int .i64 5, .int .i64 0, .slice d1 0 dc1, .slice e1 0 ec1, .bool false] 37) := ⟨_, rfl⟩
  have L1 : hat w3 g1 = some (.cells #[.int .i64 0, .int .i64 2, .int .i64 1, .int .i64 1, .int .i64 0, .int .i64 5, .int .i64 0, .slice d1 0 dc1, .slice e1 0 ec1, .bool false] 37) := by rw [hw3, hg1]; exact (hopN w2 _).1
  have HH3 := Lib.hid (HH2.out.fr (show Fr [] w2 w3 by rw [hw3]; exact fr_new _ _ _))
  have N1 : nrm w2 own2 g1 = none := nrm_ge (by omega)
  rw [← hw3, ← hg1]
  have HL1 := Lib.hid L1
  have HN1 := Lib.hid N1
  clear hw3 hg1 L1 N1
  obtain ⟨gd, hgd⟩ : ∃ x, x = w3.heap.size := ⟨_, rfl⟩
  obtain ⟨w4, hw4⟩ : ∃ x, x = w3.alloc (.cells #[.int .u8 120, .int .u8 121, .int .u8 122] 5 (3, 4)) := ⟨_, rfl⟩
  have hD4 : hat w4 gd = some (.cells #[.int .u8 120, .int .u8 121, .int .u8 122] 5 (3, 4)) := by rw [hw4, hgd]; exact (hopN w3 _).1
  have hf4 : Fr [] w3 w4 := by rw [hw4]; exact fr_new _ _ _
  have HH4 := Lib.hid (HH3.out.fr hf4)
  have HM4 := Lib.hid (cell0_fr HM.out (HH4.out.u.un (own := fun _ => none) (by simp)) rfl)
  have HL14 := Lib.hid ((hf4.block _ (hat_lt HL1.out) (by simp)).trans HL1.out)
  have HN14 := Lib.hid ((nrm_lt (own := nrm w2 own2) (hat_lt HL1.out)).trans HN1.out)
  have HND := Lib.hid (show nrm w3 (nrm w2 own2) gd = none from nrm_ge (by omega))
  have HOP := Lib.hid (show OpAt w4 (nrm w3 (nrm w2 own2)) kO2 (.slice (some ⟨gd, 0, none⟩) 3 3) from ⟨⟨some gd, .inr ⟨gd, 0, 3, _, _, _, rfl, rfl, hD4, fun k x hk => by
    have hk3 : k < 3 := (List.getElem?_eq_some_iff.1 hk).1
    match k, hk3 with
    | 0, _ => cases hk; rfl
    | 1, _ => cases hk; rfl
    | 2, _ => cases hk; rfl⟩, fun b hb => by cases hb; exact HND.out⟩, fun a l c h => by cases h; exact Nat.le_refl _, by decide, by decide⟩)
  clear hD4 hf4
  go_wp2_with fail
  rw [← hw4, ← hgd]
  clear hw4 hgd
  obtain ⟨bn4, c4, A4, hp4⟩ := HH4.out.p
  refine (do_ask7 (o := kO2) hp4 rfl (dv := .slice (some ⟨gd, 0, none⟩) 3 3) HOP.out HM4.out).mono ?_; rintro e w5 ⟨own5, av, rfl, ha, hmv⟩
  have HH5 := Lib.hid (show Here w w5 gp kR2.1 own5 from HH4.out.moved hmv)
  have HL15 := Lib.hid ((hmv.2.1.block g1 (hat_lt HL14.out) HN14.out).trans HL14.out)
  have HN15 := Lib.hid ((hmv.2.2 g1 (hat_lt HL14.out)).trans HN14.out)
  have ha2 : AnsAt w5 w4.heap.size own5 av kR2.2 := ha
  obtain ⟨dv2, ev2, od2, oe2, rfl, hd2, he2, -⟩ := ha2
  obtain ⟨d2, dc2, rfl⟩ := hd2.slice
  obtain ⟨e2, ec2, rfl⟩ := he2.slice
  unfold ansV
  rw [kR2_code]
  generalize kR2.2.stat = st2
  generalize kR2.2.data.length = n2
  generalize kR2.2.ents.length = m2
  obtain ⟨x1, x2, x3, x4, x5, x6⟩ := st2
  simp only
  clear ha hmv hp4 hd2 he2
  go_upto_region 6 with fail
  obtain ⟨g2, hg2⟩ : ∃ x, x = w5.heap.size := ⟨_, rfl⟩
  obtain ⟨w6, hw6⟩ : ∃ x, x = w5.alloc (.cells #[.int .i64 0, .int .i64 x1, .int .i64 x2, .int .i64 x3, .int .i64 x4, .int .i64 x5, .int .i64 x6, .slice d2 n2 dc2, .slice e2 m2 ec2, .bool false] 37) := ⟨_, rfl⟩
  have hf6 : Fr [] w5 w6 := by rw [hw6]; exact fr_new _ _ _
  have HH6 := Lib.hid (HH5.out.fr hf6)
  have HM6 := Lib.hid (cell0_fr HM.out (HH6.out.u.un (own := fun _ => none) (by simp)) rfl)
  have HL16 := Lib.hid ((hf6.block _ (hat_lt HL15.out) (by simp)).trans HL15.out)
  have HN16 := Lib.hid ((nrm_lt (own := own5) (hat_lt HL15.out)).trans HN15.out)
  have HL26 := Lib.hid (show hat w6 g2 = some (.cells #[.int .i64 0, .int .i64 x1, .int .i64 x2, .int .i64 x3, .int .i64 x4, .int .i64 x5, .int .i64 x6, .slice d2 n2 dc2, .slice e2 m2 ec2, .bool false] 37) by rw [hw6, hg2]; exact (hopN w5 _).1)
  have HN26 := Lib.hid (show nrm w5 own5 g2 = none from nrm_ge (by omega))
  rw [← hw6, ← hg2]
  clear hw6 hg2 hf6
  go_wp2_with fail
  obtain ⟨bn6, c6, A6, hp6⟩ := HH6.out.p
  refine (do_ask9 (o := kO3) hp6 rfl (dv := .slice none 0 0) (opAt_nil _ _ _ _ _ _ _ _ _) HM6.out).mono ?_; rintro e w7 ⟨own7, av, rfl, ha, hmv⟩
  have HH7 := Lib.hid (show Here w w7 gp kR3.1 own7 from HH6.out.moved hmv)
  have HL17 := Lib.hid ((hmv.2.1.block g1 (hat_lt HL16.out) HN16.out).trans HL16.out)
  have HN17 := Lib.hid ((hmv.2.2 g1 (hat_lt HL16.out)).trans HN16.out)
  have HL27 := Lib.hid ((hmv.2.1.block g2 (hat_lt HL26.out) HN26.out).trans HL26.out)
  have HN27 := Lib.hid ((hmv.2.2 g2 (hat_lt HL26.out)).trans HN26.out)
  have ha3 : AnsAt w7 w6.heap.size own7 av kR3.2 := ha
  rw [kR3_eq] at ha3
  obtain ⟨dv3, ev3, od3, oe3, rfl, hd3, he3, hn3⟩ := ha3
  obtain ⟨d3, dc3, rfl⟩ := hd3.slice
  obtain ⟨e3, ec3, rfl⟩ := he3.slice
  have HD3 := Lib.hid hd3
  have HN3 := Lib.hid (fun g (hg : od3 = some g) => (hn3 g (.inl hg)).2)
  unfold ansV Sta.zero
  simp only [List.length_nil, List.length_cons]
  clear ha hmv hp6 hd3 he3 hn3
  go_upto_region 7 with fail
  obtain ⟨g3, hg3⟩ : ∃ x, x = w7.heap.size := ⟨_, rfl⟩
  obtain ⟨w8, hw8⟩ : ∃ x, x = w7.alloc (.cells #[.int .i64 0, .int .i64 0, .int .i64 0, .int .i64 0, .int .i64 0, .int .i64 0, .int .i64 0, .slice d3 5 dc3, .slice e3 0 ec3, .bool false] 37) := ⟨_, rfl⟩
  have hf8 : Fr [] w7 w8 := by rw [hw8]; exact fr_new _ _ _
  have HH8 := Lib.hid (HH7.out.fr hf8)
  have HM8 := Lib.hid (cell0_fr HM.out (HH8.out.u.un (own := fun _ => none) (by simp)) rfl)
  have HL18 := Lib.hid ((hf8.block _ (hat_lt HL17.out) (by simp)).trans HL17.out)
  have HN18 := Lib.hid ((nrm_lt (own := own7) (hat_lt HL17.out)).trans HN17.out)
  have HL28 := Lib.hid ((hf8.block _ (hat_lt HL27.out) (by simp)).trans HL27.out)
  have HN28 := Lib.hid ((nrm_lt (own := own7) (hat_lt HL27.out)).trans HN27.out)
  have HD8 := Lib.hid (HD3.out.fr hf8 (by simp))
  have HN8 := Lib.hid (fun g (hg : od3 = some g) => (nrm_lt (own := own7) (HD3.out.lt g hg)).trans (HN3.out g hg))
  have HL38 := Lib.hid (show hat w8 g3 = some (.cells #[.int .i64 0, .int .i64 0, .int .i64 0, .int .i64 0, .int .i64 0, .int .i64 0, .int .i64 0, .slice d3 5 dc3, .slice e3 0 ec3, .bool false] 37) by rw [hw8, hg3]; exact (hopN w7 _).1)
  have HN38 := Lib.hid (show nrm w7 own7 g3 = none from nrm_ge (by omega))
  have hw8' : w8 = w7.alloc (.cells #[.int .i64 0, .int .i64 0, .int .i64 0, .int .i64 0, .int .i64 0, .int .i64 0, .int .i64 0, .slice d3 (0 + 1 + 1 + 1 + 1 + 1) dc3, .slice e3 0 ec3, .bool false] 37) := hw8
  first
    | rw [← hw8, ← hg3]
    | rw [← hw8', ← hg3]
  clear hw8 hg3 hf8 hw8'
  go_wp2_with fail
  obtain ⟨bn8, c8, A8, hp8⟩ := HH8.out.p
  refine (do_mkdir (o := kO4) hp8 rfl (dv := .slice none 0 0) (opAt_nil _ _ _ _ _ _ _ _ _) HM8.out).mono ?_; rintro e w9 ⟨own9, av, rfl, ha, hmv⟩
  have HH9 := Lib.hid (show Here w w9 gp kR4.1 own9 from HH8.out.moved hmv)
  have HL19 := Lib.hid ((hmv.2.1.block g1 (hat_lt HL18.out) HN18.out).trans HL18.out)
  have HL29 := Lib.hid ((hmv.2.1.block g2 (hat_lt HL28.out) HN28.out).trans HL28.out)
  have HL39 := Lib.hid ((hmv.2.1.block g3 (hat_lt HL38.out) HN38.out).trans HL38.out)
  have HD9 : Hid (BRow w9 (.slice d3 5 dc3) od3 [0, 0, 120, 121, 122]) := Lib.hid (by
    have h1 : BRow w8 (.slice d3 5 dc3) od3 [0, 0, 120, 121, 122] := GRow.brow HD8.out
    rcases h1 with h1 | ⟨g, off, c, cs, T, fr, e1, e2, e3, e4⟩
    · exact .inl h1
    · exact .inr ⟨g, off, c, cs, T, fr, e1, e2, (hmv.2.1.block g (hat_lt e3) (HN8.out g e2)).trans e3, e4⟩)
  have ha4 : AnsAt w9 w8.heap.size own9 av kR4.2 := ha
  obtain ⟨dv4, ev4, od4, oe4, rfl, hd4, he4, -⟩ := ha4
  obtain ⟨d4, dc4, rfl⟩ := hd4.slice
  obtain ⟨e4, ec4, rfl⟩ := he4.slice
  unfold ansV
  rw [kR4_code]
  generalize kR4.2.stat = st4
  generalize kR4.2.data.length = n4
  generalize kR4.2.ents.length = m4
  obtain ⟨y1, y2, y3, y4, y5, y6⟩ := st4
  simp only
  clear ha hmv hp8 hd4 he4
  go_upto_region 8 with fail
  obtain ⟨g4, hg4⟩ : ∃ x, x = w9.heap.size := ⟨_, rfl⟩
  obtain ⟨wA, hwA⟩ : ∃ x, x = w9.alloc (.cells #[.int .i64 113, .int .i64 y1, .int .i64 y2, .int .i64 y3, .int .i64 y4, .int .i64 y5, .int .i64 y6, .slice d4 n4 dc4, .slice e4 m4 ec4, .bool false] 37) := ⟨_, rfl⟩
  have hfA : Fr [] w9 wA := by rw [hwA]; exact fr_new _ _ _
  have HHA := Lib.hid (HH9.out.fr hfA)
  have hL1 := (hfA.block _ (hat_lt HL19.out) (by simp)).trans HL19.out
  have hL2 := (hfA.block _ (hat_lt HL29.out) (by simp)).trans HL29.out
  have hL3 := (hfA.block _ (hat_lt HL39.out) (by simp)).trans HL39.out
  have hL4 : hat wA g4 = some (.cells #[.int .i64 113, .int .i64 y1, .int .i64 y2, .int .i64 y3, .int .i64 y4, .int .i64 y5, .int .i64 y6, .slice d4 n4 dc4, .slice e4 m4 ec4, .bool false] 37) := by rw [hwA, hg4]; exact (hopN w9 _).1
  have HDA := Lib.hid (HD9.out.fr hfA (by simp))
  rw [← hwA, ← hg4]
  clear hwA hg4 hfA
  have l1 := hat_lt hL1
  have l2 := hat_lt hL2
  have l3 := hat_lt hL3
  have l4 := hat_lt hL4
  have hld : ∀ (raw : Result Value) (w : World) (T : TypeId) (fr : Nat × Nat), ldRow raw 6 1 w (some (.cells #[.int .i64 0, .int .i64 2, .int .i64 1, .int .i64 1, .int .i64 0, .int .i64 5, .int .i64 0, .slice d1 0 dc1, .slice e1 0 ec1, .bool false] T fr)) = .ok (.agg #[.int .i64 2, .int .i64 1, .int .i64 1, .int .i64 0, .int .i64 5, .int .i64 0]) w := fun raw w T fr => ldRow_part (by show 1 + 6 ≤ 10; omega)
  have hcv : (convert 34 9 (.slice d3 5 dc3)).run Tryd.prog wA = .ok (.string (ByteArray.mk #[0, 0, 120, 121, 122])) wA := by
    rcases HDA.out with ⟨-, -, h0⟩ | ⟨g, off, c, cs, T, fr, e1, e2, e3, e4⟩
    · cases h0
    · injection e1 with q1 q2 q3
      subst q1 q3
      refine run_convert_bytes_back (P := Tryd.prog) wA 34 9 5 ⟨g, off, none⟩ dc3 [0, 0, 120, 121, 122] Tryd.underlying34 Tryd.underlying5 Tryd.underlying9 (fun j hj => ?_)
      rw [add_none, cell_hat e3]
      have hj5 : j < 5 := hj
      match j, hj5 with
      | 0, _ => exact e4 0 _ rfl
      | 1, _ => exact e4 1 _ rfl
      | 2, _ => exact e4 2 _ rfl
      | 3, _ => exact e4 3 _ rfl
      | 4, _ => exact e4 4 _ rfl
  go_wp2_with fail
  obtain ⟨bnA, cA, AA, hpA⟩ := HHA.out.p
  refine (room_any hpA.t hpA.o).mono ?_; rintro e wB ⟨rfl, hbB⟩
  rw [kR4_room.1, kR4_room.2]
  have HFB := Lib.hid (HHA.out.u.trans (fr_below hbB []))
  clear hpA hbB
  go_wp2_with fail
  go_ret
  exact ⟨rfl, HFB.out.bl⟩
end Go.Proofs.YteffoihkljkfdaaDoor

/- told: the walk. -/
namespace Go.Proofs.YteffoihkljkfdaaDoor
set_option linter.unusedSimpArgs false
set_option linter.unusedVariables false
open Go.RowKit

set_option maxHeartbeats 16000000 in
set_option maxRecDepth 100000 in
theorem told_any {w : World} {gp bn c : Nat} {S : PS} {A : Int → NA} {own : Nat → Option (Int × Nat)} (h : PW w gp bn c S A own) (hg : Good S) {m : Int} (hm : w.cell? ⟨0, 0, none⟩ = some (.int .i64 m)) (h0 : own 0 = none) :
    Calls Tryd.prog 23 #[.pointer (some ⟨gp, 0, none⟩)] w fun e w' => e = .returned (.string S.toldT) ∧ ∃ own', Mvd w w' gp bn own S own' := by
  have H := Lib.hid h
  have HM := Lib.hid hm
  have H0 := Lib.hid h0
  obtain ⟨R, hR⟩ : ∃ x, x = S.walkT S.rowT 300 [slash] 0 emp := ⟨_, rfl⟩
  have HR := Lib.hid hR
  obtain ⟨w0, hw0⟩ : ∃ x, x = w.alloc (.cells #[.string slash] 9) := ⟨_, rfl⟩
  obtain ⟨g0, hg0⟩ : ∃ x, x = w.heap.size := ⟨_, rfl⟩
  have HT0 := Lib.hid (show Tell w w0 gp bn own S (nrm w own) [] (.slice (some ⟨g0, 0, none⟩) 1 1) (some g0) [slash] (.slice none 0 0) none [] (.slice none 0 0) none [] from
    ⟨(TI.start h).fr (show Fr [] w w0 by rw [hw0]; exact fr_new _ _ _) (by simp) (by simp), ⟨.inr ⟨g0, 0, 1, #[.string slash], rfl, rfl, by rw [hw0, hg0]; exact (hopN w _).1, by simp, by simp, fun q hq => by
      obtain rfl : q = 0 := by simp at hq; omega
      rfl⟩, fun b hb => by cases hb; exact nrm_ge (by omega)⟩, fun b hb => by cases hb; omega, rowNil _ _ _ _ _, rowNil _ _ _ _ _⟩)
  clear h hm h0 hR
  go_enter Tryd.func23, Tryd.ntmps23
  go_upto_region 3 with fail
  have hw0' : w0 = w.alloc (.cells #[.string (ByteArray.mk #[47])] 9) := hw0
  rw [← hw0', ← hg0]
  clear hw0' hw0 hg0
  go_wp2_with fail
  go_loopw [3, 4, 5] (fun v3 v4 v5 wr => ∃ (i : Nat) (ps : List ByteArray) (s : ByteArray) (a : Option Addr) (c : Nat) (ob : Option Nat) (own' : Nat → Option (Int × Nat)), v3 = .string s ∧ v4 = .slice a ps.length c ∧ v5 = .int .i64 i ∧ Hid (Tell w wr gp bn own S own' [] (.slice a ps.length c) ob ps (.slice none 0 0) none [] (.slice none 0 0) none []) ∧ Hid (WT S S.rowT R i ps s)) (fun _ _ v5 _ => 300 - (intOf v5).toNat)
  case atStart => exact ⟨0, [slash], emp, some ⟨g0, 0, none⟩, 1, some g0, nrm w own, rfl, rfl, rfl, HT0, Lib.hid (by rw [HR.out]; exact WT.start S _)⟩
  case round =>
    obtain ⟨i, ps, s, a, c, ob, own', rfl, rfl, rfl, HT, HW⟩ := hrel
    have hi300 := HW.out.i
    by_cases hlt : i < ps.length ∧ i < 300
    · obtain ⟨hlt, h300⟩ := hlt
      have hk1 : (i : Int) < (ps.length : Int) := by omega
      have hk0 : (0 : Int) ≤ (i : Int) := by omega
      have hk3 : (i : Int) < 300 := by omega
      obtain ⟨p, hpk⟩ := getElem_opt hlt
      have HPK := Lib.hid hpk
      have HPS := Lib.hid (show p.size ≤ 20000 by have := HW.out.p p (List.mem_of_getElem? hpk); omega)
      have HBS := Lib.hid (doo_bound hg (o := opS p) ⟨by show (9 : Int) ≤ 10; omega, by show (10 : Int) ≤ 11; omega⟩)
      have HBL := Lib.hid (doo_bound hg (o := opL p) ⟨by show (9 : Int) ≤ 11; omega, by show (11 : Int) ≤ 11; omega⟩)
      have HBR := Lib.hid (doo_bound hg (o := opR p) ⟨by show (9 : Int) ≤ 9; omega, by show (9 : Int) ≤ 11; omega⟩)
      obtain ⟨g, off, rfl, rfl⟩ : ∃ g off, a = some ⟨g, off, none⟩ ∧ ob = some g := by
        rcases HT.out.p.r with ⟨-, -, h0⟩ | ⟨g, off, c', cs, e, h2, -⟩
        · omega
        · injection e with e1 e2 e3; exact ⟨g, off, e1, h2⟩
      have hcx : cellOf (off + i) (hat wr g) = some (.string p) := pathCell HT.out HPK.out
      have hgl : g < wr.heap.size := HT.out.p.r.lt g rfl
      have H300 := Lib.hid h300
      clear hpk hlt h300
      go_wp2_with fail
      obtain ⟨c1, A1, hp1⟩ := HT.out.t.mv.1
      have HM1 := Lib.hid (cell0_fr HM.out HT.out.t.mv.2.1 H0.out)
      refine (do_any hp1 hg (o := opS p) (dv := .slice none 0 0) (opAt_nil _ _ _ _ _ _ _ _ _) HM1.out).mono ?_; rintro e v1 ⟨own1, av, rfl, ha, hmv⟩
      rw [doo_same (o := opS p) (.inr (show (9 : Int) ≤ 10 by omega))] at hmv
      have HT := Lib.hid (HT.out.do hmv)
      have HA1 := Lib.hid ha
      obtain ⟨dv1, ev1, od1, oe1, rfl, hd1, he1, hn1⟩ := ha
      have HDE1 := Lib.hid (show GRow 5 1 v1 dv1 od1 (S.aS p).data.length (byC (S.aS p).data) ∧ GRow 98 3 v1 ev1 oe1 (S.aS p).ents.length (entC (S.aS p).ents) ∧ ∀ g, od1 = some g ∨ oe1 = some g → own1 g = none from ⟨hd1, he1, fun g hg => (hn1 g hg).2⟩)
      obtain ⟨d1, dc1, hdv⟩ := hd1.slice
      obtain ⟨e1, ec1, hev⟩ := he1.slice
      rw [show (S.doo (opS p)).2.data.length = (S.aS p).data.length from rfl] at hdv
      rw [show (S.doo (opS p)).2.ents.length = (S.aS p).ents.length from rfl] at hev
      subst hdv hev
      have hone : oneAll #[.int .i64 (S.aS p).code, .int .i64 (S.aS p).stat.ino, .int .i64 (S.aS p).stat.kind, .int .i64 (S.aS p).stat.links, .int .i64 (S.aS p).stat.size, .int .i64 (S.aS p).stat.made, .int .i64 (S.aS p).stat.blocks, .slice d1 (S.aS p).data.length dc1, .slice e1 (S.aS p).ents.length ec1, .bool false] = true := by simp [oneAll, Value.oneCell']
      have hav : ansV (S.doo (opS p)).2 (.slice d1 (S.aS p).data.length dc1) (.slice e1 (S.aS p).ents.length ec1) = #[.int .i64 (S.aS p).code, .int .i64 (S.aS p).stat.ino, .int .i64 (S.aS p).stat.kind, .int .i64 (S.aS p).stat.links, .int .i64 (S.aS p).stat.size, .int .i64 (S.aS p).stat.made, .int .i64 (S.aS p).stat.blocks, .slice d1 (S.aS p).data.length dc1, .slice e1 (S.aS p).ents.length ec1, .bool false] := rfl
      rw [hav]
      clear hav hmv hp1 hd1 he1 hn1
      go_upto_region 7 with fail
      obtain ⟨g1, hg1⟩ : ∃ x, x = v1.heap.size := ⟨_, rfl⟩
      obtain ⟨u1, hu1⟩ : ∃ x, x = v1.alloc (.cells #[.int .i64 (S.aS p).code, .int .i64 (S.aS p).stat.ino, .int .i64 (S.aS p).stat.kind, .int .i64 (S.aS p).stat.links, .int .i64 (S.aS p).stat.size, .int .i64 (S.aS p).stat.made, .int .i64 (S.aS p).stat.blocks, .slice d1 (S.aS p).data.length dc1, .slice e1 (S.aS p).ents.length ec1, .bool false] 37) := ⟨_, rfl⟩
      have HT := Lib.hid (HT.out.box (show Fr [] v1 u1 by rw [hu1]; exact fr_new _ _ _) (show hat u1 g1 = some (.cells #[.int .i64 (S.aS p).code, .int .i64 (S.aS p).stat.ino, .int .i64 (S.aS p).stat.kind, .int .i64 (S.aS p).stat.links, .int .i64 (S.aS p).stat.size, .int .i64 (S.aS p).stat.made, .int .i64 (S.aS p).stat.blocks, .slice d1 (S.aS p).data.length dc1, .slice e1 (S.aS p).ents.length ec1, .bool false] 37) by rw [hu1, hg1]; exact (hopN v1 _).1) (by omega))
      rw [← hu1, ← hg1]
      clear hu1 hg1 hone
      have hcx : cellOf (off + i) (hat u1 g) = some (.string p) := pathCell HT.out HPK.out
      have hgl : g < u1.heap.size := HT.out.p.r.lt g rfl
      clear hcx hgl
      have hcx : cellOf (off + i) (hat u1 g) = some (.string p) := pathCell HT.out HPK.out
      go_wp2_with fail
      obtain ⟨c2, A2, hp2⟩ := HT.out.t.mv.1
      have HM2 := Lib.hid (cell0_fr HM.out HT.out.t.mv.2.1 H0.out)
      refine (do_any hp2 hg (o := opL p) (dv := .slice none 0 0) (opAt_nil _ _ _ _ _ _ _ _ _) HM2.out).mono ?_; rintro e v2 ⟨own2, av, rfl, ha, hmv⟩
      rw [doo_same (o := opL p) (.inr (show (9 : Int) ≤ 11 by omega))] at hmv
      have HT := Lib.hid (HT.out.do hmv)
      have HA2 := Lib.hid ha
      obtain ⟨dv2, ev2, od2, oe2, rfl, hd2, he2, hn2⟩ := ha
      have HDE2 := Lib.hid (show GRow 5 1 v2 dv2 od2 (S.aL p).data.length (byC (S.aL p).data) ∧ GRow 98 3 v2 ev2 oe2 (S.aL p).ents.length (entC (S.aL p).ents) ∧ ∀ g, od2 = some g ∨ oe2 = some g → own2 g = none from ⟨hd2, he2, fun g hg => (hn2 g hg).2⟩)
      obtain ⟨d2, dc2, hdv⟩ := hd2.slice
      obtain ⟨e2, ec2, hev⟩ := he2.slice
      rw [show (S.doo (opL p)).2.data.length = (S.aL p).data.length from rfl] at hdv
      rw [show (S.doo (opL p)).2.ents.length = (S.aL p).ents.length from rfl] at hev
      subst hdv hev
      have hone : oneAll #[.int .i64 (S.aL p).code, .int .i64 (S.aL p).stat.ino, .int .i64 (S.aL p).stat.kind, .int .i64 (S.aL p).stat.links, .int .i64 (S.aL p).stat.size, .int .i64 (S.aL p).stat.made, .int .i64 (S.aL p).stat.blocks, .slice d2 (S.aL p).data.length dc2, .slice e2 (S.aL p).ents.length ec2, .bool false] = true := by simp [oneAll, Value.oneCell']
      have hav : ansV (S.doo (opL p)).2 (.slice d2 (S.aL p).data.length dc2) (.slice e2 (S.aL p).ents.length ec2) = #[.int .i64 (S.aL p).code, .int .i64 (S.aL p).stat.ino, .int .i64 (S.aL p).stat.kind, .int .i64 (S.aL p).stat.links, .int .i64 (S.aL p).stat.size, .int .i64 (S.aL p).stat.made, .int .i64 (S.aL p).stat.blocks, .slice d2 (S.aL p).data.length dc2, .slice e2 (S.aL p).ents.length ec2, .bool false] := rfl
      rw [hav]
      clear hav hmv hp2 hd2 he2 hn2
      go_upto_region 8 with fail
      obtain ⟨g2, hg2⟩ : ∃ x, x = v2.heap.size := ⟨_, rfl⟩
      obtain ⟨u2, hu2⟩ : ∃ x, x = v2.alloc (.cells #[.int .i64 (S.aL p).code, .int .i64 (S.aL p).stat.ino, .int .i64 (S.aL p).stat.kind, .int .i64 (S.aL p).stat.links, .int .i64 (S.aL p).stat.size, .int .i64 (S.aL p).stat.made, .int .i64 (S.aL p).stat.blocks, .slice d2 (S.aL p).data.length dc2, .slice e2 (S.aL p).ents.length ec2, .bool false] 37) := ⟨_, rfl⟩
      have HT := Lib.hid (HT.out.setE HDE2.out.2.1 (fun g hg => HDE2.out.2.2 g (.inr hg)))
      have HT := Lib.hid (HT.out.box (show Fr [] v2 u2 by rw [hu2]; exact fr_new _ _ _) (show hat u2 g2 = some (.cells #[.int .i64 (S.aL p).code, .int .i64 (S.aL p).stat.ino, .int .i64 (S.aL p).stat.kind, .int .i64 (S.aL p).stat.links, .int .i64 (S.aL p).stat.size, .int .i64 (S.aL p).stat.made, .int .i64 (S.aL p).stat.blocks, .slice d2 (S.aL p).data.length dc2, .slice e2 (S.aL p).ents.length ec2, .bool false] 37) by rw [hu2, hg2]; exact (hopN v2 _).1) (by omega))
      rw [← hu2, ← hg2]
      clear hu2 hg2 hone
      have hcx : cellOf (off + i) (hat u2 g) = some (.string p) := pathCell HT.out HPK.out
      have hgl : g < u2.heap.size := HT.out.p.r.lt g rfl
      go_wp2_with fail
      obtain ⟨c3, A3, hp3⟩ := HT.out.t.mv.1
      have HM3 := Lib.hid (cell0_fr HM.out HT.out.t.mv.2.1 H0.out)
      refine (do_any hp3 hg (o := opR p) (dv := .slice none 0 0) (opAt_nil _ _ _ _ _ _ _ _ _) HM3.out).mono ?_; rintro e v3 ⟨own3, av, rfl, ha, hmv⟩
      rw [doo_same (o := opR p) (.inr (show (9 : Int) ≤ 9 by omega))] at hmv
      have HT := Lib.hid (HT.out.do hmv)
      have HA3 := Lib.hid ha
      obtain ⟨dv3, ev3, od3, oe3, rfl, hd3, he3, hn3⟩ := ha
      have HDE3 := Lib.hid (show GRow 5 1 v3 dv3 od3 (S.aR p).data.length (byC (S.aR p).data) ∧ GRow 98 3 v3 ev3 oe3 (S.aR p).ents.length (entC (S.aR p).ents) ∧ ∀ g, od3 = some g ∨ oe3 = some g → own3 g = none from ⟨hd3, he3, fun g hg => (hn3 g hg).2⟩)
      obtain ⟨d3, dc3, hdv⟩ := hd3.slice
      obtain ⟨e3, ec3, hev⟩ := he3.slice
      rw [show (S.doo (opR p)).2.data.length = (S.aR p).data.length from rfl] at hdv
      rw [show (S.doo (opR p)).2.ents.length = (S.aR p).ents.length from rfl] at hev
      subst hdv hev
      have hone : oneAll #[.int .i64 (S.aR p).code, .int .i64 (S.aR p).stat.ino, .int .i64 (S.aR p).stat.kind, .int .i64 (S.aR p).stat.links, .int .i64 (S.aR p).stat.size, .int .i64 (S.aR p).stat.made, .int .i64 (S.aR p).stat.blocks, .slice d3 (S.aR p).data.length dc3, .slice e3 (S.aR p).ents.length ec3, .bool false] = true := by simp [oneAll, Value.oneCell']
      have hav : ansV (S.doo (opR p)).2 (.slice d3 (S.aR p).data.length dc3) (.slice e3 (S.aR p).ents.length ec3) = #[.int .i64 (S.aR p).code, .int .i64 (S.aR p).stat.ino, .int .i64 (S.aR p).stat.kind, .int .i64 (S.aR p).stat.links, .int .i64 (S.aR p).stat.size, .int .i64 (S.aR p).stat.made, .int .i64 (S.aR p).stat.blocks, .slice d3 (S.aR p).data.length dc3, .slice e3 (S.aR p).ents.length ec3, .bool false] := rfl
      rw [hav]
      clear hav hmv hp3 hd3 he3 hn3
      go_upto_region 9 with fail
      obtain ⟨g3, hg3⟩ : ∃ x, x = v3.heap.size := ⟨_, rfl⟩
      obtain ⟨u3, hu3⟩ : ∃ x, x = v3.alloc (.cells #[.int .i64 (S.aR p).code, .int .i64 (S.aR p).stat.ino, .int .i64 (S.aR p).stat.kind, .int .i64 (S.aR p).stat.links, .int .i64 (S.aR p).stat.size, .int .i64 (S.aR p).stat.made, .int .i64 (S.aR p).stat.blocks, .slice d3 (S.aR p).data.length dc3, .slice e3 (S.aR p).ents.length ec3, .bool false] 37) := ⟨_, rfl⟩
      have HT := Lib.hid (HT.out.setD HDE3.out.1 (fun g hg => HDE3.out.2.2 g (.inl hg)))
      have HT := Lib.hid (HT.out.box (show Fr [] v3 u3 by rw [hu3]; exact fr_new _ _ _) (show hat u3 g3 = some (.cells #[.int .i64 (S.aR p).code, .int .i64 (S.aR p).stat.ino, .int .i64 (S.aR p).stat.kind, .int .i64 (S.aR p).stat.links, .int .i64 (S.aR p).stat.size, .int .i64 (S.aR p).stat.made, .int .i64 (S.aR p).stat.blocks, .slice d3 (S.aR p).data.length dc3, .slice e3 (S.aR p).ents.length ec3, .bool false] 37) by rw [hu3, hg3]; exact (hopN v3 _).1) (by omega))
      rw [← hu3, ← hg3]
      clear hu3 hg3 hone
      have hcx : cellOf (off + i) (hat u3 g) = some (.string p) := pathCell HT.out HPK.out
      have hgl : g < u3.heap.size := HT.out.p.r.lt g rfl
      have HT := Lib.hid (HT.out.fr (fr_drew (Fr.refl [] u3)))
      have HRS := Lib.hid (fun (W : World) (ow : Nat → Option (Int × Nat)) (hh : Tell w W gp bn own S ow [(g3, #[.int .i64 (S.aR p).code, .int .i64 (S.aR p).stat.ino, .int .i64 (S.aR p).stat.kind, .int .i64 (S.aR p).stat.links, .int .i64 (S.aR p).stat.size, .int .i64 (S.aR p).stat.made, .int .i64 (S.aR p).stat.blocks, .slice d3 (S.aR p).data.length dc3, .slice e3 (S.aR p).ents.length ec3, .bool false]), (g2, #[.int .i64 (S.aL p).code, .int .i64 (S.aL p).stat.ino, .int .i64 (S.aL p).stat.kind, .int .i64 (S.aL p).stat.links, .int .i64 (S.aL p).stat.size, .int .i64 (S.aL p).stat.made, .int .i64 (S.aL p).stat.blocks, .slice d2 (S.aL p).data.length dc2, .slice e2 (S.aL p).ents.length ec2, .bool false]), (g1, #[.int .i64 (S.aS p).code, .int .i64 (S.aS p).stat.ino, .int .i64 (S.aS p).stat.kind, .int .i64 (S.aS p).stat.links, .int .i64 (S.aS p).stat.size, .int .i64 (S.aS p).stat.made, .int .i64 (S.aS p).stat.blocks, .slice d1 (S.aS p).data.length dc1, .slice e1 (S.aS p).ents.length ec1, .bool false])] (.slice (some ⟨g, off, none⟩) ps.length c) (some g) ps (.slice d3 (S.aR p).data.length dc3) od3 (S.aR p).data (.slice e2 (S.aL p).ents.length ec2) oe2 (S.aL p).ents) => regS hh HPK.out (.tail _ (.tail _ (.head _))) (.head _) HBR.out.2.2.2.2.2.2.2.1)
      have sn := HRS.out _ _ HT.out
      have HN0 := Lib.hid (fun W => numZ_any (n := (S.aS p).stat.ino) (by have := HBS.out.1; unfold PS.aS; omega) W)
      have HN1 := Lib.hid (fun W => numZ_any (n := (S.aS p).stat.kind) (by have := HBS.out.2.1; unfold PS.aS; omega) W)
      have HN2 := Lib.hid (fun W => numZ_any (n := (S.aS p).stat.links) (by have := HBS.out.2.2.1; unfold PS.aS; omega) W)
      have HN3 := Lib.hid (fun W => numZ_any (n := (S.aS p).stat.size) (by have := HBS.out.2.2.2.1; unfold PS.aS; omega) W)
      have HN4 := Lib.hid (fun W => numZ_any (n := (S.aS p).stat.made) (by have := HBS.out.2.2.2.2.1; unfold PS.aS; omega) W)
      have HN5 := Lib.hid (fun W => numZ_any (n := (S.aS p).stat.blocks) (by have := HBS.out.2.2.2.2.2.1; unfold PS.aS; omega) W)
      have hps := HPS.out
      have hss := HW.out.s
      have L0 : ¬ 9223372036854775807 < s.size + p.size := by omega
      have N0 := numZ_some (n := (S.aS p).stat.ino) (by have := HBS.out.1; unfold PS.aS; omega)
      have L1 : ¬ 9223372036854775807 < s.size + p.size + (numZ (S.aS p).stat.ino).size := by omega
      have N1 := numZ_some (n := (S.aS p).stat.kind) (by have := HBS.out.2.1; unfold PS.aS; omega)
      have L2 : ¬ 9223372036854775807 < s.size + p.size + (numZ (S.aS p).stat.ino).size + (numZ (S.aS p).stat.kind).size := by omega
      have N2 := numZ_some (n := (S.aS p).stat.links) (by have := HBS.out.2.2.1; unfold PS.aS; omega)
      have L3 : ¬ 9223372036854775807 < s.size + p.size + (numZ (S.aS p).stat.ino).size + (numZ (S.aS p).stat.kind).size + (numZ (S.aS p).stat.links).size := by omega
      have N3 := numZ_some (n := (S.aS p).stat.size) (by have := HBS.out.2.2.2.1; unfold PS.aS; omega)
      have L4 : ¬ 9223372036854775807 < s.size + p.size + (numZ (S.aS p).stat.ino).size + (numZ (S.aS p).stat.kind).size + (numZ (S.aS p).stat.links).size + (numZ (S.aS p).stat.size).size := by omega
      have N4 := numZ_some (n := (S.aS p).stat.made) (by have := HBS.out.2.2.2.2.1; unfold PS.aS; omega)
      have L5 : ¬ 9223372036854775807 < s.size + p.size + (numZ (S.aS p).stat.ino).size + (numZ (S.aS p).stat.kind).size + (numZ (S.aS p).stat.links).size + (numZ (S.aS p).stat.size).size + (numZ (S.aS p).stat.made).size := by omega
      have N5 := numZ_some (n := (S.aS p).stat.blocks) (by have := HBS.out.2.2.2.2.2.1; unfold PS.aS; omega)
      have L6 : ¬ 9223372036854775807 < s.size + p.size + (numZ (S.aS p).stat.ino).size + (numZ (S.aS p).stat.kind).size + (numZ (S.aS p).stat.links).size + (numZ (S.aS p).stat.size).size + (numZ (S.aS p).stat.made).size + (numZ (S.aS p).stat.blocks).size := by omega
      have NB : (bytesB (S.aR p).data).size ≤ 131072 := by rw [bytesB_size]; exact HBR.out.2.2.2.2.2.2.1
      have L7 : ¬ 9223372036854775807 < s.size + p.size + (numZ (S.aS p).stat.ino).size + (numZ (S.aS p).stat.kind).size + (numZ (S.aS p).stat.links).size + (numZ (S.aS p).stat.size).size + (numZ (S.aS p).stat.made).size + (numZ (S.aS p).stat.blocks).size + (bytesB (S.aR p).data).size := by omega
      have L8 : ¬ 9223372036854775807 < s.size + p.size + (numZ (S.aS p).stat.ino).size + (numZ (S.aS p).stat.kind).size + (numZ (S.aS p).stat.links).size + (numZ (S.aS p).stat.size).size + (numZ (S.aS p).stat.made).size + (numZ (S.aS p).stat.blocks).size + (bytesB (S.aR p).data).size + 1 := by omega
      have hnn : ¬ 9223372036854775807 < 0 := by omega
      clear hcx
      go_region_held3 (fun w' => cellOf (off + i) (hat w' g) = some (.string p) ∧ hat w' g1 = some (.cells #[.int .i64 (S.aS p).code, .int .i64 (S.aS p).stat.ino, .int .i64 (S.aS p).stat.kind, .int .i64 (S.aS p).stat.links, .int .i64 (S.aS p).stat.size, .int .i64 (S.aS p).stat.made, .int .i64 (S.aS p).stat.blocks, .slice d1 (S.aS p).data.length dc1, .slice e1 (S.aS p).ents.length ec1, .bool false] 37) ∧ hat w' g3 = some (.cells #[.int .i64 (S.aR p).code, .int .i64 (S.aR p).stat.ino, .int .i64 (S.aR p).stat.kind, .int .i64 (S.aR p).stat.links, .int .i64 (S.aR p).stat.size, .int .i64 (S.aR p).stat.made, .int .i64 (S.aR p).stat.blocks, .slice d3 (S.aR p).data.length dc3, .slice e3 (S.aR p).ents.length ec3, .bool false] 37) ∧ (convert 34 9 (.slice d3 (S.aR p).data.length dc3)).run Tryd.prog w' = .ok (.string (bytesB (S.aR p).data)) w')
        (first | assumption | exact sn | fail)
        (first
          | (with_reducible refine (HN0.out _).mono ?_; rintro e wn ⟨rfl, hbn⟩; have HT := Lib.hid (HT.out.fr (fr_below hbn [])); have sn := HRS.out _ _ HT.out)
          | (with_reducible refine (HN1.out _).mono ?_; rintro e wn ⟨rfl, hbn⟩; have HT := Lib.hid (HT.out.fr (fr_below hbn [])); have sn := HRS.out _ _ HT.out)
          | (with_reducible refine (HN2.out _).mono ?_; rintro e wn ⟨rfl, hbn⟩; have HT := Lib.hid (HT.out.fr (fr_below hbn [])); have sn := HRS.out _ _ HT.out)
          | (with_reducible refine (HN3.out _).mono ?_; rintro e wn ⟨rfl, hbn⟩; have HT := Lib.hid (HT.out.fr (fr_below hbn [])); have sn := HRS.out _ _ HT.out)
          | (with_reducible refine (HN4.out _).mono ?_; rintro e wn ⟨rfl, hbn⟩; have HT := Lib.hid (HT.out.fr (fr_below hbn [])); have sn := HRS.out _ _ HT.out)
          | (with_reducible refine (HN5.out _).mono ?_; rintro e wn ⟨rfl, hbn⟩; have HT := Lib.hid (HT.out.fr (fr_below hbn [])); have sn := HRS.out _ _ HT.out)
          | fail)
      obtain ⟨w9, rfl⟩ : ∃ x, x = wn := ⟨_, rfl⟩
      obtain ⟨s9, hs9⟩ : ∃ x, x = s ++ p ++ numZ (S.aS p).stat.ino ++ numZ (S.aS p).stat.kind ++ numZ (S.aS p).stat.links ++ numZ (S.aS p).stat.size ++ numZ (S.aS p).stat.made ++ numZ (S.aS p).stat.blocks ++ bytesB (S.aR p).data ++ ByteArray.mk #[10] := ⟨_, rfl⟩
      have HS9 := Lib.hid (show s9 = s ++ S.rowT p by rw [hs9]; unfold PS.rowT; simp only [ByteArray.append_assoc]; rfl)
      rw [← hs9]
      have HT9 := Lib.hid (HT.out)
      clear hs9 sn HRS hps hss hnn L0 L1 N0 HN0 L2 N1 HN1 L3 N2 HN2 L4 N3 HN3 L5 N4 HN4 L6 N5 HN5 L7 L8 NB hbn hgl hk3 hk0 hk1
      generalize nrm _ (nrm _ (nrm _ _)) = ow9 at HT9
      go_wp2_with fail
      go_loopw [4, 9] (fun v4 v9 wk => ∃ (k : Nat) (qs : List ByteArray) (a : Option Addr) (c : Nat) (ob : Option Nat) (own2 : Nat → Option (Int × Nat)), v4 = .slice a qs.length c ∧ v9 = .int .i64 k ∧ k ≤ (S.aL p).ents.length ∧ Hid (qs = ps ++ (S.kids p).take k) ∧ Hid (Tell w wk gp bn own S own2 [(g3, #[.int .i64 (S.aR p).code, .int .i64 (S.aR p).stat.ino, .int .i64 (S.aR p).stat.kind, .int .i64 (S.aR p).stat.links, .int .i64 (S.aR p).stat.size, .int .i64 (S.aR p).stat.made, .int .i64 (S.aR p).stat.blocks, .slice d3 (S.aR p).data.length dc3, .slice e3 (S.aR p).ents.length ec3, .bool false]), (g2, #[.int .i64 (S.aL p).code, .int .i64 (S.aL p).stat.ino, .int .i64 (S.aL p).stat.kind, .int .i64 (S.aL p).stat.links, .int .i64 (S.aL p).stat.size, .int .i64 (S.aL p).stat.made, .int .i64 (S.aL p).stat.blocks, .slice d2 (S.aL p).data.length dc2, .slice e2 (S.aL p).ents.length ec2, .bool false]), (g1, #[.int .i64 (S.aS p).code, .int .i64 (S.aS p).stat.ino, .int .i64 (S.aS p).stat.kind, .int .i64 (S.aS p).stat.links, .int .i64 (S.aS p).stat.size, .int .i64 (S.aS p).stat.made, .int .i64 (S.aS p).stat.blocks, .slice d1 (S.aS p).data.length dc1, .slice e1 (S.aS p).ents.length ec1, .bool false])] (.slice a qs.length c) ob qs (.slice d3 (S.aR p).data.length dc3) od3 (S.aR p).data (.slice e2 (S.aL p).ents.length ec2) oe2 (S.aL p).ents)) (fun _ v9 _ => (S.aL p).ents.length - (intOf v9).toNat)
      case atStart => exact ⟨0, ps, _, c, some g, _, rfl, rfl, Nat.zero_le _, Lib.hid (by simp), HT9⟩
      case round =>
        obtain ⟨k, qs, a, c, ob, own2, rfl, rfl, hk, HQ, HT⟩ := hrel
        have hb2 := HT.out.boxAt (.tail _ (.head _))
        have hb2l := hat_lt hb2
        by_cases hlt : k < (S.aL p).ents.length
        · have hk1 : (k : Int) < ((S.aL p).ents.length : Int) := by omega
          have hk0 : (0 : Int) ≤ (k : Int) := by omega
          obtain ⟨en, hen⟩ := getElem_opt hlt
          obtain ⟨nm, ei, ek⟩ := en
          have hqi : qs[i]? = some p := by
            rw [HQ.out, List.getElem?_append_left (List.getElem?_eq_some_iff.1 HPK.out).1]
            exact HPK.out
          have hqp : (i : Int) < (qs.length : Int) := by have := (List.getElem?_eq_some_iff.1 hqi).1; omega
          have hi0 : (0 : Int) ≤ (i : Int) := by omega
          obtain ⟨g, off, rfl, rfl⟩ : ∃ g off, a = some ⟨g, off, none⟩ ∧ ob = some g := by
            rcases HT.out.p.r with ⟨-, -, h0⟩ | ⟨g, off, c', cs, e, h2, -⟩
            · omega
            · injection e with e1 e2 e3; exact ⟨g, off, e1, h2⟩
          obtain ⟨ge, offe, rfl, rfl⟩ : ∃ g off, e2 = some ⟨g, off, none⟩ ∧ oe2 = some g := by
            rcases HT.out.e.r with ⟨-, -, h0⟩ | ⟨g, off, c', cs, e, h2, -⟩
            · omega
            · injection e with e1 e2 e3; exact ⟨g, off, e1, h2⟩
          have HTd := Lib.hid (HT.out.fr (fr_drew (Fr.refl [] wr)))
          have hcn : cellOf (offe + k * 3) (hat wr.drew ge) = some (.string nm) := by
            obtain ⟨-, -, cs, h1, h2⟩ := HTd.out.e.r.rowIn
            rw [h1]
            show cs[offe + k * 3]? = _
            rw [h2.f (k * 3) (by omega)]
            unfold entC
            rw [if_pos (by omega), show k * 3 / 3 = k by omega, List.getD_eq_getElem?_getD, hen]
            rfl
          have hcx : cellOf (off + i) (hat wr.drew g) = some (.string p) := pathCell HTd.out hqi
          have hb2d := HTd.out.boxAt (.tail _ (.head _))
          have sn : cellOf (off + i) (hat wr.drew g) = some (.string p) ∧ hat wr.drew g2 = some (.cells #[.int .i64 (S.aL p).code, .int .i64 (S.aL p).stat.ino, .int .i64 (S.aL p).stat.kind, .int .i64 (S.aL p).stat.links, .int .i64 (S.aL p).stat.size, .int .i64 (S.aL p).stat.made, .int .i64 (S.aL p).stat.blocks, .slice d2 (S.aL p).data.length dc2, .slice (some ⟨ge, offe, none⟩) (S.aL p).ents.length ec2, .bool false] 37) ∧ cellOf (offe + k * 3) (hat wr.drew ge) = some (.string nm) := ⟨hcx, hb2d, hcn⟩
          have hnms := HBL.out.2.2.2.2.2.2.2.2.2 _ (List.mem_of_getElem? hen)
          have HBE := Lib.hid (fun W => below_any p nm W (by have h1 := HPS.out; have h2 := hnms.2; simp only at h2; omega))
          have hql : qs.length ≤ 25000000 := by
            rw [HQ.out, List.length_append, List.length_take]
            have h1 := HW.out.l
            have h2 : (S.kids p).length ≤ 1068 := by unfold PS.kids; rw [List.length_map]; exact HBL.out.2.2.2.2.2.2.2.2.1
            omega
          obtain ⟨a3, c3', w3, ob3, hap, hg3r, hf3, hob3, hold3⟩ := push_big HTd.out.p.r hql (belowB p nm) 72
          have HT3 := Lib.hid (HTd.out.push hf3 hg3r hob3)
          have hap' : (Builtin.append_ #[72, 72] 72 #[.slice (some ⟨g, off, none⟩) qs.length c, .slice (some ⟨wr.heap.size, 0, none⟩) 1 1]).run Tryd.prog (wr.alloc (.cells #[.string (belowB p nm)] 9)).drew = .ok (.slice a3 (qs.length + 1) c3') w3 := hap
          have HAP := Lib.hid hap'
          have HS3 := Lib.hid (show cellOf (off + i) (hat w3 g) = some (.string p) ∧ hat w3 g2 = some (.cells #[.int .i64 (S.aL p).code, .int .i64 (S.aL p).stat.ino, .int .i64 (S.aL p).stat.kind, .int .i64 (S.aL p).stat.links, .int .i64 (S.aL p).stat.size, .int .i64 (S.aL p).stat.made, .int .i64 (S.aL p).stat.blocks, .slice d2 (S.aL p).data.length dc2, .slice (some ⟨ge, offe, none⟩) (S.aL p).ents.length ec2, .bool false] 37) ∧ cellOf (offe + k * 3) (hat w3 ge) = some (.string nm) from by
            refine ⟨?_, HT3.out.boxAt (.tail _ (.head _)), ?_⟩
            · rw [hold3 g off c rfl i (by omega)]
              unfold strC
              rw [List.getD_eq_getElem?_getD, hqi]; rfl
            · obtain ⟨-, -, cs, h1, h2⟩ := HT3.out.e.r.rowIn
              rw [h1]
              show cs[offe + k * 3]? = _
              rw [h2.f (k * 3) (by omega)]
              unfold entC
              rw [if_pos (by omega), show k * 3 / 3 = k by omega, List.getD_eq_getElem?_getD, hen]
              rfl)
          have HSA := Lib.hid (show cellOf (off + i) (hat (wr.alloc (.cells #[.string (belowB p nm)] 9)).drew g) = some (.string p) ∧ hat (wr.alloc (.cells #[.string (belowB p nm)] 9)).drew g2 = some (.cells #[.int .i64 (S.aL p).code, .int .i64 (S.aL p).stat.ino, .int .i64 (S.aL p).stat.kind, .int .i64 (S.aL p).stat.links, .int .i64 (S.aL p).stat.size, .int .i64 (S.aL p).stat.made, .int .i64 (S.aL p).stat.blocks, .slice d2 (S.aL p).data.length dc2, .slice (some ⟨ge, offe, none⟩) (S.aL p).ents.length ec2, .bool false] 37) ∧ cellOf (offe + k * 3) (hat (wr.alloc (.cells #[.string (belowB p nm)] 9)).drew ge) = some (.string nm) from by
            have q1 : hat (wr.alloc (.cells #[.string (belowB p nm)] 9)).drew g = hat wr.drew g := (fr_new wr.drew (.cells #[.string (belowB p nm)] 9) []).block g (HTd.out.p.r.lt g rfl) (by simp)
            have q2 : hat (wr.alloc (.cells #[.string (belowB p nm)] 9)).drew g2 = hat wr.drew g2 := (fr_new wr.drew (.cells #[.string (belowB p nm)] 9) []).block g2 (hat_lt hb2d) (by simp)
            have q3 : hat (wr.alloc (.cells #[.string (belowB p nm)] 9)).drew ge = hat wr.drew ge := (fr_new wr.drew (.cells #[.string (belowB p nm)] 9) []).block ge (HTd.out.e.r.lt ge rfl) (by simp)
            rw [q1, q2, q3]
            exact sn)
          have HQ3 := Lib.hid (show qs ++ [belowB p nm] = ps ++ (S.kids p).take (k + 1) by
            have hkk : (S.kids p)[k]? = some (belowB p nm) := by
              unfold PS.kids
              rw [List.getElem?_map, hen]; rfl
            rw [HQ.out, List.append_assoc, List.take_add_one, hkk]; rfl)
          have HKK := Lib.hid hlt
          have hkb : k ≤ 2000 := by have h2 : (S.aL p).ents.length ≤ 1068 := HBL.out.2.2.2.2.2.2.2.2.1; omega
          clear hold3 hap hap' hg3r hf3 hob3 hnms hql hqi hk hen hcn hcx hb2d hlt
          go_wp2_with fail
          go_region_held3 (fun w' => cellOf (off + i) (hat w' g) = some (.string p) ∧ hat w' g2 = some (.cells #[.int .i64 (S.aL p).code, .int .i64 (S.aL p).stat.ino, .int .i64 (S.aL p).stat.kind, .int .i64 (S.aL p).stat.links, .int .i64 (S.aL p).stat.size, .int .i64 (S.aL p).stat.made, .int .i64 (S.aL p).stat.blocks, .slice d2 (S.aL p).data.length dc2, .slice (some ⟨ge, offe, none⟩) (S.aL p).ents.length ec2, .bool false] 37) ∧ cellOf (offe + k * 3) (hat w' ge) = some (.string nm))
            (first | assumption | exact sn | exact HSA.out | exact HS3.out | fail)
            (first
              | (with_reducible refine (HBE.out _).mono ?_; rintro e wn ⟨rfl, rfl⟩)
              | (refine step_append_run _ (by rfl) _ _ 72 (by rfl) _ _ (by rfl) (by rfl) _ _ HAP.out ?_)
              | fail)
          clear sn
          go_wp2_with fail
          go_roundw
          case rel => exact ⟨k + 1, qs ++ [belowB p nm], a3, c3', ob3, _, by rw [List.length_append, List.length_singleton], by go_num, HKK.out, HQ3, Lib.hid (by
            have h3 := HT3.out
            rw [show qs.length + 1 = (qs ++ [belowB p nm]).length from by rw [List.length_append, List.length_singleton]] at h3
            exact h3)⟩
          case measure =>
            have := HKK.out
            show (S.aL p).ents.length - (k + 1) < (S.aL p).ents.length - k
            omega
        · have hke : k = (S.aL p).ents.length := by omega
          have HW2 := Lib.hid (show WT S S.rowT R (i + 1) qs s9 from by
            have h1 := HW.out.step hg H300.out HPK.out (rowT_size hg HPS.out)
            have h2 : qs = ps ++ S.kids p := by
              rw [HQ.out, List.take_of_length_le (by unfold PS.kids; rw [List.length_map]; omega)]
            rw [h2, HS9.out]
            exact h1)
          have hk1 : ¬ (k : Int) < ((S.aL p).ents.length : Int) := by omega
          clear hke hlt
          go_wp2_with fail
          go_roundw
          case rel => exact ⟨i + 1, qs, s9, a, c, ob, own2, rfl, rfl, by go_num, Lib.hid HT.out.bare, HW2⟩
          case measure =>
            have := H300.out
            show 300 - (i + 1) < 300 - i
            omega
    · have hsR := HW.out.stop (by omega)
      subst hsR
      have hss := HW.out.s
      have HI := Lib.hid hi300
      obtain ⟨c9, A9, hp9⟩ := HT.out.t.mv.1
      have HP9 := Lib.hid hp9
      clear hp9 hi300
      by_cases hk : i < ps.length
      · have hk1 : (i : Int) < (ps.length : Int) := by omega
        have hk3 : ¬ (i : Int) < 300 := by omega
        clear hk hlt
        go_wp2_with fail
        refine (room_any HP9.out.t HP9.out.o).mono ?_; rintro e v9 ⟨rfl, hb9⟩
        have HT := Lib.hid (HT.out.fr (fr_below hb9 []))
        clear hb9 hk1
        go_upto_region 15 with fail
        obtain ⟨gr, hgr⟩ : ∃ x, x = v9.heap.size := ⟨_, rfl⟩
        obtain ⟨u9, hu9⟩ : ∃ x, x = v9.alloc (.cells #[.int .i64 S.free, .int .i64 0, .int .i64 S.left] 42) := ⟨_, rfl⟩
        have HT := Lib.hid (HT.out.fr (show Fr [] v9 u9 by rw [hu9]; exact fr_new _ _ _))
        have pr : hat u9.drew gr = some (.cells #[.int .i64 S.free, .int .i64 0, .int .i64 S.left] 42) := by rw [hu9, hgr]; exact (hopN v9 _).1
        have prl : gr < u9.heap.size := hat_lt pr
        rw [← hu9, ← hgr]
        clear hu9 hgr
        have HT := Lib.hid (HT.out.fr (fr_drew (Fr.refl [] u9)))
        have hrb := room_bound hg.o
        have HN0 := Lib.hid (fun W => numZ_any (n := S.free) (by omega) W)
        have HN1 := Lib.hid (fun W => numZ_any (n := 0) (by omega) W)
        have HN2 := Lib.hid (fun W => numZ_any (n := S.left) (by omega) W)
        have N0 := numZ_21 (n := S.free) (by omega)
        have N1 := numZ_21 (n := 0) (by omega)
        have N2 := numZ_21 (n := S.left) (by omega)
        have hil := HI.out
        have L0 : ¬ 9223372036854775807 < s.size + (numZ S.free).size := by omega
        have L1 : ¬ 9223372036854775807 < s.size + (numZ S.free).size + (numZ 0).size := by omega
        have L2 : ¬ 9223372036854775807 < s.size + (numZ S.free).size + (numZ 0).size + (numZ S.left).size := by omega
        clear hrb
        go_region_held3 (fun w' => hat w' gr = some (.cells #[.int .i64 S.free, .int .i64 0, .int .i64 S.left] 42))
          (first | assumption | fail)
          (first
            | (with_reducible refine (HN0.out _).mono ?_; rintro e wn ⟨rfl, hbn⟩; have HT := Lib.hid (HT.out.fr (fr_below hbn [])); have pr := (hop hbn pr).1)
            | (with_reducible refine (HN1.out _).mono ?_; rintro e wn ⟨rfl, hbn⟩; have HT := Lib.hid (HT.out.fr (fr_below hbn [])); have pr := (hop hbn pr).1)
            | (with_reducible refine (HN2.out _).mono ?_; rintro e wn ⟨rfl, hbn⟩; have HT := Lib.hid (HT.out.fr (fr_below hbn [])); have pr := (hop hbn pr).1)
            | fail)
        clear L0 L1 L2 N0 N1 N2 HN0 HN1 HN2 prl pr hil hss
        go_wp2_with fail
        go_ret
        exact ⟨by unfold PS.toldT; rw [← HR.out]; rfl, _, HT.out.t.mv⟩
      · have hk1 : ¬ (i : Int) < (ps.length : Int) := by omega
        clear hk hlt
        go_wp2_with fail
        refine (room_any HP9.out.t HP9.out.o).mono ?_; rintro e v9 ⟨rfl, hb9⟩
        have HT := Lib.hid (HT.out.fr (fr_below hb9 []))
        clear hb9 hk1
        go_upto_region 15 with fail
        obtain ⟨gr, hgr⟩ : ∃ x, x = v9.heap.size := ⟨_, rfl⟩
        obtain ⟨u9, hu9⟩ : ∃ x, x = v9.alloc (.cells #[.int .i64 S.free, .int .i64 0, .int .i64 S.left] 42) := ⟨_, rfl⟩
        have HT := Lib.hid (HT.out.fr (show Fr [] v9 u9 by rw [hu9]; exact fr_new _ _ _))
        have pr : hat u9.drew gr = some (.cells #[.int .i64 S.free, .int .i64 0, .int .i64 S.left] 42) := by rw [hu9, hgr]; exact (hopN v9 _).1
        have prl : gr < u9.heap.size := hat_lt pr
        rw [← hu9, ← hgr]
        clear hu9 hgr
        have HT := Lib.hid (HT.out.fr (fr_drew (Fr.refl [] u9)))
        have hrb := room_bound hg.o
        have HN0 := Lib.hid (fun W => numZ_any (n := S.free) (by omega) W)
        have HN1 := Lib.hid (fun W => numZ_any (n := 0) (by omega) W)
        have HN2 := Lib.hid (fun W => numZ_any (n := S.left) (by omega) W)
        have N0 := numZ_21 (n := S.free) (by omega)
        have N1 := numZ_21 (n := 0) (by omega)
        have N2 := numZ_21 (n := S.left) (by omega)
        have hil := HI.out
        have L0 : ¬ 9223372036854775807 < s.size + (numZ S.free).size := by omega
        have L1 : ¬ 9223372036854775807 < s.size + (numZ S.free).size + (numZ 0).size := by omega
        have L2 : ¬ 9223372036854775807 < s.size + (numZ S.free).size + (numZ 0).size + (numZ S.left).size := by omega
        clear hrb
        go_region_held3 (fun w' => hat w' gr = some (.cells #[.int .i64 S.free, .int .i64 0, .int .i64 S.left] 42))
          (first | assumption | fail)
          (first
            | (with_reducible refine (HN0.out _).mono ?_; rintro e wn ⟨rfl, hbn⟩; have HT := Lib.hid (HT.out.fr (fr_below hbn [])); have pr := (hop hbn pr).1)
            | (with_reducible refine (HN1.out _).mono ?_; rintro e wn ⟨rfl, hbn⟩; have HT := Lib.hid (HT.out.fr (fr_below hbn [])); have pr := (hop hbn pr).1)
            | (with_reducible refine (HN2.out _).mono ?_; rintro e wn ⟨rfl, hbn⟩; have HT := Lib.hid (HT.out.fr (fr_below hbn [])); have pr := (hop hbn pr).1)
            | fail)
        clear L0 L1 L2 N0 N1 N2 HN0 HN1 HN2 prl pr hil hss
        go_wp2_with fail
        go_ret
        exact ⟨by unfold PS.toldT; rw [← HR.out]; rfl, _, HT.out.t.mv⟩
end Go.Proofs.YteffoihkljkfdaaDoor

/- Copy: the walk. -/
namespace Go.Proofs.YteffoihkljkfdaaDoor
set_option linter.unusedSimpArgs false
set_option linter.unusedVariables false
open Go.RowKit

/-- of S the nodes that have been copied -/
def PS.only (S : PS) (vis : Int → Bool) : PS := { S with nodes := fun i => if vis i = true then S.nodes i else none }
theorem only_some {S : PS} {vis : Int → Bool} {i : Int} {n : Nd} (h : (S.only vis).nodes i = some n) : S.nodes i = some n := by
  have h' : (if vis i = true then S.nodes i else none) = some n := h
  split at h'
  · exact h'
  · cases h'
theorem only_all {S : PS} {vis : Int → Bool} (h : ∀ i, (S.nodes i).isSome = true → vis i = true) : S.only vis = S := by
  have e : (S.only vis).nodes = S.nodes := by
    funext i
    show (if vis i = true then S.nodes i else none) = S.nodes i
    cases hn : S.nodes i with
    | none => split <;> rfl
    | some n => rw [if_pos (h i (by rw [hn]; rfl))]
  unfold PS.only at e ⊢
  simp only at e
  rw [e]
/-- what Copy has in hand -/
structure Cpy (w wr : World) (gq bq r c : Nat) (S : PS) (left : Int → Bool) (A : Int → NA) (own : Nat → Option (Int × Nat)) : Prop where
  t : PT wr gq bq c (S.only fun i => !left i) A own
  h : ∀ i n, (S.only fun i => !left i).nodes i = some n → (n.kind = 2 → (A i).nb.isSome = true) ∧ (n.kind = 1 → (A i).db.isSome = true)
  lo : ∀ b, b < w.heap.size ∨ b = r → own b = none
  hi : ∀ b, wr.heap.size ≤ b → own b = none
  fr : Fr [] w wr
/-- a node more -/
theorem Cpy.add {w wr w6 : World} {gq bq r c c6 : Nat} {S : PS} {left : Int → Bool} {A : Int → NA} {own : Nat → Option (Int × Nat)} (h : Cpy w wr gq bq r c S left A own) {i : Int} {n : Nd} (hi : S.nodes i = some n) (hl : left i = true) {an : NA} (hm : MG kInt w6 bq (fun y => if y = i then some (.pointer (some ⟨an.g, 0, none⟩)) else ptrM (S.only fun i => !left i) A y) c6)
    (hN : NodeAt w6 an n) (hf : Fr [bq] wr w6) (hg : wr.heap.size ≤ an.g) (hdb : ∀ b, an.db = some b → wr.heap.size ≤ b ∧ b ≠ an.g) (hsb : ∀ b, an.sb = some b → wr.heap.size ≤ b ∧ b ≠ an.g ∧ an.db ≠ some b) (hnb : ∀ b, an.nb = some b → wr.heap.size ≤ b ∧ b ≠ an.g ∧ an.db ≠ some b ∧ an.sb ≠ some b)
    (hk : (n.kind = 2 → an.nb.isSome = true) ∧ (n.kind = 1 → an.db.isSome = true)) (hbq : w.heap.size ≤ bq ∧ bq ≠ r) (hr : r < wr.heap.size) (hpos : ∀ j, (S.nodes j).isSome = true → 1 ≤ j) :
    ∃ A' own', Cpy w w6 gq bq r c6 S (fun y => left y && !decide (y = i)) A' own' := by
  have hgq := hat_lt h.t.p
  have hbl := h.t.m.lt
  let own' : Nat → Option (Int × Nat) := fun b => if b < wr.heap.size then own b else if b = an.g then some (i, 0) else if an.db = some b then some (i, 1) else if an.sb = some b then some (i, 2) else if an.nb = some b then some (i, 3) else none
  let A' : Int → NA := fun j => if j = i then an else A j
  have ho : ∀ b, b < wr.heap.size → own' b = own b := fun b hb => if_pos hb
  have hnew : ∀ b, wr.heap.size ≤ b → own' b = if b = an.g then some (i, 0) else if an.db = some b then some (i, 1) else if an.sb = some b then some (i, 2) else if an.nb = some b then some (i, 3) else none := fun b hb => if_neg (by omega)
  have hAi : A' i = an := if_pos rfl
  have hAo : ∀ j, j ≠ i → A' j = A j := fun j hj => if_neg hj
  have hnd : ∀ j, (S.only fun y => !(left y && !decide (y = i))).nodes j = if j = i then some n else (S.only fun i => !left i).nodes j := fun j => by
    show (if (!(left j && !decide (j = i))) = true then S.nodes j else none) = if j = i then some n else if (!left j) = true then S.nodes j else none
    by_cases hj : j = i
    · simp [hj, hi]
    · simp [hj]
  have hlt := hN.lts
  refine ⟨A', own', ⟨⟨?_, ?_, fun j m hj => ?_, ⟨(ho _ hgq).trans h.t.op.1, (ho _ hbl).trans h.t.op.2⟩, fun j m hj => ?_⟩, fun j m hj => ?_, fun b hb => ?_, fun b hb => ?_, ?_⟩⟩
  · refine (hf.block gq hgq fun hm => ?_).trans h.t.p
    simp at hm
    have := h.t.op.1
    rw [hm, h.t.op.2] at this
    cases this
  · have e : ptrM (S.only fun y => !(left y && !decide (y = i))) A' = fun y => if y = i then some (.pointer (some ⟨an.g, 0, none⟩)) else ptrM (S.only fun i => !left i) A y := by
      funext y
      show ((S.only _).nodes y).map _ = _
      rw [hnd]
      by_cases hy : y = i
      · rw [if_pos hy, if_pos hy, hy]
        show some (Value.pointer (some ⟨(A' i).g, 0, none⟩)) = _
        rw [hAi]
      · rw [if_neg hy, if_neg hy]
        show ((S.only fun i => !left i).nodes y).map _ = ((S.only fun i => !left i).nodes y).map _
        rw [hAo y hy]
    rw [e]
    exact hm
  · rw [hnd] at hj
    by_cases hji : j = i
    · rw [if_pos hji] at hj; cases hj
      rw [hji, hAi]; exact hN
    · rw [if_neg hji] at hj
      rw [hAo j hji]
      refine h.t.other hj hf fun b hb q hq => ?_
      simp at hb
      rw [hb, h.t.op.2] at hq
      cases hq
      have := hpos j (by rw [only_some hj]; rfl)
      show (-1 : Int) ≠ j
      omega
  · rw [hnd] at hj
    by_cases hji : j = i
    · rw [if_pos hji] at hj; cases hj
      rw [hji, hAi]
      refine ⟨by rw [hnew _ hg, if_pos rfl], fun b hb => ?_, fun b hb => ?_, fun b hb => ?_⟩
      · obtain ⟨e1, e2⟩ := hdb b hb
        rw [hnew _ e1, if_neg e2, if_pos hb]
      · obtain ⟨e1, e2, e3⟩ := hsb b hb
        rw [hnew _ e1, if_neg e2, if_neg e3, if_pos hb]
      · obtain ⟨e1, e2, e3, e4⟩ := hnb b hb
        rw [hnew _ e1, if_neg e2, if_neg e3, if_neg e4, if_pos hb]
    · rw [if_neg hji] at hj
      rw [hAo j hji]
      have hlj := (h.t.n j m hj).lts
      have hoj := h.t.og j m hj
      exact ⟨(ho _ hlj.1).trans hoj.1, fun b hb => (ho _ (hlj.2.1 b hb)).trans (hoj.2.1 b hb), fun b hb => (ho _ (hlj.2.2.1 b hb)).trans (hoj.2.2.1 b hb), fun b hb => (ho _ (hlj.2.2.2 b hb)).trans (hoj.2.2.2 b hb)⟩
  · rw [hnd] at hj
    by_cases hji : j = i
    · rw [if_pos hji] at hj; cases hj
      rw [hji, hAi]; exact hk
    · rw [if_neg hji] at hj
      rw [hAo j hji]
      exact h.h j m hj
  · have hbl : b < wr.heap.size := by
      have := h.fr.size
      rcases hb with hb | hb <;> omega
    rw [ho b hbl]
    exact h.lo b hb
  · have h1 := hf.size
    rw [hnew b (by omega)]
    have e1 : b ≠ an.g := by omega
    have e2 : an.db ≠ some b := fun e => by have := hlt.2.1 b e; omega
    have e3 : an.sb ≠ some b := fun e => by have := hlt.2.2.1 b e; omega
    have e4 : an.nb ≠ some b := fun e => by have := hlt.2.2.2 b e; omega
    rw [if_neg e1, if_neg e2, if_neg e3, if_neg e4]
  · exact ((h.fr.mono (ex' := [bq]) (by simp)).trans hf).past (fun b hb => .inr (by simp at hb; omega))
theorem Cpy.turn {w wr w3 : World} {gq bq r c : Nat} {S : PS} {left : Int → Bool} {A : Int → NA} {own : Nat → Option (Int × Nat)} (h : Cpy w wr gq bq r c S left A own) (hf : Fr [r] wr w3) (hs : w3.heap.size = wr.heap.size) (hr : w.heap.size ≤ r) : Cpy w w3 gq bq r c S left A own :=
  ⟨h.t.fr hf (fun b hb => by simp at hb; exact h.lo b (.inr hb)), h.h, h.lo, fun b hb => h.hi b (by omega), ((h.fr.mono (ex' := [r]) (by simp)).trans hf).past (fun b hb => .inr (by simp at hb; omega))⟩
theorem only_ok {S : PS} (h : POk S) (vis : Int → Bool) : POk (S.only vis) :=
  ⟨h.s, h.i, fun i hi => by
    cases hn : (S.only vis).nodes i with
    | none => rw [hn] at hi; cases hi
    | some n => exact h.k i (by rw [only_some hn]; rfl), fun i n hn => h.n i n (only_some hn)⟩
theorem Cpy.start {w w1 : World} {gp bn gq bq c : Nat} {S : PS} {A : Int → NA} {own : Nat → Option (Int × Nat)} (h : PW w gp bn c S A own) (hq : hat w1 gq = some (.cells #[.int .i64 S.sectors, .int .i64 S.inodes, .map (some bq)] 77)) (hm : MG kInt w1 bq (fun _ => none) 0) (hg : w.heap.size ≤ gq ∧ w.heap.size ≤ bq ∧ gq ≠ bq) (hf : Fr [] w w1) {w2 : World} {r : Nat} (hf2 : Fr [] w1 w2) (hr : w1.heap.size ≤ r) (hl : w1.heap.size ≤ w2.heap.size) :
    ∃ own', Cpy w w2 gq bq r 0 S (fun x => (ptrM S A x).isSome) A own' := by
  have hgl := hat_lt hq
  have hbl := hm.lt
  have hn : ∀ i, (S.only fun i => !(ptrM S A i).isSome).nodes i = none := fun i => by
    show (if (!(ptrM S A i).isSome) = true then S.nodes i else none) = none
    unfold ptrM
    cases S.nodes i <;> simp
  have e : ptrM (S.only fun i => !(ptrM S A i).isSome) A = fun _ => none := by
    funext i
    show ((S.only fun i => !(ptrM S A i).isSome).nodes i).map _ = none
    rw [hn]; rfl
  have hlt2 := hf2.size
  refine ⟨fun b => if b = gq then some (-1, 0) else if b = bq then some (-1, 1) else none, ⟨⟨(hf2.block _ hgl (by simp)).trans hq, by rw [e]; exact hm.fr hf2 (by simp), fun i n hi => (by rw [hn] at hi; cases hi), ⟨if_pos rfl, ?_⟩, fun i n hi => (by rw [hn] at hi; cases hi)⟩, fun i n hi => (by rw [hn] at hi; cases hi), fun b hb => ?_, fun b hb => ?_, hf.trans hf2⟩⟩
  · show (if bq = gq then _ else if bq = bq then _ else _) = _
    rw [if_neg (Ne.symm hg.2.2), if_pos rfl]
  · show (if b = gq then _ else if b = bq then _ else _) = _
    rw [if_neg (by rcases hb with hb | hb <;> omega), if_neg (by rcases hb with hb | hb <;> omega)]
  · show (if b = gq then _ else if b = bq then _ else _) = _
    rw [if_neg (by omega), if_neg (by omega)]
theorem setCell_ne (w : World) (g i : Nat) (v : Value) (n : Nat) (h : n ≠ g) : hat (w.setCell ⟨g, i, none⟩ v) n = hat w n := hat_setCell _ ⟨g, i, none⟩ v n h
set_option maxHeartbeats 16000000 in
set_option maxRecDepth 100000 in
theorem copy_any {w : World} {gp bn c : Nat} {S : PS} {A : Int → NA} {own : Nat → Option (Int × Nat)} (h : PW w gp bn c S A own) :
    Calls Tryd.prog 24 #[.pointer (some ⟨gp, 0, none⟩)] w fun e w' => ∃ gq, e = .returned (.pointer (some ⟨gq, 0, none⟩)) ∧ NewAt w w' gq S := by
  have H := Lib.hid h
  have hp := h.t.p
  have hpl := hat_lt hp
  have hmm := @run_makeMap Tryd.prog
  have hpd : hat w.drew gp = some (.cells #[.int .i64 S.sectors, .int .i64 S.inodes, .map (some bn)] 77) := hp
  have HK1 := Lib.hid (show hat (w.alloc (.map #[] 0)).drew gp = some (.cells #[.int .i64 S.sectors, .int .i64 S.inodes, .map (some bn)] 77) from ((fr_new w (.map #[] 0) []).block gp hpl (by simp)).trans hp)
  have HK2 := Lib.hid (show hat ((w.alloc (.map #[] 0)).alloc (.cells #[.int .i64 S.sectors, .int .i64 S.inodes, .map (some w.heap.size)] 77)).drew gp = some (.cells #[.int .i64 S.sectors, .int .i64 S.inodes, .map (some bn)] 77) from (((fr_new w (.map #[] 0) []).trans (fr_new _ _ [])).block gp hpl (by simp)).trans hp)
  clear h
  go_enter Tryd.func24, Tryd.ntmps24
  go_upto_region 1 with fail
  go_region_held3 (fun w' => hat w' gp = some (.cells #[.int .i64 S.sectors, .int .i64 S.inodes, .map (some bn)] 77)) (first | assumption | exact HK1.out | exact HK2.out | fail) (first | fail | fail)
  obtain ⟨gq, hgq⟩ : ∃ x, x = w.heap.size + 1 := ⟨_, rfl⟩
  obtain ⟨bq, hbq⟩ : ∃ x, x = w.heap.size := ⟨_, rfl⟩
  obtain ⟨w1, hw1⟩ : ∃ x, x = ((w.alloc (.map #[] 0)).alloc (.cells #[.int .i64 S.sectors, .int .i64 S.inodes, .map (some w.heap.size)] 77)).drew := ⟨_, rfl⟩
  have hf1 : Fr [] w w1 := by rw [hw1]; exact fr_drew ((fr_new _ _ []).trans (fr_new _ _ []))
  have HQ1 := Lib.hid (show hat w1 gq = some (.cells #[.int .i64 S.sectors, .int .i64 S.inodes, .map (some bq)] 77) from by
    have e := (hopN (w.alloc (.map #[] 0)) (.cells #[.int .i64 S.sectors, .int .i64 S.inodes, .map (some w.heap.size)] 77)).1
    rw [show (w.alloc (.map #[] 0)).heap.size = gq by rw [hgq]; simp] at e
    rw [hw1, hbq]; exact e)
  have HB1 := Lib.hid (show MG kInt w1 bq (fun _ => none) 0 from by
    rw [hw1, hbq]
    exact ((MG.made (E := kInt) w).fr (fr_new _ _ []) (by simp)).fr (fr_drew (Fr.refl [] _)) (by simp))
  have HGE := Lib.hid (show w.heap.size ≤ gq ∧ w.heap.size ≤ bq ∧ gq ≠ bq by omega)
  have HF1 := Lib.hid hf1
  have hp1 := (hf1.block gp hpl (by simp)).trans hp
  have hpl1 := hat_lt hp1
  have HMO := Lib.hid (show MO kInt w1 (.map (some bn)) (some bn) (ptrM S A) c from .inr ⟨bn, rfl, rfl, H.out.t.m.fr hf1 (by simp)⟩)
  rw [← hgq, ← hbq]
  rw [← hbq] at hw1
  rw [← hw1]
  clear hw1 hbq hgq hf1 hp hpl hpd hmm HK1 HK2
  go_wp2_with (first | (at_range; refine wpList_range_mo rfl _ _ rfl Tryd.underlying75 rfl HMO.out ?_; intro w2 cnt hmr hf hs) | fail)
  go_frame
  obtain ⟨r, hr⟩ : ∃ x, x = w1.heap.size := ⟨_, rfl⟩
  rw [← hr] at hmr ⊢
  have HMR := Lib.hid (show MRO kInt w2 (some bn) r (ptrM S A) c (fun x => (ptrM S A x).isSome) cnt from hmr)
  obtain ⟨own0, hc0⟩ := Cpy.start H.out HQ1.out HB1.out HGE.out HF1.out hf (r := r) (by omega) hf.size
  have HC0 := Lib.hid hc0
  have HR := Lib.hid (show bq ≠ r ∧ r < w2.heap.size ∧ w.heap.size ≤ r by have h1 := HB1.out.lt; have h2 := HF1.out.size; omega)
  clear hmr hs hr hf hp1 hpl1 hc0
  go_loopw [4] (fun _ wr => ∃ (left : Int → Bool) (cnt c' : Nat) (A' : Int → NA) (own' : Nat → Option (Int × Nat)), Hid (MRO kInt wr (some bn) r (ptrM S A) c left cnt) ∧ Hid (Cpy w wr gq bq r c' S left A' own') ∧ Hid (r < wr.heap.size)) (fun _ wr => wr.rangeLeft bn r)
  case atStart => exact ⟨_, _, _, _, _, HMR, HC0, Lib.hid HR.out.2.1⟩
  case round =>
    obtain ⟨left, cnt, c', A', own', HMR, HC, HRL⟩ := hrel
    go_wp2_with (first | (at_next; refine wpList_next_mo rfl _ rfl rfl HMR.out ?_ ?_) | fail)
    · intro hl0
      have HN := Lib.hid (show NewAt w wr gq S from by
        have e : (S.only fun i => !left i) = S := only_all fun i _ => by rw [hl0]; rfl
        have h1 := HC.out.t
        have h2 := HC.out.h
        rw [e] at h1 h2
        exact ⟨bq, c', A', own', ⟨h1, H.out.o, H.out.f, h2⟩, HC.out.fr.bl, fun b hb => HC.out.lo b (.inl hb)⟩)
      clear hl0
      go_wp2_with fail
      go_ret
      exact ⟨gq, rfl, HN.out⟩
    · intro i v w3 cnt' b hx hl hm hmr hlt hf hs hen hob
      obtain ⟨n, hn, rfl⟩ : ∃ n, S.nodes i = some n ∧ v = .pointer (some ⟨(A i).g, 0, none⟩) := by
        unfold ptrM at hm
        cases hd : S.nodes i with
        | none => rw [hd] at hm; cases hm
        | some n => rw [hd] at hm; cases hm; exact ⟨n, rfl, rfl⟩
      have hf3 : Fr [] w w3 := ((HC.out.fr.mono (ex' := [r]) (by simp)).trans hf).past (ex' := []) (fun b hb => .inr (by have := HR.out; simp at hb; omega))
      have hN3 := (H.out.t.fr hf3 (by simp)).n i n hn
      have hh3 := hN3.h
      have hhl3 := hat_lt hh3
      have hen2 : (Instr.entry (.pointer (some ⟨r, 0, none⟩))).run Tryd.prog w3 = .ok (.tuple #[.int .i64 i, .pointer (some ⟨(A i).g, 0, none⟩)]) w3 := hen
      have HN3 := Lib.hid hN3
      have hone : oneAll #[.int .i64 n.kind, .int .i64 n.links, .int .i64 n.size, .int .i64 n.made, (A i).dv, (A i).sv, (A i).nv] = true := by
        obtain ⟨sa, sc, e⟩ := hN3.s.slice
        rw [hN3.d.map, hN3.m.map, e]
        simp [oneAll, Value.oneCell']
      have HLE := Lib.hid (show wr.rangeLeft bn r = cnt ∧ cnt' < cnt from ⟨HMR.out.left_eq, hlt⟩)
      have HX := Lib.hid (show S.nodes i = some n ∧ left i = true ∧ Fr [] w w3 ∧ Fr [r] wr w3 ∧ w3.heap.size = wr.heap.size from ⟨hn, hl, hf3, hf, hs⟩)
      have HM3 := Lib.hid hmr
      clear hx hl hm hmr hlt hf hs hen hob hn hf3 hN3
      go_upto_region 6 with fail
      obtain ⟨gc, hgc⟩ : ∃ x, x = w3.heap.size := ⟨_, rfl⟩
      obtain ⟨w4, hw4⟩ : ∃ x, x = w3.alloc (.cells #[.int .i64 n.kind, .int .i64 n.links, .int .i64 n.size, .int .i64 n.made, (A i).dv, (A i).sv, (A i).nv] 74) := ⟨_, rfl⟩
      have hf4 : Fr [] w3 w4 := by rw [hw4]; exact fr_new _ _ _
      have x0 : hat w4.drew gc = some (.cells #[.int .i64 n.kind, .int .i64 n.links, .int .i64 n.size, .int .i64 n.made, (A i).dv, (A i).sv, (A i).nv] 74) := by rw [hw4, hgc]; exact (hopN w3 _).1
      rw [← hw4, ← hgc]
      have HN := Lib.hid (HN3.out.fr (fr_drew hf4) (by simp) (by simp) (by simp) (by simp))
      have HF4 := Lib.hid (show Fr [] w3 w4.drew from fr_drew hf4)
      have HGC := Lib.hid (show gc = w3.heap.size ∧ (A i).g ≠ gc from ⟨hgc, by omega⟩)
      have hne : (A i).g ≠ gc := by omega
      have h0 := HN.out.h
      have HC1 := Lib.hid (fun (W : World) (hn : NodeAt W (A i) n) => cloneD_any hn.d)
      have HC2 := Lib.hid (fun (W : World) (hn : NodeAt W (A i) n) => clone_g (l := n.slots) hn.s (by have := (H.out.o.n i n HX.out.1).sl; omega))
      have HC3 := Lib.hid (fun (W : World) (hn : NodeAt W (A i) n) => cloneN_any hn.m)
      have HNF := Lib.hid (fun (W W' : World) (hn : NodeAt W (A i) n) (hb : Below W.heap.size W W') => hn.fr (fr_below hb []) (by simp) (by simp) (by simp) (by simp))
      have hgl := hat_lt x0
      clear hw4 hgc hf4 hone hh3 hhl3
      go_region_held3 (fun w' => hat w' (A i).g = some (.cells #[.int .i64 n.kind, .int .i64 n.links, .int .i64 n.size, .int .i64 n.made, (A i).dv, (A i).sv, (A i).nv] 74))
        (first | assumption | (rw [setCell_ne _ _ _ _ _ hne]; assumption) | (rw [setCell_ne _ _ _ _ _ hne, setCell_ne _ _ _ _ _ hne]; assumption) | (rw [setCell_ne _ _ _ _ _ hne, setCell_ne _ _ _ _ _ hne, setCell_ne _ _ _ _ _ hne]; assumption) | fail)
        (first
          | (with_reducible refine (HC1.out _ HN.out).mono ?_; rintro e w5 ⟨v1, o1, rfl, m1, q1, i1, b1⟩; have hv1 := m1.map; subst hv1; have HN := Lib.hid (HNF.out _ _ HN.out b1); have h1 := HN.out.h; have x1 := (hop b1 x0).1; have M1 := Lib.hid m1; have Q1 := Lib.hid q1; have I1 := Lib.hid i1; have B1 := Lib.hid b1; have z1 := hat_lt x1)
          | (with_reducible refine (HC2.out _ HN.out).mono ?_; rintro e w6 ⟨v2, o2, rfl, m2, q2, b2⟩; obtain ⟨sa2, sc2, hv2⟩ := m2.slice; subst hv2; have HN := Lib.hid (HNF.out _ _ HN.out b2); have h2 := HN.out.h; have x2 := (hop b2 x1).1; have M2 := Lib.hid m2; have Q2 := Lib.hid q2; have B2 := Lib.hid b2; have z2 := hat_lt x2)
          | (with_reducible refine (HC3.out _ HN.out).mono ?_; rintro e w7 ⟨v3, o3, rfl, m3, q3, i3, b3⟩; have hv3 := m3.map; subst hv3; have HN := Lib.hid (HNF.out _ _ HN.out b3); have h3 := HN.out.h; have x3 := (hop b3 x2).1; have M3 := Lib.hid m3; have Q3 := Lib.hid q3; have I3 := Lib.hid i3; have B3 := Lib.hid b3; have z3 := hat_lt x3)
          | fail)
      obtain ⟨w8, hw8⟩ : ∃ x, x = ((w7.setCell ⟨gc, 4, none⟩ (.map o1)).setCell ⟨gc, 5, none⟩ (.slice sa2 n.slots.length sc2)).setCell ⟨gc, 6, none⟩ (.map o3) := ⟨_, rfl⟩
      have x8 : hat w8 gc = some (.cells #[.int .i64 n.kind, .int .i64 n.links, .int .i64 n.size, .int .i64 n.made, .map o1, .slice sa2 n.slots.length sc2, .map o3] 74) := by
        rw [hw8]
        exact hat_setCell_at _ _ _ _ _ _ _ (hat_setCell_at _ _ _ _ _ _ _ (hat_setCell_at _ _ _ _ _ _ _ x3))
      have hf78 : Fr [gc] w7 w8 := by rw [hw8]; exact ((fr_setCell _ _ _ _).trans (fr_setCell _ _ _ _)).trans (fr_setCell _ _ _ _)
      have hsz : gc < w4.drew.heap.size ∧ w4.drew.heap.size ≤ w5.heap.size ∧ w5.heap.size ≤ w6.heap.size ∧ w6.heap.size ≤ w7.heap.size := ⟨hgl, B1.out.size, B2.out.size, B3.out.size⟩
      have hA8 : NodeAt w8 ⟨gc, o1, o3, o2, .map o1, .map o3, .slice sa2 n.slots.length sc2, (A i).dc, (A i).nc⟩ n :=
        ⟨x8, (M1.out.fr ((fr_below B2.out []).trans (fr_below B3.out [])) (by simp)).fr hf78 (fun g hg => by have := Q1.out g hg; simp; omega),
          (M2.out.fr (fr_below B3.out []) (by simp)).fr hf78 (fun g hg => by have := Q2.out g hg; simp; omega), M3.out.fr hf78 (fun g hg => by have := Q3.out g hg; simp; omega)⟩
      have hf38 : Fr [] w3 w8 := (((((HF4.out.trans (fr_below B1.out [])).trans (fr_below B2.out [])).trans (fr_below B3.out [])).mono (ex' := [gc]) (by simp)).trans hf78).past (fun b hb => .inr (by simp at hb; have := HGC.out.1; omega))
      obtain ⟨hX1, hX2, hX3, hX4, hX5⟩ := HX.out
      have hC3 := HC.out.turn hX4 hX5 HR.out.2.2
      have hcn := hC3.t.cnt (only_ok H.out.o _)
      have hcl : c' ≤ 513 := by
        rw [hcn]
        unfold cntB
        exact Nat.le_trans (List.length_filter_le _ _) (by simp)
      have hi64 : i64ok i := by have h1 := H.out.o.k i (by rw [hX1]; rfl); have h2 := H.out.o.i; unfold i64ok; omega
      obtain ⟨w9, hr9, hm9, ht9⟩ := (hC3.t.m.fr hf38 (by simp)).put Tryd.underlying75 (Nat.lt_of_le_of_lt hcl (by decide)) (x := i) hi64 (.pointer (some ⟨gc, 0, none⟩))
      have hr9' : (Instr.mapUpdate 75 (.map (some bq)) (.int .i64 i) (.pointer (some ⟨gc, 0, none⟩))).run Tryd.prog w8 = .ok () w9 := hr9
      have hf39 : Fr [bq] w3 w9 := (hf38.mono (by simp)).trans (fr_turned ht9)
      have hbnl := H.out.t.m.lt
      have hA9 := hA8.fr (fr_turned ht9) (by have := hC3.t.m.lt; have := HGC.out.1; simp; omega) (fun b hb => by have := Q1.out b hb; have := hC3.t.m.lt; have := HGC.out.1; simp; omega) (fun b hb => by have := Q2.out b hb; have := hC3.t.m.lt; have := HGC.out.1; simp; omega) (fun b hb => by have := Q3.out b hb; have := hC3.t.m.lt; have := HGC.out.1; simp; omega)
      obtain ⟨A9, own9, hC9⟩ := hC3.add hX1 hX2 hm9 hA9 hf39 (by show w3.heap.size ≤ gc; have := HGC.out.1; omega) (fun b hb => by have h1 := Q1.out b hb; have := HGC.out.1; refine ⟨by omega, ?_⟩; show b ≠ gc; omega)
        (fun b hb => by have h1 := Q2.out b hb; have h4 := HGC.out.1; refine ⟨by omega, by show b ≠ gc; omega, fun e => by have := M1.out.lt b e; omega⟩)
        (fun b hb => by have h1 := Q3.out b hb; have h4 := HGC.out.1; refine ⟨by omega, by show b ≠ gc; omega, fun e => by have := M1.out.lt b e; omega, fun e => by have := M2.out.lt b e; omega⟩)
        ⟨fun e => I3.out ((H.out.h i n hX1).1 e), fun e => I1.out ((H.out.h i n hX1).2 e)⟩ ⟨HGE.out.2.1, HR.out.1⟩ (by have := HRL.out; omega) (fun j hj => (H.out.o.k j hj).1)
      have HC9 := Lib.hid hC9
      have hq8' : hat w8 gq = some (.cells #[.int .i64 S.sectors, .int .i64 S.inodes, .map (some bq)] 77) := (hf38.block gq (hat_lt hC3.t.p) (by simp)).trans hC3.t.p
      have hq8l := hat_lt hq8'
      have HM9 := Lib.hid (HM3.out.fr hf39 (fun g hg => by cases hg; have := HGE.out.2.1; simp; omega) (by have := HR.out.1; simp; omega))
      have HML := Lib.hid (show w9.rangeLeft bn r = cnt' from HM9.out.left_eq)
      have HRL9 := Lib.hid (show r < w9.heap.size from by have := hf39.size; have := HRL.out; omega)
      rw [← hw8]
      clear hr9 hw8 x8 hf78 hsz hA8 hf38 hX1 hX2 hX3 hX4 hX5 hC3 hcn hcl hi64 hm9 ht9 hf39 hbnl hA9 hC9 x0 x1 x2 x3 h0 h1 h2 h3 z1 z2 z3 m1 m2 m3 q1 q2 q3 i1 i3 b1 b2 b3 hgl hne
      go_wp2_with fail
      go_roundw
      case rel => exact ⟨_, cnt', _, A9, own9, HM9, HC9, HRL9⟩
      case measure =>
        rw [HML.out, HLE.out.1]
        exact HLE.out.2
end Go.Proofs.YteffoihkljkfdaaDoor

/- General laws for a claim's frame: arguments without memory, opened by their cells' types; a law's end, where below the old heap nothing has turned. -/
namespace Go.Proofs.YteffoihkljkfdaaDoor
set_option linter.unusedSimpArgs false
set_option linter.unusedVariables false
open Go.ChangeShapes Go.WideShapes Go.ChangeAt Go.RowKit

theorem cell_int {P : Program} {w : World} {base : Nat} {t : TypeId} {k : IntKind} {v : Value} (ht : P.underlying t = some (.int k)) (h : Cell.okWide P w .any base t v) : ∃ n, v = .int k n ∧ (Lit.int k n).wf = true := by
  unfold Cell.okWide at h
  rw [ht] at h
  cases v <;> simp [Cell.ok, ht] at h
  obtain ⟨rfl, h⟩ := h
  exact ⟨_, rfl, by simpa [Lit.wf, IntKind.has] using h⟩
theorem cell_str {P : Program} {w : World} {base : Nat} {t : TypeId} {v : Value} (ht : P.underlying t = some .string) (h : Cell.okWide P w .any base t v) : ∃ s : ByteArray, v = .string s ∧ s.size ≤ maxLen := by
  unfold Cell.okWide at h
  rw [ht] at h
  cases v <;> simp [Cell.ok, ht] at h
  refine ⟨_, rfl, ?_⟩
  unfold maxLen
  omega

/-- all cells numbers of one kind: a list of numbers -/
theorem ints_of {k : IntKind} : ∀ (cs : List Value), (∀ v ∈ cs, ∃ n, v = .int k n ∧ (Lit.int k n).wf = true) → ∃ l : List Int, cs = l.map (Value.int k) ∧ ∀ x ∈ l, (Lit.int k x).wf = true
  | [], _ => ⟨[], rfl, by simp⟩
  | v :: cs, h => by
    obtain ⟨n, rfl, hn⟩ := h v (by simp)
    obtain ⟨l, rfl, hl⟩ := ints_of cs (fun v hv => h v (by simp [hv]))
    exact ⟨n :: l, rfl, by simpa using ⟨hn, hl⟩⟩

theorem open_row {P : Program} {w : World} {base : Nat} {t : TypeId} {v : Value} {ts : List TypeId} (hc : P.cellTypes P.depth t = some ts) (hs : P.cellsOf t = ts.length) (h : ∃ cs, v = .agg cs ∧ cs.size = P.cellsOf t ∧ Row.okWide P w .any base t cs) :
    ∃ cs : Array Value, v = .agg cs ∧ cs.size = ts.length ∧ ∀ (i : Nat) (u : TypeId), ts[i]? = some u → ∃ c, cs[i]? = some c ∧ Cell.okWide P w .any base u c := by
  obtain ⟨cs, rfl, hz, ts', h1, _, h2⟩ := h
  rw [hc] at h1
  obtain rfl := Option.some.inj h1
  refine ⟨cs, rfl, hz.trans hs, fun i u hu => ?_⟩
  have hi : i < ts.length := by
    by_cases h : i < ts.length
    · exact h
    · rw [List.getElem?_eq_none (by omega)] at hu; cases hu
  have hi' : i < cs.size := by rw [hz, hs]; exact hi
  obtain ⟨u', hu', hok⟩ := h2 i cs[i] (Array.getElem?_eq_getElem hi')
  rw [Nat.mod_eq_of_lt hi, hu] at hu'
  obtain rfl := Option.some.inj hu'
  exact ⟨cs[i], Array.getElem?_eq_getElem hi', hok⟩

/-- a struct or an array of numbers of one kind, by value -/
theorem open_IV {P : Program} {w : World} {base n : Nat} {t e : TypeId} {k : IntKind} {v : Value} (he : P.underlying e = some (.int k)) (hc : P.cellTypes P.depth t = some (List.replicate n e)) (hs : P.cellsOf t = n)
    (h : ∃ cs, v = .agg cs ∧ cs.size = P.cellsOf t ∧ Row.okWide P w .any base t cs) : ∃ l : List Int, v = .agg (IV k l) ∧ l.length = n ∧ ∀ x ∈ l, (Lit.int k x).wf = true := by
  obtain ⟨cs, rfl, hz, hf⟩ := open_row hc (by simpa using hs) h
  obtain ⟨l, hl, hw⟩ := ints_of (k := k) cs.toList (fun v hv => by
    obtain ⟨i, hi, rfl⟩ := List.getElem_of_mem hv
    have hi' : i < n := by simpa [hz] using hi
    obtain ⟨c, hc', hok⟩ := hf i e (by simp [hi'])
    have hi2 : i < cs.size := by simpa using hi
    rw [Array.getElem?_eq_getElem hi2] at hc'
    obtain rfl := Option.some.inj hc'
    obtain ⟨m, hm, hw⟩ := cell_int he hok
    exact ⟨m, by simpa using hm, hw⟩)
  refine ⟨l, ?_, ?_, hw⟩
  · have : cs = cs.toList.toArray := by simp
    rw [this, hl]; rfl
  · have := congrArg List.length hl
    simp [hz] at this; exact this.symm
/-- numbers of one kind, and a text behind them -/
theorem open_IVS {P : Program} {w : World} {base n : Nat} {t e st : TypeId} {k : IntKind} {v : Value} (he : P.underlying e = some (.int k)) (hst : P.underlying st = some .string) (hc : P.cellTypes P.depth t = some (List.replicate n e ++ [st])) (hs : P.cellsOf t = n + 1)
    (h : ∃ cs, v = .agg cs ∧ cs.size = P.cellsOf t ∧ Row.okWide P w .any base t cs) : ∃ (l : List Int) (s : ByteArray), v = .agg (IV k l ++ #[.string s]) ∧ l.length = n ∧ (∀ x ∈ l, (Lit.int k x).wf = true) ∧ s.size ≤ maxLen := by
  obtain ⟨cs, rfl, hz, hf⟩ := open_row hc (by simpa using hs) h
  simp only [List.length_append, List.length_replicate, List.length_cons, List.length_nil] at hz
  obtain ⟨l, hl, hw⟩ := ints_of (k := k) (cs.toList.take n) (fun v hv => by
    obtain ⟨i, hi, rfl⟩ := List.getElem_of_mem hv
    have hi' : i < n := by simp [hz] at hi; omega
    obtain ⟨c, hc', hok⟩ := hf i e (by rw [List.getElem?_append_left (by simpa using hi')]; simp [hi'])
    have hi2 : i < cs.size := by omega
    rw [Array.getElem?_eq_getElem hi2] at hc'
    obtain rfl := Option.some.inj hc'
    obtain ⟨m, hm, hw⟩ := cell_int he hok
    exact ⟨m, by simpa using hm, hw⟩)
  obtain ⟨c, hc', hok⟩ := hf n st (by rw [List.getElem?_append_right (by simp)]; simp)
  obtain ⟨s, rfl, hss⟩ := cell_str hst hok
  have hlen : l.length = n := by
    have := congrArg List.length hl
    simp [hz] at this; omega
  refine ⟨l, s, ?_, hlen, hw, hss⟩
  have e1 : cs.toList = l.map (Value.int k) ++ [.string s] := by
    rw [← hl, ← List.take_append_drop n cs.toList]
    congr 1
    · simp
    · have : cs.toList.drop n = [cs.toList[n]'(by simp [hz])] := by
        rw [List.drop_eq_getElem_cons (by simp [hz])]
        congr 1
        exact List.drop_eq_nil_of_le (by simp [hz])
      rw [this]
      rw [Array.getElem?_eq_getElem (by omega)] at hc'
      have := Option.some.inj hc'
      simp [this]
  have : cs = cs.toList.toArray := by simp
  rw [this, e1]; simp [IV]

theorem ints_bytes {l : List Int} (h : ∀ x ∈ l, (Lit.int .u8 x).wf = true) : ∀ x ∈ l, 0 ≤ x ∧ x < 256 := fun x hx => by
  have := bounds_u8 (h x hx); omega
theorem ints_i64 {l : List Int} (h : ∀ x ∈ l, (Lit.int .i64 x).wf = true) : ∀ i, -9223372036854775808 ≤ nth l i ∧ nth l i ≤ 9223372036854775807 := fun i => by
  unfold nth
  cases hi : l[i]? with
  | none => simp
  | some x =>
    have := bounds_i64 (h x (List.mem_of_getElem? hi))
    simp; omega

theorem list_two {α : Type} {l : List α} (h : l.length = 2) : ∃ x y, l = [x, y] := by
  match l, h with
  | [x, y], _ => exact ⟨x, y, rfl⟩

/-! ### the law's end -/
theorem trodAll_below {H : Type} {enc : TypeId × Value → H} {P : Program} (hl : laidOutB P = true) {W W' : World} (hb : Below W.heap.size W W') :
    ∀ {ts : List TypeId} {vs : List Value} {ds : List (DataW H)} {ps : List MemPlace}, (ts.all fun t => P.readableRec t && decide (t < P.types.size)) = true → DataW.TrodAll enc P W 0 (fun _ => true) true ts vs ds ps → (∀ x ∈ ps, x.block < W.heap.size) →
      DataW.TrodAll enc P W' 0 (fun b => decide (b < W.heap.size)) true ts vs ds ps
  | [], [], [], _, _, h, _ => h
  | [], [], _ :: _, _, _, h, _ => h.elim
  | [], _ :: _, [], _, _, h, _ => h.elim
  | [], _ :: _, _ :: _, _, _, h, _ => h.elim
  | _ :: _, [], [], _, _, h, _ => h.elim
  | _ :: _, [], _ :: _, _, _, h, _ => h.elim
  | _ :: _, _ :: _, [], _, _, h, _ => h.elim
  | t :: ts, v :: vs, d :: ds, ps, hr, ⟨p, q, h1, h2, e⟩, hs => by
    simp only [List.all_cons, Bool.and_eq_true, decide_eq_true_eq] at hr
    exact ⟨p, q, Below.trod hl hr.1.1 hr.1.2 h1 hb (fun x hx => hs x (by rw [e]; exact List.mem_append_left _ hx)), trodAll_below hl hb hr.2 h2 (fun x hx => hs x (by rw [e]; exact List.mem_append_right _ hx)), e⟩

theorem post_law {H : Type} {enc : TypeId × Value → H} {P : Program} {f : Func} {s : ChangeSpec} {W W' : World} {args : Array Value} {ds : List (DataW H)} {before : List MemPlace} {T : TypeId} (hl : laidOutB P = true)
    (hW : DataW.Whole enc P f.params.toList s.vars false W args.toList ds [] before) (hvars : s.vars = []) (hres : (s.fn H ds).results = [.lit (.bool true)]) (hargs : (s.fn H ds).args = ds) (hvs : (s.fn H ds).vars = [])
    (hr : (f.params.toList.all fun t => P.readableRec t && decide (t < P.types.size)) = true) (hrt : f.resultTypes = #[T]) (hT : P.underlying T = some .bool) (hb : Below W.heap.size W W') :
    s.post enc P f false true false false W args (.bool true) W' := by
  have hW' := hW
  have hlt : ∀ x ∈ before, x.block < W.heap.size := fun x hx => by simpa using hW'.lt x hx
  obtain ⟨p, q, hA, hV, rfl, -, -⟩ := hW
  rw [hvars] at hV
  have hq : q = [] := (trodVars_none hV).2
  subst hq
  refine ⟨ds, [], _, [], p, [], hW', ?_, ?_, ?_, hb.frame _, fun h => by cases h⟩
  · rw [List.append_nil, hres, hrt]
    exact trodAll_mk1 (shut_bool hT true)
  · rw [List.append_nil, hargs]
    exact trodAll_below hl hb hr hA (fun x hx => hlt x (by simp [hx]))
  · rw [List.append_nil, hvs, hvars]
    rfl
end Go.Proofs.YteffoihkljkfdaaDoor
