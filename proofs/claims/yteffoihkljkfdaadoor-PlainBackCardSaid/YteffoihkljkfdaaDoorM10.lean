/- Contracts and laws that the claim leans on, laid together in the order in which they build. -/
import Derived.Deep.Slices
import Derived.Deep.Strs
import Derived.OpenShut
import Derived.SizedLaws
import Derived.HandedShaped
import Derived.LaidMore
import Derived.Lay
import Derived.SevenTiedAt
import Derived.Stop.Joined
import Derived.Test.YteffoihkljkfdaaDoorM02
import Derived.Test.YteffoihkljkfdaaDoorM04
import Derived.Test.YteffoihkljkfdaaDoorM05
import Derived.Test.YteffoihkljkfdaaDoorM08
import Derived.Test.YteffoihkljkfdaaDoorM09

/- Deeds and operations that came in, opened. -/
namespace Go.Proofs.YteffoihkljkfdaaDoor
set_option linter.unusedSimpArgs false
set_option linter.unusedVariables false
open Go.ChangeShapes Go.WideShapes Go.ChangeAt Go.RowKit

structure DeedV where
  kind : Int
  a : Int
  b : Int
  off : Int
  n : Int
  data : List Int
def deedV (d : DeedV) (dv : Value) : Array Value := #[.int .i64 d.kind, .int .i64 d.a, .int .i64 d.b, .int .i64 d.off, .int .i64 d.n, dv]
/-- the bytes of a deed -/
structure DataAt (w : World) (own : Nat → Option (Int × Nat)) (l : List Int) (dv : Value) : Prop where
  d : ∃ od, BRow w dv od l ∧ ∀ b, od = some b → own b = none
  c : ∀ a l c, dv = .slice a l c → l ≤ c
  b : ∀ x ∈ l, 0 ≤ x ∧ x < 256
/-- n structs of sz cells each lie in the slice v -/
def StructsAt (W : World) (v : Value) (n sz : Nat) (Q : Nat → Array Value → Prop) : Prop :=
  ∃ a c, v = .slice a n c ∧ n ≤ 9223372036854775807 ∧ (0 < n → ∃ g o cs t fr, a = some ⟨g, o, none⟩ ∧ hat W g = some (.cells cs t fr) ∧ o + n * sz ≤ cs.size ∧ ∀ i, i < n → Q i (cs.extract (o + i * sz) (o + i * sz + sz)))
def DeedOk (d : DeedV) : Prop := i64ok d.kind ∧ i64ok d.a ∧ i64ok d.b ∧ i64ok d.off ∧ i64ok d.n
theorem trod_struct6 {H : Type} {enc : TypeId × Value → H} {P : Program} {w : World} {base : Nat} {spare : Nat → Bool} {held : Bool} {t : TypeId} {f0 f1 f2 f3 f4 f5 : Field} {fuel : Nat} {cs : List Value} {x : DataW H × List MemPlace} (ht : P.underlying t = some (.struct #[f0, f1, f2, f3, f4, f5])) (h : DataW.trod enc P w base spare held fuel t cs = some x) :
    ∃ y0 y1 y2 y3 y4 y5 n, x.1 = .agg [y0.1, y1.1, y2.1, y3.1, y4.1, y5.1] ∧ cs.length = P.cellsOf t ∧ DataW.trod enc P w base spare held n f0.type ((cs.drop f0.offset).take (P.cellsOf f0.type)) = some y0 ∧
      DataW.trod enc P w base spare held n f1.type ((cs.drop f1.offset).take (P.cellsOf f1.type)) = some y1 ∧ DataW.trod enc P w base spare held n f2.type ((cs.drop f2.offset).take (P.cellsOf f2.type)) = some y2 ∧
      DataW.trod enc P w base spare held n f3.type ((cs.drop f3.offset).take (P.cellsOf f3.type)) = some y3 ∧ DataW.trod enc P w base spare held n f4.type ((cs.drop f4.offset).take (P.cellsOf f4.type)) = some y4 ∧ DataW.trod enc P w base spare held n f5.type ((cs.drop f5.offset).take (P.cellsOf f5.type)) = some y5 := by
  obtain ⟨xs, n, _, rfl, hl, hlen, hf⟩ := DataW.trod_struct ht h
  match xs, hlen with
  | [y0, y1, y2, y3, y4, y5], _ => exact ⟨y0, y1, y2, y3, y4, y5, n, by simp, hl, by simpa using hf 0 f0 rfl, by simpa using hf 1 f1 rfl, by simpa using hf 2 f2 rfl, by simpa using hf 3 f3 rfl, by simpa using hf 4 f4 rfl, by simpa using hf 5 f5 rfl⟩
theorem trod_struct8 {H : Type} {enc : TypeId × Value → H} {P : Program} {w : World} {base : Nat} {spare : Nat → Bool} {held : Bool} {t : TypeId} {f0 f1 f2 f3 f4 f5 f6 f7 : Field} {fuel : Nat} {cs : List Value} {x : DataW H × List MemPlace} (ht : P.underlying t = some (.struct #[f0, f1, f2, f3, f4, f5, f6, f7])) (h : DataW.trod enc P w base spare held fuel t cs = some x) :
    ∃ y0 y1 y2 y3 y4 y5 y6 y7 n, x.1 = .agg [y0.1, y1.1, y2.1, y3.1, y4.1, y5.1, y6.1, y7.1] ∧ cs.length = P.cellsOf t ∧ DataW.trod enc P w base spare held n f0.type ((cs.drop f0.offset).take (P.cellsOf f0.type)) = some y0 ∧
      DataW.trod enc P w base spare held n f1.type ((cs.drop f1.offset).take (P.cellsOf f1.type)) = some y1 ∧ DataW.trod enc P w base spare held n f2.type ((cs.drop f2.offset).take (P.cellsOf f2.type)) = some y2 ∧
      DataW.trod enc P w base spare held n f3.type ((cs.drop f3.offset).take (P.cellsOf f3.type)) = some y3 ∧ DataW.trod enc P w base spare held n f4.type ((cs.drop f4.offset).take (P.cellsOf f4.type)) = some y4 ∧ DataW.trod enc P w base spare held n f5.type ((cs.drop f5.offset).take (P.cellsOf f5.type)) = some y5 ∧
      DataW.trod enc P w base spare held n f6.type ((cs.drop f6.offset).take (P.cellsOf f6.type)) = some y6 ∧ DataW.trod enc P w base spare held n f7.type ((cs.drop f7.offset).take (P.cellsOf f7.type)) = some y7 := by
  obtain ⟨xs, n, _, rfl, hl, hlen, hf⟩ := DataW.trod_struct ht h
  match xs, hlen with
  | [y0, y1, y2, y3, y4, y5, y6, y7], _ => exact ⟨y0, y1, y2, y3, y4, y5, y6, y7, n, by simp, hl, by simpa using hf 0 f0 rfl, by simpa using hf 1 f1 rfl, by simpa using hf 2 f2 rfl, by simpa using hf 3 f3 rfl, by simpa using hf 4 f4 rfl, by simpa using hf 5 f5 rfl, by simpa using hf 6 f6 rfl, by simpa using hf 7 f7 rfl⟩
theorem Tryd.cellsU8' : Tryd.prog.cellsOf 5 = 1 := by kernel_rfl
theorem Tryd.cellsInt' : Tryd.prog.cellsOf 3 = 1 := by kernel_rfl
theorem Tryd.cellsStr' : Tryd.prog.cellsOf 9 = 1 := by kernel_rfl
theorem Tryd.cellsSU8' : Tryd.prog.cellsOf 34 = 1 := by kernel_rfl
theorem Tryd.cellsDeed' : Tryd.prog.cellsOf 54 = 6 := by kernel_rfl
theorem Tryd.cellsOp' : Tryd.prog.cellsOf 40 = 8 := by kernel_rfl
theorem i64ok_of {x : Int} (h : (Lit.int .i64 x).wf = true) : i64ok x := i64wf_ok h
theorem hat_of_cell {w : World} {a : Addr} {v : Value} (h : w.cell? a = some v) : ∃ g o cs t fr, a = ⟨g, o, none⟩ ∧ hat w g = some (.cells cs t fr) ∧ cs[o]? = some v := by
  obtain ⟨b, off, spot⟩ := a
  have hs : spot = none := by simpa using World.cell?_spot h
  subst hs
  cases hh : w.heap[b]? with
  | none => unfold World.cell? at h; simp [hh] at h
  | some o =>
    cases o with
    | cells cs t fr => exact ⟨b, off, cs, t, fr, rfl, hh, by rw [← cell_hat (w := w) hh]; exact h⟩
    | _ => unfold World.cell? at h; simp [hh] at h
/-- a slice of bytes -/
theorem data_of {H : Type} {enc : TypeId × Value → H} {W : World} {fuel : Nat} {cs : List Value} {x : DataW H × List MemPlace}
    (h : DataW.trod enc Tryd.prog W 0 (fun _ => true) true fuel 34 cs = some x) : ∃ v l, cs = [v] ∧ DataAt W (fun _ => none) l v ∧ (x.1 = .nil ∧ l = [] ∨ ∃ el sp, x.1 = .slice el sp ∧ el.length = l.length) := by
  rcases Go.Deep.open_slice Tryd.underlying34 h with ⟨hcs, hx⟩ | ⟨a, len, cap, m, n, D, Pl, hcs, -, hl, hm, hz, hx, hcell⟩
  · exact ⟨_, [], hcs, ⟨⟨none, .inl ⟨⟨_, _, rfl⟩, rfl, rfl⟩, fun _ _ => rfl⟩, fun a l c e => (by cases e; exact Nat.le_refl _), fun x hx => (nomatch hx)⟩, .inl ⟨by rw [hx], rfl⟩⟩
  · simp only [if_true] at hz
    subst hz
    simp only [Tryd.cellsU8', Nat.mul_one] at hcell
    have key : ∀ i, i < len → ∃ z : Int, W.cell? (a.add i) = some (.int .u8 z) ∧ (Lit.int .u8 z).wf = true := by
      intro i hi
      obtain ⟨cs', hc, ht⟩ := hcell i (by omega)
      obtain ⟨-, hlen, hget⟩ := World.cells?_some hc
      obtain ⟨z, hz, -, hwf⟩ := DataW.trod_int Tryd.underlying5 ht
      refine ⟨z, ?_, hwf⟩
      have := hget 0 (by omega)
      rw [hz] at this
      simpa [Go.Deep.add_add] using this
    by_cases h0 : len = 0
    · subst h0
      exact ⟨_, [], hcs, ⟨⟨none, .inl ⟨⟨_, _, rfl⟩, rfl, rfl⟩, fun _ _ => rfl⟩, fun a l c e => (by cases e; exact hl), fun x hx => (nomatch hx)⟩, .inr ⟨_, _, by rw [hx], by simp⟩⟩
    · obtain ⟨z0, hz0, -⟩ := key 0 (by omega)
      obtain ⟨g, o, cs0, t, fr, ha, hg, hc0⟩ := hat_of_cell hz0
      obtain ⟨b, off, spot⟩ := a
      have hb : b = g ∧ off = o ∧ spot = none := by
        cases spot with
        | none =>
          rw [add_none] at ha
          injection ha with e1 e2 e3
          exact ⟨e1, by omega, rfl⟩
        | some q =>
          exfalso
          have := World.cell?_spot hz0
          simp [Addr.add] at this
      obtain ⟨rfl, rfl, rfl⟩ := hb
      simp only [add_none] at key
      have key2 : ∀ i, i < len → ∃ z : Int, cs0[off + i]? = some (.int .u8 z) ∧ (Lit.int .u8 z).wf = true := fun i hi => by
        obtain ⟨z, h1, h2⟩ := key i hi
        exact ⟨z, by rw [← cell_hat hg]; exact h1, h2⟩
      obtain ⟨f, hf⟩ := Go.Deep.choose_lt key2
      refine ⟨_, (List.range len).map f, hcs, ⟨⟨some b, .inr ⟨b, off, m, cs0, t, fr, by rw [List.length_map, List.length_range], rfl, hg, fun k x hx => ?_⟩, fun _ _ => rfl⟩, fun a l c e => (by cases e; exact hl), fun x hx => ?_⟩, .inr ⟨_, _, by rw [hx], by simp⟩⟩
      · have hk : k < len := by have := (List.getElem?_eq_some_iff.1 hx).1; simpa using this
        rw [List.getElem?_map, List.getElem?_range hk] at hx
        simp at hx
        rw [(hf k hk).1, hx]
      · obtain ⟨j, hj, rfl⟩ := List.mem_map.1 hx
        have := bounds_u8 (hf j (List.mem_range.1 hj)).2
        exact ⟨this.1, by omega⟩
set_option maxRecDepth 100000 in
/-- a slice of structs, opened: what holds of each element's cells -/
theorem structs_of {H : Type} {enc : TypeId × Value → H} {W : World} {base : Nat} {st e : TypeId} {sz : Nat} {v : Value} {d : DataW H} {p : List MemPlace} (ht : Tryd.prog.underlying st = some (.slice e)) (hc : Tryd.prog.cellsOf e = sz) (hsz : 0 < sz) (R : List Value → DataW H → Prop)
    (hR : ∀ n cs y, cs.length = sz → DataW.trod enc Tryd.prog W 0 (fun _ => true) true n e cs = some y → R cs y.1) (hv : Value.okWide Tryd.prog W .any base st v) (h : DataW.Trod enc Tryd.prog W 0 (fun _ => true) true st v d p) :
    ∃ n el, StructsAt W v n sz (fun i arr => ∃ x, el[i]? = some x ∧ R arr.toList x) ∧ el.length = n ∧ (d = .nil ∧ n = 0 ∨ ∃ sp, d = .slice el sp) := by
  obtain ⟨a0, len0, cap0, rfl⟩ := okWide_slice ht hv
  obtain ⟨fuel, hf⟩ := h
  rcases Go.Deep.open_slice ht hf with ⟨hcs, hx⟩ | ⟨a, len, cap, m, n, D, Pl, hcs, -, hl, hm, hz, hx, hcell⟩
  · have e1 : (Value.slice a0 len0 cap0) = .slice none 0 0 := by simpa [Value.cells] using hcs
    rw [e1]
    exact ⟨0, [], ⟨none, 0, rfl, by omega, fun h => absurd h (by omega)⟩, rfl, .inl ⟨congrArg Prod.fst hx, rfl⟩⟩
  · have e1 : (Value.slice a0 len0 cap0) = .slice (some a) len cap := by simpa [Value.cells] using hcs
    rw [e1]
    simp only [if_true] at hz
    subst hz
    rw [hc] at hcell
    have hmax : maxLen = 9223372036854775807 := by decide
    refine ⟨len, (List.range len).map D, ⟨some a, m, rfl, by omega, fun h0 => ?_⟩, by simp, .inr ⟨_, congrArg Prod.fst hx⟩⟩
    have key : ∀ i, i < len → ∃ cs', cs'.length = sz ∧ (∀ j, j < sz → W.cell? ((a.add (i * sz)).add j) = cs'[j]?) ∧ R cs' (D i) := by
      intro i hi
      obtain ⟨cs', h1, h2⟩ := hcell i (by omega)
      obtain ⟨-, hlen, hget⟩ := World.cells?_some h1
      exact ⟨cs', hlen, hget, hR n cs' _ hlen h2⟩
    obtain ⟨c0, hl0, hg0, -⟩ := key 0 h0
    have hz0 := hg0 0 hsz
    rw [List.getElem?_eq_getElem (by omega)] at hz0
    obtain ⟨g, o, cs0, t, fr, ha, hg, hc0⟩ := hat_of_cell hz0
    obtain ⟨b, off, spot⟩ := a
    have hb : b = g ∧ off = o ∧ spot = none := by
      cases spot with
      | none =>
        rw [add_none, add_none] at ha
        injection ha with e1 e2 e3
        exact ⟨e1, by omega, rfl⟩
      | some q =>
        exfalso
        have := World.cell?_spot hz0
        simp [Addr.add] at this
    obtain ⟨rfl, rfl, rfl⟩ := hb
    simp only [add_none] at key
    have key2 : ∀ i, i < len → ∃ cs', cs'.length = sz ∧ (∀ j, j < sz → cs0[off + i * sz + j]? = cs'[j]?) ∧ R cs' (D i) := fun i hi => by
      obtain ⟨cs', h1, h2, h3⟩ := key i hi
      exact ⟨cs', h1, fun j hj => by rw [← h2 j hj, cell_hat hg], h3⟩
    have hbig : off + len * sz ≤ cs0.size := by
      obtain ⟨cs', h1, h2, -⟩ := key2 (len - 1) (by omega)
      have h3 := h2 (sz - 1) (by omega)
      rw [List.getElem?_eq_getElem (by omega)] at h3
      have h4 := (Array.getElem?_eq_some_iff.1 h3).1
      have h5 : len * sz = (len - 1) * sz + sz := by
        obtain ⟨q, rfl⟩ : ∃ q, len = q + 1 := ⟨len - 1, by omega⟩
        rw [Nat.add_sub_cancel, Nat.add_mul, Nat.one_mul]
      omega
    refine ⟨b, off, cs0, t, fr, rfl, hg, hbig, fun i hi => ?_⟩
    obtain ⟨cs', h1, h2, h3⟩ := key2 i hi
    refine ⟨D i, by rw [List.getElem?_map, List.getElem?_range hi]; rfl, ?_⟩
    have e2 : (cs0.extract (off + i * sz) (off + i * sz + sz)).toList = cs' := by
      apply List.ext_getElem?
      intro j
      rw [Array.getElem?_toList, Array.getElem?_extract]
      have hle : off + i * sz + sz ≤ cs0.size := by
        have : (i + 1) * sz ≤ len * sz := Nat.mul_le_mul_right _ hi
        rw [Nat.add_mul, Nat.one_mul] at this
        omega
      by_cases hj : j < sz
      · rw [if_pos (by omega)]; exact h2 j hj
      · rw [if_neg (by omega), List.getElem?_eq_none (by omega)]
    rw [e2]
    exact h3
theorem take1 {cs : List Value} {j : Nat} {v : Value} (h : (cs.drop j).take 1 = [v]) : cs[j]? = some v := by
  have h0 : ((cs.drop j).take 1)[0]? = some v := by rw [h]; rfl
  rw [List.getElem?_take, if_pos (by omega), List.getElem?_drop] at h0
  simpa using h0
/-- deeds lie in the slice v -/
def DeedsAt (W : World) (v : Value) (ds : List DeedV) : Prop := StructsAt W v ds.length 6 (fun i arr => ∃ d dv, ds[i]? = some d ∧ arr = deedV d dv ∧ DeedOk d ∧ DataAt W (fun _ => none) d.data dv)
/-- operations lie in the slice v -/
def OpsAt (W : World) (v : Value) (os : List OpV) : Prop := StructsAt W v os.length 8 (fun i arr => ∃ o dv, os[i]? = some o ∧ arr = opV o dv ∧ (i64ok o.kind ∧ i64ok o.off ∧ i64ok o.len ∧ i64ok o.made ∧ i64ok o.pick) ∧ DataAt W (fun _ => none) o.data dv ∧ o.data.length ≤ 140737488355328)
instance : Inhabited DeedV := ⟨⟨0, 0, 0, 0, 0, []⟩⟩
instance : Inhabited OpV := ⟨⟨0, ByteArray.mk #[], ByteArray.mk #[], 0, 0, [], 0, 0⟩⟩
theorem StructsAt.choose {W : World} {v : Value} {n sz : Nat} {α : Type} [Inhabited α] {Q : Nat → Array Value → α → Prop} (h : StructsAt W v n sz (fun i arr => ∃ x, Q i arr x)) : ∃ l : List α, l.length = n ∧ StructsAt W v n sz (fun i arr => ∃ x, l[i]? = some x ∧ Q i arr x) := by
  obtain ⟨a, c, rfl, hn, hx⟩ := h
  by_cases h0 : 0 < n
  · obtain ⟨g, o, cs, t, fr, rfl, hg, hs, hq⟩ := hx h0
    obtain ⟨f, hf⟩ := Go.Deep.choose_lt hq
    exact ⟨(List.range n).map f, by simp, _, c, rfl, hn, fun _ => ⟨g, o, cs, t, fr, rfl, hg, hs, fun i hi => ⟨f i, by rw [List.getElem?_map, List.getElem?_range hi]; rfl, hf i hi⟩⟩⟩
  · obtain rfl : n = 0 := by omega
    exact ⟨[], rfl, a, c, rfl, hn, fun h => absurd h h0⟩
theorem StructsAt.mono {W : World} {v : Value} {n sz : Nat} {Q Q' : Nat → Array Value → Prop} (h : StructsAt W v n sz Q) (hq : ∀ i arr, i < n → Q i arr → Q' i arr) : StructsAt W v n sz Q' := by
  obtain ⟨a, c, rfl, hn, hx⟩ := h
  refine ⟨a, c, rfl, hn, fun h0 => ?_⟩
  obtain ⟨g, o, cs, t, fr, rfl, hg, hs, hqq⟩ := hx h0
  exact ⟨g, o, cs, t, fr, rfl, hg, hs, fun i hi => hq i _ hi (hqq i hi)⟩
set_option maxRecDepth 100000 in
theorem deeds_of {H : Type} {enc : TypeId × Value → H} {W : World} {base : Nat} {v : Value} {d : DataW H} {p : List MemPlace} (hv : Value.okWide Tryd.prog W .any base 45 v) (h : DataW.Trod enc Tryd.prog W 0 (fun _ => true) true 45 v d p) : ∃ ds, DeedsAt W v ds := by
  obtain ⟨n, el, h1, h2, -⟩ := structs_of Tryd.underlying45 Tryd.cellsDeed' (by omega) (fun cs _ => ∃ x : DeedV × Value, cs = (deedV x.1 x.2).toList ∧ DeedOk x.1 ∧ DataAt W (fun _ => none) x.1.data x.2) (fun n cs y hl hy => by
    obtain ⟨y0, y1, y2, y3, y4, y5, n', -, -, k0, k1, k2, k3, k4, k5⟩ := trod_struct6 Tryd.underlying54 hy
    simp only [Tryd.cellsInt', Tryd.cellsSU8'] at k0 k1 k2 k3 k4 k5
    obtain ⟨p0, q0, -, w0⟩ := DataW.trod_int Tryd.underlying3 k0
    obtain ⟨p1, q1, -, w1⟩ := DataW.trod_int Tryd.underlying3 k1
    obtain ⟨p2, q2, -, w2⟩ := DataW.trod_int Tryd.underlying3 k2
    obtain ⟨p3, q3, -, w3⟩ := DataW.trod_int Tryd.underlying3 k3
    obtain ⟨p4, q4, -, w4⟩ := DataW.trod_int Tryd.underlying3 k4
    obtain ⟨dv, l, q5, hd, -⟩ := data_of k5
    refine ⟨(⟨p0, p1, p2, p3, p4, l⟩, dv), ?_, ⟨i64ok_of w0, i64ok_of w1, i64ok_of w2, i64ok_of w3, i64ok_of w4⟩, hd⟩
    match cs, hl with
    | [a, b, c, d, e, f], _ =>
      have e0 := take1 q0
      have e1 := take1 q1
      have e2 := take1 q2
      have e3 := take1 q3
      have e4 := take1 q4
      have e5 := take1 q5
      simp at e0 e1 e2 e3 e4 e5
      unfold deedV
      simp [e0, e1, e2, e3, e4, e5]) hv h
  obtain ⟨l, hl, h3⟩ := (h1.mono (Q' := fun i arr => ∃ x : DeedV × Value, arr.toList = (deedV x.1 x.2).toList ∧ DeedOk x.1 ∧ DataAt W (fun _ => none) x.1.data x.2) (fun i arr _ ⟨x, _, hx⟩ => hx)).choose
  refine ⟨l.map (·.1), ?_⟩
  unfold DeedsAt
  rw [List.length_map, hl]
  refine h3.mono fun i arr _ ⟨x, hx, h4, h5, h6⟩ => ⟨x.1, x.2, by rw [List.getElem?_map, hx]; rfl, Array.toList_inj.1 h4, h5, h6⟩
theorem weights_all {H : Type} {P : Program} {e : TypeId} : ∀ {l : List (DataW H)} {x : DataW H}, x ∈ l → ∀ n ∈ x.weights P e, n ∈ DataW.weightsAll P e l
  | y :: l, x, h, n, hn => by
    simp only [DataW.weightsAll, List.mem_append]
    rcases List.mem_cons.1 h with rfl | h
    · exact .inl hn
    · exact .inr (weights_all h n hn)
set_option maxRecDepth 100000 in
theorem ops_of {H : Type} {enc : TypeId × Value → H} {W : World} {base : Nat} {v : Value} {d : DataW H} {p : List MemPlace} (hv : Value.okWide Tryd.prog W .any base 66 v) (h : DataW.Trod enc Tryd.prog W 0 (fun _ => true) true 66 v d p)
    {ts : List TypeId} {dd : List (DataW H)} (hsz : (DataW.weightsEach Tryd.prog ts dd).all (· ≤ reachBytes) = true) {j : Nat} (ht : ts[j]? = some 66) (hd : dd[j]? = some d) : ∃ os, OpsAt W v os := by
  have hby : Tryd.prog.bytesOf 5 = 1 := by kernel_rfl
  obtain ⟨n, el, h1, h2, h7⟩ := structs_of Tryd.underlying66 Tryd.cellsOp' (by omega) (fun cs y => ∃ x : OpV × Value, cs = (opV x.1 x.2).toList ∧ (i64ok x.1.kind ∧ i64ok x.1.off ∧ i64ok x.1.len ∧ i64ok x.1.made ∧ i64ok x.1.pick) ∧ DataAt W (fun _ => none) x.1.data x.2 ∧ (x.1.data = [] ∨ ∃ m ∈ y.weights Tryd.prog 40, x.1.data.length ≤ m)) (fun n cs y hl hy => by
    obtain ⟨y0, y1, y2, y3, y4, y5, y6, y7, n', hyy, -, k0, k1, k2, k3, k4, k5, k6, k7⟩ := trod_struct8 Tryd.underlying40 hy
    simp only [Tryd.cellsInt', Tryd.cellsSU8', Tryd.cellsStr'] at k0 k1 k2 k3 k4 k5 k6 k7
    obtain ⟨p0, q0, -, w0⟩ := DataW.trod_int Tryd.underlying3 k0
    obtain ⟨p1, q1, -⟩ := DataW.trod_string Tryd.underlying9 k1
    obtain ⟨p2, q2, -⟩ := DataW.trod_string Tryd.underlying9 k2
    obtain ⟨p3, q3, -, w3⟩ := DataW.trod_int Tryd.underlying3 k3
    obtain ⟨p4, q4, -, w4⟩ := DataW.trod_int Tryd.underlying3 k4
    obtain ⟨dv, l, q5, hd, hw⟩ := data_of k5
    obtain ⟨p6, q6, -, w6⟩ := DataW.trod_int Tryd.underlying3 k6
    obtain ⟨p7, q7, -, w7⟩ := DataW.trod_int Tryd.underlying3 k7
    refine ⟨(⟨p0, p1, p2, p3, p4, l, p6, p7⟩, dv), ?_, ⟨i64ok_of w0, i64ok_of w3, i64ok_of w4, i64ok_of w6, i64ok_of w7⟩, hd, ?_⟩
    · match cs, hl with
      | [a, b, c, d, e, f, g, h], _ =>
        have e0 := take1 q0
        have e1 := take1 q1
        have e2 := take1 q2
        have e3 := take1 q3
        have e4 := take1 q4
        have e5 := take1 q5
        have e6 := take1 q6
        have e7 := take1 q7
        simp at e0 e1 e2 e3 e4 e5 e6 e7
        unfold opV
        simp [e0, e1, e2, e3, e4, e5, e6, e7]
    · rcases hw with ⟨-, hw⟩ | ⟨el, sp, hw, hlen⟩
      · exact .inl hw
      · refine .inr ⟨(el.length + sp.length) * Tryd.prog.bytesOf 5, ?_, by show l.length ≤ _; rw [hby]; omega⟩
        rw [hyy]
        have hus := Tryd.underlying40
        simp only [DataW.weights, hus]
        refine DataW.weights_mem_each (j := 5) (t := 34) (d := y5.1) rfl rfl _ ?_
        rw [hw]
        have hub := Tryd.underlying34
        simp only [DataW.weights, hub]
        exact .head _) hv h
  obtain ⟨l, hl, h3⟩ := (h1.mono (Q' := fun i arr => ∃ x : OpV × Value, arr.toList = (opV x.1 x.2).toList ∧ (i64ok x.1.kind ∧ i64ok x.1.off ∧ i64ok x.1.len ∧ i64ok x.1.made ∧ i64ok x.1.pick) ∧ DataAt W (fun _ => none) x.1.data x.2 ∧ x.1.data.length ≤ 140737488355328) (fun i arr hi ⟨y, hy, x, x1, x2, x3, x4⟩ => ⟨x, x1, x2, x3, by
      rcases x4 with x4 | ⟨m, x4, x5⟩
      · rw [x4]; exact Nat.zero_le _
      · rcases h7 with ⟨-, h7⟩ | ⟨sp, h7⟩
        · omega
        · have hus := Tryd.underlying66
          have hmem : m ∈ d.weights Tryd.prog 66 := by
            rw [h7]
            simp only [DataW.weights, hus]
            exact .tail _ (List.mem_append.2 (.inl (weights_all (List.mem_of_getElem? hy) _ x4)))
          have := List.all_eq_true.1 hsz _ (DataW.weights_mem_each ht hd m hmem)
          have h8 : reachBytes = 140737488351232 := by decide
          have h9 : m ≤ reachBytes := by simpa using this
          omega⟩)).choose
  refine ⟨l.map (·.1), ?_⟩
  unfold OpsAt
  rw [List.length_map, hl]
  refine h3.mono fun i arr _ ⟨x, hx, h4, h5, h6, h7⟩ => ⟨x.1, x.2, by rw [List.getElem?_map, hx]; rfl, Array.toList_inj.1 h4, h5, h6, h7⟩
end Go.Proofs.YteffoihkljkfdaaDoor

/- The laws' own functions: pick, text, small: the walks. -/
namespace Go.Proofs.YteffoihkljkfdaaDoor
set_option linter.unusedSimpArgs false
set_option linter.unusedVariables false
open Go.RowKit

def pickZ (c n : Int) : Int := (if c < 0 then -(c + 1) else c) % n
theorem pickZ_lt (c : Int) {n : Int} (h : 0 < n) : 0 ≤ pickZ c n ∧ pickZ c n < n := by
  unfold pickZ
  exact ⟨Int.emod_nonneg _ (by omega), Int.emod_lt_of_pos _ h⟩
theorem pick_any {c n : Int} (hc : i64ok c) (hn : 0 < n ∧ n ≤ 1000000) (w : World) : Calls Tryd.prog 22 #[.int .i64 c, .int .i64 n] w fun e w' => e = .returned (.int .i64 (pickZ c n)) ∧ w' = w := by
  obtain ⟨h1, h2⟩ := hn
  unfold i64ok at hc
  obtain ⟨c1, c2⟩ := hc
  have hn0 : ¬ n = 0 := by omega
  by_cases h0 : c < 0
  · have HQ := Lib.hid (show pickZ c n = -((c + 1).tmod n) by unfold pickZ; rw [if_pos h0, ← Int.neg_tmod, Int.tmod_eq_emod_of_nonneg (by omega)])
    have e1 : IntKind.i64.wrap (c + 1) = c + 1 := IntWalk.i64_in _ ⟨by omega, by omega⟩
    have e2 : IntKind.i64.wrap (-(c + 1)) = -(c + 1) := IntWalk.i64_in _ ⟨by omega, by omega⟩
    go_enter Tryd.func22, Tryd.ntmps22
    go_wp2_with fail
    go_ret
    exact ⟨by rw [HQ.out]; rfl, rfl⟩
  · have HQ := Lib.hid (show pickZ c n = c % n by unfold pickZ; rw [if_neg h0])
    go_enter Tryd.func22, Tryd.ntmps22
    go_wp2_with fail
    go_ret
    exact ⟨by rw [HQ.out]; rfl, rfl⟩
def texts : List ByteArray := [ByteArray.mk #[47, 97], ByteArray.mk #[47, 98], ByteArray.mk #[47, 99], ByteArray.mk #[47, 100], ByteArray.mk #[47, 100, 47, 97], ByteArray.mk #[47, 100, 47, 98], ByteArray.mk #[47, 100, 47, 101], ByteArray.mk #[47, 100, 47, 101, 47, 97], ByteArray.mk #[47, 100, 47, 101, 47, 102], ByteArray.mk #[47, 99, 47, 97], ByteArray.mk #[47, 99, 47, 98], ByteArray.mk #[47, 98, 47, 97], ByteArray.mk #[47, 97, 47, 97], ByteArray.mk #[47, 100, 47, 101, 47, 102, 47, 103], ByteArray.mk #[47, 99, 47, 97, 47, 98]]
def textB (n : Int) : ByteArray := texts.getD (pickZ n 15).toNat emp
theorem text_any {n : Int} (hc : i64ok n) (w : World) : Calls Tryd.prog 20 #[.int .i64 n] w fun e w' => e = .returned (.string (textB n)) ∧ Below w.heap.size w w' := by
  obtain ⟨k, hk⟩ : ∃ k : Nat, (k : Int) = pickZ n 15 := ⟨(pickZ n 15).toNat, by have := pickZ_lt n (n := 15) (by omega); omega⟩
  have hk15 : k < 15 := by have := pickZ_lt n (n := 15) (by omega); omega
  have HQ := Lib.hid (show textB n = texts.getD k emp by unfold textB; rw [← hk]; rfl)
  have HP := Lib.hid (fun w => pick_any hc (n := 15) (by omega) w)
  rw [← hk] at HP
  obtain ⟨w1, hw1⟩ : ∃ x, x = w.alloc (.cells ((texts.map Value.string).toArray) 9) := ⟨_, rfl⟩
  have hc1 : cellOf k (hat w1 w.heap.size) = some (.string (texts.getD k emp)) := by
    rw [hw1, (hopN w _).1]
    show ((texts.map Value.string).toArray)[k]? = _
    rw [List.getElem?_toArray, List.getElem?_map, List.getD_eq_getElem?_getD, List.getElem?_eq_getElem (show k < texts.length from hk15)]
    rfl
  have hwl : w.heap.size < w1.heap.size := by rw [hw1]; simp
  have HB := Lib.hid (show Below w.heap.size w w1 by rw [hw1]; exact (Below.refl _ _).alloc (Nat.le_refl _) _)
  obtain ⟨g, hg⟩ : ∃ x, x = w.heap.size := ⟨_, rfl⟩
  rw [← hg] at hc1 hwl
  have hk1 : (k : Int) < 15 := by omega
  have hk0 : (0 : Int) ≤ (k : Int) := by omega
  have hw1' : w1 = w.alloc (.cells #[.string (ByteArray.mk #[47, 97]), .string (ByteArray.mk #[47, 98]), .string (ByteArray.mk #[47, 99]), .string (ByteArray.mk #[47, 100]), .string (ByteArray.mk #[47, 100, 47, 97]), .string (ByteArray.mk #[47, 100, 47, 98]), .string (ByteArray.mk #[47, 100, 47, 101]), .string (ByteArray.mk #[47, 100, 47, 101, 47, 97]), .string (ByteArray.mk #[47, 100, 47, 101, 47, 102]), .string (ByteArray.mk #[47, 99, 47, 97]), .string (ByteArray.mk #[47, 99, 47, 98]), .string (ByteArray.mk #[47, 98, 47, 97]), .string (ByteArray.mk #[47, 97, 47, 97]), .string (ByteArray.mk #[47, 100, 47, 101, 47, 102, 47, 103]), .string (ByteArray.mk #[47, 99, 47, 97, 47, 98])] 9) := hw1
  clear hk hc hw1
  go_enter Tryd.func20, Tryd.ntmps20
  go_upto_region 2 with fail
  rw [← hw1', ← hg]
  clear hw1' hg
  go_wp2_with fail
  refine (HP.out _).mono ?_; rintro e w2 ⟨rfl, rfl⟩
  go_wp2_with fail
  go_ret
  exact ⟨by rw [HQ.out]; rfl, HB.out⟩
theorem small_any {n : Int} (hc : i64ok n) (w : World) : Calls Tryd.prog 14 #[.int .i64 n] w fun e w' => ∃ gp s i, e = .returned (.tuple #[.pointer (some ⟨gp, 0, none⟩), .int .i64 (s - 1 - i), .int .i64 i]) ∧ NewAt w w' gp (newS s i) ∧ 3 ≤ i ∧ i ≤ 11 ∧ i + 10 ≤ s ∧ s ≤ i + 129 := by
  obtain ⟨i, hi⟩ : ∃ i, i = 3 + pickZ n 9 := ⟨_, rfl⟩
  obtain ⟨s, hs⟩ : ∃ s, s = i + 10 + pickZ (n.tdiv 9) 120 := ⟨_, rfl⟩
  have hp1 := pickZ_lt n (n := 9) (by omega)
  have hp2 := pickZ_lt (n.tdiv 9) (n := 120) (by omega)
  have hi1 : 3 ≤ i ∧ i ≤ 11 := by omega
  have hs1 : i + 10 ≤ s ∧ s ≤ i + 129 := by omega
  have hd : i64ok (n.tdiv 9) := by
    unfold i64ok at hc ⊢
    by_cases h : 0 ≤ n
    · rw [Int.tdiv_eq_ediv_of_nonneg h]
      omega
    · have e : n.tdiv 9 = -((-n).tdiv 9) := by rw [Int.neg_tdiv, Int.neg_neg]
      rw [e, Int.tdiv_eq_ediv_of_nonneg (by omega)]
      omega
  have HP1 := Lib.hid (fun w => pick_any hc (n := 9) (by omega) w)
  have HP2 := Lib.hid (fun w => pick_any hd (n := 120) (by omega) w)
  have HE := Lib.hid (show i = 3 + pickZ n 9 ∧ s = i + 10 + pickZ (n.tdiv 9) 120 from ⟨hi, hs⟩)
  have HR := Lib.hid (And.intro hi1 hs1)
  have HNB := Lib.hid (show ¬ badS s i by unfold badS; omega)
  have hw9 : IntKind.i64.wrap (n.tdiv 9) = n.tdiv 9 := IntWalk.i64_in _ hd
  go_enter Tryd.func14, Tryd.ntmps14
  go_wp2_with fail
  refine (HP1.out _).mono ?_; rintro e w1 ⟨rfl, rfl⟩
  have e1 : IntKind.i64.wrap (3 + pickZ n 9) = i := by rw [← HE.out.1]; exact IntWalk.i64_in _ ⟨by omega, by omega⟩
  have e2 : IntKind.i64.wrap (i + 10 + pickZ (n.tdiv 9) 120) = s := by rw [← HE.out.2]; exact IntWalk.i64_in _ ⟨by omega, by omega⟩
  obtain ⟨h1, h2⟩ := hi1
  obtain ⟨h3, h4⟩ := hs1
  clear hi hs hp1 hp2
  go_wp2_with fail
  refine (HP2.out _).mono ?_; rintro e w2 ⟨rfl, rfl⟩
  go_wp2_with fail
  refine (new_any HNB.out).mono ?_; rintro e w3 ⟨gp, rfl, hnew⟩
  have HN := Lib.hid hnew
  clear hnew
  go_wp2_with fail
  go_ret3
  exact ⟨gp, s, i, rfl, HN.out, HR.out.1.1, HR.out.1.2, HR.out.2.1, HR.out.2.2⟩
def DeedV.offZ (d : DeedV) : Int := ([0, 0, 100, 1500, 5600, 20000] : List Int).getD (pickZ d.off 6).toNat 0 + pickZ (d.off.tdiv 6) 300
/-- a deed as an operation -/
def DeedV.op (d : DeedV) : OpV :=
  if pickZ d.kind 14 ≤ 2 then ⟨1, textB d.a, emp, 0, 0, [], pickZ d.n 1000, 0⟩
  else if pickZ d.kind 14 ≤ 4 then ⟨2, textB d.a, emp, 0, 0, [], pickZ d.n 1000, 0⟩
  else if pickZ d.kind 14 = 5 then ⟨3, textB d.a, textB d.b, 0, 0, [], 0, 0⟩
  else if pickZ d.kind 14 = 6 then ⟨4, textB d.a, emp, 0, 0, [], 0, 0⟩
  else if pickZ d.kind 14 = 7 then ⟨5, textB d.a, emp, 0, 0, [], 0, 0⟩
  else if pickZ d.kind 14 ≤ 9 then ⟨6, textB d.a, textB d.b, 0, 0, [], 0, 0⟩
  else if pickZ d.kind 14 ≤ 12 then ⟨7, textB d.a, emp, d.offZ, 0, d.data.take 3000, 0, 0⟩
  else ⟨8, textB d.a, emp, d.offZ, 0, [], 0, 0⟩
end Go.Proofs.YteffoihkljkfdaaDoor

/- A deed as an operation: the walk. -/
namespace Go.Proofs.YteffoihkljkfdaaDoor
set_option linter.unusedSimpArgs false
set_option linter.unusedVariables false
open Go.RowKit

theorem OpAt.nil {w : World} {own : Nat → Option (Int × Nat)} {o : OpV} (h : o.data = []) : OpAt w own o (.slice none 0 0) :=
  ⟨⟨none, .inl ⟨⟨_, _, rfl⟩, rfl, h⟩, fun b hb => (nomatch hb)⟩, fun a l c h => (by cases h; exact Nat.le_refl _), fun x hx => (by rw [h] at hx; cases hx), by rw [h]; exact Nat.zero_le _⟩
theorem DataAt.take {w w' : World} {own : Nat → Option (Int × Nat)} {l : List Int} {a : Option Addr} {c : Nat} (h : DataAt w own l (.slice a l.length c)) (hf : Fr [] w w') (hl : 3000 < l.length) {o : OpV} (ho : o.data = l.take 3000) : OpAt w' own o (.slice a 3000 c) := by
  obtain ⟨od, hb, hn⟩ := h.d
  have hc := h.c _ _ _ rfl
  have hlen : o.data.length = 3000 := by rw [ho, List.length_take]; omega
  refine ⟨⟨od, ?_, hn⟩, fun a' l' c' e => (by injection e with _ e2 e3; omega), fun x hx => (by rw [ho] at hx; exact h.b x (List.mem_of_mem_take hx)), by omega⟩
  have hb2 := hb.fr hf (by simp)
  rcases hb2 with ⟨h1, h2, h3⟩ | ⟨g, off, c1, cs, T, fr, h1, h2, h3, h4⟩
  · rw [h3] at hl; simp at hl
  · injection h1 with e1 e2 e3
    refine .inr ⟨g, off, c, cs, T, fr, by rw [hlen, e1], h2, h3, fun j x hj => h4 j x ?_⟩
    rw [ho, List.getElem?_take] at hj
    split at hj
    · exact hj
    · cases hj
theorem DataAt.all {w w' : World} {own : Nat → Option (Int × Nat)} {l : List Int} {dv : Value} (h : DataAt w own l dv) (hf : Fr [] w w') (hl : l.length ≤ 3000) {o : OpV} (ho : o.data = l.take 3000) : OpAt w' own o dv := by
  have e : o.data = l := by rw [ho, List.take_of_length_le hl]
  obtain ⟨od, hb, hn⟩ := h.d
  exact ⟨⟨od, by rw [e]; exact hb.fr hf (by simp), hn⟩, h.c, by rw [e]; exact h.b, by rw [e]; omega⟩
set_option maxHeartbeats 16000000 in
set_option maxRecDepth 100000 in
theorem op_any {w : World} {own : Nat → Option (Int × Nat)} {d : DeedV} {dv : Value} (hk : i64ok d.kind ∧ i64ok d.a ∧ i64ok d.b ∧ i64ok d.off ∧ i64ok d.n) (hd : DataAt w own d.data dv) :
    Calls Tryd.prog 15 #[.agg (deedV d dv)] w fun e w' => ∃ dv', e = .returned (.agg (opV d.op dv')) ∧ OpAt w' own d.op dv' ∧ Below w.heap.size w w' := by
  obtain ⟨hk1, hk2, hk3, hk4, hk5⟩ := hk
  have HD := Lib.hid hd
  obtain ⟨od, hbr, -⟩ := hd.d
  obtain ⟨dva, dvc, rfl⟩ := hbr.slice
  have HCL := Lib.hid (hd.c _ _ _ rfl)
  have HOFF := Lib.hid (show d.offZ = ([0, 0, 100, 1500, 5600, 20000] : List Int).getD (pickZ d.off 6).toNat 0 + pickZ (d.off.tdiv 6) 300 from rfl)
  have HOP := Lib.hid (show d.op = (if pickZ d.kind 14 ≤ 2 then ⟨1, textB d.a, emp, 0, 0, [], pickZ d.n 1000, 0⟩
  else if pickZ d.kind 14 ≤ 4 then ⟨2, textB d.a, emp, 0, 0, [], pickZ d.n 1000, 0⟩
  else if pickZ d.kind 14 = 5 then ⟨3, textB d.a, textB d.b, 0, 0, [], 0, 0⟩
  else if pickZ d.kind 14 = 6 then ⟨4, textB d.a, emp, 0, 0, [], 0, 0⟩
  else if pickZ d.kind 14 = 7 then ⟨5, textB d.a, emp, 0, 0, [], 0, 0⟩
  else if pickZ d.kind 14 ≤ 9 then ⟨6, textB d.a, textB d.b, 0, 0, [], 0, 0⟩
  else if pickZ d.kind 14 ≤ 12 then ⟨7, textB d.a, emp, d.offZ, 0, d.data.take 3000, 0, 0⟩
  else ⟨8, textB d.a, emp, d.offZ, 0, [], 0, 0⟩ : OpV) from rfl)
  generalize d.op = OO at *
  generalize hoz : d.offZ = oz at *
  obtain ⟨kind, da, db, off, n, data⟩ := d
  simp only at hk1 hk2 hk3 hk4 hk5 HD HOP HOFF HCL
  clear hd hbr hoz
  unfold deedV
  simp only
  have HT1 := Lib.hid (fun W => text_any hk2 W)
  have HT2 := Lib.hid (fun W => text_any hk3 W)
  have hd6 : i64ok (off.tdiv 6) := by
    unfold i64ok at hk4 ⊢
    by_cases h : 0 ≤ off
    · rw [Int.tdiv_eq_ediv_of_nonneg h]; omega
    · have e : off.tdiv 6 = -((-off).tdiv 6) := by rw [Int.neg_tdiv, Int.neg_neg]
      rw [e, Int.tdiv_eq_ediv_of_nonneg (by omega)]; omega
  have HP6 := Lib.hid (fun W => pick_any hk4 (n := 6) (by omega) W)
  have HP3 := Lib.hid (fun W => pick_any hd6 (n := 300) (by omega) W)
  have HPK := Lib.hid (fun W => pick_any hk1 (n := 14) (by omega) W)
  have HPN := Lib.hid (fun W => pick_any hk5 (n := 1000) (by omega) W)
  have hw6 : IntKind.i64.wrap (off.tdiv 6) = off.tdiv 6 := IntWalk.i64_in _ hd6
  have hl6 := pickZ_lt off (n := 6) (by omega)
  have hl3 := pickZ_lt (off.tdiv 6) (n := 300) (by omega)
  have hlk := pickZ_lt kind (n := 14) (by omega)
  have HKK := Lib.hid (show pickZ kind 14 = 0 ∨ pickZ kind 14 = 1 ∨ pickZ kind 14 = 2 ∨ pickZ kind 14 = 3 ∨ pickZ kind 14 = 4 ∨ pickZ kind 14 = 5 ∨ pickZ kind 14 = 6 ∨ pickZ kind 14 = 7 ∨ pickZ kind 14 = 8 ∨ pickZ kind 14 = 9 ∨ pickZ kind 14 = 10 ∨ pickZ kind 14 = 11 ∨ pickZ kind 14 = 12 ∨ pickZ kind 14 = 13 by omega)
  obtain ⟨k6, hk6⟩ : ∃ k : Nat, (k : Int) = pickZ off 6 := ⟨(pickZ off 6).toNat, by omega⟩
  rw [← hk6] at HP6 HOFF hl6
  rw [Int.toNat_natCast] at HOFF
  have hk6l : k6 < 6 := by omega
  obtain ⟨c6, hc6⟩ : ∃ x, x = ([0, 0, 100, 1500, 5600, 20000] : List Int).getD k6 0 := ⟨_, rfl⟩
  rw [← hc6] at HOFF
  have hc6b : 0 ≤ c6 ∧ c6 ≤ 20000 := by
    have : k6 = 0 ∨ k6 = 1 ∨ k6 = 2 ∨ k6 = 3 ∨ k6 = 4 ∨ k6 = 5 := by omega
    rcases this with rfl | rfl | rfl | rfl | rfl | rfl <;> (rw [hc6]; decide)
  have HC6 := Lib.hid (show ∀ W g, hat W g = some (.cells #[.int .i64 0, .int .i64 0, .int .i64 100, .int .i64 1500, .int .i64 5600, .int .i64 20000] 3) → cellOf k6 (hat W g) = some (.int .i64 c6) from fun W g h => by
    rw [h, hc6]
    have : k6 = 0 ∨ k6 = 1 ∨ k6 = 2 ∨ k6 = 3 ∨ k6 = 4 ∨ k6 = 5 := by omega
    rcases this with rfl | rfl | rfl | rfl | rfl | rfl <;> rfl)
  obtain ⟨p3, hp3⟩ : ∃ x, x = pickZ (off.tdiv 6) 300 := ⟨_, rfl⟩
  rw [← hp3] at HP3 HOFF hl3
  have hoz2 : IntKind.i64.wrap (c6 + p3) = oz := by rw [HOFF.out]; exact IntWalk.i64_in _ ⟨by omega, by omega⟩
  obtain ⟨w0, hw0⟩ : ∃ x, x = (w.alloc (.cells #[.int .i64 kind, .int .i64 da, .int .i64 db, .int .i64 off, .int .i64 n, .slice dva data.length dvc] 54)).alloc (.cells #[.int .i64 0, .string (ByteArray.mk #[]), .string (ByteArray.mk #[]), .int .i64 0, .int .i64 0, .slice none 0 0, .int .i64 0, .int .i64 0] 40) := ⟨_, rfl⟩
  obtain ⟨gd, hgd⟩ : ∃ x, x = w.heap.size := ⟨_, rfl⟩
  obtain ⟨go, hgo⟩ : ∃ x, x = gd + 1 := ⟨_, rfl⟩
  have hb0 : Below w.heap.size w w0 := by rw [hw0]; exact ((Below.refl _ _).alloc (Nat.le_refl _) _).alloc (by simp) _
  have hx0 : hat w0 gd = some (.cells #[.int .i64 kind, .int .i64 da, .int .i64 db, .int .i64 off, .int .i64 n, .slice dva data.length dvc] 54) := by rw [hw0, hgd]; exact (hopA _ _ (hopN w _).1).1
  have ho0 : hat w0 go = some (.cells #[.int .i64 0, .string (ByteArray.mk #[]), .string (ByteArray.mk #[]), .int .i64 0, .int .i64 0, .slice none 0 0, .int .i64 0, .int .i64 0] 40) := by
    have e := (hopN (w.alloc (.cells #[.int .i64 kind, .int .i64 da, .int .i64 db, .int .i64 off, .int .i64 n, .slice dva data.length dvc] 54)) (.cells #[.int .i64 0, .string (ByteArray.mk #[]), .string (ByteArray.mk #[]), .int .i64 0, .int .i64 0, .slice none 0 0, .int .i64 0, .int .i64 0] 40)).1
    rw [show (w.alloc (.cells #[.int .i64 kind, .int .i64 da, .int .i64 db, .int .i64 off, .int .i64 n, .slice dva data.length dvc] 54)).heap.size = go by rw [hgo, hgd]; simp] at e
    rw [hw0]; exact e
  have HB0 := Lib.hid hb0
  have HO0 := Lib.hid ho0
  have HGE := Lib.hid (show w.heap.size ≤ gd ∧ w.heap.size ≤ go by omega)
  have hxl0 := hat_lt hx0
  clear hk1 hk2 hk3 hk4 hk5 hd6 hl6 hl3 hlk hk6 hc6 hp3 ho0
  go_enter Tryd.func15, Tryd.ntmps15
  go_upto_region 1 with fail
  rw [← hgd, ← hgo]

  rw [← hw0]
  clear hw0 hgo hgd hb0
  go_wp2_with fail
  refine (HT1.out _).mono ?_; rintro e w1 ⟨rfl, hb1⟩
  have hx1 := (hop hb1 hx0).1
  have hxl1 := hat_lt hx1
  have HO1 := Lib.hid (hop hb1 HO0.out).1
  have HB1 := Lib.hid (below_call HB0.out hb1 HB0.out.size)
  clear hb1 hx0 hxl0 HO0 HB0
  go_wp2_with fail
  refine (HT2.out _).mono ?_; rintro e w2 ⟨rfl, hb2⟩
  have hx2 := (hop hb2 hx1).1
  have hxl2 := hat_lt hx2
  have HO2 := Lib.hid (hop hb2 HO1.out).1
  have HB2 := Lib.hid (below_call HB1.out hb2 HB1.out.size)
  clear hb2 hx1 hxl1 HO1 HB1
  go_upto_region 3 with fail
  refine wp_region_G (by kernel_rfl) 11 (by decide) rfl (fun w' => Below w2.heap.size w2 w') (fun w1 w2 => Below w1.heap.size w1 w2)
    (fun i v w' => match i with
      | 0 => ∃ g, v = .slice (some ⟨g, 0, none⟩) 6 6 ∧ hat w' g = some (.cells #[.int .i64 0, .int .i64 0, .int .i64 100, .int .i64 1500, .int .i64 5600, .int .i64 20000] 3)
      | 1 => v = .pointer (some ⟨gd, 3, none⟩)
      | 2 => v = .int .i64 off
      | 3 => v = .int .i64 (k6 : Int)
      | 4 => ∃ g, v = .pointer (some ⟨g, k6, none⟩) ∧ hat w' g = some (.cells #[.int .i64 0, .int .i64 0, .int .i64 100, .int .i64 1500, .int .i64 5600, .int .i64 20000] 3)
      | 5 => v = .int .i64 c6
      | 6 => v = .pointer (some ⟨gd, 3, none⟩)
      | 7 => v = .int .i64 off
      | 8 => v = .int .i64 (off.tdiv 6)
      | 9 => v = .int .i64 p3
      | _ => v = .int .i64 oz) ((Below.refl _ _).drew) ?_ ?_ ?_
  · intro i v w1 w2 hi hI hI' hE hG
    have hi' : i = 0 ∨ i = 1 ∨ i = 2 ∨ i = 3 ∨ i = 4 ∨ i = 5 ∨ i = 6 ∨ i = 7 ∨ i = 8 ∨ i = 9 ∨ i = 10 := by omega
    rcases hi' with rfl | rfl | rfl | rfl | rfl | rfl | rfl | rfl | rfl | rfl | rfl
    case inl =>
      obtain ⟨g, h1, h2⟩ := hG
      exact ⟨g, h1, (hop hE h2).1⟩
    case inr.inr.inr.inr.inl =>
      obtain ⟨g, h1, h2⟩ := hG
      exact ⟨g, h1, (hop hE h2).1⟩
    all_goals exact hG
  · intro i' o ho0 ho a' w' hB hS hF
    have hi' : i' = 0 ∨ i' = 1 ∨ i' = 2 ∨ i' = 3 ∨ i' = 4 ∨ i' = 5 ∨ i' = 6 ∨ i' = 7 ∨ i' = 8 ∨ i' = 9 ∨ i' = 10 := by omega
    have hx := (hop hB hx2).1
    have hxl := hat_lt hx
    rcases hi' with rfl | rfl | rfl | rfl | rfl | rfl | rfl | rfl | rfl | rfl | rfl
    all_goals (have ho' := Option.some.inj ho; subst ho')
    · refine wpOp_val_g (w1 := w'.alloc (.cells #[.int .i64 0, .int .i64 0, .int .i64 100, .int .i64 1500, .int .i64 5600, .int .i64 20000] 3)) (v := .slice (some ⟨w'.heap.size, 0, none⟩) 6 6) rfl (wanted_free rfl) ?_ ⟨_, rfl, hB.alloc hB.size _, (Below.refl _ _).alloc (Nat.le_refl _) _, w'.heap.size, rfl, (hopN w' _).1⟩
      simp [go_sem]
    · have q1 : a'.tmps[1]?.getD undef = .pointer (some ⟨gd, 0, none⟩) := gtx ((hS 1 (by decide)).trans rfl)
      refine wpOp_val_g rfl (wanted_free rfl) ?_ ⟨_, rfl, hB, Below.refl _ _, rfl⟩
      simp [go_sem, q1]
    · have q14 := gtx (hF 1 (by decide) _ 14 rfl rfl)
      refine wpOp_val_g rfl (wanted_free rfl) ?_ ⟨_, rfl, hB, Below.refl _ _, rfl⟩
      simp [go_sem, q14, hx]
    · have q15 := gtx (hF 2 (by decide) _ 15 rfl rfl)
      refine wpOp_call_g (f := 22) (args := #[.int .i64 off, .int .i64 6]) rfl (wanted_free rfl) (by simp [go_sem, q15]) (HP6.out w') ?_
      rintro e w'' ⟨rfl, rfl⟩
      exact ⟨_, rfl, _, rfl, hB, Below.refl _ _, rfl⟩
    · obtain ⟨g, h1, h2⟩ := hF 0 (by decide) _ 13 rfl rfl
      have q13 := gtx h1
      have q16 := gtx (hF 3 (by decide) _ 16 rfl rfl)
      refine wpOp_val_g (v := .pointer (some ⟨g, k6, none⟩)) rfl (wanted_free rfl) ?_ ⟨_, rfl, hB, Below.refl _ _, g, rfl, h2⟩
      have hk1 : (k6 : Int) < 6 := by omega
      have hk0 : (0 : Int) ≤ (k6 : Int) := by omega
      simp [go_sem, q13, q16, hk1, hk0]
    · obtain ⟨g, h1, h2⟩ := hF 4 (by decide) _ 17 rfl rfl
      have q17 := gtx h1
      have hcc := HC6.out w' g h2
      refine wpOp_val_g rfl (wanted_free rfl) ?_ ⟨_, rfl, hB, Below.refl _ _, rfl⟩
      simp [go_sem, q17, hcc]
    · have q1 : a'.tmps[1]?.getD undef = .pointer (some ⟨gd, 0, none⟩) := gtx ((hS 1 (by decide)).trans rfl)
      refine wpOp_val_g rfl (wanted_free rfl) ?_ ⟨_, rfl, hB, Below.refl _ _, rfl⟩
      simp [go_sem, q1]
    · have q19 := gtx (hF 6 (by decide) _ 19 rfl rfl)
      refine wpOp_val_g rfl (wanted_free rfl) ?_ ⟨_, rfl, hB, Below.refl _ _, rfl⟩
      simp [go_sem, q19, hx]
    · have q20 := gtx (hF 7 (by decide) _ 20 rfl rfl)
      refine wpOp_val_g rfl (wanted_free rfl) ?_ ⟨_, rfl, hB, Below.refl _ _, rfl⟩
      simp [go_sem, q20, hw6]
    · have q21 := gtx (hF 8 (by decide) _ 21 rfl rfl)
      refine wpOp_call_g (f := 22) (args := #[.int .i64 (off.tdiv 6), .int .i64 300]) rfl (wanted_free rfl) (by simp [go_sem, q21]) (HP3.out w') ?_
      rintro e w'' ⟨rfl, rfl⟩
      exact ⟨_, rfl, _, rfl, hB, Below.refl _ _, rfl⟩
    · have q18 := gtx (hF 5 (by decide) _ 18 rfl rfl)
      have q22 := gtx (hF 9 (by decide) _ 22 rfl rfl)
      refine wpOp_val_g rfl (wanted_free rfl) ?_ ⟨_, rfl, hB, Below.refl _ _, rfl⟩
      simp [go_sem, q18, q22, hoz2]
  · intro val w5 hB5 hF5
    have e9 : val 10 = .int .i64 oz := hF5 10 _ 23 (by decide) rfl rfl
    simp only [putAll, List.take, List.drop, List.take_succ_cons, List.drop_succ_cons, Act.put, List.setIfInBounds_toArray, List.set_cons_zero, List.set_cons_succ]
    rw [e9]
    have hx5 := (hop hB5 hx2).1
    have hxl5 := hat_lt hx5
    have ho5 := (hop hB5 HO2.out).1
    have hol5 := hat_lt ho5
    have HO5 := Lib.hid ho5
    have HB5 := Lib.hid (below_call HB2.out hB5 HB2.out.size)
    clear hF5 hB5 hx2 hxl2 HO2 HB2 hoz2 hw6 hc6b e9
    by_cases hlen : 3000 < data.length
    · have hl1 : (3000 : Int) < (data.length : Int) := by omega
      have hl2 : (3000 : Int) ≤ (dvc : Int) := by have := HCL.out; omega
      have HL := Lib.hid hlen
      clear hlen
      go_wp2_with fail
      refine (HPK.out _).mono ?_; rintro e w6 ⟨rfl, rfl⟩
      rcases HKK.out with hz | hz | hz | hz | hz | hz | hz | hz | hz | hz | hz | hz | hz | hz
      · rw [hz] at HOP ⊢
        have HO := Lib.hid (show OO = ⟨1, textB da, emp, 0, 0, [], pickZ n 1000, 0⟩ by rw [HOP.out]; rfl)
        clear hz
        go_wp2_with fail
        refine (HPN.out _).mono ?_; rintro e w7 ⟨rfl, rfl⟩
        go_wp2_with fail
        refine ret_c row40 rfl (cs := #[.int .i64 1, .string (textB da), .string (ByteArray.mk #[]), .int .i64 0, .int .i64 0, (.slice none 0 0), .int .i64 (pickZ n 1000), .int .i64 0]) rfl (hat_setRow_at _ _ _ _ _ _ HO5.out) rfl rfl ?_
        exact ⟨(.slice none 0 0), by rw [HO.out]; rfl, OpAt.nil (by rw [HO.out]), ((((fr_below HB5.out [go]).trans (fr_setRow w7 go _)).past (ex' := []) (fun b hb => .inr (by have := HGE.out.2; simp at hb; omega)))).bl⟩
      · rw [hz] at HOP ⊢
        have HO := Lib.hid (show OO = ⟨1, textB da, emp, 0, 0, [], pickZ n 1000, 0⟩ by rw [HOP.out]; rfl)
        clear hz
        go_wp2_with fail
        refine (HPN.out _).mono ?_; rintro e w7 ⟨rfl, rfl⟩
        go_wp2_with fail
        refine ret_c row40 rfl (cs := #[.int .i64 1, .string (textB da), .string (ByteArray.mk #[]), .int .i64 0, .int .i64 0, (.slice none 0 0), .int .i64 (pickZ n 1000), .int .i64 0]) rfl (hat_setRow_at _ _ _ _ _ _ HO5.out) rfl rfl ?_
        exact ⟨(.slice none 0 0), by rw [HO.out]; rfl, OpAt.nil (by rw [HO.out]), ((((fr_below HB5.out [go]).trans (fr_setRow w7 go _)).past (ex' := []) (fun b hb => .inr (by have := HGE.out.2; simp at hb; omega)))).bl⟩
      · rw [hz] at HOP ⊢
        have HO := Lib.hid (show OO = ⟨1, textB da, emp, 0, 0, [], pickZ n 1000, 0⟩ by rw [HOP.out]; rfl)
        clear hz
        go_wp2_with fail
        refine (HPN.out _).mono ?_; rintro e w7 ⟨rfl, rfl⟩
        go_wp2_with fail
        refine ret_c row40 rfl (cs := #[.int .i64 1, .string (textB da), .string (ByteArray.mk #[]), .int .i64 0, .int .i64 0, (.slice none 0 0), .int .i64 (pickZ n 1000), .int .i64 0]) rfl (hat_setRow_at _ _ _ _ _ _ HO5.out) rfl rfl ?_
        exact ⟨(.slice none 0 0), by rw [HO.out]; rfl, OpAt.nil (by rw [HO.out]), ((((fr_below HB5.out [go]).trans (fr_setRow w7 go _)).past (ex' := []) (fun b hb => .inr (by have := HGE.out.2; simp at hb; omega)))).bl⟩
      · rw [hz] at HOP ⊢
        have HO := Lib.hid (show OO = ⟨2, textB da, emp, 0, 0, [], pickZ n 1000, 0⟩ by rw [HOP.out]; rfl)
        clear hz
        go_wp2_with fail
        refine (HPN.out _).mono ?_; rintro e w7 ⟨rfl, rfl⟩
        go_wp2_with fail
        refine ret_c row40 rfl (cs := #[.int .i64 2, .string (textB da), .string (ByteArray.mk #[]), .int .i64 0, .int .i64 0, (.slice none 0 0), .int .i64 (pickZ n 1000), .int .i64 0]) rfl (hat_setRow_at _ _ _ _ _ _ HO5.out) rfl rfl ?_
        exact ⟨(.slice none 0 0), by rw [HO.out]; rfl, OpAt.nil (by rw [HO.out]), ((((fr_below HB5.out [go]).trans (fr_setRow w7 go _)).past (ex' := []) (fun b hb => .inr (by have := HGE.out.2; simp at hb; omega)))).bl⟩
      · rw [hz] at HOP ⊢
        have HO := Lib.hid (show OO = ⟨2, textB da, emp, 0, 0, [], pickZ n 1000, 0⟩ by rw [HOP.out]; rfl)
        clear hz
        go_wp2_with fail
        refine (HPN.out _).mono ?_; rintro e w7 ⟨rfl, rfl⟩
        go_wp2_with fail
        refine ret_c row40 rfl (cs := #[.int .i64 2, .string (textB da), .string (ByteArray.mk #[]), .int .i64 0, .int .i64 0, (.slice none 0 0), .int .i64 (pickZ n 1000), .int .i64 0]) rfl (hat_setRow_at _ _ _ _ _ _ HO5.out) rfl rfl ?_
        exact ⟨(.slice none 0 0), by rw [HO.out]; rfl, OpAt.nil (by rw [HO.out]), ((((fr_below HB5.out [go]).trans (fr_setRow w7 go _)).past (ex' := []) (fun b hb => .inr (by have := HGE.out.2; simp at hb; omega)))).bl⟩
      · rw [hz] at HOP ⊢
        have HO := Lib.hid (show OO = ⟨3, textB da, textB db, 0, 0, [], 0, 0⟩ by rw [HOP.out]; rfl)
        clear hz
        go_wp2_with fail
        refine ret_c row40 rfl (cs := #[.int .i64 3, .string (textB da), .string (textB db), .int .i64 0, .int .i64 0, (.slice none 0 0), .int .i64 0, .int .i64 0]) rfl (hat_setRow_at _ _ _ _ _ _ HO5.out) rfl rfl ?_
        exact ⟨(.slice none 0 0), by rw [HO.out]; rfl, OpAt.nil (by rw [HO.out]), ((((fr_below HB5.out [go]).trans (fr_setRow w6 go _)).past (ex' := []) (fun b hb => .inr (by have := HGE.out.2; simp at hb; omega)))).bl⟩
      · rw [hz] at HOP ⊢
        have HO := Lib.hid (show OO = ⟨4, textB da, emp, 0, 0, [], 0, 0⟩ by rw [HOP.out]; rfl)
        clear hz
        go_wp2_with fail
        refine ret_c row40 rfl (cs := #[.int .i64 4, .string (textB da), .string (ByteArray.mk #[]), .int .i64 0, .int .i64 0, (.slice none 0 0), .int .i64 0, .int .i64 0]) rfl (hat_setRow_at _ _ _ _ _ _ HO5.out) rfl rfl ?_
        exact ⟨(.slice none 0 0), by rw [HO.out]; rfl, OpAt.nil (by rw [HO.out]), ((((fr_below HB5.out [go]).trans (fr_setRow w6 go _)).past (ex' := []) (fun b hb => .inr (by have := HGE.out.2; simp at hb; omega)))).bl⟩
      · rw [hz] at HOP ⊢
        have HO := Lib.hid (show OO = ⟨5, textB da, emp, 0, 0, [], 0, 0⟩ by rw [HOP.out]; rfl)
        clear hz
        go_wp2_with fail
        refine ret_c row40 rfl (cs := #[.int .i64 5, .string (textB da), .string (ByteArray.mk #[]), .int .i64 0, .int .i64 0, (.slice none 0 0), .int .i64 0, .int .i64 0]) rfl (hat_setRow_at _ _ _ _ _ _ HO5.out) rfl rfl ?_
        exact ⟨(.slice none 0 0), by rw [HO.out]; rfl, OpAt.nil (by rw [HO.out]), ((((fr_below HB5.out [go]).trans (fr_setRow w6 go _)).past (ex' := []) (fun b hb => .inr (by have := HGE.out.2; simp at hb; omega)))).bl⟩
      · rw [hz] at HOP ⊢
        have HO := Lib.hid (show OO = ⟨6, textB da, textB db, 0, 0, [], 0, 0⟩ by rw [HOP.out]; rfl)
        clear hz
        go_wp2_with fail
        refine ret_c row40 rfl (cs := #[.int .i64 6, .string (textB da), .string (textB db), .int .i64 0, .int .i64 0, (.slice none 0 0), .int .i64 0, .int .i64 0]) rfl (hat_setRow_at _ _ _ _ _ _ HO5.out) rfl rfl ?_
        exact ⟨(.slice none 0 0), by rw [HO.out]; rfl, OpAt.nil (by rw [HO.out]), ((((fr_below HB5.out [go]).trans (fr_setRow w6 go _)).past (ex' := []) (fun b hb => .inr (by have := HGE.out.2; simp at hb; omega)))).bl⟩
      · rw [hz] at HOP ⊢
        have HO := Lib.hid (show OO = ⟨6, textB da, textB db, 0, 0, [], 0, 0⟩ by rw [HOP.out]; rfl)
        clear hz
        go_wp2_with fail
        refine ret_c row40 rfl (cs := #[.int .i64 6, .string (textB da), .string (textB db), .int .i64 0, .int .i64 0, (.slice none 0 0), .int .i64 0, .int .i64 0]) rfl (hat_setRow_at _ _ _ _ _ _ HO5.out) rfl rfl ?_
        exact ⟨(.slice none 0 0), by rw [HO.out]; rfl, OpAt.nil (by rw [HO.out]), ((((fr_below HB5.out [go]).trans (fr_setRow w6 go _)).past (ex' := []) (fun b hb => .inr (by have := HGE.out.2; simp at hb; omega)))).bl⟩
      · rw [hz] at HOP ⊢
        have HO := Lib.hid (show OO = ⟨7, textB da, emp, oz, 0, data.take 3000, 0, 0⟩ by rw [HOP.out]; rfl)
        clear hz
        go_wp2_with fail
        refine ret_c row40 rfl (cs := #[.int .i64 7, .string (textB da), .string (ByteArray.mk #[]), .int .i64 oz, .int .i64 0, (.slice dva 3000 dvc), .int .i64 0, .int .i64 0]) rfl (hat_setRow_at _ _ _ _ _ _ HO5.out) rfl rfl ?_
        exact ⟨(.slice dva 3000 dvc), by rw [HO.out]; rfl, HD.out.take (((fr_below HB5.out [go]).trans (fr_setRow w6 go _)).past (fun b hb => .inr (by have := HGE.out.2; simp at hb; omega))) HL.out (by rw [HO.out]), ((((fr_below HB5.out [go]).trans (fr_setRow w6 go _)).past (ex' := []) (fun b hb => .inr (by have := HGE.out.2; simp at hb; omega)))).bl⟩
      · rw [hz] at HOP ⊢
        have HO := Lib.hid (show OO = ⟨7, textB da, emp, oz, 0, data.take 3000, 0, 0⟩ by rw [HOP.out]; rfl)
        clear hz
        go_wp2_with fail
        refine ret_c row40 rfl (cs := #[.int .i64 7, .string (textB da), .string (ByteArray.mk #[]), .int .i64 oz, .int .i64 0, (.slice dva 3000 dvc), .int .i64 0, .int .i64 0]) rfl (hat_setRow_at _ _ _ _ _ _ HO5.out) rfl rfl ?_
        exact ⟨(.slice dva 3000 dvc), by rw [HO.out]; rfl, HD.out.take (((fr_below HB5.out [go]).trans (fr_setRow w6 go _)).past (fun b hb => .inr (by have := HGE.out.2; simp at hb; omega))) HL.out (by rw [HO.out]), ((((fr_below HB5.out [go]).trans (fr_setRow w6 go _)).past (ex' := []) (fun b hb => .inr (by have := HGE.out.2; simp at hb; omega)))).bl⟩
      · rw [hz] at HOP ⊢
        have HO := Lib.hid (show OO = ⟨7, textB da, emp, oz, 0, data.take 3000, 0, 0⟩ by rw [HOP.out]; rfl)
        clear hz
        go_wp2_with fail
        refine ret_c row40 rfl (cs := #[.int .i64 7, .string (textB da), .string (ByteArray.mk #[]), .int .i64 oz, .int .i64 0, (.slice dva 3000 dvc), .int .i64 0, .int .i64 0]) rfl (hat_setRow_at _ _ _ _ _ _ HO5.out) rfl rfl ?_
        exact ⟨(.slice dva 3000 dvc), by rw [HO.out]; rfl, HD.out.take (((fr_below HB5.out [go]).trans (fr_setRow w6 go _)).past (fun b hb => .inr (by have := HGE.out.2; simp at hb; omega))) HL.out (by rw [HO.out]), ((((fr_below HB5.out [go]).trans (fr_setRow w6 go _)).past (ex' := []) (fun b hb => .inr (by have := HGE.out.2; simp at hb; omega)))).bl⟩
      · rw [hz] at HOP ⊢
        have HO := Lib.hid (show OO = ⟨8, textB da, emp, oz, 0, [], 0, 0⟩ by rw [HOP.out]; rfl)
        clear hz
        go_wp2_with fail
        refine ret_c row40 rfl (cs := #[.int .i64 8, .string (textB da), .string (ByteArray.mk #[]), .int .i64 oz, .int .i64 0, (.slice none 0 0), .int .i64 0, .int .i64 0]) rfl (hat_setRow_at _ _ _ _ _ _ HO5.out) rfl rfl ?_
        exact ⟨(.slice none 0 0), by rw [HO.out]; rfl, OpAt.nil (by rw [HO.out]), ((((fr_below HB5.out [go]).trans (fr_setRow w6 go _)).past (ex' := []) (fun b hb => .inr (by have := HGE.out.2; simp at hb; omega)))).bl⟩
    · have hl1 : ¬ (3000 : Int) < (data.length : Int) := by omega
      have HL := Lib.hid (show data.length ≤ 3000 by omega)
      clear hlen
      go_wp2_with fail
      refine (HPK.out _).mono ?_; rintro e w6 ⟨rfl, rfl⟩
      rcases HKK.out with hz | hz | hz | hz | hz | hz | hz | hz | hz | hz | hz | hz | hz | hz
      · rw [hz] at HOP ⊢
        have HO := Lib.hid (show OO = ⟨1, textB da, emp, 0, 0, [], pickZ n 1000, 0⟩ by rw [HOP.out]; rfl)
        clear hz
        go_wp2_with fail
        refine (HPN.out _).mono ?_; rintro e w7 ⟨rfl, rfl⟩
        go_wp2_with fail
        refine ret_c row40 rfl (cs := #[.int .i64 1, .string (textB da), .string (ByteArray.mk #[]), .int .i64 0, .int .i64 0, (.slice none 0 0), .int .i64 (pickZ n 1000), .int .i64 0]) rfl (hat_setRow_at _ _ _ _ _ _ HO5.out) rfl rfl ?_
        exact ⟨(.slice none 0 0), by rw [HO.out]; rfl, OpAt.nil (by rw [HO.out]), ((((fr_below HB5.out [go]).trans (fr_setRow w7 go _)).past (ex' := []) (fun b hb => .inr (by have := HGE.out.2; simp at hb; omega)))).bl⟩
      · rw [hz] at HOP ⊢
        have HO := Lib.hid (show OO = ⟨1, textB da, emp, 0, 0, [], pickZ n 1000, 0⟩ by rw [HOP.out]; rfl)
        clear hz
        go_wp2_with fail
        refine (HPN.out _).mono ?_; rintro e w7 ⟨rfl, rfl⟩
        go_wp2_with fail
        refine ret_c row40 rfl (cs := #[.int .i64 1, .string (textB da), .string (ByteArray.mk #[]), .int .i64 0, .int .i64 0, (.slice none 0 0), .int .i64 (pickZ n 1000), .int .i64 0]) rfl (hat_setRow_at _ _ _ _ _ _ HO5.out) rfl rfl ?_
        exact ⟨(.slice none 0 0), by rw [HO.out]; rfl, OpAt.nil (by rw [HO.out]), ((((fr_below HB5.out [go]).trans (fr_setRow w7 go _)).past (ex' := []) (fun b hb => .inr (by have := HGE.out.2; simp at hb; omega)))).bl⟩
      · rw [hz] at HOP ⊢
        have HO := Lib.hid (show OO = ⟨1, textB da, emp, 0, 0, [], pickZ n 1000, 0⟩ by rw [HOP.out]; rfl)
        clear hz
        go_wp2_with fail
        refine (HPN.out _).mono ?_; rintro e w7 ⟨rfl, rfl⟩
        go_wp2_with fail
        refine ret_c row40 rfl (cs := #[.int .i64 1, .string (textB da), .string (ByteArray.mk #[]), .int .i64 0, .int .i64 0, (.slice none 0 0), .int .i64 (pickZ n 1000), .int .i64 0]) rfl (hat_setRow_at _ _ _ _ _ _ HO5.out) rfl rfl ?_
        exact ⟨(.slice none 0 0), by rw [HO.out]; rfl, OpAt.nil (by rw [HO.out]), ((((fr_below HB5.out [go]).trans (fr_setRow w7 go _)).past (ex' := []) (fun b hb => .inr (by have := HGE.out.2; simp at hb; omega)))).bl⟩
      · rw [hz] at HOP ⊢
        have HO := Lib.hid (show OO = ⟨2, textB da, emp, 0, 0, [], pickZ n 1000, 0⟩ by rw [HOP.out]; rfl)
        clear hz
        go_wp2_with fail
        refine (HPN.out _).mono ?_; rintro e w7 ⟨rfl, rfl⟩
        go_wp2_with fail
        refine ret_c row40 rfl (cs := #[.int .i64 2, .string (textB da), .string (ByteArray.mk #[]), .int .i64 0, .int .i64 0, (.slice none 0 0), .int .i64 (pickZ n 1000), .int .i64 0]) rfl (hat_setRow_at _ _ _ _ _ _ HO5.out) rfl rfl ?_
        exact ⟨(.slice none 0 0), by rw [HO.out]; rfl, OpAt.nil (by rw [HO.out]), ((((fr_below HB5.out [go]).trans (fr_setRow w7 go _)).past (ex' := []) (fun b hb => .inr (by have := HGE.out.2; simp at hb; omega)))).bl⟩
      · rw [hz] at HOP ⊢
        have HO := Lib.hid (show OO = ⟨2, textB da, emp, 0, 0, [], pickZ n 1000, 0⟩ by rw [HOP.out]; rfl)
        clear hz
        go_wp2_with fail
        refine (HPN.out _).mono ?_; rintro e w7 ⟨rfl, rfl⟩
        go_wp2_with fail
        refine ret_c row40 rfl (cs := #[.int .i64 2, .string (textB da), .string (ByteArray.mk #[]), .int .i64 0, .int .i64 0, (.slice none 0 0), .int .i64 (pickZ n 1000), .int .i64 0]) rfl (hat_setRow_at _ _ _ _ _ _ HO5.out) rfl rfl ?_
        exact ⟨(.slice none 0 0), by rw [HO.out]; rfl, OpAt.nil (by rw [HO.out]), ((((fr_below HB5.out [go]).trans (fr_setRow w7 go _)).past (ex' := []) (fun b hb => .inr (by have := HGE.out.2; simp at hb; omega)))).bl⟩
      · rw [hz] at HOP ⊢
        have HO := Lib.hid (show OO = ⟨3, textB da, textB db, 0, 0, [], 0, 0⟩ by rw [HOP.out]; rfl)
        clear hz
        go_wp2_with fail
        refine ret_c row40 rfl (cs := #[.int .i64 3, .string (textB da), .string (textB db), .int .i64 0, .int .i64 0, (.slice none 0 0), .int .i64 0, .int .i64 0]) rfl (hat_setRow_at _ _ _ _ _ _ HO5.out) rfl rfl ?_
        exact ⟨(.slice none 0 0), by rw [HO.out]; rfl, OpAt.nil (by rw [HO.out]), ((((fr_below HB5.out [go]).trans (fr_setRow w6 go _)).past (ex' := []) (fun b hb => .inr (by have := HGE.out.2; simp at hb; omega)))).bl⟩
      · rw [hz] at HOP ⊢
        have HO := Lib.hid (show OO = ⟨4, textB da, emp, 0, 0, [], 0, 0⟩ by rw [HOP.out]; rfl)
        clear hz
        go_wp2_with fail
        refine ret_c row40 rfl (cs := #[.int .i64 4, .string (textB da), .string (ByteArray.mk #[]), .int .i64 0, .int .i64 0, (.slice none 0 0), .int .i64 0, .int .i64 0]) rfl (hat_setRow_at _ _ _ _ _ _ HO5.out) rfl rfl ?_
        exact ⟨(.slice none 0 0), by rw [HO.out]; rfl, OpAt.nil (by rw [HO.out]), ((((fr_below HB5.out [go]).trans (fr_setRow w6 go _)).past (ex' := []) (fun b hb => .inr (by have := HGE.out.2; simp at hb; omega)))).bl⟩
      · rw [hz] at HOP ⊢
        have HO := Lib.hid (show OO = ⟨5, textB da, emp, 0, 0, [], 0, 0⟩ by rw [HOP.out]; rfl)
        clear hz
        go_wp2_with fail
        refine ret_c row40 rfl (cs := #[.int .i64 5, .string (textB da), .string (ByteArray.mk #[]), .int .i64 0, .int .i64 0, (.slice none 0 0), .int .i64 0, .int .i64 0]) rfl (hat_setRow_at _ _ _ _ _ _ HO5.out) rfl rfl ?_
        exact ⟨(.slice none 0 0), by rw [HO.out]; rfl, OpAt.nil (by rw [HO.out]), ((((fr_below HB5.out [go]).trans (fr_setRow w6 go _)).past (ex' := []) (fun b hb => .inr (by have := HGE.out.2; simp at hb; omega)))).bl⟩
      · rw [hz] at HOP ⊢
        have HO := Lib.hid (show OO = ⟨6, textB da, textB db, 0, 0, [], 0, 0⟩ by rw [HOP.out]; rfl)
        clear hz
        go_wp2_with fail
        refine ret_c row40 rfl (cs := #[.int .i64 6, .string (textB da), .string (textB db), .int .i64 0, .int .i64 0, (.slice none 0 0), .int .i64 0, .int .i64 0]) rfl (hat_setRow_at _ _ _ _ _ _ HO5.out) rfl rfl ?_
        exact ⟨(.slice none 0 0), by rw [HO.out]; rfl, OpAt.nil (by rw [HO.out]), ((((fr_below HB5.out [go]).trans (fr_setRow w6 go _)).past (ex' := []) (fun b hb => .inr (by have := HGE.out.2; simp at hb; omega)))).bl⟩
      · rw [hz] at HOP ⊢
        have HO := Lib.hid (show OO = ⟨6, textB da, textB db, 0, 0, [], 0, 0⟩ by rw [HOP.out]; rfl)
        clear hz
        go_wp2_with fail
        refine ret_c row40 rfl (cs := #[.int .i64 6, .string (textB da), .string (textB db), .int .i64 0, .int .i64 0, (.slice none 0 0), .int .i64 0, .int .i64 0]) rfl (hat_setRow_at _ _ _ _ _ _ HO5.out) rfl rfl ?_
        exact ⟨(.slice none 0 0), by rw [HO.out]; rfl, OpAt.nil (by rw [HO.out]), ((((fr_below HB5.out [go]).trans (fr_setRow w6 go _)).past (ex' := []) (fun b hb => .inr (by have := HGE.out.2; simp at hb; omega)))).bl⟩
      · rw [hz] at HOP ⊢
        have HO := Lib.hid (show OO = ⟨7, textB da, emp, oz, 0, data.take 3000, 0, 0⟩ by rw [HOP.out]; rfl)
        clear hz
        go_wp2_with fail
        refine ret_c row40 rfl (cs := #[.int .i64 7, .string (textB da), .string (ByteArray.mk #[]), .int .i64 oz, .int .i64 0, (.slice dva data.length dvc), .int .i64 0, .int .i64 0]) rfl (hat_setRow_at _ _ _ _ _ _ HO5.out) rfl rfl ?_
        exact ⟨(.slice dva data.length dvc), by rw [HO.out]; rfl, HD.out.all (((fr_below HB5.out [go]).trans (fr_setRow w6 go _)).past (fun b hb => .inr (by have := HGE.out.2; simp at hb; omega))) HL.out (by rw [HO.out]), ((((fr_below HB5.out [go]).trans (fr_setRow w6 go _)).past (ex' := []) (fun b hb => .inr (by have := HGE.out.2; simp at hb; omega)))).bl⟩
      · rw [hz] at HOP ⊢
        have HO := Lib.hid (show OO = ⟨7, textB da, emp, oz, 0, data.take 3000, 0, 0⟩ by rw [HOP.out]; rfl)
        clear hz
        go_wp2_with fail
        refine ret_c row40 rfl (cs := #[.int .i64 7, .string (textB da), .string (ByteArray.mk #[]), .int .i64 oz, .int .i64 0, (.slice dva data.length dvc), .int .i64 0, .int .i64 0]) rfl (hat_setRow_at _ _ _ _ _ _ HO5.out) rfl rfl ?_
        exact ⟨(.slice dva data.length dvc), by rw [HO.out]; rfl, HD.out.all (((fr_below HB5.out [go]).trans (fr_setRow w6 go _)).past (fun b hb => .inr (by have := HGE.out.2; simp at hb; omega))) HL.out (by rw [HO.out]), ((((fr_below HB5.out [go]).trans (fr_setRow w6 go _)).past (ex' := []) (fun b hb => .inr (by have := HGE.out.2; simp at hb; omega)))).bl⟩
      · rw [hz] at HOP ⊢
        have HO := Lib.hid (show OO = ⟨7, textB da, emp, oz, 0, data.take 3000, 0, 0⟩ by rw [HOP.out]; rfl)
        clear hz
        go_wp2_with fail
        refine ret_c row40 rfl (cs := #[.int .i64 7, .string (textB da), .string (ByteArray.mk #[]), .int .i64 oz, .int .i64 0, (.slice dva data.length dvc), .int .i64 0, .int .i64 0]) rfl (hat_setRow_at _ _ _ _ _ _ HO5.out) rfl rfl ?_
        exact ⟨(.slice dva data.length dvc), by rw [HO.out]; rfl, HD.out.all (((fr_below HB5.out [go]).trans (fr_setRow w6 go _)).past (fun b hb => .inr (by have := HGE.out.2; simp at hb; omega))) HL.out (by rw [HO.out]), ((((fr_below HB5.out [go]).trans (fr_setRow w6 go _)).past (ex' := []) (fun b hb => .inr (by have := HGE.out.2; simp at hb; omega)))).bl⟩
      · rw [hz] at HOP ⊢
        have HO := Lib.hid (show OO = ⟨8, textB da, emp, oz, 0, [], 0, 0⟩ by rw [HOP.out]; rfl)
        clear hz
        go_wp2_with fail
        refine ret_c row40 rfl (cs := #[.int .i64 8, .string (textB da), .string (ByteArray.mk #[]), .int .i64 oz, .int .i64 0, (.slice none 0 0), .int .i64 0, .int .i64 0]) rfl (hat_setRow_at _ _ _ _ _ _ HO5.out) rfl rfl ?_
        exact ⟨(.slice none 0 0), by rw [HO.out]; rfl, OpAt.nil (by rw [HO.out]), ((((fr_below HB5.out [go]).trans (fr_setRow w6 go _)).past (ex' := []) (fun b hb => .inr (by have := HGE.out.2; simp at hb; omega)))).bl⟩
end Go.Proofs.YteffoihkljkfdaaDoor

/- Two plain file systems side by side; deeds and operations in a law's world. -/
namespace Go.Proofs.YteffoihkljkfdaaDoor
set_option linter.unusedSimpArgs false
set_option linter.unusedVariables false
open Go.RowKit

theorem MO.same {k : TypeId} {κ : Type} {E : KE k κ} {w w' : World} {v : Value} {ob : Option Nat} {m : κ → Option Value} {c : Nat} (h : MO E w v ob m c) (hs : ∀ g, ob = some g → hat w' g = hat w g) : MO E w' v ob m c := by
  rcases h with h | ⟨b, h1, h2, h3⟩
  · exact .inl h
  · exact .inr ⟨b, h1, h2, h3.same (hs b h2)⟩
/-- what is somebody's has not turned -/
theorem PW.keep {w w' : World} {gp bn c : Nat} {S : PS} {A : Int → NA} {own : Nat → Option (Int × Nat)} (h : PW w gp bn c S A own) (hk : ∀ b, b < w.heap.size → own b ≠ none → hat w' b = hat w b) : PW w' gp bn c S A own := by
  have k : ∀ b t, b < w.heap.size → own b = some t → hat w' b = hat w b := fun b t hb ht => hk b hb (by rw [ht]; simp)
  refine ⟨⟨(k _ _ (hat_lt h.t.p) h.t.op.1).trans h.t.p, h.t.m.same (k _ _ h.t.m.lt h.t.op.2), fun i n hi => ?_, h.t.op, h.t.og⟩, h.o, h.f, h.h⟩
  have hn := h.t.n i n hi
  obtain ⟨h1, h2, h3, h4⟩ := h.t.og i n hi
  obtain ⟨l1, l2, l3, l4⟩ := hn.lts
  exact ⟨(k _ _ l1 h1).trans hn.h, hn.d.same fun g hg => k _ _ (l2 g hg) (h2 g hg), hn.s.same fun g hg => k _ _ (l3 g hg) (h3 g hg), hn.m.same fun g hg => k _ _ (l4 g hg) (h4 g hg)⟩
/-- one beside another -/
structure Two (W w : World) (gp gq : Nat) (S T : PS) (own ownc : Nat → Option (Int × Nat)) : Prop where
  p : Here W w gp S own
  q : Here W w gq T ownc
  a : ∀ b, own b = none ∨ ownc b = none
theorem Here.nrm {W w : World} {gp : Nat} {S : PS} {own : Nat → Option (Int × Nat)} (h : Here W w gp S own) : Here W w gp S (nrm w own) := by
  obtain ⟨bn, c, A, h1⟩ := h.p
  exact ⟨⟨bn, c, A, h1.nrm⟩, h.u, fun b hb => by
    unfold Go.Proofs.YteffoihkljkfdaaDoor.nrm
    split
    · exact h.n b hb
    · rfl⟩
/-- a copy: laid beside -/
theorem Two.new {W w w' : World} {gp gq : Nat} {S T : PS} {own : Nat → Option (Int × Nat)} (h : Here W w gp S own) (hn : NewAt w w' gq T) : ∃ ownc, Two W w' gp gq S T (nrm w own) ownc := by
  obtain ⟨bn, c, A, ownc, h1, h2, h3⟩ := hn
  refine ⟨ownc, h.fr (fr_below h2 []), ⟨⟨bn, c, A, h1⟩, h.u.trans (fr_below h2 []), fun b hb => h3 b (Nat.lt_of_lt_of_le hb h.u.size)⟩, fun b => ?_⟩
  by_cases hb : b < w.heap.size
  · exact .inr (h3 b hb)
  · exact .inl (nrm_ge (by omega))
theorem Two.fr {W w w' : World} {gp gq : Nat} {S T : PS} {own ownc : Nat → Option (Int × Nat)} (h : Two W w gp gq S T own ownc) (hf : Fr [] w w') : Two W w' gp gq S T (nrm w own) (nrm w ownc) :=
  ⟨h.p.fr hf, h.q.fr hf, fun b => by
    rcases h.a b with e | e
    · exact .inl (by unfold nrm; split; exact e; rfl)
    · exact .inr (by unfold nrm; split; exact e; rfl)⟩
theorem Two.swap {W w : World} {gp gq : Nat} {S T : PS} {own ownc : Nat → Option (Int × Nat)} (h : Two W w gp gq S T own ownc) : Two W w gq gp T S ownc own := ⟨h.q, h.p, fun b => (h.a b).symm⟩
/-- the first has moved -/
theorem Two.moved {W w w' : World} {gp gq bn : Nat} {S S' T : PS} {own own' ownc : Nat → Option (Int × Nat)} (h : Two W w gp gq S T own ownc) (hm : Mvd w w' gp bn own S' own') : Two W w' gp gq S' T own' (nrm w ownc) := by
  obtain ⟨bq, c, A, h1⟩ := h.q.p
  refine ⟨h.p.moved hm, ⟨⟨bq, c, A, ?_⟩, (h.p.moved hm).u, fun b hb => ?_⟩, fun b => ?_⟩
  · refine h1.nrm.keep fun b hb hn => ?_
    rw [nrm_lt hb] at hn
    exact hm.2.1.block b hb ((h.a b).resolve_right hn)
  · unfold nrm
    split
    · exact h.q.n b hb
    · rfl
  · by_cases hb : b < w.heap.size
    · rw [nrm_lt hb, hm.2.2 b hb]
      exact h.a b
    · exact .inr (nrm_ge (by omega))
theorem DataAt.here {W w : World} {gp : Nat} {S : PS} {own : Nat → Option (Int × Nat)} (h : Here W w gp S own) {l : List Int} {dv : Value} (hd : DataAt W (fun _ => none) l dv) : DataAt w own l dv := by
  obtain ⟨od, h1, -⟩ := hd.d
  exact ⟨⟨od, h1.fr h.u (by simp), fun b hb => h.n b (h1.lt b hb)⟩, hd.c, hd.b⟩
theorem OpAt.nrm {w w0 : World} {own : Nat → Option (Int × Nat)} {o : OpV} {dv : Value} (h : OpAt w own o dv) : OpAt w (nrm w0 own) o dv := by
  obtain ⟨od, h1, h2⟩ := h.d
  exact ⟨⟨od, h1, fun b hb => by
    unfold Go.Proofs.YteffoihkljkfdaaDoor.nrm
    split
    · exact h2 b hb
    · rfl⟩, h.c, h.b, h.l⟩
theorem opAt_of {W w : World} {gp : Nat} {S : PS} {own : Nat → Option (Int × Nat)} (h : Here W w gp S own) {o : OpV} {dv : Value} (hd : DataAt W (fun _ => none) o.data dv) (hl : o.data.length ≤ 140737488355328) : OpAt w own o dv := by
  have h1 := DataAt.here h hd
  exact ⟨h1.d, h1.c, h1.b, hl⟩
/-- a new one is good -/
theorem new_good {s n : Int} (h : ¬ badS s n) : Good (newS s n) := by
  have hok := newS_ok h
  have hnn : ∀ i m, (newS s n).nodes i = some m → i = 1 ∧ m = rootN := fun i m hm => by
    have hm' : (if i = 1 then some rootN else none) = some m := hm
    split at hm'
    · rename_i hi; cases hm'; exact ⟨hi, rfl⟩
    · cases hm'
  have hno : ∀ i, (newS s n).namedN i = 0 := fun i => sumB_const0 fun d => by
    rcases nd_case (newS s n) d with e | ⟨m, h1, h2⟩
    · rw [e]; rfl
    · rw [h2, (hnn d m h1).2]; rfl
  refine ⟨hok.1, hok.2, ⟨fun i m hi h1 => absurd (hnn i m hi).1 h1, hno 1, fun i m hi _ => by rw [(hnn i m hi).2]; rfl⟩, ⟨fun _ => 0, fun d m s j h1 h2 => ?_⟩⟩
  rw [(hnn d m h1).2] at h2
  cases h2
theorem lv54 (a : Addr) : loadVar 54 a = Ld 6 54 a := rfl
theorem rl54 (g off : Nat) (w : World) : (Ld 6 54 ⟨g, off, none⟩).run Tryd.prog w = ldRow (rawL Tryd.prog 54 ⟨g, off, none⟩ w) 6 off w (hat w g) := run_Ld Tryd.underlying54 rfl (by kernel_rfl) g off w
attribute [go_sem ↓] lv54
attribute [go_sem] rl54
end Go.Proofs.YteffoihkljkfdaaDoor

/- What is refused, and what is asked, changes nothing that is told: the law's walk. -/
namespace Go.Proofs.YteffoihkljkfdaaDoor
set_option linter.unusedSimpArgs false
set_option linter.unusedVariables false
open Go.RowKit

set_option maxHeartbeats 32000000 in
set_option maxRecDepth 100000 in
theorem plainQuiet_any {n : Int} (hn : i64ok n) {W : World} {v v2 : Value} {ds : List DeedV} {os : List OpV} (hds : DeedsAt W v ds) (hos : OpsAt W v2 os) {m : Int} (hm : W.cell? ⟨0, 0, none⟩ = some (.int .i64 m)) :
    Calls Tryd.prog 8 #[.int .i64 n, v, v2] W fun e w' => e = .returned (.bool true) ∧ Below W.heap.size W w' := by
  have HM := Lib.hid hm
  have H00 := Lib.hid (cell0_lt hm)
  clear hm
  have HOS := Lib.hid hos
  clear hos
  go_enter Tryd.func8, Tryd.ntmps8
  go_wp2_with fail
  refine (small_any hn _).mono ?_; rintro e w1 ⟨gp, s, i, rfl, hnew, h3, h11, h10, h129⟩
  obtain ⟨own1, hh1⟩ := Here.new hnew
  have HH1 := Lib.hid (hh1)
  have HSI := Lib.hid (show 3 ≤ i ∧ i ≤ 11 ∧ i + 10 ≤ s ∧ s ≤ i + 129 from ⟨h3, h11, h10, h129⟩)
  have HM1 := Lib.hid (cell0_fr HM.out (HH1.out.u.un (own := fun _ => none) (by simp)) rfl)
  clear hnew hh1
  go_wp2_with fail
  refine (known_any HM1.out).mono ?_; rintro e w2 ⟨rfl, hb2⟩
  have HH2 := Lib.hid (HH1.out.fr (fr_below hb2 []))
  clear hb2 h3 h11 h10 h129 hn
  obtain ⟨da, dc, rfl, hdl, hdx⟩ := hds
  have HDX := Lib.hid hdx
  clear hdx
  go_wp2_with fail
  go_loopw [10] (fun v10 wr => ∃ (k : Nat) (S : PS) (own' : Nat → Option (Int × Nat)), v10 = .int .i64 k ∧ k ≤ ds.length ∧ Hid (Here W wr gp S own') ∧ Hid (Good S)) (fun v10 _ => ds.length - (intOf v10).toNat)
  case atStart => exact ⟨0, newS s i, _, rfl, Nat.zero_le _, HH2, Lib.hid (new_good (by have := HSI.out; unfold badS; omega))⟩
  case round =>
    obtain ⟨k, S, own', rfl, hk, HH, HG⟩ := hrel
    by_cases hlt : k < ds.length
    · have hk1 : (k : Int) < (ds.length : Int) := by omega
      have hk0 : (0 : Int) ≤ (k : Int) := by omega
      obtain ⟨g, o, cs, t, fr, rfl, hg, hsz, hq⟩ := HDX.out (by omega)
      obtain ⟨d, dv, hd, harr, hok, hda⟩ := hq k hlt
      have hgw : hat wr g = some (.cells cs t fr) := (HH.out.u.block g (hat_lt hg) (by simp)).trans hg
      have hgl := hat_lt hgw
      have hld : ∀ (raw : Result Value) (w : World) (T : TypeId) (f : Nat × Nat), ldRow raw 6 (o + k * 6) w (some (.cells cs T f)) = .ok (.agg (deedV d dv)) w := fun raw w T f => by
        rw [ldRow_part (by
          have : (k + 1) * 6 ≤ ds.length * 6 := Nat.mul_le_mul_right _ hlt
          omega), harr]
      have HOP := Lib.hid (fun w' (h : Here W w' gp S own') => op_any hok (DataAt.here h hda) (w := w'))
      have HLT := Lib.hid hlt
      clear hg hsz hq hd harr hok hda hlt
      go_wp2_with fail
      refine (HOP.out _ HH.out).mono ?_; rintro e w3 ⟨dv', rfl, hop, hb3⟩
      have HH3 := Lib.hid (HH.out.fr (fr_below hb3 []))
      have HM3 := Lib.hid (cell0_fr HM.out (HH3.out.u.un (own := fun _ => none) (by simp)) rfl)
      have HO3 := Lib.hid (hop.nrm (w0 := wr))
      clear hop hb3 hld hgw hgl
      go_wp2_with fail
      obtain ⟨bn3, c3, A3, hp3⟩ := HH3.out.p
      refine (do_any hp3 HG.out HO3.out HM3.out).mono ?_; rintro e w4 ⟨own4, av, rfl, ha, hmv⟩
      have HH4 := Lib.hid (HH3.out.moved hmv)
      have HG4 := Lib.hid (doo_good HG.out HO3.out.b)
      clear ha hmv hp3
      go_wp2_with fail
      go_roundw
      case rel => exact ⟨k + 1, _, own4, by go_num, by have := HLT.out; omega, HH4, HG4⟩
      case measure =>
        have := HLT.out
        show ds.length - (k + 1) < ds.length - k
        omega
    · have hk1 : ¬ (k : Int) < (ds.length : Int) := by omega
      clear hlt
      have hos := HOS.out
      obtain ⟨oa, oc, rfl, hol, hox⟩ := hos
      have HOX := Lib.hid hox
      clear hox
      go_wp2_with fail
      go_loopw [11] (fun v11 wr => ∃ (k : Nat) (S : PS) (own' : Nat → Option (Int × Nat)), v11 = .int .i64 k ∧ k ≤ os.length ∧ Hid (Here W wr gp S own') ∧ Hid (Good S)) (fun v11 _ => os.length - (intOf v11).toNat)
      case atStart => exact ⟨0, S, own', rfl, Nat.zero_le _, HH, HG⟩
      case round =>
        obtain ⟨j, S, own', rfl, hj, HH, HG⟩ := hrel
        by_cases hlt : j < os.length ∧ j < 20
        · obtain ⟨hlt, h20⟩ := hlt
          have hj1 : (j : Int) < (os.length : Int) := by omega
          have hj0 : (0 : Int) ≤ (j : Int) := by omega
          have hj2 : (j : Int) < 20 := by omega
          obtain ⟨g, o, cs, t, fr, rfl, hg, hsz, hq⟩ := HOX.out (by omega)
          obtain ⟨op, dv, hd, harr, hok, hda, hdl2⟩ := hq j hlt
          have HGH := Lib.hid hg
          have HDA := Lib.hid hda
          have HDL := Lib.hid hdl2
          have hszj : o + j * 8 + 8 ≤ cs.size := by
            have : (j + 1) * 8 ≤ os.length * 8 := Nat.mul_le_mul_right _ hlt
            omega
          have hld : ∀ (raw : Result Value) (w : World) (T : TypeId) (f : Nat × Nat), ldRow raw 8 (o + j * 8) w (some (.cells cs T f)) = .ok (.agg (opV op dv)) w := fun raw w T f => by
            rw [ldRow_part hszj, harr]
          have HCK := Lib.hid (show cs[o + j * 8]? = some (.int .i64 op.kind) from by
            have e : (cs.extract (o + j * 8) (o + j * 8 + 8))[0]? = some (.int .i64 op.kind) := by rw [harr]; rfl
            rw [Array.getElem?_extract, if_pos (by omega)] at e
            exact e)
          have HLT := Lib.hid (And.intro hlt h20)
          clear hg hsz hq hd harr hok hda hdl2 hlt h20 hszj
          have H0 := Lib.hid (HH.out.n 0 H00.out)
          obtain ⟨bn1, c1, A1, hp1⟩ := HH.out.p
          have HP1 := Lib.hid hp1
          have HM1 := Lib.hid (cell0_fr HM.out (HH.out.u.un (own := fun _ => none) (by simp)) rfl)
          clear hp1
          go_wp2_with fail
          refine (told_any HP1.out HG.out HM1.out H0.out).mono ?_; rintro e w3 ⟨rfl, own3, hmv⟩
          have HH3 := Lib.hid (HH.out.moved hmv)
          clear hmv
          go_wp2_with fail
          obtain ⟨bn3, c3, A3, hp3⟩ := HH3.out.p
          refine (copy_any hp3).mono ?_; rintro e w4 ⟨gq, rfl, hnew⟩
          obtain ⟨ownc, htw⟩ := Two.new HH3.out hnew
          have HT4 := Lib.hid htw
          have hgw4 : hat w4 g = some (.cells cs t fr) := (htw.p.u.block g (hat_lt HGH.out) (by simp)).trans HGH.out
          have hgl4 := hat_lt hgw4
          clear hnew htw hp3
          go_wp2_with fail
          obtain ⟨bn4, c4, A4, hp4⟩ := HT4.out.p.p
          have HM4 := Lib.hid (cell0_fr HM.out (HT4.out.p.u.un (own := fun _ => none) (by simp)) rfl)
          have HO4 := Lib.hid (opAt_of HT4.out.p HDA.out HDL.out)
          refine (do_any hp4 HG.out HO4.out HM4.out).mono ?_; rintro e w5 ⟨own5, av, rfl, ha, hmv⟩
          have HT5 := Lib.hid (HT4.out.moved hmv)
          have HG5 := Lib.hid (doo_good HG.out HO4.out.b)
          have HER := Lib.hid (@doo_err S op)
          have HSM := Lib.hid (@doo_same S op)
          obtain ⟨dv1, ev1, od1, oe1, rfl, hd1, he1, -⟩ := ha
          obtain ⟨d1, dc1, hdv⟩ := hd1.slice
          obtain ⟨e1, ec1, hev⟩ := he1.slice
          clear hmv hp4 hd1 he1 hgw4 hgl4 hld
          generalize hr : S.doo op = r at *
          clear hr
          obtain ⟨S1, x⟩ := r
          obtain ⟨xc, ⟨x1, x2, x3, x4, x5, x6⟩, xd, xe⟩ := x
          simp only at HT5 HG5 HER HSM hdv hev ⊢
          subst hdv hev
          unfold ansV
          simp only
          by_cases hc : xc = 0
          · subst hc
            by_cases hq : 9 ≤ op.kind
            · have hS : S1 = S := HSM.out (.inr hq)
              subst hS
              have hone : oneAll #[.int .i64 0, .int .i64 x1, .int .i64 x2, .int .i64 x3, .int .i64 x4, .int .i64 x5, .int .i64 x6, .slice d1 xd.length dc1, .slice e1 xe.length ec1, .bool false] = true := by simp [oneAll, Value.oneCell']
              go_upto_region 16 with fail
              obtain ⟨ga, hga⟩ : ∃ x, x = w5.heap.size := ⟨_, rfl⟩
              obtain ⟨w6, hw6⟩ : ∃ x, x = w5.alloc (.cells #[.int .i64 0, .int .i64 x1, .int .i64 x2, .int .i64 x3, .int .i64 x4, .int .i64 x5, .int .i64 x6, .slice d1 xd.length dc1, .slice e1 xe.length ec1, .bool false] 37) := ⟨_, rfl⟩
              have hf6 : Fr [] w5 w6 := by rw [hw6]; exact fr_new _ _ _
              have HT := Lib.hid (HT5.out.fr hf6)
              have ha6 : hat w6 ga = some (.cells #[.int .i64 0, .int .i64 x1, .int .i64 x2, .int .i64 x3, .int .i64 x4, .int .i64 x5, .int .i64 x6, .slice d1 xd.length dc1, .slice e1 xe.length ec1, .bool false] 37) := by rw [hw6, hga]; exact (hopN w5 _).1
              have HA := Lib.hid ha6
              have hal6 := hat_lt ha6
              have HGA := Lib.hid (show nrm w5 own5 ga = none ∧ nrm w5 (nrm w4 ownc) ga = none from ⟨nrm_ge (by omega), nrm_ge (by omega)⟩)
              rw [← hw6, ← hga]
              clear hw6 hga hone
              have hck : cellOf (o + j * 8) (hat w6 g) = some (.int .i64 op.kind) := by
                rw [HT.out.p.u.block g (hat_lt HGH.out) (by simp), HGH.out]
                exact HCK.out
              have hgl6 : g < w6.heap.size := Nat.lt_of_lt_of_le (hat_lt HGH.out) HT.out.p.u.size
              clear hf6
              obtain ⟨bn6, c6, A6, hp6⟩ := HT.out.p.p
              have HP6 := Lib.hid hp6
              have HM6 := Lib.hid (cell0_fr HM.out (HT.out.p.u.un (own := fun _ => none) (by simp)) rfl)
              have H06 := Lib.hid (HT.out.p.n 0 H00.out)
              clear hp6
              go_wp2_with fail
              refine (told_any HP6.out HG5.out HM6.out H06.out).mono ?_; rintro e w7 ⟨rfl, own7, hmv⟩
              have HT := Lib.hid (HT.out.moved hmv)
              have ha7 := (hmv.2.1.block ga hal6 HGA.out.1).trans HA.out
              have HA := Lib.hid ha7
              have hal7 := hat_lt ha7
              have HGA := Lib.hid (show own7 ga = none ∧ nrm w6 (nrm w5 (nrm w4 ownc)) ga = none from ⟨(hmv.2.2 ga hal6).trans HGA.out.1, (nrm_lt hal6).trans HGA.out.2⟩)
              clear hmv ha6 hal6 hck hgl6
              obtain ⟨bn8, c8, A8, hp8⟩ := HT.out.q.p
              have HP8 := Lib.hid hp8
              have HM8 := Lib.hid (cell0_fr HM.out (HT.out.p.u.un (own := fun _ => none) (by simp)) rfl)
              have H08 := Lib.hid (HT.out.q.n 0 H00.out)
              clear hp8
              go_wp2_with fail
              refine (told_any HP8.out HG.out HM8.out H08.out).mono ?_; rintro e w8 ⟨rfl, own8, hmv⟩
              have HT := Lib.hid (HT.out.swap.moved hmv).swap
              have ha8 := (hmv.2.1.block ga hal7 HGA.out.2).trans HA.out
              have hal8 := hat_lt ha8
              clear hmv ha7 hal7
              go_wp2_with fail
              go_roundw
              case rel => exact ⟨j + 1, S1, _, by go_num, by have := HLT.out; omega, HT.out.p |> Lib.hid, HG5⟩
              case measure =>
                have := HLT.out
                show os.length - (j + 1) < os.length - j
                omega
            · have hq' : ¬ (9 : Int) ≤ op.kind := hq
              have hone : oneAll #[.int .i64 0, .int .i64 x1, .int .i64 x2, .int .i64 x3, .int .i64 x4, .int .i64 x5, .int .i64 x6, .slice d1 xd.length dc1, .slice e1 xe.length ec1, .bool false] = true := by simp [oneAll, Value.oneCell']
              go_upto_region 16 with fail
              obtain ⟨ga, hga⟩ : ∃ x, x = w5.heap.size := ⟨_, rfl⟩
              obtain ⟨w6, hw6⟩ : ∃ x, x = w5.alloc (.cells #[.int .i64 0, .int .i64 x1, .int .i64 x2, .int .i64 x3, .int .i64 x4, .int .i64 x5, .int .i64 x6, .slice d1 xd.length dc1, .slice e1 xe.length ec1, .bool false] 37) := ⟨_, rfl⟩
              have hf6 : Fr [] w5 w6 := by rw [hw6]; exact fr_new _ _ _
              have HT := Lib.hid (HT5.out.fr hf6)
              have ha6 : hat w6 ga = some (.cells #[.int .i64 0, .int .i64 x1, .int .i64 x2, .int .i64 x3, .int .i64 x4, .int .i64 x5, .int .i64 x6, .slice d1 xd.length dc1, .slice e1 xe.length ec1, .bool false] 37) := by rw [hw6, hga]; exact (hopN w5 _).1
              have HA := Lib.hid ha6
              have hal6 := hat_lt ha6
              have HGA := Lib.hid (show nrm w5 own5 ga = none ∧ nrm w5 (nrm w4 ownc) ga = none from ⟨nrm_ge (by omega), nrm_ge (by omega)⟩)
              rw [← hw6, ← hga]
              clear hw6 hga hone
              have hck : cellOf (o + j * 8) (hat w6 g) = some (.int .i64 op.kind) := by
                rw [HT.out.p.u.block g (hat_lt HGH.out) (by simp), HGH.out]
                exact HCK.out
              have hgl6 : g < w6.heap.size := Nat.lt_of_lt_of_le (hat_lt HGH.out) HT.out.p.u.size
              clear hf6
              obtain ⟨bn8, c8, A8, hp8⟩ := HT.out.q.p
              have HP8 := Lib.hid hp8
              have HM8 := Lib.hid (cell0_fr HM.out (HT.out.p.u.un (own := fun _ => none) (by simp)) rfl)
              have H08 := Lib.hid (HT.out.q.n 0 H00.out)
              clear hp8
              go_wp2_with fail
              refine (told_any HP8.out HG.out HM8.out H08.out).mono ?_; rintro e w8 ⟨rfl, own8, hmv⟩
              have HT := Lib.hid (HT.out.swap.moved hmv).swap
              have ha8 := (hmv.2.1.block ga hal6 HGA.out.2).trans HA.out
              have hal8 := hat_lt ha8
              clear hmv ha6 hal6 hck hgl6
              go_wp2_with fail
              go_roundw
              case rel => exact ⟨j + 1, S1, _, by go_num, by have := HLT.out; omega, HT.out.p |> Lib.hid, HG5⟩
              case measure =>
                have := HLT.out
                show os.length - (j + 1) < os.length - j
                omega
          · have hS : S1 = S := HSM.out (.inl hc)
            have hE := HER.out hc
            unfold Ans.err Sta.zero at hE
            simp only [Ans.mk.injEq, Sta.mk.injEq, true_and] at hE
            obtain ⟨⟨rfl, rfl, rfl, rfl, rfl, rfl⟩, rfl, rfl⟩ := hE
            subst hS
            simp only [List.length_nil]
            by_cases hq : 9 ≤ op.kind
            · skip
              have hone : oneAll #[.int .i64 xc, .int .i64 0, .int .i64 0, .int .i64 0, .int .i64 0, .int .i64 0, .int .i64 0, .slice d1 0 dc1, .slice e1 0 ec1, .bool false] = true := by simp [oneAll, Value.oneCell']
              go_upto_region 16 with fail
              obtain ⟨ga, hga⟩ : ∃ x, x = w5.heap.size := ⟨_, rfl⟩
              obtain ⟨w6, hw6⟩ : ∃ x, x = w5.alloc (.cells #[.int .i64 xc, .int .i64 0, .int .i64 0, .int .i64 0, .int .i64 0, .int .i64 0, .int .i64 0, .slice d1 0 dc1, .slice e1 0 ec1, .bool false] 37) := ⟨_, rfl⟩
              have hf6 : Fr [] w5 w6 := by rw [hw6]; exact fr_new _ _ _
              have HT := Lib.hid (HT5.out.fr hf6)
              have ha6 : hat w6 ga = some (.cells #[.int .i64 xc, .int .i64 0, .int .i64 0, .int .i64 0, .int .i64 0, .int .i64 0, .int .i64 0, .slice d1 0 dc1, .slice e1 0 ec1, .bool false] 37) := by rw [hw6, hga]; exact (hopN w5 _).1
              have HA := Lib.hid ha6
              have hal6 := hat_lt ha6
              have HGA := Lib.hid (show nrm w5 own5 ga = none ∧ nrm w5 (nrm w4 ownc) ga = none from ⟨nrm_ge (by omega), nrm_ge (by omega)⟩)
              rw [← hw6, ← hga]
              clear hw6 hga hone
              have hck : cellOf (o + j * 8) (hat w6 g) = some (.int .i64 op.kind) := by
                rw [HT.out.p.u.block g (hat_lt HGH.out) (by simp), HGH.out]
                exact HCK.out
              have hgl6 : g < w6.heap.size := Nat.lt_of_lt_of_le (hat_lt HGH.out) HT.out.p.u.size
              clear hf6
              obtain ⟨bn6, c6, A6, hp6⟩ := HT.out.p.p
              have HP6 := Lib.hid hp6
              have HM6 := Lib.hid (cell0_fr HM.out (HT.out.p.u.un (own := fun _ => none) (by simp)) rfl)
              have H06 := Lib.hid (HT.out.p.n 0 H00.out)
              clear hp6
              go_wp2_with fail
              refine (told_any HP6.out HG5.out HM6.out H06.out).mono ?_; rintro e w7 ⟨rfl, own7, hmv⟩
              have HT := Lib.hid (HT.out.moved hmv)
              have ha7 := (hmv.2.1.block ga hal6 HGA.out.1).trans HA.out
              have HA := Lib.hid ha7
              have hal7 := hat_lt ha7
              have HGA := Lib.hid (show own7 ga = none ∧ nrm w6 (nrm w5 (nrm w4 ownc)) ga = none from ⟨(hmv.2.2 ga hal6).trans HGA.out.1, (nrm_lt hal6).trans HGA.out.2⟩)
              clear hmv ha6 hal6 hck hgl6
              obtain ⟨bn8, c8, A8, hp8⟩ := HT.out.q.p
              have HP8 := Lib.hid hp8
              have HM8 := Lib.hid (cell0_fr HM.out (HT.out.p.u.un (own := fun _ => none) (by simp)) rfl)
              have H08 := Lib.hid (HT.out.q.n 0 H00.out)
              clear hp8
              go_wp2_with fail
              refine (told_any HP8.out HG.out HM8.out H08.out).mono ?_; rintro e w8 ⟨rfl, own8, hmv⟩
              have HT := Lib.hid (HT.out.swap.moved hmv).swap
              have ha8 := (hmv.2.1.block ga hal7 HGA.out.2).trans HA.out
              have hal8 := hat_lt ha8
              clear hmv ha7 hal7
              have hldS : ∀ (raw : Result Value) (w : World) (T : TypeId) (f : Nat × Nat), ldRow raw 6 1 w (some (.cells #[.int .i64 xc, .int .i64 0, .int .i64 0, .int .i64 0, .int .i64 0, .int .i64 0, .int .i64 0, .slice d1 0 dc1, .slice e1 0 ec1, .bool false] T f)) = .ok (.agg #[.int .i64 0, .int .i64 0, .int .i64 0, .int .i64 0, .int .i64 0, .int .i64 0]) w := fun raw w T f => ldRow_part (by show 1 + 6 ≤ 10; omega)
              go_wp2_with fail
              go_roundw
              case rel => exact ⟨j + 1, S1, _, by go_num, by have := HLT.out; omega, HT.out.p |> Lib.hid, HG5⟩
              case measure =>
                have := HLT.out
                show os.length - (j + 1) < os.length - j
                omega
            · skip
              have hone : oneAll #[.int .i64 xc, .int .i64 0, .int .i64 0, .int .i64 0, .int .i64 0, .int .i64 0, .int .i64 0, .slice d1 0 dc1, .slice e1 0 ec1, .bool false] = true := by simp [oneAll, Value.oneCell']
              go_upto_region 16 with fail
              obtain ⟨ga, hga⟩ : ∃ x, x = w5.heap.size := ⟨_, rfl⟩
              obtain ⟨w6, hw6⟩ : ∃ x, x = w5.alloc (.cells #[.int .i64 xc, .int .i64 0, .int .i64 0, .int .i64 0, .int .i64 0, .int .i64 0, .int .i64 0, .slice d1 0 dc1, .slice e1 0 ec1, .bool false] 37) := ⟨_, rfl⟩
              have hf6 : Fr [] w5 w6 := by rw [hw6]; exact fr_new _ _ _
              have HT := Lib.hid (HT5.out.fr hf6)
              have ha6 : hat w6 ga = some (.cells #[.int .i64 xc, .int .i64 0, .int .i64 0, .int .i64 0, .int .i64 0, .int .i64 0, .int .i64 0, .slice d1 0 dc1, .slice e1 0 ec1, .bool false] 37) := by rw [hw6, hga]; exact (hopN w5 _).1
              have HA := Lib.hid ha6
              have hal6 := hat_lt ha6
              have HGA := Lib.hid (show nrm w5 own5 ga = none ∧ nrm w5 (nrm w4 ownc) ga = none from ⟨nrm_ge (by omega), nrm_ge (by omega)⟩)
              rw [← hw6, ← hga]
              clear hw6 hga hone
              have hck : cellOf (o + j * 8) (hat w6 g) = some (.int .i64 op.kind) := by
                rw [HT.out.p.u.block g (hat_lt HGH.out) (by simp), HGH.out]
                exact HCK.out
              have hgl6 : g < w6.heap.size := Nat.lt_of_lt_of_le (hat_lt HGH.out) HT.out.p.u.size
              clear hf6
              obtain ⟨bn6, c6, A6, hp6⟩ := HT.out.p.p
              have HP6 := Lib.hid hp6
              have HM6 := Lib.hid (cell0_fr HM.out (HT.out.p.u.un (own := fun _ => none) (by simp)) rfl)
              have H06 := Lib.hid (HT.out.p.n 0 H00.out)
              clear hp6
              go_wp2_with fail
              refine (told_any HP6.out HG5.out HM6.out H06.out).mono ?_; rintro e w7 ⟨rfl, own7, hmv⟩
              have HT := Lib.hid (HT.out.moved hmv)
              have ha7 := (hmv.2.1.block ga hal6 HGA.out.1).trans HA.out
              have HA := Lib.hid ha7
              have hal7 := hat_lt ha7
              have HGA := Lib.hid (show own7 ga = none ∧ nrm w6 (nrm w5 (nrm w4 ownc)) ga = none from ⟨(hmv.2.2 ga hal6).trans HGA.out.1, (nrm_lt hal6).trans HGA.out.2⟩)
              clear hmv ha6 hal6 hck hgl6
              obtain ⟨bn8, c8, A8, hp8⟩ := HT.out.q.p
              have HP8 := Lib.hid hp8
              have HM8 := Lib.hid (cell0_fr HM.out (HT.out.p.u.un (own := fun _ => none) (by simp)) rfl)
              have H08 := Lib.hid (HT.out.q.n 0 H00.out)
              clear hp8
              go_wp2_with fail
              refine (told_any HP8.out HG.out HM8.out H08.out).mono ?_; rintro e w8 ⟨rfl, own8, hmv⟩
              have HT := Lib.hid (HT.out.swap.moved hmv).swap
              have ha8 := (hmv.2.1.block ga hal7 HGA.out.2).trans HA.out
              have hal8 := hat_lt ha8
              clear hmv ha7 hal7
              have hldS : ∀ (raw : Result Value) (w : World) (T : TypeId) (f : Nat × Nat), ldRow raw 6 1 w (some (.cells #[.int .i64 xc, .int .i64 0, .int .i64 0, .int .i64 0, .int .i64 0, .int .i64 0, .int .i64 0, .slice d1 0 dc1, .slice e1 0 ec1, .bool false] T f)) = .ok (.agg #[.int .i64 0, .int .i64 0, .int .i64 0, .int .i64 0, .int .i64 0, .int .i64 0]) w := fun raw w T f => ldRow_part (by show 1 + 6 ≤ 10; omega)
              go_wp2_with fail
              go_roundw
              case rel => exact ⟨j + 1, S1, _, by go_num, by have := HLT.out; omega, HT.out.p |> Lib.hid, HG5⟩
              case measure =>
                have := HLT.out
                show os.length - (j + 1) < os.length - j
                omega
        · have hcl : ¬ (j < os.length ∧ j < 20) := hlt
          clear hlt
          by_cases hj1 : j < os.length
          · have hk1 : (j : Int) < (os.length : Int) := by omega
            have hk2 : ¬ (j : Int) < 20 := by omega
            clear hcl hj1
            go_wp2_with fail
            go_ret
            exact ⟨rfl, HH.out.u.bl⟩
          · have hk1 : ¬ (j : Int) < (os.length : Int) := by omega
            clear hcl hj1
            go_wp2_with fail
            go_ret
            exact ⟨rfl, HH.out.u.bl⟩
end Go.Proofs.YteffoihkljkfdaaDoor

/- The frame of a law whose row lists variables: the world's shape is handed on to the walk. -/
namespace Go.Proofs.YteffoihkljkfdaaDoor
set_option linter.unusedSimpArgs false
set_option linter.unusedVariables false
open Go.ChangeShapes Go.WideShapes Go.ChangeAt Go.RowKit

theorem handed_shaped_and {H : Type} {enc : TypeId × Value → H} {a : Assume} {C : Checked} {os : Os} {f : FuncId} {fn : Func} {s : ChangeSpec} {conds : List PathCond} {apart fresh handsOn again : Bool} {X : World → Array Value → Prop}
    (own : ownKnob C.prog.godebug = none) (started : os.Started) (noInit : C.prog.inits.idxOf? f = none) (hfn : C.prog.funcs[f]? = some fn)
    (witness : ∃ (w : World) (tape : Tape) (i : Input), w.os = os ∧ (w.forCall tape i).Shaped C.prog ∧ i.vars = [] ∧ Input.okWide C.prog (w.forCall tape i) .any w.heap.size f i ∧
      ((s.pre enc C.prog fn conds apart (w.forCall tape i).memory i.args ∧ X (w.forCall tape i).memory i.args) ∧ sizedMet enc C.prog fn (OpenSpec.ofChange s) apart (w.forCall tape i).memory i.args) ∧ a.holds C.prog (lone (Frame.enter C.prog f i.args .normal) [] (w.forCall tape i)))
    (contract : ∀ (W : World) (base : Nat) (args : Array Value) (ds gs : List (DataW H)) (before : List MemPlace),
      (∀ (j : Nat) t v, fn.params[j]? = some t → args[j]? = some v → Value.okWide C.prog W .any base t v) →
      DataW.Whole enc C.prog fn.params.toList s.vars apart W args.toList ds gs before →
      (DataW.weightsEach C.prog (fn.params.toList ++ s.plain.varTypes C.prog) (ds ++ gs)).all (· ≤ reachBytes) = true → W.ShapedOpen C.prog →
      Calls C.prog f args W fun e W' => ∃ v, e = .returned v ∧ s.post enc C.prog fn apart fresh handsOn again W args v W') :
    ReturnsInHanded a C os f .any (fun w args => (s.pre enc C.prog fn conds apart w args ∧ X w args) ∧ sizedMet enc C.prog fn (OpenSpec.ofChange s) apart w args) (s.post enc C.prog fn apart fresh handsOn again) := by
  refine returnsInHanded_of_calls own started noInit witness ?_
  intro w tape i _ hsh _ hok hpre hholds
  obtain ⟨_, _, _, fn', hfn', _, _, _, _, hval⟩ := hok
  have e : fn' = fn := Option.some.inj (hfn'.symm.trans hfn)
  subst e
  obtain ⟨⟨⟨ds, gs, before, hw, hc⟩, hx⟩, hz⟩ := hpre
  have hw' := DataW.Whole.of_heap (w' := w.forCall tape i) (by rfl) hw
  refine (contract (w.forCall tape i) w.heap.size i.args ds gs before hval hw' (hz.weights hw) hsh).mono fun e W' ⟨v, he, hp⟩ => ?_
  subst he
  exact ChangeSpec.post_blind hp

def MaxAt (w : World) (m : Int) : Prop := w.cell? ⟨0, 0, none⟩ = some (.int .i64 m)
/-- some number stands in the library's variable -/
theorem max_of {W : World} (h : W.ShapedOpen Tryd.prog) : ∃ m, MaxAt W m := Tryd.laysM144.s1_3 W h
/-- the rows' listed variables -/
def laidL : List (String × DataW Unit) := [("unicode/utf8.acceptRanges", Rows.laid_unicode_utf8_acceptRanges), ("unicode/utf8.first", Rows.laid_unicode_utf8_first)]
theorem own : ownKnob Tryd.prog.godebug = none := by kernel_rfl
theorem laidOut : laidOutB Tryd.prog = true := by kernel_rfl
end Go.Proofs.YteffoihkljkfdaaDoor
