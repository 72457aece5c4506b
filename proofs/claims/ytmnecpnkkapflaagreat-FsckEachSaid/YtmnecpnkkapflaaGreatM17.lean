import Derived.Test.YtmnecpnkkapflaaGreatM16
namespace Go.Proofs.YtmnecpnkkapflaaGreat
set_option maxHeartbeats 16000000
set_option maxRecDepth 1000000
set_option linter.unusedSimpArgs false
set_option linter.unusedVariables false
open Go.RowKit
theorem cutS_app (S W : Nat → List Int) (A B : List Int) : cutS (cutS S W A) W B = cutS S W (A ++ B) := by
 funext j
 unfold cutS
 by_cases hb : (j : Int) ∈ B
 ·rw [if_pos hb, if_pos (List.mem_append_right _ hb)]
 ·rw [if_neg hb]
  by_cases ha : (j : Int) ∈ A
  ·rw [if_pos ha, if_pos (List.mem_append_left _ ha)]
  ·rw [if_neg ha, if_neg (fun h => (List.mem_append.1 h).elim ha hb)]
structure CutSt (N : Nat) (S : Nat → List Int) (dk : DS) : Prop where
 o : dk.off = false
 a : dk.armed = false
 l : dk.left = 0
 c : 0 ≤ dk.cnt ∧ dk.cnt ≤ (lookX N S).length
 b : lookE N S ≠ 0 → dk.S = S ∧ dk.cnt = 0
 g : lookE N S = 0 → ∃ j : Nat, j ≤ (lookX N S).length ∧ dk.S = cutS S (lookS N S) ((lookX N S).take j) ∧ dk.cnt = j
theorem cutSt_img (N : Nat) (S : Nat → List Int) : CutSt N S (imgD S) :=
 ⟨rfl, rfl, rfl, ⟨Int.le_refl 0, Int.natCast_nonneg _⟩, fun _ => ⟨rfl, rfl⟩, fun _ => ⟨0, Nat.zero_le _, by rw [List.take_zero, cutS_none]; rfl, rfl⟩⟩
theorem run_fst (N : Nat) (S : Nat → List Int) : (runD N (imgD S)).1 = lookE N S := by
 by_cases he : lookE N S = 0
 ·rw [run_fresh (d := imgD S) rfl rfl he]; exact he.symm
 ·rw [run_bad (d := imgD S) rfl he]; rfl
theorem CutSt.step {N : Nat} {S : Nat → List Int} {dk : DS} (hS : ∀ j, j < N → (S j).length = 128 ∧ Bytes (S j)) (h : CutSt N S dk) (n : Nat) :
  ((runD N (armD n dk)).1 = lookE N S ∨ (runD N (armD n dk)).1 = 22) ∧ CutSt N S (restD (runD N (armD n dk)).2) := by
 by_cases he : lookE N S = 0
 ·obtain ⟨j, hj, gS, gc⟩ := h.g he
  obtain ⟨c1, c2, c3, -, -⟩ := cut_look hS he j
  have hr : runD N (armD n dk) = wrD (lookS N S) ((lookX N S).drop j) (armD n dk) := by
   unfold runD
   rw [if_neg (by show ¬ false = true; decide), if_neg (fun hh => hh (by show lookE N dk.S = 0; rw [gS]; exact c1))]
   show wrD (lookS N dk.S) (lookX N dk.S) (armD n dk) = _
   rw [gS, c2, c3]
  rw [hr, wr_armed _ n (armD n dk) (fun x hx => lookX_nat (N := N) (S := S) x (List.mem_of_mem_drop hx)) rfl rfl rfl]
  by_cases hn : ((lookX N S).drop j).length ≤ n
  ·rw [if_pos hn]
   refine ⟨.inl he.symm, rfl, rfl, rfl, ?_, fun hh => absurd he hh, fun _ => ⟨(lookX N S).length, Nat.le_refl _, ?_, ?_⟩⟩
   ·show 0 ≤ dk.cnt + (((lookX N S).drop j).length : Int) ∧ dk.cnt + (((lookX N S).drop j).length : Int) ≤ _
    rw [gc, List.length_drop]; omega
   ·show cutS dk.S (lookS N S) ((lookX N S).drop j) = _
    rw [gS, cutS_app, List.take_append_drop, List.take_length]
   ·show dk.cnt + (((lookX N S).drop j).length : Int) = _
    rw [gc, List.length_drop]; omega
  ·rw [if_neg hn]
   rw [List.length_drop] at hn
   refine ⟨.inr rfl, rfl, rfl, rfl, ?_, fun hh => absurd he hh, fun _ => ⟨j + n, by omega, ?_, ?_⟩⟩
   ·show 0 ≤ dk.cnt + (n : Int) ∧ dk.cnt + (n : Int) ≤ _
    rw [gc]; omega
   ·show cutS dk.S (lookS N S) (((lookX N S).drop j).take n) = _
    rw [gS, cutS_app, ← List.take_add]
   ·show dk.cnt + (n : Int) = _
    rw [gc]; omega
 ·obtain ⟨b1, b2⟩ := h.b he
  have hr := run_bad (N := N) (d := armD n dk) rfl (by show lookE N dk.S ≠ 0; rw [b1]; exact he)
  rw [hr]
  exact ⟨.inl (by show lookE N dk.S = _; rw [b1]), rfl, rfl, rfl, h.c, fun _ => ⟨b1, b2⟩, fun hh => absurd hh he⟩
theorem CutSt.fin {N : Nat} {S : Nat → List Int} {dk : DS} (hS : ∀ j, j < N → (S j).length = 128 ∧ Bytes (S j)) (h : CutSt N S dk) :
  (runD N dk).1 = lookE N S ∧ (runD N dk).2.S = (runD N (imgD S)).2.S ∧ (runD N dk).2.cnt = (runD N (imgD S)).2.cnt ∧
   (lookE N S = 0 → lookE N dk.S = 0 ∧ lookS N dk.S = lookS N S ∧ lookI N dk.S = lookI N S ∧ lookB N dk.S = lookB N S) := by
 by_cases he : lookE N S = 0
 ·obtain ⟨j, hj, gS, gc⟩ := h.g he
  obtain ⟨c1, c2, c3, c4, c5⟩ := cut_look hS he j
  have e1 : lookE N dk.S = 0 := by rw [gS]; exact c1
  rw [run_fresh h.o h.a e1, run_fresh (d := imgD S) rfl rfl he]
  refine ⟨he.symm, ?_, ?_, fun _ => ⟨e1, by rw [gS]; exact c2, by rw [gS]; exact c4, by rw [gS]; exact c5⟩⟩
  ·show cutS dk.S (lookS N dk.S) (lookX N dk.S) = cutS S (lookS N S) (lookX N S)
   rw [gS, c2, c3, cutS_app, List.take_append_drop]
  ·show dk.cnt + ((lookX N dk.S).length : Int) = 0 + ((lookX N S).length : Int)
   rw [gc, gS, c3, List.length_drop]; omega
 ·obtain ⟨b1, b2⟩ := h.b he
  rw [run_bad h.o (by rw [b1]; exact he), run_bad (d := imgD S) rfl he]
  refine ⟨by show lookE N dk.S = _; rw [b1], b1, b2, fun hh => absurd hh he⟩
def NRow (w : World) (v : Value) (l : List Int) : Prop := ∃ a c, v = .slice a l.length c ∧ l.length ≤ 9223372036854775807 ∧ (∀ x ∈ l, I64 x) ∧
 (0 < l.length → ∃ g o cs t fr, a = some ⟨g, o, none⟩ ∧ hat w g = some (.cells cs t fr) ∧ o + l.length ≤ cs.size ∧ ∀ k x, l[k]? = some x → cs[o + k]? = some (.int .i64 x))
theorem NRow.fr {w w' : World} {v : Value} {l : List Int} (h : NRow w v l) (hf : Fr [] w w') : NRow w' v l := by
 obtain ⟨a, c, h1, h2, h3, h4⟩ := h
 refine ⟨a, c, h1, h2, h3, fun h0 => ?_⟩
 obtain ⟨g, o, cs, t, fr, e1, e2, e3, e4⟩ := h4 h0
 exact ⟨g, o, cs, t, fr, e1, (hf.block _ (hat_lt e2) (by simp)).trans e2, e3, e4⟩
theorem NRow.cell {w : World} {a : Option Addr} {c : Nat} {l : List Int} (h : NRow w (.slice a l.length c) l) {k : Nat} (hk : k < l.length) : ∃ g o cs t fr x, a = some ⟨g, o, none⟩ ∧ hat w g = some (.cells cs t fr) ∧ cs[o + k]? = some (.int .i64 x) ∧ I64 x := by
 obtain ⟨a', c', h1, h2, h3, h4⟩ := h
 injection h1 with e1 e2 e3
 subst e1
 obtain ⟨g, o, cs, t, fr, f1, f2, f3, f4⟩ := h4 (by omega)
 exact ⟨g, o, cs, t, fr, l[k], f1, f2, f4 k _ (List.getElem?_eq_getElem hk), h3 _ (List.getElem_mem hk)⟩
open Go.ChangeShapes Go.WideShapes Go.ChangeAt Go.RowKit
theorem irow_of' {H : Type} {enc : TypeId × Value → H} {W : World} {fuel : Nat} {cs : List Value} {x : DataW H × List MemPlace}
  (h : DataW.trod enc Tryz.prog W 0 (fun _ => true) true fuel 32 cs = some x) : ∃ v l, cs = [v] ∧ NRow W v l := by
 rcases Go.Deep.open_slice Tryz.underlying32 h with ⟨hcs, hx⟩ | ⟨a, len, cap, m, n, D, Pl, hcs, -, hl, hm, hz, hx, hcell⟩
 ·exact ⟨_, [], hcs, none, 0, rfl, by simp, fun x hx => by simp at hx, fun h => by simp at h⟩
 ·simp only [if_true] at hz
  subst hz
  simp only [cells_int, Nat.mul_one] at hcell
  have key : ∀ i, i < len → ∃ z : Int, W.cell? (a.add i) = some (.int .i64 z) ∧ (Lit.int .i64 z).wf = true := by
   intro i hi
   obtain ⟨cs', hc, ht⟩ := hcell i (by omega)
   obtain ⟨-, hlen, hget⟩ := World.cells?_some hc
   obtain ⟨z, hz, -, hwf⟩ := DataW.trod_int Tryz.underlying3 ht
   refine ⟨z, ?_, hwf⟩
   have := hget 0 (by omega)
   rw [hz] at this
   simpa [Go.Deep.add_add] using this
  have hmax : maxLen = 9223372036854775807 := by decide
  by_cases h0 : len = 0
  ·subst h0
   exact ⟨_, [], hcs, some a, _, rfl, by simp, fun x hx => by simp at hx, fun h => by simp at h⟩
  ·obtain ⟨z0, hz0, -⟩ := key 0 (by omega)
   obtain ⟨g, o, cs0, t, fr, ha, hg, hc0⟩ := hat_of_cell hz0
   obtain ⟨b, off, spot⟩ := a
   have hb : b = g ∧ off = o ∧ spot = none := by
    cases spot with
    | none =>
     rw [add_none] at ha
     injection ha with e1 e2 e3
     exact ⟨e1, by omega, rfl⟩
    | some q =>
     exfalso
     have := World.cell?_spot hz0
     simp [Addr.add] at this
   obtain ⟨rfl, rfl, rfl⟩ := hb
   simp only [add_none] at key
   have key2 : ∀ i, i < len → ∃ z : Int, cs0[off + i]? = some (.int .i64 z) ∧ (Lit.int .i64 z).wf = true := fun i hi => by
    obtain ⟨z, h1, h2⟩ := key i hi
    exact ⟨z, by rw [← cell_hat hg]; exact h1, h2⟩
   obtain ⟨f, hf⟩ := Go.Deep.choose_lt key2
   refine ⟨_, (List.range len).map f, hcs, some ⟨b, off, none⟩, _, by rw [List.length_map, List.length_range], ?_, fun x hx => ?_, fun _ => ⟨b, off, cs0, t, fr, rfl, hg, ?_, fun k x hx => ?_⟩⟩
   ·rw [List.length_map, List.length_range]; omega
   ·obtain ⟨j, hj, rfl⟩ := List.mem_map.1 hx
    exact i64_of (hf j (List.mem_range.1 hj)).2
   ·have := (Array.getElem?_eq_some_iff.1 (hf (len - 1) (by omega)).1).1
    simp; omega
   ·have hk : k < len := by have := (List.getElem?_eq_some_iff.1 hx).1; simpa using this
    rw [List.getElem?_map, List.getElem?_range hk] at hx
    simp at hx
    rw [(hf k hk).1, hx]
theorem irow_of {H : Type} {enc : TypeId × Value → H} {W : World} {base : Nat} {v : Value} {d : DataW H} {p : List MemPlace} (hv : Value.okWide Tryz.prog W .any base 32 v)
  (h : DataW.Trod enc Tryz.prog W 0 (fun _ => true) true 32 v d p) : ∃ l, NRow W v l := by
 obtain ⟨a, len, cap, rfl⟩ := okWide_slice Tryz.underlying32 hv
 obtain ⟨fuel, hf⟩ := h
 obtain ⟨v', l, hcs, hl⟩ := irow_of' hf
 have hv' : .slice a len cap = v' := by simpa [Value.cells] using hcs
 subst hv'
 exact ⟨l, hl⟩
def SpotW (w : World) (v : Value) (o : Spot) : Prop := I64 o.1 ∧ I64 o.2.1 ∧ ∃ dv, v = .agg #[.int .i64 o.1, .int .i64 o.2.1, dv] ∧ BRow w dv o.2.2
theorem spot_of {H : Type} {enc : TypeId × Value → H} {W : World} {base : Nat} {v : Value} {d : DataW H} {p : List MemPlace} (hv : Value.okWide Tryz.prog W .any base 44 v)
  (h : DataW.Trod enc Tryz.prog W 0 (fun _ => true) true 44 v d p) : ∃ o, SpotW W v o := by
 obtain ⟨cs, rfl, hsz⟩ := okWide_struct Tryz.underlying44 hv
 obtain ⟨fuel, hf⟩ := h
 obtain ⟨z0, z1, z2, n', -, -, k0, k1, k2⟩ := Go.Deep.trod_struct3 Tryz.underlying44 hf
 rw [Tryz.cellsSpot] at hsz
 simp only [cells_int, cells_su8] at k0 k1 k2
 obtain ⟨va, vb, vc, rfl⟩ : ∃ va vb vc, cs = #[va, vb, vc] := by
  obtain ⟨l⟩ := cs
  match l, hsz with
  | [a, b, c], _ => exact ⟨a, b, c, rfl⟩
 obtain ⟨p0, q0, -, w0⟩ := DataW.trod_int Tryz.underlying3 k0
 obtain ⟨p1, q1, -, w1⟩ := DataW.trod_int Tryz.underlying3 k1
 obtain ⟨dv, l, q2, hb⟩ := bytes_of k2
 have e0 : va = .int .i64 p0 := by simpa [Value.cells] using q0
 have e1 : vb = .int .i64 p1 := by simpa [Value.cells] using q1
 have e2 : vc = dv := by simpa [Value.cells] using q2
 subst e0 e1 e2
 exact ⟨(p0, p1, l), i64_of w0, i64_of w1, _, rfl, hb⟩
end Go.Proofs.YtmnecpnkkapflaaGreat
