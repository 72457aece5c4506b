import Derived.Deep.AppendSrc
import Derived.Maps.AppendAt
import Derived.Lib.SliceRun
import Derived.Laws.MakeOwn
import Derived.StringKeys
import Derived.Test.YthioepdgnbdohaaGreatM04
namespace Go.Proofs.YthioepdgnbdohaaGreat
set_option maxHeartbeats 16000000
set_option maxRecDepth 1000000
set_option linter.unusedSimpArgs false
set_option linter.unusedVariables false
open Go.RowKit
theorem siftK_any {E : Env} (hE : EOk E) {T : TEnv} {rv bv : Nat} (hT : COk E T rv bv) (keepP : Nat → Int → LS → Bool × LS) (base step : Int) (f : Nat) (caps : Array Value) (gp cp sz : Nat) (tg : TypeId) (re : Nat → Option Value) (ps : List Int) (st : LS) (w : World)
  (hf : ∀ args w, (callFunc f args).run Tryz.prog w = .ok (.enter f args) w)
  (hk : ∀ (k : Nat) p st w, k < ps.length → LK E w st → TC E T rv bv w → isD E.X E.Y p = true → Calls Tryz.prog f (#[.int .i64 k, .int .i64 p] ++ caps) w fun e w' => e = .returned (.bool (keepP k p st).1) ∧ LK E w' (keepP k p st).2 ∧ Fr [E.bc, E.gw, E.bf, E.bx] w w')
  (h : LK E w st) (hv : TC E T rv bv w) (hN : Nums w gp 0 tg sz re ps) (hc : ps.length ≤ cp) (hm : ps.length ≤ 32) (h0 : 0 ≤ base) (h1 : base ≤ 2000) (h2 : 0 ≤ step) (h3 : step ≤ 100) (hp : ∀ p ∈ ps, 0 ≤ p ∧ p ≤ 4294967295)
  (hg : gp ∉ mine E) (hgt : gp ∉ theirs T rv bv) :
  Calls Tryz.prog 49 #[.pointer (some ⟨E.gl, 0, none⟩), .slice (some ⟨gp, 0, none⟩) ps.length cp, .int .i64 base, .int .i64 step, .int .i64 T.n, .func (.func f) #[] caps] w fun e w' =>
   e = .returned (.bool (siftP (goodP E) keepP base step T.n 0 ps st).2.1) ∧ LK E w' (siftP (goodP E) keepP base step T.n 0 ps st).2.2 ∧ TC E T rv bv w' ∧ Nums w' gp 0 tg sz re (siftP (goodP E) keepP base step T.n 0 ps st).1 ∧ Fr [gp, E.bc, E.gw, E.bf, E.bx] w w' := by
 have hgm : ∀ k ∈ mine E, k ≠ gp := fun k hk e => hg (e ▸ hk)
 refine (sift_any (goodP E) keepP base step T.n (fun w' st' => LK E w' st' ∧ TC E T rv bv w' ∧ Fr [gp, E.bc, E.gw, E.bf, E.bx] w w') (.pointer (some ⟨E.gl, 0, none⟩)) f caps gp 0 cp sz tg re ps st w hf ⟨h, hv, Fr.refl _ _⟩ hN hc hm h0 h1 h2 h3 hT.t.n0 (by have := hT.t.n1; omega) hp ?_ ?_ ?_).mono ?_
 ·rintro w1 st1 j v hj1 hj2 ⟨h1, h2, h3⟩
  have hfr := fr_setCell w1 gp j v
  refine ⟨h1.fr hfr ?_ ?_ ?_ ?_ ?_, h2.fr hfr (by simpa using hgt), h3.trans (hfr.mono (by simp))⟩ <;> simpa using hgm _ (by simp [mine])
 ·rintro p st1 w1 hp0 hp1 ⟨h1, h2, h3⟩
  refine (good_any hE p st1 w1 hp0 hp1 h1).mono ?_
  rintro e w2 ⟨rfl, h5, h6⟩
  exact ⟨rfl, ⟨h5, h2.fr h6 (by simpa using hT.apart E.bc (by simp [mine])), h3.trans (h6.mono (by simp))⟩, h6.block gp (Nat.lt_of_lt_of_le hN.lt h3.size) (by simpa using (hgm E.bc (by simp [mine])).symm)⟩
 ·rintro k p st1 w1 hk1 hp0 hp1 hgd ⟨h1, h2, h3⟩
  refine (hk k p st1 w1 hk1 h1 h2 (goodP_isD hgd)).mono ?_
  rintro e w2 ⟨rfl, h5, h6⟩
  refine ⟨rfl, ⟨h5, h2.fr h6 ?_, h3.trans (h6.mono (by simp +contextual))⟩, h6.block gp (Nat.lt_of_lt_of_le hN.lt h3.size) ?_⟩
  ·intro q hq
   exact hT.apart q (by simp only [List.mem_cons, List.mem_nil_iff, or_false] at hq; rcases hq with rfl | rfl | rfl | rfl <;> simp [mine])
  ·intro hm
   exact hg (by simp only [List.mem_cons, List.mem_nil_iff, or_false] at hm; rcases hm with e | e | e | e <;> simp [mine, e])
 ·rintro e w1 ⟨rfl, ⟨h2, h3, h4⟩, h5⟩
  exact ⟨rfl, h2, h3, h5, h4⟩
def QRow (w : World) (v : Value) (ob : Option Nat) (xs : List Int) : Prop :=
 (v = .slice none 0 0 ∧ ob = none ∧ xs = []) ∨
 ∃ g off c cs, v = .slice (some ⟨g, off, none⟩) xs.length c ∧ ob = some g ∧ hat w g = some (.cells cs 3) ∧ xs.length ≤ c ∧ off + c ≤ cs.size ∧ ∀ j p, xs[j]? = some p → cs[off + j]? = some (.int .i64 p)
theorem QRow.lt {w : World} {v : Value} {ob : Option Nat} {xs : List Int} (h : QRow w v ob xs) : ∀ g, ob = some g → g < w.heap.size := by
 rintro g rfl
 rcases h with ⟨-, h, -⟩ | ⟨g', off, c, cs, -, h, h2, -⟩
 ·cases h
 ·cases h; exact hat_lt h2
theorem QRow.fr {w w' : World} {v : Value} {ob : Option Nat} {xs : List Int} {ex : List Nat} (h : QRow w v ob xs) (hf : Fr ex w w') (hn : ∀ g, ob = some g → g ∉ ex) : QRow w' v ob xs := by
 rcases h with h | ⟨g, off, c, cs, h1, h2, h3, h4⟩
 ·exact .inl h
 ·exact .inr ⟨g, off, c, cs, h1, h2, (hf.block _ (hat_lt h3) (hn g h2)).trans h3, h4⟩
theorem add_none (g off j : Nat) : (⟨g, off, none⟩ : Addr).add j = ⟨g, off + j, none⟩ := by unfold Addr.add; split <;> simp_all
theorem run_append_q {w : World} {v : Value} {ob : Option Nat} {xs : List Int} (h : QRow w v ob xs) (hn : xs.length ≤ 100000) (i : Int) (b : Nat) (hb : hat w b = some (.cells #[.int .i64 i] 3)) (ty : TypeId) :
  ∃ v' w' ob', (Builtin.append_ #[24, 24] ty #[v, .slice (some ⟨b, 0, none⟩) 1 1]).run Tryz.prog w = .ok v' w' ∧ QRow w' v' ob' (xs ++ [i]) ∧ Fr ob.toList w w' ∧ (ob' = ob ∨ ∃ g, ob' = some g ∧ w.heap.size ≤ g) := by
 have ht : Tryz.prog.underlying 24 = some (.slice 3) := Tryz.underlying24
 have h0 : (Tryz.prog.info? 3).map (fun i => (i.size, i.bytes)) = some (1, 8) := by kernel_rfl
 have h00 : (Tryz.prog.info? 3).bind (·.zero) = some (.int .i64 0) := by kernel_rfl
 obtain ⟨inf, hi, hz, hsz, hby⟩ : ∃ inf, Tryz.prog.info? 3 = some inf ∧ inf.zero = some (.int .i64 0) ∧ inf.size = 1 ∧ inf.bytes = 8 := by
  cases hq : Tryz.prog.info? 3 with
  | none => rw [hq] at h0; cases h0
  | some inf =>
   rw [hq] at h0 h00
   simp at h0 h00
   exact ⟨inf, rfl, h00, h0.1, h0.2⟩
 have hs : ∀ W : World, hat W b = some (.cells #[.int .i64 i] 3) → Src Tryz.prog inf.size 24 (.slice (some ⟨b, 0, none⟩) 1 1) 1 [.int .i64 i] W := fun W hW =>
  Src.ofSlice W ht ⟨b, 0, none⟩ 1 1 [.int .i64 i] (by rw [hsz]; rfl) (fun j u hj => by
   rw [add_none, cell_hat hW]
   simpa using hj) (fun u hu => by simp at hu; subst hu; rfl)
 by_cases hroom : ∃ g off c cs, v = .slice (some ⟨g, off, none⟩) xs.length c ∧ ob = some g ∧ hat w g = some (.cells cs 3) ∧ xs.length + 1 ≤ c ∧ off + c ≤ cs.size ∧ ∀ j p, xs[j]? = some p → cs[off + j]? = some (.int .i64 p)
 ·obtain ⟨g, off, c, cs, rfl, rfl, hg, hc, hcs, hx⟩ := hroom
  have hr := run_append_room_src (P := Tryz.prog) w 24 24 ty 3 inf ht hi g off xs.length c _ 1 [.int .i64 i] (hs w hb) hc
   (fun j hj => by
    rw [hsz, cell_hat hg]
    simp at hj
    subst hj
    rw [Array.getElem?_eq_getElem (by omega)]; rfl)
   (fun j hj => frozen_hat hg _)
  rw [hsz, Nat.mul_one] at hr
  refine ⟨_, _, some g, hr, .inr ⟨g, off, c, cs.setIfInBounds (off + xs.length) (.int .i64 i), by simp, rfl, ?_, by simpa using hc, by simpa using hcs, fun j p hj => ?_⟩, ?_, .inl rfl⟩
  ·exact hat_setCell_at _ _ _ _ _ _ _ hg
  ·rw [Array.getElem?_setIfInBounds]
   by_cases hjl : j = xs.length
   ·subst hjl
    rw [if_pos rfl, if_pos (by omega)]
    simpa using hj
   ·rw [if_neg (by omega)]
    have : j < xs.length := by
     have := (List.getElem?_eq_some_iff.1 hj).1
     simp at this; omega
    rw [List.getElem?_append_left this] at hj
    exact hx j p hj
  ·exact (fr_setCell w g (off + xs.length) (.int .i64 i)).mono (by simp)
 ·obtain ⟨base, cp, hv, hcp, hold⟩ : ∃ base cp, v = .slice base xs.length cp ∧ cp < xs.length + 1 ∧ (Builtin.firstCells inf.size xs.length (.slice base xs.length cp)).run Tryz.prog w.drew = .ok (xs.map (Value.int .i64)).toArray w.drew := by
   rcases h with ⟨rfl, rfl, rfl⟩ | ⟨g, off, c, cs, rfl, rfl, hg, hc, hcs, hx⟩
   ·exact ⟨none, 0, rfl, by simp, run_firstCells_none w.drew _ 0 0 0⟩
   ·refine ⟨some ⟨g, off, none⟩, c, rfl, ?_, ?_⟩
    ·refine Nat.lt_of_not_le fun hle => hroom ⟨g, off, c, cs, rfl, rfl, hg, by omega, hcs, hx⟩
    ·refine run_firstCells_some w.drew _ xs.length ⟨g, off, none⟩ xs.length c (xs.map (Value.int .i64)) (by rw [hsz]; simp) fun j u hj => ?_
     rw [add_none]
     show w.cell? _ = _
     rw [cell_hat hg]
     rw [List.getElem?_map] at hj
     cases hxj : xs[j]? with
     | none => rw [hxj] at hj; cases hj
     | some p => rw [hxj] at hj; rw [hx j p hxj, ← hj]; rfl
  subst hv
  have hr := run_append_grow_src (P := Tryz.prog) w 24 24 ty 3 inf (.int .i64 0) ht hi hz base xs.length cp _ hold _ 1 [.int .i64 i] (hs w hb) hcp (by omega) (growslice_fits hcp (by rw [hby]; omega))
  have hge := grownCap_ge w (xs.length + 1) cp 3
  refine ⟨_, _, some w.heap.size, hr, .inr ⟨w.heap.size, 0, grownCap w (xs.length + 1) cp 3, _, by rw [List.length_append]; rfl, rfl, hat_alloc_at w.drew _ _ rfl, by simpa using hge, ?_, fun j p hj => ?_⟩, ?_, .inr ⟨_, rfl, Nat.le_refl _⟩⟩
  ·have hz2 : (Value.int .i64 0).cells.size = 1 := rfl
   rw [Array.size_append, size_zeroCells, hz2]
   simp
   omega
  ·have hjl : j < xs.length + 1 := by
    have := (List.getElem?_eq_some_iff.1 hj).1
    simpa using this
   rw [Nat.zero_add, Array.getElem?_append_left (by simpa using hjl)]
   have he : (xs.map (Value.int .i64) ++ [Value.int .i64 i]) = (xs ++ [i]).map (Value.int .i64) := by simp
   rw [he, List.getElem?_toArray, List.getElem?_map, hj]
   rfl
  ·exact fr_below (show Below w.heap.size w (w.drew.alloc _) from Below.alloc (show Below w.heap.size w w.drew from ⟨rfl, rfl, rfl, Nat.le_refl _, fun _ _ => rfl⟩) (Nat.le_refl _) _) _
def QVar (w : World) (gr : Nat) (ob : Option Nat) (xs : List Int) : Prop := ∃ v, hat w gr = some (.cells #[v] 24) ∧ QRow w v ob xs ∧ ob ≠ some gr
theorem QVar.fr {w w' : World} {gr : Nat} {ob : Option Nat} {xs : List Int} {ex : List Nat} (h : QVar w gr ob xs) (hf : Fr ex w w') (h1 : gr ∉ ex) (h2 : ∀ g, ob = some g → g ∉ ex) : QVar w' gr ob xs := by
 obtain ⟨v, hv, hq, hn⟩ := h
 exact ⟨v, (hf.block _ (hat_lt hv) h1).trans hv, hq.fr hf h2, hn⟩
theorem QVar.lt {w : World} {gr : Nat} {ob : Option Nat} {xs : List Int} (h : QVar w gr ob xs) : gr < w.heap.size := by
 obtain ⟨v, hv, -⟩ := h; exact hat_lt hv
theorem QVar.blt {w : World} {gr : Nat} {ob : Option Nat} {xs : List Int} (h : QVar w gr ob xs) : ∀ g, ob = some g → g < w.heap.size := by
 obtain ⟨v, hv, hq, -⟩ := h; exact hq.lt
theorem QRow.one {w : World} {v : Value} {ob : Option Nat} {xs : List Int} (h : QRow w v ob xs) : v.oneCell' = true := by
 rcases h with ⟨rfl, -⟩ | ⟨g, off, c, cs, rfl, -⟩ <;> rfl
theorem QRow.slice {w : World} {v : Value} {ob : Option Nat} {xs : List Int} (h : QRow w v ob xs) : ∃ a c, v = .slice a xs.length c := by
 rcases h with ⟨rfl, -, rfl⟩ | ⟨g, off, c, cs, rfl, -⟩
 ·exact ⟨none, 0, rfl⟩
 ·exact ⟨_, _, rfl⟩
theorem wpList_append_run {P : Program} (w : World) {ops : Array Oper} {rest : List Oper} {o : Oper} {a : Act} {Q : Exit → Act → World → Prop} (hgd : o.guard = none) (s x : Operand) (t : TypeId)
  (ho : o.op = .call { callee := .builtin .append, args := #[s, x], argTypes := #[t, t] }) (v u : Value) (hs : a.eval s = v) (hx : a.eval x = u) (v' : Value) (w' : World)
  (hr : (Builtin.append_ #[t, t] o.type #[v, u]).run P w = .ok v' w') (h : wpList P ops Q rest (a.put o.dst v') w') : wpList P ops Q (o :: rest) a w := by
 refine wpList_plain hgd fun K hK => ?_
 unfold Oper.wp
 simp [execOp, ho, resolve, invoke, builtin, hs, hx, hr, Result.andThen]
 exact hK _ _ h
theorem queue_any (gr : Nat) (ob : Option Nat) (xs : List Int) (i : Int) (w : World) (h : QVar w gr ob xs) (hn : xs.length ≤ 100000) :
  Calls Tryz.prog 26 #[.int .i64 i, .pointer (some ⟨gr, 0, none⟩)] w fun e w' => e = .returned (.tuple #[]) ∧ ∃ ob', QVar w' gr ob' (xs ++ [i]) ∧ Fr (gr :: ob.toList) w w' ∧ (ob' = ob ∨ ∃ g, ob' = some g ∧ w.heap.size ≤ g) := by
 obtain ⟨v, hv, hq, hne⟩ := h
 have hgr := hat_lt hv
 have hfa : Fr [] w (w.alloc (.cells #[.int .i64 i] 3)) := fr_below ((Below.refl _ w).alloc (Nat.le_refl _) _) _
 obtain ⟨v', w', ob', hr, hq', hf', ho'⟩ := run_append_q (hq.fr hfa (by simp)) hn i w.heap.size (hopN w _).1 24
 have hv1 : hat (w.alloc (.cells #[.int .i64 i] 3)) gr = some (.cells #[v] 24) := (hopA w _ hv).1
 have hgo : gr ∉ ob.toList := by
  intro hm
  cases ob with
  | none => simp at hm
  | some g => simp at hm; exact hne (by rw [hm])
 have hv2 : hat w' gr = some (.cells #[v] 24) := (hf'.block gr (by simp; omega) hgo).trans hv1
 obtain ⟨a', c', hsl⟩ := hq'.slice
 have HQ := Lib.hid hq'
 have HF := Lib.hid hf'
 have HO := Lib.hid ho'
 have HSL := Lib.hid hsl
 rw [hsl] at hr
 have hz := hfa.size
 clear hq' hf' ho' hq hfa hsl
 go_enter Tryz.func26, Tryz.ntmps26
 go_wp2_with (at_builtin; refine wpList_append_run _ rfl (.tmp 3) (.tmp 5) 24 rfl _ _ rfl rfl _ _ hr ?_)
 refine bodyPost_end (results_none rfl _ _ _) rfl ?_
 have h2 : Fr [gr] w' (w'.setCell ⟨gr, 0, none⟩ (.slice a' (xs.length + 1) c')) := fr_setCell _ _ _ _
 have hlen : (xs ++ [i]).length = xs.length + 1 := by simp
 have hsl := HSL.out
 rw [hlen] at hsl
 have hob' : ∀ g, ob' = some g → g ≠ gr := by
  intro g hg e
  subst e
  rcases HO.out with h | ⟨g', h, hl⟩
  ·exact hne (by rw [← h, hg])
  ·rw [hg] at h; cases h
   simp at hl; omega
 have hQ := HQ.out
 rw [hsl] at hQ
 refine ⟨rfl, ob', ⟨_, hat_setCell_at _ _ _ _ _ _ _ hv2, hQ.fr h2 (fun g hg => by simpa using hob' g hg), fun e => hob' gr e rfl⟩, ?_, ?_⟩
 ·exact ((fr_below ((Below.refl w.heap.size w).alloc (Nat.le_refl _) _) _).trans (HF.out.mono (fun k hk => List.mem_cons_of_mem _ hk))).trans (h2.mono (by simp))
 ·rcases HO.out with h | ⟨g', h, hl⟩
  ·exact .inl h
  ·exact .inr ⟨g', h, Nat.le_trans hz hl⟩
theorem next_none (gr : Nat) (ob : Option Nat) (w : World) (h : QVar w gr ob []) :
  Calls Tryz.prog 27 #[.pointer (some ⟨gr, 0, none⟩)] w fun e w' => e = .returned (.tuple #[.int .i64 0, .bool false]) ∧ w' = w := by
 obtain ⟨v, hv, hq, hne⟩ := h
 obtain ⟨a, c, rfl⟩ := hq.slice
 clear hq
 go_enter Tryz.func27, Tryz.ntmps27
 go_wp2_with fail
 go_ret2
 exact ⟨rfl, rfl⟩
theorem next_some (gr : Nat) (ob : Option Nat) (x : Int) (xs : List Int) (w : World) (h : QVar w gr ob (x :: xs)) :
  Calls Tryz.prog 27 #[.pointer (some ⟨gr, 0, none⟩)] w fun e w' => e = .returned (.tuple #[.int .i64 x, .bool true]) ∧ QVar w' gr ob xs ∧ Fr [gr] w w' := by
 obtain ⟨v, hv, hq, hne⟩ := h
 rcases hq with ⟨-, -, h⟩ | ⟨g, off, c, cs, rfl, hob, hg, hc, hcs, hx⟩
 ·cases h
 have h0 := hx 0 x rfl
 rw [Nat.add_zero] at h0
 have hgg : g ≠ gr := fun e => hne (by rw [hob, e])
 have HX := Lib.hid hx
 have HNE := Lib.hid hne
 have HOB := Lib.hid hob
 simp only [List.length_cons] at hv hc
 clear hx hne hob
 have hl0 : ((xs.length : Int) + 1 == 0) = false := by simp; omega
 by_cases hc1 : c = 1
 ·subst hc1
  obtain rfl : xs = [] := List.eq_nil_of_length_eq_zero (by omega)
  simp only [List.length_nil, Nat.zero_add] at hv hl0
  clear hc
  go_enter Tryz.func27, Tryz.ntmps27
  go_wp2_with fail
  go_ret2
  have h2 : Fr [gr] w (w.setCell ⟨gr, 0, none⟩ (.slice (some ⟨g, off, none⟩) 0 0)) := fr_setCell _ _ _ _
  refine ⟨rfl, ⟨_, hat_setCell_at _ _ _ _ _ _ _ hv, .inr ⟨g, off, 0, cs, rfl, HOB.out, (h2.block _ (hat_lt hg) (by simpa using hgg)).trans hg, by simp, by omega, fun j p hj => by simp at hj⟩, HNE.out⟩, h2⟩
 ·go_enter Tryz.func27, Tryz.ntmps27
  go_wp2_with fail
  go_ret2
  have h2 : Fr [gr] w (w.setCell ⟨gr, 0, none⟩ (.slice (some ⟨g, off + 1, none⟩) xs.length (c - 1))) := fr_setCell _ _ _ _
  refine ⟨rfl, ⟨_, hat_setCell_at _ _ _ _ _ _ _ hv, .inr ⟨g, off + 1, c - 1, cs, rfl, HOB.out, (h2.block _ (hat_lt hg) (by simpa using hgg)).trans hg, by omega, by omega, fun j p hj => ?_⟩, HNE.out⟩, h2⟩
  have := HX.out (j + 1) p (by simpa using hj)
  rw [show off + 1 + j = off + (j + 1) by omega]
  exact this
def wipeL (s : List Int) (k : Nat) : List Int := s.take k ++ zl (128 - k)
@[simp] theorem wipeL_length {s : List Int} (h : s.length = 128) {k : Nat} (hk : k ≤ 128) : (wipeL s k).length = 128 := by
 simp [wipeL, h]; omega
theorem bytes_wipeL {s : List Int} (h : Bytes s) (k : Nat) : Bytes (wipeL s k) := by
 intro x hx
 unfold wipeL at hx
 rw [List.mem_append] at hx
 rcases hx with hx | hx
 ·exact h x (List.mem_of_mem_take hx)
 ·unfold zl at hx
  rw [List.mem_replicate] at hx
  omega
theorem run_clear_u8 {w : World} {g : Nat} {s : List Int} {t : TypeId} (hg : hat w g = some (.cells (IV .u8 s) t)) (hs : s.length = 128) (k : Nat) (hk : k < 128) (ty : TypeId) :
  (Builtin.clear_ #[134] ty #[.slice (some ⟨g, k, none⟩) (128 - k) (128 - k)]).run Tryz.prog w = .ok (.tuple #[]) (w.setRow g (IV .u8 (wipeL s k))) := by
 have hv : ∀ w, (zeroValue 5).run Tryz.prog w = .ok (.int .u8 0) w := fun w => by kernel_rfl
 have hz : (Value.int .u8 0).cells = #[.int .u8 0] := rfl
 have ht : Tryz.prog.underlying 134 = some (.slice 5) := Tryz.underlying134
 obtain ⟨n, hn⟩ : ∃ n, 128 - k = n + 1 := ⟨127 - k, by omega⟩
 have hzc : (Builtin.zeroCells (Value.int .u8 0).cells (128 - k)).toList = List.replicate (128 - k) (.int .u8 0) := by
  rw [hz]
  simp [Builtin.zeroCells]
  apply List.ext_getElem
  ·simp
  ·intro i h1 h2
   simp [Nat.mod_one]
 have hst := run_storeCells_at (P := Tryz.prog) g k t (List.replicate (128 - k) (.int .u8 0)) 0 (IV .u8 s) w hg (by simp [hs]; omega) (fun v hv' => by rw [List.eq_of_mem_replicate hv']; rfl)
 have he : ((IV .u8 s).toList.take (k + 0) ++ List.replicate (128 - k) (Value.int .u8 0) ++ (IV .u8 s).toList.drop (k + 0 + (List.replicate (128 - k) (Value.int .u8 0)).length)).toArray = IV .u8 (wipeL s k) := by
  have hd : (IV .u8 s).toList.drop (k + 0 + (List.replicate (128 - k) (Value.int .u8 0)).length) = [] := List.drop_of_length_le (by simp [hs]; omega)
  rw [hd]
  unfold IV wipeL zl
  simp [List.map_take]
 rw [he] at hst
 rw [hn] at hzc hst ⊢
 simp only [Builtin.clear_, Sem.run_bind, run_underlying ht, Result.andThen_ok, hv]
 simp [hzc, hst, hv]
theorem wipe_any (s : List Int) (hs : s.length = 128) (k : Nat) (hk : k < 128) (w : World) :
  Calls Tryz.prog 58 #[.agg (IV .u8 s), .int .i64 k] w fun e w' => e = .returned (.agg (IV .u8 (wipeL s k))) ∧ Below w.heap.size w w' := by
 have hk0 : (0 : Int) ≤ (k : Int) := Int.natCast_nonneg _
 have hk1 : (k : Int) < 128 := by omega
 have d1 : decide ((k : Int) < 128) = true := decide_eq_true hk1
 have h1 : hat ((w.alloc (.cells (IV .u8 s) 33)).alloc (.cells (IV .u8 (zl 128)) 33)) w.heap.size = some (.cells (IV .u8 s) 33) := by simp [go_sem]
 have h2 : hat ((w.alloc (.cells (IV .u8 s) 33)).alloc (.cells (IV .u8 (zl 128)) 33)) (w.heap.size + 1) = some (.cells (IV .u8 (zl 128)) 33) := by simp [go_sem]
 have hb : Below w.heap.size w ((w.alloc (.cells (IV .u8 s) 33)).alloc (.cells (IV .u8 (zl 128)) 33)) := ((Below.refl w.heap.size w).alloc (Nat.le_refl _) _).alloc (by simp) _
 have hr := run_clear_u8 h1 hs k hk 0
 have hw : (wipeL s k).length = 128 := wipeL_length hs (by omega)
 have h3 := hat_setRow_at _ _ (IV .u8 (wipeL s k)) _ _ _ h1
 have h4 := (hat_setRow _ w.heap.size (w.heap.size + 1) (IV .u8 (wipeL s k)) (by omega)).trans h2
 have hb2 := below_setRow hb (Nat.le_refl _) (IV .u8 (wipeL s k))
 have HB := Lib.hid hb2
 generalize hW : (w.alloc (.cells (IV .u8 s) 33)).alloc (.cells (IV .u8 (zl 128)) 33) = w1 at *
 generalize hW2 : w1.setRow w.heap.size (IV .u8 (wipeL s k)) = w2 at *
 clear hb hb2
 go_enter Tryz.func58, Tryz.ntmps58
 go_wp2_with fail
 exact ret_c row33 rfl (cs := IV .u8 (wipeL s k)) rfl (hopS h4 _).1 (by simp [hw]) rfl ⟨rfl, below_setRow HB.out (by omega) _⟩
def ptrElem : Value → Option (DataW Unit × List MemPlace)
 | .pointer none => some (.nil, [])
 | .pointer (some ⟨b, 0, none⟩) => some (.lit (.int .i64 b), [])
 | _ => none
def ptrOf : Option Nat → Value
 | none => .pointer none
 | some b => .pointer (some ⟨b, 0, none⟩)
def ptrD : Option Nat → DataW Unit
 | none => .nil
 | some b => .lit (.int .i64 b)
theorem ptrElem_of (g : Option Nat) : ptrElem (ptrOf g) = some (ptrD g, []) := by cases g <;> rfl
theorem ptrElem_inv {v : Value} {g : Option Nat} {ps : List MemPlace} (h : ptrElem v = some (ptrD g, ps)) : v = ptrOf g := by
 unfold ptrElem at h
 split at h
 ·cases g with
  | none => rfl
  | some b => simp [ptrD] at h
 ·cases g with
  | none => simp [ptrD] at h
  | some b =>
   simp [ptrD] at h
   obtain ⟨h, -⟩ := h
   have := h
   rename_i b'
   have : b' = b := by omega
   subst this; rfl
 ·cases h
def MP (w : World) (b n : Nat) (f : Int → Option Nat) : Prop :=
 ∃ D : DataW Unit, w.ownsMap Tryz.prog 3 ptrElem b n D ∧ Go.Maps.IsMap D ∧ (∀ p, i64ok p → Go.Maps.has D (.int .i64 p) = (f p).isSome) ∧ ∀ p, i64ok p → D.atKey (.int .i64 p) .nil = ptrD (f p)
theorem MP.lt {w : World} {b n : Nat} {f : Int → Option Nat} (h : MP w b n f) : b < w.heap.size := by
 obtain ⟨D, h1, -⟩ := h; exact h1.lt
theorem MP.same {w w' : World} {b n : Nat} {f : Int → Option Nat} (h : MP w b n f) (he : hat w' b = hat w b) : MP w' b n f := by
 obtain ⟨D, ⟨es, clock, hb, h1⟩, h2⟩ := h
 exact ⟨D, ⟨es, clock, he.trans hb, h1⟩, h2⟩
theorem MP.made (w : World) : MP (w.alloc (.map #[] 0)) w.heap.size 0 (fun _ => none) :=
 ⟨.map [], World.ownsMap_made w _ _ _, Go.Maps.isMap_empty, fun _ _ => rfl, fun _ _ => rfl⟩
theorem zeroPtr (w : World) : (zeroValue 70).run Tryz.prog w = .ok (.pointer none) w := by kernel_rfl
theorem MP.look {w : World} {b n : Nat} {f : Int → Option Nat} (h : MP w b n f) {p : Int} (hp : i64ok p) :
  (Instr.lookup 59 (.map (some b)) (.int .i64 p) false).run Tryz.prog w = .ok (ptrOf (f p)) w := by
 obtain ⟨D, h1, -, h2, h3⟩ := h
 obtain ⟨v, ps, hr, hv⟩ := h1.lookup (Go.Maps.int_keyed Tryz.underlying3) Tryz.underlying59 (zeroPtr w) (zd := .nil) (zp := []) rfl (keyInt hp)
 rw [h3 p hp] at hv
 rw [ptrElem_inv hv] at hr
 exact hr
def putN (f : Int → Option Nat) (p : Int) (g : Nat) : Int → Option Nat := fun q => if q = p then some g else f q
theorem MP.put {w : World} {b n : Nat} {f : Int → Option Nat} (h : MP w b n f) (hn : n < maxLen) {p : Int} (g : Nat) (hp : i64ok p) :
  ∃ w', (Instr.mapUpdate 59 (.map (some b)) (.int .i64 p) (.pointer (some ⟨g, 0, none⟩))).run Tryz.prog w = .ok () w' ∧ MP w' b (n + 1) (putN f p g) ∧ w.mapTurned w' b := by
 obtain ⟨D, h1, h0, h2, h3⟩ := h
 obtain ⟨w', hr, ho, ht⟩ := h1.store (Go.Maps.int_keyed Tryz.underlying3) Tryz.underlying59 hn (keyInt hp) (d := ptrD (some g)) (ps := []) (val := .pointer (some ⟨g, 0, none⟩)) (ptrElem_of (some g))
 refine ⟨w', hr, ⟨_, ho, h0.put _ _, fun q hq => ?_, fun q hq => ?_⟩, ht⟩
 ·unfold putN
  by_cases hqp : q = p
  ·subst hqp
   rw [Go.Maps.has_put_same h0 (keyInt_is hq)]; simp
  ·rw [Go.Maps.has_put_other (litInt_ne hqp), h2 q hq, if_neg hqp]
 ·unfold putN
  by_cases hqp : q = p
  ·subst hqp
   rw [Go.Maps.atKey_put_same h0 (keyInt_is hq)]; simp
  ·rw [Go.Maps.atKey_put_other (litInt_ne hqp), h3 q hq, if_neg hqp]
def PB (w : World) (b : Nat) (f : Int → Option Nat) : Prop := MP w b 4096 f ∧ ∀ p, (f p).isSome = true → 0 ≤ p ∧ p < 4096
theorem MP.tight {w : World} {b n : Nat} {f : Int → Option Nat} (h : MP w b n f) (hs : ∀ p, (f p).isSome = true → 0 ≤ p ∧ p < 4096) : PB w b f := by
 obtain ⟨D, h1, h2, h3, h4⟩ := h
 exact ⟨⟨D, own_tight h1 (fun p hp hh => hs p (by rw [← h3 p hp]; exact hh)), h2, h3, h4⟩, hs⟩
theorem PB.same {w w' : World} {b : Nat} {f : Int → Option Nat} (h : PB w b f) (he : hat w' b = hat w b) : PB w' b f := ⟨h.1.same he, h.2⟩
theorem PB.lt {w : World} {b : Nat} {f : Int → Option Nat} (h : PB w b f) : b < w.heap.size := h.1.lt
theorem PB.put {w : World} {b : Nat} {f : Int → Option Nat} (h : PB w b f) {p : Int} (g : Nat) (hp : 0 ≤ p ∧ p < 4096) :
  ∃ w', (Instr.mapUpdate 59 (.map (some b)) (.int .i64 p) (.pointer (some ⟨g, 0, none⟩))).run Tryz.prog w = .ok () w' ∧ PB w' b (putN f p g) ∧ w.mapTurned w' b := by
 obtain ⟨w', h1, h2, h3⟩ := h.1.put (by unfold maxLen; omega) (p := p) g (i64_small hp.1 (by omega))
 refine ⟨w', h1, h2.tight fun q hq => ?_, h3⟩
 unfold putN at hq
 by_cases hqp : q = p
 ·subst hqp; exact hp
 ·rw [if_neg hqp] at hq
  exact h.2 q hq
def goodX (X Y : Int) (p : Int) (st : LS) : Bool × LS := if isD X Y p = true ∧ st.cl p = false then (true, { st with cl := addS st.cl p }) else (false, st)
def rowX (X Y n base : Int) (ps : List Int) (st : LS) : List Int × Bool × LS := siftP (goodX X Y) (keepRow base) base 1 n 0 ps st
noncomputable def belowX (X Y n base p : Int) (st : LS) : Bool × LS := tableP (rowX X Y n base) p.toNat st
noncomputable def keep3X (X Y n : Int) (_k : Nat) (p : Int) (st : LS) : Bool × LS := belowX X Y n 12 p st
noncomputable def keep9X (X Y n : Int) (k : Nat) (p : Int) (st : LS) : Bool × LS := belowX X Y n (44 + 32 * k) p st
noncomputable def dblX (X Y n : Int) (ps : List Int) (st : LS) : List Int × Bool × LS := siftP (goodX X Y) (keep9X X Y n) 44 32 n 0 ps st
noncomputable def keep4X (X Y n : Int) (_k : Nat) (p : Int) (st : LS) : Bool × LS := tableP (dblX X Y n) p.toNat st
noncomputable def ptrsX (X Y n : Int) (raw : List Int) (st : LS) : List Int × LS :=
 let a := rowX X Y n 0 ((raw.drop 4).take 12) st
 let b := siftP (goodX X Y) (keep3X X Y n) 12 1 n 0 [nth raw 16] a.2.2
 let c := siftP (goodX X Y) (keep4X X Y n) 44 1 n 0 [nth raw 17] b.2.2
 (raw.take 4 ++ (a.1 ++ (b.1 ++ c.1)), c.2.2)
def firmX (n : Int) (st : LS) : LS := { st with fm := fun q => st.fm q || (List.range n.toNat).any fun k => st.bk k == some q }
noncomputable def tailX (n z : Int) (st : LS) : LS :=
 match st.bk (n - 1) with
 | none => st
 | some p => if z % 128 = 0 then st else { st with S := updS st.S p.toNat (wipeL (st.S p.toNat) (z % 128).toNat) }
def cntX (z : Int) : Int := (z + 127) / 128
noncomputable def takeX (X Y : Int) (raw : List Int) (st : LS) : List Int × LS :=
 let r := ptrsX X Y (cntX (nth raw 2)) raw { st with bk := fun _ => none }
 if nth raw 0 = 2 then (r.1, firmX (cntX (nth raw 2)) r.2) else (r.1, tailX (cntX (nth raw 2)) (nth raw 2) r.2)
theorem siftP_inv {σ : Type} (goodP : Int → σ → Bool × σ) (keepP : Nat → Int → σ → Bool × σ) (base step n : Int) (I : σ → Prop)
  (hg : ∀ p st, I st → I (goodP p st).2) (hk : ∀ (k : Nat) p st s0, base + step * k < n → (goodP p s0).1 = true → I st → I (keepP k p st).2) : ∀ (r : List Int) (k : Nat) (st : σ), I st → I (siftP goodP keepP base step n k r st).2.2
 | [], _, _, h => h
 | p :: r, k, st, h => by
  rw [siftP_cons]
  split
  ·exact siftP_inv goodP keepP base step n I hg hk r _ _ h
  ·split
   ·exact siftP_inv goodP keepP base step n I hg hk r _ _ h
   ·split
    ·exact siftP_inv goodP keepP base step n I hg hk r _ _ (hg p st h)
    ·rename_i h1 h2
     have h3 : (goodP p st).1 = true := by cases hh : (goodP p st).1 <;> simp_all
     split
     ·exact siftP_inv goodP keepP base step n I hg hk r _ _ (hk k p _ st (by omega) h3 (hg p st h))
     ·exact siftP_inv goodP keepP base step n I hg hk r _ _ (hk k p _ st (by omega) h3 (hg p st h))
def KeysIn (n : Int) (st : LS) : Prop := ∀ k, (st.bk k).isSome = true → 0 ≤ k ∧ k < n
theorem goodX_inv {I : LS → Prop} {X Y : Int} (h : ∀ st (f : Int → Bool), I st → I { st with cl := f }) (p : Int) (st : LS) (hi : I st) : I (goodX X Y p st).2 := by
 unfold goodX
 split
 ·exact h _ _ hi
 ·exact hi
theorem tableP_inv {I : LS → Prop} (siftF : List Int → LS → List Int × Bool × LS) (at' : Nat) (h1 : ∀ st (f : Int → Bool), I st → I { st with cl := f }) (h2 : ∀ st (S : Nat → List Int) (f : Int → Bool), I st → I { st with S := S, fm := f })
  (hs : ∀ ps st, I st → I (siftF ps st).2.2) (st : LS) (hi : I st) : I (tableP siftF at' st).2 := by
 unfold tableP
 split
 ·exact h1 _ _ (hs _ _ hi)
 ·exact h2 _ _ _ (hs _ _ hi)
theorem keys_put {n : Int} {st : LS} (h : KeysIn n st) {k p : Int} (h0 : 0 ≤ k) (h1 : k < n) : KeysIn n { st with bk := putI st.bk k p } := by
 intro q hq
 simp only [putI] at hq
 split at hq
 ·rename_i e; subst e; exact ⟨h0, h1⟩
 ·exact h q hq
theorem rowX_keys (X Y n base : Int) (hb : 0 ≤ base) (ps : List Int) (st : LS) (h : KeysIn n st) : KeysIn n (rowX X Y n base ps st).2.2 := by
 unfold rowX
 refine siftP_inv _ _ _ _ _ (KeysIn n) (fun p st h => goodX_inv (fun _ _ h => h) p st h) (fun k p st _ hk _ h => ?_) ps 0 st h
 exact keys_put h (by omega) (by omega)
theorem belowX_keys (X Y n base p : Int) (hb : 0 ≤ base) (st : LS) (h : KeysIn n st) : KeysIn n (belowX X Y n base p st).2 :=
 tableP_inv _ _ (fun _ _ h => h) (fun _ _ _ h => h) (fun ps st h => rowX_keys X Y n base hb ps st h) st h
theorem dblX_keys (X Y n : Int) (ps : List Int) (st : LS) (h : KeysIn n st) : KeysIn n (dblX X Y n ps st).2.2 := by
 unfold dblX
 exact siftP_inv _ _ _ _ _ (KeysIn n) (fun p st h => goodX_inv (fun _ _ h => h) p st h) (fun k p st _ hk _ h => belowX_keys X Y n _ p (by omega) st h) ps 0 st h
theorem ptrsX_keys (X Y n : Int) (raw : List Int) (st : LS) (h : KeysIn n st) : KeysIn n (ptrsX X Y n raw st).2 := by
 unfold ptrsX
 refine siftP_inv _ _ _ _ _ (KeysIn n) (fun p st h => goodX_inv (fun _ _ h => h) p st h) (fun k p st _ hk _ h => tableP_inv _ _ (fun _ _ h => h) (fun _ _ _ h => h) (fun ps st h => dblX_keys X Y n ps st h) st h) _ 0 _ ?_
 refine siftP_inv _ _ _ _ _ (KeysIn n) (fun p st h => goodX_inv (fun _ _ h => h) p st h) (fun k p st _ hk _ h => belowX_keys X Y n _ p (by omega) st h) _ 0 _ ?_
 exact rowX_keys X Y n 0 (by omega) _ st h
def ValsIn (X Y : Int) (st : LS) : Prop := ∀ k p, st.bk k = some p → isD X Y p = true
theorem goodX_isD {X Y p : Int} {st : LS} (h : (goodX X Y p st).1 = true) : isD X Y p = true := by
 unfold goodX at h
 split at h
 ·rename_i h2; exact h2.1
 ·cases h
theorem vals_put {X Y : Int} {st : LS} (h : ValsIn X Y st) {k p : Int} (hp : isD X Y p = true) : ValsIn X Y { st with bk := putI st.bk k p } := by
 intro q r hq
 simp only [putI] at hq
 split at hq
 ·cases hq; exact hp
 ·exact h q r hq
theorem rowX_vals (X Y n base : Int) (ps : List Int) (st : LS) (h : ValsIn X Y st) : ValsIn X Y (rowX X Y n base ps st).2.2 := by
 unfold rowX
 exact siftP_inv _ _ _ _ _ (ValsIn X Y) (fun p st h => goodX_inv (fun _ _ h => h) p st h) (fun k p st _ hk hg h => vals_put h (goodX_isD hg)) ps 0 st h
theorem belowX_vals (X Y n base p : Int) (st : LS) (h : ValsIn X Y st) : ValsIn X Y (belowX X Y n base p st).2 :=
 tableP_inv _ _ (fun _ _ h => h) (fun _ _ _ h => h) (fun ps st h => rowX_vals X Y n base ps st h) st h
theorem dblX_vals (X Y n : Int) (ps : List Int) (st : LS) (h : ValsIn X Y st) : ValsIn X Y (dblX X Y n ps st).2.2 := by
 unfold dblX
 exact siftP_inv _ _ _ _ _ (ValsIn X Y) (fun p st h => goodX_inv (fun _ _ h => h) p st h) (fun k p st _ hk _ h => belowX_vals X Y n _ p st h) ps 0 st h
theorem ptrsX_vals (X Y n : Int) (raw : List Int) (st : LS) (h : ValsIn X Y st) : ValsIn X Y (ptrsX X Y n raw st).2 := by
 unfold ptrsX
 refine siftP_inv _ _ _ _ _ (ValsIn X Y) (fun p st h => goodX_inv (fun _ _ h => h) p st h) (fun k p st _ hk _ h => tableP_inv _ _ (fun _ _ h => h) (fun _ _ _ h => h) (fun ps st h => dblX_vals X Y n ps st h) st h) _ 0 _ ?_
 refine siftP_inv _ _ _ _ _ (ValsIn X Y) (fun p st h => goodX_inv (fun _ _ h => h) p st h) (fun k p st _ hk _ h => belowX_vals X Y n _ p st h) _ 0 _ ?_
 exact rowX_vals X Y n 0 _ st h
theorem firmX_of {n : Int} {st : LS} (hk : KeysIn n st) (fm' : Int → Bool) (h : ∀ q, fm' q = true ↔ st.fm q = true ∨ ∃ k, st.bk k = some q) : firmX n st = { st with fm := fm' } := by
 unfold firmX
 congr 1
 funext q
 apply Bool.eq_iff_iff.2
 rw [h q, Bool.or_eq_true, List.any_eq_true]
 constructor
 ·rintro (h | ⟨k, -, h⟩)
  ·exact .inl h
  ·exact .inr ⟨k, by simpa using h⟩
 ·rintro (h | ⟨k, h⟩)
  ·exact .inl h
  ·have h0 := hk k (by rw [h]; rfl)
   refine .inr ⟨k.toNat, List.mem_range.2 (by omega), ?_⟩
   rw [show ((k.toNat : Nat) : Int) = k by omega, h]
   simp
def oneW (X Y n idx p : Int) (f : (Int → Bool) → Option (Int → Bool)) (s : Int → Bool) : Option (Int → Bool) := if p = 0 then some s else if aimW X Y idx n p s = true then f (addS s p) else none
def dblRowW (X Y : Int) (S : Nat → List Int) (n : Int) : Nat → List Int → (Int → Bool) → Option (Int → Bool)
 | _, [], s => some s
 | k, p :: r, s => match oneW X Y n (44 + 32 * k) p (tabW X Y S n (44 + 32 * k) p.toNat) s with | none => none | some s' => dblRowW X Y S n (k + 1) r s'
def dblW (X Y : Int) (S : Nat → List Int) (n : Int) (at' : Nat) (s : Int → Bool) : Option (Int → Bool) :=
 match dblRowW X Y S n 0 (rdPtr (S at')) s with | none => none | some s' => if someL (rdPtr (S at')) = true then some s' else none
def dirL (raw : List Int) : List Int := (raw.drop 4).take 12
def ptrsW (X Y : Int) (S : Nat → List Int) (n : Int) (raw : List Int) (s : Int → Bool) : Option (Int → Bool) :=
 match rowW X Y n 0 0 (dirL raw) s with
 | none => none
 | some s1 => match oneW X Y n 12 (nth raw 16) (tabW X Y S n 12 (nth raw 16).toNat) s1 with
  | none => none
  | some s2 => oneW X Y n 44 (nth raw 17) (dblW X Y S n (nth raw 17).toNat) s2
theorem count_w (raw : List Int) (hr : raw.length = 18) (h0 : 0 ≤ nth raw 2) (h1 : nth raw 2 ≤ 136704) (w : World) :
  Calls Tryz.prog 64 #[.agg (IV .i64 raw)] w fun e w' => e = .returned (.int .i64 (cntX (nth raw 2))) ∧ Below w.heap.size w w' := by
 have hc : (IV .i64 raw)[2]? = some (.int .i64 (nth raw 2)) := by rw [IV_get?, nth_getElem? (by omega)]; rfl
 have HR : Hid (∀ x : Int, x = (nth raw 2 + 127) / 128 → x = cntX (nth raw 2)) := Lib.hid (fun x h => h)
 go_enter Tryz.func64, Tryz.ntmps64
 go_wp2_with fail
 go_ret
 exact ⟨ret_int (HR.out _ (by omega)), (Below.refl _ _).alloc (Nat.le_refl _) _⟩
def hangW (S : Nat → List Int) (p : Int) (i : Nat) : Int := if p = 0 then 0 else nth (rdPtr (S p.toNat)) i
def blkW (S : Nat → List Int) (raw : List Int) (k : Nat) : Int :=
 if k < 12 then nth raw (4 + k) else if k < 44 then hangW S (nth raw 16) (k - 12) else hangW S (if nth raw 17 = 0 then 0 else nth (rdPtr (S (nth raw 17).toNat)) ((k - 44) / 32)) ((k - 44) % 32)
structure Aims (N : Nat) (S : Nat → List Int) (raw : List Int) : Prop where
 r : raw.length = 18
 p16 : 0 ≤ nth raw 16 ∧ nth raw 16 < N
 p17 : 0 ≤ nth raw 17 ∧ nth raw 17 < N
 d : nth raw 17 ≠ 0 → ∀ p ∈ rdPtr (S (nth raw 17).toNat), p < N
def zeroFrom (l : List Int) (k : Nat) : Bool := (l.drop k).all fun b => b == 0
def tailW (S : Nat → List Int) (raw : List Int) : Bool :=
 if nth raw 2 % 128 = 0 then true
 else if blkW S raw (cntX (nth raw 2) - 1).toNat = 0 then true else zeroFrom (S (blkW S raw (cntX (nth raw 2) - 1).toNat).toNat) (nth raw 2 % 128).toNat
def slotsW (S : Nat → List Int) : List Int → List (Int × ByteArray) → Option (List (Int × ByteArray))
 | [], a => some a
 | p :: r, a => if p = 0 then slotsW S r a else if (rdSloR (S p.toNat)).2.2 ≠ 0 then none else if (rdSloR (S p.toNat)).1 = 0 then slotsW S r a else slotsW S r (a ++ [((rdSloR (S p.toNat)).1, (rdSloR (S p.toNat)).2.1)])
theorem slotsW_cons (S : Nat → List Int) (p : Int) (r : List Int) (a : List (Int × ByteArray)) : slotsW S (p :: r) a = if p = 0 then slotsW S r a else if (rdSloR (S p.toNat)).2.2 ≠ 0 then none else if (rdSloR (S p.toNat)).1 = 0 then slotsW S r a else slotsW S r (a ++ [((rdSloR (S p.toNat)).1, (rdSloR (S p.toNat)).2.1)]) := rfl
def slotRow (l : List (Int × ByteArray)) : List Value := l.flatMap fun x => [.int .i64 x.1, .string x.2]
def blksW (S : Nat → List Int) (raw : List Int) : List Int := (List.range (cntX (nth raw 2)).toNat).map (blkW S raw)
theorem ownsRow_base {w : World} {b b' : Nat} {e : TypeId} {size : Nat} {v : Value} {n : Nat} {xs : List Value} (h : w.ownsRow b e size v n xs) (hb : b' ≤ b) : w.ownsRow b' e size v n xs := by
 obtain ⟨h0, h⟩ := h
 refine ⟨h0, h.imp_right ?_⟩
 rintro ⟨g, cap, cur, h1, h2, h3⟩
 exact ⟨g, cap, cur, h1, by omega, h3⟩
theorem ownsRow_below {w w' : World} {b : Nat} {e : TypeId} {size : Nat} {v : Value} {n : Nat} {xs : List Value} (h : w.ownsRow b e size v n xs) (hb : Below w.heap.size w w') : w'.ownsRow b e size v n xs := by
 obtain ⟨h0, h⟩ := h
 refine ⟨h0, h.imp_right ?_⟩
 rintro ⟨g, cap, cur, h1, h2, h3, h4⟩
 exact ⟨g, cap, cur, h1, h2, (hop hb h3).1, h4⟩
section
variable {P : Program} {ops : Array Oper} {Q : Exit → Act → World → Prop}
theorem wpOp_shut {i : Nat} {o : Oper} {K : Act → World → Prop} {a : Act} {w : World} {j d : Nat} {b b' : Bool} (ho : ops[i]? = some o) (hg : o.guard = some (j, b)) {oj : Oper} (hj : ops[j]? = some oj) (hd : oj.dst = some d) (h : gt a d = .bool b') (hb : (b == b') = false) (hk : K (a.put o.dst undef) w) : wpOp P ops Q i K a w := by
 have h1 : a.tmps[d]? = some (.bool b') := by
  unfold gt at h
  rw [Array.getD_eq_getD_getElem?] at h
  cases hx : a.tmps[d]? with
  | none => rw [hx] at h; cases h
  | some v => rw [hx] at h; exact congrArg some h
 have h2 : yielded ops a.tmps j = some b' := by
  unfold yielded
  rw [hj]
  simp [hd, h1]
 have h3 : Region.wanted o (yielded ops a.tmps) = false := by
  simp [Region.wanted, hg, h2]
  intro e
  subst e
  cases b' <;> cases hb
 unfold wpOp
 simp only [ho]
 rw [if_neg (by rw [h3]; simp)]
 exact hk
theorem wpOp_skip {i : Nat} {o : Oper} {K : Act → World → Prop} {a : Act} {w w1 : World} (ho : ops[i]? = some o) (hg : o.guard = none)
  (hr : (execOp a.eval o).run P w = .ok .skip w1) (hk : K (a.put o.dst undef) w1) : wpOp P ops Q i K a w := by
 unfold wpOp
 simp only [ho]
 rw [if_pos (by simp [Region.wanted, hg])]
 refine .inl ?_
 unfold Oper.wp
 rw [hr]
 exact hk
end
abbrev Ent := Int × ByteArray
def cntL (L : Nat → List Ent) (N j : Nat) : Nat := ((List.range (N + 1)).map fun i => (L i).countP fun e => decide (e.1 = (j : Int))).sum
def updE (L : Nat → List Ent) (c : Nat) (l : List Ent) : Nat → List Ent := fun i => if i = c then l else L i
theorem updE_eq (L : Nat → List Ent) (c : Nat) (l : List Ent) : updE L c l c = l := by unfold updE; rw [if_pos rfl]
theorem updE_ne (L : Nat → List Ent) {c i : Nat} (l : List Ent) (h : i ≠ c) : updE L c l i = L i := by unfold updE; rw [if_neg h]
theorem sum_one (f g : Nat → Nat) (c d : Nat) (h : ∀ i, i ≠ c → f i = g i) (hc : f c = g c + d) : ∀ n : Nat, ((List.range n).map f).sum = ((List.range n).map g).sum + if c < n then d else 0
 | 0 => rfl
 | n + 1 => by
  rw [List.range_succ, List.map_append, List.map_append, List.sum_append, List.sum_append, sum_one f g c d h hc n]
  simp only [List.map_cons, List.map_nil, List.sum_cons, List.sum_nil]
  by_cases hn : n = c
  ·subst hn
   rw [if_neg (by omega), if_pos (by omega), hc]; omega
  ·rw [h n hn]
   by_cases hl : c < n
   ·rw [if_pos hl, if_pos (by omega)]; omega
   ·rw [if_neg hl, if_neg (by omega)]; omega
theorem cntL_upd (L : Nat → List Ent) {N c : Nat} (hc : c ≤ N) (e : Ent) (j : Nat) : cntL (updE L c (L c ++ [e])) N j = cntL L N j + if e.1 = (j : Int) then 1 else 0 := by
 unfold cntL
 rw [sum_one (fun i => (updE L c (L c ++ [e]) i).countP fun e => decide (e.1 = (j : Int))) (fun i => (L i).countP fun e => decide (e.1 = (j : Int))) c (if e.1 = (j : Int) then 1 else 0)]
 ·rw [if_pos (by omega)]
 ·intro i hi
  simp only [updE_ne L _ hi]
 ·simp only [updE_eq, List.countP_append, List.countP_cons, List.countP_nil, decide_eq_true_eq]
  omega
theorem sum_zero (f : Nat → Nat) : ∀ n : Nat, (∀ i, i < n → f i = 0) → ((List.range n).map f).sum = 0
 | 0, _ => rfl
 | n + 1, h => by
  rw [List.range_succ, List.map_append, List.sum_append, sum_zero f n (fun i hi => h i (by omega))]
  simp [h n (by omega)]
theorem cntL_zero {L : Nat → List Ent} {N j : Nat} (h : ∀ i e, e ∈ L i → e.1 ≠ (j : Int)) : cntL L N j = 0 :=
 sum_zero _ _ fun i _ => List.countP_eq_zero.2 fun e he => by simp [h i e he]
def bkL (bk : Int → Option Int) (n : Nat) : List Int := (List.range n).map fun (k : Nat) => (bk k).getD 0
theorem bkL_succ (bk : Int → Option Int) (n : Nat) : bkL bk (n + 1) = bkL bk n ++ [(bk n).getD 0] := by
 unfold bkL
 rw [List.range_succ, List.map_append]; rfl
theorem bkL_zero (bk : Int → Option Int) : bkL bk 0 = [] := rfl
theorem mem_bkL {bk : Int → Option Int} {n : Nat} {p : Int} (h : p ∈ bkL bk n) (hp : p ≠ 0) : ∃ k : Nat, k < n ∧ bk k = some p := by
 unfold bkL at h
 rw [List.mem_map] at h
 obtain ⟨k, hk, e⟩ := h
 refine ⟨k, List.mem_range.1 hk, ?_⟩
 cases hb : bk k with
 | none => rw [hb] at e; exact absurd e.symm hp
 | some q => rw [hb] at e; exact congrArg some e
theorem slotsW_app (S : Nat → List Int) : ∀ (a b : List Int) (l : List Ent), slotsW S (a ++ b) l = (slotsW S a l).bind (slotsW S b)
 | [], b, l => rfl
 | p :: r, b, l => by
  rw [List.cons_append, slotsW_cons, slotsW_cons]
  split
  ·exact slotsW_app S r b l
  ·split
   ·rfl
   ·split
    ·exact slotsW_app S r b l
    ·exact slotsW_app S r b _
theorem slotsW_same {S S' : Nat → List Int} : ∀ (a : List Int) (l : List Ent), (∀ p ∈ a, p ≠ 0 → S' p.toNat = S p.toNat) → slotsW S' a l = slotsW S a l
 | [], _, _ => rfl
 | p :: r, l, h => by
  have ih := fun l => slotsW_same r l (fun q hq => h q (List.mem_cons_of_mem _ hq))
  rw [slotsW_cons, slotsW_cons, ih, ih]
  by_cases hp : p = 0
  ·rw [if_pos hp, if_pos hp]
  ·rw [if_neg hp, if_neg hp, h p (List.mem_cons_self ..) hp]
theorem slotsW_snoc {S : Nat → List Int} {a : List Int} {l : List Ent} (h : slotsW S a [] = some l) (p : Int) : slotsW S (a ++ [p]) [] = if p = 0 then some l else if (rdSloR (S p.toNat)).2.2 ≠ 0 then none else if (rdSloR (S p.toNat)).1 = 0 then some l else some (l ++ [((rdSloR (S p.toNat)).1, (rdSloR (S p.toNat)).2.1)]) := by
 rw [slotsW_app, h]
 show slotsW S [p] l = _
 rw [slotsW_cons]
 rfl
def NumR (w : World) (g N : Nat) (f : Nat → Int) : Prop := ∃ cs, hat w g = some (.cells cs 3) ∧ N ≤ cs.size ∧ ∀ j : Nat, j < N → cs[j]? = some (.int .i64 (f j))
theorem NumR.lt {w : World} {g N : Nat} {f : Nat → Int} (h : NumR w g N f) : g < w.heap.size := by
 obtain ⟨cs, h1, -⟩ := h; exact hat_lt h1
theorem NumR.same {w w' : World} {g N : Nat} {f : Nat → Int} (h : NumR w g N f) (he : hat w' g = hat w g) : NumR w' g N f := by
 obtain ⟨cs, h1, h2⟩ := h
 exact ⟨cs, he.trans h1, h2⟩
theorem NumR.put {w : World} {g N : Nat} {f f' : Nat → Int} (h : NumR w g N f) {p : Nat} {x : Int} (hp : p < N) (hf : ∀ j, f' j = if p = j then x else f j) : NumR (w.setCell ⟨g, p, none⟩ (.int .i64 x)) g N f' := by
 obtain ⟨cs, h1, h2, h3⟩ := h
 refine ⟨cs.setIfInBounds p (.int .i64 x), hat_setCell_at _ _ _ _ _ _ _ h1, by simpa using h2, fun j hj => ?_⟩
 rw [Array.getElem?_setIfInBounds, hf]
 by_cases hjp : p = j
 ·subst hjp
  rw [if_pos rfl, if_pos (by omega), if_pos rfl]
 ·rw [if_neg hjp, if_neg hjp, h3 j hj]
def Inos (w : World) (g M : Nat) (I : Nat → List Int) : Prop := ∃ cs, hat w g = some (.cells cs 45) ∧ cs.size = M * 18 ∧ ∀ i, i < M → (I i).length = 18 ∧ cs.extract (i * 18) (i * 18 + 18) = IV .i64 (I i)
theorem Inos.lt {w : World} {g N : Nat} {I : Nat → List Int} (h : Inos w g N I) : g < w.heap.size := by
 obtain ⟨cs, h1, -⟩ := h; exact hat_lt h1
theorem Inos.same {w w' : World} {g N : Nat} {I : Nat → List Int} (h : Inos w g N I) (he : hat w' g = hat w g) : Inos w' g N I := by
 obtain ⟨cs, h1, h2⟩ := h
 exact ⟨cs, he.trans h1, h2⟩
theorem Inos.load {w : World} {g M : Nat} {I : Nat → List Int} (h : Inos w g M I) {i : Nat} (hi : i < M) :
  ∃ cs, hat w g = some (.cells cs 45) ∧ (I i).length = 18 ∧ (∀ raw w', ldRow raw 18 (i * 18) w' (some (.cells cs 45)) = .ok (.agg (IV .i64 (I i))) w') ∧ ∀ k, k < 18 → cs[i * 18 + k]? = some (.int .i64 (nth (I i) k)) := by
 obtain ⟨cs, h1, h2, h3⟩ := h
 obtain ⟨hl, hx⟩ := h3 i hi
 refine ⟨cs, h1, hl, fun raw w' => ?_, fun k hk => ?_⟩
 ·rw [ldRow_part (by omega), hx]
 ·have := congrArg (fun a : Array Value => a[k]?) hx
  simp only [Array.getElem?_extract, IV_get?, nth_getElem? (l := I i) (i := k) (by omega)] at this
  rw [if_pos (by omega)] at this
  exact this
theorem Tryz.infoW3 : (Tryz.prog.info? 3).map (fun i => (i.zero, i.size, i.bytes)) = some (some (.int .i64 0), 1, 8) := by kernel_rfl
theorem Tryz.infoW4 : (Tryz.prog.info? 4).map (fun i => (i.zero, i.size, i.bytes)) = some (some (.bool false), 1, 1) := by kernel_rfl
theorem made_get (z : Value) (n j : Nat) (hj : j < n) (hz : z.cells = #[z]) : (madeCells z.cells (n * 1))[j]? = some z := by
 rw [hz]
 unfold madeCells
 rw [Array.getElem?_map, Array.getElem?_range, if_pos (by omega)]
 simp [Nat.mod_one]
theorem make_numR (w : World) (N : Nat) (hN : N ≤ 5000) : ∃ w', (Instr.makeSlice 24 (.int .i64 N) (.int .i64 N)).run Tryz.prog w = .ok (.slice (some ⟨w.heap.size, 0, none⟩) N N) w' ∧ NumR w' w.heap.size N (fun _ => 0) ∧ Below w.heap.size w w' := by
 obtain ⟨i, h2, h3, h4, h5⟩ := info_parts Tryz.infoW3
 have hr := run_make (P := Tryz.prog) w 24 3 i (.int .i64 0) Tryz.underlying24 h2 h3 .i64 .i64 N N (by omega) (Int.le_refl _) (by rw [h5]; omega) (by omega)
 rw [Int.toNat_natCast, h4] at hr
 refine ⟨_, hr, ⟨_, (hopN w _).1, by rw [size_madeCells]; omega, fun j hj => made_get _ _ _ hj rfl⟩, (Below.refl _ _).alloc (Nat.le_refl _) _⟩
theorem make_bools (w : World) (N : Nat) (hN : N ≤ 5000) : ∃ w', (Instr.makeSlice 54 (.int .i64 N) (.int .i64 N)).run Tryz.prog w = .ok (.slice (some ⟨w.heap.size, 0, none⟩) N N) w' ∧ Bools w' w.heap.size N (fun _ => false) ∧ Below w.heap.size w w' := by
 obtain ⟨i, h2, h3, h4, h5⟩ := info_parts Tryz.infoW4
 have hr := run_make (P := Tryz.prog) w 54 4 i (.bool false) Tryz.underlying54 h2 h3 .i64 .i64 N N (by omega) (Int.le_refl _) (by rw [h5]; omega) (by omega)
 rw [Int.toNat_natCast, h4] at hr
 refine ⟨_, hr, ⟨_, (hopN w _).1, by rw [size_madeCells]; omega, fun j hj => made_get _ _ _ hj rfl⟩, (Below.refl _ _).alloc (Nat.le_refl _) _⟩
theorem info_inoz : ∃ i0 z, Tryz.prog.info? 45 = some i0 ∧ i0.zero = some z ∧ z.cells = IV .i64 (zl 18) ∧ i0.size = 18 ∧ i0.bytes = 144 := by
 have h : (Tryz.prog.info? 45).map (fun i => (i.zero.map (fun z => z.cells), i.size, i.bytes)) = some (some (IV .i64 (zl 18)), 18, 144) := by kernel_rfl
 cases hq : Tryz.prog.info? 45 with
 | none => rw [hq] at h; cases h
 | some inf =>
  rw [hq] at h
  simp only [Option.map_some, Option.some.injEq, Prod.mk.injEq] at h
  obtain ⟨h1, h2, h3⟩ := h
  cases hz : inf.zero with
  | none => rw [hz] at h1; cases h1
  | some z =>
   rw [hz] at h1
   simp only [Option.map_some, Option.some.injEq] at h1
   exact ⟨inf, z, rfl, hz, h1, h2, h3⟩
theorem make_inos (w : World) (N : Nat) (hN : N ≤ 5000) : ∃ w', (Instr.makeSlice 74 (.int .i64 N) (.int .i64 N)).run Tryz.prog w = .ok (.slice (some ⟨w.heap.size, 0, none⟩) N N) w' ∧ Inos w' w.heap.size N (fun _ => zl 18) ∧ Below w.heap.size w w' := by
 obtain ⟨i, z, h2, h3, hc, h4, h5⟩ := info_inoz
 have hr := run_make (P := Tryz.prog) w 74 45 i z Tryz.underlying74 h2 h3 .i64 .i64 N N (by omega) (Int.le_refl _) (by rw [h5]; omega) (by omega)
 rw [Int.toNat_natCast, h4, hc] at hr
 refine ⟨_, hr, ⟨_, (hopN w _).1, by rw [size_madeCells], fun j hj => ⟨zl_length _, ?_⟩⟩, (Below.refl _ _).alloc (Nat.le_refl _) _⟩
 apply Array.ext_getElem?
 intro k
 rw [Array.getElem?_extract, IV_get?, size_madeCells]
 by_cases hk : k < 18
 ·rw [if_pos (by omega)]
  have hm : ((IV .i64 (zl 18)).size : Nat) = 18 := by simp
  have hlt : (j * 18 + k) % 18 < 18 := Nat.mod_lt _ (by omega)
  have hz : ∀ n, n < 18 → (IV .i64 (zl 18))[n]! = .int .i64 0 := fun n hn => by
   rw [getElem!_def, IV_get?]
   unfold zl
   rw [List.getElem?_replicate, if_pos hn]; rfl
  unfold madeCells
  rw [Array.getElem?_map, Array.getElem?_range, if_pos (by omega)]
  simp only [Option.map_some, hm, hz _ hlt]
  unfold zl
  rw [List.getElem?_replicate, if_pos hk]; rfl
 ·rw [if_neg (by omega), List.getElem?_eq_none (by simp; omega)]; rfl
def Slots (w : World) (g : Nat) (l : List Ent) : Prop := ∃ cs, hat w g = some (.cells cs 93) ∧ ∀ k x nm, l[k]? = some (x, nm) → cs[k * 2]? = some (.int .i64 x) ∧ cs[k * 2 + 1]? = some (.string nm)
theorem Slots.same {w w' : World} {g : Nat} {l : List Ent} (h : Slots w g l) (he : hat w' g = hat w g) : Slots w' g l := by
 obtain ⟨cs, h1, h2⟩ := h
 exact ⟨cs, he.trans h1, h2⟩
def EntOk (I : Nat → List Int) (M : Nat) (l : List Ent) : Prop := (∀ e ∈ l, 2 ≤ e.1 ∧ e.1 < M ∧ nth (I e.1.toNat) 0 ≠ 0) ∧ (l.map Prod.snd).Nodup
def dirOkW (S I : Nat → List Int) (M i : Nat) : Prop := nth (I i) 0 = 2 → ∃ l, slotsW S (blksW S (I i)) [] = some l ∧ EntOk I M l
def DirsOk (S I : Nat → List Int) (M : Nat) : Prop := ∀ i, 1 ≤ i → i < M → dirOkW S I M i
def entL (S I : Nat → List Int) (M : Nat) (i : Nat) : List Ent := if 1 ≤ i ∧ i < M ∧ nth (I i) 0 = 2 then (slotsW S (blksW S (I i)) []).getD [] else []
theorem entL_yes {S I : Nat → List Int} {M i : Nat} (h1 : 1 ≤ i) (h2 : i < M) (h3 : nth (I i) 0 = 2) {l : List Ent} (h : slotsW S (blksW S (I i)) [] = some l) : entL S I M i = l := by
 unfold entL
 rw [if_pos ⟨h1, h2, h3⟩, h]; rfl
theorem entL_no {S I : Nat → List Int} {M i : Nat} (h3 : nth (I i) 0 ≠ 2) : entL S I M i = [] := by
 unfold entL
 rw [if_neg (fun h => h3 h.2.2)]
def cntI (L : Nat → List Ent) (i j : Nat) : Nat := ((List.range i).map fun i' => (L i').countP fun e => decide (e.1 = (j : Int))).sum
def Closed (L : Nat → List Ent) (P : Nat → Prop) : Prop := ∀ i e, P i → e ∈ L i → P e.1.toNat
structure RchIs (L : Nat → List Ent) (M : Nat) (rch : Int → Bool) : Prop where
 one : rch 1 = true
 cl : ∀ i : Nat, i < M → rch i = true → ∀ e ∈ L i, rch e.1 = true
 low : ∀ P : Nat → Prop, P 1 → Closed L P → ∀ j : Nat, j < M → rch j = true → P j
def unr (M : Nat) (rch : Int → Bool) : Nat := ((List.range M).filter fun (j : Nat) => !rch (j : Int)).length
theorem unr_add {M : Nat} {rch : Int → Bool} {x : Nat} (hx : x < M) (h : rch x = false) : unr M (addS rch x) < unr M rch := by
 unfold unr
 have e : (List.range M).filter (fun (j : Nat) => !addS rch x (j : Int)) = ((List.range M).filter fun (j : Nat) => !rch (j : Int)).filter fun j => j != x := by
  rw [List.filter_filter]
  apply List.filter_congr
  intro j _
  by_cases hj : j = x
  ·subst hj; simp [addS]
  ·have : ¬ ((j : Int) = (x : Int)) := by omega
   simp [addS, hj, this]
 rw [e, List.length_filter_lt_length_iff_exists]
 exact ⟨x, List.mem_filter.2 ⟨List.mem_range.2 hx, by simp [h]⟩, by simp⟩
theorem keyStr {s : ByteArray} (h : s.size ≤ 40) : keyOf Tryz.prog 9 (.string s) = some (.string s.data.toList) := WideMaps.keyOf_string_mk Tryz.underlying9 (by unfold maxLen; omega)
theorem keyStr_is {s : ByteArray} (h : s.size ≤ 40) : WideAt.IsKeyLit (.string s.data.toList) := (Go.Maps.string_keyed Tryz.underlying9).key (keyStr h)
theorem litStr_ne {s t : ByteArray} (h : s ≠ t) : (Lit.string s.data.toList) ≠ .string t.data.toList := fun e => h (by
 injection e with e
 cases s; cases t
 simp only at e
 congr 1
 exact Array.ext' e)
def NB (w : World) (b n : Nat) (s : ByteArray → Bool) : Prop :=
 ∃ D : DataW Unit, w.ownsMap Tryz.prog 9 (plainElem Tryz.prog 4) b n D ∧ Go.Maps.IsMap D ∧ ∀ p : ByteArray, p.size ≤ 40 → D.atKey (.string p.data.toList) (.lit (.bool false)) = .lit (.bool (s p))
theorem NB.lt {w : World} {b n : Nat} {s : ByteArray → Bool} (h : NB w b n s) : b < w.heap.size := by
 obtain ⟨D, h1, -⟩ := h; exact h1.lt
theorem NB.same {w w' : World} {b n : Nat} {s : ByteArray → Bool} (h : NB w b n s) (he : hat w' b = hat w b) : NB w' b n s := by
 obtain ⟨D, ⟨es, clock, hb, h1⟩, h2⟩ := h
 exact ⟨D, ⟨es, clock, he.trans hb, h1⟩, h2⟩
theorem NB.made (w : World) : NB (w.alloc (.map #[] 0)) w.heap.size 0 (fun _ => false) :=
 ⟨.map [], World.ownsMap_made w _ _ _, Go.Maps.isMap_empty, fun _ _ => rfl⟩
theorem NB.of {w : World} {b : Nat} (h : hat w b = some (.map #[] 0)) : NB w b 0 (fun _ => false) := by
 obtain ⟨D, ⟨es, clock, hb, h1⟩, h2⟩ := NB.made w
 have hb2 : hat (w.alloc (.map #[] 0)) w.heap.size = some (.map #[] 0) := (hopN w _).1
 rw [show (w.alloc (.map #[] 0)).heap[w.heap.size]? = some (.map #[] 0) from hb2] at hb
 have hb3 := Option.some.inj hb
 injection hb3 with e1 e2
 subst e1; subst e2
 exact ⟨D, ⟨#[], 0, h, h1⟩, h2⟩
theorem NB.look {w : World} {b n : Nat} {s : ByteArray → Bool} (h : NB w b n s) {p : ByteArray} (hp : p.size ≤ 40) : (Instr.lookup 101 (.map (some b)) (.string p) false).run Tryz.prog w = .ok (.bool (s p)) w := by
 obtain ⟨D, h1, -, h3⟩ := h
 obtain ⟨v, ps, hr, hv⟩ := h1.lookup (Go.Maps.string_keyed Tryz.underlying9) Tryz.underlying101 (zeroBool w) (zd := .lit (.bool false)) (zp := []) (by simp [plainElem, Tryz.underlying4]) (keyStr hp)
 rw [h3 p hp] at hv
 rw [plainBool_inv hv] at hr
 exact hr
def addB (s : ByteArray → Bool) (p : ByteArray) : ByteArray → Bool := fun q => s q || decide (q = p)
theorem NB.put {w : World} {b n : Nat} {s : ByteArray → Bool} (h : NB w b n s) (hn : n < maxLen) {p : ByteArray} (hp : p.size ≤ 40) :
  ∃ w', (Instr.mapUpdate 101 (.map (some b)) (.string p) (.bool true)).run Tryz.prog w = .ok () w' ∧ NB w' b (n + 1) (addB s p) ∧ w.mapTurned w' b := by
 obtain ⟨D, h1, h0, h3⟩ := h
 obtain ⟨w', hr, ho, ht⟩ := h1.store (Go.Maps.string_keyed Tryz.underlying9) Tryz.underlying101 hn (keyStr hp) (d := .lit (.bool true)) (ps := []) (val := .bool true) (by simp [plainElem, Tryz.underlying4])
 refine ⟨w', hr, ⟨_, ho, h0.put _ _, fun q hq => ?_⟩, ht⟩
 unfold addB
 by_cases hqp : q = p
 ·subst hqp
  rw [Go.Maps.atKey_put_same h0 (keyStr_is hq)]; simp
 ·rw [Go.Maps.atKey_put_other (litStr_ne hqp), h3 q hq]; simp [hqp]
structure TI where
 raw : List Int
 en : Int
 bk : Int → Option Int
structure LZ where
 st : LS
 T : Nat → Option TI
 q : List Int
def updT (T : Nat → Option TI) (i : Nat) (t : TI) : Nat → Option TI := fun j => if j = i then some t else T j
noncomputable def takeZ (X Y : Int) (i : Nat) (raw : List Int) (n : Int) (z : LZ) : LZ :=
 { st := (takeX X Y raw z.st).2, T := updT z.T i ⟨(takeX X Y raw z.st).1, n, (takeX X Y raw z.st).2.bk⟩, q := if nth raw 0 = 2 then z.q ++ [(i : Int)] else z.q }
noncomputable def enterZ (X Y : Int) (IMG : Nat → List Int) (i : Nat) (z : LZ) : Option LZ :=
 match z.T i with
 | some t => if nth t.raw 0 = 2 ∨ t.en = 100 then none else some { z with T := updT z.T i { t with en := t.en + 1 } }
 | none => if soundR (IMG i) = true then some (takeZ X Y i (rdInoR (IMG i)).1 1 z) else none
def wipeZ (p : Nat) (z : LZ) : LZ := { z with st := { z.st with S := updS z.st.S p (zl 128) } }
noncomputable def enterR (X Y : Int) (IMG : Nat → List Int) (i : Nat) (nm : ByteArray) (zn : LZ × (ByteArray → Bool)) : Bool × LZ × (ByteArray → Bool) :=
 if zn.2 nm = true ∨ i = 1 then (false, zn) else
  match enterZ X Y IMG i zn.1 with
  | some z' => (true, z', addB zn.2 nm)
  | none => (false, zn)
noncomputable def slotZ (X Y : Int) (IMG : Nat → List Int) (p : Nat) (zn : LZ × (ByteArray → Bool)) : LZ × (ByteArray → Bool) :=
 if (rdSloR (zn.1.st.S p)).2.2 = 0 ∧ (rdSloR (zn.1.st.S p)).1 = 0 then zn
 else if (rdSloR (zn.1.st.S p)).2.2 = 0 ∧ (rdSloR (zn.1.st.S p)).1 ≤ Y ∧ (enterR X Y IMG (rdSloR (zn.1.st.S p)).1.toNat (rdSloR (zn.1.st.S p)).2.1 zn).1 = true then
  (enterR X Y IMG (rdSloR (zn.1.st.S p)).1.toNat (rdSloR (zn.1.st.S p)).2.1 zn).2
 else (wipeZ p zn.1, zn.2)
noncomputable def dirZ (X Y : Int) (IMG : Nat → List Int) (bk : Int → Option Int) : Nat → Nat → LZ × (ByteArray → Bool) → LZ × (ByteArray → Bool)
 | 0, _, zn => zn
 | m + 1, k, zn => dirZ X Y IMG bk m (k + 1) (match bk k with | none => zn | some p => slotZ X Y IMG p.toNat zn)
noncomputable def dirOf (X Y : Int) (IMG : Nat → List Int) (i : Nat) (z : LZ) : LZ :=
 match z.T i with
 | none => z
 | some t => (dirZ X Y IMG t.bk (cntX (nth t.raw 2)).toNat 0 (z, fun _ => false)).1
noncomputable def loopZ (X Y : Int) (IMG : Nat → List Int) : Nat → LZ → LZ
 | 0, z => z
 | f + 1, z => match z.q with
  | [] => z
  | i :: r => loopZ X Y IMG f (dirOf X Y IMG i.toNat { z with q := r })
noncomputable def startZ (X Y : Int) (IMG : Nat → List Int) : LZ := takeZ X Y 1 (rdInoR (IMG 1)).1 1 ⟨⟨IMG, fun _ => false, fun _ => false, fun _ => none⟩, fun _ => none, []⟩
noncomputable def lookZ (X Y : Int) (IMG : Nat → List Int) : LZ := loopZ X Y IMG 8192 (startZ X Y IMG)
def freeT (n : Nat) (T : Nat → Option TI) : Nat := ((List.range n).filter fun i => (T i).isNone).length
def freeZ (z : LZ) : Nat := freeT 4096 z.T
def potZ (z : LZ) : Nat := z.q.length + 2 * freeZ z
theorem freeT_take {T : Nat → Option TI} {n i : Nat} {t : TI} (hi : i < n) (h : T i = none) : freeT n (updT T i t) < freeT n T := by
 unfold freeT
 have e : (List.range n).filter (fun j => (updT T i t j).isNone) = ((List.range n).filter fun j => (T j).isNone).filter fun j => j != i := by
  rw [List.filter_filter]
  apply List.filter_congr
  intro j _
  unfold updT
  by_cases hj : j = i
  ·subst hj; simp
  ·simp [hj]
 rw [e]
 rw [List.length_filter_lt_length_iff_exists]
 exact ⟨i, List.mem_filter.2 ⟨List.mem_range.2 hi, by simp [h]⟩, by simp⟩
theorem freeT_same {T : Nat → Option TI} {n i : Nat} {t t' : TI} (h : T i = some t) : freeT n (updT T i t') = freeT n T := by
 unfold freeT
 congr 1
 apply List.filter_congr
 intro j _
 unfold updT
 by_cases hj : j = i
 ·subst hj; simp [h]
 ·simp [hj]
theorem free_take {z z' : LZ} {i : Nat} {t : TI} (hi : i < 4096) (h : z.T i = none) (hz : z'.T = updT z.T i t) : freeZ z' < freeZ z := by
 unfold freeZ
 rw [hz]; exact freeT_take hi h
theorem free_same {z z' : LZ} {i : Nat} {t t' : TI} (h : z.T i = some t) (hz : z'.T = updT z.T i t') : freeZ z' = freeZ z := by
 unfold freeZ
 rw [hz]; exact freeT_same h
theorem pot_take (X Y : Int) {i : Nat} (raw : List Int) (n : Int) {z : LZ} (hi : i < 4096) (h : z.T i = none) : potZ (takeZ X Y i raw n z) < potZ z := by
 have := free_take (z' := takeZ X Y i raw n z) hi h rfl
 have h2 : (takeZ X Y i raw n z).q.length ≤ z.q.length + 1 := by
  unfold takeZ
  show (if nth raw 0 = 2 then z.q ++ [(i : Int)] else z.q).length ≤ _
  split <;> simp
 unfold potZ
 omega
theorem pot_enter {X Y : Int} {IMG : Nat → List Int} {i : Nat} {z z' : LZ} (hi : i < 4096) (h : enterZ X Y IMG i z = some z') : potZ z' ≤ potZ z := by
 unfold enterZ at h
 split at h
 ·rename_i t ht
  split at h
  ·cases h
  ·cases h
   unfold potZ
   rw [free_same (z' := { z with T := updT z.T i { t with en := t.en + 1 } }) ht rfl]
   exact Nat.le_refl _
 ·rename_i ht
  split at h
  ·cases h
   exact Nat.le_of_lt (pot_take X Y _ _ hi ht)
  ·cases h
theorem pot_enterR {X Y : Int} {IMG : Nat → List Int} {i : Nat} (nm : ByteArray) (zn : LZ × (ByteArray → Bool)) (hi : i < 4096) : potZ (enterR X Y IMG i nm zn).2.1 ≤ potZ zn.1 := by
 unfold enterR
 split
 ·exact Nat.le_refl _
 ·split
  ·rename_i h; exact pot_enter hi h
  ·exact Nat.le_refl _
def Keeps (z z' : LZ) : Prop := ∀ i t, z.T i = some t → ∃ t', z'.T i = some t' ∧ t'.bk = t.bk
theorem Keeps.refl (z : LZ) : Keeps z z := fun i t h => ⟨t, h, rfl⟩
theorem Keeps.trans {a b c : LZ} (h : Keeps a b) (h2 : Keeps b c) : Keeps a c := fun i t ht => by
 obtain ⟨t', ht', e⟩ := h i t ht
 obtain ⟨t2, ht2, e2⟩ := h2 i t' ht'
 exact ⟨t2, ht2, e2.trans e⟩
theorem keeps_enter {X Y : Int} {IMG : Nat → List Int} {i : Nat} {z z' : LZ} (h : enterZ X Y IMG i z = some z') : Keeps z z' := by
 unfold enterZ at h
 split at h
 ·rename_i t ht
  split at h
  ·cases h
  ·cases h
   intro j u hu
   by_cases hj : j = i
   ·subst hj
    rw [ht] at hu; cases hu
    exact ⟨{ t with en := t.en + 1 }, by show updT z.T j _ j = _; unfold updT; rw [if_pos rfl], rfl⟩
   ·exact ⟨u, by show updT z.T i _ j = _; unfold updT; rw [if_neg hj]; exact hu, rfl⟩
 ·rename_i ht
  split at h
  ·cases h
   intro j u hu
   exact ⟨u, by show updT z.T i _ j = _; unfold updT; rw [if_neg (fun e => by subst e; rw [ht] at hu; cases hu)]; exact hu, rfl⟩
  ·cases h
theorem keeps_enterR (X Y : Int) (IMG : Nat → List Int) (i : Nat) (nm : ByteArray) (zn : LZ × (ByteArray → Bool)) : Keeps zn.1 (enterR X Y IMG i nm zn).2.1 := by
 unfold enterR
 split
 ·exact Keeps.refl _
 ·split
  ·rename_i h; exact keeps_enter h
  ·exact Keeps.refl _
structure ZI (X Y : Int) (z : LZ) : Prop where
 t : ∀ i t, z.T i = some t → 1 ≤ i ∧ (i : Int) ≤ Y ∧ t.raw.length = 18 ∧ 0 ≤ nth t.raw 2 ∧ nth t.raw 2 ≤ 136704 ∧ 0 ≤ t.en ∧ t.en ≤ 100 ∧ ∀ k p, t.bk k = some p → isD X Y p = true
 q : ∀ i ∈ z.q, 0 ≤ i ∧ ∃ t, z.T i.toNat = some t
 pot : potZ z ≤ 8192
theorem ptrsX_raw (X Y n : Int) (raw : List Int) (st : LS) (h : raw.length = 18) : (ptrsX X Y n raw st).1.length = 18 ∧ ∀ j, j < 4 → nth (ptrsX X Y n raw st).1 j = nth raw j := by
 unfold ptrsX
 refine ⟨?_, fun j hj => ?_⟩
 ·simp only [List.length_append, siftP_len, rowX]
  simp [h]
 ·show nth (raw.take 4 ++ _) j = _
  rw [nth_append_left (by simp [h]; omega)]
  unfold nth
  rw [List.getElem?_take, if_pos hj]
theorem takeX_fst (X Y : Int) (raw : List Int) (st : LS) : (takeX X Y raw st).1 = (ptrsX X Y (cntX (nth raw 2)) raw { st with bk := fun _ => none }).1 := by
 unfold takeX
 simp only
 split <;> rfl
theorem tailX_bk (n z : Int) (st : LS) : (tailX n z st).bk = st.bk := by
 unfold tailX
 split
 ·rfl
 ·split <;> rfl
theorem takeX_bk (X Y : Int) (raw : List Int) (st : LS) : (takeX X Y raw st).2.bk = (ptrsX X Y (cntX (nth raw 2)) raw { st with bk := fun _ => none }).2.bk := by
 unfold takeX
 simp only
 split
 ·rfl
 ·exact tailX_bk _ _ _
theorem takeX_vals (X Y : Int) (raw : List Int) (st : LS) (k p : Int) (h : (takeX X Y raw st).2.bk k = some p) : isD X Y p = true := by
 rw [takeX_bk] at h
 exact ptrsX_vals X Y _ raw _ (fun k p hk => by cases hk) k p h
theorem ZI.take {X Y : Int} {z : LZ} (h : ZI X Y z) {i : Nat} {raw : List Int} {n : Int} (h1 : 1 ≤ i) (hY : (i : Int) ≤ Y) (hi : i < 4096) (hr : raw.length = 18) (hz0 : 0 ≤ nth raw 2) (hz1 : nth raw 2 ≤ 136704) (hn0 : 0 ≤ n) (hn1 : n ≤ 100) (hT : z.T i = none) : ZI X Y (takeZ X Y i raw n z) := by
 obtain ⟨hl, hs⟩ := ptrsX_raw X Y (cntX (nth raw 2)) raw { z.st with bk := fun _ => none } hr
 refine ⟨fun j t ht => ?_, fun j hj => ?_, Nat.le_trans (Nat.le_of_lt (pot_take X Y raw n hi hT)) h.pot⟩
 ·have ht2 : updT z.T i ⟨(takeX X Y raw z.st).1, n, (takeX X Y raw z.st).2.bk⟩ j = some t := ht
  unfold updT at ht2
  split at ht2
  ·rename_i e
   subst e
   cases ht2
   refine ⟨h1, hY, ?_, ?_, ?_, hn0, hn1, fun k p hk => takeX_vals X Y raw z.st k p hk⟩
   ·show (takeX X Y raw z.st).1.length = 18
    rw [takeX_fst]; exact hl
   ·show 0 ≤ nth (takeX X Y raw z.st).1 2
    rw [takeX_fst, hs 2 (by omega)]; exact hz0
   ·show nth (takeX X Y raw z.st).1 2 ≤ _
    rw [takeX_fst, hs 2 (by omega)]; exact hz1
  ·exact h.t j t ht2
 ·have hj2 : j ∈ (if nth raw 0 = 2 then z.q ++ [(i : Int)] else z.q) := hj
  have hold : j ∈ z.q → 0 ≤ j ∧ ∃ t, (takeZ X Y i raw n z).T j.toNat = some t := fun hm => by
   obtain ⟨h0, t, ht⟩ := h.q j hm
   refine ⟨h0, t, ?_⟩
   show updT z.T i _ j.toNat = _
   unfold updT
   rw [if_neg (fun e => by rw [e, hT] at ht; cases ht)]
   exact ht
  split at hj2
  ·rw [List.mem_append] at hj2
   rcases hj2 with hm | hm
   ·exact hold hm
   ·rw [List.mem_singleton] at hm
    subst hm
    refine ⟨Int.natCast_nonneg _, ⟨(takeX X Y raw z.st).1, n, (takeX X Y raw z.st).2.bk⟩, ?_⟩
    show updT z.T i _ i = _
    unfold updT
    rw [if_pos rfl]
  ·exact hold hj2
theorem ZI.en {X Y : Int} {z : LZ} (h : ZI X Y z) {i : Nat} {t : TI} (ht : z.T i = some t) {n : Int} (h0 : 0 ≤ n) (h1 : n ≤ 100) : ZI X Y { z with T := updT z.T i { t with en := n } } := by
 refine ⟨fun j t' ht' => ?_, fun j hj => ?_, ?_⟩
 ·have ht2 : updT z.T i { t with en := n } j = some t' := ht'
  unfold updT at ht2
  split at ht2
  ·rename_i e
   subst e
   cases ht2
   obtain ⟨a1, a2, a3, a4, a5, a6, a7, a8⟩ := h.t j t ht
   exact ⟨a1, a2, a3, a4, a5, h0, h1, a8⟩
  ·exact h.t j t' ht2
 ·obtain ⟨h0, t', ht'⟩ := h.q j hj
  refine ⟨h0, ?_⟩
  show ∃ t'', updT z.T i _ j.toNat = some t''
  unfold updT
  split
  ·exact ⟨_, rfl⟩
  ·exact ⟨t', ht'⟩
 ·have := free_same (z' := { z with T := updT z.T i { t with en := n } }) ht rfl
  have hp := h.pot
  unfold potZ at *
  rw [this]
  exact hp
theorem ZI.wipe {X Y : Int} {z : LZ} (h : ZI X Y z) (p : Nat) : ZI X Y (wipeZ p z) := ⟨h.t, h.q, h.pot⟩
def tryRow (X Y base : Int) (k : Nat) (p : Int) (st : LS) : Bool × LS :=
 if isD X Y p = true ∧ st.cl p = false then (true, { st with cl := addS st.cl p, bk := putI st.bk (base + k) p }) else (false, st)
noncomputable def tryTab (X Y : Int) (F : List Int → LS → List Int × Bool × LS) (p : Int) (st : LS) : Bool × LS :=
 if isD X Y p = true ∧ st.cl p = false then tableP F p.toNat { st with cl := addS st.cl p } else (false, st)
def siftT (T : Nat → Int → LS → Bool × LS) (base step n : Int) : Nat → List Int → LS → List Int × Bool × LS
 | _, [], st => ([], false, st)
 | k, p :: r, st =>
  if p = 0 ∨ n ≤ base + step * k ∨ (T k p st).1 = false then (0 :: (siftT T base step n (k + 1) r st).1, (siftT T base step n (k + 1) r st).2.1, (siftT T base step n (k + 1) r st).2.2)
  else (p :: (siftT T base step n (k + 1) r (T k p st).2).1, true, (siftT T base step n (k + 1) r (T k p st).2).2.2)
theorem siftT_cons (T : Nat → Int → LS → Bool × LS) (base step n : Int) (k : Nat) (p : Int) (r : List Int) (st : LS) : siftT T base step n k (p :: r) st =
  if p = 0 ∨ n ≤ base + step * k ∨ (T k p st).1 = false then (0 :: (siftT T base step n (k + 1) r st).1, (siftT T base step n (k + 1) r st).2.1, (siftT T base step n (k + 1) r st).2.2)
  else (p :: (siftT T base step n (k + 1) r (T k p st).2).1, true, (siftT T base step n (k + 1) r (T k p st).2).2.2) := rfl
theorem siftP_T {goodP : Int → LS → Bool × LS} {keepP : Nat → Int → LS → Bool × LS} {T : Nat → Int → LS → Bool × LS} (base step n : Int)
  (hT : ∀ k p st, T k p st = if (goodP p st).1 = false then (false, (goodP p st).2) else keepP k p (goodP p st).2) (hF : ∀ k p st, (T k p st).1 = false → (T k p st).2 = st) :
  ∀ (ps : List Int) (k : Nat) (st : LS), siftP goodP keepP base step n k ps st = siftT T base step n k ps st
 | [], _, _ => rfl
 | p :: r, k, st => by
  rw [siftP_cons, siftT_cons]
  simp only [siftP_T base step n hT hF r]
  by_cases h0 : p = 0
  ·rw [if_pos h0, if_pos (.inl h0)]
  ·rw [if_neg h0]
   by_cases h1 : n ≤ base + step * k
   ·rw [if_pos h1, if_pos (.inr (.inl h1))]
   ·rw [if_neg h1]
    have ht := hT k p st
    by_cases h2 : (goodP p st).1 = false
    ·rw [if_pos h2] at ht
     have hf := hF k p st (by rw [ht])
     have e : (goodP p st).2 = st := by rw [ht] at hf; exact hf
     rw [if_pos h2, if_pos (.inr (.inr (by rw [ht]))), e]
    ·rw [if_neg h2] at ht
     rw [if_neg h2, ← ht]
     by_cases h3 : (T k p st).1 = false
     ·rw [if_pos h3, if_pos (.inr (.inr h3)), hF k p st h3]
     ·rw [if_neg h3, if_neg (by rintro (h | h | h) <;> contradiction)]
def Gr (s s2 : LS) : Prop := ∀ j : Nat, s.cl j = true → s2.cl j = true ∧ s2.fm j = s.fm j ∧ s2.S j = s.S j
theorem Gr.refl (s : LS) : Gr s s := fun _ h => ⟨h, rfl, rfl⟩
theorem Gr.trans {a b c : LS} (h : Gr a b) (h2 : Gr b c) : Gr a c := fun j hj => by
 obtain ⟨h3, h4, h5⟩ := h j hj
 obtain ⟨h6, h7, h8⟩ := h2 j h3
 exact ⟨h6, h7.trans h4, h8.trans h5⟩
def FmCl (s : LS) : Prop := ∀ j : Nat, s.fm j = true → s.cl j = true
structure TryOK (T : Int → LS → Bool × LS) : Prop where
 fail : ∀ p s, (T p s).1 = false → (T p s).2 = s
 grow : ∀ p s, Gr s (T p s).2
 fmcl : ∀ p s, FmCl s → FmCl (T p s).2
structure SiftOK (F : List Int → LS → List Int × Bool × LS) : Prop where
 fail : ∀ ps s, (F ps s).2.1 = false → (F ps s).2.2 = s ∧ ∀ i, nth (F ps s).1 i = 0
 grow : ∀ ps s, Gr s (F ps s).2.2
 fmcl : ∀ ps s, FmCl s → FmCl (F ps s).2.2
 sub : ∀ ps s i, nth (F ps s).1 i = nth ps i ∨ nth (F ps s).1 i = 0
 len : ∀ ps s, (F ps s).1.length = ps.length
theorem nth_cons0 (p : Int) (r : List Int) : nth (p :: r) 0 = p := rfl
theorem nth_consS (p : Int) (r : List Int) (i : Nat) : nth (p :: r) (i + 1) = nth r i := rfl
theorem isD_nat {X Y p : Int} (hY : 0 ≤ Y) (h : isD X Y p = true) : (p.toNat : Int) = p ∧ p ≠ 0 := by
 unfold isD at h
 have := of_decide_eq_true h
 omega
theorem addS_self (s : Int → Bool) (p : Int) : addS s p p = true := by simp [addS]
theorem addS_mono {s : Int → Bool} {p q : Int} (h : s q = true) : addS s p q = true := by simp [addS, h]
theorem addS_ne {s : Int → Bool} {p q : Int} (h : q ≠ p) : addS s p q = s q := by simp [addS, h]
theorem del_add {s : Int → Bool} {p : Int} (h : s p = false) : delS (addS s p) p = s := by
 funext q
 unfold delS addS
 by_cases hq : q = p
 ·subst hq; simp [h]
 ·simp [hq]
theorem updS_eq (S : Nat → List Int) (i : Nat) (a : List Int) : updS S i a i = a := by unfold updS; rw [if_pos rfl]
theorem updS_ne (S : Nat → List Int) {i j : Nat} (a : List Int) (h : j ≠ i) : updS S i a j = S j := by unfold updS; rw [if_neg h]
theorem siftT_ok {T : Nat → Int → LS → Bool × LS} (hT : ∀ k, TryOK (T k)) (base step n : Int) (k0 : Nat) : SiftOK (siftT T base step n k0) := by
 refine ⟨fun ps => ?_, fun ps => ?_, fun ps => ?_, fun ps => ?_, fun ps => ?_⟩
 ·induction ps generalizing k0 with
  | nil => intro s _; exact ⟨rfl, fun i => rfl⟩
  | cons p r ih =>
   intro s h
   rw [siftT_cons] at h ⊢
   split at h
   ·rename_i hc
    rw [if_pos hc]
    obtain ⟨h1, h2⟩ := ih (k0 + 1) s h
    refine ⟨h1, fun i => ?_⟩
    cases i with
    | zero => rfl
    | succ i => exact h2 i
   ·cases h
 ·induction ps generalizing k0 with
  | nil => intro s; exact Gr.refl _
  | cons p r ih =>
   intro s
   rw [siftT_cons]
   split
   ·exact ih (k0 + 1) s
   ·exact ((hT k0).grow p s).trans (ih (k0 + 1) _)
 ·induction ps generalizing k0 with
  | nil => intro s h; exact h
  | cons p r ih =>
   intro s h
   rw [siftT_cons]
   split
   ·exact ih (k0 + 1) s h
   ·exact ih (k0 + 1) _ ((hT k0).fmcl p s h)
 ·induction ps generalizing k0 with
  | nil => intro s i; exact .inl rfl
  | cons p r ih =>
   intro s i
   rw [siftT_cons]
   split
   ·cases i with
    | zero => exact .inr rfl
    | succ i => exact ih (k0 + 1) s i
   ·cases i with
    | zero => exact .inl rfl
    | succ i => exact ih (k0 + 1) _ i
 ·induction ps generalizing k0 with
  | nil => intro s; rfl
  | cons p r ih =>
   intro s
   rw [siftT_cons]
   split
   ·simp [ih (k0 + 1) s]
   ·simp [ih (k0 + 1) (T k0 p s).2]
theorem tryRow_ok (X Y base : Int) (k : Nat) : TryOK (tryRow X Y base k) := by
 refine ⟨fun p s h => ?_, fun p s => ?_, fun p s h => ?_⟩
 ·unfold tryRow at h ⊢
  split at h
  ·cases h
  ·rename_i hc; rw [if_neg hc]
 ·unfold tryRow
  split
  ·exact fun j hj => ⟨addS_mono hj, rfl, rfl⟩
  ·exact Gr.refl _
 ·unfold tryRow
  split
  ·exact fun j hj => addS_mono (h j hj)
  ·exact h
theorem tryTab_yes {X Y : Int} {F : List Int → LS → List Int × Bool × LS} {p : Int} {s : LS} (h : (tryTab X Y F p s).1 = true) :
  isD X Y p = true ∧ s.cl p = false ∧ (F (rdPtr (s.S p.toNat)) { s with cl := addS s.cl p }).2.1 = true ∧
  (tryTab X Y F p s).2 = { (F (rdPtr (s.S p.toNat)) { s with cl := addS s.cl p }).2.2 with S := updS (F (rdPtr (s.S p.toNat)) { s with cl := addS s.cl p }).2.2.S p.toNat (ptrR (F (rdPtr (s.S p.toNat)) { s with cl := addS s.cl p }).1).1, fm := addS (F (rdPtr (s.S p.toNat)) { s with cl := addS s.cl p }).2.2.fm p.toNat } := by
 unfold tryTab at h ⊢
 split at h
 ·rename_i hc
  rw [if_pos hc]
  unfold tableP at h ⊢
  split at h
  ·cases h
  ·rename_i hl
   rw [if_neg hl]
   exact ⟨hc.1, hc.2, by simpa using hl, rfl⟩
 ·cases h
theorem tryTab_ok {X Y : Int} (hY : 0 ≤ Y) {F : List Int → LS → List Int × Bool × LS} (hF : SiftOK F) : TryOK (tryTab X Y F) := by
 have hfail : ∀ p s, (tryTab X Y F p s).1 = false → (tryTab X Y F p s).2 = s := by
  intro p s h
  unfold tryTab at h ⊢
  split at h
  ·rename_i hc
   rw [if_pos hc]
   unfold tableP at h ⊢
   split at h
   ·rename_i hl
    rw [if_pos hl]
    have e := (hF.fail _ _ hl).1
    have hp := (isD_nat hY hc.1).1
    simp only
    rw [e]
    simp only [hp, del_add hc.2]
   ·cases h
  ·rename_i hc; rw [if_neg hc]
 refine ⟨hfail, fun p s => ?_, fun p s h => ?_⟩
 ·cases hb : (tryTab X Y F p s).1 with
  | false => rw [hfail p s hb]; exact Gr.refl _
  | true =>
   obtain ⟨h1, h2, h3, h4⟩ := tryTab_yes hb
   rw [h4]
   obtain ⟨hp, -⟩ := isD_nat hY h1
   intro j hj
   have hjp : (j : Int) ≠ p := fun e => by rw [e, h2] at hj; cases hj
   have hjn : j ≠ p.toNat := fun e => hjp (by rw [e, hp])
   obtain ⟨g1, g2, g3⟩ := hF.grow (rdPtr (s.S p.toNat)) { s with cl := addS s.cl p } j (addS_mono hj)
   refine ⟨g1, ?_, ?_⟩
   ·show addS _ _ _ = _
    rw [addS_ne (by rw [hp]; exact hjp)]; exact g2
   ·show updS _ _ _ _ = _
    rw [updS_ne _ _ hjn]; exact g3
 ·cases hb : (tryTab X Y F p s).1 with
  | false => rw [hfail p s hb]; exact h
  | true =>
   obtain ⟨h1, h2, h3, h4⟩ := tryTab_yes hb
   rw [h4]
   obtain ⟨hp, -⟩ := isD_nat hY h1
   intro j hj
   have hc1 : FmCl { s with cl := addS s.cl p } := fun j hj => addS_mono (h j hj)
   by_cases hjp : (j : Int) = p
   ·have := (hF.grow (rdPtr (s.S p.toNat)) { s with cl := addS s.cl p } j (by rw [hjp]; exact addS_self _ _)).1
    exact this
   ·have hj2 : addS (F (rdPtr (s.S p.toNat)) { s with cl := addS s.cl p }).2.2.fm p.toNat j = true := hj
    rw [addS_ne (by rw [hp]; exact hjp)] at hj2
    exact hF.fmcl _ _ hc1 j hj2
def subP (a b : List Int) : Prop := ∀ i, nth (rdPtr a) i = nth (rdPtr b) i ∨ nth (rdPtr a) i = 0
structure Sd (X Y : Int) (allw : Prop) (W A : Nat → List Int) (f0 : Int → Bool) (s s' : LS) : Prop where
 cl : s'.cl = s.cl
 fm : s'.fm = s.fm
 bk : s'.bk = s.bk
 S : ∀ j, s'.S j = s.S j ∨ s'.S j = W j
 un : ∀ j : Nat, isD X Y j = true → s.cl j = false → s'.S j = A j ∧ Bytes (s.S j) ∧ (¬ allw → subP (A j) (s.S j))
 f0 : ∀ j : Nat, f0 j = true → s.cl j = true
 fc : FmCl s
def Pro (allw : Prop) (W A : Nat → List Int) (f0 : Int → Bool) (s : LS) : Prop := ∀ j : Nat, s.fm j = true → f0 j = false → s.S j = W j ∧ (allw → A j = W j)
theorem Pro.back {allw : Prop} {W A : Nat → List Int} {f0 : Int → Bool} {s s2 : LS} (h : Pro allw W A f0 s2) (hg : Gr s s2) (hc : FmCl s) : Pro allw W A f0 s := fun j hj h0 => by
 obtain ⟨h1, h2, h3⟩ := hg j (hc j hj)
 have := h j (by rw [h2]; exact hj) h0
 rw [h3] at this
 exact this
structure SimT (X Y : Int) (allw : Prop) (W A : Nat → List Int) (f0 : Int → Bool) (T : Int → LS → Bool × LS) : Prop where
 yes : ∀ p s s', Sd X Y allw W A f0 s s' → Pro allw W A f0 (T p s).2 → (T p s).1 = true → (T p s').1 = true ∧ Sd X Y allw W A f0 (T p s).2 (T p s').2
 no : ∀ p s s', Sd X Y allw W A f0 s s' → Pro allw W A f0 s → (T p s).1 = false → ¬ allw → (T p s').1 = false
def SimF (X Y : Int) (allw : Prop) (W A : Nat → List Int) (f0 : Int → Bool) (F : List Int → LS → List Int × Bool × LS) : Prop :=
 ∀ ps ps' s s', Sd X Y allw W A f0 s s' → Pro allw W A f0 (F ps s).2.2 → ps'.length = ps.length → (∀ i, (nth ps' i = nth ps i ∨ (nth ps' i = 0 ∧ nth (F ps s).1 i = 0)) ∧ (allw → nth ps' i = nth (F ps s).1 i)) →
  (F ps' s').1 = (F ps s).1 ∧ (F ps' s').2.1 = (F ps s).2.1 ∧ Sd X Y allw W A f0 (F ps s).2.2 (F ps' s').2.2
theorem ptrMay_sub {o c : List Int} (hc : Bytes c) (hs : ∀ i, nth o i = nth (rdPtr c) i ∨ nth o i = 0) : PtrMay o := by
 intro j hj
 rcases hs j with h | h
 ·rw [h]
  have hm : nth (rdPtr c) j ∈ rdPtr c := by
   unfold nth
   rw [List.getElem?_eq_getElem (by simp; exact hj)]
   exact List.getElem_mem _
  exact rdPtr_small hc _ hm
 ·rw [h]; omega
structure SI (X Y : Int) (A : Nat → List Int) (s : LS) : Prop where
 fc : FmCl s
 cd : ∀ q, s.cl q = true → isD X Y q = true
 bk : ∀ k q, s.bk k = some q → isD X Y q = true ∧ s.cl q = true ∧ s.fm q = false
 inj : ∀ k k' q, s.bk k = some q → s.bk k' = some q → k = k'
 un : ∀ j : Nat, s.cl j = false → s.S j = A j
 ln : ∀ j : Nat, isD X Y j = true → (s.S j).length = 128 ∧ Bytes (s.S j)
 sub : ∀ j : Nat, s.fm j = true → subP (s.S j) (A j)
structure Did (s s2 : LS) : Prop where
 new : ∀ k q, s2.bk k = some q → (∃ k', s.bk k' = some q) ∨ (0 ≤ q ∧ s.cl q = false)
 same : ∀ j : Nat, s2.fm j = false → s2.S j = s.S j
theorem Did.refl (s : LS) : Did s s := ⟨fun k q h => .inl ⟨k, h⟩, fun _ _ => rfl⟩
theorem Gr.not {a b : LS} (hg : Gr a b) {q : Int} (h0 : 0 ≤ q) (h : b.cl q = false) : a.cl q = false := by
 cases hc : a.cl q with
 | false => rfl
 | true =>
  have e : (q.toNat : Int) = q := by omega
  have := (hg q.toNat (by rw [e]; exact hc)).1
  rw [e, h] at this; cases this
theorem Did.trans {a b c : LS} (h : Did a b) (h2 : Did b c) (hg : Gr a b) (hg2 : Gr b c) (hb : FmCl b) : Did a c := by
 refine ⟨fun k q hq => ?_, fun j hj => ?_⟩
 ·rcases h2.new k q hq with ⟨k', h3⟩ | ⟨h0, h3⟩
  ·exact h.new k' q h3
  ·exact .inr ⟨h0, hg.not h0 h3⟩
 ·have hb2 : b.fm j = false := by
   cases hbj : b.fm j with
   | false => rfl
   | true => have := (hg2 j (hb j hbj)).2.1; rw [hj, hbj] at this; cases this
  rw [h2.same j hj, h.same j hb2]
structure TryI (X Y : Int) (A : Nat → List Int) (T : Int → LS → Bool × LS) : Prop where
 ok : TryOK T
 inv : ∀ p s, SI X Y A s → SI X Y A (T p s).2
 did : ∀ p s, SI X Y A s → Did s (T p s).2
structure SiftI (X Y : Int) (A : Nat → List Int) (F : List Int → LS → List Int × Bool × LS) : Prop where
 ok : SiftOK F
 inv : ∀ ps s, SI X Y A s → SI X Y A (F ps s).2.2
 did : ∀ ps s, SI X Y A s → Did s (F ps s).2.2
theorem siftT_i {X Y : Int} {A : Nat → List Int} {T : Nat → Int → LS → Bool × LS} (hT : ∀ k, TryI X Y A (T k)) (base step n : Int) (k0 : Nat) : SiftI X Y A (siftT T base step n k0) := by
 refine ⟨siftT_ok (fun k => (hT k).ok) base step n k0, fun ps => ?_, fun ps => ?_⟩
 ·induction ps generalizing k0 with
  | nil => intro s h; exact h
  | cons p r ih =>
   intro s h
   rw [siftT_cons]
   split
   ·exact ih (k0 + 1) s h
   ·exact ih (k0 + 1) _ ((hT k0).inv p s h)
 ·induction ps generalizing k0 with
  | nil => intro s h; exact Did.refl _
  | cons p r ih =>
   intro s h
   rw [siftT_cons]
   split
   ·exact ih (k0 + 1) s h
   ·exact ((hT k0).did p s h).trans (ih (k0 + 1) _ ((hT k0).inv p s h)) ((hT k0).ok.grow p s) ((siftT_ok (fun k => (hT k).ok) base step n (k0 + 1)).grow r _) ((hT k0).inv p s h).fc
theorem isD_pos {X Y q : Int} (hY : 0 ≤ Y) (h : isD X Y q = true) : 0 < q := by
 unfold isD at h
 have := of_decide_eq_true h
 omega
theorem SI.claim {X Y : Int} {A : Nat → List Int} {s : LS} (h : SI X Y A s) {p : Int} (h1 : isD X Y p = true) : SI X Y A { s with cl := addS s.cl p } := by
 refine ⟨fun j hj => addS_mono (h.fc j hj), fun q hq => ?_, fun k q hk => ?_, h.inj, fun j hj => h.un j ?_, h.ln, h.sub⟩
 ·by_cases hqp : q = p
  ·subst hqp; exact h1
  ·have hq2 : addS s.cl p q = true := hq
   rw [addS_ne hqp] at hq2
   exact h.cd q hq2
 ·obtain ⟨a, b, c⟩ := h.bk k q hk
  exact ⟨a, addS_mono b, c⟩
 ·cases hb : s.cl j with
  | false => rfl
  | true => have : addS s.cl p j = true := addS_mono hb; rw [show addS s.cl p j = false from hj] at this; cases this
theorem SI.fmn {X Y : Int} {A : Nat → List Int} {s : LS} (hY : 0 ≤ Y) (h : SI X Y A s) {p : Int} (h1 : isD X Y p = true) (h2 : s.cl p = false) : s.fm p = false := by
 have e := (isD_nat hY h1).1
 cases hb : s.fm p with
 | false => rfl
 | true =>
  have := h.fc p.toNat (by rw [e]; exact hb)
  rw [e, h2] at this; cases this
theorem tryRow_i {X Y : Int} (hY : 0 ≤ Y) (A : Nat → List Int) (base : Int) (k : Nat) : TryI X Y A (tryRow X Y base k) := by
 refine ⟨tryRow_ok X Y base k, fun p s h => ?_, fun p s h => ?_⟩
 ·unfold tryRow
  split
  ·rename_i hc
   have hn := h.claim hc.1
   refine ⟨hn.fc, hn.cd, fun k' q hk => ?_, fun k1 k2 q hk1 hk2 => ?_, hn.un, hn.ln, hn.sub⟩
   ·have hk2 : putI s.bk (base + k) p k' = some q := hk
    unfold putI at hk2
    split at hk2
    ·cases hk2
     exact ⟨hc.1, addS_self _ _, h.fmn hY hc.1 hc.2⟩
    ·exact hn.bk k' q hk2
   ·have a1 : putI s.bk (base + k) p k1 = some q := hk1
    have a2 : putI s.bk (base + k) p k2 = some q := hk2
    unfold putI at a1 a2
    split at a1
    ·rename_i e1
     split at a2
     ·rename_i e2; rw [e1, e2]
     ·cases a1
      have := (h.bk _ _ a2).2.1
      rw [hc.2] at this; cases this
    ·split at a2
     ·cases a2
      have := (h.bk _ _ a1).2.1
      rw [hc.2] at this; cases this
     ·exact h.inj _ _ _ a1 a2
  ·exact h
 ·unfold tryRow
  split
  ·rename_i hc
   refine ⟨fun k' q hk => ?_, fun _ _ => rfl⟩
   have hk2 : putI s.bk (base + k) p k' = some q := hk
   unfold putI at hk2
   split at hk2
   ·cases hk2
    exact .inr ⟨Int.le_of_lt (isD_pos hY hc.1), hc.2⟩
   ·exact .inl ⟨k', hk2⟩
  ·exact Did.refl _
theorem tryTab_i {X Y : Int} (hY : 0 ≤ Y) {A : Nat → List Int} {F : List Int → LS → List Int × Bool × LS} (hF : SiftI X Y A F) : TryI X Y A (tryTab X Y F) := by
 have hok := tryTab_ok hY hF.ok (X := X)
 refine ⟨hok, fun p s h => ?_, fun p s h => ?_⟩
 ·cases hb : (tryTab X Y F p s).1 with
  | false => rw [hok.fail p s hb]; exact h
  | true =>
   obtain ⟨h1, h2, h3, h4⟩ := tryTab_yes hb
   rw [h4]
   obtain ⟨hp, -⟩ := isD_nat hY h1
   have h2' : s.cl (p.toNat : Int) = false := by rw [hp]; exact h2
   have hs1 := h.claim h1
   have hi := hF.inv (rdPtr (s.S p.toNat)) _ hs1
   have hd := hF.did (rdPtr (s.S p.toNat)) _ hs1
   have hg := hF.ok.grow (rdPtr (s.S p.toNat)) { s with cl := addS s.cl p } p.toNat (by rw [hp]; exact addS_self _ _)
   have hA := h.un p.toNat h2'
   obtain ⟨hl, hby⟩ := h.ln p.toNat (by rw [hp]; exact h1)
   have hmay : PtrMay (F (rdPtr (s.S p.toNat)) { s with cl := addS s.cl p }).1 := ptrMay_sub hby (fun i => hF.ok.sub _ _ i)
   have hlen : (F (rdPtr (s.S p.toNat)) { s with cl := addS s.cl p }).1.length = 32 := by rw [hF.ok.len]; simp
   have hback := ptr_back _ hlen hmay
   have hsub := fun i => hF.ok.sub (rdPtr (s.S p.toNat)) { s with cl := addS s.cl p } i
   have hbn : ∀ k q, (F (rdPtr (s.S p.toNat)) { s with cl := addS s.cl p }).2.2.bk k = some q → q ≠ p := by
    intro k q hk e
    subst e
    rcases hd.new k q hk with ⟨k', h5⟩ | ⟨-, h5⟩
    ·have := (h.bk k' q h5).2.1
     rw [h2] at this; cases this
    ·have h6 : addS s.cl q q = false := h5
     rw [addS_self] at h6; cases h6
   generalize (F (rdPtr (s.S p.toNat)) { s with cl := addS s.cl p }) = r at *
   refine ⟨fun j hj => ?_, hi.cd, fun k q hk => ?_, hi.inj, fun j hj => ?_, fun j hj => ?_, fun j hj => ?_⟩
   ·by_cases hjp : (j : Int) = (p.toNat : Int)
    ·rw [hjp]; exact hg.1
    ·have hj2 : addS r.2.2.fm p.toNat j = true := hj
     rw [addS_ne hjp] at hj2
     exact hi.fc j hj2
   ·obtain ⟨a, b, c⟩ := hi.bk k q hk
    refine ⟨a, b, ?_⟩
    show addS r.2.2.fm p.toNat q = false
    rw [addS_ne (by rw [hp]; exact hbn k q hk)]
    exact c
   ·have hne : j ≠ p.toNat := fun e => by
     subst e
     rw [show r.2.2.cl p.toNat = false from hj] at hg; cases hg.1
    show updS _ _ _ _ = _
    rw [updS_ne _ _ hne]
    exact hi.un j hj
   ·show (updS _ _ _ _).length = 128 ∧ Bytes (updS _ _ _ _)
    by_cases hjp : j = p.toNat
    ·subst hjp
     rw [updS_eq]
     exact ⟨ptrR_length _, ptrR_bytes _⟩
    ·rw [updS_ne _ _ hjp]
     exact hi.ln j hj
   ·show subP (updS _ _ _ _) _
    by_cases hjp : j = p.toNat
    ·subst hjp
     rw [updS_eq, ptrR_yes hmay]
     intro i
     rw [hback, ← hA]
     exact hsub i
    ·rw [updS_ne _ _ hjp]
     have hj2 : addS r.2.2.fm p.toNat j = true := hj
     rw [addS_ne (by omega)] at hj2
     exact hi.sub j hj2
 ·cases hb : (tryTab X Y F p s).1 with
  | false => rw [hok.fail p s hb]; exact Did.refl _
  | true =>
   obtain ⟨h1, h2, h3, h4⟩ := tryTab_yes hb
   rw [h4]
   obtain ⟨hp, -⟩ := isD_nat hY h1
   have hs1 := h.claim h1
   have hd := hF.did (rdPtr (s.S p.toNat)) _ hs1
   refine ⟨fun k q hk => ?_, fun j hj => ?_⟩
   ·rcases hd.new k q hk with h5 | ⟨h0, h5⟩
    ·exact .inl h5
    ·refine .inr ⟨h0, ?_⟩
     cases hc : s.cl q with
     | false => rfl
     | true => have : addS s.cl p q = true := addS_mono hc; rw [show addS s.cl p q = false from h5] at this; cases this
   ·have hj2 : addS (F (rdPtr (s.S p.toNat)) { s with cl := addS s.cl p }).2.2.fm p.toNat j = false := hj
    have hne : (j : Int) ≠ (p.toNat : Int) := fun e => by rw [e, addS_self] at hj2; cases hj2
    rw [addS_ne hne] at hj2
    show updS _ _ _ _ = _
    rw [updS_ne _ _ (by omega)]
    exact hd.same j hj2
def rowT (X Y n base : Int) : List Int → LS → List Int × Bool × LS := siftT (tryRow X Y base) base 1 n 0
noncomputable def dblT (X Y n : Int) : List Int → LS → List Int × Bool × LS := siftT (fun k => tryTab X Y (rowT X Y n (44 + 32 * k))) 44 32 n 0
noncomputable def sglT (X Y n : Int) : List Int → LS → List Int × Bool × LS := siftT (fun _ => tryTab X Y (rowT X Y n 12)) 12 1 n 0
noncomputable def dubT (X Y n : Int) : List Int → LS → List Int × Bool × LS := siftT (fun _ => tryTab X Y (dblT X Y n)) 44 1 n 0
theorem goodX_no {X Y p : Int} {st : LS} (h : (goodX X Y p st).1 = false) : ¬ (isD X Y p = true ∧ st.cl p = false) ∧ (goodX X Y p st).2 = st := by
 unfold goodX at h ⊢
 split at h
 ·cases h
 ·rename_i hc; rw [if_neg hc]; exact ⟨hc, rfl⟩
theorem goodX_yes {X Y p : Int} {st : LS} (h : ¬ (goodX X Y p st).1 = false) : (isD X Y p = true ∧ st.cl p = false) ∧ (goodX X Y p st).2 = { st with cl := addS st.cl p } := by
 unfold goodX at h ⊢
 split at h
 ·rename_i hc; rw [if_pos hc]; exact ⟨hc, rfl⟩
 ·exact absurd rfl h
theorem tab_tries {X Y : Int} (F : List Int → LS → List Int × Bool × LS) (p : Int) (st : LS) :
  tryTab X Y F p st = if (goodX X Y p st).1 = false then (false, (goodX X Y p st).2) else tableP F p.toNat (goodX X Y p st).2 := by
 by_cases h : (goodX X Y p st).1 = false
 ·obtain ⟨h1, h2⟩ := goodX_no h
  rw [if_pos h, h2]
  unfold tryTab
  rw [if_neg h1]
 ·obtain ⟨h1, h2⟩ := goodX_yes h
  rw [if_neg h, h2]
  unfold tryTab
  rw [if_pos h1]
theorem rowX_T (X Y n base : Int) : rowX X Y n base = rowT X Y n base := by
 funext ps st
 unfold rowX rowT
 refine siftP_T base 1 n (fun k p st => ?_) (fun k p st h => (tryRow_ok X Y base k).fail p st h) ps 0 st
 by_cases h : (goodX X Y p st).1 = false
 ·obtain ⟨h1, h2⟩ := goodX_no h
  rw [if_pos h, h2]
  unfold tryRow
  rw [if_neg h1]
 ·obtain ⟨h1, h2⟩ := goodX_yes h
  rw [if_neg h, h2]
  unfold tryRow keepRow
  rw [if_pos h1]
theorem rowT_i {X Y : Int} (hY : 0 ≤ Y) (A : Nat → List Int) (n base : Int) : SiftI X Y A (rowT X Y n base) := siftT_i (fun k => tryRow_i hY A base k) base 1 n 0
theorem dblX_T {X Y : Int} (hY : 0 ≤ Y) (n : Int) : dblX X Y n = dblT X Y n := by
 funext ps st
 unfold dblX dblT
 refine siftP_T 44 32 n (fun k p st => ?_) (fun k p st h => (tryTab_ok hY (rowT_i hY (fun _ => []) n (44 + 32 * k)).ok).fail p st h) ps 0 st
 rw [tab_tries, ← rowX_T]
 rfl
theorem dblT_i {X Y : Int} (hY : 0 ≤ Y) (A : Nat → List Int) (n : Int) : SiftI X Y A (dblT X Y n) := siftT_i (fun k => tryTab_i hY (rowT_i hY A n (44 + 32 * k))) 44 32 n 0
theorem sglT_i {X Y : Int} (hY : 0 ≤ Y) (A : Nat → List Int) (n : Int) : SiftI X Y A (sglT X Y n) := siftT_i (fun _ => tryTab_i hY (rowT_i hY A n 12)) 12 1 n 0
theorem dubT_i {X Y : Int} (hY : 0 ≤ Y) (A : Nat → List Int) (n : Int) : SiftI X Y A (dubT X Y n) := siftT_i (fun _ => tryTab_i hY (dblT_i hY A n)) 44 1 n 0
theorem sgl_T {X Y : Int} (hY : 0 ≤ Y) (n : Int) (ps : List Int) (st : LS) : siftP (goodX X Y) (keep3X X Y n) 12 1 n 0 ps st = sglT X Y n ps st := by
 unfold sglT
 refine siftP_T 12 1 n (fun k p st => ?_) (fun k p st h => (tryTab_ok hY (rowT_i hY (fun _ => []) n 12).ok).fail p st h) ps 0 st
 rw [tab_tries, ← rowX_T]
 rfl
theorem dub_T {X Y : Int} (hY : 0 ≤ Y) (n : Int) (ps : List Int) (st : LS) : siftP (goodX X Y) (keep4X X Y n) 44 1 n 0 ps st = dubT X Y n ps st := by
 unfold dubT
 refine siftP_T 44 1 n (fun k p st => ?_) (fun k p st h => (tryTab_ok hY (dblT_i hY (fun _ => []) n).ok).fail p st h) ps 0 st
 rw [tab_tries, ← dblX_T hY]
 rfl
noncomputable def pA (X Y n : Int) (raw : List Int) (st : LS) := rowT X Y n 0 ((raw.drop 4).take 12) st
noncomputable def pB (X Y n : Int) (raw : List Int) (st : LS) := sglT X Y n [nth raw 16] (pA X Y n raw st).2.2
noncomputable def pC (X Y n : Int) (raw : List Int) (st : LS) := dubT X Y n [nth raw 17] (pB X Y n raw st).2.2
theorem ptrsX_T {X Y : Int} (hY : 0 ≤ Y) (n : Int) (raw : List Int) (st : LS) : ptrsX X Y n raw st = (raw.take 4 ++ ((pA X Y n raw st).1 ++ ((pB X Y n raw st).1 ++ (pC X Y n raw st).1)), (pC X Y n raw st).2.2) := by
 unfold ptrsX pC pB pA
 simp only [sgl_T hY, dub_T hY, rowX_T]
theorem ptrs_i {X Y : Int} (hY : 0 ≤ Y) {A : Nat → List Int} (n : Int) (raw : List Int) {st : LS} (h : SI X Y A st) : SI X Y A (ptrsX X Y n raw st).2 ∧ Did st (ptrsX X Y n raw st).2 ∧ Gr st (ptrsX X Y n raw st).2 := by
 rw [ptrsX_T hY]
 have iA := (rowT_i hY A n 0).inv ((raw.drop 4).take 12) st h
 have dA := (rowT_i hY A n 0).did ((raw.drop 4).take 12) st h
 have gA := (rowT_i (X := X) hY A n 0).ok.grow ((raw.drop 4).take 12) st
 have iB := (sglT_i hY A n).inv [nth raw 16] _ iA
 have dB := (sglT_i hY A n).did [nth raw 16] _ iA
 have gB := (sglT_i (X := X) hY A n).ok.grow [nth raw 16] (rowT X Y n 0 ((raw.drop 4).take 12) st).2.2
 have iC := (dubT_i hY A n).inv [nth raw 17] _ iB
 have dC := (dubT_i hY A n).did [nth raw 17] _ iB
 have gC := (dubT_i (X := X) hY A n).ok.grow [nth raw 17] (sglT X Y n [nth raw 16] (rowT X Y n 0 ((raw.drop 4).take 12) st).2.2).2.2
 exact ⟨iC, (dA.trans dB gA gB iA.fc).trans dC (gA.trans gB) gC iB.fc, (gA.trans gB).trans gC⟩
theorem ptrs_len {X Y : Int} (hY : 0 ≤ Y) (n : Int) {raw : List Int} (hr : raw.length = 18) (st : LS) : (pA X Y n raw st).1.length = 12 ∧ (pB X Y n raw st).1.length = 1 ∧ (pC X Y n raw st).1.length = 1 := by
 refine ⟨?_, ?_, ?_⟩
 ·unfold pA; rw [(rowT_i (X := X) hY (fun _ => []) n 0).ok.len]; simp [hr]
 ·unfold pB; rw [(sglT_i (X := X) hY (fun _ => []) n).ok.len]; rfl
 ·unfold pC; rw [(dubT_i (X := X) hY (fun _ => []) n).ok.len]; rfl
theorem nth_app_l {a b : List Int} {i : Nat} (h : i < a.length) : nth (a ++ b) i = nth a i := by unfold nth; rw [List.getElem?_append_left h]
theorem nth_app_r {a b : List Int} {i : Nat} (h : a.length ≤ i) : nth (a ++ b) i = nth b (i - a.length) := by unfold nth; rw [List.getElem?_append_right h]
theorem nth_out {l : List Int} {i : Nat} (h : l.length ≤ i) : nth l i = 0 := by unfold nth; rw [List.getElem?_eq_none h]; rfl
theorem ptrs_nth {X Y : Int} (hY : 0 ≤ Y) (n : Int) {raw : List Int} (hr : raw.length = 18) (st : LS) :
  (∀ i, i < 4 → nth (ptrsX X Y n raw st).1 i = nth raw i) ∧ (∀ i, i < 12 → nth (ptrsX X Y n raw st).1 (4 + i) = nth (pA X Y n raw st).1 i) ∧ nth (ptrsX X Y n raw st).1 16 = nth (pB X Y n raw st).1 0 ∧ nth (ptrsX X Y n raw st).1 17 = nth (pC X Y n raw st).1 0 ∧ (ptrsX X Y n raw st).1.length = 18 := by
 obtain ⟨l1, l2, l3⟩ := ptrs_len (X := X) hY n hr st
 have l0 : (raw.take 4).length = 4 := by simp [hr]
 rw [ptrsX_T hY]
 refine ⟨fun i hi => ?_, fun i hi => ?_, ?_, ?_, ?_⟩
 ·show nth (raw.take 4 ++ _) i = _
  rw [nth_app_l (by omega)]
  unfold nth
  rw [List.getElem?_take, if_pos hi]
 ·show nth (raw.take 4 ++ _) (4 + i) = _
  rw [nth_app_r (by omega), l0, Nat.add_sub_cancel_left, nth_app_l (by omega)]
 ·show nth (raw.take 4 ++ _) 16 = _
  rw [nth_app_r (by omega), l0, nth_app_r (by omega), l1, nth_app_l (by omega)]
 ·show nth (raw.take 4 ++ _) 17 = _
  rw [nth_app_r (by omega), l0, nth_app_r (by omega), l1, nth_app_r (by omega), l2]
 ·show (raw.take 4 ++ _).length = 18
  simp only [List.length_append]
  omega
theorem nth_direct {raw : List Int} (hr : raw.length = 18) {i : Nat} (hi : i < 12) : nth ((raw.drop 4).take 12) i = nth raw (4 + i) := by
 unfold nth
 rw [List.getElem?_take, if_pos hi, List.getElem?_drop]
structure Raw2 (allw : Prop) (out raw raw' : List Int) : Prop where
 len : raw.length = 18
 len' : raw'.length = 18
 kind : nth raw' 0 = nth raw 0
 size : nth raw' 2 = nth raw 2
 made : nth raw' 3 = nth raw 3
 ptr : ∀ i, 4 ≤ i → i < 18 → (nth raw' i = nth raw i ∨ (nth raw' i = 0 ∧ nth out i = 0)) ∧ (allw → nth raw' i = nth out i)
end Go.Proofs.YthioepdgnbdohaaGreat
