/- A range over a map, whatever its keys and elements; an entry that is there may be written in a round. -/
import Derived.Test.YteffoihkljkfdaaDoorPma
namespace Go.Proofs.YteffoihkljkfdaaDoor
set_option linter.unusedSimpArgs false
set_option linter.unusedVariables false
open Go.RowKit Go.Maps
open Go.WideShapes (sorted_perm)
open Go.WideElems (Fit rd rg pl rd_key rd_val rg_of rd_mk rd_stay other_key)
open Go.ChangeMaps (setBlock heap_setBlock_same heap_setBlock_other)

section
variable {k e t : TypeId} {κ : Type} (E : KE k κ)
/-- a range over block b is under way: block r; left: which are to come -/
def MR (w : World) (b r : Nat) (m : κ → Option Value) (c : Nat) (left : κ → Bool) (cnt : Nat) : Prop :=
  ∃ (D : DataW Value) (L : Lit → Bool), w.ranges Tryd.prog k RH b r c D L cnt ∧ size D = c ∧ (∀ x, E.ok x → has D (E.kl x) = (m x).isSome ∧ ∀ v, m x = some v → ∀ z, D.atKey (E.kl x) z = .held v) ∧ (∀ x, ¬ E.ok x → m x = none) ∧
    (∀ x, E.ok x → L (E.kl x) = left x) ∧ (∀ x, ¬ E.ok x → left x = false) ∧ ∀ x, left x = true → (m x).isSome = true
variable {E} {w : World} {b r c cnt : Nat} {m : κ → Option Value} {left : κ → Bool}
theorem MR.mg (h : MR E w b r m c left cnt) : MG E w b m c := by
  obtain ⟨D, L, h1, h2, h3, h4, -⟩ := h
  exact ⟨D, h1.owns, h2, h3, h4⟩
theorem MR.left_eq (h : MR E w b r m c left cnt) : w.rangeLeft b r = cnt := by
  obtain ⟨D, L, h1, -⟩ := h
  exact h1.left_eq
theorem MR.lt (h : MR E w b r m c left cnt) : r < w.heap.size := by
  obtain ⟨D, L, h1, -⟩ := h
  exact h1.lt
theorem MR.ne (h : MR E w b r m c left cnt) : r ≠ b := by
  obtain ⟨D, L, h1, -⟩ := h
  exact h1.ne
theorem MR.sub (h : MR E w b r m c left cnt) : ∀ x, left x = true → (m x).isSome = true := by
  obtain ⟨D, L, -, -, -, -, -, -, h1⟩ := h
  exact h1
theorem MR.same {w' : World} (h : MR E w b r m c left cnt) (hb : hat w' b = hat w b) (hr : hat w' r = hat w r) : MR E w' b r m c left cnt := by
  obtain ⟨D, L, ⟨es, clock, since, seen, c0, h1, h2, h3, h4, h5, h6⟩, h7⟩ := h
  exact ⟨D, L, ⟨es, clock, since, seen, c0, hb.trans h1, h2, h3, h4, hr.trans h5, h6⟩, h7⟩
theorem MR.fr {w' : World} {ex : List Nat} (h : MR E w b r m c left cnt) (hf : Fr ex w w') (hb : b ∉ ex) (hr : r ∉ ex) : MR E w' b r m c left cnt := h.same (hf.block b h.mg.lt hb) (hf.block r h.lt hr)
theorem MG.range (h : MG E w b m c) (ht : Tryd.prog.underlying t = some (.map k e)) :
    ∃ w' cnt, (Instr.range t (.map (some b))).run Tryd.prog w = .ok (.pointer (some ⟨w.heap.size, 0, none⟩)) w' ∧ MR E w' b w.heap.size m c (fun x => (m x).isSome) cnt ∧ w.grownBy w' none ∧ w'.heap.size = w.heap.size + 1 := by
  obtain ⟨D, h1, h2, h3, h4⟩ := h
  obtain ⟨w', hr, hrg, hg, hs⟩ := h1.range E.K ht
  exact ⟨w', _, hr, ⟨D, _, hrg, h2, h3, h4, fun x hx => (h3 x hx).1, fun x hx => by show (m x).isSome = false; rw [h4 x hx]; rfl, fun x hx => hx⟩, hg, hs⟩
theorem sameKey_kl [DecidableEq κ] {x y : κ} (hy : E.ok y) : (E.kl x).sameKey (E.kl y) = decide (x = y) := by
  by_cases h : x = y
  · subst h
    rw [WideAt.sameKey_self (E.K.key (E.key hy))]; simp
  · rw [sameKey_ne (kl_ne E h)]; simp [h]
theorem MR.next [DecidableEq κ] (h : MR E w b r m c left cnt) (ty : TypeId) :
    (cnt = 0 ∧ (∀ x, left x = false) ∧ (Instr.next (.pointer (some ⟨r, 0, none⟩)) false ty).run Tryd.prog w = .ok (.tuple #[.bool false]) w) ∨
    ∃ x v w' cnt', E.ok x ∧ left x = true ∧ m x = some v ∧ (Instr.next (.pointer (some ⟨r, 0, none⟩)) false ty).run Tryd.prog w = .ok (.tuple #[.bool true, E.kv x, v]) w' ∧
      MR E w' b r m c (fun y => left y && !decide (y = x)) cnt' ∧ cnt' < cnt ∧ w.grownBy w' (some r) ∧ w'.heap.size = w.heap.size ∧ (Instr.entry (.pointer (some ⟨r, 0, none⟩))).run Tryd.prog w' = .ok (.tuple #[E.kv x, v]) w' := by
  obtain ⟨D, L, h1, h2, h3, h4, h5, h6, h7⟩ := h
  rcases h1.next E.K ty with ⟨g1, g2, g3⟩ | ⟨key, v, kl, y, w', cnt', g1, g2, g3, g4, g5, g6, g7, g8, g9, g10⟩
  · refine .inl ⟨g1, fun x => ?_, g3⟩
    by_cases hx : E.ok x
    · rw [← h5 x hx]; exact g2 _
    · exact h6 x hx
  · obtain ⟨x, hx, rfl, rfl⟩ := E.inv g1
    have hl : left x = true := by rw [← h5 x hx]; exact g2
    obtain ⟨u, hu⟩ := Option.isSome_iff_exists.1 (h7 x hl)
    have hvu : v = u := by
      have e1 := (h3 x hx).2 u hu (.held undef)
      rw [g4] at e1
      obtain ⟨y1, y2⟩ := y
      change y1 = _ at e1
      rw [e1] at g3
      exact RH_inv g3
    subst hvu
    refine .inr ⟨x, v, w', cnt', hx, hl, hu, g5, ⟨D, _, g6, h2, h3, h4, fun z hz => ?_, fun z hz => ?_, fun z hz => ?_⟩, g7, g8, g9, g10⟩
    · show (L (E.kl z) && !(E.kl z).sameKey (E.kl x)) = _
      rw [h5 z hz, sameKey_kl hx]
    · show (left z && _) = false
      rw [h6 z hz]; rfl
    · have : left z = true := by
        have hz' : (left z && !decide (z = x)) = true := hz
        rw [Bool.and_eq_true] at hz'
        exact hz'.1
      exact h7 z this
theorem MR.del [DecidableEq κ] (h : MR E w b r m c left cnt) (ht : Tryd.prog.underlying t = some (.map k e)) {x : κ} (hx : E.ok x) (ty : TypeId) :
    ∃ w' cnt', (Builtin.delete_ #[t, k] ty #[.map (some b), E.kv x]).run Tryd.prog w = .ok (.tuple #[]) w' ∧ MR E w' b r (fun y => if y = x then none else m y) (if (m x).isSome then c - 1 else c) (fun y => left y && !decide (y = x)) cnt' ∧ cnt' ≤ cnt ∧ w.mapTurned w' b := by
  have hmg := h.mg
  obtain ⟨D, L, h1, h2, h3, h4, h5, h6, h7⟩ := h
  have htd := h1.owns.tidy E.K
  obtain ⟨w', cnt', hr, hrg, hle, hturn⟩ := h1.drop E.K ht (E.key hx) ty
  have hsz := Go.Maps.size_del htd (k := E.kl x)
  rw [(h3 x hx).1, h2] at hsz
  have hsz2 : size (D.del (E.kl x)) = if (m x).isSome then c - 1 else c := by
    split at hsz <;> rename_i hq
    · rw [if_pos hq]; omega
    · rw [if_neg hq]; omega
  have hrg2 : w'.ranges Tryd.prog k RH b r (if (m x).isSome then c - 1 else c) (D.del (E.kl x)) (fun y => L y && !y.sameKey (E.kl x)) cnt' := by
    obtain ⟨es, clock, since, seen, c0, q1, q2, q3, q4, q5⟩ := hrg
    refine ⟨es, clock, since, seen, c0, q1, q2, ?_, q4, q5⟩
    rw [← hsz2, q4, size_eq, length_sorted]; simp
  refine ⟨w', cnt', hr, ⟨_, _, hrg2, hsz2, fun y hy => ?_, fun y hy => ?_, fun y hy => ?_, fun y hy => ?_, fun y hy => ?_⟩, hle, hturn⟩
  · by_cases hyx : y = x
    · subst hyx
      refine ⟨?_, fun u hu z => ?_⟩
      · show has _ _ = (if y = y then none else m y).isSome
        rw [has_del_same, if_pos rfl]; rfl
      · change (if y = y then none else m y) = some u at hu
        rw [if_pos rfl] at hu; cases hu
    · show has _ _ = (if y = x then none else m y).isSome ∧ ∀ u, (if y = x then none else m y) = some u → _
      rw [has_del_other (kl_ne E hyx), if_neg hyx]
      refine ⟨(h3 y hy).1, fun u hu z => ?_⟩
      rw [atKey_del_other (kl_ne E hyx), (h3 y hy).2 u hu z]
  · show (if y = x then _ else _) = none
    split
    · rfl
    · exact h4 y hy
  · show (L (E.kl y) && !(E.kl y).sameKey (E.kl x)) = _
    rw [h5 y hy, sameKey_kl hx]
  · show (left y && _) = false
    rw [h6 y hy]; rfl
  · have hy' : (left y && !decide (y = x)) = true := hy
    rw [Bool.and_eq_true] at hy'
    show (if y = x then none else m y).isSome = true
    have hne : y ≠ x := by simpa using hy'.2
    rw [if_neg hne]
    exact h7 y hy'.1
theorem set_same {α : Type} {l : List α} {j : Nat} {a : α} (h : l[j]? = some a) : l.set j a = l := by
  apply List.ext_getElem?
  intro i
  rw [List.getElem?_set]
  split
  · rename_i e
    subst e
    rw [h]
    have := (List.getElem?_eq_some_iff.1 h).1
    simp [this]
  · rfl
theorem ranges_here {D : DataW Value} {L : Lit → Bool} {n : Nat} (K : Keyed Tryd.prog k) (h : w.ranges Tryd.prog k RH b r n D L cnt) (ht : Tryd.prog.underlying t = some (.map k e)) (hn : size D < maxLen) {key v : Value} {kl : Lit} (hkey : keyOf Tryd.prog k key = some kl) (hh : has D kl = true) :
    ∃ w', (Instr.mapUpdate t (.map (some b)) key v).run Tryd.prog w = .ok () w' ∧ w'.ranges Tryd.prog k RH b r n (D.put kl (.held v)) L cnt ∧ w.mapTurned w' b := by
  have hne := h.ne
  obtain ⟨es, clock, since, seen, c0, hb, F, hs, rfl, hr, hold, hcnt, hl1, hl2, hsc, hsk⟩ := h
  rw [size_eq, length_sorted] at hn
  have hn2 : es.size < maxLen := by simpa using hn
  obtain ⟨es', clock', hrun, F', hput, -, -, -⟩ := Go.Maps.fit_store K ht hb F hn2 (R' := RH) (fun x _ _ z hz => hz) hkey (val := v) (yv := (.held v, [])) rfl
  rcases K.find w hkey es.toList F.keys with ⟨h1, h2⟩ | ⟨j, e0, h1, h2, h3⟩
  · exfalso
    rw [has_eq, List.any_eq_true] at hh
    obtain ⟨p, hp, hpk⟩ := hh
    obtain ⟨x, hx, rfl⟩ := List.mem_map.1 (mem_sorted.1 hp)
    obtain ⟨y, hy⟩ := F.reads x hx
    have e1 := WideAt.sameKey_eq hpk
    rw [rg_of hy] at e1
    exact h2 x hx (K.inj (e1 ▸ rd_key hy) hkey)
  · have hj : es[j]? = some e0 := by simpa using h2
    have hrun2 : (Instr.mapUpdate t (.map (some b)) key v).run Tryd.prog w = .ok () (setBlock w b (.map (es.modify j (fun e' => { e' with key := key, val := v })) clock)) := by
      simp [Instr.mapUpdate, run_underlying ht, MapKept.run_getObj_map hb, K.check w false hkey, h1, hj, h3, K.stays w hkey, MapKept.run_setObj_map _ hb, Result.andThen, setBlock]
    rw [hrun] at hrun2
    have hw : setBlock w b (.map es' clock') = setBlock w b (.map (es.modify j (fun e' => { e' with key := key, val := v })) clock) := by injection hrun2
    have hb1 : (setBlock w b (.map es' clock')).heap[b]? = some (.map es' clock') := heap_setBlock_same hb _
    rw [hw, heap_setBlock_same hb _] at hb1
    injection hb1 with hb1
    injection hb1 with hes hck
    subst hck
    have hlist : es'.toList = es.toList.set j { e0 with key := key, val := v } := by rw [← hes, Array.toList_modify, Go.ChangeMaps.modify_eq_set _ _ _ _ h2]
    have hborn : es'.toList.map (·.born) = es.toList.map (·.born) := by
      rw [hlist, List.map_set]
      exact set_same (by rw [List.getElem?_map, h2]; rfl)
    have hrd0 : (rg Tryd.prog k RH e0).1 = kl := by
      obtain ⟨y, hy⟩ := F.reads e0 (List.mem_of_getElem? h2)
      rw [rg_of hy]
      have e1 := rd_key hy
      rw [h3, hkey] at e1
      exact (Option.some.inj e1).symm
    have hrd1 : (rg Tryd.prog k RH { e0 with key := key, val := v }).1 = kl := by rw [rg_of (rd_mk hkey (R := RH) (val := v) rfl)]
    have who : ∀ x ∈ es'.toList, x = { e0 with key := key, val := v } ∨ x ∈ es.toList := by
      intro x hx
      rw [hlist] at hx
      rcases List.mem_or_eq_of_mem_set hx with h | h
      · exact .inr h
      · exact .inl h
    refine ⟨_, hrun, ⟨es', clock, since, seen, c0, heap_setBlock_same hb _, F', ?_, ?_, (heap_setBlock_other hb _ hne).trans hr, ?_, ?_, ?_, ?_, hsc, hsk⟩, ⟨es, clock, es', clock, hb, rfl⟩⟩
    · have := congrArg List.length hborn
      simp only [List.length_map, Array.length_toList] at this
      omega
    · rw [DataW.put_eq, hput]
    · intro x hx
      rcases who x hx with rfl | h
      · exact hold e0 (List.mem_of_getElem? h2)
      · exact hold x h
    · rw [← hcnt]
      have e1 : ∀ a : Array MapEntry, (leftOf a seen).size = (a.toList.map (·.born)).countP (fun q => !seen.contains q) := fun a => by
        unfold leftOf
        rw [← Array.length_toList, Array.toList_filter, ← List.countP_eq_length_filter, List.countP_map]
        rfl
      rw [e1, e1, hborn]
    · intro x hx
      rcases who x hx with rfl | h
      · rw [hrd1, ← hrd0]
        exact hl1 e0 (List.mem_of_getElem? h2)
      · exact hl1 x h
    · intro q hq
      obtain ⟨x, hx, rfl⟩ := hl2 q hq
      by_cases hxe : (rg Tryd.prog k RH x).1 = kl
      · refine ⟨{ e0 with key := key, val := v }, ?_, by rw [hrd1, hxe]⟩
        rw [hlist]
        exact List.mem_iff_getElem.2 ⟨j, by simpa using (List.getElem?_eq_some_iff.1 h2).1, by simp⟩
      · refine ⟨x, ?_, rfl⟩
        rw [hlist]
        obtain ⟨i, hi⟩ := List.getElem?_of_mem hx
        have hij : j ≠ i := by
          rintro rfl
          rw [h2] at hi
          exact hxe (by rw [← Option.some.inj hi]; exact hrd0)
        exact List.mem_of_getElem? (i := i) (by rw [List.getElem?_set_ne hij]; exact hi)
theorem MR.here [DecidableEq κ] (h : MR E w b r m c left cnt) (ht : Tryd.prog.underlying t = some (.map k e)) (hc : c < maxLen) {x : κ} (hx : E.ok x) (hm : (m x).isSome = true) (v : Value) :
    ∃ w', (Instr.mapUpdate t (.map (some b)) (E.kv x) v).run Tryd.prog w = .ok () w' ∧ MR E w' b r (fun y => if y = x then some v else m y) c left cnt ∧ w.mapTurned w' b := by
  obtain ⟨D, L, h1, h2, h3, h4, h5, h6, h7⟩ := h
  have htd := h1.owns.tidy E.K
  have hkx := E.K.key (E.key hx)
  obtain ⟨w', hr, hrg, hturn⟩ := ranges_here E.K h1 ht (by rw [h2]; exact hc) (E.key hx) (by rw [(h3 x hx).1]; exact hm) (v := v)
  have hsz := Go.Maps.size_put htd (k := E.kl x) (DataW.held v)
  rw [(h3 x hx).1, if_pos hm, h2] at hsz
  refine ⟨w', hr, ⟨_, L, hrg, hsz, fun y hy => ?_, fun y hy => ?_, h5, h6, fun y hy => ?_⟩, hturn⟩
  · by_cases hyx : y = x
    · subst hyx
      refine ⟨?_, fun u hu z => ?_⟩
      · show has _ _ = (if y = y then some v else m y).isSome
        rw [has_put_same htd.isMap hkx, if_pos rfl]; rfl
      · change (if y = y then some v else m y) = some u at hu
        rw [if_pos rfl] at hu
        rw [atKey_put_same htd.isMap hkx, Option.some.inj hu]
    · show has _ _ = (if y = x then some v else m y).isSome ∧ ∀ u, (if y = x then some v else m y) = some u → _
      rw [has_put_other (kl_ne E hyx), if_neg hyx]
      refine ⟨(h3 y hy).1, fun u hu z => ?_⟩
      rw [atKey_put_other (kl_ne E hyx), (h3 y hy).2 u hu z]
  · have hyx : y ≠ x := fun e => hy (by rw [e]; exact hx)
    show (if y = x then _ else _) = none
    rw [if_neg hyx, h4 y hy]
  · show (if y = x then some v else m y).isSome = true
    split
    · rfl
    · exact h7 y hy
end
end Go.Proofs.YteffoihkljkfdaaDoor
