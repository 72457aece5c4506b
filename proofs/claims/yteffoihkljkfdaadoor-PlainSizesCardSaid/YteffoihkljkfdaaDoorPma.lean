/- Maps, whatever their keys and elements. -/
import Derived.Test.YteffoihkljkfdaaDoorRows
import Derived.Test.YteffoihkljkfdaaDoorPfr
namespace Go.Proofs.YteffoihkljkfdaaDoor
set_option linter.unusedSimpArgs false
set_option linter.unusedVariables false
open Go.RowKit Go.Maps
open Go.WideShapes (sorted_perm)
open Go.WideElems (Fit rd rg pl rd_key rd_val rg_of rd_mk rd_stay other_key)

/-- an element is read as itself -/
def RH (v : Value) : Option (DataW Value × List MemPlace) := some (.held v, [])
def unheld : Option (DataW Value × List MemPlace) → Value
  | some (.held x, _) => x
  | _ => undef
theorem RH_inv {v z : Value} {ps : List MemPlace} (h : RH v = some (.held z, ps)) : v = z := by
  have h1 := congrArg unheld h
  exact h1
/-- how keys are written -/
structure KE (k : TypeId) (κ : Type) where
  kv : κ → Value
  kl : κ → Lit
  ok : κ → Prop
  K : Keyed Tryd.prog k
  key : ∀ {x}, ok x → keyOf Tryd.prog k (kv x) = some (kl x)
  inj : ∀ {x y}, kl x = kl y → x = y
  inv : ∀ {v l}, keyOf Tryd.prog k v = some l → ∃ x, ok x ∧ v = kv x ∧ l = kl x
def i64ok (p : Int) : Prop := -9223372036854775808 ≤ p ∧ p ≤ 9223372036854775807
theorem i64wf {p : Int} (h : i64ok p) : (Lit.int .i64 p).wf = true := by
  unfold i64ok at h
  simp [Lit.wf, IntKind.min, IntKind.max, IntKind.signed, IntKind.bits]; omega
theorem i64wf_ok {p : Int} (h : (Lit.int .i64 p).wf = true) : i64ok p := by
  unfold i64ok
  simp [Lit.wf, IntKind.min, IntKind.max, IntKind.signed, IntKind.bits] at h; omega
def kInt : KE 3 Int where
  kv := Value.int .i64
  kl := Lit.int .i64
  ok := i64ok
  K := int_keyed Tryd.underlying3
  key := fun h => keyOf_int_mk Tryd.underlying3 (i64wf h)
  inj := fun h => by injection h
  inv := fun {v l} h => by
    obtain ⟨x, rfl, rfl, hx⟩ := keyOf_int_inv Tryd.underlying3 h
    exact ⟨x, i64wf_ok hx, rfl, rfl⟩
theorem keyStr_inv {v : Value} {l : Lit} (h : keyOf Tryd.prog 9 v = some l) : ∃ s : ByteArray, s.size ≤ maxLen ∧ v = .string s ∧ l = .string s.data.toList := by
  cases v <;> simp [keyOf, Tryd.underlying9, mapKey] at h
  exact ⟨_, h.1, rfl, h.2.symm⟩
def kStr : KE 9 ByteArray where
  kv := Value.string
  kl := fun s => Lit.string s.data.toList
  ok := fun s => s.size ≤ maxLen
  K := string_keyed Tryd.underlying9
  key := fun {s} h => by simp [keyOf, Tryd.underlying9, mapKey, h]
  inj := fun {x y} h => by
    injection h with h
    cases x; cases y
    simpa using h
  inv := fun {v l} h => keyStr_inv h
section
variable {k e t : TypeId} {κ : Type} (E : KE k κ)
/-- block b is a map of c entries: m -/
def MG (w : World) (b : Nat) (m : κ → Option Value) (c : Nat) : Prop :=
  ∃ D : DataW Value, w.ownsMap Tryd.prog k RH b c D ∧ size D = c ∧ (∀ x, E.ok x → has D (E.kl x) = (m x).isSome ∧ ∀ v, m x = some v → ∀ z, D.atKey (E.kl x) z = .held v) ∧ ∀ x, ¬ E.ok x → m x = none
variable {E} {w : World} {b c : Nat} {m : κ → Option Value}
theorem ownsMap_tight {n : Nat} {D : DataW Value} (h : w.ownsMap Tryd.prog k RH b n D) : w.ownsMap Tryd.prog k RH b (size D) D := by
  obtain ⟨es, clock, h1, h2, h3, rfl⟩ := h
  refine ⟨es, clock, h1, h2, ?_, rfl⟩
  rw [size_eq, length_sorted]; simp
theorem MG.lt (h : MG E w b m c) : b < w.heap.size := by obtain ⟨D, h1, -⟩ := h; exact h1.lt
theorem MG.same {w' : World} (h : MG E w b m c) (he : hat w' b = hat w b) : MG E w' b m c := by
  obtain ⟨D, ⟨es, clock, hb, h1⟩, h2⟩ := h
  exact ⟨D, ⟨es, clock, he.trans hb, h1⟩, h2⟩
theorem MG.fr {w' : World} {ex : List Nat} (h : MG E w b m c) (hf : Fr ex w w') (hn : b ∉ ex) : MG E w' b m c := h.same (hf.block b h.lt hn)
theorem MG.made (w : World) : MG E (w.alloc (.map #[] 0)) w.heap.size (fun _ => none) 0 :=
  ⟨.map [], World.ownsMap_made w _ _ _, rfl, fun x hx => ⟨rfl, fun v h => by cases h⟩, fun _ _ => rfl⟩
theorem MG.okey (h : MG E w b m c) {x : κ} (hx : (m x).isSome) : E.ok x := by
  obtain ⟨D, -, -, -, h4⟩ := h
  by_cases ho : E.ok x
  · exact ho
  · rw [h4 x ho] at hx; cases hx
theorem MG.lookc (h : MG E w b m c) (ht : Tryd.prog.underlying t = some (.map k e)) {z : Value} (hz : (zeroValue e).run Tryd.prog w = .ok z w) {x : κ} (hx : E.ok x) :
    (Instr.lookup t (.map (some b)) (E.kv x) false).run Tryd.prog w = .ok ((m x).getD z) w := by
  obtain ⟨D, h1, -, h3, -⟩ := h
  obtain ⟨v, ps, hr, hv⟩ := h1.lookup E.K ht hz (zd := .held z) (zp := []) rfl (E.key hx)
  obtain ⟨h4, h5⟩ := h3 x hx
  cases hm : m x with
  | none =>
    rw [hm] at h4
    rw [atKey_of_not_has h4] at hv
    rw [hr, RH_inv hv]; rfl
  | some u =>
    rw [h5 u hm] at hv
    rw [hr, RH_inv hv]; rfl
theorem MG.look_ok (h : MG E w b m c) (ht : Tryd.prog.underlying t = some (.map k e)) {z : Value} (hz : (zeroValue e).run Tryd.prog w = .ok z w) {x : κ} (hx : E.ok x) :
    (Instr.lookup t (.map (some b)) (E.kv x) true).run Tryd.prog w = .ok (.tuple #[(m x).getD z, .bool (m x).isSome]) w := by
  obtain ⟨D, h1, -, h3, -⟩ := h
  obtain ⟨v, ps, hr, hv⟩ := h1.look_ok E.K ht hz (zd := .held z) (zp := []) rfl (E.key hx)
  obtain ⟨h4, h5⟩ := h3 x hx
  rw [h4] at hr
  cases hm : m x with
  | none =>
    rw [hm] at h4
    rw [atKey_of_not_has h4] at hv
    rw [hr, RH_inv hv, hm]; rfl
  | some u =>
    rw [h5 u hm] at hv
    rw [hr, RH_inv hv, hm]; rfl
theorem MG.len (h : MG E w b m c) (ht : Tryd.prog.underlying t = some (.map k e)) (ty : TypeId) : (Builtin.len_ #[t] ty #[.map (some b)]).run Tryd.prog w = .ok (.int .i64 c) w := by
  obtain ⟨D, h1, h2, -⟩ := h
  rw [h1.len ht ty, h2]
theorem kl_ne (E : KE k κ) {x y : κ} (h : x ≠ y) : E.kl x ≠ E.kl y := fun e => h (E.inj e)
theorem MG.put [DecidableEq κ] (h : MG E w b m c) (ht : Tryd.prog.underlying t = some (.map k e)) (hc : c < maxLen) {x : κ} (hx : E.ok x) (v : Value) :
    ∃ w', (Instr.mapUpdate t (.map (some b)) (E.kv x) v).run Tryd.prog w = .ok () w' ∧ MG E w' b (fun y => if y = x then some v else m y) (if (m x).isSome then c else c + 1) ∧ w.mapTurned w' b := by
  obtain ⟨D, h1, h2, h3, h4⟩ := h
  have htd := h1.tidy E.K
  have hkx := E.K.key (E.key hx)
  obtain ⟨w', hr, ho, hturn⟩ := h1.store E.K ht hc (E.key hx) (d := .held v) (ps := []) (val := v) rfl
  have hsz := Go.Maps.size_put htd (k := E.kl x) (DataW.held v)
  rw [(h3 x hx).1, h2] at hsz
  have ho2 := ownsMap_tight ho
  rw [hsz] at ho2
  refine ⟨w', hr, ⟨_, ho2, hsz, fun y hy => ?_, fun y hy => ?_⟩, hturn⟩
  · by_cases hyx : y = x
    · subst hyx
      refine ⟨?_, fun u hu z => ?_⟩
      · show has _ _ = (if y = y then some v else m y).isSome
        rw [has_put_same htd.isMap hkx, if_pos rfl]; rfl
      · change (if y = y then some v else m y) = some u at hu
        rw [if_pos rfl] at hu
        rw [atKey_put_same htd.isMap hkx, Option.some.inj hu]
    · show has _ _ = (if y = x then some v else m y).isSome ∧ ∀ u, (if y = x then some v else m y) = some u → _
      rw [has_put_other (kl_ne E hyx), if_neg hyx]
      refine ⟨(h3 y hy).1, fun u hu z => ?_⟩
      rw [atKey_put_other (kl_ne E hyx), (h3 y hy).2 u hu z]
  · have hyx : y ≠ x := fun e => hy (by rw [e]; exact hx)
    show (if y = x then _ else _) = none
    rw [if_neg hyx, h4 y hy]
theorem MG.del [DecidableEq κ] (h : MG E w b m c) (ht : Tryd.prog.underlying t = some (.map k e)) {x : κ} (hx : E.ok x) (ty : TypeId) :
    ∃ w', (Builtin.delete_ #[t, k] ty #[.map (some b), E.kv x]).run Tryd.prog w = .ok (.tuple #[]) w' ∧ MG E w' b (fun y => if y = x then none else m y) (if (m x).isSome then c - 1 else c) ∧ w.mapTurned w' b := by
  obtain ⟨D, h1, h2, h3, h4⟩ := h
  have htd := h1.tidy E.K
  obtain ⟨w', hr, ho, hturn⟩ := h1.drop E.K ht (E.key hx) ty
  have hsz := Go.Maps.size_del htd (k := E.kl x)
  rw [(h3 x hx).1, h2] at hsz
  have hsz2 : size (D.del (E.kl x)) = if (m x).isSome then c - 1 else c := by
    split at hsz <;> rename_i hq
    · rw [if_pos hq]; omega
    · rw [if_neg hq]; omega
  have ho2 := ownsMap_tight ho
  rw [hsz2] at ho2
  refine ⟨w', hr, ⟨_, ho2, hsz2, fun y hy => ?_, fun y hy => ?_⟩, hturn⟩
  · by_cases hyx : y = x
    · subst hyx
      refine ⟨?_, fun u hu z => ?_⟩
      · show has _ _ = (if y = y then none else m y).isSome
        rw [has_del_same, if_pos rfl]; rfl
      · change (if y = y then none else m y) = some u at hu
        rw [if_pos rfl] at hu; cases hu
    · show has _ _ = (if y = x then none else m y).isSome ∧ ∀ u, (if y = x then none else m y) = some u → _
      rw [has_del_other (kl_ne E hyx), if_neg hyx]
      refine ⟨(h3 y hy).1, fun u hu z => ?_⟩
      rw [atKey_del_other (kl_ne E hyx), (h3 y hy).2 u hu z]
  · show (if y = x then _ else _) = none
    split
    · rfl
    · exact h4 y hy
/-- its keys, each once -/
theorem MG.keys (h : MG E w b m c) : ∃ l : List κ, l.Nodup ∧ l.length = c ∧ ∀ x, x ∈ l ↔ (m x).isSome := by
  obtain ⟨D, h1, h2, h3, h4⟩ := h
  obtain ⟨es, clock, hb, F, -, rfl⟩ := h1
  have hp := sorted_perm (es.toList.map (rg Tryd.prog k RH))
  have hpw : ((es.toList.map (rg Tryd.prog k RH)).foldr DataW.insert []).Pairwise (fun p q => p.1 ≠ q.1) := (hp.pairwise_iff (fun {_ _} hne => Ne.symm hne)).2 (fit_apart E.K F)
  have hall : ∀ p ∈ (es.toList.map (rg Tryd.prog k RH)).foldr DataW.insert [], ∃ x, E.ok x ∧ p.1 = E.kl x := fun p hpm => by
    obtain ⟨x, hx, rfl⟩ := List.mem_map.1 (mem_sorted.1 hpm)
    obtain ⟨y, hy⟩ := F.reads x hx
    obtain ⟨q, hq1, -, hq2⟩ := E.inv (rd_key hy)
    exact ⟨q, hq1, by rw [rg_of hy]; exact hq2⟩
  generalize (es.toList.map (rg Tryd.prog k RH)).foldr DataW.insert [] = L at *
  have hL : ∃ l : List κ, l.map E.kl = L.map Prod.fst ∧ ∀ x ∈ l, E.ok x := by
    clear hpw h2 h3 hp hb
    induction L with
    | nil => exact ⟨[], rfl, fun x hx => by cases hx⟩
    | cons p r ih =>
      obtain ⟨l, hl, hl2⟩ := ih (fun q hq => hall q (.tail _ hq))
      obtain ⟨x, hx, hpx⟩ := hall p (.head _)
      exact ⟨x :: l, by rw [List.map_cons, List.map_cons, hl, hpx], fun y hy => by
        rcases List.mem_cons.1 hy with rfl | hy
        · exact hx
        · exact hl2 y hy⟩
  obtain ⟨l, hl, hl2⟩ := hL
  have hmem : ∀ x, x ∈ l ↔ E.kl x ∈ L.map Prod.fst := fun x => by
    rw [← hl, List.mem_map]
    exact ⟨fun h => ⟨x, h, rfl⟩, fun ⟨y, hy, e⟩ => by rw [← E.inj e]; exact hy⟩
  refine ⟨l, ?_, ?_, fun x => ?_⟩
  · have h5 : (L.map Prod.fst).Pairwise (· ≠ ·) := List.pairwise_map.2 hpw
    rw [← hl] at h5
    exact (List.pairwise_map.1 h5).imp (fun h e => h (by rw [e]))
  · rw [← h2, size_eq, ← List.length_map (f := E.kl), hl, List.length_map]
  · rw [hmem]
    have key : E.kl x ∈ L.map Prod.fst ↔ has (.map L) (E.kl x) = true := by
      rw [has_eq, List.any_eq_true]
      constructor
      · intro h
        obtain ⟨p, hp1, hp2⟩ := List.mem_map.1 h
        obtain ⟨y, hy, hpy⟩ := hall p hp1
        exact ⟨p, hp1, by rw [← hp2]; exact WideAt.sameKey_self (by rw [hpy]; exact E.K.key (E.key hy))⟩
      · rintro ⟨p, hp1, hp2⟩
        exact List.mem_map.2 ⟨p, hp1, WideAt.sameKey_eq hp2⟩
    rw [key]
    by_cases ho : E.ok x
    · rw [(h3 x ho).1]
    · rw [h4 x ho]
      refine ⟨fun h => ?_, fun h => by cases h⟩
      obtain ⟨p, hp1, hp2⟩ := List.mem_map.1 (key.2 h)
      obtain ⟨y, hy, hpy⟩ := hall p hp1
      rw [hpy] at hp2
      exact absurd (E.inj hp2 ▸ hy) ho
end
end Go.Proofs.YteffoihkljkfdaaDoor
