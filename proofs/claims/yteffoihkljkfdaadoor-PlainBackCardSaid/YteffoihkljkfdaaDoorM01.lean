/- Contracts and laws that the claim leans on, laid together in the order in which they build. -/
import Derived.WalkKit
import Derived.WalkSpells
import Derived.WalkLawsBesides
import Derived.Deep.QuietTactic
import Derived.BigQuiet
import Derived.Lib.Hide
import Derived.Laws.CopyOwn
import Derived.Maps.OwnSet
import Derived.Maps.RangeWalk
import Derived.Test.YteffoihkljkfdaaDoorRows

/- General laws on rows of cells: loads, stores and new blocks of arrays and structs, taken whole. No program is named here. -/
namespace Go.Proofs.YteffoihkljkfdaaDoor
set_option linter.unusedSimpArgs false
set_option linter.unusedVariables false
open Go.RowKit

/-- cells that are numbers of one kind -/
def IV (k : IntKind) (l : List Int) : Array Value := (l.map (Value.int k)).toArray

@[simp] theorem IV_size (k : IntKind) (l : List Int) : (IV k l).size = l.length := by simp [IV]
theorem IV_get? (k : IntKind) (l : List Int) (i : Nat) : (IV k l)[i]? = (l[i]?).map (Value.int k) := by simp [IV]
/-- the number at a place, 0 beyond the end -/
def nth (l : List Int) (i : Nat) : Int := l[i]?.getD 0
theorem nth_getElem {l : List Int} {i : Nat} (h : i < l.length) : l[i] = nth l i := by
  unfold nth; rw [List.getElem?_eq_getElem h]; rfl
theorem nth_getElem? {l : List Int} {i : Nat} (h : i < l.length) : l[i]? = some (nth l i) := by
  rw [List.getElem?_eq_getElem h, nth_getElem h]
theorem nth_ext {l m : List Int} (h : l.length = m.length) (he : ∀ i, i < l.length → nth l i = nth m i) : l = m := by
  apply List.ext_getElem h
  intro i h1 h2
  rw [nth_getElem h1, nth_getElem h2]
  exact he i h1
theorem nth_set {l : List Int} {i j : Nat} {v : Int} (h : i < l.length) : nth (l.set i v) j = if j = i then v else nth l j := by
  unfold nth
  rw [List.getElem?_set]
  by_cases hij : i = j
  · subst hij; simp [h]
  · simp [hij, Ne.symm hij]
theorem nth_beyond {l : List Int} {i : Nat} (h : l.length ≤ i) : nth l i = 0 := by
  unfold nth; rw [List.getElem?_eq_none h]; rfl
theorem nth_append_left {l m : List Int} {i : Nat} (h : i < l.length) : nth (l ++ m) i = nth l i := by
  unfold nth; rw [List.getElem?_append_left h]
theorem nth_append_right {l m : List Int} {i : Nat} (h : l.length ≤ i) : nth (l ++ m) i = nth m (i - l.length) := by
  unfold nth; rw [List.getElem?_append_right h]
@[go_sem, simp] theorem IV_get (k : IntKind) (l : List Int) (i : Nat) (h : i < l.length) : (IV k l)[i]? = some (.int k (nth l i)) := by
  rw [IV_get?, List.getElem?_eq_getElem h, nth_getElem h]; rfl
@[go_sem, simp] theorem IV_getElem (k : IntKind) (l : List Int) (i : Nat) (h : i < (IV k l).size) : (IV k l)[i] = .int k (nth l i) := by
  have h' : i < l.length := by simpa using h
  have := IV_get k l i h'
  rw [Array.getElem?_eq_getElem h] at this
  simpa using this
@[go_sem, simp] theorem IV_set (k : IntKind) (l : List Int) (i : Nat) (v : Int) : (IV k l).setIfInBounds i (.int k v) = IV k (l.set i v) := by
  unfold IV
  apply Array.ext'
  simp
theorem IV_ne (k : IntKind) (l : List Int) (n : Nat) (h : l.length = n + 1) : IV k l ≠ #[] := by
  intro e; have := congrArg Array.size e; simp [h] at this
/-- each is one cell's value -/
def oneAll (cs : Array Value) : Bool := cs.all (·.oneCell')
@[go_sem, simp] theorem IV_one (k : IntKind) (l : List Int) : oneAll (IV k l) = true := by
  simp [oneAll, IV, Value.oneCell']
/-- so many noughts -/
def zl (n : Nat) : List Int := List.replicate n 0
@[go_sem, simp] theorem zl_length (n : Nat) : (zl n).length = n := by simp [zl]
theorem zl_get (n i : Nat) : nth (zl n) i = 0 := by
  unfold nth zl
  rw [List.getElem?_replicate]
  split <;> rfl
@[go_sem] theorem length_set' (l : List Int) (i : Nat) (v : Int) : (l.set i v).length = l.length := by simp
@[go_sem] theorem oneAll_toArray (l : List Value) : oneAll l.toArray = l.all (fun v => v.oneCell') := by simp [oneAll]
@[go_sem] theorem oneCell_int (k : IntKind) (n : Int) : (Value.int k n).oneCell' = true := rfl
@[go_sem] theorem oneCell_bool (b : Bool) : (Value.bool b).oneCell' = true := rfl
@[go_sem] theorem oneCell_string (b : ByteArray) : (Value.string b).oneCell' = true := rfl
@[go_sem] theorem oneCell_pointer (a : Option Addr) : (Value.pointer a).oneCell' = true := rfl
@[go_sem] theorem oneCell_slice (a : Option Addr) (n m : Nat) : (Value.slice a n m).oneCell' = true := rfl
@[go_sem] theorem oneCell_func (f : Fn) (a b : Array Value) : (Value.func f a b).oneCell' = true := rfl
theorem IV_inj {k : IntKind} {l m : List Int} (h : IV k l = IV k m) : l = m := by
  have h1 := congrArg Array.toList h
  simp only [IV] at h1
  have h2 : ∀ (l m : List Int), l.map (Value.int k) = m.map (Value.int k) → l = m := by
    intro l
    induction l with
    | nil => intro m h; cases m with | nil => rfl | cons a m => simp at h
    | cons a l ih => intro m h; cases m with
      | nil => simp at h
      | cons b m => simp at h; rw [h.1, ih m (by simpa using h.2)]
  exact h2 l m h1
theorem IV_extract (k : IntKind) (l : List Int) (a b : Nat) : (IV k l).extract a b = IV k ((l.drop a).take (b - a)) := by
  unfold IV
  apply Array.ext'
  simp [List.extract_eq_take_drop, List.map_drop, List.map_take]

/-- what lies at a block's number -/
def hat (w : World) (g : Nat) : Option Obj := w.heap[g]?

/-- a whole variable is loaded -/
def Ld (_n : Nat) (ty : TypeId) (a : Addr) : Sem Value := loadVar ty a
def ldRow (raw : Result Value) (n off : Nat) (w : World) : Option Obj → Result Value
  | some (.cells cs _ _) => if off + n ≤ cs.size then .ok (.agg (cs.extract off (off + n))) w else raw
  | _ => raw
theorem ldRow_full {raw : Result Value} {n : Nat} {w : World} {cs : Array Value} {t : TypeId} {fr : Nat × Nat} (h : cs.size = n) :
    ldRow raw n 0 w (some (.cells cs t fr)) = .ok (.agg cs) w := by
  subst h; simp [ldRow]
theorem ldRow_part {raw : Result Value} {n off : Nat} {w : World} {cs : Array Value} {t : TypeId} {fr : Nat × Nat} (h : off + n ≤ cs.size) :
    ldRow raw n off w (some (.cells cs t fr)) = .ok (.agg (cs.extract off (off + n))) w := by
  simp [ldRow, h]

def rawL (P : Program) (ty : TypeId) (a : Addr) (w : World) : Result Value := (loadVar ty a).run P w
def rawS (P : Program) (ty : TypeId) (a : Addr) (v : Value) (w : World) : Result Unit := (storeVar ty a v).run P w

@[go_sem] theorem ldRow_mul {raw : Result Value} {n k : Nat} {w : World} {cs : Array Value} {t : TypeId} {fr : Nat × Nat} (h : k * n + n ≤ cs.size) :
    ldRow raw n (k * n) w (some (.cells cs t fr)) = .ok (.agg (cs.extract (k * n) (k * n + n))) w := ldRow_part h

section
variable {P : Program}
theorem run_Ld {n : Nat} {ty : TypeId} {d : TypeDesc} (hu : P.underlying ty = some d) (hd : (match d with | .struct _ | .array _ _ => true | _ => false) = true)
    (hi : (P.info? ty).map (·.size) = some n) (g off : Nat) (w : World) :
    (Ld n ty ⟨g, off, none⟩).run P w = ldRow (rawL P ty ⟨g, off, none⟩ w) n off w (hat w g) := by
  unfold rawL hat
  unfold ldRow Ld
  split
  · rename_i cs t fr hg
    split
    · rename_i hle
      have hl : (loadCells ⟨g, off, none⟩ (cs.extract off (off + n)).toList.length).run P w = .ok (cs.extract off (off + n)).toList.toArray w :=
        run_loadCells_list (P := P) w ⟨g, off, none⟩ (cs.extract off (off + n)).toList (fun j v hv => by
          have hadd : (⟨g, off, none⟩ : Addr).add j = ⟨g, off + j, none⟩ := by unfold Addr.add; split <;> simp_all
          rw [hadd, cell_of_row w g (off + j) cs t fr hg]
          rw [Array.getElem?_toList, Array.getElem?_extract] at hv
          split at hv <;> simp_all)
      cases hq : P.info? ty with
      | none => simp [hq] at hi
      | some i =>
        have hs : i.size = n := by simpa [hq] using hi
        have hagg : (isAgg ty).run P w = .ok true w := by
          unfold isAgg
          rw [Sem.run_bind, run_underlying hu w]
          cases d <;> simp_all
        have hlen : (cs.extract off (off + n)).size = n := by simp; omega
        simp only [Array.length_toList, Array.toArray_toList, hlen] at hl
        simp [loadVar, Sem.run_bind, hagg, sizeOf, typeInfo, hq, hs, hl]
    · rfl
  · rfl

/-- a whole variable is stored -/
def St (_n : Nat) (ty : TypeId) (a : Addr) (v : Value) : Sem Unit := storeVar ty a v
def splice (old : Array Value) (off : Nat) (cs : Array Value) : Array Value := (old.toList.take off ++ cs.toList ++ old.toList.drop (off + cs.size)).toArray
@[simp] theorem splice_size (old : Array Value) (off : Nat) (cs : Array Value) (h : off + cs.size ≤ old.size) : (splice old off cs).size = old.size := by
  simp [splice]; omega
theorem splice_full (old : Array Value) (cs : Array Value) (h : cs.size = old.size) : splice old 0 cs = cs := by
  apply Array.ext'; simp [splice]; omega
def stRow (raw : Result Unit) (n off g : Nat) (cs : Array Value) (w : World) : Option Obj → Result Unit
  | some (.cells old _ (0, 0)) => if off + n ≤ old.size ∧ cs.size = n ∧ oneAll cs = true then .ok () (w.setRow g (splice old off cs)) else raw
  | _ => raw
theorem stRow_full {raw : Result Unit} {n g : Nat} {cs old : Array Value} {w : World} {t : TypeId} (h : old.size = n) (h1 : cs.size = n) (h2 : oneAll cs = true) :
    stRow raw n 0 g cs w (some (.cells old t (0, 0))) = .ok () (w.setRow g cs) := by
  show (if 0 + n ≤ old.size ∧ cs.size = n ∧ oneAll cs = true then Result.ok () (w.setRow g (splice old 0 cs)) else raw) = _
  rw [if_pos ⟨by omega, h1, h2⟩, splice_full old cs (by omega)]
theorem stRow_part {raw : Result Unit} {n off g : Nat} {cs old : Array Value} {w : World} {t : TypeId} (h : off + n ≤ old.size) (h1 : cs.size = n) (h2 : oneAll cs = true) :
    stRow raw n off g cs w (some (.cells old t (0, 0))) = .ok () (w.setRow g (splice old off cs)) := by
  show (if off + n ≤ old.size ∧ cs.size = n ∧ oneAll cs = true then Result.ok () (w.setRow g (splice old off cs)) else raw) = _
  rw [if_pos ⟨h, h1, h2⟩]

theorem run_storeCells_at (g off : Nat) (t : TypeId) : ∀ (vs : List Value) (i : Nat) (cur : Array Value) (w : World), w.heap[g]? = some (.cells cur t (0, 0)) → off + i + vs.length ≤ cur.size → (∀ v ∈ vs, v.oneCell' = true) →
    (storeCells ⟨g, off, none⟩ vs i).run P w = .ok () (w.setRow g (cur.toList.take (off + i) ++ vs ++ cur.toList.drop (off + i + vs.length)).toArray)
  | [], i, cur, w, hg, hl, _ => by
    have hlt : g < w.heap.size := (Array.getElem?_eq_some_iff.1 hg).1
    have hv : w.heap[g] = .cells cur t (0, 0) := (Array.getElem?_eq_some_iff.1 hg).2
    simp only [storeCells, List.append_nil, List.length_nil, Nat.add_zero, List.take_append_drop, Array.toArray_toList]
    show Result.ok () w = _
    congr 1
    unfold World.setRow
    cases w with
    | mk heap tape drawn os output =>
      congr 1
      apply Array.ext
      · simp
      · intro k h1 h2
        simp only [Array.getElem_modify]
        split
        · rename_i hk; subst hk; simp at hv; simp [hv]
        · rfl
  | v :: rest, i, cur, w, hg, hl, h1 => by
    have hi : off + i < cur.size := by simp at hl; omega
    have hadd : (⟨g, off, none⟩ : Addr).add i = ⟨g, off + i, none⟩ := by unfold Addr.add; split <;> simp_all
    have hcell : w.cell? ⟨g, off + i, none⟩ = some cur[off + i] := by simp [World.cell?, hg, hi]
    have hfro : w.frozen? ⟨g, off + i, none⟩ = false := by simp [World.frozen?, hg]
    have hst : (store ((⟨g, off, none⟩ : Addr).add i) v).run P w = .ok () (w.setRow g (cur.setIfInBounds (off + i) v)) := by
      rw [hadd, run_store P w _ v _ (h1 v (by simp)), hcell]
      simp [hfro, setCell_eq_setRow w g (off + i) cur t (0, 0) v hg]
    have ih := run_storeCells_at g off t rest (i + 1) (cur.setIfInBounds (off + i) v) (w.setRow g (cur.setIfInBounds (off + i) v)) (setRow_heap w g cur _ t _ hg) (by simp at hl ⊢; omega) (fun x hx => h1 x (by simp [hx]))
    simp only [storeCells, Sem.run_bind, hst, Result.andThen_ok, ih, setRow_setRow]
    congr 3
    apply List.ext_getElem?
    intro k
    simp only [Array.toList_setIfInBounds, List.getElem?_append, List.length_append, List.length_take, List.length_set, Array.length_toList, List.length_cons, List.getElem?_take, List.getElem?_drop, List.getElem?_set]
    simp only [List.length_cons] at hl
    have e1 : min (off + (i + 1)) cur.size = off + i + 1 := by omega
    have e2 : min (off + i) cur.size = off + i := by omega
    rw [e1, e2]
    by_cases hk : k < off + i
    · simp [hk, show k < off + i + 1 by omega, show off + i ≠ k by omega, show k < off + i + 1 + rest.length by omega, show k < off + i + (rest.length + 1) by omega, show k < off + (i + 1) by omega]
    · by_cases hk2 : k = off + i
      · subst hk2
        simp [show off + i < cur.size by omega, show off + i < off + i + 1 + rest.length by omega, show off + i < off + (i+1) by omega]
      · by_cases hk3 : k < off + i + 1 + rest.length
        · simp [hk, hk3, show ¬ k < off + i + 1 by omega, show k < off + i + (rest.length + 1) by omega, show k - (off + i) = (k - (off + i + 1)) + 1 by omega]
        · simp [hk3, show ¬ k < off + i + (rest.length + 1) by omega]
          rw [if_neg (by omega)]
          congr 1; omega

theorem run_St {n : Nat} {ty : TypeId} (hi : (P.info? ty).map (·.size) = some n) (g off : Nat) (cs : Array Value) (w : World) :
    (St n ty ⟨g, off, none⟩ (.agg cs)).run P w = stRow (rawS P ty ⟨g, off, none⟩ (.agg cs) w) n off g cs w (hat w g) := by
  unfold rawS hat
  unfold stRow St
  split
  · rename_i old t hg
    split
    · rename_i h
      obtain ⟨h1, h2, h3⟩ := h
      have := run_storeCells_at (P := P) g off t cs.toList 0 old w hg (by simp; omega) (fun v hv => (Array.all_eq_true_iff_forall_mem.1 h3) v (by simpa using hv))
      cases hq : P.info? ty with
      | none => simp [hq] at hi
      | some i =>
        have hs : cs.size = i.size := by simp [hq] at hi; omega
        simp only [storeVar, sizeOf, typeInfo, Sem.run_bind, run_program, Result.andThen_ok, hq, Sem.run_pure, Value.cells, hs, ne_eq, not_true_eq_false, if_false, this, Nat.add_zero]
        simp [splice, hs]
    · rfl
  · rfl
end

-- worlds
@[go_sem] theorem hat_alloc_at (w : World) (o : Obj) (n : Nat) (h : n = w.heap.size) : hat (w.alloc o) n = some o := by subst h; exact heap_alloc_new w o
@[go_sem] theorem hat_alloc_past (w : World) (o : Obj) (n : Nat) (h : n < w.heap.size) : hat (w.alloc o) n = hat w n := Below.heap_alloc w o n h
@[go_sem] theorem hat_drew (w : World) (n : Nat) : hat w.drew n = hat w n := rfl
theorem hat_setRow (w : World) (g n : Nat) (cs : Array Value) (h : n ≠ g) : hat (w.setRow g cs) n = hat w n := setRow_other w g n cs h
theorem hat_setCell (w : World) (a : Addr) (v : Value) (n : Nat) (h : n ≠ a.block) : hat (w.setCell a v) n = hat w n := Below.heap_setCell w a v n h
@[go_sem] theorem hat_drewN (w : World) (m n : Nat) : hat (w.drewN m) n = hat w n := rfl
@[go_sem] theorem size_drewN (w : World) (m : Nat) : (w.drewN m).heap.size = w.heap.size := rfl
theorem below_drewN {B : Nat} {a w : World} (h : Below B a w) (n : Nat) : Below B a (w.drewN n) := ⟨h.os, h.tape, h.output, h.size, h.block⟩
@[go_sem] theorem hat_setRow_lt (w : World) (g n : Nat) (cs : Array Value) (h : n < g) : hat (w.setRow g cs) n = hat w n := setRow_other w g n cs (Nat.ne_of_lt h)
@[go_sem] theorem hat_setRow_gt (w : World) (g n : Nat) (cs : Array Value) (h : g < n) : hat (w.setRow g cs) n = hat w n := setRow_other w g n cs (Nat.ne_of_gt h)
@[go_sem] theorem hat_setCell_lt (w : World) (g i : Nat) (v : Value) (n : Nat) (h : n < g) : hat (w.setCell ⟨g, i, none⟩ v) n = hat w n := Below.heap_setCell w _ v n (Nat.ne_of_lt h)
@[go_sem] theorem hat_setCell_gt (w : World) (g i : Nat) (v : Value) (n : Nat) (h : g < n) : hat (w.setCell ⟨g, i, none⟩ v) n = hat w n := Below.heap_setCell w _ v n (Nat.ne_of_gt h)
theorem hat_setRow_at (w : World) (g : Nat) (cs old : Array Value) (t : TypeId) (fr : Nat × Nat) (h : hat w g = some (.cells old t fr)) : hat (w.setRow g cs) g = some (.cells cs t fr) := setRow_heap w g old cs t fr h
theorem hat_setCell_at (w : World) (g i : Nat) (v : Value) (old : Array Value) (t : TypeId) (fr : Nat × Nat) (h : hat w g = some (.cells old t fr)) : hat (w.setCell ⟨g, i, none⟩ v) g = some (.cells (old.setIfInBounds i v) t fr) := by
  rw [setCell_eq_setRow w g i old t fr v h]; exact setRow_heap w g old _ t fr h
theorem cell_hat {w : World} {g : Nat} {cs : Array Value} {t : TypeId} {fr : Nat × Nat} (h : hat w g = some (.cells cs t fr)) (i : Nat) : w.cell? ⟨g, i, none⟩ = cs[i]? := cell_of_row w g i cs t fr h
theorem frozen_hat {w : World} {g : Nat} {cs : Array Value} {t : TypeId} (h : hat w g = some (.cells cs t)) (i : Nat) : w.frozen? ⟨g, i, none⟩ = false := frozen_of_row w g i cs t h
theorem hat_lt {w : World} {g : Nat} {o : Obj} (h : hat w g = some o) : g < w.heap.size := (Array.getElem?_eq_some_iff.1 h).1
theorem hat_below {B : Nat} {w w' : World} (h : Below B w w') {k : Nat} (hk : k < B) : hat w' k = hat w k := h.block k hk

@[go_sem] theorem setRow_alloc_at (w : World) (c cs : Array Value) (t : TypeId) (fr : Nat × Nat) (n : Nat) (h : n = w.heap.size) :
    (w.alloc (.cells c t fr)).setRow n cs = w.alloc (.cells cs t fr) := by
  subst h
  unfold World.setRow World.alloc
  congr 1
  apply Array.ext_getElem?
  intro k
  simp only [Array.getElem?_modify, Array.getElem?_push]
  by_cases hk : k = w.heap.size
  · simp [hk]
  · simp [hk, Ne.symm hk]
@[go_sem] theorem setRow_alloc_past (w : World) (o : Obj) (cs : Array Value) (n : Nat) (h : n < w.heap.size) :
    (w.alloc o).setRow n cs = (w.setRow n cs).alloc o := by
  unfold World.setRow World.alloc
  congr 1
  apply Array.ext_getElem?
  intro k
  simp only [Array.getElem?_modify, Array.getElem?_push, Array.size_modify]
  by_cases hk : k = w.heap.size
  · subst hk; simp [Nat.ne_of_lt h]
  · simp [hk]
@[go_sem] theorem setRow_drew (w : World) (g : Nat) (cs : Array Value) : w.drew.setRow g cs = (w.setRow g cs).drew := rfl
@[go_sem] theorem setRow_size' (w : World) (g : Nat) (cs : Array Value) : (w.setRow g cs).heap.size = w.heap.size := by simp
attribute [go_sem] ldRow_full stRow_full

/-- 'Below' over a row that is stored -/
theorem below_setRow {B : Nat} {a w : World} (h : Below B a w) {g : Nat} (hp : B ≤ g) (cs : Array Value) : Below B a (w.setRow g cs) :=
  h.trans ⟨rfl, rfl, rfl, by simp, fun k hk => setRow_other _ _ _ _ (by omega)⟩

def rowObj (cs : Array Value) : Option Obj → Option Obj
  | some (.cells _ t fr) => some (.cells cs t fr)
  | o => o
def cellObj (i : Nat) (v : Value) : Option Obj → Option Obj
  | some (.cells c t fr) => some (.cells (c.setIfInBounds i v) t fr)
  | o => o
@[go_sem] theorem rowObj_cells (cs c : Array Value) (t : TypeId) (fr : Nat × Nat) : rowObj cs (some (.cells c t fr)) = some (.cells cs t fr) := rfl
@[go_sem] theorem cellObj_cells (i : Nat) (v : Value) (c : Array Value) (t : TypeId) (fr : Nat × Nat) : cellObj i v (some (.cells c t fr)) = some (.cells (c.setIfInBounds i v) t fr) := rfl
@[go_sem] theorem hat_setRow_same (w : World) (g : Nat) (cs : Array Value) : hat (w.setRow g cs) g = rowObj cs (hat w g) := by
  unfold hat World.setRow
  simp only [Array.getElem?_modify, if_true]
  cases w.heap[g]? with
  | none => rfl
  | some o => cases o <;> rfl
@[go_sem] theorem hat_setCell_same (w : World) (g i : Nat) (v : Value) : hat (w.setCell ⟨g, i, none⟩ v) g = cellObj i v (hat w g) := by
  unfold hat World.setCell
  simp only [Array.getElem?_modify, if_true]
  cases w.heap[g]? with
  | none => rfl
  | some o => cases o <;> rfl

def cellOf (i : Nat) : Option Obj → Option Value
  | some (.cells c _ _) => c[i]?
  | _ => none
def frozenOf (i : Nat) : Option Obj → Bool
  | some (.cells _ _ (lo, hi)) => lo ≤ i && i < hi
  | _ => false
@[go_sem] theorem cellOf_cells (i : Nat) (c : Array Value) (t : TypeId) (fr : Nat × Nat) : cellOf i (some (.cells c t fr)) = c[i]? := rfl
@[go_sem] theorem frozenOf_cells (i : Nat) (c : Array Value) (t : TypeId) : frozenOf i (some (.cells c t (0, 0))) = false := by
  show (decide (0 ≤ i) && decide (i < 0)) = false
  simp
@[go_sem ↓] theorem cell?_of_hat (w : World) (g i : Nat) : w.cell? ⟨g, i, none⟩ = cellOf i (hat w g) := by
  unfold World.cell? hat cellOf
  cases w.heap[g]? with
  | none => rfl
  | some o => cases o <;> rfl
@[go_sem ↓] theorem frozen?_of_hat (w : World) (g i : Nat) : w.frozen? ⟨g, i, none⟩ = frozenOf i (hat w g) := by
  unfold World.frozen? hat frozenOf
  cases w.heap[g]? with
  | none => rfl
  | some o => cases o <;> rfl

/-- a block that stands stays behind a call that writes new memory alone -/
theorem hop {w w' : World} (h : Below w.heap.size w w') {k : Nat} {o : Obj} (hk : hat w k = some o) : hat w' k = some o ∧ k < w'.heap.size := by
  have hl := hat_lt hk
  exact ⟨(hat_below h hl).trans hk, Nat.lt_of_lt_of_le hl h.size⟩
theorem hopA (w : World) (n : Obj) {k : Nat} {o : Obj} (hk : hat w k = some o) : hat (w.alloc n) k = some o ∧ k < (w.alloc n).heap.size := by
  have hl := hat_lt hk
  exact ⟨(hat_alloc_past _ _ _ hl).trans hk, by simp only [World.size_alloc]; omega⟩
theorem hopN (w : World) (n : Obj) : hat (w.alloc n) w.heap.size = some n ∧ w.heap.size < (w.alloc n).heap.size := ⟨hat_alloc_at _ _ _ rfl, by simp only [World.size_alloc]; omega⟩
theorem hopS {w : World} {g : Nat} {old : Array Value} {t : TypeId} {fr : Nat × Nat} (h : hat w g = some (.cells old t fr)) (cs : Array Value) : hat (w.setRow g cs) g = some (.cells cs t fr) ∧ g < (w.setRow g cs).heap.size :=
  ⟨hat_setRow_at _ _ _ _ _ _ h, by simpa using hat_lt h⟩
theorem hopR {w : World} {k : Nat} {o : Obj} (h : hat w k = some o) (g : Nat) (cs : Array Value) (hne : k ≠ g) : hat (w.setRow g cs) k = some o ∧ k < (w.setRow g cs).heap.size :=
  ⟨(hat_setRow _ _ _ _ hne).trans h, by simpa using hat_lt h⟩
theorem hopC {w : World} {g : Nat} {k : IntKind} {l : List Int} {t : TypeId} {fr : Nat × Nat} (h : hat w g = some (.cells (IV k l) t fr)) (i : Nat) (v : Int) : hat (w.setCell ⟨g, i, none⟩ (.int k v)) g = some (.cells (IV k (l.set i v)) t fr) ∧ g < (w.setCell ⟨g, i, none⟩ (.int k v)).heap.size :=
  ⟨by rw [hat_setCell_at _ _ _ _ _ _ _ h, IV_set], by simpa using hat_lt h⟩
theorem hopCo {w : World} {k : Nat} {o : Obj} (h : hat w k = some o) (g i : Nat) (v : Value) (hne : k ≠ g) : hat (w.setCell ⟨g, i, none⟩ v) k = some o ∧ k < (w.setCell ⟨g, i, none⟩ v).heap.size :=
  ⟨(hat_setCell _ _ _ _ hne).trans h, by simpa using hat_lt h⟩
theorem below_call {B : Nat} {w w1 w2 : World} (h : Below B w w1) (h2 : Below w1.heap.size w1 w2) (hB : B ≤ w1.heap.size) : Below B w w2 := h.trans (h2.mono hB)
theorem below_new {B : Nat} {w w1 : World} (h : Below B w w1) (hB : B ≤ w1.heap.size) (o : Obj) : Below B w (w1.alloc o) := h.alloc hB o

/-- bytes in the place of others -/
def putL (s : List Int) (a : Nat) (bs : List Int) : List Int := s.take a ++ (bs ++ s.drop (a + bs.length))
@[simp] theorem putL_length (s : List Int) (a : Nat) (bs : List Int) (h : a + bs.length ≤ s.length) : (putL s a bs).length = s.length := by simp [putL]; omega
theorem wpList_copy_IV {P : Program} {w : World} {ops : Array Oper} {rest : List Oper} {o : Oper} {a : Act} {Q : Exit → Act → World → Prop} (hgd : o.guard = none) (d s : Operand) (dT sT : TypeId)
    (ho : o.op = .call { callee := .builtin .copy, args := #[d, s], argTypes := #[dT, sT] }) (elem : TypeId) (hu : P.underlying dT = some (.slice elem)) (hsz : (P.info? elem).map (·.size) = some 1)
    (g off dLen dCap g2 o2 sLen sCap : Nat) (hd : a.eval d = .slice (some ⟨g, off, none⟩) dLen dCap) (hs : a.eval s = .slice (some ⟨g2, o2, none⟩) sLen sCap)
    (k : IntKind) (cur src bs : List Int) (t t2 : TypeId) (fr2 : Nat × Nat) (hg : hat w g = some (.cells (IV k cur) t)) (hg2 : hat w g2 = some (.cells (IV k src) t2 fr2))
    (hn : bs.length = Nat.min sLen dLen) (hbs : ∀ j, j < bs.length → src[o2 + j]? = bs[j]?) (hfit : off + bs.length ≤ cur.length)
    (h : wpList P ops Q rest (a.put o.dst (.int .i64 bs.length)) (w.setRow g (IV k (putL cur off bs)))) : wpList P ops Q (o :: rest) a w := by
  refine wpList_copy_own hgd d s dT sT ho elem hu hsz g off dLen dCap ⟨g2, o2, none⟩ sLen sCap hd hs (IV k cur) t hg (bs.map (Value.int k)) (by simpa using hn) ?_ (by simpa using hfit) ?_ ?_
  · intro j v hj
    have hadd : (⟨g2, o2, none⟩ : Addr).add j = ⟨g2, o2 + j, none⟩ := by unfold Addr.add; split <;> simp_all
    rw [hadd, cell_hat hg2, IV_get?]
    have hjl : j < bs.length := by
      have := (List.getElem?_eq_some_iff.1 hj).1; simpa using this
    rw [hbs j hjl]
    simpa using hj
  · intro v hv
    simp at hv
    obtain ⟨x, -, rfl⟩ := hv
    rfl
  · have e : (IV k (putL cur off bs)) = ((IV k cur).toList.take off ++ (bs.map (Value.int k) ++ (IV k cur).toList.drop (off + (bs.map (Value.int k)).length))).toArray := by
      simp [IV, putL, List.map_take, List.map_drop]
    rw [← e]
    simpa [goInt] using h

-- a slice of an array
section
variable {P : Program}
theorem run_sliceAt_lo {T n e : Nat} (hu : P.underlying T = some (.array n e)) (he : (P.info? e).map (·.size) = some 1) (g off : Nat) (x : Int) (h0 : 0 ≤ x) (h1 : x < n) (w : World) :
    (Instr.sliceAt T (.pointer (some ⟨g, off, none⟩)) (some (.int .i64 x)) none none).run P w = .ok (.slice (some ⟨g, off + x.toNat, none⟩) (n - x.toNat) (n - x.toNat)) w := by
  cases hq : P.info? e with
  | none => simp [hq] at he
  | some i =>
    have hs : i.size = 1 := by simpa [hq] using he
    have hne : ¬ n = x.toNat := by omega
    have hadd : (⟨g, off, none⟩ : Addr).add (x.toNat * 1) = ⟨g, off + x.toNat, none⟩ := by unfold Addr.add; split <;> simp_all
    simp [Instr.sliceAt, run_underlying hu, Instr.sureAddr, Instr.sliceBounds, Instr.sliceBound, asIntOf, h0, show x ≤ n by omega, sizeOf, typeInfo, hq, hs, hne]
    simpa using hadd
theorem run_sliceAt_lohi {T n e : Nat} (hu : P.underlying T = some (.array n e)) (he : (P.info? e).map (·.size) = some 1) (g off : Nat) (x y : Int) (h0 : 0 ≤ x) (h1 : x < n) (h2 : x ≤ y) (h3 : y ≤ n) (w : World) :
    (Instr.sliceAt T (.pointer (some ⟨g, off, none⟩)) (some (.int .i64 x)) (some (.int .i64 y)) none).run P w = .ok (.slice (some ⟨g, off + x.toNat, none⟩) (y.toNat - x.toNat) (n - x.toNat)) w := by
  obtain ⟨l, rfl⟩ := Int.eq_ofNat_of_zero_le h0
  obtain ⟨m, rfl⟩ := Int.eq_ofNat_of_zero_le (show 0 ≤ y by omega)
  cases hq : P.info? e with
  | none => simp [hq] at he
  | some i =>
    have hs : i.size = 1 := by simpa [hq] using he
    have hne : ¬ n = l := by omega
    have hadd : (⟨g, off, none⟩ : Addr).add (l * 1) = ⟨g, off + l, none⟩ := by unfold Addr.add; split <;> simp_all
    simp [Instr.sliceAt, run_underlying hu, Instr.sureAddr, Instr.sliceBounds, Instr.sliceBound, asIntOf, show l ≤ m by omega, show m ≤ n by omega, sizeOf, typeInfo, hq, hs, hne]
    simpa using hadd
theorem run_sliceAt_hi {T n e : Nat} (hu : P.underlying T = some (.array n e)) (he : (P.info? e).map (·.size) = some 1) (g off : Nat) (y : Int) (hn : 0 < n) (h2 : 0 ≤ y) (h3 : y ≤ n) (w : World) :
    (Instr.sliceAt T (.pointer (some ⟨g, off, none⟩)) none (some (.int .i64 y)) none).run P w = .ok (.slice (some ⟨g, off, none⟩) y.toNat n) w := by
  cases hq : P.info? e with
  | none => simp [hq] at he
  | some i =>
    have hs : i.size = 1 := by simpa [hq] using he
    have hne : ¬ n = 0 := by omega
    have hadd : (⟨g, off, none⟩ : Addr).add 0 = ⟨g, off, none⟩ := by unfold Addr.add; split <;> simp_all
    simp [Instr.sliceAt, run_underlying hu, Instr.sureAddr, Instr.sliceBounds, Instr.sliceBound, asIntOf, h2, h3, sizeOf, typeInfo, hq, hs, hne, hadd]
theorem run_sliceAt_all {T n e : Nat} (hu : P.underlying T = some (.array n e)) (he : (P.info? e).map (·.size) = some 1) (g off : Nat) (hn : 0 < n) (w : World) :
    (Instr.sliceAt T (.pointer (some ⟨g, off, none⟩)) none none none).run P w = .ok (.slice (some ⟨g, off, none⟩) n n) w := by
  cases hq : P.info? e with
  | none => simp [hq] at he
  | some i =>
    have hs : i.size = 1 := by simpa [hq] using he
    have hne : ¬ n = 0 := by omega
    have hadd : (⟨g, off, none⟩ : Addr).add 0 = ⟨g, off, none⟩ := by unfold Addr.add; split <;> simp_all
    simp [Instr.sliceAt, run_underlying hu, Instr.sureAddr, Instr.sliceBounds, Instr.sliceBound, asIntOf, sizeOf, typeInfo, hq, hs, hne, hadd]
end

-- results
structure RowTy (P : Program) (ty : TypeId) (n : Nat) : Prop where
  load : ∀ (w : World) (g : Nat) (cs : Array Value) (t : TypeId) (fr : Nat × Nat), hat w g = some (.cells cs t fr) → cs.size = n → (loadVar ty ⟨g, 0, none⟩).run P w = .ok (.agg cs) w
theorem rowTy {P : Program} {n : Nat} {ty : TypeId} {d : TypeDesc} (hu : P.underlying ty = some d) (hd : (match d with | .struct _ | .array _ _ => true | _ => false) = true)
    (hi : (P.info? ty).map (·.size) = some n) : RowTy P ty n :=
  ⟨fun w g cs t fr h hs => run_loadVar_row w g t ty cs fr d h hu hd (by rw [hi, hs])⟩
structure CellTy (P : Program) (ty : TypeId) : Prop where
  load : ∀ (w : World) (a : Addr) (v : Value), w.cell? a = some v → (loadVar ty a).run P w = .ok v w
theorem cellTy {P : Program} {ty : TypeId} {d : TypeDesc} (hu : P.underlying ty = some d) (hd : (match d with | .struct _ | .array _ _ => true | _ => false) = false) : CellTy P ty := by
  refine ⟨fun w a v h => ?_⟩
  have hagg : (isAgg ty).run P w = .ok false w := by
    unfold isAgg
    rw [Sem.run_bind, run_underlying hu w]
    cases d <;> simp_all
  simp [loadVar, Sem.run_bind, hagg, run_load, h]
section
variable {P : Program} {fn : Func} {R : Ending → World → Prop} {a : Act} {w : World}
theorem ret_c {p : Tmp} {ty n : Nat} (hT : RowTy P ty n) (h : fn.results = #[.cell p ty]) {g : Nat} {cs : Array Value}
    (hp : a.tmps.getD p undef = .pointer (some ⟨g, 0, none⟩)) (hh : hat w g = some (.cells cs ty)) (hs : cs.size = n) (hd : a.defers = [])
    (hR : R (.returned (.agg cs)) w) : bodyPost P fn R .ret a w := by
  have hp' : a.tmps[p]?.getD undef = .pointer (some ⟨g, 0, none⟩) := by simpa using hp
  refine ⟨hd, _, ?_, hR⟩
  simp [results, h, hp', asAddr, hT.load w g cs ty (0, 0) hh hs]
theorem ret_ct {p u : Tmp} {ty n : Nat} (hT : RowTy P ty n) (h : fn.results = #[.cell p ty, .tmp u]) {g : Nat} {cs : Array Value}
    (hp : a.tmps.getD p undef = .pointer (some ⟨g, 0, none⟩)) (hh : hat w g = some (.cells cs ty)) (hs : cs.size = n) (hd : a.defers = [])
    (hR : R (.returned (.tuple #[.agg cs, a.tmps.getD u undef])) w) : bodyPost P fn R .ret a w := by
  have hp' : a.tmps[p]?.getD undef = .pointer (some ⟨g, 0, none⟩) := by simpa using hp
  refine ⟨hd, _, ?_, hR⟩
  simp [results, h, hp', asAddr, Result.andThen, hT.load w g cs ty (0, 0) hh hs]
end

end Go.Proofs.YteffoihkljkfdaaDoor

/- A region that draws its order, taken operation by operation: whatever the order, each operation of its first part meets what it needs, and the rest comes behind all of these. -/
namespace Go.Proofs.YteffoihkljkfdaaDoor
set_option linter.unusedSimpArgs false
set_option linter.unusedVariables false
open Go.RowKit

/-- what a slot holds -/
def gt (a : Act) (t : Nat) : Value := a.tmps.getD t undef
theorem gtx {a : Act} {t : Nat} {v : Value} (h : gt a t = v) : a.tmps[t]?.getD undef = v := by simpa [gt] using h
theorem gt_put_ne (a : Act) (d : Option Tmp) (v : Value) (t : Nat) (h : d ≠ some t) : gt (a.put d v) t = gt a t := by
  cases d with
  | none => rfl
  | some d =>
    have hn : d ≠ t := fun e => h (by rw [e])
    simp [gt, Act.put, Array.getElem?_setIfInBounds_ne hn]
theorem gt_put_eq (a : Act) (d : Tmp) (v : Value) (h : d < a.tmps.size) : gt (a.put (some d) v) d = v := by
  simp [gt, Act.put, h]
theorem size_put (a : Act) (d : Option Tmp) (v : Value) : (a.put d v).tmps.size = a.tmps.size := by
  cases d <;> simp [Act.put]
theorem defers_put (a : Act) (d : Option Tmp) (v : Value) : (a.put d v).defers = a.defers := by
  cases d <;> rfl

/-- the slots that a region writes -/
def dsts (l : List Oper) : List Nat := l.filterMap (·.dst)
def Oper.needs (o : Oper) : List Nat := (o.after.toList.filter (Region.binds .any ·)).map (·.on)

/-- closed facts on a region: edges lead back; behind the first N each waits for all ahead of it; no slot is written twice in the first part -/
def regionOk (ops : Array Oper) (N : Nat) : Bool :=
  (ops.toList.zipIdx.all fun (o, i) => (Oper.needs o).all (· < i) && (i < N || (List.range i).all fun j => (Oper.needs o).contains j)) &&
  N ≤ ops.size &&
  ((dsts (ops.toList.take N)).Nodup : Bool)

theorem ready_mem {ops : Array Oper} {L : Array Bool} {i : Nat} (hL : L.size = ops.size) (h : i ∈ Region.ready .any ops L) :
    ∃ o, ops[i]? = some o ∧ L.getD i true = false ∧ ∀ j ∈ Oper.needs o, L.getD j false = true := by
  unfold Region.ready at h
  simp only [List.mem_filter, List.mem_range, Bool.and_eq_true, Bool.not_eq_true'] at h
  obtain ⟨hi, h1, h2⟩ := h
  refine ⟨ops[i], by simp [hi], h1, ?_⟩
  intro j hj
  simp only [Array.getElem?_eq_getElem hi, Option.map_some, Option.getD_some, Array.all_eq_true_iff_forall_mem] at h2
  unfold Oper.needs at hj
  simp only [List.mem_map, List.mem_filter, Array.mem_toList_iff] at hj
  obtain ⟨e, ⟨he, hb⟩, rfl⟩ := hj
  have := h2 e he
  simpa [hb] using this

theorem ready_of {ops : Array Oper} {L : Array Bool} {i : Nat} {o : Oper} (hi : ops[i]? = some o) (h1 : L.getD i true = false) (h2 : ∀ j ∈ Oper.needs o, L.getD j false = true) :
    i ∈ Region.ready .any ops L := by
  unfold Region.ready
  have hlt : i < ops.size := (Array.getElem?_eq_some_iff.1 hi).1
  simp only [List.mem_filter, List.mem_range, Bool.and_eq_true, Bool.not_eq_true', hi, Option.map_some, Option.getD_some, Array.all_eq_true_iff_forall_mem]
  refine ⟨hlt, h1, fun e he => ?_⟩
  by_cases hb : Region.binds .any e = true
  · have := h2 e.on (by unfold Oper.needs; simp only [List.mem_map, List.mem_filter, Array.mem_toList_iff]; exact ⟨e, ⟨he, hb⟩, rfl⟩)
    simp [this]
  · simp [hb]

section
variable {P : Program} {ops : Array Oper} {N : Nat} {Q : Exit → Act → World → Prop}

theorem regionOk_spec (h : regionOk ops N = true) : (∀ i o, ops[i]? = some o → ∀ j ∈ Oper.needs o, j < i) ∧ (∀ i o, ops[i]? = some o → N ≤ i → ∀ j, j < i → j ∈ Oper.needs o) ∧ N ≤ ops.size ∧ (dsts (ops.toList.take N)).Nodup := by
  unfold regionOk at h
  simp only [Bool.and_eq_true, List.all_eq_true, decide_eq_true_eq] at h
  obtain ⟨⟨h1, h2⟩, h3⟩ := h
  have key : ∀ i o, ops[i]? = some o → (∀ x ∈ Oper.needs o, x < i) ∧ (i < N ∨ ∀ j < i, j ∈ Oper.needs o) := by
    intro i o hi
    have := h1 (o, i) (by simp [List.mem_zipIdx_iff_getElem?, hi])
    simpa using this
  refine ⟨fun i o hi => (key i o hi).1, fun i o hi hN j hj => ?_, h2, h3⟩
  rcases (key i o hi).2 with h | h
  · omega
  · exact h j hj

/-- behind the first part there is one order -/
theorem wpAny_tail (hok : regionOk ops N = true) : ∀ (fuel k : Nat) (L : Array Bool) (a : Act) (w : World), N ≤ k → k ≤ ops.size → ops.size - k ≤ fuel → L.size = ops.size →
    (∀ j, j < ops.size → L.getD j true = decide (j < k)) → wpList P ops Q (ops.toList.drop k) a w → wpAny P .any ops Q fuel L a w := by
  obtain ⟨hb, ht, -, -⟩ := regionOk_spec hok
  intro fuel
  induction fuel with
  | zero =>
    intro k L a w hN hk hf hL hLk h
    have : k = ops.size := by omega
    subst this
    refine ⟨?_, by rw [List.drop_of_length_le (by simp)] at h; exact h⟩
    apply List.eq_nil_iff_forall_not_mem.2
    intro i hi
    obtain ⟨o, ho, h1, -⟩ := ready_mem hL hi
    have hlt : i < ops.size := (Array.getElem?_eq_some_iff.1 ho).1
    rw [hLk i hlt] at h1
    simp at h1; omega
  | succ fuel ih =>
    intro k L a w hN hk hf hL hLk h
    refine ⟨?_, ?_⟩
    · intro hr
      by_cases hks : k = ops.size
      · subst hks; rw [List.drop_of_length_le (by simp)] at h; exact h
      · exfalso
        have hlt : k < ops.size := by omega
        have : k ∈ Region.ready .any ops L := by
          refine ready_of (o := ops[k]) (by simp [hlt]) (by rw [hLk k hlt]; simp) ?_
          intro j hj
          have hjk := hb k ops[k] (by simp [hlt]) j hj
          have := hLk j (by omega)
          have hjs : j < L.size := by omega
          simp [hjs] at this ⊢
          rw [this]; simpa using hjk
        rw [hr] at this; simp at this
    · intro i hi
      obtain ⟨o, ho, h1, h2⟩ := ready_mem hL hi
      have hlt : i < ops.size := (Array.getElem?_eq_some_iff.1 ho).1
      have hik : i = k := by
        rw [hLk i hlt] at h1
        simp at h1
        by_cases hgt : k < i
        · exfalso
          have := h2 k (ht i o ho (by omega) k hgt)
          have h3 := hLk k (by omega)
          have hks : k < L.size := by omega
          simp [hks] at this h3
          rw [this] at h3; simp at h3
        · omega
      subst hik
      have hd : ops.toList.drop i = o :: ops.toList.drop (i + 1) := by
        rw [List.drop_eq_getElem_cons (by simpa using hlt)]
        congr 1
        have := (Array.getElem?_eq_some_iff.1 ho).2
        simpa using this
      rw [hd] at h
      have hnext : ∀ a w, wpList P ops Q (ops.toList.drop (i + 1)) a w → wpAny P .any ops Q fuel (L.setIfInBounds i true) a w := by
        intro a w h
        refine ih (i + 1) _ a w (by omega) (by omega) (by omega) (by simpa using hL) ?_ h
        intro j hj
        have := hLk j hj
        have hjs : j < L.size := by omega
        by_cases hji : j = i
        · subst hji; simp [hjs]
        · simp [hjs, Array.getElem_setIfInBounds, Ne.symm hji] at this ⊢
          rw [this]
          simp; omega
      unfold wpOp
      simp only [ho]
      unfold wpList at h
      split
      · rename_i hw
        rw [if_pos hw] at h
        exact h.imp (Oper.wp_mono hnext) id
      · rename_i hw
        rw [if_neg hw] at h
        exact hnext _ _ h

def countF (L : Array Bool) : Nat := L.toList.countP (· == false)
theorem countF_set {L : Array Bool} {i : Nat} (h : L.getD i true = false) : countF (L.setIfInBounds i true) + 1 = countF L := by
  have hi : i < L.size := by
    by_cases hi : i < L.size
    · exact hi
    · simp [hi] at h
  have hv : L.toList[i]'(by simpa using hi) = false := by simpa [hi] using h
  unfold countF
  rw [Array.toList_setIfInBounds]
  have h2 := List.take_append_drop i L.toList
  have h3 : L.toList.drop i = false :: L.toList.drop (i + 1) := by
    rw [List.drop_eq_getElem_cons (by simpa using hi), hv]
  have h4 : L.toList.set i true = L.toList.take i ++ true :: L.toList.drop (i + 1) := by
    rw [List.set_eq_take_append_cons_drop, if_pos (by simpa using hi)]
  rw [h4]
  conv => rhs; rw [← h2, h3]
  simp [List.countP_append, List.countP_cons]
  omega

structure SameBut (ops : Array Oper) (N : Nat) (a a' : Act) : Prop where
  size : a'.tmps.size = a.tmps.size
  defers : a'.defers = a.defers
  other : ∀ t, t ∉ dsts (ops.toList.take N) → gt a' t = gt a t

/-- THE LAW: 'G i v w': what operation i's value is good for, wherever it comes to stand in the order. -/
theorem wp_region_facts {id : Nat} {a : Act} {w : World} (hm : P.follows .mixedOrders = true) (N : Nat) (hok : regionOk ops N = true)
    (hsz : (dsts (ops.toList.take N)).all (· < a.tmps.size) = true)
    (I : World → Prop) (E : World → World → Prop) (G : Nat → Value → World → Prop)
    (h0 : I w.drew)
    (hE : ∀ i v w w', i < N → I w → I w' → E w w' → G i v w → G i v w')
    (hs : ∀ i o, i < N → ops[i]? = some o → ∀ a' w', I w' → SameBut ops N a a' →
      (∀ j ∈ Oper.needs o, ∀ oj d, ops[j]? = some oj → oj.dst = some d → G j (gt a' d) w') →
      wpOp P ops Q i (fun a'' w'' => ∃ v, a'' = a'.put o.dst v ∧ I w'' ∧ E w' w'' ∧ G i v w'') a' w')
    (he : ∀ a' w', I w' → SameBut ops N a a' → (∀ j oj d, j < N → ops[j]? = some oj → oj.dst = some d → G j (gt a' d) w') →
      wpList P ops Q (ops.toList.drop N) a' w') :
    (Code.region id ops true).wp P Q a w := by
  obtain ⟨hb, ht, hNs, hnd⟩ := regionOk_spec hok
  refine wp_region_any hm ?_
  have key : ∀ (fuel : Nat) (L : Array Bool) (a' : Act) (w' : World), L.size = ops.size → countF L ≤ fuel → (∀ j, N ≤ j → j < ops.size → L.getD j true = false) →
      I w' → SameBut ops N a a' → (∀ j oj d, j < N → L.getD j true = true → ops[j]? = some oj → oj.dst = some d → G j (gt a' d) w') → wpAny P .any ops Q fuel L a' w' := by
    intro fuel
    induction fuel with
    | zero =>
      intro L a' w' hL hf htl hI hS hG
      have hall : ∀ j, j < ops.size → L.getD j true = true := by
        intro j hj
        cases hv : L.getD j true with
        | true => rfl
        | false => have := countF_set hv; omega
      have hN : N = ops.size := by
        by_cases h : N < ops.size
        · have := htl N (Nat.le_refl _) h
          rw [hall N h] at this; simp at this
        · omega
      refine wpAny_tail hok 0 N L a' w' (Nat.le_refl _) (by omega) (by omega) hL (fun j hj => by rw [hall j hj]; simp; omega) ?_
      exact he a' w' hI hS (fun j oj d hj ho hd => hG j oj d hj (hall j (by omega)) ho hd)
    | succ fuel ih =>
      intro L a' w' hL hf htl hI hS hG
      by_cases hall : ∀ j, j < N → L.getD j true = true
      · refine wpAny_tail hok (fuel + 1) N L a' w' (Nat.le_refl _) hNs ?_ hL ?_ (he a' w' hI hS (fun j oj d hj ho hd => hG j oj d hj (hall j hj) ho hd))
        · -- the rest are all unlisted
          have : ∀ (n : Nat) (l : List Bool), (∀ j, n ≤ j → j < l.length → l[j]? = some false) → l.length - n ≤ l.countP (· == false) := by
            intro n
            induction n with
            | zero =>
              intro l
              induction l with
              | nil => intro _; simp
              | cons b l ihl =>
                intro h
                have h0 := h 0 (Nat.le_refl _) (by simp)
                simp at h0
                subst h0
                have := ihl (fun j _ hj => by have := h (j + 1) (by omega) (by simp; omega); simpa using this)
                simp at this ⊢
                omega
            | succ n ihn =>
              intro l
              cases l with
              | nil => intro _; simp
              | cons b l =>
                intro h
                have := ihn l (fun j hj hjl => by have := h (j + 1) (by omega) (by simp; omega); simpa using this)
                simp [List.countP_cons] at this ⊢
                omega
          have h2 := this N L.toList (fun j hj hjl => by
            have hjs : j < L.size := by simpa using hjl
            have := htl j hj (by omega)
            simp [hjs] at this ⊢
            exact this)
          unfold countF at hf
          simp at h2
          simp at hf
          omega
        · intro j hj
          by_cases hjN : j < N
          · rw [hall j hjN]; simp [hjN]
          · rw [htl j (by omega) hj]; simp [hjN]
      · refine ⟨?_, ?_⟩
        · intro hr
          exfalso
          -- the least unlisted one is ready
          have hex : ∃ j, j < N ∧ L.getD j true = false := by
            false_or_by_contra
            rename_i hne
            apply hall
            intro j hj
            cases hv : L.getD j true with
            | true => rfl
            | false => exact (hne ⟨j, hj, hv⟩).elim
          have least : ∀ n, (∃ j, j < n ∧ j < N ∧ L.getD j true = false) → ∃ j, j < N ∧ L.getD j true = false ∧ ∀ k, k < j → L.getD k true = true := by
            intro n
            induction n with
            | zero => rintro ⟨j, hj, _⟩; omega
            | succ n ihn =>
              rintro ⟨j, hj, hjN, hv⟩
              by_cases hlow : ∃ k, k < j ∧ L.getD k true = false
              · obtain ⟨k, hk, hkv⟩ := hlow
                exact ihn ⟨k, by omega, by omega, hkv⟩
              · refine ⟨j, hjN, hv, fun k hk => ?_⟩
                cases hkv : L.getD k true with
                | true => rfl
                | false => exact (hlow ⟨k, hk, hkv⟩).elim
          obtain ⟨j0, hj0, hv0⟩ := hex
          obtain ⟨j, hjN, hv, hlow⟩ := least (j0 + 1) ⟨j0, by omega, hj0, hv0⟩
          have hlt : j < ops.size := by omega
          have : j ∈ Region.ready .any ops L := by
            refine ready_of (o := ops[j]) (by simp [hlt]) hv ?_
            intro k hk
            have hkj := hb j ops[j] (by simp [hlt]) k hk
            have h3 := hlow k hkj
            have hks : k < L.size := by omega
            simp [hks] at h3 ⊢
            exact h3
          rw [hr] at this; simp at this
        · intro i hi
          obtain ⟨o, ho, h1, h2⟩ := ready_mem hL hi
          have hlt : i < ops.size := (Array.getElem?_eq_some_iff.1 ho).1
          have hiN : i < N := by
            by_cases h : i < N
            · exact h
            · exfalso
              apply hall
              intro j hj
              have := h2 j (ht i o ho (by omega) j (by omega))
              have hjs : j < L.size := by omega
              simp [hjs] at this ⊢
              exact this
          refine wpOp_mono ?_ (hs i o hiN ho a' w' hI hS ?_)
          · rintro a'' w'' ⟨v, rfl, hI', hE', hGi⟩
            have hidst : ∀ d, o.dst = some d → d ∈ dsts (ops.toList.take N) := by
              intro d hd
              unfold dsts
              refine List.mem_filterMap.2 ⟨o, ?_, hd⟩
              have hv := (Array.getElem?_eq_some_iff.1 ho).2
              rw [List.mem_take_iff_getElem]
              exact ⟨i, by simp; omega, by simpa using hv⟩
            refine ih _ _ _ (by simpa using hL) (by have := countF_set h1; omega) ?_ hI' ?_ ?_
            · intro j hj hjs
              have := htl j hj hjs
              have hjs' : j < L.size := by omega
              simp [hjs', Array.getElem_setIfInBounds, show i ≠ j by omega] at this ⊢
              exact this
            · refine ⟨by rw [size_put]; exact hS.size, by rw [defers_put]; exact hS.defers, ?_⟩
              intro t ht'
              rw [gt_put_ne]
              · exact hS.other t ht'
              · intro e; exact ht' (hidst t e)
            · intro j oj d hj hjL hoj hd
              by_cases hji : j = i
              · subst hji
                rw [ho] at hoj
                have hoe : o = oj := by simpa using hoj
                subst hoe
                rw [hd, gt_put_eq _ _ _ (by rw [hS.size]; simpa using (List.all_eq_true.1 hsz) d (hidst d hd))]
                exact hGi
              · have hjs' : j < L.size := by omega
                have hjL' : L.getD j true = true := by
                  simp [hjs', Array.getElem_setIfInBounds, Ne.symm hji] at hjL ⊢
                  exact hjL
                have hg := hG j oj d hj hjL' hoj hd
                rw [gt_put_ne]
                · exact hE j _ _ _ hj hI hI' hE' hg
                · intro e
                  -- two operations with one slot
                  have hne : ∀ (l : List Oper), (dsts l).Nodup → ∀ (i j : Nat) (oi oj : Oper) (d : Nat), l[i]? = some oi → l[j]? = some oj → oi.dst = some d → oj.dst = some d → i = j := by
                    intro l
                    induction l with
                    | nil => intro _ i j oi oj d hi; simp at hi
                    | cons x l ihl =>
                      intro hnd i j oi oj d hi hj hdi hdj
                      have hnd' : (dsts l).Nodup := by
                        unfold dsts at hnd ⊢
                        rw [List.filterMap_cons] at hnd
                        split at hnd
                        · exact hnd
                        · exact (List.nodup_cons.1 hnd).2
                      have hx : ∀ (j : Nat) (oj : Oper), l[j]? = some oj → oj.dst = some d → x.dst ≠ some d := by
                        intro j oj hj hdj hxd
                        unfold dsts at hnd
                        rw [List.filterMap_cons, hxd] at hnd
                        have := (List.nodup_cons.1 hnd).1
                        apply this
                        exact List.mem_filterMap.2 ⟨oj, List.mem_of_getElem? hj, hdj⟩
                      cases i with
                      | zero =>
                        simp at hi
                        subst hi
                        cases j with
                        | zero => rfl
                        | succ j => simp at hj; exact (hx j oj hj hdj hdi).elim
                      | succ i =>
                        simp at hi
                        cases j with
                        | zero => simp at hj; subst hj; exact (hx i oi hi hdi hdj).elim
                        | succ j => simp at hj; rw [ihl hnd' i j oi oj d hi hj hdi hdj]
                  have := hne (ops.toList.take N) hnd i j o oj d (by simp [List.getElem?_take, hiN, ho]) (by simp [List.getElem?_take, hj, hoj]) e hd
                  exact hji this.symm
          · intro j hj oj d hoj hd
            have hjL := h2 j hj
            have hji := hb i o ho j hj
            have hjs : j < L.size := by omega
            exact hG j oj d (by omega) (by simp [hjs] at hjL ⊢; exact hjL) hoj hd
  refine key ops.size (Array.replicate ops.size false) a { w with drawn := w.drawn + 1 } (by simp) ?_ ?_ h0 ⟨rfl, rfl, fun _ _ => rfl⟩ ?_
  · have := List.countP_le_length (p := (· == false)) (l := (Array.replicate ops.size false).toList)
    unfold countF; simpa using this
  · intro j _ hj; simp [hj]
  · intro j oj d hj hjL
    simp [show j < ops.size by omega] at hjL

/-- the values of a region's first part, laid into the frame -/
def putAll : List Oper → Nat → (Nat → Value) → Act → Act
  | [], _, _, a => a
  | o :: l, i, val, a => putAll l (i + 1) val (a.put o.dst (val i))
theorem putAll_size (l : List Oper) : ∀ (i : Nat) (val : Nat → Value) (a : Act), (putAll l i val a).tmps.size = a.tmps.size := by
  induction l with
  | nil => intro i val a; rfl
  | cons o l ih => intro i val a; rw [putAll, ih, size_put]
theorem putAll_defers (l : List Oper) : ∀ (i : Nat) (val : Nat → Value) (a : Act), (putAll l i val a).defers = a.defers := by
  induction l with
  | nil => intro i val a; rfl
  | cons o l ih => intro i val a; rw [putAll, ih, defers_put]
theorem putAll_gt (l : List Oper) : ∀ (i : Nat) (val : Nat → Value) (a a' : Act) (t : Nat), t < a.tmps.size → (∀ j oj d, l[j]? = some oj → oj.dst = some d → val (i + j) = gt a' d) →
    gt (putAll l i val a) t = if t ∈ dsts l then gt a' t else gt a t := by
  induction l with
  | nil => intro i val a a' t _ _; simp [putAll, dsts]
  | cons o l ih =>
    intro i val a a' t ht h
    rw [putAll, ih (i + 1) val _ a' t (by rw [size_put]; exact ht) (fun j oj d hj hd => by have := h (j + 1) oj d (by simpa using hj) hd; rw [← this]; congr 1; omega)]
    by_cases hin : t ∈ dsts l
    · have : t ∈ dsts (o :: l) := by
        unfold dsts at hin ⊢
        rw [List.filterMap_cons]
        split
        · exact hin
        · exact List.mem_cons_of_mem _ hin
      rw [if_pos hin, if_pos this]
    · rw [if_neg hin]
      by_cases hd : o.dst = some t
      · have : t ∈ dsts (o :: l) := by
          unfold dsts
          rw [List.filterMap_cons, hd]
          exact List.mem_cons_self
        rw [if_pos this, hd, gt_put_eq _ _ _ ht]
        have := h 0 o t (by simp) hd
        simpa using this
      · have : t ∉ dsts (o :: l) := by
          unfold dsts at hin ⊢
          rw [List.filterMap_cons]
          split
          · exact hin
          · rename_i d hdd
            rw [List.mem_cons]
            rintro (rfl | h)
            · exact hd hdd
            · exact hin h
        rw [if_neg this, gt_put_ne _ _ _ _ hd]
theorem act_ext {a b : Act} (h1 : a.tmps.size = b.tmps.size) (h2 : a.defers = b.defers) (h3 : ∀ t, t < a.tmps.size → gt a t = gt b t) : a = b := by
  cases a with
  | mk at_ ad =>
    cases b with
    | mk bt bd =>
      simp only at h1 h2
      subst h2
      congr 1
      apply Array.ext h1
      intro i hi hi2
      have := h3 i hi
      simp [gt, hi, hi2] at this
      exact this

/-- THE LAW, with the frame behind the first part written out by what the values are good for. -/
theorem wp_region_G {id : Nat} {a : Act} {w : World} (hm : P.follows .mixedOrders = true) (N : Nat) (hok : regionOk ops N = true)
    (hsz : (dsts (ops.toList.take N)).all (· < a.tmps.size) = true)
    (I : World → Prop) (E : World → World → Prop) (G : Nat → Value → World → Prop)
    (h0 : I w.drew)
    (hE : ∀ i v w w', i < N → I w → I w' → E w w' → G i v w → G i v w')
    (hs : ∀ i o, i < N → ops[i]? = some o → ∀ a' w', I w' → (∀ t, t ∉ dsts (ops.toList.take N) → gt a' t = gt a t) →
      (∀ j ∈ Oper.needs o, ∀ oj d, ops[j]? = some oj → oj.dst = some d → G j (gt a' d) w') →
      wpOp P ops Q i (fun a'' w'' => ∃ v, a'' = a'.put o.dst v ∧ I w'' ∧ E w' w'' ∧ G i v w'') a' w')
    (he : ∀ val w', I w' → (∀ j oj d, j < N → ops[j]? = some oj → oj.dst = some d → G j (val j) w') →
      wpList P ops Q (ops.toList.drop N) (putAll (ops.toList.take N) 0 val a) w') :
    (Code.region id ops true).wp P Q a w := by
  refine wp_region_facts hm N hok hsz I E G h0 hE (fun i o hi ho a' w' hI hS hF => hs i o hi ho a' w' hI hS.other hF) ?_
  intro a' w' hI hS hF
  let val : Nat → Value := fun j => match ops[j]? with | some oj => (match oj.dst with | some d => gt a' d | none => undef) | none => undef
  have hval : ∀ j oj d, ops[j]? = some oj → oj.dst = some d → val j = gt a' d := by
    intro j oj d hj hd
    simp only [val, hj, hd]
  have hw := he val w' hI (fun j oj d hj ho hd => by rw [hval j oj d ho hd]; exact hF j oj d hj ho hd)
  have hae : a' = putAll (ops.toList.take N) 0 val a := by
    refine act_ext (by rw [putAll_size]; exact hS.size) (by rw [putAll_defers]; exact hS.defers) (fun t ht => ?_)
    rw [putAll_gt (ops.toList.take N) 0 val a a' t (by rw [← hS.size]; exact ht) (fun j oj d hj hd => by
      rw [Nat.zero_add]
      refine hval j oj d ?_ hd
      rw [List.getElem?_take] at hj
      split at hj
      · simpa using hj
      · simp at hj)]
    split
    · rfl
    · rename_i h; exact hS.other t h
  rw [hae]
  exact hw

/-- The same where nothing that was there is written in the first part, and each value is known ahead. -/
theorem wp_region_vals {id : Nat} {a : Act} {w : World} (hm : P.follows .mixedOrders = true) (N : Nat) (hok : regionOk ops N = true)
    (hsz : (dsts (ops.toList.take N)).all (· < a.tmps.size) = true) (vals : Nat → Value)
    (hs : ∀ i o, i < N → ops[i]? = some o → ∀ a' w', Below w.heap.size w w' → (∀ t, t ∉ dsts (ops.toList.take N) → gt a' t = gt a t) →
      (∀ j ∈ Oper.needs o, ∀ oj d, ops[j]? = some oj → oj.dst = some d → gt a' d = vals j) →
      wpOp P ops Q i (fun a'' w'' => a'' = a'.put o.dst (vals i) ∧ Below w.heap.size w w'') a' w')
    (he : ∀ w', Below w.heap.size w w' → wpList P ops Q (ops.toList.drop N) (putAll (ops.toList.take N) 0 vals a) w') :
    (Code.region id ops true).wp P Q a w := by
  refine wp_region_G hm N hok hsz (fun w' => Below w.heap.size w w') (fun _ _ => True) (fun i v _ => v = vals i) ((Below.refl _ _).drew) (fun _ _ _ _ _ _ _ _ h => h) ?_ ?_
  · intro i o hi ho a' w' hI hS hF
    refine wpOp_mono ?_ (hs i o hi ho a' w' hI hS hF)
    rintro a'' w'' ⟨h1, h2⟩
    exact ⟨_, h1, h2, trivial, rfl⟩
  · intro val w' hI hF
    have : putAll (ops.toList.take N) 0 val a = putAll (ops.toList.take N) 0 vals a := by
      have key : ∀ (l : List Oper) (i : Nat) (a : Act), (∀ j oj d, l[j]? = some oj → oj.dst = some d → val (i + j) = vals (i + j)) → putAll l i val a = putAll l i vals a := by
        intro l
        induction l with
        | nil => intro i a _; rfl
        | cons o l ih =>
          intro i a h
          have h0 : a.put o.dst (val i) = a.put o.dst (vals i) := by
            cases hd : o.dst with
            | none => rfl
            | some d => have := h 0 o d (by simp) hd; simp at this; rw [this]
          rw [putAll, putAll, h0]
          exact ih (i + 1) _ (fun j oj d hj hd => by have := h (j + 1) oj d (by simpa using hj) hd; rw [show i + 1 + j = i + (j + 1) by omega]; exact this)
      refine key _ 0 a (fun j oj d hj hd => ?_)
      rw [Nat.zero_add]
      rw [List.getElem?_take] at hj
      split at hj
      · rename_i hjN
        exact hF j oj d hjN (by simpa using hj) hd
      · simp at hj
    rw [this]
    exact he w' hI

-- one operation, whatever the frame
theorem wpOp_val {i : Nat} {o : Oper} {K : Act → World → Prop} {a : Act} {w w1 : World} {v : Value} (ho : ops[i]? = some o) (hg : o.guard = none)
    (hr : (execOp a.eval o).run P w = .ok (.value v) w1) (hk : K (a.put o.dst v) w1) : wpOp P ops Q i K a w := by
  unfold wpOp
  simp only [ho]
  rw [if_pos (by simp [Region.wanted, hg])]
  refine .inl ?_
  unfold Oper.wp
  rw [hr]
  exact hk
theorem wpOp_call {i : Nat} {o : Oper} {K : Act → World → Prop} {a : Act} {w : World} {f : FuncId} {args : Array Value} {R : Ending → World → Prop} (ho : ops[i]? = some o) (hg : o.guard = none)
    (hr : (execOp a.eval o).run P w = .ok (.enter f args) w) (hc : Calls P f args w R) (hk : ∀ e w', R e w' → ∃ v, e = .returned v ∧ K (a.put o.dst v) w') : wpOp P ops Q i K a w := by
  unfold wpOp
  simp only [ho]
  rw [if_pos (by simp [Region.wanted, hg])]
  refine .inl ?_
  unfold Oper.wp
  rw [hr]
  refine hc.mono fun e w' hR => ?_
  obtain ⟨v, rfl, hK⟩ := hk e w' hR
  exact hK
theorem wpOp_load_row {i : Nat} {o : Oper} {K : Act → World → Prop} {a : Act} {w : World} (ty n : Nat) (hT : RowTy P ty n) (x : Operand) (ho : ops[i]? = some o) (hg : o.guard = none) (hop : o.op = .load ty x)
    (g : Nat) (cs : Array Value) {t : TypeId} {fr : Nat × Nat} (hx : a.eval x = .pointer (some ⟨g, 0, none⟩)) (hh : hat w g = some (.cells cs t fr)) (hs : cs.size = n) (hk : K (a.put o.dst (.agg cs)) w) : wpOp P ops Q i K a w := by
  refine wpOp_val ho hg ?_ hk
  unfold execOp
  simp only [hop, hx, Instr.loadAt, Instr.sureAddr, Sem.run_bind, Sem.run_pure, Result.andThen_ok, hT.load w g cs t fr hh hs]
theorem wpOp_load_cell {i : Nat} {o : Oper} {K : Act → World → Prop} {a : Act} {w : World} (ty : TypeId) (hT : CellTy P ty) (x : Operand) (ho : ops[i]? = some o) (hg : o.guard = none) (hop : o.op = .load ty x)
    (g off : Nat) (cs : Array Value) (v : Value) {t : TypeId} {fr : Nat × Nat} (hx : a.eval x = .pointer (some ⟨g, off, none⟩)) (hh : hat w g = some (.cells cs t fr)) (hv : cs[off]? = some v) (hk : K (a.put o.dst v) w) : wpOp P ops Q i K a w := by
  refine wpOp_val ho hg ?_ hk
  unfold execOp
  simp only [hop, hx, Instr.loadAt, Instr.sureAddr, Sem.run_bind, Sem.run_pure, Result.andThen_ok, hT.load w ⟨g, off, none⟩ v ((cell_hat hh off).trans hv)]
theorem wpOp_move {i : Nat} {o : Oper} {K : Act → World → Prop} {a : Act} {w : World} (x : Operand) (ho : ops[i]? = some o) (hg : o.guard = none) (hop : o.op = .move x)
    (v : Value) (hx : a.eval x = v) (hk : K (a.put o.dst v) w) : wpOp P ops Q i K a w := by
  refine wpOp_val ho hg ?_ hk
  unfold execOp
  simp only [hop, hx]
  rfl
theorem wpOp_append_grows {i0 : Nat} {o : Oper} {K : Act → World → Prop} {a : Act} {w : World} (ho : ops[i0]? = some o) (hg : o.guard = none) (s x : Operand) (t : TypeId)
    (hop : o.op = Op.call { callee := Callee.builtin Builtin.append, args := #[s, x], argTypes := #[t, t] })
    (e : TypeId) (i : TypeInfo) (z : Value) (size bytes : Nat) (h1 : P.underlying t = some (.slice e)) (h2 : P.info? e = some i) (h3 : i.zero = some z) (h4 : i.size = size) (h5 : i.bytes = bytes) (h6 : z.cells.size = size) (h7 : 0 < size)
    (b : Addr) (n cap : Nat) (olds : List Value) (hs : a.eval s = .slice (some b) n cap) (hlo : olds.length = n * size) (holds : ∀ j u, olds[j]? = some u → w.cell? (b.add j) = some u)
    (ad : Addr) (m c : Nat) (news : List Value) (hx : a.eval x = .slice (some ad) m c) (hn : news.length = m * size) (hc : ∀ j u, news[j]? = some u → w.cell? (ad.add j) = some u)
    (hfull : cap < n + m) (b1 : n + m ≤ maxLen) (b2 : (n + m) * bytes ≤ 140737488355328)
    (hK : ∀ v' w', w'.ownsRow w.heap.size e size v' (n + m) (olds ++ news) → w.grownBy w' none → K (a.put o.dst v') w') : wpOp P ops Q i0 K a w := by
  obtain ⟨v', w', hrun, r1, r2⟩ := run_append_arg_grows (P := P) w t o.type e i z size bytes h1 h2 h3 h4 h5 h6 h7 b n cap olds hlo holds ad m c news hn hc hfull b1 b2
  refine wpOp_val ho hg (v := v') (w1 := w') ?_ (hK v' w' r1 r2)
  simp [execOp, hop, resolve, invoke, builtin, hs, hx, hrun, Result.andThen]
theorem below_grown {w w' : World} (h : w.grownBy w' none) : Below w.heap.size w w' := (Below.refl _ _).grown h (Nat.le_refl _) (fun k hk => by simp at hk)
end
end Go.Proofs.YteffoihkljkfdaaDoor

/- Operations with a guard in a region that draws. -/
namespace Go.Proofs.YteffoihkljkfdaaDoor
set_option linter.unusedSimpArgs false
set_option linter.unusedVariables false
open Go.RowKit
section
variable {P : Program} {ops : Array Oper} {Q : Exit → Act → World → Prop}
theorem wanted_of {o : Oper} {a : Act} {j d : Nat} {b : Bool} (ho : o.guard = some (j, b)) {oj : Oper} (hj : ops[j]? = some oj) (hd : oj.dst = some d) (h : gt a d = .bool b) : Region.wanted o (yielded ops a.tmps) = true := by
  have h1 : a.tmps[d]? = some (.bool b) := by
    unfold gt at h
    rw [Array.getD_eq_getD_getElem?] at h
    cases hx : a.tmps[d]? with
    | none => rw [hx] at h; cases h
    | some v => rw [hx] at h; exact congrArg some h
  have h2 : yielded ops a.tmps j = some b := by
    unfold yielded
    rw [hj]
    simp [hd, h1]
  simp [Region.wanted, ho, h2]
theorem wanted_free {o : Oper} {a : Act} (ho : o.guard = none) : Region.wanted o (yielded ops a.tmps) = true := by simp [Region.wanted, ho]
theorem wpOp_val_g {i : Nat} {o : Oper} {K : Act → World → Prop} {a : Act} {w w1 : World} {v : Value} (ho : ops[i]? = some o) (hg : Region.wanted o (yielded ops a.tmps) = true)
    (hr : (execOp a.eval o).run P w = .ok (.value v) w1) (hk : K (a.put o.dst v) w1) : wpOp P ops Q i K a w := by
  unfold wpOp
  simp only [ho]
  rw [if_pos hg]
  refine .inl ?_
  unfold Oper.wp
  rw [hr]
  exact hk
theorem wpOp_call_g {i : Nat} {o : Oper} {K : Act → World → Prop} {a : Act} {w : World} {f : FuncId} {args : Array Value} {R : Ending → World → Prop} (ho : ops[i]? = some o) (hg : Region.wanted o (yielded ops a.tmps) = true)
    (hr : (execOp a.eval o).run P w = .ok (.enter f args) w) (hc : Calls P f args w R) (hk : ∀ e w', R e w' → ∃ v, e = .returned v ∧ K (a.put o.dst v) w') : wpOp P ops Q i K a w := by
  unfold wpOp
  simp only [ho]
  rw [if_pos hg]
  refine .inl ?_
  unfold Oper.wp
  rw [hr]
  refine hc.mono fun e w' hR => ?_
  obtain ⟨v, rfl, hK⟩ := hk e w' hR
  exact hK
theorem wpOp_load_row_g {i : Nat} {o : Oper} {K : Act → World → Prop} {a : Act} {w : World} (ty n : Nat) (hT : RowTy P ty n) (x : Operand) (ho : ops[i]? = some o) (hg : Region.wanted o (yielded ops a.tmps) = true) (hop : o.op = .load ty x)
    (g : Nat) (cs : Array Value) {t : TypeId} {fr : Nat × Nat} (hx : a.eval x = .pointer (some ⟨g, 0, none⟩)) (hh : hat w g = some (.cells cs t fr)) (hs : cs.size = n) (hk : K (a.put o.dst (.agg cs)) w) : wpOp P ops Q i K a w := by
  refine wpOp_val_g ho hg ?_ hk
  unfold execOp
  simp only [hop, hx, Instr.loadAt, Instr.sureAddr, Sem.run_bind, Sem.run_pure, Result.andThen_ok, hT.load w g cs t fr hh hs]
theorem wpOp_move_g {i : Nat} {o : Oper} {K : Act → World → Prop} {a : Act} {w : World} (x : Operand) (ho : ops[i]? = some o) (hg : Region.wanted o (yielded ops a.tmps) = true) (hop : o.op = .move x)
    (v : Value) (hx : a.eval x = v) (hk : K (a.put o.dst v) w) : wpOp P ops Q i K a w := by
  refine wpOp_val_g ho hg ?_ hk
  unfold execOp
  simp only [hop, hx]
  rfl
end
end Go.Proofs.YteffoihkljkfdaaDoor

/- What leaves what alone. -/
namespace Go.Proofs.YteffoihkljkfdaaDoor
set_option linter.unusedSimpArgs false
set_option linter.unusedVariables false
open Go.RowKit

/-- nothing but block b has turned -/
theorem turned_hat {w w' : World} {b k : Nat} (h : w.mapTurned w' b) (hk : k ≠ b) (hl : k < w.heap.size) : hat w' k = hat w k := h.grown.block k hl (fun e => hk (by injection e))
/-- nothing but the blocks ex (and new ones) has turned -/
structure Fr (ex : List Nat) (w w' : World) : Prop where
  os : w'.os = w.os
  tape : w'.tape = w.tape
  output : w'.output = w.output
  size : w.heap.size ≤ w'.heap.size
  block : ∀ b, b < w.heap.size → b ∉ ex → hat w' b = hat w b
theorem Fr.refl (ex : List Nat) (w : World) : Fr ex w w := ⟨rfl, rfl, rfl, Nat.le_refl _, fun _ _ _ => rfl⟩
theorem Fr.trans {ex : List Nat} {a b c : World} (h : Fr ex a b) (h2 : Fr ex b c) : Fr ex a c :=
  ⟨h2.os.trans h.os, h2.tape.trans h.tape, h2.output.trans h.output, Nat.le_trans h.size h2.size, fun k hk hn => (h2.block k (Nat.lt_of_lt_of_le hk h.size) hn).trans (h.block k hk hn)⟩
theorem Fr.mono {ex ex' : List Nat} {a b : World} (h : Fr ex a b) (hs : ∀ k ∈ ex, k ∈ ex') : Fr ex' a b :=
  ⟨h.os, h.tape, h.output, h.size, fun k hk hn => h.block k hk fun hm => hn (hs k hm)⟩
theorem fr_below {w w' : World} (h : Below w.heap.size w w') (ex : List Nat) : Fr ex w w' := ⟨h.os, h.tape, h.output, h.size, fun b hb _ => h.block b hb⟩
theorem fr_turned {w w' : World} {b : Nat} (h : w.mapTurned w' b) : Fr [b] w w' :=
  ⟨h.grown.os, h.grown.tape, h.grown.output, h.grown.size, fun k hk hn => turned_hat h (by simpa using hn) hk⟩
theorem fr_grown {w w' : World} {row : Option Nat} (h : w.grownBy w' row) : Fr row.toList w w' :=
  ⟨h.os, h.tape, h.output, h.size, fun k hk hn => h.block k hk (fun e => hn (by rw [← e]; simp))⟩
theorem fr_setCell (w : World) (g i : Nat) (v : Value) : Fr [g] w (w.setCell ⟨g, i, none⟩ v) :=
  ⟨rfl, rfl, rfl, by simp [World.setCell], fun k hk hn => hat_setCell _ ⟨g, i, none⟩ _ _ (by simpa using hn)⟩
theorem fr_drew {ex : List Nat} {a w : World} (h : Fr ex a w) : Fr ex a w.drew := ⟨h.os, h.tape, h.output, h.size, h.block⟩
theorem Fr.below {ex : List Nat} {w w' : World} {B : Nat} (h : Fr ex w w') (hB : B ≤ w.heap.size) (he : ∀ k ∈ ex, B ≤ k) : Below B w w' :=
  ⟨h.os, h.tape, h.output, h.size, fun k hk => h.block k (Nat.lt_of_lt_of_le hk hB) fun hm => by have := he k hm; omega⟩
theorem fr_new (w : World) (o : Obj) (ex : List Nat) : Fr ex w (w.alloc o) := fr_below ((Below.refl w.heap.size w).alloc (Nat.le_refl _) _) _
/-- blocks that came to be since need not be named -/
theorem Fr.past {ex ex' : List Nat} {w w' : World} (h : Fr ex w w') (hs : ∀ k ∈ ex, k ∈ ex' ∨ w.heap.size ≤ k) : Fr ex' w w' :=
  ⟨h.os, h.tape, h.output, h.size, fun b hb hn => h.block b hb fun hm => by
    rcases hs b hm with h1 | h1
    · exact hn h1
    · omega⟩
end Go.Proofs.YteffoihkljkfdaaDoor

/- Maps, whatever their keys and elements. -/
namespace Go.Proofs.YteffoihkljkfdaaDoor
set_option linter.unusedSimpArgs false
set_option linter.unusedVariables false
open Go.RowKit Go.Maps
open Go.WideShapes (sorted_perm)
open Go.WideElems (Fit rd rg pl rd_key rd_val rg_of rd_mk rd_stay other_key)

/-- an element is read as itself -/
def RH (v : Value) : Option (DataW Value × List MemPlace) := some (.held v, [])
def unheld : Option (DataW Value × List MemPlace) → Value
  | some (.held x, _) => x
  | _ => undef
theorem RH_inv {v z : Value} {ps : List MemPlace} (h : RH v = some (.held z, ps)) : v = z := by
  have h1 := congrArg unheld h
  exact h1
/-- how keys are written -/
structure KE (k : TypeId) (κ : Type) where
  kv : κ → Value
  kl : κ → Lit
  ok : κ → Prop
  K : Keyed Tryd.prog k
  key : ∀ {x}, ok x → keyOf Tryd.prog k (kv x) = some (kl x)
  inj : ∀ {x y}, kl x = kl y → x = y
  inv : ∀ {v l}, keyOf Tryd.prog k v = some l → ∃ x, ok x ∧ v = kv x ∧ l = kl x
def i64ok (p : Int) : Prop := -9223372036854775808 ≤ p ∧ p ≤ 9223372036854775807
theorem i64wf {p : Int} (h : i64ok p) : (Lit.int .i64 p).wf = true := by
  unfold i64ok at h
  simp [Lit.wf, IntKind.min, IntKind.max, IntKind.signed, IntKind.bits]; omega
theorem i64wf_ok {p : Int} (h : (Lit.int .i64 p).wf = true) : i64ok p := by
  unfold i64ok
  simp [Lit.wf, IntKind.min, IntKind.max, IntKind.signed, IntKind.bits] at h; omega
def kInt : KE 3 Int where
  kv := Value.int .i64
  kl := Lit.int .i64
  ok := i64ok
  K := int_keyed Tryd.underlying3
  key := fun h => keyOf_int_mk Tryd.underlying3 (i64wf h)
  inj := fun h => by injection h
  inv := fun {v l} h => by
    obtain ⟨x, rfl, rfl, hx⟩ := keyOf_int_inv Tryd.underlying3 h
    exact ⟨x, i64wf_ok hx, rfl, rfl⟩
theorem keyStr_inv {v : Value} {l : Lit} (h : keyOf Tryd.prog 9 v = some l) : ∃ s : ByteArray, s.size ≤ maxLen ∧ v = .string s ∧ l = .string s.data.toList := by
  cases v <;> simp [keyOf, Tryd.underlying9, mapKey] at h
  exact ⟨_, h.1, rfl, h.2.symm⟩
def kStr : KE 9 ByteArray where
  kv := Value.string
  kl := fun s => Lit.string s.data.toList
  ok := fun s => s.size ≤ maxLen
  K := string_keyed Tryd.underlying9
  key := fun {s} h => by simp [keyOf, Tryd.underlying9, mapKey, h]
  inj := fun {x y} h => by
    injection h with h
    cases x; cases y
    simpa using h
  inv := fun {v l} h => keyStr_inv h
section
variable {k e t : TypeId} {κ : Type} (E : KE k κ)
/-- block b is a map of c entries: m -/
def MG (w : World) (b : Nat) (m : κ → Option Value) (c : Nat) : Prop :=
  ∃ D : DataW Value, w.ownsMap Tryd.prog k RH b c D ∧ size D = c ∧ (∀ x, E.ok x → has D (E.kl x) = (m x).isSome ∧ ∀ v, m x = some v → ∀ z, D.atKey (E.kl x) z = .held v) ∧ ∀ x, ¬ E.ok x → m x = none
variable {E} {w : World} {b c : Nat} {m : κ → Option Value}
theorem ownsMap_tight {n : Nat} {D : DataW Value} (h : w.ownsMap Tryd.prog k RH b n D) : w.ownsMap Tryd.prog k RH b (size D) D := by
  obtain ⟨es, clock, h1, h2, h3, rfl⟩ := h
  refine ⟨es, clock, h1, h2, ?_, rfl⟩
  rw [size_eq, length_sorted]; simp
theorem MG.lt (h : MG E w b m c) : b < w.heap.size := by obtain ⟨D, h1, -⟩ := h; exact h1.lt
theorem MG.same {w' : World} (h : MG E w b m c) (he : hat w' b = hat w b) : MG E w' b m c := by
  obtain ⟨D, ⟨es, clock, hb, h1⟩, h2⟩ := h
  exact ⟨D, ⟨es, clock, he.trans hb, h1⟩, h2⟩
theorem MG.fr {w' : World} {ex : List Nat} (h : MG E w b m c) (hf : Fr ex w w') (hn : b ∉ ex) : MG E w' b m c := h.same (hf.block b h.lt hn)
theorem MG.made (w : World) : MG E (w.alloc (.map #[] 0)) w.heap.size (fun _ => none) 0 :=
  ⟨.map [], World.ownsMap_made w _ _ _, rfl, fun x hx => ⟨rfl, fun v h => by cases h⟩, fun _ _ => rfl⟩
theorem MG.okey (h : MG E w b m c) {x : κ} (hx : (m x).isSome) : E.ok x := by
  obtain ⟨D, -, -, -, h4⟩ := h
  by_cases ho : E.ok x
  · exact ho
  · rw [h4 x ho] at hx; cases hx
theorem MG.lookc (h : MG E w b m c) (ht : Tryd.prog.underlying t = some (.map k e)) {z : Value} (hz : (zeroValue e).run Tryd.prog w = .ok z w) {x : κ} (hx : E.ok x) :
    (Instr.lookup t (.map (some b)) (E.kv x) false).run Tryd.prog w = .ok ((m x).getD z) w := by
  obtain ⟨D, h1, -, h3, -⟩ := h
  obtain ⟨v, ps, hr, hv⟩ := h1.lookup E.K ht hz (zd := .held z) (zp := []) rfl (E.key hx)
  obtain ⟨h4, h5⟩ := h3 x hx
  cases hm : m x with
  | none =>
    rw [hm] at h4
    rw [atKey_of_not_has h4] at hv
    rw [hr, RH_inv hv]; rfl
  | some u =>
    rw [h5 u hm] at hv
    rw [hr, RH_inv hv]; rfl
theorem MG.look_ok (h : MG E w b m c) (ht : Tryd.prog.underlying t = some (.map k e)) {z : Value} (hz : (zeroValue e).run Tryd.prog w = .ok z w) {x : κ} (hx : E.ok x) :
    (Instr.lookup t (.map (some b)) (E.kv x) true).run Tryd.prog w = .ok (.tuple #[(m x).getD z, .bool (m x).isSome]) w := by
  obtain ⟨D, h1, -, h3, -⟩ := h
  obtain ⟨v, ps, hr, hv⟩ := h1.look_ok E.K ht hz (zd := .held z) (zp := []) rfl (E.key hx)
  obtain ⟨h4, h5⟩ := h3 x hx
  rw [h4] at hr
  cases hm : m x with
  | none =>
    rw [hm] at h4
    rw [atKey_of_not_has h4] at hv
    rw [hr, RH_inv hv, hm]; rfl
  | some u =>
    rw [h5 u hm] at hv
    rw [hr, RH_inv hv, hm]; rfl
theorem MG.len (h : MG E w b m c) (ht : Tryd.prog.underlying t = some (.map k e)) (ty : TypeId) : (Builtin.len_ #[t] ty #[.map (some b)]).run Tryd.prog w = .ok (.int .i64 c) w := by
  obtain ⟨D, h1, h2, -⟩ := h
  rw [h1.len ht ty, h2]
theorem kl_ne (E : KE k κ) {x y : κ} (h : x ≠ y) : E.kl x ≠ E.kl y := fun e => h (E.inj e)
theorem MG.put [DecidableEq κ] (h : MG E w b m c) (ht : Tryd.prog.underlying t = some (.map k e)) (hc : c < maxLen) {x : κ} (hx : E.ok x) (v : Value) :
    ∃ w', (Instr.mapUpdate t (.map (some b)) (E.kv x) v).run Tryd.prog w = .ok () w' ∧ MG E w' b (fun y => if y = x then some v else m y) (if (m x).isSome then c else c + 1) ∧ w.mapTurned w' b := by
  obtain ⟨D, h1, h2, h3, h4⟩ := h
  have htd := h1.tidy E.K
  have hkx := E.K.key (E.key hx)
  obtain ⟨w', hr, ho, hturn⟩ := h1.store E.K ht hc (E.key hx) (d := .held v) (ps := []) (val := v) rfl
  have hsz := Go.Maps.size_put htd (k := E.kl x) (DataW.held v)
  rw [(h3 x hx).1, h2] at hsz
  have ho2 := ownsMap_tight ho
  rw [hsz] at ho2
  refine ⟨w', hr, ⟨_, ho2, hsz, fun y hy => ?_, fun y hy => ?_⟩, hturn⟩
  · by_cases hyx : y = x
    · subst hyx
      refine ⟨?_, fun u hu z => ?_⟩
      · show has _ _ = (if y = y then some v else m y).isSome
        rw [has_put_same htd.isMap hkx, if_pos rfl]; rfl
      · change (if y = y then some v else m y) = some u at hu
        rw [if_pos rfl] at hu
        rw [atKey_put_same htd.isMap hkx, Option.some.inj hu]
    · show has _ _ = (if y = x then some v else m y).isSome ∧ ∀ u, (if y = x then some v else m y) = some u → _
      rw [has_put_other (kl_ne E hyx), if_neg hyx]
      refine ⟨(h3 y hy).1, fun u hu z => ?_⟩
      rw [atKey_put_other (kl_ne E hyx), (h3 y hy).2 u hu z]
  · have hyx : y ≠ x := fun e => hy (by rw [e]; exact hx)
    show (if y = x then _ else _) = none
    rw [if_neg hyx, h4 y hy]
theorem MG.del [DecidableEq κ] (h : MG E w b m c) (ht : Tryd.prog.underlying t = some (.map k e)) {x : κ} (hx : E.ok x) (ty : TypeId) :
    ∃ w', (Builtin.delete_ #[t, k] ty #[.map (some b), E.kv x]).run Tryd.prog w = .ok (.tuple #[]) w' ∧ MG E w' b (fun y => if y = x then none else m y) (if (m x).isSome then c - 1 else c) ∧ w.mapTurned w' b := by
  obtain ⟨D, h1, h2, h3, h4⟩ := h
  have htd := h1.tidy E.K
  obtain ⟨w', hr, ho, hturn⟩ := h1.drop E.K ht (E.key hx) ty
  have hsz := Go.Maps.size_del htd (k := E.kl x)
  rw [(h3 x hx).1, h2] at hsz
  have hsz2 : size (D.del (E.kl x)) = if (m x).isSome then c - 1 else c := by
    split at hsz <;> rename_i hq
    · rw [if_pos hq]; omega
    · rw [if_neg hq]; omega
  have ho2 := ownsMap_tight ho
  rw [hsz2] at ho2
  refine ⟨w', hr, ⟨_, ho2, hsz2, fun y hy => ?_, fun y hy => ?_⟩, hturn⟩
  · by_cases hyx : y = x
    · subst hyx
      refine ⟨?_, fun u hu z => ?_⟩
      · show has _ _ = (if y = y then none else m y).isSome
        rw [has_del_same, if_pos rfl]; rfl
      · change (if y = y then none else m y) = some u at hu
        rw [if_pos rfl] at hu; cases hu
    · show has _ _ = (if y = x then none else m y).isSome ∧ ∀ u, (if y = x then none else m y) = some u → _
      rw [has_del_other (kl_ne E hyx), if_neg hyx]
      refine ⟨(h3 y hy).1, fun u hu z => ?_⟩
      rw [atKey_del_other (kl_ne E hyx), (h3 y hy).2 u hu z]
  · show (if y = x then _ else _) = none
    split
    · rfl
    · exact h4 y hy
/-- its keys, each once -/
theorem MG.keys (h : MG E w b m c) : ∃ l : List κ, l.Nodup ∧ l.length = c ∧ ∀ x, x ∈ l ↔ (m x).isSome := by
  obtain ⟨D, h1, h2, h3, h4⟩ := h
  obtain ⟨es, clock, hb, F, -, rfl⟩ := h1
  have hp := sorted_perm (es.toList.map (rg Tryd.prog k RH))
  have hpw : ((es.toList.map (rg Tryd.prog k RH)).foldr DataW.insert []).Pairwise (fun p q => p.1 ≠ q.1) := (hp.pairwise_iff (fun {_ _} hne => Ne.symm hne)).2 (fit_apart E.K F)
  have hall : ∀ p ∈ (es.toList.map (rg Tryd.prog k RH)).foldr DataW.insert [], ∃ x, E.ok x ∧ p.1 = E.kl x := fun p hpm => by
    obtain ⟨x, hx, rfl⟩ := List.mem_map.1 (mem_sorted.1 hpm)
    obtain ⟨y, hy⟩ := F.reads x hx
    obtain ⟨q, hq1, -, hq2⟩ := E.inv (rd_key hy)
    exact ⟨q, hq1, by rw [rg_of hy]; exact hq2⟩
  generalize (es.toList.map (rg Tryd.prog k RH)).foldr DataW.insert [] = L at *
  have hL : ∃ l : List κ, l.map E.kl = L.map Prod.fst ∧ ∀ x ∈ l, E.ok x := by
    clear hpw h2 h3 hp hb
    induction L with
    | nil => exact ⟨[], rfl, fun x hx => by cases hx⟩
    | cons p r ih =>
      obtain ⟨l, hl, hl2⟩ := ih (fun q hq => hall q (.tail _ hq))
      obtain ⟨x, hx, hpx⟩ := hall p (.head _)
      exact ⟨x :: l, by rw [List.map_cons, List.map_cons, hl, hpx], fun y hy => by
        rcases List.mem_cons.1 hy with rfl | hy
        · exact hx
        · exact hl2 y hy⟩
  obtain ⟨l, hl, hl2⟩ := hL
  have hmem : ∀ x, x ∈ l ↔ E.kl x ∈ L.map Prod.fst := fun x => by
    rw [← hl, List.mem_map]
    exact ⟨fun h => ⟨x, h, rfl⟩, fun ⟨y, hy, e⟩ => by rw [← E.inj e]; exact hy⟩
  refine ⟨l, ?_, ?_, fun x => ?_⟩
  · have h5 : (L.map Prod.fst).Pairwise (· ≠ ·) := List.pairwise_map.2 hpw
    rw [← hl] at h5
    exact (List.pairwise_map.1 h5).imp (fun h e => h (by rw [e]))
  · rw [← h2, size_eq, ← List.length_map (f := E.kl), hl, List.length_map]
  · rw [hmem]
    have key : E.kl x ∈ L.map Prod.fst ↔ has (.map L) (E.kl x) = true := by
      rw [has_eq, List.any_eq_true]
      constructor
      · intro h
        obtain ⟨p, hp1, hp2⟩ := List.mem_map.1 h
        obtain ⟨y, hy, hpy⟩ := hall p hp1
        exact ⟨p, hp1, by rw [← hp2]; exact WideAt.sameKey_self (by rw [hpy]; exact E.K.key (E.key hy))⟩
      · rintro ⟨p, hp1, hp2⟩
        exact List.mem_map.2 ⟨p, hp1, WideAt.sameKey_eq hp2⟩
    rw [key]
    by_cases ho : E.ok x
    · rw [(h3 x ho).1]
    · rw [h4 x ho]
      refine ⟨fun h => ?_, fun h => by cases h⟩
      obtain ⟨p, hp1, hp2⟩ := List.mem_map.1 (key.2 h)
      obtain ⟨y, hy, hpy⟩ := hall p hp1
      rw [hpy] at hp2
      exact absurd (E.inj hp2 ▸ hy) ho
end
end Go.Proofs.YteffoihkljkfdaaDoor

/- A range over a map, whatever its keys and elements; an entry that is there may be written in a round. -/
namespace Go.Proofs.YteffoihkljkfdaaDoor
set_option linter.unusedSimpArgs false
set_option linter.unusedVariables false
open Go.RowKit Go.Maps
open Go.WideShapes (sorted_perm)
open Go.WideElems (Fit rd rg pl rd_key rd_val rg_of rd_mk rd_stay other_key)
open Go.ChangeMaps (setBlock heap_setBlock_same heap_setBlock_other)

section
variable {k e t : TypeId} {κ : Type} (E : KE k κ)
/-- a range over block b is under way: block r; left: which are to come -/
def MR (w : World) (b r : Nat) (m : κ → Option Value) (c : Nat) (left : κ → Bool) (cnt : Nat) : Prop :=
  ∃ (D : DataW Value) (L : Lit → Bool), w.ranges Tryd.prog k RH b r c D L cnt ∧ size D = c ∧ (∀ x, E.ok x → has D (E.kl x) = (m x).isSome ∧ ∀ v, m x = some v → ∀ z, D.atKey (E.kl x) z = .held v) ∧ (∀ x, ¬ E.ok x → m x = none) ∧
    (∀ x, E.ok x → L (E.kl x) = left x) ∧ (∀ x, ¬ E.ok x → left x = false) ∧ ∀ x, left x = true → (m x).isSome = true
variable {E} {w : World} {b r c cnt : Nat} {m : κ → Option Value} {left : κ → Bool}
theorem MR.mg (h : MR E w b r m c left cnt) : MG E w b m c := by
  obtain ⟨D, L, h1, h2, h3, h4, -⟩ := h
  exact ⟨D, h1.owns, h2, h3, h4⟩
theorem MR.left_eq (h : MR E w b r m c left cnt) : w.rangeLeft b r = cnt := by
  obtain ⟨D, L, h1, -⟩ := h
  exact h1.left_eq
theorem MR.lt (h : MR E w b r m c left cnt) : r < w.heap.size := by
  obtain ⟨D, L, h1, -⟩ := h
  exact h1.lt
theorem MR.ne (h : MR E w b r m c left cnt) : r ≠ b := by
  obtain ⟨D, L, h1, -⟩ := h
  exact h1.ne
theorem MR.sub (h : MR E w b r m c left cnt) : ∀ x, left x = true → (m x).isSome = true := by
  obtain ⟨D, L, -, -, -, -, -, -, h1⟩ := h
  exact h1
theorem MR.same {w' : World} (h : MR E w b r m c left cnt) (hb : hat w' b = hat w b) (hr : hat w' r = hat w r) : MR E w' b r m c left cnt := by
  obtain ⟨D, L, ⟨es, clock, since, seen, c0, h1, h2, h3, h4, h5, h6⟩, h7⟩ := h
  exact ⟨D, L, ⟨es, clock, since, seen, c0, hb.trans h1, h2, h3, h4, hr.trans h5, h6⟩, h7⟩
theorem MR.fr {w' : World} {ex : List Nat} (h : MR E w b r m c left cnt) (hf : Fr ex w w') (hb : b ∉ ex) (hr : r ∉ ex) : MR E w' b r m c left cnt := h.same (hf.block b h.mg.lt hb) (hf.block r h.lt hr)
theorem MG.range (h : MG E w b m c) (ht : Tryd.prog.underlying t = some (.map k e)) :
    ∃ w' cnt, (Instr.range t (.map (some b))).run Tryd.prog w = .ok (.pointer (some ⟨w.heap.size, 0, none⟩)) w' ∧ MR E w' b w.heap.size m c (fun x => (m x).isSome) cnt ∧ w.grownBy w' none ∧ w'.heap.size = w.heap.size + 1 := by
  obtain ⟨D, h1, h2, h3, h4⟩ := h
  obtain ⟨w', hr, hrg, hg, hs⟩ := h1.range E.K ht
  exact ⟨w', _, hr, ⟨D, _, hrg, h2, h3, h4, fun x hx => (h3 x hx).1, fun x hx => by show (m x).isSome = false; rw [h4 x hx]; rfl, fun x hx => hx⟩, hg, hs⟩
theorem sameKey_kl [DecidableEq κ] {x y : κ} (hy : E.ok y) : (E.kl x).sameKey (E.kl y) = decide (x = y) := by
  by_cases h : x = y
  · subst h
    rw [WideAt.sameKey_self (E.K.key (E.key hy))]; simp
  · rw [sameKey_ne (kl_ne E h)]; simp [h]
theorem MR.next [DecidableEq κ] (h : MR E w b r m c left cnt) (ty : TypeId) :
    (cnt = 0 ∧ (∀ x, left x = false) ∧ (Instr.next (.pointer (some ⟨r, 0, none⟩)) false ty).run Tryd.prog w = .ok (.tuple #[.bool false]) w) ∨
    ∃ x v w' cnt', E.ok x ∧ left x = true ∧ m x = some v ∧ (Instr.next (.pointer (some ⟨r, 0, none⟩)) false ty).run Tryd.prog w = .ok (.tuple #[.bool true, E.kv x, v]) w' ∧
      MR E w' b r m c (fun y => left y && !decide (y = x)) cnt' ∧ cnt' < cnt ∧ w.grownBy w' (some r) ∧ w'.heap.size = w.heap.size ∧ (Instr.entry (.pointer (some ⟨r, 0, none⟩))).run Tryd.prog w' = .ok (.tuple #[E.kv x, v]) w' := by
  obtain ⟨D, L, h1, h2, h3, h4, h5, h6, h7⟩ := h
  rcases h1.next E.K ty with ⟨g1, g2, g3⟩ | ⟨key, v, kl, y, w', cnt', g1, g2, g3, g4, g5, g6, g7, g8, g9, g10⟩
  · refine .inl ⟨g1, fun x => ?_, g3⟩
    by_cases hx : E.ok x
    · rw [← h5 x hx]; exact g2 _
    · exact h6 x hx
  · obtain ⟨x, hx, rfl, rfl⟩ := E.inv g1
    have hl : left x = true := by rw [← h5 x hx]; exact g2
    obtain ⟨u, hu⟩ := Option.isSome_iff_exists.1 (h7 x hl)
    have hvu : v = u := by
      have e1 := (h3 x hx).2 u hu (.held undef)
      rw [g4] at e1
      obtain ⟨y1, y2⟩ := y
      change y1 = _ at e1
      rw [e1] at g3
      exact RH_inv g3
    subst hvu
    refine .inr ⟨x, v, w', cnt', hx, hl, hu, g5, ⟨D, _, g6, h2, h3, h4, fun z hz => ?_, fun z hz => ?_, fun z hz => ?_⟩, g7, g8, g9, g10⟩
    · show (L (E.kl z) && !(E.kl z).sameKey (E.kl x)) = _
      rw [h5 z hz, sameKey_kl hx]
    · show (left z && _) = false
      rw [h6 z hz]; rfl
    · have : left z = true := by
        have hz' : (left z && !decide (z = x)) = true := hz
        rw [Bool.and_eq_true] at hz'
        exact hz'.1
      exact h7 z this
theorem MR.del [DecidableEq κ] (h : MR E w b r m c left cnt) (ht : Tryd.prog.underlying t = some (.map k e)) {x : κ} (hx : E.ok x) (ty : TypeId) :
    ∃ w' cnt', (Builtin.delete_ #[t, k] ty #[.map (some b), E.kv x]).run Tryd.prog w = .ok (.tuple #[]) w' ∧ MR E w' b r (fun y => if y = x then none else m y) (if (m x).isSome then c - 1 else c) (fun y => left y && !decide (y = x)) cnt' ∧ cnt' ≤ cnt ∧ w.mapTurned w' b := by
  have hmg := h.mg
  obtain ⟨D, L, h1, h2, h3, h4, h5, h6, h7⟩ := h
  have htd := h1.owns.tidy E.K
  obtain ⟨w', cnt', hr, hrg, hle, hturn⟩ := h1.drop E.K ht (E.key hx) ty
  have hsz := Go.Maps.size_del htd (k := E.kl x)
  rw [(h3 x hx).1, h2] at hsz
  have hsz2 : size (D.del (E.kl x)) = if (m x).isSome then c - 1 else c := by
    split at hsz <;> rename_i hq
    · rw [if_pos hq]; omega
    · rw [if_neg hq]; omega
  have hrg2 : w'.ranges Tryd.prog k RH b r (if (m x).isSome then c - 1 else c) (D.del (E.kl x)) (fun y => L y && !y.sameKey (E.kl x)) cnt' := by
    obtain ⟨es, clock, since, seen, c0, q1, q2, q3, q4, q5⟩ := hrg
    refine ⟨es, clock, since, seen, c0, q1, q2, ?_, q4, q5⟩
    rw [← hsz2, q4, size_eq, length_sorted]; simp
  refine ⟨w', cnt', hr, ⟨_, _, hrg2, hsz2, fun y hy => ?_, fun y hy => ?_, fun y hy => ?_, fun y hy => ?_, fun y hy => ?_⟩, hle, hturn⟩
  · by_cases hyx : y = x
    · subst hyx
      refine ⟨?_, fun u hu z => ?_⟩
      · show has _ _ = (if y = y then none else m y).isSome
        rw [has_del_same, if_pos rfl]; rfl
      · change (if y = y then none else m y) = some u at hu
        rw [if_pos rfl] at hu; cases hu
    · show has _ _ = (if y = x then none else m y).isSome ∧ ∀ u, (if y = x then none else m y) = some u → _
      rw [has_del_other (kl_ne E hyx), if_neg hyx]
      refine ⟨(h3 y hy).1, fun u hu z => ?_⟩
      rw [atKey_del_other (kl_ne E hyx), (h3 y hy).2 u hu z]
  · show (if y = x then _ else _) = none
    split
    · rfl
    · exact h4 y hy
  · show (L (E.kl y) && !(E.kl y).sameKey (E.kl x)) = _
    rw [h5 y hy, sameKey_kl hx]
  · show (left y && _) = false
    rw [h6 y hy]; rfl
  · have hy' : (left y && !decide (y = x)) = true := hy
    rw [Bool.and_eq_true] at hy'
    show (if y = x then none else m y).isSome = true
    have hne : y ≠ x := by simpa using hy'.2
    rw [if_neg hne]
    exact h7 y hy'.1
theorem set_same {α : Type} {l : List α} {j : Nat} {a : α} (h : l[j]? = some a) : l.set j a = l := by
  apply List.ext_getElem?
  intro i
  rw [List.getElem?_set]
  split
  · rename_i e
    subst e
    rw [h]
    have := (List.getElem?_eq_some_iff.1 h).1
    simp [this]
  · rfl
theorem ranges_here {D : DataW Value} {L : Lit → Bool} {n : Nat} (K : Keyed Tryd.prog k) (h : w.ranges Tryd.prog k RH b r n D L cnt) (ht : Tryd.prog.underlying t = some (.map k e)) (hn : size D < maxLen) {key v : Value} {kl : Lit} (hkey : keyOf Tryd.prog k key = some kl) (hh : has D kl = true) :
    ∃ w', (Instr.mapUpdate t (.map (some b)) key v).run Tryd.prog w = .ok () w' ∧ w'.ranges Tryd.prog k RH b r n (D.put kl (.held v)) L cnt ∧ w.mapTurned w' b := by
  have hne := h.ne
  obtain ⟨es, clock, since, seen, c0, hb, F, hs, rfl, hr, hold, hcnt, hl1, hl2, hsc, hsk⟩ := h
  rw [size_eq, length_sorted] at hn
  have hn2 : es.size < maxLen := by simpa using hn
  obtain ⟨es', clock', hrun, F', hput, -, -, -⟩ := Go.Maps.fit_store K ht hb F hn2 (R' := RH) (fun x _ _ z hz => hz) hkey (val := v) (yv := (.held v, [])) rfl
  rcases K.find w hkey es.toList F.keys with ⟨h1, h2⟩ | ⟨j, e0, h1, h2, h3⟩
  · exfalso
    rw [has_eq, List.any_eq_true] at hh
    obtain ⟨p, hp, hpk⟩ := hh
    obtain ⟨x, hx, rfl⟩ := List.mem_map.1 (mem_sorted.1 hp)
    obtain ⟨y, hy⟩ := F.reads x hx
    have e1 := WideAt.sameKey_eq hpk
    rw [rg_of hy] at e1
    exact h2 x hx (K.inj (e1 ▸ rd_key hy) hkey)
  · have hj : es[j]? = some e0 := by simpa using h2
    have hrun2 : (Instr.mapUpdate t (.map (some b)) key v).run Tryd.prog w = .ok () (setBlock w b (.map (es.modify j (fun e' => { e' with key := key, val := v })) clock)) := by
      simp [Instr.mapUpdate, run_underlying ht, MapKept.run_getObj_map hb, K.check w false hkey, h1, hj, h3, K.stays w hkey, MapKept.run_setObj_map _ hb, Result.andThen, setBlock]
    rw [hrun] at hrun2
    have hw : setBlock w b (.map es' clock') = setBlock w b (.map (es.modify j (fun e' => { e' with key := key, val := v })) clock) := by injection hrun2
    have hb1 : (setBlock w b (.map es' clock')).heap[b]? = some (.map es' clock') := heap_setBlock_same hb _
    rw [hw, heap_setBlock_same hb _] at hb1
    injection hb1 with hb1
    injection hb1 with hes hck
    subst hck
    have hlist : es'.toList = es.toList.set j { e0 with key := key, val := v } := by rw [← hes, Array.toList_modify, Go.ChangeMaps.modify_eq_set _ _ _ _ h2]
    have hborn : es'.toList.map (·.born) = es.toList.map (·.born) := by
      rw [hlist, List.map_set]
      exact set_same (by rw [List.getElem?_map, h2]; rfl)
    have hrd0 : (rg Tryd.prog k RH e0).1 = kl := by
      obtain ⟨y, hy⟩ := F.reads e0 (List.mem_of_getElem? h2)
      rw [rg_of hy]
      have e1 := rd_key hy
      rw [h3, hkey] at e1
      exact (Option.some.inj e1).symm
    have hrd1 : (rg Tryd.prog k RH { e0 with key := key, val := v }).1 = kl := by rw [rg_of (rd_mk hkey (R := RH) (val := v) rfl)]
    have who : ∀ x ∈ es'.toList, x = { e0 with key := key, val := v } ∨ x ∈ es.toList := by
      intro x hx
      rw [hlist] at hx
      rcases List.mem_or_eq_of_mem_set hx with h | h
      · exact .inr h
      · exact .inl h
    refine ⟨_, hrun, ⟨es', clock, since, seen, c0, heap_setBlock_same hb _, F', ?_, ?_, (heap_setBlock_other hb _ hne).trans hr, ?_, ?_, ?_, ?_, hsc, hsk⟩, ⟨es, clock, es', clock, hb, rfl⟩⟩
    · have := congrArg List.length hborn
      simp only [List.length_map, Array.length_toList] at this
      omega
    · rw [DataW.put_eq, hput]
    · intro x hx
      rcases who x hx with rfl | h
      · exact hold e0 (List.mem_of_getElem? h2)
      · exact hold x h
    · rw [← hcnt]
      have e1 : ∀ a : Array MapEntry, (leftOf a seen).size = (a.toList.map (·.born)).countP (fun q => !seen.contains q) := fun a => by
        unfold leftOf
        rw [← Array.length_toList, Array.toList_filter, ← List.countP_eq_length_filter, List.countP_map]
        rfl
      rw [e1, e1, hborn]
    · intro x hx
      rcases who x hx with rfl | h
      · rw [hrd1, ← hrd0]
        exact hl1 e0 (List.mem_of_getElem? h2)
      · exact hl1 x h
    · intro q hq
      obtain ⟨x, hx, rfl⟩ := hl2 q hq
      by_cases hxe : (rg Tryd.prog k RH x).1 = kl
      · refine ⟨{ e0 with key := key, val := v }, ?_, by rw [hrd1, hxe]⟩
        rw [hlist]
        exact List.mem_iff_getElem.2 ⟨j, by simpa using (List.getElem?_eq_some_iff.1 h2).1, by simp⟩
      · refine ⟨x, ?_, rfl⟩
        rw [hlist]
        obtain ⟨i, hi⟩ := List.getElem?_of_mem hx
        have hij : j ≠ i := by
          rintro rfl
          rw [h2] at hi
          exact hxe (by rw [← Option.some.inj hi]; exact hrd0)
        exact List.mem_of_getElem? (i := i) (by rw [List.getElem?_set_ne hij]; exact hi)
theorem MR.here [DecidableEq κ] (h : MR E w b r m c left cnt) (ht : Tryd.prog.underlying t = some (.map k e)) (hc : c < maxLen) {x : κ} (hx : E.ok x) (hm : (m x).isSome = true) (v : Value) :
    ∃ w', (Instr.mapUpdate t (.map (some b)) (E.kv x) v).run Tryd.prog w = .ok () w' ∧ MR E w' b r (fun y => if y = x then some v else m y) c left cnt ∧ w.mapTurned w' b := by
  obtain ⟨D, L, h1, h2, h3, h4, h5, h6, h7⟩ := h
  have htd := h1.owns.tidy E.K
  have hkx := E.K.key (E.key hx)
  obtain ⟨w', hr, hrg, hturn⟩ := ranges_here E.K h1 ht (by rw [h2]; exact hc) (E.key hx) (by rw [(h3 x hx).1]; exact hm) (v := v)
  have hsz := Go.Maps.size_put htd (k := E.kl x) (DataW.held v)
  rw [(h3 x hx).1, if_pos hm, h2] at hsz
  refine ⟨w', hr, ⟨_, L, hrg, hsz, fun y hy => ?_, fun y hy => ?_, h5, h6, fun y hy => ?_⟩, hturn⟩
  · by_cases hyx : y = x
    · subst hyx
      refine ⟨?_, fun u hu z => ?_⟩
      · show has _ _ = (if y = y then some v else m y).isSome
        rw [has_put_same htd.isMap hkx, if_pos rfl]; rfl
      · change (if y = y then some v else m y) = some u at hu
        rw [if_pos rfl] at hu
        rw [atKey_put_same htd.isMap hkx, Option.some.inj hu]
    · show has _ _ = (if y = x then some v else m y).isSome ∧ ∀ u, (if y = x then some v else m y) = some u → _
      rw [has_put_other (kl_ne E hyx), if_neg hyx]
      refine ⟨(h3 y hy).1, fun u hu z => ?_⟩
      rw [atKey_put_other (kl_ne E hyx), (h3 y hy).2 u hu z]
  · have hyx : y ≠ x := fun e => hy (by rw [e]; exact hx)
    show (if y = x then _ else _) = none
    rw [if_neg hyx, h4 y hy]
  · show (if y = x then some v else m y).isSome = true
    split
    · rfl
    · exact h7 y hy
end
end Go.Proofs.YteffoihkljkfdaaDoor

/- Maps that may be nil: look-up, range and its step at the operations. -/
namespace Go.Proofs.YteffoihkljkfdaaDoor
set_option linter.unusedSimpArgs false
set_option linter.unusedVariables false
open Go.RowKit Go.Maps

section
variable {k e t : TypeId} {κ : Type} (E : KE k κ)
/-- v is nil, or the map m in block ob -/
def MO (w : World) (v : Value) (ob : Option Nat) (m : κ → Option Value) (c : Nat) : Prop :=
  (v = .map none ∧ ob = none ∧ (∀ x, m x = none) ∧ c = 0) ∨ ∃ b, v = .map (some b) ∧ ob = some b ∧ MG E w b m c
/-- a range over such a one -/
def MRO (w : World) (ob : Option Nat) (r : Nat) (m : κ → Option Value) (c : Nat) (left : κ → Bool) (cnt : Nat) : Prop :=
  (ob = none ∧ hat w r = some (.mapIter none 0 #[] 0) ∧ (∀ x, left x = false) ∧ (∀ x, m x = none) ∧ c = 0) ∨ ∃ b, ob = some b ∧ MR E w b r m c left cnt
variable {E} {w : World} {v : Value} {ob : Option Nat} {r c cnt : Nat} {m : κ → Option Value} {left : κ → Bool}
theorem MO.lt (h : MO E w v ob m c) : ∀ g, ob = some g → g < w.heap.size := by
  rintro g rfl
  rcases h with ⟨-, h, -⟩ | ⟨b, -, h, h2⟩
  · cases h
  · cases h; exact h2.lt
theorem MO.fr {w' : World} {ex : List Nat} (h : MO E w v ob m c) (hf : Fr ex w w') (hn : ∀ g, ob = some g → g ∉ ex) : MO E w' v ob m c := by
  rcases h with h | ⟨b, h1, h2, h3⟩
  · exact .inl h
  · exact .inr ⟨b, h1, h2, h3.fr hf (hn b h2)⟩
theorem MO.map (h : MO E w v ob m c) : v = .map ob := by
  rcases h with ⟨rfl, rfl, -⟩ | ⟨b, rfl, rfl, -⟩ <;> rfl
theorem MRO.lt (h : MRO E w ob r m c left cnt) : r < w.heap.size := by
  rcases h with ⟨-, h, -⟩ | ⟨b, -, h⟩
  · exact hat_lt h
  · exact h.lt
theorem MRO.mo (h : MRO E w ob r m c left cnt) : MO E w (.map ob) ob m c := by
  rcases h with ⟨rfl, -, -, h1, h2⟩ | ⟨b, rfl, h⟩
  · exact .inl ⟨rfl, rfl, h1, h2⟩
  · exact .inr ⟨b, rfl, rfl, h.mg⟩
theorem MRO.fr {w' : World} {ex : List Nat} (h : MRO E w ob r m c left cnt) (hf : Fr ex w w') (hn : ∀ g, ob = some g → g ∉ ex) (hr : r ∉ ex) : MRO E w' ob r m c left cnt := by
  rcases h with ⟨h1, h2, h3⟩ | ⟨b, h1, h2⟩
  · exact .inl ⟨h1, (hf.block r (hat_lt h2) hr).trans h2, h3⟩
  · exact .inr ⟨b, h1, h2.fr hf (hn b h1) hr⟩
theorem MRO.ne (h : MRO E w ob r m c left cnt) : ob ≠ some r := by
  rcases h with ⟨rfl, -⟩ | ⟨b, rfl, h⟩
  · simp
  · intro e
    exact h.ne (Option.some.inj e).symm
theorem MRO.left_eq {b : Nat} (h : MRO E w (some b) r m c left cnt) : w.rangeLeft b r = cnt := by
  rcases h with ⟨h, -⟩ | ⟨b', e, h⟩
  · cases h
  · cases e; exact h.left_eq
theorem MRO.sub (h : MRO E w ob r m c left cnt) : ∀ x, left x = true → (m x).isSome = true := by
  rcases h with ⟨-, -, h, -⟩ | ⟨b, -, h⟩
  · intro x hx; rw [h x] at hx; cases hx
  · exact h.sub
theorem MO.range (h : MO E w v ob m c) (ht : Tryd.prog.underlying t = some (.map k e)) :
    ∃ w' cnt, (Instr.range t v).run Tryd.prog w = .ok (.pointer (some ⟨w.heap.size, 0, none⟩)) w' ∧ MRO E w' ob w.heap.size m c (fun x => (m x).isSome) cnt ∧ Fr [] w w' ∧ w'.heap.size = w.heap.size + 1 := by
  rcases h with ⟨rfl, rfl, h1, h2⟩ | ⟨b, rfl, rfl, h⟩
  · exact ⟨_, 0, run_range_nilMap w t k e ht, .inl ⟨rfl, (hopN w _).1, fun x => by simp [h1 x], h1, h2⟩, fr_new w _ [], by simp⟩
  · obtain ⟨w', cnt, hr, hm, hg, hs⟩ := h.range ht
    exact ⟨w', cnt, hr, .inr ⟨b, rfl, hm⟩, fr_grown hg, hs⟩
theorem MRO.next [DecidableEq κ] (h : MRO E w ob r m c left cnt) (ty : TypeId) :
    ((∀ x, left x = false) ∧ (Instr.next (.pointer (some ⟨r, 0, none⟩)) false ty).run Tryd.prog w = .ok (.tuple #[.bool false]) w) ∨
    ∃ x v w' cnt', E.ok x ∧ left x = true ∧ m x = some v ∧ (Instr.next (.pointer (some ⟨r, 0, none⟩)) false ty).run Tryd.prog w = .ok (.tuple #[.bool true, E.kv x, v]) w' ∧
      MRO E w' ob r m c (fun y => left y && !decide (y = x)) cnt' ∧ cnt' < cnt ∧ Fr [r] w w' ∧ w'.heap.size = w.heap.size ∧ (Instr.entry (.pointer (some ⟨r, 0, none⟩))).run Tryd.prog w' = .ok (.tuple #[E.kv x, v]) w' ∧ ∃ b, ob = some b := by
  rcases h with ⟨rfl, h1, h2, -⟩ | ⟨b, rfl, h⟩
  · refine .inl ⟨h2, ?_⟩
    have h1' : w.heap[r]? = some (.mapIter none 0 #[] 0) := h1
    simp only [Instr.next, getObj, Sem.run_bind, Sem.run, h1', Result.andThen]
    rfl
  · rcases h.next ty with ⟨g1, g2, g3⟩ | ⟨x, v, w', cnt', g1, g2, g3, g4, g5, g6, g7, g8, g9⟩
    · exact .inl ⟨g2, g3⟩
    · exact .inr ⟨x, v, w', cnt', g1, g2, g3, g4, .inr ⟨b, rfl, g5⟩, g6, by simpa using fr_grown g7, g8, g9, b, rfl⟩
theorem MO.lookc (h : MO E w v ob m c) (ht : Tryd.prog.underlying t = some (.map k e)) {z : Value} (hz : (zeroValue e).run Tryd.prog w = .ok z w) {x : κ} (hx : E.ok x) :
    (Instr.lookup t v (E.kv x) false).run Tryd.prog w = .ok ((m x).getD z) w := by
  rcases h with ⟨rfl, rfl, h1, h2⟩ | ⟨b, rfl, rfl, h⟩
  · rw [h1 x]
    exact Go.Maps.look_nil false E.K ht hz (E.key hx)
  · exact h.lookc ht hz hx
theorem MO.look_ok (h : MO E w v ob m c) (ht : Tryd.prog.underlying t = some (.map k e)) {z : Value} (hz : (zeroValue e).run Tryd.prog w = .ok z w) {x : κ} (hx : E.ok x) :
    (Instr.lookup t v (E.kv x) true).run Tryd.prog w = .ok (.tuple #[(m x).getD z, .bool (m x).isSome]) w := by
  rcases h with ⟨rfl, rfl, h1, h2⟩ | ⟨b, rfl, rfl, h⟩
  · rw [h1 x]
    exact Go.Maps.look_nil true E.K ht hz (E.key hx)
  · exact h.look_ok ht hz hx
end
section
variable {k e : TypeId} {κ : Type} {E : KE k κ} {w : World} {v : Value} {ob : Option Nat} {r c cnt : Nat} {m : κ → Option Value} {left : κ → Bool} {ops : Array Oper} {rest : List Oper} {o : Oper} {a : Act} {Q : Exit → Act → World → Prop}
theorem wpList_range_mo (hg : o.guard = none) (x : Operand) (t : TypeId) (hop : o.op = Op.range t x) (ht : Tryd.prog.underlying t = some (.map k e)) (hx : a.eval x = v) (h : MO E w v ob m c)
    (hK : ∀ w' cnt, MRO E w' ob w.heap.size m c (fun x => (m x).isSome) cnt → Fr [] w w' → w'.heap.size = w.heap.size + 1 → wpList Tryd.prog ops Q rest (a.put o.dst (.pointer (some ⟨w.heap.size, 0, none⟩))) w') :
    wpList Tryd.prog ops Q (o :: rest) a w := by
  refine wpList_plain hg fun K' hK' => ?_
  obtain ⟨w', cnt, hrun, r1, r2, r3⟩ := h.range ht
  unfold Oper.wp
  simp [execOp, hop, hx, hrun, Result.andThen]
  exact hK' _ _ (hK w' cnt r1 r2 r3)
theorem wpList_next_mo [DecidableEq κ] (hg : o.guard = none) (it : Operand) (hop : o.op = Op.next it false) (hit : a.eval it = .pointer (some ⟨r, 0, none⟩)) (h : MRO E w ob r m c left cnt)
    (hDone : (∀ x, left x = false) → wpList Tryd.prog ops Q rest (a.put o.dst (.tuple #[.bool false])) w)
    (hMore : ∀ x v w' cnt' b, E.ok x → left x = true → m x = some v → MRO E w' ob r m c (fun y => left y && !decide (y = x)) cnt' → cnt' < cnt → Fr [r] w w' → w'.heap.size = w.heap.size → (Instr.entry (.pointer (some ⟨r, 0, none⟩))).run Tryd.prog w' = .ok (.tuple #[E.kv x, v]) w' → ob = some b →
      wpList Tryd.prog ops Q rest (a.put o.dst (.tuple #[.bool true, E.kv x, v])) w') :
    wpList Tryd.prog ops Q (o :: rest) a w := by
  refine wpList_plain hg fun K' hK' => ?_
  unfold Oper.wp
  rcases h.next o.type with ⟨hl, hrun⟩ | ⟨x, v, w', cnt', g1, g2, g3, hrun, g5, g6, g7, g8, g9, b, g10⟩
  · simp [execOp, hop, hit, hrun, Result.andThen]
    exact hK' _ _ (hDone hl)
  · simp [execOp, hop, hit, hrun, Result.andThen]
    exact hK' _ _ (hMore x v w' cnt' b g1 g2 g3 g5 g6 g7 g8 g9 g10)
end
end Go.Proofs.YteffoihkljkfdaaDoor
