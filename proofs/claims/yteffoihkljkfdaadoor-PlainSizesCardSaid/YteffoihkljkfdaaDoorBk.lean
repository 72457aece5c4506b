/- General laws on rows of cells: loads, stores and new blocks of arrays and structs, taken whole. No program is named here. -/
import Derived.WalkKit
import Derived.WalkSpells
import Derived.WalkLawsBesides
import Derived.Deep.QuietTactic
import Derived.BigQuiet
import Derived.Lib.Hide
import Derived.Laws.CopyOwn
namespace Go.Proofs.YteffoihkljkfdaaDoor
set_option linter.unusedSimpArgs false
set_option linter.unusedVariables false
open Go.RowKit

/-- cells that are numbers of one kind -/
def IV (k : IntKind) (l : List Int) : Array Value := (l.map (Value.int k)).toArray

@[simp] theorem IV_size (k : IntKind) (l : List Int) : (IV k l).size = l.length := by simp [IV]
theorem IV_get? (k : IntKind) (l : List Int) (i : Nat) : (IV k l)[i]? = (l[i]?).map (Value.int k) := by simp [IV]
/-- the number at a place, 0 beyond the end -/
def nth (l : List Int) (i : Nat) : Int := l[i]?.getD 0
theorem nth_getElem {l : List Int} {i : Nat} (h : i < l.length) : l[i] = nth l i := by
  unfold nth; rw [List.getElem?_eq_getElem h]; rfl
theorem nth_getElem? {l : List Int} {i : Nat} (h : i < l.length) : l[i]? = some (nth l i) := by
  rw [List.getElem?_eq_getElem h, nth_getElem h]
theorem nth_ext {l m : List Int} (h : l.length = m.length) (he : ∀ i, i < l.length → nth l i = nth m i) : l = m := by
  apply List.ext_getElem h
  intro i h1 h2
  rw [nth_getElem h1, nth_getElem h2]
  exact he i h1
theorem nth_set {l : List Int} {i j : Nat} {v : Int} (h : i < l.length) : nth (l.set i v) j = if j = i then v else nth l j := by
  unfold nth
  rw [List.getElem?_set]
  by_cases hij : i = j
  · subst hij; simp [h]
  · simp [hij, Ne.symm hij]
theorem nth_beyond {l : List Int} {i : Nat} (h : l.length ≤ i) : nth l i = 0 := by
  unfold nth; rw [List.getElem?_eq_none h]; rfl
theorem nth_append_left {l m : List Int} {i : Nat} (h : i < l.length) : nth (l ++ m) i = nth l i := by
  unfold nth; rw [List.getElem?_append_left h]
theorem nth_append_right {l m : List Int} {i : Nat} (h : l.length ≤ i) : nth (l ++ m) i = nth m (i - l.length) := by
  unfold nth; rw [List.getElem?_append_right h]
@[go_sem, simp] theorem IV_get (k : IntKind) (l : List Int) (i : Nat) (h : i < l.length) : (IV k l)[i]? = some (.int k (nth l i)) := by
  rw [IV_get?, List.getElem?_eq_getElem h, nth_getElem h]; rfl
@[go_sem, simp] theorem IV_getElem (k : IntKind) (l : List Int) (i : Nat) (h : i < (IV k l).size) : (IV k l)[i] = .int k (nth l i) := by
  have h' : i < l.length := by simpa using h
  have := IV_get k l i h'
  rw [Array.getElem?_eq_getElem h] at this
  simpa using this
@[go_sem, simp] theorem IV_set (k : IntKind) (l : List Int) (i : Nat) (v : Int) : (IV k l).setIfInBounds i (.int k v) = IV k (l.set i v) := by
  unfold IV
  apply Array.ext'
  simp
theorem IV_ne (k : IntKind) (l : List Int) (n : Nat) (h : l.length = n + 1) : IV k l ≠ #[] := by
  intro e; have := congrArg Array.size e; simp [h] at this
/-- each is one cell's value -/
def oneAll (cs : Array Value) : Bool := cs.all (·.oneCell')
@[go_sem, simp] theorem IV_one (k : IntKind) (l : List Int) : oneAll (IV k l) = true := by
  simp [oneAll, IV, Value.oneCell']
/-- so many noughts -/
def zl (n : Nat) : List Int := List.replicate n 0
@[go_sem, simp] theorem zl_length (n : Nat) : (zl n).length = n := by simp [zl]
theorem zl_get (n i : Nat) : nth (zl n) i = 0 := by
  unfold nth zl
  rw [List.getElem?_replicate]
  split <;> rfl
@[go_sem] theorem length_set' (l : List Int) (i : Nat) (v : Int) : (l.set i v).length = l.length := by simp
@[go_sem] theorem oneAll_toArray (l : List Value) : oneAll l.toArray = l.all (fun v => v.oneCell') := by simp [oneAll]
@[go_sem] theorem oneCell_int (k : IntKind) (n : Int) : (Value.int k n).oneCell' = true := rfl
@[go_sem] theorem oneCell_bool (b : Bool) : (Value.bool b).oneCell' = true := rfl
@[go_sem] theorem oneCell_string (b : ByteArray) : (Value.string b).oneCell' = true := rfl
@[go_sem] theorem oneCell_pointer (a : Option Addr) : (Value.pointer a).oneCell' = true := rfl
@[go_sem] theorem oneCell_slice (a : Option Addr) (n m : Nat) : (Value.slice a n m).oneCell' = true := rfl
@[go_sem] theorem oneCell_func (f : Fn) (a b : Array Value) : (Value.func f a b).oneCell' = true := rfl
theorem IV_inj {k : IntKind} {l m : List Int} (h : IV k l = IV k m) : l = m := by
  have h1 := congrArg Array.toList h
  simp only [IV] at h1
  have h2 : ∀ (l m : List Int), l.map (Value.int k) = m.map (Value.int k) → l = m := by
    intro l
    induction l with
    | nil => intro m h; cases m with | nil => rfl | cons a m => simp at h
    | cons a l ih => intro m h; cases m with
      | nil => simp at h
      | cons b m => simp at h; rw [h.1, ih m (by simpa using h.2)]
  exact h2 l m h1
theorem IV_extract (k : IntKind) (l : List Int) (a b : Nat) : (IV k l).extract a b = IV k ((l.drop a).take (b - a)) := by
  unfold IV
  apply Array.ext'
  simp [List.extract_eq_take_drop, List.map_drop, List.map_take]

/-- what lies at a block's number -/
def hat (w : World) (g : Nat) : Option Obj := w.heap[g]?

/-- a whole variable is loaded -/
def Ld (_n : Nat) (ty : TypeId) (a : Addr) : Sem Value := loadVar ty a
def ldRow (raw : Result Value) (n off : Nat) (w : World) : Option Obj → Result Value
  | some (.cells cs _ _) => if off + n ≤ cs.size then .ok (.agg (cs.extract off (off + n))) w else raw
  | _ => raw
theorem ldRow_full {raw : Result Value} {n : Nat} {w : World} {cs : Array Value} {t : TypeId} {fr : Nat × Nat} (h : cs.size = n) :
    ldRow raw n 0 w (some (.cells cs t fr)) = .ok (.agg cs) w := by
  subst h; simp [ldRow]
theorem ldRow_part {raw : Result Value} {n off : Nat} {w : World} {cs : Array Value} {t : TypeId} {fr : Nat × Nat} (h : off + n ≤ cs.size) :
    ldRow raw n off w (some (.cells cs t fr)) = .ok (.agg (cs.extract off (off + n))) w := by
  simp [ldRow, h]

def rawL (P : Program) (ty : TypeId) (a : Addr) (w : World) : Result Value := (loadVar ty a).run P w
def rawS (P : Program) (ty : TypeId) (a : Addr) (v : Value) (w : World) : Result Unit := (storeVar ty a v).run P w

@[go_sem] theorem ldRow_mul {raw : Result Value} {n k : Nat} {w : World} {cs : Array Value} {t : TypeId} {fr : Nat × Nat} (h : k * n + n ≤ cs.size) :
    ldRow raw n (k * n) w (some (.cells cs t fr)) = .ok (.agg (cs.extract (k * n) (k * n + n))) w := ldRow_part h

section
variable {P : Program}
theorem run_Ld {n : Nat} {ty : TypeId} {d : TypeDesc} (hu : P.underlying ty = some d) (hd : (match d with | .struct _ | .array _ _ => true | _ => false) = true)
    (hi : (P.info? ty).map (·.size) = some n) (g off : Nat) (w : World) :
    (Ld n ty ⟨g, off, none⟩).run P w = ldRow (rawL P ty ⟨g, off, none⟩ w) n off w (hat w g) := by
  unfold rawL hat
  unfold ldRow Ld
  split
  · rename_i cs t fr hg
    split
    · rename_i hle
      have hl : (loadCells ⟨g, off, none⟩ (cs.extract off (off + n)).toList.length).run P w = .ok (cs.extract off (off + n)).toList.toArray w :=
        run_loadCells_list (P := P) w ⟨g, off, none⟩ (cs.extract off (off + n)).toList (fun j v hv => by
          have hadd : (⟨g, off, none⟩ : Addr).add j = ⟨g, off + j, none⟩ := by unfold Addr.add; split <;> simp_all
          rw [hadd, cell_of_row w g (off + j) cs t fr hg]
          rw [Array.getElem?_toList, Array.getElem?_extract] at hv
          split at hv <;> simp_all)
      cases hq : P.info? ty with
      | none => simp [hq] at hi
      | some i =>
        have hs : i.size = n := by simpa [hq] using hi
        have hagg : (isAgg ty).run P w = .ok true w := by
          unfold isAgg
          rw [Sem.run_bind, run_underlying hu w]
          cases d <;> simp_all
        have hlen : (cs.extract off (off + n)).size = n := by simp; omega
        simp only [Array.length_toList, Array.toArray_toList, hlen] at hl
        simp [loadVar, Sem.run_bind, hagg, sizeOf, typeInfo, hq, hs, hl]
    · rfl
  · rfl

/-- a whole variable is stored -/
def St (_n : Nat) (ty : TypeId) (a : Addr) (v : Value) : Sem Unit := storeVar ty a v
def splice (old : Array Value) (off : Nat) (cs : Array Value) : Array Value := (old.toList.take off ++ cs.toList ++ old.toList.drop (off + cs.size)).toArray
@[simp] theorem splice_size (old : Array Value) (off : Nat) (cs : Array Value) (h : off + cs.size ≤ old.size) : (splice old off cs).size = old.size := by
  simp [splice]; omega
theorem splice_full (old : Array Value) (cs : Array Value) (h : cs.size = old.size) : splice old 0 cs = cs := by
  apply Array.ext'; simp [splice]; omega
def stRow (raw : Result Unit) (n off g : Nat) (cs : Array Value) (w : World) : Option Obj → Result Unit
  | some (.cells old _ (0, 0)) => if off + n ≤ old.size ∧ cs.size = n ∧ oneAll cs = true then .ok () (w.setRow g (splice old off cs)) else raw
  | _ => raw
theorem stRow_full {raw : Result Unit} {n g : Nat} {cs old : Array Value} {w : World} {t : TypeId} (h : old.size = n) (h1 : cs.size = n) (h2 : oneAll cs = true) :
    stRow raw n 0 g cs w (some (.cells old t (0, 0))) = .ok () (w.setRow g cs) := by
  show (if 0 + n ≤ old.size ∧ cs.size = n ∧ oneAll cs = true then Result.ok () (w.setRow g (splice old 0 cs)) else raw) = _
  rw [if_pos ⟨by omega, h1, h2⟩, splice_full old cs (by omega)]
theorem stRow_part {raw : Result Unit} {n off g : Nat} {cs old : Array Value} {w : World} {t : TypeId} (h : off + n ≤ old.size) (h1 : cs.size = n) (h2 : oneAll cs = true) :
    stRow raw n off g cs w (some (.cells old t (0, 0))) = .ok () (w.setRow g (splice old off cs)) := by
  show (if off + n ≤ old.size ∧ cs.size = n ∧ oneAll cs = true then Result.ok () (w.setRow g (splice old off cs)) else raw) = _
  rw [if_pos ⟨h, h1, h2⟩]

theorem run_storeCells_at (g off : Nat) (t : TypeId) : ∀ (vs : List Value) (i : Nat) (cur : Array Value) (w : World), w.heap[g]? = some (.cells cur t (0, 0)) → off + i + vs.length ≤ cur.size → (∀ v ∈ vs, v.oneCell' = true) →
    (storeCells ⟨g, off, none⟩ vs i).run P w = .ok () (w.setRow g (cur.toList.take (off + i) ++ vs ++ cur.toList.drop (off + i + vs.length)).toArray)
  | [], i, cur, w, hg, hl, _ => by
    have hlt : g < w.heap.size := (Array.getElem?_eq_some_iff.1 hg).1
    have hv : w.heap[g] = .cells cur t (0, 0) := (Array.getElem?_eq_some_iff.1 hg).2
    simp only [storeCells, List.append_nil, List.length_nil, Nat.add_zero, List.take_append_drop, Array.toArray_toList]
    show Result.ok () w = _
    congr 1
    unfold World.setRow
    cases w with
    | mk heap tape drawn os output =>
      congr 1
      apply Array.ext
      · simp
      · intro k h1 h2
        simp only [Array.getElem_modify]
        split
        · rename_i hk; subst hk; simp at hv; simp [hv]
        · rfl
  | v :: rest, i, cur, w, hg, hl, h1 => by
    have hi : off + i < cur.size := by simp at hl; omega
    have hadd : (⟨g, off, none⟩ : Addr).add i = ⟨g, off + i, none⟩ := by unfold Addr.add; split <;> simp_all
    have hcell : w.cell? ⟨g, off + i, none⟩ = some cur[off + i] := by simp [World.cell?, hg, hi]
    have hfro : w.frozen? ⟨g, off + i, none⟩ = false := by simp [World.frozen?, hg]
    have hst : (store ((⟨g, off, none⟩ : Addr).add i) v).run P w = .ok () (w.setRow g (cur.setIfInBounds (off + i) v)) := by
      rw [hadd, run_store P w _ v _ (h1 v (by simp)), hcell]
      simp [hfro, setCell_eq_setRow w g (off + i) cur t (0, 0) v hg]
    have ih := run_storeCells_at g off t rest (i + 1) (cur.setIfInBounds (off + i) v) (w.setRow g (cur.setIfInBounds (off + i) v)) (setRow_heap w g cur _ t _ hg) (by simp at hl ⊢; omega) (fun x hx => h1 x (by simp [hx]))
    simp only [storeCells, Sem.run_bind, hst, Result.andThen_ok, ih, setRow_setRow]
    congr 3
    apply List.ext_getElem?
    intro k
    simp only [Array.toList_setIfInBounds, List.getElem?_append, List.length_append, List.length_take, List.length_set, Array.length_toList, List.length_cons, List.getElem?_take, List.getElem?_drop, List.getElem?_set]
    simp only [List.length_cons] at hl
    have e1 : min (off + (i + 1)) cur.size = off + i + 1 := by omega
    have e2 : min (off + i) cur.size = off + i := by omega
    rw [e1, e2]
    by_cases hk : k < off + i
    · simp [hk, show k < off + i + 1 by omega, show off + i ≠ k by omega, show k < off + i + 1 + rest.length by omega, show k < off + i + (rest.length + 1) by omega, show k < off + (i + 1) by omega]
    · by_cases hk2 : k = off + i
      · subst hk2
        simp [show off + i < cur.size by omega, show off + i < off + i + 1 + rest.length by omega, show off + i < off + (i+1) by omega]
      · by_cases hk3 : k < off + i + 1 + rest.length
        · simp [hk, hk3, show ¬ k < off + i + 1 by omega, show k < off + i + (rest.length + 1) by omega, show k - (off + i) = (k - (off + i + 1)) + 1 by omega]
        · simp [hk3, show ¬ k < off + i + (rest.length + 1) by omega]
          rw [if_neg (by omega)]
          congr 1; omega

theorem run_St {n : Nat} {ty : TypeId} (hi : (P.info? ty).map (·.size) = some n) (g off : Nat) (cs : Array Value) (w : World) :
    (St n ty ⟨g, off, none⟩ (.agg cs)).run P w = stRow (rawS P ty ⟨g, off, none⟩ (.agg cs) w) n off g cs w (hat w g) := by
  unfold rawS hat
  unfold stRow St
  split
  · rename_i old t hg
    split
    · rename_i h
      obtain ⟨h1, h2, h3⟩ := h
      have := run_storeCells_at (P := P) g off t cs.toList 0 old w hg (by simp; omega) (fun v hv => (Array.all_eq_true_iff_forall_mem.1 h3) v (by simpa using hv))
      cases hq : P.info? ty with
      | none => simp [hq] at hi
      | some i =>
        have hs : cs.size = i.size := by simp [hq] at hi; omega
        simp only [storeVar, sizeOf, typeInfo, Sem.run_bind, run_program, Result.andThen_ok, hq, Sem.run_pure, Value.cells, hs, ne_eq, not_true_eq_false, if_false, this, Nat.add_zero]
        simp [splice, hs]
    · rfl
  · rfl
end

-- worlds
@[go_sem] theorem hat_alloc_at (w : World) (o : Obj) (n : Nat) (h : n = w.heap.size) : hat (w.alloc o) n = some o := by subst h; exact heap_alloc_new w o
@[go_sem] theorem hat_alloc_past (w : World) (o : Obj) (n : Nat) (h : n < w.heap.size) : hat (w.alloc o) n = hat w n := Below.heap_alloc w o n h
@[go_sem] theorem hat_drew (w : World) (n : Nat) : hat w.drew n = hat w n := rfl
theorem hat_setRow (w : World) (g n : Nat) (cs : Array Value) (h : n ≠ g) : hat (w.setRow g cs) n = hat w n := setRow_other w g n cs h
theorem hat_setCell (w : World) (a : Addr) (v : Value) (n : Nat) (h : n ≠ a.block) : hat (w.setCell a v) n = hat w n := Below.heap_setCell w a v n h
@[go_sem] theorem hat_drewN (w : World) (m n : Nat) : hat (w.drewN m) n = hat w n := rfl
@[go_sem] theorem size_drewN (w : World) (m : Nat) : (w.drewN m).heap.size = w.heap.size := rfl
theorem below_drewN {B : Nat} {a w : World} (h : Below B a w) (n : Nat) : Below B a (w.drewN n) := ⟨h.os, h.tape, h.output, h.size, h.block⟩
@[go_sem] theorem hat_setRow_lt (w : World) (g n : Nat) (cs : Array Value) (h : n < g) : hat (w.setRow g cs) n = hat w n := setRow_other w g n cs (Nat.ne_of_lt h)
@[go_sem] theorem hat_setRow_gt (w : World) (g n : Nat) (cs : Array Value) (h : g < n) : hat (w.setRow g cs) n = hat w n := setRow_other w g n cs (Nat.ne_of_gt h)
@[go_sem] theorem hat_setCell_lt (w : World) (g i : Nat) (v : Value) (n : Nat) (h : n < g) : hat (w.setCell ⟨g, i, none⟩ v) n = hat w n := Below.heap_setCell w _ v n (Nat.ne_of_lt h)
@[go_sem] theorem hat_setCell_gt (w : World) (g i : Nat) (v : Value) (n : Nat) (h : g < n) : hat (w.setCell ⟨g, i, none⟩ v) n = hat w n := Below.heap_setCell w _ v n (Nat.ne_of_gt h)
theorem hat_setRow_at (w : World) (g : Nat) (cs old : Array Value) (t : TypeId) (fr : Nat × Nat) (h : hat w g = some (.cells old t fr)) : hat (w.setRow g cs) g = some (.cells cs t fr) := setRow_heap w g old cs t fr h
theorem hat_setCell_at (w : World) (g i : Nat) (v : Value) (old : Array Value) (t : TypeId) (fr : Nat × Nat) (h : hat w g = some (.cells old t fr)) : hat (w.setCell ⟨g, i, none⟩ v) g = some (.cells (old.setIfInBounds i v) t fr) := by
  rw [setCell_eq_setRow w g i old t fr v h]; exact setRow_heap w g old _ t fr h
theorem cell_hat {w : World} {g : Nat} {cs : Array Value} {t : TypeId} {fr : Nat × Nat} (h : hat w g = some (.cells cs t fr)) (i : Nat) : w.cell? ⟨g, i, none⟩ = cs[i]? := cell_of_row w g i cs t fr h
theorem frozen_hat {w : World} {g : Nat} {cs : Array Value} {t : TypeId} (h : hat w g = some (.cells cs t)) (i : Nat) : w.frozen? ⟨g, i, none⟩ = false := frozen_of_row w g i cs t h
theorem hat_lt {w : World} {g : Nat} {o : Obj} (h : hat w g = some o) : g < w.heap.size := (Array.getElem?_eq_some_iff.1 h).1
theorem hat_below {B : Nat} {w w' : World} (h : Below B w w') {k : Nat} (hk : k < B) : hat w' k = hat w k := h.block k hk

@[go_sem] theorem setRow_alloc_at (w : World) (c cs : Array Value) (t : TypeId) (fr : Nat × Nat) (n : Nat) (h : n = w.heap.size) :
    (w.alloc (.cells c t fr)).setRow n cs = w.alloc (.cells cs t fr) := by
  subst h
  unfold World.setRow World.alloc
  congr 1
  apply Array.ext_getElem?
  intro k
  simp only [Array.getElem?_modify, Array.getElem?_push]
  by_cases hk : k = w.heap.size
  · simp [hk]
  · simp [hk, Ne.symm hk]
@[go_sem] theorem setRow_alloc_past (w : World) (o : Obj) (cs : Array Value) (n : Nat) (h : n < w.heap.size) :
    (w.alloc o).setRow n cs = (w.setRow n cs).alloc o := by
  unfold World.setRow World.alloc
  congr 1
  apply Array.ext_getElem?
  intro k
  simp only [Array.getElem?_modify, Array.getElem?_push, Array.size_modify]
  by_cases hk : k = w.heap.size
  · subst hk; simp [Nat.ne_of_lt h]
  · simp [hk]
@[go_sem] theorem setRow_drew (w : World) (g : Nat) (cs : Array Value) : w.drew.setRow g cs = (w.setRow g cs).drew := rfl
@[go_sem] theorem setRow_size' (w : World) (g : Nat) (cs : Array Value) : (w.setRow g cs).heap.size = w.heap.size := by simp
attribute [go_sem] ldRow_full stRow_full

/-- 'Below' over a row that is stored -/
theorem below_setRow {B : Nat} {a w : World} (h : Below B a w) {g : Nat} (hp : B ≤ g) (cs : Array Value) : Below B a (w.setRow g cs) :=
  h.trans ⟨rfl, rfl, rfl, by simp, fun k hk => setRow_other _ _ _ _ (by omega)⟩

def rowObj (cs : Array Value) : Option Obj → Option Obj
  | some (.cells _ t fr) => some (.cells cs t fr)
  | o => o
def cellObj (i : Nat) (v : Value) : Option Obj → Option Obj
  | some (.cells c t fr) => some (.cells (c.setIfInBounds i v) t fr)
  | o => o
@[go_sem] theorem rowObj_cells (cs c : Array Value) (t : TypeId) (fr : Nat × Nat) : rowObj cs (some (.cells c t fr)) = some (.cells cs t fr) := rfl
@[go_sem] theorem cellObj_cells (i : Nat) (v : Value) (c : Array Value) (t : TypeId) (fr : Nat × Nat) : cellObj i v (some (.cells c t fr)) = some (.cells (c.setIfInBounds i v) t fr) := rfl
@[go_sem] theorem hat_setRow_same (w : World) (g : Nat) (cs : Array Value) : hat (w.setRow g cs) g = rowObj cs (hat w g) := by
  unfold hat World.setRow
  simp only [Array.getElem?_modify, if_true]
  cases w.heap[g]? with
  | none => rfl
  | some o => cases o <;> rfl
@[go_sem] theorem hat_setCell_same (w : World) (g i : Nat) (v : Value) : hat (w.setCell ⟨g, i, none⟩ v) g = cellObj i v (hat w g) := by
  unfold hat World.setCell
  simp only [Array.getElem?_modify, if_true]
  cases w.heap[g]? with
  | none => rfl
  | some o => cases o <;> rfl

def cellOf (i : Nat) : Option Obj → Option Value
  | some (.cells c _ _) => c[i]?
  | _ => none
def frozenOf (i : Nat) : Option Obj → Bool
  | some (.cells _ _ (lo, hi)) => lo ≤ i && i < hi
  | _ => false
@[go_sem] theorem cellOf_cells (i : Nat) (c : Array Value) (t : TypeId) (fr : Nat × Nat) : cellOf i (some (.cells c t fr)) = c[i]? := rfl
@[go_sem] theorem frozenOf_cells (i : Nat) (c : Array Value) (t : TypeId) : frozenOf i (some (.cells c t (0, 0))) = false := by
  show (decide (0 ≤ i) && decide (i < 0)) = false
  simp
@[go_sem ↓] theorem cell?_of_hat (w : World) (g i : Nat) : w.cell? ⟨g, i, none⟩ = cellOf i (hat w g) := by
  unfold World.cell? hat cellOf
  cases w.heap[g]? with
  | none => rfl
  | some o => cases o <;> rfl
@[go_sem ↓] theorem frozen?_of_hat (w : World) (g i : Nat) : w.frozen? ⟨g, i, none⟩ = frozenOf i (hat w g) := by
  unfold World.frozen? hat frozenOf
  cases w.heap[g]? with
  | none => rfl
  | some o => cases o <;> rfl

/-- a block that stands stays behind a call that writes new memory alone -/
theorem hop {w w' : World} (h : Below w.heap.size w w') {k : Nat} {o : Obj} (hk : hat w k = some o) : hat w' k = some o ∧ k < w'.heap.size := by
  have hl := hat_lt hk
  exact ⟨(hat_below h hl).trans hk, Nat.lt_of_lt_of_le hl h.size⟩
theorem hopA (w : World) (n : Obj) {k : Nat} {o : Obj} (hk : hat w k = some o) : hat (w.alloc n) k = some o ∧ k < (w.alloc n).heap.size := by
  have hl := hat_lt hk
  exact ⟨(hat_alloc_past _ _ _ hl).trans hk, by simp only [World.size_alloc]; omega⟩
theorem hopN (w : World) (n : Obj) : hat (w.alloc n) w.heap.size = some n ∧ w.heap.size < (w.alloc n).heap.size := ⟨hat_alloc_at _ _ _ rfl, by simp only [World.size_alloc]; omega⟩
theorem hopS {w : World} {g : Nat} {old : Array Value} {t : TypeId} {fr : Nat × Nat} (h : hat w g = some (.cells old t fr)) (cs : Array Value) : hat (w.setRow g cs) g = some (.cells cs t fr) ∧ g < (w.setRow g cs).heap.size :=
  ⟨hat_setRow_at _ _ _ _ _ _ h, by simpa using hat_lt h⟩
theorem hopR {w : World} {k : Nat} {o : Obj} (h : hat w k = some o) (g : Nat) (cs : Array Value) (hne : k ≠ g) : hat (w.setRow g cs) k = some o ∧ k < (w.setRow g cs).heap.size :=
  ⟨(hat_setRow _ _ _ _ hne).trans h, by simpa using hat_lt h⟩
theorem hopC {w : World} {g : Nat} {k : IntKind} {l : List Int} {t : TypeId} {fr : Nat × Nat} (h : hat w g = some (.cells (IV k l) t fr)) (i : Nat) (v : Int) : hat (w.setCell ⟨g, i, none⟩ (.int k v)) g = some (.cells (IV k (l.set i v)) t fr) ∧ g < (w.setCell ⟨g, i, none⟩ (.int k v)).heap.size :=
  ⟨by rw [hat_setCell_at _ _ _ _ _ _ _ h, IV_set], by simpa using hat_lt h⟩
theorem hopCo {w : World} {k : Nat} {o : Obj} (h : hat w k = some o) (g i : Nat) (v : Value) (hne : k ≠ g) : hat (w.setCell ⟨g, i, none⟩ v) k = some o ∧ k < (w.setCell ⟨g, i, none⟩ v).heap.size :=
  ⟨(hat_setCell _ _ _ _ hne).trans h, by simpa using hat_lt h⟩
theorem below_call {B : Nat} {w w1 w2 : World} (h : Below B w w1) (h2 : Below w1.heap.size w1 w2) (hB : B ≤ w1.heap.size) : Below B w w2 := h.trans (h2.mono hB)
theorem below_new {B : Nat} {w w1 : World} (h : Below B w w1) (hB : B ≤ w1.heap.size) (o : Obj) : Below B w (w1.alloc o) := h.alloc hB o

/-- bytes in the place of others -/
def putL (s : List Int) (a : Nat) (bs : List Int) : List Int := s.take a ++ (bs ++ s.drop (a + bs.length))
@[simp] theorem putL_length (s : List Int) (a : Nat) (bs : List Int) (h : a + bs.length ≤ s.length) : (putL s a bs).length = s.length := by simp [putL]; omega
theorem wpList_copy_IV {P : Program} {w : World} {ops : Array Oper} {rest : List Oper} {o : Oper} {a : Act} {Q : Exit → Act → World → Prop} (hgd : o.guard = none) (d s : Operand) (dT sT : TypeId)
    (ho : o.op = .call { callee := .builtin .copy, args := #[d, s], argTypes := #[dT, sT] }) (elem : TypeId) (hu : P.underlying dT = some (.slice elem)) (hsz : (P.info? elem).map (·.size) = some 1)
    (g off dLen dCap g2 o2 sLen sCap : Nat) (hd : a.eval d = .slice (some ⟨g, off, none⟩) dLen dCap) (hs : a.eval s = .slice (some ⟨g2, o2, none⟩) sLen sCap)
    (k : IntKind) (cur src bs : List Int) (t t2 : TypeId) (fr2 : Nat × Nat) (hg : hat w g = some (.cells (IV k cur) t)) (hg2 : hat w g2 = some (.cells (IV k src) t2 fr2))
    (hn : bs.length = Nat.min sLen dLen) (hbs : ∀ j, j < bs.length → src[o2 + j]? = bs[j]?) (hfit : off + bs.length ≤ cur.length)
    (h : wpList P ops Q rest (a.put o.dst (.int .i64 bs.length)) (w.setRow g (IV k (putL cur off bs)))) : wpList P ops Q (o :: rest) a w := by
  refine wpList_copy_own hgd d s dT sT ho elem hu hsz g off dLen dCap ⟨g2, o2, none⟩ sLen sCap hd hs (IV k cur) t hg (bs.map (Value.int k)) (by simpa using hn) ?_ (by simpa using hfit) ?_ ?_
  · intro j v hj
    have hadd : (⟨g2, o2, none⟩ : Addr).add j = ⟨g2, o2 + j, none⟩ := by unfold Addr.add; split <;> simp_all
    rw [hadd, cell_hat hg2, IV_get?]
    have hjl : j < bs.length := by
      have := (List.getElem?_eq_some_iff.1 hj).1; simpa using this
    rw [hbs j hjl]
    simpa using hj
  · intro v hv
    simp at hv
    obtain ⟨x, -, rfl⟩ := hv
    rfl
  · have e : (IV k (putL cur off bs)) = ((IV k cur).toList.take off ++ (bs.map (Value.int k) ++ (IV k cur).toList.drop (off + (bs.map (Value.int k)).length))).toArray := by
      simp [IV, putL, List.map_take, List.map_drop]
    rw [← e]
    simpa [goInt] using h

-- a slice of an array
section
variable {P : Program}
theorem run_sliceAt_lo {T n e : Nat} (hu : P.underlying T = some (.array n e)) (he : (P.info? e).map (·.size) = some 1) (g off : Nat) (x : Int) (h0 : 0 ≤ x) (h1 : x < n) (w : World) :
    (Instr.sliceAt T (.pointer (some ⟨g, off, none⟩)) (some (.int .i64 x)) none none).run P w = .ok (.slice (some ⟨g, off + x.toNat, none⟩) (n - x.toNat) (n - x.toNat)) w := by
  cases hq : P.info? e with
  | none => simp [hq] at he
  | some i =>
    have hs : i.size = 1 := by simpa [hq] using he
    have hne : ¬ n = x.toNat := by omega
    have hadd : (⟨g, off, none⟩ : Addr).add (x.toNat * 1) = ⟨g, off + x.toNat, none⟩ := by unfold Addr.add; split <;> simp_all
    simp [Instr.sliceAt, run_underlying hu, Instr.sureAddr, Instr.sliceBounds, Instr.sliceBound, asIntOf, h0, show x ≤ n by omega, sizeOf, typeInfo, hq, hs, hne]
    simpa using hadd
theorem run_sliceAt_lohi {T n e : Nat} (hu : P.underlying T = some (.array n e)) (he : (P.info? e).map (·.size) = some 1) (g off : Nat) (x y : Int) (h0 : 0 ≤ x) (h1 : x < n) (h2 : x ≤ y) (h3 : y ≤ n) (w : World) :
    (Instr.sliceAt T (.pointer (some ⟨g, off, none⟩)) (some (.int .i64 x)) (some (.int .i64 y)) none).run P w = .ok (.slice (some ⟨g, off + x.toNat, none⟩) (y.toNat - x.toNat) (n - x.toNat)) w := by
  obtain ⟨l, rfl⟩ := Int.eq_ofNat_of_zero_le h0
  obtain ⟨m, rfl⟩ := Int.eq_ofNat_of_zero_le (show 0 ≤ y by omega)
  cases hq : P.info? e with
  | none => simp [hq] at he
  | some i =>
    have hs : i.size = 1 := by simpa [hq] using he
    have hne : ¬ n = l := by omega
    have hadd : (⟨g, off, none⟩ : Addr).add (l * 1) = ⟨g, off + l, none⟩ := by unfold Addr.add; split <;> simp_all
    simp [Instr.sliceAt, run_underlying hu, Instr.sureAddr, Instr.sliceBounds, Instr.sliceBound, asIntOf, show l ≤ m by omega, show m ≤ n by omega, sizeOf, typeInfo, hq, hs, hne]
    simpa using hadd
theorem run_sliceAt_hi {T n e : Nat} (hu : P.underlying T = some (.array n e)) (he : (P.info? e).map (·.size) = some 1) (g off : Nat) (y : Int) (hn : 0 < n) (h2 : 0 ≤ y) (h3 : y ≤ n) (w : World) :
    (Instr.sliceAt T (.pointer (some ⟨g, off, none⟩)) none (some (.int .i64 y)) none).run P w = .ok (.slice (some ⟨g, off, none⟩) y.toNat n) w := by
  cases hq : P.info? e with
  | none => simp [hq] at he
  | some i =>
    have hs : i.size = 1 := by simpa [hq] using he
    have hne : ¬ n = 0 := by omega
    have hadd : (⟨g, off, none⟩ : Addr).add 0 = ⟨g, off, none⟩ := by unfold Addr.add; split <;> simp_all
    simp [Instr.sliceAt, run_underlying hu, Instr.sureAddr, Instr.sliceBounds, Instr.sliceBound, asIntOf, h2, h3, sizeOf, typeInfo, hq, hs, hne, hadd]
theorem run_sliceAt_all {T n e : Nat} (hu : P.underlying T = some (.array n e)) (he : (P.info? e).map (·.size) = some 1) (g off : Nat) (hn : 0 < n) (w : World) :
    (Instr.sliceAt T (.pointer (some ⟨g, off, none⟩)) none none none).run P w = .ok (.slice (some ⟨g, off, none⟩) n n) w := by
  cases hq : P.info? e with
  | none => simp [hq] at he
  | some i =>
    have hs : i.size = 1 := by simpa [hq] using he
    have hne : ¬ n = 0 := by omega
    have hadd : (⟨g, off, none⟩ : Addr).add 0 = ⟨g, off, none⟩ := by unfold Addr.add; split <;> simp_all
    simp [Instr.sliceAt, run_underlying hu, Instr.sureAddr, Instr.sliceBounds, Instr.sliceBound, asIntOf, sizeOf, typeInfo, hq, hs, hne, hadd]
end

-- results
structure RowTy (P : Program) (ty : TypeId) (n : Nat) : Prop where
  load : ∀ (w : World) (g : Nat) (cs : Array Value) (t : TypeId) (fr : Nat × Nat), hat w g = some (.cells cs t fr) → cs.size = n → (loadVar ty ⟨g, 0, none⟩).run P w = .ok (.agg cs) w
theorem rowTy {P : Program} {n : Nat} {ty : TypeId} {d : TypeDesc} (hu : P.underlying ty = some d) (hd : (match d with | .struct _ | .array _ _ => true | _ => false) = true)
    (hi : (P.info? ty).map (·.size) = some n) : RowTy P ty n :=
  ⟨fun w g cs t fr h hs => run_loadVar_row w g t ty cs fr d h hu hd (by rw [hi, hs])⟩
structure CellTy (P : Program) (ty : TypeId) : Prop where
  load : ∀ (w : World) (a : Addr) (v : Value), w.cell? a = some v → (loadVar ty a).run P w = .ok v w
theorem cellTy {P : Program} {ty : TypeId} {d : TypeDesc} (hu : P.underlying ty = some d) (hd : (match d with | .struct _ | .array _ _ => true | _ => false) = false) : CellTy P ty := by
  refine ⟨fun w a v h => ?_⟩
  have hagg : (isAgg ty).run P w = .ok false w := by
    unfold isAgg
    rw [Sem.run_bind, run_underlying hu w]
    cases d <;> simp_all
  simp [loadVar, Sem.run_bind, hagg, run_load, h]
section
variable {P : Program} {fn : Func} {R : Ending → World → Prop} {a : Act} {w : World}
theorem ret_c {p : Tmp} {ty n : Nat} (hT : RowTy P ty n) (h : fn.results = #[.cell p ty]) {g : Nat} {cs : Array Value}
    (hp : a.tmps.getD p undef = .pointer (some ⟨g, 0, none⟩)) (hh : hat w g = some (.cells cs ty)) (hs : cs.size = n) (hd : a.defers = [])
    (hR : R (.returned (.agg cs)) w) : bodyPost P fn R .ret a w := by
  have hp' : a.tmps[p]?.getD undef = .pointer (some ⟨g, 0, none⟩) := by simpa using hp
  refine ⟨hd, _, ?_, hR⟩
  simp [results, h, hp', asAddr, hT.load w g cs ty (0, 0) hh hs]
theorem ret_ct {p u : Tmp} {ty n : Nat} (hT : RowTy P ty n) (h : fn.results = #[.cell p ty, .tmp u]) {g : Nat} {cs : Array Value}
    (hp : a.tmps.getD p undef = .pointer (some ⟨g, 0, none⟩)) (hh : hat w g = some (.cells cs ty)) (hs : cs.size = n) (hd : a.defers = [])
    (hR : R (.returned (.tuple #[.agg cs, a.tmps.getD u undef])) w) : bodyPost P fn R .ret a w := by
  have hp' : a.tmps[p]?.getD undef = .pointer (some ⟨g, 0, none⟩) := by simpa using hp
  refine ⟨hd, _, ?_, hR⟩
  simp [results, h, hp', asAddr, Result.andThen, hT.load w g cs ty (0, 0) hh hs]
end

end Go.Proofs.YteffoihkljkfdaaDoor
