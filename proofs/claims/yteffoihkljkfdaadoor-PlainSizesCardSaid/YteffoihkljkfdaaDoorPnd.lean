/- A node of a plain file system; how many sectors it has: plain. -/
import Derived.Test.YteffoihkljkfdaaDoorPmo
import Derived.Test.YteffoihkljkfdaaDoorPgr
import Derived.Test.YteffoihkljkfdaaDoorPad
namespace Go.Proofs.YteffoihkljkfdaaDoor
set_option linter.unusedSimpArgs false
set_option linter.unusedVariables false
open Go.RowKit

/-- a node -/
structure Nd where
  kind : Int
  links : Int
  size : Int
  made : Int
  data : Int → Option (List Int)
  slots : List ByteArray
  names : ByteArray → Option Int
/-- where it lies -/
structure NA where
  g : Nat
  (db nb sb : Option Nat)
  (dv nv sv : Value)
  (dc nc : Nat)
def Nd.dataM (n : Nd) : Int → Option Value := fun k => (n.data k).map fun s => .agg (IV .u8 s)
def Nd.namesM (n : Nd) : ByteArray → Option Value := fun s => (n.names s).map (Value.int .i64)
def Nd.cell (n : Nd) (i : Nat) : Value := .string (n.slots.getD i (ByteArray.mk #[]))
structure NodeAt (w : World) (a : NA) (n : Nd) : Prop where
  h : hat w a.g = some (.cells #[.int .i64 n.kind, .int .i64 n.links, .int .i64 n.size, .int .i64 n.made, a.dv, a.sv, a.nv] 74)
  d : MO kInt w a.dv a.db n.dataM a.dc
  s : GRow 9 1 w a.sv a.sb n.slots.length n.cell
  m : MO kStr w a.nv a.nb n.namesM a.nc
/-- a node is as it may be -/
structure NOk (n : Nd) : Prop where
  dk : ∀ k, (n.data k).isSome = true → 0 ≤ k ∧ k < 1068
  dl : ∀ k s, n.data k = some s → s.length = 128
  sl : n.slots.length ≤ 1068
theorem NodeAt.fr {w w' : World} {a : NA} {n : Nd} {ex : List Nat} (h : NodeAt w a n) (hf : Fr ex w w') (h1 : a.g ∉ ex) (h2 : ∀ b, a.db = some b → b ∉ ex) (h3 : ∀ b, a.sb = some b → b ∉ ex) (h4 : ∀ b, a.nb = some b → b ∉ ex) : NodeAt w' a n :=
  ⟨(hf.block _ (hat_lt h.h) h1).trans h.h, h.d.fr hf h2, h.s.fr hf h3, h.m.fr hf h4⟩
/-- how many of the first N -/
def cntB (N : Nat) (p : Int → Bool) : Nat := ((List.range N).filter fun (i : Nat) => p i).length
theorem cntB_step {N : Nat} {p : Int → Bool} {x : Int} (hx : 0 ≤ x ∧ x < N) (hp : p x = false) : cntB N (fun k => p k || decide (k = x)) = cntB N p + 1 := by
  obtain ⟨n, rfl⟩ : ∃ n : Nat, x = n := ⟨x.toNat, by omega⟩
  have hn : n < N := by omega
  unfold cntB
  clear hx
  induction N with
  | zero => omega
  | succ N ih =>
    rw [List.range_succ, List.filter_append, List.filter_append, List.length_append, List.length_append]
    by_cases h : n = N
    · subst h
      have e1 : ((List.range n).filter fun (i : Nat) => p i || decide ((i : Int) = n)) = (List.range n).filter fun (i : Nat) => p i := by
        apply List.filter_congr
        intro i hi
        have : i < n := List.mem_range.1 hi
        have : ¬ (i : Int) = n := by omega
        simp [this]
      rw [e1]
      simp [hp]
    · have e1 : ¬ (N : Int) = n := by omega
      rw [ih (by omega)]
      simp only [List.filter_cons, List.filter_nil, e1, decide_false, Bool.or_false]
      omega
theorem cntB_congr {N : Nat} {p q : Int → Bool} (h : ∀ k : Int, 0 ≤ k → k < N → p k = q k) : cntB N p = cntB N q := by
  unfold cntB
  rw [List.filter_congr]
  intro i hi
  have := List.mem_range.1 hi
  exact h i (by omega) (by omega)
theorem cntB_le (N : Nat) (p : Int → Bool) : cntB N p ≤ N := by
  have := List.length_filter_le (fun (i : Nat) => p i) (List.range N)
  unfold cntB
  simpa using this
theorem cntB_none {N : Nat} {p : Int → Bool} (h : ∀ k : Int, 0 ≤ k → k < N → p k = false) : cntB N p = 0 := by
  rw [cntB_congr (q := fun _ => false) h]
  simp [cntB]
/-- as many as a list without double ones has -/
theorem cntB_list {N : Nat} {p : Int → Bool} {l : List Int} (hd : l.Nodup) (hm : ∀ x, x ∈ l ↔ p x = true) (hb : ∀ x, p x = true → 0 ≤ x ∧ x < N) : cntB N p = l.length := by
  have e1 : ((List.range N).filter fun (i : Nat) => p i).map (fun (i : Nat) => (i : Int)) |>.Perm l := by
    refine (List.perm_ext_iff_of_nodup ?_ hd).2 fun x => ?_
    · refine List.Pairwise.map _ (fun a b h e => h (by omega)) ((List.nodup_range).filter _)
    · rw [List.mem_map, hm]
      constructor
      · rintro ⟨i, hi, rfl⟩
        exact (List.mem_filter.1 hi).2
      · intro hx
        obtain ⟨h0, h1⟩ := hb x hx
        refine ⟨x.toNat, List.mem_filter.2 ⟨List.mem_range.2 (by omega), ?_⟩, by omega⟩
        rw [show ((x.toNat : Nat) : Int) = x by omega]; exact hx
  have := e1.length_eq
  rw [List.length_map] at this
  exact this
/-- the tables that those of V want -/
def tabV (V : Int → Bool) (t : Int) : Bool := (List.range 1068).any fun (k : Nat) => V k && addT k (fun _ => false) t
theorem tabV_step {V : Int → Bool} {x : Int} (hx : 0 ≤ x ∧ x < 1068) : addT x (tabV V) = tabV (fun k => V k || decide (k = x)) := by
  funext t
  obtain ⟨n, rfl⟩ : ∃ n : Nat, x = n := ⟨x.toNat, by omega⟩
  have e1 : addT (n : Int) (tabV V) t = (tabV V t || addT n (fun _ => false) t) := by
    unfold addT
    cases tabV V t <;> simp
  rw [e1, Bool.eq_iff_iff]
  unfold tabV
  rw [Bool.or_eq_true, List.any_eq_true, List.any_eq_true]
  constructor
  · rintro (⟨k, hk, h⟩ | h)
    · refine ⟨k, hk, ?_⟩
      rw [Bool.and_eq_true] at h ⊢
      exact ⟨by show (V k || _) = true; rw [h.1]; rfl, h.2⟩
    · refine ⟨n, List.mem_range.2 (by omega), ?_⟩
      rw [Bool.and_eq_true]
      exact ⟨by simp, h⟩
  · rintro ⟨k, hk, h⟩
    rw [Bool.and_eq_true, Bool.or_eq_true] at h
    rcases h with ⟨h1 | h1, h2⟩
    · exact .inl ⟨k, hk, by rw [h1, h2]; rfl⟩
    · have : (k : Int) = n := by simpa using h1
      rw [this] at h2
      exact .inr h2
theorem tabV_congr {V V' : Int → Bool} (h : ∀ k : Int, 0 ≤ k → k < 1068 → V k = V' k) : tabV V = tabV V' := by
  funext t
  unfold tabV
  rw [Bool.eq_iff_iff, List.any_eq_true, List.any_eq_true]
  constructor <;> rintro ⟨k, hk, hh⟩ <;> refine ⟨k, hk, ?_⟩ <;> have := List.mem_range.1 hk
  · rw [← h k (by omega) (by omega)]; exact hh
  · rw [h k (by omega) (by omega)]; exact hh
theorem tabV_none : tabV (fun _ => false) = fun _ => false := by
  funext t
  unfold tabV
  simp
theorem tabV_range {V : Int → Bool} {t : Int} (h : tabV V t = true) : -2 ≤ t ∧ t < 38 := by
  unfold tabV at h
  obtain ⟨k, hk, h⟩ := List.any_eq_true.1 h
  have hk := List.mem_range.1 hk
  unfold addT at h
  simp at h
  omega
/-- which blocks a node has -/
def Nd.has (n : Nd) : Int → Bool := fun k => (n.data k).isSome || decide (0 ≤ k ∧ k < n.slots.length)
/-- how many sectors a node has -/
def Nd.count (n : Nd) : Int := ((cntB 1068 (fun k => (n.data k).isSome) + n.slots.length + cntB 40 (fun j => tabV n.has (j - 2)) : Nat) : Int)
theorem Nd.count_le {n : Nd} (h : NOk n) : 0 ≤ n.count ∧ n.count ≤ 3000 := by
  have h1 := cntB_le 1068 (fun k => (n.data k).isSome)
  have h2 := cntB_le 40 (fun j => tabV n.has (j - 2))
  have h3 := h.sl
  unfold Nd.count
  omega
/-- as many entries as the tables are -/
theorem tabs_len {w : World} {b c : Nat} {V : Int → Bool} (h : MG kInt w b (setM (tabV V)) c) : c = cntB 40 (fun j => tabV V (j - 2)) := by
  obtain ⟨l, h1, h2, h3⟩ := h.keys
  have h4 : ∀ x, x ∈ l ↔ tabV V x = true := fun x => by
    rw [h3]
    unfold setM
    split <;> simp_all
  rw [cntB_list (l := l.map (· + 2)) (List.Pairwise.map _ (fun a b h e => h (by omega)) h1) (fun x => ?_) (fun x hx => ?_), List.length_map, h2]
  · rw [List.mem_map]
    constructor
    · rintro ⟨y, hy, rfl⟩
      rw [show y + 2 - 2 = y by omega]; exact (h4 y).1 hy
    · intro hx
      exact ⟨x - 2, (h4 _).2 hx, by omega⟩
  · have := tabV_range hx
    omega
end Go.Proofs.YteffoihkljkfdaaDoor
