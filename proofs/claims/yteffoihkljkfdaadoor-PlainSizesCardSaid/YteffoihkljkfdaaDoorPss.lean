/- Lists of texts: Index, Clone, one more; place: the walk. -/
import Derived.Test.YteffoihkljkfdaaDoorPls
import Derived.Test.YteffoihkljkfdaaDoorShelf
namespace Go.Proofs.YteffoihkljkfdaaDoor
set_option linter.unusedSimpArgs false
set_option linter.unusedVariables false
open Go.RowKit

def strC (l : List ByteArray) (i : Nat) : Value := .string (l.getD i (ByteArray.mk #[]))
theorem info_str : ∃ i0, Tryd.prog.info? 9 = some i0 ∧ i0.zero = some (.string (ByteArray.mk #[])) ∧ i0.size = 1 ∧ i0.bytes = 16 := by
  have h : (Tryd.prog.info? 9).map (fun i => (i.zero, i.size, i.bytes)) = some (some (.string (ByteArray.mk #[])), 1, 16) := by kernel_rfl
  cases hq : Tryd.prog.info? 9 with
  | none => rw [hq] at h; cases h
  | some inf =>
    rw [hq] at h
    simp at h
    exact ⟨inf, rfl, h.1, h.2.1, h.2.2⟩
theorem getD_emp (l : List ByteArray) (j : Nat) : l.getD j ByteArray.empty = l.getD j (ByteArray.mk #[]) := rfl
theorem idx_g {w : World} {v : Value} {ob : Option Nat} {l : List ByteArray} (h : GRow 9 1 w v ob l.length (strC l)) (hl : l.length ≤ 5000) (x : ByteArray) : Calls Tryd.prog 70 #[v, .string x] w fun e w' => e = .returned (.int .i64 (Lib.idxOfS l x)) ∧ w' = w := by
  rcases h with ⟨rfl, -, h0⟩ | ⟨g, off, c, cs, rfl, -, hg, h1, h2, h3⟩
  · have : l = [] := List.eq_nil_of_length_eq_zero h0
    subst this
    exact Tryd.slices_Index_string_empty none 0 x w
  · have h4 := Tryd.slices_Index_string g off l.length c l x w (Nat.le_refl _) (by omega) (fun j hj => by
      rw [cell_hat hg, h3 j (by omega)]; rfl)
    rw [List.take_length] at h4
    exact h4
theorem clone_g {w : World} {v : Value} {ob : Option Nat} {l : List ByteArray} (h : GRow 9 1 w v ob l.length (strC l)) (hl : l.length ≤ 5000) : Calls Tryd.prog 40 #[v] w fun e w' => ∃ v' ob', e = .returned v' ∧ GRow 9 1 w' v' ob' l.length (strC l) ∧ (∀ g, ob' = some g → w.heap.size ≤ g) ∧ Below w.heap.size w w' := by
  rcases h with ⟨rfl, -, h0⟩ | ⟨g, off, c, cs, rfl, -, hg, h1, h2, h3⟩
  · refine (Tryd.slices_Clone_string_nil 0 0 w).mono ?_
    rintro e w' ⟨rfl, rfl⟩
    exact ⟨_, none, rfl, .inl ⟨rfl, rfl, h0⟩, fun g hg => (nomatch hg), Below.refl _ _⟩
  · refine (Tryd.slices_Clone_string g off l.length c l w (Nat.le_refl _) (by omega) (fun j hj => by
      rw [cell_hat hg, h3 j (by omega)]; rfl)).mono ?_
    rintro e w' ⟨v', rfl, ⟨hxl, ho⟩, -, hb⟩
    rcases ho with ⟨rfl, h0⟩ | ⟨g', cap, cur, rfl, hge, hh, hc1, hc2, hcs, htk⟩
    · exact ⟨_, none, rfl, .inl ⟨rfl, rfl, h0⟩, fun g hg => (nomatch hg), hb⟩
    · refine ⟨_, some g', rfl, .inr ⟨g', 0, cap, cur, rfl, rfl, hh, by omega, by omega, fun k hk => ?_⟩, fun g hg => by cases hg; exact hge, hb⟩
      rw [Nat.zero_add, ← Array.getElem?_toList]
      have e1 : cur.toList[k]? = (cur.toList.take (l.length * 1))[k]? := by rw [List.getElem?_take, if_pos hk]
      rw [e1, htk, List.take_length, List.getElem?_map]
      have hk' : k < l.length := by omega
      rw [List.getElem?_eq_getElem hk']
      unfold strC
      rw [List.getD_eq_getElem?_getD, List.getElem?_eq_getElem hk']; rfl
/-- one text more -/
theorem push_g {w : World} {v : Value} {ob : Option Nat} {l : List ByteArray} (h : GRow 9 1 w v ob l.length (strC l)) (hl : l.length ≤ 5000) (s : ByteArray) (ty : TypeId) :
    ∃ a c w2 ob', (Builtin.append_ #[72, 72] ty #[v, .slice (some ⟨w.heap.size, 0, none⟩) 1 1]).run Tryd.prog (w.alloc (.cells #[.string s] 9)) = .ok (.slice a (l.length + 1) c) w2 ∧
      GRow 9 1 w2 (.slice a (l.length + 1) c) ob' (l ++ [s]).length (strC (l ++ [s])) ∧ Fr ob.toList w w2 ∧ (ob' = ob ∨ ∃ g, ob' = some g ∧ w.heap.size ≤ g) := by
  obtain ⟨inf, hi, hz, his, hib⟩ := info_str
  have hf1 := fr_new w (.cells #[.string s] 9) []
  have hb : GRow 9 1 (w.alloc (.cells #[.string s] 9)) (.slice (some ⟨w.heap.size, 0, none⟩) 1 1) (some w.heap.size) 1 (fun _ => .string s) := .inr ⟨w.heap.size, 0, 1, #[.string s], rfl, rfl, (hopN w _).1, by simp, by simp, fun q hq => by
    obtain rfl : q = 0 := by omega
    rfl⟩
  obtain ⟨news, hs, hnw⟩ := hb.src (P := Tryd.prog) Tryd.underlying72 (fun q hq => rfl)
  obtain ⟨v', w2, om', hr, hg, hgr⟩ := run_append_g (P := Tryd.prog) (ST := 72) (sz := 1) Tryd.underlying72 hi hz rfl his hib (h.fr hf1 (by simp)) hs hnw (by omega) (by omega) ty
  obtain ⟨a, c, rfl⟩ := hg.slice
  refine ⟨a, c, w2, om', hr, ?_, (hf1.mono (by simp)).trans hgr.fr, hgr.ob.imp id (fun ⟨g, h1, h2⟩ => ⟨g, h1, Nat.le_trans hf1.size h2⟩)⟩
  rw [List.length_append]
  refine hg.congr fun q hq => ?_
  unfold catF strC
  rw [Nat.mul_one]
  simp only [List.getD_eq_getElem?_getD]
  by_cases hql : q < l.length
  · rw [if_pos hql, List.getElem?_append_left hql]
  · rw [if_neg hql]
    obtain rfl : q = l.length := by simp at hq; omega
    simp
theorem cell_strC (n : Nd) : n.cell = strC n.slots := rfl
end Go.Proofs.YteffoihkljkfdaaDoor
