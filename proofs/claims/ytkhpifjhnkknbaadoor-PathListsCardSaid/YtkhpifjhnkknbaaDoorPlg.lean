/- Names of one letter each, as many as one likes: plain laws. -/
import Derived.Test.YtkhpifjhnkknbaaDoorPlb
namespace Go.Proofs.YtkhpifjhnkknbaaDoor
set_option linter.unusedSimpArgs false
set_option linter.unusedVariables false
open Go.RowKit

/-- a path of pieces, none of them empty, none with a slash -/
theorem spl_joined {xs : List ByteArray} (h0 : xs ≠ []) (hp : ∀ n ∈ xs, 1 ≤ n.size ∧ ∀ b ∈ n.data.toList, b ≠ 47) (ht : tot xs ≤ 400) :
    spl (joined xs) = if ∀ n ∈ xs, NameMay n.data.toList then (xs, 0) else ([], 71) := by
  have hd := joined_data xs
  have hc : cut47 (Lib.join (xs.map (·.data.toList)) [47]) = xs.map (·.data.toList) :=
    cut_join _ (by simpa using h0) (fun x hx b hb => by
      obtain ⟨n, hn, rfl⟩ := List.mem_map.1 hx
      exact (hp n hn).2 b hb)
  have hs := joined_size h0
  have h2 : 2 ≤ tot xs := by
    cases xs with
    | nil => exact absurd rfl h0
    | cons x r =>
      have := (hp x (by simp)).1
      simp only [tot]; omega
  have hf : formed (joined xs) := ⟨by rw [hs]; omega, by rw [hd]; unfold Lib.hasPrefix; rfl⟩
  have hpc : pieces (joined xs) = xs := by
    apply map_data
    rw [pieces_data, hd]
    exact hc
  have hr : (joined xs).toList ≠ [47] := by
    intro e
    rw [Lib.toList_data] at e
    have := len_data (joined xs)
    rw [e, hs] at this
    simp at this
    omega
  have hsp : split2 (joined xs) := by
    have := path_ends (J := Lib.join (xs.map (·.data.toList)) [47]) (fun x hx => by
      rw [hc] at hx
      obtain ⟨n, hn, rfl⟩ := List.mem_map.1 hx
      have := (hp n hn).1
      intro e
      rw [← len_data, e] at this
      simp at this)
    unfold split2
    rw [hd]
    exact this
  by_cases hn : ∀ n ∈ xs, NameMay n.data.toList
  · rw [if_pos hn, spl_yes hf hr hsp (by rw [hpc]; exact hn), hpc]
  · rw [if_neg hn, spl_no hf hr hsp (by rw [hpc]; exact hn)]
theorem spl_over {xs : List ByteArray} (h0 : xs ≠ []) (ht : 400 < tot xs) : spl (joined xs) = ([], 70) := by
  refine spl_form fun h => h.1 ?_
  rw [joined_size h0]; omega
/-- a name of k letters -/
def nmA (k : Nat) : ByteArray := ⟨(List.replicate k (97 : UInt8)).toArray⟩
theorem nmA_size (k : Nat) : (nmA k).size = k := by rw [← len_data]; simp [nmA]
theorem nmA_byte (k : Nat) : ∀ b ∈ (nmA k).data.toList, b = 97 := fun b hb => by
  simp [nmA] at hb; exact hb.2
theorem nmA_may {k : Nat} (h : 1 ≤ k) : NameMay (nmA k).data.toList ↔ k ≤ 40 := by
  have hl : (nmA k).data.toList.length = k := by simp [nmA]
  constructor
  · intro hn; have := hn.2.1; omega
  · intro hk
    refine ⟨by omega, by omega, fun b hb => ?_, fun e => ?_, fun e => ?_⟩
    · rw [nmA_byte k b hb]; decide
    · have := nmA_byte k 46 (by rw [e]; simp); exact absurd this (by decide)
    · have := nmA_byte k 46 (by rw [e]; simp); exact absurd this (by decide)
theorem chk_nmA {k : Nat} (h : 1 ≤ k) : chk (nmA k) = if k ≤ 40 then 0 else 71 := by
  by_cases hk : k ≤ 40
  · rw [if_pos hk, chk_yes ((nmA_may h).2 hk)]
  · rw [if_neg hk, chk_no (fun hn => hk ((nmA_may h).1 hn))]
/-- the text that the law puts together -/
def textOf : List ByteArray → ByteArray
  | [] => { data := #[] }
  | x :: r => joined (x :: r)
theorem text_snoc (xs : List ByteArray) (n : ByteArray) : (textOf xs ++ ({ data := #[47] } : ByteArray)) ++ n = textOf (xs ++ [n]) := by
  cases xs with
  | nil =>
    show (({ data := #[] } : ByteArray) ++ ({ data := #[47] } : ByteArray)) ++ n = joined [n]
    rw [← want_one]; rfl
  | cons x r =>
    have h := want_more (xs := x :: r) (by simp) n
    unfold pth at h
    rw [if_neg (by simp)] at h
    exact h
end Go.Proofs.YtkhpifjhnkknbaaDoor
