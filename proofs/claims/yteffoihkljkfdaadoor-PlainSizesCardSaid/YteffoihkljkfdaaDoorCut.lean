/- Texts cut at '/' and joined again: plain lists of bytes; no program in sight. -/
import Derived.Lib.SplitLaws
import Derived.Lib.Join
import Derived.Test.YteffoihkljkfdaaDoorItr
namespace Go.Proofs.YteffoihkljkfdaaDoor
set_option linter.unusedSimpArgs false
set_option linter.unusedVariables false

/-- the pieces between the bytes 47 -/
def cut47 : List UInt8 → List (List UInt8)
  | [] => [[]]
  | b :: l => if b = 47 then [] :: cut47 l else match cut47 l with
    | [] => [[b]]
    | x :: r => (b :: x) :: r
theorem cut47_ne : ∀ l, cut47 l ≠ []
  | [] => by simp [cut47]
  | b :: l => by
    unfold cut47
    split
    · simp
    · split <;> simp
theorem split_cut : ∀ s : List UInt8, Lib.splitK [47] 0 (Lib.count s [47]) s = cut47 s
  | [] => by
    have : Lib.count [] [47] = 0 := Lib.count_miss (by decide)
    rw [this]; rfl
  | b :: l => by
    have ih := split_cut l
    by_cases hb : b = 47
    · subst hb
      rw [Lib.count_cons_eq, Nat.add_comm]
      have hi : Lib.index (47 :: l) [47] = 0 := by rw [Lib.index_one]; simp [Lib.indexByte]
      unfold Lib.splitK
      rw [hi]
      simp only [List.length_cons, List.length_nil]
      have e : cut47 (47 :: l) = [] :: cut47 l := by rw [cut47, if_pos rfl]
      rw [e, ← ih]
      rfl
    · rw [Lib.count_cons_ne b 47 l hb]
      have e : cut47 (b :: l) = match cut47 l with | [] => [[b]] | x :: r => (b :: x) :: r := by rw [cut47, if_neg hb]
      rw [e, ← ih]
      cases hk : Lib.count l [47] with
      | zero => rfl
      | succ k =>
        obtain ⟨i, hi⟩ := Lib.index_of_count (s := l) (old := [47]) (by omega)
        have hi2 : Lib.index (b :: l) [47] = ((i + 1 : Nat) : Int) := by
          rw [Lib.index_one] at hi ⊢
          have hb' : (b == 47) = false := by simpa using hb
          have h1 : (Lib.indexByte l 47 == -1) = false := by rw [hi]; simp
          rw [Lib.indexByte, hb', h1, hi]
          simp
        have m1 : (((i + 1 : Nat) : Int) == -1) = false := by simp; omega
        have m2 : ((i : Int) == -1) = false := by simp
        unfold Lib.splitK
        rw [hi2, hi, m1, m2]
        simp only [Bool.false_eq_true, if_false, List.length_cons, List.length_nil, Int.toNat_natCast, Nat.add_zero]
        rfl

theorem join_cut : ∀ s : List UInt8, Lib.join (cut47 s) [47] = s
  | [] => by simp [cut47, Lib.join_one]
  | b :: l => by
    have ih := join_cut l
    have hne := cut47_ne l
    by_cases hb : b = 47
    · subst hb
      rw [show cut47 (47 :: l) = [] :: cut47 l by rw [cut47, if_pos rfl], Lib.join_cons]
      cases hc : cut47 l with
      | nil => exact absurd hc hne
      | cons x r =>
        rw [hc, Lib.join_cons] at ih
        rw [← ih]
        simp [Lib.joinTail]
    · rw [show cut47 (b :: l) = match cut47 l with | [] => [[b]] | x :: r => (b :: x) :: r by rw [cut47, if_neg hb]]
      cases hc : cut47 l with
      | nil => exact absurd hc hne
      | cons x r =>
        rw [hc, Lib.join_cons] at ih
        show Lib.join ((b :: x) :: r) [47] = _
        rw [Lib.join_cons, ← ih]
        rfl
theorem cut_plain : ∀ (x : List UInt8), (∀ b ∈ x, b ≠ 47) → cut47 x = [x]
  | [], _ => rfl
  | b :: x, h => by
    rw [cut47, if_neg (h b (by simp)), cut_plain x (fun c hc => h c (by simp [hc]))]
theorem cut_append : ∀ (x l : List UInt8), (∀ b ∈ x, b ≠ 47) → cut47 (x ++ 47 :: l) = x :: cut47 l
  | [], l, _ => by rw [List.nil_append, cut47, if_pos rfl]
  | b :: x, l, h => by
    rw [List.cons_append, cut47, if_neg (h b (by simp)), cut_append x l (fun c hc => h c (by simp [hc]))]
theorem cut_join : ∀ (xs : List (List UInt8)), xs ≠ [] → (∀ x ∈ xs, ∀ b ∈ x, b ≠ 47) → cut47 (Lib.join xs [47]) = xs
  | [], h, _ => absurd rfl h
  | [x], _, h => by rw [Lib.join_one]; exact cut_plain x (h x (by simp))
  | x :: y :: r, _, h => by
    have ih := cut_join (y :: r) (by simp) (fun z hz => h z (by simp [hz]))
    rw [Lib.join_cons] at ih
    rw [Lib.join_cons]
    have e : x ++ Lib.joinTail [47] (y :: r) = x ++ 47 :: (y ++ Lib.joinTail [47] r) := by simp [Lib.joinTail]
    rw [e, cut_append x _ (h x (by simp)), ih]
end Go.Proofs.YteffoihkljkfdaaDoor
