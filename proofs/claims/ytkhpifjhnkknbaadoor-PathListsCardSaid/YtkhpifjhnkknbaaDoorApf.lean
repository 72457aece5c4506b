/- Appending one text, again and again, to a list that is full: a new row. -/
import Derived.Test.YtkhpifjhnkknbaaDoorSpo
import Derived.Test.YtkhpifjhnkknbaaDoorRsw
import Derived.Deep.AppendSrc
import Derived.Maps.AppendAt
namespace Go.Proofs.YtkhpifjhnkknbaaDoor
set_option linter.unusedSimpArgs false
set_option linter.unusedVariables false
open Go.RowKit

/-- k texts more than there were: behind the first one, a row of one's own -/
def Gr (W w : World) (ao : Option Addr) (n : Nat) (olds : List Value) (u : ByteArray) (v : Value) (k : Nat) : Prop :=
  (k = 0 ∧ v = .slice ao n n) ∨ (1 ≤ k ∧ w.ownsRow W.heap.size 9 1 v (n + k) (olds ++ List.replicate k (.string u)))
/-- where the old list lies -/
def Full (w : World) (ao : Option Addr) (n : Nat) (olds : List Value) : Prop :=
  olds.length = n ∧ ((ao = none ∧ n = 0) ∨ ∃ g, ao = some ⟨g, 0, none⟩ ∧ hat w g = some (.cells olds.toArray 9))
theorem below_drew2 {B : Nat} {w : World} (hB : B ≤ w.heap.size) (o : Obj) : Below B w (w.drew.alloc o) := Below.alloc (show Below B w w.drew from ⟨rfl, rfl, rfl, Nat.le_refl _, fun _ _ => rfl⟩) hB o
theorem full_first {P : Program} {w : World} {ao : Option Addr} {n : Nat} {olds : List Value} (h : Full w ao n olds) : (Builtin.firstCells 1 n (.slice ao n n)).run P w.drew = .ok olds.toArray w.drew := by
  obtain ⟨hl, h | ⟨g, rfl, hg⟩⟩ := h
  · obtain ⟨rfl, rfl⟩ := h
    obtain rfl := List.eq_nil_of_length_eq_zero hl
    exact run_firstCells_none w.drew 1 0 0 0
  · refine run_firstCells_some w.drew 1 n ⟨g, 0, none⟩ n n olds (by rw [hl, Nat.mul_one]) fun j u hj => ?_
    have hadd : (⟨g, 0, none⟩ : Addr).add j = ⟨g, j, none⟩ := by unfold Addr.add; split <;> simp_all
    rw [hadd]
    show w.cell? _ = _
    rw [cell_hat hg]
    simpa using hj
theorem run_append_gr {P : Program} (W w : World) (t ty e : TypeId) (he : e = 9) (ht : P.underlying t = some (.slice e)) (i : TypeInfo) (hi : P.info? e = some i) (hz : i.zero = some (.string ByteArray.empty)) (hsz : i.size = 1) (hby : i.bytes = 16)
    (ao : Option Addr) (n : Nat) (olds : List Value) (u : ByteArray) (v : Value) (k : Nat) (hg : Gr W w ao n olds u v k) (hf : Full w ao n olds) (hn : n ≤ 1000) (hk : k ≤ 1000) (hW : W.heap.size ≤ w.heap.size)
    (b c : Nat) (hb : hat w b = some (.cells #[.string u] 9)) :
    ∃ v' w', (Builtin.append_ #[t, t] ty #[v, .slice (some ⟨b, 0, none⟩) 1 c]).run P w = .ok v' w' ∧ w'.ownsRow W.heap.size 9 1 v' (n + (k + 1)) (olds ++ List.replicate (k + 1) (.string u)) ∧ Below W.heap.size w w' := by
  subst he
  have hnews : ∀ (j : Nat) (x : Value), [Value.string u][j]? = some x → w.cell? ((⟨b, 0, none⟩ : Addr).add j) = some x := by
    intro j x hj
    have hadd : (⟨b, 0, none⟩ : Addr).add j = ⟨b, j, none⟩ := by unfold Addr.add; split <;> simp_all
    rw [hadd, cell_hat hb]
    simpa using hj
  have h1 : ∀ x ∈ [Value.string u], x.oneCell' = true := by intro x hx; simp at hx; subst hx; rfl
  rcases hg with ⟨rfl, rfl⟩ | ⟨hk1, hown⟩
  · have hs : Src P i.size t (.slice (some ⟨b, 0, none⟩) 1 c) 1 [.string u] w := Src.ofSlice w ht ⟨b, 0, none⟩ 1 c [.string u] (by rw [hsz]; rfl) hnews h1
    have hold : (Builtin.firstCells i.size n (.slice ao n n)).run P w.drew = .ok olds.toArray w.drew := by rw [hsz]; exact full_first hf
    have hrun := run_append_grow_src (P := P) w t t ty 9 i (.string ByteArray.empty) ht hi hz ao n n olds hold _ 1 [.string u] hs (by omega) (by omega) (growslice_fits (by omega) (by rw [hby]; omega))
    have hl := hf.1
    have hge := grownCap_ge w (n + 1) n 9
    have hmx := grownCap_le_maxLen w (n + 1) n 9 (by unfold maxLen; omega)
    refine ⟨_, _, hrun, ⟨by simp [hl], .inr ⟨w.heap.size, _, (olds ++ [Value.string u]).toArray ++ Builtin.zeroCells (Value.string ByteArray.empty).cells (grownCap w (n + 1) n 9 - (n + 1)), rfl, hW, ?_, hge, hmx, ?_, ?_⟩⟩, below_drew2 hW _⟩
    · exact hat_alloc_at w.drew _ _ rfl
    · have hz2 : (Value.string ByteArray.empty).cells.size = 1 := rfl
      rw [Array.size_append, size_zeroCells, hz2]
      simp [hl]
      omega
    · rw [Array.toList_append, List.take_append_of_le_length (by simp [hl])]
      simp [hl]
      exact List.take_of_length_le (by simp [hl])
  · obtain ⟨v', w', hr, h2, h3, -, h5⟩ := run_append_own_at (P := P) w W.heap.size t ty 9 i (.string ByteArray.empty) 1 16 ht hi hz hsz hby rfl (by decide) v (n + k) (olds ++ List.replicate k (.string u)) hown ⟨b, 0, none⟩ 1 c [.string u] rfl hnews h1 (by unfold maxLen; omega) (by omega) hW
    refine ⟨v', w', hr, ?_, (Below.refl W.heap.size w).grown h3 hW fun q hq => ?_⟩
    · have e : (olds ++ List.replicate k (.string u)) ++ [.string u] = olds ++ List.replicate (k + 1) (.string u) := by rw [List.append_assoc, List.replicate_succ']
      rw [← e]
      exact h2
    · rcases hown.2 with ⟨-, h0⟩ | ⟨g, cap, cur, rfl, hB, -⟩
      · omega
      · have : g = q := by simpa [Value.ownBlock] using hq
        omega
theorem wpList_append_gr {P : Program} (w : World) {ops : Array Oper} {rest : List Oper} {o : Oper} {a : Act} {Q : Exit → Act → World → Prop} (hgd : o.guard = none) (s x : Operand) (t : TypeId)
    (ho : o.op = .call { callee := .builtin .append, args := #[s, x], argTypes := #[t, t] })
    (W : World) (e : TypeId) (he : e = 9) (ht : P.underlying t = some (.slice e)) (i : TypeInfo) (hi : P.info? e = some i) (hz : i.zero = some (.string ByteArray.empty)) (hsz : i.size = 1) (hby : i.bytes = 16)
    (ao : Option Addr) (n : Nat) (olds : List Value) (u : ByteArray) (v : Value) (k : Nat) (hs : a.eval s = v) (b c : Nat) (hx : a.eval x = .slice (some ⟨b, 0, none⟩) 1 c)
    (hg : Gr W w ao n olds u v k) (hf : Full w ao n olds) (hn : n ≤ 1000) (hk : k ≤ 1000) (hW : W.heap.size ≤ w.heap.size)
    (hb : hat w b = some (.cells #[.string u] 9))
    (h : ∀ v' w', w'.ownsRow W.heap.size 9 1 v' (n + (k + 1)) (olds ++ List.replicate (k + 1) (.string u)) → Below W.heap.size w w' → wpList P ops Q rest (a.put o.dst v') w') : wpList P ops Q (o :: rest) a w := by
  refine wpList_plain hgd fun K hK => ?_
  obtain ⟨v', w', hr, h2, h3⟩ := run_append_gr (P := P) W w t o.type e he ht i hi hz hsz hby ao n olds u v k hg hf hn hk hW b c hb
  unfold Oper.wp
  simp [execOp, ho, resolve, invoke, builtin, hs, hx, hr, Result.andThen]
  exact hK _ _ (h v' w' h2 h3)
end Go.Proofs.YtkhpifjhnkknbaaDoor
