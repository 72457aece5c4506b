/- Lists: what came in is copied, joined and compared. -/
import Derived.Test.YtkhpifjhnkknbaaDoorApf
import Derived.Test.YtkhpifjhnkknbaaDoorRjn
import Derived.Test.YtkhpifjhnkknbaaDoorTag
import Derived.Deep.Upon
namespace Go.Proofs.YtkhpifjhnkknbaaDoor
set_option linter.unusedSimpArgs false
set_option linter.unusedVariables false
open Go.RowKit

theorem Arg.strs {w : World} {u : Value} {xs : List ByteArray} (h : Arg w u xs) (h0 : xs ≠ []) : Strs w 0 u xs := by
  obtain ⟨a, c, rfl, hc, hl, hx⟩ := h
  obtain ⟨x, hx0⟩ : ∃ x, xs[0]? = some x := getElem_opt (l := xs) (k := 0) (List.length_pos_iff.2 h0)
  obtain ⟨g, o, rfl, hg, -⟩ := hx 0 x hx0
  refine .inr ⟨g, o, c, rfl, hc, hl, Nat.zero_le _, hg, fun j y hy => ?_⟩
  obtain ⟨g2, o2, e, -, h2⟩ := hx j y hy
  have e2 : g = g2 ∧ o = o2 := by simpa using e
  rw [e2.1, e2.2]; exact h2
theorem rjoin_arg (v : Value) (xs : List ByteArray) (w : World) (hv : Arg w v xs) :
    Calls Tryd.prog 14 #[v] w fun e w' => e = .returned (.tuple #[.string (joinR xs).1, .int .i64 (joinR xs).2]) ∧ w' = w := by
  by_cases h0 : xs = []
  · subst h0
    obtain ⟨a, c, rfl, -⟩ := hv
    rw [joinR_root]
    go_enter Tryd.func14, Tryd.ntmps14
    go_wp2_with fail
    go_loopw [4, 5] (fun z i wr => i = .int .i64 0 ∧ z = .int .i64 0 ∧ wr = w) (fun _ _ _ => 0)
    case atStart => exact ⟨rfl, rfl, rfl⟩
    case round =>
      obtain ⟨rfl, rfl, rfl⟩ := hrel
      go_wp2_with fail
      go_ret2
      exact ⟨rfl, rfl⟩
  · exact rjoin_any v xs 0 w (hv.strs h0)
theorem sameTexts_arg (u v : Value) (xs : List ByteArray) (B : Nat) (w : World) (hu : Strs w B u xs) (hv : Arg w v xs) :
    Calls Tryd.prog 15 #[u, v] w fun e w' => e = .returned (.bool true) ∧ Below w.heap.size w w' := by
  by_cases h0 : xs = []
  · subst h0
    obtain ⟨a, c, rfl, -⟩ := hv
    obtain ⟨a2, c2, rfl⟩ := hu.len
    clear hu
    go_enter Tryd.func15, Tryd.ntmps15
    go_wp2_with fail
    go_loopw [5] (fun i wr => i = .int .i64 0 ∧ wr = w) (fun _ _ => 0)
    case atStart => exact ⟨rfl, rfl⟩
    case round =>
      obtain ⟨rfl, rfl⟩ := hrel
      go_wp2_with fail
      go_ret
      exact ⟨rfl, Below.refl _ _⟩
  · exact (sameTexts_any u v xs xs B 0 w hu (hv.strs h0)).mono fun e w' h => by rw [decide_eq_true rfl] at h; exact h
/-- append to an empty row of one's own what came in -/
theorem wpList_append_arg0 {P : Program} (w : World) {ops : Array Oper} {rest : List Oper} {o : Oper} {a : Act} {Q : Exit → Act → World → Prop} (hgd : o.guard = none) (s x : Operand) (t : TypeId)
    (ho : o.op = .call { callee := .builtin .append, args := #[s, x], argTypes := #[t, t] })
    (e : TypeId) (he : e = 9) (ht : P.underlying t = some (.slice e)) (i : TypeInfo) (hi : P.info? e = some i) (hz : i.zero = some (.string ByteArray.empty)) (hsz : i.size = 1) (hby : i.bytes = 16)
    (B b : Nat) (hs : a.eval s = .slice (some ⟨b, 0, none⟩) 0 0) (hown : w.ownsRow B 9 1 (.slice (some ⟨b, 0, none⟩) 0 0) 0 []) (u : Value) (ls : List ByteArray) (hx : a.eval x = u) (hu : Arg w u ls) (hB : B ≤ b) (hw : b < w.heap.size) (h16 : ls.length * 16 ≤ 140737488351232)
    (h : ∀ v' w', w'.ownsRow B 9 1 v' ls.length (ls.map Value.string) → Below b w w' → Below B w w' → wpList P ops Q rest (a.put o.dst v') w') : wpList P ops Q (o :: rest) a w := by
  subst he
  refine wpList_plain hgd fun K hK => ?_
  have key : ∃ v' w', (Builtin.append_ #[t, t] o.type #[.slice (some ⟨b, 0, none⟩) 0 0, u]).run P w = .ok v' w' ∧ w'.ownsRow B 9 1 v' ls.length (ls.map Value.string) ∧ Below b w w' ∧ Below B w w' := by
    by_cases h0 : ls = []
    · subst h0
      obtain ⟨ad, c, rfl, -⟩ := hu
      have hsrc : Src P i.size t (.slice ad 0 c) 0 [] w := by
        cases ad with
        | none => exact Src.ofNil w ht c
        | some ad => exact Src.ofSlice w ht ad 0 c [] (by simp) (by simp) (by simp)
      have hr : (Builtin.append_ #[t, t] o.type #[.slice (some ⟨b, 0, none⟩) 0 0, .slice ad ([] : List ByteArray).length c]).run P w = .ok (.slice (some ⟨b, 0, none⟩) 0 0) w := by
        exact run_append_nothing w t t o.type 9 i ht hi (some ⟨b, 0, none⟩) 0 0 (Nat.le_refl _) _ hsrc
      exact ⟨_, _, hr, hown, Below.refl _ _, Below.refl _ _⟩
    · rcases hu.strs h0 with ⟨-, h1⟩ | ⟨g, of, c, rfl, hc, hl, -, hg, hcell⟩
      · exact absurd h1 h0
      · obtain ⟨v', w', hr, h2, h3, -, h5⟩ := run_append_own_at (P := P) w B t o.type 9 i (.string ByteArray.empty) 1 16 ht hi hz hsz hby rfl (by decide) _ 0 [] hown ⟨g, of, none⟩ ls.length c (ls.map Value.string) (by simp) (by
          intro j y hj
          have hadd : (⟨g, of, none⟩ : Addr).add j = ⟨g, of + j, none⟩ := by unfold Addr.add; split <;> simp_all
          rw [hadd]
          rw [List.getElem?_map] at hj
          cases hx : ls[j]? with
          | none => rw [hx] at hj; cases hj
          | some z => rw [hx] at hj; obtain rfl := Option.some.inj hj; exact hcell j z hx) (by
          intro y hy
          obtain ⟨z, -, rfl⟩ := List.mem_map.1 hy
          rfl) (by unfold maxLen; omega) (by omega) (by omega)
        have hq : ∀ C, C ≤ b → ∀ q, (Value.slice (some ⟨b, 0, none⟩) 0 0).ownBlock = some q → C ≤ q := fun C hC q hq => by
          have : b = q := by simpa [Value.ownBlock] using hq
          omega
        refine ⟨v', w', hr, by simpa using h2, (Below.refl b w).grown h3 (by omega) (hq b (Nat.le_refl _)), (Below.refl B w).grown h3 (by omega) (hq B hB)⟩
  obtain ⟨v', w', hr, h2, h3, h4⟩ := key
  unfold Oper.wp
  simp [execOp, ho, resolve, invoke, builtin, hs, hx, hr, Result.andThen]
  exact hK _ _ (h v' w' h2 h3 h4)
end Go.Proofs.YtkhpifjhnkknbaaDoor
