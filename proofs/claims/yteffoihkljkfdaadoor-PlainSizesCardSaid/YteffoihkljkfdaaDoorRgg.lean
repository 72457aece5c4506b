/- Operations with a guard in a region that draws. -/
import Derived.Test.YteffoihkljkfdaaDoorRg
namespace Go.Proofs.YteffoihkljkfdaaDoor
set_option linter.unusedSimpArgs false
set_option linter.unusedVariables false
open Go.RowKit
section
variable {P : Program} {ops : Array Oper} {Q : Exit → Act → World → Prop}
theorem wanted_of {o : Oper} {a : Act} {j d : Nat} {b : Bool} (ho : o.guard = some (j, b)) {oj : Oper} (hj : ops[j]? = some oj) (hd : oj.dst = some d) (h : gt a d = .bool b) : Region.wanted o (yielded ops a.tmps) = true := by
  have h1 : a.tmps[d]? = some (.bool b) := by
    unfold gt at h
    rw [Array.getD_eq_getD_getElem?] at h
    cases hx : a.tmps[d]? with
    | none => rw [hx] at h; cases h
    | some v => rw [hx] at h; exact congrArg some h
  have h2 : yielded ops a.tmps j = some b := by
    unfold yielded
    rw [hj]
    simp [hd, h1]
  simp [Region.wanted, ho, h2]
theorem wanted_free {o : Oper} {a : Act} (ho : o.guard = none) : Region.wanted o (yielded ops a.tmps) = true := by simp [Region.wanted, ho]
theorem wpOp_val_g {i : Nat} {o : Oper} {K : Act → World → Prop} {a : Act} {w w1 : World} {v : Value} (ho : ops[i]? = some o) (hg : Region.wanted o (yielded ops a.tmps) = true)
    (hr : (execOp a.eval o).run P w = .ok (.value v) w1) (hk : K (a.put o.dst v) w1) : wpOp P ops Q i K a w := by
  unfold wpOp
  simp only [ho]
  rw [if_pos hg]
  refine .inl ?_
  unfold Oper.wp
  rw [hr]
  exact hk
theorem wpOp_call_g {i : Nat} {o : Oper} {K : Act → World → Prop} {a : Act} {w : World} {f : FuncId} {args : Array Value} {R : Ending → World → Prop} (ho : ops[i]? = some o) (hg : Region.wanted o (yielded ops a.tmps) = true)
    (hr : (execOp a.eval o).run P w = .ok (.enter f args) w) (hc : Calls P f args w R) (hk : ∀ e w', R e w' → ∃ v, e = .returned v ∧ K (a.put o.dst v) w') : wpOp P ops Q i K a w := by
  unfold wpOp
  simp only [ho]
  rw [if_pos hg]
  refine .inl ?_
  unfold Oper.wp
  rw [hr]
  refine hc.mono fun e w' hR => ?_
  obtain ⟨v, rfl, hK⟩ := hk e w' hR
  exact hK
theorem wpOp_load_row_g {i : Nat} {o : Oper} {K : Act → World → Prop} {a : Act} {w : World} (ty n : Nat) (hT : RowTy P ty n) (x : Operand) (ho : ops[i]? = some o) (hg : Region.wanted o (yielded ops a.tmps) = true) (hop : o.op = .load ty x)
    (g : Nat) (cs : Array Value) {t : TypeId} {fr : Nat × Nat} (hx : a.eval x = .pointer (some ⟨g, 0, none⟩)) (hh : hat w g = some (.cells cs t fr)) (hs : cs.size = n) (hk : K (a.put o.dst (.agg cs)) w) : wpOp P ops Q i K a w := by
  refine wpOp_val_g ho hg ?_ hk
  unfold execOp
  simp only [hop, hx, Instr.loadAt, Instr.sureAddr, Sem.run_bind, Sem.run_pure, Result.andThen_ok, hT.load w g cs t fr hh hs]
theorem wpOp_move_g {i : Nat} {o : Oper} {K : Act → World → Prop} {a : Act} {w : World} (x : Operand) (ho : ops[i]? = some o) (hg : Region.wanted o (yielded ops a.tmps) = true) (hop : o.op = .move x)
    (v : Value) (hx : a.eval x = v) (hk : K (a.put o.dst v) w) : wpOp P ops Q i K a w := by
  refine wpOp_val_g ho hg ?_ hk
  unfold execOp
  simp only [hop, hx]
  rfl
end
end Go.Proofs.YteffoihkljkfdaaDoor
