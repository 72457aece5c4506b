/- A node's sectors are counted: one more (count's function). -/
import Derived.Test.YteffoihkljkfdaaDoorPmr
import Derived.Deep.CutBlock
namespace Go.Proofs.YteffoihkljkfdaaDoor
set_option linter.unusedSimpArgs false
set_option linter.unusedVariables false
open Go.RowKit

/-- a set of numbers, as a map -/
def setM (T : Int → Bool) : Int → Option Value := fun t => if T t = true then some (.bool true) else none
theorem setM_put (T : Int → Bool) (x : Int) : (fun y => if y = x then some (Value.bool true) else setM T y) = setM (fun t => T t || decide (t = x)) := by
  funext y
  unfold setM
  by_cases h : y = x
  · simp [h]
  · simp [h]
def addT (k : Int) (T : Int → Bool) : Int → Bool := fun t => T t || (decide (44 ≤ k) && (decide (t = -2) || decide (t = (k - 44) / 32))) || (decide (12 ≤ k) && decide (k < 44) && decide (t = -1))
/-- what count has in hand -/
structure Cnt (w : World) (ga gt bt : Nat) (n : Int) (T : Int → Bool) (c : Nat) : Prop where
  a : hat w ga = some (.cells #[.int .i64 n] 3)
  t : hat w gt = some (.cells #[.map (some bt)] 131)
  m : MG kInt w bt (setM T) c
  ne : ga ≠ gt ∧ ga ≠ bt ∧ gt ≠ bt
theorem Cnt.fr {w w' : World} {ga gt bt : Nat} {n : Int} {T : Int → Bool} {c : Nat} {ex : List Nat} (h : Cnt w ga gt bt n T c) (hf : Fr ex w w') (h1 : ga ∉ ex) (h2 : gt ∉ ex) (h3 : bt ∉ ex) : Cnt w' ga gt bt n T c :=
  ⟨(hf.block _ (hat_lt h.a) h1).trans h.a, (hf.block _ (hat_lt h.t) h2).trans h.t, h.m.fr hf h3, h.ne⟩
theorem set_put {w : World} {b c : Nat} {T : Int → Bool} (h : MG kInt w b (setM T) c) (hc : c ≤ 1000000) {x : Int} (hx : i64ok x) :
    ∃ w' c', (Instr.mapUpdate 131 (.map (some b)) (.int .i64 x) (.bool true)).run Tryd.prog w = .ok () w' ∧ MG kInt w' b (setM (fun t => T t || decide (t = x))) c' ∧ c' ≤ c + 1 ∧ Fr [b] w w' := by
  obtain ⟨w', hr, hm, ht⟩ := h.put Tryd.underlying131 (Nat.lt_of_le_of_lt hc (by decide)) (x := x) hx (.bool true)
  rw [setM_put] at hm
  refine ⟨w', _, hr, hm, ?_, fr_turned ht⟩
  split <;> omega
set_option maxHeartbeats 4000000 in
set_option maxRecDepth 100000 in
theorem add_any {w : World} {ga gt bt : Nat} {n : Int} {T : Int → Bool} {c : Nat} (h : Cnt w ga gt bt n T c) (hc : c ≤ 100000) (hn : 0 ≤ n ∧ n ≤ 100000) {k : Int} (hk : 0 ≤ k ∧ k ≤ 100000) :
    Calls Tryd.prog 75 #[.int .i64 k, .pointer (some ⟨ga, 0, none⟩), .pointer (some ⟨gt, 0, none⟩)] w fun e w' => e = .returned (.tuple #[]) ∧ ∃ c', Cnt w' ga gt bt (n + 1) (addT k T) c' ∧ c' ≤ c + 2 ∧ Fr [ga, bt] w w' := by
  have ha := h.a
  have ht := h.t
  have hal := hat_lt ha
  have htl := hat_lt ht
  have hne := h.ne
  have hf1 := fr_setCell w ga 0 (.int .i64 (n + 1))
  have ha1 : hat (w.setCell ⟨ga, 0, none⟩ (.int .i64 (n + 1))) ga = some (.cells #[.int .i64 (n + 1)] 3) := hat_setCell_at _ _ _ _ _ _ _ ha
  have ht1 := (hf1.block gt htl (by simpa using hne.1.symm)).trans ht
  have hm1 := h.m.fr hf1 (by simpa using hne.2.1.symm)
  have HF1 := Lib.hid hf1
  have HM1 := Lib.hid hm1
  have HA1 := Lib.hid ha1
  clear hf1 hm1 h
  by_cases h44 : 44 ≤ k
  · obtain ⟨w2, c2, hr2, hm2, hc2, hf2⟩ := set_put HM1.out (by omega) (x := -2) (by unfold i64ok; omega)
    have ht2 := (hf2.block gt (hat_lt ht1) (by simpa using hne.2.2)).trans ht1
    obtain ⟨w3, c3, hr3, hm3, hc3, hf3⟩ := set_put hm2 (by omega) (x := (k - 12 - 32) / 32) (by unfold i64ok; omega)
    have ht3 := (hf3.block gt (hat_lt ht2) (by simpa using hne.2.2)).trans ht2
    have ha3 := (hf3.block ga (by have := hat_lt ha1; have := hf2.size; omega) (by simpa using hne.2.1)).trans ((hf2.block ga (hat_lt ha1) (by simpa using hne.2.1)).trans ha1)
    have HE := Lib.hid (show (fun t => (T t || decide (t = -2)) || decide (t = (k - 12 - 32) / 32)) = addT k T from by
      funext t
      unfold addT
      have e1 : (k - 12 - 32) / 32 = (k - 44) / 32 := by rw [show k - 12 - 32 = k - 44 by omega]
      rw [e1]
      have e2 : ¬ k < 44 := by omega
      simp [h44, e2, Bool.or_assoc])
    have HM3 := Lib.hid hm3
    have HF3 := Lib.hid ((HF1.out.mono (ex' := [ga, bt]) (by simp)).trans ((hf2.mono (ex' := [ga, bt]) (by simp)).trans (hf3.mono (by simp))))
    have HA3 := Lib.hid ha3
    have HT3 := Lib.hid ht3
    have HC := Lib.hid (show c3 ≤ c + 2 by omega)
    clear hm2 hm3 hf2 hf3 ha3 ht3 hc2 hc3
    go_enter Tryd.func75, Tryd.ntmps75
    go_wp2_with fail
    refine bodyPost_end (results_none rfl _ _ _) rfl ?_
    exact ⟨rfl, c3, ⟨HA3.out, HT3.out, by rw [← HE.out]; exact HM3.out, hne⟩, HC.out, HF3.out⟩
  · by_cases h12 : 12 ≤ k
    · obtain ⟨w2, c2, hr2, hm2, hc2, hf2⟩ := set_put HM1.out (by omega) (x := -1) (by unfold i64ok; omega)
      have ht2 := (hf2.block gt (hat_lt ht1) (by simpa using hne.2.2)).trans ht1
      have ha2 := (hf2.block ga (hat_lt ha1) (by simpa using hne.2.1)).trans ha1
      have HE := Lib.hid (show (fun t => (T t || decide (t = -1))) = addT k T from by
        funext t
        unfold addT
        have e2 : k < 44 := by omega
        simp [h44, h12, e2])
      have HM3 := Lib.hid hm2
      have HF3 := Lib.hid ((HF1.out.mono (ex' := [ga, bt]) (by simp)).trans (hf2.mono (ex' := [ga, bt]) (by simp)))
      have HA3 := Lib.hid ha2
      have HT3 := Lib.hid ht2
      have HC := Lib.hid (show c2 ≤ c + 2 by omega)
      clear hm2 hf2 ha2 ht2 hc2
      go_enter Tryd.func75, Tryd.ntmps75
      go_wp2_with fail
      refine bodyPost_end (results_none rfl _ _ _) rfl ?_
      exact ⟨rfl, c2, ⟨HA3.out, HT3.out, by rw [← HE.out]; exact HM3.out, hne⟩, HC.out, HF3.out⟩
    · have HE := Lib.hid (show T = addT k T from by
        funext t
        unfold addT
        simp [h44, h12])
      have HT3 := Lib.hid ht1
      go_enter Tryd.func75, Tryd.ntmps75
      go_wp2_with fail
      refine bodyPost_end (results_none rfl _ _ _) rfl ?_
      exact ⟨rfl, c, ⟨HA1.out, HT3.out, by rw [← HE.out]; exact HM1.out, hne⟩, by omega, HF1.out.mono (by simp)⟩
end Go.Proofs.YteffoihkljkfdaaDoor
