/- How many sectors a node has: the walk. -/
import Derived.Test.YteffoihkljkfdaaDoorPnd
import Derived.Deep.CutBlock
import Derived.Deep.CutRange
namespace Go.Proofs.YteffoihkljkfdaaDoor
set_option linter.unusedSimpArgs false
set_option linter.unusedVariables false
open Go.RowKit

theorem ret_intP {a b : Int} {k : IntKind} (h : a = b) : Ending.returned (.int k a) = .returned (.int k b) := by rw [h]
theorem Fr.bl {w w' : World} (h : Fr [] w w') : Below w.heap.size w w' := h.below (Nat.le_refl _) (by simp)
/-- which blocks have been counted -/
def vis (n : Nd) (left : Int → Bool) : Int → Bool := fun k => (n.data k).isSome && !left k
theorem vis_start (n : Nd) : vis n (fun x => (n.dataM x).isSome) = fun _ => false := by
  funext k
  unfold vis Nd.dataM
  cases h : n.data k <;> simp [h]
theorem vis_step {n : Nd} {left : Int → Bool} {x : Int} (hs : (n.data x).isSome = true) (hl : left x = true) : vis n (fun y => left y && !decide (y = x)) = fun k => vis n left k || decide (k = x) := by
  funext k
  unfold vis
  by_cases h : k = x
  · subst h; simp [hs]
  · simp [h]
set_option maxHeartbeats 8000000 in
set_option maxRecDepth 100000 in
theorem count_any {w : World} {a : NA} {n : Nd} (h : NodeAt w a n) (hn : NOk n) : Calls Tryd.prog 55 #[.pointer (some ⟨a.g, 0, none⟩)] w fun e w' => e = .returned (.int .i64 n.count) ∧ Below w.heap.size w w' := by
  have hb0 : Below w.heap.size w (((w.alloc (.map #[] 0)).alloc (.cells #[.map (some w.heap.size)] 131)).alloc (.cells #[.int .i64 0] 3)) := (((Below.refl w.heap.size w).alloc (Nat.le_refl _) _).alloc (by simp) _).alloc (by simp; omega) _
  have HH := Lib.hid h
  have hf0 := fr_below hb0 []
  have H0 := Lib.hid (h.fr hf0 (by simp) (fun _ _ => by simp) (fun _ _ => by simp) (fun _ _ => by simp))
  have hsz : ((w.alloc (.map #[] 0)).alloc (.cells #[.map (some w.heap.size)] 131)).heap.size = w.heap.size + 1 + 1 := by simp
  have hC : Cnt (((w.alloc (.map #[] 0)).alloc (.cells #[.map (some w.heap.size)] 131)).alloc (.cells #[.int .i64 0] 3)) (w.heap.size + 1 + 1) (w.heap.size + 1) w.heap.size 0 (fun _ => false) 0 := by
    refine ⟨?_, ?_, ?_, by omega, by omega, by omega⟩
    · rw [← hsz]; exact (hopN _ _).1
    · have := (hopN (w.alloc (.map #[] 0)) (.cells #[.map (some w.heap.size)] 131)).1
      rw [show (w.alloc (.map #[] 0)).heap.size = w.heap.size + 1 by simp] at this
      exact (hopA _ _ this).1
    · have e1 : setM (fun _ => false) = fun _ => none := by funext t; simp [setM]
      rw [e1]
      exact (MG.made (E := kInt) w).fr ((fr_new _ _ []).trans (fr_new _ _ [])) (by simp)
  have HC0 := Lib.hid hC
  have HB0 := Lib.hid hb0
  have hmm := @run_makeMap Tryd.prog
  have hmf : ∀ (fn : Fn) (first cap : Array Value) (w : World), (Instr.makeFunc fn first cap).run Tryd.prog w = .ok (.func fn first cap) w := fun _ _ _ _ => rfl
  clear hf0 hC hsz hb0
  go_enter Tryd.func55, Tryd.ntmps55
  go_upto_region 4 with fail
  clear hmm hmf
  generalize ((w.alloc (.map #[] 0)).alloc (.cells #[.map (some w.heap.size)] 131)).alloc (.cells #[.int .i64 0] 3) = w0 at *
  have HN : Hid (a.g < w.heap.size) := Lib.hid (hat_lt h.h)
  obtain ⟨bt, hbt⟩ : ∃ x, x = w.heap.size := ⟨_, rfl⟩
  obtain ⟨ga, hga⟩ : ∃ x, x = w.heap.size + 1 + 1 := ⟨_, rfl⟩
  obtain ⟨gt, hgt⟩ : ∃ x, x = w.heap.size + 1 := ⟨_, rfl⟩
  rw [← hga, ← hgt, ← hbt] at HC0 ⊢
  have HNM := Lib.hid (show bt = w.heap.size ∧ ga = w.heap.size + 1 + 1 ∧ gt = w.heap.size + 1 from ⟨hbt, hga, hgt⟩)
  have hh0 := H0.out.h
  have hl0 := hat_lt hh0
  have hdv := H0.out.d.map
  rw [hdv] at hh0
  have hsl := H0.out.s.slice
  obtain ⟨sa, sc, hsl⟩ := hsl
  rw [hsl] at hh0
  have HDV := Lib.hid hdv
  have HSL := Lib.hid hsl
  clear hdv hsl hbt hga hgt h
  go_wp2_with (first | (at_range; refine wpList_range_mo rfl _ _ rfl Tryd.underlying71 rfl (show MO kInt w0 (.map a.db) a.db n.dataM a.dc by rw [← HDV.out]; exact H0.out.d) ?_; intro w1 cnt hmr hf hs) | fail)
  go_frame
  obtain ⟨r, hr⟩ : ∃ x, x = w0.heap.size := ⟨_, rfl⟩
  rw [← hr] at hmr ⊢
  have HR := Lib.hid (show w.heap.size ≤ r ∧ ga < r ∧ gt < r ∧ bt < r from by
    have h1 := HNM.out
    have h2 := hat_lt HC0.out.a
    omega)
  have HS := Lib.hid (show MRO kInt w1 a.db r n.dataM a.dc (fun x => (n.dataM x).isSome) cnt from hmr)
  have HC1 := Lib.hid (HC0.out.fr hf (by simp) (by simp) (by simp))
  have HF1 := Lib.hid ((fr_below HB0.out []).trans hf)
  clear hmr hs hr hf hh0 hl0 HB0
  go_loopw [6] (fun v6 wr => ∃ (left : Int → Bool) (cnt c : Nat), Hid (MRO kInt wr a.db r n.dataM a.dc left cnt) ∧ Hid (Cnt wr ga gt bt ((cntB 1068 (vis n left) : Nat) : Int) (tabV (vis n left)) c) ∧ Hid (c ≤ 2 * cntB 1068 (vis n left)) ∧ Hid (Fr [] w wr)) (fun _ wr => wr.rangeLeft (a.db.getD 0) r)
  case atStart =>
    refine ⟨_, _, 0, HS, ?_, Lib.hid (Nat.zero_le _), HF1⟩
    have h1 := HC1.out
    rw [vis_start, tabV_none, cntB_none (fun _ _ _ => rfl)]
    exact Lib.hid h1
  case round =>
    obtain ⟨left, cnt, c, HMR, HC, HCC, HF⟩ := hrel
    go_wp2_with (first | (at_next; refine wpList_next_mo rfl _ rfl rfl HMR.out ?_ ?_) | fail)
    · intro hl0
      have HN2 := Lib.hid (HH.out.fr HF.out (by simp) (fun _ _ => by simp) (fun _ _ => by simp) (fun _ _ => by simp))
      have hv : vis n left = fun k => (n.data k).isSome := by
        funext k
        unfold vis
        rw [hl0 k]; simp
      have hC := HC.out
      have hCC := HCC.out
      rw [hv] at hC hCC
      have HC := Lib.hid hC
      have HCC := Lib.hid hCC
      clear hC hCC HMR hl0 hv
      have hh := HN2.out.h
      rw [HDV.out, HSL.out] at hh
      have hhl := hat_lt hh
      have hsl := HN2.out.s
      go_wp2_with fail
      go_loopw [27] (fun v27 wr => ∃ (i c : Nat), v27 = .int .i64 i ∧ i ≤ n.slots.length ∧ Hid (Cnt wr ga gt bt ((cntB 1068 (fun k => (n.data k).isSome) + i : Nat) : Int) (tabV (fun k => (n.data k).isSome || decide (0 ≤ k ∧ k < i))) c) ∧ Hid (c ≤ 2 * (cntB 1068 (fun k => (n.data k).isSome) + i)) ∧ Hid (Fr [] w wr)) (fun v _ => n.slots.length - (intOf v).toNat)
      case atStart =>
        refine ⟨0, c, rfl, by omega, ?_, Lib.hid (by have := HCC.out; omega), HF⟩
        have h1 := HC.out
        rw [tabV_congr (V' := fun k => (n.data k).isSome || decide (0 ≤ k ∧ k < ((0 : Nat) : Int))) (fun k h0 _ => by
          have : ¬ (0 ≤ k ∧ k < ((0 : Nat) : Int)) := by omega
          show _ = (_ || decide _)
          rw [decide_eq_false this, Bool.or_false])] at h1
        exact Lib.hid h1
      case round =>
        obtain ⟨i, c2, rfl, hi, HCi, HCCi, HFi⟩ := hrel
        have hi0 : (0 : Int) ≤ (i : Int) := Int.natCast_nonneg _
        have hcb := cntB_le 1068 (fun k => (n.data k).isSome)
        have hsm := hn.sl
        by_cases hlt : i < n.slots.length
        · have hi1 : (i : Int) < (n.slots.length : Int) := by omega
          go_wp2_with fail
          refine (add_any HCi.out (by have := HCCi.out; omega) ⟨by omega, by omega⟩ ⟨hi0, by omega⟩).mono ?_; rintro e w3 ⟨rfl, c', hc', hle, hf3⟩
          have HF3 := Lib.hid ((((HFi.out.mono (ex' := [ga, bt]) (by simp)).trans (hf3.mono (ex' := [ga, bt]) (by simp))).past (ex' := []) (fun g hg => .inr (by
            have h1 := HNM.out
            simp at hg; omega))))
          have hc2 : Cnt w3 ga gt bt ((cntB 1068 (fun k => (n.data k).isSome) + (i + 1) : Nat) : Int) (tabV (fun k => (n.data k).isSome || decide (0 ≤ k ∧ k < ((i + 1 : Nat) : Int)))) c' := by
            rw [tabV_step ⟨hi0, by omega⟩] at hc'
            have e1 : (fun k => (n.data k).isSome || decide (0 ≤ k ∧ k < ((i + 1 : Nat) : Int))) = (fun k => ((n.data k).isSome || decide (0 ≤ k ∧ k < (i : Int))) || decide (k = (i : Int))) := by
              funext k
              rw [Bool.or_assoc]
              congr 1
              rw [← Bool.decide_or]
              apply decide_eq_decide.2
              omega
            rw [e1]
            have e2 : ((cntB 1068 (fun k => (n.data k).isSome) + (i + 1) : Nat) : Int) = ((cntB 1068 (fun k => (n.data k).isSome) + i : Nat) : Int) + 1 := by omega
            rw [e2]
            exact hc'
          have HC3 := Lib.hid hc2
          have HL3 := Lib.hid (show c' ≤ 2 * (cntB 1068 (fun k => (n.data k).isSome) + (i + 1)) by have := HCCi.out; omega)
          clear hc' hle hf3 hc2
          go_wp2_with fail
          go_roundw
          case rel => exact ⟨i + 1, c', by go_num, by omega, HC3, HL3, HF3⟩
          case measure => (show n.slots.length - (i + 1) < n.slots.length - i); omega
        · obtain rfl : i = n.slots.length := by omega
          have hhas : (fun k => (n.data k).isSome || decide (0 ≤ k ∧ k < ((n.slots.length : Nat) : Int))) = n.has := rfl
          have hC := HCi.out
          rw [hhas] at hC
          have hlen := hC.m.len Tryd.underlying131 3
          have hca := hC.a
          have hct := hC.t
          have hal := hat_lt hca
          have htl := hat_lt hct
          have HTL := Lib.hid (tabs_len hC.m)
          have htb := cntB_le 40 (fun j => tabV n.has (j - 2))
          have hcc : c2 ≤ 40 := by have := HTL.out; omega
          clear hC hhas
          go_wp2_with fail
          go_ret
          refine ⟨?_, HFi.out.bl⟩
          rw [HTL.out]
          refine ret_intP ?_
          unfold Nd.count
          push_cast
          omega
    · intro x v w2 cnt' b hx hl hm hmr hlt hf hs hen hob
      have hdx : (n.data x).isSome = true := by
        cases hd : n.data x with
        | none => unfold Nd.dataM at hm; rw [hd] at hm; cases hm
        | some s => rfl
      have hxr := hn.dk x hdx
      have hvx : vis n left x = false := by unfold vis; rw [hl]; simp
      have HC2 := Lib.hid (HC.out.fr hf (by have := HR.out; simp; omega) (by have := HR.out; simp; omega) (by have := HR.out; simp; omega))
      have HF2 := Lib.hid ((HF.out.mono (ex' := [r]) (by simp)).trans hf)
      have hxi : i64ok x := hx
      have HM2 := Lib.hid hmr
      have hcb := cntB_le 1068 (vis n left)
      have hcc := HCC.out
      obtain ⟨xk, hxk⟩ : ∃ y, kInt.kv x = y := ⟨_, rfl⟩
      have HLT := Lib.hid hlt
      have HML := Lib.hid (show w2.rangeLeft (a.db.getD 0) r = cnt' ∧ wr.rangeLeft (a.db.getD 0) r = cnt from by
        have e1 := HM2.out
        have e2 := HMR.out
        rw [hob] at e1 e2 ⊢
        exact ⟨e1.left_eq, e2.left_eq⟩)
      have hen2 : (Instr.entry (.pointer (some ⟨r, 0, none⟩))).run Tryd.prog w2 = .ok (.tuple #[.int .i64 x, v]) w2 := hen
      have HOB := Lib.hid hob
      clear hen hmr hf hxk hlt hob
      go_wp2_with fail
      refine (add_any HC2.out (by omega) ⟨by omega, by omega⟩ ⟨hxr.1, by omega⟩).mono ?_; rintro e w3 ⟨rfl, c', hc', hle, hf3⟩
      have HM3 := Lib.hid (HM2.out.fr hf3 (fun b hb => by
        have h1 := HH.out.d.lt b hb
        have h2 := HNM.out
        simp; omega) (by have := HR.out; simp; omega))
      have HF3 := Lib.hid ((((HF2.out.mono (ex' := [r, ga, bt]) (by simp)).trans (hf3.mono (ex' := [r, ga, bt]) (by simp))).past (ex' := []) (fun g hg => .inr (by
        have h1 := HNM.out
        have h2 := HR.out
        simp at hg; omega))) )
      have hc2 : Cnt w3 ga gt bt ((cntB 1068 (vis n (fun y => left y && !decide (y = x))) : Nat) : Int) (tabV (vis n (fun y => left y && !decide (y = x)))) c' := by
        rw [vis_step hdx hl, cntB_step (by omega) hvx, ← tabV_step hxr]
        exact hc'
      have HC3 := Lib.hid hc2
      have HL3 : Hid (c' ≤ 2 * cntB 1068 (vis n (fun y => left y && !decide (y = x)))) := Lib.hid (by
        rw [vis_step hdx hl, cntB_step (by omega) hvx]; omega)
      have HML3 := Lib.hid (show w3.rangeLeft (a.db.getD 0) r = cnt' from by
        have e1 := HM3.out
        rw [HOB.out] at e1 ⊢
        exact e1.left_eq)
      clear hc' hle hf3 hc2 hcc
      go_wp2_with fail
      go_roundw
      case rel => exact ⟨_, cnt', c', HM3, HC3, HL3, HF3⟩
      case measure =>
        rw [HML3.out, HML.out.2]
        exact HLT.out
end Go.Proofs.YteffoihkljkfdaaDoor
