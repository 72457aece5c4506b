/- Contracts and laws that the claim leans on, laid together in the order in which they build. -/
import Derived.Test.YteffoihkljkfdaaDoorM03
import Derived.Test.YteffoihkljkfdaaDoorM04

/- fine: the walk. -/
namespace Go.Proofs.YteffoihkljkfdaaDoor
set_option linter.unusedSimpArgs false
set_option linter.unusedVariables false
open Go.RowKit Go.Maps

structure OpV where
  kind : Int
  path : ByteArray
  dest : ByteArray
  off : Int
  len : Int
  data : List Int
  made : Int
  pick : Int
def opV (o : OpV) (dv : Value) : Array Value := #[.int .i64 o.kind, .string o.path, .string o.dest, .int .i64 o.off, .int .i64 o.len, dv, .int .i64 o.made, .int .i64 o.pick]
def hasL (k r : Int) : Bool := lets (usesZ k) (usesZ k).size r
/-- may an operation be? -/
def mayZ (o : OpV) : Bool :=
  decide (1 ≤ o.kind ∧ o.kind ≤ 14 ∧ 0 ≤ o.made ∧ o.made ≤ 1099511627776) && (hasL o.kind 112 || o.path.toList == []) && (hasL o.kind 116 || o.dest.toList == []) && (hasL o.kind 111 || o.off == 0) && (hasL o.kind 108 || o.len == 0) && (hasL o.kind 100 || (o.data.length : Int) == 0) && (hasL o.kind 109 || o.made == 0) && (hasL o.kind 102 || o.pick == 0)
theorem rune_look {w : World} {b c : Nat} {f : Int → Bool} (h : MG kRune w b (runeM f) c) (r : Int) (hr : i32ok r) : (Instr.lookup 104 (.map (some b)) (.int .i32 r) false).run Tryd.prog w = .ok (.bool (f r)) w := by
  have h1 := h.lookc (e := 4) Tryd.underlying104 (z := .bool false) (by kernel_rfl) (x := r) hr
  unfold runeM at h1
  cases hf : f r
  · rw [hf] at h1; exact h1
  · rw [hf] at h1; exact h1
theorem may_out {o : OpV} (h : ¬ (1 ≤ o.kind ∧ o.kind ≤ 14 ∧ 0 ≤ o.made ∧ o.made ≤ 1099511627776)) : mayZ o = false := by
  unfold mayZ
  rw [decide_eq_false h]; rfl
theorem pats {k : Int} (h : 1 ≤ k ∧ k ≤ 14) : (hasL k 112 = true ∧ hasL k 116 = false ∧ hasL k 111 = false ∧ hasL k 108 = false ∧ hasL k 100 = false ∧ hasL k 109 = true ∧ hasL k 102 = false) ∨
    (hasL k 112 = true ∧ hasL k 116 = true ∧ hasL k 111 = false ∧ hasL k 108 = false ∧ hasL k 100 = false ∧ hasL k 109 = false ∧ hasL k 102 = false) ∨
    (hasL k 112 = true ∧ hasL k 116 = false ∧ hasL k 111 = false ∧ hasL k 108 = false ∧ hasL k 100 = false ∧ hasL k 109 = false ∧ hasL k 102 = false) ∨
    (hasL k 112 = true ∧ hasL k 116 = false ∧ hasL k 111 = true ∧ hasL k 108 = false ∧ hasL k 100 = true ∧ hasL k 109 = false ∧ hasL k 102 = false) ∨
    (hasL k 112 = true ∧ hasL k 116 = false ∧ hasL k 111 = true ∧ hasL k 108 = false ∧ hasL k 100 = false ∧ hasL k 109 = false ∧ hasL k 102 = false) ∨
    (hasL k 112 = true ∧ hasL k 116 = false ∧ hasL k 111 = true ∧ hasL k 108 = true ∧ hasL k 100 = false ∧ hasL k 109 = false ∧ hasL k 102 = false) ∨
    (hasL k 112 = false ∧ hasL k 116 = false ∧ hasL k 111 = false ∧ hasL k 108 = false ∧ hasL k 100 = false ∧ hasL k 109 = false ∧ hasL k 102 = false) ∨
    (hasL k 112 = false ∧ hasL k 116 = false ∧ hasL k 111 = false ∧ hasL k 108 = false ∧ hasL k 100 = false ∧ hasL k 109 = false ∧ hasL k 102 = true) := by
  have hk : k = 1 ∨ k = 2 ∨ k = 3 ∨ k = 4 ∨ k = 5 ∨ k = 6 ∨ k = 7 ∨ k = 8 ∨ k = 9 ∨ k = 10 ∨ k = 11 ∨ k = 12 ∨ k = 13 ∨ k = 14 := by omega
  clear h
  rcases hk with rfl | rfl | rfl | rfl | rfl | rfl | rfl | rfl | rfl | rfl | rfl | rfl | rfl | rfl <;> decide
theorem ret_boolF {a b : Bool} (h : b = a) : Ending.returned (.bool a) = .returned (.bool b) := by rw [h]
set_option maxHeartbeats 16000000 in
set_option maxRecDepth 100000 in
theorem fine_any {w : World} {o : OpV} {a : Option Addr} {cp : Nat} (hsm : o.data.length ≤ 140737488355328) : Calls Tryd.prog 25 #[.agg (opV o (.slice a o.data.length cp))] w fun e w' => e = .returned (.bool (mayZ o)) ∧ Below w.heap.size w w' := by
  have HQ0 := Lib.hid (@may_out o)
  have HQ1 : Hid (mayZ o = (decide (1 ≤ o.kind ∧ o.kind ≤ 14 ∧ 0 ≤ o.made ∧ o.made ≤ 1099511627776) && (hasL o.kind 112 || o.path.toList == []) && (hasL o.kind 116 || o.dest.toList == []) && (hasL o.kind 111 || o.off == 0) && (hasL o.kind 108 || o.len == 0) && (hasL o.kind 100 || (o.data.length : Int) == 0) && (hasL o.kind 109 || o.made == 0) && (hasL o.kind 102 || o.pick == 0))) := Lib.hid rfl
  generalize hM : mayZ o = M at *
  clear hM
  obtain ⟨kind, path, dest, off, len, data, made, pick⟩ := o
  unfold opV
  simp only at *
  by_cases hin : 1 ≤ kind ∧ kind ≤ 14 ∧ 0 ≤ made ∧ made ≤ 1099511627776
  · obtain ⟨k1, k2, m1, m2⟩ := hin
    have HD : Hid (decide (1 ≤ kind ∧ kind ≤ 14 ∧ 0 ≤ made ∧ made ≤ 1099511627776) = true) := Lib.hid (decide_eq_true ⟨k1, k2, m1, m2⟩)
    have HU := Lib.hid (fun (w : World) => @uses_any w kind ⟨k1, k2⟩)
    have HAS := Lib.hid (usesZ_ascii kind)
    have HHL : Hid (∀ r, hasL kind r = lets (usesZ kind) (usesZ kind).size r) := Lib.hid (fun _ => rfl)
    have HSS : Hid ((usesZ kind).size ≤ 3) := Lib.hid (by
      have : (usesZ kind).data.size ≤ 3 := by
        unfold usesZ
        repeat' split
        all_goals simp
      exact this)
    generalize hs : usesZ kind = s at *
    have HSE := Lib.hid hs
    clear hs
    have hmm := @run_makeMap Tryd.prog
    go_enter Tryd.func25, Tryd.ntmps25
    go_upto_region 4 with fail
    obtain ⟨go, hgo⟩ : ∃ x, x = w.heap.size := ⟨_, rfl⟩
    obtain ⟨w0, hw0⟩ : ∃ x, x = (w.alloc (.cells #[.int .i64 kind, .string path, .string dest, .int .i64 off, .int .i64 len, .slice a data.length cp, .int .i64 made, .int .i64 pick] 40)).alloc (.map #[] 0) := ⟨_, rfl⟩
    have hf0 : Fr [] w w0 := by rw [hw0]; exact (fr_new _ _ []).trans (fr_new _ _ [])
    have ho0 : hat w0 go = some (.cells #[.int .i64 kind, .string path, .string dest, .int .i64 off, .int .i64 len, .slice a data.length cp, .int .i64 made, .int .i64 pick] 40) := by
      rw [hw0, hgo]
      exact (hopA _ _ (hopN w _).1).1
    have hm0 : MG kRune w0 (go + 1) (fun _ => none) 0 := by
      have e2 := MG.made (E := kRune) (w.alloc (.cells #[.int .i64 kind, .string path, .string dest, .int .i64 off, .int .i64 len, .slice a data.length cp, .int .i64 made, .int .i64 pick] 40))
      rw [show (w.alloc (.cells #[.int .i64 kind, .string path, .string dest, .int .i64 off, .int .i64 len, .slice a data.length cp, .int .i64 made, .int .i64 pick] 40)).heap.size = go + 1 by rw [hgo]; simp] at e2
      rw [hw0]; exact e2
    rw [← hw0, ← hgo]
    have HGO := Lib.hid (show go = w.heap.size from hgo)
    have HF0 := Lib.hid hf0
    have HO0 := Lib.hid ho0
    have HM0 := Lib.hid hm0
    have hol := hat_lt ho0
    clear hw0 hgo hmm hf0 hm0
    go_wp2_with fail
    refine (HU.out w0).mono ?_; rintro e w1 ⟨rfl, hb1⟩
    have HF1 := Lib.hid (HF0.out.trans (fr_below hb1 []))
    have HO1 := Lib.hid (hop hb1 HO0.out).1
    have HM1 := Lib.hid (HM0.out.fr (fr_below hb1 []) (by simp))
    clear hb1 HO0 HM0 HF0 ho0 hol
    go_wp2_with fail
    obtain ⟨r, hr⟩ : ∃ x, x = w1.heap.size := ⟨_, rfl⟩
    have hri : hat (w1.iter s 0) r = some (.stringIter s 0) := by rw [hr]; exact World.iter_heap w1 s 0
    rw [← hr] at ⊢
    have HR := Lib.hid (show w.heap.size ≤ r ∧ go < r ∧ go + 1 < r from by
      have h1 := HF1.out.size
      have h2 := hat_lt HO1.out
      have h3 := HM1.out.lt
      omega)
    have HF2 := Lib.hid (HF1.out.trans (fr_new w1 (.stringIter s 0) []))
    have HO2 := Lib.hid (hopA w1 (.stringIter s 0) HO1.out).1
    have HM2 := Lib.hid (HM1.out.fr (fr_new w1 (.stringIter s 0) []) (by simp))
    have HRI := Lib.hid hri
    clear hri hr HF1 HO1 HM1
    go_loopg [5] s.size (fun g _ wx => ∃ i c : Nat, i + g = s.size ∧ c ≤ i ∧ Hid (hat wx r = some (.stringIter s i)) ∧ Hid (MG kRune wx (go + 1) (runeM (lets s i)) c) ∧ Hid (hat wx go = some (.cells #[.int .i64 kind, .string path, .string dest, .int .i64 off, .int .i64 len, .slice a data.length cp, .int .i64 made, .int .i64 pick] 40)) ∧ Hid (Fr [] w wx))
    case atStart => exact ⟨0, 0, by omega, by omega, HRI, HM2, HO2, HF2⟩
    case round =>
      obtain ⟨i, c, hig, hci, HRi, HMi, HOi, HFi⟩ := hrel
      clear HRI HM2 HO2 HF2
      cases gk with
      | succ g =>
        have hi : i < s.size := by omega
        have hnx := fun ty => run_next_hat (P := Tryd.prog) _ r s i ty HRi.out hi
        have h128 := HAS.out i hi
        have hd := decode_ascii s i hi h128
        rw [hd] at hnx
        obtain ⟨x, hx⟩ : ∃ x : UInt8, s[i]'hi = x := ⟨_, rfl⟩
        have hxl : s.data.toList[i]? = some x := by rw [← hx]; exact Lib.data_getElem? s i hi
        rw [hx] at h128 hnx
        have z0 := hat_lt HRi.out
        have hf1 : Fr [r] wr (iterAt wr r s (i + 1)) := ⟨rfl, rfl, rfl, by rw [size_iterAt]; exact Nat.le_refl _, fun b hb hn => by
          show (wr.heap.setIfInBounds r _)[b]? = _
          rw [Array.getElem?_setIfInBounds_ne (by simp at hn; omega)]; rfl⟩
        have hr1 := hat_iterAt wr r s (i + 1) z0
        have hm1 := HMi.out.fr hf1 (by have := HR.out; simp; omega)
        have ho1 := (hf1.block go (hat_lt HOi.out) (by have := HR.out; simp; omega)).trans HOi.out
        generalize iterAt wr r s (i + 1) = w2 at *
        obtain ⟨w3, hr3, hm3, ht3⟩ := hm1.put (t := 104) (e := 4) Tryd.underlying104 (by have := HSS.out; unfold maxLen; omega) (x := (x.toNat : Int)) (show i32ok _ from ⟨by omega, by omega⟩) (.bool true)
        have hr3 : (Instr.mapUpdate 104 (.map (some (go + 1))) (.int .i32 x.toNat) (.bool true)).run Tryd.prog w2 = .ok () w3 := hr3
        have hf3 := fr_turned ht3
        have e1 : (fun y => if y = (x.toNat : Int) then some (Value.bool true) else runeM (lets s i) y) = runeM (lets s (i + 1)) := by
          funext y
          unfold runeM
          rw [lets_succ hxl]
          by_cases hy : y = (x.toNat : Int)
          · subst hy; simp
          · have : ((x.toNat : Int) == y) = false := by simp; exact fun e => hy e.symm
            rw [if_neg hy, this, Bool.or_false]
        rw [e1] at hm3
        have HM3 := Lib.hid hm3
        have HR3 := Lib.hid ((hf3.block r (hat_lt hr1) (by have := HR.out; simp; omega)).trans hr1)
        have HO3 := Lib.hid ((hf3.block go (hat_lt ho1) (by simp)).trans ho1)
        have HF3 := Lib.hid (((HFi.out.mono (ex' := [r, go + 1]) (by simp)).trans ((hf1.mono (by simp)).trans (hf3.mono (by simp)))).past (ex' := []) (fun b hb => .inr (by have h1 := HR.out; have h2 := HGO.out; simp at hb; omega)))
        clear hm3 ht3 hf3 hf1 hr1 hm1 ho1 hx hxl hd e1 z0
        go_wp2_with fail
        go_roundg g
        case measure => omega
        case rel => exact ⟨i + 1, _, by omega, by split <;> omega, HR3, HM3, HO3, HF3⟩
      | zero =>
        obtain rfl : i = s.size := by omega
        have hnx := fun ty => run_next_hat_end (P := Tryd.prog) _ r s s.size ty HRi.out (by omega)
        have l1 := rune_look HMi.out 112 ⟨by omega, by omega⟩
        have l2 := rune_look HMi.out 116 ⟨by omega, by omega⟩
        have l3 := rune_look HMi.out 111 ⟨by omega, by omega⟩
        have l4 := rune_look HMi.out 108 ⟨by omega, by omega⟩
        have l5 := rune_look HMi.out 100 ⟨by omega, by omega⟩
        have l6 := rune_look HMi.out 109 ⟨by omega, by omega⟩
        have l7 := rune_look HMi.out 102 ⟨by omega, by omega⟩
        rw [← HHL.out] at l1 l2 l3 l4 l5 l6 l7
        have hoo := HOi.out
        have hol := hat_lt hoo
        have HPT := Lib.hid (pats (k := kind) ⟨k1, k2⟩)
        generalize hasL kind 112 = b1 at *
        generalize hasL kind 116 = b2 at *
        generalize hasL kind 111 = b3 at *
        generalize hasL kind 108 = b4 at *
        generalize hasL kind 100 = b5 at *
        generalize hasL kind 109 = b6 at *
        generalize hasL kind 102 = b7 at *
        clear HU HAS HHL HSS HSE hsm
        rcases HPT.out with ⟨rfl, rfl, rfl, rfl, rfl, rfl, rfl⟩ | ⟨rfl, rfl, rfl, rfl, rfl, rfl, rfl⟩ | ⟨rfl, rfl, rfl, rfl, rfl, rfl, rfl⟩ | ⟨rfl, rfl, rfl, rfl, rfl, rfl, rfl⟩ | ⟨rfl, rfl, rfl, rfl, rfl, rfl, rfl⟩ | ⟨rfl, rfl, rfl, rfl, rfl, rfl, rfl⟩ | ⟨rfl, rfl, rfl, rfl, rfl, rfl, rfl⟩ | ⟨rfl, rfl, rfl, rfl, rfl, rfl, rfl⟩
        all_goals
          clear HPT
          go_wp2_with fail
          all_goals
            go_ret
            refine ⟨ret_boolF ?_, HFi.out.bl⟩
            rw [HQ1.out, HD.out]
            clear HMi HRi hnx HOi hol HFi
            first | rw [show (path.toList == []) = true from beq_iff_eq.2 ‹path.toList = []›] | rw [show (path.toList == []) = false from beq_eq_false_iff_ne.2 ‹¬ path.toList = []›] | skip
            first | rw [show (dest.toList == []) = true from beq_iff_eq.2 ‹dest.toList = []›] | rw [show (dest.toList == []) = false from beq_eq_false_iff_ne.2 ‹¬ dest.toList = []›] | skip
            first | rw [show (off == 0) = true from beq_iff_eq.2 ‹off = 0›] | rw [show (off == 0) = false from beq_eq_false_iff_ne.2 ‹¬ off = 0›] | skip
            first | rw [show (len == 0) = true from beq_iff_eq.2 ‹len = 0›] | rw [show (len == 0) = false from beq_eq_false_iff_ne.2 ‹¬ len = 0›] | skip
            first | rw [show ((data.length : Int) == 0) = true from by rw [‹data = []›]; rfl] | rw [show ((data.length : Int) == 0) = false from beq_eq_false_iff_ne.2 (fun e => ‹¬ data = []› (List.eq_nil_of_length_eq_zero (by omega)))] | skip
            first | rw [show (made == 0) = true from beq_iff_eq.2 ‹made = 0›] | rw [show (made == 0) = false from beq_eq_false_iff_ne.2 ‹¬ made = 0›] | skip
            first | rw [show (pick == 0) = true from beq_iff_eq.2 ‹pick = 0›] | rw [show (pick == 0) = false from beq_eq_false_iff_ne.2 ‹¬ pick = 0›] | skip
            simp
  · have HE := Lib.hid (HQ0.out hin)
    by_cases k1 : kind < 1
    · clear hin
      go_enter Tryd.func25, Tryd.ntmps25
      go_wp2_with fail
      go_ret
      exact ⟨by rw [HE.out]; rfl, (Below.refl _ _).alloc (Nat.le_refl _) _⟩
    · by_cases k2 : 14 < kind
      · clear hin
        go_enter Tryd.func25, Tryd.ntmps25
        go_wp2_with fail
        go_ret
        exact ⟨by rw [HE.out]; rfl, (Below.refl _ _).alloc (Nat.le_refl _) _⟩
      · by_cases k3 : made < 0
        · clear hin
          go_enter Tryd.func25, Tryd.ntmps25
          go_wp2_with fail
          go_ret
          exact ⟨by rw [HE.out]; rfl, (Below.refl _ _).alloc (Nat.le_refl _) _⟩
        · have k4 : 1099511627776 < made := by omega
          clear hin
          go_enter Tryd.func25, Tryd.ntmps25
          go_wp2_with fail
          go_ret
          exact ⟨by rw [HE.out]; rfl, (Below.refl _ _).alloc (Nat.le_refl _) _⟩
end Go.Proofs.YteffoihkljkfdaaDoor

/- From one contract to the next. -/
namespace Go.Proofs.YteffoihkljkfdaaDoor
set_option linter.unusedSimpArgs false
set_option linter.unusedVariables false
open Go.RowKit

def nrm (w : World) (own : Nat → Option (Int × Nat)) : Nat → Option (Int × Nat) := fun b => if b < w.heap.size then own b else none
theorem nrm_lt {w : World} {own : Nat → Option (Int × Nat)} {b : Nat} (h : b < w.heap.size) : nrm w own b = own b := if_pos h
theorem nrm_ge {w : World} {own : Nat → Option (Int × Nat)} {b : Nat} (h : w.heap.size ≤ b) : nrm w own b = none := if_neg (by omega)
theorem PW.nrm {w : World} {gp bn c : Nat} {S : PS} {A : Int → NA} {own : Nat → Option (Int × Nat)} (h : PW w gp bn c S A own) : PW w gp bn c S A (nrm w own) := by
  refine ⟨⟨h.t.p, h.t.m, h.t.n, ⟨(nrm_lt (hat_lt h.t.p)).trans h.t.op.1, (nrm_lt h.t.m.lt).trans h.t.op.2⟩, fun i n hi => ?_⟩, h.o, h.f, h.h⟩
  have hl := (h.t.n i n hi).lts
  have ho := h.t.og i n hi
  exact ⟨(nrm_lt hl.1).trans ho.1, fun b hb => (nrm_lt (hl.2.1 b hb)).trans (ho.2.1 b hb), fun b hb => (nrm_lt (hl.2.2.1 b hb)).trans (ho.2.2.1 b hb), fun b hb => (nrm_lt (hl.2.2.2 b hb)).trans (ho.2.2.2 b hb)⟩
theorem Mvd.from {w w0 w' : World} {gp bn : Nat} {own own' : Nat → Option (Int × Nat)} {S' : PS} (hf : Fr [] w w0) (h : Mvd w0 w' gp bn (Go.Proofs.YteffoihkljkfdaaDoor.nrm w own) S' own') : Mvd w w' gp bn own S' own' := by
  obtain ⟨h1, h2, h3⟩ := h
  refine ⟨h1, ?_, fun b hb => (h3 b (Nat.lt_of_lt_of_le hb hf.size)).trans (nrm_lt hb)⟩
  exact ⟨h2.os.trans hf.os, h2.tape.trans hf.tape, h2.output.trans hf.output, Nat.le_trans hf.size h2.size, fun b hb hn => (h2.block b (Nat.lt_of_lt_of_le hb hf.size) ((nrm_lt hb).trans hn)).trans (hf.block b hb (by simp))⟩
theorem Mvd.then {w w' w2 : World} {gp bn : Nat} {own own' : Nat → Option (Int × Nat)} {S' : PS} {ex : List Nat} (h : Mvd w w' gp bn own S' own') (hf : Fr ex w' w2) (hx : ∀ b ∈ ex, own' b = none ∧ w.heap.size ≤ b) : Mvd w w2 gp bn own S' own' := by
  obtain ⟨⟨c', A', h1⟩, h2, h3⟩ := h
  exact ⟨⟨c', A', h1.fr hf (fun b hb => (hx b hb).1)⟩, h2.later hf (fun b hb => (hx b hb).2), h3⟩
theorem AnsAt.fr {w w' : World} {B : Nat} {own own' : Nat → Option (Int × Nat)} {v : Value} {x : Ans} {ex : List Nat} (h : AnsAt w B own v x) (hf : Fr ex w w') (hx : ∀ b ∈ ex, b < B) (ho : ∀ b, B ≤ b → own' b = none) {B' : Nat} (hB : B' ≤ B) : AnsAt w' B' own' v x := by
  obtain ⟨dv, ev, od, oe, h1, h2, h3, h4⟩ := h
  have k : ∀ g, od = some g ∨ oe = some g → g ∉ ex := fun g hg hm => by have := hx g hm; have := (h4 g hg).1; omega
  exact ⟨dv, ev, od, oe, h1, h2.fr hf (fun g hg => k g (.inl hg)), h3.fr hf (fun g hg => k g (.inr hg)), fun g hg => ⟨Nat.le_trans hB (h4 g hg).1, ho g (h4 g hg).1⟩⟩
theorem AnsAt.fr' {w w' : World} {B : Nat} {own : Nat → Option (Int × Nat)} {v : Value} {x : Ans} {ex : List Nat} (h : AnsAt w B own v x) (hf : Fr ex w w') (hx : ∀ b ∈ ex, b < B) {B' : Nat} (hB : B' ≤ B) : AnsAt w' B' own v x := by
  obtain ⟨dv, ev, od, oe, h1, h2, h3, h4⟩ := h
  have k : ∀ g, od = some g ∨ oe = some g → g ∉ ex := fun g hg hm => by have := hx g hm; have := (h4 g hg).1; omega
  exact ⟨dv, ev, od, oe, h1, h2.fr hf (fun g hg => k g (.inl hg)), h3.fr hf (fun g hg => k g (.inr hg)), fun g hg => ⟨Nat.le_trans hB (h4 g hg).1, (h4 g hg).2⟩⟩
/-- the data of an operation -/
structure OpAt (w : World) (own : Nat → Option (Int × Nat)) (o : OpV) (dv : Value) : Prop where
  d : ∃ od, BRow w dv od o.data ∧ ∀ b, od = some b → own b = none
  c : ∀ a l c, dv = .slice a l c → l ≤ c
  b : ∀ x ∈ o.data, 0 ≤ x ∧ x < 256
  l : o.data.length ≤ 140737488355328
theorem OpAt.fr {w w' : World} {own own' : Nat → Option (Int × Nat)} {o : OpV} {dv : Value} {ex : List Nat} (h : OpAt w own o dv) (hf : Fr ex w w') (hx : ∀ b ∈ ex, w.heap.size ≤ b) (ho : ∀ b, b < w.heap.size → own' b = own b) : OpAt w' own' o dv := by
  obtain ⟨od, h1, h2⟩ := h.d
  exact ⟨⟨od, h1.fr hf (fun g hg hm => by have := h1.lt g hg; have := hx g hm; omega), fun b hb => (ho b (h1.lt b hb)).trans (h2 b hb)⟩, h.c, h.b, h.l⟩
def zeroA : Value := .slice none 0 0
end Go.Proofs.YteffoihkljkfdaaDoor

/- asks: the walks, kind by kind. -/
namespace Go.Proofs.YteffoihkljkfdaaDoor
set_option linter.unusedSimpArgs false
set_option linter.unusedVariables false
open Go.RowKit

set_option maxHeartbeats 8000000 in
set_option maxRecDepth 100000 in
theorem asks_write {w : World} {gp bn c : Nat} {S : PS} {A : Int → NA} {own : Nat → Option (Int × Nat)} (h : PW w gp bn c S A own) {i : Int} (hi : (S.nodes i).isSome = true) {o : OpV} (hk : o.kind = 7) {dv : Value} (ho : OpAt w own o dv) (hk1 : (S.nd i).kind = 1) :
    Calls Tryd.prog 54 #[.pointer (some ⟨gp, 0, none⟩), .agg (opV o dv), .int .i64 i] w fun e w' => ∃ own' av, e = .returned av ∧ AnsAt w' w.heap.size own' av (.err (S.write i o.off o.data).2) ∧ Mvd w w' gp bn own ((S.write i o.off o.data).1) own' := by
  have hn := PS.nd_get hi
  have H := Lib.hid h.nrm
  have HO := Lib.hid ho
  obtain ⟨od, hdr, hdn⟩ := ho.d
  obtain ⟨da, dc, rfl⟩ := hdr.slice
  obtain ⟨kind, path, dest, off, len, data, made, pick⟩ := o
  simp only at hk
  subst hk
  have HDR := Lib.hid hdr
  clear ho hdr hdn h
  unfold opV
  simp only at HO HDR ⊢
  obtain ⟨w0, hw0⟩ : ∃ x, x = (w.alloc (.cells #[.int .i64 7, .string path, .string dest, .int .i64 off, .int .i64 len, .slice da data.length dc, .int .i64 made, .int .i64 pick] 40)).alloc (.cells ans0 37) := ⟨_, rfl⟩
  obtain ⟨go, hgo⟩ : ∃ x, x = w.heap.size := ⟨_, rfl⟩
  obtain ⟨ga, hga⟩ : ∃ x, x = go + 1 := ⟨_, rfl⟩
  have hf0 : Fr [] w w0 := by rw [hw0]; exact (fr_new _ _ _).trans (fr_new _ _ _)
  have hop0 : hat w0 go = some (.cells #[.int .i64 7, .string path, .string dest, .int .i64 off, .int .i64 len, .slice da data.length dc, .int .i64 made, .int .i64 pick] 40) := by rw [hw0, hgo]; exact (hopA _ _ (hopN w _).1).1
  have hga0 : hat w0 ga = some (.cells ans0 37) := by
    have e := (hopN (w.alloc (.cells #[.int .i64 7, .string path, .string dest, .int .i64 off, .int .i64 len, .slice da data.length dc, .int .i64 made, .int .i64 pick] 40)) (.cells ans0 37)).1
    rw [show (w.alloc (.cells #[.int .i64 7, .string path, .string dest, .int .i64 off, .int .i64 len, .slice da data.length dc, .int .i64 made, .int .i64 pick] 40)).heap.size = ga by rw [hga, hgo]; simp] at e
    rw [hw0]; exact e
  have HG0 := Lib.hid hga0
  have HF0 := Lib.hid hf0
  have HP0 := Lib.hid (H.out.fr hf0 (by simp))
  have HGE := Lib.hid (show w.heap.size ≤ go ∧ w.heap.size ≤ ga ∧ go < ga from by omega)
  have HO0 := Lib.hid (HO.out.fr (own' := nrm w own) hf0 (by simp) (fun b hb => nrm_lt hb))
  go_enter Tryd.func54, Tryd.ntmps54
  go_upto_region 1 with fail
  have hw0' : w0 = (w.alloc (.cells #[.int .i64 7, .string path, .string dest, .int .i64 off, .int .i64 len, .slice da data.length dc, .int .i64 made, .int .i64 pick] 40)).alloc (.cells #[.int .i64 0, .int .i64 0, .int .i64 0, .int .i64 0, .int .i64 0, .int .i64 0, .int .i64 0, .slice none 0 0, .slice none 0 0, .bool false] 37) := hw0
  rw [← hgo, ← hga]
  rw [← hw0']
  clear hw0' hw0 hf0 hga hgo hga0
  have hp0 := HP0.out.t.p
  have hpl0 := hat_lt hp0
  have hol0 := hat_lt hop0
  have hlk := HP0.out.t.look_yes hn
  have hnn := HP0.out.t.n i _ hn
  have hh := hnn.h
  have hhl := hat_lt hh
  have HNN := Lib.hid hnn
  clear hnn
  have hk2 : ¬ (S.nd i).kind = 2 := by rw [hk1]; decide
  go_wp2_with fail
  refine (write_any HP0.out hi hk1 (hdv := (HDR.out.fr HF0.out (by simp))) HO.out.c HO.out.b HO.out.l).mono ?_; rintro e w1 ⟨own', rfl, hmv⟩
  have hgan : nrm w own ga = none := nrm_ge HGE.out.2.1
  have hg1 := (hmv.2.1.block ga (hat_lt HG0.out) hgan).trans HG0.out
  have HG1 := Lib.hid hg1
  have HGN := Lib.hid ((hmv.2.2 ga (hat_lt HG0.out)).trans hgan)
  have HMV := Lib.hid (hmv.from HF0.out)
  unfold ans0 at hg1
  have hgl1 := hat_lt hg1
  obtain ⟨code, hc⟩ : ∃ x, x = (S.write i off data).2 := ⟨_, rfl⟩
  rw [← hc]
  have HC := Lib.hid hc.symm
  clear hc
  clear hmv hp0 hpl0 hol0 hlk hh hhl hop0
  go_wp2_with fail
  refine ret_c row37 rfl (cs := #[.int .i64 code, .int .i64 0, .int .i64 0, .int .i64 0, .int .i64 0, .int .i64 0, .int .i64 0, .slice none 0 0, .slice none 0 0, .bool false]) rfl (hat_setRow_at _ _ _ _ _ _ HG1.out) rfl rfl ?_
  exact ⟨own', _, rfl, by show AnsAt _ _ _ _ (.err (S.write i off data).2); rw [HC.out]; exact ans_err _ _ _ _, HMV.out.then (fr_setRow w1 ga _) (by simp; exact ⟨HGN.out, HGE.out.2.1⟩)⟩
set_option maxHeartbeats 8000000 in
set_option maxRecDepth 100000 in
theorem asks_dir7 {w : World} {gp bn c : Nat} {S : PS} {A : Int → NA} {own : Nat → Option (Int × Nat)} (h : PW w gp bn c S A own) {i : Int} (hi : (S.nodes i).isSome = true) {o : OpV} (hk : o.kind = 7) {dv : Value} (ho : OpAt w own o dv) (hk2 : (S.nd i).kind = 2) :
    Calls Tryd.prog 54 #[.pointer (some ⟨gp, 0, none⟩), .agg (opV o dv), .int .i64 i] w fun e w' => ∃ own' av, e = .returned av ∧ AnsAt w' w.heap.size own' av (.err 102) ∧ Mvd w w' gp bn own (S) own' := by
  have hn := PS.nd_get hi
  have H := Lib.hid h.nrm
  have HO := Lib.hid ho
  obtain ⟨od, hdr, hdn⟩ := ho.d
  obtain ⟨da, dc, rfl⟩ := hdr.slice
  obtain ⟨kind, path, dest, off, len, data, made, pick⟩ := o
  simp only at hk
  subst hk
  have HDR := Lib.hid hdr
  clear ho hdr hdn h
  unfold opV
  simp only at HO HDR ⊢
  obtain ⟨w0, hw0⟩ : ∃ x, x = (w.alloc (.cells #[.int .i64 7, .string path, .string dest, .int .i64 off, .int .i64 len, .slice da data.length dc, .int .i64 made, .int .i64 pick] 40)).alloc (.cells ans0 37) := ⟨_, rfl⟩
  obtain ⟨go, hgo⟩ : ∃ x, x = w.heap.size := ⟨_, rfl⟩
  obtain ⟨ga, hga⟩ : ∃ x, x = go + 1 := ⟨_, rfl⟩
  have hf0 : Fr [] w w0 := by rw [hw0]; exact (fr_new _ _ _).trans (fr_new _ _ _)
  have hop0 : hat w0 go = some (.cells #[.int .i64 7, .string path, .string dest, .int .i64 off, .int .i64 len, .slice da data.length dc, .int .i64 made, .int .i64 pick] 40) := by rw [hw0, hgo]; exact (hopA _ _ (hopN w _).1).1
  have hga0 : hat w0 ga = some (.cells ans0 37) := by
    have e := (hopN (w.alloc (.cells #[.int .i64 7, .string path, .string dest, .int .i64 off, .int .i64 len, .slice da data.length dc, .int .i64 made, .int .i64 pick] 40)) (.cells ans0 37)).1
    rw [show (w.alloc (.cells #[.int .i64 7, .string path, .string dest, .int .i64 off, .int .i64 len, .slice da data.length dc, .int .i64 made, .int .i64 pick] 40)).heap.size = ga by rw [hga, hgo]; simp] at e
    rw [hw0]; exact e
  have HG0 := Lib.hid hga0
  have HF0 := Lib.hid hf0
  have HP0 := Lib.hid (H.out.fr hf0 (by simp))
  have HGE := Lib.hid (show w.heap.size ≤ go ∧ w.heap.size ≤ ga ∧ go < ga from by omega)
  have HO0 := Lib.hid (HO.out.fr (own' := nrm w own) hf0 (by simp) (fun b hb => nrm_lt hb))
  go_enter Tryd.func54, Tryd.ntmps54
  go_upto_region 1 with fail
  have hw0' : w0 = (w.alloc (.cells #[.int .i64 7, .string path, .string dest, .int .i64 off, .int .i64 len, .slice da data.length dc, .int .i64 made, .int .i64 pick] 40)).alloc (.cells #[.int .i64 0, .int .i64 0, .int .i64 0, .int .i64 0, .int .i64 0, .int .i64 0, .int .i64 0, .slice none 0 0, .slice none 0 0, .bool false] 37) := hw0
  rw [← hgo, ← hga]
  rw [← hw0']
  clear hw0' hw0 hf0 hga hgo hga0
  have hp0 := HP0.out.t.p
  have hpl0 := hat_lt hp0
  have hol0 := hat_lt hop0
  have hlk := HP0.out.t.look_yes hn
  have hnn := HP0.out.t.n i _ hn
  have hh := hnn.h
  have hhl := hat_lt hh
  have HNN := Lib.hid hnn
  clear hnn
  rw [hk2] at hh
  have hga := HG0.out
  unfold ans0 at hga
  have hgal := hat_lt hga
  go_wp2_with fail
  refine ret_c row37 rfl (cs := #[.int .i64 102, .int .i64 0, .int .i64 0, .int .i64 0, .int .i64 0, .int .i64 0, .int .i64 0, .slice none 0 0, .slice none 0 0, .bool false]) rfl (hat_setRow_at _ _ _ _ _ _ HG0.out) rfl rfl ?_
  exact ⟨nrm w own, _, rfl, ans_err _ _ _ _, Mvd.then ⟨⟨c, A, HP0.out⟩, (HF0.out).un (by simp), fun b hb => nrm_lt hb⟩ (fr_setRow w0 ga _) (by simp; exact ⟨nrm_ge HGE.out.2.1, HGE.out.2.1⟩)⟩
set_option maxHeartbeats 8000000 in
set_option maxRecDepth 100000 in
theorem asks_dir8 {w : World} {gp bn c : Nat} {S : PS} {A : Int → NA} {own : Nat → Option (Int × Nat)} (h : PW w gp bn c S A own) {i : Int} (hi : (S.nodes i).isSome = true) {o : OpV} (hk : o.kind = 8) {dv : Value} (ho : OpAt w own o dv) (hk2 : (S.nd i).kind = 2) :
    Calls Tryd.prog 54 #[.pointer (some ⟨gp, 0, none⟩), .agg (opV o dv), .int .i64 i] w fun e w' => ∃ own' av, e = .returned av ∧ AnsAt w' w.heap.size own' av (.err 102) ∧ Mvd w w' gp bn own (S) own' := by
  have hn := PS.nd_get hi
  have H := Lib.hid h.nrm
  have HO := Lib.hid ho
  obtain ⟨od, hdr, hdn⟩ := ho.d
  obtain ⟨da, dc, rfl⟩ := hdr.slice
  obtain ⟨kind, path, dest, off, len, data, made, pick⟩ := o
  simp only at hk
  subst hk
  have HDR := Lib.hid hdr
  clear ho hdr hdn h
  unfold opV
  simp only at HO HDR ⊢
  obtain ⟨w0, hw0⟩ : ∃ x, x = (w.alloc (.cells #[.int .i64 8, .string path, .string dest, .int .i64 off, .int .i64 len, .slice da data.length dc, .int .i64 made, .int .i64 pick] 40)).alloc (.cells ans0 37) := ⟨_, rfl⟩
  obtain ⟨go, hgo⟩ : ∃ x, x = w.heap.size := ⟨_, rfl⟩
  obtain ⟨ga, hga⟩ : ∃ x, x = go + 1 := ⟨_, rfl⟩
  have hf0 : Fr [] w w0 := by rw [hw0]; exact (fr_new _ _ _).trans (fr_new _ _ _)
  have hop0 : hat w0 go = some (.cells #[.int .i64 8, .string path, .string dest, .int .i64 off, .int .i64 len, .slice da data.length dc, .int .i64 made, .int .i64 pick] 40) := by rw [hw0, hgo]; exact (hopA _ _ (hopN w _).1).1
  have hga0 : hat w0 ga = some (.cells ans0 37) := by
    have e := (hopN (w.alloc (.cells #[.int .i64 8, .string path, .string dest, .int .i64 off, .int .i64 len, .slice da data.length dc, .int .i64 made, .int .i64 pick] 40)) (.cells ans0 37)).1
    rw [show (w.alloc (.cells #[.int .i64 8, .string path, .string dest, .int .i64 off, .int .i64 len, .slice da data.length dc, .int .i64 made, .int .i64 pick] 40)).heap.size = ga by rw [hga, hgo]; simp] at e
    rw [hw0]; exact e
  have HG0 := Lib.hid hga0
  have HF0 := Lib.hid hf0
  have HP0 := Lib.hid (H.out.fr hf0 (by simp))
  have HGE := Lib.hid (show w.heap.size ≤ go ∧ w.heap.size ≤ ga ∧ go < ga from by omega)
  have HO0 := Lib.hid (HO.out.fr (own' := nrm w own) hf0 (by simp) (fun b hb => nrm_lt hb))
  go_enter Tryd.func54, Tryd.ntmps54
  go_upto_region 1 with fail
  have hw0' : w0 = (w.alloc (.cells #[.int .i64 8, .string path, .string dest, .int .i64 off, .int .i64 len, .slice da data.length dc, .int .i64 made, .int .i64 pick] 40)).alloc (.cells #[.int .i64 0, .int .i64 0, .int .i64 0, .int .i64 0, .int .i64 0, .int .i64 0, .int .i64 0, .slice none 0 0, .slice none 0 0, .bool false] 37) := hw0
  rw [← hgo, ← hga]
  rw [← hw0']
  clear hw0' hw0 hf0 hga hgo hga0
  have hp0 := HP0.out.t.p
  have hpl0 := hat_lt hp0
  have hol0 := hat_lt hop0
  have hlk := HP0.out.t.look_yes hn
  have hnn := HP0.out.t.n i _ hn
  have hh := hnn.h
  have hhl := hat_lt hh
  have HNN := Lib.hid hnn
  clear hnn
  rw [hk2] at hh
  have hga := HG0.out
  unfold ans0 at hga
  have hgal := hat_lt hga
  go_wp2_with fail
  refine ret_c row37 rfl (cs := #[.int .i64 102, .int .i64 0, .int .i64 0, .int .i64 0, .int .i64 0, .int .i64 0, .int .i64 0, .slice none 0 0, .slice none 0 0, .bool false]) rfl (hat_setRow_at _ _ _ _ _ _ HG0.out) rfl rfl ?_
  exact ⟨nrm w own, _, rfl, ans_err _ _ _ _, Mvd.then ⟨⟨c, A, HP0.out⟩, (HF0.out).un (by simp), fun b hb => nrm_lt hb⟩ (fr_setRow w0 ga _) (by simp; exact ⟨nrm_ge HGE.out.2.1, HGE.out.2.1⟩)⟩
set_option maxHeartbeats 8000000 in
set_option maxRecDepth 100000 in
theorem asks_dir9 {w : World} {gp bn c : Nat} {S : PS} {A : Int → NA} {own : Nat → Option (Int × Nat)} (h : PW w gp bn c S A own) {i : Int} (hi : (S.nodes i).isSome = true) {o : OpV} (hk : o.kind = 9) {dv : Value} (ho : OpAt w own o dv) (hk2 : (S.nd i).kind = 2) :
    Calls Tryd.prog 54 #[.pointer (some ⟨gp, 0, none⟩), .agg (opV o dv), .int .i64 i] w fun e w' => ∃ own' av, e = .returned av ∧ AnsAt w' w.heap.size own' av (.err 102) ∧ Mvd w w' gp bn own (S) own' := by
  have hn := PS.nd_get hi
  have H := Lib.hid h.nrm
  have HO := Lib.hid ho
  obtain ⟨od, hdr, hdn⟩ := ho.d
  obtain ⟨da, dc, rfl⟩ := hdr.slice
  obtain ⟨kind, path, dest, off, len, data, made, pick⟩ := o
  simp only at hk
  subst hk
  have HDR := Lib.hid hdr
  clear ho hdr hdn h
  unfold opV
  simp only at HO HDR ⊢
  obtain ⟨w0, hw0⟩ : ∃ x, x = (w.alloc (.cells #[.int .i64 9, .string path, .string dest, .int .i64 off, .int .i64 len, .slice da data.length dc, .int .i64 made, .int .i64 pick] 40)).alloc (.cells ans0 37) := ⟨_, rfl⟩
  obtain ⟨go, hgo⟩ : ∃ x, x = w.heap.size := ⟨_, rfl⟩
  obtain ⟨ga, hga⟩ : ∃ x, x = go + 1 := ⟨_, rfl⟩
  have hf0 : Fr [] w w0 := by rw [hw0]; exact (fr_new _ _ _).trans (fr_new _ _ _)
  have hop0 : hat w0 go = some (.cells #[.int .i64 9, .string path, .string dest, .int .i64 off, .int .i64 len, .slice da data.length dc, .int .i64 made, .int .i64 pick] 40) := by rw [hw0, hgo]; exact (hopA _ _ (hopN w _).1).1
  have hga0 : hat w0 ga = some (.cells ans0 37) := by
    have e := (hopN (w.alloc (.cells #[.int .i64 9, .string path, .string dest, .int .i64 off, .int .i64 len, .slice da data.length dc, .int .i64 made, .int .i64 pick] 40)) (.cells ans0 37)).1
    rw [show (w.alloc (.cells #[.int .i64 9, .string path, .string dest, .int .i64 off, .int .i64 len, .slice da data.length dc, .int .i64 made, .int .i64 pick] 40)).heap.size = ga by rw [hga, hgo]; simp] at e
    rw [hw0]; exact e
  have HG0 := Lib.hid hga0
  have HF0 := Lib.hid hf0
  have HP0 := Lib.hid (H.out.fr hf0 (by simp))
  have HGE := Lib.hid (show w.heap.size ≤ go ∧ w.heap.size ≤ ga ∧ go < ga from by omega)
  have HO0 := Lib.hid (HO.out.fr (own' := nrm w own) hf0 (by simp) (fun b hb => nrm_lt hb))
  go_enter Tryd.func54, Tryd.ntmps54
  go_upto_region 1 with fail
  have hw0' : w0 = (w.alloc (.cells #[.int .i64 9, .string path, .string dest, .int .i64 off, .int .i64 len, .slice da data.length dc, .int .i64 made, .int .i64 pick] 40)).alloc (.cells #[.int .i64 0, .int .i64 0, .int .i64 0, .int .i64 0, .int .i64 0, .int .i64 0, .int .i64 0, .slice none 0 0, .slice none 0 0, .bool false] 37) := hw0
  rw [← hgo, ← hga]
  rw [← hw0']
  clear hw0' hw0 hf0 hga hgo hga0
  have hp0 := HP0.out.t.p
  have hpl0 := hat_lt hp0
  have hol0 := hat_lt hop0
  have hlk := HP0.out.t.look_yes hn
  have hnn := HP0.out.t.n i _ hn
  have hh := hnn.h
  have hhl := hat_lt hh
  have HNN := Lib.hid hnn
  clear hnn
  rw [hk2] at hh
  have hga := HG0.out
  unfold ans0 at hga
  have hgal := hat_lt hga
  go_wp2_with fail
  refine ret_c row37 rfl (cs := #[.int .i64 102, .int .i64 0, .int .i64 0, .int .i64 0, .int .i64 0, .int .i64 0, .int .i64 0, .slice none 0 0, .slice none 0 0, .bool false]) rfl (hat_setRow_at _ _ _ _ _ _ HG0.out) rfl rfl ?_
  exact ⟨nrm w own, _, rfl, ans_err _ _ _ _, Mvd.then ⟨⟨c, A, HP0.out⟩, (HF0.out).un (by simp), fun b hb => nrm_lt hb⟩ (fr_setRow w0 ga _) (by simp; exact ⟨nrm_ge HGE.out.2.1, HGE.out.2.1⟩)⟩
set_option maxHeartbeats 8000000 in
set_option maxRecDepth 100000 in
theorem asks_dir13 {w : World} {gp bn c : Nat} {S : PS} {A : Int → NA} {own : Nat → Option (Int × Nat)} (h : PW w gp bn c S A own) {i : Int} (hi : (S.nodes i).isSome = true) {o : OpV} (hk : o.kind = 13) {dv : Value} (ho : OpAt w own o dv) (hk2 : (S.nd i).kind = 2) :
    Calls Tryd.prog 54 #[.pointer (some ⟨gp, 0, none⟩), .agg (opV o dv), .int .i64 i] w fun e w' => ∃ own' av, e = .returned av ∧ AnsAt w' w.heap.size own' av (.err 102) ∧ Mvd w w' gp bn own (S) own' := by
  have hn := PS.nd_get hi
  have H := Lib.hid h.nrm
  have HO := Lib.hid ho
  obtain ⟨od, hdr, hdn⟩ := ho.d
  obtain ⟨da, dc, rfl⟩ := hdr.slice
  obtain ⟨kind, path, dest, off, len, data, made, pick⟩ := o
  simp only at hk
  subst hk
  have HDR := Lib.hid hdr
  clear ho hdr hdn h
  unfold opV
  simp only at HO HDR ⊢
  obtain ⟨w0, hw0⟩ : ∃ x, x = (w.alloc (.cells #[.int .i64 13, .string path, .string dest, .int .i64 off, .int .i64 len, .slice da data.length dc, .int .i64 made, .int .i64 pick] 40)).alloc (.cells ans0 37) := ⟨_, rfl⟩
  obtain ⟨go, hgo⟩ : ∃ x, x = w.heap.size := ⟨_, rfl⟩
  obtain ⟨ga, hga⟩ : ∃ x, x = go + 1 := ⟨_, rfl⟩
  have hf0 : Fr [] w w0 := by rw [hw0]; exact (fr_new _ _ _).trans (fr_new _ _ _)
  have hop0 : hat w0 go = some (.cells #[.int .i64 13, .string path, .string dest, .int .i64 off, .int .i64 len, .slice da data.length dc, .int .i64 made, .int .i64 pick] 40) := by rw [hw0, hgo]; exact (hopA _ _ (hopN w _).1).1
  have hga0 : hat w0 ga = some (.cells ans0 37) := by
    have e := (hopN (w.alloc (.cells #[.int .i64 13, .string path, .string dest, .int .i64 off, .int .i64 len, .slice da data.length dc, .int .i64 made, .int .i64 pick] 40)) (.cells ans0 37)).1
    rw [show (w.alloc (.cells #[.int .i64 13, .string path, .string dest, .int .i64 off, .int .i64 len, .slice da data.length dc, .int .i64 made, .int .i64 pick] 40)).heap.size = ga by rw [hga, hgo]; simp] at e
    rw [hw0]; exact e
  have HG0 := Lib.hid hga0
  have HF0 := Lib.hid hf0
  have HP0 := Lib.hid (H.out.fr hf0 (by simp))
  have HGE := Lib.hid (show w.heap.size ≤ go ∧ w.heap.size ≤ ga ∧ go < ga from by omega)
  have HO0 := Lib.hid (HO.out.fr (own' := nrm w own) hf0 (by simp) (fun b hb => nrm_lt hb))
  go_enter Tryd.func54, Tryd.ntmps54
  go_upto_region 1 with fail
  have hw0' : w0 = (w.alloc (.cells #[.int .i64 13, .string path, .string dest, .int .i64 off, .int .i64 len, .slice da data.length dc, .int .i64 made, .int .i64 pick] 40)).alloc (.cells #[.int .i64 0, .int .i64 0, .int .i64 0, .int .i64 0, .int .i64 0, .int .i64 0, .int .i64 0, .slice none 0 0, .slice none 0 0, .bool false] 37) := hw0
  rw [← hgo, ← hga]
  rw [← hw0']
  clear hw0' hw0 hf0 hga hgo hga0
  have hp0 := HP0.out.t.p
  have hpl0 := hat_lt hp0
  have hol0 := hat_lt hop0
  have hlk := HP0.out.t.look_yes hn
  have hnn := HP0.out.t.n i _ hn
  have hh := hnn.h
  have hhl := hat_lt hh
  have HNN := Lib.hid hnn
  clear hnn
  rw [hk2] at hh
  have hga := HG0.out
  unfold ans0 at hga
  have hgal := hat_lt hga
  go_wp2_with fail
  refine ret_c row37 rfl (cs := #[.int .i64 102, .int .i64 0, .int .i64 0, .int .i64 0, .int .i64 0, .int .i64 0, .int .i64 0, .slice none 0 0, .slice none 0 0, .bool false]) rfl (hat_setRow_at _ _ _ _ _ _ HG0.out) rfl rfl ?_
  exact ⟨nrm w own, _, rfl, ans_err _ _ _ _, Mvd.then ⟨⟨c, A, HP0.out⟩, (HF0.out).un (by simp), fun b hb => nrm_lt hb⟩ (fr_setRow w0 ga _) (by simp; exact ⟨nrm_ge HGE.out.2.1, HGE.out.2.1⟩)⟩
set_option maxHeartbeats 8000000 in
set_option maxRecDepth 100000 in
theorem asks_read {w : World} {gp bn c : Nat} {S : PS} {A : Int → NA} {own : Nat → Option (Int × Nat)} (h : PW w gp bn c S A own) {i : Int} (hi : (S.nodes i).isSome = true) {o : OpV} (hk : o.kind = 9) {dv : Value} (ho : OpAt w own o dv) (hk1 : (S.nd i).kind = 1) :
    Calls Tryd.prog 54 #[.pointer (some ⟨gp, 0, none⟩), .agg (opV o dv), .int .i64 i] w fun e w' => ∃ own' av, e = .returned av ∧ AnsAt w' w.heap.size own' av ((S.nd i).read o.off o.len) ∧ Mvd w w' gp bn own (S) own' := by
  have hn := PS.nd_get hi
  have H := Lib.hid h.nrm
  have HO := Lib.hid ho
  obtain ⟨od, hdr, hdn⟩ := ho.d
  obtain ⟨da, dc, rfl⟩ := hdr.slice
  obtain ⟨kind, path, dest, off, len, data, made, pick⟩ := o
  simp only at hk
  subst hk
  have HDR := Lib.hid hdr
  clear ho hdr hdn h
  unfold opV
  simp only at HO HDR ⊢
  obtain ⟨w0, hw0⟩ : ∃ x, x = (w.alloc (.cells #[.int .i64 9, .string path, .string dest, .int .i64 off, .int .i64 len, .slice da data.length dc, .int .i64 made, .int .i64 pick] 40)).alloc (.cells ans0 37) := ⟨_, rfl⟩
  obtain ⟨go, hgo⟩ : ∃ x, x = w.heap.size := ⟨_, rfl⟩
  obtain ⟨ga, hga⟩ : ∃ x, x = go + 1 := ⟨_, rfl⟩
  have hf0 : Fr [] w w0 := by rw [hw0]; exact (fr_new _ _ _).trans (fr_new _ _ _)
  have hop0 : hat w0 go = some (.cells #[.int .i64 9, .string path, .string dest, .int .i64 off, .int .i64 len, .slice da data.length dc, .int .i64 made, .int .i64 pick] 40) := by rw [hw0, hgo]; exact (hopA _ _ (hopN w _).1).1
  have hga0 : hat w0 ga = some (.cells ans0 37) := by
    have e := (hopN (w.alloc (.cells #[.int .i64 9, .string path, .string dest, .int .i64 off, .int .i64 len, .slice da data.length dc, .int .i64 made, .int .i64 pick] 40)) (.cells ans0 37)).1
    rw [show (w.alloc (.cells #[.int .i64 9, .string path, .string dest, .int .i64 off, .int .i64 len, .slice da data.length dc, .int .i64 made, .int .i64 pick] 40)).heap.size = ga by rw [hga, hgo]; simp] at e
    rw [hw0]; exact e
  have HG0 := Lib.hid hga0
  have HF0 := Lib.hid hf0
  have HP0 := Lib.hid (H.out.fr hf0 (by simp))
  have HGE := Lib.hid (show w.heap.size ≤ go ∧ w.heap.size ≤ ga ∧ go < ga from by omega)
  have HO0 := Lib.hid (HO.out.fr (own' := nrm w own) hf0 (by simp) (fun b hb => nrm_lt hb))
  go_enter Tryd.func54, Tryd.ntmps54
  go_upto_region 1 with fail
  have hw0' : w0 = (w.alloc (.cells #[.int .i64 9, .string path, .string dest, .int .i64 off, .int .i64 len, .slice da data.length dc, .int .i64 made, .int .i64 pick] 40)).alloc (.cells #[.int .i64 0, .int .i64 0, .int .i64 0, .int .i64 0, .int .i64 0, .int .i64 0, .int .i64 0, .slice none 0 0, .slice none 0 0, .bool false] 37) := hw0
  rw [← hgo, ← hga]
  rw [← hw0']
  clear hw0' hw0 hf0 hga hgo hga0
  have hp0 := HP0.out.t.p
  have hpl0 := hat_lt hp0
  have hol0 := hat_lt hop0
  have hlk := HP0.out.t.look_yes hn
  have hnn := HP0.out.t.n i _ hn
  have hh := hnn.h
  have hhl := hat_lt hh
  have HNN := Lib.hid hnn
  clear hnn
  have hk2 : ¬ (S.nd i).kind = 2 := by rw [hk1]; decide
  go_wp2_with fail
  refine (read_any HNN.out (HP0.out.o.n i _ hn) (HP0.out.f.n i _ hn).sz).mono ?_; rintro e w1 ⟨av, rfl, ha, hb1⟩
  have hg1 := (hop hb1 HG0.out).1
  have HG1 := Lib.hid hg1
  have HAN := Lib.hid ha
  obtain ⟨dv, ev, od1, oe1, rfl, hd1, he1, -⟩ := ha
  obtain ⟨d1, d2, rfl⟩ := hd1.slice
  obtain ⟨e1, e2, rfl⟩ := he1.slice
  have HB1 := Lib.hid hb1
  unfold ansV at HAN ⊢
  generalize hx : (S.nd i).read off len = x at *
  have HX := Lib.hid hx
  clear hx
  obtain ⟨xc, ⟨x1, x2, x3, x4, x5, x6⟩, xd, xe⟩ := x
  simp only at HAN ⊢
  unfold ans0 at hg1
  have hgl1 := hat_lt hg1
  have hone : oneAll #[.int .i64 xc, .int .i64 x1, .int .i64 x2, .int .i64 x3, .int .i64 x4, .int .i64 x5, .int .i64 x6, .slice d1 xd.length d2, .slice e1 xe.length e2, .bool false] = true := by simp [oneAll, Value.oneCell']
  clear hb1 hp0 hpl0 hol0 hlk hh hhl hop0 hd1 he1
  go_wp2_with fail
  refine ret_c row37 rfl (cs := #[.int .i64 xc, .int .i64 x1, .int .i64 x2, .int .i64 x3, .int .i64 x4, .int .i64 x5, .int .i64 x6, .slice d1 xd.length d2, .slice e1 xe.length e2, .bool false]) rfl (hat_setRow_at _ _ _ _ _ _ HG1.out) rfl rfl ?_
  exact ⟨nrm w own, _, rfl, by show AnsAt _ _ _ _ ((S.nd i).read off len); rw [HX.out]; exact HAN.out.fr (fr_setRow w1 ga _) (by simp; exact hat_lt HG0.out) (fun b hb => nrm_ge (Nat.le_trans HF0.out.size hb)) HF0.out.size, Mvd.then ⟨⟨c, A, HP0.out.fr (fr_below HB1.out []) (by simp)⟩, (HF0.out.trans (fr_below HB1.out [])).un (by simp), fun b hb => nrm_lt hb⟩ (fr_setRow w1 ga _) (by simp; exact ⟨nrm_ge HGE.out.2.1, HGE.out.2.1⟩)⟩
set_option maxHeartbeats 8000000 in
set_option maxRecDepth 100000 in
theorem asks_stat {w : World} {gp bn c : Nat} {S : PS} {A : Int → NA} {own : Nat → Option (Int × Nat)} (h : PW w gp bn c S A own) {i : Int} (hi : (S.nodes i).isSome = true) {o : OpV} (hk : o.kind = 10) {dv : Value} (ho : OpAt w own o dv) :
    Calls Tryd.prog 54 #[.pointer (some ⟨gp, 0, none⟩), .agg (opV o dv), .int .i64 i] w fun e w' => ∃ own' av, e = .returned av ∧ AnsAt w' w.heap.size own' av (⟨0, S.stat i, [], []⟩) ∧ Mvd w w' gp bn own (S) own' := by
  have hn := PS.nd_get hi
  have H := Lib.hid h.nrm
  have HO := Lib.hid ho
  obtain ⟨od, hdr, hdn⟩ := ho.d
  obtain ⟨da, dc, rfl⟩ := hdr.slice
  obtain ⟨kind, path, dest, off, len, data, made, pick⟩ := o
  simp only at hk
  subst hk
  have HDR := Lib.hid hdr
  clear ho hdr hdn h
  unfold opV
  simp only at HO HDR ⊢
  obtain ⟨w0, hw0⟩ : ∃ x, x = (w.alloc (.cells #[.int .i64 10, .string path, .string dest, .int .i64 off, .int .i64 len, .slice da data.length dc, .int .i64 made, .int .i64 pick] 40)).alloc (.cells ans0 37) := ⟨_, rfl⟩
  obtain ⟨go, hgo⟩ : ∃ x, x = w.heap.size := ⟨_, rfl⟩
  obtain ⟨ga, hga⟩ : ∃ x, x = go + 1 := ⟨_, rfl⟩
  have hf0 : Fr [] w w0 := by rw [hw0]; exact (fr_new _ _ _).trans (fr_new _ _ _)
  have hop0 : hat w0 go = some (.cells #[.int .i64 10, .string path, .string dest, .int .i64 off, .int .i64 len, .slice da data.length dc, .int .i64 made, .int .i64 pick] 40) := by rw [hw0, hgo]; exact (hopA _ _ (hopN w _).1).1
  have hga0 : hat w0 ga = some (.cells ans0 37) := by
    have e := (hopN (w.alloc (.cells #[.int .i64 10, .string path, .string dest, .int .i64 off, .int .i64 len, .slice da data.length dc, .int .i64 made, .int .i64 pick] 40)) (.cells ans0 37)).1
    rw [show (w.alloc (.cells #[.int .i64 10, .string path, .string dest, .int .i64 off, .int .i64 len, .slice da data.length dc, .int .i64 made, .int .i64 pick] 40)).heap.size = ga by rw [hga, hgo]; simp] at e
    rw [hw0]; exact e
  have HG0 := Lib.hid hga0
  have HF0 := Lib.hid hf0
  have HP0 := Lib.hid (H.out.fr hf0 (by simp))
  have HGE := Lib.hid (show w.heap.size ≤ go ∧ w.heap.size ≤ ga ∧ go < ga from by omega)
  have HO0 := Lib.hid (HO.out.fr (own' := nrm w own) hf0 (by simp) (fun b hb => nrm_lt hb))
  go_enter Tryd.func54, Tryd.ntmps54
  go_upto_region 1 with fail
  have hw0' : w0 = (w.alloc (.cells #[.int .i64 10, .string path, .string dest, .int .i64 off, .int .i64 len, .slice da data.length dc, .int .i64 made, .int .i64 pick] 40)).alloc (.cells #[.int .i64 0, .int .i64 0, .int .i64 0, .int .i64 0, .int .i64 0, .int .i64 0, .int .i64 0, .slice none 0 0, .slice none 0 0, .bool false] 37) := hw0
  rw [← hgo, ← hga]
  rw [← hw0']
  clear hw0' hw0 hf0 hga hgo hga0
  have hp0 := HP0.out.t.p
  have hpl0 := hat_lt hp0
  have hol0 := hat_lt hop0
  have hlk := HP0.out.t.look_yes hn
  have hnn := HP0.out.t.n i _ hn
  have hh := hnn.h
  have hhl := hat_lt hh
  have HNN := Lib.hid hnn
  clear hnn
  go_wp2_with fail
  refine (stat_any HP0.out.t HP0.out.o hi).mono ?_; rintro e w1 ⟨rfl, hb1⟩
  have hg1 := (hop hb1 HG0.out).1
  have HG1 := Lib.hid hg1
  have HB1 := Lib.hid hb1
  generalize hx : S.stat i = st at *
  have HX := Lib.hid hx
  clear hx
  obtain ⟨x1, x2, x3, x4, x5, x6⟩ := st
  have hsv : (Sta.mk x1 x2 x3 x4 x5 x6).val = .agg #[.int .i64 x1, .int .i64 x2, .int .i64 x3, .int .i64 x4, .int .i64 x5, .int .i64 x6] := rfl
  rw [hsv]
  clear hsv
  unfold ans0 at hg1
  have hgl1 := hat_lt hg1
  clear hb1 hp0 hpl0 hol0 hlk hh hhl hop0
  go_wp2_with fail
  refine ret_c row37 rfl (cs := #[.int .i64 0, .int .i64 x1, .int .i64 x2, .int .i64 x3, .int .i64 x4, .int .i64 x5, .int .i64 x6, .slice none 0 0, .slice none 0 0, .bool false]) rfl (hat_setRow_at _ _ _ _ _ _ HG1.out) rfl rfl ?_
  exact ⟨nrm w own, _, rfl, by rw [HX.out]; exact ans_stat _ _ _ ⟨x1, x2, x3, x4, x5, x6⟩, Mvd.then ⟨⟨c, A, HP0.out.fr (fr_below HB1.out []) (by simp)⟩, (HF0.out.trans (fr_below HB1.out [])).un (by simp), fun b hb => nrm_lt hb⟩ (fr_setRow w1 ga _) (by simp; exact ⟨nrm_ge HGE.out.2.1, HGE.out.2.1⟩)⟩
end Go.Proofs.YteffoihkljkfdaaDoor

/- does: the walks, kind by kind. -/
namespace Go.Proofs.YteffoihkljkfdaaDoor
set_option linter.unusedSimpArgs false
set_option linter.unusedVariables false
open Go.RowKit

/-- which of two texts is the lesser, as numbers -/
def leB (a b : ByteArray) : Bool := !decide (Lib.compareBytes b.data.toList a.data.toList < 0)
/-- a directory's entries, by rising names -/
def PS.ents (S : PS) (n : Nd) : List (ByteArray × Int × Int) := ((n.slots.filter fun s => decide (0 < s.size)).mergeSort leB).map fun s => (s, (n.names s).getD 0, (S.nd ((n.names s).getD 0)).kind)
def PS.truncate (S : PS) (i size : Int) : PS × Int := if size < 0 ∨ 136704 < size then (S, 101) else (S.put i (some ((S.nd i).trunc size)), 0)
/-- what an operation of an inode does -/
def PS.ask (S : PS) (o : OpV) (i : Int) : PS × Ans :=
  if o.kind = 10 then (S, ⟨0, S.stat i, [], []⟩)
  else if o.kind = 11 then (if (S.nd i).kind ≠ 2 then (S, .err 113) else (S, ⟨0, Sta.zero, [], S.ents (S.nd i)⟩))
  else if (S.nd i).kind = 2 then (S, .err 102)
  else if o.kind = 7 then ((S.write i o.off o.data).1, .err (S.write i o.off o.data).2)
  else if o.kind = 8 then ((S.truncate i o.off).1, .err (S.truncate i o.off).2)
  else if o.kind = 9 then (S, (S.nd i).read o.off o.len)
  else (S, .err 0)
def PS.asked (S : PS) (o : OpV) (l : List ByteArray) : PS × Ans := if (S.walk l 1).2 ≠ 0 then (S, .err (S.walk l 1).2) else S.ask o (S.walk l 1).1
theorem kind_cases {S : PS} (h : PWf S) {i : Int} (hi : (S.nodes i).isSome = true) : (S.nd i).kind = 1 ∨ (S.nd i).kind = 2 := (h.n i _ (PS.nd_get hi)).kd
theorem asks7 {w : World} {gp bn c : Nat} {S : PS} {A : Int → NA} {own : Nat → Option (Int × Nat)} (h : PW w gp bn c S A own) {i : Int} (hi : (S.nodes i).isSome = true) {o : OpV} (hk : o.kind = 7) {dv : Value} (ho : OpAt w own o dv) :
    Calls Tryd.prog 54 #[.pointer (some ⟨gp, 0, none⟩), .agg (opV o dv), .int .i64 i] w fun e w' => ∃ own' av, e = .returned av ∧ AnsAt w' w.heap.size own' av (S.ask o i).2 ∧ Mvd w w' gp bn own (S.ask o i).1 own' := by
  rcases kind_cases h.f hi with h1 | h2
  · have e : S.ask o i = ((S.write i o.off o.data).1, .err (S.write i o.off o.data).2) := by unfold PS.ask; simp [hk, h1]
    rw [e]
    exact asks_write h hi hk ho h1
  · have e : S.ask o i = (S, .err 102) := by unfold PS.ask; simp [hk, h2]
    rw [e]
    exact asks_dir7 h hi hk ho h2
theorem asks9 {w : World} {gp bn c : Nat} {S : PS} {A : Int → NA} {own : Nat → Option (Int × Nat)} (h : PW w gp bn c S A own) {i : Int} (hi : (S.nodes i).isSome = true) {o : OpV} (hk : o.kind = 9) {dv : Value} (ho : OpAt w own o dv) :
    Calls Tryd.prog 54 #[.pointer (some ⟨gp, 0, none⟩), .agg (opV o dv), .int .i64 i] w fun e w' => ∃ own' av, e = .returned av ∧ AnsAt w' w.heap.size own' av (S.ask o i).2 ∧ Mvd w w' gp bn own (S.ask o i).1 own' := by
  rcases kind_cases h.f hi with h1 | h2
  · have e : S.ask o i = (S, (S.nd i).read o.off o.len) := by unfold PS.ask; simp [hk, h1]
    rw [e]
    exact asks_read h hi hk ho h1
  · have e : S.ask o i = (S, .err 102) := by unfold PS.ask; simp [hk, h2]
    rw [e]
    exact asks_dir9 h hi hk ho h2
theorem asks10 {w : World} {gp bn c : Nat} {S : PS} {A : Int → NA} {own : Nat → Option (Int × Nat)} (h : PW w gp bn c S A own) {i : Int} (hi : (S.nodes i).isSome = true) {o : OpV} (hk : o.kind = 10) {dv : Value} (ho : OpAt w own o dv) :
    Calls Tryd.prog 54 #[.pointer (some ⟨gp, 0, none⟩), .agg (opV o dv), .int .i64 i] w fun e w' => ∃ own' av, e = .returned av ∧ AnsAt w' w.heap.size own' av (S.ask o i).2 ∧ Mvd w w' gp bn own (S.ask o i).1 own' := by
  have e : S.ask o i = (S, ⟨0, S.stat i, [], []⟩) := by unfold PS.ask; simp [hk]
  rw [e]
  exact asks_stat h hi hk ho

set_option maxHeartbeats 8000000 in
set_option maxRecDepth 100000 in
theorem does_create {w : World} {gp bn c : Nat} {S : PS} {A : Int → NA} {own : Nat → Option (Int × Nat)} (h : PW w gp bn c S A own) {o : OpV} (hk : o.kind = 1) (hma : 0 ≤ o.made ∧ o.made ≤ 1099511627776) {dv : Value} (ho : OpAt w own o dv) {fv tv : Value} {l : List ByteArray} {B : Nat} (hv : Strs w B fv l) (hl : ∀ s ∈ l, 0 < s.size ∧ s.size ≤ 40) :
    Calls Tryd.prog 27 #[.pointer (some ⟨gp, 0, none⟩), .agg (opV o dv), fv, tv] w fun e w' => ∃ own' av, e = .returned av ∧ AnsAt w' w.heap.size own' av (S.make l 1 o.made).2 ∧ Mvd w w' gp bn own (S.make l 1 o.made).1 own' := by
  have H := Lib.hid h.nrm
  have HO := Lib.hid ho
  have HV := Lib.hid hv
  have HL := Lib.hid hl
  obtain ⟨od, hdr, hdn⟩ := ho.d
  obtain ⟨da, dc, rfl⟩ := hdr.slice
  obtain ⟨kind, path, dest, off, len, data, made, pick⟩ := o
  simp only at hk hma
  subst hk
  clear ho hdr hdn h hv hl
  unfold opV
  simp only at HO ⊢
  obtain ⟨w0, hw0⟩ : ∃ x, x = (w.alloc (.cells #[.int .i64 1, .string path, .string dest, .int .i64 off, .int .i64 len, .slice da data.length dc, .int .i64 made, .int .i64 pick] 40)).alloc (.cells ans0 37) := ⟨_, rfl⟩
  obtain ⟨go, hgo⟩ : ∃ x, x = w.heap.size := ⟨_, rfl⟩
  obtain ⟨ga, hga⟩ : ∃ x, x = go + 1 := ⟨_, rfl⟩
  have hf0 : Fr [] w w0 := by rw [hw0]; exact (fr_new _ _ _).trans (fr_new _ _ _)
  have hop0 : hat w0 go = some (.cells #[.int .i64 1, .string path, .string dest, .int .i64 off, .int .i64 len, .slice da data.length dc, .int .i64 made, .int .i64 pick] 40) := by rw [hw0, hgo]; exact (hopA _ _ (hopN w _).1).1
  have hga0 : hat w0 ga = some (.cells ans0 37) := by
    have e := (hopN (w.alloc (.cells #[.int .i64 1, .string path, .string dest, .int .i64 off, .int .i64 len, .slice da data.length dc, .int .i64 made, .int .i64 pick] 40)) (.cells ans0 37)).1
    rw [show (w.alloc (.cells #[.int .i64 1, .string path, .string dest, .int .i64 off, .int .i64 len, .slice da data.length dc, .int .i64 made, .int .i64 pick] 40)).heap.size = ga by rw [hga, hgo]; simp] at e
    rw [hw0]; exact e
  have HG0 := Lib.hid hga0
  have HF0 := Lib.hid hf0
  have HP0 := Lib.hid (H.out.fr hf0 (by simp))
  have HGE := Lib.hid (show w.heap.size ≤ go ∧ w.heap.size ≤ ga ∧ go < ga from by omega)
  have HO0 := Lib.hid (HO.out.fr (own' := nrm w own) hf0 (by simp) (fun b hb => nrm_lt hb))
  have HV0 := Lib.hid (HV.out.fr' hf0)
  go_enter Tryd.func27, Tryd.ntmps27
  go_upto_region 1 with fail
  have hw0' : w0 = (w.alloc (.cells #[.int .i64 1, .string path, .string dest, .int .i64 off, .int .i64 len, .slice da data.length dc, .int .i64 made, .int .i64 pick] 40)).alloc (.cells #[.int .i64 0, .int .i64 0, .int .i64 0, .int .i64 0, .int .i64 0, .int .i64 0, .int .i64 0, .slice none 0 0, .slice none 0 0, .bool false] 37) := hw0
  rw [← hgo, ← hga]
  rw [← hw0']
  clear hw0' hw0 hf0 hga hgo hga0
  have hol0 := hat_lt hop0
  go_wp2_with fail
  refine (make_any HP0.out HV0.out HL.out (kind := 1) (made := made) (by simp) hma).mono ?_; rintro e w1 ⟨own', av, rfl, ha, hmv⟩
  have hgan : nrm w own ga = none := nrm_ge HGE.out.2.1
  have hg1 := (hmv.2.1.block ga (hat_lt HG0.out) hgan).trans HG0.out
  have HG1 := Lib.hid hg1
  have HGN := Lib.hid ((hmv.2.2 ga (hat_lt HG0.out)).trans hgan)
  have HMV := Lib.hid (hmv.from HF0.out)
  have HAN := Lib.hid ha
  obtain ⟨dv, ev, od1, oe1, rfl, hd1, he1, -⟩ := ha
  obtain ⟨d1, d2, rfl⟩ := hd1.slice
  obtain ⟨e1, e2, rfl⟩ := he1.slice
  unfold ansV at HAN ⊢
  generalize hx : (S.make l 1 made).2 = x at *
  have HX := Lib.hid hx
  clear hx
  obtain ⟨xc, ⟨x1, x2, x3, x4, x5, x6⟩, xd, xe⟩ := x
  simp only at HAN ⊢
  unfold ans0 at hg1
  have hgl1 := hat_lt hg1
  have hone : oneAll #[.int .i64 xc, .int .i64 x1, .int .i64 x2, .int .i64 x3, .int .i64 x4, .int .i64 x5, .int .i64 x6, .slice d1 xd.length d2, .slice e1 xe.length e2, .bool false] = true := by simp [oneAll, Value.oneCell']
  clear hmv hol0 hop0 hd1 he1
  go_wp2_with fail
  refine ret_c row37 rfl (cs := #[.int .i64 xc, .int .i64 x1, .int .i64 x2, .int .i64 x3, .int .i64 x4, .int .i64 x5, .int .i64 x6, .slice d1 xd.length d2, .slice e1 xe.length e2, .bool false]) rfl (hat_setRow_at _ _ _ _ _ _ HG1.out) rfl rfl ?_
  exact ⟨own', _, rfl, by show AnsAt _ _ _ _ (S.make l 1 made).2; rw [HX.out]; exact HAN.out.fr' (fr_setRow w1 ga _) (by simp; exact hat_lt HG0.out) HF0.out.size, HMV.out.then (fr_setRow w1 ga _) (by simp; exact ⟨HGN.out, HGE.out.2.1⟩)⟩
set_option maxHeartbeats 8000000 in
set_option maxRecDepth 100000 in
theorem does_mkdir {w : World} {gp bn c : Nat} {S : PS} {A : Int → NA} {own : Nat → Option (Int × Nat)} (h : PW w gp bn c S A own) {o : OpV} (hk : o.kind = 2) (hma : 0 ≤ o.made ∧ o.made ≤ 1099511627776) {dv : Value} (ho : OpAt w own o dv) {fv tv : Value} {l : List ByteArray} {B : Nat} (hv : Strs w B fv l) (hl : ∀ s ∈ l, 0 < s.size ∧ s.size ≤ 40) :
    Calls Tryd.prog 27 #[.pointer (some ⟨gp, 0, none⟩), .agg (opV o dv), fv, tv] w fun e w' => ∃ own' av, e = .returned av ∧ AnsAt w' w.heap.size own' av (S.make l 2 o.made).2 ∧ Mvd w w' gp bn own (S.make l 2 o.made).1 own' := by
  have H := Lib.hid h.nrm
  have HO := Lib.hid ho
  have HV := Lib.hid hv
  have HL := Lib.hid hl
  obtain ⟨od, hdr, hdn⟩ := ho.d
  obtain ⟨da, dc, rfl⟩ := hdr.slice
  obtain ⟨kind, path, dest, off, len, data, made, pick⟩ := o
  simp only at hk hma
  subst hk
  clear ho hdr hdn h hv hl
  unfold opV
  simp only at HO ⊢
  obtain ⟨w0, hw0⟩ : ∃ x, x = (w.alloc (.cells #[.int .i64 2, .string path, .string dest, .int .i64 off, .int .i64 len, .slice da data.length dc, .int .i64 made, .int .i64 pick] 40)).alloc (.cells ans0 37) := ⟨_, rfl⟩
  obtain ⟨go, hgo⟩ : ∃ x, x = w.heap.size := ⟨_, rfl⟩
  obtain ⟨ga, hga⟩ : ∃ x, x = go + 1 := ⟨_, rfl⟩
  have hf0 : Fr [] w w0 := by rw [hw0]; exact (fr_new _ _ _).trans (fr_new _ _ _)
  have hop0 : hat w0 go = some (.cells #[.int .i64 2, .string path, .string dest, .int .i64 off, .int .i64 len, .slice da data.length dc, .int .i64 made, .int .i64 pick] 40) := by rw [hw0, hgo]; exact (hopA _ _ (hopN w _).1).1
  have hga0 : hat w0 ga = some (.cells ans0 37) := by
    have e := (hopN (w.alloc (.cells #[.int .i64 2, .string path, .string dest, .int .i64 off, .int .i64 len, .slice da data.length dc, .int .i64 made, .int .i64 pick] 40)) (.cells ans0 37)).1
    rw [show (w.alloc (.cells #[.int .i64 2, .string path, .string dest, .int .i64 off, .int .i64 len, .slice da data.length dc, .int .i64 made, .int .i64 pick] 40)).heap.size = ga by rw [hga, hgo]; simp] at e
    rw [hw0]; exact e
  have HG0 := Lib.hid hga0
  have HF0 := Lib.hid hf0
  have HP0 := Lib.hid (H.out.fr hf0 (by simp))
  have HGE := Lib.hid (show w.heap.size ≤ go ∧ w.heap.size ≤ ga ∧ go < ga from by omega)
  have HO0 := Lib.hid (HO.out.fr (own' := nrm w own) hf0 (by simp) (fun b hb => nrm_lt hb))
  have HV0 := Lib.hid (HV.out.fr' hf0)
  go_enter Tryd.func27, Tryd.ntmps27
  go_upto_region 1 with fail
  have hw0' : w0 = (w.alloc (.cells #[.int .i64 2, .string path, .string dest, .int .i64 off, .int .i64 len, .slice da data.length dc, .int .i64 made, .int .i64 pick] 40)).alloc (.cells #[.int .i64 0, .int .i64 0, .int .i64 0, .int .i64 0, .int .i64 0, .int .i64 0, .int .i64 0, .slice none 0 0, .slice none 0 0, .bool false] 37) := hw0
  rw [← hgo, ← hga]
  rw [← hw0']
  clear hw0' hw0 hf0 hga hgo hga0
  have hol0 := hat_lt hop0
  go_wp2_with fail
  refine (make_any HP0.out HV0.out HL.out (kind := 2) (made := made) (by simp) hma).mono ?_; rintro e w1 ⟨own', av, rfl, ha, hmv⟩
  have hgan : nrm w own ga = none := nrm_ge HGE.out.2.1
  have hg1 := (hmv.2.1.block ga (hat_lt HG0.out) hgan).trans HG0.out
  have HG1 := Lib.hid hg1
  have HGN := Lib.hid ((hmv.2.2 ga (hat_lt HG0.out)).trans hgan)
  have HMV := Lib.hid (hmv.from HF0.out)
  have HAN := Lib.hid ha
  obtain ⟨dv, ev, od1, oe1, rfl, hd1, he1, -⟩ := ha
  obtain ⟨d1, d2, rfl⟩ := hd1.slice
  obtain ⟨e1, e2, rfl⟩ := he1.slice
  unfold ansV at HAN ⊢
  generalize hx : (S.make l 2 made).2 = x at *
  have HX := Lib.hid hx
  clear hx
  obtain ⟨xc, ⟨x1, x2, x3, x4, x5, x6⟩, xd, xe⟩ := x
  simp only at HAN ⊢
  unfold ans0 at hg1
  have hgl1 := hat_lt hg1
  have hone : oneAll #[.int .i64 xc, .int .i64 x1, .int .i64 x2, .int .i64 x3, .int .i64 x4, .int .i64 x5, .int .i64 x6, .slice d1 xd.length d2, .slice e1 xe.length e2, .bool false] = true := by simp [oneAll, Value.oneCell']
  clear hmv hol0 hop0 hd1 he1
  go_wp2_with fail
  refine ret_c row37 rfl (cs := #[.int .i64 xc, .int .i64 x1, .int .i64 x2, .int .i64 x3, .int .i64 x4, .int .i64 x5, .int .i64 x6, .slice d1 xd.length d2, .slice e1 xe.length e2, .bool false]) rfl (hat_setRow_at _ _ _ _ _ _ HG1.out) rfl rfl ?_
  exact ⟨own', _, rfl, by show AnsAt _ _ _ _ (S.make l 2 made).2; rw [HX.out]; exact HAN.out.fr' (fr_setRow w1 ga _) (by simp; exact hat_lt HG0.out) HF0.out.size, HMV.out.then (fr_setRow w1 ga _) (by simp; exact ⟨HGN.out, HGE.out.2.1⟩)⟩
set_option maxHeartbeats 8000000 in
set_option maxRecDepth 100000 in
theorem does_ask7 {w : World} {gp bn c : Nat} {S : PS} {A : Int → NA} {own : Nat → Option (Int × Nat)} (h : PW w gp bn c S A own) {o : OpV} (hk : o.kind = 7) (hma : 0 ≤ o.made ∧ o.made ≤ 1099511627776) {dv : Value} (ho : OpAt w own o dv) {fv tv : Value} {l : List ByteArray} {B : Nat} (hv : Strs w B fv l) (hl : ∀ s ∈ l, 0 < s.size ∧ s.size ≤ 40) :
    Calls Tryd.prog 27 #[.pointer (some ⟨gp, 0, none⟩), .agg (opV o dv), fv, tv] w fun e w' => ∃ own' av, e = .returned av ∧ AnsAt w' w.heap.size own' av (S.asked o l).2 ∧ Mvd w w' gp bn own (S.asked o l).1 own' := by
  have H := Lib.hid h.nrm
  have HO := Lib.hid ho
  have HV := Lib.hid hv
  have HL := Lib.hid hl
  obtain ⟨od, hdr, hdn⟩ := ho.d
  obtain ⟨da, dc, rfl⟩ := hdr.slice
  obtain ⟨kind, path, dest, off, len, data, made, pick⟩ := o
  simp only at hk hma
  subst hk
  clear ho hdr hdn h hv hl
  unfold opV
  simp only at HO ⊢
  obtain ⟨w0, hw0⟩ : ∃ x, x = (w.alloc (.cells #[.int .i64 7, .string path, .string dest, .int .i64 off, .int .i64 len, .slice da data.length dc, .int .i64 made, .int .i64 pick] 40)).alloc (.cells ans0 37) := ⟨_, rfl⟩
  obtain ⟨go, hgo⟩ : ∃ x, x = w.heap.size := ⟨_, rfl⟩
  obtain ⟨ga, hga⟩ : ∃ x, x = go + 1 := ⟨_, rfl⟩
  have hf0 : Fr [] w w0 := by rw [hw0]; exact (fr_new _ _ _).trans (fr_new _ _ _)
  have hop0 : hat w0 go = some (.cells #[.int .i64 7, .string path, .string dest, .int .i64 off, .int .i64 len, .slice da data.length dc, .int .i64 made, .int .i64 pick] 40) := by rw [hw0, hgo]; exact (hopA _ _ (hopN w _).1).1
  have hga0 : hat w0 ga = some (.cells ans0 37) := by
    have e := (hopN (w.alloc (.cells #[.int .i64 7, .string path, .string dest, .int .i64 off, .int .i64 len, .slice da data.length dc, .int .i64 made, .int .i64 pick] 40)) (.cells ans0 37)).1
    rw [show (w.alloc (.cells #[.int .i64 7, .string path, .string dest, .int .i64 off, .int .i64 len, .slice da data.length dc, .int .i64 made, .int .i64 pick] 40)).heap.size = ga by rw [hga, hgo]; simp] at e
    rw [hw0]; exact e
  have HG0 := Lib.hid hga0
  have HF0 := Lib.hid hf0
  have HP0 := Lib.hid (H.out.fr hf0 (by simp))
  have HGE := Lib.hid (show w.heap.size ≤ go ∧ w.heap.size ≤ ga ∧ go < ga from by omega)
  have HO0 := Lib.hid (HO.out.fr (own' := nrm w own) hf0 (by simp) (fun b hb => nrm_lt hb))
  have HV0 := Lib.hid (HV.out.fr' hf0)
  go_enter Tryd.func27, Tryd.ntmps27
  go_upto_region 1 with fail
  have hw0' : w0 = (w.alloc (.cells #[.int .i64 7, .string path, .string dest, .int .i64 off, .int .i64 len, .slice da data.length dc, .int .i64 made, .int .i64 pick] 40)).alloc (.cells #[.int .i64 0, .int .i64 0, .int .i64 0, .int .i64 0, .int .i64 0, .int .i64 0, .int .i64 0, .slice none 0 0, .slice none 0 0, .bool false] 37) := hw0
  rw [← hgo, ← hga]
  rw [← hw0']
  clear hw0' hw0 hf0 hga hgo hga0
  have hol0 := hat_lt hop0
  have hnn : nrm w (nrm w own) = nrm w own := by funext b; unfold nrm; split <;> rfl
  go_wp2_with fail
  refine (walk_any HP0.out.t HP0.out.f HV0.out (fun s hs => (HL.out s hs).2)).mono ?_; rintro e w1 ⟨rfl, rfl⟩
  have HWC := Lib.hid (walk_code S l 1)
  have HWT := Lib.hid (fun h => walk_there HP0.out.f l 1 (root_there HP0.out.f) h)
  have HAK : Hid (S.asked ⟨7, path, dest, off, len, data, made, pick⟩ l = if (S.walk l 1).2 ≠ 0 then (S, .err (S.walk l 1).2) else S.ask ⟨7, path, dest, off, len, data, made, pick⟩ (S.walk l 1).1) := Lib.hid rfl
  generalize S.walk l 1 = r at *
  obtain ⟨i, e⟩ := r
  simp only at HWC HWT HAK ⊢
  by_cases he : e = 0
  · subst he
    have hi := HWT.out rfl
    have HAE := Lib.hid (show S.asked ⟨7, path, dest, off, len, data, made, pick⟩ l = S.ask ⟨7, path, dest, off, len, data, made, pick⟩ i by rw [HAK.out, if_neg (by simp)])
    go_wp2_with fail
    refine (asks7 HP0.out hi (o := ⟨7, path, dest, off, len, data, made, pick⟩) rfl HO0.out).mono ?_; rintro e w2 ⟨own', av, rfl, ha, hmv⟩
    have hgan : nrm w own ga = none := nrm_ge HGE.out.2.1
    have hg1 := (hmv.2.1.block ga (hat_lt HG0.out) hgan).trans HG0.out
    have HG1 := Lib.hid hg1
    have HGN := Lib.hid ((hmv.2.2 ga (hat_lt HG0.out)).trans hgan)
    have HMV := Lib.hid (hmv.from HF0.out)
    have HAN := Lib.hid ha
    obtain ⟨dv, ev, od1, oe1, rfl, hd1, he1, -⟩ := ha
    obtain ⟨d1, d2, rfl⟩ := hd1.slice
    obtain ⟨e1, e2, rfl⟩ := he1.slice
    unfold ansV at HAN ⊢
    generalize hx : (S.ask ⟨7, path, dest, off, len, data, made, pick⟩ i).2 = x at *
    have HX := Lib.hid hx
    clear hx
    obtain ⟨xc, ⟨x1, x2, x3, x4, x5, x6⟩, xd, xe⟩ := x
    simp only at HAN ⊢
    unfold ans0 at hg1
    have hgl1 := hat_lt hg1
    have hone : oneAll #[.int .i64 xc, .int .i64 x1, .int .i64 x2, .int .i64 x3, .int .i64 x4, .int .i64 x5, .int .i64 x6, .slice d1 xd.length d2, .slice e1 xe.length e2, .bool false] = true := by simp [oneAll, Value.oneCell']
    clear hmv hol0 hop0 hd1 he1
    go_wp2_with fail
    refine ret_c row37 rfl (cs := #[.int .i64 xc, .int .i64 x1, .int .i64 x2, .int .i64 x3, .int .i64 x4, .int .i64 x5, .int .i64 x6, .slice d1 xd.length d2, .slice e1 xe.length e2, .bool false]) rfl (hat_setRow_at _ _ _ _ _ _ HG1.out) rfl rfl ?_
    exact ⟨own', _, rfl, by rw [HAE.out, HX.out]; exact HAN.out.fr' (fr_setRow w2 ga _) (by simp; exact hat_lt HG0.out) HF0.out.size, by rw [HAE.out]; exact HMV.out.then (fr_setRow w2 ga _) (by simp; exact ⟨HGN.out, HGE.out.2.1⟩)⟩
  · have HAE := Lib.hid (show S.asked ⟨7, path, dest, off, len, data, made, pick⟩ l = (S, .err e) by rw [HAK.out, if_pos (by simpa using he)])
    have hga := HG0.out
    unfold ans0 at hga
    have hgal := hat_lt hga
    go_wp2_with fail
    refine ret_c row37 rfl (cs := #[.int .i64 e, .int .i64 0, .int .i64 0, .int .i64 0, .int .i64 0, .int .i64 0, .int .i64 0, .slice none 0 0, .slice none 0 0, .bool false]) rfl (hat_setRow_at _ _ _ _ _ _ HG0.out) rfl rfl ?_
    exact ⟨nrm w own, _, rfl, by rw [HAE.out]; exact ans_err _ _ _ _, by rw [HAE.out]; exact Mvd.then ⟨⟨c, A, HP0.out⟩, (HF0.out).un (by simp), fun b hb => nrm_lt hb⟩ (fr_setRow _ ga _) (by simp; exact ⟨nrm_ge HGE.out.2.1, HGE.out.2.1⟩)⟩
set_option maxHeartbeats 8000000 in
set_option maxRecDepth 100000 in
theorem does_ask9 {w : World} {gp bn c : Nat} {S : PS} {A : Int → NA} {own : Nat → Option (Int × Nat)} (h : PW w gp bn c S A own) {o : OpV} (hk : o.kind = 9) (hma : 0 ≤ o.made ∧ o.made ≤ 1099511627776) {dv : Value} (ho : OpAt w own o dv) {fv tv : Value} {l : List ByteArray} {B : Nat} (hv : Strs w B fv l) (hl : ∀ s ∈ l, 0 < s.size ∧ s.size ≤ 40) :
    Calls Tryd.prog 27 #[.pointer (some ⟨gp, 0, none⟩), .agg (opV o dv), fv, tv] w fun e w' => ∃ own' av, e = .returned av ∧ AnsAt w' w.heap.size own' av (S.asked o l).2 ∧ Mvd w w' gp bn own (S.asked o l).1 own' := by
  have H := Lib.hid h.nrm
  have HO := Lib.hid ho
  have HV := Lib.hid hv
  have HL := Lib.hid hl
  obtain ⟨od, hdr, hdn⟩ := ho.d
  obtain ⟨da, dc, rfl⟩ := hdr.slice
  obtain ⟨kind, path, dest, off, len, data, made, pick⟩ := o
  simp only at hk hma
  subst hk
  clear ho hdr hdn h hv hl
  unfold opV
  simp only at HO ⊢
  obtain ⟨w0, hw0⟩ : ∃ x, x = (w.alloc (.cells #[.int .i64 9, .string path, .string dest, .int .i64 off, .int .i64 len, .slice da data.length dc, .int .i64 made, .int .i64 pick] 40)).alloc (.cells ans0 37) := ⟨_, rfl⟩
  obtain ⟨go, hgo⟩ : ∃ x, x = w.heap.size := ⟨_, rfl⟩
  obtain ⟨ga, hga⟩ : ∃ x, x = go + 1 := ⟨_, rfl⟩
  have hf0 : Fr [] w w0 := by rw [hw0]; exact (fr_new _ _ _).trans (fr_new _ _ _)
  have hop0 : hat w0 go = some (.cells #[.int .i64 9, .string path, .string dest, .int .i64 off, .int .i64 len, .slice da data.length dc, .int .i64 made, .int .i64 pick] 40) := by rw [hw0, hgo]; exact (hopA _ _ (hopN w _).1).1
  have hga0 : hat w0 ga = some (.cells ans0 37) := by
    have e := (hopN (w.alloc (.cells #[.int .i64 9, .string path, .string dest, .int .i64 off, .int .i64 len, .slice da data.length dc, .int .i64 made, .int .i64 pick] 40)) (.cells ans0 37)).1
    rw [show (w.alloc (.cells #[.int .i64 9, .string path, .string dest, .int .i64 off, .int .i64 len, .slice da data.length dc, .int .i64 made, .int .i64 pick] 40)).heap.size = ga by rw [hga, hgo]; simp] at e
    rw [hw0]; exact e
  have HG0 := Lib.hid hga0
  have HF0 := Lib.hid hf0
  have HP0 := Lib.hid (H.out.fr hf0 (by simp))
  have HGE := Lib.hid (show w.heap.size ≤ go ∧ w.heap.size ≤ ga ∧ go < ga from by omega)
  have HO0 := Lib.hid (HO.out.fr (own' := nrm w own) hf0 (by simp) (fun b hb => nrm_lt hb))
  have HV0 := Lib.hid (HV.out.fr' hf0)
  go_enter Tryd.func27, Tryd.ntmps27
  go_upto_region 1 with fail
  have hw0' : w0 = (w.alloc (.cells #[.int .i64 9, .string path, .string dest, .int .i64 off, .int .i64 len, .slice da data.length dc, .int .i64 made, .int .i64 pick] 40)).alloc (.cells #[.int .i64 0, .int .i64 0, .int .i64 0, .int .i64 0, .int .i64 0, .int .i64 0, .int .i64 0, .slice none 0 0, .slice none 0 0, .bool false] 37) := hw0
  rw [← hgo, ← hga]
  rw [← hw0']
  clear hw0' hw0 hf0 hga hgo hga0
  have hol0 := hat_lt hop0
  have hnn : nrm w (nrm w own) = nrm w own := by funext b; unfold nrm; split <;> rfl
  go_wp2_with fail
  refine (walk_any HP0.out.t HP0.out.f HV0.out (fun s hs => (HL.out s hs).2)).mono ?_; rintro e w1 ⟨rfl, rfl⟩
  have HWC := Lib.hid (walk_code S l 1)
  have HWT := Lib.hid (fun h => walk_there HP0.out.f l 1 (root_there HP0.out.f) h)
  have HAK : Hid (S.asked ⟨9, path, dest, off, len, data, made, pick⟩ l = if (S.walk l 1).2 ≠ 0 then (S, .err (S.walk l 1).2) else S.ask ⟨9, path, dest, off, len, data, made, pick⟩ (S.walk l 1).1) := Lib.hid rfl
  generalize S.walk l 1 = r at *
  obtain ⟨i, e⟩ := r
  simp only at HWC HWT HAK ⊢
  by_cases he : e = 0
  · subst he
    have hi := HWT.out rfl
    have HAE := Lib.hid (show S.asked ⟨9, path, dest, off, len, data, made, pick⟩ l = S.ask ⟨9, path, dest, off, len, data, made, pick⟩ i by rw [HAK.out, if_neg (by simp)])
    go_wp2_with fail
    refine (asks9 HP0.out hi (o := ⟨9, path, dest, off, len, data, made, pick⟩) rfl HO0.out).mono ?_; rintro e w2 ⟨own', av, rfl, ha, hmv⟩
    have hgan : nrm w own ga = none := nrm_ge HGE.out.2.1
    have hg1 := (hmv.2.1.block ga (hat_lt HG0.out) hgan).trans HG0.out
    have HG1 := Lib.hid hg1
    have HGN := Lib.hid ((hmv.2.2 ga (hat_lt HG0.out)).trans hgan)
    have HMV := Lib.hid (hmv.from HF0.out)
    have HAN := Lib.hid ha
    obtain ⟨dv, ev, od1, oe1, rfl, hd1, he1, -⟩ := ha
    obtain ⟨d1, d2, rfl⟩ := hd1.slice
    obtain ⟨e1, e2, rfl⟩ := he1.slice
    unfold ansV at HAN ⊢
    generalize hx : (S.ask ⟨9, path, dest, off, len, data, made, pick⟩ i).2 = x at *
    have HX := Lib.hid hx
    clear hx
    obtain ⟨xc, ⟨x1, x2, x3, x4, x5, x6⟩, xd, xe⟩ := x
    simp only at HAN ⊢
    unfold ans0 at hg1
    have hgl1 := hat_lt hg1
    have hone : oneAll #[.int .i64 xc, .int .i64 x1, .int .i64 x2, .int .i64 x3, .int .i64 x4, .int .i64 x5, .int .i64 x6, .slice d1 xd.length d2, .slice e1 xe.length e2, .bool false] = true := by simp [oneAll, Value.oneCell']
    clear hmv hol0 hop0 hd1 he1
    go_wp2_with fail
    refine ret_c row37 rfl (cs := #[.int .i64 xc, .int .i64 x1, .int .i64 x2, .int .i64 x3, .int .i64 x4, .int .i64 x5, .int .i64 x6, .slice d1 xd.length d2, .slice e1 xe.length e2, .bool false]) rfl (hat_setRow_at _ _ _ _ _ _ HG1.out) rfl rfl ?_
    exact ⟨own', _, rfl, by rw [HAE.out, HX.out]; exact HAN.out.fr' (fr_setRow w2 ga _) (by simp; exact hat_lt HG0.out) HF0.out.size, by rw [HAE.out]; exact HMV.out.then (fr_setRow w2 ga _) (by simp; exact ⟨HGN.out, HGE.out.2.1⟩)⟩
  · have HAE := Lib.hid (show S.asked ⟨9, path, dest, off, len, data, made, pick⟩ l = (S, .err e) by rw [HAK.out, if_pos (by simpa using he)])
    have hga := HG0.out
    unfold ans0 at hga
    have hgal := hat_lt hga
    go_wp2_with fail
    refine ret_c row37 rfl (cs := #[.int .i64 e, .int .i64 0, .int .i64 0, .int .i64 0, .int .i64 0, .int .i64 0, .int .i64 0, .slice none 0 0, .slice none 0 0, .bool false]) rfl (hat_setRow_at _ _ _ _ _ _ HG0.out) rfl rfl ?_
    exact ⟨nrm w own, _, rfl, by rw [HAE.out]; exact ans_err _ _ _ _, by rw [HAE.out]; exact Mvd.then ⟨⟨c, A, HP0.out⟩, (HF0.out).un (by simp), fun b hb => nrm_lt hb⟩ (fr_setRow _ ga _) (by simp; exact ⟨nrm_ge HGE.out.2.1, HGE.out.2.1⟩)⟩
set_option maxHeartbeats 8000000 in
set_option maxRecDepth 100000 in
theorem does_ask10 {w : World} {gp bn c : Nat} {S : PS} {A : Int → NA} {own : Nat → Option (Int × Nat)} (h : PW w gp bn c S A own) {o : OpV} (hk : o.kind = 10) (hma : 0 ≤ o.made ∧ o.made ≤ 1099511627776) {dv : Value} (ho : OpAt w own o dv) {fv tv : Value} {l : List ByteArray} {B : Nat} (hv : Strs w B fv l) (hl : ∀ s ∈ l, 0 < s.size ∧ s.size ≤ 40) :
    Calls Tryd.prog 27 #[.pointer (some ⟨gp, 0, none⟩), .agg (opV o dv), fv, tv] w fun e w' => ∃ own' av, e = .returned av ∧ AnsAt w' w.heap.size own' av (S.asked o l).2 ∧ Mvd w w' gp bn own (S.asked o l).1 own' := by
  have H := Lib.hid h.nrm
  have HO := Lib.hid ho
  have HV := Lib.hid hv
  have HL := Lib.hid hl
  obtain ⟨od, hdr, hdn⟩ := ho.d
  obtain ⟨da, dc, rfl⟩ := hdr.slice
  obtain ⟨kind, path, dest, off, len, data, made, pick⟩ := o
  simp only at hk hma
  subst hk
  clear ho hdr hdn h hv hl
  unfold opV
  simp only at HO ⊢
  obtain ⟨w0, hw0⟩ : ∃ x, x = (w.alloc (.cells #[.int .i64 10, .string path, .string dest, .int .i64 off, .int .i64 len, .slice da data.length dc, .int .i64 made, .int .i64 pick] 40)).alloc (.cells ans0 37) := ⟨_, rfl⟩
  obtain ⟨go, hgo⟩ : ∃ x, x = w.heap.size := ⟨_, rfl⟩
  obtain ⟨ga, hga⟩ : ∃ x, x = go + 1 := ⟨_, rfl⟩
  have hf0 : Fr [] w w0 := by rw [hw0]; exact (fr_new _ _ _).trans (fr_new _ _ _)
  have hop0 : hat w0 go = some (.cells #[.int .i64 10, .string path, .string dest, .int .i64 off, .int .i64 len, .slice da data.length dc, .int .i64 made, .int .i64 pick] 40) := by rw [hw0, hgo]; exact (hopA _ _ (hopN w _).1).1
  have hga0 : hat w0 ga = some (.cells ans0 37) := by
    have e := (hopN (w.alloc (.cells #[.int .i64 10, .string path, .string dest, .int .i64 off, .int .i64 len, .slice da data.length dc, .int .i64 made, .int .i64 pick] 40)) (.cells ans0 37)).1
    rw [show (w.alloc (.cells #[.int .i64 10, .string path, .string dest, .int .i64 off, .int .i64 len, .slice da data.length dc, .int .i64 made, .int .i64 pick] 40)).heap.size = ga by rw [hga, hgo]; simp] at e
    rw [hw0]; exact e
  have HG0 := Lib.hid hga0
  have HF0 := Lib.hid hf0
  have HP0 := Lib.hid (H.out.fr hf0 (by simp))
  have HGE := Lib.hid (show w.heap.size ≤ go ∧ w.heap.size ≤ ga ∧ go < ga from by omega)
  have HO0 := Lib.hid (HO.out.fr (own' := nrm w own) hf0 (by simp) (fun b hb => nrm_lt hb))
  have HV0 := Lib.hid (HV.out.fr' hf0)
  go_enter Tryd.func27, Tryd.ntmps27
  go_upto_region 1 with fail
  have hw0' : w0 = (w.alloc (.cells #[.int .i64 10, .string path, .string dest, .int .i64 off, .int .i64 len, .slice da data.length dc, .int .i64 made, .int .i64 pick] 40)).alloc (.cells #[.int .i64 0, .int .i64 0, .int .i64 0, .int .i64 0, .int .i64 0, .int .i64 0, .int .i64 0, .slice none 0 0, .slice none 0 0, .bool false] 37) := hw0
  rw [← hgo, ← hga]
  rw [← hw0']
  clear hw0' hw0 hf0 hga hgo hga0
  have hol0 := hat_lt hop0
  have hnn : nrm w (nrm w own) = nrm w own := by funext b; unfold nrm; split <;> rfl
  go_wp2_with fail
  refine (walk_any HP0.out.t HP0.out.f HV0.out (fun s hs => (HL.out s hs).2)).mono ?_; rintro e w1 ⟨rfl, rfl⟩
  have HWC := Lib.hid (walk_code S l 1)
  have HWT := Lib.hid (fun h => walk_there HP0.out.f l 1 (root_there HP0.out.f) h)
  have HAK : Hid (S.asked ⟨10, path, dest, off, len, data, made, pick⟩ l = if (S.walk l 1).2 ≠ 0 then (S, .err (S.walk l 1).2) else S.ask ⟨10, path, dest, off, len, data, made, pick⟩ (S.walk l 1).1) := Lib.hid rfl
  generalize S.walk l 1 = r at *
  obtain ⟨i, e⟩ := r
  simp only at HWC HWT HAK ⊢
  by_cases he : e = 0
  · subst he
    have hi := HWT.out rfl
    have HAE := Lib.hid (show S.asked ⟨10, path, dest, off, len, data, made, pick⟩ l = S.ask ⟨10, path, dest, off, len, data, made, pick⟩ i by rw [HAK.out, if_neg (by simp)])
    go_wp2_with fail
    refine (asks10 HP0.out hi (o := ⟨10, path, dest, off, len, data, made, pick⟩) rfl HO0.out).mono ?_; rintro e w2 ⟨own', av, rfl, ha, hmv⟩
    have hgan : nrm w own ga = none := nrm_ge HGE.out.2.1
    have hg1 := (hmv.2.1.block ga (hat_lt HG0.out) hgan).trans HG0.out
    have HG1 := Lib.hid hg1
    have HGN := Lib.hid ((hmv.2.2 ga (hat_lt HG0.out)).trans hgan)
    have HMV := Lib.hid (hmv.from HF0.out)
    have HAN := Lib.hid ha
    obtain ⟨dv, ev, od1, oe1, rfl, hd1, he1, -⟩ := ha
    obtain ⟨d1, d2, rfl⟩ := hd1.slice
    obtain ⟨e1, e2, rfl⟩ := he1.slice
    unfold ansV at HAN ⊢
    generalize hx : (S.ask ⟨10, path, dest, off, len, data, made, pick⟩ i).2 = x at *
    have HX := Lib.hid hx
    clear hx
    obtain ⟨xc, ⟨x1, x2, x3, x4, x5, x6⟩, xd, xe⟩ := x
    simp only at HAN ⊢
    unfold ans0 at hg1
    have hgl1 := hat_lt hg1
    have hone : oneAll #[.int .i64 xc, .int .i64 x1, .int .i64 x2, .int .i64 x3, .int .i64 x4, .int .i64 x5, .int .i64 x6, .slice d1 xd.length d2, .slice e1 xe.length e2, .bool false] = true := by simp [oneAll, Value.oneCell']
    clear hmv hol0 hop0 hd1 he1
    go_wp2_with fail
    refine ret_c row37 rfl (cs := #[.int .i64 xc, .int .i64 x1, .int .i64 x2, .int .i64 x3, .int .i64 x4, .int .i64 x5, .int .i64 x6, .slice d1 xd.length d2, .slice e1 xe.length e2, .bool false]) rfl (hat_setRow_at _ _ _ _ _ _ HG1.out) rfl rfl ?_
    exact ⟨own', _, rfl, by rw [HAE.out, HX.out]; exact HAN.out.fr' (fr_setRow w2 ga _) (by simp; exact hat_lt HG0.out) HF0.out.size, by rw [HAE.out]; exact HMV.out.then (fr_setRow w2 ga _) (by simp; exact ⟨HGN.out, HGE.out.2.1⟩)⟩
  · have HAE := Lib.hid (show S.asked ⟨10, path, dest, off, len, data, made, pick⟩ l = (S, .err e) by rw [HAK.out, if_pos (by simpa using he)])
    have hga := HG0.out
    unfold ans0 at hga
    have hgal := hat_lt hga
    go_wp2_with fail
    refine ret_c row37 rfl (cs := #[.int .i64 e, .int .i64 0, .int .i64 0, .int .i64 0, .int .i64 0, .int .i64 0, .int .i64 0, .slice none 0 0, .slice none 0 0, .bool false]) rfl (hat_setRow_at _ _ _ _ _ _ HG0.out) rfl rfl ?_
    exact ⟨nrm w own, _, rfl, by rw [HAE.out]; exact ans_err _ _ _ _, by rw [HAE.out]; exact Mvd.then ⟨⟨c, A, HP0.out⟩, (HF0.out).un (by simp), fun b hb => nrm_lt hb⟩ (fr_setRow _ ga _) (by simp; exact ⟨nrm_ge HGE.out.2.1, HGE.out.2.1⟩)⟩
end Go.Proofs.YteffoihkljkfdaaDoor

/- A plain file system is as it may be: a name less. -/
namespace Go.Proofs.YteffoihkljkfdaaDoor
set_option linter.unusedSimpArgs false
set_option linter.unusedVariables false
open Go.RowKit

/-- where a text stands first -/
theorem idx_at {l : List ByteArray} {x : ByteArray} (h : x ∈ l) : ∃ k : Nat, Lib.idxOfS l x = k ∧ k < l.length ∧ l = l.take k ++ x :: l.drop (k + 1) ∧ x ∉ l.take k := by
  have hex : ∃ k, k < l.length ∧ l.getD k ByteArray.empty = x := by
    obtain ⟨k, hk, he⟩ := List.getElem_of_mem h
    exact ⟨k, hk, by rw [List.getD_eq_getElem?_getD, List.getElem?_eq_getElem hk]; exact he⟩
  have key : ∀ n, (∃ k, k < n ∧ k < l.length ∧ l.getD k ByteArray.empty = x) → ∃ k, k < l.length ∧ l.getD k ByteArray.empty = x ∧ ∀ j, j < k → l.getD j ByteArray.empty ≠ x := by
    intro n
    induction n with
    | zero => rintro ⟨k, h, -⟩; omega
    | succ n ih =>
      rintro ⟨k, hk, h2, h3⟩
      by_cases hb : ∃ k, k < n ∧ k < l.length ∧ l.getD k ByteArray.empty = x
      · exact ih hb
      · exact ⟨k, h2, h3, fun j hj he => hb ⟨j, by omega, by omega, he⟩⟩
  obtain ⟨k, hk, he⟩ := hex
  obtain ⟨k, hk, he, hlt⟩ := key (k + 1) ⟨k, by omega, hk, he⟩
  have e1 : l[k] = x := by rw [List.getD_eq_getElem?_getD, List.getElem?_eq_getElem hk] at he; exact he
  refine ⟨k, ?_, hk, ?_, fun hm => ?_⟩
  · have := Lib.idxOfS_hit l l.length k x hk (Nat.le_refl _) he hlt
    rw [List.take_length] at this
    exact this
  · rw [← e1, ← List.drop_eq_getElem_cons hk, List.take_append_drop]
  · obtain ⟨j, hj, he⟩ := List.getElem_of_mem hm
    have hjk : j < k := by rw [List.length_take] at hj; omega
    refine hlt j hjk ?_
    rw [List.getElem_take] at he
    rw [List.getD_eq_getElem?_getD, List.getElem?_eq_getElem (by omega)]
    exact he
/-- a directory with a name less -/
theorem clr_slots {d : Nd} {name : ByteArray} (hm : name ∈ d.slots) : ∃ k : Nat, k < d.slots.length ∧ d.slots = d.slots.take k ++ name :: d.slots.drop (k + 1) ∧ (d.clr name).slots = d.slots.take k ++ emp :: d.slots.drop (k + 1) := by
  obtain ⟨k, h1, h2, h3, -⟩ := idx_at hm
  refine ⟨k, h2, h3, ?_⟩
  show d.slots.set (Lib.idxOfS d.slots name).toNat emp = _
  rw [h1, Int.toNat_natCast, List.set_eq_take_append_cons_drop, if_pos h2]
theorem clr_wf {S S' : PS} {d : Nd} (h : NWf S d) (hok : NOk d) (hk : d.kind = 2) {name : ByteArray} {j : Int} (hj : d.names name = some j) (hthere : ∀ s i, d.names s = some i → s ≠ name → (S'.nodes i).isSome = true) : NWf S' (d.clr name) ∧ NOk (d.clr name) := by
  obtain ⟨hm, hs40, hs0, -⟩ := h.nm name j hj
  obtain ⟨k, hkl, hdec, hcl⟩ := clr_slots hm
  obtain ⟨hdat, hsz⟩ := h.dr hk
  have hlen : (d.clr name).slots.length = d.slots.length := by show (d.slots.set _ _).length = _; rw [List.length_set]
  have hnd := h.nd
  rw [hdec, List.filter_append, List.filter_cons] at hnd
  simp only [hs0, decide_true, if_true] at hnd
  have hnot : name ∉ (d.clr name).slots := by
    rw [hcl]
    rw [List.nodup_append] at hnd
    have h1 := List.nodup_cons.1 hnd.2.1
    intro hmm
    simp only [List.mem_append, List.mem_cons] at hmm
    rcases hmm with h2 | h2 | h2
    · exact hnd.2.2 name (List.mem_filter.2 ⟨h2, by simpa using hs0⟩) name (.head _) rfl
    · exact size_pos_ne hs0 h2
    · exact h1.1 (List.mem_filter.2 ⟨h2, by simpa using hs0⟩)
  have hmem : ∀ s, s ∈ (d.clr name).slots → s ≠ emp → s ∈ d.slots := fun s hs he => by
    rw [hcl] at hs
    rw [hdec]
    simp only [List.mem_append, List.mem_cons] at hs ⊢
    rcases hs with h1 | h1 | h1
    · exact .inl h1
    · exact absurd h1 he
    · exact .inr (.inr h1)
  have hmem2 : ∀ s, s ∈ d.slots → s ≠ name → s ∈ (d.clr name).slots := fun s hs he => by
    rw [hcl]
    rw [hdec] at hs
    simp only [List.mem_append, List.mem_cons] at hs ⊢
    rcases hs with h1 | h1 | h1
    · exact .inl h1
    · exact absurd h1 he
    · exact .inr (.inr h1)
  refine ⟨⟨h.kd, h.lk, h.sz, h.md, fun h1 => ?_, fun _ => ⟨hdat, ?_⟩, fun s i hs => ?_, fun s hs h0 => ?_, ?_, fun k s hs => ?_⟩, ⟨hok.dk, hok.dl, by rw [hlen]; exact hok.sl⟩⟩
  · have h1' : d.kind = 1 := h1
    rw [hk] at h1'; cases h1'
  · show d.size = 128 * ((d.clr name).slots.length : Int)
    rw [hlen]; exact hsz
  · have hs' : (if s = name then none else d.names s) = some i := hs
    split at hs'
    · cases hs'
    · rename_i hne
      obtain ⟨a1, a2, a3, -⟩ := h.nm s i hs'
      exact ⟨hmem2 s a1 hne, a2, a3, hthere s i hs' hne⟩
  · show (if s = name then none else d.names s).isSome = true
    have hne : s ≠ name := fun e => by subst e; exact hnot hs
    rw [if_neg hne]
    exact h.sn s (hmem s hs (size_pos_ne h0)) h0
  · rw [hcl, List.filter_append, List.filter_cons]
    simp only [emp_size, Nat.lt_irrefl, decide_false]
    rw [List.nodup_append] at hnd ⊢
    exact ⟨hnd.1, (List.nodup_cons.1 hnd.2.1).2, fun a ha b hb => hnd.2.2 a ha b (.tail _ hb)⟩
  · have hs' : d.data k = some s := hs
    rw [hdat k] at hs'; cases hs'
end Go.Proofs.YteffoihkljkfdaaDoor

/- How many names there are of an inode: plain. -/
namespace Go.Proofs.YteffoihkljkfdaaDoor
set_option linter.unusedSimpArgs false
set_option linter.unusedVariables false
open Go.RowKit

/-- how many names of a directory name i -/
def Nd.namesOf (n : Nd) (i : Int) : Int := ((n.slots.filter fun s => decide (0 < s.size) && decide (n.names s = some i)).length : Nat)
/-- how many names there are of an inode -/
def PS.namedN (S : PS) (i : Int) : Int := sumB 513 fun d => (S.nd d).namesOf i
theorem namesOf_nil (i : Int) : Nd.nil.namesOf i = 0 := rfl
theorem namesOf_nonneg (n : Nd) (i : Int) : 0 ≤ n.namesOf i := Int.natCast_nonneg _
/-- one node is another one -/
theorem namedN_put {S : PS} {d : Int} (hd : 0 ≤ d ∧ d < 513) (n : Nd) (i : Int) : (S.put d (some n)).namedN i = S.namedN i + (n.namesOf i - (S.nd d).namesOf i) := by
  unfold PS.namedN
  have hdd : ((S.put d (some n)).nd d) = n := by unfold PS.nd; rw [PS.put_same]; rfl
  have ho : ∀ k, k ≠ d → (S.put d (some n)).nd k = S.nd k := fun k hk => by unfold PS.nd; rw [PS.put_other _ _ hk]
  rw [sumB_step (x := d) (f := fun k => (S.nd k).namesOf i) hd (fun k hk => by rw [ho k hk]), hdd]
/-- one node is no more -/
theorem namedN_del {S : PS} {d : Int} (hd : 0 ≤ d ∧ d < 513) (i : Int) : (S.put d none).namedN i = S.namedN i - (S.nd d).namesOf i := by
  unfold PS.namedN
  have hdd : ((S.put d none).nd d) = Nd.nil := by unfold PS.nd; rw [PS.put_same]; rfl
  have ho : ∀ k, k ≠ d → (S.put d none).nd k = S.nd k := fun k hk => by unfold PS.nd; rw [PS.put_other _ _ hk]
  rw [sumB_step (x := d) (f := fun k => (S.nd k).namesOf i) hd (fun k hk => by rw [ho k hk]), hdd, namesOf_nil, Int.zero_sub, ← Int.sub_eq_add_neg]
theorem sumB_pos {N : Nat} {f : Int → Int} (h : ∀ k, 0 ≤ f k) {x : Int} (hx : 0 ≤ x ∧ x < N) (hp : 0 < f x) : 0 < sumB N f := by
  induction N with
  | zero => omega
  | succ N ih =>
    rw [sumB_succ]
    by_cases he : x = (N : Int)
    · subst he
      have : 0 ≤ sumB N f := by
        clear ih hx hp
        induction N with
        | zero => exact Int.le_refl _
        | succ N ih => rw [sumB_succ]; have := h N; omega
      omega
    · have := ih (by omega)
      have := h N
      omega
/-- what no name names, no directory names -/
theorem named_none {S : PS} (hO : POk S) (hW : PWf S) {i : Int} (h : S.namedN i = 0) {d : Int} {n : Nd} (hd : S.nodes d = some n) (s : ByteArray) : n.names s ≠ some i := by
  intro hs
  obtain ⟨hm, -, h0, -⟩ := (hW.n d n hd).nm s i hs
  have hk := hO.k d (by rw [hd]; rfl)
  have hi := hO.i
  have : 0 < S.namedN i := by
    refine sumB_pos (fun k => namesOf_nonneg _ _) (x := d) (by omega) ?_
    rw [PS.nd_some hd]
    unfold Nd.namesOf
    have : 0 < (n.slots.filter fun s => decide (0 < s.size) && decide (n.names s = some i)).length := List.length_pos_of_mem (List.mem_filter.2 ⟨hm, by simp [h0, hs]⟩)
    omega
  omega
theorem filt_congr {l : List ByteArray} {p q : ByteArray → Bool} (h : ∀ s ∈ l, p s = q s) : (l.filter p).length = (l.filter q).length := by rw [List.filter_congr h]
/-- a name less -/
theorem namesOf_clr {S : PS} {d : Nd} (h : NWf S d) {name : ByteArray} {j : Int} (hj : d.names name = some j) (i : Int) : (d.clr name).namesOf i = d.namesOf i - (if i = j then 1 else 0) := by
  obtain ⟨hm, hs40, hs0, -⟩ := h.nm name j hj
  obtain ⟨k, hkl, hdec, hcl⟩ := clr_slots hm
  have hnd := h.nd
  rw [hdec, List.filter_append, List.filter_cons] at hnd
  simp only [hs0, decide_true, if_true] at hnd
  rw [List.nodup_append] at hnd
  have h1 := List.nodup_cons.1 hnd.2.1
  have hn1 : ∀ s ∈ d.slots.take k, 0 < s.size → s ≠ name := fun s hs h0 e => by subst e; exact hnd.2.2 s (List.mem_filter.2 ⟨hs, by simpa using h0⟩) s (.head _) rfl
  have hn2 : ∀ s ∈ d.slots.drop (k + 1), 0 < s.size → s ≠ name := fun s hs h0 e => by subst e; exact h1.1 (List.mem_filter.2 ⟨hs, by simpa using h0⟩)
  have key : ∀ l : List ByteArray, (∀ s ∈ l, 0 < s.size → s ≠ name) → (l.filter fun s => decide (0 < s.size) && decide ((d.clr name).names s = some i)).length = (l.filter fun s => decide (0 < s.size) && decide (d.names s = some i)).length := fun l hl => by
    refine filt_congr fun s hs => ?_
    by_cases h0 : 0 < s.size
    · have e : (d.clr name).names s = d.names s := if_neg (hl s hs h0)
      rw [e]
    · simp [h0]
  unfold Nd.namesOf
  rw [hcl]
  conv => rhs; rw [hdec]
  rw [List.filter_append, List.filter_append, List.filter_cons, List.filter_cons, List.length_append, List.length_append, key _ hn1]
  simp only [emp_size, Nat.lt_irrefl, decide_false, Bool.false_and, Bool.false_eq_true, if_false, hs0, decide_true, Bool.true_and, hj]
  rw [key _ hn2]
  by_cases he : i = j
  · subst he
    simp
    omega
  · have : ¬ (some j = some i) := fun e => he (Option.some.inj e).symm
    simp [this, he]
/-- a name more -/
theorem namesOf_set {S : PS} {d : Nd} (h : NWf S d) {k : Int} (hp : (k = d.slots.length ∧ d.slots.length < 1068 ∧ emp ∉ d.slots) ∨ ∃ j : Nat, k = j ∧ j < d.slots.length ∧ d.slots = d.slots.take j ++ emp :: d.slots.drop (j + 1))
    {name : ByteArray} (hn : 0 < name.size) (hf : d.names name = none) (i x : Int) : (d.set k name i).namesOf x = d.namesOf x + (if x = i then 1 else 0) := by
  have hnot : name ∉ d.slots := fun hm => by
    have := h.sn name hm hn
    rw [hf] at this; cases this
  have key : ∀ l : List ByteArray, (∀ s ∈ l, s ∈ d.slots) → (l.filter fun s => decide (0 < s.size) && decide (d.ins name i s = some x)).length = (l.filter fun s => decide (0 < s.size) && decide (d.names s = some x)).length := fun l hl => by
    refine filt_congr fun s hs => ?_
    have e : d.ins name i s = d.names s := if_neg (fun e => hnot (by rw [← e]; exact hl s hs))
    rw [e]
  have hnew : d.ins name i name = some i := if_pos rfl
  rcases hp with ⟨rfl, -, -⟩ | ⟨j, rfl, hj, hdec⟩
  · have e : d.set d.slots.length name i = { d with slots := d.slots ++ [name], size := (d.slots.length + 1) * 128, names := d.ins name i } := by unfold Nd.set; rw [if_pos rfl]
    rw [e]
    show (((d.slots ++ [name]).filter fun s => decide (0 < s.size) && decide (d.ins name i s = some x)).length : Int) = _
    unfold Nd.namesOf
    rw [List.filter_append, List.length_append, key _ (fun s hs => hs), List.filter_cons, List.filter_nil]
    simp only [hn, decide_true, Bool.true_and, hnew]
    by_cases he : x = i
    · subst he; simp
    · have : ¬ (some i = some x) := fun e => he (Option.some.inj e).symm
      simp [this, he]
  · have e : d.set j name i = { d with slots := d.slots.set j name, names := d.ins name i } := by unfold Nd.set; rw [if_neg (by omega)]; rfl
    rw [e]
    show (((d.slots.set j name).filter fun s => decide (0 < s.size) && decide (d.ins name i s = some x)).length : Int) = _
    unfold Nd.namesOf
    rw [List.set_eq_take_append_cons_drop, if_pos hj]
    conv => rhs; rw [hdec]
    rw [List.filter_append, List.filter_append, List.filter_cons, List.filter_cons, List.length_append, List.length_append, key _ (fun s hs => List.mem_of_mem_take hs)]
    simp only [emp_size, Nat.lt_irrefl, decide_false, Bool.false_and, Bool.false_eq_true, if_false, hn, decide_true, Bool.true_and, hnew]
    by_cases he : x = i
    · subst he
      simp only [decide_true, if_true, List.length_cons]
      rw [key _ (fun s hs => List.mem_of_mem_drop hs)]
      omega
    · have : ¬ (some i = some x) := fun e => he (Option.some.inj e).symm
      simp only [this, decide_false, Bool.false_eq_true, if_false, he]
      rw [key _ (fun s hs => List.mem_of_mem_drop hs)]
      omega
end Go.Proofs.YteffoihkljkfdaaDoor

/- As many names as links: plain. -/
namespace Go.Proofs.YteffoihkljkfdaaDoor
set_option linter.unusedSimpArgs false
set_option linter.unusedVariables false
open Go.RowKit

/-- each inode has as many names as it tells; the root none; a directory one -/
structure LW (S : PS) : Prop where
  l : ∀ i n, S.nodes i = some n → i ≠ 1 → S.namedN i = n.links
  r : S.namedN 1 = 0
  d : ∀ i n, S.nodes i = some n → n.kind = 2 → n.links = 1
theorem sumB_const0 {N : Nat} {f : Int → Int} (h : ∀ k, f k = 0) : sumB N f = 0 := by
  induction N with
  | zero => rfl
  | succ N ih => rw [sumB_succ, ih, h]; rfl
theorem nd_none {S : PS} {i : Int} (h : S.nodes i = none) : S.nd i = Nd.nil := by unfold PS.nd; rw [h]; rfl
theorem nd_case (S : PS) (d : Int) : S.nd d = Nd.nil ∨ ∃ n, S.nodes d = some n ∧ S.nd d = n := by
  cases h : S.nodes d with
  | none => exact .inl (nd_none h)
  | some n => exact .inr ⟨n, rfl, PS.nd_some h⟩
/-- nothing names what is free -/
theorem free_zero {S : PS} (hW : PWf S) {i : Int} (h : S.nodes i = none) : S.namedN i = 0 := by
  unfold PS.namedN
  refine sumB_const0 fun d => ?_
  rcases nd_case S d with e | ⟨n, h1, e⟩
  · rw [e]; rfl
  · rw [e]
    unfold Nd.namesOf
    have : (n.slots.filter fun s => decide (0 < s.size) && decide (n.names s = some i)) = [] := by
      rw [List.filter_eq_nil_iff]
      intro s hs hh
      simp at hh
      have := ((hW.n d n h1).nm s i hh.2).2.2.2
      rw [h] at this
      cases this
    rw [this]; rfl
theorem namesOf_same {n n' : Nd} (h1 : n'.slots = n.slots) (h2 : n'.names = n.names) (i : Int) : n'.namesOf i = n.namesOf i := by unfold Nd.namesOf; rw [h1, h2]
/-- a file or a directory more -/
theorem make_lw {S : PS} (hO : POk S) (hW : PWf S) (hL : LW S) {l : List ByteArray} (hl : ∀ s ∈ l, 0 < s.size ∧ s.size ≤ 40) {kind made : Int} : LW (S.make l kind made).1 := by
  unfold PS.make
  split
  · exact hL
  · rename_i h1
    split
    · exact hL
    · rename_i h2
      split
      · exact hL
      · rename_i h3
        split
        · exact hL
        · rename_i h4
          have h1 : (S.last l).e = 0 := by omega
          have h4 : (S.place (S.nd (S.last l).d)).2 = 0 := by omega
          obtain ⟨a1, a2, a3⟩ := last_ok hW h1
          obtain ⟨b1, b2, b3⟩ := freeI_ok h3
          have hdn := PS.nd_get a1
          have hi := hO.i
          generalize hD : (S.last l).d = d at *
          generalize hI : S.freeI = i at *
          have hdi : d ≠ i := fun e => by rw [e, b3] at a1; cases a1
          have hkd := hO.k d a1
          have h2 : (S.nd d).names (S.last l).name = none := by
            cases hq : (S.nd d).names (S.last l).name with
            | none => rfl
            | some x => rw [hq] at h2; exact absurd rfl h2
          generalize hN : (S.nd d).set (S.place (S.nd d)).1 (S.last l).name i = n' at *
          have hno : ∀ x, n'.namesOf x = (S.nd d).namesOf x + (if x = i then 1 else 0) := fun x => by
            rw [← hN]
            exact namesOf_set (hW.n d _ hdn) (place_ok (hO.n d _ hdn).sl h4) (hl _ a3).1 h2 i x
          have hfr : ∀ x, (freshN kind made).namesOf x = 0 := fun x => rfl
          have h1d : (S.put i (some (freshN kind made))).nd d = S.nd d := by unfold PS.nd; rw [PS.put_other _ _ hdi]
          have hcount : ∀ x, ((S.put i (some (freshN kind made))).put d (some n')).namedN x = S.namedN x + (if x = i then 1 else 0) := fun x => by
            rw [namedN_put (by omega), namedN_put (by omega), h1d, hno, hfr, nd_none b3, namesOf_nil]
            omega
          have hT : ∀ j, ((S.put i (some (freshN kind made))).put d (some n')).nodes j = if j = d then some n' else if j = i then some (freshN kind made) else S.nodes j := fun j => rfl
          have hn'l : n'.links = (S.nd d).links ∧ n'.kind = (S.nd d).kind := by rw [← hN]; unfold Nd.set; split <;> exact ⟨rfl, rfl⟩
          refine ⟨fun j n hj hj1 => ?_, ?_, fun j n hj hk => ?_⟩
          · rw [hcount]
            rw [hT] at hj
            by_cases hjd : j = d
            · subst hjd
              rw [if_pos rfl] at hj; cases hj
              rw [if_neg hdi, hn'l.1, hL.l j _ hdn hj1]; omega
            · rw [if_neg hjd] at hj
              by_cases hji : j = i
              · subst hji
                rw [if_pos rfl] at hj; cases hj
                rw [if_pos rfl, free_zero hW b3]; rfl
              · rw [if_neg hji] at hj
                rw [if_neg hji, hL.l j n hj hj1]; omega
          · rw [hcount, hL.r, if_neg (by omega)]; rfl
          · rw [hT] at hj
            by_cases hjd : j = d
            · subst hjd
              rw [if_pos rfl] at hj; cases hj
              rw [hn'l.1]; exact hL.d j _ hdn a2
            · rw [if_neg hjd] at hj
              by_cases hji : j = i
              · subst hji
                rw [if_pos rfl] at hj; cases hj; rfl
              · rw [if_neg hji] at hj
                exact hL.d j n hj hk
end Go.Proofs.YteffoihkljkfdaaDoor

/- A name taken away: plain. -/
namespace Go.Proofs.YteffoihkljkfdaaDoor
set_option linter.unusedSimpArgs false
set_option linter.unusedVariables false
open Go.RowKit

/-- the last of names names i in d -/
structure Entr where
  d : Int
  name : ByteArray
  i : Int
  e : Int
def PS.entry (S : PS) (l : List ByteArray) : Entr :=
  if (S.last l).e ≠ 0 then ⟨0, emp, 0, (S.last l).e⟩ else match (S.nd (S.last l).d).names (S.last l).name with
    | none => ⟨0, emp, 0, 110⟩
    | some i => ⟨(S.last l).d, (S.last l).name, i, 0⟩
theorem entry_ok {S : PS} (hW : PWf S) {l : List ByteArray} (h : (S.entry l).e = 0) :
    (S.nodes (S.entry l).d).isSome = true ∧ (S.nd (S.entry l).d).kind = 2 ∧ (S.nd (S.entry l).d).names (S.entry l).name = some (S.entry l).i ∧ (S.nodes (S.entry l).i).isSome = true := by
  unfold PS.entry at h ⊢
  split at h
  · rename_i h1
    exact absurd h h1
  · rename_i h1
    rw [if_neg h1]
    have h1 : (S.last l).e = 0 := by omega
    obtain ⟨a1, a2, a3⟩ := last_ok hW h1
    cases hq : (S.nd (S.last l).d).names (S.last l).name with
    | none => rw [hq] at h; cases h
    | some i => exact ⟨a1, a2, hq, ((hW.n _ _ (PS.nd_get a1)).nm _ _ hq).2.2.2⟩
/-- a directory without its name -/
def PS.cleared (S : PS) (d : Int) (name : ByteArray) : PS := S.put d (some ((S.nd d).clr name))
def PS.taken (S : PS) (d : Int) (name : ByteArray) (i : Int) : PS := (S.cleared d name).less i
theorem cleared_wf {S : PS} (hO : POk S) (hW : PWf S) {d : Int} (hd : (S.nodes d).isSome = true) (hk : (S.nd d).kind = 2) {name : ByteArray} {i : Int} (hn : (S.nd d).names name = some i) : POk (S.cleared d name) ∧ PWf (S.cleared d name) := by
  have hdn := PS.nd_get hd
  refine put_wf hO hW hd (fun h => h) (clr_wf (hW.n d _ hdn) (hO.n d _ hdn) hk hn (fun s j hs _ => ?_))
  exact ((hW.n d _ hdn).nm s j hs).2.2.2
theorem cleared_named {S : PS} (hO : POk S) (hW : PWf S) {d : Int} (hd : (S.nodes d).isSome = true) {name : ByteArray} {i : Int} (hn : (S.nd d).names name = some i) (x : Int) : (S.cleared d name).namedN x = S.namedN x - (if x = i then 1 else 0) := by
  have hdn := PS.nd_get hd
  have hkd := hO.k d hd
  have hi := hO.i
  unfold PS.cleared
  rw [namedN_put (by omega), namesOf_clr (hW.n d _ hdn) hn]
  omega
/-- an inode has no names in it -/
def Empt (n : Nd) : Prop := ∀ s, n.names s = none
theorem empt_of {n : Nd} (h : Empt n) (x : Int) : n.namesOf x = 0 := by
  unfold Nd.namesOf
  have : (n.slots.filter fun s => decide (0 < s.size) && decide (n.names s = some x)) = [] := by
    rw [List.filter_eq_nil_iff]
    intro s hs hh
    simp at hh
    rw [h s] at hh
    cases hh.2
  rw [this]; rfl
/-- a node that nothing names, and that names nothing, is no more -/
theorem del_wf {S : PS} (hO : POk S) (hW : PWf S) {i : Int} (hi : (S.nodes i).isSome = true) (h1 : i ≠ 1) (h0 : S.namedN i = 0) : POk (S.put i none) ∧ PWf (S.put i none) := by
  have hT : ∀ j, (S.put i none).nodes j = if j = i then none else S.nodes j := fun _ => rfl
  have hget : ∀ j n, (S.put i none).nodes j = some n → j ≠ i ∧ S.nodes j = some n := fun j n hj => by
    rw [hT] at hj
    by_cases he : j = i
    · rw [if_pos he] at hj; cases hj
    · rw [if_neg he] at hj; exact ⟨he, hj⟩
  refine ⟨⟨hO.s, hO.i, fun j hj => ?_, fun j n hn => hO.n j n (hget j n hn).2⟩, ⟨?_, fun j n hn => ?_⟩⟩
  · obtain ⟨n, hn⟩ := Option.isSome_iff_exists.1 hj
    exact hO.k j (by rw [(hget j n hn).2]; rfl)
  · obtain ⟨n, h2, h3⟩ := hW.root
    exact ⟨n, by rw [hT, if_neg (Ne.symm h1)]; exact h2, h3⟩
  · obtain ⟨-, h2⟩ := hget j n hn
    have h := hW.n j n h2
    refine ⟨h.kd, h.lk, h.sz, h.md, h.fl, h.dr, fun s x hs => ?_, h.sn, h.nd, h.db⟩
    obtain ⟨a, b, c, e⟩ := h.nm s x hs
    refine ⟨a, b, c, ?_⟩
    rw [hT, if_neg (fun e => named_none hO hW h0 h2 s (by rw [← e]; exact hs))]
    exact e
theorem taken_wf {S : PS} (hO : POk S) (hW : PWf S) (hL : LW S) {d : Int} (hd : (S.nodes d).isSome = true) (hk : (S.nd d).kind = 2) {name : ByteArray} {i : Int} (hn : (S.nd d).names name = some i) (hdi : i ≠ d) (he : Empt (S.nd i)) :
    POk (S.taken d name i) ∧ PWf (S.taken d name i) ∧ LW (S.taken d name i) := by
  have hdn := PS.nd_get hd
  have hi := ((hW.n d _ hdn).nm name i hn).2.2.2
  have hin := PS.nd_get hi
  obtain ⟨cO, cW⟩ := cleared_wf hO hW hd hk hn
  have hcn := cleared_named hO hW hd hn
  have hi1 : i ≠ 1 := fun e => by
    have := named_none hO hW hL.r hdn name
    rw [e] at hn
    exact this hn
  have hci : (S.cleared d name).nodes i = S.nodes i := PS.put_other _ _ hdi
  have hcd : (S.cleared d name).nd i = S.nd i := by unfold PS.nd; rw [hci]
  have hil := hL.l i _ hin hi1
  have hkd := hO.k d hd
  have hki := hO.k i hi
  have hii := hO.i
  have hcT : ∀ j n, (S.cleared d name).nodes j = some n → j = d ∧ n = (S.nd d).clr name ∨ j ≠ d ∧ S.nodes j = some n := fun j n hj => by
    by_cases hjd : j = d
    · subst hjd
      rw [show (S.cleared j name).nodes j = some ((S.nd j).clr name) from PS.put_same _ _ _] at hj
      cases hj; exact .inl ⟨rfl, rfl⟩
    · rw [show (S.cleared d name).nodes j = S.nodes j from PS.put_other _ _ hjd] at hj
      exact .inr ⟨hjd, hj⟩
  have hcL : ∀ j n, (S.cleared d name).nodes j = some n → ∃ n0, S.nodes j = some n0 ∧ n.links = n0.links ∧ n.kind = n0.kind := fun j n hj => by
    rcases hcT j n hj with ⟨rfl, rfl⟩ | ⟨-, h⟩
    · exact ⟨_, hdn, rfl, rfl⟩
    · exact ⟨n, h, rfl, rfl⟩
  have hlk := (hW.n i _ hin).lk
  unfold PS.taken PS.less
  rw [hcd]
  by_cases hdel : (S.nd i).links - 1 = 0 ∨ (S.nd i).kind = 2
  · rw [if_pos hdel]
    have hl1 : (S.nd i).links = 1 := by
      rcases hdel with h | h
      · omega
      · exact hL.d i _ hin h
    have h0 : (S.cleared d name).namedN i = 0 := by rw [hcn, if_pos rfl, hil, hl1]; rfl
    obtain ⟨dO, dW⟩ := del_wf cO cW (by rw [hci]; exact hi) hi1 h0
    have hdn2 : ∀ x, ((S.cleared d name).put i none).namedN x = S.namedN x - (if x = i then 1 else 0) := fun x => by
      rw [namedN_del (by omega), hcd, empt_of he, hcn]; omega
    refine ⟨dO, dW, ⟨fun j n hj hj1 => ?_, ?_, fun j n hj hk2 => ?_⟩⟩
    · have hji : j ≠ i := fun e => by rw [e, PS.put_same] at hj; cases hj
      rw [PS.put_other _ _ hji] at hj
      obtain ⟨n0, e1, e2, -⟩ := hcL j n hj
      rw [hdn2, if_neg hji, e2, hL.l j n0 e1 hj1]; omega
    · rw [hdn2, hL.r, if_neg (Ne.symm hi1)]; rfl
    · have hji : j ≠ i := fun e => by rw [e, PS.put_same] at hj; cases hj
      rw [PS.put_other _ _ hji] at hj
      obtain ⟨n0, e1, e2, e3⟩ := hcL j n hj
      rw [e2]; exact hL.d j n0 e1 (by rw [← e3]; exact hk2)
  · rw [if_neg hdel]
    have hk1 : (S.nd i).kind = 1 := by
      rcases (hW.n i _ hin).kd with h | h
      · exact h
      · exact absurd (.inr h) hdel
    have hw : NWf (S.cleared d name) { S.nd i with links := (S.nd i).links - 1 } ∧ NOk { S.nd i with links := (S.nd i).links - 1 } := by
      have h := cW.n i (S.nd i) (by rw [hci]; exact hin)
      have h2 := cO.n i (S.nd i) (by rw [hci]; exact hin)
      exact ⟨⟨h.kd, ⟨by show 1 ≤ (S.nd i).links - 1; omega, by show (S.nd i).links - 1 ≤ 100; omega⟩, h.sz, h.md, h.fl, h.dr, h.nm, h.sn, h.nd, h.db⟩, ⟨h2.dk, h2.dl, h2.sl⟩⟩
    obtain ⟨pO, pW⟩ := put_wf cO cW (i := i) (by rw [hci]; exact hi) (fun h => by rw [hcd, hk1] at h; cases h) hw
    have hdn2 : ∀ x, ((S.cleared d name).put i (some { S.nd i with links := (S.nd i).links - 1 })).namedN x = S.namedN x - (if x = i then 1 else 0) := fun x => by
      rw [namedN_put (by omega), hcd, namesOf_same (n := S.nd i) (n' := { S.nd i with links := (S.nd i).links - 1 }) rfl rfl, hcn]; omega
    refine ⟨pO, pW, ⟨fun j n hj hj1 => ?_, ?_, fun j n hj hk2 => ?_⟩⟩
    · by_cases hji : j = i
      · subst hji
        rw [PS.put_same] at hj; cases hj
        rw [hdn2, if_pos rfl, hil]
      · rw [PS.put_other _ _ hji] at hj
        obtain ⟨n0, e1, e2, -⟩ := hcL j n hj
        rw [hdn2, if_neg hji, e2, hL.l j n0 e1 hj1]; omega
    · rw [hdn2, hL.r, if_neg (Ne.symm hi1)]; rfl
    · by_cases hji : j = i
      · subst hji
        rw [PS.put_same] at hj; cases hj
        have h2 : (S.nd j).kind = 2 := hk2
        rw [hk1] at h2; cases h2
      · rw [PS.put_other _ _ hji] at hj
        obtain ⟨n0, e1, e2, e3⟩ := hcL j n hj
        rw [e2]; exact hL.d j n0 e1 (by rw [← e3]; exact hk2)
end Go.Proofs.YteffoihkljkfdaaDoor

/- Directories lie in no ring: plain. -/
namespace Go.Proofs.YteffoihkljkfdaaDoor
set_option linter.unusedSimpArgs false
set_option linter.unusedVariables false
open Go.RowKit

/-- directories lie in no ring -/
def Tree (S : PS) : Prop := ∃ r : Int → Nat, ∀ d n s j, S.nodes d = some n → n.names s = some j → (S.nd j).kind = 2 → r d < r j
/-- all that holds of a state -/
structure Good (S : PS) : Prop where
  o : POk S
  f : PWf S
  l : LW S
  t : Tree S
theorem tree_sub {S S' : PS} (h : Tree S) (hs : ∀ d n s j, S'.nodes d = some n → n.names s = some j → (S'.nd j).kind = 2 → ∃ n0, S.nodes d = some n0 ∧ n0.names s = some j ∧ (S.nd j).kind = 2) : Tree S' := by
  obtain ⟨r, hr⟩ := h
  refine ⟨r, fun d n s j h1 h2 h3 => ?_⟩
  obtain ⟨n0, e1, e2, e3⟩ := hs d n s j h1 h2 h3
  exact hr d n0 s j e1 e2 e3
theorem Good.loop {S : PS} (h : Good S) {d : Int} {n : Nd} {s : ByteArray} {j : Int} (h1 : S.nodes d = some n) (h2 : n.names s = some j) (h3 : (S.nd j).kind = 2) : j ≠ d := by
  obtain ⟨r, hr⟩ := h.t
  intro e
  have := hr d n s j h1 h2 h3
  rw [e] at this
  omega
/-- a node in another's place: of the same kind, naming no more -/
theorem put_tree {S : PS} (h : Tree S) {i : Int} {n n' : Nd} (hi : S.nodes i = some n) (hk : n'.kind = n.kind) (hn : ∀ s j, n'.names s = some j → n.names s = some j) : Tree (S.put i (some n')) := by
  refine tree_sub h fun d m s j h1 h2 h3 => ?_
  have hkj : (S.nd j).kind = 2 := by
    by_cases hj : j = i
    · subst hj
      have e : (S.put j (some n')).nd j = n' := by unfold PS.nd; rw [PS.put_same]; rfl
      rw [e, hk] at h3
      rw [PS.nd_some hi]; exact h3
    · have e : (S.put i (some n')).nd j = S.nd j := by unfold PS.nd; rw [PS.put_other _ _ hj]
      rw [e] at h3; exact h3
  by_cases hd : d = i
  · subst hd
    rw [PS.put_same] at h1; cases h1
    exact ⟨n, hi, hn s j h2, hkj⟩
  · rw [PS.put_other _ _ hd] at h1
    exact ⟨m, h1, h2, hkj⟩
theorem del_tree {S : PS} (h : Tree S) (i : Int) : Tree (S.put i none) := by
  refine tree_sub h fun d m s j h1 h2 h3 => ?_
  have hd : d ≠ i := fun e => by rw [e, PS.put_same] at h1; cases h1
  rw [PS.put_other _ _ hd] at h1
  have hj : j ≠ i := fun e => by
    have e2 : (S.put i none).nd j = Nd.nil := by rw [e]; unfold PS.nd; rw [PS.put_same]; rfl
    rw [e2] at h3; cases h3
  have e : (S.put i none).nd j = S.nd j := by unfold PS.nd; rw [PS.put_other _ _ hj]
  rw [e] at h3
  exact ⟨m, h1, h2, h3⟩
theorem less_tree {S : PS} (h : Tree S) {i : Int} (hi : (S.nodes i).isSome = true) : Tree (S.less i) := by
  unfold PS.less
  split
  · exact del_tree h i
  · exact put_tree h (PS.nd_get hi) rfl (fun _ _ h => h)
theorem taken_good {S : PS} (h : Good S) {d : Int} (hd : (S.nodes d).isSome = true) (hk : (S.nd d).kind = 2) {name : ByteArray} {i : Int} (hn : (S.nd d).names name = some i) (hdi : i ≠ d) (he : Empt (S.nd i)) : Good (S.taken d name i) := by
  obtain ⟨a, b, c⟩ := taken_wf h.o h.f h.l hd hk hn hdi he
  refine ⟨a, b, c, ?_⟩
  have hdn := PS.nd_get hd
  have hi := ((h.f.n d _ hdn).nm name i hn).2.2.2
  have h1 : Tree (S.cleared d name) := put_tree h.t hdn rfl (fun s j hs => by
    have hs' : (if s = name then none else (S.nd d).names s) = some j := hs
    split at hs'
    · cases hs'
    · exact hs')
  exact less_tree h1 (by rw [show (S.cleared d name).nodes i = S.nodes i from PS.put_other _ _ hdi]; exact hi)
/-- a name that is gone, or a link less: unlink, rmdir -/
def PS.unlink (S : PS) (l : List ByteArray) : PS × Int :=
  if (S.entry l).e ≠ 0 then (S, (S.entry l).e) else if (S.nd (S.entry l).i).kind = 2 then (S, 102) else (S.taken (S.entry l).d (S.entry l).name (S.entry l).i, 0)
theorem file_empt {S : PS} (hW : PWf S) {i : Int} (hi : (S.nodes i).isSome = true) (hk : (S.nd i).kind ≠ 2) : Empt (S.nd i) := by
  have h := hW.n i _ (PS.nd_get hi)
  rcases h.kd with h1 | h1
  · exact (h.fl h1).2
  · exact absurd h1 hk
theorem unlink_good {S : PS} (h : Good S) (l : List ByteArray) : Good (S.unlink l).1 := by
  unfold PS.unlink
  split
  · exact h
  · split
    · exact h
    · rename_i h1 h2
      obtain ⟨a1, a2, a3, a4⟩ := entry_ok (S := S) h.f (l := l) (by omega)
      exact taken_good h a1 a2 a3 (fun e => h2 (by rw [e]; exact a2)) (file_empt h.f a4 h2)
/-- does a directory have entries? -/
def Nd.some (n : Nd) : Bool := n.slots.any fun s => decide (0 < s.size)
theorem some_no {S : PS} {n : Nd} (h : NWf S n) (hs : n.some = false) : Empt n := by
  intro s
  cases hq : n.names s with
  | none => rfl
  | some j =>
    obtain ⟨a, -, c, -⟩ := h.nm s j hq
    unfold Nd.some at hs
    rw [List.any_eq_false] at hs
    exact absurd (decide_eq_true c) (hs s a)
def PS.rmdir (S : PS) (l : List ByteArray) : PS × Int :=
  if (S.entry l).e ≠ 0 then (S, (S.entry l).e) else if (S.nd (S.entry l).i).kind ≠ 2 then (S, 113) else if (S.nd (S.entry l).i).some = true then (S, 140) else (S.taken (S.entry l).d (S.entry l).name (S.entry l).i, 0)
theorem rmdir_good {S : PS} (h : Good S) (l : List ByteArray) : Good (S.rmdir l).1 := by
  unfold PS.rmdir
  split
  · exact h
  · split
    · exact h
    · split
      · exact h
      · rename_i h1 h2 h3
        obtain ⟨a1, a2, a3, a4⟩ := entry_ok (S := S) h.f (l := l) (by omega)
        have h2 : (S.nd (S.entry l).i).kind = 2 := by omega
        exact taken_good h a1 a2 a3 (h.loop (PS.nd_get a1) a3 h2) (some_no (h.f.n _ _ (PS.nd_get a4)) (by simpa using h3))
end Go.Proofs.YteffoihkljkfdaaDoor
