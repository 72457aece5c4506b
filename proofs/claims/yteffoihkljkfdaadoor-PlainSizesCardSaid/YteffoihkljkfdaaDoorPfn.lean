/- fine: the walk. -/
import Derived.Test.YteffoihkljkfdaaDoorPfi
namespace Go.Proofs.YteffoihkljkfdaaDoor
set_option linter.unusedSimpArgs false
set_option linter.unusedVariables false
open Go.RowKit Go.Maps

structure OpV where
  kind : Int
  path : ByteArray
  dest : ByteArray
  off : Int
  len : Int
  data : List Int
  made : Int
  pick : Int
def opV (o : OpV) (dv : Value) : Array Value := #[.int .i64 o.kind, .string o.path, .string o.dest, .int .i64 o.off, .int .i64 o.len, dv, .int .i64 o.made, .int .i64 o.pick]
def hasL (k r : Int) : Bool := lets (usesZ k) (usesZ k).size r
/-- may an operation be? -/
def mayZ (o : OpV) : Bool :=
  decide (1 ≤ o.kind ∧ o.kind ≤ 14 ∧ 0 ≤ o.made ∧ o.made ≤ 1099511627776) && (hasL o.kind 112 || o.path.toList == []) && (hasL o.kind 116 || o.dest.toList == []) && (hasL o.kind 111 || o.off == 0) && (hasL o.kind 108 || o.len == 0) && (hasL o.kind 100 || (o.data.length : Int) == 0) && (hasL o.kind 109 || o.made == 0) && (hasL o.kind 102 || o.pick == 0)
theorem rune_look {w : World} {b c : Nat} {f : Int → Bool} (h : MG kRune w b (runeM f) c) (r : Int) (hr : i32ok r) : (Instr.lookup 104 (.map (some b)) (.int .i32 r) false).run Tryd.prog w = .ok (.bool (f r)) w := by
  have h1 := h.lookc (e := 4) Tryd.underlying104 (z := .bool false) (by kernel_rfl) (x := r) hr
  unfold runeM at h1
  cases hf : f r
  · rw [hf] at h1; exact h1
  · rw [hf] at h1; exact h1
theorem may_out {o : OpV} (h : ¬ (1 ≤ o.kind ∧ o.kind ≤ 14 ∧ 0 ≤ o.made ∧ o.made ≤ 1099511627776)) : mayZ o = false := by
  unfold mayZ
  rw [decide_eq_false h]; rfl
theorem pats {k : Int} (h : 1 ≤ k ∧ k ≤ 14) : (hasL k 112 = true ∧ hasL k 116 = false ∧ hasL k 111 = false ∧ hasL k 108 = false ∧ hasL k 100 = false ∧ hasL k 109 = true ∧ hasL k 102 = false) ∨
    (hasL k 112 = true ∧ hasL k 116 = true ∧ hasL k 111 = false ∧ hasL k 108 = false ∧ hasL k 100 = false ∧ hasL k 109 = false ∧ hasL k 102 = false) ∨
    (hasL k 112 = true ∧ hasL k 116 = false ∧ hasL k 111 = false ∧ hasL k 108 = false ∧ hasL k 100 = false ∧ hasL k 109 = false ∧ hasL k 102 = false) ∨
    (hasL k 112 = true ∧ hasL k 116 = false ∧ hasL k 111 = true ∧ hasL k 108 = false ∧ hasL k 100 = true ∧ hasL k 109 = false ∧ hasL k 102 = false) ∨
    (hasL k 112 = true ∧ hasL k 116 = false ∧ hasL k 111 = true ∧ hasL k 108 = false ∧ hasL k 100 = false ∧ hasL k 109 = false ∧ hasL k 102 = false) ∨
    (hasL k 112 = true ∧ hasL k 116 = false ∧ hasL k 111 = true ∧ hasL k 108 = true ∧ hasL k 100 = false ∧ hasL k 109 = false ∧ hasL k 102 = false) ∨
    (hasL k 112 = false ∧ hasL k 116 = false ∧ hasL k 111 = false ∧ hasL k 108 = false ∧ hasL k 100 = false ∧ hasL k 109 = false ∧ hasL k 102 = false) ∨
    (hasL k 112 = false ∧ hasL k 116 = false ∧ hasL k 111 = false ∧ hasL k 108 = false ∧ hasL k 100 = false ∧ hasL k 109 = false ∧ hasL k 102 = true) := by
  have hk : k = 1 ∨ k = 2 ∨ k = 3 ∨ k = 4 ∨ k = 5 ∨ k = 6 ∨ k = 7 ∨ k = 8 ∨ k = 9 ∨ k = 10 ∨ k = 11 ∨ k = 12 ∨ k = 13 ∨ k = 14 := by omega
  clear h
  rcases hk with rfl | rfl | rfl | rfl | rfl | rfl | rfl | rfl | rfl | rfl | rfl | rfl | rfl | rfl <;> decide
theorem ret_boolF {a b : Bool} (h : b = a) : Ending.returned (.bool a) = .returned (.bool b) := by rw [h]
set_option maxHeartbeats 16000000 in
set_option maxRecDepth 100000 in
theorem fine_any {w : World} {o : OpV} {a : Option Addr} {cp : Nat} (hsm : o.data.length ≤ 140737488355328) : Calls Tryd.prog 25 #[.agg (opV o (.slice a o.data.length cp))] w fun e w' => e = .returned (.bool (mayZ o)) ∧ Below w.heap.size w w' := by
  have HQ0 := Lib.hid (@may_out o)
  have HQ1 : Hid (mayZ o = (decide (1 ≤ o.kind ∧ o.kind ≤ 14 ∧ 0 ≤ o.made ∧ o.made ≤ 1099511627776) && (hasL o.kind 112 || o.path.toList == []) && (hasL o.kind 116 || o.dest.toList == []) && (hasL o.kind 111 || o.off == 0) && (hasL o.kind 108 || o.len == 0) && (hasL o.kind 100 || (o.data.length : Int) == 0) && (hasL o.kind 109 || o.made == 0) && (hasL o.kind 102 || o.pick == 0))) := Lib.hid rfl
  generalize hM : mayZ o = M at *
  clear hM
  obtain ⟨kind, path, dest, off, len, data, made, pick⟩ := o
  unfold opV
  simp only at *
  by_cases hin : 1 ≤ kind ∧ kind ≤ 14 ∧ 0 ≤ made ∧ made ≤ 1099511627776
  · obtain ⟨k1, k2, m1, m2⟩ := hin
    have HD : Hid (decide (1 ≤ kind ∧ kind ≤ 14 ∧ 0 ≤ made ∧ made ≤ 1099511627776) = true) := Lib.hid (decide_eq_true ⟨k1, k2, m1, m2⟩)
    have HU := Lib.hid (fun (w : World) => @uses_any w kind ⟨k1, k2⟩)
    have HAS := Lib.hid (usesZ_ascii kind)
    have HHL : Hid (∀ r, hasL kind r = lets (usesZ kind) (usesZ kind).size r) := Lib.hid (fun _ => rfl)
    have HSS : Hid ((usesZ kind).size ≤ 3) := Lib.hid (by
      have : (usesZ kind).data.size ≤ 3 := by
        unfold usesZ
        repeat' split
        all_goals simp
      exact this)
    generalize hs : usesZ kind = s at *
    have HSE := Lib.hid hs
    clear hs
    have hmm := @run_makeMap Tryd.prog
    go_enter Tryd.func25, Tryd.ntmps25
    go_upto_region 4 with fail
    obtain ⟨go, hgo⟩ : ∃ x, x = w.heap.size := ⟨_, rfl⟩
    obtain ⟨w0, hw0⟩ : ∃ x, x = (w.alloc (.cells #[.int .i64 kind, .string path, .string dest, .int .i64 off, .int .i64 len, .slice a data.length cp, .int .i64 made, .int .i64 pick] 40)).alloc (.map #[] 0) := ⟨_, rfl⟩
    have hf0 : Fr [] w w0 := by rw [hw0]; exact (fr_new _ _ []).trans (fr_new _ _ [])
    have ho0 : hat w0 go = some (.cells #[.int .i64 kind, .string path, .string dest, .int .i64 off, .int .i64 len, .slice a data.length cp, .int .i64 made, .int .i64 pick] 40) := by
      rw [hw0, hgo]
      exact (hopA _ _ (hopN w _).1).1
    have hm0 : MG kRune w0 (go + 1) (fun _ => none) 0 := by
      have e2 := MG.made (E := kRune) (w.alloc (.cells #[.int .i64 kind, .string path, .string dest, .int .i64 off, .int .i64 len, .slice a data.length cp, .int .i64 made, .int .i64 pick] 40))
      rw [show (w.alloc (.cells #[.int .i64 kind, .string path, .string dest, .int .i64 off, .int .i64 len, .slice a data.length cp, .int .i64 made, .int .i64 pick] 40)).heap.size = go + 1 by rw [hgo]; simp] at e2
      rw [hw0]; exact e2
    rw [← hw0, ← hgo]
    have HGO := Lib.hid (show go = w.heap.size from hgo)
    have HF0 := Lib.hid hf0
    have HO0 := Lib.hid ho0
    have HM0 := Lib.hid hm0
    have hol := hat_lt ho0
    clear hw0 hgo hmm hf0 hm0
    go_wp2_with fail
    refine (HU.out w0).mono ?_; rintro e w1 ⟨rfl, hb1⟩
    have HF1 := Lib.hid (HF0.out.trans (fr_below hb1 []))
    have HO1 := Lib.hid (hop hb1 HO0.out).1
    have HM1 := Lib.hid (HM0.out.fr (fr_below hb1 []) (by simp))
    clear hb1 HO0 HM0 HF0 ho0 hol
    go_wp2_with fail
    obtain ⟨r, hr⟩ : ∃ x, x = w1.heap.size := ⟨_, rfl⟩
    have hri : hat (w1.iter s 0) r = some (.stringIter s 0) := by rw [hr]; exact World.iter_heap w1 s 0
    rw [← hr] at ⊢
    have HR := Lib.hid (show w.heap.size ≤ r ∧ go < r ∧ go + 1 < r from by
      have h1 := HF1.out.size
      have h2 := hat_lt HO1.out
      have h3 := HM1.out.lt
      omega)
    have HF2 := Lib.hid (HF1.out.trans (fr_new w1 (.stringIter s 0) []))
    have HO2 := Lib.hid (hopA w1 (.stringIter s 0) HO1.out).1
    have HM2 := Lib.hid (HM1.out.fr (fr_new w1 (.stringIter s 0) []) (by simp))
    have HRI := Lib.hid hri
    clear hri hr HF1 HO1 HM1
    go_loopg [5] s.size (fun g _ wx => ∃ i c : Nat, i + g = s.size ∧ c ≤ i ∧ Hid (hat wx r = some (.stringIter s i)) ∧ Hid (MG kRune wx (go + 1) (runeM (lets s i)) c) ∧ Hid (hat wx go = some (.cells #[.int .i64 kind, .string path, .string dest, .int .i64 off, .int .i64 len, .slice a data.length cp, .int .i64 made, .int .i64 pick] 40)) ∧ Hid (Fr [] w wx))
    case atStart => exact ⟨0, 0, by omega, by omega, HRI, HM2, HO2, HF2⟩
    case round =>
      obtain ⟨i, c, hig, hci, HRi, HMi, HOi, HFi⟩ := hrel
      clear HRI HM2 HO2 HF2
      cases gk with
      | succ g =>
        have hi : i < s.size := by omega
        have hnx := fun ty => run_next_hat (P := Tryd.prog) _ r s i ty HRi.out hi
        have h128 := HAS.out i hi
        have hd := decode_ascii s i hi h128
        rw [hd] at hnx
        obtain ⟨x, hx⟩ : ∃ x : UInt8, s[i]'hi = x := ⟨_, rfl⟩
        have hxl : s.data.toList[i]? = some x := by rw [← hx]; exact Lib.data_getElem? s i hi
        rw [hx] at h128 hnx
        have z0 := hat_lt HRi.out
        have hf1 : Fr [r] wr (iterAt wr r s (i + 1)) := ⟨rfl, rfl, rfl, by rw [size_iterAt]; exact Nat.le_refl _, fun b hb hn => by
          show (wr.heap.setIfInBounds r _)[b]? = _
          rw [Array.getElem?_setIfInBounds_ne (by simp at hn; omega)]; rfl⟩
        have hr1 := hat_iterAt wr r s (i + 1) z0
        have hm1 := HMi.out.fr hf1 (by have := HR.out; simp; omega)
        have ho1 := (hf1.block go (hat_lt HOi.out) (by have := HR.out; simp; omega)).trans HOi.out
        generalize iterAt wr r s (i + 1) = w2 at *
        obtain ⟨w3, hr3, hm3, ht3⟩ := hm1.put (t := 104) (e := 4) Tryd.underlying104 (by have := HSS.out; unfold maxLen; omega) (x := (x.toNat : Int)) (show i32ok _ from ⟨by omega, by omega⟩) (.bool true)
        have hr3 : (Instr.mapUpdate 104 (.map (some (go + 1))) (.int .i32 x.toNat) (.bool true)).run Tryd.prog w2 = .ok () w3 := hr3
        have hf3 := fr_turned ht3
        have e1 : (fun y => if y = (x.toNat : Int) then some (Value.bool true) else runeM (lets s i) y) = runeM (lets s (i + 1)) := by
          funext y
          unfold runeM
          rw [lets_succ hxl]
          by_cases hy : y = (x.toNat : Int)
          · subst hy; simp
          · have : ((x.toNat : Int) == y) = false := by simp; exact fun e => hy e.symm
            rw [if_neg hy, this, Bool.or_false]
        rw [e1] at hm3
        have HM3 := Lib.hid hm3
        have HR3 := Lib.hid ((hf3.block r (hat_lt hr1) (by have := HR.out; simp; omega)).trans hr1)
        have HO3 := Lib.hid ((hf3.block go (hat_lt ho1) (by simp)).trans ho1)
        have HF3 := Lib.hid (((HFi.out.mono (ex' := [r, go + 1]) (by simp)).trans ((hf1.mono (by simp)).trans (hf3.mono (by simp)))).past (ex' := []) (fun b hb => .inr (by have h1 := HR.out; have h2 := HGO.out; simp at hb; omega)))
        clear hm3 ht3 hf3 hf1 hr1 hm1 ho1 hx hxl hd e1 z0
        go_wp2_with fail
        go_roundg g
        case measure => omega
        case rel => exact ⟨i + 1, _, by omega, by split <;> omega, HR3, HM3, HO3, HF3⟩
      | zero =>
        obtain rfl : i = s.size := by omega
        have hnx := fun ty => run_next_hat_end (P := Tryd.prog) _ r s s.size ty HRi.out (by omega)
        have l1 := rune_look HMi.out 112 ⟨by omega, by omega⟩
        have l2 := rune_look HMi.out 116 ⟨by omega, by omega⟩
        have l3 := rune_look HMi.out 111 ⟨by omega, by omega⟩
        have l4 := rune_look HMi.out 108 ⟨by omega, by omega⟩
        have l5 := rune_look HMi.out 100 ⟨by omega, by omega⟩
        have l6 := rune_look HMi.out 109 ⟨by omega, by omega⟩
        have l7 := rune_look HMi.out 102 ⟨by omega, by omega⟩
        rw [← HHL.out] at l1 l2 l3 l4 l5 l6 l7
        have hoo := HOi.out
        have hol := hat_lt hoo
        have HPT := Lib.hid (pats (k := kind) ⟨k1, k2⟩)
        generalize hasL kind 112 = b1 at *
        generalize hasL kind 116 = b2 at *
        generalize hasL kind 111 = b3 at *
        generalize hasL kind 108 = b4 at *
        generalize hasL kind 100 = b5 at *
        generalize hasL kind 109 = b6 at *
        generalize hasL kind 102 = b7 at *
        clear HU HAS HHL HSS HSE hsm
        rcases HPT.out with ⟨rfl, rfl, rfl, rfl, rfl, rfl, rfl⟩ | ⟨rfl, rfl, rfl, rfl, rfl, rfl, rfl⟩ | ⟨rfl, rfl, rfl, rfl, rfl, rfl, rfl⟩ | ⟨rfl, rfl, rfl, rfl, rfl, rfl, rfl⟩ | ⟨rfl, rfl, rfl, rfl, rfl, rfl, rfl⟩ | ⟨rfl, rfl, rfl, rfl, rfl, rfl, rfl⟩ | ⟨rfl, rfl, rfl, rfl, rfl, rfl, rfl⟩ | ⟨rfl, rfl, rfl, rfl, rfl, rfl, rfl⟩
        all_goals
          clear HPT
          go_wp2_with fail
          all_goals
            go_ret
            refine ⟨ret_boolF ?_, HFi.out.bl⟩
            rw [HQ1.out, HD.out]
            clear HMi HRi hnx HOi hol HFi
            first | rw [show (path.toList == []) = true from beq_iff_eq.2 ‹path.toList = []›] | rw [show (path.toList == []) = false from beq_eq_false_iff_ne.2 ‹¬ path.toList = []›] | skip
            first | rw [show (dest.toList == []) = true from beq_iff_eq.2 ‹dest.toList = []›] | rw [show (dest.toList == []) = false from beq_eq_false_iff_ne.2 ‹¬ dest.toList = []›] | skip
            first | rw [show (off == 0) = true from beq_iff_eq.2 ‹off = 0›] | rw [show (off == 0) = false from beq_eq_false_iff_ne.2 ‹¬ off = 0›] | skip
            first | rw [show (len == 0) = true from beq_iff_eq.2 ‹len = 0›] | rw [show (len == 0) = false from beq_eq_false_iff_ne.2 ‹¬ len = 0›] | skip
            first | rw [show ((data.length : Int) == 0) = true from by rw [‹data = []›]; rfl] | rw [show ((data.length : Int) == 0) = false from beq_eq_false_iff_ne.2 (fun e => ‹¬ data = []› (List.eq_nil_of_length_eq_zero (by omega)))] | skip
            first | rw [show (made == 0) = true from beq_iff_eq.2 ‹made = 0›] | rw [show (made == 0) = false from beq_eq_false_iff_ne.2 ‹¬ made = 0›] | skip
            first | rw [show (pick == 0) = true from beq_iff_eq.2 ‹pick = 0›] | rw [show (pick == 0) = false from beq_eq_false_iff_ne.2 ‹¬ pick = 0›] | skip
            simp
  · have HE := Lib.hid (HQ0.out hin)
    by_cases k1 : kind < 1
    · clear hin
      go_enter Tryd.func25, Tryd.ntmps25
      go_wp2_with fail
      go_ret
      exact ⟨by rw [HE.out]; rfl, (Below.refl _ _).alloc (Nat.le_refl _) _⟩
    · by_cases k2 : 14 < kind
      · clear hin
        go_enter Tryd.func25, Tryd.ntmps25
        go_wp2_with fail
        go_ret
        exact ⟨by rw [HE.out]; rfl, (Below.refl _ _).alloc (Nat.le_refl _) _⟩
      · by_cases k3 : made < 0
        · clear hin
          go_enter Tryd.func25, Tryd.ntmps25
          go_wp2_with fail
          go_ret
          exact ⟨by rw [HE.out]; rfl, (Below.refl _ _).alloc (Nat.le_refl _) _⟩
        · have k4 : 1099511627776 < made := by omega
          clear hin
          go_enter Tryd.func25, Tryd.ntmps25
          go_wp2_with fail
          go_ret
          exact ⟨by rw [HE.out]; rfl, (Below.refl _ _).alloc (Nat.le_refl _) _⟩
end Go.Proofs.YteffoihkljkfdaaDoor
