/- Contracts and laws that the claim leans on, laid together in the order in which they build. -/
import Derived.Test.YteffoihkljkfdaaDoorShelf
import Derived.Shelf.SlMaps.Clone
import Derived.Test.YteffoihkljkfdaaDoorM02

/- path.Split: the walk. -/
namespace Go.Proofs.YteffoihkljkfdaaDoor
set_option linter.unusedSimpArgs false
set_option linter.unusedVariables false
open Go.RowKit

def slash : ByteArray := { data := #[47] }
/-- the names of a path, as texts -/
def pieces (p : ByteArray) : List ByteArray := Lib.splitB slash 0 (Lib.countB (p.extract 1 p.size) slash) (p.extract 1 p.size)
def formed (p : ByteArray) : Prop := ¬ 400 < (p.size : Int) ∧ Lib.hasPrefix p.data.toList [47] = true
def split2 (p : ByteArray) : Prop := Lib.hasSuffix p.data.toList [47] = false ∧ Lib.contains p.data.toList [47, 47] = false
instance (p : ByteArray) : Decidable (formed p) := by unfold formed; infer_instance
instance (p : ByteArray) : Decidable (split2 p) := by unfold split2; infer_instance
def spl (p : ByteArray) : List ByteArray × Int :=
  if ¬ formed p then ([], 70) else if p.toList = [47] then ([], 0) else if ¬ split2 p then ([], 70) else if ∀ n ∈ pieces p, NameMay n.data.toList then (pieces p, 0) else ([], 71)
theorem spl_form {p : ByteArray} (h : ¬ formed p) : spl p = ([], 70) := by unfold spl; rw [if_pos h]
theorem spl_root {p : ByteArray} (h : formed p) (h2 : p.toList = [47]) : spl p = ([], 0) := by unfold spl; rw [if_neg (by simpa using h), if_pos h2]
theorem spl_form2 {p : ByteArray} (h : formed p) (h2 : p.toList ≠ [47]) (h3 : ¬ split2 p) : spl p = ([], 70) := by unfold spl; rw [if_neg (by simpa using h), if_neg h2, if_pos h3]
theorem spl_yes {p : ByteArray} (h : formed p) (h2 : p.toList ≠ [47]) (h3 : split2 p) (h4 : ∀ n ∈ pieces p, NameMay n.data.toList) : spl p = (pieces p, 0) := by unfold spl; rw [if_neg (by simpa using h), if_neg h2, if_neg (by simpa using h3), if_pos h4]
theorem spl_no {p : ByteArray} (h : formed p) (h2 : p.toList ≠ [47]) (h3 : split2 p) (h4 : ¬ ∀ n ∈ pieces p, NameMay n.data.toList) : spl p = ([], 71) := by unfold spl; rw [if_neg (by simpa using h), if_neg h2, if_neg (by simpa using h3), if_neg h4]

theorem pieces_len (p : ByteArray) : (pieces p).length = Lib.countB (p.extract 1 p.size) slash + 1 := Lib.splitB_all slash (by decide) 0 _ _ rfl
theorem countB_small (p : ByteArray) (h : p.size ≤ 400) : Lib.countB (p.extract 1 p.size) slash ≤ 400 := by
  have := Lib.countB_le slash (by decide) 400 (p.extract 1 p.size) (by simp; omega)
  simp at this
  omega

set_option maxHeartbeats 2000000 in
set_option maxRecDepth 100000 in
theorem split_any (p : ByteArray) (m : Int) (w : World) (hm : w.cell? ⟨0, 0, none⟩ = some (.int .i64 m)) :
    Calls Tryd.prog 26 #[.string p] w fun e w' => ∃ v, e = .returned (.tuple #[v, .int .i64 (spl p).2]) ∧ Strs w' w.heap.size v (spl p).1 ∧ Below w.heap.size w w' := by
  have HM := Lib.hid hm
  clear hm
  cases h1 : decide (400 < (p.size : Int))
  · cases h2 : Lib.hasPrefix p.data.toList [47]
    · have e := spl_form (p := p) (fun h => by rw [h.2] at h2; cases h2)
      go_enter Tryd.func26, Tryd.ntmps26
      go_wp2_with fail
      refine (Tryd.strings_HasPrefix _ _ _).mono ?_; rintro e w' ⟨rfl, hw⟩; rw [hw]
      rw [show ({ data := #[47] } : ByteArray).data.toList = [47] from rfl, h2]
      go_wp2_with fail
      go_ret2
      exact ⟨.slice none 0 0, by rw [e]; rfl, by rw [e]; exact .inl ⟨rfl, rfl⟩, Below.refl _ _⟩
    · have hf : formed p := ⟨by simpa using h1, h2⟩
      have hs400 : p.size ≤ 400 := by have := hf.1; omega
      have hp1 : 1 ≤ p.size := by
        have h := hf.2
        rw [← len_data]
        cases hd : p.data.toList with
        | nil => rw [hd] at h; cases h
        | cons b l => simp
      have HF := Lib.hid hf
      clear hf
      cases h3 : p.toList == [47]
      · have h3' : p.toList ≠ [47] := beq_eq_false_iff_ne.1 h3
        have H3 := Lib.hid h3'
        clear h3'
        cases h4 : Lib.hasSuffix p.data.toList [47]
        · cases h5 : Lib.contains p.data.toList [47, 47]
          · have H45 := Lib.hid (show split2 p from ⟨h4, h5⟩)
            go_enter Tryd.func26, Tryd.ntmps26
            go_wp2_with fail
            refine (Tryd.strings_HasPrefix _ _ _).mono ?_; rintro e w' ⟨rfl, hw⟩; rw [hw]
            rw [show ({ data := #[47] } : ByteArray).data.toList = [47] from rfl, h2]
            go_wp2_with fail
            refine (Tryd.strings_HasSuffix _ _ _ (by omega)).mono ?_; rintro e w' ⟨rfl, hw⟩; rw [hw]
            rw [show ({ data := #[47] } : ByteArray).data.toList = [47] from rfl, h4]
            go_wp2_with fail
            refine (Tryd.strings_Contains _ _ m _ (by omega) HM.out).mono ?_; rintro e w' ⟨rfl, hw⟩; rw [hw]
            rw [show ({ data := #[47, 47] } : ByteArray).data.toList = [47, 47] from rfl, h5]
            go_wp2_with fail
            refine (Tryd.strings_Split _ _ m _ (by simp; omega) HM.out (by decide)).mono ?_; rintro e w' ⟨rfl, hw⟩; rw [hw]
            have hN := pieces_len p
            have hcs : Lib.countB (p.extract 1 p.size) slash + 1 ≤ 401 := by have := countB_small p hs400; omega
            unfold pieces at hN
            rw [show ({ data := #[47] } : ByteArray) = slash from rfl]
            have hpc : Lib.splitB slash 0 (Lib.countB (p.extract 1 p.size) slash) (p.extract 1 p.size) = pieces p := rfl
            rw [hpc] at hN ⊢
            generalize Lib.countB (p.extract 1 p.size) slash + 1 = N at *
            have HN := Lib.hid hN
            have f0 : hat (w.alloc (.cells ((pieces p).map Value.string).toArray 9)) w.heap.size = some (.cells ((pieces p).map Value.string).toArray 9) := by simp [go_sem]
            have hb0 : Below w.heap.size w (w.alloc (.cells ((pieces p).map Value.string).toArray 9)) := (Below.refl _ _).alloc (Nat.le_refl _) _
            generalize w.alloc (.cells ((pieces p).map Value.string).toArray 9) = w1 at *
            clear hw hpc hN
            go_wp2_with fail
            go_loopw [29] (fun i wr => ∃ k : Nat, k ≤ N ∧ i = .int .i64 k ∧ hat wr w.heap.size = some (.cells ((pieces p).map Value.string).toArray 9) ∧ Below w.heap.size w wr ∧ ∀ j, j < k → ∀ n, (pieces p)[j]? = some n → NameMay n.data.toList) (fun i _ => N - (intOf i).toNat)
            case atStart => exact ⟨0, Nat.zero_le _, rfl, f0, hb0, fun j hj => by omega⟩
            case round =>
              clear f0 hb0
              obtain ⟨k, hk, rfl, f0, hb, hok⟩ := hrel
              have HK := Lib.hid hok
              clear hok
              by_cases hkw : k < N
              · obtain ⟨x, hx⟩ := getElem_opt (l := pieces p) (k := k) (by rw [HN.out]; exact hkw)
                have cx : cellOf k (hat wr w.heap.size) = some (.string x) := by rw [← cell?_of_hat, cell_hat f0]; simp [hx]
                have Hx := Lib.hid hx
                have F0 := Lib.hid f0
                clear hx f0
                go_wp2_with fail
                refine (check_any x _).mono ?_; rintro e w2 ⟨rfl, hb2⟩
                have hb := below_call hb hb2 hb.size
                obtain ⟨f0, z0⟩ := hop hb2 F0.out
                clear hb2 cx
                by_cases hn : NameMay x.data.toList
                · rw [chk_yes hn]
                  have HX := Lib.hid hn
                  clear hn
                  go_wp2_with fail
                  go_roundw
                  case rel =>
                    refine ⟨k + 1, by omega, by go_num, f0, hb, fun j hj n hjn => ?_⟩
                    by_cases h : j = k
                    · subst h; rw [Hx.out] at hjn; rw [← Option.some.inj hjn]; exact HX.out
                    · exact HK.out j (by omega) n hjn
                  case measure => (show N - (k + 1) < N - k); omega
                · rw [chk_no hn]
                  have he := spl_no HF.out H3.out H45.out (fun h => hn (h x (List.mem_of_getElem? Hx.out)))
                  have HE := Lib.hid he
                  clear hn he
                  go_wp2_with fail
                  go_ret2
                  exact ⟨.slice none 0 0, by rw [HE.out]; rfl, by rw [HE.out]; exact .inl ⟨rfl, rfl⟩, hb⟩
              · obtain rfl : k = N := by omega
                have he := spl_yes HF.out H3.out H45.out (fun n hn => by
                  obtain ⟨j, hj, rfl⟩ := List.getElem_of_mem hn
                  exact HK.out j (by rw [← HN.out]; exact hj) _ (List.getElem?_eq_getElem hj))
                have HE := Lib.hid he
                clear he
                go_wp2_with fail
                go_ret2
                refine ⟨.slice (some ⟨w.heap.size, 0, none⟩) k k, by rw [HE.out]; rfl, ?_, hb⟩
                rw [HE.out]
                refine .inr ⟨w.heap.size, 0, k, by rw [HN.out], by rw [HN.out]; exact Nat.le_refl _, by rw [HN.out]; omega, Nat.le_refl _, hat_lt f0, fun j x hx => ?_⟩
                rw [Nat.zero_add, cell_hat f0]; simp [hx]
          · have e := spl_form2 HF.out H3.out (fun h => by rw [h.2] at h5; cases h5)
            go_enter Tryd.func26, Tryd.ntmps26
            go_wp2_with fail
            refine (Tryd.strings_HasPrefix _ _ _).mono ?_; rintro e w' ⟨rfl, hw⟩; rw [hw]
            rw [show ({ data := #[47] } : ByteArray).data.toList = [47] from rfl, h2]
            go_wp2_with fail
            refine (Tryd.strings_HasSuffix _ _ _ (by omega)).mono ?_; rintro e w' ⟨rfl, hw⟩; rw [hw]
            rw [show ({ data := #[47] } : ByteArray).data.toList = [47] from rfl, h4]
            go_wp2_with fail
            refine (Tryd.strings_Contains _ _ m _ (by omega) HM.out).mono ?_; rintro e w' ⟨rfl, hw⟩; rw [hw]
            rw [show ({ data := #[47, 47] } : ByteArray).data.toList = [47, 47] from rfl, h5]
            go_wp2_with fail
            go_ret2
            exact ⟨.slice none 0 0, by rw [e]; rfl, by rw [e]; exact .inl ⟨rfl, rfl⟩, Below.refl _ _⟩
        · have e := spl_form2 HF.out H3.out (fun h => by rw [h.1] at h4; cases h4)
          go_enter Tryd.func26, Tryd.ntmps26
          go_wp2_with fail
          refine (Tryd.strings_HasPrefix _ _ _).mono ?_; rintro e w' ⟨rfl, hw⟩; rw [hw]
          rw [show ({ data := #[47] } : ByteArray).data.toList = [47] from rfl, h2]
          go_wp2_with fail
          refine (Tryd.strings_HasSuffix _ _ _ (by omega)).mono ?_; rintro e w' ⟨rfl, hw⟩; rw [hw]
          rw [show ({ data := #[47] } : ByteArray).data.toList = [47] from rfl, h4]
          go_wp2_with fail
          go_ret2
          exact ⟨.slice none 0 0, by rw [e]; rfl, by rw [e]; exact .inl ⟨rfl, rfl⟩, Below.refl _ _⟩
      · have e := spl_root HF.out (beq_iff_eq.1 h3)
        go_enter Tryd.func26, Tryd.ntmps26
        go_wp2_with fail
        refine (Tryd.strings_HasPrefix _ _ _).mono ?_; rintro e w' ⟨rfl, hw⟩; rw [hw]
        rw [show ({ data := #[47] } : ByteArray).data.toList = [47] from rfl, h2]
        go_wp2_with fail
        go_ret2
        exact ⟨.slice none 0 0, by rw [e]; rfl, by rw [e]; exact .inl ⟨rfl, rfl⟩, Below.refl _ _⟩
  · have e := spl_form (p := p) (fun h => h.1 (by simpa using h1))
    go_enter Tryd.func26, Tryd.ntmps26
    go_wp2_with fail
    go_ret2
    exact ⟨.slice none 0 0, by rw [e]; rfl, by rw [e]; exact .inl ⟨rfl, rfl⟩, Below.refl _ _⟩
end Go.Proofs.YteffoihkljkfdaaDoor

/- walk, last: the walks. -/
namespace Go.Proofs.YteffoihkljkfdaaDoor
set_option linter.unusedSimpArgs false
set_option linter.unusedVariables false
open Go.RowKit

theorem look_name_yes {w : World} {a : NA} {n : Nd} (h : NodeAt w a n) {s : ByteArray} {j : Int} (hj : n.names s = some j) : (Instr.lookup 70 a.nv (.string s) true).run Tryd.prog w = .ok (.tuple #[.int .i64 j, .bool true]) w := by
  have hk : kStr.ok s := by
    have h2 := h.m
    rcases h2 with ⟨-, -, h2, -⟩ | ⟨b, -, -, h2⟩
    · have := h2 s
      unfold Nd.namesM at this
      rw [hj] at this; cases this
    · exact h2.okey (x := s) (by unfold Nd.namesM; rw [hj]; rfl)
  have h1 := h.m.look_ok (e := 3) Tryd.underlying70 (z := .int .i64 0) (by kernel_rfl) hk
  unfold Nd.namesM at h1
  rw [hj] at h1
  exact h1
theorem look_name_no {w : World} {a : NA} {n : Nd} (h : NodeAt w a n) {s : ByteArray} (hs : s.size ≤ maxLen) (hj : n.names s = none) : (Instr.lookup 70 a.nv (.string s) true).run Tryd.prog w = .ok (.tuple #[.int .i64 0, .bool false]) w := by
  have h1 := h.m.look_ok (e := 3) Tryd.underlying70 (z := .int .i64 0) (by kernel_rfl) (x := s) hs
  unfold Nd.namesM at h1
  rw [hj] at h1
  exact h1
theorem ret_tup {a b c d : Value} (h1 : a = c) (h2 : b = d) : Ending.returned (.tuple #[a, b]) = .returned (.tuple #[c, d]) := by rw [h1, h2]
set_option maxHeartbeats 8000000 in
set_option maxRecDepth 100000 in
theorem walk_any {w : World} {gp bn c : Nat} {S : PS} {A : Int → NA} {own : Nat → Option (Int × Nat)} (h : PT w gp bn c S A own) (hW : PWf S) {v : Value} {l : List ByteArray} {B : Nat} (hv : Strs w B v l) (hl : ∀ s ∈ l, s.size ≤ 40) :
    Calls Tryd.prog 53 #[.pointer (some ⟨gp, 0, none⟩), v] w fun e w' => e = .returned (.tuple #[.int .i64 (S.walk l 1).1, .int .i64 (S.walk l 1).2]) ∧ w' = w := by
  have H := Lib.hid h
  have hp := h.p
  have hpl := hat_lt hp
  clear h
  rcases hv with ⟨rfl, rfl⟩ | ⟨g, o, cp, rfl, -, hsm, -, hgl, hx⟩
  · go_enter Tryd.func53, Tryd.ntmps53
    go_wp2_with fail
    go_loopw [6, 14] (fun u v wr => u = .int .i64 1 ∧ v = .int .i64 0 ∧ wr = w) (fun _ _ _ => 0)
    case atStart => exact ⟨rfl, rfl, rfl⟩
    case round =>
      obtain ⟨rfl, rfl, rfl⟩ := hrel
      go_wp2_with fail
      go_ret2
      exact ⟨rfl, rfl⟩
  · have HX := Lib.hid hx
    clear hx
    go_enter Tryd.func53, Tryd.ntmps53
    go_wp2_with fail
    go_loopw [6, 14] (fun u v wr => ∃ (k : Nat) (i : Int), u = .int .i64 i ∧ v = .int .i64 k ∧ k ≤ l.length ∧ Hid (S.walk l 1 = S.walk (l.drop k) i) ∧ Hid ((S.nodes i).isSome = true) ∧ wr = w) (fun _ v _ => l.length - (intOf v).toNat)
    case atStart => exact ⟨0, 1, rfl, rfl, by omega, Lib.hid rfl, Lib.hid (root_there hW), rfl⟩
    case round =>
      obtain ⟨k, i, rfl, rfl, hk, HE, HI, rfl⟩ := hrel
      by_cases hlt : k < l.length
      · have hk1 : (k : Int) < (l.length : Int) := by omega
        have hk0 : (0 : Int) ≤ (k : Int) := by omega
        have hn := PS.nd_get HI.out
        have hlk := H.out.look_yes hn
        have HN := Lib.hid (H.out.n i _ hn)
        have hh := HN.out.h
        have hhl := hat_lt hh
        obtain ⟨x, hxk⟩ := getElem_opt hlt
        have hcx := HX.out k x hxk
        rw [cell?_of_hat] at hcx
        have hxm : x ∈ l := List.mem_of_getElem? hxk
        have hd : l.drop k = x :: l.drop (k + 1) := by
          rw [List.drop_eq_getElem_cons hlt]
          rw [List.getElem?_eq_getElem hlt] at hxk
          rw [Option.some.inj hxk]
        have hxs := hl x hxm
        by_cases hkd : (S.nd i).kind = 2
        · cases hnm : (S.nd i).names x with
          | none =>
            have hln := look_name_no HN.out (s := x) (by unfold maxLen; omega) hnm
            have HR : Hid (S.walk l 1 = (0, 110)) := Lib.hid (by
              rw [HE.out, hd]
              unfold PS.walk
              rw [if_neg (by simp [hkd]), hnm])
            rw [hkd] at hh
            clear hn hxk hd hnm
            go_wp2_with fail
            go_ret2
            rw [HR.out]
            exact ⟨rfl, rfl⟩
          | some j =>
            have hln := look_name_yes HN.out hnm
            have HR : Hid (S.walk l 1 = S.walk (l.drop (k + 1)) j) := Lib.hid (by
              rw [HE.out, hd]
              rw [PS.walk, if_neg (by simp [hkd]), hnm])
            have HJ : Hid ((S.nodes j).isSome = true) := Lib.hid ((hW.n i _ hn).nm x j hnm).2.2.2
            rw [hkd] at hh
            clear hn hxk hd hnm
            go_wp2_with fail
            go_roundw
            case rel => exact ⟨k + 1, j, rfl, by go_num, by omega, HR, HJ, by trivial⟩
            case measure => (show l.length - (k + 1) < l.length - k); omega
        · have HR : Hid (S.walk l 1 = (0, 113)) := Lib.hid (by
            rw [HE.out, hd]
            unfold PS.walk
            rw [if_pos hkd])
          clear hn hxk hd
          go_wp2_with fail
          go_ret2
          rw [HR.out]
          exact ⟨rfl, rfl⟩
      · obtain rfl : k = l.length := by omega
        have HR : Hid (S.walk l 1 = (i, 0)) := Lib.hid (by rw [HE.out, List.drop_length]; rfl)
        go_wp2_with fail
        go_ret2
        rw [HR.out]
        exact ⟨rfl, rfl⟩
end Go.Proofs.YteffoihkljkfdaaDoor

/- last: the walk. -/
namespace Go.Proofs.YteffoihkljkfdaaDoor
set_option linter.unusedSimpArgs false
set_option linter.unusedVariables false
open Go.RowKit

theorem walk_node {S : PS} (hS : PWf S) (l : List ByteArray) (h : (S.walk l 1).2 = 0) : S.nodes (S.walk l 1).1 = some (S.nd (S.walk l 1).1) := PS.nd_get (walk_there hS l 1 (root_there hS) h)
set_option maxHeartbeats 8000000 in
set_option maxRecDepth 100000 in
theorem last_any {w : World} {gp bn c : Nat} {S : PS} {A : Int → NA} {own : Nat → Option (Int × Nat)} (h : PT w gp bn c S A own) (hW : PWf S) {v : Value} {l : List ByteArray} {B : Nat} (hv : Strs w B v l) (hl : ∀ s ∈ l, s.size ≤ 40) :
    Calls Tryd.prog 61 #[.pointer (some ⟨gp, 0, none⟩), v] w fun e w' => e = .returned (.tuple #[.int .i64 (S.last l).d, .string (S.last l).name, .int .i64 (S.last l).e]) ∧ Below w.heap.size w w' := by
  have H := Lib.hid h
  have hp := h.p
  have hpl := hat_lt hp
  clear h
  by_cases h0 : l = []
  · subst h0
    obtain ⟨a, cp, rfl⟩ := hv.len
    clear hv
    go_enter Tryd.func61, Tryd.ntmps61
    go_wp2_with fail
    go_ret3
    exact ⟨rfl, Below.refl _ _⟩
  · have HL0 := Lib.hid h0
    rcases hv with ⟨-, rfl⟩ | ⟨g, o, cp, rfl, hcp, hsm, -, hgl, hx⟩
    · exact absurd rfl h0
    · have HX := Lib.hid hx
      obtain ⟨k, hk⟩ : ∃ k, l.length = k + 1 := ⟨l.length - 1, by have : l.length ≠ 0 := fun e => h0 (List.eq_nil_of_length_eq_zero e); omega⟩
      have HK := Lib.hid hk
      have HCP := Lib.hid hcp
      have hkc : (k : Int) ≤ (cp : Int) := by omega
      have hkc2 : (k : Int) + 1 ≤ (cp : Int) := by omega
      have hkb : (k : Int) ≤ 140737488355328 := by omega
      have hk0 : (0 : Int) ≤ (k : Int) := by omega
      have hne : ¬ ((k : Int) + 1 = 0) := by omega
      have hdr : Strs w 0 (.slice (some ⟨g, o, none⟩) k cp) l.dropLast := .inr ⟨g, o, cp, by rw [List.length_dropLast, hk]; rfl, by rw [List.length_dropLast, hk]; omega, by rw [List.length_dropLast]; omega, Nat.zero_le _, hgl, fun j x hj => by
        rw [List.dropLast_eq_take, List.getElem?_take] at hj
        split at hj
        · exact hx j x hj
        · cases hj⟩
      have HDR := Lib.hid hdr
      obtain ⟨s, hs⟩ := getElem_opt (l := l) (k := k) (by omega)
      have HSN : Hid (l.getLastD emp = s) := Lib.hid (by
        rw [List.getLastD_eq_getLast?, List.getLast?_eq_getElem?, hk, show k + 1 - 1 = k from rfl, hs]; rfl)
      have hcs := hx k s hs
      rw [cell?_of_hat] at hcs
      have hlen : ((l.length : Nat) : Int) = (k : Int) + 1 := by omega
      rw [hk]
      clear h0 hx hk hcp hs hdr hlen
      go_enter Tryd.func61, Tryd.ntmps61
      go_wp2_with fail
      refine (walk_any H.out hW HDR.out (fun x hx => hl x (List.dropLast_subset _ hx))).mono ?_; rintro e w1 ⟨rfl, rfl⟩
      have HWC := Lib.hid (walk_code S l.dropLast 1)
      have HWT := Lib.hid (fun h => walk_there hW l.dropLast 1 (root_there hW) h)
      have HLA : Hid (S.last l = ⟨(S.walk l.dropLast 1).1, s, if (S.walk l.dropLast 1).2 = 0 ∧ (S.nd (S.walk l.dropLast 1).1).kind ≠ 2 then 113 else (S.walk l.dropLast 1).2⟩) := Lib.hid (by
        unfold PS.last
        rw [if_neg HL0.out, HSN.out])
      generalize S.walk l.dropLast 1 = r at *
      obtain ⟨i, e⟩ := r
      rcases HWC.out.1 with he | he | he
      · simp only at he
        subst he
        have hn := PS.nd_get (HWT.out rfl)
        have hlk := H.out.look_yes hn
        have HN := Lib.hid (H.out.n i _ hn)
        have hh := HN.out.h
        have hhl := hat_lt hh
        by_cases hkd : (S.nd i).kind = 2
        · have HQ : Hid (S.last l = ⟨i, s, 0⟩) := Lib.hid (by rw [HLA.out, if_neg (by simp [hkd])])
          rw [hkd] at hh
          clear hn
          go_wp2_with fail
          have hw1 : IntKind.i64.wrap ((k : Int) + 1 - 1) = k := by rw [Int.add_sub_cancel]; exact IntWalk.i64_in _ ⟨by omega, by omega⟩
          have hw2 : IntKind.i64.wrap (k : Int) = k := IntWalk.i64_in _ ⟨by omega, by omega⟩
          have hw3 : (k : Int) < (k : Int) + 1 := by omega
          have hw4 : (k : Int) < ((k + 1 : Nat) : Int) := by omega
          go_region_held3 (fun w' => cellOf (o + k) (hat w' g) = some (.string s)) (first | assumption | fail) (first | fail | fail)
          go_wp2_with fail
          go_ret3
          rw [HQ.out]
          exact ⟨rfl, (fr_drew (Fr.refl [] _)).bl⟩
        · have HQ : Hid (S.last l = ⟨i, s, 113⟩) := Lib.hid (by rw [HLA.out, if_pos ⟨rfl, hkd⟩])
          clear hn
          go_wp2_with fail
          have hw1 : IntKind.i64.wrap ((k : Int) + 1 - 1) = k := by rw [Int.add_sub_cancel]; exact IntWalk.i64_in _ ⟨by omega, by omega⟩
          have hw2 : IntKind.i64.wrap (k : Int) = k := IntWalk.i64_in _ ⟨by omega, by omega⟩
          have hw3 : (k : Int) < (k : Int) + 1 := by omega
          have hw4 : (k : Int) < ((k + 1 : Nat) : Int) := by omega
          go_region_held3 (fun w' => cellOf (o + k) (hat w' g) = some (.string s)) (first | assumption | fail) (first | fail | fail)
          go_wp2_with fail
          go_ret3
          rw [HQ.out]
          exact ⟨rfl, (fr_drew (Fr.refl [] _)).bl⟩
      · simp only at he
        subst he
        have HQ : Hid (S.last l = ⟨i, s, 110⟩) := Lib.hid (by rw [HLA.out, if_neg (by simp)])
        go_wp2_with fail
        have hw1 : IntKind.i64.wrap ((k : Int) + 1 - 1) = k := by rw [Int.add_sub_cancel]; exact IntWalk.i64_in _ ⟨by omega, by omega⟩
        have hw2 : IntKind.i64.wrap (k : Int) = k := IntWalk.i64_in _ ⟨by omega, by omega⟩
        have hw3 : (k : Int) < (k : Int) + 1 := by omega
        have hw4 : (k : Int) < ((k + 1 : Nat) : Int) := by omega
        go_region_held3 (fun w' => cellOf (o + k) (hat w' g) = some (.string s)) (first | assumption | fail) (first | fail | fail)
        go_wp2_with fail
        go_ret3
        rw [HQ.out]
        exact ⟨rfl, (fr_drew (Fr.refl [] _)).bl⟩
      · simp only at he
        subst he
        have HQ : Hid (S.last l = ⟨i, s, 113⟩) := Lib.hid (by rw [HLA.out, if_neg (by simp)])
        go_wp2_with fail
        have hw1 : IntKind.i64.wrap ((k : Int) + 1 - 1) = k := by rw [Int.add_sub_cancel]; exact IntWalk.i64_in _ ⟨by omega, by omega⟩
        have hw2 : IntKind.i64.wrap (k : Int) = k := IntWalk.i64_in _ ⟨by omega, by omega⟩
        have hw3 : (k : Int) < (k : Int) + 1 := by omega
        have hw4 : (k : Int) < ((k + 1 : Nat) : Int) := by omega
        go_region_held3 (fun w' => cellOf (o + k) (hat w' g) = some (.string s)) (first | assumption | fail) (first | fail | fail)
        go_wp2_with fail
        go_ret3
        rw [HQ.out]
        exact ⟨rfl, (fr_drew (Fr.refl [] _)).bl⟩
end Go.Proofs.YteffoihkljkfdaaDoor

/- Lists of texts: Index, Clone, one more; place: the walk. -/
namespace Go.Proofs.YteffoihkljkfdaaDoor
set_option linter.unusedSimpArgs false
set_option linter.unusedVariables false
open Go.RowKit

def strC (l : List ByteArray) (i : Nat) : Value := .string (l.getD i (ByteArray.mk #[]))
theorem info_str : ∃ i0, Tryd.prog.info? 9 = some i0 ∧ i0.zero = some (.string (ByteArray.mk #[])) ∧ i0.size = 1 ∧ i0.bytes = 16 := by
  have h : (Tryd.prog.info? 9).map (fun i => (i.zero, i.size, i.bytes)) = some (some (.string (ByteArray.mk #[])), 1, 16) := by kernel_rfl
  cases hq : Tryd.prog.info? 9 with
  | none => rw [hq] at h; cases h
  | some inf =>
    rw [hq] at h
    simp at h
    exact ⟨inf, rfl, h.1, h.2.1, h.2.2⟩
theorem getD_emp (l : List ByteArray) (j : Nat) : l.getD j ByteArray.empty = l.getD j (ByteArray.mk #[]) := rfl
theorem idx_g {w : World} {v : Value} {ob : Option Nat} {l : List ByteArray} (h : GRow 9 1 w v ob l.length (strC l)) (hl : l.length ≤ 5000) (x : ByteArray) : Calls Tryd.prog 70 #[v, .string x] w fun e w' => e = .returned (.int .i64 (Lib.idxOfS l x)) ∧ w' = w := by
  rcases h with ⟨rfl, -, h0⟩ | ⟨g, off, c, cs, rfl, -, hg, h1, h2, h3⟩
  · have : l = [] := List.eq_nil_of_length_eq_zero h0
    subst this
    exact Tryd.slices_Index_string_empty none 0 x w
  · have h4 := Tryd.slices_Index_string g off l.length c l x w (Nat.le_refl _) (by omega) (fun j hj => by
      rw [cell_hat hg, h3 j (by omega)]; rfl)
    rw [List.take_length] at h4
    exact h4
theorem clone_g {w : World} {v : Value} {ob : Option Nat} {l : List ByteArray} (h : GRow 9 1 w v ob l.length (strC l)) (hl : l.length ≤ 5000) : Calls Tryd.prog 40 #[v] w fun e w' => ∃ v' ob', e = .returned v' ∧ GRow 9 1 w' v' ob' l.length (strC l) ∧ (∀ g, ob' = some g → w.heap.size ≤ g) ∧ Below w.heap.size w w' := by
  rcases h with ⟨rfl, -, h0⟩ | ⟨g, off, c, cs, rfl, -, hg, h1, h2, h3⟩
  · refine (Tryd.slices_Clone_string_nil 0 0 w).mono ?_
    rintro e w' ⟨rfl, rfl⟩
    exact ⟨_, none, rfl, .inl ⟨rfl, rfl, h0⟩, fun g hg => (nomatch hg), Below.refl _ _⟩
  · refine (Tryd.slices_Clone_string g off l.length c l w (Nat.le_refl _) (by omega) (fun j hj => by
      rw [cell_hat hg, h3 j (by omega)]; rfl)).mono ?_
    rintro e w' ⟨v', rfl, ⟨hxl, ho⟩, -, hb⟩
    rcases ho with ⟨rfl, h0⟩ | ⟨g', cap, cur, rfl, hge, hh, hc1, hc2, hcs, htk⟩
    · exact ⟨_, none, rfl, .inl ⟨rfl, rfl, h0⟩, fun g hg => (nomatch hg), hb⟩
    · refine ⟨_, some g', rfl, .inr ⟨g', 0, cap, cur, rfl, rfl, hh, by omega, by omega, fun k hk => ?_⟩, fun g hg => by cases hg; exact hge, hb⟩
      rw [Nat.zero_add, ← Array.getElem?_toList]
      have e1 : cur.toList[k]? = (cur.toList.take (l.length * 1))[k]? := by rw [List.getElem?_take, if_pos hk]
      rw [e1, htk, List.take_length, List.getElem?_map]
      have hk' : k < l.length := by omega
      rw [List.getElem?_eq_getElem hk']
      unfold strC
      rw [List.getD_eq_getElem?_getD, List.getElem?_eq_getElem hk']; rfl
/-- one text more -/
theorem push_g {w : World} {v : Value} {ob : Option Nat} {l : List ByteArray} (h : GRow 9 1 w v ob l.length (strC l)) (hl : l.length ≤ 5000) (s : ByteArray) (ty : TypeId) :
    ∃ a c w2 ob', (Builtin.append_ #[72, 72] ty #[v, .slice (some ⟨w.heap.size, 0, none⟩) 1 1]).run Tryd.prog (w.alloc (.cells #[.string s] 9)) = .ok (.slice a (l.length + 1) c) w2 ∧
      GRow 9 1 w2 (.slice a (l.length + 1) c) ob' (l ++ [s]).length (strC (l ++ [s])) ∧ Fr ob.toList w w2 ∧ (ob' = ob ∨ ∃ g, ob' = some g ∧ w.heap.size ≤ g) := by
  obtain ⟨inf, hi, hz, his, hib⟩ := info_str
  have hf1 := fr_new w (.cells #[.string s] 9) []
  have hb : GRow 9 1 (w.alloc (.cells #[.string s] 9)) (.slice (some ⟨w.heap.size, 0, none⟩) 1 1) (some w.heap.size) 1 (fun _ => .string s) := .inr ⟨w.heap.size, 0, 1, #[.string s], rfl, rfl, (hopN w _).1, by simp, by simp, fun q hq => by
    obtain rfl : q = 0 := by omega
    rfl⟩
  obtain ⟨news, hs, hnw⟩ := hb.src (P := Tryd.prog) Tryd.underlying72 (fun q hq => rfl)
  obtain ⟨v', w2, om', hr, hg, hgr⟩ := run_append_g (P := Tryd.prog) (ST := 72) (sz := 1) Tryd.underlying72 hi hz rfl his hib (h.fr hf1 (by simp)) hs hnw (by omega) (by omega) ty
  obtain ⟨a, c, rfl⟩ := hg.slice
  refine ⟨a, c, w2, om', hr, ?_, (hf1.mono (by simp)).trans hgr.fr, hgr.ob.imp id (fun ⟨g, h1, h2⟩ => ⟨g, h1, Nat.le_trans hf1.size h2⟩)⟩
  rw [List.length_append]
  refine hg.congr fun q hq => ?_
  unfold catF strC
  rw [Nat.mul_one]
  simp only [List.getD_eq_getElem?_getD]
  by_cases hql : q < l.length
  · rw [if_pos hql, List.getElem?_append_left hql]
  · rw [if_neg hql]
    obtain rfl : q = l.length := by simp at hq; omega
    simp
theorem cell_strC (n : Nd) : n.cell = strC n.slots := rfl
end Go.Proofs.YteffoihkljkfdaaDoor

/- place: the walk. -/
namespace Go.Proofs.YteffoihkljkfdaaDoor
set_option linter.unusedSimpArgs false
set_option linter.unusedVariables false
open Go.RowKit

theorem more_ok {n : Nd} (h : n.slots.length < 1068) : NOk (moreN n) := ⟨fun k h => (nomatch h), fun k s h => (nomatch h), by show (n.slots ++ [emp]).length ≤ 1068; simp; omega⟩
set_option maxHeartbeats 8000000 in
set_option maxRecDepth 100000 in
theorem place_any {w : World} {gp bn c : Nat} {S : PS} {A : Int → NA} {own : Nat → Option (Int × Nat)} (h : PT w gp bn c S A own) (hS : POk S) {a : NA} {n : Nd} (hn : NodeAt w a n) (hk : NOk n) :
    Calls Tryd.prog 63 #[.pointer (some ⟨gp, 0, none⟩), .pointer (some ⟨a.g, 0, none⟩)] w fun e w' => e = .returned (.tuple #[.int .i64 (S.place n).1, .int .i64 (S.place n).2]) ∧ Below w.heap.size w w' := by
  have H := Lib.hid h
  have HN := Lib.hid hn
  have hh := hn.h
  have hhl := hat_lt hh
  obtain ⟨sa, sc, hsv⟩ := hn.s.slice
  have hix := idx_g (show GRow 9 1 w a.sv a.sb n.slots.length (strC n.slots) from hn.s) (by have := hk.sl; omega) emp
  have hcl := clone_g (show GRow 9 1 w a.sv a.sb n.slots.length (strC n.slots) from hn.s) (by have := hk.sl; omega)
  rw [hsv] at hix hcl hh
  have HIX := Lib.hid hix
  have HCL := Lib.hid hcl
  have HSV := Lib.hid hsv
  have hsm := hk.sl
  clear h hn hix hcl hsv
  go_enter Tryd.func63, Tryd.ntmps63
  go_wp2_with fail
  refine HIX.out.mono ?_; rintro e w1 ⟨rfl, rfl⟩
  have HPL : Hid (S.place n = if 0 ≤ Lib.idxOfS n.slots emp then (Lib.idxOfS n.slots emp, 0) else if n.slots.length = 1068 then (0, 112) else if S.free < (moreN n).count - n.count then (0, 80) else (n.slots.length, 0)) := Lib.hid rfl
  generalize Lib.idxOfS n.slots emp = k at *
  by_cases hk0 : 0 ≤ k
  · have HQ : Hid (S.place n = (k, 0)) := Lib.hid (by rw [HPL.out, if_pos hk0])
    go_wp2_with fail
    go_ret2
    rw [HQ.out]
    exact ⟨rfl, Below.refl _ _⟩
  · by_cases hlen : n.slots.length = 1068
    · have HQ : Hid (S.place n = (0, 112)) := Lib.hid (by rw [HPL.out, if_neg hk0, if_pos hlen])
      have hlz : ((n.slots.length : Nat) : Int) = 1068 := by omega
      go_wp2_with fail
      go_ret2
      rw [HQ.out]
      exact ⟨rfl, Below.refl _ _⟩
    · have hlz : ¬ ((n.slots.length : Nat) : Int) = 1068 := by omega
      have HL := Lib.hid hlen
      have hk1 : k < 0 := by omega
      go_wp2_with fail
      refine HCL.out.mono ?_; rintro e w2 ⟨v2, ob2, rfl, hg2, hge2, hb2⟩
      have HB2 := Lib.hid hb2
      obtain ⟨a3, c3, w3, ob3, hr3, hg3, hf3, ho3⟩ := push_g hg2 (by omega) emp 72
      have HG3 := Lib.hid hg3
      have HF3 := Lib.hid (((fr_below hb2 []).mono (ex' := ob2.toList) (by simp)).trans hf3 |>.past (ex' := []) (fun g hg => .inr (by
        simp at hg
        exact hge2 g hg)))
      have HR3 := Lib.hid hr3
      clear hg2 hge2 hb2 hg3 hf3 ho3 hr3
      go_wp2_with (first | (at_builtin; refine wpList_append_run _ rfl _ _ 72 rfl _ _ rfl rfl _ _ HR3.out ?_) | fail)
      have HF4 := Lib.hid (HF3.out.trans (fr_new w3 (.cells #[.int .i64 0, .int .i64 0, .int .i64 0, .int .i64 0, .map none, .slice a3 (n.slots.length + 1) c3, .map none] 74) []))
      have HM := Lib.hid (show NodeAt (w3.alloc (.cells #[.int .i64 0, .int .i64 0, .int .i64 0, .int .i64 0, .map none, .slice a3 (n.slots.length + 1) c3, .map none] 74)) ⟨w3.heap.size, none, none, ob3, .map none, .map none, .slice a3 (n.slots.length + 1) c3, 0, 0⟩ (moreN n) from
        ⟨(hopN w3 _).1, .inl ⟨rfl, rfl, fun _ => rfl, rfl⟩, HG3.out.fr (fr_new w3 _ []) (by simp), .inl ⟨rfl, rfl, fun _ => rfl, rfl⟩⟩)
      have HMO := Lib.hid (more_ok (n := n) (by have := HL.out; omega))
      generalize hgm : w3.heap.size = gm at *
      generalize w3.alloc (.cells #[.int .i64 0, .int .i64 0, .int .i64 0, .int .i64 0, .map none, .slice a3 (n.slots.length + 1) c3, .map none] 74) = w4 at *
      refine (fits_any (H.out.fr HF4.out (by simp)) hS (HN.out.fr HF4.out (by simp) (by simp) (by simp) (by simp)) hk HM.out HMO.out).mono ?_; rintro e w5 ⟨rfl, hb5⟩
      have HF5 := Lib.hid (HF4.out.trans (fr_below hb5 []))
      have hh5 := (HF5.out.block _ (hat_lt hh) (by simp)).trans hh
      have hhl5 := hat_lt hh5
      clear hb5 hgm hh hhl
      have hk2 : ¬ 0 ≤ k := by omega
      cases hft : decide ((moreN n).count - n.count ≤ S.free)
      · have HQ : Hid (S.place n = (0, 80)) := Lib.hid (by rw [HPL.out, if_neg hk2, if_neg HL.out, if_pos (by have := of_decide_eq_false hft; omega)])
        clear hft
        go_wp2_with fail
        go_ret2
        rw [HQ.out]
        exact ⟨rfl, HF5.out.bl⟩
      · have HQ : Hid (S.place n = ((n.slots.length : Int), 0)) := Lib.hid (by rw [HPL.out, if_neg hk2, if_neg HL.out, if_neg (by have := of_decide_eq_true hft; omega)])
        clear hft
        go_wp2_with fail
        go_ret2
        rw [HQ.out]
        exact ⟨rfl, HF5.out.bl⟩
end Go.Proofs.YteffoihkljkfdaaDoor

/- set: the walk. -/
namespace Go.Proofs.YteffoihkljkfdaaDoor
set_option linter.unusedSimpArgs false
set_option linter.unusedVariables false
open Go.RowKit

theorem nodup_le {α : Type} [DecidableEq α] : ∀ {l m : List α}, l.Nodup → (∀ x ∈ l, x ∈ m) → l.length ≤ m.length
  | [], m, _, _ => Nat.zero_le _
  | x :: l, m, hd, hs => by
    obtain ⟨h1, h2⟩ := List.nodup_cons.1 hd
    have hx := hs x (.head _)
    have h3 := nodup_le (l := l) (m := m.erase x) h2 (fun y hy => (List.mem_erase_of_ne (fun e => h1 (by rw [← e]; exact hy))).2 (hs y (.tail _ hy)))
    rw [List.length_erase_of_mem hx] at h3
    have : 0 < m.length := List.length_pos_of_mem hx
    rw [List.length_cons]
    omega
theorem names_few {w : World} {a : NA} {n : Nd} (h : NodeAt w a n) (hs : ∀ s j, n.names s = some j → s ∈ n.slots) : a.nc ≤ n.slots.length := by
  rcases h.m with ⟨-, -, -, h2⟩ | ⟨b, -, -, h2⟩
  · rw [h2]; exact Nat.zero_le _
  · obtain ⟨l, h3, h4, h5⟩ := h2.keys
    rw [← h4]
    refine nodup_le h3 fun x hx => ?_
    have := (h5 x).1 hx
    unfold Nd.namesM at this
    cases hq : n.names x with
    | none => rw [hq] at this; cases this
    | some j => exact hs x j hq
theorem GRow.setc {T : TypeId} {w : World} {g off N c : Nat} {ob : Option Nat} {f : Nat → Value} (h : GRow T 1 w (.slice (some ⟨g, off, none⟩) N c) ob N f) {k : Nat} (hk : k < N) (v : Value) :
    GRow T 1 (w.setCell ⟨g, off + k, none⟩ v) (.slice (some ⟨g, off, none⟩) N c) ob N (fun j => if j = k then v else f j) := by
  rcases h with ⟨h, -⟩ | ⟨g', off', c', cs, e, h2, h3, h4, h5, h6⟩
  · cases h
  · injection e with e1 e2 e3
    injection e1 with e1
    injection e1 with p1 p2
    subst p1 p2 e3
    refine .inr ⟨g, off, c, _, rfl, h2, hat_setCell_at w g (off + k) v cs T (0, 0) h3, by simpa using h4, by simpa using h5, fun j hj => ?_⟩
    rw [Array.getElem?_setIfInBounds]
    show _ = some (if j = k then v else f j)
    by_cases hjk : j = k
    · subst hjk
      rw [if_pos rfl, if_pos rfl, if_pos (by omega)]
    · rw [if_neg (by omega), if_neg hjk]
      exact h6 j hj
theorem GRow.at {T : TypeId} {w : World} {v : Value} {ob : Option Nat} {N : Nat} {f : Nat → Value} (h : GRow T 1 w v ob N f) (hN : 0 < N) : ∃ g off c cs, v = .slice (some ⟨g, off, none⟩) N c ∧ ob = some g ∧ hat w g = some (.cells cs T) ∧ off + N ≤ cs.size := by
  rcases h with ⟨-, -, h⟩ | ⟨g, off, c, cs, h1, h2, h3, h4, h5, h6⟩
  · omega
  · exact ⟨g, off, c, cs, h1, h2, h3, by omega⟩
theorem setN_app (n : Nd) (name : ByteArray) (i : Int) : n.set n.slots.length name i = { n with slots := n.slots ++ [name], size := (n.slots.length + 1) * 128, names := n.ins name i } := by unfold Nd.set; rw [if_pos rfl]
theorem setN_at (n : Nd) {j : Nat} (hj : j < n.slots.length) (name : ByteArray) (i : Int) : n.set j name i = { n with slots := n.slots.set j name, names := n.ins name i } := by
  unfold Nd.set
  rw [if_neg (by omega)]
  rfl
theorem ins_map (n : Nd) (name : ByteArray) (i : Int) : (fun y => if y = name then some (.int .i64 i) else n.namesM y) = fun s => ((n.ins name i) s).map (Value.int .i64) := by
  funext s
  unfold Nd.ins Nd.namesM
  split <;> rfl
theorem strC_set (l : List ByteArray) (k : Nat) (s : ByteArray) (hk : k < l.length) : ∀ j, j < l.length * 1 → (fun j => if j = k then Value.string s else strC l j) j = strC (l.set k s) j := fun j hj => by
  unfold strC
  simp only [List.getD_eq_getElem?_getD, List.getElem?_set]
  by_cases h : j = k
  · subst h
    simp [hk]
  · rw [if_neg h, if_neg (Ne.symm h)]
theorem app_set (l : List ByteArray) (s : ByteArray) : (l ++ [emp]).set l.length s = l ++ [s] := by
  rw [List.set_append]
  simp
theorem set_tail {w w3 : World} {a : NA} {n : Nd} {nb : Nat} {sz : Int} {v3 : Value} {ob3 : Option Nat} {l3 : List ByteArray} {k3 : Nat} {name : ByteArray} {i : Int}
    (hh3 : hat w3 a.g = some (.cells #[.int .i64 n.kind, .int .i64 n.links, .int .i64 sz, .int .i64 n.made, a.dv, v3, .map (some nb)] 74)) (hG3 : GRow 9 1 w3 v3 ob3 l3.length (strC l3)) (hk3 : k3 < l3.length)
    (hf3 : Fr (a.g :: nb :: a.sb.toList) w w3) (hob : ob3 = a.sb ∨ ∃ g, ob3 = some g ∧ w.heap.size ≤ g) (hM3 : MG kStr w3 nb n.namesM a.nc) (hD3 : MO kInt w3 a.dv a.db n.dataM a.dc) (hnc : a.nc ≤ 1068) (hnb : a.nb = some nb)
    (hne : nb ≠ a.g) (hsb : ∀ b, a.sb = some b → b ≠ a.g ∧ b ≠ nb) (hdb : ∀ b, a.db = some b → b ≠ a.g ∧ b ≠ nb ∧ ∀ b', a.sb = some b' → b ≠ b') (hlt : a.g < w.heap.size ∧ nb < w.heap.size ∧ ∀ b, a.db = some b → b < w.heap.size) (hkn : kStr.ok name) :
    ∃ g3 o3 c3 cs3 w5, v3 = .slice (some ⟨g3, o3, none⟩) l3.length c3 ∧ hat w3 g3 = some (.cells cs3 9) ∧ o3 + l3.length ≤ cs3.size ∧ g3 ≠ a.g ∧
      hat (w3.setCell ⟨g3, o3 + k3, none⟩ (.string name)) a.g = some (.cells #[.int .i64 n.kind, .int .i64 n.links, .int .i64 sz, .int .i64 n.made, a.dv, v3, .map (some nb)] 74) ∧
      (Instr.mapUpdate 70 (.map (some nb)) (.string name) (.int .i64 i)).run Tryd.prog (w3.setCell ⟨g3, o3 + k3, none⟩ (.string name)) = .ok () w5 ∧
      ∃ a' : NA, a'.g = a.g ∧ a'.db = a.db ∧ a'.nb = a.nb ∧ (a'.sb = a.sb ∨ ∃ g, a'.sb = some g ∧ w.heap.size ≤ g) ∧ NodeAt w5 a' { n with slots := l3.set k3 name, size := sz, names := n.ins name i } ∧ Fr (a.g :: nb :: a.sb.toList) w w5 := by
  obtain ⟨g3, o3, c3, cs3, rfl, ho3, hb3, hs3⟩ := hG3.at (by omega)
  have hgk := hG3.setc hk3 (.string name)
  have hng : g3 ≠ a.g ∧ g3 ≠ nb := by
    rcases hob with h | ⟨g, h1, h2⟩
    · exact hsb g3 (by rw [← h]; exact ho3)
    · rw [ho3] at h1
      cases h1
      omega
  have hf4 : Fr [g3] w3 (w3.setCell ⟨g3, o3 + k3, none⟩ (.string name)) := fr_setCell w3 g3 (o3 + k3) _
  have hm4 := hM3.fr hf4 (by simp; omega)
  have hd4 := hD3.fr hf4 (fun b hb => by
    have h1 := hlt.2.2 b hb
    have h2 := (hdb b hb).2.2
    simp
    rcases hob with h | ⟨g, h3, h4⟩
    · exact h2 g3 (by rw [← h]; exact ho3)
    · rw [ho3] at h3; cases h3; omega)
  have hh4 : hat (w3.setCell ⟨g3, o3 + k3, none⟩ (.string name)) a.g = some (.cells #[.int .i64 n.kind, .int .i64 n.links, .int .i64 sz, .int .i64 n.made, a.dv, .slice (some ⟨g3, o3, none⟩) l3.length c3, .map (some nb)] 74) := (hat_setCell _ _ _ _ (Ne.symm hng.1)).trans hh3
  obtain ⟨w5, hr5, hm5, ht5⟩ := hm4.put (t := 70) (e := 3) Tryd.underlying70 (by unfold maxLen; omega) (x := name) hkn (.int .i64 i)
  have hf5 := fr_turned ht5
  refine ⟨g3, o3, c3, cs3, w5, rfl, hb3, hs3, hng.1, hh4, hr5, { a with sb := some g3, sv := .slice (some ⟨g3, o3, none⟩) l3.length c3, nv := .map (some nb), nc := if (n.namesM name).isSome then a.nc else a.nc + 1 }, rfl, rfl, rfl, ?_, ⟨?_, ?_, ?_, ?_⟩, ?_⟩
  · rcases hob with h | ⟨g, h1, h2⟩
    · exact .inl (by rw [← h]; exact ho3.symm)
    · exact .inr ⟨g3, rfl, by rw [ho3] at h1; cases h1; exact h2⟩
  · exact (hf5.block _ (hat_lt hh4) (by simp; exact Ne.symm hne)).trans hh4
  · exact hd4.fr hf5 (fun b hb => by have := (hdb b hb).2.1; simpa using this)
  · show GRow 9 1 w5 _ (some g3) (l3.set k3 name).length (strC (l3.set k3 name))
    rw [List.length_set, ← ho3]
    exact (hgk.congr (strC_set l3 k3 name hk3)).fr hf5 (fun b hb => by rw [ho3] at hb; cases hb; simpa using hng.2)
  · refine .inr ⟨nb, rfl, hnb, ?_⟩
    have e : Nd.namesM { n with slots := l3.set k3 name, size := sz, names := n.ins name i } = fun y => if y = name then some (.int .i64 i) else n.namesM y := (ins_map n name i).symm
    rw [e]
    exact hm5
  · refine ((hf3.mono (ex' := g3 :: a.g :: nb :: a.sb.toList) (fun k hk => .tail _ hk)).trans ((hf4.mono (by simp)).trans (hf5.mono (by simp)))).past fun k hk => ?_
    rcases List.mem_cons.1 hk with rfl | hk
    · rcases hob with h | ⟨g, h1, h2⟩
      · exact .inl (by rw [h] at ho3; rw [ho3]; simp)
      · exact .inr (by rw [ho3] at h1; cases h1; exact h2)
    · exact .inl hk
set_option maxHeartbeats 8000000 in
set_option maxRecDepth 100000 in
theorem set_any {w : World} {a : NA} {n : Nd} {nb : Nat} (h : NodeAt w a n) (hk : NOk n) (hs : ∀ s j, n.names s = some j → s ∈ n.slots) (hnb : a.nb = some nb) (hne : nb ≠ a.g) (hsb : ∀ b, a.sb = some b → b ≠ a.g ∧ b ≠ nb) (hdb : ∀ b, a.db = some b → b ≠ a.g ∧ b ≠ nb ∧ ∀ b', a.sb = some b' → b ≠ b')
    {k : Int} (hkk : k = n.slots.length ∧ n.slots.length < 1068 ∨ ∃ j : Nat, k = j ∧ j < n.slots.length) {name : ByteArray} (hkn : kStr.ok name) {i : Int} (hi : i64ok i) :
    Calls Tryd.prog 64 #[.pointer (some ⟨a.g, 0, none⟩), .int .i64 k, .string name, .int .i64 i] w fun e w' => e = .returned (.tuple #[]) ∧ ∃ a' : NA, a'.g = a.g ∧ a'.db = a.db ∧ a'.nb = a.nb ∧ (a'.sb = a.sb ∨ ∃ g, a'.sb = some g ∧ w.heap.size ≤ g) ∧ NodeAt w' a' (n.set k name i) ∧ Fr (a.g :: nb :: a.sb.toList) w w' := by
  have H := Lib.hid h
  have hh := h.h
  have hhl := hat_lt hh
  obtain ⟨sa, sc, hsv⟩ := h.s.slice
  rw [hsv] at hh
  have HSV := Lib.hid hsv
  have HNV := Lib.hid (show a.nv = .map (some nb) by rw [← hnb]; exact h.m.map)
  rw [HNV.out] at hh
  have HNC := Lib.hid (show a.nc ≤ 1068 from Nat.le_trans (names_few h hs) hk.sl)
  have HNB := Lib.hid hne
  have HDB := Lib.hid hdb
  have HMG := Lib.hid (show MG kStr w nb n.namesM a.nc by
    rcases h.m with ⟨-, h2, -⟩ | ⟨b, -, h2, h3⟩
    · rw [hnb] at h2; cases h2
    · rw [hnb] at h2; cases h2; exact h3)
  have hsm := hk.sl
  clear h hsv
  rcases hkk with ⟨rfl, hlt⟩ | ⟨k3, rfl, hk3⟩
  · obtain ⟨a2, c2, w2, ob2, hr2, hg2, hf2, ho2⟩ := push_g (show GRow 9 1 w (.slice sa n.slots.length sc) a.sb n.slots.length (strC n.slots) by rw [← HSV.out]; exact H.out.s) (by omega) emp 72
    have HR2 := Lib.hid hr2
    have hh2 : hat w2 a.g = some (.cells #[.int .i64 n.kind, .int .i64 n.links, .int .i64 n.size, .int .i64 n.made, a.dv, .slice sa n.slots.length sc, .map (some nb)] 74) := (hf2.block _ hhl (fun hm => (hsb a.g (by simpa using hm)).1 rfl)).trans hh
    have hh2l := hat_lt hh2
    have HF2 := Lib.hid hf2
    have HG2 := Lib.hid hg2
    have HO2 := Lib.hid ho2
    clear hr2 hf2 hg2 ho2
    go_enter Tryd.func64, Tryd.ntmps64
    go_upto_region 3 with (first | (at_builtin; refine wpList_append_run _ rfl _ _ 72 rfl _ _ rfl rfl _ _ HR2.out ?_) | fail)
    have hh3 : hat ((w2.setCell ⟨a.g, 5, none⟩ (.slice a2 (n.slots.length + 1) c2)).setCell ⟨a.g, 2, none⟩ (.int .i64 ((n.slots.length + 1) * 128))) a.g = some (.cells #[.int .i64 n.kind, .int .i64 n.links, .int .i64 ((n.slots.length + 1) * 128), .int .i64 n.made, a.dv, .slice a2 (n.slots.length + 1) c2, .map (some nb)] 74) :=
      hat_setCell_at _ _ _ _ _ _ _ (hat_setCell_at _ _ _ _ _ _ _ hh2)
    have hf3 : Fr [a.g] w2 ((w2.setCell ⟨a.g, 5, none⟩ (.slice a2 (n.slots.length + 1) c2)).setCell ⟨a.g, 2, none⟩ (.int .i64 ((n.slots.length + 1) * 128))) := (fr_setCell _ _ _ _).trans (fr_setCell _ _ _ _)
    generalize (w2.setCell ⟨a.g, 5, none⟩ (.slice a2 (n.slots.length + 1) c2)).setCell ⟨a.g, 2, none⟩ (.int .i64 ((n.slots.length + 1) * 128)) = w3 at *
    have hng2 : ∀ g, ob2 = some g → g ∉ [a.g] := fun g hg => by
      rcases HO2.out with h | ⟨g', h1, h2⟩
      · rw [h] at hg
        simpa using (hsb g hg).1
      · rw [hg] at h1
        cases h1
        simp; omega
    have HG3 := HG2.out.fr hf3 hng2
    have hfw : Fr (a.g :: nb :: a.sb.toList) w w3 := (HF2.out.mono (by simp; intro x hx; exact .inr (.inr hx))).trans (hf3.mono (by simp))
    have hlen2 : (n.slots ++ [emp]).length = n.slots.length + 1 := by simp
    have hM3 : MG kStr w3 nb n.namesM a.nc := (HMG.out.fr HF2.out (fun hm => (hsb nb (by simpa using hm)).2 rfl)).fr hf3 (by simpa using hne)
    have hD3 : MO kInt w3 a.dv a.db n.dataM a.dc := (H.out.d.fr HF2.out (fun b hb hm => (hdb b hb).2.2 b (by simpa using hm) rfl)).fr hf3 (fun b hb => by simpa using (hdb b hb).1)
    obtain ⟨g3, o3, c3, cs3, w5, hv3, hb3, hs3, hg3, hh4, hr5, a', h1, h2, h3, h4, h5, h6⟩ := set_tail (i := i) (n := n) (l3 := n.slots ++ [emp]) (k3 := n.slots.length) hh3 HG3 (by simp) hfw HO2.out hM3 hD3 HNC.out hnb hne hsb hdb ⟨hhl, HMG.out.lt, H.out.d.lt⟩ hkn
    have HRS := Lib.hid (show ∃ a' : NA, a'.g = a.g ∧ a'.db = a.db ∧ a'.nb = a.nb ∧ (a'.sb = a.sb ∨ ∃ g, a'.sb = some g ∧ w.heap.size ≤ g) ∧ NodeAt w5 a' (n.set n.slots.length name i) ∧ Fr (a.g :: nb :: a.sb.toList) w w5 from ⟨a', h1, h2, h3, h4, by rw [setN_app, ← app_set]; exact h5, h6⟩)
    rw [hlen2] at hv3 hs3
    rw [hv3] at hh3 hh4 ⊢
    obtain ⟨N, hN⟩ : ∃ x, x = n.slots.length := ⟨_, rfl⟩
    rw [← hN] at hs3 hh3 hh4 ⊢
    rw [← hN] at hr5
    have hk3i : (N : Int) < ((N + 1 : Nat) : Int) := by omega
    have hk3j : (N : Int) < (N : Int) + 1 := by omega
    have hk30 : (0 : Int) ≤ (N : Int) := by omega
    have hb3l := hat_lt hb3
    have hh3l := hat_lt hh3
    have hlk : o3 + N < cs3.size := by omega
    have hh4l := hat_lt hh4
    clear h1 h2 h3 h4 h5 h6 hv3 hh hhl HG3 hN hlen2 hM3 hD3 hfw hng2 hf3 hh2 hh2l hsm hlt
    go_upto_region 4 with fail
    generalize w3.setCell ⟨g3, o3 + N, none⟩ (.string name) = w4 at *
    clear hb3 hh3 hb3l hh3l
    go_wp2_with fail
    refine bodyPost_end (results_none rfl _ _ _) rfl ?_
    exact ⟨rfl, HRS.out⟩
  · obtain ⟨l3, hl3⟩ : ∃ l, l = n.slots := ⟨_, rfl⟩
    obtain ⟨sz, hsz⟩ : ∃ x, x = n.size := ⟨_, rfl⟩
    have HE := Lib.hid (show n.set k3 name i = { n with slots := l3.set k3 name, size := sz, names := n.ins name i } by rw [hl3, hsz]; exact setN_at n hk3 name i)
    have hh3 := hh
    rw [← hsz, ← hl3] at hh3
    have HG3 := Lib.hid (show GRow 9 1 w (.slice sa l3.length sc) a.sb l3.length (strC l3) by rw [hl3, ← HSV.out]; exact H.out.s)
    have hkz : ((k3 : Int) == (n.slots.length : Int)) = false := by simp; omega
    obtain ⟨g3, o3, c3, cs3, w5, hv3, hb3, hs3, hg3, hh4, hr5, a', h1, h2, h3, h4, h5, h6⟩ := set_tail (i := i) hh3 HG3.out (by rw [hl3]; exact hk3) (Fr.refl _ w) (.inl rfl) HMG.out H.out.d HNC.out hnb hne hsb hdb ⟨hhl, HMG.out.lt, H.out.d.lt⟩ hkn
    have HRS := Lib.hid (show ∃ a' : NA, a'.g = a.g ∧ a'.db = a.db ∧ a'.nb = a.nb ∧ (a'.sb = a.sb ∨ ∃ g, a'.sb = some g ∧ w.heap.size ≤ g) ∧ NodeAt w5 a' (n.set k3 name i) ∧ Fr (a.g :: nb :: a.sb.toList) w w5 from ⟨a', h1, h2, h3, h4, by rw [HE.out]; exact h5, h6⟩)
    rw [hv3] at hh3 hh4
    obtain ⟨N, hN⟩ : ∃ x, x = l3.length := ⟨_, rfl⟩
    have hNn : N = n.slots.length := by rw [hN, hl3]
    rw [← hl3, ← hN] at hkz
    rw [← hN] at hs3 hh3 hh4
    have hk3i : (k3 : Int) < (N : Int) := by omega
    have hk30 : (0 : Int) ≤ (k3 : Int) := by omega
    have hb3l := hat_lt hb3
    have hlk : o3 + k3 < cs3.size := by omega
    have hh4l := hat_lt hh4
    clear h1 h2 h3 h4 h5 h6 hv3 hh hhl HG3 hl3 hsz HE hN hNn
    go_enter Tryd.func64, Tryd.ntmps64
    go_upto_region 4 with fail
    generalize w.setCell ⟨g3, o3 + k3, none⟩ (.string name) = w4 at *
    clear hb3 hh3 hb3l
    go_wp2_with fail
    refine bodyPost_end (results_none rfl _ _ _) rfl ?_
    exact ⟨rfl, HRS.out⟩
end Go.Proofs.YteffoihkljkfdaaDoor

/- stat: the walk. -/
namespace Go.Proofs.YteffoihkljkfdaaDoor
set_option linter.unusedSimpArgs false
set_option linter.unusedVariables false
open Go.RowKit

theorem cf6 {w : World} {g : Nat} {a b c d e f : Value} {t : TypeId} (h : hat w g = some (.cells #[a, b, c, d, e, f] t)) : hat w g = some (.cells #[cf w g 0, cf w g 1, cf w g 2, cf w g 3, cf w g 4, cf w g 5] t) := by
  rw [cf_at (i := 0) h rfl, cf_at (i := 1) h rfl, cf_at (i := 2) h rfl, cf_at (i := 3) h rfl, cf_at (i := 4) h rfl, cf_at (i := 5) h rfl]
  exact h
theorem fr_setRow (w : World) (g : Nat) (cs : Array Value) : Fr [g] w (w.setRow g cs) := ⟨rfl, rfl, rfl, by simp, fun k hk hn => hat_setRow _ _ _ _ (by simpa using hn)⟩
set_option maxHeartbeats 8000000 in
set_option maxRecDepth 100000 in
theorem stat_any {w : World} {gp bn c : Nat} {S : PS} {A : Int → NA} {own : Nat → Option (Int × Nat)} (h : PT w gp bn c S A own) (hS : POk S) {i : Int} (hi : (S.nodes i).isSome = true) :
    Calls Tryd.prog 65 #[.pointer (some ⟨gp, 0, none⟩), .int .i64 i] w fun e w' => e = .returned (S.stat i).val ∧ Below w.heap.size w w' := by
  have hn := PS.nd_get hi
  obtain ⟨n, hnn⟩ : ∃ n, n = S.nd i := ⟨_, rfl⟩
  rw [← hnn] at hn
  have HQ := Lib.hid (show S.stat i = ⟨i, n.kind, n.links, n.size, n.made, n.count⟩ by rw [hnn]; rfl)
  obtain ⟨x0, hx0⟩ : ∃ x, x = w.alloc (.cells #[.int .i64 0, .int .i64 0, .int .i64 0, .int .i64 0, .int .i64 0, .int .i64 0] 33) := ⟨_, rfl⟩
  have hg0 : hat x0 w.heap.size = some (.cells #[.int .i64 0, .int .i64 0, .int .i64 0, .int .i64 0, .int .i64 0, .int .i64 0] 33) := by rw [hx0]; exact (hopN w _).1
  have HF0 := Lib.hid (show Fr [] w x0 by rw [hx0]; exact fr_new w _ [])
  have h0 := h.fr HF0.out (by simp)
  have hlk := h0.look_yes hn
  have hp0 := h0.p
  have hpl0 := hat_lt hp0
  have HP := Lib.hid h0
  have HN := Lib.hid (h0.n i n hn)
  have hh0 := HN.out.h
  have hhl0 := hat_lt hh0
  have HLT := Lib.hid (show (A i).g < w.heap.size from hat_lt (h.n i n hn).h)
  have HK := Lib.hid (hS.n i n hn)
  generalize hA : A i = a at *
  clear h hn h0
  have HNN := Lib.hid hnn
  clear hnn
  rw [hx0] at hlk hp0 hpl0 hh0 hhl0 hg0
  go_enter Tryd.func65, Tryd.ntmps65
  go_upto_region 2 with fail
  rw [← hx0] at hlk hp0 hpl0 hh0 hhl0 hg0 ⊢
  clear hx0 hlk hp0 hpl0
  obtain ⟨gr, hgr⟩ : ∃ x, x = w.heap.size := ⟨_, rfl⟩
  rw [← hgr] at hg0 ⊢
  have HGR := Lib.hid hgr
  have hgl := hat_lt hg0
  have HPD := Lib.hid (show hat x0.drew a.g = some (.cells #[.int .i64 n.kind, .int .i64 n.links, .int .i64 n.size, .int .i64 n.made, a.dv, a.sv, a.nv] 74) from hh0)
  have HXD := Lib.hid (show hat x0.drew gr = some (.cells #[.int .i64 0, .int .i64 0, .int .i64 0, .int .i64 0, .int .i64 0, .int .i64 0] 33) from hg0)
  have HUS := Lib.hid (count_any (HN.out.fr (fr_drew (Fr.refl [] x0)) (by simp) (by simp) (by simp) (by simp)) HK.out)
  have hgc := cf6 hg0
  have HNE := Lib.hid (show a.g ≠ gr from by have h1 := HLT.out; omega)
  clear hgr
  go_region_held3 (fun w' => hat w' a.g = some (.cells #[.int .i64 n.kind, .int .i64 n.links, .int .i64 n.size, .int .i64 n.made, a.dv, a.sv, a.nv] 74) ∧ hat w' gr = some (.cells #[cf w' gr 0, cf w' gr 1, cf w' gr 2, cf w' gr 3, cf w' gr 4, cf w' gr 5] 33)) (first | assumption | (refine ⟨?_, ?_⟩; (first | assumption | exact ((fr_setRow _ gr _).block a.g (hat_lt p1) (by have := HNE.out; simpa using this)).trans p1 | fail); (first | assumption | exact cf6 (hat_setRow_at _ _ _ _ _ _ x1) | fail)))
    (first
      | (with_reducible refine HUS.out.mono ?_; rintro e w1 ⟨rfl, hb1⟩; have p1 := (hop hb1 HPD.out).1; have x1 := cf6 (hop hb1 HXD.out).1; have HB1 := Lib.hid hb1)
      | fail)
  have q1 := Lib.hid (hat_setRow_at w1 gr #[.int .i64 i, .int .i64 n.kind, .int .i64 n.links, .int .i64 n.size, .int .i64 n.made, .int .i64 n.count] _ _ _ x1)
  have q2 := Lib.hid (show Below w.heap.size w (w1.setRow gr #[.int .i64 i, .int .i64 n.kind, .int .i64 n.links, .int .i64 n.size, .int .i64 n.made, .int .i64 n.count]) from by
    refine Fr.below (ex := [gr]) ?_ (Nat.le_refl _) (by have := HGR.out; simp; omega)
    exact ((fr_drew (Fr.mono HF0.out (ex' := [gr]) (by simp))).trans (fr_below hb1 [gr])).trans (fr_setRow _ _ _))
  clear x1 hb1 HB1 p1 hg0 hh0 hgc hgl hhl0 HN HUS HPD HXD HP
  generalize w1.setRow gr #[.int .i64 i, .int .i64 n.kind, .int .i64 n.links, .int .i64 n.size, .int .i64 n.made, .int .i64 n.count] = w2 at *
  go_wp2_with fail
  refine ret_c row33 rfl (cs := #[.int .i64 i, .int .i64 n.kind, .int .i64 n.links, .int .i64 n.size, .int .i64 n.made, .int .i64 n.count]) rfl q1.out rfl rfl ⟨by rw [HQ.out]; rfl, q2.out⟩
end Go.Proofs.YteffoihkljkfdaaDoor

/- What an operation leaves: a plain file system, where it lies, what it has turned; answers. -/
namespace Go.Proofs.YteffoihkljkfdaaDoor
set_option linter.unusedSimpArgs false
set_option linter.unusedVariables false
open Go.RowKit

/-- a plain file system as it may be, and where it lies -/
structure PW (w : World) (gp bn c : Nat) (S : PS) (A : Int → NA) (own : Nat → Option (Int × Nat)) : Prop where
  t : PT w gp bn c S A own
  o : POk S
  f : PWf S
  h : ∀ i n, S.nodes i = some n → (n.kind = 2 → (A i).nb.isSome = true) ∧ (n.kind = 1 → (A i).db.isSome = true)
/-- what is nobody's has not turned -/
structure Un (own : Nat → Option (Int × Nat)) (w w' : World) : Prop where
  os : w'.os = w.os
  tape : w'.tape = w.tape
  output : w'.output = w.output
  size : w.heap.size ≤ w'.heap.size
  block : ∀ b, b < w.heap.size → own b = none → hat w' b = hat w b
theorem Un.refl (own : Nat → Option (Int × Nat)) (w : World) : Un own w w := ⟨rfl, rfl, rfl, Nat.le_refl _, fun _ _ _ => rfl⟩
theorem Un.trans {own own' : Nat → Option (Int × Nat)} {a b c : World} (h : Un own a b) (ho : ∀ g, g < a.heap.size → own' g = own g) (h2 : Un own' b c) : Un own a c :=
  ⟨h2.os.trans h.os, h2.tape.trans h.tape, h2.output.trans h.output, Nat.le_trans h.size h2.size, fun k hk hn => (h2.block k (Nat.lt_of_lt_of_le hk h.size) (by rw [ho k hk]; exact hn)).trans (h.block k hk hn)⟩
theorem Fr.un {ex : List Nat} {own : Nat → Option (Int × Nat)} {w w' : World} (h : Fr ex w w') (hx : ∀ b ∈ ex, b < w.heap.size → own b ≠ none) : Un own w w' :=
  ⟨h.os, h.tape, h.output, h.size, fun b hb hn => h.block b hb fun hm => hx b hm hb hn⟩
/-- a plain file system S' lies there, whatever of the elder one has turned -/
def Mvd (w w' : World) (gp bn : Nat) (own : Nat → Option (Int × Nat)) (S' : PS) (own' : Nat → Option (Int × Nat)) : Prop :=
  (∃ c' A', PW w' gp bn c' S' A' own') ∧ Un own w w' ∧ ∀ b, b < w.heap.size → own' b = own b
/-- a node's blocks, when others' have turned -/
theorem PT.other {w w' : World} {gp bn c : Nat} {S : PS} {A : Int → NA} {own : Nat → Option (Int × Nat)} (h : PT w gp bn c S A own) {j : Int} {n : Nd} (hj : S.nodes j = some n) {ex : List Nat} (hf : Fr ex w w') (hx : ∀ b ∈ ex, ∀ q, own b = some q → q.1 ≠ j) : NodeAt w' (A j) n := by
  obtain ⟨h1, h2, h3, h4⟩ := h.og j n hj
  exact (h.n j n hj).fr hf (fun hm => hx _ hm _ h1 rfl) (fun b hb hm => hx b hm _ (h2 b hb) rfl) (fun b hb hm => hx b hm _ (h3 b hb) rfl) (fun b hb hm => hx b hm _ (h4 b hb) rfl)
/-- a node's blocks are apart -/
theorem PT.apart {w : World} {gp bn c : Nat} {S : PS} {A : Int → NA} {own : Nat → Option (Int × Nat)} (h : PT w gp bn c S A own) {j : Int} {n : Nd} (hj : S.nodes j = some n) :
    (∀ b, (A j).nb = some b → b ≠ (A j).g) ∧ (∀ b, (A j).sb = some b → b ≠ (A j).g ∧ ∀ b', (A j).nb = some b' → b ≠ b') ∧ ∀ b, (A j).db = some b → b ≠ (A j).g ∧ (∀ b', (A j).nb = some b' → b ≠ b') ∧ ∀ b', (A j).sb = some b' → b ≠ b' := by
  obtain ⟨h1, h2, h3, h4⟩ := h.og j n hj
  refine ⟨fun b hb e => ?_, fun b hb => ⟨fun e => ?_, fun b' hb' e => ?_⟩, fun b hb => ⟨fun e => ?_, fun b' hb' e => ?_, fun b' hb' e => ?_⟩⟩
  · have := h4 b hb; rw [e, h1] at this; cases this
  · have := h3 b hb; rw [e, h1] at this; cases this
  · have h5 := h3 b hb; have h6 := h4 b' hb'; rw [e, h6] at h5; cases h5
  · have := h2 b hb; rw [e, h1] at this; cases this
  · have h5 := h2 b hb; have h6 := h4 b' hb'; rw [e, h6] at h5; cases h5
  · have h5 := h2 b hb; have h6 := h3 b' hb'; rw [e, h6] at h5; cases h5
theorem PW.fr {w w' : World} {gp bn c : Nat} {S : PS} {A : Int → NA} {own : Nat → Option (Int × Nat)} {ex : List Nat} (h : PW w gp bn c S A own) (hf : Fr ex w w') (hx : ∀ b ∈ ex, own b = none) : PW w' gp bn c S A own := ⟨h.t.fr hf hx, h.o, h.f, h.h⟩
def byC (l : List Int) (j : Nat) : Value := .int .u8 (l.getD j 0)
def entC (l : List (ByteArray × Int × Int)) (k : Nat) : Value :=
  if k % 3 = 0 then .string (l.getD (k / 3) (emp, 0, 0)).1 else if k % 3 = 1 then .int .i64 (l.getD (k / 3) (emp, 0, 0)).2.1 else .int .i64 (l.getD (k / 3) (emp, 0, 0)).2.2
def ansV (x : Ans) (dv ev : Value) : Array Value := #[.int .i64 x.code, .int .i64 x.stat.ino, .int .i64 x.stat.kind, .int .i64 x.stat.links, .int .i64 x.stat.size, .int .i64 x.stat.made, .int .i64 x.stat.blocks, dv, ev, .bool false]
/-- the value v is the answer x; its rows are nobody's -/
def AnsAt (w : World) (B : Nat) (own : Nat → Option (Int × Nat)) (v : Value) (x : Ans) : Prop :=
  ∃ dv ev od oe, v = .agg (ansV x dv ev) ∧ GRow 5 1 w dv od x.data.length (byC x.data) ∧ GRow 98 3 w ev oe x.ents.length (entC x.ents) ∧ ∀ g, od = some g ∨ oe = some g → B ≤ g ∧ own g = none
theorem ans_err (w : World) (B : Nat) (own : Nat → Option (Int × Nat)) (e : Int) : AnsAt w B own (.agg #[.int .i64 e, .int .i64 0, .int .i64 0, .int .i64 0, .int .i64 0, .int .i64 0, .int .i64 0, .slice none 0 0, .slice none 0 0, .bool false]) (Ans.err e) :=
  ⟨_, _, none, none, rfl, .inl ⟨rfl, rfl, rfl⟩, .inl ⟨rfl, rfl, rfl⟩, fun g h => by rcases h with h | h <;> cases h⟩
theorem ans_stat (w : World) (B : Nat) (own : Nat → Option (Int × Nat)) (s : Sta) : AnsAt w B own (.agg #[.int .i64 0, .int .i64 s.ino, .int .i64 s.kind, .int .i64 s.links, .int .i64 s.size, .int .i64 s.made, .int .i64 s.blocks, .slice none 0 0, .slice none 0 0, .bool false]) ⟨0, s, [], []⟩ :=
  ⟨_, _, none, none, rfl, .inl ⟨rfl, rfl, rfl⟩, .inl ⟨rfl, rfl, rfl⟩, fun g h => by rcases h with h | h <;> cases h⟩
/-- nothing has turned -/
theorem PW.stay {w w' : World} {gp bn c : Nat} {S : PS} {A : Int → NA} {own : Nat → Option (Int × Nat)} (h : PW w gp bn c S A own) (hb : Below w.heap.size w w') : Mvd w w' gp bn own S own :=
  ⟨⟨c, A, h.fr (fr_below hb []) (by simp)⟩, (fr_below hb []).un (by simp), fun _ _ => rfl⟩
theorem Strs.fr' {w w' : World} {B : Nat} {v : Value} {xs : List ByteArray} (h : Strs w B v xs) (hf : Fr [] w w') : Strs w' 0 v xs := by
  rcases h with h | ⟨g, o, c, h1, h2, h3, h4, h5, h6⟩
  · exact .inl h
  · refine .inr ⟨g, o, c, h1, h2, h3, Nat.zero_le _, Nat.lt_of_lt_of_le h5 hf.size, fun j x hx => ?_⟩
    have := h6 j x hx
    rw [cell?_of_hat] at this ⊢
    rw [hf.block g h5 (by simp)]
    exact this
def ans0 : Array Value := #[.int .i64 0, .int .i64 0, .int .i64 0, .int .i64 0, .int .i64 0, .int .i64 0, .int .i64 0, .slice none 0 0, .slice none 0 0, .bool false]
end Go.Proofs.YteffoihkljkfdaaDoor

/- A file or a directory more: where all lies then. -/
namespace Go.Proofs.YteffoihkljkfdaaDoor
set_option linter.unusedSimpArgs false
set_option linter.unusedVariables false
open Go.RowKit

/-- a file or a directory more -/
def PS.made (S : PS) (d i k kind made : Int) (name : ByteArray) : PS := (S.put i (some (freshN kind made))).put d (some ((S.nd d).set k name i))
theorem NodeAt.lts {w : World} {a : NA} {n : Nd} (h : NodeAt w a n) : a.g < w.heap.size ∧ (∀ b, a.db = some b → b < w.heap.size) ∧ (∀ b, a.sb = some b → b < w.heap.size) ∧ ∀ b, a.nb = some b → b < w.heap.size := ⟨hat_lt h.h, h.d.lt, h.s.lt, h.m.lt⟩
theorem set_kind (n : Nd) (k : Int) (name : ByteArray) (i : Int) : (n.set k name i).kind = n.kind := by
  unfold Nd.set
  split <;> rfl
theorem made_pw {w w6 : World} {gp bn c c6 : Nat} {S : PS} {A : Int → NA} {own : Nat → Option (Int × Nat)} (h : PW w gp bn c S A own) {d i k kind made : Int} {name : ByteArray} {an a' : NA} {nb gd : Nat}
    (hd : S.nodes d = some (S.nd d)) (hdk : (S.nd d).kind = 2) (hi : S.nodes i = none) (hS : POk (S.made d i k kind made name) ∧ PWf (S.made d i k kind made name))
    (hf : Fr (bn :: (A d).g :: nb :: (A d).sb.toList) w w6) (hnb : (A d).nb = some nb)
    (hm : MG kInt w6 bn (fun y => if y = i then some (.pointer (some ⟨an.g, 0, none⟩)) else ptrM S A y) c6)
    (hN : NodeAt w6 an (freshN kind made)) (hA : NodeAt w6 a' ((S.nd d).set k name i))
    (hg : w.heap.size ≤ an.g) (hsb : an.sb = none) (hdb : an.db = some gd) (hgd : w.heap.size ≤ gd ∧ gd ≠ an.g) (hnn : ∀ b, an.nb = some b → w.heap.size ≤ b ∧ b ≠ an.g ∧ b ≠ gd) (hk2 : kind = 2 → an.nb.isSome = true)
    (h1 : a'.g = (A d).g) (h2 : a'.db = (A d).db) (h3 : a'.nb = (A d).nb) (h4 : a'.sb = (A d).sb ∨ ∃ g, a'.sb = some g ∧ w.heap.size ≤ g ∧ g ≠ an.g ∧ gd ≠ g ∧ an.nb ≠ some g) :
    ∃ own', (∃ A', PW w6 gp bn c6 (S.made d i k kind made name) A' own') ∧ (∀ b, b < w.heap.size → own' b = own b) ∧ (∀ ga, w.heap.size ≤ ga → ga ≠ an.g → gd ≠ ga → an.nb ≠ some ga → a'.sb ≠ some ga → own' ga = none) ∧ Un own w w6 := by
  have hdi : d ≠ i := fun e => by rw [e, hi] at hd; cases hd
  have hog := h.t.og
  have hdog := hog d _ hd
  have hltd := (h.t.n d _ hd).lts
  have hex : ∀ b ∈ bn :: (A d).g :: nb :: (A d).sb.toList, ∃ q, own b = some q ∧ (q.1 = d ∨ q.1 = -1) := fun b hb => by
    simp at hb
    rcases hb with rfl | rfl | rfl | hb
    · exact ⟨_, h.t.op.2, .inr rfl⟩
    · exact ⟨_, hdog.1, .inl rfl⟩
    · exact ⟨_, hdog.2.2.2 _ hnb, .inl rfl⟩
    · exact ⟨_, hdog.2.2.1 _ hb, .inl rfl⟩
  let own' : Nat → Option (Int × Nat) := fun b => if b < w.heap.size then own b else if b = an.g then some (i, 0) else if b = gd then some (i, 1) else if an.nb = some b then some (i, 3) else if a'.sb = some b then some (d, 2) else none
  let A' : Int → NA := fun j => if j = d then a' else if j = i then an else A j
  have ho : ∀ b, b < w.heap.size → own' b = own b := fun b hb => if_pos hb
  have hnew : ∀ b, w.heap.size ≤ b → own' b = if b = an.g then some (i, 0) else if b = gd then some (i, 1) else if an.nb = some b then some (i, 3) else if a'.sb = some b then some (d, 2) else none := fun b hb => if_neg (by omega)
  have hnd : ∀ j, (S.made d i k kind made name).nodes j = if j = d then some ((S.nd d).set k name i) else if j = i then some (freshN kind made) else S.nodes j := fun _ => rfl
  have hAd : A' d = a' := if_pos rfl
  have hAi : A' i = an := by show (if i = d then a' else if i = i then an else A i) = an; rw [if_neg (Ne.symm hdi), if_pos rfl]
  have hAo : ∀ j, j ≠ d → j ≠ i → A' j = A j := fun j hj1 hj2 => by show (if j = d then a' else if j = i then an else A j) = A j; rw [if_neg hj1, if_neg hj2]
  have hgp := hat_lt h.t.p
  have hbn := h.t.m.lt
  refine ⟨own', ⟨A', ⟨⟨?_, ?_, fun j n hj => ?_, ⟨(ho _ hgp).trans h.t.op.1, (ho _ hbn).trans h.t.op.2⟩, fun j n hj => ?_⟩, hS.1, hS.2, fun j n hj => ?_⟩⟩, ho, fun ga e1 e2 e3 e4 e5 => ?_, hf.un fun b hb _ => by obtain ⟨q, hq, -⟩ := hex b hb; rw [hq]; simp⟩
  · refine (hf.block gp hgp fun hm => ?_).trans h.t.p
    simp at hm
    rcases hm with e | e | e | e
    · have := h.t.op.1; rw [e, h.t.op.2] at this; cases this
    · have := h.t.op.1; rw [e, hdog.1] at this; have hk := h.o.k d (by rw [hd]; rfl); cases this; omega
    · have := h.t.op.1; rw [e, hdog.2.2.2 _ hnb] at this; cases this
    · have := h.t.op.1; rw [hdog.2.2.1 _ e] at this; cases this
  · have e : ptrM (S.made d i k kind made name) A' = fun y => if y = i then some (.pointer (some ⟨an.g, 0, none⟩)) else ptrM S A y := by
      funext y
      show ((S.made d i k kind made name).nodes y).map _ = _
      rw [hnd]
      by_cases hyd : y = d
      · subst hyd
        rw [if_pos rfl, if_neg hdi]
        show some (Value.pointer (some ⟨(A' y).g, 0, none⟩)) = (S.nodes y).map _
        rw [hAd, h1, hd]; rfl
      · rw [if_neg hyd]
        by_cases hyi : y = i
        · subst hyi
          rw [if_pos rfl, if_pos rfl]
          show some (Value.pointer (some ⟨(A' y).g, 0, none⟩)) = _
          rw [hAi]
        · rw [if_neg hyi, if_neg hyi]
          show (S.nodes y).map _ = (S.nodes y).map _
          rw [hAo y hyd hyi]
    rw [e]
    exact hm
  · rw [hnd] at hj
    by_cases hyd : j = d
    · subst hyd
      rw [if_pos rfl] at hj; cases hj
      rw [hAd]; exact hA
    · rw [if_neg hyd] at hj
      by_cases hyi : j = i
      · subst hyi
        rw [if_pos rfl] at hj; cases hj
        rw [hAi]; exact hN
      · rw [if_neg hyi] at hj
        rw [hAo j hyd hyi]
        refine h.t.other hj hf fun b hb q hq => ?_
        obtain ⟨q', hq', hc⟩ := hex b hb
        rw [hq] at hq'
        cases hq'
        have := h.o.k j (by rw [hj]; rfl)
        rcases hc with e | e
        · rw [e]; exact Ne.symm hyd
        · rw [e]; omega
  · rw [hnd] at hj
    by_cases hyd : j = d
    · subst hyd
      rw [if_pos rfl] at hj; cases hj
      rw [hAd]
      refine ⟨by rw [h1]; exact (ho _ hltd.1).trans hdog.1, fun b hb => ?_, fun b hb => ?_, fun b hb => ?_⟩
      · rw [h2] at hb; exact (ho _ (hltd.2.1 b hb)).trans (hdog.2.1 b hb)
      · rcases h4 with e | ⟨g, e, e1, e2, e3, e4⟩
        · rw [e] at hb; exact (ho _ (hltd.2.2.1 b hb)).trans (hdog.2.2.1 b hb)
        · rw [e] at hb; cases hb
          rw [hnew _ e1, if_neg e2, if_neg (Ne.symm e3), if_neg e4, if_pos e]
      · rw [h3] at hb; exact (ho _ (hltd.2.2.2 b hb)).trans (hdog.2.2.2 b hb)
    · rw [if_neg hyd] at hj
      by_cases hyi : j = i
      · subst hyi
        rw [if_pos rfl] at hj; cases hj
        rw [hAi]
        refine ⟨by rw [hnew _ hg, if_pos rfl], fun b hb => ?_, fun b hb => ?_, fun b hb => ?_⟩
        · rw [hdb] at hb; cases hb
          rw [hnew _ hgd.1, if_neg hgd.2, if_pos rfl]
        · rw [hsb] at hb; cases hb
        · obtain ⟨e1, e2, e3⟩ := hnn b hb
          rw [hnew _ e1, if_neg e2, if_neg e3, if_pos hb]
      · rw [if_neg hyi] at hj
        rw [hAo j hyd hyi]
        have hlj := (h.t.n j n hj).lts
        have hoj := hog j n hj
        exact ⟨(ho _ hlj.1).trans hoj.1, fun b hb => (ho _ (hlj.2.1 b hb)).trans (hoj.2.1 b hb), fun b hb => (ho _ (hlj.2.2.1 b hb)).trans (hoj.2.2.1 b hb), fun b hb => (ho _ (hlj.2.2.2 b hb)).trans (hoj.2.2.2 b hb)⟩
  · rw [hnd] at hj
    by_cases hyd : j = d
    · subst hyd
      rw [if_pos rfl] at hj; cases hj
      rw [hAd, h3, h2, set_kind]
      exact h.h j _ hd
    · rw [if_neg hyd] at hj
      by_cases hyi : j = i
      · subst hyi
        rw [if_pos rfl] at hj; cases hj
        rw [hAi]
        exact ⟨hk2, fun _ => by rw [hdb]; rfl⟩
      · rw [if_neg hyi] at hj
        rw [hAo j hyd hyi]
        exact h.h j n hj
  · rw [hnew _ e1, if_neg e2, if_neg (Ne.symm e3), if_neg e4, if_neg e5]
theorem Un.later {own : Nat → Option (Int × Nat)} {w w6 w8 : World} {ex : List Nat} (h : Un own w w6) (hf : Fr ex w6 w8) (hx : ∀ b ∈ ex, w.heap.size ≤ b) : Un own w w8 :=
  ⟨hf.os.trans h.os, hf.tape.trans h.tape, hf.output.trans h.output, Nat.le_trans h.size hf.size, fun k hk hn => (hf.block k (Nat.lt_of_lt_of_le hk h.size) (fun hm => by have := hx k hm; omega)).trans (h.block k hk hn)⟩
theorem fresh1 (w : World) (made : Int) : NodeAt ((w.alloc (.map #[] 0)).alloc (.cells #[.int .i64 1, .int .i64 1, .int .i64 0, .int .i64 made, .map (some w.heap.size), .slice none 0 0, .map none] 74)) ⟨w.heap.size + 1, some w.heap.size, none, none, .map (some w.heap.size), .map none, .slice none 0 0, 0, 0⟩ (freshN 1 made) ∧
    Fr [] w ((w.alloc (.map #[] 0)).alloc (.cells #[.int .i64 1, .int .i64 1, .int .i64 0, .int .i64 made, .map (some w.heap.size), .slice none 0 0, .map none] 74)) := by
  refine ⟨⟨?_, .inr ⟨w.heap.size, rfl, rfl, ((MG.made (E := kInt) w).fr (fr_new _ _ []) (by simp))⟩, .inl ⟨rfl, rfl, rfl⟩, .inl ⟨rfl, rfl, fun _ => rfl, rfl⟩⟩, (fr_new _ _ []).trans (fr_new _ _ [])⟩
  have := (hopN (w.alloc (.map #[] 0)) (.cells #[.int .i64 1, .int .i64 1, .int .i64 0, .int .i64 made, .map (some w.heap.size), .slice none 0 0, .map none] 74)).1
  rw [show (w.alloc (.map #[] 0)).heap.size = w.heap.size + 1 by simp] at this
  exact this
theorem fresh2 (w : World) (made : Int) : NodeAt (((w.alloc (.map #[] 0)).alloc (.cells #[.int .i64 2, .int .i64 1, .int .i64 0, .int .i64 made, .map (some w.heap.size), .slice none 0 0, .map (some (w.heap.size + 1 + 1))] 74)).alloc (.map #[] 0)) ⟨w.heap.size + 1, some w.heap.size, some (w.heap.size + 1 + 1), none, .map (some w.heap.size), .map (some (w.heap.size + 1 + 1)), .slice none 0 0, 0, 0⟩ (freshN 2 made) ∧
    Fr [] w (((w.alloc (.map #[] 0)).alloc (.cells #[.int .i64 2, .int .i64 1, .int .i64 0, .int .i64 made, .map (some w.heap.size), .slice none 0 0, .map (some (w.heap.size + 1 + 1))] 74)).alloc (.map #[] 0)) := by
  have e := hopN (w.alloc (.map #[] 0)) (.cells #[.int .i64 2, .int .i64 1, .int .i64 0, .int .i64 made, .map (some w.heap.size), .slice none 0 0, .map (some (w.heap.size + 1 + 1))] 74)
  rw [show (w.alloc (.map #[] 0)).heap.size = w.heap.size + 1 by simp] at e
  have e2 := MG.made (E := kStr) ((w.alloc (.map #[] 0)).alloc (.cells #[.int .i64 2, .int .i64 1, .int .i64 0, .int .i64 made, .map (some w.heap.size), .slice none 0 0, .map (some (w.heap.size + 1 + 1))] 74))
  rw [show ((w.alloc (.map #[] 0)).alloc (.cells #[.int .i64 2, .int .i64 1, .int .i64 0, .int .i64 made, .map (some w.heap.size), .slice none 0 0, .map (some (w.heap.size + 1 + 1))] 74)).heap.size = w.heap.size + 1 + 1 by simp] at e2
  exact ⟨⟨((fr_new _ _ []).block _ e.2 (by simp)).trans e.1, .inr ⟨w.heap.size, rfl, rfl, ((MG.made (E := kInt) w).fr ((fr_new _ _ []).trans (fr_new _ _ [])) (by simp))⟩, .inl ⟨rfl, rfl, rfl⟩, .inr ⟨_, rfl, rfl, e2⟩⟩, ((fr_new _ _ []).trans (fr_new _ _ [])).trans (fr_new _ _ [])⟩
end Go.Proofs.YteffoihkljkfdaaDoor

/- A plain file system is as it may be: bytes written, read and cut off. -/
namespace Go.Proofs.YteffoihkljkfdaaDoor
set_option linter.unusedSimpArgs false
set_option linter.unusedVariables false
open Go.RowKit

theorem lay_len (off : Int) (data : List Int) (k : Int) (s : List Int) : (lay off data k s).length = 128 := by unfold lay; simp
theorem lay_at (off : Int) (data : List Int) (k : Int) (s : List Int) {j : Nat} (hj : j < 128) : (lay off data k s).getD j 0 = if off ≤ 128 * k + j ∧ 128 * k + j < off + data.length then data.getD (128 * k + j - off).toNat 0 else s.getD j 0 := by
  unfold lay
  rw [List.getD_eq_getElem?_getD, List.getElem?_map, List.getElem?_range hj]; rfl
theorem getD_mem {s : List Int} {j : Nat} {P : Int → Prop} (h : ∀ b ∈ s, P b) (h0 : P 0) : P (s.getD j 0) := by
  rw [List.getD_eq_getElem?_getD]
  cases hq : s[j]? with
  | none => exact h0
  | some x => exact h x (List.mem_of_getElem? hq)
theorem lay_bytes {off : Int} {data : List Int} {k : Int} {s : List Int} (hd : ∀ b ∈ data, 0 ≤ b ∧ b < 256) (hs : ∀ b ∈ s, 0 ≤ b ∧ b < 256) : ∀ b ∈ lay off data k s, 0 ≤ b ∧ b < 256 := by
  intro b hb
  unfold lay at hb
  obtain ⟨j, hj, rfl⟩ := List.mem_map.1 hb
  split
  · exact getD_mem (P := fun b => 0 ≤ b ∧ b < 256) hd (by omega)
  · exact getD_mem (P := fun b => 0 ≤ b ∧ b < 256) hs (by omega)
theorem zero_bytes : ∀ b ∈ zero128, (0 : Int) ≤ b ∧ b < 256 := fun b hb => by
  rw [List.eq_of_mem_replicate hb]; omega
theorem zero_at (j : Nat) : zero128.getD j 0 = 0 := by
  unfold zero128
  rw [List.getD_eq_getElem?_getD, List.getElem?_replicate]
  split <;> rfl
theorem getD_out {s : List Int} {j : Nat} (h : s.length ≤ j) : s.getD j 0 = 0 := by
  rw [List.getD_eq_getElem?_getD, List.getElem?_eq_none h]; rfl
theorem getD_left {a b : List Int} {j : Nat} (h : j < a.length) : (a ++ b).getD j 0 = a.getD j 0 := by
  rw [List.getD_eq_getElem?_getD, List.getD_eq_getElem?_getD, List.getElem?_append_left h]
theorem getD_right {a b : List Int} {j : Nat} (h : a.length ≤ j) : (a ++ b).getD j 0 = b.getD (j - a.length) 0 := by
  rw [List.getD_eq_getElem?_getD, List.getD_eq_getElem?_getD, List.getElem?_append_right h]
theorem getD_take' {a : List Int} {c j : Nat} (h : j < c) : (a.take c).getD j 0 = a.getD j 0 := by
  rw [List.getD_eq_getElem?_getD, List.getD_eq_getElem?_getD, List.getElem?_take, if_pos h]
theorem getD_drop' (a : List Int) (c j : Nat) : (a.drop c).getD j 0 = a.getD (c + j) 0 := by
  rw [List.getD_eq_getElem?_getD, List.getD_eq_getElem?_getD, List.getElem?_drop]
theorem list_ext128 {a b : List Int} (ha : a.length = 128) (hb : b.length = 128) (h : ∀ j, j < 128 → a.getD j 0 = b.getD j 0) : a = b := by
  apply List.ext_getElem (by omega)
  intro j h1 h2
  have := h j (by omega)
  rw [List.getD_eq_getElem?_getD, List.getD_eq_getElem?_getD, List.getElem?_eq_getElem h1, List.getElem?_eq_getElem h2] at this
  exact this
theorem touched_iff {off len k : Int} : touched off len k = true ↔ 0 < len ∧ off / 128 ≤ k ∧ k ≤ (off + len - 1) / 128 := by unfold touched; simp
theorem wrote_wf {S : PS} {n : Nd} (h : NWf S n) (hok : NOk n) (hk : n.kind = 1) {off : Int} {data : List Int} (h0 : 0 ≤ off) (h1 : off + data.length ≤ 136704) (hd : ∀ b ∈ data, 0 ≤ b ∧ b < 256) : NWf S (n.wrote off data) ∧ NOk (n.wrote off data) := by
  have hsz : n.size ≤ (n.wrote off data).size ∧ (data ≠ [] → off + data.length ≤ (n.wrote off data).size) ∧ (n.wrote off data).size ≤ 136704 := by
    have := h.sz
    show n.size ≤ (if data = [] then n.size else max n.size (off + data.length)) ∧ (_ → _ ≤ (if data = [] then n.size else max n.size (off + data.length))) ∧ (if data = [] then n.size else max n.size (off + data.length)) ≤ _
    split
    · rename_i he
      exact ⟨Int.le_refl _, fun hne => absurd he hne, by omega⟩
    · exact ⟨by omega, fun _ => by omega, by omega⟩
  have hdat : ∀ k, (n.wrote off data).data k = if touched off data.length k = true then some (lay off data k ((n.data k).getD zero128)) else n.data k := fun _ => rfl
  have hold : ∀ k, (∀ b ∈ (n.data k).getD zero128, 0 ≤ b ∧ b < 256) ∧ ∀ j : Nat, n.size ≤ 128 * k + j → ((n.data k).getD zero128).getD j 0 = 0 := fun k => by
    cases hq : n.data k with
    | none => exact ⟨zero_bytes, fun j _ => zero_at j⟩
    | some s => exact (h.db k s hq).2
  have hpos : ∀ len : Int, 0 < len → data.length = len → data ≠ [] := fun len hl he hn => by subst hn; simp at he; omega
  refine ⟨⟨h.kd, h.lk, ⟨by have := h.sz; omega, hsz.2.2⟩, h.md, h.fl, fun h2 => ?_, h.nm, h.sn, h.nd, fun k s hs => ?_⟩, ⟨fun k hs => ?_, fun k s hs => ?_, hok.sl⟩⟩
  · have h2' : n.kind = 2 := h2
    rw [hk] at h2'; cases h2'
  · rw [hdat] at hs
    split at hs
    · rename_i ht
      rw [touched_iff] at ht
      cases hs
      have hne := hpos _ ht.1 rfl
      have := hsz.2.1 hne
      refine ⟨by omega, lay_bytes hd (hold k).1, fun j hj => ?_⟩
      by_cases hj1 : j < 128
      · rw [lay_at _ _ _ _ hj1, if_neg (by omega)]
        exact (hold k).2 j (by omega)
      · exact getD_out (by rw [lay_len]; omega)
    · obtain ⟨a, b, c⟩ := h.db k s hs
      exact ⟨by omega, b, fun j hj => c j (by omega)⟩
  · rw [hdat] at hs
    split at hs
    · rename_i ht
      rw [touched_iff] at ht
      omega
    · exact hok.dk k hs
  · rw [hdat] at hs
    split at hs
    · cases hs; exact lay_len _ _ _ _
    · exact hok.dl k s hs
/-- a node in another's place -/
theorem put_wf {S : PS} (hO : POk S) (hW : PWf S) {i : Int} {n : Nd} (hi : (S.nodes i).isSome = true) (hk : (S.nd i).kind = 2 → n.kind = 2) (hn : NWf S n ∧ NOk n) : POk (S.put i (some n)) ∧ PWf (S.put i (some n)) := by
  have hT : ∀ j, (S.put i (some n)).nodes j = if j = i then some n else S.nodes j := fun _ => rfl
  have hmono : ∀ j, (S.nodes j).isSome = true → ((S.put i (some n)).nodes j).isSome = true := fun j hj => by
    rw [hT]; split
    · rfl
    · exact hj
  refine ⟨⟨hO.s, hO.i, fun j hj => ?_, fun j m hm => ?_⟩, ⟨?_, fun j m hm => ?_⟩⟩
  · rw [hT] at hj
    by_cases he : j = i
    · subst he; exact hO.k _ hi
    · rw [if_neg he] at hj; exact hO.k _ hj
  · rw [hT] at hm
    by_cases he : j = i
    · rw [if_pos he] at hm; cases hm; exact hn.2
    · rw [if_neg he] at hm; exact hO.n _ _ hm
  · obtain ⟨m, h1, h2⟩ := hW.root
    rw [hT]
    by_cases he : (1 : Int) = i
    · subst he
      rw [if_pos rfl]
      exact ⟨n, rfl, hk (by rw [PS.nd_some h1]; exact h2)⟩
    · rw [if_neg he]; exact ⟨m, h1, h2⟩
  · rw [hT] at hm
    by_cases he : j = i
    · rw [if_pos he] at hm; cases hm; exact hn.1.mono hmono
    · rw [if_neg he] at hm; exact (hW.n _ _ hm).mono hmono
theorem write_wf {S : PS} (hO : POk S) (hW : PWf S) {i : Int} (hi : (S.nodes i).isSome = true) (hk : (S.nd i).kind = 1) {off : Int} {data : List Int} (hd : ∀ b ∈ data, 0 ≤ b ∧ b < 256) : POk (S.write i off data).1 ∧ PWf (S.write i off data).1 := by
  unfold PS.write
  split
  · exact ⟨hO, hW⟩
  · split
    · exact ⟨hO, hW⟩
    · have hn := PS.nd_get hi
      exact put_wf hO hW hi (fun h2 => by rw [hk] at h2; cases h2) (wrote_wf (hW.n i _ hn) (hO.n i _ hn) hk (by omega) (by omega) hd)
theorem cutS_at {size k : Int} {s : List Int} (hs : s.length = 128) {j : Nat} (hj : j < 128) : (cutS size k s).getD j 0 = if k * 128 + j < size then s.getD j 0 else 0 := by
  unfold cutS
  split
  · rw [List.getD_eq_getElem?_getD, List.getElem?_map, List.getElem?_range hj]; rfl
  · rw [if_pos (by omega)]
theorem cutS_len {size k : Int} {s : List Int} (hs : s.length = 128) : (cutS size k s).length = 128 := by
  unfold cutS
  split
  · simp
  · exact hs
theorem cutS_bytes {size k : Int} {s : List Int} (hs : ∀ b ∈ s, (0 : Int) ≤ b ∧ b < 256) : ∀ b ∈ cutS size k s, (0 : Int) ≤ b ∧ b < 256 := by
  intro b hb
  unfold cutS at hb
  split at hb
  · obtain ⟨j, hj, rfl⟩ := List.mem_map.1 hb
    split
    · exact getD_mem (P := fun b => 0 ≤ b ∧ b < 256) hs (by omega)
    · omega
  · exact hs b hb
theorem trunc_wf {S : PS} {n : Nd} (h : NWf S n) (hok : NOk n) (hk : n.kind = 1) {size : Int} (h0 : 0 ≤ size ∧ size ≤ 136704) : NWf S (n.trunc size) ∧ NOk (n.trunc size) := by
  have hdat : ∀ k, (n.trunc size).data k = if size ≤ k * 128 then none else (n.data k).map (cutS size k) := fun _ => rfl
  have hget : ∀ k s, (n.trunc size).data k = some s → k * 128 < size ∧ ∃ s0, n.data k = some s0 ∧ s = cutS size k s0 := fun k s hs => by
    rw [hdat] at hs
    split at hs
    · cases hs
    · cases hq : n.data k with
      | none => rw [hq] at hs; cases hs
      | some s0 => rw [hq] at hs; cases hs; exact ⟨by omega, s0, rfl, rfl⟩
  refine ⟨⟨h.kd, h.lk, h0, h.md, h.fl, fun h2 => ?_, h.nm, h.sn, h.nd, fun k s hs => ?_⟩, ⟨fun k hs => ?_, fun k s hs => ?_, hok.sl⟩⟩
  · have h2' : n.kind = 2 := h2
    rw [hk] at h2'; cases h2'
  · obtain ⟨a, s0, h1, rfl⟩ := hget k s hs
    refine ⟨a, cutS_bytes (h.db k s0 h1).2.1, fun j hj => ?_⟩
    have hsz : (n.trunc size).size = size := rfl
    by_cases hj1 : j < 128
    · rw [cutS_at (hok.dl k s0 h1) hj1, if_neg (by omega)]
    · exact getD_out (by rw [cutS_len (hok.dl k s0 h1)]; omega)
  · cases hq : (n.trunc size).data k with
    | none => rw [hq] at hs; cases hs
    | some s =>
      obtain ⟨-, s0, h1, -⟩ := hget k s hq
      exact hok.dk k (by rw [h1]; rfl)
  · obtain ⟨-, s0, h1, rfl⟩ := hget k s hs
    exact cutS_len (hok.dl k s0 h1)
/-- a piece more laid: the bytes up to 'a', then m of them within one block -/
theorem wrote_step {n : Nd} (hok : NOk n) {off : Int} {data : List Int} {a m : Nat} (h0 : 0 ≤ off) (ha : a + m ≤ data.length) (hm : 0 < m) {k : Int} {f : Nat} (hk : k = (off + a) / 128) (hf : (f : Int) = (off + a) % 128) (hfm : f + m ≤ 128) (he : f + m = 128 ∨ a + m = data.length) :
    (n.wrote off (data.take (a + m))).data = fun x => if x = k then some ((((n.wrote off (data.take a)).data k).getD zero128).take f ++ (data.drop a).take m ++ (((n.wrote off (data.take a)).data k).getD zero128).drop (f + m)) else (n.wrote off (data.take a)).data x := by
  have hl1 : (data.take (a + m)).length = a + m := by rw [List.length_take]; omega
  have hl0 : (data.take a).length = a := by rw [List.length_take]; omega
  have hs0 : ∀ x, ((n.data x).getD zero128).length = 128 := fun x => by
    cases hq : n.data x with
    | none => simp [zero128]
    | some s => exact hok.dl x s hq
  have hgt : ∀ (c j : Nat), j < c → (data.take c).getD j 0 = data.getD j 0 := fun c j hj => by
    rw [List.getD_eq_getElem?_getD, List.getD_eq_getElem?_getD, List.getElem?_take, if_pos hj]
  funext x
  show (if touched off (data.take (a + m)).length x = true then some (lay off (data.take (a + m)) x ((n.data x).getD zero128)) else n.data x) = _
  have hW : ∀ y, (n.wrote off (data.take a)).data y = if touched off a y = true then some (lay off (data.take a) y ((n.data y).getD zero128)) else n.data y := fun y => by
    show (if touched off (data.take a).length y = true then _ else _) = _
    rw [hl0]
  rw [hl1]
  by_cases hx : x = k
  · subst hx
    rw [if_pos rfl, if_pos (touched_iff.2 ⟨by omega, by omega, by omega⟩)]
    congr 1
    have hB : (((n.wrote off (data.take a)).data x).getD zero128).length = 128 ∧ ∀ j, j < 128 → (((n.wrote off (data.take a)).data x).getD zero128).getD j 0 = if off ≤ 128 * x + j ∧ 128 * x + j < off + a then data.getD (128 * x + j - off).toNat 0 else ((n.data x).getD zero128).getD j 0 := by
      rw [hW]
      split
      · refine ⟨lay_len _ _ _ _, fun j hj => ?_⟩
        show (lay off (data.take a) x _).getD j 0 = _
        rw [lay_at _ _ _ _ hj, hl0]
        split
        · exact hgt _ _ (by omega)
        · rfl
      · rename_i ht
        rw [touched_iff] at ht
        refine ⟨hs0 x, fun j hj => ?_⟩
        rw [if_neg (by omega)]
    generalize ((n.wrote off (data.take a)).data x).getD zero128 = B at *
    refine list_ext128 (lay_len _ _ _ _) (by simp [hB.1]; omega) fun j hj => ?_
    rw [lay_at _ _ _ _ hj, hl1]
    have hlt : (B.take f).length = f := by rw [List.length_take, hB.1]; omega
    have hld : ((data.drop a).take m).length = m := by rw [List.length_take, List.length_drop]; omega
    by_cases h1 : j < f
    · rw [List.append_assoc, getD_left (by omega), getD_take' h1, hB.2 j hj]
      by_cases h2 : off ≤ 128 * x + j
      · rw [if_pos (by omega), if_pos (by omega)]
        exact hgt _ _ (by omega)
      · rw [if_neg (by omega), if_neg (by omega)]
    · by_cases h2 : j < f + m
      · rw [if_pos (by omega), hgt _ _ (by omega), List.append_assoc, getD_right (by omega), getD_left (by omega), getD_take' (by omega), getD_drop']
        congr 1
        omega
      · rw [if_neg (by omega), getD_right (by rw [List.length_append, hlt, hld]; omega), getD_drop']
        have e : f + m + (j - (B.take f ++ (data.drop a).take m).length) = j := by rw [List.length_append, hlt, hld]; omega
        rw [e, hB.2 j hj, if_neg (by omega)]
  · rw [if_neg hx, hW]
    have key : touched off ((a + m : Nat) : Int) x = touched off a x := by
      rw [Bool.eq_iff_iff, touched_iff, touched_iff]
      by_cases h0 : a = 0
      · subst h0; omega
      · omega
    rw [key]
    split
    · rename_i ht
      rw [touched_iff] at ht
      congr 1
      refine list_ext128 (lay_len _ _ _ _) (lay_len _ _ _ _) fun j hj => ?_
      rw [lay_at _ _ _ _ hj, lay_at _ _ _ _ hj, hl0, hl1]
      by_cases h1 : off ≤ 128 * x + j ∧ 128 * x + j < off + a
      · rw [if_pos h1, if_pos (by omega), hgt _ _ (by omega), hgt _ _ (by omega)]
      · rw [if_neg h1, if_neg (by omega)]
    · rfl
/-- a piece more read -/
theorem read_step {n : Nd} (hok : NOk n) {off : Int} {a m : Nat} (h0 : 0 ≤ off) {k : Int} {f : Nat} (hk : k = (off + a) / 128) (hf : (f : Int) = (off + a) % 128) (hfm : f + m ≤ 128) :
    (((n.data k).getD zero128).drop f).take m = (List.range m).map fun (j : Nat) => n.byte (off + (a + j : Nat)) := by
  have hs0 : ((n.data k).getD zero128).length = 128 := by
    cases hq : n.data k with
    | none => simp [zero128]
    | some s => exact hok.dl k s hq
  apply List.ext_getElem (by simp; omega)
  intro j h1 h2
  rw [List.getElem_take, List.getElem_drop, List.getElem_map, List.getElem_range]
  unfold Nd.byte
  have hj : j < m := by simp at h2; exact h2
  have e1 : (off + ((a + j : Nat) : Int)) / 128 = k := by omega
  have e2 : ((off + ((a + j : Nat) : Int)) % 128).toNat = f + j := by omega
  rw [e1, e2, List.getD_eq_getElem?_getD, List.getElem?_eq_getElem (by omega)]; rfl
end Go.Proofs.YteffoihkljkfdaaDoor

/- One node is another one: where all lies then. -/
namespace Go.Proofs.YteffoihkljkfdaaDoor
set_option linter.unusedSimpArgs false
set_option linter.unusedVariables false
open Go.RowKit

theorem upd_pw {w w6 : World} {gp bn c : Nat} {S : PS} {A : Int → NA} {own : Nat → Option (Int × Nat)} (h : PW w gp bn c S A own) {i : Int} {n n' : Nd} {a' : NA} {ex : List Nat} (hi : S.nodes i = some n)
    (hS : POk (S.put i (some n')) ∧ PWf (S.put i (some n'))) (hf : Fr ex w w6) (hex : ∀ b ∈ ex, b < w.heap.size → ∃ q, own b = some q ∧ q.1 = i) (hA : NodeAt w6 a' n') (hg : a'.g = (A i).g)
    (hdb : ∀ b, a'.db = some b → (A i).db = some b ∨ w.heap.size ≤ b) (hsb : ∀ b, a'.sb = some b → (A i).sb = some b ∨ w.heap.size ≤ b) (hnb : ∀ b, a'.nb = some b → (A i).nb = some b ∨ w.heap.size ≤ b)
    (hap : ∀ b, w.heap.size ≤ b → (a'.db = some b → a'.sb ≠ some b ∧ a'.nb ≠ some b) ∧ (a'.sb = some b → a'.nb ≠ some b)) (hh : (n'.kind = 2 → a'.nb.isSome = true) ∧ (n'.kind = 1 → a'.db.isSome = true)) :
    ∃ own', (∃ A', PW w6 gp bn c (S.put i (some n')) A' own') ∧ (∀ b, b < w.heap.size → own' b = own b) ∧ (∀ ga, w.heap.size ≤ ga → a'.db ≠ some ga → a'.sb ≠ some ga → a'.nb ≠ some ga → own' ga = none) ∧ Un own w w6 := by
  have hog := h.t.og
  have hiog := hog i _ hi
  have hlti := (h.t.n i _ hi).lts
  let own' : Nat → Option (Int × Nat) := fun b => if b < w.heap.size then own b else if a'.db = some b then some (i, 1) else if a'.sb = some b then some (i, 2) else if a'.nb = some b then some (i, 3) else none
  let A' : Int → NA := fun j => if j = i then a' else A j
  have ho : ∀ b, b < w.heap.size → own' b = own b := fun b hb => if_pos hb
  have hnew : ∀ b, w.heap.size ≤ b → own' b = if a'.db = some b then some (i, 1) else if a'.sb = some b then some (i, 2) else if a'.nb = some b then some (i, 3) else none := fun b hb => if_neg (by omega)
  have hnd : ∀ j, (S.put i (some n')).nodes j = if j = i then some n' else S.nodes j := fun _ => rfl
  have hAi : A' i = a' := if_pos rfl
  have hAo : ∀ j, j ≠ i → A' j = A j := fun j hj => if_neg hj
  have hgp := hat_lt h.t.p
  have hbn := h.t.m.lt
  have hi1 := h.o.k i (by rw [hi]; rfl)
  have hnotp : ∀ b q, b < w.heap.size → own b = some (-1, q) → b ∉ ex := fun b q hb hq hm => by
    obtain ⟨q', h1, h2⟩ := hex b hm hb
    rw [hq] at h1
    cases h1
    have h3 : (-1 : Int) = i := h2
    omega
  refine ⟨own', ⟨A', ⟨⟨?_, ?_, fun j m hj => ?_, ⟨(ho _ hgp).trans h.t.op.1, (ho _ hbn).trans h.t.op.2⟩, fun j m hj => ?_⟩, hS.1, hS.2, fun j m hj => ?_⟩⟩, ho, fun ga e1 e2 e3 e4 => ?_, hf.un fun b hb hlt => by obtain ⟨q, hq, -⟩ := hex b hb hlt; rw [hq]; simp⟩
  · exact (hf.block gp hgp (hnotp gp 0 hgp h.t.op.1)).trans h.t.p
  · have e : ptrM (S.put i (some n')) A' = ptrM S A := by
      funext y
      show ((S.put i (some n')).nodes y).map _ = (S.nodes y).map _
      rw [hnd]
      by_cases hy : y = i
      · subst hy
        rw [if_pos rfl, hi]
        show some (Value.pointer (some ⟨(A' y).g, 0, none⟩)) = some (Value.pointer (some ⟨(A y).g, 0, none⟩))
        rw [hAi, hg]
      · rw [if_neg hy, hAo y hy]
    rw [e]
    exact h.t.m.fr hf (hnotp bn 1 hbn h.t.op.2)
  · rw [hnd] at hj
    by_cases hy : j = i
    · subst hy
      rw [if_pos rfl] at hj; cases hj
      rw [hAi]; exact hA
    · rw [if_neg hy] at hj
      rw [hAo j hy]
      have hlj := (h.t.n j m hj).lts
      have hoj := hog j m hj
      have k : ∀ b t, b < w.heap.size → own b = some t → t.1 = j → b ∉ ex := fun b t hb ht h1 hm => by
        obtain ⟨q, h2, h3⟩ := hex b hm hb
        rw [ht] at h2
        cases h2
        exact hy (h1.symm.trans h3)
      exact (h.t.n j m hj).fr hf (k _ _ hlj.1 hoj.1 rfl) (fun b hb => k _ _ (hlj.2.1 b hb) (hoj.2.1 b hb) rfl) (fun b hb => k _ _ (hlj.2.2.1 b hb) (hoj.2.2.1 b hb) rfl) (fun b hb => k _ _ (hlj.2.2.2 b hb) (hoj.2.2.2 b hb) rfl)
  · rw [hnd] at hj
    by_cases hy : j = i
    · subst hy
      rw [if_pos rfl] at hj; cases hj
      rw [hAi]
      refine ⟨by rw [hg]; exact (ho _ hlti.1).trans hiog.1, fun b hb => ?_, fun b hb => ?_, fun b hb => ?_⟩
      · rcases hdb b hb with e | e
        · exact (ho _ (hlti.2.1 b e)).trans (hiog.2.1 b e)
        · rw [hnew _ e, if_pos hb]
      · rcases hsb b hb with e | e
        · exact (ho _ (hlti.2.2.1 b e)).trans (hiog.2.2.1 b e)
        · rw [hnew _ e, if_neg (fun h1 => ((hap b e).1 h1).1 hb), if_pos hb]
      · rcases hnb b hb with e | e
        · exact (ho _ (hlti.2.2.2 b e)).trans (hiog.2.2.2 b e)
        · rw [hnew _ e, if_neg (fun h1 => ((hap b e).1 h1).2 hb), if_neg (fun h1 => (hap b e).2 h1 hb), if_pos hb]
    · rw [if_neg hy] at hj
      rw [hAo j hy]
      have hlj := (h.t.n j m hj).lts
      have hoj := hog j m hj
      exact ⟨(ho _ hlj.1).trans hoj.1, fun b hb => (ho _ (hlj.2.1 b hb)).trans (hoj.2.1 b hb), fun b hb => (ho _ (hlj.2.2.1 b hb)).trans (hoj.2.2.1 b hb), fun b hb => (ho _ (hlj.2.2.2 b hb)).trans (hoj.2.2.2 b hb)⟩
  · rw [hnd] at hj
    by_cases hy : j = i
    · subst hy
      rw [if_pos rfl] at hj; cases hj
      rw [hAi]; exact hh
    · rw [if_neg hy] at hj
      rw [hAo j hy]
      exact h.h j m hj
  · rw [hnew _ e1, if_neg e2, if_neg e3, if_neg e4]
end Go.Proofs.YteffoihkljkfdaaDoor

/- maps.Clone: the walks. -/
namespace Go.Proofs.YteffoihkljkfdaaDoor
set_option linter.unusedSimpArgs false
set_option linter.unusedVariables false
open Go.RowKit Go.Maps Go.Shelf

theorem MG.copy {k : TypeId} {κ : Type} {E : KE k κ} {w w' : World} {b b' c : Nat} {m : κ → Option Value} (h : MG E w b m c) (he : hat w' b' = hat w b) : MG E w' b' m c := by
  obtain ⟨D, ⟨es, clock, hb, h1⟩, h2⟩ := h
  exact ⟨D, ⟨es, clock, he.trans hb, h1⟩, h2⟩
theorem MG.obj {k : TypeId} {κ : Type} {E : KE k κ} {w : World} {b c : Nat} {m : κ → Option Value} (h : MG E w b m c) : ∃ es clock, w.heap[b]? = some (.map es clock) := by
  obtain ⟨D, ⟨es, clock, hb, h1⟩, h2⟩ := h
  exact ⟨es, clock, hb⟩
set_option maxHeartbeats 4000000 in
set_option maxRecDepth 100000 in
theorem cloneD_any {w : World} {v : Value} {ob : Option Nat} {m : Int → Option Value} {c : Nat} (h : MO kInt w v ob m c) :
    Calls Tryd.prog 39 #[v] w fun e w' => ∃ v' ob', e = .returned v' ∧ MO kInt w' v' ob' m c ∧ (∀ g, ob' = some g → w.heap.size ≤ g) ∧ (ob.isSome = true → ob'.isSome = true) ∧ Below w.heap.size w w' := by
  rcases h with ⟨rfl, rfl, h1, h2⟩ | ⟨b, rfl, rfl, h⟩
  · have hq := fun w => run_eql_map_nil_sl (P := Tryd.prog) w 71 _ _ none Tryd.underlying71
    go_enter Tryd.func39, Tryd.ntmps39
    go_wp2
    go_ret
    exact ⟨_, none, rfl, .inl ⟨rfl, rfl, h1, h2⟩, fun g hg => (nomatch hg), fun h => (nomatch h), Below.refl _ _⟩
  · obtain ⟨es, clock, hb⟩ := h.obj
    have H := Lib.hid h
    have hq := fun w => run_eql_map_nil_sl (P := Tryd.prog) w 71 _ _ (some b) Tryd.underlying71
    clear h
    go_enter Tryd.func39, Tryd.ntmps39
    go_wp2
    rw [run_callFunc_extern Tryd.func56 (by kernel_rfl) (by kernel_rfl) (by kernel_rfl) (e := Extern.MapsClone.clone) (by kernel_rfl), run_maps_clone_sl w 71 hb]
    simp only [Result.andThen]
    rw [Oper.upon_value]
    go_wp2
    rw [run_typeAssert_map_sl _ 71 20 _ _ _ Tryd.underlying71]
    simp only [Result.andThen]
    rw [Oper.upon_value]
    go_wp2
    go_ret
    exact ⟨_, some w.heap.size, rfl, .inr ⟨_, rfl, rfl, H.out.copy ((hopN w _).1.trans (show some _ = w.heap[b]? from hb.symm))⟩, fun g hg => by cases hg; exact Nat.le_refl _, fun _ => rfl, (Below.refl _ _).alloc (Nat.le_refl _) _⟩
set_option maxHeartbeats 4000000 in
set_option maxRecDepth 100000 in
theorem cloneN_any {w : World} {v : Value} {ob : Option Nat} {m : ByteArray → Option Value} {c : Nat} (h : MO kStr w v ob m c) :
    Calls Tryd.prog 41 #[v] w fun e w' => ∃ v' ob', e = .returned v' ∧ MO kStr w' v' ob' m c ∧ (∀ g, ob' = some g → w.heap.size ≤ g) ∧ (ob.isSome = true → ob'.isSome = true) ∧ Below w.heap.size w w' := by
  rcases h with ⟨rfl, rfl, h1, h2⟩ | ⟨b, rfl, rfl, h⟩
  · have hq := fun w => run_eql_map_nil_sl (P := Tryd.prog) w 70 _ _ none Tryd.underlying70
    go_enter Tryd.func41, Tryd.ntmps41
    go_wp2
    go_ret
    exact ⟨_, none, rfl, .inl ⟨rfl, rfl, h1, h2⟩, fun g hg => (nomatch hg), fun h => (nomatch h), Below.refl _ _⟩
  · obtain ⟨es, clock, hb⟩ := h.obj
    have H := Lib.hid h
    have hq := fun w => run_eql_map_nil_sl (P := Tryd.prog) w 70 _ _ (some b) Tryd.underlying70
    clear h
    go_enter Tryd.func41, Tryd.ntmps41
    go_wp2
    rw [run_callFunc_extern Tryd.func56 (by kernel_rfl) (by kernel_rfl) (by kernel_rfl) (e := Extern.MapsClone.clone) (by kernel_rfl), run_maps_clone_sl w 70 hb]
    simp only [Result.andThen]
    rw [Oper.upon_value]
    go_wp2
    rw [run_typeAssert_map_sl _ 70 20 _ _ _ Tryd.underlying70]
    simp only [Result.andThen]
    rw [Oper.upon_value]
    go_wp2
    go_ret
    exact ⟨_, some w.heap.size, rfl, .inr ⟨_, rfl, rfl, H.out.copy ((hopN w _).1.trans (show some _ = w.heap[b]? from hb.symm))⟩, fun g hg => by cases hg; exact Nat.le_refl _, fun _ => rfl, (Below.refl _ _).alloc (Nat.le_refl _) _⟩
end Go.Proofs.YteffoihkljkfdaaDoor
