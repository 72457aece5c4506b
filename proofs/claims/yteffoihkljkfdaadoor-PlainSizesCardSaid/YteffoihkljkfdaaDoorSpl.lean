/- path.Split: the walk. -/
import Derived.Test.YteffoihkljkfdaaDoorSam
import Derived.Test.YteffoihkljkfdaaDoorCut
namespace Go.Proofs.YteffoihkljkfdaaDoor
set_option linter.unusedSimpArgs false
set_option linter.unusedVariables false
open Go.RowKit

def slash : ByteArray := { data := #[47] }
/-- the names of a path, as texts -/
def pieces (p : ByteArray) : List ByteArray := Lib.splitB slash 0 (Lib.countB (p.extract 1 p.size) slash) (p.extract 1 p.size)
def formed (p : ByteArray) : Prop := ¬ 400 < (p.size : Int) ∧ Lib.hasPrefix p.data.toList [47] = true
def split2 (p : ByteArray) : Prop := Lib.hasSuffix p.data.toList [47] = false ∧ Lib.contains p.data.toList [47, 47] = false
instance (p : ByteArray) : Decidable (formed p) := by unfold formed; infer_instance
instance (p : ByteArray) : Decidable (split2 p) := by unfold split2; infer_instance
def spl (p : ByteArray) : List ByteArray × Int :=
  if ¬ formed p then ([], 70) else if p.toList = [47] then ([], 0) else if ¬ split2 p then ([], 70) else if ∀ n ∈ pieces p, NameMay n.data.toList then (pieces p, 0) else ([], 71)
theorem spl_form {p : ByteArray} (h : ¬ formed p) : spl p = ([], 70) := by unfold spl; rw [if_pos h]
theorem spl_root {p : ByteArray} (h : formed p) (h2 : p.toList = [47]) : spl p = ([], 0) := by unfold spl; rw [if_neg (by simpa using h), if_pos h2]
theorem spl_form2 {p : ByteArray} (h : formed p) (h2 : p.toList ≠ [47]) (h3 : ¬ split2 p) : spl p = ([], 70) := by unfold spl; rw [if_neg (by simpa using h), if_neg h2, if_pos h3]
theorem spl_yes {p : ByteArray} (h : formed p) (h2 : p.toList ≠ [47]) (h3 : split2 p) (h4 : ∀ n ∈ pieces p, NameMay n.data.toList) : spl p = (pieces p, 0) := by unfold spl; rw [if_neg (by simpa using h), if_neg h2, if_neg (by simpa using h3), if_pos h4]
theorem spl_no {p : ByteArray} (h : formed p) (h2 : p.toList ≠ [47]) (h3 : split2 p) (h4 : ¬ ∀ n ∈ pieces p, NameMay n.data.toList) : spl p = ([], 71) := by unfold spl; rw [if_neg (by simpa using h), if_neg h2, if_neg (by simpa using h3), if_neg h4]

theorem pieces_len (p : ByteArray) : (pieces p).length = Lib.countB (p.extract 1 p.size) slash + 1 := Lib.splitB_all slash (by decide) 0 _ _ rfl
theorem countB_small (p : ByteArray) (h : p.size ≤ 400) : Lib.countB (p.extract 1 p.size) slash ≤ 400 := by
  have := Lib.countB_le slash (by decide) 400 (p.extract 1 p.size) (by simp; omega)
  simp at this
  omega

set_option maxHeartbeats 2000000 in
set_option maxRecDepth 100000 in
theorem split_any (p : ByteArray) (m : Int) (w : World) (hm : w.cell? ⟨0, 0, none⟩ = some (.int .i64 m)) :
    Calls Tryd.prog 26 #[.string p] w fun e w' => ∃ v, e = .returned (.tuple #[v, .int .i64 (spl p).2]) ∧ Strs w' w.heap.size v (spl p).1 ∧ Below w.heap.size w w' := by
  have HM := Lib.hid hm
  clear hm
  cases h1 : decide (400 < (p.size : Int))
  · cases h2 : Lib.hasPrefix p.data.toList [47]
    · have e := spl_form (p := p) (fun h => by rw [h.2] at h2; cases h2)
      go_enter Tryd.func26, Tryd.ntmps26
      go_wp2_with fail
      refine (Tryd.strings_HasPrefix _ _ _).mono ?_; rintro e w' ⟨rfl, hw⟩; rw [hw]
      rw [show ({ data := #[47] } : ByteArray).data.toList = [47] from rfl, h2]
      go_wp2_with fail
      go_ret2
      exact ⟨.slice none 0 0, by rw [e]; rfl, by rw [e]; exact .inl ⟨rfl, rfl⟩, Below.refl _ _⟩
    · have hf : formed p := ⟨by simpa using h1, h2⟩
      have hs400 : p.size ≤ 400 := by have := hf.1; omega
      have hp1 : 1 ≤ p.size := by
        have h := hf.2
        rw [← len_data]
        cases hd : p.data.toList with
        | nil => rw [hd] at h; cases h
        | cons b l => simp
      have HF := Lib.hid hf
      clear hf
      cases h3 : p.toList == [47]
      · have h3' : p.toList ≠ [47] := beq_eq_false_iff_ne.1 h3
        have H3 := Lib.hid h3'
        clear h3'
        cases h4 : Lib.hasSuffix p.data.toList [47]
        · cases h5 : Lib.contains p.data.toList [47, 47]
          · have H45 := Lib.hid (show split2 p from ⟨h4, h5⟩)
            go_enter Tryd.func26, Tryd.ntmps26
            go_wp2_with fail
            refine (Tryd.strings_HasPrefix _ _ _).mono ?_; rintro e w' ⟨rfl, hw⟩; rw [hw]
            rw [show ({ data := #[47] } : ByteArray).data.toList = [47] from rfl, h2]
            go_wp2_with fail
            refine (Tryd.strings_HasSuffix _ _ _ (by omega)).mono ?_; rintro e w' ⟨rfl, hw⟩; rw [hw]
            rw [show ({ data := #[47] } : ByteArray).data.toList = [47] from rfl, h4]
            go_wp2_with fail
            refine (Tryd.strings_Contains _ _ m _ (by omega) HM.out).mono ?_; rintro e w' ⟨rfl, hw⟩; rw [hw]
            rw [show ({ data := #[47, 47] } : ByteArray).data.toList = [47, 47] from rfl, h5]
            go_wp2_with fail
            refine (Tryd.strings_Split _ _ m _ (by simp; omega) HM.out (by decide)).mono ?_; rintro e w' ⟨rfl, hw⟩; rw [hw]
            have hN := pieces_len p
            have hcs : Lib.countB (p.extract 1 p.size) slash + 1 ≤ 401 := by have := countB_small p hs400; omega
            unfold pieces at hN
            rw [show ({ data := #[47] } : ByteArray) = slash from rfl]
            have hpc : Lib.splitB slash 0 (Lib.countB (p.extract 1 p.size) slash) (p.extract 1 p.size) = pieces p := rfl
            rw [hpc] at hN ⊢
            generalize Lib.countB (p.extract 1 p.size) slash + 1 = N at *
            have HN := Lib.hid hN
            have f0 : hat (w.alloc (.cells ((pieces p).map Value.string).toArray 9)) w.heap.size = some (.cells ((pieces p).map Value.string).toArray 9) := by simp [go_sem]
            have hb0 : Below w.heap.size w (w.alloc (.cells ((pieces p).map Value.string).toArray 9)) := (Below.refl _ _).alloc (Nat.le_refl _) _
            generalize w.alloc (.cells ((pieces p).map Value.string).toArray 9) = w1 at *
            clear hw hpc hN
            go_wp2_with fail
            go_loopw [29] (fun i wr => ∃ k : Nat, k ≤ N ∧ i = .int .i64 k ∧ hat wr w.heap.size = some (.cells ((pieces p).map Value.string).toArray 9) ∧ Below w.heap.size w wr ∧ ∀ j, j < k → ∀ n, (pieces p)[j]? = some n → NameMay n.data.toList) (fun i _ => N - (intOf i).toNat)
            case atStart => exact ⟨0, Nat.zero_le _, rfl, f0, hb0, fun j hj => by omega⟩
            case round =>
              clear f0 hb0
              obtain ⟨k, hk, rfl, f0, hb, hok⟩ := hrel
              have HK := Lib.hid hok
              clear hok
              by_cases hkw : k < N
              · obtain ⟨x, hx⟩ := getElem_opt (l := pieces p) (k := k) (by rw [HN.out]; exact hkw)
                have cx : cellOf k (hat wr w.heap.size) = some (.string x) := by rw [← cell?_of_hat, cell_hat f0]; simp [hx]
                have Hx := Lib.hid hx
                have F0 := Lib.hid f0
                clear hx f0
                go_wp2_with fail
                refine (check_any x _).mono ?_; rintro e w2 ⟨rfl, hb2⟩
                have hb := below_call hb hb2 hb.size
                obtain ⟨f0, z0⟩ := hop hb2 F0.out
                clear hb2 cx
                by_cases hn : NameMay x.data.toList
                · rw [chk_yes hn]
                  have HX := Lib.hid hn
                  clear hn
                  go_wp2_with fail
                  go_roundw
                  case rel =>
                    refine ⟨k + 1, by omega, by go_num, f0, hb, fun j hj n hjn => ?_⟩
                    by_cases h : j = k
                    · subst h; rw [Hx.out] at hjn; rw [← Option.some.inj hjn]; exact HX.out
                    · exact HK.out j (by omega) n hjn
                  case measure => (show N - (k + 1) < N - k); omega
                · rw [chk_no hn]
                  have he := spl_no HF.out H3.out H45.out (fun h => hn (h x (List.mem_of_getElem? Hx.out)))
                  have HE := Lib.hid he
                  clear hn he
                  go_wp2_with fail
                  go_ret2
                  exact ⟨.slice none 0 0, by rw [HE.out]; rfl, by rw [HE.out]; exact .inl ⟨rfl, rfl⟩, hb⟩
              · obtain rfl : k = N := by omega
                have he := spl_yes HF.out H3.out H45.out (fun n hn => by
                  obtain ⟨j, hj, rfl⟩ := List.getElem_of_mem hn
                  exact HK.out j (by rw [← HN.out]; exact hj) _ (List.getElem?_eq_getElem hj))
                have HE := Lib.hid he
                clear he
                go_wp2_with fail
                go_ret2
                refine ⟨.slice (some ⟨w.heap.size, 0, none⟩) k k, by rw [HE.out]; rfl, ?_, hb⟩
                rw [HE.out]
                refine .inr ⟨w.heap.size, 0, k, by rw [HN.out], by rw [HN.out]; exact Nat.le_refl _, by rw [HN.out]; omega, Nat.le_refl _, hat_lt f0, fun j x hx => ?_⟩
                rw [Nat.zero_add, cell_hat f0]; simp [hx]
          · have e := spl_form2 HF.out H3.out (fun h => by rw [h.2] at h5; cases h5)
            go_enter Tryd.func26, Tryd.ntmps26
            go_wp2_with fail
            refine (Tryd.strings_HasPrefix _ _ _).mono ?_; rintro e w' ⟨rfl, hw⟩; rw [hw]
            rw [show ({ data := #[47] } : ByteArray).data.toList = [47] from rfl, h2]
            go_wp2_with fail
            refine (Tryd.strings_HasSuffix _ _ _ (by omega)).mono ?_; rintro e w' ⟨rfl, hw⟩; rw [hw]
            rw [show ({ data := #[47] } : ByteArray).data.toList = [47] from rfl, h4]
            go_wp2_with fail
            refine (Tryd.strings_Contains _ _ m _ (by omega) HM.out).mono ?_; rintro e w' ⟨rfl, hw⟩; rw [hw]
            rw [show ({ data := #[47, 47] } : ByteArray).data.toList = [47, 47] from rfl, h5]
            go_wp2_with fail
            go_ret2
            exact ⟨.slice none 0 0, by rw [e]; rfl, by rw [e]; exact .inl ⟨rfl, rfl⟩, Below.refl _ _⟩
        · have e := spl_form2 HF.out H3.out (fun h => by rw [h.1] at h4; cases h4)
          go_enter Tryd.func26, Tryd.ntmps26
          go_wp2_with fail
          refine (Tryd.strings_HasPrefix _ _ _).mono ?_; rintro e w' ⟨rfl, hw⟩; rw [hw]
          rw [show ({ data := #[47] } : ByteArray).data.toList = [47] from rfl, h2]
          go_wp2_with fail
          refine (Tryd.strings_HasSuffix _ _ _ (by omega)).mono ?_; rintro e w' ⟨rfl, hw⟩; rw [hw]
          rw [show ({ data := #[47] } : ByteArray).data.toList = [47] from rfl, h4]
          go_wp2_with fail
          go_ret2
          exact ⟨.slice none 0 0, by rw [e]; rfl, by rw [e]; exact .inl ⟨rfl, rfl⟩, Below.refl _ _⟩
      · have e := spl_root HF.out (beq_iff_eq.1 h3)
        go_enter Tryd.func26, Tryd.ntmps26
        go_wp2_with fail
        refine (Tryd.strings_HasPrefix _ _ _).mono ?_; rintro e w' ⟨rfl, hw⟩; rw [hw]
        rw [show ({ data := #[47] } : ByteArray).data.toList = [47] from rfl, h2]
        go_wp2_with fail
        go_ret2
        exact ⟨.slice none 0 0, by rw [e]; rfl, by rw [e]; exact .inl ⟨rfl, rfl⟩, Below.refl _ _⟩
  · have e := spl_form (p := p) (fun h => h.1 (by simpa using h1))
    go_enter Tryd.func26, Tryd.ntmps26
    go_wp2_with fail
    go_ret2
    exact ⟨.slice none 0 0, by rw [e]; rfl, by rw [e]; exact .inl ⟨rfl, rfl⟩, Below.refl _ _⟩
end Go.Proofs.YteffoihkljkfdaaDoor
