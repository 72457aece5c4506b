/- Contracts and laws that the claim leans on, laid together in the order in which they build. -/
import Derived.Test.YthioepdgnbdohaaM08
import Derived.Test.YthioepdgnbdohaaM09
import Derived.Test.YthioepdgnbdohaaM10

/- Cut off behind any of the writes, and looked at anew: the plain law. -/
namespace Go.Proofs.Ythioepdgnbdohaa
set_option linter.unusedSimpArgs false
set_option linter.unusedVariables false
open Go.RowKit

theorem mem_differL {N : Nat} {S I : Nat → List Int} {sort : Nat → Bool} {x : Int} : x ∈ differL N S I sort ↔ ∃ i : Nat, i < N ∧ x = i ∧ S i ≠ I i ∧ sort i = true := by
  unfold differL
  simp only [List.mem_map, List.mem_filter, List.mem_range, Bool.and_eq_true, decide_eq_true_eq]
  constructor
  · rintro ⟨i, ⟨h1, h2, h3⟩, rfl⟩; exact ⟨i, h1, rfl, h2, h3⟩
  · rintro ⟨i, h1, rfl, h2, h3⟩; exact ⟨i, ⟨h1, h2, h3⟩, rfl⟩
theorem differL_nodup (N : Nat) (S I : Nat → List Int) (sort : Nat → Bool) : (differL N S I sort).Nodup := by
  unfold differL
  refine List.Pairwise.map _ (R := fun a b : Nat => a ≠ b) (fun a b h => by omega) ?_
  exact List.Pairwise.filter _ List.nodup_range
/-- the three rows -/
def row0 (N : Nat) (Y : Int) (S I : Nat → List Int) (fm : Int → Bool) : List Int := differL N S I (fun i => !decide ((i : Int) ≤ Y) && fm i)
def row1 (N : Nat) (Y : Int) (S I : Nat → List Int) : List Int := differL N S I (fun i => decide ((i : Int) ≤ Y))
def row2 (N : Nat) (Y : Int) (S I : Nat → List Int) (fm : Int → Bool) : List Int := differL N S I (fun i => !decide ((i : Int) ≤ Y) && !fm i)
theorem writeL_rows (N : Nat) (Y : Int) (S I : Nat → List Int) (fm : Int → Bool) : writeL N Y S I fm = row0 N Y S I fm ++ row1 N Y S I ++ row2 N Y S I fm := rfl
theorem mem_row0 {N : Nat} {Y : Int} {S I : Nat → List Int} {fm : Int → Bool} {j : Nat} : (j : Int) ∈ row0 N Y S I fm ↔ j < N ∧ S j ≠ I j ∧ ¬ (j : Int) ≤ Y ∧ fm j = true := by
  unfold row0
  rw [mem_differL]
  constructor
  · rintro ⟨i, h1, h2, h3, h4⟩
    have : j = i := by omega
    subst this
    simp at h4
    exact ⟨h1, h3, by omega, h4.2⟩
  · rintro ⟨h1, h2, h3, h4⟩
    exact ⟨j, h1, rfl, h2, by simpa using ⟨by omega, h4⟩⟩
theorem mem_row1 {N : Nat} {Y : Int} {S I : Nat → List Int} {j : Nat} : (j : Int) ∈ row1 N Y S I ↔ j < N ∧ S j ≠ I j ∧ (j : Int) ≤ Y := by
  unfold row1
  rw [mem_differL]
  constructor
  · rintro ⟨i, h1, h2, h3, h4⟩
    have : j = i := by omega
    subst this
    simp at h4
    exact ⟨h1, h3, h4⟩
  · rintro ⟨h1, h2, h3⟩
    exact ⟨j, h1, rfl, h2, by simpa using h3⟩
theorem mem_row2 {N : Nat} {Y : Int} {S I : Nat → List Int} {fm : Int → Bool} {j : Nat} : (j : Int) ∈ row2 N Y S I fm ↔ j < N ∧ S j ≠ I j ∧ ¬ (j : Int) ≤ Y ∧ fm j = false := by
  unfold row2
  rw [mem_differL]
  constructor
  · rintro ⟨i, h1, h2, h3, h4⟩
    have : j = i := by omega
    subst this
    simp at h4
    exact ⟨h1, h3, by omega, h4.2⟩
  · rintro ⟨h1, h2, h3, h4⟩
    exact ⟨j, h1, rfl, h2, by simpa using ⟨by omega, h4⟩⟩
theorem mem_writeL {N : Nat} {Y : Int} {S I : Nat → List Int} {fm : Int → Bool} {j : Nat} : (j : Int) ∈ writeL N Y S I fm ↔ j < N ∧ S j ≠ I j := by
  rw [writeL_rows, List.mem_append, List.mem_append, mem_row0, mem_row1, mem_row2]
  constructor
  · rintro ((⟨a, b, -⟩ | ⟨a, b, -⟩) | ⟨a, b, -⟩) <;> exact ⟨a, b⟩
  · rintro ⟨a, b⟩
    by_cases h : (j : Int) ≤ Y
    · exact .inl (.inr ⟨a, b, h⟩)
    · cases hf : fm j with
      | true => exact .inl (.inl ⟨a, b, h, rfl⟩)
      | false => exact .inr ⟨a, b, h, rfl⟩
theorem row_nat {N : Nat} {S I : Nat → List Int} {sort : Nat → Bool} {x : Int} (h : x ∈ differL N S I sort) : ∃ j : Nat, x = j := by
  obtain ⟨i, -, h, -⟩ := mem_differL.1 h; exact ⟨i, h⟩
theorem writeL_nat {N : Nat} {Y : Int} {S I : Nat → List Int} {fm : Int → Bool} {x : Int} (h : x ∈ writeL N Y S I fm) : ∃ j : Nat, x = j := by
  rw [writeL_rows, List.mem_append, List.mem_append] at h
  rcases h with (h | h) | h <;> exact row_nat h
theorem writeL_nodup (N : Nat) (Y : Int) (S I : Nat → List Int) (fm : Int → Bool) : (writeL N Y S I fm).Nodup := by
  rw [writeL_rows, List.nodup_append, List.nodup_append]
  refine ⟨⟨differL_nodup _ _ _ _, differL_nodup _ _ _ _, fun a ha b hb e => ?_⟩, differL_nodup _ _ _ _, fun a ha b hb e => ?_⟩
  · subst e
    obtain ⟨j, rfl⟩ := row_nat ha
    exact (mem_row0.1 ha).2.2.1 (mem_row1.1 hb).2.2
  · subst e
    obtain ⟨j, rfl⟩ := row_nat hb
    rw [List.mem_append] at ha
    rcases ha with ha | ha
    · have h1 := (mem_row0.1 ha).2.2.2
      have h2 := (mem_row2.1 hb).2.2.2
      rw [h1] at h2; cases h2
    · exact (mem_row2.1 hb).2.2.1 (mem_row1.1 ha).2.2
/-- some of the sectors are already as they should be -/
def cutS (S W : Nat → List Int) (P : List Int) : Nat → List Int := fun j => if (j : Int) ∈ P then W j else S j
theorem differL_cut (N : Nat) (W S : Nat → List Int) (P : List Int) (sort : Nat → Bool) : differL N W (cutS S W P) sort = (differL N W S sort).filter (fun x => decide (x ∉ P)) := by
  unfold differL
  rw [List.filter_map, List.filter_filter]
  congr 1
  apply List.filter_congr
  intro i _
  unfold cutS
  simp only [Function.comp]
  by_cases h : (i : Int) ∈ P
  · simp [h]
  · simp [h]
theorem writeL_cut (N : Nat) (Y : Int) (W S : Nat → List Int) (P : List Int) (fm : Int → Bool) : writeL N Y W (cutS S W P) fm = (writeL N Y W S fm).filter (fun x => decide (x ∉ P)) := by
  unfold writeL
  rw [differL_cut, differL_cut, differL_cut, List.filter_append, List.filter_append]
theorem filter_take {L : List Int} (h : L.Nodup) (n : Nat) : L.filter (fun x => decide (x ∉ L.take n)) = L.drop n := by
  conv => lhs; arg 2; rw [← List.take_append_drop n L]
  rw [List.filter_append]
  have h1 : (L.take n).filter (fun x => decide (x ∉ L.take n)) = [] := by
    rw [List.filter_eq_nil_iff]
    intro a ha
    simpa using ha
  have h2 : (L.drop n).filter (fun x => decide (x ∉ L.take n)) = L.drop n := by
    rw [List.filter_eq_self]
    intro a ha
    have hd := h
    rw [← List.take_append_drop n L, List.nodup_append] at hd
    simpa using fun hm => hd.2.2 a hm a ha rfl
  rw [h1, h2, List.nil_append]
theorem mem_take_rows {A B C : List Int} {n : Nat} {x : Int} (h : x ∈ (A ++ B ++ C).take n) (hn : n ≤ A.length + B.length) : x ∈ A ++ B := by
  rw [List.take_append_of_le_length (by simp; omega)] at h
  exact List.mem_of_mem_take h
theorem mem_rows_take {A B C : List Int} {n : Nat} {x : Int} (h : x ∈ A ++ B) (hn : A.length + B.length ≤ n) : x ∈ (A ++ B ++ C).take n := by
  rw [List.take_append, List.mem_append]
  left
  rw [List.take_of_length_le (by simp; omega)]
  exact h
/-- CUT OFF BEHIND ANY OF THE WRITES, AND LOOKED AT ANEW -/
theorem cut_law {X Y : Int} {N : Nat} (hY : 1 ≤ Y) (hN : X = N) {S : Nat → List Int} (hS : ∀ j, j < N → (S j).length = 128 ∧ Bytes (S j)) (hs : soundR (S 1) = true) (hSY : Y < N) (n : Nat) :
    let W := repS Y (lookZ X Y S)
    let L := writeL N Y W S (lookZ X Y S).st.fm
    let z' := lookZ X Y (cutS S W (L.take n))
    (∀ j, repS Y z' j = W j) ∧ writeL N Y (repS Y z') (cutS S W (L.take n)) z'.st.fm = L.drop n ∧ (∀ i, (z'.T i).isSome = ((lookZ X Y S).T i).isSome) ∧ z'.st.cl = (lookZ X Y S).st.cl ∧ cutS S W (L.take n) 0 = S 0 ∧ (rootOk S → rootOk (cutS S W (L.take n))) ∧ L.length ≤ N := by
  intro W L z'
  have hA : ∀ j : Nat, isD X Y j = true → (S j).length = 128 ∧ Bytes (S j) := fun j hj => hS j (by
    unfold isD at hj
    have := of_decide_eq_true hj
    omega)
  obtain ⟨-, hI, -⟩ := look_inv (by omega) hA hs
  have hdat : ∀ j : Nat, j < N → ¬ (j : Int) ≤ Y → isD X Y j = true := fun j h1 h2 => by
    unfold isD
    exact decide_eq_true (by omega)
  have h0 : W 0 = S 0 := by
    have h1 : W 0 = (lookZ X Y S).st.S 0 := repS_else _ (by omega)
    rw [h1]
    refine hI.si.un 0 ?_
    cases hb : (bare (lookZ X Y S).st).cl ((0 : Nat) : Int) with
    | false => rfl
    | true =>
      have := hI.si.cd _ hb
      unfold isD at this
      have := of_decide_eq_true this
      omega
  have hfmD : ∀ j : Nat, (lookZ X Y S).st.fm j = true → isD X Y j = true := fun j hj => hI.si.cd _ (hI.si.fc j hj)
  have hlt : ∀ j : Nat, (j : Int) ∈ L.take n → j < N ∧ W j ≠ S j := fun j hj => mem_writeL.1 (List.mem_of_mem_take hj)
  have hR : RZ X Y (cutS S W (L.take n)) W ((row0 N Y W S (lookZ X Y S).st.fm).length + (row1 N Y W S).length < n) (lookZ X Y S) z' := by
    refine two_looks hY _ hA hs (fun j => ?_) (fun ha i h1 h2 => ?_) (fun ha j hj => ?_) (fun hna j hj => ?_)
    · unfold cutS
      split
      · exact .inr rfl
      · exact .inl rfl
    · show (if (i : Int) ∈ L.take n then W i else S i) = W i
      split
      · rfl
      · rename_i hm
        false_or_by_contra
        rename_i hne
        exact hm (mem_rows_take (A := row0 N Y W S (lookZ X Y S).st.fm) (B := row1 N Y W S) (C := row2 N Y W S (lookZ X Y S).st.fm) (List.mem_append.2 (.inr (mem_row1.2 ⟨by omega, fun e => hne e.symm, h2⟩))) (by omega))
    · show (if (j : Int) ∈ L.take n then W j else S j) = W j
      split
      · rfl
      · rename_i hm
        false_or_by_contra
        rename_i hne
        have hd := hfmD j hj
        have hj2 : ¬ (j : Int) ≤ Y ∧ j < N := by
          unfold isD at hd
          have := of_decide_eq_true hd
          omega
        exact hm (mem_rows_take (A := row0 N Y W S (lookZ X Y S).st.fm) (B := row1 N Y W S) (C := row2 N Y W S (lookZ X Y S).st.fm) (List.mem_append.2 (.inl (mem_row0.2 ⟨hj2.2, fun e => hne e.symm, hj2.1, hj⟩))) (by omega))
    · show subP (if (j : Int) ∈ L.take n then W j else S j) (S j)
      split
      · rename_i hm
        have h1 := mem_take_rows (A := row0 N Y W S (lookZ X Y S).st.fm) (B := row1 N Y W S) (C := row2 N Y W S (lookZ X Y S).st.fm) hm (by omega)
        have hnY : ¬ (j : Int) ≤ Y := by
          unfold isD at hj
          have := of_decide_eq_true hj
          omega
        rw [List.mem_append] at h1
        rcases h1 with h1 | h1
        · have h2 := (mem_row0.1 h1).2.2.2
          have h3 : W j = (lookZ X Y S).st.S j := repS_else _ (isD_not hj)
          rw [h3]
          exact hI.si.sub j h2
        · exact absurd (mem_row1.1 h1).2.2 hnY
      · exact fun _ => .inl rfl
  obtain ⟨a, b, c, d⟩ := two_same hI hR
  have e : repS Y z' = W := funext a
  refine ⟨a, ?_, d, b, ?_, fun hr => ?_, ?_⟩
  · rw [e, c, writeL_cut]
    exact filter_take (writeL_nodup _ _ _ _ _) n
  · unfold cutS
    split
    · exact h0
    · rfl
  · obtain ⟨i1, -, i3⟩ := look_inv (by omega) hA hs
    obtain ⟨te, hte, -⟩ := i3.t 1 ⟨(takeX X Y (rdInoR (S 1)).1 (zeroZ S).st).1, 1, (takeX X Y (rdInoR (S 1)).1 (zeroZ S).st).2.bk⟩ (show updT (fun _ => none) 1 _ 1 = _ from updT_eq _ _ _)
    have h2 : Two X Y S (cutS S W (L.take n)) W (lookZ X Y S) False := ⟨by omega, fun i h1 h2 => ⟨by
      have h3 := repS_ino (lookZ X Y S) h1 h2
      rw [← h3]
      unfold cutS
      split
      · exact .inr rfl
      · exact .inl rfl, fun h => h.elim⟩, hI⟩
    obtain ⟨x1, x2⟩ := raw_two h2 (Nat.le_refl 1) (by omega) hs hte
    exact ⟨x1, x2.kind.trans hr.2⟩
  · have hl := (List.Nodup.length_le_of_subset (l₂ := (List.range N).map (fun (i : Nat) => (i : Int))) (writeL_nodup N Y W S (lookZ X Y S).st.fm) (fun x hx => by
      obtain ⟨j, rfl⟩ := writeL_nat hx
      exact List.mem_map.2 ⟨j, List.mem_range.2 (mem_writeL.1 hx).1, rfl⟩))
    simpa using hl
end Go.Proofs.Ythioepdgnbdohaa

/- The laws' own functions: pick, sectors. -/
namespace Go.Proofs.Ythioepdgnbdohaa
set_option linter.unusedSimpArgs false
set_option linter.unusedVariables false
open Go.RowKit

theorem ints_yes {v1 v2 : Value} {o1 o2 : Option Nat} {xs : List Int} {w : World} (h1 : QRow w v1 o1 xs) (h2 : QRow w v2 o2 xs) (hx : xs.length ≤ 100000) :
    Calls Try.prog 10 #[v1, v2] w fun e w' => e = .returned (.bool true) ∧ Fr [] w w' := by
  refine (ints_any h1 h2 hx hx).mono ?_
  rintro e w' ⟨rfl, h⟩
  exact ⟨by rw [decide_eq_true rfl], h⟩
set_option maxRecDepth 100000 in
/-- a list of sectors appended to none -/
theorem secs_append (gi oi N ci : Nat) (S : Nat → List Int) (w : World) (hS : Secs w gi oi N S) (h0 : 0 < N) (hN : N ≤ 4096) :
    ∃ g cw w2, (∀ ty, (Builtin.append_ #[22, 22] ty #[.slice (some ⟨w.heap.size, 0, none⟩) 0 0, .slice (some ⟨gi, oi, none⟩) N ci]).run Try.prog (w.alloc (.cells #[] 32)) = .ok (.slice (some ⟨g, 0, none⟩) N cw) w2) ∧ w.heap.size ≤ g ∧ N ≤ cw ∧ WSecs w2 g N S ∧ Below w.heap.size w w2 := by
  obtain ⟨cs, t, fr, hcs, hsz, hall⟩ := hS
  obtain ⟨inf, z, hi, hz, hzs, his, hib⟩ := info_sec
  have ht : Try.prog.underlying 22 = some (.slice 32) := Try.underlying22
  have hc0 : hat (w.alloc (.cells #[] 32)) gi = some (.cells cs t fr) := (hopA w _ hcs).1
  have hnl : (cs.extract oi (oi + N * 128)).toList.length = N * 128 := by simp; omega
  have hget : ∀ j u, (cs.extract oi (oi + N * 128)).toList[j]? = some u → cs[oi + j]? = some u ∧ j < N * 128 := fun j u hj => by
    have hjl : j < N * 128 := by
      have := (List.getElem?_eq_some_iff.1 hj).1
      omega
    rw [Array.getElem?_toList, Array.getElem?_extract, if_pos (by omega)] at hj
    exact ⟨hj, hjl⟩
  have hsrc : Src Try.prog inf.size 22 (.slice (some ⟨gi, oi, none⟩) N ci) N (cs.extract oi (oi + N * 128)).toList (w.alloc (.cells #[] 32)) :=
    Src.ofSlice _ ht ⟨gi, oi, none⟩ N ci _ (by rw [hnl, his]) (fun j u hj => by
      rw [add_none, cell_hat hc0]
      exact (hget j u hj).1) (fun u hu => by
      obtain ⟨j, hj⟩ := List.getElem?_of_mem hu
      obtain ⟨h1, h2⟩ := hget j u hj
      obtain ⟨x, hx⟩ := Secs.cell hsz hall h2
      rw [h1] at hx
      rw [Option.some.inj hx]; rfl)
  have hr := fun ty => run_append_grow_src (P := Try.prog) (w.alloc (.cells #[] 32)) 22 22 ty 32 inf z ht hi hz (some ⟨w.heap.size, 0, none⟩) 0 0 [] (run_firstCells_some _ inf.size 0 ⟨w.heap.size, 0, none⟩ 0 0 [] (by simp) (fun j u hj => by simp at hj)) (.slice (some ⟨gi, oi, none⟩) N ci) N _ hsrc (by omega) (by omega) (growslice_fits (by omega) (by rw [hib]; omega))
  simp only [Nat.zero_add, List.nil_append] at hr
  have hge := grownCap_ge (w.alloc (.cells #[] 32)) N 0 32
  refine ⟨_, _, _, hr, by simp, hge, ⟨_, hat_alloc_at _ _ _ rfl, by rw [Array.size_append, List.size_toArray, hnl]; omega, fun i hi => ?_⟩, (below_drew ((Below.refl w.heap.size w).alloc (Nat.le_refl _) _)).alloc (by simp) _⟩
  obtain ⟨h1, h2, h3⟩ := hall i hi
  refine ⟨h1, h2, ?_⟩
  rw [← h3]
  apply Array.ext_getElem?
  intro j
  rw [Array.getElem?_extract, Array.getElem?_extract]
  by_cases hj : j < 128
  · rw [if_pos (by rw [Array.size_append, List.size_toArray, hnl]; omega), if_pos (by omega), Array.getElem?_append_left (by rw [List.size_toArray, hnl]; omega), List.getElem?_toArray, Array.getElem?_toList, Array.getElem?_extract, if_pos (by omega)]
    congr 1; omega
  · rw [if_neg (by rw [Array.size_append, List.size_toArray, hnl]; omega), if_neg (by omega)]
set_option maxHeartbeats 4000000 in
set_option maxRecDepth 100000 in
theorem pick_any (c : Int) (n : Nat) (hc0 : -9223372036854775808 ≤ c) (hc1 : c ≤ 9223372036854775807) (hn0 : 0 < n) (hn1 : n ≤ 100000) (w : World) :
    Calls Try.prog 8 #[.int .i64 c, .int .i64 n] w fun e w' => (∃ r : Nat, r < n ∧ e = .returned (.int .i64 r)) ∧ w' = w := by
  have hnn : ((n : Int) == 0) = false := by simp; omega
  have hn2 : (n : Int) ≠ 0 := by omega
  by_cases h : c < 0
  · have hm : ∃ r : Nat, r < n ∧ (-(c + 1)).tmod (n : Int) = r := by
      refine ⟨((-(c + 1)).tmod (n : Int)).toNat, ?_, ?_⟩
      · have := Int.tmod_lt_of_pos (-(c + 1)) (show (0 : Int) < n by omega)
        have := Int.tmod_nonneg (n : Int) (show 0 ≤ -(c + 1) by omega)
        omega
      · have := Int.tmod_nonneg (n : Int) (show 0 ≤ -(c + 1) by omega)
        omega
    obtain ⟨r, hr, hre⟩ := hm
    have hrr : (r : Int) < (n : Int) := by omega
    go_enter Try.func8, Try.ntmps8
    go_wp2_with fail
    go_ret
    exact ⟨⟨r, hr, rfl⟩, rfl⟩
  · have hm : ∃ r : Nat, r < n ∧ c.tmod (n : Int) = r := by
      refine ⟨(c.tmod (n : Int)).toNat, ?_, ?_⟩
      · have := Int.tmod_lt_of_pos c (show (0 : Int) < n by omega)
        have := Int.tmod_nonneg (n : Int) (show 0 ≤ c by omega)
        omega
      · have := Int.tmod_nonneg (n : Int) (show 0 ≤ c by omega)
        omega
    obtain ⟨r, hr, hre⟩ := hm
    have hrr : (r : Int) < (n : Int) := by omega
    go_enter Try.func8, Try.ntmps8
    go_wp2_with fail
    go_ret
    exact ⟨⟨r, hr, rfl⟩, rfl⟩
set_option maxHeartbeats 4000000 in
set_option maxRecDepth 100000 in
theorem sectors_yes (g1 c1 g2 c2 N : Nat) (S1 S2 : Nat → List Int) (w : World) (h1 : WSecs w g1 N S1) (h2 : WSecs w g2 N S2) (hN : N ≤ 4096) (hs : ∀ j, j < N → S1 j = S2 j) :
    Calls Try.prog 9 #[.slice (some ⟨g1, 0, none⟩) N c1, .slice (some ⟨g2, 0, none⟩) N c2] w fun e w' => e = .returned (.bool true) ∧ Fr [] w w' := by
  have H1 := Lib.hid h1
  have H2 := Lib.hid h2
  have HS := Lib.hid hs
  clear h1 h2 hs
  have d1 : ((N : Int) != (N : Int)) = false := by simp
  go_enter Try.func9, Try.ntmps9
  go_wp2_with fail
  go_loopw [5] (fun v wr => ∃ k : Nat, v = .int .i64 k ∧ k ≤ N ∧ Hid (Fr [] w wr)) (fun v wr => N - (intOf v).toNat)
  case atStart => exact ⟨0, rfl, Nat.zero_le _, Lib.hid (Fr.refl _ _)⟩
  case round =>
    obtain ⟨k, rfl, hk, HF⟩ := hrel
    by_cases hkN : k < N
    · have hk0 : (0 : Int) ≤ (k : Int) := Int.natCast_nonneg _
      have hk1 : (k : Int) < (N : Int) := by omega
      obtain ⟨cs1, hc1, hl1, hn1, hb1⟩ := (H1.out.same (HF.out.block _ (by obtain ⟨cs, a, -⟩ := H1.out; exact hat_lt a) (by simp))).load hkN
      obtain ⟨cs2, hc2, hl2, hn2, hb2⟩ := (H2.out.same (HF.out.block _ (by obtain ⟨cs, a, -⟩ := H2.out; exact hat_lt a) (by simp))).load hkN
      have he := HS.out k hkN
      rw [← he] at hl2
      have hne : decide (S1 k = S1 k) = true := by simp
      clear hb1 hb2 he hn2
      go_wp2_with fail
      go_region
      go_wp2_with fail
      go_roundw
      case rel => exact ⟨k + 1, by go_num, by omega, Lib.hid (fr_drew HF.out)⟩
      case measure => (show N - (k + 1) < N - k); omega
    · obtain rfl : k = N := by omega
      go_wp2_with fail
      go_ret
      exact ⟨rfl, HF.out⟩
end Go.Proofs.Ythioepdgnbdohaa

/- Cut off behind any of the writes, and looked at anew: the law's walk. -/
namespace Go.Proofs.Ythioepdgnbdohaa
set_option linter.unusedSimpArgs false
set_option linter.unusedVariables false
open Go.RowKit

theorem cutS_take {S W : Nat → List Int} {L : List Int} {k j : Nat} (h : L[k]? = some (j : Int)) : updS (cutS S W (L.take k)) j (W j) = cutS S W (L.take (k + 1)) := by
  funext i
  have hk := (List.getElem?_eq_some_iff.1 h).1
  have e : L.take (k + 1) = L.take k ++ [(j : Int)] := by
    rw [List.take_add_one, h]; rfl
  unfold updS cutS
  rw [e]
  by_cases hi : i = j
  · subst hi
    simp
  · rw [if_neg hi]
    have : ((i : Int) ∈ L.take k ++ [(j : Int)]) ↔ (i : Int) ∈ L.take k := by
      rw [List.mem_append, List.mem_singleton]
      constructor
      · rintro (h | h)
        · exact h
        · omega
      · exact .inl
    simp only [this]
theorem keysL_len (s : Int → Bool) : (keysL s).length ≤ 100000 := by
  unfold keysL keysN
  rw [List.length_map]
  exact Nat.le_trans (List.length_filter_le _ _) (by simp)
/-- a row's end -/
theorem QRow.dropS {w : World} {g off c : Nat} {ob : Option Nat} {xs : List Int} (h : QRow w (.slice (some ⟨g, off, none⟩) xs.length c) ob xs) {k : Nat} (hk : k ≤ xs.length) : QRow w (.slice (some ⟨g, off + k, none⟩) (xs.length - k) (c - k)) ob (xs.drop k) := by
  rcases h with ⟨h, -⟩ | ⟨g', off', c', cs, e, h1, h2, h3, h4, h5⟩
  · cases h
  · injection e with e1 e2 e3
    injection e1 with e1
    injection e1 with p1 p2
    subst p1 p2 e3
    refine .inr ⟨g, off + k, c - k, cs, by rw [List.length_drop], h1, h2, by rw [List.length_drop]; omega, by omega, fun j p hj => ?_⟩
    rw [List.getElem?_drop] at hj
    rw [Nat.add_assoc]
    exact h5 (k + j) p hj
theorem QRow.dropF {w : World} {g off c : Nat} {ob : Option Nat} {xs : List Int} (h : QRow w (.slice (some ⟨g, off, none⟩) xs.length c) ob xs) {k : Nat} (hk : xs.length ≤ k) (hc : c ≤ k) : QRow w (.slice (some ⟨g, off, none⟩) 0 0) ob (xs.drop k) := by
  rw [List.drop_of_length_le hk]
  rcases h with ⟨h, -⟩ | ⟨g', off', c', cs, e, h1, h2, h3, h4, h5⟩
  · cases h
  · injection e with e1 e2 e3
    injection e1 with e1
    injection e1 with p1 p2
    subst p1 p2 e3
    exact .inr ⟨g, off, 0, cs, rfl, h1, h2, Nat.le_refl _, by omega, fun j p hj => by simp at hj⟩
theorem cutS_nil (S W : Nat → List Int) (L : List Int) : cutS S W (L.take 0) = S := by
  funext i
  unfold cutS
  simp
set_option maxHeartbeats 8000000 in
set_option maxRecDepth 100000 in
theorem lookCuts_any {v : Value} {N : Nat} {S : Nat → List Int} {w : World} (h : Img w v N S) (c : Int) (hc : (Lit.int .i64 c).wf = true) :
    Calls Try.prog 3 #[v, .int .i64 c] w fun e w' => e = .returned (.bool true) ∧ Below w.heap.size w w' := by
  have hcb : -9223372036854775808 ≤ c ∧ c ≤ 9223372036854775807 := by
    simp [Lit.wf, IntKind.min, IntKind.max, IntKind.signed, IntKind.bits] at hc
    omega
  obtain ⟨hc0, hc1⟩ := hcb
  have HI := Lib.hid h
  obtain ⟨a, ci, rfl, h1, h2, h3⟩ := h
  have H3 := Lib.hid h3
  clear h3 hc
  go_enter Try.func3, Try.ntmps3
  go_wp2_with fail
  refine (known12_true _).mono ?_; rintro e w1 ⟨rfl, hb1⟩
  have hI1 := HI.out.same (fr_below hb1 [])
  have HI1 := Lib.hid hI1
  have HB1 := Lib.hid hb1
  clear hb1 hI1
  go_wp2_with fail
  refine (look_all HI1.out).mono ?_; rintro e w2 ⟨hb2, hor⟩
  have HB2 := Lib.hid (HB1.out.trans (hb2.mono HB1.out.size))
  have HF12 := Lib.hid (fr_below hb2 [])
  clear hb2
  rcases hor with ⟨hE, gw, cw, v1, v2, v3, o1, o2, o3, rfl, k1, k2, k3, k4, k5, k6, k7⟩ | ⟨hE, rfl⟩
  rotate_left
  · have hE1 : (lookE N S == 0) = false := by simpa using hE
    have hE2 : (lookE N S != 0) = true := by simpa using hE
    generalize lookE N S = E at *
    have HB3 := Lib.hid (HB2.out.trans ((Below.refl w.heap.size w2).alloc HB2.out.size (.cells repNil 26)))
    clear HI HI1 H3
    unfold repNil at HB3
    simp only [repNil]
    go_wp2_with fail
    go_ret
    exact ⟨rfl, HB3.out⟩
  · obtain ⟨b8, b4, e0, eX, hroot⟩ := lookE_ok hE
    obtain ⟨a1, n1, c1, rfl⟩ := k2.sl
    obtain ⟨a2, n2, c2, rfl⟩ := k3.sl
    obtain ⟨a3, n3, c3, rfl⟩ := k4.sl
    obtain ⟨gi, oi, rfl, hS⟩ := H3.out (by omega)
    have hmay := (sup_one e0).1
    rw [eX] at hmay
    obtain ⟨⟨x1, x2⟩, ⟨y1, y2⟩, xy⟩ := hmay
    have HSS := Lib.hid (fun n => cut_law (X := N) (Y := (rdSupR (S 0)).2.1) (N := N) y1 rfl (fun j hj => hS.len hj) hroot.1 (by omega) n)
    have HE0 := Lib.hid (show rdSupR (S 0) = (rdSupR (S 0)) ∧ (rdSupR (S 0)).2.2 = 0 ∧ (rdSupR (S 0)).1 = N from ⟨rfl, e0, eX⟩)
    have HROOT := Lib.hid hroot
    have HS2 := Lib.hid (hS.same (HF12.out.block _ (by have := hS.lt; have := HB1.out.size; omega) (by simp) |>.trans (HB1.out.block _ hS.lt)))
    generalize hYY : (rdSupR (S 0)).2.1 = Y at *
    generalize hL : writeL N Y (repS Y (lookZ N Y S)) S (lookZ N Y S).st.fm = L at *
    have hLN : L.length ≤ N := by rw [← hL]; exact (HSS.out 0).2.2.2.2.2.2
    have HLL := Lib.hid hL
    have hn1 : n1 = L.length := by
      rcases k2 with ⟨e, -, r⟩ | ⟨_, _, _, _, e, -⟩
      · injection e with e1 e2 e3
        rw [r]; exact e2
      · injection e
    subst hn1
    have hcase : (a1 = none ∧ c1 = 0 ∧ L.length = 0) ∨ ∃ g1 f1, a1 = some ⟨g1, f1, none⟩ ∧ L.length ≤ c1 := by
      rcases k2 with ⟨e, -, r⟩ | ⟨g, off, cc, cs, e, -, -, hle, -⟩
      · injection e with e1 e2 e3
        exact .inl ⟨e1, e3, by rw [r]; rfl⟩
      · injection e with e1 e2 e3
        exact .inr ⟨g, off, e1, by rw [e3]; exact hle⟩
    have K1 := Lib.hid k1
    have K2 := Lib.hid k2
    have K3 := Lib.hid k3
    have K4 := Lib.hid k4
    have K7 := Lib.hid k7
    have HG := Lib.hid k6
    have hNn : ((N : Int) != (N : Int)) = false := by simp
    clear k1 k2 k3 k4 k5 k6 k7 hS hE eX e0 hroot HI HI1 H3 hL
    obtain ⟨rc, hrc⟩ : ∃ rc : Array Value, rc = #[.slice (some ⟨gw, 0, none⟩) N cw, .slice a1 L.length c1, .slice a2 n2 c2, .slice a3 n3 c3] := ⟨_, rfl⟩
    have HRC := Lib.hid hrc
    clear hrc
    replace hcase : (a1 = none ∧ c1 = 0 ∧ Hid (L.length = 0)) ∨ ∃ g1 f1, a1 = some ⟨g1, f1, none⟩ ∧ L.length ≤ c1 := by
      rcases hcase with ⟨x, y, z⟩ | h
      · exact .inl ⟨x, y, Lib.hid z⟩
      · exact .inr h
    rcases hcase with ⟨rfl, rfl, HL0⟩ | ⟨g1, f1, rfl, hcl⟩
    · go_wp2_with fail
      obtain ⟨w3, hw3⟩ : ∃ w3, w3 = w2.alloc (.cells rc 26) := ⟨_, rfl⟩
      have hp := pick_any c (L.length + 1) hc0 hc1 (by omega) (by omega) w3
      rw [show ((L.length + 1 : Nat) : Int) = (L.length : Int) + 1 by omega] at hp
      have hrep : hat w3 w2.heap.size = some (.cells rc 26) := by rw [hw3]; exact (hopN w2 _).1
      have hfr : Fr [] w2 w3 := by rw [hw3]; exact fr_alloc w2 _ []
      have HF23 := Lib.hid hfr
      have HS3 := Lib.hid (HS2.out.same (hfr.block _ HS2.out.lt (by simp)))
      have hzr := hat_lt hrep
      have hrc := HRC.out
      subst hrc
      clear HRC
      rw [← hw3]
      refine hp.mono ?_; rintro e w3 ⟨⟨n, hn, rfl⟩, rfl⟩
      clear hp hfr hw3
      generalize hgr : w2.heap.size = gr at *
      have HGR := Lib.hid hgr
      clear hgr
      obtain ⟨gn, cn, w4, hap, hgn0, hcn, hwn, hbn⟩ := secs_append gi oi N ci S w3 HS3.out (by omega) b4
      have HAP := Lib.hid hap
      have HWN := Lib.hid hwn
      have HF34 := Lib.hid (fr_below hbn [])
      have hrep4 := (hop hbn hrep).1
      have hzr4 := hat_lt hrep4
      clear hap hwn hbn hrep
      go_wp2_with (at_builtin; refine wpList_append_run _ rfl (.tmp 42) (.tmp 43) 22 rfl _ _ rfl rfl _ _ (HAP.out _) ?_)
      have HMEM : Hid (∀ k, k < L.length → ∃ j : Nat, L[k]? = some (j : Int) ∧ j < N) := Lib.hid (fun k hk => by
        have hm : L[k] ∈ writeL N Y (repS Y (lookZ N Y S)) S (lookZ N Y S).st.fm := by rw [HLL.out]; exact List.getElem_mem _
        obtain ⟨j, hj⟩ := writeL_nat hm
        rw [hj] at hm
        exact ⟨j, by rw [List.getElem?_eq_getElem hk, hj], (mem_writeL.1 hm).1⟩)
      generalize hWW : repS Y (lookZ N Y S) = W at *
      have HWW := Lib.hid hWW
      clear hWW
      have HNN : Hid (gn ≠ gr ∧ gn ≠ gw ∧ (∀ q, o1 = some q → gn ≠ q) ∧ (∀ q, o2 = some q → gn ≠ q) ∧ (∀ q, o3 = some q → gn ≠ q)) := Lib.hid (by
        have := HF23.out.size
        have hgw := K1.out
        obtain ⟨csw, hcw, -⟩ := hgw
        have := hat_lt hcw
        have := HGR.out
        refine ⟨by omega, by omega, fun q hq => ?_, fun q hq => ?_, fun q hq => ?_⟩
        · have := K2.out.lt q hq; omega
        · have := K3.out.lt q hq; omega
        · have := K4.out.lt q hq; omega)
      go_loopw [10] (fun v wr => ∃ k : Nat, v = .int .i64 k ∧ k ≤ n ∧ Hid (Fr [gn] w4 wr) ∧ Hid (WSecs wr gn N (cutS S W (L.take k)))) (fun v wr => n - (intOf v).toNat)
      case atStart => exact ⟨0, rfl, Nat.zero_le _, Lib.hid (Fr.refl _ _), Lib.hid (by rw [cutS_nil]; exact HWN.out)⟩
      case round =>
        obtain ⟨k, rfl, hk, HF, HN⟩ := hrel
        have HFA : Hid (∀ q, gn ≠ q → q < w2.heap.size → hat wr q = hat w2 q) := Lib.hid (fun q hq hl => by
          have s3 := HF23.out.size
          have s4 := HF34.out.size
          exact (HF.out.block q (by omega) (by simpa using Ne.symm hq)).trans ((HF34.out.block q (by omega) (by simp)).trans (HF23.out.block q hl (by simp))))
        have hrepr := (HF.out.block gr hzr4 (by simpa using Ne.symm HNN.out.1)).trans hrep4
        have hrl := hat_lt hrepr
        by_cases hkn : k < n
        · exfalso
          have := HL0.out
          omega
        · obtain rfl : k = n := by omega
          obtain ⟨m1, m2, m3, m4, m5, m6, m7⟩ := HSS.out k
          have hLL := HLL.out
          simp only [HWW.out, hLL] at m1 m2 m3 m4 m5 m6 m7
          obtain ⟨-, e0, eX⟩ := HE0.out
          have hcall := look_good gn 0 N cn (cutS S W (L.take k)) wr HN.out.secs b8 b4 (by rw [m5]; exact e0) (by rw [m5]; exact eX)
          rw [m5, eX] at hcall
          have hYe : (rdSupR (S 0)).2.1 = Y := by assumption
          rw [hYe] at hcall
          have HC := Lib.hid hcall
          have HR2 := Lib.hid (m6 HROOT.out)
          have M := Lib.hid (show _ ∧ _ ∧ _ ∧ _ from ⟨m1, m2, m3, m4⟩)
          have HFW := Lib.hid (HB2.out.trans (((HF23.out.trans HF34.out).mono (ex' := [gn]) (by simp)).trans HF.out |>.below (B := w.heap.size) HB2.out.size (by have := HB2.out.size; have := HF23.out.size; simp; omega)))
          have K1r := Lib.hid (K1.out.same (HFA.out gw HNN.out.2.1 (WSecs.lt K1.out)))
          have K2r := Lib.hid (show QRow wr _ _ _ from by
            rcases K2.out with ⟨x, y, z⟩ | ⟨g, off, cc, cs, x, y, z, u⟩
            · exact .inl ⟨x, y, z⟩
            · exact .inr ⟨g, off, cc, cs, x, y, (HFA.out g (HNN.out.2.2.1 g y) (hat_lt z)).trans z, u⟩)
          have K3r := Lib.hid (show QRow wr _ _ _ from by
            rcases K3.out with ⟨x, y, z⟩ | ⟨g, off, cc, cs, x, y, z, u⟩
            · exact .inl ⟨x, y, z⟩
            · exact .inr ⟨g, off, cc, cs, x, y, (HFA.out g (HNN.out.2.2.2.1 g y) (hat_lt z)).trans z, u⟩)
          have K4r := Lib.hid (show QRow wr _ _ _ from by
            rcases K4.out with ⟨x, y, z⟩ | ⟨g, off, cc, cs, x, y, z, u⟩
            · exact .inl ⟨x, y, z⟩
            · exact .inr ⟨g, off, cc, cs, x, y, (HFA.out g (HNN.out.2.2.2.2 g y) (hat_lt z)).trans z, u⟩)
          clear hcall m1 m2 m3 m4 m5 m6 m7 e0 eX hLL hYe
          have hkL : (k : Int) ≤ (L.length : Int) := by omega
          have hk0 : (0 : Int) ≤ (k : Int) := Int.natCast_nonneg _
          go_wp2_with fail
          refine HC.out.mono ?_; rintro e w5 hor
          rcases hor with ⟨-, gw', cw', v1', v2', v3', o1', o2', o3', rfl, q1, q2, q3, q4, q5, q6, q7⟩ | ⟨h, -⟩
          rotate_left
          · exact absurd HR2.out h
          rw [M.out.2.1] at q2
          rw [M.out.2.2.2] at q4
          rw [show (keysL fun p => ((lookZ N Y (cutS S W (L.take k))).T p.toNat).isSome) = keysL fun p => ((lookZ N Y S).T p.toNat).isSome from keysL_congr (fun i _ => M.out.2.2.1 _)] at q3
          obtain ⟨a1', n1', c1', rfl⟩ := q2.sl
          obtain ⟨a2', n2', c2', rfl⟩ := q3.sl
          obtain ⟨a3', n3', c3', rfl⟩ := q4.sl
          have hf5 := fr_below q5 []
          have hrep5 := (hf5.block _ hrl (by simp)).trans hrepr
          have hr5l := hat_lt hrep5
          have P1 := Lib.hid q1
          have P2 := Lib.hid q2
          have P3 := Lib.hid q3
          have P4 := Lib.hid q4
          have K1s := Lib.hid (K1r.out.same (hf5.block _ (WSecs.lt K1r.out) (by simp)))
          have K2s := Lib.hid (K2r.out.fr hf5 (by simp))
          have K3s := Lib.hid (K3r.out.fr hf5 (by simp))
          have K4s := Lib.hid (K4r.out.fr hf5 (by simp))
          have HB5 := Lib.hid (HFW.out.trans (q5.mono HFW.out.size))
          clear q1 q2 q3 q4 q5 q6 q7 hf5 HC K1r K2r K3r K4r hrepr hrl
          obtain rfl : k = 0 := by (have := HL0.out; omega)
          have QD : Hid (QRow w5 (.slice none 0 0) none (L.drop 0)) := Lib.hid (by (have h0 := List.eq_nil_of_length_eq_zero HL0.out; have hh := K2s.out; rw [h0] at hh ⊢; rcases hh with ⟨x, y, z⟩ | ⟨g', off', c', cs, x1, -⟩; exact .inl ⟨rfl, rfl, rfl⟩; cases x1))
          go_wp2_with fail
          have hf6 := fr_alloc w5 (.cells #[.slice (some ⟨gw', 0, none⟩) N cw', .slice a1' n1' c1', .slice a2' n2' c2', .slice a3' n3' c3'] 26) []
          have x1 := (hopA w5 (.cells #[.slice (some ⟨gw', 0, none⟩) N cw', .slice a1' n1' c1', .slice a2' n2' c2', .slice a3' n3' c3'] 26) hrep5).1
          have x2 := (hopN w5 (.cells #[.slice (some ⟨gw', 0, none⟩) N cw', .slice a1' n1' c1', .slice a2' n2' c2', .slice a3' n3' c3'] 26)).1
          have hF6 := fr_drew hf6
          have y1 : hat (w5.alloc (.cells #[.slice (some ⟨gw', 0, none⟩) N cw', .slice a1' n1' c1', .slice a2' n2' c2', .slice a3' n3' c3'] 26)).drew gr = some (.cells #[.slice (some ⟨gw, 0, none⟩) N cw, .slice none L.length 0, .slice a2 n2 c2, .slice a3 n3 c3] 26) := x1
          have y2 : hat (w5.alloc (.cells #[.slice (some ⟨gw', 0, none⟩) N cw', .slice a1' n1' c1', .slice a2' n2' c2', .slice a3' n3' c3'] 26)).drew w5.heap.size = some (.cells #[.slice (some ⟨gw', 0, none⟩) N cw', .slice a1' n1' c1', .slice a2' n2' c2', .slice a3' n3' c3'] 26) := x2
          have T1 := Lib.hid (P1.out.same (hF6.block _ (WSecs.lt P1.out) (by simp)))
          have T2 := Lib.hid (K1s.out.same (hF6.block _ (WSecs.lt K1s.out) (by simp)))
          have HX := Lib.hid hF6
          clear hf6 hF6 hrep5 hr5l
          generalize w5.alloc (.cells #[.slice (some ⟨gw', 0, none⟩) N cw', .slice a1' n1' c1', .slice a2' n2' c2', .slice a3' n3' c3'] 26) = w6 at *
          generalize hg2 : w5.heap.size = gr2 at *
          clear hg2
          have zl1 := hat_lt x1
          have zl2 := hat_lt x2
          clear x1 x2
          have hL0 := HL0.out
          rw [hL0] at y1
          have hlD : (L.drop 0).length ≤ 100000 := by (rw [List.length_drop]; omega)
          have hM1 : ∀ j, j < N → repS Y (lookZ N Y (cutS S W (L.take 0))) j = W j := fun j _ => M.out.1 j
          have noq : ∀ {o : Option Nat} (g : Nat), o = some g → g ∉ ([] : List Nat) := fun _ _ => List.not_mem_nil
          go_region_held3 (fun w' => hat w' gr = some (.cells #[.slice (some ⟨gw, 0, none⟩) N cw, .slice none 0 0, .slice a2 n2 c2, .slice a3 n3 c3] 26) ∧ hat w' gr2 = some (.cells #[.slice (some ⟨gw', 0, none⟩) N cw', .slice a1' n1' c1', .slice a2' n2' c2', .slice a3' n3' c3'] 26)) (first | assumption | (refine ⟨?_, ?_⟩ <;> assumption))
            (first
              | (with_reducible refine (sectors_yes gw' cw' gw cw N _ _ _ T1.out T2.out b4 hM1).mono ?_; rintro e wS ⟨rfl, hfS⟩; have s1 := (hfS.block gr (hat_lt y1) (by simp)).trans y1; have s2 := (hfS.block gr2 (hat_lt y2) (by simp)).trans y2; have HXS := Lib.hid (HX.out.trans hfS))
              | (with_reducible refine (ints_yes (P2.out.fr HXS.out noq) (QD.out.fr HXS.out noq) hlD).mono ?_; rintro e wI ⟨rfl, hfI⟩; have i1 := (hfI.block gr (hat_lt s1) (by simp)).trans s1; have i2 := (hfI.block gr2 (hat_lt s2) (by simp)).trans s2; have HXI := Lib.hid (HXS.out.trans hfI))
              | (with_reducible refine (ints_yes (P3.out.fr HXI.out noq) (K3s.out.fr HXI.out noq) (keysL_len _)).mono ?_; rintro e wJ ⟨rfl, hfJ⟩; have j1 := (hfJ.block gr (hat_lt i1) (by simp)).trans i1; have j2 := (hfJ.block gr2 (hat_lt i2) (by simp)).trans i2; have HXJ := Lib.hid (HXI.out.trans hfJ))
              | (with_reducible refine (ints_yes (P4.out.fr HXJ.out noq) (K4s.out.fr HXJ.out noq) (keysL_len _)).mono ?_; rintro e wK ⟨rfl, hfK⟩; have k1 := (hfK.block gr (hat_lt j1) (by simp)).trans j1; have k2 := (hfK.block gr2 (hat_lt j2) (by simp)).trans j2; have HXK := Lib.hid (HXJ.out.trans hfK)))
          all_goals
            go_wp2_with fail
            go_ret
            exact ⟨rfl, HB5.out.trans (HXK.out.below (B := w.heap.size) HB5.out.size (by simp))⟩
    · go_wp2_with fail
      obtain ⟨w3, hw3⟩ : ∃ w3, w3 = w2.alloc (.cells rc 26) := ⟨_, rfl⟩
      have hp := pick_any c (L.length + 1) hc0 hc1 (by omega) (by omega) w3
      rw [show ((L.length + 1 : Nat) : Int) = (L.length : Int) + 1 by omega] at hp
      have hrep : hat w3 w2.heap.size = some (.cells rc 26) := by rw [hw3]; exact (hopN w2 _).1
      have hfr : Fr [] w2 w3 := by rw [hw3]; exact fr_alloc w2 _ []
      have HF23 := Lib.hid hfr
      have HS3 := Lib.hid (HS2.out.same (hfr.block _ HS2.out.lt (by simp)))
      have hzr := hat_lt hrep
      have hrc := HRC.out
      subst hrc
      clear HRC
      rw [← hw3]
      refine hp.mono ?_; rintro e w3 ⟨⟨n, hn, rfl⟩, rfl⟩
      clear hp hfr hw3
      generalize hgr : w2.heap.size = gr at *
      have HGR := Lib.hid hgr
      clear hgr
      obtain ⟨gn, cn, w4, hap, hgn0, hcn, hwn, hbn⟩ := secs_append gi oi N ci S w3 HS3.out (by omega) b4
      have HAP := Lib.hid hap
      have HWN := Lib.hid hwn
      have HF34 := Lib.hid (fr_below hbn [])
      have hrep4 := (hop hbn hrep).1
      have hzr4 := hat_lt hrep4
      clear hap hwn hbn hrep
      go_wp2_with (at_builtin; refine wpList_append_run _ rfl (.tmp 42) (.tmp 43) 22 rfl _ _ rfl rfl _ _ (HAP.out _) ?_)
      have HMEM : Hid (∀ k, k < L.length → ∃ j : Nat, L[k]? = some (j : Int) ∧ j < N) := Lib.hid (fun k hk => by
        have hm : L[k] ∈ writeL N Y (repS Y (lookZ N Y S)) S (lookZ N Y S).st.fm := by rw [HLL.out]; exact List.getElem_mem _
        obtain ⟨j, hj⟩ := writeL_nat hm
        rw [hj] at hm
        exact ⟨j, by rw [List.getElem?_eq_getElem hk, hj], (mem_writeL.1 hm).1⟩)
      generalize hWW : repS Y (lookZ N Y S) = W at *
      have HWW := Lib.hid hWW
      clear hWW
      have HNN : Hid (gn ≠ gr ∧ gn ≠ gw ∧ (∀ q, o1 = some q → gn ≠ q) ∧ (∀ q, o2 = some q → gn ≠ q) ∧ (∀ q, o3 = some q → gn ≠ q)) := Lib.hid (by
        have := HF23.out.size
        have hgw := K1.out
        obtain ⟨csw, hcw, -⟩ := hgw
        have := hat_lt hcw
        have := HGR.out
        refine ⟨by omega, by omega, fun q hq => ?_, fun q hq => ?_, fun q hq => ?_⟩
        · have := K2.out.lt q hq; omega
        · have := K3.out.lt q hq; omega
        · have := K4.out.lt q hq; omega)
      go_loopw [10] (fun v wr => ∃ k : Nat, v = .int .i64 k ∧ k ≤ n ∧ Hid (Fr [gn] w4 wr) ∧ Hid (WSecs wr gn N (cutS S W (L.take k)))) (fun v wr => n - (intOf v).toNat)
      case atStart => exact ⟨0, rfl, Nat.zero_le _, Lib.hid (Fr.refl _ _), Lib.hid (by rw [cutS_nil]; exact HWN.out)⟩
      case round =>
        obtain ⟨k, rfl, hk, HF, HN⟩ := hrel
        have HFA : Hid (∀ q, gn ≠ q → q < w2.heap.size → hat wr q = hat w2 q) := Lib.hid (fun q hq hl => by
          have s3 := HF23.out.size
          have s4 := HF34.out.size
          exact (HF.out.block q (by omega) (by simpa using Ne.symm hq)).trans ((HF34.out.block q (by omega) (by simp)).trans (HF23.out.block q hl (by simp))))
        have hrepr := (HF.out.block gr hzr4 (by simpa using Ne.symm HNN.out.1)).trans hrep4
        have hrl := hat_lt hrepr
        by_cases hkn : k < n
        · have hk0 : (0 : Int) ≤ (k : Int) := Int.natCast_nonneg _
          have hk1 : (k : Int) < (n : Int) := by omega
          have hk2 : (k : Int) < (L.length : Int) := by omega
          obtain ⟨j, hLk, hjN⟩ := HMEM.out k (by omega)
          have hnk : nth L k = j := by unfold nth; rw [hLk]; rfl
          obtain ⟨g2, f2, cc1, cs1, s1, t1, u1, x1⟩ := K2.out.cell (k := k) (by omega)
          injection s1 with s1 s2 s3
          injection s1 with s1
          injection s1 with p1 p2
          subst p1 p2 s3
          clear s2
          rw [hnk] at x1
          have u1 := (HFA.out _ (HNN.out.2.2.1 _ t1) (hat_lt u1)).trans u1
          obtain ⟨csW, hcW, hlW, hnW, hbW⟩ := K1.out.load hjN
          have hcW := (HFA.out gw HNN.out.2.1 (hat_lt hcW)).trans hcW
          obtain ⟨csN, hcN, hszN, -⟩ := id HN.out
          have hstN : ∀ raw w', stRow raw 128 (j * 128) gn (IV .u8 (W j)) w' (some (.cells csN 32 (0, 0))) = .ok () (w'.setRow gn (splice csN (j * 128) (IV .u8 (W j)))) := fun raw w' => stRow_part (by omega) (by simp [hnW]) (by simp)
          have hj0 : (0 : Int) ≤ (j : Int) := Int.natCast_nonneg _
          have hj1 : (j : Int) < (N : Int) := by omega
          have HNEW : Hid (WSecs (wr.drew.setRow gn (splice csN (j * 128) (IV .u8 (W j)))) gn N (cutS S W (L.take (k + 1)))) := Lib.hid (by
            rw [← cutS_take hLk]
            exact WSecs.store (w := wr.drew) HN.out hcN hjN hnW hbW)
          have HFN : Hid (Fr [gn] w4 (wr.drew.setRow gn (splice csN (j * 128) (IV .u8 (W j))))) := Lib.hid ((fr_drew HF.out).trans (fr_setRow _ _ _))
          clear hbW hszN hnW hLk hnk
          go_wp2_with fail
          go_region
          go_wp2_with fail
          go_roundw
          case rel => exact ⟨k + 1, by go_num, by omega, HFN, HNEW⟩
          case measure => (show n - (k + 1) < n - k); omega
        · obtain rfl : k = n := by omega
          obtain ⟨m1, m2, m3, m4, m5, m6, m7⟩ := HSS.out k
          have hLL := HLL.out
          simp only [HWW.out, hLL] at m1 m2 m3 m4 m5 m6 m7
          obtain ⟨-, e0, eX⟩ := HE0.out
          have hcall := look_good gn 0 N cn (cutS S W (L.take k)) wr HN.out.secs b8 b4 (by rw [m5]; exact e0) (by rw [m5]; exact eX)
          rw [m5, eX] at hcall
          have hYe : (rdSupR (S 0)).2.1 = Y := by assumption
          rw [hYe] at hcall
          have HC := Lib.hid hcall
          have HR2 := Lib.hid (m6 HROOT.out)
          have M := Lib.hid (show _ ∧ _ ∧ _ ∧ _ from ⟨m1, m2, m3, m4⟩)
          have HFW := Lib.hid (HB2.out.trans (((HF23.out.trans HF34.out).mono (ex' := [gn]) (by simp)).trans HF.out |>.below (B := w.heap.size) HB2.out.size (by have := HB2.out.size; have := HF23.out.size; simp; omega)))
          have K1r := Lib.hid (K1.out.same (HFA.out gw HNN.out.2.1 (WSecs.lt K1.out)))
          have K2r := Lib.hid (show QRow wr _ _ _ from by
            rcases K2.out with ⟨x, y, z⟩ | ⟨g, off, cc, cs, x, y, z, u⟩
            · exact .inl ⟨x, y, z⟩
            · exact .inr ⟨g, off, cc, cs, x, y, (HFA.out g (HNN.out.2.2.1 g y) (hat_lt z)).trans z, u⟩)
          have K3r := Lib.hid (show QRow wr _ _ _ from by
            rcases K3.out with ⟨x, y, z⟩ | ⟨g, off, cc, cs, x, y, z, u⟩
            · exact .inl ⟨x, y, z⟩
            · exact .inr ⟨g, off, cc, cs, x, y, (HFA.out g (HNN.out.2.2.2.1 g y) (hat_lt z)).trans z, u⟩)
          have K4r := Lib.hid (show QRow wr _ _ _ from by
            rcases K4.out with ⟨x, y, z⟩ | ⟨g, off, cc, cs, x, y, z, u⟩
            · exact .inl ⟨x, y, z⟩
            · exact .inr ⟨g, off, cc, cs, x, y, (HFA.out g (HNN.out.2.2.2.2 g y) (hat_lt z)).trans z, u⟩)
          clear hcall m1 m2 m3 m4 m5 m6 m7 e0 eX hLL hYe
          have hkL : (k : Int) ≤ (L.length : Int) := by omega
          have hk0 : (0 : Int) ≤ (k : Int) := Int.natCast_nonneg _
          go_wp2_with fail
          refine HC.out.mono ?_; rintro e w5 hor
          rcases hor with ⟨-, gw', cw', v1', v2', v3', o1', o2', o3', rfl, q1, q2, q3, q4, q5, q6, q7⟩ | ⟨h, -⟩
          rotate_left
          · exact absurd HR2.out h
          rw [M.out.2.1] at q2
          rw [M.out.2.2.2] at q4
          rw [show (keysL fun p => ((lookZ N Y (cutS S W (L.take k))).T p.toNat).isSome) = keysL fun p => ((lookZ N Y S).T p.toNat).isSome from keysL_congr (fun i _ => M.out.2.2.1 _)] at q3
          obtain ⟨a1', n1', c1', rfl⟩ := q2.sl
          obtain ⟨a2', n2', c2', rfl⟩ := q3.sl
          obtain ⟨a3', n3', c3', rfl⟩ := q4.sl
          have hf5 := fr_below q5 []
          have hrep5 := (hf5.block _ hrl (by simp)).trans hrepr
          have hr5l := hat_lt hrep5
          have P1 := Lib.hid q1
          have P2 := Lib.hid q2
          have P3 := Lib.hid q3
          have P4 := Lib.hid q4
          have K1s := Lib.hid (K1r.out.same (hf5.block _ (WSecs.lt K1r.out) (by simp)))
          have K2s := Lib.hid (K2r.out.fr hf5 (by simp))
          have K3s := Lib.hid (K3r.out.fr hf5 (by simp))
          have K4s := Lib.hid (K4r.out.fr hf5 (by simp))
          have HB5 := Lib.hid (HFW.out.trans (q5.mono HFW.out.size))
          clear q1 q2 q3 q4 q5 q6 q7 hf5 HC K1r K2r K3r K4r hrepr hrl
          by_cases hck : c1 = k
          · subst hck
            have hLk : L.length = c1 := by omega
            have QD : Hid (QRow w5 (.slice (some ⟨g1, f1, none⟩) 0 0) o1 (L.drop c1)) := Lib.hid (QRow.dropF K2s.out (by omega) (by omega))
            go_wp2_with fail
            have hf6 := fr_alloc w5 (.cells #[.slice (some ⟨gw', 0, none⟩) N cw', .slice a1' n1' c1', .slice a2' n2' c2', .slice a3' n3' c3'] 26) []
            have x1 := (hopA w5 (.cells #[.slice (some ⟨gw', 0, none⟩) N cw', .slice a1' n1' c1', .slice a2' n2' c2', .slice a3' n3' c3'] 26) hrep5).1
            have x2 := (hopN w5 (.cells #[.slice (some ⟨gw', 0, none⟩) N cw', .slice a1' n1' c1', .slice a2' n2' c2', .slice a3' n3' c3'] 26)).1
            have hF6 := fr_drew hf6
            have y1 : hat (w5.alloc (.cells #[.slice (some ⟨gw', 0, none⟩) N cw', .slice a1' n1' c1', .slice a2' n2' c2', .slice a3' n3' c3'] 26)).drew gr = some (.cells #[.slice (some ⟨gw, 0, none⟩) N cw, .slice (some ⟨g1, f1, none⟩) L.length c1, .slice a2 n2 c2, .slice a3 n3 c3] 26) := x1
            have y2 : hat (w5.alloc (.cells #[.slice (some ⟨gw', 0, none⟩) N cw', .slice a1' n1' c1', .slice a2' n2' c2', .slice a3' n3' c3'] 26)).drew w5.heap.size = some (.cells #[.slice (some ⟨gw', 0, none⟩) N cw', .slice a1' n1' c1', .slice a2' n2' c2', .slice a3' n3' c3'] 26) := x2
            have T1 := Lib.hid (P1.out.same (hF6.block _ (WSecs.lt P1.out) (by simp)))
            have T2 := Lib.hid (K1s.out.same (hF6.block _ (WSecs.lt K1s.out) (by simp)))
            have HX := Lib.hid hF6
            clear hf6 hF6 hrep5 hr5l
            generalize w5.alloc (.cells #[.slice (some ⟨gw', 0, none⟩) N cw', .slice a1' n1' c1', .slice a2' n2' c2', .slice a3' n3' c3'] 26) = w6 at *
            generalize hg2 : w5.heap.size = gr2 at *
            clear hg2
            have zl1 := hat_lt x1
            have zl2 := hat_lt x2
            clear x1 x2
            have hlD : (L.drop c1).length ≤ 100000 := by (rw [List.length_drop]; omega)
            have hM1 : ∀ j, j < N → repS Y (lookZ N Y (cutS S W (L.take c1))) j = W j := fun j _ => M.out.1 j
            have noq : ∀ {o : Option Nat} (g : Nat), o = some g → g ∉ ([] : List Nat) := fun _ _ => List.not_mem_nil
            go_region_held3 (fun w' => hat w' gr = some (.cells #[.slice (some ⟨gw, 0, none⟩) N cw, .slice (some ⟨g1, f1, none⟩) L.length c1, .slice a2 n2 c2, .slice a3 n3 c3] 26) ∧ hat w' gr2 = some (.cells #[.slice (some ⟨gw', 0, none⟩) N cw', .slice a1' n1' c1', .slice a2' n2' c2', .slice a3' n3' c3'] 26)) (first | assumption | (refine ⟨?_, ?_⟩ <;> assumption))
              (first
                | (with_reducible refine (sectors_yes gw' cw' gw cw N _ _ _ T1.out T2.out b4 hM1).mono ?_; rintro e wS ⟨rfl, hfS⟩; have s1 := (hfS.block gr (hat_lt y1) (by simp)).trans y1; have s2 := (hfS.block gr2 (hat_lt y2) (by simp)).trans y2; have HXS := Lib.hid (HX.out.trans hfS))
                | (with_reducible refine (ints_yes (P2.out.fr HXS.out noq) (QD.out.fr HXS.out noq) hlD).mono ?_; rintro e wI ⟨rfl, hfI⟩; have i1 := (hfI.block gr (hat_lt s1) (by simp)).trans s1; have i2 := (hfI.block gr2 (hat_lt s2) (by simp)).trans s2; have HXI := Lib.hid (HXS.out.trans hfI))
                | (with_reducible refine (ints_yes (P3.out.fr HXI.out noq) (K3s.out.fr HXI.out noq) (keysL_len _)).mono ?_; rintro e wJ ⟨rfl, hfJ⟩; have j1 := (hfJ.block gr (hat_lt i1) (by simp)).trans i1; have j2 := (hfJ.block gr2 (hat_lt i2) (by simp)).trans i2; have HXJ := Lib.hid (HXI.out.trans hfJ))
                | (with_reducible refine (ints_yes (P4.out.fr HXJ.out noq) (K4s.out.fr HXJ.out noq) (keysL_len _)).mono ?_; rintro e wK ⟨rfl, hfK⟩; have k1 := (hfK.block gr (hat_lt j1) (by simp)).trans j1; have k2 := (hfK.block gr2 (hat_lt j2) (by simp)).trans j2; have HXK := Lib.hid (HXJ.out.trans hfK)))
            all_goals
              go_wp2_with fail
              go_ret
              exact ⟨rfl, HB5.out.trans (HXK.out.below (B := w.heap.size) HB5.out.size (by simp))⟩
          · have hck2 : (c1 : Int) - (k : Int) ≠ 0 := by omega
            have QD : Hid (QRow w5 (.slice (some ⟨g1, f1 + k, none⟩) (L.length - k) (c1 - k)) o1 (L.drop k)) := Lib.hid (K2s.out.dropS (by omega))
            go_wp2_with fail
            have hf6 := fr_alloc w5 (.cells #[.slice (some ⟨gw', 0, none⟩) N cw', .slice a1' n1' c1', .slice a2' n2' c2', .slice a3' n3' c3'] 26) []
            have x1 := (hopA w5 (.cells #[.slice (some ⟨gw', 0, none⟩) N cw', .slice a1' n1' c1', .slice a2' n2' c2', .slice a3' n3' c3'] 26) hrep5).1
            have x2 := (hopN w5 (.cells #[.slice (some ⟨gw', 0, none⟩) N cw', .slice a1' n1' c1', .slice a2' n2' c2', .slice a3' n3' c3'] 26)).1
            have hF6 := fr_drew hf6
            have y1 : hat (w5.alloc (.cells #[.slice (some ⟨gw', 0, none⟩) N cw', .slice a1' n1' c1', .slice a2' n2' c2', .slice a3' n3' c3'] 26)).drew gr = some (.cells #[.slice (some ⟨gw, 0, none⟩) N cw, .slice (some ⟨g1, f1, none⟩) L.length c1, .slice a2 n2 c2, .slice a3 n3 c3] 26) := x1
            have y2 : hat (w5.alloc (.cells #[.slice (some ⟨gw', 0, none⟩) N cw', .slice a1' n1' c1', .slice a2' n2' c2', .slice a3' n3' c3'] 26)).drew w5.heap.size = some (.cells #[.slice (some ⟨gw', 0, none⟩) N cw', .slice a1' n1' c1', .slice a2' n2' c2', .slice a3' n3' c3'] 26) := x2
            have T1 := Lib.hid (P1.out.same (hF6.block _ (WSecs.lt P1.out) (by simp)))
            have T2 := Lib.hid (K1s.out.same (hF6.block _ (WSecs.lt K1s.out) (by simp)))
            have HX := Lib.hid hF6
            clear hf6 hF6 hrep5 hr5l
            generalize w5.alloc (.cells #[.slice (some ⟨gw', 0, none⟩) N cw', .slice a1' n1' c1', .slice a2' n2' c2', .slice a3' n3' c3'] 26) = w6 at *
            generalize hg2 : w5.heap.size = gr2 at *
            clear hg2
            have zl1 := hat_lt x1
            have zl2 := hat_lt x2
            clear x1 x2
            have hlD : (L.drop k).length ≤ 100000 := by (rw [List.length_drop]; omega)
            have hM1 : ∀ j, j < N → repS Y (lookZ N Y (cutS S W (L.take k))) j = W j := fun j _ => M.out.1 j
            have noq : ∀ {o : Option Nat} (g : Nat), o = some g → g ∉ ([] : List Nat) := fun _ _ => List.not_mem_nil
            go_region_held3 (fun w' => hat w' gr = some (.cells #[.slice (some ⟨gw, 0, none⟩) N cw, .slice (some ⟨g1, f1, none⟩) L.length c1, .slice a2 n2 c2, .slice a3 n3 c3] 26) ∧ hat w' gr2 = some (.cells #[.slice (some ⟨gw', 0, none⟩) N cw', .slice a1' n1' c1', .slice a2' n2' c2', .slice a3' n3' c3'] 26)) (first | assumption | (refine ⟨?_, ?_⟩ <;> assumption))
              (first
                | (with_reducible refine (sectors_yes gw' cw' gw cw N _ _ _ T1.out T2.out b4 hM1).mono ?_; rintro e wS ⟨rfl, hfS⟩; have s1 := (hfS.block gr (hat_lt y1) (by simp)).trans y1; have s2 := (hfS.block gr2 (hat_lt y2) (by simp)).trans y2; have HXS := Lib.hid (HX.out.trans hfS))
                | (with_reducible refine (ints_yes (P2.out.fr HXS.out noq) (QD.out.fr HXS.out noq) hlD).mono ?_; rintro e wI ⟨rfl, hfI⟩; have i1 := (hfI.block gr (hat_lt s1) (by simp)).trans s1; have i2 := (hfI.block gr2 (hat_lt s2) (by simp)).trans s2; have HXI := Lib.hid (HXS.out.trans hfI))
                | (with_reducible refine (ints_yes (P3.out.fr HXI.out noq) (K3s.out.fr HXI.out noq) (keysL_len _)).mono ?_; rintro e wJ ⟨rfl, hfJ⟩; have j1 := (hfJ.block gr (hat_lt i1) (by simp)).trans i1; have j2 := (hfJ.block gr2 (hat_lt i2) (by simp)).trans i2; have HXJ := Lib.hid (HXI.out.trans hfJ))
                | (with_reducible refine (ints_yes (P4.out.fr HXJ.out noq) (K4s.out.fr HXJ.out noq) (keysL_len _)).mono ?_; rintro e wK ⟨rfl, hfK⟩; have k1 := (hfK.block gr (hat_lt j1) (by simp)).trans j1; have k2 := (hfK.block gr2 (hat_lt j2) (by simp)).trans j2; have HXK := Lib.hid (HXJ.out.trans hfK)))
            all_goals
              go_wp2_with fail
              go_ret
              exact ⟨rfl, HB5.out.trans (HXK.out.below (B := w.heap.size) HB5.out.size (by simp))⟩
end Go.Proofs.Ythioepdgnbdohaa
