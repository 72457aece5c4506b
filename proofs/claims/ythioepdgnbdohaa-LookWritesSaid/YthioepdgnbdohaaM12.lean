/- Contracts and laws that the claim leans on, laid together in the order in which they build. -/
import Derived.Test.YthioepdgnbdohaaM09
import Derived.Test.YthioepdgnbdohaaM11

/- What is to be written: the three rows, plain laws. -/
namespace Go.Proofs.Ythioepdgnbdohaa
set_option linter.unusedSimpArgs false
set_option linter.unusedVariables false
open Go.RowKit

theorem differL_rises (N : Nat) (S I : Nat → List Int) (sort : Nat → Bool) : (differL N S I sort).Pairwise (· < ·) := by
  unfold differL
  refine List.Pairwise.map _ (R := fun a b : Nat => a < b) (fun a b h => by omega) ?_
  exact List.Pairwise.filter _ List.pairwise_lt_range
/-- three rising rows, the middle one of numbers up to Y, the others of greater ones -/
structure Rows3 (Y : Int) (L A B C : List Int) : Prop where
  eq : L = A ++ B ++ C
  nd : L.Nodup
  hA : A.Pairwise (· < ·)
  hB : B.Pairwise (· < ·)
  hC : C.Pairwise (· < ·)
  a : ∀ x ∈ A, Y < x
  b : ∀ x ∈ B, x ≤ Y
  c : ∀ x ∈ C, Y < x
theorem rows3 (N : Nat) (Y : Int) (S I : Nat → List Int) (fm : Int → Bool) : Rows3 Y (writeL N Y S I fm) (row0 N Y S I fm) (row1 N Y S I) (row2 N Y S I fm) := by
  refine ⟨writeL_rows _ _ _ _ _, writeL_nodup _ _ _ _ _, differL_rises _ _ _ _, differL_rises _ _ _ _, differL_rises _ _ _ _, fun x hx => ?_, fun x hx => ?_, fun x hx => ?_⟩
  · obtain ⟨j, rfl⟩ := row_nat hx
    have := (mem_row0.1 hx).2.2.1
    omega
  · obtain ⟨j, rfl⟩ := row_nat hx
    exact (mem_row1.1 hx).2.2
  · obtain ⟨j, rfl⟩ := row_nat hx
    have := (mem_row2.1 hx).2.2.1
    omega
theorem pair_next {L : List Int} (h : L.Pairwise (· < ·)) {i j : Nat} (hij : i < j) (hj : j < L.length) : nth L i < nth L j := by
  have := List.pairwise_iff_getElem.1 h i j (by omega) hj hij
  unfold nth
  rw [List.getElem?_eq_getElem hj, List.getElem?_eq_getElem (show i < L.length by omega)]
  exact this
theorem nth_mem' {L : List Int} {i : Nat} (h : i < L.length) : nth L i ∈ L := by
  unfold nth
  rw [List.getElem?_eq_getElem h]
  exact List.getElem_mem h
section
variable {Y : Int} {L A B C : List Int}
theorem Rows3.inA (h : Rows3 Y L A B C) {k : Nat} (hk : k < A.length) : nth L k = nth A k := by
  rw [h.eq, List.append_assoc, nth_app_l hk]
theorem Rows3.inB (h : Rows3 Y L A B C) {k : Nat} (hk : A.length ≤ k) (hk2 : k < A.length + B.length) : nth L k = nth B (k - A.length) := by
  rw [h.eq, List.append_assoc, nth_app_r hk, nth_app_l (by omega)]
theorem Rows3.inC (h : Rows3 Y L A B C) {k : Nat} (hk : A.length + B.length ≤ k) : nth L k = nth C (k - A.length - B.length) := by
  rw [h.eq, List.append_assoc, nth_app_r (by omega), nth_app_r (by omega)]
theorem Rows3.len (h : Rows3 Y L A B C) : L.length = A.length + B.length + C.length := by
  rw [h.eq]; simp; omega
theorem Rows3.low (h : Rows3 Y L A B C) {k : Nat} (hk : k < L.length) (hl : nth L k ≤ Y) : A.length ≤ k ∧ k < A.length + B.length := by
  have hlen := h.len
  refine ⟨?_, ?_⟩
  · false_or_by_contra
    rename_i hc
    rw [h.inA (by omega)] at hl
    have := h.a _ (nth_mem' (show k < A.length by omega))
    omega
  · false_or_by_contra
    rename_i hc
    rw [h.inC (by omega)] at hl
    have := h.c _ (nth_mem' (show k - A.length - B.length < C.length by omega))
    omega
theorem Rows3.high (h : Rows3 Y L A B C) {k : Nat} (hk : k < L.length) (hl : ¬ nth L k ≤ Y) : k < A.length ∨ A.length + B.length ≤ k := by
  false_or_by_contra
  rename_i hc
  have hb : A.length ≤ k ∧ k < A.length + B.length := by omega
  rw [h.inB hb.1 hb.2] at hl
  exact hl (h.b _ (nth_mem' (show k - A.length < B.length by omega)))
/-- how the law's loop stands before the write k -/
def RS (Y : Int) (L : List Int) (b k : Nat) (row last : Int) : Prop :=
  (row = 0 ∧ (k = 0 ∧ last = -1 ∨ 0 < k ∧ last = nth L (k - 1) ∧ Y < last)) ∨ (row = 1 ∧ 0 < k ∧ nth L (k - 1) ≤ Y ∧ last = nth L (k - 1)) ∨ (row = 2 ∧ b < k ∧ last = nth L (k - 1))
theorem rs_start (Y : Int) (L : List Int) (b : Nat) : RS Y L b 0 0 (-1) := .inl ⟨rfl, .inl ⟨rfl, rfl⟩⟩
theorem rs_0i (h : Rows3 Y L A B C) {k : Nat} (hk : k < L.length) (hi : nth L k ≤ Y) : RS Y L (A.length + B.length) (k + 1) 1 (nth L k) := .inr (.inl ⟨rfl, by omega, hi, rfl⟩)
theorem rs_0c (h : Rows3 Y L A B C) {k : Nat} {last : Int} (hr : RS Y L (A.length + B.length) k 0 last) (hk : k < L.length) (hp : 0 ≤ nth L k) (hi : ¬ nth L k ≤ Y) (hl : nth L k < last) : RS Y L (A.length + B.length) (k + 1) 2 (nth L k) := by
  refine .inr (.inr ⟨rfl, ?_, rfl⟩)
  rcases hr with ⟨-, ⟨-, h1⟩ | ⟨h0, h1, h2⟩⟩ | ⟨h1, -⟩ | ⟨h1, -⟩
  · omega
  · rcases h.high hk hi with h3 | h3
    · exfalso
      rw [h1, h.inA h3, h.inA (show k - 1 < A.length by omega)] at hl
      have := pair_next h.hA (show k - 1 < k by omega) h3
      omega
    · omega
  · cases h1
  · cases h1
theorem rs_0s (h : Rows3 Y L A B C) {k : Nat} {last : Int} (hr : RS Y L (A.length + B.length) k 0 last) (hk : k < L.length) (hp : 0 ≤ nth L k) (hi : ¬ nth L k ≤ Y) (hl : ¬ nth L k < last) : last < nth L k ∧ RS Y L (A.length + B.length) (k + 1) 0 (nth L k) := by
  refine ⟨?_, .inl ⟨rfl, .inr ⟨by omega, rfl, by omega⟩⟩⟩
  rcases hr with ⟨-, ⟨-, h1⟩ | ⟨h0, h1, h2⟩⟩ | ⟨h1, -⟩ | ⟨h1, -⟩
  · omega
  · have hne : nth L (k - 1) ≠ nth L k := by
      have := List.pairwise_iff_getElem.1 h.nd (k - 1) k (by omega) hk (by omega)
      unfold nth
      rw [List.getElem?_eq_getElem hk, List.getElem?_eq_getElem (show k - 1 < L.length by omega)]
      exact this
    omega
  · cases h1
  · cases h1
theorem rs_1i (h : Rows3 Y L A B C) {k : Nat} {last : Int} (hr : RS Y L (A.length + B.length) k 1 last) (hk : k < L.length) (hi : nth L k ≤ Y) : last < nth L k ∧ RS Y L (A.length + B.length) (k + 1) 1 (nth L k) := by
  refine ⟨?_, rs_0i h hk hi⟩
  rcases hr with ⟨h1, -⟩ | ⟨-, h0, h1, h2⟩ | ⟨h1, -⟩
  · cases h1
  · have a1 := h.low (show k - 1 < L.length by omega) h1
    have a2 := h.low hk hi
    rw [h2, h.inB a1.1 a1.2, h.inB a2.1 a2.2]
    exact pair_next h.hB (by omega) (by omega)
  · cases h1
theorem rs_1n (h : Rows3 Y L A B C) {k : Nat} {last : Int} (hr : RS Y L (A.length + B.length) k 1 last) (hk : k < L.length) (hi : ¬ nth L k ≤ Y) : RS Y L (A.length + B.length) (k + 1) 2 (nth L k) := by
  refine .inr (.inr ⟨rfl, ?_, rfl⟩)
  rcases hr with ⟨h1, -⟩ | ⟨-, h0, h1, h2⟩ | ⟨h1, -⟩
  · cases h1
  · have a1 := h.low (show k - 1 < L.length by omega) h1
    rcases h.high hk hi with h3 | h3 <;> omega
  · cases h1
theorem rs_2 (h : Rows3 Y L A B C) {k : Nat} {last : Int} (hr : RS Y L (A.length + B.length) k 2 last) (hk : k < L.length) : ¬ nth L k ≤ Y ∧ last < nth L k ∧ RS Y L (A.length + B.length) (k + 1) 2 (nth L k) := by
  rcases hr with ⟨h1, -⟩ | ⟨h1, -⟩ | ⟨-, h0, h1⟩
  · cases h1
  · cases h1
  · have hlen := h.len
    refine ⟨?_, ?_, .inr (.inr ⟨rfl, by omega, rfl⟩)⟩
    · rw [h.inC (by omega)]
      have := h.c _ (nth_mem' (show k - A.length - B.length < C.length by omega))
      omega
    · rw [h1, h.inC (show A.length + B.length ≤ k by omega), h.inC (show A.length + B.length ≤ k - 1 by omega)]
      exact pair_next h.hC (by omega) (by omega)
theorem rs_kinds {b k : Nat} {row last : Int} (h : RS Y L b k row last) : row = 0 ∨ row = 1 ∨ row = 2 := by
  rcases h with ⟨h, -⟩ | ⟨h, -⟩ | ⟨h, -⟩
  · exact .inl h
  · exact .inr (.inl h)
  · exact .inr (.inr h)
end
/-- how many sectors below k differ -/
def cntD (S W : Nat → List Int) (k : Nat) : Nat := ((List.range k).filter fun i => decide (W i ≠ S i)).length
theorem cntD_succ (S W : Nat → List Int) (k : Nat) : cntD S W (k + 1) = cntD S W k + if W k ≠ S k then 1 else 0 := by
  unfold cntD
  rw [List.range_succ, List.filter_append, List.length_append]
  congr 1
  by_cases h : W k = S k
  · simp [h]
  · simp [h]
theorem cntD_le (S W : Nat → List Int) (k : Nat) : cntD S W k ≤ k := by
  unfold cntD
  have := List.length_filter_le (fun i => decide (W i ≠ S i)) (List.range k)
  simpa using this
theorem filter_two {α : Type} (p q : α → Bool) : ∀ l : List α, (l.filter fun x => p x && q x).length + (l.filter fun x => p x && !q x).length = (l.filter p).length
  | [] => rfl
  | a :: l => by
    have ih := filter_two p q l
    simp only [List.filter_cons]
    cases p a <;> cases q a <;> simp <;> omega
theorem writeL_cnt (N : Nat) (Y : Int) (W S : Nat → List Int) (fm : Int → Bool) : (writeL N Y W S fm).length = cntD S W N := by
  unfold writeL differL cntD
  simp only [List.length_append, List.length_map]
  have h1 := filter_two (fun i : Nat => decide (W i ≠ S i)) (fun i : Nat => decide ((i : Int) ≤ Y)) (List.range N)
  have h2 := filter_two (fun i : Nat => decide (W i ≠ S i) && !decide ((i : Int) ≤ Y)) (fun i : Nat => fm (i : Int)) (List.range N)
  simp only [Bool.and_assoc] at h2
  omega
/-- what is written differs, and is not the first sector -/
theorem write_law {X Y : Int} {N : Nat} (hY : 1 ≤ Y) (hN : X = N) {S : Nat → List Int} (hS : ∀ j, j < N → (S j).length = 128 ∧ Bytes (S j)) (hs : soundR (S 1) = true) (hSY : Y < N) :
    ∀ k, k < (writeL N Y (repS Y (lookZ X Y S)) S (lookZ X Y S).st.fm).length → ∃ j : Nat, nth (writeL N Y (repS Y (lookZ X Y S)) S (lookZ X Y S).st.fm) k = j ∧ 1 ≤ j ∧ j < N ∧ repS Y (lookZ X Y S) j ≠ S j := by
  intro k hk
  have hm := nth_mem' hk
  obtain ⟨j, hj⟩ := writeL_nat hm
  rw [hj] at hm
  obtain ⟨h1, h2⟩ := mem_writeL.1 hm
  refine ⟨j, hj, ?_, h1, h2⟩
  false_or_by_contra
  rename_i hc
  obtain rfl : j = 0 := by omega
  have := (cut_law hY hN hS hs hSY (writeL N Y (repS Y (lookZ X Y S)) S (lookZ X Y S).st.fm).length).2.2.2.2.1
  unfold cutS at this
  rw [List.take_length] at this
  have hm0 : ((0 : Nat) : Int) ∈ writeL N Y (repS Y (lookZ X Y S)) S (lookZ X Y S).st.fm := hm
  rw [if_pos hm0] at this
  exact h2 this
end Go.Proofs.Ythioepdgnbdohaa

/- What is to be written: the law's walk. -/
namespace Go.Proofs.Ythioepdgnbdohaa
set_option linter.unusedSimpArgs false
set_option linter.unusedVariables false
open Go.RowKit

set_option maxHeartbeats 8000000 in
set_option maxRecDepth 100000 in
theorem lookWrites_any {v : Value} {N : Nat} {S : Nat → List Int} {w : World} (h : Img w v N S) :
    Calls Try.prog 4 #[v] w fun e w' => e = .returned (.bool true) ∧ Below w.heap.size w w' := by
  have HI := Lib.hid h
  obtain ⟨a, ci, rfl, h1, h2, h3⟩ := h
  have H3 := Lib.hid h3
  clear h3
  go_enter Try.func4, Try.ntmps4
  go_wp2_with fail
  refine (known12_true _).mono ?_; rintro e w1 ⟨rfl, hb1⟩
  have hI1 := HI.out.same (fr_below hb1 [])
  have HI1 := Lib.hid hI1
  have HB1 := Lib.hid hb1
  clear hb1 hI1
  go_wp2_with fail
  refine (look_all HI1.out).mono ?_; rintro e w2 ⟨hb2, hor⟩
  have HB2 := Lib.hid (HB1.out.trans (hb2.mono HB1.out.size))
  have HF12 := Lib.hid (fr_below hb2 [])
  clear hb2
  rcases hor with ⟨hE, gw, cw, v1, v2, v3, o1, o2, o3, rfl, k1, k2, k3, k4, k5, k6, k7⟩ | ⟨hE, rfl⟩
  rotate_left
  · have hE1 : (lookE N S == 0) = false := by simpa using hE
    have hE2 : (lookE N S != 0) = true := by simpa using hE
    generalize lookE N S = E at *
    have HB3 := Lib.hid (HB2.out.trans ((Below.refl w.heap.size w2).alloc HB2.out.size (.cells repNil 26)))
    clear HI HI1 H3
    unfold repNil at HB3
    simp only [repNil]
    go_wp2_with fail
    go_ret
    exact ⟨rfl, HB3.out⟩
  · obtain ⟨b8, b4, e0, eX, hroot⟩ := lookE_ok hE
    obtain ⟨a1, n1, c1, rfl⟩ := k2.sl
    obtain ⟨a2, n2, c2, rfl⟩ := k3.sl
    obtain ⟨a3, n3, c3, rfl⟩ := k4.sl
    obtain ⟨gi, oi, rfl, hS⟩ := H3.out (by omega)
    have hmay := (sup_one e0).1
    rw [eX] at hmay
    obtain ⟨⟨x1, x2⟩, ⟨y1, y2⟩, xy⟩ := hmay
    have HWL := Lib.hid (write_law (X := N) (Y := (rdSupR (S 0)).2.1) (N := N) y1 rfl (fun j hj => hS.len hj) hroot.1 (by omega))
    have HS1 := Lib.hid (hS.same (HB1.out.block _ hS.lt))
    have HS2 := Lib.hid (HS1.out.same (HF12.out.block _ HS1.out.lt (by simp)))
    obtain ⟨cs0, tt0, fr0, hcs0, hld0⟩ := HS2.out.load (show 0 < N by omega)
    obtain ⟨l0, b0⟩ := HS2.out.len (show 0 < N by omega)
    have HRS := Lib.hid (fun W => rrdSup_any (S 0) l0 b0 W)
    rw [Nat.zero_mul, Nat.add_zero] at hld0
    obtain ⟨X, Y, er, hR⟩ : ∃ X Y er, rdSupR (S 0) = (X, Y, er) := ⟨_, _, _, rfl⟩
    rw [hR] at HRS HWL e0 eX k1 k2 k3 k4 y1 y2 xy
    simp only at e0 eX HWL k1 k2 k3 k4 y1 y2 xy
    subst e0 eX
    have HR3 := Lib.hid (rows3 N Y (repS Y (lookZ N Y S)) S (lookZ N Y S).st.fm)
    have HCN := Lib.hid (writeL_cnt N Y (repS Y (lookZ N Y S)) S (lookZ N Y S).st.fm)
    generalize row0 N Y (repS Y (lookZ N Y S)) S (lookZ N Y S).st.fm = RA at *
    generalize row1 N Y (repS Y (lookZ N Y S)) S = RB at *
    generalize row2 N Y (repS Y (lookZ N Y S)) S (lookZ N Y S).st.fm = RC at *
    generalize hL : writeL N Y (repS Y (lookZ N Y S)) S (lookZ N Y S).st.fm = L at *
    generalize hWW : repS Y (lookZ N Y S) = W at *
    have hn1 : n1 = L.length := by
      rcases k2 with ⟨e, -, r⟩ | ⟨_, _, _, _, e, -⟩
      · injection e with e1 e2 e3
        rw [r]; exact e2
      · injection e
    subst hn1
    have hcase : (a1 = none ∧ c1 = 0 ∧ Hid (L.length = 0)) ∨ ∃ g1 f1, a1 = some ⟨g1, f1, none⟩ := by
      rcases k2 with ⟨e, -, r⟩ | ⟨g, off, cc, cs, e, -, -, hle, -⟩
      · injection e with e1 e2 e3
        exact .inl ⟨e1, e3, Lib.hid (by rw [r]; rfl)⟩
      · injection e with e1 e2 e3
        exact .inr ⟨g, off, e1⟩
    have K1 := Lib.hid k1
    have K2 := Lib.hid k2
    have hNn : ((N : Int) != (N : Int)) = false := by simp
    have hcl0 := hat_lt hcs0
    clear k1 k2 k3 k4 k5 k6 k7 hS hE hroot HI HI1 H3 hL hWW l0 b0 hR
    go_wp2_with fail
    refine (HRS.out _).mono ?_; rintro e w3 ⟨rfl, hb3⟩
    have hrep := (hop hb3 (hopN w2 (.cells #[.slice (some ⟨gw, 0, none⟩) N cw, .slice a1 L.length c1, .slice a2 n2 c2, .slice a3 n3 c3] 26)).1).1
    have hf3 := (fr_alloc w2 (.cells #[.slice (some ⟨gw, 0, none⟩) N cw, .slice a1 L.length c1, .slice a2 n2 c2, .slice a3 n3 c3] 26) []).trans (fr_below hb3 [])
    have HF23 := Lib.hid hf3
    have hrl := hat_lt hrep
    generalize w2.heap.size = gr at *
    have HB3 := Lib.hid (HB2.out.trans (hf3.below (B := w.heap.size) HB2.out.size (by simp)))
    clear hb3 hf3 hcs0 hcl0 hld0
    have hrep4 := (hopA w3 (.cells #[.int .i64 (N : Int), .int .i64 Y] 37) hrep).1
    have hsp4 := (hopN w3 (.cells #[.int .i64 (N : Int), .int .i64 Y] 37)).1
    have HF24 := Lib.hid (HF23.out.trans (fr_alloc w3 (.cells #[.int .i64 (N : Int), .int .i64 Y] 37) []))
    have HB4 := Lib.hid (HB3.out.trans ((Below.refl w.heap.size w3).alloc HB3.out.size (.cells #[.int .i64 (N : Int), .int .i64 Y] 37)))
    clear hrep HB3 HF23
    go_wp2_with fail
    generalize w3.alloc (.cells #[.int .i64 (N : Int), .int .i64 Y] 37) = w4 at *
    generalize w3.heap.size = gs at *
    have HS4 := Lib.hid (HS2.out.same (HF24.out.block _ HS2.out.lt (by simp)))
    have K14 := Lib.hid (K1.out.same (HF24.out.block _ (WSecs.lt K1.out) (by simp)))
    have K24 := Lib.hid (K2.out.fr HF24.out (by simp))
    clear K1 K2 HF24 HS2 HS1
    go_loopw [8, 9] (fun d v wr => ∃ k : Nat, v = .int .i64 k ∧ d = .int .i64 (cntD S W k : Nat) ∧ k ≤ N ∧ Hid (Fr [] w4 wr)) (fun _ v wr => N - (intOf v).toNat)
    case atStart => exact ⟨0, rfl, rfl, Nat.zero_le _, Lib.hid (Fr.refl _ _)⟩
    case round =>
      obtain ⟨k, rfl, rfl, hk, HF⟩ := hrel
      have hrepr := (HF.out.block _ (hat_lt hrep4) (by simp)).trans hrep4
      have hspr := (HF.out.block _ (hat_lt hsp4) (by simp)).trans hsp4
      have hrr := hat_lt hrepr
      have hsr := hat_lt hspr
      have hcle := cntD_le S W k
      by_cases hkN : k < N
      · have hk0 : (0 : Int) ≤ (k : Int) := Int.natCast_nonneg _
        have hk1 : (k : Int) < (N : Int) := by omega
        have hd0 : (0 : Int) ≤ (cntD S W k : Nat) := Int.natCast_nonneg _
        have hd1 : ((cntD S W k : Nat) : Int) ≤ 4096 := by omega
        obtain ⟨csI, tI, frI, hcI, hlI⟩ := (HS4.out.same (HF.out.block _ HS4.out.lt (by simp))).load hkN
        obtain ⟨lI, -⟩ := HS4.out.len hkN
        obtain ⟨csW, hcW, hlW, lW, -⟩ := (K14.out.same (HF.out.block _ (WSecs.lt K14.out) (by simp))).load hkN
        have hsucc := cntD_succ S W k
        by_cases hq : W k = S k
        · have hq2 : decide (S k = W k) = true := decide_eq_true hq.symm
          rw [if_neg (by simpa using hq)] at hsucc
          have HSC := Lib.hid hsucc
          clear hsucc
          go_wp2_with fail
          go_region
          go_wp2_with fail
          go_roundw
          case rel => exact ⟨k + 1, by go_num, by rw [HSC.out]; rfl, by omega, Lib.hid (fr_drew HF.out)⟩
          case measure => (show N - (k + 1) < N - k); omega
        · have hq2 : decide (S k = W k) = false := decide_eq_false (fun e => hq e.symm)
          rw [if_pos hq] at hsucc
          have HSC := Lib.hid hsucc
          clear hsucc
          go_wp2_with fail
          go_region
          go_wp2_with fail
          go_roundw
          case rel => exact ⟨k + 1, by go_num, by rw [HSC.out]; go_num, by omega, Lib.hid (fr_drew HF.out)⟩
          case measure => (show N - (k + 1) < N - k); omega
      · have hNk : N = k := by omega
        subst hNk
        rcases hcase with ⟨rfl, rfl, HL0⟩ | ⟨g1, f1, rfl⟩
        · rw [← HCN.out]
          clear hkN
          go_wp2_with fail
          have HSr0 := Lib.hid (HS4.out.same (HF.out.block _ HS4.out.lt (by simp)))
          have K1r0 := Lib.hid (K14.out.same (HF.out.block _ (WSecs.lt K14.out) (by simp)))
          have K2r0 := Lib.hid (K24.out.fr HF.out (by simp))
          have HBr := Lib.hid (HB4.out.trans (HF.out.below (B := w.heap.size) HB4.out.size (by simp)))
          go_loopw [10, 11, 12] (fun row last v wx => ∃ (i : Nat) (r l : Int), v = .int .i64 i ∧ row = .int .i64 r ∧ last = .int .i64 l ∧ i ≤ L.length ∧ Hid (RS Y L (RA.length + RB.length) i r l) ∧ Hid (Fr [] wr wx)) (fun _ _ v _ => L.length - (intOf v).toNat)
          case atStart => exact ⟨0, 0, -1, rfl, rfl, rfl, Nat.zero_le _, Lib.hid (rs_start _ _ _), Lib.hid (Fr.refl _ _)⟩
          case round =>
            obtain ⟨i, r, l, rfl, rfl, rfl, hi, HRS2, HFr⟩ := hrel
            have hrepx := (HFr.out.block _ (hat_lt hrepr) (by simp)).trans hrepr
            have hspx := (HFr.out.block _ (hat_lt hspr) (by simp)).trans hspr
            have hrxl := hat_lt hrepx
            have hsxl := hat_lt hspx
            have HSr := Lib.hid (HSr0.out.same (HFr.out.block _ HSr0.out.lt (by simp)))
            have K1r := Lib.hid (K1r0.out.same (HFr.out.block _ (WSecs.lt K1r0.out) (by simp)))
            have K2r := Lib.hid (K2r0.out.fr HFr.out (by simp))
            by_cases hiL : i < L.length
            · exfalso
              have := HL0.out
              omega
            · obtain rfl : i = L.length := by omega
              have HBx := Lib.hid (HBr.out.trans (HFr.out.below (B := w.heap.size) HBr.out.size (by simp)))
              go_wp2_with fail
              go_ret
              exact ⟨rfl, HBx.out⟩
        · rw [← HCN.out]
          clear hkN
          go_wp2_with fail
          have HSr0 := Lib.hid (HS4.out.same (HF.out.block _ HS4.out.lt (by simp)))
          have K1r0 := Lib.hid (K14.out.same (HF.out.block _ (WSecs.lt K14.out) (by simp)))
          have K2r0 := Lib.hid (K24.out.fr HF.out (by simp))
          have HBr := Lib.hid (HB4.out.trans (HF.out.below (B := w.heap.size) HB4.out.size (by simp)))
          go_loopw [10, 11, 12] (fun row last v wx => ∃ (i : Nat) (r l : Int), v = .int .i64 i ∧ row = .int .i64 r ∧ last = .int .i64 l ∧ i ≤ L.length ∧ Hid (RS Y L (RA.length + RB.length) i r l) ∧ Hid (Fr [] wr wx)) (fun _ _ v _ => L.length - (intOf v).toNat)
          case atStart => exact ⟨0, 0, -1, rfl, rfl, rfl, Nat.zero_le _, Lib.hid (rs_start _ _ _), Lib.hid (Fr.refl _ _)⟩
          case round =>
            obtain ⟨i, r, l, rfl, rfl, rfl, hi, HRS2, HFr⟩ := hrel
            have hrepx := (HFr.out.block _ (hat_lt hrepr) (by simp)).trans hrepr
            have hspx := (HFr.out.block _ (hat_lt hspr) (by simp)).trans hspr
            have hrxl := hat_lt hrepx
            have hsxl := hat_lt hspx
            have HSr := Lib.hid (HSr0.out.same (HFr.out.block _ HSr0.out.lt (by simp)))
            have K1r := Lib.hid (K1r0.out.same (HFr.out.block _ (WSecs.lt K1r0.out) (by simp)))
            have K2r := Lib.hid (K2r0.out.fr HFr.out (by simp))
            by_cases hiL : i < L.length
            · obtain ⟨g2, f2, cc1, cs1, s1, t1, u1, x1⟩ := K2r.out.cell (k := i) hiL
              injection s1 with s1 s2 s3
              injection s1 with s1
              injection s1 with p1 p2
              subst p1 p2 s3
              clear s2 t1
              obtain ⟨j, hj, hj1, hjN, hjd⟩ := HWL.out i hiL
              rw [hj] at x1
              have hi0 : (0 : Int) ≤ (i : Int) := Int.natCast_nonneg _
              have hi1 : (i : Int) < (L.length : Int) := by omega
              have hjp : (1 : Int) ≤ (j : Int) := by omega
              have hjn : (j : Int) < (N : Int) := by omega
              have e1 : decide ((j : Int) < 1) = false := decide_eq_false (by omega)
              have e2 : decide ((N : Int) ≤ (j : Int)) = false := decide_eq_false (by omega)
              have hq2 : decide (S j = W j) = false := decide_eq_false (fun e => hjd e.symm)
              obtain ⟨csI, tI, frI, hcI, hlI⟩ := HSr.out.load hjN
              obtain ⟨lI, -⟩ := HSr.out.len hjN
              obtain ⟨csW, hcW, hlW, lW, -⟩ := K1r.out.load hjN
              have hend : ∀ r', RS Y L (RA.length + RB.length) (i + 1) r' (nth L i) → Hid (RS Y L (RA.length + RB.length) (i + 1) r' (j : Int)) := fun r' h => Lib.hid (by rw [← hj]; exact h)
              have HEND := Lib.hid hend
              have HJ := Lib.hid hj
              have hj00 : 0 ≤ nth L i := by rw [hj]; omega
              have HJ0 := Lib.hid hj00
              clear hend hj hj00 hjd
              have hLN : (L.length : Int) ≤ 4096 := by (have := HCN.out; have := cntD_le S W N; omega)
              have HIL := Lib.hid hiL
              have hj00' : (0 : Int) ≤ (j : Int) := Int.natCast_nonneg _
              go_wp2_with fail
              refine wp_region_vals (by kernel_rfl) 20 (by decide) rfl (fun i => match i with | 0 => (.int .i64 (j : Int)) | 1 => (.bool false) | 2 => (.bool false) | 3 => (.int .i64 (j : Int)) | 4 => (.slice (some ⟨gi, oi, none⟩) N ci) | 5 => (.int .i64 (N : Int)) | 6 => (.bool false) | 7 => (.bool false) | 8 => (.bool false) | 9 => (.slice (some ⟨gi, oi, none⟩) N ci) | 10 => (.int .i64 (j : Int)) | 11 => (.pointer (some ⟨gi, oi + j * 128, none⟩)) | 12 => (.agg (IV .u8 (S j))) | 13 => (.pointer (some ⟨gr, 0, none⟩)) | 14 => (.slice (some ⟨gw, 0, none⟩) N cw) | 15 => (.int .i64 (j : Int)) | 16 => (.pointer (some ⟨gw, j * 128, none⟩)) | 17 => (.agg (IV .u8 (W j))) | 18 => (.bool false) | _ => (.bool false)) ?_ ?_
              · intro i' o ho0 ho a' w' hB hS hF
                have hi' : i' = 0 ∨ i' = 1 ∨ i' = 2 ∨ i' = 3 ∨ i' = 4 ∨ i' = 5 ∨ i' = 6 ∨ i' = 7 ∨ i' = 8 ∨ i' = 9 ∨ i' = 10 ∨ i' = 11 ∨ i' = 12 ∨ i' = 13 ∨ i' = 14 ∨ i' = 15 ∨ i' = 16 ∨ i' = 17 ∨ i' = 18 ∨ i' = 19 := by omega
                have hcI2 := (hop hB hcI).1
                have hcW2 := (hop hB hcW).1
                have hrep2 := (hop hB hrepx).1
                rcases hi' with rfl | rfl | rfl | rfl | rfl | rfl | rfl | rfl | rfl | rfl | rfl | rfl | rfl | rfl | rfl | rfl | rfl | rfl | rfl | rfl
                all_goals (have ho' := Option.some.inj ho; subst ho')
                · have q13 : a'.tmps[13]?.getD undef = (.int .i64 (j : Int)) := gtx ((hS 13 (by decide)).trans rfl)
                  refine wpOp_val_g rfl (wanted_free rfl) (v := (.int .i64 (j : Int))) (w1 := w') ?_ ⟨rfl, hB⟩
                  simp [go_sem, q13]
                · have q73 : a'.tmps[73]?.getD undef = (.int .i64 (j : Int)) := gtx ((hF 0 (by decide) _ 73 rfl rfl).trans rfl)
                  refine wpOp_val_g rfl (wanted_free rfl) (v := (.bool false)) (w1 := w') ?_ ⟨rfl, hB⟩
                  simp [go_sem, q73, e1]
                · have q74 : a'.tmps[74]?.getD undef = (.bool false) := gtx ((hF 1 (by decide) _ 74 rfl rfl).trans rfl)
                  refine wpOp_val_g rfl (wanted_free rfl) (v := (.bool false)) (w1 := w') ?_ ⟨rfl, hB⟩
                  simp [go_sem, q74]
                · have q13 : a'.tmps[13]?.getD undef = (.int .i64 (j : Int)) := gtx ((hS 13 (by decide)).trans rfl)
                  refine wpOp_val_g rfl (wanted_of (j := 2) (d := 75) (b := false) rfl rfl rfl ((hF 2 (by decide) _ 75 rfl rfl).trans rfl)) (v := (.int .i64 (j : Int))) (w1 := w') ?_ ⟨rfl, hB⟩
                  simp [go_sem, q13]
                · have q0 : a'.tmps[0]?.getD undef = (.slice (some ⟨gi, oi, none⟩) N ci) := gtx ((hS 0 (by decide)).trans rfl)
                  refine wpOp_val_g rfl (wanted_of (j := 2) (d := 75) (b := false) rfl rfl rfl ((hF 2 (by decide) _ 75 rfl rfl).trans rfl)) (v := (.slice (some ⟨gi, oi, none⟩) N ci)) (w1 := w') ?_ ⟨rfl, hB⟩
                  simp [go_sem, q0]
                · have q77 : a'.tmps[77]?.getD undef = (.slice (some ⟨gi, oi, none⟩) N ci) := gtx ((hF 4 (by decide) _ 77 rfl rfl).trans rfl)
                  refine wpOp_val_g rfl (wanted_of (j := 2) (d := 75) (b := false) rfl rfl rfl ((hF 2 (by decide) _ 75 rfl rfl).trans rfl)) (v := (.int .i64 (N : Int))) (w1 := w') ?_ ⟨rfl, hB⟩
                  simp [go_sem, q77]
                · have q76 : a'.tmps[76]?.getD undef = (.int .i64 (j : Int)) := gtx ((hF 3 (by decide) _ 76 rfl rfl).trans rfl)
                  have q78 : a'.tmps[78]?.getD undef = (.int .i64 (N : Int)) := gtx ((hF 5 (by decide) _ 78 rfl rfl).trans rfl)
                  refine wpOp_val_g rfl (wanted_of (j := 2) (d := 75) (b := false) rfl rfl rfl ((hF 2 (by decide) _ 75 rfl rfl).trans rfl)) (v := (.bool false)) (w1 := w') ?_ ⟨rfl, hB⟩
                  simp [go_sem, q76, q78, hjN]
                · have q75 : a'.tmps[75]?.getD undef = (.bool false) := gtx ((hF 2 (by decide) _ 75 rfl rfl).trans rfl)
                  have q79 : a'.tmps[79]?.getD undef = (.bool false) := gtx ((hF 6 (by decide) _ 79 rfl rfl).trans rfl)
                  refine wpOp_val_g rfl (wanted_free rfl) (v := (.bool false)) (w1 := w') ?_ ⟨rfl, hB⟩
                  simp [go_sem, q75, q79]
                · have q80 : a'.tmps[80]?.getD undef = (.bool false) := gtx ((hF 7 (by decide) _ 80 rfl rfl).trans rfl)
                  refine wpOp_val_g rfl (wanted_free rfl) (v := (.bool false)) (w1 := w') ?_ ⟨rfl, hB⟩
                  simp [go_sem, q80]
                · have q0 : a'.tmps[0]?.getD undef = (.slice (some ⟨gi, oi, none⟩) N ci) := gtx ((hS 0 (by decide)).trans rfl)
                  refine wpOp_val_g rfl (wanted_of (j := 8) (d := 81) (b := false) rfl rfl rfl ((hF 8 (by decide) _ 81 rfl rfl).trans rfl)) (v := (.slice (some ⟨gi, oi, none⟩) N ci)) (w1 := w') ?_ ⟨rfl, hB⟩
                  simp [go_sem, q0]
                · have q13 : a'.tmps[13]?.getD undef = (.int .i64 (j : Int)) := gtx ((hS 13 (by decide)).trans rfl)
                  refine wpOp_val_g rfl (wanted_of (j := 8) (d := 81) (b := false) rfl rfl rfl ((hF 8 (by decide) _ 81 rfl rfl).trans rfl)) (v := (.int .i64 (j : Int))) (w1 := w') ?_ ⟨rfl, hB⟩
                  simp [go_sem, q13]
                · have q82 : a'.tmps[82]?.getD undef = (.slice (some ⟨gi, oi, none⟩) N ci) := gtx ((hF 9 (by decide) _ 82 rfl rfl).trans rfl)
                  have q83 : a'.tmps[83]?.getD undef = (.int .i64 (j : Int)) := gtx ((hF 10 (by decide) _ 83 rfl rfl).trans rfl)
                  refine wpOp_val_g rfl (wanted_of (j := 8) (d := 81) (b := false) rfl rfl rfl ((hF 8 (by decide) _ 81 rfl rfl).trans rfl)) (v := (.pointer (some ⟨gi, oi + j * 128, none⟩))) (w1 := w') ?_ ⟨rfl, hB⟩
                  simp [go_sem, q82, q83, hjn, hj00']
                · have q84 : a'.tmps[84]?.getD undef = (.pointer (some ⟨gi, oi + j * 128, none⟩)) := gtx ((hF 11 (by decide) _ 84 rfl rfl).trans rfl)
                  refine wpOp_val_g rfl (wanted_of (j := 8) (d := 81) (b := false) rfl rfl rfl ((hF 8 (by decide) _ 81 rfl rfl).trans rfl)) (v := (.agg (IV .u8 (S j)))) (w1 := w') ?_ ⟨rfl, hB⟩
                  simp [go_sem, q84, hcI2, hlI]
                · have q4 : a'.tmps[4]?.getD undef = (.pointer (some ⟨gr, 0, none⟩)) := gtx ((hS 4 (by decide)).trans rfl)
                  refine wpOp_val_g rfl (wanted_of (j := 8) (d := 81) (b := false) rfl rfl rfl ((hF 8 (by decide) _ 81 rfl rfl).trans rfl)) (v := (.pointer (some ⟨gr, 0, none⟩))) (w1 := w') ?_ ⟨rfl, hB⟩
                  simp [go_sem, q4, hrep2]
                · have q86 : a'.tmps[86]?.getD undef = (.pointer (some ⟨gr, 0, none⟩)) := gtx ((hF 13 (by decide) _ 86 rfl rfl).trans rfl)
                  refine wpOp_val_g rfl (wanted_of (j := 8) (d := 81) (b := false) rfl rfl rfl ((hF 8 (by decide) _ 81 rfl rfl).trans rfl)) (v := (.slice (some ⟨gw, 0, none⟩) N cw)) (w1 := w') ?_ ⟨rfl, hB⟩
                  simp [go_sem, q86, hrep2]
                · have q13 : a'.tmps[13]?.getD undef = (.int .i64 (j : Int)) := gtx ((hS 13 (by decide)).trans rfl)
                  refine wpOp_val_g rfl (wanted_of (j := 8) (d := 81) (b := false) rfl rfl rfl ((hF 8 (by decide) _ 81 rfl rfl).trans rfl)) (v := (.int .i64 (j : Int))) (w1 := w') ?_ ⟨rfl, hB⟩
                  simp [go_sem, q13]
                · have q87 : a'.tmps[87]?.getD undef = (.slice (some ⟨gw, 0, none⟩) N cw) := gtx ((hF 14 (by decide) _ 87 rfl rfl).trans rfl)
                  have q88 : a'.tmps[88]?.getD undef = (.int .i64 (j : Int)) := gtx ((hF 15 (by decide) _ 88 rfl rfl).trans rfl)
                  refine wpOp_val_g rfl (wanted_of (j := 8) (d := 81) (b := false) rfl rfl rfl ((hF 8 (by decide) _ 81 rfl rfl).trans rfl)) (v := (.pointer (some ⟨gw, j * 128, none⟩))) (w1 := w') ?_ ⟨rfl, hB⟩
                  simp [go_sem, q87, q88, hjn, hj00']
                · have q89 : a'.tmps[89]?.getD undef = (.pointer (some ⟨gw, j * 128, none⟩)) := gtx ((hF 16 (by decide) _ 89 rfl rfl).trans rfl)
                  refine wpOp_val_g rfl (wanted_of (j := 8) (d := 81) (b := false) rfl rfl rfl ((hF 8 (by decide) _ 81 rfl rfl).trans rfl)) (v := (.agg (IV .u8 (W j)))) (w1 := w') ?_ ⟨rfl, hB⟩
                  simp [go_sem, q89, hcW2, hlW]
                · have q85 : a'.tmps[85]?.getD undef = (.agg (IV .u8 (S j))) := gtx ((hF 12 (by decide) _ 85 rfl rfl).trans rfl)
                  have q90 : a'.tmps[90]?.getD undef = (.agg (IV .u8 (W j))) := gtx ((hF 17 (by decide) _ 90 rfl rfl).trans rfl)
                  refine wpOp_val_g rfl (wanted_of (j := 8) (d := 81) (b := false) rfl rfl rfl ((hF 8 (by decide) _ 81 rfl rfl).trans rfl)) (v := (.bool false)) (w1 := w') ?_ ⟨rfl, hB⟩
                  simp [go_sem, q85, q90, lI, lW, hq2]
                · have q81 : a'.tmps[81]?.getD undef = (.bool false) := gtx ((hF 8 (by decide) _ 81 rfl rfl).trans rfl)
                  have q91 : a'.tmps[91]?.getD undef = (.bool false) := gtx ((hF 18 (by decide) _ 91 rfl rfl).trans rfl)
                  refine wpOp_val_g rfl (wanted_free rfl) (v := (.bool false)) (w1 := w') ?_ ⟨rfl, hB⟩
                  simp [go_sem, q81, q91]
              · intro w5 hB5
                have hspy := (hop hB5 hspx).1
                have hsyl := hat_lt hspy
                have HF5 := Lib.hid (HFr.out.trans (fr_below hB5 []))
                simp only [putAll, List.take, List.drop, List.take_succ_cons, List.drop_succ_cons, Act.put, List.setIfInBounds_toArray, List.set_cons_zero, List.set_cons_succ]
                clear hB5 hrepx hspx hcI hcW hlI hlW lI lW hrxl hsxl
                rcases rs_kinds HRS2.out with rfl | rfl | rfl
                · by_cases hy : (j : Int) ≤ Y
                  · have hy2 : decide ((j : Int) ≤ Y) = true := decide_eq_true hy
                    have HN1 := Lib.hid (HEND.out 1 (rs_0i HR3.out hiL (by rw [HJ.out]; exact hy))).out
                    clear HEND HJ HJ0 HRS2
                    go_wp2_with fail
                    go_roundw
                    case rel => exact ⟨i + 1, 1, j, by go_num, by go_num, rfl, by (have := HIL.out; omega), HN1, HF5⟩
                    case measure => (show L.length - (i + 1) < L.length - i); omega
                  · have hy2 : decide ((j : Int) ≤ Y) = false := decide_eq_false hy
                    by_cases hl : (j : Int) < l
                    · have hl2 : decide ((j : Int) < l) = true := decide_eq_true hl
                      have HN1 := Lib.hid (HEND.out 2 (rs_0c HR3.out HRS2.out hiL HJ0.out (by rw [HJ.out]; exact hy) (by rw [HJ.out]; exact hl))).out
                      clear HEND HJ HJ0 HRS2
                      go_wp2_with fail
                      go_roundw
                      case rel => exact ⟨i + 1, 2, j, by go_num, by go_num, rfl, by (have := HIL.out; omega), HN1, HF5⟩
                      case measure => (show L.length - (i + 1) < L.length - i); omega
                    · have hl2 : decide ((j : Int) < l) = false := decide_eq_false hl
                      have h0s := rs_0s HR3.out HRS2.out hiL HJ0.out (by rw [HJ.out]; exact hy) (by rw [HJ.out]; exact hl)
                      have HN1 := Lib.hid (HEND.out 0 h0s.2).out
                      have hlj : l < (j : Int) := by have := h0s.1; rw [HJ.out] at this; exact this
                      have hl3 : decide ((j : Int) ≤ l) = false := decide_eq_false (by omega)
                      clear h0s
                      clear HEND HJ HJ0 HRS2
                      go_wp2_with fail
                      go_roundw
                      case rel => exact ⟨i + 1, 0, j, by go_num, by go_num, rfl, by (have := HIL.out; omega), HN1, HF5⟩
                      case measure => (show L.length - (i + 1) < L.length - i); omega
                · by_cases hy : (j : Int) ≤ Y
                  · have hy2 : decide ((j : Int) ≤ Y) = true := decide_eq_true hy
                    have h0s := rs_1i HR3.out HRS2.out hiL (by rw [HJ.out]; exact hy)
                    have HN1 := Lib.hid (HEND.out 1 h0s.2).out
                    have hlj : l < (j : Int) := by have := h0s.1; rw [HJ.out] at this; exact this
                    have hl3 : decide ((j : Int) ≤ l) = false := decide_eq_false (by omega)
                    clear h0s
                    clear HEND HJ HJ0 HRS2
                    go_wp2_with fail
                    go_roundw
                    case rel => exact ⟨i + 1, 1, j, by go_num, by go_num, rfl, by (have := HIL.out; omega), HN1, HF5⟩
                    case measure => (show L.length - (i + 1) < L.length - i); omega
                  · have hy2 : decide ((j : Int) ≤ Y) = false := decide_eq_false hy
                    have HN1 := Lib.hid (HEND.out 2 (rs_1n HR3.out HRS2.out hiL (by rw [HJ.out]; exact hy))).out
                    clear HEND HJ HJ0 HRS2
                    go_wp2_with fail
                    go_roundw
                    case rel => exact ⟨i + 1, 2, j, by go_num, by go_num, rfl, by (have := HIL.out; omega), HN1, HF5⟩
                    case measure => (show L.length - (i + 1) < L.length - i); omega
                · have h0s := rs_2 HR3.out HRS2.out hiL
                  have hy : ¬ (j : Int) ≤ Y := by have := h0s.1; rw [HJ.out] at this; exact this
                  have hy2 : decide ((j : Int) ≤ Y) = false := decide_eq_false hy
                  have HN1 := Lib.hid (HEND.out 2 h0s.2.2).out
                  have hlj : l < (j : Int) := by have := h0s.2.1; rw [HJ.out] at this; exact this
                  have hl3 : decide ((j : Int) ≤ l) = false := decide_eq_false (by omega)
                  clear h0s
                  clear HEND HJ HJ0 HRS2
                  go_wp2_with fail
                  go_roundw
                  case rel => exact ⟨i + 1, 2, j, by go_num, by go_num, rfl, by (have := HIL.out; omega), HN1, HF5⟩
                  case measure => (show L.length - (i + 1) < L.length - i); omega
            · obtain rfl : i = L.length := by omega
              have HBx := Lib.hid (HBr.out.trans (HFr.out.below (B := w.heap.size) HBr.out.size (by simp)))
              go_wp2_with fail
              go_ret
              exact ⟨rfl, HBx.out⟩
end Go.Proofs.Ythioepdgnbdohaa
