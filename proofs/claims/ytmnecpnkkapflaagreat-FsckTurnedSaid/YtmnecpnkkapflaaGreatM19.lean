import Derived.Deep.CutRange
import Derived.Test.YtmnecpnkkapflaaGreatM13
import Derived.Test.YtmnecpnkkapflaaGreatM15
import Derived.Test.YtmnecpnkkapflaaGreatM16
import Derived.Test.YtmnecpnkkapflaaGreatM17
namespace Go.Proofs.YtmnecpnkkapflaaGreat
set_option maxHeartbeats 16000000
set_option maxRecDepth 1000000
set_option linter.unusedSimpArgs false
set_option linter.unusedVariables false
open Go.RowKit
theorem differL_rises (N : Nat) (S I : Nat → List Int) (sort : Nat → Bool) : (differL N S I sort).Pairwise (· < ·) := by
 unfold differL
 refine List.Pairwise.map _ (R := fun a b : Nat => a < b) (fun a b h => by omega) ?_
 exact List.Pairwise.filter _ List.pairwise_lt_range
structure Rows3 (Y : Int) (L A B C : List Int) : Prop where
 eq : L = A ++ B ++ C
 nd : L.Nodup
 hA : A.Pairwise (· < ·)
 hB : B.Pairwise (· < ·)
 hC : C.Pairwise (· < ·)
 a : ∀ x ∈ A, Y < x
 b : ∀ x ∈ B, x ≤ Y
 c : ∀ x ∈ C, Y < x
theorem rows3 (N : Nat) (Y : Int) (S I : Nat → List Int) (fm : Int → Bool) : Rows3 Y (writeL N Y S I fm) (row0 N Y S I fm) (row1 N Y S I) (row2 N Y S I fm) := by
 refine ⟨writeL_rows _ _ _ _ _, writeL_nodup _ _ _ _ _, differL_rises _ _ _ _, differL_rises _ _ _ _, differL_rises _ _ _ _, fun x hx => ?_, fun x hx => ?_, fun x hx => ?_⟩
 ·obtain ⟨j, rfl⟩ := row_nat hx
  have := (mem_row0.1 hx).2.2.1
  omega
 ·obtain ⟨j, rfl⟩ := row_nat hx
  exact (mem_row1.1 hx).2.2
 ·obtain ⟨j, rfl⟩ := row_nat hx
  have := (mem_row2.1 hx).2.2.1
  omega
theorem pair_next {L : List Int} (h : L.Pairwise (· < ·)) {i j : Nat} (hij : i < j) (hj : j < L.length) : nth L i < nth L j := by
 have := List.pairwise_iff_getElem.1 h i j (by omega) hj hij
 unfold nth
 rw [List.getElem?_eq_getElem hj, List.getElem?_eq_getElem (show i < L.length by omega)]
 exact this
theorem nth_mem' {L : List Int} {i : Nat} (h : i < L.length) : nth L i ∈ L := by
 unfold nth
 rw [List.getElem?_eq_getElem h]
 exact List.getElem_mem h
section
variable {Y : Int} {L A B C : List Int}
theorem Rows3.inA (h : Rows3 Y L A B C) {k : Nat} (hk : k < A.length) : nth L k = nth A k := by
 rw [h.eq, List.append_assoc, nth_app_l hk]
theorem Rows3.inB (h : Rows3 Y L A B C) {k : Nat} (hk : A.length ≤ k) (hk2 : k < A.length + B.length) : nth L k = nth B (k - A.length) := by
 rw [h.eq, List.append_assoc, nth_app_r hk, nth_app_l (by omega)]
theorem Rows3.inC (h : Rows3 Y L A B C) {k : Nat} (hk : A.length + B.length ≤ k) : nth L k = nth C (k - A.length - B.length) := by
 rw [h.eq, List.append_assoc, nth_app_r (by omega), nth_app_r (by omega)]
theorem Rows3.len (h : Rows3 Y L A B C) : L.length = A.length + B.length + C.length := by
 rw [h.eq]; simp; omega
theorem Rows3.low (h : Rows3 Y L A B C) {k : Nat} (hk : k < L.length) (hl : nth L k ≤ Y) : A.length ≤ k ∧ k < A.length + B.length := by
 have hlen := h.len
 refine ⟨?_, ?_⟩
 ·false_or_by_contra
  rename_i hc
  rw [h.inA (by omega)] at hl
  have := h.a _ (nth_mem' (show k < A.length by omega))
  omega
 ·false_or_by_contra
  rename_i hc
  rw [h.inC (by omega)] at hl
  have := h.c _ (nth_mem' (show k - A.length - B.length < C.length by omega))
  omega
theorem Rows3.high (h : Rows3 Y L A B C) {k : Nat} (hk : k < L.length) (hl : ¬ nth L k ≤ Y) : k < A.length ∨ A.length + B.length ≤ k := by
 false_or_by_contra
 rename_i hc
 have hb : A.length ≤ k ∧ k < A.length + B.length := by omega
 rw [h.inB hb.1 hb.2] at hl
 exact hl (h.b _ (nth_mem' (show k - A.length < B.length by omega)))
def RS (Y : Int) (L : List Int) (b k : Nat) (row last : Int) : Prop :=
 (row = 0 ∧ (k = 0 ∧ last = -1 ∨ 0 < k ∧ last = nth L (k - 1) ∧ Y < last)) ∨ (row = 1 ∧ 0 < k ∧ nth L (k - 1) ≤ Y ∧ last = nth L (k - 1)) ∨ (row = 2 ∧ b < k ∧ last = nth L (k - 1))
theorem rs_start (Y : Int) (L : List Int) (b : Nat) : RS Y L b 0 0 (-1) := .inl ⟨rfl, .inl ⟨rfl, rfl⟩⟩
theorem rs_0i (h : Rows3 Y L A B C) {k : Nat} (hk : k < L.length) (hi : nth L k ≤ Y) : RS Y L (A.length + B.length) (k + 1) 1 (nth L k) := .inr (.inl ⟨rfl, by omega, hi, rfl⟩)
theorem rs_0c (h : Rows3 Y L A B C) {k : Nat} {last : Int} (hr : RS Y L (A.length + B.length) k 0 last) (hk : k < L.length) (hp : 0 ≤ nth L k) (hi : ¬ nth L k ≤ Y) (hl : nth L k < last) : RS Y L (A.length + B.length) (k + 1) 2 (nth L k) := by
 refine .inr (.inr ⟨rfl, ?_, rfl⟩)
 rcases hr with ⟨-, ⟨-, h1⟩ | ⟨h0, h1, h2⟩⟩ | ⟨h1, -⟩ | ⟨h1, -⟩
 ·omega
 ·rcases h.high hk hi with h3 | h3
  ·exfalso
   rw [h1, h.inA h3, h.inA (show k - 1 < A.length by omega)] at hl
   have := pair_next h.hA (show k - 1 < k by omega) h3
   omega
  ·omega
 ·cases h1
 ·cases h1
theorem rs_0s (h : Rows3 Y L A B C) {k : Nat} {last : Int} (hr : RS Y L (A.length + B.length) k 0 last) (hk : k < L.length) (hp : 0 ≤ nth L k) (hi : ¬ nth L k ≤ Y) (hl : ¬ nth L k < last) : last < nth L k ∧ RS Y L (A.length + B.length) (k + 1) 0 (nth L k) := by
 refine ⟨?_, .inl ⟨rfl, .inr ⟨by omega, rfl, by omega⟩⟩⟩
 rcases hr with ⟨-, ⟨-, h1⟩ | ⟨h0, h1, h2⟩⟩ | ⟨h1, -⟩ | ⟨h1, -⟩
 ·omega
 ·have hne : nth L (k - 1) ≠ nth L k := by
   have := List.pairwise_iff_getElem.1 h.nd (k - 1) k (by omega) hk (by omega)
   unfold nth
   rw [List.getElem?_eq_getElem hk, List.getElem?_eq_getElem (show k - 1 < L.length by omega)]
   exact this
  omega
 ·cases h1
 ·cases h1
theorem rs_1i (h : Rows3 Y L A B C) {k : Nat} {last : Int} (hr : RS Y L (A.length + B.length) k 1 last) (hk : k < L.length) (hi : nth L k ≤ Y) : last < nth L k ∧ RS Y L (A.length + B.length) (k + 1) 1 (nth L k) := by
 refine ⟨?_, rs_0i h hk hi⟩
 rcases hr with ⟨h1, -⟩ | ⟨-, h0, h1, h2⟩ | ⟨h1, -⟩
 ·cases h1
 ·have a1 := h.low (show k - 1 < L.length by omega) h1
  have a2 := h.low hk hi
  rw [h2, h.inB a1.1 a1.2, h.inB a2.1 a2.2]
  exact pair_next h.hB (by omega) (by omega)
 ·cases h1
theorem rs_1n (h : Rows3 Y L A B C) {k : Nat} {last : Int} (hr : RS Y L (A.length + B.length) k 1 last) (hk : k < L.length) (hi : ¬ nth L k ≤ Y) : RS Y L (A.length + B.length) (k + 1) 2 (nth L k) := by
 refine .inr (.inr ⟨rfl, ?_, rfl⟩)
 rcases hr with ⟨h1, -⟩ | ⟨-, h0, h1, h2⟩ | ⟨h1, -⟩
 ·cases h1
 ·have a1 := h.low (show k - 1 < L.length by omega) h1
  rcases h.high hk hi with h3 | h3 <;> omega
 ·cases h1
theorem rs_2 (h : Rows3 Y L A B C) {k : Nat} {last : Int} (hr : RS Y L (A.length + B.length) k 2 last) (hk : k < L.length) : ¬ nth L k ≤ Y ∧ last < nth L k ∧ RS Y L (A.length + B.length) (k + 1) 2 (nth L k) := by
 rcases hr with ⟨h1, -⟩ | ⟨h1, -⟩ | ⟨-, h0, h1⟩
 ·cases h1
 ·cases h1
 ·have hlen := h.len
  refine ⟨?_, ?_, .inr (.inr ⟨rfl, by omega, rfl⟩)⟩
  ·rw [h.inC (by omega)]
   have := h.c _ (nth_mem' (show k - A.length - B.length < C.length by omega))
   omega
  ·rw [h1, h.inC (show A.length + B.length ≤ k by omega), h.inC (show A.length + B.length ≤ k - 1 by omega)]
   exact pair_next h.hC (by omega) (by omega)
theorem rs_kinds {b k : Nat} {row last : Int} (h : RS Y L b k row last) : row = 0 ∨ row = 1 ∨ row = 2 := by
 rcases h with ⟨h, -⟩ | ⟨h, -⟩ | ⟨h, -⟩
 ·exact .inl h
 ·exact .inr (.inl h)
 ·exact .inr (.inr h)
end
def cntD (S W : Nat → List Int) (k : Nat) : Nat := ((List.range k).filter fun i => decide (W i ≠ S i)).length
theorem cntD_succ (S W : Nat → List Int) (k : Nat) : cntD S W (k + 1) = cntD S W k + if W k ≠ S k then 1 else 0 := by
 unfold cntD
 rw [List.range_succ, List.filter_append, List.length_append]
 congr 1
 by_cases h : W k = S k
 ·simp [h]
 ·simp [h]
theorem cntD_le (S W : Nat → List Int) (k : Nat) : cntD S W k ≤ k := by
 unfold cntD
 have := List.length_filter_le (fun i => decide (W i ≠ S i)) (List.range k)
 simpa using this
theorem filter_two {α : Type} (p q : α → Bool) : ∀ l : List α, (l.filter fun x => p x && q x).length + (l.filter fun x => p x && !q x).length = (l.filter p).length
 | [] => rfl
 | a :: l => by
  have ih := filter_two p q l
  simp only [List.filter_cons]
  cases p a <;> cases q a <;> simp <;> omega
theorem writeL_cnt (N : Nat) (Y : Int) (W S : Nat → List Int) (fm : Int → Bool) : (writeL N Y W S fm).length = cntD S W N := by
 unfold writeL differL cntD
 simp only [List.length_append, List.length_map]
 have h1 := filter_two (fun i : Nat => decide (W i ≠ S i)) (fun i : Nat => decide ((i : Int) ≤ Y)) (List.range N)
 have h2 := filter_two (fun i : Nat => decide (W i ≠ S i) && !decide ((i : Int) ≤ Y)) (fun i : Nat => fm (i : Int)) (List.range N)
 simp only [Bool.and_assoc] at h2
 omega
theorem write_law {X Y : Int} {N : Nat} (hY : 1 ≤ Y) (hN : X = N) {S : Nat → List Int} (hS : ∀ j, j < N → (S j).length = 128 ∧ Bytes (S j)) (hs : soundR (S 1) = true) (hSY : Y < N) :
  ∀ k, k < (writeL N Y (repS Y (lookZ X Y S)) S (lookZ X Y S).st.fm).length → ∃ j : Nat, nth (writeL N Y (repS Y (lookZ X Y S)) S (lookZ X Y S).st.fm) k = j ∧ 1 ≤ j ∧ j < N ∧ repS Y (lookZ X Y S) j ≠ S j := by
 intro k hk
 have hm := nth_mem' hk
 obtain ⟨j, hj⟩ := writeL_nat hm
 rw [hj] at hm
 obtain ⟨h1, h2⟩ := mem_writeL.1 hm
 refine ⟨j, hj, ?_, h1, h2⟩
 false_or_by_contra
 rename_i hc
 obtain rfl : j = 0 := by omega
 have := (cut_law hY hN hS hs hSY (writeL N Y (repS Y (lookZ X Y S)) S (lookZ X Y S).st.fm).length).2.2.2.2.1
 unfold cutS at this
 rw [List.take_length] at this
 have hm0 : ((0 : Nat) : Int) ∈ writeL N Y (repS Y (lookZ X Y S)) S (lookZ X Y S).st.fm := hm
 rw [if_pos hm0] at this
 exact h2 this
theorem xor_b (a M : Int) (h0 : 0 ≤ a) (h1 : a < 256) (h2 : 0 ≤ M) (h3 : M ≤ 255) : 0 ≤ bits BinOp.xor IntKind.u8 a M ∧ bits BinOp.xor IntKind.u8 a M < 256 := by
 obtain ⟨n, rfl⟩ := Int.eq_ofNat_of_zero_le h0
 obtain ⟨m, rfl⟩ := Int.eq_ofNat_of_zero_le (show 0 ≤ M by omega)
 have hn : n < 256 := by omega
 have hm : m < 256 := by omega
 have e : bits BinOp.xor IntKind.u8 (n : Int) (m : Int) = ((n ^^^ m : Nat) : Int) := by
  have hx : n ^^^ m < 2 ^ 8 := Nat.xor_lt_two_pow hn hm
  have o : ∀ a : Nat, a < 256 → (BitVec.ofInt 8 (a : Int)).toNat = a := fun a ha => by
   rw [BitVec.toNat_ofInt]; omega
  show IntKind.u8.wrap ((BitVec.ofInt 8 (n : Int) ^^^ BitVec.ofInt 8 (m : Int)).toNat : Int) = _
  rw [BitVec.toNat_xor, o n hn, o m hm, IntKind.wrap_u8]
  omega
 rw [e]
 have h5 : n ^^^ m < 2 ^ 8 := Nat.xor_lt_two_pow hn hm
 exact ⟨by omega, by omega⟩
theorem lookE_two {N : Nat} {S S' : Nat → List Int} (h0 : S 0 = S' 0) (h1 : S 1 = S' 1) : lookE N S = lookE N S' := by
 unfold lookE rootOk
 rw [h0, h1]
theorem cntD_congr {S W W' : Nat → List Int} {k : Nat} (h : ∀ j, j < k → W j = W' j) : cntD S W k = cntD S W' k := by
 induction k with
 | zero => rfl
 | succ k ih => rw [cntD_succ, cntD_succ, ih (fun j hj => h j (by omega)), h k (by omega)]
def turnS (D : Nat → List Int) (n k : Nat) (M : Int) : Nat → List Int := updS D n ((D n).set k (bits BinOp.xor .u8 (nth (D n) k) M))
theorem turn_bad {N : Nat} {D : Nat → List Int} {n k : Nat} {M : Int} (h : lookE N D = 0) (hb : lookE N (turnS D n k M) ≠ 0) : n ≤ 1 := by
 refine Decidable.byContradiction fun hn => hb ?_
 rw [← h]
 refine lookE_two ?_ ?_
 ·unfold turnS updS; rw [if_neg (by omega)]
 ·unfold turnS updS; rw [if_neg (by omega)]
theorem turn_ok {N : Nat} {D : Nat → List Int} {n k : Nat} {M : Int} (hD : ∀ j, j < N → (D j).length = 128 ∧ Bytes (D j)) (hn : n < N) (h2 : 0 ≤ M) (h3 : M ≤ 255) :
  ∀ j, j < N → (turnS D n k M j).length = 128 ∧ Bytes (turnS D n k M j) := by
 intro j hj
 unfold turnS updS
 split
 ·rename_i e
  subst e
  refine ⟨by rw [List.length_set]; exact (hD _ hj).1, fun x hx => ?_⟩
  rcases List.mem_or_eq_of_mem_set hx with h | rfl
  ·exact (hD _ hj).2 x h
  ·have := (hD _ hj).2.at k
   exact xor_b _ M (by omega) (by omega) h2 h3
 ·exact hD j hj
theorem run_many {N : Nat} {S : Nat → List Int} (he : lookE N S = 0) : (lookX N S).length = cntD S (runD N (imgD S)).2.S N ∧ (runD N (imgD S)).2.cnt = (lookX N S).length := by
 rw [run_fresh (d := imgD S) rfl rfl he]
 refine ⟨?_, by show 0 + ((lookX N S).length : Int) = _; omega⟩
 show _ = cntD S (cutS S (lookS N S) (lookX N S)) N
 rw [cntD_congr (fun j hj => cut_all he hj)]
 have hX : lookX N S = writeL N (rdSupR (S 0)).2.1 (lookS N S) S (lookZ N (rdSupR (S 0)).2.1 S).st.fm := by unfold lookX; rw [if_pos he]
 rw [hX, writeL_cnt]
theorem fsckTurned_any {v u : Value} {sec : Int} {sp : List Spot} {o : Spot} {w : World} (h : Pic w v sec sp) (ho : SpotW w u o) : Calls Tryz.prog 6 #[v, u] w fun e w' => e = .returned (.bool true) ∧ Below w.heap.size w w' := by
 have H := Lib.hid h
 obtain ⟨so, ao, lo⟩ := o
 obtain ⟨p1, p2, dv, rfl, hb⟩ := ho
 simp only at p1 p2 hb
 obtain ⟨ad, cd, rfl, hdl, hby, hda⟩ := hb
 simp only
 have HP1 := Lib.hid p1
 have HP2 := Lib.hid p2
 have HBY := Lib.hid hby
 have HDA := Lib.hid hda
 clear p1 p2 hby hda
 obtain ⟨-, a, c, rfl, -⟩ := h
 have hf0 := fr_new w (.cells #[.int .i64 sec, .slice a sp.length c] 25) []
 have hg0 := (hopN w (.cells #[.int .i64 sec, .slice a sp.length c] 25)).1
 generalize hw0 : w.alloc (.cells #[.int .i64 sec, .slice a sp.length c] 25) = w0 at *
 have hf1 := fr_new w0 (.cells #[.int .i64 so, .int .i64 ao, .slice ad lo.length cd] 44) []
 have hs0 := (hopN w0 (.cells #[.int .i64 so, .int .i64 ao, .slice ad lo.length cd] 44)).1
 have hg1 := (hf1.block _ (hat_lt hg0) (by simp)).trans hg0
 have HF0 := Lib.hid (hf0.trans hf1)
 clear hf0 hf1 hg0
 go_enter Tryz.func6, Tryz.ntmps6
 go_wp2_with fail
 generalize hw1 : w0.alloc (.cells #[.int .i64 so, .int .i64 ao, .slice ad lo.length cd] 44) = w1 at *
 have HZ0 := Lib.hid (show w.heap.size < w0.heap.size from hat_lt (hw0 ▸ (hopN w (.cells #[.int .i64 sec, .slice a sp.length c] 25)).1))
 clear hw0 hw1
 generalize hgsp : w0.heap.size = gp at *
 clear hgsp
 refine (image_pic (H.out.fr HF0.out)).mono ?_; rintro e w3 ⟨gi, rfl, hws, hb3, hgi⟩
 have hP := picN_small sec
 have HF3 := Lib.hid (HF0.out.trans (fr_below hb3 []))
 have HW := Lib.hid hws
 generalize picN sec = N at *
 generalize picS sec sp = S at *
 have HSL := Lib.hid (fun j hj => hws.secs.len (i := j) hj)
 have HZ3 := Lib.hid HF3.out.size
 have HG3 := Lib.hid (hop hb3 hs0).1
 clear hws hb3 hg1 hs0
 go_wp2_with fail
 refine (from_any (img0_of HW.out) hP.1 (by omega)).mono ?_; rintro e w4 ⟨gd, gs, rfl, hdk, hb4, hd1, hd2⟩
 have HF4 := Lib.hid (HF3.out.trans (fr_below hb4 []))
 have HD4 := Lib.hid hdk
 have HG4 := Lib.hid (hop hb4 HG3.out).1
 have HGD := Lib.hid (show w3.heap.size ≤ gd ∧ w3.heap.size ≤ gs ∧ gp < w3.heap.size from ⟨hd1, hd2, hat_lt HG3.out⟩)
 clear hdk hb4 hd1 hd2
 go_wp2_with fail
 refine (known13_true _).mono ?_; rintro e w5 ⟨rfl, hb5⟩
 have HF5 := Lib.hid (HF4.out.trans (fr_below hb5 []))
 have HD5 := Lib.hid (HD4.out.fr (fr_below hb5 []) (by simp) (by simp))
 have HG5 := Lib.hid (hop hb5 HG4.out).1
 clear hb5
 go_wp2_with fail
 refine (run_any HD5.out (img_ok S) (by simp [imgD]) (by omega)).mono ?_; rintro e wq ⟨R, hR⟩
 obtain ⟨a0, c0, a1, c1, a2, c2, a3, c3, hv, hh⟩ := hR.hold
 obtain rfl := hR.e
 rw [hv, run_fst]
 have HK6 := Lib.hid hh.k
 have HF6 := Lib.hid ((HF5.out.mono (ex' := [gd, gs]) (by simp)).trans hh.f)
 have HG6 := Lib.hid ((hh.f.block gp (hat_lt HG5.out) (by have := HGD.out; simp; omega)).trans HG5.out)
 clear hR hv hh HF3 HF4 HF5 HG3 HG4 HG5 HD4 HD5 HW
 go_upto_region 5 with fail
 generalize wq.alloc (.cells #[.slice a0 R.N c0, .slice a1 R.xs.length c1, .slice a2 R.ys.length c2, .slice a3 R.zs.length c3] 34) = w6 at *
 generalize wq.heap.size = gr at *
 by_cases he : lookE N S = 0
 ·rw [he]
  have htw := two_runs HSL.out he
  have HDL := Lib.hid (show ∀ j, j < N → ((runD N (imgD S)).2.S j).length = 128 ∧ Bytes ((runD N (imgD S)).2.S j) from fun j hj => HK6.out.hs.secs.len hj)
  have HE1 : Hid (lookE N (runD N (imgD S)).2.S = 0) := Lib.hid htw.1
  clear htw he
  generalize (runD N (imgD S)).2 = d1 at *
  go_wp2_with fail
  refine (image_any HK6.out (by omega)).mono ?_; rintro e w7 ⟨gl, rfl, hwl, hb7, hgl⟩
  have HF7 := Lib.hid (HF6.out.trans (fr_below hb7 _))
  have HL7 := Lib.hid hwl
  have hg7 := (hop hb7 HG6.out).1
  have HNL := Lib.hid (show gp < gl from by have := hat_lt HG6.out; omega)
  have HZ7 := Lib.hid (show w.heap.size ≤ w6.heap.size from HF6.out.size)
  have HGL := Lib.hid (show w6.heap.size ≤ gl from hgl)
  clear hwl hb7 hgl HK6 HG6 HF6
  have hg7l := hat_lt hg7
  have hN1 : 0 < N := by omega
  go_wp2_with fail
  refine (pick_is so N HP1.out.1 HP1.out.2 hN1 (by omega) w7).mono ?_; rintro e w8 ⟨rfl, rfl⟩
  go_wp2_with fail
  refine (pick_is ao 128 HP2.out.1 HP2.out.2 (by omega) (by omega) w8).mono ?_; rintro e w9 ⟨rfl, rfl⟩
  have hnN := pickN_lt so hN1
  have hkk := pickN_lt ao (n := 128) (by omega)
  generalize pickN so N = n at *
  generalize pickN ao 128 = k at *
  go_upto_if 57 with fail
  go_cut [12] from 21 (fun s2 wx => ∃ M : Int, s2 = .int .u8 M ∧ 0 ≤ M ∧ M ≤ 255 ∧ wx = w9)
  case first =>
   by_cases h0 : lo.length = 0
   ·have d0 : decide ((0 : Int) < (lo.length : Int)) = false := decide_eq_false (by omega)
    go_wp2_with fail
    go_meet
    exact ⟨1, rfl, by omega, by omega, rfl⟩
   ·have d0 : decide ((0 : Int) < (lo.length : Int)) = true := decide_eq_true (by omega)
    obtain ⟨gb, ob, csb, tb, fb, rfl, hcb, hszb, hallb⟩ := HDA.out (by omega)
    have hcb9 := (HF7.out.block gb (hat_lt hcb) (by have := HGD.out; have := HZ3.out; have := hat_lt hcb; simp; omega)).trans hcb
    have hcbl := hat_lt hcb9
    obtain ⟨y, hy⟩ : ∃ y, lo[0]? = some y := ⟨_, List.getElem?_eq_getElem (by omega)⟩
    have hby0 := hallb 0 y hy
    simp only [Nat.add_zero] at hby0
    have hyb := HBY.out y (List.mem_of_getElem? hy)
    have h01 : (0 : Int) < (lo.length : Int) := by omega
    clear hallb hcb hy
    go_wp2_with fail
    go_meet
    exact ⟨y, rfl, hyb.1, by omega, rfl⟩
  case rest =>
  obtain ⟨M, rfl, hM1, hM2, rfl⟩ := hcut
  obtain ⟨bl, bb⟩ := HDL.out n hnN
  have hyb := bb.at k
  have hxb := xor_b (nth (d1.S n) k) M (by omega) (by omega) hM1 hM2
  have HTL := Lib.hid (turn_ok (k := k) HDL.out hnN hM1 hM2)
  have HPUT : Hid (WSecs (wc.setCell ⟨gl, n * 128 + k, none⟩ (.int .u8 (bits BinOp.xor .u8 (nth (d1.S n) k) M))) gl N N (turnS d1.S n k M)) := Lib.hid (HL7.out.cellset hnN hkk hxb.1 hxb.2)
  have HFR := Lib.hid ((HF7.out.mono (ex' := [gd, gs, gl]) (by simp)).trans ((fr_setCell wc gl (n * 128 + k) (.int .u8 (bits BinOp.xor .u8 (nth (d1.S n) k) M))).mono (by simp)))
  obtain ⟨csl, hcl, ⟨hszl, -⟩, hall⟩ := id HL7.out
  obtain ⟨l1, l2, l3⟩ := hall n hnN
  have hx0 : csl[n * 128 + k]? = some (.int .u8 (nth (d1.S n) k)) := ((extract_sec l1 (by omega)).1 l3) k hkk
  have hcll := hat_lt hcl
  have hn0 : (0 : Int) ≤ (n : Int) := Int.natCast_nonneg _
  have hn1 : (n : Int) < (N : Int) := by omega
  have hk0 : (0 : Int) ≤ (k : Int) := Int.natCast_nonneg _
  have hk1 : (k : Int) < 128 := by omega
  have HBAD := Lib.hid (fun h => turn_bad (n := n) (k := k) (M := M) HE1.out h)
  clear hall l1 l2 l3 bl bb hyb hxb hM1 hM2 hg7 hg7l
  go_wp2_with fail
  go_region
  go_wp2_with fail
  have HPUT : Hid (WSecs (wc.setCell ⟨gl, n * 128 + k, none⟩ (.int .u8 (bits BinOp.xor .u8 (nth (d1.S n) k) M))).drew gl N N (turnS d1.S n k M)) := Lib.hid (HPUT.out.same rfl)
  refine (from_any (img0_of HPUT.out) hP.1 (by omega)).mono ?_; rintro e w10 ⟨gc, gt, rfl, hdk, hb10, hd1, hd2⟩
  have HL8 := Lib.hid (HPUT.out.same (hat_below hb10 HPUT.out.lt))
  have HF8 := Lib.hid ((fr_drew HFR.out).trans (fr_below hb10 _))
  have HC8 := Lib.hid hdk
  have HGC := Lib.hid (show gl < gc ∧ gl < gt from ⟨Nat.lt_of_lt_of_le HPUT.out.lt hd1, Nat.lt_of_lt_of_le HPUT.out.lt hd2⟩)
  clear hdk hb10 hd1 hd2 HPUT HFR hcl hx0 hszl hcll HL7 HF7 HE1 HDL
  generalize turnS d1.S n k M = T at *
  go_wp2_with fail
  refine (run_any HC8.out (img_ok T) (by simp [imgD]) (by omega)).mono ?_; rintro e wp ⟨Q, hQ⟩
  obtain ⟨b0, e0, b1, e1, b2, e2, b3, e3, hv, hh⟩ := hQ.hold
  obtain rfl := hQ.e
  rw [hv, run_fst]
  have HQY := Lib.hid hQ.y
  have hg9 := hh.g
  have HK9 := hh.k
  have HL9 := Lib.hid (HL8.out.same (hh.f.block gl HL8.out.lt (by have := HGC.out; simp; omega)))
  have HF9 := Lib.hid ((HF8.out.mono (ex' := [gd, gs, gl, gc, gt]) (by simp)).trans (hh.f.mono (by simp)))
  have HN1 := Lib.hid hQ.r.n1
  clear hQ hv hh HL8 HF8 HC8
  go_upto_region 18 with fail
  generalize wp.alloc (.cells #[.slice b0 Q.N e0, .slice b1 Q.xs.length e1, .slice b2 Q.ys.length e2, .slice b3 Q.zs.length e3] 34) = w11 at *
  generalize wp.heap.size = gq at *
  by_cases heT : lookE N T = 0
  ·have hmany := run_many heT
   have hxs : Q.xs.length = cntD T (runD N (imgD T)).2.S N := by rw [(HQY.out (by rw [run_fst]; exact heT)).x]; exact hmany.1
   have HCN : Hid ((runD N (imgD T)).2.cnt = (cntD T (runD N (imgD T)).2.S N : Nat)) := Lib.hid (by rw [hmany.2, hmany.1])
   have HAS : Hid (∀ j, j < N → (runD N (imgD T)).2.S j = lookS N T j) := Lib.hid (fun j hj => by rw [run_fresh (d := imgD T) rfl rfl heT]; exact cut_all heT hj)
   have HXS := Lib.hid hxs
   rw [hxs] at hg9
   rw [heT]
   have HET := Lib.hid heT
   clear hmany hxs heT HBAD
   have HK9 := Lib.hid HK9
   generalize (runD N (imgD T)).2 = d2 at *
   go_wp2_with fail
   refine (image_any HK9.out (by omega)).mono ?_; rintro e w12 ⟨ga, rfl, hwa, hb12, hga⟩
   have HA12 := Lib.hid hwa
   have HL12 := Lib.hid (HL9.out.same (hat_below hb12 HL9.out.lt))
   have HF12 := Lib.hid (HF9.out.trans (fr_below hb12 _))
   have hg12 := (hop hb12 hg9).1
   have HK12 := Lib.hid (HK9.out.fr (fr_below hb12 []) (by simp) (by simp))
   clear hwa hb12 hga hg9 HK9 HL9 HF9
   have HG12 := Lib.hid hg12
   clear hg12
   have HALEN := Lib.hid (fun j hj => HA12.out.secs.len (i := j) hj)
   go_wp2_with fail
   go_loopw [18, 19] (fun d v wr => ∃ i : Nat, v = .int .i64 i ∧ d = .int .i64 (cntD T d2.S i : Nat) ∧ i ≤ N ∧ Hid (Fr [] w12 wr)) (fun _ v wr => N - (intOf v).toNat)
   case atStart => exact ⟨0, rfl, rfl, Nat.zero_le _, Lib.hid (Fr.refl _ _)⟩
   case round =>
    obtain ⟨i, rfl, rfl, hi, HF⟩ := hrel
    have hcle := cntD_le T d2.S i
    have hd0 : (0 : Int) ≤ (cntD T d2.S i : Nat) := Int.natCast_nonneg _
    have hd1 : ((cntD T d2.S i : Nat) : Int) ≤ 4096 := by omega
    by_cases hiN : i < N
    ·have hi0 : (0 : Int) ≤ (i : Int) := Int.natCast_nonneg _
     have hi1 : (i : Int) < (N : Int) := by omega
     obtain ⟨cs1, hc1, hl1, -, -⟩ := (HA12.out.same (HF.out.block _ HA12.out.lt (by simp))).load hiN
     obtain ⟨cs2, hc2, hl2, -, -⟩ := (HL12.out.same (HF.out.block _ HL12.out.lt (by simp))).load hiN
     have hn1 := (HALEN.out i hiN).1
     have hn2 := (HTL.out i hiN).1
     have hsucc := cntD_succ T d2.S i
     by_cases hq : d2.S i = T i
     ·have hq2 : decide (d2.S i = T i) = true := decide_eq_true hq
      rw [if_neg (by simpa using hq)] at hsucc
      have HSC := Lib.hid hsucc
      clear hsucc
      go_wp2_with fail
      go_region
      go_wp2_with fail
      go_roundw
      case rel => exact ⟨i + 1, by go_num, by rw [HSC.out]; rfl, by omega, Lib.hid (fr_drew HF.out)⟩
      case measure => (show N - (i + 1) < N - i); omega
     ·have hq2 : decide (d2.S i = T i) = false := decide_eq_false hq
      rw [if_pos hq] at hsucc
      have HSC := Lib.hid hsucc
      clear hsucc
      go_wp2_with fail
      go_region
      go_wp2_with fail
      go_roundw
      case rel => exact ⟨i + 1, by go_num, by rw [HSC.out]; go_num, by omega, Lib.hid (fr_drew HF.out)⟩
      case measure => (show N - (i + 1) < N - i); omega
    ·have hNk : i = N := by omega
     rw [hNk]
     have hm := HXS.out
     have hc := HCN.out
     have HF13 := Lib.hid (HF12.out.trans (HF.out.mono (by simp)))
     have HW13 := Lib.hid (look_well HTL.out HET.out)
     clear hNk hiN hi hcle hd0 hd1
     go_wp2_with fail
     refine (well_any0 (img0_of ((HA12.out.same (HF.out.block _ HA12.out.lt (by simp))).congr HAS.out))).mono ?_; rintro e w13 ⟨b, rfl, hb, hb13⟩
     obtain rfl : b = true := hb.2 HW13.out
     have HF14 := Lib.hid (HF.out.trans (fr_below hb13 []))
     clear hb hb13
     have hg14 := (HF14.out.block _ (hat_lt HG12.out) (by simp)).trans HG12.out
     have hgl14 := hat_lt hg14
     go_wp2_with fail
     refine (writes_any (HK12.out.fr HF14.out (by simp) (by simp))).mono ?_; rintro e w15 ⟨rfl, rfl⟩
     rw [hc]
     generalize cntD T d2.S N = m at *
     go_wp2_with fail
     go_ret
     exact ⟨rfl, (HF12.out.trans (HF14.out.mono (by simp))).below (Nat.le_refl _) (fun k hk => by
      have h1 := HGD.out
      have h2 := HZ3.out
      have h3 := HZ7.out
      have h4 := HGL.out
      have h5 := HGC.out
      simp at hk; omega)⟩
  ·have hle := HBAD.out heT
   have hle1 : decide ((n : Int) ≤ 1) = true := decide_eq_true (by omega)
   have hrb := run_bad (N := N) (d := imgD T) rfl heT
   rw [hrb] at HK9
   have HK9 := Lib.hid HK9
   have hor := lookE_or heT
   clear hrb HBAD
   rcases hor with hor | hor
   all_goals
    rw [hor]
    go_wp2_with fail
    refine (writes_any HK9.out).mono ?_; rintro e w12 ⟨rfl, rfl⟩
    have hc0 : (imgD T).cnt = 0 := rfl
    rw [hc0]
    go_wp2_with fail
    refine (image_any HK9.out (by omega)).mono ?_; rintro e w13 ⟨ga, rfl, hwa, hb13, hga⟩
    have HL13 := Lib.hid (HL9.out.same (hat_below hb13 HL9.out.lt))
    have HA13 := Lib.hid hwa
    have HF13 := Lib.hid (HF9.out.trans (fr_below hb13 _))
    clear hwa hb13
    go_wp2_with fail
    refine (same_yes (img0_of HA13.out) (img0_of HL13.out) (by omega) (fun j hj => rfl)).mono ?_; rintro e w14 ⟨rfl, hf14⟩
    have HF14 := Lib.hid (HF13.out.trans (hf14.mono (by simp)))
    clear hf14
    go_wp2_with fail
    go_ret
    exact ⟨rfl, HF14.out.below (Nat.le_refl _) (fun k hk => by
     have h1 := HGD.out
     have h2 := HZ3.out
     have h3 := HZ7.out
     have h4 := HGL.out
     have h5 := HGC.out
     simp at hk; omega)⟩
 ·rcases lookE_or he with e | e
  all_goals
   rw [e]
   go_wp2_with fail
   go_ret
   exact ⟨rfl, HF6.out.below (Nat.le_refl _) (fun k hk => by
    have h1 := HGD.out
    have h2 := HZ3.out
    simp at hk; omega)⟩
end Go.Proofs.YtmnecpnkkapflaaGreat
