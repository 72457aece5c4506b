import Derived.Deep.Upon
import Derived.Test.YthioepdgnbdohaaGreatM11
import Derived.Test.YthioepdgnbdohaaGreatM13
import Derived.Test.YthioepdgnbdohaaGreatM14
namespace Go.Proofs.YthioepdgnbdohaaGreat
set_option maxHeartbeats 16000000
set_option maxRecDepth 1000000
set_option linter.unusedSimpArgs false
set_option linter.unusedVariables false
open Go.RowKit
abbrev Sp := Int × Int
def spC (l : List Sp) : List Value := l.flatMap fun x => [.int .i64 x.1, .int .i64 x.2]
theorem mA (a b : List Sp) : spC (a ++ b) = spC a ++ spC b := by unfold spC; rw [List.flatMap_append]
theorem mB (l : List Sp) : (spC l).length = l.length * 2 := by
 unfold spC;induction l with
 | nil => rfl
 | cons a l ih => rw [List.flatMap_cons, List.length_append, ih, List.length_cons]; simp; omega
theorem mC (l : List Sp) : ∀ u ∈ spC l, u.oneCell' = true := by
 intro u hu;unfold spC at hu;rw [List.mem_flatMap] at hu;obtain ⟨x, -, hu⟩ := hu;simp at hu;rcases hu with rfl | rfl <;> rfl
theorem Vr : ∀ (l : List Sp) (k : Nat) (a b : Int), l[k]? = some (a, b) -> (spC l)[k * 2]? = some (.int .i64 a) /\ (spC l)[k * 2 + 1]? = some (.int .i64 b)
 | [], k, a, b, h => by simp at h
 | e :: r, 0, a, b, h => by
  simp at h;subst h;exact ⟨rfl, rfl⟩
 | e :: r, k + 1, a, b, h => by
  have h2 : r[k]? = some (a, b) := by simpa using h
  obtain ⟨x, y⟩ := Vr r k a b h2;have e1 : spC (e :: r) = [.int .i64 e.1, .int .i64 e.2] ++ spC r := rfl;rw [e1];refine ⟨?_, ?_⟩
  ·rw [List.getElem?_append_right (by show 2 <= (k + 1) * 2; omega)];rw [show (k + 1) * 2 - [Value.int .i64 e.1, .int .i64 e.2].length = k * 2 by show (k + 1) * 2 - 2 = _; omega];exact x
  ·rw [List.getElem?_append_right (by show 2 <= (k + 1) * 2 + 1; omega)];rw [show (k + 1) * 2 + 1 - [Value.int .i64 e.1, .int .i64 e.2].length = k * 2 + 1 by show (k + 1) * 2 + 1 - 2 = _; omega];exact y
def Dg (w : World) (base : Nat) (v : Value) (l : List Sp) : Prop := w.ownsRow base 121 2 v l.length (spC l)
theorem Dg.nil (w : World) (base : Nat) : Dg w base (.slice none 0 0) [] := ⟨rfl, .inl ⟨rfl, rfl⟩⟩
theorem Dg.below {w w' : World} {base : Nat} {v : Value} {l : List Sp} (h : Dg w base v l) (hb : Below w.heap.size w w') : Dg w' base v l := Jh h hb
theorem Dg.base {w : World} {b b' : Nat} {v : Value} {l : List Sp} (h : Dg w b v l) (hb : b' <= b) : Dg w b' v l := Np h hb
theorem Dg.sl {w : World} {base : Nat} {v : Value} {l : List Sp} (h : Dg w base v l) : ∃ a c, v = .slice a l.length c := by
 obtain ⟨-, ⟨rfl, hn⟩ | ⟨g, cap, cur, h1, -⟩⟩ := h
 ·exact ⟨none, 0, by rw [hn]⟩
 ·exact ⟨_, _, h1⟩
theorem Dg.at {w : World} {base : Nat} {v : Value} {l : List Sp} (h : Dg w base v l) (hl : l ≠ []) : ∃ g c cs, v = .slice (some ⟨g, 0, none⟩) l.length c /\ base <= g /\ hat w g = some (.cells cs 121) /\ ∀ (j : Nat) (u : Value), (spC l)[j]? = some u -> cs[j]? = some u := by
 obtain ⟨-, ⟨rfl, hn⟩ | ⟨g, cap, cur, h1, h2, h3, h4, h5, h6, h7⟩⟩ := h
 ·exact absurd (List.length_eq_zero_iff.1 hn) hl
 ·refine ⟨g, cap, cur, h1, h2, h3, fun j u hj => ?_⟩;rw [<- h7, List.getElem?_take] at hj;split at hj
  ·simpa using hj
  ·cases hj
theorem Tryz.info121 : (Tryz.prog.info? 121).map (fun i => (i.zero, i.size, i.bytes)) = some (some (.agg #[.int .i64 0, .int .i64 0]), 2, 16) := by kernel_rfl
theorem Ji {w : World} {base : Nat} {v : Value} {l : List Sp} (h : Dg w base v l) (b c : Nat) (news : List Sp) (hb : ∃ cs, hat w b = some (.cells cs 121) /\ ∀ (j : Nat) (u : Value), (spC news)[j]? = some u -> cs[j]? = some u) (hn : l.length + news.length <= 100000) (hs : base <= w.heap.size) (ty : TypeId) :
  ∃ v' w', (Builtin.append_ #[116, 116] ty #[v, .slice (some ⟨b, 0, none⟩) news.length c]).run Tryz.prog w = .ok v' w' /\ Dg w' base v' (l ++ news) /\ Below base w w' /\ ∀ b cs t f, t ≠ 121 -> hat w b = some (.cells cs t f) -> hat w' b = some (.cells cs t f) := by
 obtain ⟨i0, hi, hz, hz1, hz2⟩ := info_parts Tryz.info121;obtain ⟨cs, hcs, hall⟩ := hb
 obtain ⟨v', w', h1, h2, h3, -⟩ := run_append_own (P := Tryz.prog) (w := w) base 116 ty 121 i0 _ 2 16 Tryz.underlying116 hi hz hz1 hz2 rfl (by decide) v l.length (spC l) h ⟨b, 0, none⟩ news.length c (spC news) (mB news)
  (fun j u hj => by
   have hadd : (⟨b, 0, none⟩ : Addr).add j = ⟨b, j, none⟩ := by unfold Addr.add; split <;> simp_all
   rw [hadd, B0 hcs];exact hall j u hj) (mC news) (by unfold maxLen; omega) (by omega) hs
 refine ⟨v', w', h1, ?_, ?_, fun b cs' t f ht hh => (h3.block b (Aa hh) (fun e => ?_)).trans hh⟩
 ·unfold Dg;rw [List.length_append, mA];exact h2
 ·exact (Below.refl base w).grown h3 hs (fun k hk => Decidable.byContradiction fun hlt => Gt h (by omega) hk)
 ·obtain ⟨-, ⟨hv, -⟩ | ⟨g', cap, cur, hv, -, h6, -⟩⟩ := h
  ·rw [hv] at e; cases e
  ·rw [hv] at e;have e2 : b = g' := Option.some.inj (show some b = some g' from e);rw [e2] at hh;have h7 : hat w g' = some (.cells cur 121 (0, 0)) := h6;rw [hh] at h7;injection h7 with h8
   injection h8 with h9 h10
   exact ht h10
theorem Mr {w : World} {base b2 : Nat} {v u : Value} {l news : List Sp} (h : Dg w base v l) (h2 : Dg w b2 u news) (hn : l.length + news.length <= 100000) (hs : base <= w.heap.size) (ty : TypeId) :
  ∃ v' w', (Builtin.append_ #[116, 116] ty #[v, u]).run Tryz.prog w = .ok v' w' /\ Dg w' base v' (l ++ news) /\ Below base w w' /\ ∀ b cs t f, t ≠ 121 -> hat w b = some (.cells cs t f) -> hat w' b = some (.cells cs t f) := by
 by_cases hne : news = []
 ·subst hne;obtain ⟨i0, hi, hz, hz1, hz2⟩ := info_parts Tryz.info121;have hsrc : Src Tryz.prog i0.size 116 u 0 [] w := by
   obtain ⟨-, ⟨rfl, -⟩ | ⟨g, cap, cur, rfl, -⟩⟩ := h2
   ·exact Src.ofNil w Tryz.underlying116 0
   ·exact Src.ofSlice w Tryz.underlying116 ⟨g, 0, none⟩ 0 cap [] (by simp) (fun j u hj => by simp at hj) (fun u hu => by cases hu)
  refine ⟨v, w, ?_, by rw [List.append_nil]; exact h, Below.refl _ _, fun _ _ _ _ _ hh => hh⟩;obtain ⟨-, ⟨rfl, hn0⟩ | ⟨g, cap, cur, rfl, -, -, hc, -⟩⟩ := h
  ·exact run_append_nothing w _ _ ty _ i0 Tryz.underlying116 hi none 0 0 (Nat.le_refl _) u hsrc
  ·exact run_append_nothing w _ _ ty _ i0 Tryz.underlying116 hi (some ⟨g, 0, none⟩) _ cap hc u hsrc
 ·obtain ⟨g, c, cs, rfl, -, hg, hall⟩ := h2.at hne;exact Ji h g c news ⟨cs, hg, hall⟩ hn hs ty
def spF (f : Nat -> Int) (a n : Nat) : List Sp := (List.range n).flatMap fun k => if f (a + k) = 0 then [] else [(((a + k : Nat) : Int), f (a + k))]
theorem X0 (f : Nat -> Int) (a : Nat) : spF f a 0 = [] := rfl
theorem Fb (f : Nat -> Int) (a n : Nat) : spF f a (n + 1) = spF f a n ++ if f (a + n) = 0 then [] else [(((a + n : Nat) : Int), f (a + n))] := by
 unfold spF;rw [List.range_succ, List.flatMap_append];simp
theorem Ny (f : Nat -> Int) (a n : Nat) : ∀ m, spF f a (n + m) = spF f a n ++ spF f (a + n) m
 | 0 => by simp [X0]
 | m + 1 => by
  rw [<- Nat.add_assoc, Fb, Ny f a n m, Fb, List.append_assoc, Nat.add_assoc a n m]
theorem Uk {f g : Nat -> Int} {a n : Nat} (h : ∀ k, k < n -> f (a + k) = g (a + k)) : spF f a n = spF g a n := by
 induction n with
 | zero => rfl
 | succ n ih => rw [Fb, Fb, ih (fun k hk => h k (by omega)), h n (by omega)]
theorem H8 (f : Nat -> Int) (a : Nat) : ∀ n, (spF f a n).length <= n
 | 0 => Nat.le_refl _
 | n + 1 => by
  rw [Fb, List.length_append];have := H8 f a n;split <;> simp <;> omega
theorem Xo (from' : Nat) (hf : from' <= 2000) (ps : List Int) (hp : ps.length = 32) (w : World) :
  Calls Tryz.prog 97 #[.agg (IV .i64 ps), .int .i64 from'] w fun e w' => ∃ v, e = .returned v /\ Dg w' w.heap.size v (spF (fun j => nth ps (j - from')) from' 32) /\ Below w.heap.size w w' := by
 have hB1 : Below w.heap.size w (w.alloc (.cells (IV .i64 ps) 89)) := (Below.refl _ _).alloc (Nat.le_refl _) _;have HB1 := sW hB1;have hgp := (A7 w (.cells (IV .i64 ps) 89)).1;clear hB1;have hf0 : (0 : Int) <= (from' : Int) := Int.natCast_nonneg _;go_enter Tryz.func97, Tryz.ntmps97;go_upto_region 1 with fail;generalize w.alloc (.cells (IV .i64 ps) 89) = w1 at *;go_wp2_with fail;go_loopw [5, 6] (fun v kv wr => ∃ k : Nat, kv = .int .i64 k /\ k <= 32 /\ Hid (Dg wr (w.heap.size + 1) v (spF (fun j => nth ps (j - from')) from' k)) /\ Hid (Below (w.heap.size + 1) w1 wr)) (fun _ kv _ => 32 - (intOf kv).toNat)
 case atStart => exact ⟨0, rfl, by omega, sW (Dg.nil _ _), sW (Below.refl _ _)⟩
 case round =>
  obtain ⟨k, rfl, hk, HO, HF⟩ := hrel;have hgpr : hat wr w.heap.size = some (.cells (IV .i64 ps) 89) := (HF.out.block w.heap.size (by omega)).trans hgp;have hgprl := Aa hgpr;have hk0 : (0 : Int) <= (k : Int) := Int.natCast_nonneg _;by_cases hk32 : k < 32
  ·have hk1 : (k : Int) < 32 := by omega
   have hsz : w.heap.size + 1 <= wr.heap.size := by omega
   by_cases hz : nth ps k = 0
   ·have HN : Hid (Dg wr (w.heap.size + 1) u5 (spF (fun j => nth ps (j - from')) from' (k + 1))) := sW (by
     rw [Fb, if_pos (by show nth ps (from' + k - from') = 0; rw [Nat.add_sub_cancel_left]; exact hz), List.append_nil]; exact HO.out)
    have d1 : (nth ps k != 0) = false := by simpa using hz
    clear hz;go_wp2_with fail;go_roundw
    case rel => exact ⟨k + 1, by go_num, by omega, HN, HF⟩
    case measure => (show 32 - (k + 1) < 32 - k); omega
   ·have d1 : (nth ps k != 0) = true := by simpa using hz
    obtain ⟨q, hq⟩ : ∃ q : Nat, from' + k = q := ⟨_, rfl⟩
    have hqs : (from' : Int) + (k : Int) = (q : Int) := by omega
    have hB3 : Below wr.heap.size wr (wr.alloc (.cells #[.int .i64 q, .int .i64 (nth ps k)] 121)) := (Below.refl _ _).alloc (Nat.le_refl _) _;have hgn := (A7 wr (.cells #[.int .i64 q, .int .i64 (nth ps k)] 121)).1;obtain ⟨v', w4, hrun, hO4, hb4, -⟩ := Ji (HO.out.below hB3) wr.heap.size 1 [((q : Int), nth ps k)] ⟨_, hgn, fun j u hj => by simpa [spC] using hj⟩ (by have := H8 (fun j => nth ps (j - from')) from' k; simp; omega) (by simp only [World.size_alloc]; omega) 116;simp only [List.length_singleton] at hrun
    have HN : Hid (Dg w4 (w.heap.size + 1) v' (spF (fun j => nth ps (j - from')) from' (k + 1))) := sW (by
     rw [Fb, if_neg (by show ¬ nth ps (from' + k - from') = 0; rw [Nat.add_sub_cancel_left]; exact hz)];simp only [Nat.add_sub_cancel_left];rw [hq]; exact hO4)
    have HF4 : Hid (Below (w.heap.size + 1) w1 w4) := sW (HF.out.trans ((hB3.mono hsz).trans hb4));clear hz hq hB3 hgn hO4 hb4;go_wp2_with (at_builtin; refine Ao _ rfl (.tmp 15) (.tmp 23) 116 rfl _ _ rfl rfl _ _ hrun ?_)
    go_roundw
    case rel => exact ⟨k + 1, by go_num, by omega, HN, HF4⟩
    case measure => (show 32 - (k + 1) < 32 - k); omega
  ·obtain rfl : k = 32 := by omega
   go_wp2_with fail;go_ret;exact ⟨_, rfl, HO.out.base (by omega), HB1.out.trans (HF.out.mono (by omega))⟩
theorem kC (S : Nat -> List Int) (raw : List Int) {j : Nat} (h : j < 12) : Dw S raw j = nth raw (4 + j) := by unfold Dw; rw [if_pos h]
theorem kD (S : Nat -> List Int) (raw : List Int) : spF (Dw S raw) 12 32 = spF (fun j => nth (Fd S (nth raw 16)) (j - 12)) 12 32 := Uk (fun k hk => by
 show Dw S raw (12 + k) = nth (Fd S (nth raw 16)) (12 + k - 12)
 rw [Hd];unfold Dw;rw [if_neg (by omega), if_pos (by omega)])
theorem kB (S : Nat -> List Int) (raw : List Int) (i : Nat) : spF (Dw S raw) (44 + 32 * i) 32 = spF (fun j => nth (Fd S (nth (Fd S (nth raw 17)) i)) (j - (44 + 32 * i))) (44 + 32 * i) 32 := Uk (fun k hk => by
 show Dw S raw (44 + 32 * i + k) = nth (Fd S (nth (Fd S (nth raw 17)) i)) (44 + 32 * i + k - (44 + 32 * i))
 rw [Hd, Hd];unfold Dw;rw [if_neg (by omega), if_neg (by omega), show (44 + 32 * i + k - 44) / 32 = i by omega, show (44 + 32 * i + k - 44) % 32 = k by omega, show 44 + 32 * i + k - (44 + 32 * i) = k by omega];rfl)
section
variable {gw N cw : Nat} {S : Nat -> List Int}
theorem oH {raw : List Int} (hA : Up N S raw) {w : World} (h : Cf w gw N 0 S) (i : Nat) : 0 <= nth (Fd S (nth raw 17)) i /\ nth (Fd S (nth raw 17)) i < N := by
 rw [Hd];unfold Jp;split
 ·have := hA.p17;omega
 ·rename_i h0
  by_cases hi : i < 32
  ·have hm : nth (An (S (nth raw 17).toNat)) i ∈ An (S (nth raw 17).toNat) := List.mem_iff_getElem?.2 ⟨i, Am (by simp; omega)⟩;have := hA.p17;exact ⟨(I8 (h.load (i := (nth raw 17).toNat) (by omega)).choose_spec.2.2.2 _ hm).1, hA.d h0 _ hm⟩
  ·have := hA.p17;rw [Y6 (by simp; omega)];omega
theorem Sh {raw : List Int} (hA : Up N S raw) (w : World) (h : Cf w gw N 0 S) :
  Calls Tryz.prog 70 #[Lv gw N cw, .agg (IV .i64 raw)] w fun e w' => ∃ v, e = .returned (.tuple #[v, .int .i64 0]) /\ Dg w' w.heap.size v (spF (Dw S raw) 0 1068) /\ Below w.heap.size w w' := by
 have hB1 : Below w.heap.size w (w.alloc (.cells #[.slice (some ⟨gw, 0, none⟩) N cw, .int .i64 (-1), .int .i64 0] 114)) := (Below.refl _ _).alloc (Nat.le_refl _) _;have hB2 : Below w.heap.size w ((w.alloc (.cells #[.slice (some ⟨gw, 0, none⟩) N cw, .int .i64 (-1), .int .i64 0] 114)).alloc (.cells (IV .i64 raw) 45)) := hB1.alloc hB1.size _;have HS2 := sW (h.same (Ba hB2 h.lt2));have hg1 := (B4 _ (.cells (IV .i64 raw) 45) (A7 w (.cells #[.slice (some ⟨gw, 0, none⟩) N cw, .int .i64 (-1), .int .i64 0] 114)).1).1;have hg2 := (A7 (w.alloc (.cells #[.slice (some ⟨gw, 0, none⟩) N cw, .int .i64 (-1), .int .i64 0] 114)) (.cells (IV .i64 raw) 45)).1;have HB2 := sW hB2;have hz1 : (w.alloc (.cells #[.slice (some ⟨gw, 0, none⟩) N cw, .int .i64 (-1), .int .i64 0] 114)).heap.size = w.heap.size + 1 := World.size_alloc _ _;rw [hz1] at hg2;clear hB1 hB2 h;have hr : raw.length = 18 := hA.r;have HA := sW hA;clear hA;have HW0 : Hid (w.heap.size < w.heap.size + 1) := sW (by omega);obtain ⟨f, hf⟩ : ∃ f, Dw S raw = f := ⟨_, rfl⟩;have HD : Hid (∀ j, j < 12 -> f j = nth raw (4 + j)) := sW (fun j hj => by rw [<- hf]; exact kC S raw hj);have HSG : Hid (spF f 12 32 = spF (fun j => nth (Fd S (nth raw 16)) (j - 12)) 12 32) := sW (by rw [<- hf]; exact kD S raw);have HDB : Hid (∀ i, spF f (44 + 32 * i) 32 = spF (fun j => nth (Fd S (nth (Fd S (nth raw 17)) i)) (j - (44 + 32 * i))) (44 + 32 * i) 32) := sW (fun i => by rw [<- hf]; exact kB S raw i);rw [hf];clear hf;go_enter Tryz.func70, Tryz.ntmps70;go_upto_region 1 with fail;try rw [hz1]
 clear hz1;generalize (w.alloc (.cells #[.slice (some ⟨gw, 0, none⟩) N cw, .int .i64 (-1), .int .i64 0] 114)).alloc (.cells (IV .i64 raw) 45) = w2 at *;have hl1 := Aa hg1;have hl2 := Aa hg2;generalize hgx : w.heap.size + 1 = gx at *;have HGX := sW hgx;clear hgx;go_wp2_with fail;go_loopw [6, 7] (fun v kv wr => ∃ k : Nat, kv = .int .i64 k /\ k <= 12 /\ Hid (Dg wr w2.heap.size v (spF f 0 k)) /\ Hid (Below w2.heap.size w2 wr)) (fun _ kv _ => 12 - (intOf kv).toNat)
 case atStart => exact ⟨0, rfl, by omega, sW (Dg.nil _ _), sW (Below.refl _ _)⟩
 case round =>
  obtain ⟨k, rfl, hk, HO, HF⟩ := hrel;have hg1r := (hop HF.out hg1).1;have hg2r := (hop HF.out hg2).1;have hg1rl := Aa hg1r;have hg2rl := Aa hg2r;have hk0 : (0 : Int) <= (k : Int) := Int.natCast_nonneg _;have hsz : w2.heap.size <= wr.heap.size := HF.out.size;by_cases hk12 : k < 12
  ·have hk1 : (k : Int) < 12 := by omega
   have hcb : (IV .i64 raw)[4 + k]? = some (.int .i64 (nth raw (4 + k))) := by rw [Bh, Am (by omega)]; rfl
   by_cases hz : nth raw (4 + k) = 0
   ·have HN : Hid (Dg wr w2.heap.size u6 (spF f 0 (k + 1))) := sW (by
     rw [Fb, Nat.zero_add, HD.out k hk12, if_pos hz, List.append_nil]; exact HO.out)
    have d1 : (nth raw (4 + k) != 0) = false := by simpa using hz
    clear hz;go_wp2_with fail;go_roundw
    case rel => exact ⟨k + 1, by go_num, by omega, HN, HF⟩
    case measure => (show 12 - (k + 1) < 12 - k); omega
   ·have d1 : (nth raw (4 + k) != 0) = true := by simpa using hz
    have hB3 : Below wr.heap.size wr (wr.alloc (.cells #[.int .i64 k, .int .i64 (nth raw (4 + k))] 121)) := (Below.refl _ _).alloc (Nat.le_refl _) _;have hgn := (A7 wr (.cells #[.int .i64 k, .int .i64 (nth raw (4 + k))] 121)).1;obtain ⟨v', w4, hrun, hO4, hb4, -⟩ := Ji (HO.out.below hB3) wr.heap.size 1 [((k : Int), nth raw (4 + k))] ⟨_, hgn, fun j u hj => by simpa [spC] using hj⟩ (by have := H8 f 0 k; simp; omega) (by simp only [World.size_alloc]; omega) 116;simp only [List.length_singleton] at hrun
    have HN : Hid (Dg w4 w2.heap.size v' (spF f 0 (k + 1))) := sW (by
     rw [Fb, Nat.zero_add, HD.out k hk12, if_neg hz]; exact hO4)
    have HF4 : Hid (Below w2.heap.size w2 w4) := sW (HF.out.trans ((hB3.mono hsz).trans hb4));clear hz hB3 hgn hO4 hb4;go_wp2_with (at_builtin; refine Ao _ rfl (.tmp 22) (.tmp 29) 116 rfl _ _ rfl rfl _ _ hrun ?_)
    go_roundw
    case rel => exact ⟨k + 1, by go_num, by omega, HN, HF4⟩
    case measure => (show 12 - (k + 1) < 12 - k); omega
  ·obtain rfl : k = 12 := by omega
   obtain ⟨a6, c6, e6⟩ := HO.out.sl;subst e6;have hc16 : (IV .i64 raw)[16]? = some (.int .i64 (nth raw 16)) := by rw [Bh, Am (by omega)]; rfl
   have hc17 : (IV .i64 raw)[17]? = some (.int .i64 (nth raw 17)) := by rw [Bh, Am (by omega)]; rfl
   have HS3 := sW (HS2.out.same (Ba HF.out HS2.out.lt2));have HC := sW (F0 (cw := cw) (nth raw 16) HA.out.p16.1 HA.out.p16.2 wr HS3.out);have hpl := Hc S (nth raw 16);generalize Fd S (nth raw 16) = ps at *;obtain ⟨w3, hw3⟩ : ∃ x, x = wr := ⟨_, rfl⟩;subst hw3;go_wp2_with fail;refine HC.out.mono ?_; rintro e w4 ⟨rfl, hb4⟩;have hg5 := (A7 w4 (.cells (IV .i64 ps) 89)).1;have hB5 : Below w3.heap.size w3 (w4.alloc (.cells (IV .i64 ps) 89)) := hb4.alloc hb4.size _;have HF5 := sW (Ad HF.out hB5 HF.out.size);have HO5 := sW (HO.out.below hB5);have hg15 := (hop hB5 hg1r).1;have hg25 := (hop hB5 hg2r).1;have HS5 := sW (HS3.out.same (Ba hB5 HS3.out.lt2));have HG5 : Hid (w2.heap.size <= w4.heap.size) := sW (Nat.le_trans hsz hb4.size);clear hB5 hb4 HC hg1r hg2r hg1rl hg2rl HS3;go_upto_region 8 with fail;generalize w4.alloc (.cells (IV .i64 ps) 89) = w5 at *;generalize w4.heap.size = gt at *;have hl5 := Aa hg5;have hl15 := Aa hg15;have hl25 := Aa hg25;have HC := sW (Xo 12 (by omega) ps hpl w5);rw [show ((12 : Nat) : Int) = 12 from rfl, <- HSG.out] at HC;go_wp2_with fail;refine HC.out.mono ?_; rintro e w6 ⟨v2, rfl, hO6, hb6⟩;obtain ⟨v7, w7, hrun, hO7, hb7, hty⟩ := Mr (HO5.out.below hb6) hO6 (by have := H8 f 0 12; have := H8 f 12 32; omega) (by have := HF5.out.size; have := hb6.size; omega) 116;have hO7b : Dg w7 w2.heap.size v7 (spF f 0 44) := by
    have := Ny f 0 12 32;rw [Nat.zero_add] at this;rw [show (44 : Nat) = 12 + 32 by rfl, this]; exact hO7
   have hB7 : Below w2.heap.size w5 w7 := (hb6.mono HF5.out.size).trans hb7;have HO7 := sW hO7b;have HF7 := sW (HF5.out.trans hB7);have hg17 : hat w7 w.heap.size = some (.cells #[.slice (some ⟨gw, 0, none⟩) N cw, .int .i64 (-1), .int .i64 0] 114) := (hB7.block _ hl1).trans hg15;have hg27 : hat w7 gx = some (.cells (IV .i64 raw) 45) := (hB7.block _ hl2).trans hg25;have HS7 := sW (HS5.out.same (hB7.block _ (by have := HS2.out.lt2; omega)));have hg7 : hat w7 gt = some (.cells (IV .i64 ps) 89) := hty _ _ _ _ (by decide) (hop hb6 hg5).1;obtain ⟨a7, c7, e7⟩ := HO7.out.sl;subst e7;clear hO7b hB7 hO7 hb7 hty hO6 hb6 HC HO5 HF5 hg5 hl5 hg15 hg25 hl15 hl25 HS5;go_upto_region 11 with (at_builtin; refine Ao _ rfl (.tmp 41) (.tmp 43) 116 rfl _ _ rfl rfl _ _ hrun ?_)
   clear hrun;have hl17 := Aa hg17;have hl27 := Aa hg27;have hl7 := Aa hg7;have HC := sW (F0 (cw := cw) (nth raw 17) HA.out.p17.1 HA.out.p17.2 w7 HS7.out);have hql := Hc S (nth raw 17);have HP : Hid (∀ i, 0 <= nth (Fd S (nth raw 17)) i /\ nth (Fd S (nth raw 17)) i < N) := sW (oH HA.out HS2.out);generalize Fd S (nth raw 17) = qs at *;go_wp2_with fail;refine HC.out.mono ?_; rintro e w8 ⟨rfl, hb8⟩;have hg8 := (hop hb8 hg7).1;have hg18 := (hop hb8 hg17).1;have hl8 := Aa hg8;have HO8 := sW (HO7.out.below hb8);have HF8 := sW (Ad HF7.out hb8 HF7.out.size);have HS8 := sW (HS7.out.same (Ba hb8 HS7.out.lt2));have hst : ∀ raw w', Cw raw 32 0 gt (IV .i64 qs) w' (some (.cells (IV .i64 ps) 89 (0, 0))) = .ok () (w'.setRow gt (IV .i64 qs)) := fun raw w' => Fc (by simpa using hpl) (by simpa using hql) (by simp)
   have hg9 := Aq _ _ (IV .i64 qs) _ _ _ hg8;have HF9 := sW (Af HF8.out HG5.out (IV .i64 qs))
   have HO9 : Hid (Dg (w8.setRow gt (IV .i64 qs)) w2.heap.size (.slice a7 (spF f 0 44).length c7) (spF f 0 44)) := sW (by
    obtain ⟨h0, h | ⟨g, cap, cur, h1, h2, h3, h4⟩⟩ := HO8.out
    ·exact ⟨h0, .inl h⟩
    ·refine ⟨h0, .inr ⟨g, cap, cur, h1, h2, ?_, h4⟩⟩;have hne : g ≠ gt := fun e => by
      subst e;have h5 : hat w8 g = some (.cells cur 121 (0, 0)) := h3;rw [hg8] at h5;injection h5 with h6
      injection h6 with h7 h8
      exact absurd h8 (by decide)
     exact (Be w8 gt g (IV .i64 qs) hne).trans h3)
   have hg19 : hat (w8.setRow gt (IV .i64 qs)) w.heap.size = some (.cells #[.slice (some ⟨gw, 0, none⟩) N cw, .int .i64 (-1), .int .i64 0] 114) := (Be w8 gt w.heap.size (IV .i64 qs) (by have := HG5.out; omega)).trans hg18;have HS9 := sW (HS8.out.same (Be w8 gt gw (IV .i64 qs) (by have := HG5.out; have := HS2.out.lt2; omega)));clear HO7 HF7 hb8 hg7 hl7 hg17 hl17 hg27 hl27 HS7 HC HO8 HF8 hg18 HS8;go_upto_region 12 with fail;clear hst hg8 hl8;generalize w8.setRow gt (IV .i64 qs) = w9 at *;have hl9 := Aa hg9;have hl19 := Aa hg19;go_wp2_with fail;go_loopw [6, 10] (fun v kv wr => ∃ k : Nat, kv = .int .i64 k /\ k <= 32 /\ Hid (Dg wr w2.heap.size v (spF f 0 (44 + 32 * k))) /\ Hid (Below w2.heap.size w9 wr) /\ Hid (hat wr gt = some (.cells (IV .i64 qs) 89))) (fun _ kv _ => 32 - (intOf kv).toNat)
   case atStart => exact ⟨0, rfl, by omega, HO9, sW (Below.refl _ _), sW hg9⟩
   case round =>
    obtain ⟨k, rfl, hk, HO, HF, HT⟩ := hrel;have hT := HT.out;have hTl := Aa hT;have hg1r : hat wr w.heap.size = some (.cells #[.slice (some ⟨gw, 0, none⟩) N cw, .int .i64 (-1), .int .i64 0] 114) := (HF.out.block _ hl1).trans hg19;have hg1rl := Aa hg1r;have hk0 : (0 : Int) <= (k : Int) := Int.natCast_nonneg _;have HFW : Hid (w2.heap.size <= wr.heap.size) := sW (Nat.le_trans HF9.out.size HF.out.size);have HSr := sW (HS9.out.same (HF.out.block _ (HS2.out.lt2)));obtain ⟨w10, hw10⟩ : ∃ x, x = wr := ⟨_, rfl⟩;subst hw10;obtain ⟨ar, cr, er⟩ := HO.out.sl;subst er;by_cases hk32 : k < 32
    ·have hk1 : (k : Int) < 32 := by omega
     have hcm : (IV .i64 qs)[k]? = some (.int .i64 (nth qs k)) := by rw [Bh, Am (by omega)]; rfl
     obtain ⟨p, hp⟩ : ∃ p, nth qs k = p := ⟨_, rfl⟩;have hP := HP.out k;rw [hp] at hP hcm;have hrl := Hc S p;have HC2 := sW (fun W hW => F0 (gw := gw) (N := N) (S := S) (cw := cw) p hP.1 hP.2 W hW);have HDK := sW (HDB.out k);rw [hp] at HDK;generalize Fd S p = rs at *;clear hP;have hN5 := (A7 w10 (.cells (IV .i64 (zl 32)) 89)).1;have hBN : Below w10.heap.size w10 (w10.alloc (.cells (IV .i64 (zl 32)) 89)).drew := Below.drew ((Below.refl _ _).alloc (Nat.le_refl _) _);have HBN := sW hBN;have HSN := sW (HSr.out.same (Ba hBN HSr.out.lt2));have HN5 : Hid (hat (w10.alloc (.cells (IV .i64 (zl 32)) 89)).drew w10.heap.size = some (.cells (IV .i64 (zl 32)) 89)) := sW hN5;clear hBN hN5;have hst : ∀ raw w', Cw raw 32 0 w10.heap.size (IV .i64 rs) w' (some (.cells (IV .i64 (zl 32)) 89 (0, 0))) = .ok () (w'.setRow w10.heap.size (IV .i64 rs)) := fun raw w' => Fc (by simp) (by simpa using hrl) (by simp)
     have HNEXT : Hid (∀ W g, Below w10.heap.size w10 W -> hat W g = some (.cells (IV .i64 rs) 89) -> ∀ q : Nat, 44 + 32 * k = q -> Calls Tryz.prog 97 #[.agg (IV .i64 rs), .int .i64 q] W fun e w' => ∃ v2 w11 v11, e = .returned v2 /\ (Builtin.append_ #[116, 116] 116 #[.slice ar (spF f 0 (44 + 32 * k)).length cr, v2]).run Tryz.prog w' = .ok v11 w11 /\ Hid (Dg w11 w2.heap.size v11 (spF f 0 (44 + 32 * (k + 1)))) /\ Hid (Below w2.heap.size w9 w11) /\ Hid (hat w11 gt = some (.cells (IV .i64 qs) 89))) := sW (by
      intro W g hW hg q hq;subst hq;refine (Xo (44 + 32 * k) (by omega) rs hrl W).mono ?_; rintro e w' ⟨v2, rfl, hO6, hb6⟩;rw [<- HDK.out] at hO6;have hb7 := Ad hW hb6 hW.size;obtain ⟨v11, w11, hrun, hO11, hb11, hty⟩ := Mr (HO.out.below hb7) hO6 (by have := H8 f 0 (44 + 32 * k); have := H8 f (44 + 32 * k) 32; omega) (by have := HFW.out; have := hb7.size; omega) 116;refine ⟨v2, w11, v11, rfl, hrun, sW ?_, sW (HF.out.trans ((hb7.mono HFW.out).trans hb11)), sW (hty _ _ _ _ (by decide) (hop hb7 HT.out).1)⟩;have := Ny f 0 (44 + 32 * k) 32;rw [Nat.zero_add] at this;rw [show 44 + 32 * (k + 1) = 44 + 32 * k + 32 by omega, this];exact hO11)
     obtain ⟨q, hq⟩ : ∃ q : Nat, 44 + 32 * k = q := ⟨_, rfl⟩;have hqs : (44 : Int) + 32 * (k : Int) = (q : Int) := by omega
     have HQ := sW hq;clear hq;go_upto_region 17 with fail
     go_region_with (first
      | (refine (HC2.out w10.drew (HSr.out.same (w' := w10.drew) rfl)).mono ?_; rintro e w11 ⟨rfl, hb11⟩; have hB11 : Below w10.heap.size w10 w11 := ⟨hb11.os, hb11.tape, hb11.output, hb11.size, hb11.block⟩)
      | (refine (HC2.out (w10.alloc (.cells (IV .i64 (zl 32)) 89)).drew HSN.out).mono ?_; rintro e w11 ⟨rfl, hb11⟩; have hB11 : Below w10.heap.size w10 w11 := Ad HBN.out hb11 HBN.out.size; have hx11 := (hop hb11 HN5.out).1; have hx11l := Aa hx11))
     all_goals first
      | (have hg12 := (A7 w11 (.cells (IV .i64 rs) 89)).1
         have HB12 := sW (hB11.alloc hB11.size (.cells (IV .i64 rs) 89));clear hb11 hB11;go_upto_region 18 with fail;generalize w11.alloc (.cells (IV .i64 rs) 89) = w12 at *;generalize w11.heap.size = gu at *;have hl12 := Aa hg12;have HCR := sW (HNEXT.out w12 gu HB12.out hg12 q HQ.out);go_wp2_with fail;refine HCR.out.mono ?_; rintro e w13 ⟨v2, w14, v14, rfl, hrun, HO14, HF14, HT14⟩;go_wp2_with (at_builtin; refine Ao _ rfl (.tmp 70) (.tmp 75) 116 rfl _ _ rfl rfl _ _ hrun ?_)
         go_roundw
         case rel => exact ⟨k + 1, by go_num, by omega, HO14, HF14, HT14⟩
         case measure => (show 32 - (k + 1) < 32 - k); omega)
      | (have hg12 := Aq _ _ (IV .i64 rs) _ _ _ hx11
         have HB12 := sW (Af hB11 (g := w10.heap.size) (Nat.le_refl _) (IV .i64 rs));clear hb11 hB11;go_upto_region 18 with fail;generalize w11.setRow w10.heap.size (IV .i64 rs) = w12 at *;have hl12 := Aa hg12;have HCR := sW (HNEXT.out w12 w10.heap.size HB12.out hg12 q HQ.out);go_wp2_with fail;refine HCR.out.mono ?_; rintro e w13 ⟨v2, w14, v14, rfl, hrun, HO14, HF14, HT14⟩;go_wp2_with (at_builtin; refine Ao _ rfl (.tmp 70) (.tmp 75) 116 rfl _ _ rfl rfl _ _ hrun ?_)
         go_roundw
         case rel => exact ⟨k + 1, by go_num, by omega, HO14, HF14, HT14⟩
         case measure => (show 32 - (k + 1) < 32 - k); omega)
    ·obtain rfl : k = 32 := by omega
     have HEND : Hid (Dg w10 w.heap.size (.slice ar (spF f 0 (44 + 32 * 32)).length cr) (spF f 0 1068) /\ Below w.heap.size w w10) := sW ⟨HO.out.base (by omega), HB2.out.trans ((HF9.out.trans HF.out).mono (by omega))⟩;go_wp2_with fail;go_ret2;exact ⟨_, rfl, HEND.out.1, HEND.out.2⟩
end
def tkZ (T : Nat -> Option TI) (q : Int) : Bool := (T q.toNat).isSome
def enZ (T : Nat -> Option TI) (j : Nat) : Int := match T j with | some t => t.en | none => 0
theorem Ki (T : Nat -> Option TI) (j : Nat) : tkZ T (j : Int) = (T j).isSome := by unfold tkZ; rw [Int.toNat_natCast]
theorem bH {T : Nat -> Option TI} {i : Nat} (h1 : 1 <= i) (t : TI) : (fun q => if q = (i : Int) then true else tkZ T q) = tkZ (A3 T i t) := by
 funext q
 unfold tkZ A3;by_cases hq : q = (i : Int)
 ·subst hq;rw [if_pos rfl, Int.toNat_natCast, if_pos rfl]; rfl
 ·rw [if_neg hq, if_neg (by omega)]
theorem mI {T : Nat -> Option TI} {i : Nat} {t0 : TI} (h : T i = some t0) (t : TI) : tkZ (A3 T i t) = tkZ T := by
 funext q
 unfold tkZ A3;by_cases hq : q.toNat = i
 ·rw [if_pos hq, hq, h]; rfl
 ·rw [if_neg hq]
theorem Uv (T : Nat -> Option TI) (i : Nat) (t : TI) : enZ (A3 T i t) = fun j => if i = j then t.en else enZ T j := by
 funext j
 unfold enZ A3;by_cases hj : j = i
 ·subst hj; simp
 ·rw [if_neg hj, if_neg (fun e => hj e.symm)]
def Ay.ms (E : Ay) : List Nat := [E.g, E.gw, E.gc, E.gt, E.gn, E.ge]
structure DG (E : Ay) (w : World) (o : Option Nat) (done : List Int) (z : LZ) (I : Nat -> List Int) : Prop where
 g : RG E w o (done ++ z.q) z.st.S z.st.cl (tkZ z.T) I (enZ z.T)
 i : ∀ i t, z.T i = some t -> I i = t.raw
structure DI (E : Ay) (done : List Int) (z : LZ) : Prop where
 inv : Fl E.X E.Y E.A z
 ix : ∀ i t, z.T i = some t -> 1 <= i /\ (i : Int) <= E.Y
 nd : (done ++ z.q).Nodup
 rg : ∀ i ∈ done ++ z.q, 1 <= i /\ i <= E.Y /\ (z.T i.toNat).isSome = true
theorem DI.len {E : Ay} (hE : ROk E) {done : List Int} {z : LZ} (h : DI E done z) : (done ++ z.q).length <= 100000 := by
 have hl := List.Nodup.length_le_of_subset (l₂ := (List.range 4097).map (fun (i : Nat) => (i : Int))) h.nd (fun x hx => by
  obtain ⟨a, b, -⟩ := h.rg x hx;have := hE.YN;have := hE.N;exact List.mem_map.2 ⟨x.toNat, List.mem_range.2 (by omega), by omega⟩)
 simp only [List.length_map, List.length_range] at hl;omega
theorem DI.enter {E : Ay} (hE : ROk E) {done : List Int} {z z' : LZ} (h : DI E done z) {i : Nat} (h1 : 1 <= i) (hY : (i : Int) <= E.Y) (he : Ct E.X E.Y E.A i z = some z') : DI E done z' := by
 have hY0 : 0 <= E.Y := by have := hE.Y1; omega
 refine ⟨(P8 hY0 h.inv he (fun _ => False)).1, ?_, ?_, ?_⟩
 all_goals
  unfold Ct at he;split at he
  ·rename_i t ht
   split at he
   ·cases he
   ·cases he
    first
     | (intro j u hu
        have hu2 : A3 z.T i { t with en := t.en + 1 } j = some u := hu;by_cases hj : j = i
        ·subst hj; exact ⟨h1, hY⟩
        ·rw [Cm _ _ hj] at hu2;exact h.ix j u hu2)
     | exact h.nd
     | (intro j hj
        obtain ⟨a, b, c⟩ := h.rg j hj;refine ⟨a, b, ?_⟩;show (A3 z.T i { t with en := t.en + 1 } j.toNat).isSome = true
        unfold A3;split
        ·rfl
        ·exact c)
  ·rename_i ht
   split at he
   ·cases he;have hni : (i : Int) ∉ done ++ z.q := fun hm => by
     have := (h.rg _ hm).2.2;rw [Int.toNat_natCast, ht] at this;cases this
    first
     | (intro j u hu
        have hu2 : A3 z.T i ⟨(Ap E.X E.Y (Al (E.A i)).1 z.st).1, 1, (Ap E.X E.Y (Al (E.A i)).1 z.st).2.bk⟩ j = some u := hu;by_cases hj : j = i
        ·subst hj; exact ⟨h1, hY⟩
        ·rw [Cm _ _ hj] at hu2;exact h.ix j u hu2)
     | (show (done ++ (if nth (Al (E.A i)).1 0 = 2 then z.q ++ [(i : Int)] else z.q)).Nodup
        split
        ·rw [<- List.append_assoc];exact List.nodup_append.2 ⟨h.nd, by simp, fun a ha b hb => by simp at hb; subst hb; exact fun e => hni (e ▸ ha)⟩
        ·exact h.nd)
     | (intro j hj
        have hj2 : j ∈ done ++ (if nth (Al (E.A i)).1 0 = 2 then z.q ++ [(i : Int)] else z.q) := hj;have hj3 : j ∈ done ++ z.q \/ j = (i : Int) := by
         split at hj2
         ·rw [<- List.append_assoc, List.mem_append, List.mem_singleton] at hj2;exact hj2
         ·exact .inl hj2
        show 1 <= j /\ j <= E.Y /\ (A3 z.T i _ j.toNat).isSome = true
        rcases hj3 with hj3 | hj3
        ·obtain ⟨a, b, c⟩ := h.rg j hj3;refine ⟨a, b, ?_⟩;unfold A3;split
         ·rfl
         ·exact c
        ·subst hj3;refine ⟨by omega, hY, ?_⟩;unfold A3;rw [if_pos (by omega)]; rfl)
   ·cases he
theorem DI.wipe {E : Ay} {done : List Int} {z : LZ} (h : DI E done z) {p : Nat} (hc : z.st.cl p = true) : DI E done (Cx p z) := ⟨h.inv.wipe hc, h.ix, h.nd, h.rg⟩
theorem RG.keep {E : Ay} {w w' : World} {o : Option Nat} {l : List Int} {S : Nat -> List Int} {cl tk : Int -> Bool} {I : Nat -> List Int} {en : Nat -> Int} (h : RG E w o l S cl tk I en) (hf : Fr (E.ms ++ o.toList) w w') {b : Nat} {cs : Array Value} {t : TypeId} {f : Nat × Nat} (hb : hat w b = some (.cells cs t f)) (ht : t ∉ [76, 33, 4, 45, 3]) : hat w' b = some (.cells cs t f) := by
 refine (hf.block b (Aa hb) (fun hm => ?_)).trans hb;have key : ∀ (g : Nat) (cs' : Array Value) (t' : TypeId) (f' : Nat × Nat), hat w g = some (.cells cs' t' f') -> b = g -> t' ∈ [76, 33, 4, 45, 3] -> False := by
  intro g cs' t' f' hg e hm;subst e;rw [hb] at hg;injection hg with h8
  injection h8 with h9 h10
  exact ht (h10 ▸ hm)
 obtain ⟨v, hl, hq⟩ := h.l;rcases List.mem_append.1 hm with hm | hm
 ·simp only [Ay.ms, List.mem_cons, List.not_mem_nil, or_false] at hm;rcases hm with e | e | e | e | e | e
  ·exact key _ _ _ _ hl e (by simp)
  ·obtain ⟨cs', h1, -⟩ := h.s;exact key _ _ _ _ h1 e (by simp)
  ·obtain ⟨cs', h1, -⟩ := h.c;exact key _ _ _ _ h1 e (by simp)
  ·obtain ⟨cs', h1, -⟩ := h.t;exact key _ _ _ _ h1 e (by simp)
  ·obtain ⟨cs', h1, -⟩ := h.n;exact key _ _ _ _ h1 e (by simp)
  ·obtain ⟨cs', h1, -⟩ := h.e;exact key _ _ _ _ h1 e (by simp)
 ·have ho : o = some b := by simpa using hm
  rcases hq with ⟨-, e, -⟩ | ⟨g, off, c, cs', -, e, h2, -⟩
  ·rw [e] at ho; cases ho
  ·rw [e] at ho;injection ho with ho
   exact key g _ _ _ h2 ho.symm (by simp)
theorem Dg.keep {E : Ay} {w w' : World} {o : Option Nat} {l : List Int} {S : Nat -> List Int} {cl tk : Int -> Bool} {I : Nat -> List Int} {en : Nat -> Int} (h : RG E w o l S cl tk I en) (hf : Fr (E.ms ++ o.toList) w w') {base : Nat} {v : Value} {L : List Sp} (hs : Dg w base v L) : Dg w' base v L := by
 obtain ⟨h0, h1 | ⟨g, cap, cur, h1, h2, h3, h4⟩⟩ := hs
 ·exact ⟨h0, .inl h1⟩
 ·have h3' : hat w g = some (.cells cur 121 (0, 0)) := h3;exact ⟨h0, .inr ⟨g, cap, cur, h1, h2, h.keep hf h3' (by decide), h4⟩⟩
theorem NmR.keep {E : Ay} {w w' : World} {o : Option Nat} {l : List Int} {S : Nat -> List Int} {cl tk : Int -> Bool} {I : Nat -> List Int} {en : Nat -> Int} (h : RG E w o l S cl tk I en) (hf : Fr (E.ms ++ o.toList) w w') {base : Nat} {v : Value} {ns : List ByteArray} (hs : NmR w base v ns) : NmR w' base v ns := by
 obtain ⟨h0, h1 | ⟨g, cap, cur, h1, h2, h3, h4⟩⟩ := hs
 ·exact ⟨h0, .inl h1⟩
 ·have h3' : hat w g = some (.cells cur 9 (0, 0)) := h3;exact ⟨h0, .inr ⟨g, cap, cur, h1, h2, h.keep hf h3' (by decide), h4⟩⟩
theorem Tryz.infoN9 : (Tryz.prog.info? 9).map (fun i => (i.zero, i.size, i.bytes)) = some (some (.string ByteArray.empty), 1, 16) := by kernel_rfl
theorem bO {w w0 : World} {B base : Nat} {v : Value} {ns : List ByteArray} (h : NmR w base v ns) (hbase : B <= base) (hb : Below B w0 w) (hB : B <= w0.heap.size) (hs : base <= w.heap.size) (hn : ns.length <= 100000) (s : ByteArray) (ty : TypeId) :
  ∃ v' w', (Builtin.append_ #[119, 119] ty #[v, .slice (some ⟨w.heap.size, 0, none⟩) 1 1]).run Tryz.prog (w.alloc (.cells #[.string s] 9)) = .ok v' w' /\ NmR w' base v' (ns ++ [s]) /\ Below B w0 w' /\ ∀ b cs t f, t ≠ 9 -> hat w b = some (.cells cs t f) -> hat w' b = some (.cells cs t f) := by
 obtain ⟨i0, hi, hz, hz1, hz2⟩ := info_parts Tryz.infoN9;have hbn : Below w.heap.size w (w.alloc (.cells #[.string s] 9)) := (Below.refl _ _).alloc (Nat.le_refl _) _;have h' := h.below hbn;have hsz : (w.alloc (.cells #[.string s] 9)).heap.size = w.heap.size + 1 := World.size_alloc _ _
 obtain ⟨v', w', h1, h2, h3, -⟩ := run_append_own (P := Tryz.prog) (w := w.alloc (.cells #[.string s] 9)) base 119 ty 9 i0 _ 1 16 Tryz.underlying119 hi hz hz1 hz2 rfl (by decide) v ns.length (ns.map Value.string) h' ⟨w.heap.size, 0, none⟩ 1 1 [.string s] rfl
  (fun j u hj => by
   have hadd : (⟨w.heap.size, 0, none⟩ : Addr).add j = ⟨w.heap.size, j, none⟩ := by unfold Addr.add; split <;> simp_all
   rw [hadd, B0 (A7 w _).1];simpa using hj) (fun u hu => by simp at hu; subst hu; rfl) (by unfold maxLen; omega) (by omega) (by omega)
 refine ⟨v', w', h1, ?_, ?_, fun b cs t f ht hh => (h3.block b (by have := Aa hh; omega) (fun e => ?_)).trans (B4 w _ hh).1⟩
 ·unfold NmR;rw [List.length_append, List.map_append];exact h2
 ·have : Below base (w.alloc (.cells #[.string s] 9)) w' := (Below.refl base _).grown h3 (by omega) (fun k hk => Decidable.byContradiction fun hlt => Gt h' (by omega) hk);exact (At hb (by have := hb.size; omega) _).trans (this.mono hbase)
 ·obtain ⟨-, ⟨hv, -⟩ | ⟨g', cap, cur, hv, -, h6, -⟩⟩ := h'
  ·rw [hv] at e; cases e
  ·rw [hv] at e;have e2 : b = g' := Option.some.inj (show some b = some g' from e);have hh2 := (B4 w (.cells #[.string s] 9) hh).1;rw [e2] at hh2;have h7 : hat (w.alloc (.cells #[.string s] 9)) g' = some (.cells cur 9 (0, 0)) := h6;rw [hh2] at h7;injection h7 with h8
   injection h8 with h9 h10
   exact ht h10
open Classical in
theorem kQ {E : Ay} {done : List Int} {z : LZ} (h : DI E done z) {I : Nat -> List Int} (hI : ∀ i t, z.T i = some t -> I i = t.raw) {ns : List ByteArray} {nm : ByteArray -> Bool} (hn : ∀ x, nm x = true ↔ x ∈ ns) {ino : Nat} (h1 : 1 <= ino) (s : ByteArray) :
  bZ E (tkZ z.T) I (enZ z.T) ino s ns = true ↔ (ino : Int) <= E.Y /\ (Cq E.X E.Y E.A ino s (z, nm)).1 = true := by
 unfold bZ;rw [Bool.and_eq_true, Bool.and_eq_true, Bool.and_eq_true, decide_eq_true_eq, decide_eq_true_eq, decide_eq_true_eq, Ki];have key : ∀ b : Bool, ((if (z.T ino).isSome = true then (decide (nth (I ino) 0 = 1) && decide (enZ z.T ino < 100)) else Cj (E.A ino)) = true ↔ (Ct E.X E.Y E.A ino z).isSome = true) := by
  intro _;unfold Ct;cases ht : z.T ino with
  | none =>
   simp only [Option.isSome_none, Bool.false_eq_true, if_false];by_cases hs : Cj (E.A ino) = true
   ·rw [if_pos hs, hs]; simp
   ·rw [if_neg hs];constructor
    ·intro h; exact absurd h hs
    ·intro h; cases h
  | some t =>
   obtain ⟨s1, s2, s3, s4, s5, s6⟩ := h.inv.snd ino t ht;have hm := Id s1;have hk := ((Dy hm.2).1 hm.1).1.1;have he := h.inv.en ino t ht;have e1 : enZ z.T ino = t.en := by unfold enZ; rw [ht]
   simp only [Option.isSome_some, if_true, e1, hI ino t ht];rw [Bool.and_eq_true, decide_eq_true_eq, decide_eq_true_eq];by_cases hc : nth t.raw 0 = 2 \/ t.en = 100
   ·rw [if_pos hc];constructor
    ·rintro ⟨a, b⟩; omega
    ·intro h; cases h
   ·rw [if_neg hc];constructor
    ·intro _; rfl
    ·intro _; omega
 unfold Cq;by_cases hc : nm s = true \/ ino = 1
 ·rw [if_pos hc];constructor
  ·rintro ⟨⟨⟨-, b⟩, c⟩, -⟩;rcases hc with hc | hc
   ·exact absurd ((hn s).1 hc) c
   ·exact absurd hc b
  ·rintro ⟨-, h⟩; cases h
 ·rw [if_neg hc];have hc1 : ino ≠ 1 := fun e => hc (.inr e)
  have hc2 : s ∉ ns := fun e => hc (.inl ((hn s).2 e))
  have hk := key true;show _ ↔ _ /\ (match Ct E.X E.Y E.A ino z with | some z' => (true, z', La nm s) | none => (false, z, nm)).1 = true
  cases he : Ct E.X E.Y E.A ino z with
  | none =>
   rw [he] at hk;constructor
   ·rintro ⟨-, d⟩;have := hk.1 d;cases this
   ·rintro ⟨-, h⟩; cases h
  | some z' =>
   rw [he] at hk;exact ⟨fun hh => ⟨hh.1.1.1, rfl⟩, fun hh => ⟨⟨⟨hh.1, hc1⟩, hc2⟩, hk.2 rfl⟩⟩
noncomputable def Xq (E : Ay) (L : List Sp) (zn : LZ × (ByteArray -> Bool)) : LZ × (ByteArray -> Bool) := L.foldl (fun zn sp => Ey E.X E.Y E.A sp.2.toNat zn) zn
theorem dS (E : Ay) (sp : Sp) (L : List Sp) (zn : LZ × (ByteArray -> Bool)) : Xq E (sp :: L) zn = Xq E L (Ey E.X E.Y E.A sp.2.toNat zn) := rfl
theorem eD (f : Nat -> Int) (k m : Nat) : spF f k (m + 1) = (if f k = 0 then [] else [((k : Int), f k)]) ++ spF f (k + 1) m := by
 have h := Ny f k 1 m;rw [Nat.add_comm 1 m] at h;rw [h];congr 1
 rw [Fb, X0];simp
theorem Wd (E : Ay) (bk : Int -> Option Int) (f : Nat -> Int) : ∀ (m k : Nat) (zn : LZ × (ByteArray -> Bool)), (∀ j, j < m -> bk (k + j : Nat) = Hk (f (k + j))) -> Jg E.X E.Y E.A bk m k zn = Xq E (spF f k m) zn
 | 0, k, zn, h => rfl
 | m + 1, k, zn, h => by
  have h0 := h 0 (by omega);rw [Nat.add_zero] at h0;have ih := Wd E bk f m (k + 1);have h1 : ∀ j, j < m -> bk (k + 1 + j : Nat) = Hk (f (k + 1 + j)) := fun j hj => by
   have := h (j + 1) (by omega);rw [show k + (j + 1) = k + 1 + j by omega] at this;exact this
  show Jg E.X E.Y E.A bk m (k + 1) _ = _
  rw [eD, ih _ h1, h0];unfold Hk;by_cases hz : f k = 0
  ·rw [if_pos hz, if_pos hz]; rfl
  ·rw [if_neg hz, if_neg hz]; rfl
theorem bX {E : Ay} (hE : ROk E) {z : LZ} {c : Nat} {t : TI} (hI : Fl E.X E.Y E.A z) (hP : PZ E.X E.Y z) (ht : z.T c = some t) : Cv E.X E.Y E.A c z = (Xq E (spF (Dw z.st.S t.raw) 0 1068) (z, fun _ => false)).1 := by
 have hb : ∀ j, j < 1068 -> t.bk (j : Nat) = Hk (Dw z.st.S t.raw j) := fun j hj => by
  rw [hP.bk c t ht j (Int.natCast_nonneg _) (by omega), Ih _ _ (hI.snd c t ht).2.1 j hj]
 have hcn : (Aw (nth t.raw 2)).toNat <= 1068 := by
  obtain ⟨s1, s2, s3, s4, s5, s6⟩ := hI.snd c t ht;have hm := Id s1;have hk := ((Dy hm.2).1 hm.1).1.2.2.1;rw [s4];unfold Aw;omega
 obtain ⟨m, hm⟩ : ∃ m, (Aw (nth t.raw 2)).toNat + m = 1068 := ⟨1068 - (Aw (nth t.raw 2)).toNat, by omega⟩;have hnil : spF (Dw z.st.S t.raw) (Aw (nth t.raw 2)).toNat m = [] := by
  have : ∀ j, j < m -> Dw z.st.S t.raw ((Aw (nth t.raw 2)).toNat + j) = 0 := fun j hj => by
   have h1 := hb ((Aw (nth t.raw 2)).toNat + j) (by omega);unfold Hk at h1;split at h1
   ·rename_i h2; exact h2
   ·have := hI.keys c t _ _ ht h1;omega
  clear hm;induction m with
  | zero => rfl
  | succ m ih => rw [Fb, ih (fun j hj => this j (by omega)), if_pos (this m (by omega))]; rfl
 unfold Cv;rw [ht];show (Jg E.X E.Y E.A t.bk (Aw (nth t.raw 2)).toNat 0 (z, fun _ => false)).1 = _
 rw [Wd E t.bk (Dw z.st.S t.raw) _ 0 _ (fun j hj => by rw [Nat.zero_add]; exact hb j (by omega))];have hsp := Ny (Dw z.st.S t.raw) 0 (Aw (nth t.raw 2)).toNat m;rw [hm, Nat.zero_add, hnil, List.append_nil] at hsp;rw [hsp]
structure oX (E : Ay) (done : List Int) (o : Option Nat) (z' : LZ) (w w' : World) (o' : Option Nat) (I' : Nat -> List Int) : Prop where
 d : DG E w' o' done z' I'
 i : DI E done z'
 f : Fr (E.ms ++ o.toList) w w'
 o : o' = o \/ ∃ g, o' = some g /\ w.heap.size <= g
def oY (E : Ay) (done : List Int) (o : Option Nat) (z' : LZ) (w : World) (e : Ending) (w' : World) : Prop := e = .returned (.tuple #[]) /\ ∃ o' I', oX E done o z' w w' o' I'
theorem Fr.step {E : Ay} {a b c : World} {o o' : Option Nat} (h : Fr (E.ms ++ o.toList) a b) (ho : o' = o \/ ∃ g, o' = some g /\ a.heap.size <= g) (h2 : Fr (E.ms ++ o'.toList) b c) : Fr (E.ms ++ o.toList) a c := by
 have h3 : Fr (E.ms ++ o.toList ++ o'.toList) a c := (h.mono (fun k hk => List.mem_append_left _ hk)).trans (h2.mono (fun k hk => by
  rcases List.mem_append.1 hk with hk | hk
  ·exact List.mem_append_left _ (List.mem_append_left _ hk)
  ·exact List.mem_append_right _ hk))
 refine h3.past (fun k hk => ?_);rcases List.mem_append.1 hk with hk | hk
 ·exact .inl hk
 ·rcases ho with e | ⟨g, e, hg⟩
  ·rw [e] at hk;exact .inl (List.mem_append_right _ hk)
  ·rw [e] at hk;simp at hk;subst hk;exact .inr hg
theorem W8 {o o' o'' : Option Nat} {s s' : Nat} (h : o' = o \/ ∃ g, o' = some g /\ s <= g) (h2 : o'' = o' \/ ∃ g, o'' = some g /\ s' <= g) (hs : s <= s') : o'' = o \/ ∃ g, o'' = some g /\ s <= g := by
 rcases h2 with rfl | ⟨g, h2, h3⟩
 ·exact h
 ·exact .inr ⟨g, h2, by omega⟩
structure Ky (E : Ay) (done : List Int) (o : Option Nat) (sv : Value) (L : List Sp) (w w5 : World) (z : LZ) (ns : List ByteArray) (ok : Option Nat) (Ik : Nat -> List Int) (nv : Value) (wr : World) : Prop where
 nm : NmR wr w5.heap.size nv ns
 dg : DG E wr ok done z Ik
 fr : Fr (E.ms ++ o.toList) w wr
 ok : ok = o \/ ∃ g, ok = some g /\ w.heap.size <= g
 sr : Dg wr w.heap.size sv L
 sz : w5.heap.size <= wr.heap.size
 gi : E.gi < w5.heap.size
section
variable {E : Ay} {done : List Int} {o ok : Option Nat} {sv nv : Value} {L : List Sp} {w w5 wr w' : World} {z : LZ} {ns : List ByteArray} {Ik : Nat -> List Int}
theorem Ky.below (h : Ky E done o sv L w w5 z ns ok Ik nv wr) (hb : Below wr.heap.size wr w') : Ky E done o sv L w w5 z ns ok Ik nv w' :=
 ⟨h.nm.below hb, ⟨h.dg.g.below hb, h.dg.i⟩, h.fr.trans (Ag hb _), h.ok, h.sr.below hb, Nat.le_trans h.sz hb.size, h.gi⟩
theorem Ky.wipe (hE : ROk E) (h : Ky E done o sv L w w5 z ns ok Ik nv wr) {p : Nat} (hp : p < E.N) {cs : Array Value} (hcs : hat wr E.gw = some (.cells cs 33)) : Ky E done o sv L w w5 (Cx p z) ns ok Ik nv (wr.setRow E.gw (Ak cs (p * 128) (IV .u8 (zl 128)))) := by
 have hf : Fr [E.gw] wr (wr.setRow E.gw (Ak cs (p * 128) (IV .u8 (zl 128)))) := Cl _ _ _;have hf2 : Fr (E.ms ++ ok.toList) wr (wr.setRow E.gw (Ak cs (p * 128) (IV .u8 (zl 128)))) := hf.mono (by simp [Ay.ms]);exact ⟨h.nm.keep h.dg.g hf2, ⟨h.dg.g.store hE hcs hp (by simp) (Et 128), h.dg.i⟩, h.fr.trans (hf.mono (by simp [Ay.ms])), h.ok, h.sr.keep h.dg.g hf2, by rw [Vp]; exact h.sz, h.gi⟩
theorem Ky.name (h : Ky E done o sv L w w5 z ns ok Ik nv wr) (hw : w.heap.size <= w5.heap.size) {v' : Value} {s : ByteArray} (hn : NmR w' w5.heap.size v' (ns ++ [s])) (hb : Below w5.heap.size wr w') (ht : ∀ b cs t f, t ≠ 9 -> hat wr b = some (.cells cs t f) -> hat w' b = some (.cells cs t f)) : Ky E done o sv L w w5 z (ns ++ [s]) ok Ik v' w' := by
 obtain ⟨v, hl, hq⟩ := h.dg.g.l;refine ⟨hn, ⟨⟨⟨v, ht _ _ _ _ (by decide) hl, ?_⟩, h.dg.g.i.same (hb.block _ h.gi), ?_, ?_, ?_, ?_, ?_, h.dg.g.no⟩, h.dg.i⟩, ⟨hb.os.trans h.fr.os, hb.tape.trans h.fr.tape, hb.output.trans h.fr.output, Nat.le_trans h.fr.size hb.size, fun b hb1 hb2 => (hb.block b (by omega)).trans (h.fr.block b hb1 hb2)⟩, h.ok, ?_, Nat.le_trans h.sz hb.size, h.gi⟩
 ·rcases hq with hq | ⟨g, off, c, cs, q1, q2, q3, q4⟩
  ·exact .inl hq
  ·exact .inr ⟨g, off, c, cs, q1, q2, ht _ _ _ _ (by decide) q3, q4⟩
 ·obtain ⟨cs, h1, h2⟩ := h.dg.g.s;exact ⟨cs, ht _ _ _ _ (by decide) h1, h2⟩
 ·obtain ⟨cs, h1, h2⟩ := h.dg.g.c;exact ⟨cs, ht _ _ _ _ (by decide) h1, h2⟩
 ·obtain ⟨cs, h1, h2⟩ := h.dg.g.t;exact ⟨cs, ht _ _ _ _ (by decide) h1, h2⟩
 ·obtain ⟨cs, h1, h2⟩ := h.dg.g.n;exact ⟨cs, ht _ _ _ _ (by decide) h1, h2⟩
 ·obtain ⟨cs, h1, h2⟩ := h.dg.g.e;exact ⟨cs, ht _ _ _ _ (by decide) h1, h2⟩
 ·obtain ⟨h0, h1 | ⟨g, cap, cur, h1, h2, h3, h4⟩⟩ := h.sr
  ·exact ⟨h0, .inl h1⟩
  ·exact ⟨h0, .inr ⟨g, cap, cur, h1, h2, ht g cur 121 (0, 0) (by decide) h3, h4⟩⟩
theorem Ky.more (hE : ROk E) (h : Ky E done o sv L w w5 z ns ok Ik nv wr) {x : Nat} (hx : x < E.M) {tx : TI} (hT : z.T x = some tx) : Ky E done o sv L w w5 { z with T := A3 z.T x { tx with en := tx.en + 1 } } ns ok Ik nv (wr.setCell ⟨E.ge, x, none⟩ (.int .i64 (tx.en + 1))) := by
 have hf : Fr [E.ge] wr (wr.setCell ⟨E.ge, x, none⟩ (.int .i64 (tx.en + 1))) := Ai _ _ _ _;have hf2 : Fr (E.ms ++ ok.toList) wr (wr.setCell ⟨E.ge, x, none⟩ (.int .i64 (tx.en + 1))) := hf.mono (by simp [Ay.ms]);refine ⟨h.nm.keep h.dg.g hf2, ⟨?_, fun j u hu => ?_⟩, h.fr.trans (hf.mono (by simp [Ay.ms])), h.ok, h.sr.keep h.dg.g hf2, Nat.le_trans h.sz hf.size, h.gi⟩
 ·have := h.dg.g.count hE hx (tx.en + 1);show RG E _ ok (done ++ z.q) z.st.S z.st.cl (tkZ (A3 z.T x { tx with en := tx.en + 1 })) Ik (enZ (A3 z.T x { tx with en := tx.en + 1 }))
  rw [mI hT, Uv];exact this
 ·have hu2 : A3 z.T x { tx with en := tx.en + 1 } j = some u := hu;by_cases hj : j = x
  ·subst hj;rw [Cp] at hu2;rw [<- Option.some.inj hu2];exact h.dg.i j tx hT
  ·rw [Cm _ _ hj] at hu2;exact h.dg.i j u hu2
theorem Ky.took (h : Ky E done o sv L w w5 z ns ok Ik nv wr) {wb wc : World} {x : Nat} (h1 : 1 <= x) {raw : List Int} {o' : Option Nat} (hT : z.T x = none) (hf : Fr E.ms wr wb) (ht : Tkn E x raw z.st ok (done ++ z.q) (tkZ z.T) Ik (fun j => if x = j then (1 : Int) else enZ z.T j) wb wc o') : ∃ I', Ky E done o sv L w w5 (C8 E.X E.Y x raw 1 z) ns o' I' nv wc := by
 have hf2 : Fr (E.ms ++ ok.toList) wr wc := (hf.mono (fun k hk => List.mem_append_left _ hk)).trans (ht.f.mono (fun k hk => by
  rw [List.mem_cons, List.mem_cons, List.mem_cons, List.mem_cons, List.mem_cons] at hk;rcases hk with e | e | e | e | e | e
  ·subst e; simp [Ay.ms]
  ·subst e; simp [Ay.ms]
  ·subst e; simp [Ay.ms]
  ·subst e; simp [Ay.ms]
  ·subst e; simp [Ay.ms]
  ·exact List.mem_append_right _ e))
 refine ⟨fun j => if j = x then (Ap E.X E.Y raw z.st).1 else Ik j, h.nm.keep h.dg.g hf2, ⟨?_, fun j u hu => ?_⟩, h.fr.step h.ok hf2, W8 h.ok ht.o (Nat.le_trans h.fr.size hf.size), h.sr.keep h.dg.g hf2, Nat.le_trans h.sz hf2.size, h.gi⟩
 ·have hg := ht.g;rw [bH h1 ⟨(Ap E.X E.Y raw z.st).1, 1, (Ap E.X E.Y raw z.st).2.bk⟩] at hg;have e : (fun j => if x = j then (1 : Int) else enZ z.T j) = enZ (A3 z.T x ⟨(Ap E.X E.Y raw z.st).1, 1, (Ap E.X E.Y raw z.st).2.bk⟩) := (Uv z.T x ⟨(Ap E.X E.Y raw z.st).1, 1, (Ap E.X E.Y raw z.st).2.bk⟩).symm;rw [e] at hg;show RG E wc o' (done ++ (if nth raw 0 = 2 then z.q ++ [(x : Int)] else z.q)) _ _ _ _ _
  have e2 : (if nth raw 0 = 2 then (done ++ z.q) ++ [(x : Int)] else done ++ z.q) = done ++ (if nth raw 0 = 2 then z.q ++ [(x : Int)] else z.q) := by
   split
   ·rw [List.append_assoc]
   ·rfl
  rw [<- e2];exact hg
 ·have hu2 : A3 z.T x ⟨(Ap E.X E.Y raw z.st).1, 1, (Ap E.X E.Y raw z.st).2.bk⟩ j = some u := hu;by_cases hj : j = x
  ·subst hj;rw [Cp] at hu2;rw [<- Option.some.inj hu2];exact if_pos rfl
  ·rw [Cm _ _ hj] at hu2;show (if j = x then _ else Ik j) = _
   rw [if_neg hj];exact h.dg.i j u hu2
end
theorem Ym {X Y : Int} {A : Nat -> List Int} {x : Nat} {nm : ByteArray} {zk : LZ × (ByteArray -> Bool)} (h : (Cq X Y A x nm zk).1 = true) : ∃ z', Ct X Y A x zk.1 = some z' /\ (Cq X Y A x nm zk).2 = (z', La zk.2 nm) := by
 unfold Cq at h ⊢;split at h
 ·cases h
 ·rename_i hc
  rw [if_neg hc];cases he : Ct X Y A x zk.1 with
  | none => rw [he] at h; cases h
  | some z' => exact ⟨z', rfl, rfl⟩
theorem Wg {X Y : Int} {A : Nat -> List Int} {x : Nat} {z z' : LZ} {tx : TI} (hT : z.T x = some tx) (h : Ct X Y A x z = some z') : z' = { z with T := A3 z.T x { tx with en := tx.en + 1 } } := by
 unfold Ct at h;rw [hT] at h;simp only at h;split at h
 ·cases h
 ·exact (Option.some.inj h).symm
theorem Wf {X Y : Int} {A : Nat -> List Int} {x : Nat} {z z' : LZ} (hT : z.T x = none) (h : Ct X Y A x z = some z') : Cj (A x) = true /\ z' = C8 X Y x (Al (A x)).1 1 z := by
 unfold Ct at h;rw [hT] at h;simp only at h;split at h
 ·rename_i hs
  exact ⟨hs, (Option.some.inj h).symm⟩
 ·cases h
section
variable {E : Ay} {o : Option Nat} {I : Nat -> List Int}
theorem iN (hE : ROk E) {done : List Int} {z : LZ} {c : Nat} {t : TI} (hD : DI E done z) (hP : PZ E.X E.Y z) (ht : z.T c = some t) (hq : (c : Int) ∉ z.q) (w : World) (h : DG E w o done z I) :
  Calls Tryz.prog 33 #[.pointer (some ⟨E.g, 0, none⟩), .int .i64 c] w (oY E done o (Cv E.X E.Y E.A c z) w) := by
 obtain ⟨hc1, hcY⟩ := hD.ix c t ht;have hcM : c < E.M := by have := hE.M; omega
 have hci : (c : Int) < (E.M : Int) := by omega
 have hc0 : (0 : Int) <= (c : Int) := Int.natCast_nonneg _;have hY0 : 0 <= E.Y := by have := hE.Y1; omega
 have hr18 := (hD.inv.snd c t ht).2.1;have hIc : I c = t.raw := h.i c t ht;have hA : Up E.N z.st.S t.raw := (Uq (X := E.X) (Y := E.Y) (n := Aw (nth t.raw 2)) hY0 hE.X (by have := hE.N8; omega) hr18 (fun p hp => ((hP.ok c t ht).1 p hp).1)).1;have HA := sW hA;have HRUN := sW (bX hE hD.inv hP ht);have HSP : Hid (∀ j, j < 1068 -> t.bk (j : Nat) = Hk (Dw z.st.S t.raw j)) := sW (fun j hj => by rw [hP.bk c t ht j (Int.natCast_nonneg _) (by omega), Ih _ _ hr18 j hj]);obtain ⟨L, hL⟩ : ∃ L, spF (Dw z.st.S t.raw) 0 1068 = L := ⟨_, rfl⟩;rw [hL] at HRUN;have HL := sW hL;have hLl : L.length <= 1068 := by rw [<- hL]; exact H8 _ _ _
 have HLB : Hid (∀ (k : Nat) (sp : Sp), L[k]? = some sp -> ∃ j : Nat, t.bk j = some sp.2) := sW (fun k sp hk => by
  have hm := List.mem_of_getElem? hk;rw [<- hL] at hm;unfold spF at hm;obtain ⟨j, hj, hm⟩ := List.mem_flatMap.1 hm;have hj2 := List.mem_range.1 hj;split at hm
  ·cases hm
  ·rename_i h0
   simp only [Nat.zero_add, List.mem_singleton] at hm;refine ⟨j, ?_⟩;rw [HSP.out j hj2, hm];unfold Hk;rw [Nat.zero_add] at h0;rw [if_neg h0])
 have HG := sW h.g;have HIT := sW h.i;have HD := sW hD;have HT := sW ht;have HQ := sW hq;obtain ⟨v, hl, -⟩ := h.g.l;have hll := Aa hl;obtain ⟨csn, hcn, -, hldn, -⟩ := h.g.n.load hcM;rw [hIc] at hldn;have hcnl := Aa hcn;clear hA hL h hD hP ht hq;go_enter Tryz.func33, Tryz.ntmps33;go_upto_region 0 with fail;refine Kl (by kernel_rfl) 15 (by decide) rfl (fun W => Below w.heap.size w W) (fun W W' => Below W.heap.size W W') (fun i' v W => match i' with | 0 => v = (.pointer (some ⟨E.g, 0, none⟩)) | 1 => v = (Lv E.gw E.N E.cw) | 2 => v = (.pointer (some ⟨E.g, 0, none⟩)) | 3 => v = (.pointer (some ⟨E.g, 0, none⟩)) | 4 => v = (.pointer (some ⟨E.g, 6, none⟩)) | 5 => v = (.slice (some ⟨E.gn, 0, none⟩) E.M E.cn) | 6 => v = (.int .i64 (c : Int)) | 7 => v = (.pointer (some ⟨E.gn, c * 18, none⟩)) | 8 => v = (.agg (IV .i64 t.raw)) | 9 => ∃ v0, v = .tuple #[v0, .int .i64 0] /\ Dg W w.heap.size v0 L | 10 => ∃ v0, v = .tuple #[v0, .int .i64 0] /\ Dg W w.heap.size v0 L | 11 => Dg W w.heap.size v L | 12 => v = (.int .i64 0) | 13 => Dg W w.heap.size v L | _ => v = (.int .i64 0)) ((Below.refl _ _).drew) ?_ ?_ ?_
 ·intro i' v wa wb hi _ _ hE5 hG;have hi' : i' = 0 \/ i' = 1 \/ i' = 2 \/ i' = 3 \/ i' = 4 \/ i' = 5 \/ i' = 6 \/ i' = 7 \/ i' = 8 \/ i' = 9 \/ i' = 10 \/ i' = 11 \/ i' = 12 \/ i' = 13 \/ i' = 14 := by omega
  rcases hi' with rfl | rfl | rfl | rfl | rfl | rfl | rfl | rfl | rfl | rfl | rfl | rfl | rfl | rfl | rfl <;> try exact hG
  ·obtain ⟨v0, h1, h2⟩ := hG;exact ⟨v0, h1, h2.below hE5⟩
  ·obtain ⟨v0, h1, h2⟩ := hG;exact ⟨v0, h1, h2.below hE5⟩
  ·exact Dg.below hG hE5
  ·exact Dg.below hG hE5
 ·intro i' o hi ho a' w' hB hS hF;have hi' : i' = 0 \/ i' = 1 \/ i' = 2 \/ i' = 3 \/ i' = 4 \/ i' = 5 \/ i' = 6 \/ i' = 7 \/ i' = 8 \/ i' = 9 \/ i' = 10 \/ i' = 11 \/ i' = 12 \/ i' = 13 \/ i' = 14 := by omega
  have hl := (hop hB hl).1;have hcn := (hop hB hcn).1;rcases hi' with rfl | rfl | rfl | rfl | rfl | rfl | rfl | rfl | rfl | rfl | rfl | rfl | rfl | rfl | rfl
  all_goals (have ho' := Option.some.inj ho; subst ho')
  ·have q0 : a'.tmps[0]?.getD undef = (.pointer (some ⟨E.g, 0, none⟩)) := gtx ((hS 0 (by decide)).trans rfl);refine Ae rfl rfl (v := (.pointer (some ⟨E.g, 0, none⟩))) (w1 := w') ?_ ⟨_, rfl, hB, Below.refl _ _, rfl⟩;simp [go_sem, q0]
  ·have q14 : a'.tmps[14]?.getD undef = (.pointer (some ⟨E.g, 0, none⟩)) := gtx ((hF 0 (by decide) _ 14 rfl rfl).trans rfl);refine Bk (f := 69) (args := #[.pointer (some ⟨E.g, 0, none⟩)]) rfl rfl (by simp [go_sem, q14]) (Ja w' (HG.out.below hB)) ?_;rintro e w'' ⟨rfl, hb'⟩;exact ⟨_, rfl, _, rfl, Ad hB hb' hB.size, hb', rfl⟩
  ·have q0 : a'.tmps[0]?.getD undef = (.pointer (some ⟨E.g, 0, none⟩)) := gtx ((hS 0 (by decide)).trans rfl);refine Ae rfl rfl (v := (.pointer (some ⟨E.g, 0, none⟩))) (w1 := w') ?_ ⟨_, rfl, hB, Below.refl _ _, rfl⟩;simp [go_sem, q0]
  ·have q16 : a'.tmps[16]?.getD undef = (.pointer (some ⟨E.g, 0, none⟩)) := gtx ((hF 2 (by decide) _ 16 rfl rfl).trans rfl);refine Ae rfl rfl (v := (.pointer (some ⟨E.g, 0, none⟩))) (w1 := w') ?_ ⟨_, rfl, hB, Below.refl _ _, rfl⟩;simp [go_sem, q16]
  ·have q17 : a'.tmps[17]?.getD undef = (.pointer (some ⟨E.g, 0, none⟩)) := gtx ((hF 3 (by decide) _ 17 rfl rfl).trans rfl);refine Ae rfl rfl (v := (.pointer (some ⟨E.g, 6, none⟩))) (w1 := w') ?_ ⟨_, rfl, hB, Below.refl _ _, rfl⟩;simp [go_sem, q17]
  ·have q18 : a'.tmps[18]?.getD undef = (.pointer (some ⟨E.g, 6, none⟩)) := gtx ((hF 4 (by decide) _ 18 rfl rfl).trans rfl);refine Ae rfl rfl (v := (.slice (some ⟨E.gn, 0, none⟩) E.M E.cn)) (w1 := w') ?_ ⟨_, rfl, hB, Below.refl _ _, rfl⟩;simp [go_sem, q18, hl]
  ·have q1 : a'.tmps[1]?.getD undef = (.int .i64 (c : Int)) := gtx ((hS 1 (by decide)).trans rfl);refine Ae rfl rfl (v := (.int .i64 (c : Int))) (w1 := w') ?_ ⟨_, rfl, hB, Below.refl _ _, rfl⟩;simp [go_sem, q1]
  ·have q19 : a'.tmps[19]?.getD undef = (.slice (some ⟨E.gn, 0, none⟩) E.M E.cn) := gtx ((hF 5 (by decide) _ 19 rfl rfl).trans rfl);have q20 : a'.tmps[20]?.getD undef = (.int .i64 (c : Int)) := gtx ((hF 6 (by decide) _ 20 rfl rfl).trans rfl);refine Ae rfl rfl (v := (.pointer (some ⟨E.gn, c * 18, none⟩))) (w1 := w') ?_ ⟨_, rfl, hB, Below.refl _ _, rfl⟩;simp [go_sem, q19, q20, hc0, hci, hcM]
  ·have q21 : a'.tmps[21]?.getD undef = (.pointer (some ⟨E.gn, c * 18, none⟩)) := gtx ((hF 7 (by decide) _ 21 rfl rfl).trans rfl);refine Ae rfl rfl (v := (.agg (IV .i64 t.raw))) (w1 := w') ?_ ⟨_, rfl, hB, Below.refl _ _, rfl⟩;simp [go_sem, q21, hcn, hldn]
  ·have q15 : a'.tmps[15]?.getD undef = (Lv E.gw E.N E.cw) := gtx ((hF 1 (by decide) _ 15 rfl rfl).trans rfl);have q22 : a'.tmps[22]?.getD undef = (.agg (IV .i64 t.raw)) := gtx ((hF 8 (by decide) _ 22 rfl rfl).trans rfl);refine Bk (f := 70) (args := #[Lv E.gw E.N E.cw, .agg (IV .i64 t.raw)]) rfl rfl (by simp [go_sem, q15, q22]) (Sh HA.out w' (HG.out.below hB).s) ?_;rintro e w'' ⟨v0, rfl, hs0, hb'⟩;exact ⟨_, rfl, _, rfl, Ad hB hb' hB.size, hb', v0, rfl, by rw [HL.out] at hs0; exact hs0.base hB.size⟩
  ·obtain ⟨v0, h1, h2⟩ := hF 9 (by decide) _ 23 rfl rfl;have q23 := gtx h1;refine Ae rfl rfl (v := .tuple #[v0, .int .i64 0]) (w1 := w') ?_ ⟨_, rfl, hB, Below.refl _ _, v0, rfl, h2⟩;simp [go_sem, q23]
  ·obtain ⟨v0, h1, h2⟩ := hF 10 (by decide) _ 13 rfl rfl;have q13 := gtx h1;refine Ae rfl rfl (v := v0) (w1 := w') ?_ ⟨_, rfl, hB, Below.refl _ _, h2⟩;simp [go_sem, q13]
  ·obtain ⟨v0, h1, h2⟩ := hF 10 (by decide) _ 13 rfl rfl;have q13 := gtx h1;refine Ae rfl rfl (v := .int .i64 0) (w1 := w') ?_ ⟨_, rfl, hB, Below.refl _ _, rfl⟩;simp [go_sem, q13]
  ·have h2 := hF 11 (by decide) _ 24 rfl rfl;obtain ⟨a24, c24, e24⟩ := h2.sl;have q24 := gtx e24;rw [e24] at h2;refine Ae rfl rfl (v := .slice a24 L.length c24) (w1 := w') ?_ ⟨_, rfl, hB, Below.refl _ _, h2⟩;simp [go_sem, q24]
  ·have q25 : a'.tmps[25]?.getD undef = (.int .i64 0) := gtx ((hF 12 (by decide) _ 25 rfl rfl).trans rfl);refine Ae rfl rfl (v := (.int .i64 0)) (w1 := w') ?_ ⟨_, rfl, hB, Below.refl _ _, rfl⟩;simp [go_sem, q25]
 intro val w5 hB5 hF;have y0 := hF 0 _ 14 (by decide) rfl rfl;have y1 := hF 1 _ 15 (by decide) rfl rfl;have y2 := hF 2 _ 16 (by decide) rfl rfl;have y3 := hF 3 _ 17 (by decide) rfl rfl;have y4 := hF 4 _ 18 (by decide) rfl rfl;have y5 := hF 5 _ 19 (by decide) rfl rfl;have y6 := hF 6 _ 20 (by decide) rfl rfl;have y7 := hF 7 _ 21 (by decide) rfl rfl;have y8 := hF 8 _ 22 (by decide) rfl rfl;obtain ⟨v23, y9, -⟩ := hF 9 _ 23 (by decide) rfl rfl;obtain ⟨v13, y10, -⟩ := hF 10 _ 13 (by decide) rfl rfl;have y12 := hF 12 _ 25 (by decide) rfl rfl;obtain hs5 := hF 13 _ 4 (by decide) rfl rfl;have y14 := hF 14 _ 5 (by decide) rfl rfl;simp only [] at y0 y1 y2 y3 y4 y5 y6 y7 y8 y12 y14;simp only [Bg, List.take, List.drop, List.take_succ_cons, List.drop_succ_cons, y0, y1, y2, y3, y4, y5, y6, y7, y8, y12, y14, y9, y10, Act.put, List.setIfInBounds_toArray, List.set_cons_zero, List.set_cons_succ];clear y0 y1 y2 y3 y4 y5 y6 y7 y8 y12 y14 y9 y10 hF;have HWL : Hid (w.heap.size <= w5.heap.size /\ E.gi < w5.heap.size) := sW ⟨hB5.size, Nat.lt_of_lt_of_le (HG.out.lts E.gi (by simp [Ay.bs])) hB5.size⟩;obtain ⟨av, cv, ev⟩ := hs5.sl;generalize val 13 = v4 at *;subst ev;have HB0 : Hid (Ky E done o (.slice av L.length cv) L w w5 z [] o I (.slice none 0 0) w5) := sW ⟨⟨rfl, .inl ⟨rfl, rfl⟩⟩, ⟨HG.out.below hB5, HIT.out⟩, Ag hB5 _, .inl rfl, hs5, Nat.le_refl _, HWL.out.2⟩;clear hB5 hs5 hl hll hcn hcnl hldn HG HIT;go_wp2_with fail;go_loopw [6, 7] (fun nv kv wr => ∃ (k : Nat) (zk : LZ × (ByteArray -> Bool)) (ns : List ByteArray) (ok : Option Nat) (Ik : Nat -> List Int), kv = .int .i64 k /\ k <= L.length /\ ns.length <= k /\ Hid (Ky E done o (.slice av L.length cv) L w w5 zk.1 ns ok Ik nv wr) /\ Hid (∀ x, zk.2 x = true ↔ x ∈ ns) /\ Hid (DI E done zk.1) /\ Hid ((∃ t0, zk.1.T c = some t0 /\ t0.bk = t.bk) /\ (c : Int) ∉ zk.1.q) /\ Hid (Xq E L (z, fun _ => false) = Xq E (L.drop k) zk)) (fun _ v _ => L.length - (intOf v).toNat)
 case atStart => exact ⟨0, (z, fun _ => false), [], o, I, rfl, by omega, by simp, HB0, sW (fun x => by simp), HD, sW ⟨⟨t, HT.out, rfl⟩, HQ.out⟩, sW rfl⟩
 case round =>
  obtain ⟨k, zk, ns, ok, Ik, rfl, hk, hns, HB, HNI, HDI, HTC, HRK⟩ := hrel;have hk0 : (0 : Int) <= (k : Int) := Int.natCast_nonneg _;by_cases hkL : k < L.length
  ·have hki : (k : Int) < (L.length : Int) := by omega
   obtain ⟨⟨ix, p⟩, hsp⟩ := Dx (l := L) (k := k) hkL;have hr := HRK.out;rw [H9 hsp, dS] at hr;obtain ⟨j, hbj⟩ := HLB.out k (ix, p) hsp;obtain ⟨⟨t0, ht0, hb0⟩, hqk⟩ := HTC.out;obtain ⟨hdp, hcp⟩ := HDI.out.inv.blk c t0 j p ht0 (by rw [hb0]; exact hbj);have hlt := U4 hE hdp;obtain ⟨pn, rfl⟩ := Int.eq_ofNat_of_zero_le hlt.1;have hpN : pn < E.N := by omega
   have hpi : (pn : Int) < (E.N : Int) := hlt.2;have hpp : (0 : Int) <= (pn : Int) := Int.natCast_nonneg _;have hr2 : Xq E L (z, fun _ => false) = Xq E (L.drop (k + 1)) (Ey E.X E.Y E.A pn zk) := hr;have HR1 := sW hr2;have HCP : Hid (zk.1.st.cl (pn : Nat) = true) := sW hcp;have HSI := sW (Zu hY0 (t := t) HDI.out.inv ⟨t0, ht0, hb0⟩ hqk hbj);obtain ⟨gs, cg, csS, es, -, hgs, hall⟩ := HB.out.sr.at (fun e => by rw [e] at hkL; simp at hkL);injection es with ea eb ec
   subst ea;subst ec;have hcS := hall _ _ (Vr L k ix pn hsp).2;have hgsl := Aa hgs;clear hr hr2 hcp hall eb hsp hbj ht0 hb0 hdp hlt;obtain ⟨vk, hlk, -⟩ := HB.out.dg.g.l;have hlkl := Aa hlk;obtain ⟨csw, hcw, hldw, hlenw, hbyw⟩ := HB.out.dg.g.s.load hpN;have hcwl := Aa hcw;have HSL := sW (fun W => Zp (zk.1.st.S pn) hlenw hbyw W)
   have HSLZ : Hid (Ey E.X E.Y E.A pn zk = if (A2 (zk.1.st.S pn)).2.2 = 0 /\ (A2 (zk.1.st.S pn)).1 = 0 then zk
    else if (A2 (zk.1.st.S pn)).2.2 = 0 /\ (A2 (zk.1.st.S pn)).1 <= E.Y /\ (Cq E.X E.Y E.A (A2 (zk.1.st.S pn)).1.toNat (A2 (zk.1.st.S pn)).2.1 zk).1 = true then (Cq E.X E.Y E.A (A2 (zk.1.st.S pn)).1.toNat (A2 (zk.1.st.S pn)).2.1 zk).2 else (Cx pn zk.1, zk.2)) := sW rfl
   have HOK : Hid ((A2 (zk.1.st.S pn)).2.2 = 0 -> (A2 (zk.1.st.S pn)).1 ≠ 0 -> 1 <= (A2 (zk.1.st.S pn)).1 /\ (A2 (zk.1.st.S pn)).1 <= 512) := sW (fun h1 h2 => ⟨(Vq h1 h2).1, (Vq h1 h2).2.1⟩);generalize (A2 (zk.1.st.S pn)).1 = ino at *;generalize (A2 (zk.1.st.S pn)).2.1 = nm at *;generalize (A2 (zk.1.st.S pn)).2.2 = er at *;obtain ⟨w6, hw6⟩ : ∃ x, x = wr := ⟨_, rfl⟩;subst hw6;go_wp2_with fail;refine (HSL.out _).mono ?_; rintro e w7 ⟨rfl, hb7⟩;have hgl := (A7 w7 (.cells #[.int .i64 ino, .string nm] 93)).1;have hB8 : Below w6.heap.size w6 (w7.alloc (.cells #[.int .i64 ino, .string nm] 93)) := hb7.alloc hb7.size _;have HB8 := sW (HB.out.below hB8);clear hb7 hB8 hlk hlkl hcw hcwl hldw HSL hgs hgsl hcS HB hbyw hlenw;go_upto_region 7 with fail;generalize w7.alloc (.cells #[.int .i64 ino, .string nm] 93) = w8 at *;generalize w7.heap.size = gl at *;have hgll := Aa hgl;by_cases he : er = 0
   ·have de : (er == 0) = true := by simpa using he
    have dn : (er != 0) = false := by simpa using he
    by_cases hi : ino = 0
    ·have di : (ino == 0) = true := by simpa using hi
     have HSK : Hid (Ey E.X E.Y E.A pn zk = zk) := sW (by rw [HSLZ.out, if_pos ⟨he, hi⟩]);clear he hi;go_wp2_with fail;go_roundw
     case rel => first | exact ⟨k + 1, zk, ns, ok, Ik, by go_num, by omega, by omega, HB8, HNI, HDI, HTC, sW (by rw [HR1.out, HSK.out])⟩ | ((repeat apply Exists.intro); exact ⟨⟨k + 1, zk, ns, ok, Ik, by go_num, by omega, by omega, HB8, HNI, HDI, HTC, sW (by rw [HR1.out, HSK.out])⟩, rfl⟩)
     case measure => (show L.length - (k + 1) < L.length - k); omega
    ·have di : (ino == 0) = false := by simpa using hi
     obtain ⟨o1, o2⟩ := HOK.out he hi;obtain ⟨x, rfl⟩ := Int.eq_ofNat_of_zero_le (show 0 <= ino by omega);have hx1 : 1 <= x := by omega
     have HSLZ2 : Hid (Ey E.X E.Y E.A pn zk = if (x : Int) <= E.Y /\ (Cq E.X E.Y E.A x nm zk).1 = true then (Cq E.X E.Y E.A x nm zk).2 else (Cx pn zk.1, zk.2)) := sW (by
      rw [HSLZ.out, if_neg (fun hh => hi hh.2), Int.toNat_natCast];simp only [he, true_and])
     have HEB := sW (kQ HDI.out HB8.out.dg.i HNI.out hx1 nm);have HCE := sW (Vh hE x hx1 nm ns (by omega) w8 HB8.out.dg.g HB8.out.nm);clear he hi o1 o2 HSLZ HOK;cases hent : bZ E (tkZ zk.1.T) Ik (enZ zk.1.T) x nm ns with
     | false =>
      rw [hent] at HEB HCE
      have HSK : Hid (Ey E.X E.Y E.A pn zk = (Cx pn zk.1, zk.2)) := sW (by
       rw [HSLZ2.out, if_neg (fun hh => by have := HEB.out.2 hh; cases this)])
      have HTC2 : Hid ((∃ t0, (Cx pn zk.1).T c = some t0 /\ t0.bk = t.bk) /\ (c : Int) ∉ (Cx pn zk.1).q) := sW HTC.out;have HDI2 := sW (HDI.out.wipe HCP.out);clear hent;go_wp2_with fail;refine HCE.out.mono ?_; rintro e w9 ⟨rfl, hb9⟩;have HB9 := sW (HB8.out.below hb9);obtain ⟨v9, hl9, -⟩ := HB9.out.dg.g.l;have hl9l := Aa hl9;obtain ⟨csw, hcw, hszw, -⟩ := HB9.out.dg.g.s;have hcwl := Aa hcw;have hst : ∀ raw w', Cw raw 128 (pn * 128) E.gw (IV .u8 (zl 128)) w' (some (.cells csw 33 (0, 0))) = .ok () (w'.setRow E.gw (Ak csw (pn * 128) (IV .u8 (zl 128)))) := fun raw w' => Cb (by omega) (by simp) (by simp)
      have HB10 := sW (HB9.out.wipe hE hpN hcw);clear hb9 HCE;go_wp2_with fail;go_roundw
      case rel => first | exact ⟨k + 1, (Cx pn zk.1, zk.2), ns, ok, Ik, by go_num, by omega, by omega, HB10, HNI, HDI2, HTC2, sW (by rw [HR1.out, HSK.out])⟩ | ((repeat apply Exists.intro); exact ⟨⟨k + 1, (Cx pn zk.1, zk.2), ns, ok, Ik, by go_num, by omega, by omega, HB10, HNI, HDI2, HTC2, sW (by rw [HR1.out, HSK.out])⟩, rfl⟩)
      case measure => (show L.length - (k + 1) < L.length - k); omega
     | true =>
      rw [hent] at HEB HCE;obtain ⟨hxY, hen⟩ := HEB.out.1 rfl;obtain ⟨z', hez, hz2⟩ := Ym hen;have HSK : Hid (Ey E.X E.Y E.A pn zk = (z', La zk.2 nm)) := sW (by rw [HSLZ2.out, if_pos ⟨hxY, hen⟩, hz2]);have HXY := sW hxY;have HEZ := sW hez;have HDI2 := sW (HDI.out.enter hE hx1 hxY hez)
      have HTC2 : Hid ((∃ t0, z'.T c = some t0 /\ t0.bk = t.bk) /\ (c : Int) ∉ z'.q) := sW (by
       obtain ⟨⟨t0, ht0, hb0⟩, -⟩ := HTC.out;have hs := HSI.out;rw [Int.toNat_natCast, HSK.out] at hs;obtain ⟨t1, ht1, -, hb1⟩ := hs.st.t c t0 ht0;exact ⟨⟨t1, ht1, hb1.trans hb0⟩, hs.q⟩)
      have HNI2 : Hid (∀ y, La zk.2 nm y = true ↔ y ∈ ns ++ [nm]) := sW (fun y => by
       unfold La;rw [List.mem_append, <- HNI.out y];simp)
      have hxM : x < E.M := by have := hE.M; omega
      have hxMi : (x : Int) < (E.M : Int) := by omega
      have hx0 : (0 : Int) <= (x : Int) := Int.natCast_nonneg _
      have HENB : Hid (0 <= enZ zk.1.T x /\ enZ zk.1.T x <= 100) := sW (by
       unfold enZ;split
       ·rename_i tx htx
        exact HDI.out.inv.en x tx htx
       ·omega)
      clear hent hen hez hz2 hxY HSLZ2 HSI HCP HEB;go_wp2_with fail;refine HCE.out.mono ?_; rintro e w9 ⟨rfl, hb9⟩;have HB9 := sW (HB8.out.below hb9);have hgl9 := (hop hb9 hgl).1;have hgl9l := Aa hgl9;obtain ⟨v', w10, hrun, hn10, hb10, hty⟩ := bO HB9.out.nm (Nat.le_refl w5.heap.size) (Below.refl w5.heap.size w9) HB9.out.sz HB9.out.sz (by omega) nm 119;have HB10 := sW (HB9.out.name HWL.out.1 hn10 hb10 hty);have hgl10 : hat w10 gl = some (.cells #[.int .i64 x, .string nm] 93) := hty _ _ _ _ (by decide) hgl9;have hgl10l := Aa hgl10;obtain ⟨an, cn, env⟩ := hn10.sl;obtain ⟨nn, hnn⟩ : ∃ n, (ns ++ [nm]).length = n := ⟨_, rfl⟩;rw [hnn] at env;clear hnn;subst env;obtain ⟨v10, hl10, -⟩ := HB10.out.dg.g.l;have hl10l := Aa hl10;obtain ⟨cse, hce, -, halle⟩ := HB10.out.dg.g.e;have hcex := halle x hxM;have hcel := Aa hce;obtain ⟨en0, hen0⟩ : ∃ e, enZ zk.1.T x = e := ⟨_, rfl⟩;rw [hen0] at hcex HENB;have HEN := sW hen0;obtain ⟨he0, he1⟩ := HENB.out;have HGLE : Hid (gl ≠ E.ge) := sW (fun e => by
       subst e;rw [hgl10] at hce;injection hce with h8
       injection h8 with h9 h10
       exact absurd h10 (by decide))
      clear hb9 HCE hn10 hb10 hty halle hen0 hgl hgll HB8 HB9 HENB;go_upto_region 11 with (at_builtin; refine Ao _ rfl (.tmp 71) (.tmp 74) 119 rfl _ _ rfl rfl _ _ hrun ?_)
      clear hrun hgl9 hgl9l;have hgl11 : hat (w10.setCell ⟨E.ge, x, none⟩ (.int .i64 (en0 + 1))).drew gl = some (.cells #[.int .i64 x, .string nm] 93) := (E5 w10 ⟨E.ge, x, none⟩ _ gl HGLE.out).trans hgl10;have HF11 : Hid (Fr E.ms w10 (w10.setCell ⟨E.ge, x, none⟩ (.int .i64 (en0 + 1))).drew) := sW (Bj ((Ai w10 E.ge x _).mono (by simp [Ay.ms])));have HG11 := sW ((HB10.out.dg.g.count hE hxM (en0 + 1)).below (Ds (Below.refl _ _)));have HMORE : Hid (∀ tx, zk.1.T x = some tx -> Ky E done o (.slice (some ⟨gs, 0, none⟩) L.length cv) L w w5 { zk.1 with T := A3 zk.1.T x { tx with en := tx.en + 1 } } (ns ++ [nm]) ok Ik (.slice an nn cn) (w10.setCell ⟨E.ge, x, none⟩ (.int .i64 (en0 + 1))).drew) := sW (fun tx hT => by
       have h1 := HB10.out.more hE hxM hT;have h2 : tx.en = en0 := by rw [<- HEN.out]; unfold enZ; rw [hT]
       rw [h2] at h1;have h3 : ({ tx with en := tx.en + 1 } : TI) = { tx with en := en0 + 1 } := by rw [h2]
       rw [h3];exact h1.below (Ds (Below.refl _ _)))
      go_region
      clear hl10 hl10l hce hcel hcex hgl10 hgl10l;go_upto_region 12 with fail;generalize (w10.setCell ⟨E.ge, x, none⟩ (.int .i64 (en0 + 1))).drew = w11 at *;have hgl11l := Aa hgl11;obtain ⟨v11, hl11, -⟩ := HG11.out.l;have hl11l := Aa hl11;obtain ⟨cst, hct, -, hallt⟩ := HG11.out.t;have hctx := hallt x hxM;rw [Ki] at hctx;have hctl := Aa hct;have HGL : Hid (hat w11.drew gl = some (.cells #[.int .i64 x, .string nm] 93)) := sW hgl11;have HG12 := sW (HG11.out.below (Ds (Below.refl w11.heap.size w11)));have HF12 := sW (Bj HF11.out);clear hallt;cases hT : zk.1.T x with
      | some tx =>
       rw [hT] at hctx;have HB12 := sW ((HMORE.out tx hT).below (Ds (Below.refl w11.heap.size w11)));have HZE : Hid (z' = { zk.1 with T := A3 zk.1.T x { tx with en := tx.en + 1 } }) := sW (Wg hT HEZ.out);rw [<- HZE.out] at HB12;simp only [Option.isSome_some] at hctx;clear hT HMORE;go_region
       clear hl11 hl11l hct hctx hctl hgl11 hgl11l;generalize w11.drew = w12 at *;go_wp2_with fail;go_roundw
       case rel => first | exact ⟨k + 1, (z', La zk.2 nm), ns ++ [nm], ok, Ik, by go_num, by omega, by simp; omega, HB12, HNI2, HDI2, HTC2, sW (by rw [HR1.out, HSK.out])⟩ | ((repeat apply Exists.intro); exact ⟨⟨k + 1, (z', La zk.2 nm), ns ++ [nm], ok, Ik, by go_num, by omega, by simp; omega, HB12, HNI2, HDI2, HTC2, sW (by rw [HR1.out, HSK.out])⟩, rfl⟩)
       case measure => (show L.length - (k + 1) < L.length - k); omega
      | none =>
       rw [hT] at hctx;obtain ⟨hso, hze⟩ := Wf hT HEZ.out;have HZE := sW hze;have HNO := sW hT;have hen : en0 = 0 := by rw [<- HEN.out]; unfold enZ; rw [hT]
       obtain ⟨m1, m2⟩ := Id hso;have hb3 := ((Dy m2).1 m1).1.2.2.1;have HZB := sW hb3;simp only [Option.isSome_none] at hctx;clear hT HMORE hso hze m1 m2 hb3;go_region
       clear hl11 hl11l hct hctx hctl hgl11 hgl11l;have hgl12 := HGL.out;have hgl12l := Aa hgl12;generalize w11.drew = w12 at *;have HCS := sW (M6 hE x hx1 HXY.out w12 HG12.out);have hrl := Br (E.A x);have HRE : Hid (Al (E.A x) = Al (E.A x)) := sW rfl;obtain ⟨rw0, hrw0⟩ : ∃ r, (Al (E.A x)).1 = r := ⟨_, rfl⟩;rw [hrw0] at HCS hrl HZB HZE;clear hrw0 HRE;go_wp2_with fail;refine HCS.out.mono ?_; rintro e w13 ⟨rfl, hb13⟩;have hgi := (A7 w13 (.cells (IV .i64 rw0) 45)).1;have hB14 : Below w12.heap.size w12 (w13.alloc (.cells (IV .i64 rw0) 45)) := hb13.alloc hb13.size _;have hgl14 := (hop hB14 hgl12).1;have HG14 := sW (HG12.out.below hB14);have HF14 := sW (HF12.out.trans (Ag hB14 _));clear hb13 hB14 HCS hgl12 hgl12l;go_upto_region 14 with fail;generalize w13.alloc (.cells (IV .i64 rw0) 45) = w14 at *;generalize w13.heap.size = gi2 at *;have hgl14l := Aa hgl14;have hgil := Aa hgi;have HCT := sW (Si hE x hx1 hxM hrl HZB.out.1 HZB.out.2 zk.1.st HDI.out.inv.si (HDI.out.len hE) w14 HG14.out);go_wp2_with fail;refine HCT.out.mono ?_; rintro e w15 ⟨rfl, o15, htk⟩;have hen2 : (fun j => if x = j then en0 + 1 else enZ zk.1.T j) = fun j => if x = j then (1 : Int) else enZ zk.1.T j := by
        funext j
        split
        ·omega
        ·rfl
       rw [hen2] at htk;obtain ⟨I15, hb15⟩ := HB10.out.took hx1 HNO.out HF14.out htk;rw [<- HZE.out] at hb15;have HB15 := sW hb15;clear htk hb15 HCT hen2;go_wp2_with fail;go_roundw
       case rel => first | exact ⟨k + 1, (z', La zk.2 nm), ns ++ [nm], o15, I15, by go_num, by omega, by simp; omega, HB15, HNI2, HDI2, HTC2, sW (by rw [HR1.out, HSK.out])⟩ | ((repeat apply Exists.intro); exact ⟨⟨k + 1, (z', La zk.2 nm), ns ++ [nm], o15, I15, by go_num, by omega, by simp; omega, HB15, HNI2, HDI2, HTC2, sW (by rw [HR1.out, HSK.out])⟩, rfl⟩)
       case measure => (show L.length - (k + 1) < L.length - k); omega
   ·have de : (er == 0) = false := by simpa using he
    have dn : (er != 0) = true := by simpa using he
    have HSK : Hid (Ey E.X E.Y E.A pn zk = (Cx pn zk.1, zk.2)) := sW (by
     rw [HSLZ.out, if_neg (fun hh => he hh.1), if_neg (fun hh => he hh.1)])
    have HTC2 : Hid ((∃ t0, (Cx pn zk.1).T c = some t0 /\ t0.bk = t.bk) /\ (c : Int) ∉ (Cx pn zk.1).q) := sW HTC.out;have HDI2 := sW (HDI.out.wipe HCP.out);obtain ⟨v9, hl9, -⟩ := HB8.out.dg.g.l;have hl9l := Aa hl9;obtain ⟨csw, hcw, hszw, -⟩ := HB8.out.dg.g.s;have hcwl := Aa hcw;have hst : ∀ raw w', Cw raw 128 (pn * 128) E.gw (IV .u8 (zl 128)) w' (some (.cells csw 33 (0, 0))) = .ok () (w'.setRow E.gw (Ak csw (pn * 128) (IV .u8 (zl 128)))) := fun raw w' => Cb (by omega) (by simp) (by simp)
    have HB10 := sW (HB8.out.wipe hE hpN hcw);clear he HSLZ;go_wp2_with fail;go_roundw
    case rel => first | exact ⟨k + 1, (Cx pn zk.1, zk.2), ns, ok, Ik, by go_num, by omega, by omega, HB10, HNI, HDI2, HTC2, sW (by rw [HR1.out, HSK.out])⟩ | ((repeat apply Exists.intro); exact ⟨⟨k + 1, (Cx pn zk.1, zk.2), ns, ok, Ik, by go_num, by omega, by omega, HB10, HNI, HDI2, HTC2, sW (by rw [HR1.out, HSK.out])⟩, rfl⟩)
    case measure => (show L.length - (k + 1) < L.length - k); omega
  ·obtain rfl : k = L.length := by omega
   have HEND : Hid (oY E done o (Cv E.X E.Y E.A c z) w (.returned (.tuple #[])) wr) := sW (by
    have hr := HRK.out;rw [List.drop_length] at hr;refine ⟨rfl, ok, Ik, ?_⟩;rw [HRUN.out, hr];exact ⟨HB.out.dg, HDI.out, HB.out.fr, HB.out.ok⟩)
   go_wp2_with fail;refine bodyPost_end (results_none rfl _ _ _) rfl ?_;exact HEND.out
end
theorem K0.fr {w w' : World} {base gb : Nat} {v : Value} {l : List Pt} (h : K0 w base v l) (hf : Fr [gb] w w') (hg : gb < base) : K0 w' base v l := by
 obtain ⟨h0, h | ⟨g, cap, cur, h1, h2, h3, h4⟩⟩ := h
 ·exact ⟨h0, .inl h⟩
 ·exact ⟨h0, .inr ⟨g, cap, cur, h1, h2, (hf.block g (Aa h3) (by simp; omega)).trans h3, h4⟩⟩
def bY (i : Int) (raw : List Int) (k : Nat) : List Pt := (List.range k).map fun (j : Nat) => (i, (j : Int), nth raw (4 + j))
def Le (S : Nat -> List Int) (p : Int) : List Pt := if p = 0 then [] else iT p (An (S p.toNat))
def bV (S : Nat -> List Int) (at' : Int) (ps : List Int) : Nat -> List Pt
 | 0 => []
 | k + 1 => bV S at' ps k ++ (at', (k : Int), nth ps k) :: Le S (nth ps k)
def kJ (S : Nat -> List Int) (p : Int) : List Pt := if p = 0 then [] else bV S p (An (S p.toNat)) 32
def aI (S : Nat -> List Int) (i : Int) (raw : List Int) : List Pt := bY i raw 12 ++ [(i, 12, nth raw 16), (i, 13, nth raw 17)] ++ Le S (nth raw 16) ++ kJ S (nth raw 17)
def K6 (l : List Pt) : List Int := l.map fun x => x.2.2
theorem Qe (a b : List Pt) : K6 (a ++ b) = K6 a ++ K6 b := by unfold K6; rw [List.map_append]
theorem mJ (at' : Int) (ps : List Int) : K6 (iT at' ps) = ps := by
 unfold K6 iT;rw [List.map_map];apply List.ext_getElem?
 intro i;simp [List.getElem?_map, List.getElem?_zipIdx];cases ps[i]? <;> simp
theorem Nn (base : Int) (S : Nat -> List Int) (q : Int) : ∀ (ps : List Int) (k : Nat), q ∈ (Gl base).ps S k ps ↔ q ≠ 0 /\ q ∈ ps
 | [], k => by
  show q ∈ [] ↔ _
  simp
 | p :: r, k => by
  show q ∈ (if p = 0 then [] else [p]) ++ (Gl base).ps S (k + 1) r ↔ _
  rw [List.mem_append, Nn base S q r (k + 1), List.mem_cons];by_cases hp : p = 0
  ·rw [if_pos hp];constructor
   ·rintro (h | h)
    ·cases h
    ·exact ⟨h.1, .inr h.2⟩
   ·rintro ⟨h0, h | h⟩
    ·exact absurd (h.trans hp) h0
    ·exact .inr ⟨h0, h⟩
  ·rw [if_neg hp, List.mem_singleton];constructor
   ·rintro (h | h)
    ·exact ⟨by rw [h]; exact hp, .inl h⟩
    ·exact ⟨h.1, .inr h.2⟩
   ·rintro ⟨h0, h | h⟩
    ·exact .inl h
    ·exact .inr ⟨h0, h⟩
theorem W7 (S : Nat -> List Int) {q : Int} (hq : q ≠ 0) (p : Int) : q ∈ K6 (Le S p) ↔ p ≠ 0 /\ q ∈ An (S p.toNat) := by
 unfold Le;split
 ·rename_i h
  constructor
  ·intro hh; cases hh
  ·intro hh; exact absurd h hh.1
 ·rename_i h
  rw [mJ];exact ⟨fun hh => ⟨h, hh⟩, fun hh => hh.2⟩
theorem aR (S : Nat -> List Int) {q : Int} (hq : q ≠ 0) (at' : Int) (ps : List Int) : ∀ k, q ∈ K6 (bV S at' ps k) ↔ ∃ j, j < k /\ (q = nth ps j \/ (nth ps j ≠ 0 /\ q ∈ An (S (nth ps j).toNat)))
 | 0 => by
  constructor
  ·intro h; cases h
  ·rintro ⟨j, h, -⟩; omega
 | k + 1 => by
  show q ∈ K6 (bV S at' ps k ++ (at', (k : Int), nth ps k) :: Le S (nth ps k)) ↔ _
  rw [Qe, List.mem_append, aR S hq at' ps k];have e : K6 ((at', (k : Int), nth ps k) :: Le S (nth ps k)) = nth ps k :: K6 (Le S (nth ps k)) := rfl;rw [e, List.mem_cons, W7 S hq];constructor
  ·rintro (⟨j, h1, h2⟩ | h)
   ·exact ⟨j, by omega, h2⟩
   ·exact ⟨k, by omega, h⟩
  ·rintro ⟨j, h1, h2⟩;by_cases hj : j = k
   ·subst hj; exact .inr h2
   ·exact .inl ⟨j, by omega, h2⟩
theorem W6 (n : Int) (S : Nat -> List Int) {q : Int} (hq : q ≠ 0) : ∀ (ps : List Int) (k : Nat), q ∈ (Dt n).ps S k ps ↔ ∃ p ∈ ps, p ≠ 0 /\ (q = p \/ q ∈ An (S p.toNat))
 | [], k => by
  show q ∈ [] ↔ _
  simp
 | p :: r, k => by
  show q ∈ (if p = 0 then [] else p :: (Gl (44 + 32 * (k : Int))).ps S 0 (An (S p.toNat))) ++ (Dt n).ps S (k + 1) r ↔ _
  rw [List.mem_append, W6 n S hq r (k + 1)];by_cases hp : p = 0
  ·rw [if_pos hp];constructor
   ·rintro (h | ⟨p', h1, h2⟩)
    ·cases h
    ·exact ⟨p', List.mem_cons_of_mem _ h1, h2⟩
   ·rintro ⟨p', h1, h2, h3⟩;rcases List.mem_cons.1 h1 with e | h1
    ·exact absurd (e.trans hp) h2
    ·exact .inr ⟨p', h1, h2, h3⟩
  ·rw [if_neg hp, List.mem_cons, Nn];constructor
   ·rintro ((h | h) | ⟨p', h1, h2⟩)
    ·exact ⟨p, List.mem_cons_self .., hp, .inl h⟩
    ·exact ⟨p, List.mem_cons_self .., hp, .inr h.2⟩
    ·exact ⟨p', List.mem_cons_of_mem _ h1, h2⟩
   ·rintro ⟨p', h1, h2, h3⟩;rcases List.mem_cons.1 h1 with e | h1
    ·subst e;rcases h3 with h3 | h3
     ·exact .inl (.inl h3)
     ·exact .inl (.inr ⟨hq, h3⟩)
    ·exact .inr ⟨p', h1, h2, h3⟩
theorem gZ (n : Int) (S : Nat -> List Int) {raw : List Int} (hr : raw.length = 18) (i : Int) {q : Int} (hq : q ≠ 0) : q ∈ K6 (aI S i raw) ↔ q ∈ Dj n S raw := by
 have hdir : q ∈ K6 (bY i raw 12) ↔ q ∈ Me raw := by
  have e : K6 (bY i raw 12) = Me raw := by
   unfold K6 bY;rw [List.map_map];apply J8
   ·unfold Me; simp [hr]
   ·intro k hk;have hk12 : k < 12 := by simpa using hk
    rw [Wa hr hk12];unfold nth;rw [List.getElem?_map, List.getElem?_range hk12]; rfl
  rw [e]
 unfold aI Dj;rw [Qe, Qe, Qe];have e2 : K6 [(i, 12, nth raw 16), (i, 13, nth raw 17)] = [nth raw 16, nth raw 17] := rfl;rw [e2];simp only [List.mem_append];rw [hdir, W7 S hq, Nn];have hs : q ∈ (Ng n).ps S 0 [nth raw 16] ↔ nth raw 16 ≠ 0 /\ (q = nth raw 16 \/ q ∈ An (S (nth raw 16).toNat)) := by
  show q ∈ (if nth raw 16 = 0 then [] else nth raw 16 :: (Gl 12).ps S 0 (An (S (nth raw 16).toNat))) ++ [] ↔ _
  rw [List.append_nil];split
  ·rename_i h
   exact ⟨fun hh => (by cases hh), fun hh => absurd h hh.1⟩
  ·rename_i h
   rw [List.mem_cons, Nn];constructor
   ·rintro (hh | hh)
    ·exact ⟨h, .inl hh⟩
    ·exact ⟨h, .inr hh.2⟩
   ·rintro ⟨-, hh | hh⟩
    ·exact .inl hh
    ·exact .inr ⟨hq, hh⟩
 have hd : q ∈ (Nf n).ps S 0 [nth raw 17] ↔ nth raw 17 ≠ 0 /\ (q = nth raw 17 \/ ∃ p ∈ An (S (nth raw 17).toNat), p ≠ 0 /\ (q = p \/ q ∈ An (S p.toNat))) := by
  show q ∈ (if nth raw 17 = 0 then [] else nth raw 17 :: (Dt n).ps S 0 (An (S (nth raw 17).toNat))) ++ [] ↔ _
  rw [List.append_nil];split
  ·rename_i h
   exact ⟨fun hh => (by cases hh), fun hh => absurd h hh.1⟩
  ·rename_i h
   rw [List.mem_cons, W6 n S hq];exact ⟨fun hh => ⟨h, hh⟩, fun hh => hh.2⟩
 have hda : q ∈ K6 (kJ S (nth raw 17)) ↔ nth raw 17 ≠ 0 /\ ∃ p ∈ An (S (nth raw 17).toNat), p ≠ 0 /\ (q = p \/ q ∈ An (S p.toNat)) := by
  unfold kJ;split
  ·rename_i h
   exact ⟨fun hh => (by cases hh), fun hh => absurd h hh.1⟩
  ·rename_i h
   rw [aR S hq];constructor
   ·rintro ⟨j, h1, h2⟩;have hm : nth (An (S (nth raw 17).toNat)) j ∈ An (S (nth raw 17).toNat) := List.mem_iff_getElem?.2 ⟨j, Am (by simp; omega)⟩;rcases h2 with h2 | h2
    ·exact ⟨h, _, hm, by rw [<- h2]; exact hq, .inl h2⟩
    ·exact ⟨h, _, hm, h2.1, .inr h2.2⟩
   ·rintro ⟨-, p, h1, h2, h3⟩;obtain ⟨j, hj⟩ := List.mem_iff_getElem?.1 h1;have hj32 := (List.getElem?_eq_some_iff.1 hj).1;have e : nth (An (S (nth raw 17).toNat)) j = p := by
     show ((An (S (nth raw 17).toNat))[j]?).getD 0 = p
     rw [hj]; rfl
    refine ⟨j, by simpa using hj32, ?_⟩;rw [e];rcases h3 with h3 | h3
    ·exact .inl h3
    ·exact .inr ⟨h2, h3⟩
 rw [hs, hd, hda];simp only [List.mem_cons, List.not_mem_nil, or_false];constructor
 ·rintro (((h | h | h) | h) | h)
  ·exact .inl ⟨hq, h⟩
  ·exact .inr (.inl ⟨by rw [<- h]; exact hq, .inl h⟩)
  ·exact .inr (.inr ⟨by rw [<- h]; exact hq, .inl h⟩)
  ·exact .inr (.inl ⟨h.1, .inr h.2⟩)
  ·exact .inr (.inr ⟨h.1, .inr h.2⟩)
 ·rintro (h | ⟨h0, h | h⟩ | ⟨h0, h | h⟩)
  ·exact .inl (.inl (.inl h.2))
  ·exact .inl (.inl (.inr (.inl h)))
  ·exact .inl (.inr ⟨h0, h⟩)
  ·exact .inl (.inl (.inr (.inr h)))
  ·exact .inr ⟨h0, h⟩
def nz (p : Int) : List Int := if p = 0 then [] else [p]
def Jc (S : Nat -> List Int) (raw : List Int) : List Int := nz (nth raw 16) ++ if nth raw 17 = 0 then [] else nth raw 17 :: (An (S (nth raw 17).toNat)).flatMap nz
theorem Rk (n : Int) (S : Nat -> List Int) (raw : List Int) (q : Int) : q ∈ Jc S raw ↔ q ∈ F5 n S raw := by
 have e0 : ∀ (b : Int) (l : List Int) (k : Nat), (Gl b).tb S k l = [] := by
  intro b l;induction l with
  | nil => intro k; rfl
  | cons p r ih =>
   intro k;show (if p = 0 then [] else ([] : List Int)) ++ (Gl b).tb S (k + 1) r = []
   rw [ih];split <;> rfl
 have e1 : ∀ (l : List Int) (k : Nat), (Dt n).tb S k l = l.flatMap nz := by
  intro l;induction l with
  | nil => intro k; rfl
  | cons p r ih =>
   intro k;show (if p = 0 then [] else p :: (Gl (44 + 32 * (k : Int))).tb S 0 (An (S p.toNat))) ++ (Dt n).tb S (k + 1) r = _
   rw [ih, e0, List.flatMap_cons];rfl
 have e2 : (Ng n).tb S 0 [nth raw 16] = nz (nth raw 16) := by
  show (if nth raw 16 = 0 then [] else nth raw 16 :: (Gl 12).tb S 0 (An (S (nth raw 16).toNat))) ++ [] = _
  rw [e0, List.append_nil]; rfl
 have e3 : (Nf n).tb S 0 [nth raw 17] = if nth raw 17 = 0 then [] else nth raw 17 :: (An (S (nth raw 17).toNat)).flatMap nz := by
  show (if nth raw 17 = 0 then [] else nth raw 17 :: (Dt n).tb S 0 (An (S (nth raw 17).toNat))) ++ [] = _
  rw [e1, List.append_nil]
 unfold Jc F5;rw [e0, e2, e3, List.nil_append]
theorem iE {ps : List Int} {k : Nat} (h : k < ps.length) : (ps.take (k + 1)).flatMap nz = (ps.take k).flatMap nz ++ nz (nth ps k) := by
 rw [List.take_add_one, Am h, List.flatMap_append];simp
theorem aS (ps : List Int) : (ps.flatMap nz).length <= ps.length := by
 induction ps with
 | nil => simp
 | cons p r ih =>
  rw [List.flatMap_cons, List.length_append, List.length_cons];have : (nz p).length <= 1 := by unfold nz; split <;> simp
  omega
def Fe (B : Nat) (o : Option Nat) : Prop := ∀ g, o = some g -> B <= g
theorem Fe.to {B : Nat} {o o' : Option Nat} {s : Nat} (h : Fe B o) (hs : B <= s) (ho : o' = o \/ ∃ g, o' = some g /\ s <= g) : Fe B o' := by
 rintro g rfl;rcases ho with e | ⟨g', e, hg⟩
 ·exact h g e.symm
 ·injection e with e; subst e; omega
theorem Fe.all {B : Nat} {o : Option Nat} (h : Fe B o) : ∀ k ∈ o.toList, B <= k := fun k hk => h k (by simpa using hk)
theorem J0 {w w0 : World} {B : Nat} {v : Value} {o : Option Nat} {xs : List Int} (h : Bc w v o xs) (ho : Fe B o) (hb : Below B w0 w) (hB : B <= w0.heap.size) (hn : xs.length <= 100000) (i : Int) (ty : TypeId) :
  ∃ v' w', (Builtin.append_ #[24, 24] ty #[v, .slice (some ⟨w.heap.size, 0, none⟩) 1 1]).run Tryz.prog (w.alloc (.cells #[.int .i64 i] 3)) = .ok v' w' /\ (∃ o', Bc w' v' o' (xs ++ [i]) /\ Fe B o' /\ (o' = o \/ ∃ g, o' = some g /\ w.heap.size <= g)) /\ Below B w0 w' /\ Fr o.toList w w' := by
 obtain ⟨v', w', o', h1, h2, h3, h4⟩ := Fj (h.fr (A1 w (.cells #[.int .i64 i] 3) []) (by simp)) hn i w.heap.size (A7 w _).1 ty;have hsz : (w.alloc (.cells #[.int .i64 i] 3)).heap.size = w.heap.size + 1 := World.size_alloc _ _;have hbw := hb.size;refine ⟨v', w', h1, ⟨o', h2, ho.to (s := (w.alloc (.cells #[.int .i64 i] 3)).heap.size) (by omega) h4, ?_⟩, ?_, (A1 w _ _).trans h3⟩
 ·rcases h4 with h4 | ⟨g, h4, h5⟩
  ·exact .inl h4
  ·exact .inr ⟨g, h4, by omega⟩
 ·exact (At hb (by omega) _).trans (h3.below (by omega) ho.all)
section
variable {gw N cw : Nat} {S : Nat -> List Int}
theorem Xp {raw : List Int} (hA : Up N S raw) (w : World) (h : Cf w gw N 0 S) :
  Calls Tryz.prog 75 #[Lv gw N cw, .agg (IV .i64 raw)] w fun e w' => ∃ v o, e = .returned (.tuple #[v, .int .i64 0]) /\ Bc w' v o (Jc S raw) /\ Fe w.heap.size o /\ Below w.heap.size w w' := by
 have hB1 : Below w.heap.size w (w.alloc (.cells #[.slice (some ⟨gw, 0, none⟩) N cw, .int .i64 (-1), .int .i64 0] 114)) := (Below.refl _ _).alloc (Nat.le_refl _) _;have hB2 : Below w.heap.size w ((w.alloc (.cells #[.slice (some ⟨gw, 0, none⟩) N cw, .int .i64 (-1), .int .i64 0] 114)).alloc (.cells (IV .i64 raw) 45)) := hB1.alloc hB1.size _;have HS2 := sW (h.same (Ba hB2 h.lt2));have hg1 := (B4 _ (.cells (IV .i64 raw) 45) (A7 w (.cells #[.slice (some ⟨gw, 0, none⟩) N cw, .int .i64 (-1), .int .i64 0] 114)).1).1;have hg2 := (A7 (w.alloc (.cells #[.slice (some ⟨gw, 0, none⟩) N cw, .int .i64 (-1), .int .i64 0] 114)) (.cells (IV .i64 raw) 45)).1;have HB2 := sW hB2;have hz1 : (w.alloc (.cells #[.slice (some ⟨gw, 0, none⟩) N cw, .int .i64 (-1), .int .i64 0] 114)).heap.size = w.heap.size + 1 := World.size_alloc _ _;rw [hz1] at hg2;clear hB1 hB2 h;have hr : raw.length = 18 := hA.r;have HA := sW hA;clear hA;have HTL : Hid (Jc S raw = nz (nth raw 16) ++ if nth raw 17 = 0 then [] else nth raw 17 :: (An (S (nth raw 17).toNat)).flatMap nz) := sW rfl;have HTB : Hid (nth raw 17 ≠ 0 -> Fd S (nth raw 17) = An (S (nth raw 17).toNat)) := sW (fun h => if_neg h);obtain ⟨res, hres⟩ : ∃ r, Jc S raw = r := ⟨_, rfl⟩;rw [hres] at HTL ⊢;clear hres;have hc16 : (IV .i64 raw)[16]? = some (.int .i64 (nth raw 16)) := by rw [Bh, Am (by omega)]; rfl
 have hc17 : (IV .i64 raw)[17]? = some (.int .i64 (nth raw 17)) := by rw [Bh, Am (by omega)]; rfl
 go_enter Tryz.func75, Tryz.ntmps75;go_upto_region 1 with fail;try rw [hz1]
 clear hz1;generalize (w.alloc (.cells #[.slice (some ⟨gw, 0, none⟩) N cw, .int .i64 (-1), .int .i64 0] 114)).alloc (.cells (IV .i64 raw) 45) = w2 at *;have hl1 := Aa hg1;have hl2 := Aa hg2;generalize hgx : w.heap.size + 1 = gx at *;have HGX := sW hgx;clear hgx;go_upto_if 12 with fail;go_cut [6] from 4 (fun v wx => ∃ o, Hid (Bc wx v o (nz (nth raw 16))) /\ Hid (Fe w2.heap.size o) /\ Hid (Below w2.heap.size w2 wx))
 case first =>
  by_cases h16 : nth raw 16 = 0
  ·have d16 : (nth raw 16 != 0) = false := by simpa using h16
   have HN : Hid (Bc w2 (.slice none 0 0) none (nz (nth raw 16))) := sW (by unfold nz; rw [if_pos h16]; exact .inl ⟨rfl, rfl, rfl⟩);clear h16;go_wp2_with fail;go_meet
   case rel => exact ⟨none, HN, sW (fun g hg => by cases hg), sW (Below.refl _ _)⟩
  ·have d16 : (nth raw 16 != 0) = true := by simpa using h16
   obtain ⟨v', w4, hrun, ⟨o', hq, ho, -⟩, hb, -⟩ := J0 (w := w2) (w0 := w2) (B := w2.heap.size) (v := .slice none 0 0) (o := none) (xs := []) (.inl ⟨rfl, rfl, rfl⟩) (fun g hg => by cases hg) (Below.refl _ _) (Nat.le_refl _) (by simp) (nth raw 16) 24;have HN : Hid (Bc w4 v' o' (nz (nth raw 16))) := sW (by unfold nz; rw [if_neg h16]; exact hq);have HO := sW ho;have HB := sW hb;clear h16 hq ho hb;go_wp2_with (at_builtin; refine Ao _ rfl (.tmp 13) (.tmp 16) 24 rfl _ _ rfl rfl _ _ hrun ?_)
   go_wp2_with fail;go_meet
   case rel => exact ⟨o', HN, HO, HB⟩
 case rest =>
  obtain ⟨o, HQ, HO, HB⟩ := hcut;obtain ⟨a6, n6, c6, e6⟩ := HQ.out.sl;subst e6;have hg1c := (hop HB.out hg1).1;have hg2c := (hop HB.out hg2).1;have hg1cl := Aa hg1c;have hg2cl := Aa hg2c;have HEND : Hid (∀ v o W, Bc W v o res -> Fe w2.heap.size o -> Below w2.heap.size w2 W -> ∃ v' o', Ending.returned (.tuple #[v, .int .i64 0]) = .returned (.tuple #[v', .int .i64 0]) /\ Bc W v' o' res /\ Fe w.heap.size o' /\ Below w.heap.size w W) := sW (fun v o W h1 h2 h3 => ⟨v, o, rfl, h1, fun g hg => by have := h2 g hg; omega, HB2.out.trans (h3.mono (by omega))⟩);by_cases h17 : nth raw 17 = 0
  ·have d17 : (nth raw 17 == 0) = true := by simpa using h17
   have HR : Hid (res = nz (nth raw 16)) := sW (by rw [HTL.out, if_pos h17, List.append_nil]);clear h17;go_wp2_with fail;go_ret2;exact HEND.out _ o _ (by rw [HR.out]; exact HQ.out) HO.out HB.out
  ·have d17 : (nth raw 17 == 0) = false := by simpa using h17
   have HR : Hid (res = nz (nth raw 16) ++ (nth raw 17 :: (Fd S (nth raw 17)).flatMap nz)) := sW (by rw [HTL.out, if_neg h17, HTB.out h17]);obtain ⟨v', w4, hrun, ⟨o', hq, ho, -⟩, hb, -⟩ := J0 HQ.out HO.out HB.out (Nat.le_refl _) (by unfold nz; split <;> simp) (nth raw 17) 24;have HQ4 := sW hq;have HO4 := sW ho;have HB4 := sW hb;have hg14 := (hop hb hg1).1;have hg24 := (hop hb hg2).1;have hl14 := Aa hg14;have hl24 := Aa hg24;have HC := sW (F0 (cw := cw) (nth raw 17) HA.out.p17.1 HA.out.p17.2 w4 (HS2.out.same (Ba hb HS2.out.lt2)));have hql := Hc S (nth raw 17);generalize Fd S (nth raw 17) = qs at *;clear h17 hq ho hb HQ HO;go_wp2_with (at_builtin; refine Ao _ rfl (.tmp 22) (.tmp 25) 24 rfl _ _ rfl rfl _ _ hrun ?_)
   go_wp2_with fail;refine HC.out.mono ?_; rintro e w8 ⟨rfl, hb8⟩;have hg9 := (A7 w8 (.cells (IV .i64 qs) 89)).1;have hB9 : Below w4.heap.size w4 (w8.alloc (.cells (IV .i64 qs) 89)) := hb8.alloc hb8.size _;have HB9 := sW (Ad HB4.out hB9 HB4.out.size);have HQ9 := sW (HQ4.out.fr (Ag hB9 []) (by simp));have HG9 : Hid (w4.heap.size <= w8.heap.size) := sW hb8.size;clear hB9 hb8 HC;go_upto_region 8 with fail;generalize w8.alloc (.cells (IV .i64 qs) 89) = w9 at *;generalize w8.heap.size = gt at *;have hl9 := Aa hg9;have HOT : Hid (∀ q, o' = some q -> q < gt) := sW (fun q hq => by have := HQ4.out.lt q hq; have := HG9.out; omega);go_wp2_with fail;go_loopw [6, 9] (fun v kv wr => ∃ (k : Nat) (o2 : Option Nat), kv = .int .i64 k /\ k <= 32 /\ Hid (Bc wr v o2 (nz (nth raw 16) ++ (nth raw 17 :: (qs.take k).flatMap nz))) /\ Hid (Fe w2.heap.size o2) /\ Hid (Below w2.heap.size w2 wr) /\ Hid (hat wr gt = some (.cells (IV .i64 qs) 89)) /\ Hid (∀ q, o2 = some q -> q ≠ gt)) (fun _ kv _ => 32 - (intOf kv).toNat)
   case atStart => exact ⟨0, o', rfl, by omega, by simpa using HQ9, HO4, HB9, sW hg9, sW (fun q hq => by have := HOT.out q hq; omega)⟩
   case round =>
    obtain ⟨k, o2, rfl, hk, HQr, HOr, HBr, HT, HNr⟩ := hrel;have hT := HT.out;have hTl := Aa hT;have hk0 : (0 : Int) <= (k : Int) := Int.natCast_nonneg _;obtain ⟨ar, nr, cr, er⟩ := HQr.out.sl;subst er;by_cases hk32 : k < 32
    ·have hk1 : (k : Int) < 32 := by omega
     have hck : (IV .i64 qs)[k]? = some (.int .i64 (nth qs k)) := by rw [Bh, Am (by omega)]; rfl
     have HSC := sW (iE (ps := qs) (k := k) (by omega))
     have HLN : Hid ((nz (nth raw 16) ++ (nth raw 17 :: (qs.take k).flatMap nz)).length <= 100000) := sW (by
      have := aS (qs.take k);have : (nz (nth raw 16)).length <= 1 := by unfold nz; split <;> simp
      have : (qs.take k).length <= 32 := by simp; omega
      rw [List.length_append, List.length_cons]; omega)
     by_cases hz : nth qs k = 0
     ·have d1 : (nth qs k != 0) = false := by simpa using hz
      have HQN : Hid (Bc wr (.slice ar nr cr) o2 (nz (nth raw 16) ++ (nth raw 17 :: (qs.take (k + 1)).flatMap nz))) := sW (by
       have e : nz (nth qs k) = [] := if_pos hz;rw [HSC.out, e, List.append_nil]; exact HQr.out)
      clear hz;go_wp2_with fail;go_roundw
      case rel => exact ⟨k + 1, o2, by go_num, by omega, HQN, HOr, HBr, HT, HNr⟩
      case measure => (show 32 - (k + 1) < 32 - k); omega
     ·have d1 : (nth qs k != 0) = true := by simpa using hz
      obtain ⟨v', w5, hrun, ⟨o', hq, ho, hon⟩, hb, hfr⟩ := J0 HQr.out HOr.out HBr.out (Nat.le_refl _) HLN.out (nth qs k) 24
      have HQN : Hid (Bc w5 v' o' (nz (nth raw 16) ++ (nth raw 17 :: (qs.take (k + 1)).flatMap nz))) := sW (by
       rw [HSC.out];have e : nz (nth qs k) = [nth qs k] := if_neg hz;rw [e];simpa using hq)
      have HON := sW ho;have HBN := sW hb;have HTN : Hid (hat w5 gt = some (.cells (IV .i64 qs) 89)) := sW ((hfr.block gt hTl (by simpa using fun e => HNr.out gt e rfl)).trans hT);have HNN : Hid (∀ q, o' = some q -> q ≠ gt) := sW (fun q hq => by
       rcases hon with e | ⟨g, e, hg⟩
       ·exact HNr.out q (e.symm.trans hq)
       ·rw [hq] at e;injection e with e
        omega)
      clear hz hq ho hb hfr hon;go_wp2_with (at_builtin; refine Ao _ rfl (.tmp 45) (.tmp 49) 24 rfl _ _ rfl rfl _ _ hrun ?_)
      go_roundw
      case rel => exact ⟨k + 1, o', by go_num, by omega, HQN, HON, HBN, HTN, HNN⟩
      case measure => (show 32 - (k + 1) < 32 - k); omega
    ·obtain rfl : k = 32 := by omega
     have HF := sW (HEND.out (.slice ar nr cr) o2 wr (by rw [HR.out]; have := HQr.out; rw [List.take_of_length_le (by omega)] at this; exact this) HOr.out HBr.out);go_wp2_with fail;go_ret2;exact HF.out
end
theorem Ii (n : Nat) (s : Int -> Bool) : Cs (n + 1) s = Cs n s ++ if s (n : Int) = true then [(n : Int)] else [] := by
 unfold Cs;rw [List.range_succ, List.filter_append, List.map_append];congr 1
 by_cases h : s (n : Int) = true
 ·rw [if_pos h]; simp [h]
 ·rw [if_neg h]; simp [h]
theorem Wy (n : Nat) (s : Int -> Bool) : (Cs n s).length <= n := by
 unfold Cs;simp only [List.length_map];exact Nat.le_trans (List.length_filter_le _ _) (by simp)
end Go.Proofs.YthioepdgnbdohaaGreat
