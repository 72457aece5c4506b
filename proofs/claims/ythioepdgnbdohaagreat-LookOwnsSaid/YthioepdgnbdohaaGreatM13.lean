import Derived.Test.YthioepdgnbdohaaGreatM04
import Derived.Test.YthioepdgnbdohaaGreatM05
import Derived.Test.YthioepdgnbdohaaGreatM07
import Derived.Test.YthioepdgnbdohaaGreatM09
import Derived.Test.YthioepdgnbdohaaGreatM10
import Derived.Test.YthioepdgnbdohaaGreatM11
namespace Go.Proofs.YthioepdgnbdohaaGreat
set_option maxHeartbeats 16000000
set_option maxRecDepth 1000000
set_option linter.unusedSimpArgs false
set_option linter.unusedVariables false
open Go.RowKit
structure Ay where
 (g gi oi N ci gw cw gc cc gt ct gn cn ge ce M : Nat)
 (X Y : Int)
 A : Nat -> List Int
def Ay.bs (E : Ay) : List Nat := [E.g, E.gi, E.gw, E.gc, E.gt, E.gn, E.ge]
structure ROk (E : Ay) : Prop where
 X : E.X = E.N
 N8 : 8 <= E.N
 N : E.N <= 4096
 Y1 : 1 <= E.Y
 YN : E.Y < E.N
 M : (E.M : Int) = E.Y + 1
 nd : E.bs.Nodup
structure RG (E : Ay) (w : World) (o : Option Nat) (l : List Int) (S : Nat -> List Int) (cl tk : Int -> Bool) (I : Nat -> List Int) (en : Nat -> Int) : Prop where
 l : ∃ v, hat w E.g = some (.cells #[.int .i64 E.X, .int .i64 E.Y, .slice (some ⟨E.gi, E.oi, none⟩) E.N E.ci, .slice (some ⟨E.gw, 0, none⟩) E.N E.cw, .slice (some ⟨E.gc, 0, none⟩) E.N E.cc, .slice (some ⟨E.gt, 0, none⟩) E.M E.ct, .slice (some ⟨E.gn, 0, none⟩) E.M E.cn, .slice (some ⟨E.ge, 0, none⟩) E.M E.ce, v] 76) /\ Bc w v o l
 i : Gn w E.gi E.oi E.N E.A
 s : Cf w E.gw E.N 0 S
 c : Ek w E.gc E.N cl
 t : Ek w E.gt E.M tk
 n : Kz w E.gn E.M I
 e : Mv w E.ge E.M en
 no : ∀ q, o = some q -> q ∉ E.bs
theorem Cf.lt2 {w : World} {g N c : Nat} {S : Nat -> List Int} (h : Cf w g N c S) : g < w.heap.size := by
 obtain ⟨cs, h1, -⟩ := h; exact Aa h1
section
variable {E : Ay} {w w' : World} {o : Option Nat} {l : List Int} {S : Nat -> List Int} {cl tk : Int -> Bool} {I : Nat -> List Int} {en : Nat -> Int}
theorem RG.fr {ex : List Nat} (h : RG E w o l S cl tk I en) (hf : Fr ex w w') (hx : ∀ b ∈ E.bs, b ∉ ex) (ho : ∀ q, o = some q -> q ∉ ex) : RG E w' o l S cl tk I en := by
 obtain ⟨v, h1, h2⟩ := h.l;have k : ∀ b ∈ E.bs, b < w.heap.size -> hat w' b = hat w b := fun b hb hl => hf.block b hl (hx b hb)
 refine ⟨⟨v, (k _ (by simp [Ay.bs]) (Aa h1)).trans h1, h2.fr hf ho⟩, h.i.same (k _ (by simp [Ay.bs]) h.i.lt), h.s.same (k _ (by simp [Ay.bs]) h.s.lt2), h.c.same (k _ (by simp [Ay.bs]) h.c.lt), h.t.same (k _ (by simp [Ay.bs]) h.t.lt), h.n.same (k _ (by simp [Ay.bs]) h.n.lt), h.e.same (k _ (by simp [Ay.bs]) h.e.lt), h.no⟩
theorem RG.below (h : RG E w o l S cl tk I en) (hb : Below w.heap.size w w') : RG E w' o l S cl tk I en := h.fr (Ag hb []) (fun _ _ => by simp) (fun _ _ => by simp)
theorem RG.lts (h : RG E w o l S cl tk I en) : ∀ b ∈ E.bs, b < w.heap.size := by
 obtain ⟨v, h1, h2⟩ := h.l;intro b hb;simp only [Ay.bs, List.mem_cons, List.not_mem_nil, or_false] at hb;rcases hb with rfl | rfl | rfl | rfl | rfl | rfl | rfl
 ·exact Aa h1
 ·exact h.i.lt
 ·exact h.s.lt2
 ·exact h.c.lt
 ·exact h.t.lt
 ·exact h.n.lt
 ·exact h.e.lt
theorem RG.lto (h : RG E w o l S cl tk I en) : ∀ q, o = some q -> q < w.heap.size := by
 obtain ⟨v, -, h2⟩ := h.l;exact h2.lt
theorem RG.turn {b : Nat} (h : RG E w o l S cl tk I en) (hE : ROk E) (hf : Fr [b] w w') (hb : b ∈ E.bs) : (∀ q, o = some q -> q ≠ b) /\ ∀ c ∈ E.bs, c ≠ b -> hat w' c = hat w c :=
 ⟨fun q hq e => h.no q hq (by rw [e]; exact hb), fun c hc hn => hf.block c (h.lts c hc) (by simpa using hn)⟩
end
theorem ROk.ne {E : Ay} (h : ROk E) : (E.g ≠ E.gi /\ E.g ≠ E.gw /\ E.g ≠ E.gc /\ E.g ≠ E.gt /\ E.g ≠ E.gn /\ E.g ≠ E.ge) /\ (E.gi ≠ E.gw /\ E.gi ≠ E.gc /\ E.gi ≠ E.gt /\ E.gi ≠ E.gn /\ E.gi ≠ E.ge) /\ (E.gw ≠ E.gc /\ E.gw ≠ E.gt /\ E.gw ≠ E.gn /\ E.gw ≠ E.ge) /\ (E.gc ≠ E.gt /\ E.gc ≠ E.gn /\ E.gc ≠ E.ge) /\ (E.gt ≠ E.gn /\ E.gt ≠ E.ge) /\ E.gn ≠ E.ge := by
 have := h.nd;unfold Ay.bs at this;simp at this;grind
theorem Ek.set {w : World} {g N : Nat} {s : Int -> Bool} (h : Ek w g N s) {p : Nat} (hp : p < N) (b : Bool) : Ek (w.setCell ⟨g, p, none⟩ (.bool b)) g N (fun q => if q = (p : Int) then b else s q) := by
 obtain ⟨cs, h1, h2, h3⟩ := h;refine ⟨cs.setIfInBounds p (.bool b), Ah _ _ _ _ _ _ _ h1, by simpa using h2, fun j hj => ?_⟩;rw [Array.getElem?_setIfInBounds];by_cases hjp : p = j
 ·subst hjp;rw [if_pos rfl, if_pos (by omega)];simp
 ·have : ¬ ((j : Int) = (p : Int)) := by omega
  rw [if_neg hjp, h3 j hj];simp [this]
theorem kA (s : Int -> Bool) (p : Int) : (fun q => if q = p then true else s q) = Bi s p := by
 funext q
 unfold Bi;by_cases h : q = p <;> simp [h]
theorem kL (s : Int -> Bool) (p : Int) : (fun q => if q = p then false else s q) = Pw s p := by
 funext q
 unfold Pw;by_cases h : q = p <;> simp [h]
section
variable {E : Ay} {w : World} {o : Option Nat} {l : List Int} {S : Nat -> List Int} {cl tk : Int -> Bool} {I : Nat -> List Int} {en : Nat -> Int}
theorem RG.claim (hE : ROk E) (h : RG E w o l S cl tk I en) {p : Nat} (hp : p < E.N) (b : Bool) : RG E (w.setCell ⟨E.gc, p, none⟩ (.bool b)) o l S (fun q => if q = (p : Int) then b else cl q) tk I en := by
 obtain ⟨n0, n1, n2, n3, n4, n5⟩ := hE.ne;have hf := Ai w E.gc p (.bool b);obtain ⟨t1, t2⟩ := h.turn hE hf (by simp [Ay.bs]);obtain ⟨v, h1, h2⟩ := h.l;refine ⟨⟨v, (t2 _ (by simp [Ay.bs]) n0.2.2.1).trans h1, h2.fr hf (fun q hq => by simpa using t1 q hq)⟩, h.i.same (t2 _ (by simp [Ay.bs]) n1.2.1), h.s.same (t2 _ (by simp [Ay.bs]) n2.1), h.c.set hp b, h.t.same (t2 _ (by simp [Ay.bs]) n3.1.symm), h.n.same (t2 _ (by simp [Ay.bs]) n3.2.1.symm), h.e.same (t2 _ (by simp [Ay.bs]) n3.2.2.symm), h.no⟩
theorem RG.take (hE : ROk E) (h : RG E w o l S cl tk I en) {p : Nat} (hp : p < E.M) (b : Bool) : RG E (w.setCell ⟨E.gt, p, none⟩ (.bool b)) o l S cl (fun q => if q = (p : Int) then b else tk q) I en := by
 obtain ⟨n0, n1, n2, n3, n4, n5⟩ := hE.ne;have hf := Ai w E.gt p (.bool b);obtain ⟨t1, t2⟩ := h.turn hE hf (by simp [Ay.bs]);obtain ⟨v, h1, h2⟩ := h.l;refine ⟨⟨v, (t2 _ (by simp [Ay.bs]) n0.2.2.2.1).trans h1, h2.fr hf (fun q hq => by simpa using t1 q hq)⟩, h.i.same (t2 _ (by simp [Ay.bs]) n1.2.2.1), h.s.same (t2 _ (by simp [Ay.bs]) n2.2.1), h.c.same (t2 _ (by simp [Ay.bs]) n3.1), h.t.set hp b, h.n.same (t2 _ (by simp [Ay.bs]) n4.1.symm), h.e.same (t2 _ (by simp [Ay.bs]) n4.2.symm), h.no⟩
theorem RG.count (hE : ROk E) (h : RG E w o l S cl tk I en) {p : Nat} (hp : p < E.M) (x : Int) : RG E (w.setCell ⟨E.ge, p, none⟩ (.int .i64 x)) o l S cl tk I (fun j => if p = j then x else en j) := by
 obtain ⟨n0, n1, n2, n3, n4, n5⟩ := hE.ne;have hf := Ai w E.ge p (.int .i64 x);obtain ⟨t1, t2⟩ := h.turn hE hf (by simp [Ay.bs]);obtain ⟨v, h1, h2⟩ := h.l;exact ⟨⟨v, (t2 _ (by simp [Ay.bs]) n0.2.2.2.2.2).trans h1, h2.fr hf (fun q hq => by simpa using t1 q hq)⟩, h.i.same (t2 _ (by simp [Ay.bs]) n1.2.2.2.2), h.s.same (t2 _ (by simp [Ay.bs]) n2.2.2.2), h.c.same (t2 _ (by simp [Ay.bs]) n3.2.2), h.t.same (t2 _ (by simp [Ay.bs]) n4.2), h.n.same (t2 _ (by simp [Ay.bs]) n5), h.e.put hp (fun j => rfl), h.no⟩
theorem RG.store (hE : ROk E) (h : RG E w o l S cl tk I en) {cs : Array Value} (hcs : hat w E.gw = some (.cells cs 33)) {i : Nat} (hi : i < E.N) {s : List Int} (hl : s.length = 128) (hb : A0 s) : RG E (w.setRow E.gw (Ak cs (i * 128) (IV .u8 s))) o l (Bn S i s) cl tk I en := by
 obtain ⟨n0, n1, n2, n3, n4, n5⟩ := hE.ne;have hf := Cl w E.gw (Ak cs (i * 128) (IV .u8 s));obtain ⟨t1, t2⟩ := h.turn hE hf (by simp [Ay.bs]);obtain ⟨v, h1, h2⟩ := h.l;exact ⟨⟨v, (t2 _ (by simp [Ay.bs]) n0.2.1).trans h1, h2.fr hf (fun q hq => by simpa using t1 q hq)⟩, h.i.same (t2 _ (by simp [Ay.bs]) n1.1), h.s.store hcs hi hl hb, h.c.same (t2 _ (by simp [Ay.bs]) n2.1.symm), h.t.same (t2 _ (by simp [Ay.bs]) n2.2.1.symm), h.n.same (t2 _ (by simp [Ay.bs]) n2.2.2.1.symm), h.e.same (t2 _ (by simp [Ay.bs]) n2.2.2.2.symm), h.no⟩
theorem RG.ino (hE : ROk E) (h : RG E w o l S cl tk I en) {cs : Array Value} (hcs : hat w E.gn = some (.cells cs 45)) {i : Nat} (hi : i < E.M) {raw : List Int} (hl : raw.length = 18) : RG E (w.setRow E.gn (Ak cs (i * 18) (IV .i64 raw))) o l S cl tk (fun j => if j = i then raw else I j) en := by
 obtain ⟨n0, n1, n2, n3, n4, n5⟩ := hE.ne;have hf := Cl w E.gn (Ak cs (i * 18) (IV .i64 raw));obtain ⟨t1, t2⟩ := h.turn hE hf (by simp [Ay.bs]);obtain ⟨v, h1, h2⟩ := h.l;refine ⟨⟨v, (t2 _ (by simp [Ay.bs]) n0.2.2.2.2.1).trans h1, h2.fr hf (fun q hq => by simpa using t1 q hq)⟩, h.i.same (t2 _ (by simp [Ay.bs]) n1.2.2.2.1), h.s.same (t2 _ (by simp [Ay.bs]) n2.2.2.1), h.c.same (t2 _ (by simp [Ay.bs]) n3.2.1), h.t.same (t2 _ (by simp [Ay.bs]) n4.1), ?_, h.e.same (t2 _ (by simp [Ay.bs]) n5.symm), h.no⟩;obtain ⟨cs', k1, k2, k3⟩ := h.n;rw [hcs] at k1;obtain rfl : cs = cs' := by
  have := Option.some.inj k1;injection this
 exact Kz.put hcs k2 k3 hi hl (fun j _ => rfl)
end
@[go_sem] theorem oR (raw : Result Value) (w : World) (a b c d e f g h i : Value) (t : TypeId) (fr : Nat × Nat) : El raw 2 0 w (some (.cells #[a, b, c, d, e, f, g, h, i] t fr)) = .ok (.agg #[a, b]) w := by
 rw [Cy (by simp)]; rfl
section
variable {E : Ay} {o : Option Nat} {l : List Int} {tk : Int -> Bool} {I : Nat -> List Int} {en : Nat -> Int}
theorem Jv (hE : ROk E) (p : Int) (st : LS) (w : World) (h : RG E w o l st.S st.cl tk I en) :
  Calls Tryz.prog 65 #[.pointer (some ⟨E.g, 0, none⟩), .int .i64 p] w fun e w' =>
   e = .returned (.bool (As E.X E.Y p st).1) /\ RG E w' o l (As E.X E.Y p st).2.S (As E.X E.Y p st).2.cl tk I en /\ Fr [E.gc] w w' := by
 have HS := sW h;obtain ⟨v, hs, -⟩ := h.l;clear h;have hz := Aa hs;cases hd : isD E.X E.Y p with
 | false =>
  have HA : Hid (As E.X E.Y p st = (false, st)) := sW (by unfold As; rw [if_neg (by rw [hd]; simp)]);go_enter Tryz.func65, Tryz.ntmps65;go_wp2_with fail;refine (Lr E.X E.Y p _).mono ?_; rintro e w1 ⟨rfl, hb⟩;rw [hd];have HF := sW (Ag hb [E.gc]);have HS1 := sW (HS.out.below hb);clear hb;go_wp2_with fail;go_ret;exact ⟨by rw [HA.out]; rfl, by rw [HA.out]; exact HS1.out, HF.out⟩
 | true =>
  have hr : 0 <= p /\ p < E.N := by
   unfold isD at hd;have := of_decide_eq_true hd;have := hE.Y1;have := hE.X;omega
  obtain ⟨pn, rfl⟩ := Int.eq_ofNat_of_zero_le hr.1;have hpN : pn < E.N := by omega
  have hpi : (pn : Int) < (E.N : Int) := hr.2;have hsb := HS.out.c;obtain ⟨cs, hcs, hsz, hall⟩ := hsb;have hcell := hall pn hpN;clear hall hr;cases hv : st.cl pn with
  | true =>
   rw [hv] at hcell;have HA : Hid (As E.X E.Y pn st = (false, st)) := sW (by unfold As; rw [if_neg (by rw [hv]; simp)]);go_enter Tryz.func65, Tryz.ntmps65;go_wp2_with fail;refine (Lr E.X E.Y pn _).mono ?_; rintro e w1 ⟨rfl, hb⟩;rw [hd];have HF := sW (Ag hb [E.gc]);have HS1 := sW (HS.out.below hb);have hs1 := (hop hb hs).1;have hcs1 := (hop hb hcs).1;clear hb;go_wp2_with fail;go_ret;exact ⟨by rw [HA.out]; rfl, by rw [HA.out]; exact HS1.out, HF.out⟩
  | false =>
   rw [hv] at hcell;have HA : Hid (As E.X E.Y pn st = (true, { st with cl := Bi st.cl pn })) := sW (by unfold As; rw [if_pos ⟨hd, hv⟩]);go_enter Tryz.func65, Tryz.ntmps65;go_wp2_with fail;refine (Lr E.X E.Y pn _).mono ?_; rintro e w1 ⟨rfl, hb⟩;rw [hd];have hf1 := Ag hb [];have HS1 := sW (HS.out.below hb);have hs1 := (hop hb hs).1;have hcs1 := (hop hb hcs).1;have HS2 := sW (HS1.out.claim hE hpN true);rw [kA] at HS2;have HF := sW ((hf1.mono (ex' := [E.gc]) (by simp)).trans (Ai w1 E.gc pn (.bool true)));clear hb hf1;go_wp2_with fail;go_ret;exact ⟨by rw [HA.out]; rfl, by rw [HA.out]; exact HS2.out, HF.out⟩
end
section
variable {E : Ay} {o : Option Nat} {l : List Int} {tk : Int -> Bool} {I : Nat -> List Int} {en : Nat -> Int}
theorem R8 (hE : ROk E) (at' : Nat) (ha : at' < E.N) (ps : List Int) {S : Nat -> List Int} {cl : Int -> Bool} (w : World) (h : RG E w o l S cl tk I en) :
  Calls Tryz.prog 67 #[.pointer (some ⟨E.g, 0, none⟩), .int .i64 at', .agg (IV .i64 ps), .bool false] w fun e w' =>
   e = .returned (.bool false) /\ RG E w' o l S (Pw cl at') tk I en /\ Fr [E.gc] w w' := by
 have hB1 : Below w.heap.size w (w.alloc (.cells (IV .i64 ps) 89)) := (Below.refl _ _).alloc (Nat.le_refl _) _;have h1 := h.below hB1;have hi0 : (0 : Int) <= (at' : Int) := Int.natCast_nonneg _;have hi1 : (at' : Int) < (E.N : Int) := by omega
 obtain ⟨cs, hcs, hsz, hall⟩ := h1.c;have hcell := hall at' ha;obtain ⟨v, hs, -⟩ := h1.l;have HS2 := sW (h1.claim hE ha false);rw [kL] at HS2;have HF := sW (((Ag hB1 []).mono (ex' := [E.gc]) (by simp)).trans (Ai (w.alloc (.cells (IV .i64 ps) 89)) E.gc at' (.bool false)));clear hall h hB1 h1;have hz := Aa hs;have hz2 := Aa hcs;go_enter Tryz.func67, Tryz.ntmps67;go_wp2_with fail;go_ret;exact ⟨rfl, HS2.out, HF.out⟩
theorem Pp (hE : ROk E) (at' : Nat) (ha : at' < E.N) (ps : List Int) (hp : ps.length = 32) {S : Nat -> List Int} {cl : Int -> Bool} (w : World) (h : RG E w o l S cl tk I en) :
  Calls Tryz.prog 67 #[.pointer (some ⟨E.g, 0, none⟩), .int .i64 at', .agg (IV .i64 ps), .bool true] w fun e w' =>
   e = .returned (.bool true) /\ RG E w' o l (Bn S at' (Du ps).1) cl tk I en /\ Fr [E.gw] w w' := by
 have hB1 : Below w.heap.size w (w.alloc (.cells (IV .i64 ps) 89)) := (Below.refl _ _).alloc (Nat.le_refl _) _;have h1 := h.below hB1;have hgp := (A7 w (.cells (IV .i64 ps) 89)).1;have ha0 : (0 : Int) <= (at' : Int) := Int.natCast_nonneg _;have ha1 : (at' : Int) < (E.N : Int) := by omega
 obtain ⟨v, hl, -⟩ := h1.l;have HL1 := sW h1;have hN := hE.N;have HF1 := sW (Ag hB1 [E.gw]);have hcl := h1.s;obtain ⟨cs3, hcs3, hs3, hs3b⟩ := hcl
 have hst : ∀ raw w', Cw raw 128 (at' * 128) E.gw (IV .u8 (Du ps).1) w' (some (.cells cs3 33 (0, 0))) = .ok () (w'.setRow E.gw (Ak cs3 (at' * 128) (IV .u8 (Du ps).1))) := fun raw w' =>
  Cb (by omega) (by simp) (by simp)
 clear hs3b h hB1 h1;go_enter Tryz.func67, Tryz.ntmps67;go_upto_region 1 with fail;generalize w.alloc (.cells (IV .i64 ps) 89) = w3 at *;generalize w.heap.size = gp at *;have hgpl := Aa hgp;have hgl0 := Aa hl;have hgw0 := Aa hcs3;go_wp2_with fail;go_region_with ((refine (iW ps hp _).mono ?_; rintro e w5 ⟨rfl, hb5⟩; have hb5 : Below w3.heap.size w3 w5 := ⟨hb5.os, hb5.tape, hb5.output, hb5.size, hb5.block⟩; have fl5 := (hop hb5 hl).1; have fg5 := (hop hb5 hgp).1; have fw5 := (hop hb5 hcs3).1))
 all_goals
  have hf5 : Fr [] w3 w5 := Ag hb5 [];have HS6 := sW ((HL1.out.below hb5).store hE fw5 ha (Lm ps) (M2 ps));have HF6 := sW (HF1.out.trans ((hf5.mono (ex' := [E.gw]) (by simp)).trans (Cl w5 E.gw (Ak cs3 (at' * 128) (IV .u8 (Du ps).1)))));generalize w5.setRow E.gw (Ak cs3 (at' * 128) (IV .u8 (Du ps).1)) = w6 at *;go_wp2_with fail;go_ret;exact ⟨rfl, HS6.out, HF6.out⟩
theorem Uf (hE : ROk E) (at' : Nat) (ha : at' < E.N) (base n : Int) (hb0 : 0 <= base) (hb1 : base <= 2000) (st : LS) (w : World) (h : RG E w o l st.S st.cl tk I en) :
  Calls Tryz.prog 66 #[.pointer (some ⟨E.g, 0, none⟩), .int .i64 at', .int .i64 base, .int .i64 n] w fun e w' =>
   e = .returned (.bool (Cu (Jw E.X E.Y n base) at' st).1) /\ RG E w' o l (Cu (Jw E.X E.Y n base) at' st).2.S (Cu (Jw E.X E.Y n base) at' st).2.cl tk I en /\ Fr [E.gc, E.gw] w w' := by
 obtain ⟨v, hs, -⟩ := h.l;obtain ⟨cs, hcs, hld, hlen, hby⟩ := h.s.load ha;have HS := sW h;have HLT := sW (show (∀ b ∈ E.bs, b < w.heap.size) /\ (∀ q, o = some q -> q < w.heap.size) from ⟨h.lts, h.lto⟩);have ha0 : (0 : Int) <= (at' : Int) := Int.natCast_nonneg _;have ha1 : (at' : Int) < (E.N : Int) := by omega
 have HCALL := sW (fun W => Gj (st.S at') hlen hby W);clear h hby hlen;go_enter Tryz.func66, Tryz.ntmps66;go_wp2_with fail;refine (HCALL.out _).mono ?_; rintro e w1 ⟨rfl, hb⟩;have hpl : (An (st.S at')).length = 32 := by simp
 have HTP : Hid (Cu (Jw E.X E.Y n base) at' st = if (Av (As E.X E.Y) (Cc base) base 1 n 0 (An (st.S at')) st).2.1 = false then (false, { (Av (As E.X E.Y) (Cc base) base 1 n 0 (An (st.S at')) st).2.2 with cl := Pw (Av (As E.X E.Y) (Cc base) base 1 n 0 (An (st.S at')) st).2.2.cl at' })
  else (true, { (Av (As E.X E.Y) (Cc base) base 1 n 0 (An (st.S at')) st).2.2 with S := Bn (Av (As E.X E.Y) (Cc base) base 1 n 0 (An (st.S at')) st).2.2.S at' (Du (Av (As E.X E.Y) (Cc base) base 1 n 0 (An (st.S at')) st).1).1, fm := Bi (Av (As E.X E.Y) (Cc base) base 1 n 0 (An (st.S at')) st).2.2.fm at' })) := sW rfl
 generalize hPS : An (st.S at') = ps at *;have hgt := (A7 w1 (.cells (IV .i64 ps) 89)).1;have hB2 : Below w.heap.size w (w1.alloc (.cells (IV .i64 ps) 89)) := hb.alloc hb.size _;have HSG := sW (HS.out.below hB2);have HF1 := sW (Ag hB2 []);have HGT : Hid ((∀ b ∈ E.bs, b ≠ w1.heap.size) /\ ∀ q, o = some q -> q ≠ w1.heap.size) := sW ⟨fun b hb' e => by have := HLT.out.1 b hb'; have := hb.size; omega, fun q hq e => by have := HLT.out.2 q hq; have := hb.size; omega⟩;have HGN : Hid (w.heap.size <= w1.heap.size) := sW hb.size;clear hb hB2 hcs hld HCALL HLT hs;go_wp2_with fail;generalize w1.alloc (.cells (IV .i64 ps) 89) = w2 at *;generalize w1.heap.size = gt at *
 go_loopw [10, 11] (fun sm kv wr => ∃ (k : Nat) (pre : List Int) (b : Bool) (s : LS), kv = .int .i64 k /\ sm = .bool b /\ k <= 32 /\ Hid (pre.length = k) /\ Hid (RG E wr o l s.S s.cl tk I en) /\ Hid (hat wr gt = some (.cells (IV .i64 (pre ++ ps.drop k)) 89)) /\ Hid (Fr [gt, E.gc] w2 wr) /\
   Hid (Av (As E.X E.Y) (Cc base) base 1 n 0 ps st = (pre ++ (Av (As E.X E.Y) (Cc base) base 1 n k (ps.drop k) s).1, b || (Av (As E.X E.Y) (Cc base) base 1 n k (ps.drop k) s).2.1, (Av (As E.X E.Y) (Cc base) base 1 n k (ps.drop k) s).2.2))) (fun _ v _ => 32 - (intOf v).toNat)
 case atStart => exact ⟨0, [], false, st, rfl, rfl, by omega, sW rfl, HSG, sW (by simpa using hgt), sW (Fr.refl _ _), sW (by simp)⟩
 case round =>
  obtain ⟨k, pre, b, s, rfl, rfl, hk, HL, HG, HT, HF, HE⟩ := hrel;by_cases hk32 : k < 32
  ·obtain ⟨p, hpk⟩ := Dx (l := ps) (k := k) (by omega);have hk0 : (0 : Int) <= (k : Int) := Int.natCast_nonneg _;have hk1 : (k : Int) < 32 := by omega
   have hdr := H9 hpk;have hE1 := HE.out;rw [hdr, Ep] at hE1;have HSET : Hid ((pre ++ ps.drop k).set k 0 = (pre ++ [0]) ++ ps.drop (k + 1)) := sW (by rw [hdr]; exact Nv HL.out);have HKEEP : Hid (pre ++ ps.drop k = (pre ++ [p]) ++ ps.drop (k + 1)) := sW (by rw [hdr]; simp);have hcl : (pre ++ ps.drop k).length = 32 := by rw [List.length_append, HL.out, List.length_drop, hpl]; omega
   have hck : (pre ++ ps.drop k)[k]? = some p := by rw [List.getElem?_append_right (by rw [HL.out]; exact Nat.le_refl _), HL.out, Nat.sub_self, hdr]; rfl
   have hT := HT.out;obtain ⟨cur, hcur⟩ : ∃ cur, pre ++ ps.drop k = cur := ⟨_, rfl⟩;rw [hcur] at hT hcl hck HSET HKEEP;have hnk : nth cur k = p := by unfold nth; rw [hck]; rfl
   have HPL1 : ∀ x : Int, Hid ((pre ++ [x]).length = k + 1) := fun x => sW (by simp [HL.out])
   clear hdr hcur HT HE hpk hck;have hTl := Aa hT;by_cases hp0 : p = 0
   ·rw [if_pos hp0] at hE1;have HE1 := sW hE1;have d1 : (p != 0) = false := by simpa using hp0
    have HT1 : Hid (hat wr gt = some (.cells (IV .i64 ((pre ++ [0]) ++ ps.drop (k + 1))) 89)) := sW (by rw [<- hp0, <- HKEEP.out]; exact hT);clear hE1 hp0;cases b
    all_goals
     go_wp2_with fail;go_roundw
     case rel => exact ⟨k + 1, pre ++ [0], _, s, by go_num, rfl, by omega, HPL1 0, HG, HT1, HF, sW (by rw [HE1.out]; simp)⟩
     case measure => (show 32 - (k + 1) < 32 - k); omega
   ·rw [if_neg hp0] at hE1;have d1 : (p != 0) = true := by simpa using hp0
    have HST : ∀ W, Hid (hat W gt = some (.cells (IV .i64 cur) 89) -> hat (W.setCell ⟨gt, k, none⟩ (.int .i64 0)) gt = some (.cells (IV .i64 ((pre ++ [0]) ++ ps.drop (k + 1))) 89)) := fun W => sW (fun hW => by
     have := Ah W gt k (.int .i64 0) _ _ _ hW;rw [Mu, HSET.out] at this;exact this)
    have HZ0 : Hid (nth ((pre ++ [0]) ++ ps.drop (k + 1)) k = 0 /\ ((pre ++ [0]) ++ ps.drop (k + 1)).length = 32) := sW (by
     rw [<- HSET.out];refine ⟨?_, by simp [hcl]⟩;unfold nth;rw [List.getElem?_set, if_pos rfl, if_pos (by omega)]; rfl)
    have HGS : ∀ W s', Hid (RG E W o l (LS.S s') (LS.cl s') tk I en -> RG E (W.setCell ⟨gt, k, none⟩ (.int .i64 0)) o l (LS.S s') (LS.cl s') tk I en) := fun W s' => sW (fun hW => hW.fr (Ai W gt k _) (fun b hb => by simpa using HGT.out.1 b hb) (fun q hq => by simpa using HGT.out.2 q hq))
    clear HSET;by_cases hn : n <= base + 1 * (k : Int)
    ·rw [if_pos hn] at hE1;have HE1 := sW hE1;have hn2 : n <= base + (k : Int) := by omega
     have HT4 := sW ((HST wr).out hT);have HG4 := sW ((HGS wr s).out HG.out);have HF4 := sW (HF.out.trans ((Ai wr gt k (.int .i64 0)).mono (ex' := [gt, E.gc]) (by simp)));clear hE1 hn HST HGS HKEEP;go_upto_region 8 with fail;generalize wr.setCell ⟨gt, k, none⟩ (.int .i64 0) = w4 at *;have hT4 := HT4.out;have hT4l := Aa hT4;obtain ⟨hz0, hz1⟩ := HZ0.out;obtain ⟨cur2, hc2⟩ : ∃ c, (pre ++ [0]) ++ ps.drop (k + 1) = c := ⟨_, rfl⟩;rw [hc2] at hT4 hz0 hz1;clear hc2;cases b
     all_goals
      go_wp2_with fail;go_roundw
      case rel => exact ⟨k + 1, pre ++ [0], _, s, by go_num, rfl, by omega, HPL1 0, HG4, HT4, HF4, sW (by rw [HE1.out]; simp)⟩
      case measure => (show 32 - (k + 1) < 32 - k); omega
    ·rw [if_neg hn] at hE1;have hn2 : ¬ n <= base + (k : Int) := by omega
     have HC := sW (Jv hE p s wr HG.out);have HE1 := sW hE1;have HTW := sW hT;have HGTC : Hid (gt ≠ E.gc) := sW (fun e => HGT.out.1 E.gc (by simp [Ay.bs]) e.symm);clear hE1 hn;go_wp2_with fail;refine HC.out.mono ?_; rintro e w3 ⟨rfl, hg3, hf3⟩;have hT3 := (hf3.block gt (Aa HTW.out) (by simpa using HGTC.out)).trans HTW.out;have HF3 := sW (HF.out.trans (hf3.mono (ex' := [gt, E.gc]) (by simp)));have hT3l := Aa hT3;clear hf3 HC hT hTl HTW;cases hgd : (As E.X E.Y p s).1 with
     | false =>
      have hE2 := HE1.out;rw [if_pos hgd] at hE2;have HE2 := sW hE2;have HT4 := sW ((HST w3).out hT3);have HG4 := sW ((HGS w3 (As E.X E.Y p s).2).out hg3);have HF4 := sW (HF3.out.trans ((Ai w3 gt k (.int .i64 0)).mono (ex' := [gt, E.gc]) (by simp)));clear hE2 hg3 HST HGS HKEEP HE1;generalize (As E.X E.Y p s).2 = s3 at *;go_upto_region 8 with fail;generalize w3.setCell ⟨gt, k, none⟩ (.int .i64 0) = w4 at *;have hT4 := HT4.out;have hT4l := Aa hT4;obtain ⟨hz0, hz1⟩ := HZ0.out;obtain ⟨cur2, hc2⟩ : ∃ c, (pre ++ [0]) ++ ps.drop (k + 1) = c := ⟨_, rfl⟩;rw [hc2] at hT4 hz0 hz1;clear hc2;cases b
      all_goals
       go_wp2_with fail;go_roundw
       case rel => exact ⟨k + 1, pre ++ [0], _, s3, by go_num, rfl, by omega, HPL1 0, HG4, HT4, HF4, sW (by rw [HE2.out]; simp)⟩
       case measure => (show 32 - (k + 1) < 32 - k); omega
     | true =>
      have hE2 := HE1.out;rw [if_neg (by rw [hgd]; simp), if_neg (by simp [Cc])] at hE2;have HE2 := sW hE2;have HG3 : Hid (RG E w3 o l (Cc base k p (As E.X E.Y p s).2).2.S (Cc base k p (As E.X E.Y p s).2).2.cl tk I en) := sW hg3;have HT3 : Hid (hat w3 gt = some (.cells (IV .i64 ((pre ++ [p]) ++ ps.drop (k + 1))) 89)) := sW (by rw [<- HKEEP.out]; exact hT3);clear hE2 hg3 HST HGS HKEEP HE1 HZ0;generalize (Cc base k p (As E.X E.Y p s).2).2 = s3 at *;cases b
      all_goals
       go_wp2_with fail;go_roundw
       case rel => exact ⟨k + 1, pre ++ [p], true, s3, by go_num, rfl, by omega, HPL1 p, HG3, HT3, HF3, sW (by rw [HE2.out]; simp)⟩
       case measure => (show 32 - (k + 1) < 32 - k); omega
  ·obtain rfl : k = 32 := by omega
   have hE1 := HE.out;have hd : ps.drop 32 = [] := List.drop_of_length_le (by omega);rw [hd] at hE1;change _ = (pre ++ [], b || false, s) at hE1;rw [List.append_nil, Bool.or_false] at hE1;have hT := HT.out;rw [hd, List.append_nil] at hT;have hp32 : pre.length = 32 := HL.out;have hTl := Aa hT;have HFW : Hid (Fr [E.gc, E.gw] w wr) := sW (Fr.mono (Fr.drop_new HF1.out HF.out HGN.out) (by simp));have HTP2 := HTP;rw [hE1] at HTP2;clear hE1 hd HTP HE HT;cases b with
   | false =>
    have HC := sW (R8 hE at' ha pre wr HG.out);go_wp2_with fail;refine HC.out.mono ?_; rintro e w3 ⟨rfl, hg3, hf3⟩;have HG3 := sW hg3;have HF3 := sW (HFW.out.trans (hf3.mono (ex' := [E.gc, E.gw]) (by simp)));clear hg3 hf3 HC;go_wp2_with fail;go_ret;rw [HTP2.out];exact ⟨rfl, HG3.out, HF3.out⟩
   | true =>
    have HC := sW (Pp hE at' ha pre hp32 wr HG.out);go_wp2_with fail;refine HC.out.mono ?_; rintro e w3 ⟨rfl, hg3, hf3⟩;have HG3 := sW hg3;have HF3 := sW (HFW.out.trans (hf3.mono (ex' := [E.gc, E.gw]) (by simp)));clear hg3 hf3 HC;go_wp2_with fail;go_ret;rw [HTP2.out];exact ⟨rfl, HG3.out, HF3.out⟩
end
theorem Ke {fn : Func} {t u v x : Tmp} (h : fn.results = #[.tmp t, .tmp u, .tmp v, .tmp x]) (tmps : Array Value) (P : Program) (w : World) :
  (results fn tmps).run P w = .ok (.tuple #[tmps.getD t undef, tmps.getD u undef, tmps.getD v undef, tmps.getD x undef]) w := by
 simp [results, h]
abbrev Lv (gw N cw : Nat) : Value := .agg #[.slice (some ⟨gw, 0, none⟩) N cw, .int .i64 (-1), .int .i64 0]
def Fd (S : Nat -> List Int) (p : Int) : List Int := if p = 0 then zl 32 else An (S p.toNat)
theorem Hc (S : Nat -> List Int) (p : Int) : (Fd S p).length = 32 := by
 unfold Fd;split <;> simp
theorem Hd (S : Nat -> List Int) (p : Int) (i : Nat) : nth (Fd S p) i = Jp S p i := by
 unfold Fd Jp;split
 ·rw [Lz]
 ·rfl
section
variable {gw N cw : Nat} {S : Nat -> List Int}
theorem dR (n : Nat) (hn : n < N) (w : World) (h : Cf w gw N 0 S) :
  Calls Tryz.prog 112 #[Lv gw N cw, .int .i64 n] w fun e w' => e = .returned (.tuple #[.agg (IV .u8 (S n)), .int .i64 0]) /\ Below w.heap.size w w' := by
 have hB1 : Below w.heap.size w (w.alloc (.cells #[.slice (some ⟨gw, 0, none⟩) N cw, .int .i64 (-1), .int .i64 0] 114)) := (Below.refl _ _).alloc (Nat.le_refl _) _;have hB2 : Below w.heap.size w ((w.alloc (.cells #[.slice (some ⟨gw, 0, none⟩) N cw, .int .i64 (-1), .int .i64 0] 114)).alloc (.cells (IV .u8 (zl 128)) 33)) := hB1.alloc hB1.size _;have h2 := h.same (Ba hB2 h.lt2);have hg1 := (B4 _ (.cells (IV .u8 (zl 128)) 33) (A7 w (.cells #[.slice (some ⟨gw, 0, none⟩) N cw, .int .i64 (-1), .int .i64 0] 114)).1).1;have hg2 := (A7 (w.alloc (.cells #[.slice (some ⟨gw, 0, none⟩) N cw, .int .i64 (-1), .int .i64 0] 114)) (.cells (IV .u8 (zl 128)) 33)).1;obtain ⟨cs, hcs, hld, hlen, hby⟩ := h2.load hn;have HB2 := sW hB2;have hz1 : (w.alloc (.cells #[.slice (some ⟨gw, 0, none⟩) N cw, .int .i64 (-1), .int .i64 0] 114)).heap.size = w.heap.size + 1 := World.size_alloc _ _;rw [hz1] at hg2;have hn0 : (0 : Int) <= (n : Int) := Int.natCast_nonneg _;have hn1 : (n : Int) < (N : Int) := by omega
 have hm1 : ((n : Int) == -1) = false := by simp <;> omega
 have hlt : ¬ (n : Int) < 0 := by omega
 have hge : ¬ (N : Int) <= (n : Int) := by omega
 clear hB1 hB2 h h2 hby;go_enter Tryz.func112, Tryz.ntmps112;go_upto_region 1 with fail;try rw [hz1]
 clear hz1;generalize (w.alloc (.cells #[.slice (some ⟨gw, 0, none⟩) N cw, .int .i64 (-1), .int .i64 0] 114)).alloc (.cells (IV .u8 (zl 128)) 33) = w2 at *;have hl1 := Aa hg1;have hl2 := Aa hg2;have hl3 := Aa hcs;have hst : ∀ raw w', Cw raw 128 0 (w.heap.size + 1) (IV .u8 (S n)) w' (some (.cells (IV .u8 (zl 128)) 33 (0, 0))) = .ok () (w'.setRow (w.heap.size + 1) (IV .u8 (S n))) := fun raw w' => Fc (by simp) (by simpa using hlen) (by simp)
 have HEND : Hid (hat (w2.setRow (w.heap.size + 1) (IV .u8 (S n))) (w.heap.size + 1) = some (.cells (IV .u8 (S n)) 33) /\ Below w.heap.size w (w2.setRow (w.heap.size + 1) (IV .u8 (S n)))) := sW ⟨Aq _ _ _ _ _ _ hg2, Af HB2.out (by omega) _⟩;generalize w.heap.size + 1 = gz at *;go_wp2_with fail;generalize w2.setRow gz (IV .u8 (S n)) = w3 at *;obtain ⟨hz3, hB3⟩ := HEND.out;exact Ax Ch rfl (cs := IV .u8 (S n)) rfl hz3 (by simpa using hlen) rfl ⟨rfl, hB3⟩
theorem F0 (p : Int) (hp0 : 0 <= p) (hp1 : p < N) (w : World) (h : Cf w gw N 0 S) :
  Calls Tryz.prog 96 #[Lv gw N cw, .int .i64 p] w fun e w' => e = .returned (.tuple #[.agg (IV .i64 (Fd S p)), .int .i64 0]) /\ Below w.heap.size w w' := by
 have hB1 : Below w.heap.size w (w.alloc (.cells #[.slice (some ⟨gw, 0, none⟩) N cw, .int .i64 (-1), .int .i64 0] 114)) := (Below.refl _ _).alloc (Nat.le_refl _) _;have hB2 : Below w.heap.size w ((w.alloc (.cells #[.slice (some ⟨gw, 0, none⟩) N cw, .int .i64 (-1), .int .i64 0] 114)).alloc (.cells (IV .i64 (zl 32)) 89)) := hB1.alloc hB1.size _;have HS2 := sW (h.same (Ba hB2 h.lt2));have hg1 := (B4 _ (.cells (IV .i64 (zl 32)) 89) (A7 w (.cells #[.slice (some ⟨gw, 0, none⟩) N cw, .int .i64 (-1), .int .i64 0] 114)).1).1;have hg2 := (A7 (w.alloc (.cells #[.slice (some ⟨gw, 0, none⟩) N cw, .int .i64 (-1), .int .i64 0] 114)) (.cells (IV .i64 (zl 32)) 89)).1;have HB2 := sW hB2;have hz1 : (w.alloc (.cells #[.slice (some ⟨gw, 0, none⟩) N cw, .int .i64 (-1), .int .i64 0] 114)).heap.size = w.heap.size + 1 := World.size_alloc _ _;rw [hz1] at hg2;clear hB1 hB2 h;obtain ⟨ps, hps⟩ : ∃ ps, Fd S p = ps := ⟨_, rfl⟩;have hpl : ps.length = 32 := by rw [<- hps]; exact Hc S p
 have HPS := sW hps;clear hps;go_enter Tryz.func96, Tryz.ntmps96;go_upto_region 1 with fail;try rw [hz1]
 clear hz1;generalize (w.alloc (.cells #[.slice (some ⟨gw, 0, none⟩) N cw, .int .i64 (-1), .int .i64 0] 114)).alloc (.cells (IV .i64 (zl 32)) 89) = w2 at *;have hl1 := Aa hg1;have hl2 := Aa hg2;have HGZ : Hid (w.heap.size <= w.heap.size + 1) := sW (by omega);generalize w.heap.size + 1 = gz at *;by_cases h0 : p = 0
 ·have d0 : (p == 0) = true := by simpa using h0
  have hz : ps = zl 32 := by rw [<- HPS.out]; unfold Fd; rw [if_pos h0]
  subst hz;have hst : ∀ raw w', Cw raw 32 0 gz (IV .i64 (zl 32)) w' (some (.cells (IV .i64 (zl 32)) 89 (0, 0))) = .ok () (w'.setRow gz (IV .i64 (zl 32))) := fun raw w' => Fc (by simp) (by simp) (by simp)
  have HEND : Hid (hat (w2.setRow gz (IV .i64 (zl 32))) gz = some (.cells (IV .i64 (zl 32)) 89) /\ Below w.heap.size w (w2.setRow gz (IV .i64 (zl 32)))) := sW ⟨Aq _ _ _ _ _ _ hg2, Af HB2.out HGZ.out _⟩;clear h0;go_wp2_with fail;generalize w2.setRow gz (IV .i64 (zl 32)) = w3 at *;obtain ⟨hz3, hB3⟩ := HEND.out;exact Ax aX rfl (cs := IV .i64 (zl 32)) rfl hz3 (by simp) rfl ⟨by rw [HPS.out]; rfl, hB3⟩
 ·have d0 : (p == 0) = false := by simpa using h0
  obtain ⟨n, rfl⟩ := Int.eq_ofNat_of_zero_le hp0;have hn : n < N := by omega
  have HC := sW (dR (cw := cw) n hn w2 HS2.out);obtain ⟨-, -, -, hlen, hby⟩ := HS2.out.load hn;have HRP := sW (fun W => Gj (S n) hlen hby W);have hrp : An (S n) = ps := by rw [<- HPS.out]; unfold Fd; rw [if_neg h0, Int.toNat_natCast]
  rw [hrp] at HRP;clear h0 hby hrp;go_wp2_with fail;refine HC.out.mono ?_; rintro e w3 ⟨rfl, hb3⟩;have hg33 := (hop hb3 hg2).1;have hg6 := (A7 w3 (.cells (IV .u8 (S n)) 33)).1;have hB4 : Below w2.heap.size w2 (w3.alloc (.cells (IV .u8 (S n)) 33)) := hb3.alloc hb3.size _;have HB4 := sW (Ad HB2.out hB4 HB2.out.size);have hg4 := (hop hB4 hg2).1;clear hB4 hb3 hg33 HC HS2 HB2 hg1 hl1 hg2 hl2;go_upto_region 4 with fail;generalize w3.alloc (.cells (IV .u8 (S n)) 33) = w4 at *;generalize w3.heap.size = g6 at *;have hl4 := Aa hg4;have hl6 := Aa hg6;go_wp2_with fail;refine (HRP.out _).mono ?_; rintro e w5 ⟨rfl, hb5⟩;have hg5 := (hop hb5 hg4).1;have hl5 := Aa hg5;have hst : ∀ raw w', Cw raw 32 0 gz (IV .i64 ps) w' (some (.cells (IV .i64 (zl 32)) 89 (0, 0))) = .ok () (w'.setRow gz (IV .i64 ps)) := fun raw w' => Fc (by simp) (by simpa using hpl) (by simp)
  have HEND : Hid (hat (w5.setRow gz (IV .i64 ps)) gz = some (.cells (IV .i64 ps) 89) /\ Below w.heap.size w (w5.setRow gz (IV .i64 ps))) := sW ⟨Aq _ _ _ _ _ _ hg5, Af (Ad HB4.out hb5 HB4.out.size) HGZ.out _⟩;clear hb5;go_wp2_with fail;generalize w5.setRow gz (IV .i64 ps) = w6 at *;obtain ⟨hz3, hB3⟩ := HEND.out;exact Ax aX rfl (cs := IV .i64 ps) rfl hz3 (by simpa using hpl) rfl ⟨by rw [HPS.out]; rfl, hB3⟩
theorem jB (k : Nat) (hk : k < 1068) (w : World) :
  Calls Tryz.prog 95 #[.int .i64 k] w fun e w' => e = .returned (.tuple #[.int .i64 (if k < 12 then 0 else if k < 44 then 1 else 2), .int .i64 (if k < 12 then k else if k < 44 then (k - 12 : Nat) else ((k - 44) / 32 : Nat)), .int .i64 (if k < 44 then 0 else ((k - 44) % 32 : Nat)), .int .i64 0]) /\ w' = w := by
 have h0 : (0 : Int) <= (k : Int) := Int.natCast_nonneg _;have h1 : ¬ (k : Int) < 0 := by omega
 have h2 : ¬ (1068 : Int) <= (k : Int) := by omega
 by_cases h12 : k < 12
 ·have hi : (k : Int) < 12 := by omega
  rw [if_pos h12, if_pos h12, if_pos (by omega)];go_enter Tryz.func95, Tryz.ntmps95;go_wp2_with fail;(try simp only [Exit.inBlock, Exit.then])
  refine bodyPost_ret (Ke rfl _ _ _) rfl ?_;exact ⟨rfl, rfl⟩
 ·have hi : ¬ (k : Int) < 12 := by omega
  rw [if_neg h12, if_neg h12];by_cases h44 : k < 44
  ·have hi2 : (k : Int) < 44 := by omega
   rw [if_pos h44, if_pos h44, if_pos h44];have e : (k : Int) - 12 = ((k - 12 : Nat) : Int) := by omega
   go_enter Tryz.func95, Tryz.ntmps95;go_wp2_with fail;(try simp only [Exit.inBlock, Exit.then])
   refine bodyPost_ret (Ke rfl _ _ _) rfl ?_;exact ⟨by rw [<- e]; rfl, rfl⟩
  ·have hi2 : ¬ (k : Int) < 44 := by omega
   rw [if_neg h44, if_neg h44, if_neg h44];obtain ⟨m, rfl⟩ : ∃ m, k = 44 + m := ⟨k - 44, by omega⟩;have e4 : 44 + m - 44 = m := by omega
   rw [e4];go_enter Tryz.func95, Tryz.ntmps95;go_wp2_with fail;(try simp only [Exit.inBlock, Exit.then])
   refine bodyPost_ret (Ke rfl _ _ _) rfl ?_;refine ⟨?_, rfl⟩;simp only [Array.getD_eq_getD_getElem?, List.getElem?_toArray, List.getElem?_cons_succ, List.getElem?_cons_zero, Option.getD_some];have e5 : (44 + (m : Int) - 44) / 32 = ((m / 32 : Nat) : Int) := by omega
   have e6 : (44 + (m : Int) - 44) % 32 = ((m % 32 : Nat) : Int) := by omega
   have e7 : ((m / 32 : Nat) : Int) = (m : Int) / 32 := by omega
   have e8 : ((m % 32 : Nat) : Int) = (m : Int) % 32 := by omega
   rw [e5, e6, e7, e8]
end
section
variable {gw N cw : Nat} {S : Nat -> List Int}
theorem dO {raw : List Int} (hA : Up N S raw) (k : Nat) (hk : k < 1068) (w : World) (h : Cf w gw N 0 S) :
  Calls Tryz.prog 68 #[Lv gw N cw, .agg (IV .i64 raw), .int .i64 k] w fun e w' => e = .returned (.tuple #[.int .i64 (Dw S raw k), .int .i64 0]) /\ Below w.heap.size w w' := by
 have hB1 : Below w.heap.size w (w.alloc (.cells #[.slice (some ⟨gw, 0, none⟩) N cw, .int .i64 (-1), .int .i64 0] 114)) := (Below.refl _ _).alloc (Nat.le_refl _) _;have hB2 : Below w.heap.size w ((w.alloc (.cells #[.slice (some ⟨gw, 0, none⟩) N cw, .int .i64 (-1), .int .i64 0] 114)).alloc (.cells (IV .i64 raw) 45)) := hB1.alloc hB1.size _;have HS2 := sW (h.same (Ba hB2 h.lt2));have hg1 := (B4 _ (.cells (IV .i64 raw) 45) (A7 w (.cells #[.slice (some ⟨gw, 0, none⟩) N cw, .int .i64 (-1), .int .i64 0] 114)).1).1;have hg2 := (A7 (w.alloc (.cells #[.slice (some ⟨gw, 0, none⟩) N cw, .int .i64 (-1), .int .i64 0] 114)) (.cells (IV .i64 raw) 45)).1;have HB2 := sW hB2;have hz1 : (w.alloc (.cells #[.slice (some ⟨gw, 0, none⟩) N cw, .int .i64 (-1), .int .i64 0] 114)).heap.size = w.heap.size + 1 := World.size_alloc _ _;rw [hz1] at hg2;clear hB1 hB2 h;have hr : raw.length = 18 := hA.r;have HA := sW hA;clear hA;obtain ⟨res, hres⟩ : ∃ r, Dw S raw k = r := ⟨_, rfl⟩;rw [hres];have HR := sW hres;clear hres;have HW := sW (fun W => jB k hk W);go_enter Tryz.func68, Tryz.ntmps68;go_upto_region 1 with fail;try rw [hz1]
 clear hz1;generalize (w.alloc (.cells #[.slice (some ⟨gw, 0, none⟩) N cw, .int .i64 (-1), .int .i64 0] 114)).alloc (.cells (IV .i64 raw) 45) = w2 at *;have hl1 := Aa hg1;have hl2 := Aa hg2;generalize w.heap.size + 1 = gx at *;have hk0 : (0 : Int) <= (k : Int) := Int.natCast_nonneg _;by_cases h12 : k < 12
 ·rw [if_pos h12, if_pos h12, if_pos (by omega)] at HW;have hk12 : (k : Int) < 12 := by omega
  have hcb : (IV .i64 raw)[4 + k]? = some (.int .i64 (nth raw (4 + k))) := by rw [Bh, Am (by omega)]; rfl
  have HRR : Hid (nth raw (4 + k) = res) := sW (by rw [<- HR.out]; unfold Dw; rw [if_pos h12]);go_wp2_with fail;refine (HW.out _).mono ?_; rintro e w3 ⟨rfl, rfl⟩;go_wp2_with fail;go_ret2;exact ⟨by rw [<- HRR.out]; rfl, HB2.out⟩
 ·rw [if_neg h12, if_neg h12] at HW;by_cases h44 : k < 44
  ·rw [if_pos h44, if_pos h44, if_pos h44] at HW;obtain ⟨m, hm⟩ : ∃ m, k - 12 = m := ⟨_, rfl⟩;rw [hm] at HW;have hm32 : m < 32 := by omega
   have hmi : (m : Int) < 32 := by omega
   have hm0 : (0 : Int) <= (m : Int) := Int.natCast_nonneg _;have hc16 : (IV .i64 raw)[16]? = some (.int .i64 (nth raw 16)) := by rw [Bh, Am (by omega)]; rfl
   have HC := sW (F0 (cw := cw) (nth raw 16) HA.out.p16.1 HA.out.p16.2 w2 HS2.out);have hpl := Hc S (nth raw 16);have HRR : Hid (nth (Fd S (nth raw 16)) m = res) := sW (by rw [<- HR.out, Hd]; unfold Dw; rw [if_neg h12, if_pos h44, hm]);generalize Fd S (nth raw 16) = ps at *;have hcm : (IV .i64 ps)[m]? = some (.int .i64 (nth ps m)) := by rw [Bh, Am (by omega)]; rfl
   clear hm;go_wp2_with fail;refine (HW.out _).mono ?_; rintro e w3 ⟨rfl, rfl⟩;go_wp2_with fail;refine HC.out.mono ?_; rintro e w4 ⟨rfl, hb4⟩;have hg5 := (A7 w4 (.cells (IV .i64 ps) 89)).1;have hB5 : Below w3.heap.size w3 (w4.alloc (.cells (IV .i64 ps) 89)) := hb4.alloc hb4.size _;have HB5 := sW (Ad HB2.out hB5 HB2.out.size);clear hB5 hb4 HC HW;go_upto_region 8 with fail;generalize w4.alloc (.cells (IV .i64 ps) 89) = w5 at *;generalize w4.heap.size = gt at *;have hl5 := Aa hg5;go_wp2_with fail;go_ret2;exact ⟨by rw [<- HRR.out]; rfl, HB5.out⟩
  ·rw [if_neg h44, if_neg h44, if_neg h44] at HW;obtain ⟨i, hi⟩ : ∃ i, (k - 44) / 32 = i := ⟨_, rfl⟩;obtain ⟨j, hj⟩ : ∃ j, (k - 44) % 32 = j := ⟨_, rfl⟩;rw [hi, hj] at HW;have hi32 : i < 32 := by omega
   have hii : (i : Int) < 32 := by omega
   have hi0 : (0 : Int) <= (i : Int) := Int.natCast_nonneg _;have hj32 : j < 32 := by omega
   have hji : (j : Int) < 32 := by omega
   have hj0 : (0 : Int) <= (j : Int) := Int.natCast_nonneg _;have hc17 : (IV .i64 raw)[17]? = some (.int .i64 (nth raw 17)) := by rw [Bh, Am (by omega)]; rfl
   have HC := sW (F0 (cw := cw) (nth raw 17) HA.out.p17.1 HA.out.p17.2 w2 HS2.out);have hpl := Hc S (nth raw 17)
   have HRR : Hid (nth (Fd S (nth (Fd S (nth raw 17)) i)) j = res) := sW (by
    rw [<- HR.out, Hd];unfold Dw;rw [if_neg h12, if_neg h44, hi, hj, Hd];rfl)
   have HP : Hid (0 <= nth (Fd S (nth raw 17)) i /\ nth (Fd S (nth raw 17)) i < N) := sW (by
    rw [Hd];unfold Jp;split
    ·rename_i h0
     have := HA.out.p17;omega
    ·rename_i h0
     have hm : nth (An (S (nth raw 17).toNat)) i ∈ An (S (nth raw 17).toNat) := List.mem_iff_getElem?.2 ⟨i, Am (by simp; omega)⟩;have := HA.out.p17;exact ⟨(I8 (HS2.out.load (i := (nth raw 17).toNat) (by omega)).choose_spec.2.2.2 _ hm).1, HA.out.d h0 _ hm⟩)
   generalize Fd S (nth raw 17) = ps at *;have hcm : (IV .i64 ps)[i]? = some (.int .i64 (nth ps i)) := by rw [Bh, Am (by omega)]; rfl
   obtain ⟨p, hp⟩ : ∃ p, nth ps i = p := ⟨_, rfl⟩;rw [hp] at HP HRR hcm;have hql := Hc S p;have HC2 := sW (fun W hW => F0 (gw := gw) (N := N) (S := S) (cw := cw) p HP.out.1 HP.out.2 W hW);generalize Fd S p = qs at *;have hcj : (IV .i64 qs)[j]? = some (.int .i64 (nth qs j)) := by rw [Bh, Am (by omega)]; rfl
   clear hi hj;go_wp2_with fail;refine (HW.out _).mono ?_; rintro e w3 ⟨rfl, rfl⟩;go_wp2_with fail;refine HC.out.mono ?_; rintro e w4 ⟨rfl, hb4⟩;have hg5 := (A7 w4 (.cells (IV .i64 ps) 89)).1;have hB5 : Below w3.heap.size w3 (w4.alloc (.cells (IV .i64 ps) 89)) := hb4.alloc hb4.size _;have HB5 := sW (Ad HB2.out hB5 HB2.out.size);have hg1' := (hop hB5 hg1).1;have HS5 := sW (HS2.out.same (Ba hB5 HS2.out.lt2));clear hB5 hb4 HC HW;go_upto_region 10 with fail;generalize w4.alloc (.cells (IV .i64 ps) 89) = w5 at *;generalize w4.heap.size = gt at *;have hl5 := Aa hg5;have hl1' := Aa hg1';go_wp2_with fail;have hN5 := (A7 w5 (.cells (IV .i64 (zl 32)) 89)).1;have hBN : Below w5.heap.size w5 (w5.alloc (.cells (IV .i64 (zl 32)) 89)).drew := Below.drew ((Below.refl _ _).alloc (Nat.le_refl _) _);have HBN := sW hBN;have HSN := sW (HS5.out.same (Ba hBN HS5.out.lt2));have HN5 : Hid (hat (w5.alloc (.cells (IV .i64 (zl 32)) 89)).drew w5.heap.size = some (.cells (IV .i64 (zl 32)) 89)) := sW hN5;clear hBN hN5;have hst : ∀ raw w', Cw raw 32 0 w5.heap.size (IV .i64 qs) w' (some (.cells (IV .i64 (zl 32)) 89 (0, 0))) = .ok () (w'.setRow w5.heap.size (IV .i64 qs)) := fun raw w' => Fc (by simp) (by simpa using hql) (by simp)
   go_region_with (first
    | (refine (HC2.out w5.drew (HS5.out.same (w' := w5.drew) rfl)).mono ?_; rintro e w6 ⟨rfl, hb6⟩; have hB6 : Below w5.heap.size w5 w6 := ⟨hb6.os, hb6.tape, hb6.output, hb6.size, hb6.block⟩)
    | (refine (HC2.out (w5.alloc (.cells (IV .i64 (zl 32)) 89)).drew HSN.out).mono ?_; rintro e w6 ⟨rfl, hb6⟩; have hB6 : Below w5.heap.size w5 w6 := Ad HBN.out hb6 HBN.out.size; have hx6 := (hop hb6 HN5.out).1; have hx6l := Aa hx6))
   all_goals first
    | (have hg7 := (A7 w6 (.cells (IV .i64 qs) 89)).1
       have hB7 : Below w5.heap.size w5 (w6.alloc (.cells (IV .i64 qs) 89)) := hB6.alloc hB6.size _;have HB7 := sW (Ad HB5.out hB7 HB5.out.size);clear hB7 hb6 hB6;go_upto_region 13 with fail;generalize w6.alloc (.cells (IV .i64 qs) 89) = w7 at *;generalize w6.heap.size = gu at *;have hl7 := Aa hg7;go_wp2_with fail;go_ret2;exact ⟨by rw [<- HRR.out]; rfl, HB7.out⟩)
    | (have hg7 := Aq _ _ (IV .i64 qs) _ _ _ hx6
       have HB7 := sW (Af (Ad HB5.out hB6 HB5.out.size) (g := w5.heap.size) HB5.out.size (IV .i64 qs));clear hb6 hB6;go_upto_region 13 with fail;generalize w6.setRow w5.heap.size (IV .i64 qs) = w7 at *;have hl7 := Aa hg7;go_wp2_with fail;go_ret2;exact ⟨by rw [<- HRR.out]; rfl, HB7.out⟩)
end
def Ea (raw pre : List Int) (k : Nat) : List Int := raw.take 4 ++ (pre ++ raw.drop (4 + k))
theorem Nd {raw pre : List Int} {k : Nat} (hr : raw.length = 18) (hp : pre.length = k) (hk : k <= 14) : (Ea raw pre k).length = 18 := by
 unfold Ea;simp [hr, hp];omega
theorem Ut {raw pre : List Int} {k : Nat} (hr : raw.length = 18) (hp : pre.length = k) {j : Nat} (hj : 4 + k <= j) : nth (Ea raw pre k) j = nth raw j := by
 unfold Ea nth;rw [List.getElem?_append_right (by simp; omega), List.getElem?_append_right (by simp [hr]; omega), List.getElem?_drop];congr 2
 simp [hr]; omega
theorem Ts {raw : List Int} {k : Nat} (hr : raw.length = 18) (hk : k < 14) : raw.drop (4 + k) = nth raw (4 + k) :: raw.drop (4 + (k + 1)) := H9 (Am (by omega))
theorem Oa {raw pre : List Int} {k : Nat} (hr : raw.length = 18) (hk : k < 14) : Ea raw pre k = Ea raw (pre ++ [nth raw (4 + k)]) (k + 1) := by
 unfold Ea;rw [Ts hr hk];simp
theorem Qn {raw pre : List Int} {k : Nat} (hr : raw.length = 18) (hp : pre.length = k) (hk : k < 14) : (Ea raw pre k).set (4 + k) 0 = Ea raw (pre ++ [0]) (k + 1) := by
 unfold Ea;rw [Ts hr hk, List.set_append_right _ _ (by simp; omega), List.set_append_right _ _ (by simp [hr]; omega)];have e : 4 + k - (raw.take 4).length - pre.length = 0 := by simp [hr, hp]
 rw [e];simp
theorem bW {raw : List Int} {k : Nat} (hr : raw.length = 18) (hk : k < 12) : ((raw.drop 4).take 12)[k]? = some (nth raw (4 + k)) := by
 rw [List.getElem?_take, if_pos hk, List.getElem?_drop, Am (by omega)]
theorem Xv {σ : Type} (g : Int -> σ -> Bool × σ) (kp : Nat -> Int -> σ -> Bool × σ) (base n p : Int) (s : σ) : Av g kp base 1 n 0 [p] s =
  if p = 0 then ([0], false, s) else if n <= base then ([0], false, s) else if (g p s).1 = false then ([0], false, (g p s).2) else if (kp 0 p (g p s).2).1 = false then ([0], false, (kp 0 p (g p s).2).2) else ([p], true, (kp 0 p (g p s).2).2) := by
 rw [Ep];have e : base + 1 * ((0 : Nat) : Int) = base := by omega
 rw [e];rfl
section
variable {E : Ay} {w w' : World} {o : Option Nat} {l : List Int} {S : Nat -> List Int} {cl tk : Int -> Bool} {I : Nat -> List Int} {en : Nat -> Int}
theorem RG.byte (hE : ROk E) (h : RG E w o l S cl tk I en) {p k : Nat} (hp : p < E.N) (hk : k < 128) : RG E (w.setCell ⟨E.gw, p * 128 + k, none⟩ (.int .u8 0)) o l (Bn S p ((S p).set k 0)) cl tk I en := by
 obtain ⟨n0, n1, n2, n3, n4, n5⟩ := hE.ne;have hf := Ai w E.gw (p * 128 + k) (.int .u8 0);obtain ⟨t1, t2⟩ := h.turn hE hf (by simp [Ay.bs]);obtain ⟨v, h1, h2⟩ := h.l;refine ⟨⟨v, (t2 _ (by simp [Ay.bs]) n0.2.1).trans h1, h2.fr hf (fun q hq => by simpa using t1 q hq)⟩, h.i.same (t2 _ (by simp [Ay.bs]) n1.1), ?_, h.c.same (t2 _ (by simp [Ay.bs]) n2.1.symm), h.t.same (t2 _ (by simp [Ay.bs]) n2.2.1.symm), h.n.same (t2 _ (by simp [Ay.bs]) n2.2.2.1.symm), h.e.same (t2 _ (by simp [Ay.bs]) n2.2.2.2.symm), h.no⟩;obtain ⟨cs, k1, k2, k3⟩ := h.s;refine ⟨cs.setIfInBounds (p * 128 + k) (.int .u8 0), Ah _ _ _ _ _ _ _ k1, by simpa using k2, fun j hj => ?_⟩;obtain ⟨m1, m2, m3⟩ := k3 j hj;by_cases hjp : j = p
 ·subst hjp;rw [Fk];refine ⟨by simpa using m1, fun x hx => ?_, ?_⟩
  ·rcases List.mem_or_eq_of_mem_set hx with hx | hx
   ·exact m2 x hx
   ·subst hx; decide
  ·apply Array.ext_getElem?
   intro i;rw [Array.getElem?_extract, Bh, List.getElem?_set];have m4 := congrArg (fun a : Array Value => a[i]?) m3;simp only [Array.getElem?_extract, Bh] at m4;by_cases hi : i < 128
   ·rw [if_pos (by simp; omega), Array.getElem?_setIfInBounds];rw [if_pos (by omega)] at m4;by_cases hik : k = i
    ·subst hik;rw [if_pos rfl, if_pos (by omega), if_pos rfl, if_pos (by omega)]; rfl
    ·rw [if_neg (by omega), if_neg hik]; exact m4
   ·rw [if_neg (by simp; omega), if_neg (by omega), List.getElem?_eq_none (by omega)]; rfl
 ·rw [C0 _ _ hjp];refine ⟨m1, m2, ?_⟩;rw [<- m3];apply Array.ext_getElem?
  intro i;rw [Array.getElem?_extract, Array.getElem?_extract];by_cases hi : i < 128
  ·rw [if_pos (by simp; omega), if_pos (by omega), Array.getElem?_setIfInBounds, if_neg (by omega)]
  ·rw [if_neg (by simp; omega), if_neg (by omega)]
theorem RG.push (hE : ROk E) (h : RG E w o l S cl tk I en) (hl : l.length <= 100000) (i : Int) (ty : TypeId) {v : Value}
  (hv : hat w E.g = some (.cells #[.int .i64 E.X, .int .i64 E.Y, .slice (some ⟨E.gi, E.oi, none⟩) E.N E.ci, .slice (some ⟨E.gw, 0, none⟩) E.N E.cw, .slice (some ⟨E.gc, 0, none⟩) E.N E.cc, .slice (some ⟨E.gt, 0, none⟩) E.M E.ct, .slice (some ⟨E.gn, 0, none⟩) E.M E.cn, .slice (some ⟨E.ge, 0, none⟩) E.M E.ce, v] 76)) :
  ∃ v' w' o', (∃ a n c, v' = .slice a n c) /\ (Builtin.append_ #[24, 24] ty #[v, .slice (some ⟨w.heap.size, 0, none⟩) 1 1]).run Tryz.prog (w.alloc (.cells #[.int .i64 i] 3)) = .ok v' w' /\
   hat w' E.g = some (.cells #[.int .i64 E.X, .int .i64 E.Y, .slice (some ⟨E.gi, E.oi, none⟩) E.N E.ci, .slice (some ⟨E.gw, 0, none⟩) E.N E.cw, .slice (some ⟨E.gc, 0, none⟩) E.N E.cc, .slice (some ⟨E.gt, 0, none⟩) E.M E.ct, .slice (some ⟨E.gn, 0, none⟩) E.M E.cn, .slice (some ⟨E.ge, 0, none⟩) E.M E.ce, v] 76) /\
   RG E (w'.setCell ⟨E.g, 8, none⟩ v') o' (l ++ [i]) S cl tk I en /\ Fr (E.g :: o.toList) w (w'.setCell ⟨E.g, 8, none⟩ v') /\ (o' = o \/ ∃ g, o' = some g /\ w.heap.size <= g) := by
 obtain ⟨v0, hl0, hq⟩ := h.l;obtain rfl : v0 = v := by
  rw [hv] at hl0;have := Option.some.inj hl0;injection this with h9
  injection h9 with h8
  have h7 := congrArg (fun l : List Value => l[8]?) h8;simp at h7;exact h7.symm
 obtain ⟨v', w', o', h1, h2, h3, h4⟩ := Fj (hq.fr (A1 w (.cells #[.int .i64 i] 3) []) (by simp)) hl i w.heap.size (A7 w _).1 ty;have hno : ∀ b ∈ E.bs, b ∉ o.toList := fun b hb hm => h.no b (by simpa using hm) hb
 have hsz : (w.alloc (.cells #[.int .i64 i] 3)).heap.size = w.heap.size + 1 := World.size_alloc _ _;have hf : Fr o.toList w w' := (A1 w _ _).trans h3;have hg : ∀ b ∈ E.bs, hat w' b = hat w b := fun b hb => hf.block b (h.lts b hb) (hno b hb)
 have h4b : o' = o \/ ∃ g, o' = some g /\ w.heap.size <= g := by
  rcases h4 with h4 | ⟨g, h4, h5⟩
  ·exact .inl h4
  ·exact .inr ⟨g, h4, by omega⟩
 have hno' : ∀ q, o' = some q -> q ∉ E.bs := by
  intro q hq' hm;rcases h4b with e | ⟨g, e, hg'⟩
  ·exact h.no q (e.symm.trans hq') hm
  ·rw [hq'] at e;injection e with e
   have := h.lts q hm;omega
 have hgb : E.g ∈ E.bs := by simp [Ay.bs]
 have hv' : hat w' E.g = _ := (hg _ hgb).trans hl0;obtain ⟨n0, n1, n2, n3, n4, n5⟩ := hE.ne;have hc : ∀ b, b ∈ E.bs -> b ≠ E.g -> hat (w'.setCell ⟨E.g, 8, none⟩ v') b = hat w b := fun b hb hn => (E5 w' ⟨E.g, 8, none⟩ v' b hn).trans (hg b hb)
 refine ⟨v', w', o', h2.sl, h1, hv', ⟨⟨v', ?_, h2.fr (Ai w' E.g 8 v') (fun q hq' hm => by simp at hm; subst hm; exact hno' _ hq' hgb)⟩, h.i.same (hc _ (by simp [Ay.bs]) n0.1.symm), h.s.same (hc _ (by simp [Ay.bs]) n0.2.1.symm), h.c.same (hc _ (by simp [Ay.bs]) n0.2.2.1.symm), h.t.same (hc _ (by simp [Ay.bs]) n0.2.2.2.1.symm), h.n.same (hc _ (by simp [Ay.bs]) n0.2.2.2.2.1.symm), h.e.same (hc _ (by simp [Ay.bs]) n0.2.2.2.2.2.symm), hno'⟩, (hf.mono (by simp +contextual)).trans ((Ai w' E.g 8 v').mono (by simp)), h4b⟩;exact Ah _ _ 8 v' _ _ _ hv'
end
def O6 (s : List Int) (a k : Nat) : List Int := s.take a ++ (zl (k - a) ++ s.drop k)
theorem eQ {s : List Int} {a : Nat} (h : a <= s.length) : O6 s a a = s := by
 unfold O6;rw [Nat.sub_self];exact List.take_append_drop a s
theorem jQ {s : List Int} {a : Nat} (h : s.length = 128) : O6 s a 128 = Df s a := by
 unfold O6 Df;rw [List.drop_of_length_le (by omega), List.append_nil]
theorem Ya {s : List Int} {a k : Nat} (h : s.length = 128) (ha : a <= k) (hk : k <= 128) (j : Nat) : (O6 s a k)[j]? = if a <= j /\ j < k then some 0 else s[j]? := by
 unfold O6 zl;have e1 : (s.take a).length = a := by simp [h]; omega
 have e2 : (List.replicate (k - a) (0 : Int)).length = k - a := by simp
 by_cases hja : j < a
 ·rw [List.getElem?_append_left (by omega), List.getElem?_take, if_pos hja, if_neg (by omega)]
 ·rw [List.getElem?_append_right (by omega), e1];by_cases hjk : j < k
  ·rw [List.getElem?_append_left (by omega), List.getElem?_replicate, if_pos (by omega), if_pos (by omega)]
  ·rw [List.getElem?_append_right (by omega), e2, List.getElem?_drop, if_neg (by omega)];congr 1
   omega
theorem eP {s : List Int} {a k : Nat} (h : s.length = 128) (ha : a <= k) (hk : k < 128) : (O6 s a k).set k 0 = O6 s a (k + 1) := by
 have hlen : k < (O6 s a k).length := by unfold O6 zl; simp [h]; omega
 apply List.ext_getElem?
 intro j;rw [List.getElem?_set, Ya (k := k) h ha (by omega), Ya (k := k + 1) h (by omega) (by omega)];by_cases hj : k = j
 ·subst hj;rw [if_pos rfl, if_pos hlen, if_pos (by omega)]
 ·rw [if_neg hj];by_cases hc : a <= j /\ j < k
  ·rw [if_pos hc, if_pos (by omega)]
  ·rw [if_neg hc, if_neg (by omega)]
def NmR (w : World) (base : Nat) (v : Value) (ns : List ByteArray) : Prop := w.ownsRow base 9 1 v ns.length (ns.map Value.string)
theorem NmR.below {w w' : World} {base : Nat} {v : Value} {ns : List ByteArray} (h : NmR w base v ns) (hb : Below w.heap.size w w') : NmR w' base v ns := Jh h hb
theorem NmR.sl {w : World} {base : Nat} {v : Value} {ns : List ByteArray} (h : NmR w base v ns) : ∃ a c, v = .slice a ns.length c := by
 obtain ⟨-, ⟨rfl, hn⟩ | ⟨g, cap, cur, h1, -⟩⟩ := h
 ·exact ⟨none, 0, by rw [hn]⟩
 ·exact ⟨_, _, h1⟩
theorem NmR.at {w : World} {base : Nat} {v : Value} {ns : List ByteArray} (h : NmR w base v ns) (hl : ns ≠ []) : ∃ g c cs, v = .slice (some ⟨g, 0, none⟩) ns.length c /\ hat w g = some (.cells cs 9) /\ ∀ (j : Nat) (s : ByteArray), ns[j]? = some s -> cs[j]? = some (.string s) := by
 obtain ⟨-, ⟨rfl, hn⟩ | ⟨g, cap, cur, h1, h2, h3, h4, h5, h6, h7⟩⟩ := h
 ·exact absurd (List.length_eq_zero_iff.1 hn) hl
 ·refine ⟨g, cap, cur, h1, h3, fun j s hj => ?_⟩;have hj2 : (ns.map Value.string)[j]? = some (.string s) := by rw [List.getElem?_map, hj]; rfl
  rw [<- h7, List.getElem?_take] at hj2;split at hj2
  ·simpa using hj2
  ·cases hj2
theorem Of {w : World} {g M : Nat} {I : Nat -> List Int} (h : Kz w g M I) {cs : Array Value} (hc : hat w g = some (.cells cs 45)) {i : Nat} (hi : i < M) (k : Nat) (hk : k < 18) : cs[i * 18 + k]? = some (.int .i64 (nth (I i) k)) := by
 obtain ⟨cs', h1, h2, h3⟩ := h;rw [hc] at h1;obtain rfl : cs = cs' := by
  have := Option.some.inj h1;injection this
 obtain ⟨h4, h5⟩ := h3 i hi;have := congrArg (fun a : Array Value => a[k]?) h5;simp only [Array.getElem?_extract, Bh, Am (l := I i) (i := k) (by omega)] at this;rw [if_pos (by omega)] at this;exact this
theorem oC : K9 Tryz.prog 114 3 := Sa Tryz.underlying114 rfl (by kernel_rfl)
section
variable {E : Ay} {o : Option Nat} {l : List Int} {tk : Int -> Bool} {I : Nat -> List Int} {en : Nat -> Int} {S : Nat -> List Int} {cl : Int -> Bool}
theorem Ja (w : World) (h : RG E w o l S cl tk I en) :
  Calls Tryz.prog 69 #[.pointer (some ⟨E.g, 0, none⟩)] w fun e w' => e = .returned (Lv E.gw E.N E.cw) /\ Below w.heap.size w w' := by
 obtain ⟨v, hl, -⟩ := h.l;have hll := Aa hl;have hB1 : Below w.heap.size w (w.alloc (.cells #[.slice none 0 0, .int .i64 0, .int .i64 0] 114)) := (Below.refl _ _).alloc (Nat.le_refl _) _;have hg1 := (A7 w (.cells #[.slice none 0 0, .int .i64 0, .int .i64 0] 114)).1;have hl1 := (hop hB1 hl).1;have HB1 := sW hB1;clear h hB1;go_enter Tryz.func69, Tryz.ntmps69;go_upto_region 1 with fail;generalize w.alloc (.cells #[.slice none 0 0, .int .i64 0, .int .i64 0] 114) = w1 at *;have hll1 := Aa hl1;have hlg1 := Aa hg1;go_wp2_with fail;have h3 := Ah _ _ 2 (.int .i64 0) _ _ _ (Ah _ _ 1 (.int .i64 (-1)) _ _ _ (Ah _ _ 0 (.slice (some ⟨E.gw, 0, none⟩) E.N E.cw) _ _ _ hg1));have hf : Fr [w.heap.size] w1 (((w1.setCell ⟨w.heap.size, 0, none⟩ (.slice (some ⟨E.gw, 0, none⟩) E.N E.cw)).setCell ⟨w.heap.size, 1, none⟩ (.int .i64 (-1))).setCell ⟨w.heap.size, 2, none⟩ (.int .i64 0)) := ((Ai _ _ _ _).trans (Ai _ _ _ _)).trans (Ai _ _ _ _);exact Pn oC rfl rfl h3 rfl rfl ⟨rfl, HB1.out.trans (hf.below HB1.out.size (by simp))⟩
theorem M6 (hE : ROk E) (i : Nat) (h1 : 1 <= i) (hY : (i : Int) <= E.Y) (w : World) (h : RG E w o l S cl tk I en) :
  Calls Tryz.prog 31 #[.pointer (some ⟨E.g, 0, none⟩), .int .i64 i] w fun e w' => e = .returned (.tuple #[.agg (IV .i64 (Al (E.A i)).1), .bool (Cj (E.A i))]) /\ Below w.heap.size w w' := by
 have hi : i < E.N := by have := hE.YN; omega
 have hS := h.i;obtain ⟨v, hl, -⟩ := h.l;obtain ⟨cs, t, fr, hcs, hld⟩ := hS.load hi;obtain ⟨hlen, hby⟩ := hS.len hi;have hcall := fun w => Zo (E.A i) hlen hby w
 have hrl := Br (E.A i);unfold Cj;generalize (Al (E.A i)).1 = r at *;generalize (Al (E.A i)).2 = c at *;have HCALL := sW hcall;clear hcall;have hgl := Aa hl;have hgi := Aa hcs;have d1 : decide ((i : Int) < 1) = false := decide_eq_false (by omega);have d2 : decide (E.Y < (i : Int)) = false := decide_eq_false (by omega);have hiN : (i : Int) < (E.N : Int) := by omega
 have hi0 : (0 : Int) <= (i : Int) := Int.natCast_nonneg _;clear hS hlen hby h;go_enter Tryz.func31, Tryz.ntmps31;go_wp2_with fail;refine (HCALL.out _).mono ?_; rintro e w1 ⟨rfl, hb⟩;have hsz := hb.size;have hres : hat w1 w.heap.size = some (.cells (IV .i64 (zl 18)) 45) := (Ba hb (A7 w _).2).trans (A7 w _).1;have hlt : w.heap.size < w1.heap.size := Aa hres;have hb0 : Below w.heap.size w w1 := ((Below.refl w.heap.size w).alloc (Nat.le_refl _) _).trans (hb.mono (by simp));have HB := sW hb0;clear hb hsz hb0;cases dc : (c == 0)
 ·go_wp2_with fail;go_region
  go_wp2_with fail;refine Ax Mp rfl (cs := IV .i64 r) rfl (B4 _ _ (D1 hres _).1).1 (by simp [hrl]) rfl ⟨?_, Ds (At (Af HB.out (Nat.le_refl _) _) (by simp; omega) _)⟩;have hc0 : ¬ c = 0 := by simpa using dc
  simp [hc0]
 ·go_wp2_with fail;go_region
  go_wp2_with fail;refine Ax Mp rfl (cs := IV .i64 r) rfl (B4 _ _ (D1 hres _).1).1 (by simp [hrl]) rfl ⟨?_, Ds (At (Af HB.out (Nat.le_refl _) _) (by simp; omega) _)⟩;have hc0 : c = 0 := by simpa using dc
  by_cases h0 : nth r 0 = 0 <;> simp [hc0, h0]
open Classical in
noncomputable def bZ (E : Ay) (tk : Int -> Bool) (I : Nat -> List Int) (en : Nat -> Int) (ino : Nat) (nm : ByteArray) (ns : List ByteArray) : Bool :=
 decide ((ino : Int) <= E.Y) && decide (ino ≠ 1) && decide (nm ∉ ns) && if tk ino = true then decide (nth (I ino) 0 = 1) && decide (en ino < 100) else Cj (E.A ino)
open Classical in
theorem Vh (hE : ROk E) (ino : Nat) (h1 : 1 <= ino) (nm : ByteArray) (ns : List ByteArray) (hns : ns.length <= 100000) {base : Nat} {vn : Value} (w : World) (h : RG E w o l S cl tk I en) (hv : NmR w base vn ns) :
  Calls Tryz.prog 72 #[.pointer (some ⟨E.g, 0, none⟩), .agg #[.int .i64 ino, .string nm], vn] w fun e w' => e = .returned (.bool (bZ E tk I en ino nm ns)) /\ Below w.heap.size w w' := by
 obtain ⟨a, c, rfl⟩ := hv.sl;have hB1 : Below w.heap.size w (w.alloc (.cells #[.int .i64 ino, .string nm] 93)) := (Below.refl _ _).alloc (Nat.le_refl _) _;have hg1 := (A7 w (.cells #[.int .i64 ino, .string nm] 93)).1;have HB1 := sW hB1;have HG1 := sW (h.below hB1);have HV1 := sW (hv.below hB1);have HRES : Hid (bZ E tk I en ino nm ns = (decide ((ino : Int) <= E.Y) && decide (ino ≠ 1) && decide (nm ∉ ns) && if tk ino = true then decide (nth (I ino) 0 = 1) && decide (en ino < 100) else Cj (E.A ino))) := sW rfl;obtain ⟨res, hres⟩ : ∃ r, bZ E tk I en ino nm ns = r := ⟨_, rfl⟩;rw [hres] at HRES ⊢;clear hres h hv hB1;obtain ⟨v, hl1, -⟩ := HG1.out.l;go_enter Tryz.func72, Tryz.ntmps72;go_upto_region 1 with fail;generalize w.alloc (.cells #[.int .i64 ino, .string nm] 93) = w1 at *;have hi0 : (0 : Int) <= (ino : Int) := Int.natCast_nonneg _;by_cases hY : (ino : Int) <= E.Y
 ·have d1 : decide (E.Y < (ino : Int)) = false := decide_eq_false (by omega);by_cases hr : ino = 1
  ·have d2 : ((ino : Int) == 1) = true := by simp; omega
   have HR : Hid (res = false) := sW (by rw [HRES.out, decide_eq_false (p := ino ≠ 1) (by omega)]; simp);refine A5 (by kernel_rfl) 13 (by decide) rfl (fun i => match i with | 0 => (.pointer (some ⟨w.heap.size, 0, none⟩)) | 1 => (.int .i64 (ino : Int)) | 2 => (.pointer (some ⟨E.g, 0, none⟩)) | 3 => (.pointer (some ⟨E.g, 0, none⟩)) | 4 => (.pointer (some ⟨E.g, 0, none⟩)) | 5 => (.pointer (some ⟨E.g, 1, none⟩)) | 6 => (.int .i64 E.Y) | 7 => (.bool false) | 8 => (.bool false) | 9 => (.pointer (some ⟨w.heap.size, 0, none⟩)) | 10 => (.int .i64 (ino : Int)) | 11 => (.bool true) | _ => (.bool true)) ?_ ?_
   ·intro i' o ho0 ho a' w' hB hS hF;have hi' : i' = 0 \/ i' = 1 \/ i' = 2 \/ i' = 3 \/ i' = 4 \/ i' = 5 \/ i' = 6 \/ i' = 7 \/ i' = 8 \/ i' = 9 \/ i' = 10 \/ i' = 11 \/ i' = 12 := by omega
    have hg1 := (hop hB hg1).1;have hl1 := (hop hB hl1).1;rcases hi' with rfl | rfl | rfl | rfl | rfl | rfl | rfl | rfl | rfl | rfl | rfl | rfl | rfl
    all_goals (have ho' := Option.some.inj ho; subst ho')
    ·have q4 : a'.tmps[4]?.getD undef = (.pointer (some ⟨w.heap.size, 0, none⟩)) := gtx ((hS 4 (by decide)).trans rfl);refine Ab rfl (Ac rfl) ?_ ⟨rfl, hB⟩;simp [go_sem, q4]
    ·have q10 := gtx (hF 0 (by decide) _ 10 rfl rfl);refine Ab rfl (Ac rfl) ?_ ⟨rfl, hB⟩;simp [go_sem, q10, hg1]
    ·have q0 : a'.tmps[0]?.getD undef = (.pointer (some ⟨E.g, 0, none⟩)) := gtx ((hS 0 (by decide)).trans rfl);refine Ab rfl (Ac rfl) ?_ ⟨rfl, hB⟩;simp [go_sem, q0]
    ·have q12 := gtx (hF 2 (by decide) _ 12 rfl rfl);refine Ab rfl (Ac rfl) ?_ ⟨rfl, hB⟩;simp [go_sem, q12]
    ·have q13 := gtx (hF 3 (by decide) _ 13 rfl rfl);refine Ab rfl (Ac rfl) ?_ ⟨rfl, hB⟩;simp [go_sem, q13]
    ·have q14 := gtx (hF 4 (by decide) _ 14 rfl rfl);refine Ab rfl (Ac rfl) ?_ ⟨rfl, hB⟩;simp [go_sem, q14]
    ·have q15 := gtx (hF 5 (by decide) _ 15 rfl rfl);refine Ab rfl (Ac rfl) ?_ ⟨rfl, hB⟩;simp [go_sem, q15, hl1]
    ·have q11 := gtx (hF 1 (by decide) _ 11 rfl rfl);have q16 := gtx (hF 6 (by decide) _ 16 rfl rfl);refine Ab rfl (Ac rfl) ?_ ⟨rfl, hB⟩;simp [go_sem, q11, q16, d1]
    ·have q17 := gtx (hF 7 (by decide) _ 17 rfl rfl);refine Ab rfl (Ac rfl) ?_ ⟨rfl, hB⟩;simp [go_sem, q17]
    ·have q4 : a'.tmps[4]?.getD undef = (.pointer (some ⟨w.heap.size, 0, none⟩)) := gtx ((hS 4 (by decide)).trans rfl);refine Ab rfl (Au rfl rfl rfl (hF 8 (by decide) _ 18 rfl rfl)) ?_ ⟨rfl, hB⟩;simp [go_sem, q4]
    ·have q19 := gtx (hF 9 (by decide) _ 19 rfl rfl);refine Ab rfl (Au rfl rfl rfl (hF 8 (by decide) _ 18 rfl rfl)) ?_ ⟨rfl, hB⟩;simp [go_sem, q19, hg1]
    ·have q20 := gtx (hF 10 (by decide) _ 20 rfl rfl);refine Ab rfl (Au rfl rfl rfl (hF 8 (by decide) _ 18 rfl rfl)) ?_ ⟨rfl, hB⟩;simp [go_sem, q20, d2]
    ·have q18 := gtx (hF 8 (by decide) _ 18 rfl rfl);have q21 := gtx (hF 11 (by decide) _ 21 rfl rfl);refine Ab rfl (Ac rfl) ?_ ⟨rfl, hB⟩;simp [go_sem, q18, q21]
   intro w2 hB2;simp only [Bg, List.take, List.drop, List.take_succ_cons, List.drop_succ_cons, Act.put, List.setIfInBounds_toArray, List.set_cons_zero, List.set_cons_succ];go_wp2_with fail;go_ret;exact ⟨by rw [HR.out]; rfl, Ad HB1.out hB2 (by have := HB1.out.size; omega)⟩
  ·have d2 : ((ino : Int) == 1) = false := by simp; omega
   refine A5 (by kernel_rfl) 13 (by decide) rfl (fun i => match i with | 0 => (.pointer (some ⟨w.heap.size, 0, none⟩)) | 1 => (.int .i64 (ino : Int)) | 2 => (.pointer (some ⟨E.g, 0, none⟩)) | 3 => (.pointer (some ⟨E.g, 0, none⟩)) | 4 => (.pointer (some ⟨E.g, 0, none⟩)) | 5 => (.pointer (some ⟨E.g, 1, none⟩)) | 6 => (.int .i64 E.Y) | 7 => (.bool false) | 8 => (.bool false) | 9 => (.pointer (some ⟨w.heap.size, 0, none⟩)) | 10 => (.int .i64 (ino : Int)) | 11 => (.bool false) | _ => (.bool false)) ?_ ?_
   ·intro i' o ho0 ho a' w' hB hS hF;have hi' : i' = 0 \/ i' = 1 \/ i' = 2 \/ i' = 3 \/ i' = 4 \/ i' = 5 \/ i' = 6 \/ i' = 7 \/ i' = 8 \/ i' = 9 \/ i' = 10 \/ i' = 11 \/ i' = 12 := by omega
    have hg1 := (hop hB hg1).1;have hl1 := (hop hB hl1).1;rcases hi' with rfl | rfl | rfl | rfl | rfl | rfl | rfl | rfl | rfl | rfl | rfl | rfl | rfl
    all_goals (have ho' := Option.some.inj ho; subst ho')
    ·have q4 : a'.tmps[4]?.getD undef = (.pointer (some ⟨w.heap.size, 0, none⟩)) := gtx ((hS 4 (by decide)).trans rfl);refine Ab rfl (Ac rfl) ?_ ⟨rfl, hB⟩;simp [go_sem, q4]
    ·have q10 := gtx (hF 0 (by decide) _ 10 rfl rfl);refine Ab rfl (Ac rfl) ?_ ⟨rfl, hB⟩;simp [go_sem, q10, hg1]
    ·have q0 : a'.tmps[0]?.getD undef = (.pointer (some ⟨E.g, 0, none⟩)) := gtx ((hS 0 (by decide)).trans rfl);refine Ab rfl (Ac rfl) ?_ ⟨rfl, hB⟩;simp [go_sem, q0]
    ·have q12 := gtx (hF 2 (by decide) _ 12 rfl rfl);refine Ab rfl (Ac rfl) ?_ ⟨rfl, hB⟩;simp [go_sem, q12]
    ·have q13 := gtx (hF 3 (by decide) _ 13 rfl rfl);refine Ab rfl (Ac rfl) ?_ ⟨rfl, hB⟩;simp [go_sem, q13]
    ·have q14 := gtx (hF 4 (by decide) _ 14 rfl rfl);refine Ab rfl (Ac rfl) ?_ ⟨rfl, hB⟩;simp [go_sem, q14]
    ·have q15 := gtx (hF 5 (by decide) _ 15 rfl rfl);refine Ab rfl (Ac rfl) ?_ ⟨rfl, hB⟩;simp [go_sem, q15, hl1]
    ·have q11 := gtx (hF 1 (by decide) _ 11 rfl rfl);have q16 := gtx (hF 6 (by decide) _ 16 rfl rfl);refine Ab rfl (Ac rfl) ?_ ⟨rfl, hB⟩;simp [go_sem, q11, q16, d1]
    ·have q17 := gtx (hF 7 (by decide) _ 17 rfl rfl);refine Ab rfl (Ac rfl) ?_ ⟨rfl, hB⟩;simp [go_sem, q17]
    ·have q4 : a'.tmps[4]?.getD undef = (.pointer (some ⟨w.heap.size, 0, none⟩)) := gtx ((hS 4 (by decide)).trans rfl);refine Ab rfl (Au rfl rfl rfl (hF 8 (by decide) _ 18 rfl rfl)) ?_ ⟨rfl, hB⟩;simp [go_sem, q4]
    ·have q19 := gtx (hF 9 (by decide) _ 19 rfl rfl);refine Ab rfl (Au rfl rfl rfl (hF 8 (by decide) _ 18 rfl rfl)) ?_ ⟨rfl, hB⟩;simp [go_sem, q19, hg1]
    ·have q20 := gtx (hF 10 (by decide) _ 20 rfl rfl);refine Ab rfl (Au rfl rfl rfl (hF 8 (by decide) _ 18 rfl rfl)) ?_ ⟨rfl, hB⟩;simp [go_sem, q20, d2]
    ·have q18 := gtx (hF 8 (by decide) _ 18 rfl rfl);have q21 := gtx (hF 11 (by decide) _ 21 rfl rfl);refine Ab rfl (Ac rfl) ?_ ⟨rfl, hB⟩;simp [go_sem, q18, q21]
   intro w2 hB2;simp only [Bg, List.take, List.drop, List.take_succ_cons, List.drop_succ_cons, Act.put, List.setIfInBounds_toArray, List.set_cons_zero, List.set_cons_succ];have HB2 := sW hB2;have hl2 := (hop hB2 hl1).1;have hg2 := (hop hB2 hg1).1;have HG2 := sW (HG1.out.below hB2);have HV2 := sW (HV1.out.below hB2);clear hB2 HG1 HV1 hl1 hg1;go_wp2_with fail;go_loopw [7] (fun kv wr => ∃ j : Nat, kv = .int .i64 j /\ j <= ns.length /\ Hid (∀ j' s, j' < j -> ns[j']? = some s -> s ≠ nm) /\ Hid (Below w2.heap.size w2 wr)) (fun kv _ => ns.length - (intOf kv).toNat)
   case atStart => exact ⟨0, rfl, by omega, sW (fun j' s h => by omega), sW (Below.refl _ _)⟩
   case round =>
    obtain ⟨j, rfl, hj, HN, HF⟩ := hrel;have hj0 : (0 : Int) <= (j : Int) := Int.natCast_nonneg _;obtain ⟨w3, hw3⟩ : ∃ x, x = wr := ⟨_, rfl⟩;subst hw3;have hg3 := (hop HF.out hg2).1;have hl3 := (hop HF.out hl2).1;have HV3 := sW (HV2.out.below HF.out);by_cases hjl : j < ns.length
    ·have hji : (j : Int) < (ns.length : Int) := by omega
     obtain ⟨s, hs⟩ := Dx (l := ns) (k := j) hjl;obtain ⟨gn, cn, csn, en1, hcn, hall⟩ := HV3.out.at (fun e => by rw [e] at hjl; simp at hjl);injection en1 with ea eb ec
     subst ea;subst ec;have hcs := hall j s hs;have HS := sW hs;clear hall hs eb;by_cases hsn : s = nm
     ·have hnn : s.toList = nm.toList := by rw [hsn]
      have HR : Hid (res = false) := sW (by
       rw [HRES.out, decide_eq_false (p := nm ∉ ns) (fun h => h (by rw [<- hsn]; exact List.mem_of_getElem? HS.out))]; simp)
      clear hsn;go_wp2_with fail;refine A5 (by kernel_rfl) 7 (by decide) rfl (fun i => match i with | 0 => (.slice (some ⟨gn, 0, none⟩) ns.length c) | 1 => (.int .i64 (j : Int)) | 2 => (.pointer (some ⟨gn, j, none⟩)) | 3 => (.string s) | 4 => (.pointer (some ⟨w.heap.size, 1, none⟩)) | 5 => (.string nm) | _ => (.bool true)) ?_ ?_
      ·intro i' o ho0 ho a' w' hB hS hF;have hi' : i' = 0 \/ i' = 1 \/ i' = 2 \/ i' = 3 \/ i' = 4 \/ i' = 5 \/ i' = 6 := by omega
       have hg3 := (hop hB hg3).1;have hcn := (hop hB hcn).1;rcases hi' with rfl | rfl | rfl | rfl | rfl | rfl | rfl
       all_goals (have ho' := Option.some.inj ho; subst ho')
       ·have q2 : a'.tmps[2]?.getD undef = (.slice (some ⟨gn, 0, none⟩) ns.length c) := gtx ((hS 2 (by decide)).trans rfl);refine Ab rfl (Ac rfl) ?_ ⟨rfl, hB⟩;simp [go_sem, q2]
       ·have q7 : a'.tmps[7]?.getD undef = (.int .i64 (j : Int)) := gtx ((hS 7 (by decide)).trans rfl);refine Ab rfl (Ac rfl) ?_ ⟨rfl, hB⟩;simp [go_sem, q7]
       ·have q29 := gtx (hF 0 (by decide) _ 29 rfl rfl);have q30 := gtx (hF 1 (by decide) _ 30 rfl rfl);refine Ab rfl (Ac rfl) ?_ ⟨rfl, hB⟩;simp [go_sem, q29, q30, hj0, hji, hjl]
       ·have q31 := gtx (hF 2 (by decide) _ 31 rfl rfl);refine Ab rfl (Ac rfl) ?_ ⟨rfl, hB⟩;simp [go_sem, q31, hcn, hcs]
       ·have q4 : a'.tmps[4]?.getD undef = (.pointer (some ⟨w.heap.size, 0, none⟩)) := gtx ((hS 4 (by decide)).trans rfl);refine Ab rfl (Ac rfl) ?_ ⟨rfl, hB⟩;simp [go_sem, q4]
       ·have q33 := gtx (hF 4 (by decide) _ 33 rfl rfl);refine Ab rfl (Ac rfl) ?_ ⟨rfl, hB⟩;simp [go_sem, q33, hg3]
       ·have q32 := gtx (hF 3 (by decide) _ 32 rfl rfl);have q34 := gtx (hF 5 (by decide) _ 34 rfl rfl);refine Ab rfl (Ac rfl) ?_ ⟨rfl, hB⟩;simp [go_sem, q32, q34, hnn]
      intro w4 hB4;simp only [Bg, List.take, List.drop, List.take_succ_cons, List.drop_succ_cons, Act.put, List.setIfInBounds_toArray, List.set_cons_zero, List.set_cons_succ];go_wp2_with fail;go_ret;exact ⟨by rw [HR.out]; rfl, Ad HB1.out (Ad HB2.out (Ad HF.out hB4 HF.out.size) HB2.out.size) (by have := HB1.out.size; omega)⟩
     ·have hnn : ¬ s.toList = nm.toList := fun h => hsn (Zz h)
      have HN2 : Hid (∀ j' s, j' < j + 1 -> ns[j']? = some s -> s ≠ nm) := sW (fun j' s' h hs' => by
       by_cases e : j' = j
       ·subst e;rw [HS.out] at hs';rw [<- Option.some.inj hs'];exact hsn
       ·exact HN.out j' s' (by omega) hs')
      clear hsn;go_wp2_with fail;refine A5 (by kernel_rfl) 7 (by decide) rfl (fun i => match i with | 0 => (.slice (some ⟨gn, 0, none⟩) ns.length c) | 1 => (.int .i64 (j : Int)) | 2 => (.pointer (some ⟨gn, j, none⟩)) | 3 => (.string s) | 4 => (.pointer (some ⟨w.heap.size, 1, none⟩)) | 5 => (.string nm) | _ => (.bool false)) ?_ ?_
      ·intro i' o ho0 ho a' w' hB hS hF;have hi' : i' = 0 \/ i' = 1 \/ i' = 2 \/ i' = 3 \/ i' = 4 \/ i' = 5 \/ i' = 6 := by omega
       have hg3 := (hop hB hg3).1;have hcn := (hop hB hcn).1;rcases hi' with rfl | rfl | rfl | rfl | rfl | rfl | rfl
       all_goals (have ho' := Option.some.inj ho; subst ho')
       ·have q2 : a'.tmps[2]?.getD undef = (.slice (some ⟨gn, 0, none⟩) ns.length c) := gtx ((hS 2 (by decide)).trans rfl);refine Ab rfl (Ac rfl) ?_ ⟨rfl, hB⟩;simp [go_sem, q2]
       ·have q7 : a'.tmps[7]?.getD undef = (.int .i64 (j : Int)) := gtx ((hS 7 (by decide)).trans rfl);refine Ab rfl (Ac rfl) ?_ ⟨rfl, hB⟩;simp [go_sem, q7]
       ·have q29 := gtx (hF 0 (by decide) _ 29 rfl rfl);have q30 := gtx (hF 1 (by decide) _ 30 rfl rfl);refine Ab rfl (Ac rfl) ?_ ⟨rfl, hB⟩;simp [go_sem, q29, q30, hj0, hji, hjl]
       ·have q31 := gtx (hF 2 (by decide) _ 31 rfl rfl);refine Ab rfl (Ac rfl) ?_ ⟨rfl, hB⟩;simp [go_sem, q31, hcn, hcs]
       ·have q4 : a'.tmps[4]?.getD undef = (.pointer (some ⟨w.heap.size, 0, none⟩)) := gtx ((hS 4 (by decide)).trans rfl);refine Ab rfl (Ac rfl) ?_ ⟨rfl, hB⟩;simp [go_sem, q4]
       ·have q33 := gtx (hF 4 (by decide) _ 33 rfl rfl);refine Ab rfl (Ac rfl) ?_ ⟨rfl, hB⟩;simp [go_sem, q33, hg3]
       ·have q32 := gtx (hF 3 (by decide) _ 32 rfl rfl);have q34 := gtx (hF 5 (by decide) _ 34 rfl rfl);refine Ab rfl (Ac rfl) ?_ ⟨rfl, hB⟩;simp [go_sem, q32, q34, hnn]
      intro w4 hB4;simp only [Bg, List.take, List.drop, List.take_succ_cons, List.drop_succ_cons, Act.put, List.setIfInBounds_toArray, List.set_cons_zero, List.set_cons_succ];go_wp2_with fail;go_roundw
      case rel => exact ⟨j + 1, by go_num, by omega, HN2, sW (Ad HF.out hB4 HF.out.size)⟩
      case measure => (show ns.length - (j + 1) < ns.length - j); omega
    ·have hji : ¬ (j : Int) < (ns.length : Int) := by omega
     have HNI : Hid (nm ∉ ns) := sW (fun hm => by
      obtain ⟨j', hj'⟩ := List.mem_iff_getElem?.1 hm;exact HN.out j' nm (by have := (List.getElem?_eq_some_iff.1 hj').1; omega) hj' rfl)
     have HR : Hid (res = if tk ino = true then decide (nth (I ino) 0 = 1) && decide (en ino < 100) else Cj (E.A ino)) := sW (by
      rw [HRES.out, decide_eq_true hY, decide_eq_true (p := ino ≠ 1) (by omega), decide_eq_true HNI.out]; simp)
     have HG3 := sW (HG2.out.below HF.out);have HB3 := sW (Ad HB1.out (Ad HB2.out HF.out HB2.out.size) (by have := HB1.out.size; omega));have hM : ino < E.M := by have := hE.M; omega
     have hMi : (ino : Int) < (E.M : Int) := by omega
     obtain ⟨cst, hct, -, hallt⟩ := HG3.out.t;have hcti := hallt ino hM;have hE2 := sW hE;clear HN HF HV2 HV3 HG2 HB2 hl2 hg2 hallt HNI;go_upto_region 8 with fail;cases htk : tk ino with
     | true =>
      rw [htk] at hcti;have HR2 : Hid (res = (decide (nth (I ino) 0 = 1) && decide (en ino < 100))) := sW (by rw [HR.out, if_pos htk]);refine A5 (by kernel_rfl) 8 (by decide) rfl (fun i => match i with | 0 => (.pointer (some ⟨E.g, 0, none⟩)) | 1 => (.pointer (some ⟨E.g, 0, none⟩)) | 2 => (.pointer (some ⟨E.g, 5, none⟩)) | 3 => (.slice (some ⟨E.gt, 0, none⟩) E.M E.ct) | 4 => (.pointer (some ⟨w.heap.size, 0, none⟩)) | 5 => (.int .i64 (ino : Int)) | 6 => (.pointer (some ⟨E.gt, ino, none⟩)) | _ => (.bool true)) ?_ ?_
      ·intro i' o ho0 ho a' w' hB hS hF;have hi' : i' = 0 \/ i' = 1 \/ i' = 2 \/ i' = 3 \/ i' = 4 \/ i' = 5 \/ i' = 6 \/ i' = 7 := by omega
       have hg3 := (hop hB hg3).1;have hl3 := (hop hB hl3).1;have hct := (hop hB hct).1;rcases hi' with rfl | rfl | rfl | rfl | rfl | rfl | rfl | rfl
       all_goals (have ho' := Option.some.inj ho; subst ho')
       ·have q0 : a'.tmps[0]?.getD undef = (.pointer (some ⟨E.g, 0, none⟩)) := gtx ((hS 0 (by decide)).trans rfl);refine Ab rfl (Ac rfl) ?_ ⟨rfl, hB⟩;simp [go_sem, q0]
       ·have q36 := gtx (hF 0 (by decide) _ 36 rfl rfl);refine Ab rfl (Ac rfl) ?_ ⟨rfl, hB⟩;simp [go_sem, q36]
       ·have q37 := gtx (hF 1 (by decide) _ 37 rfl rfl);refine Ab rfl (Ac rfl) ?_ ⟨rfl, hB⟩;simp [go_sem, q37]
       ·have q38 := gtx (hF 2 (by decide) _ 38 rfl rfl);refine Ab rfl (Ac rfl) ?_ ⟨rfl, hB⟩;simp [go_sem, q38, hl3]
       ·have q4 : a'.tmps[4]?.getD undef = (.pointer (some ⟨w.heap.size, 0, none⟩)) := gtx ((hS 4 (by decide)).trans rfl);refine Ab rfl (Ac rfl) ?_ ⟨rfl, hB⟩;simp [go_sem, q4]
       ·have q40 := gtx (hF 4 (by decide) _ 40 rfl rfl);refine Ab rfl (Ac rfl) ?_ ⟨rfl, hB⟩;simp [go_sem, q40, hg3]
       ·have q39 := gtx (hF 3 (by decide) _ 39 rfl rfl);have q41 := gtx (hF 5 (by decide) _ 41 rfl rfl);refine Ab rfl (Ac rfl) ?_ ⟨rfl, hB⟩;simp [go_sem, q39, q41, hi0, hMi, hM]
       ·have q42 := gtx (hF 6 (by decide) _ 42 rfl rfl);refine Ab rfl (Ac rfl) ?_ ⟨rfl, hB⟩;simp [go_sem, q42, hct, hcti]
      intro w4 hB4;simp only [Bg, List.take, List.drop, List.take_succ_cons, List.drop_succ_cons, Act.put, List.setIfInBounds_toArray, List.set_cons_zero, List.set_cons_succ];have HB4 := sW (Ad HB3.out hB4 HB3.out.size);have HG4 := sW (HG3.out.below hB4);have hg4 := (hop hB4 hg3).1;have hl4 := (hop hB4 hl3).1;obtain ⟨csn, hcn, hldn, hlnn⟩ := HG4.out.n.load hM;obtain ⟨cse, hce, -, halle⟩ := HG4.out.e;have hcei := halle ino hM;have hk0 : csn[ino * 18]? = some (.int .i64 (nth (I ino) 0)) := Of HG4.out.n hcn hM 0 (by omega);clear hB4 hg3 hl3 HG3 HB3 halle;go_upto_region 9 with fail;by_cases hk : nth (I ino) 0 = 1
      ·have dk : (nth (I ino) 0 == 1) = true := by simpa using hk
       have HR3 : Hid (res = decide (en ino < 100)) := sW (by rw [HR2.out, decide_eq_true hk, Bool.true_and]);clear hk;refine A5 (by kernel_rfl) 22 (by decide) rfl (fun i => match i with | 0 => (.pointer (some ⟨E.g, 0, none⟩)) | 1 => (.pointer (some ⟨E.g, 0, none⟩)) | 2 => (.pointer (some ⟨E.g, 6, none⟩)) | 3 => (.slice (some ⟨E.gn, 0, none⟩) E.M E.cn) | 4 => (.pointer (some ⟨w.heap.size, 0, none⟩)) | 5 => (.int .i64 (ino : Int)) | 6 => (.pointer (some ⟨E.gn, ino * 18, none⟩)) | 7 => (.pointer (some ⟨E.gn, ino * 18, none⟩)) | 8 => (.int .i64 (nth (I ino) 0)) | 9 => (.bool true) | 10 => (.bool true) | 11 => (.pointer (some ⟨E.g, 0, none⟩)) | 12 => (.pointer (some ⟨E.g, 0, none⟩)) | 13 => (.pointer (some ⟨E.g, 7, none⟩)) | 14 => (.slice (some ⟨E.ge, 0, none⟩) E.M E.ce) | 15 => (.pointer (some ⟨w.heap.size, 0, none⟩)) | 16 => (.int .i64 (ino : Int)) | 17 => (.pointer (some ⟨E.ge, ino, none⟩)) | 18 => (.int .i64 (en ino)) | 19 => (.bool (decide (en ino < 100))) | 20 => (.bool (decide (en ino < 100))) | _ => (.bool (decide (en ino < 100)))) ?_ ?_
       ·intro i' o ho0 ho a' w' hB hS hF;have hi' : i' = 0 \/ i' = 1 \/ i' = 2 \/ i' = 3 \/ i' = 4 \/ i' = 5 \/ i' = 6 \/ i' = 7 \/ i' = 8 \/ i' = 9 \/ i' = 10 \/ i' = 11 \/ i' = 12 \/ i' = 13 \/ i' = 14 \/ i' = 15 \/ i' = 16 \/ i' = 17 \/ i' = 18 \/ i' = 19 \/ i' = 20 \/ i' = 21 := by omega
        have hg4 := (hop hB hg4).1;have hl4 := (hop hB hl4).1;have hcn := (hop hB hcn).1;have hce := (hop hB hce).1;rcases hi' with rfl | rfl | rfl | rfl | rfl | rfl | rfl | rfl | rfl | rfl | rfl | rfl | rfl | rfl | rfl | rfl | rfl | rfl | rfl | rfl | rfl | rfl
        all_goals (have ho' := Option.some.inj ho; subst ho')
        ·have q0 : a'.tmps[0]?.getD undef = (.pointer (some ⟨E.g, 0, none⟩)) := gtx ((hS 0 (by decide)).trans rfl);refine Ab rfl (Ac rfl) ?_ ⟨rfl, hB⟩;simp [go_sem, q0]
        ·have q44 := gtx (hF 0 (by decide) _ 44 rfl rfl);refine Ab rfl (Ac rfl) ?_ ⟨rfl, hB⟩;simp [go_sem, q44]
        ·have q45 := gtx (hF 1 (by decide) _ 45 rfl rfl);refine Ab rfl (Ac rfl) ?_ ⟨rfl, hB⟩;simp [go_sem, q45]
        ·have q46 := gtx (hF 2 (by decide) _ 46 rfl rfl);refine Ab rfl (Ac rfl) ?_ ⟨rfl, hB⟩;simp [go_sem, q46, hl4]
        ·have q4 : a'.tmps[4]?.getD undef = (.pointer (some ⟨w.heap.size, 0, none⟩)) := gtx ((hS 4 (by decide)).trans rfl);refine Ab rfl (Ac rfl) ?_ ⟨rfl, hB⟩;simp [go_sem, q4]
        ·have q48 := gtx (hF 4 (by decide) _ 48 rfl rfl);refine Ab rfl (Ac rfl) ?_ ⟨rfl, hB⟩;simp [go_sem, q48, hg4]
        ·have q47 := gtx (hF 3 (by decide) _ 47 rfl rfl);have q49 := gtx (hF 5 (by decide) _ 49 rfl rfl);refine Ab rfl (Ac rfl) ?_ ⟨rfl, hB⟩;simp [go_sem, q47, q49, hi0, hMi, hM]
        ·have q50 := gtx (hF 6 (by decide) _ 50 rfl rfl);refine Ab rfl (Ac rfl) ?_ ⟨rfl, hB⟩;simp [go_sem, q50]
        ·have q51 := gtx (hF 7 (by decide) _ 51 rfl rfl);refine Ab rfl (Ac rfl) ?_ ⟨rfl, hB⟩;simp [go_sem, q51, hcn, hk0]
        ·have q52 := gtx (hF 8 (by decide) _ 52 rfl rfl);refine Ab rfl (Ac rfl) ?_ ⟨rfl, hB⟩;simp [go_sem, q52, dk]
        ·have q53 := gtx (hF 9 (by decide) _ 53 rfl rfl);refine Ab rfl (Ac rfl) ?_ ⟨rfl, hB⟩;simp [go_sem, q53]
        ·have q0 : a'.tmps[0]?.getD undef = (.pointer (some ⟨E.g, 0, none⟩)) := gtx ((hS 0 (by decide)).trans rfl);refine Ab rfl (Au rfl rfl rfl (hF 10 (by decide) _ 54 rfl rfl)) ?_ ⟨rfl, hB⟩;simp [go_sem, q0]
        ·have q55 := gtx (hF 11 (by decide) _ 55 rfl rfl);refine Ab rfl (Au rfl rfl rfl (hF 10 (by decide) _ 54 rfl rfl)) ?_ ⟨rfl, hB⟩;simp [go_sem, q55]
        ·have q56 := gtx (hF 12 (by decide) _ 56 rfl rfl);refine Ab rfl (Au rfl rfl rfl (hF 10 (by decide) _ 54 rfl rfl)) ?_ ⟨rfl, hB⟩;simp [go_sem, q56]
        ·have q57 := gtx (hF 13 (by decide) _ 57 rfl rfl);refine Ab rfl (Au rfl rfl rfl (hF 10 (by decide) _ 54 rfl rfl)) ?_ ⟨rfl, hB⟩;simp [go_sem, q57, hl4]
        ·have q4 : a'.tmps[4]?.getD undef = (.pointer (some ⟨w.heap.size, 0, none⟩)) := gtx ((hS 4 (by decide)).trans rfl);refine Ab rfl (Au rfl rfl rfl (hF 10 (by decide) _ 54 rfl rfl)) ?_ ⟨rfl, hB⟩;simp [go_sem, q4]
        ·have q59 := gtx (hF 15 (by decide) _ 59 rfl rfl);refine Ab rfl (Au rfl rfl rfl (hF 10 (by decide) _ 54 rfl rfl)) ?_ ⟨rfl, hB⟩;simp [go_sem, q59, hg4]
        ·have q58 := gtx (hF 14 (by decide) _ 58 rfl rfl);have q60 := gtx (hF 16 (by decide) _ 60 rfl rfl);refine Ab rfl (Au rfl rfl rfl (hF 10 (by decide) _ 54 rfl rfl)) ?_ ⟨rfl, hB⟩;simp [go_sem, q58, q60, hi0, hMi, hM]
        ·have q61 := gtx (hF 17 (by decide) _ 61 rfl rfl);refine Ab rfl (Au rfl rfl rfl (hF 10 (by decide) _ 54 rfl rfl)) ?_ ⟨rfl, hB⟩;simp [go_sem, q61, hce, hcei]
        ·have q62 := gtx (hF 18 (by decide) _ 62 rfl rfl);refine Ab rfl (Au rfl rfl rfl (hF 10 (by decide) _ 54 rfl rfl)) ?_ ⟨rfl, hB⟩;simp [go_sem, q62]
        ·have q54 := gtx (hF 10 (by decide) _ 54 rfl rfl);have q63 := gtx (hF 19 (by decide) _ 63 rfl rfl);refine Ab rfl (Ac rfl) ?_ ⟨rfl, hB⟩;simp [go_sem, q54, q63]
        ·have q64 := gtx (hF 20 (by decide) _ 64 rfl rfl);refine Ab rfl (Ac rfl) ?_ ⟨rfl, hB⟩;simp [go_sem, q64]
       intro w5 hB5;simp only [Bg, List.take, List.drop, List.take_succ_cons, List.drop_succ_cons, Act.put, List.setIfInBounds_toArray, List.set_cons_zero, List.set_cons_succ];go_wp2_with fail;go_ret;exact ⟨by rw [HR3.out]; rfl, Ad HB4.out hB5 HB4.out.size⟩
      ·have dk : (nth (I ino) 0 == 1) = false := by simpa using hk
       have HR3 : Hid (res = false) := sW (by rw [HR2.out, decide_eq_false hk, Bool.false_and]);clear hk;refine A5 (by kernel_rfl) 22 (by decide) rfl (fun i => match i with | 0 => (.pointer (some ⟨E.g, 0, none⟩)) | 1 => (.pointer (some ⟨E.g, 0, none⟩)) | 2 => (.pointer (some ⟨E.g, 6, none⟩)) | 3 => (.slice (some ⟨E.gn, 0, none⟩) E.M E.cn) | 4 => (.pointer (some ⟨w.heap.size, 0, none⟩)) | 5 => (.int .i64 (ino : Int)) | 6 => (.pointer (some ⟨E.gn, ino * 18, none⟩)) | 7 => (.pointer (some ⟨E.gn, ino * 18, none⟩)) | 8 => (.int .i64 (nth (I ino) 0)) | 9 => (.bool false) | 10 => (.bool false) | 11 => undef | 12 => undef | 13 => undef | 14 => undef | 15 => undef | 16 => undef | 17 => undef | 18 => undef | 19 => undef | 20 => (.bool false) | _ => (.bool false)) ?_ ?_
       ·intro i' o ho0 ho a' w' hB hS hF;have hi' : i' = 0 \/ i' = 1 \/ i' = 2 \/ i' = 3 \/ i' = 4 \/ i' = 5 \/ i' = 6 \/ i' = 7 \/ i' = 8 \/ i' = 9 \/ i' = 10 \/ i' = 11 \/ i' = 12 \/ i' = 13 \/ i' = 14 \/ i' = 15 \/ i' = 16 \/ i' = 17 \/ i' = 18 \/ i' = 19 \/ i' = 20 \/ i' = 21 := by omega
        have hg4 := (hop hB hg4).1;have hl4 := (hop hB hl4).1;have hcn := (hop hB hcn).1;have hce := (hop hB hce).1;rcases hi' with rfl | rfl | rfl | rfl | rfl | rfl | rfl | rfl | rfl | rfl | rfl | rfl | rfl | rfl | rfl | rfl | rfl | rfl | rfl | rfl | rfl | rfl
        all_goals (have ho' := Option.some.inj ho; subst ho')
        ·have q0 : a'.tmps[0]?.getD undef = (.pointer (some ⟨E.g, 0, none⟩)) := gtx ((hS 0 (by decide)).trans rfl);refine Ab rfl (Ac rfl) ?_ ⟨rfl, hB⟩;simp [go_sem, q0]
        ·have q44 := gtx (hF 0 (by decide) _ 44 rfl rfl);refine Ab rfl (Ac rfl) ?_ ⟨rfl, hB⟩;simp [go_sem, q44]
        ·have q45 := gtx (hF 1 (by decide) _ 45 rfl rfl);refine Ab rfl (Ac rfl) ?_ ⟨rfl, hB⟩;simp [go_sem, q45]
        ·have q46 := gtx (hF 2 (by decide) _ 46 rfl rfl);refine Ab rfl (Ac rfl) ?_ ⟨rfl, hB⟩;simp [go_sem, q46, hl4]
        ·have q4 : a'.tmps[4]?.getD undef = (.pointer (some ⟨w.heap.size, 0, none⟩)) := gtx ((hS 4 (by decide)).trans rfl);refine Ab rfl (Ac rfl) ?_ ⟨rfl, hB⟩;simp [go_sem, q4]
        ·have q48 := gtx (hF 4 (by decide) _ 48 rfl rfl);refine Ab rfl (Ac rfl) ?_ ⟨rfl, hB⟩;simp [go_sem, q48, hg4]
        ·have q47 := gtx (hF 3 (by decide) _ 47 rfl rfl);have q49 := gtx (hF 5 (by decide) _ 49 rfl rfl);refine Ab rfl (Ac rfl) ?_ ⟨rfl, hB⟩;simp [go_sem, q47, q49, hi0, hMi, hM]
        ·have q50 := gtx (hF 6 (by decide) _ 50 rfl rfl);refine Ab rfl (Ac rfl) ?_ ⟨rfl, hB⟩;simp [go_sem, q50]
        ·have q51 := gtx (hF 7 (by decide) _ 51 rfl rfl);refine Ab rfl (Ac rfl) ?_ ⟨rfl, hB⟩;simp [go_sem, q51, hcn, hk0]
        ·have q52 := gtx (hF 8 (by decide) _ 52 rfl rfl);refine Ab rfl (Ac rfl) ?_ ⟨rfl, hB⟩;simp [go_sem, q52, dk]
        ·have q53 := gtx (hF 9 (by decide) _ 53 rfl rfl);refine Ab rfl (Ac rfl) ?_ ⟨rfl, hB⟩;simp [go_sem, q53]
        ·exact Bo rfl rfl rfl rfl (hF 10 (by decide) _ 54 rfl rfl) rfl ⟨rfl, hB⟩
        ·exact Bo rfl rfl rfl rfl (hF 10 (by decide) _ 54 rfl rfl) rfl ⟨rfl, hB⟩
        ·exact Bo rfl rfl rfl rfl (hF 10 (by decide) _ 54 rfl rfl) rfl ⟨rfl, hB⟩
        ·exact Bo rfl rfl rfl rfl (hF 10 (by decide) _ 54 rfl rfl) rfl ⟨rfl, hB⟩
        ·exact Bo rfl rfl rfl rfl (hF 10 (by decide) _ 54 rfl rfl) rfl ⟨rfl, hB⟩
        ·exact Bo rfl rfl rfl rfl (hF 10 (by decide) _ 54 rfl rfl) rfl ⟨rfl, hB⟩
        ·exact Bo rfl rfl rfl rfl (hF 10 (by decide) _ 54 rfl rfl) rfl ⟨rfl, hB⟩
        ·exact Bo rfl rfl rfl rfl (hF 10 (by decide) _ 54 rfl rfl) rfl ⟨rfl, hB⟩
        ·exact Bo rfl rfl rfl rfl (hF 10 (by decide) _ 54 rfl rfl) rfl ⟨rfl, hB⟩
        ·have q54 := gtx (hF 10 (by decide) _ 54 rfl rfl);have q63 := gtx (hF 19 (by decide) _ 63 rfl rfl);refine Ab rfl (Ac rfl) ?_ ⟨rfl, hB⟩;simp [go_sem, q54, q63]
        ·have q64 := gtx (hF 20 (by decide) _ 64 rfl rfl);refine Ab rfl (Ac rfl) ?_ ⟨rfl, hB⟩;simp [go_sem, q64]
       intro w5 hB5;simp only [Bg, List.take, List.drop, List.take_succ_cons, List.drop_succ_cons, Act.put, List.setIfInBounds_toArray, List.set_cons_zero, List.set_cons_succ];go_wp2_with fail;go_ret;exact ⟨by rw [HR3.out]; rfl, Ad HB4.out hB5 HB4.out.size⟩
     | false =>
      rw [htk] at hcti;have HR2 : Hid (res = Cj (E.A ino)) := sW (by rw [HR.out, if_neg (by rw [htk]; simp)]);refine A5 (by kernel_rfl) 8 (by decide) rfl (fun i => match i with | 0 => (.pointer (some ⟨E.g, 0, none⟩)) | 1 => (.pointer (some ⟨E.g, 0, none⟩)) | 2 => (.pointer (some ⟨E.g, 5, none⟩)) | 3 => (.slice (some ⟨E.gt, 0, none⟩) E.M E.ct) | 4 => (.pointer (some ⟨w.heap.size, 0, none⟩)) | 5 => (.int .i64 (ino : Int)) | 6 => (.pointer (some ⟨E.gt, ino, none⟩)) | _ => (.bool false)) ?_ ?_
      ·intro i' o ho0 ho a' w' hB hS hF;have hi' : i' = 0 \/ i' = 1 \/ i' = 2 \/ i' = 3 \/ i' = 4 \/ i' = 5 \/ i' = 6 \/ i' = 7 := by omega
       have hg3 := (hop hB hg3).1;have hl3 := (hop hB hl3).1;have hct := (hop hB hct).1;rcases hi' with rfl | rfl | rfl | rfl | rfl | rfl | rfl | rfl
       all_goals (have ho' := Option.some.inj ho; subst ho')
       ·have q0 : a'.tmps[0]?.getD undef = (.pointer (some ⟨E.g, 0, none⟩)) := gtx ((hS 0 (by decide)).trans rfl);refine Ab rfl (Ac rfl) ?_ ⟨rfl, hB⟩;simp [go_sem, q0]
       ·have q36 := gtx (hF 0 (by decide) _ 36 rfl rfl);refine Ab rfl (Ac rfl) ?_ ⟨rfl, hB⟩;simp [go_sem, q36]
       ·have q37 := gtx (hF 1 (by decide) _ 37 rfl rfl);refine Ab rfl (Ac rfl) ?_ ⟨rfl, hB⟩;simp [go_sem, q37]
       ·have q38 := gtx (hF 2 (by decide) _ 38 rfl rfl);refine Ab rfl (Ac rfl) ?_ ⟨rfl, hB⟩;simp [go_sem, q38, hl3]
       ·have q4 : a'.tmps[4]?.getD undef = (.pointer (some ⟨w.heap.size, 0, none⟩)) := gtx ((hS 4 (by decide)).trans rfl);refine Ab rfl (Ac rfl) ?_ ⟨rfl, hB⟩;simp [go_sem, q4]
       ·have q40 := gtx (hF 4 (by decide) _ 40 rfl rfl);refine Ab rfl (Ac rfl) ?_ ⟨rfl, hB⟩;simp [go_sem, q40, hg3]
       ·have q39 := gtx (hF 3 (by decide) _ 39 rfl rfl);have q41 := gtx (hF 5 (by decide) _ 41 rfl rfl);refine Ab rfl (Ac rfl) ?_ ⟨rfl, hB⟩;simp [go_sem, q39, q41, hi0, hMi, hM]
       ·have q42 := gtx (hF 6 (by decide) _ 42 rfl rfl);refine Ab rfl (Ac rfl) ?_ ⟨rfl, hB⟩;simp [go_sem, q42, hct, hcti]
      intro w4 hB4;simp only [Bg, List.take, List.drop, List.take_succ_cons, List.drop_succ_cons, Act.put, List.setIfInBounds_toArray, List.set_cons_zero, List.set_cons_succ];have HB4 := sW (Ad HB3.out hB4 HB3.out.size);have HG4 := sW (HG3.out.below hB4);have hg4 := (hop hB4 hg3).1;have HC := sW (M6 hE2.out ino h1 hY w4 HG4.out);have hg4l := Aa hg4;clear hB4 hg3 hl3 HG3 HB3;go_wp2_with fail;refine HC.out.mono ?_; rintro e w5 ⟨rfl, hb5⟩;have HB5 := sW (At (Ad HB4.out hb5 HB4.out.size) (by have := HB4.out.size; have := hb5.size; omega) (.cells (IV .i64 (Al (E.A ino)).1) 45));clear hb5;go_wp2_with fail;go_ret;exact ⟨by rw [HR2.out]; rfl, HB5.out⟩
 ·have d1 : decide (E.Y < (ino : Int)) = true := decide_eq_true (by omega);have HR : Hid (res = false) := sW (by rw [HRES.out, decide_eq_false hY]; simp);refine A5 (by kernel_rfl) 13 (by decide) rfl (fun i => match i with | 0 => (.pointer (some ⟨w.heap.size, 0, none⟩)) | 1 => (.int .i64 (ino : Int)) | 2 => (.pointer (some ⟨E.g, 0, none⟩)) | 3 => (.pointer (some ⟨E.g, 0, none⟩)) | 4 => (.pointer (some ⟨E.g, 0, none⟩)) | 5 => (.pointer (some ⟨E.g, 1, none⟩)) | 6 => (.int .i64 E.Y) | 7 => (.bool true) | 8 => (.bool true) | 9 => undef | 10 => undef | 11 => undef | _ => (.bool true)) ?_ ?_
  ·intro i' o ho0 ho a' w' hB hS hF;have hi' : i' = 0 \/ i' = 1 \/ i' = 2 \/ i' = 3 \/ i' = 4 \/ i' = 5 \/ i' = 6 \/ i' = 7 \/ i' = 8 \/ i' = 9 \/ i' = 10 \/ i' = 11 \/ i' = 12 := by omega
   have hg1 := (hop hB hg1).1;have hl1 := (hop hB hl1).1;rcases hi' with rfl | rfl | rfl | rfl | rfl | rfl | rfl | rfl | rfl | rfl | rfl | rfl | rfl
   all_goals (have ho' := Option.some.inj ho; subst ho')
   ·have q4 : a'.tmps[4]?.getD undef = (.pointer (some ⟨w.heap.size, 0, none⟩)) := gtx ((hS 4 (by decide)).trans rfl);refine Ab rfl (Ac rfl) ?_ ⟨rfl, hB⟩;simp [go_sem, q4]
   ·have q10 := gtx (hF 0 (by decide) _ 10 rfl rfl);refine Ab rfl (Ac rfl) ?_ ⟨rfl, hB⟩;simp [go_sem, q10, hg1]
   ·have q0 : a'.tmps[0]?.getD undef = (.pointer (some ⟨E.g, 0, none⟩)) := gtx ((hS 0 (by decide)).trans rfl);refine Ab rfl (Ac rfl) ?_ ⟨rfl, hB⟩;simp [go_sem, q0]
   ·have q12 := gtx (hF 2 (by decide) _ 12 rfl rfl);refine Ab rfl (Ac rfl) ?_ ⟨rfl, hB⟩;simp [go_sem, q12]
   ·have q13 := gtx (hF 3 (by decide) _ 13 rfl rfl);refine Ab rfl (Ac rfl) ?_ ⟨rfl, hB⟩;simp [go_sem, q13]
   ·have q14 := gtx (hF 4 (by decide) _ 14 rfl rfl);refine Ab rfl (Ac rfl) ?_ ⟨rfl, hB⟩;simp [go_sem, q14]
   ·have q15 := gtx (hF 5 (by decide) _ 15 rfl rfl);refine Ab rfl (Ac rfl) ?_ ⟨rfl, hB⟩;simp [go_sem, q15, hl1]
   ·have q11 := gtx (hF 1 (by decide) _ 11 rfl rfl);have q16 := gtx (hF 6 (by decide) _ 16 rfl rfl);refine Ab rfl (Ac rfl) ?_ ⟨rfl, hB⟩;simp [go_sem, q11, q16, d1]
   ·have q17 := gtx (hF 7 (by decide) _ 17 rfl rfl);refine Ab rfl (Ac rfl) ?_ ⟨rfl, hB⟩;simp [go_sem, q17]
   ·exact Bo rfl rfl rfl rfl (hF 8 (by decide) _ 18 rfl rfl) rfl ⟨rfl, hB⟩
   ·exact Bo rfl rfl rfl rfl (hF 8 (by decide) _ 18 rfl rfl) rfl ⟨rfl, hB⟩
   ·exact Bo rfl rfl rfl rfl (hF 8 (by decide) _ 18 rfl rfl) rfl ⟨rfl, hB⟩
   ·have q18 := gtx (hF 8 (by decide) _ 18 rfl rfl);have q21 := gtx (hF 11 (by decide) _ 21 rfl rfl);refine Ab rfl (Ac rfl) ?_ ⟨rfl, hB⟩;simp [go_sem, q18, q21]
  intro w2 hB2;simp only [Bg, List.take, List.drop, List.take_succ_cons, List.drop_succ_cons, Act.put, List.setIfInBounds_toArray, List.set_cons_zero, List.set_cons_succ];go_wp2_with fail;go_ret;exact ⟨by rw [HR.out]; rfl, Ad HB1.out hB2 (by have := HB1.out.size; omega)⟩
end
end Go.Proofs.YthioepdgnbdohaaGreat
