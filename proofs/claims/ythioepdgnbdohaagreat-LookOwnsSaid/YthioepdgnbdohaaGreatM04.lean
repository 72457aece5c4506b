import Derived.Maps.OwnSet
import Derived.Maps.RangeWalk
import Derived.Deep.AppendSrc
import Derived.Maps.AppendAt
import Derived.ProofKit
import Derived.Carry
import Derived.OpenShut
import Derived.Deep.Slices
import Derived.Deep.RegionHeld3
import Derived.Test.YthioepdgnbdohaaGreatM01
import Derived.Test.YthioepdgnbdohaaGreatM03
namespace Go.Proofs.YthioepdgnbdohaaGreat
set_option maxHeartbeats 16000000
set_option maxRecDepth 1000000
set_option linter.unusedSimpArgs false
set_option linter.unusedVariables false
open Go.RowKit
theorem aV {a b : Int} {k : IntKind} (h : a = b) : Ending.returned (.int k a) = .returned (.int k b) := by rw [h]
def Eg (p : Int) : Prop := -9223372036854775808 <= p /\ p <= 9223372036854775807
theorem mU {p : Int} (h : Eg p) : (Lit.int .i64 p).wf = true := by
 unfold Eg at h;simp [Lit.wf, IntKind.min, IntKind.max, IntKind.signed, IntKind.bits]; omega
theorem Li {p : Int} (h : Eg p) : keyOf Tryz.prog 3 (.int .i64 p) = some (.int .i64 p) := Go.Maps.keyOf_int_mk Tryz.underlying3 (mU h)
theorem Ia {p : Int} (h : Eg p) : WideAt.IsKeyLit (.int .i64 p) := (Go.Maps.int_keyed Tryz.underlying3).key (Li h)
theorem F6 {p q : Int} (h : p ≠ q) : (Lit.int .i64 p) ≠ .int .i64 q := fun e => h (by injection e)
def MB (w : World) (b n : Nat) (s : Int -> Bool) : Prop :=
 ∃ D : DataW Unit, w.ownsMap Tryz.prog 3 (plainElem Tryz.prog 4) b n D /\ Go.Maps.IsMap D /\ (∀ p, Eg p -> Go.Maps.has D (.int .i64 p) = s p) /\ ∀ p, Eg p -> D.atKey (.int .i64 p) (.lit (.bool false)) = .lit (.bool (s p))
theorem MB.lt {w : World} {b n : Nat} {s : Int -> Bool} (h : MB w b n s) : b < w.heap.size := by
 obtain ⟨D, h1, -⟩ := h; exact h1.lt
theorem MB.same {w w' : World} {b n : Nat} {s : Int -> Bool} (h : MB w b n s) (he : hat w' b = hat w b) : MB w' b n s := by
 obtain ⟨D, ⟨es, clock, hb, h1⟩, h2⟩ := h;exact ⟨D, ⟨es, clock, he.trans hb, h1⟩, h2⟩
theorem MB.made (w : World) : MB (w.alloc (.map #[] 0)) w.heap.size 0 (fun _ => false) :=
 ⟨.map [], World.ownsMap_made w _ _ _, Go.Maps.isMap_empty, fun _ _ => rfl, fun _ _ => rfl⟩
theorem Yb (w : World) : (zeroValue 4).run Tryz.prog w = .ok (.bool false) w := by kernel_rfl
theorem Mm {v : Value} {x : Bool} {ps : List MemPlace} (h : plainElem (H := Unit) Tryz.prog 4 v = some (.lit (.bool x), ps)) : v = .bool x := by
 cases v <;> simp [plainElem, Tryz.underlying4] at h
 rw [h.1]
theorem MB.look {w : World} {b n : Nat} {s : Int -> Bool} (h : MB w b n s) {p : Int} (hp : Eg p) : (Instr.lookup 58 (.map (some b)) (.int .i64 p) false).run Tryz.prog w = .ok (.bool (s p)) w := by
 obtain ⟨D, h1, -, -, h3⟩ := h;obtain ⟨v, ps, hr, hv⟩ := h1.lookup (Go.Maps.int_keyed Tryz.underlying3) Tryz.underlying58 (Yb w) (zd := .lit (.bool false)) (zp := []) (by simp [plainElem, Tryz.underlying4]) (Li hp);rw [h3 p hp] at hv;rw [Mm hv] at hr;exact hr
theorem MB.put {w : World} {b n : Nat} {s : Int -> Bool} (h : MB w b n s) (hn : n < maxLen) {p : Int} (hp : Eg p) :
  ∃ w', (Instr.mapUpdate 58 (.map (some b)) (.int .i64 p) (.bool true)).run Tryz.prog w = .ok () w' /\ MB w' b (n + 1) (fun q => s q || decide (q = p)) /\ w.mapTurned w' b := by
 obtain ⟨D, h1, h0, h2, h3⟩ := h;obtain ⟨w', hr, ho, ht⟩ := h1.store (Go.Maps.int_keyed Tryz.underlying3) Tryz.underlying58 hn (Li hp) (d := .lit (.bool true)) (ps := []) (val := .bool true) (by simp [plainElem, Tryz.underlying4]);refine ⟨w', hr, ⟨_, ho, h0.put _ _, fun q hq => ?_, fun q hq => ?_⟩, ht⟩
 ·by_cases hqp : q = p
  ·subst hqp;rw [Go.Maps.has_put_same h0 (Ia hq)]; simp
  ·rw [Go.Maps.has_put_other (F6 hqp), h2 q hq]; simp [hqp]
 ·by_cases hqp : q = p
  ·subst hqp;rw [Go.Maps.atKey_put_same h0 (Ia hq)]; simp
  ·rw [Go.Maps.atKey_put_other (F6 hqp), h3 q hq]; simp [hqp]
theorem MB.del {w : World} {b n : Nat} {s : Int -> Bool} (h : MB w b n s) {p : Int} (hp : Eg p) (ty : TypeId) :
  ∃ w', (Builtin.delete_ #[58, 3] ty #[.map (some b), .int .i64 p]).run Tryz.prog w = .ok (.tuple #[]) w' /\ MB w' b n (fun q => s q && !decide (q = p)) /\ w.mapTurned w' b := by
 obtain ⟨D, h1, h0, h2, h3⟩ := h;obtain ⟨w', hr, ho, ht⟩ := h1.drop (Go.Maps.int_keyed Tryz.underlying3) Tryz.underlying58 (Li hp) ty;refine ⟨w', hr, ⟨_, ho, h0.del _, fun q hq => ?_, fun q hq => ?_⟩, ht⟩
 ·by_cases hqp : q = p
  ·subst hqp;rw [Go.Maps.has_del_same]; simp
  ·rw [Go.Maps.has_del_other (F6 hqp), h2 q hq]; simp [hqp]
 ·by_cases hqp : q = p
  ·subst hqp;rw [Go.Maps.atKey_del_same]; simp
  ·rw [Go.Maps.atKey_del_other (F6 hqp), h3 q hq]; simp [hqp]
theorem Bx {w w' : World} {b k : Nat} (h : w.mapTurned w' b) (hk : k ≠ b) (hl : k < w.heap.size) : hat w' k = hat w k := h.grown.block k hl (fun e => hk (by injection e))
section
variable {P : Program} {ops : Array Oper} {Q : Exit -> Act -> World -> Prop}
theorem Au {o : Oper} {a : Act} {j d : Nat} {b : Bool} (ho : o.guard = some (j, b)) {oj : Oper} (hj : ops[j]? = some oj) (hd : oj.dst = some d) (h : gt a d = .bool b) : Region.wanted o (yielded ops a.tmps) = true := by
 have h1 : a.tmps[d]? = some (.bool b) := by
  unfold gt at h;rw [Array.getD_eq_getD_getElem?] at h;cases hx : a.tmps[d]? with
  | none => rw [hx] at h; cases h
  | some v => rw [hx] at h; exact congrArg some h
 have h2 : yielded ops a.tmps j = some b := by
  unfold yielded;rw [hj];simp [hd, h1]
 simp [Region.wanted, ho, h2]
theorem Ac {o : Oper} {a : Act} (ho : o.guard = none) : Region.wanted o (yielded ops a.tmps) = true := by simp [Region.wanted, ho]
theorem Ab {i : Nat} {o : Oper} {K : Act -> World -> Prop} {a : Act} {w w1 : World} {v : Value} (ho : ops[i]? = some o) (hg : Region.wanted o (yielded ops a.tmps) = true)
  (hr : (execOp a.eval o).run P w = .ok (.value v) w1) (hk : K (a.put o.dst v) w1) : wpOp P ops Q i K a w := by
 unfold wpOp;simp only [ho];rw [if_pos hg];refine .inl ?_;unfold Oper.wp;rw [hr];exact hk
theorem Pv {i : Nat} {o : Oper} {K : Act -> World -> Prop} {a : Act} {w : World} {f : FuncId} {args : Array Value} {R : Ending -> World -> Prop} (ho : ops[i]? = some o) (hg : Region.wanted o (yielded ops a.tmps) = true)
  (hr : (execOp a.eval o).run P w = .ok (.enter f args) w) (hc : Calls P f args w R) (hk : ∀ e w', R e w' -> ∃ v, e = .returned v /\ K (a.put o.dst v) w') : wpOp P ops Q i K a w := by
 unfold wpOp;simp only [ho];rw [if_pos hg];refine .inl ?_;unfold Oper.wp;rw [hr];refine hc.mono fun e w' hR => ?_
 obtain ⟨v, rfl, hK⟩ := hk e w' hR;exact hK
end
def Bt (X Y : Int) (img : Value) (gw N cw : Nat) (bc bt bf : Nat) (qf : Value) : Array Value :=
 #[.int .i64 X, .int .i64 Y, img, .slice (some ⟨gw, 0, none⟩) N cw, .map (some bc), .map (some bt), .map (some bf), qf]
@[go_sem] theorem pZ (raw : Result Value) (w : World) (a b c d e f g h : Value) (t : TypeId) (fr : Nat × Nat) : El raw 2 0 w (some (.cells #[a, b, c, d, e, f, g, h] t fr)) = .ok (.agg #[a, b]) w := by
 rw [Cy (by simp)]; rfl
theorem gG (X Y p : Int) (img qf : Value) (gl gw N cw bc bt bf n : Nat) (s : Int -> Bool) (w : World) (hl : hat w gl = some (.cells (Bt X Y img gw N cw bc bt bf qf) 62)) (hc : MB w bc n s) (hn : n < maxLen) (hp : Eg p)
  (hd : isD X Y p = true) (hs : s p = false) :
  Calls Tryz.prog 87 #[.pointer (some ⟨gl, 0, none⟩), .int .i64 p] w fun e w' => e = .returned (.bool true) /\ ∃ w1, Below w.heap.size w w1 /\ w1.mapTurned w' bc /\ MB w' bc (n + 1) (fun q => s q || decide (q = p)) := by
 go_enter Tryz.func87, Tryz.ntmps87;unfold Bt at hl;have HC := sW hc;clear hc;go_wp2_with fail;refine (Pj X Y p _).mono ?_; rintro e w1 ⟨rfl, hb⟩;rw [hd];obtain ⟨hl1, -⟩ := hop hb hl;have hc1 := HC.out.same (Ba hb HC.out.lt);have hlk := hc1.look hp;rw [hs] at hlk;obtain ⟨w2, hr, hm, ht⟩ := hc1.put hn hp;have HM := sW hm;have HT := sW ht;have HB := sW hb;clear hm ht hb hl hc1 HC;go_wp2_with fail;go_ret;exact ⟨rfl, w1, HB.out, HT.out, HM.out⟩
theorem lD (X Y p : Int) (img qf : Value) (gl gw N cw bc bt bf n : Nat) (s : Int -> Bool) (w : World) (hl : hat w gl = some (.cells (Bt X Y img gw N cw bc bt bf qf) 62)) (hc : MB w bc n s) (hp : Eg p)
  (hd : isD X Y p = false \/ s p = true) :
  Calls Tryz.prog 87 #[.pointer (some ⟨gl, 0, none⟩), .int .i64 p] w fun e w' => e = .returned (.bool false) /\ Below w.heap.size w w' := by
 go_enter Tryz.func87, Tryz.ntmps87;unfold Bt at hl;have HC := sW hc;clear hc;go_wp2_with fail;refine (Pj X Y p _).mono ?_; rintro e w1 ⟨rfl, hb⟩;obtain ⟨hl1, -⟩ := hop hb hl;have hc1 := HC.out.same (Ba hb HC.out.lt);have hlk := hc1.look hp;clear hc1 HC hl;cases hd2 : isD X Y p with
 | false =>
  clear hd;go_wp2_with fail;go_ret;exact ⟨rfl, hb⟩
 | true =>
  rw [hd2] at hd;have hs : s p = true := by rcases hd with h | h <;> first | cases h | exact h
  rw [hs] at hlk;clear hd hs;go_wp2_with fail;go_ret;exact ⟨rfl, hb⟩
theorem Tr (x : Nat) (cs : Array Value) (z : Int) (w : World) (hx : hat w x = some (.cells cs 69)) (hz : cs[2]? = some (.int .i64 z)) (h0 : 0 <= z) (h1 : z <= 136704) :
  Calls Tryz.prog 47 #[.pointer (some ⟨x, 0, none⟩)] w fun e w' => e = .returned (.int .i64 ((z + 127) / 128)) /\ Below w.heap.size w w' := by
 go_enter Tryz.func47, Tryz.ntmps47;go_wp2_with fail;go_ret;exact ⟨aV (by omega), Below.refl _ _⟩
noncomputable def X5 (x y : Int) : List Int × Int := open Classical in if Ef x y then (Bp x y, 0) else (zl 128, 60)
theorem Ss {x y : Int} (h : Ef x y) : X5 x y = (Bp x y, 0) := by unfold X5; rw [if_pos h]
theorem bD {x y : Int} (h : ¬ Ef x y) : X5 x y = (zl 128, 60) := by unfold X5; rw [if_neg h]
theorem Ms (x y : Int) : (Bp x y).length = 128 := by simp [Bp]; decide
@[go_sem, simp] theorem nD (x y : Int) : (X5 x y).1.length = 128 := by
 by_cases h : Ef x y
 ·simp only [Ss h]; exact Ms x y
 ·simp only [bD h, Ca]
def pD (x : Int) : Prop := -9223372036854775808 <= x /\ x <= 9223372036854775807
theorem jA (x y : Int) (w : World) (hx : pD x) (hy : pD y) :
  Calls Tryz.prog 40 #[.agg #[.int .i64 x, .int .i64 y]] w fun e w' => e = .returned (.tuple #[.agg (IV .u8 (X5 x y).1), .int .i64 (X5 x y).2]) /\ Below w.heap.size w w' := by
 by_cases h : Ef x y
 ·simp only [Ss h]; exact Kx x y w h
 ·simp only [bD h]; exact Kw x y w h hx.2 hy.2 hx.1 hy.1
noncomputable def A4 (s : List Int) : Int × Int × Int := open Classical in
 if Ef (Aj s 4 4) (Aj s 8 4) /\ Bp (Aj s 4 4) (Aj s 8 4) = s then (Aj s 4 4, Aj s 8 4, 0) else (0, 0, 60)
theorem Ue (s : List Int) : Dl s = .tuple #[.agg #[.int .i64 (A4 s).1, .int .i64 (A4 s).2.1], .int .i64 (A4 s).2.2] := by
 unfold Dl A4;split <;> rfl
theorem Rc (s : List Int) (hs : s.length = 128) (hb : A0 s) (w : World) :
  Calls Tryz.prog 23 #[.agg (IV .u8 s)] w fun e w' => e = .returned (.tuple #[.agg #[.int .i64 (A4 s).1, .int .i64 (A4 s).2.1], .int .i64 (A4 s).2.2]) /\ Below w.heap.size w w' := by
 rw [<- Ue]; exact Re s hs hb w
theorem Sb (s : List Int) (hs : s.length = 128) (hb : A0 s) (w : World) :
  Calls Tryz.prog 18 #[.agg (IV .u8 s)] w fun e w' => e = .returned (.tuple #[.agg #[.int .i64 (A4 s).1, .int .i64 (A4 s).2.1], .int .i64 (A4 s).2.2]) /\ Below w.heap.size w w' := by
 rw [<- Ue]; exact Se s hs hb w
noncomputable def Da (l : List Int) : List Int × Int := open Classical in if Bu l then (A9 l, 0) else (zl 128, 61)
theorem Ge {l : List Int} (h : Bu l) : Da l = (A9 l, 0) := by unfold Da; rw [if_pos h]
theorem Qa {l : List Int} (h : ¬ Bu l) : Da l = (zl 128, 61) := by unfold Da; rw [if_neg h]
@[go_sem, simp] theorem I2 (l : List Int) : (Da l).1.length = 128 := by
 by_cases h : Bu l
 ·simp only [Ge h]; unfold A9; exact C5 _ _
 ·simp only [Qa h, Ca]
theorem gT (l : List Int) (hl : l.length = 18) (w : World) :
  Calls Tryz.prog 61 #[.agg (IV .i64 l)] w fun e w' => e = .returned (.tuple #[.agg (IV .u8 (Da l).1), .int .i64 (Da l).2]) /\ Below w.heap.size w w' := by
 by_cases h : Bu l
 ·simp only [Ge h]; exact Kp l hl h w
 ·simp only [Qa h]; exact Ko l hl h w
theorem Rv (l : List Int) (hl : l.length = 18) (w : World) :
  Calls Tryz.prog 34 #[.agg (IV .i64 l)] w fun e w' => e = .returned (.tuple #[.agg (IV .u8 (Da l).1), .int .i64 (Da l).2]) /\ Below w.heap.size w w' := by
 by_cases h : Bu l
 ·simp only [Ge h]; exact Ku l hl h w
 ·simp only [Qa h]; exact Kt l hl h w
noncomputable def Al (s : List Int) : List Int × Int := open Classical in
 if Bu (D8 (Aj s 8 8) s) /\ A9 (D8 (Aj s 8 8) s) = s then (D8 (Aj s 8 8) s, 0) else (zl 18, 61)
theorem Uc (s : List Int) : Lp s = .tuple #[.agg (IV .i64 (Al s).1), .int .i64 (Al s).2] := by
 unfold Lp Al;split <;> rfl
@[go_sem, simp] theorem Br (s : List Int) : (Al s).1.length = 18 := by
 unfold Al;split
 ·exact Kc _ _
 ·simp
theorem Y2 (s : List Int) (hs : s.length = 128) (hb : A0 s) (w : World) :
  Calls Tryz.prog 46 #[.agg (IV .u8 s)] w fun e w' => e = .returned (.tuple #[.agg (IV .i64 (Al s).1), .int .i64 (Al s).2]) /\ Below w.heap.size w w' := by
 rw [<- Uc]; exact Rd s hs hb w
theorem Zo (s : List Int) (hs : s.length = 128) (hb : A0 s) (w : World) :
  Calls Tryz.prog 19 #[.agg (IV .u8 s)] w fun e w' => e = .returned (.tuple #[.agg (IV .i64 (Al s).1), .int .i64 (Al s).2]) /\ Below w.heap.size w w' := by
 rw [<- Uc]; exact Sc s hs hb w
noncomputable def Du (x : List Int) : List Int × Int := open Classical in if Gc x then (Dd x 32, 0) else (zl 128, 62)
theorem Ln {l : List Int} (h : Gc l) : Du l = (Dd l 32, 0) := by unfold Du; rw [if_pos h]
theorem Vc {l : List Int} (h : ¬ Gc l) : Du l = (zl 128, 62) := by unfold Du; rw [if_neg h]
theorem aU (x : List Int) : Zf x = .tuple #[.agg (IV .u8 (Du x).1), .int .i64 (Du x).2] := by
 by_cases h : Gc x
 ·simp only [Rn h, Ln h]
 ·simp only [Vd h, Vc h]
@[go_sem, simp] theorem Lm (l : List Int) : (Du l).1.length = 128 := by
 by_cases h : Gc l
 ·simp only [Ln h]; exact Gh _ _
 ·simp only [Vc h, Ca]
theorem gW (x : List Int) (hx : x.length = 32) (w : World) :
  Calls Tryz.prog 89 #[.agg (IV .i64 x)] w fun e w' => e = .returned (.tuple #[.agg (IV .u8 (Du x).1), .int .i64 (Du x).2]) /\ Below w.heap.size w w' := by
 rw [<- aU]; exact Mf x hx w
theorem iW (x : List Int) (hx : x.length = 32) (w : World) :
  Calls Tryz.prog 94 #[.agg (IV .i64 x)] w fun e w' => e = .returned (.tuple #[.agg (IV .u8 (Du x).1), .int .i64 (Du x).2]) /\ Below w.heap.size w w' := by
 rw [<- aU]; exact Mi x hx w
theorem iZ (x : Int) (s : ByteArray) (w : World) (hss : s.size < 4611686018427387904) :
  Calls Tryz.prog 43 #[.agg #[.int .i64 x, .string s]] w fun e w' => e = .returned (.tuple #[.agg (IV .u8 (Ck x s).1), .int .i64 (Ck x s).2]) /\ Below w.heap.size w w' :=
 Hm x s w hss
def A2 (s : List Int) : Int × ByteArray × Int := if Ck (Aj s 0 4) (Mg s) = (s, 0) then (Aj s 0 4, Mg s, 0) else (0, { data := #[] }, 63)
theorem Rt (s : List Int) : De s = .tuple #[.agg #[.int .i64 (A2 s).1, .string (A2 s).2.1], .int .i64 (A2 s).2.2] := by
 unfold De A2;split <;> rfl
theorem Y3 (s : List Int) (hs : s.length = 128) (hb : A0 s) (w : World) :
  Calls Tryz.prog 59 #[.agg (IV .u8 s)] w fun e w' => e = .returned (.tuple #[.agg #[.int .i64 (A2 s).1, .string (A2 s).2.1], .int .i64 (A2 s).2.2]) /\ Below w.heap.size w w' := by
 rw [<- Rt]; exact Th s hs hb w
theorem Zp (s : List Int) (hs : s.length = 128) (hb : A0 s) (w : World) :
  Calls Tryz.prog 71 #[.agg (IV .u8 s)] w fun e w' => e = .returned (.tuple #[.agg #[.int .i64 (A2 s).1, .string (A2 s).2.1], .int .i64 (A2 s).2.2]) /\ Below w.heap.size w w' := by
 rw [<- Rt]; exact Tk s hs hb w
theorem Ds {B : Nat} {a w : World} (h : Below B a w) : Below B a w.drew := ⟨h.os, h.tape, h.output, h.size, h.block⟩
def Gn (w : World) (g o N : Nat) (S : Nat -> List Int) : Prop := ∃ cs t fr, hat w g = some (.cells cs t fr) /\ o + N * 128 <= cs.size /\
 ∀ i, i < N -> (S i).length = 128 /\ A0 (S i) /\ cs.extract (o + i * 128) (o + i * 128 + 128) = IV .u8 (S i)
theorem Gn.lt {w : World} {g o N : Nat} {S : Nat -> List Int} (h : Gn w g o N S) : g < w.heap.size := by
 obtain ⟨cs, t, fr, h1, -⟩ := h; exact Aa h1
theorem Gn.same {w w' : World} {g o N : Nat} {S : Nat -> List Int} (h : Gn w g o N S) (he : hat w' g = hat w g) : Gn w' g o N S := by
 obtain ⟨cs, t, fr, h1, h2⟩ := h;exact ⟨cs, t, fr, he.trans h1, h2⟩
theorem Gn.load {w : World} {g o N : Nat} {S : Nat -> List Int} (h : Gn w g o N S) {i : Nat} (hi : i < N) :
  ∃ cs t fr, hat w g = some (.cells cs t fr) /\ ∀ raw w', El raw 128 (o + i * 128) w' (some (.cells cs t fr)) = .ok (.agg (IV .u8 (S i))) w' := by
 obtain ⟨cs, t, fr, h1, h2, h3⟩ := h;refine ⟨cs, t, fr, h1, fun raw w' => ?_⟩;rw [Cy (by omega), (h3 i hi).2.2]
theorem Gn.len {w : World} {g o N : Nat} {S : Nat -> List Int} (h : Gn w g o N S) {i : Nat} (hi : i < N) : (S i).length = 128 /\ A0 (S i) := by
 obtain ⟨cs, t, fr, h1, h2, h3⟩ := h;exact ⟨(h3 i hi).1, (h3 i hi).2.1⟩
noncomputable def Cj (s : List Int) : Bool := decide ((Al s).2 = 0) && !decide (nth (Al s).1 0 = 0)
theorem O2 (X Y : Int) (qf : Value) (gi oi N ci : Nat) (S : Nat -> List Int) (gl gw NW cw bc bt bf : Nat) (i : Nat) (w : World) (hl : hat w gl = some (.cells (Bt X Y (.slice (some ⟨gi, oi, none⟩) N ci) gw NW cw bc bt bf qf) 62))
  (hS : Gn w gi oi N S) (h1 : 1 <= i) (hY : (i : Int) <= Y) (hN : Y < N) (hN2 : N <= 4096) :
  Calls Tryz.prog 25 #[.pointer (some ⟨gl, 0, none⟩), .int .i64 i] w fun e w' => e = .returned (.tuple #[.agg (IV .i64 (Al (S i)).1), .bool (Cj (S i))]) /\ Below w.heap.size w w' := by
 unfold Bt at hl;have hi : i < N := by omega
 obtain ⟨cs, t, fr, hcs, hld⟩ := hS.load hi;obtain ⟨hlen, hby⟩ := hS.len hi;have hcall := fun w => Y2 (S i) hlen hby w
 have hrl := Br (S i);unfold Cj;generalize (Al (S i)).1 = l at *;generalize (Al (S i)).2 = c at *;have HCALL := sW hcall;clear hcall;have hgl := Aa hl;have hgi := Aa hcs;have d1 : decide ((i : Int) < 1) = false := decide_eq_false (by omega);have d2 : decide (Y < (i : Int)) = false := decide_eq_false (by omega);have hiN : (i : Int) < (N : Int) := by omega
 clear hS hlen hby;go_enter Tryz.func25, Tryz.ntmps25;go_wp2_with fail;refine (HCALL.out _).mono ?_; rintro e w1 ⟨rfl, hb⟩;have hsz := hb.size;have hres : hat w1 w.heap.size = some (.cells (IV .i64 (zl 18)) 45) := (Ba hb (A7 w _).2).trans (A7 w _).1;have hlt : w.heap.size < w1.heap.size := Aa hres;have hb0 : Below w.heap.size w w1 := ((Below.refl w.heap.size w).alloc (Nat.le_refl _) _).trans (hb.mono (by simp));have HB := sW hb0;clear hb hsz hb0;cases dc : (c == 0)
 ·go_wp2_with fail;go_region
  go_wp2_with fail;refine Ax Mp rfl (cs := IV .i64 l) rfl (B4 _ _ (D1 hres _).1).1 (by simp [hrl]) rfl ⟨?_, Ds (At (Af HB.out (Nat.le_refl _) _) (by simp; omega) _)⟩;have hc0 : ¬ c = 0 := by simpa using dc
  simp [hc0]
 ·go_wp2_with fail;go_region
  go_wp2_with fail;refine Ax Mp rfl (cs := IV .i64 l) rfl (B4 _ _ (D1 hres _).1).1 (by simp [hrl]) rfl ⟨?_, Ds (At (Af HB.out (Nat.le_refl _) _) (by simp; omega) _)⟩;have hc0 : c = 0 := by simpa using dc
  by_cases h0 : nth l 0 = 0 <;> simp [hc0, h0]
theorem Dx {α : Type} {l : List α} {k : Nat} (h : k < l.length) : ∃ x, l[k]? = some x := ⟨l[k], List.getElem?_eq_getElem h⟩
theorem H9 {α : Type} {l : List α} {k : Nat} {x : α} (h : l[k]? = some x) : l.drop k = x :: l.drop (k + 1) := by
 obtain ⟨hk, rfl⟩ := List.getElem?_eq_some_iff.1 h;exact List.drop_eq_getElem_cons hk
theorem Nv {pre r : List Int} {p : Int} {k : Nat} (h : pre.length = k) : (pre ++ p :: r).set k 0 = (pre ++ [0]) ++ r := by
 subst h; simp
def Av {σ : Type} (Ar : Int -> σ -> Bool × σ) (keepP : Nat -> Int -> σ -> Bool × σ) (base step n : Int) : Nat -> List Int -> σ -> List Int × Bool × σ
 | _, [], st => ([], false, st)
 | k, p :: r, st =>
  if p = 0 then (0 :: (Av Ar keepP base step n (k + 1) r st).1, (Av Ar keepP base step n (k + 1) r st).2.1, (Av Ar keepP base step n (k + 1) r st).2.2)
  else if n <= base + step * k then (0 :: (Av Ar keepP base step n (k + 1) r st).1, (Av Ar keepP base step n (k + 1) r st).2.1, (Av Ar keepP base step n (k + 1) r st).2.2)
  else if (Ar p st).1 = false then (0 :: (Av Ar keepP base step n (k + 1) r (Ar p st).2).1, (Av Ar keepP base step n (k + 1) r (Ar p st).2).2.1, (Av Ar keepP base step n (k + 1) r (Ar p st).2).2.2)
  else if (keepP k p (Ar p st).2).1 = false then
   (0 :: (Av Ar keepP base step n (k + 1) r (keepP k p (Ar p st).2).2).1, (Av Ar keepP base step n (k + 1) r (keepP k p (Ar p st).2).2).2.1, (Av Ar keepP base step n (k + 1) r (keepP k p (Ar p st).2).2).2.2)
  else (p :: (Av Ar keepP base step n (k + 1) r (keepP k p (Ar p st).2).2).1, true, (Av Ar keepP base step n (k + 1) r (keepP k p (Ar p st).2).2).2.2)
theorem Ep {σ : Type} (Ar : Int -> σ -> Bool × σ) (keepP : Nat -> Int -> σ -> Bool × σ) (base step n : Int) (k : Nat) (p : Int) (r : List Int) (st : σ) : Av Ar keepP base step n k (p :: r) st =
  if p = 0 then (0 :: (Av Ar keepP base step n (k + 1) r st).1, (Av Ar keepP base step n (k + 1) r st).2.1, (Av Ar keepP base step n (k + 1) r st).2.2)
  else if n <= base + step * k then (0 :: (Av Ar keepP base step n (k + 1) r st).1, (Av Ar keepP base step n (k + 1) r st).2.1, (Av Ar keepP base step n (k + 1) r st).2.2)
  else if (Ar p st).1 = false then (0 :: (Av Ar keepP base step n (k + 1) r (Ar p st).2).1, (Av Ar keepP base step n (k + 1) r (Ar p st).2).2.1, (Av Ar keepP base step n (k + 1) r (Ar p st).2).2.2)
  else if (keepP k p (Ar p st).2).1 = false then
   (0 :: (Av Ar keepP base step n (k + 1) r (keepP k p (Ar p st).2).2).1, (Av Ar keepP base step n (k + 1) r (keepP k p (Ar p st).2).2).2.1, (Av Ar keepP base step n (k + 1) r (keepP k p (Ar p st).2).2).2.2)
  else (p :: (Av Ar keepP base step n (k + 1) r (keepP k p (Ar p st).2).2).1, true, (Av Ar keepP base step n (k + 1) r (keepP k p (Ar p st).2).2).2.2) := rfl
theorem Ej {σ : Type} (Ar : Int -> σ -> Bool × σ) (keepP : Nat -> Int -> σ -> Bool × σ) (base step n : Int) : ∀ (r : List Int) (k : Nat) (st : σ), (Av Ar keepP base step n k r st).1.length = r.length
 | [], _, _ => rfl
 | p :: r, k, st => by
  unfold Av;split
  ·simp [Ej Ar keepP base step n r]
  ·split
   ·simp [Ej Ar keepP base step n r]
   ·split
    ·simp [Ej Ar keepP base step n r]
    ·split
     ·simp [Ej Ar keepP base step n r]
     ·simp [Ej Ar keepP base step n r]
def Gb (w : World) (g o : Nat) (t : TypeId) (sz : Nat) (re : Nat -> Option Value) (ps : List Int) : Prop := ∃ cs, hat w g = some (.cells cs t (0, 0)) /\ cs.size = sz /\ o + ps.length <= cs.size /\ (∀ j p, ps[j]? = some p -> cs[o + j]? = some (.int .i64 p)) /\ ∀ j, (j < o \/ o + ps.length <= j) -> cs[j]? = re j
theorem Gb.same {w w' : World} {g o sz : Nat} {t : TypeId} {re : Nat -> Option Value} {ps : List Int} (h : Gb w g o t sz re ps) (he : hat w' g = hat w g) : Gb w' g o t sz re ps := by
 obtain ⟨cs, h1, h2⟩ := h;exact ⟨cs, he.trans h1, h2⟩
theorem Gb.cell {w : World} {g o j sz : Nat} {t : TypeId} {re : Nat -> Option Value} {ps : List Int} {p : Int} (h : Gb w g o t sz re ps) (hj : ps[j]? = some p) : ∃ cs, hat w g = some (.cells cs t (0, 0)) /\ cs[o + j]? = some (.int .i64 p) := by
 obtain ⟨cs, h1, h2, h3, h4, -⟩ := h;exact ⟨cs, h1, h4 j p hj⟩
theorem Gb.lt {w : World} {g o sz : Nat} {t : TypeId} {re : Nat -> Option Value} {ps : List Int} (h : Gb w g o t sz re ps) : g < w.heap.size := by
 obtain ⟨cs, h1, -⟩ := h; exact Aa h1
theorem Gb.zero {w : World} {g o j sz : Nat} {t : TypeId} {re : Nat -> Option Value} {ps : List Int} (h : Gb w g o t sz re ps) (hj : j < ps.length) : Gb (w.setCell ⟨g, o + j, none⟩ (.int .i64 0)) g o t sz re (ps.set j 0) := by
 obtain ⟨cs, h1, h0, h2, h3, h4⟩ := h;refine ⟨cs.setIfInBounds (o + j) (.int .i64 0), Ah _ _ _ _ _ _ _ h1, by simpa using h0, by simpa using h2, fun i p hi => ?_, fun i hi => ?_⟩;rotate_left
 ·rw [List.length_set] at hi;rw [Array.getElem?_setIfInBounds, if_neg (by omega)];exact h4 i hi
 rw [List.getElem?_set] at hi;rw [Array.getElem?_setIfInBounds];by_cases hij : j = i
 ·subst hij;rw [if_pos rfl, if_pos hj] at hi;obtain rfl := Option.some.inj hi;rw [if_pos rfl, if_pos (by omega)]
 ·rw [if_neg hij] at hi;rw [if_neg (by omega)];exact h3 i p hi
theorem Gb.all {w : World} {g : Nat} {t : TypeId} {re : Nat -> Option Value} {ps : List Int} (h : Gb w g 0 t ps.length re ps) : hat w g = some (.cells (IV .i64 ps) t) := by
 obtain ⟨cs, h1, h0, h2, h3, -⟩ := h;rw [h1];have : cs = IV .i64 ps := by
  apply Array.ext_getElem?
  intro j;rw [Bh];by_cases hj : j < ps.length
  ·have h4 := h3 j ps[j] (List.getElem?_eq_getElem hj);rw [Nat.zero_add] at h4;rw [h4, List.getElem?_eq_getElem hj]; rfl
  ·rw [Array.getElem?_eq_none (by omega), List.getElem?_eq_none (by omega)]; rfl
 rw [this]
theorem Sn {σ : Type} (Ar : Int -> σ -> Bool × σ) (keepP : Nat -> Int -> σ -> Bool × σ) (base step n : Int) (I : World -> σ -> Prop) (lv : Value) (f : Nat) (caps : Array Value) (gp op cp sz : Nat) (tg : TypeId) (re : Nat -> Option Value) (ps : List Int) (st : σ) (w : World)
  (hf : ∀ args w, (callFunc f args).run Tryz.prog w = .ok (.enter f args) w) (hI : I w st) (hN : Gb w gp op tg sz re ps) (hc : ps.length <= cp) (hm : ps.length <= 32) (h0 : 0 <= base) (h1 : base <= 2000) (h2 : 0 <= step) (h3 : step <= 100) (h4 : 0 <= n) (h5 : n <= 100000) (hp : ∀ p ∈ ps, 0 <= p /\ p <= 4294967295)
  (hset : ∀ w st j v, op <= j -> j < op + ps.length -> I w st -> I (w.setCell ⟨gp, j, none⟩ v) st)
  (hgood : ∀ p st w, 0 <= p -> p <= 4294967295 -> I w st -> Calls Tryz.prog 87 #[lv, .int .i64 p] w fun e w' => e = .returned (.bool (Ar p st).1) /\ I w' (Ar p st).2 /\ hat w' gp = hat w gp)
  (hkeep : ∀ (k : Nat) p st w, k < ps.length -> 0 <= p -> p <= 4294967295 -> (∃ s0, (Ar p s0).1 = true) -> I w st -> Calls Tryz.prog f (#[.int .i64 k, .int .i64 p] ++ caps) w fun e w' => e = .returned (.bool (keepP k p st).1) /\ I w' (keepP k p st).2 /\ hat w' gp = hat w gp) :
  Calls Tryz.prog 49 #[lv, .slice (some ⟨gp, op, none⟩) ps.length cp, .int .i64 base, .int .i64 step, .int .i64 n, .func (.func f) #[] caps] w fun e w' =>
   e = .returned (.bool (Av Ar keepP base step n 0 ps st).2.1) /\ I w' (Av Ar keepP base step n 0 ps st).2.2 /\ Gb w' gp op tg sz re (Av Ar keepP base step n 0 ps st).1 := by
 have HI := sW hI;have HN := sW hN;have HS := sW hset;have HG := sW hgood;have HK := sW hkeep;have HP := sW hp;clear hI hN hset hgood hkeep hp;generalize hM : ps.length = M at *;have HM := sW hM;clear hM;go_enter Tryz.func49, Tryz.ntmps49;go_wp2_with fail
 go_loopw [13, 18] (fun lf i wr => ∃ (k : Nat) (pre : List Int) (b : Bool) (st' : σ), k <= M /\ i = .int .i64 k /\ lf = .bool b /\ pre.length = k /\ I wr st' /\ Gb wr gp op tg sz re (pre ++ ps.drop k) /\
   Av Ar keepP base step n 0 ps st = (pre ++ (Av Ar keepP base step n k (ps.drop k) st').1, b || (Av Ar keepP base step n k (ps.drop k) st').2.1, (Av Ar keepP base step n k (ps.drop k) st').2.2)) (fun _ i _ => M - (intOf i).toNat)
 case atStart => exact ⟨0, [], false, st, Nat.zero_le _, rfl, rfl, rfl, HI.out, by simpa using HN.out, by simp⟩
 case round =>
  obtain ⟨k, pre, b, st', hk, rfl, rfl, hpl, hI, hN, he⟩ := hrel;have HI := sW hI;have HN := sW hN;have HE := sW he;have HL := sW hpl;clear hI hN he hpl;by_cases hkM : k < M
  ·obtain ⟨p, hpk⟩ := Dx (l := ps) (k := k) (by rw [HM.out]; exact hkM);have hdr := H9 hpk;have hpb := HP.out p (List.mem_of_getElem? hpk);obtain ⟨hpb0, hpb1⟩ := hpb;have hE := HE.out;rw [hdr, Ep] at hE;have hcell := HN.out.cell (j := k) (p := p) (by rw [List.getElem?_append_right (by rw [HL.out]; exact Nat.le_refl _), HL.out, Nat.sub_self, hdr]; rfl);obtain ⟨cs, hcs, hck⟩ := hcell;have hki0 : (0 : Int) <= (k : Int) := Int.natCast_nonneg _;have hki1 : (k : Int) < (M : Int) := by omega
   have HD := sW hdr;clear hdr HE;by_cases hp0 : p = 0
   ·rw [if_pos hp0] at hE;have HE := sW hE;have dp : (p == 0) = true := by simpa using hp0
    clear hE;go_wp2_with fail;go_roundw
    case rel =>
     refine ⟨k + 1, pre ++ [0], b, st', by omega, by go_num, rfl, by simp [HL.out], HI.out, ?_, ?_⟩
     ·have h := HN.out;rw [HD.out, hp0] at h;simpa using h
     ·rw [HE.out]; simp
    case measure => (show M - (k + 1) < M - k); omega
   ·rw [if_neg hp0] at hE;have dp : (p == 0) = false := by simpa using hp0
    have hks : 0 <= step * (k : Int) /\ step * (k : Int) <= 3200 := ⟨Int.mul_nonneg h2 hki0, by have := Int.mul_le_mul h3 (show (k : Int) <= 32 by omega) hki0 (by omega); omega⟩;obtain ⟨hks0, hks1⟩ := hks;generalize hSK : step * (k : Int) = SK at *;by_cases hnb : n <= base + SK
    ·rw [if_pos hnb] at hE;have HE := sW hE;have dn : decide (n <= base + SK) = true := decide_eq_true hnb;clear hE;have hz := HN.out.zero (j := k) (by simp [HL.out, HD.out]);rw [HD.out, Nv HL.out] at hz;have HZ := sW hz;clear hz;go_wp2_with fail;go_roundw
     case rel => exact ⟨k + 1, pre ++ [0], b, st', by omega, by go_num, rfl, by simp [HL.out], HS.out _ _ _ _ (by omega) (by omega) HI.out, HZ.out, by rw [HE.out]; simp⟩
     case measure => (show M - (k + 1) < M - k); omega
    ·rw [if_neg hnb] at hE;have dn : decide (n <= base + SK) = false := decide_eq_false hnb;have HE := sW hE;clear hE;go_wp2_with fail;refine (HG.out p st' wr hpb0 hpb1 HI.out).mono ?_; rintro e w2 ⟨rfl, hI2, hg2⟩;have HI2 := sW hI2;have hcs2 := hg2.trans hcs;have hN2 := HN.out.same hg2;have hz := (hN2.zero (j := k) (by simp [HL.out, HD.out]));have hd2 := hN2;rw [HD.out, Nv HL.out] at hz;have HZ := sW hz;have HN2 := sW hN2;clear hI2 hz hd2 hN2 hg2;cases hgb : (Ar p st').1 with
     | false =>
      have hE := HE.out;rw [if_pos hgb] at hE;have HE := sW hE;clear hE hgb;go_wp2_with fail;go_roundw
      case rel => exact ⟨k + 1, pre ++ [0], b, (Ar p st').2, by omega, by go_num, rfl, by simp [HL.out], HS.out _ _ _ _ (by omega) (by omega) HI2.out, HZ.out, by rw [HE.out]; simp⟩
      case measure => (show M - (k + 1) < M - k); omega
     | true =>
      have hE := HE.out;rw [if_neg (by rw [hgb]; decide)] at hE;have HE := sW hE;have HGB : Hid (∃ s0, (Ar p s0).1 = true) := sW ⟨st', hgb⟩;clear hE hgb;go_wp2_with fail;refine (HK.out k p (Ar p st').2 w2 hkM hpb0 hpb1 HGB.out HI2.out).mono ?_; rintro e w3 ⟨rfl, hI3, hg3⟩;have HI3 := sW hI3;have hcs3 := hg3.trans hcs2;have hN3 := HN2.out.same hg3;have hz := (hN3.zero (j := k) (by simp [HL.out, HD.out]));have hd3 := hN3;rw [HD.out, Nv HL.out] at hz;rw [HD.out] at hd3;have HZ := sW hz;have HD3 := sW hd3;clear hI3 hz hd3 hN3 hg3 hcs2;cases hkb : (keepP k p (Ar p st').2).1 with
      | false =>
       have hE := HE.out;rw [if_pos hkb] at hE;have HE := sW hE;clear hE hkb;go_wp2_with fail;go_roundw
       case rel => exact ⟨k + 1, pre ++ [0], b, (keepP k p (Ar p st').2).2, by omega, by go_num, rfl, by simp [HL.out], HS.out _ _ _ _ (by omega) (by omega) HI3.out, HZ.out, by rw [HE.out]; simp⟩
       case measure => (show M - (k + 1) < M - k); omega
      | true =>
       have hE := HE.out;rw [if_neg (by rw [hkb]; decide)] at hE;have HE := sW hE;clear hE hkb;go_wp2_with fail;go_roundw
       case rel => exact ⟨k + 1, pre ++ [p], true, (keepP k p (Ar p st').2).2, by omega, by go_num, rfl, by simp [HL.out], HI3.out, by simpa using HD3.out, by rw [HE.out]; simp⟩
       case measure => (show M - (k + 1) < M - k); omega
  ·obtain rfl : k = M := by omega
   have hdr : ps.drop k = [] := List.drop_of_length_le (by rw [HM.out]; exact Nat.le_refl _);have hE := HE.out;have hNN := HN.out;rw [hdr] at hE hNN;simp [Av] at hE hNN;have HNN := sW hNN;have HE := sW hE;clear hE hNN hdr HN;go_wp2_with fail;go_ret;rw [HE.out];exact ⟨rfl, HI.out, HNN.out⟩
theorem Qv (n : Nat) : ∀ l : List Nat, l.Pairwise (· ≠ ·) -> l.length <= (l.filter fun x => x != n).length + 1
 | [], _ => by simp
 | x :: r, hp => by
  rw [List.pairwise_cons] at hp;by_cases hx : x = n
  ·subst hx;have hr : r.filter (fun y => y != x) = r := by
    rw [List.filter_eq_self];intro y hy;have := hp.1 y hy;simpa using fun e => this e.symm
   rw [List.filter_cons_of_neg (by simp), hr];simp
  ·rw [List.filter_cons_of_pos (by simpa using hx)];have := Qv n r hp.2;rw [List.length_cons, List.length_cons]; omega
theorem Qr : ∀ (n : Nat) (l : List Nat), l.Pairwise (· ≠ ·) -> (∀ x ∈ l, x < n) -> l.length <= n
 | 0, l, _, h => by
  cases l with
  | nil => simp
  | cons x r => exact absurd (h x (by simp)) (by omega)
 | n + 1, l, hp, h => by
  have h1 : (l.filter fun x => x != n).length <= n := Qr n _ (hp.filter _) (fun x hx => by
   rw [List.mem_filter] at hx;have := h x hx.1;have h2 : x ≠ n := by simpa using hx.2
   omega)
  have := Qv n l hp;omega
def Yw : Lit -> Nat
 | .int _ p => p.toNat
 | _ => 0
theorem T7 {α : Type} (l : List α) (f : α -> Nat) (R : α -> α -> Prop) (hp : l.Pairwise R) (hf : ∀ a ∈ l, ∀ b ∈ l, R a b -> f a ≠ f b) : (l.map f).Pairwise (· ≠ ·) := by
 induction l with
 | nil => simp
 | cons x r ih =>
  rw [List.pairwise_cons] at hp;rw [List.map_cons, List.pairwise_cons];refine ⟨fun y hy => ?_, ih hp.2 (fun a ha b hb => hf a (by simp [ha]) b (by simp [hb]))⟩;obtain ⟨z, hz, rfl⟩ := List.mem_map.1 hy;exact hf x (by simp) z (by simp [hz]) (hp.1 z hz)
theorem L4 {p : Int} (h : (Lit.int .i64 p).wf = true) : Eg p := by
 simp [Lit.wf, IntKind.min, IntKind.max, IntKind.signed, IntKind.bits] at h;exact ⟨by omega, by omega⟩
theorem Ou {w : World} {R : Value -> Option (DataW Unit × List MemPlace)} {b n : Nat} {D : DataW Unit} (h : w.ownsMap Tryz.prog 3 R b n D) (hk : ∀ p, Eg p -> Go.Maps.has D (.int .i64 p) = true -> 0 <= p /\ p < 4096) : w.ownsMap Tryz.prog 3 R b 4096 D := by
 have htidy := h.tidy (Go.Maps.int_keyed Tryz.underlying3);obtain ⟨es, clock, hb, F, hs, hD⟩ := h;refine ⟨es, clock, hb, F, ?_, hD⟩;obtain ⟨l, hl, hp⟩ := htidy;have hlen : es.size = l.length := by
  rw [hl] at hD;injection hD with hD
  have h2 := congrArg List.length hD;rw [length_sorted] at h2;simpa using h2.symm
 have hkey : ∀ x ∈ l, ∃ p : Int, x.1 = .int .i64 p /\ 0 <= p /\ p < 4096 := fun x hx => by
  have hx0 := hx;rw [hl] at hD;injection hD with hD
  rw [hD] at hx;have hx2 := (WideShapes.sorted_perm _).mem_iff.1 hx;obtain ⟨v, hv⟩ := Go.Maps.fit_keys F x hx2;have hkl : WideAt.IsKeyLit x.1 := (Go.Maps.int_keyed Tryz.underlying3).key hv;obtain ⟨p, -, h1, hw⟩ := Go.Maps.keyOf_int_inv Tryz.underlying3 hv;have hhas : Go.Maps.has D (.int .i64 p) = true := by
   rw [hl, <- h1];show l.any _ = true
   rw [List.any_eq_true];exact ⟨x, hx0, WideAt.sameKey_self hkl⟩
  exact ⟨p, h1, hk p (L4 hw) hhas⟩
 rw [hlen];have := Qr 4096 (l.map fun x => Yw x.1) (T7 l _ _ hp (fun a ha b hb hab e => by
  obtain ⟨p, h1, h2, h3⟩ := hkey a ha;obtain ⟨q, h4, h5, h6⟩ := hkey b hb;rw [h1, h4] at hab e;simp only [Yw] at e;exact hab (by rw [show p = q by omega]))) (fun x hx => by
  obtain ⟨z, hz, rfl⟩ := List.mem_map.1 hx;obtain ⟨p, h1, h2, h3⟩ := hkey z hz;rw [h1];simp only [Yw]; omega)
 simpa using this
def SB (w : World) (b : Nat) (s : Int -> Bool) : Prop := MB w b 4096 s /\ ∀ p, s p = true -> 0 <= p /\ p < 4096
theorem MB.tight {w : World} {b n : Nat} {s : Int -> Bool} (h : MB w b n s) (hs : ∀ p, s p = true -> 0 <= p /\ p < 4096) : SB w b s := by
 obtain ⟨D, h1, h2, h3, h4⟩ := h;exact ⟨⟨D, Ou h1 (fun p hp hh => hs p (by rw [<- h3 p hp]; exact hh)), h2, h3, h4⟩, hs⟩
theorem SB.same {w w' : World} {b : Nat} {s : Int -> Bool} (h : SB w b s) (he : hat w' b = hat w b) : SB w' b s := ⟨h.1.same he, h.2⟩
theorem SB.lt {w : World} {b : Nat} {s : Int -> Bool} (h : SB w b s) : b < w.heap.size := h.1.lt
def Bi (s : Int -> Bool) (p : Int) : Int -> Bool := fun q => s q || decide (q = p)
def Pw (s : Int -> Bool) (p : Int) : Int -> Bool := fun q => s q && !decide (q = p)
theorem MB.added {w : World} {b n : Nat} {s : Int -> Bool} {p : Int} (h : MB w b n (fun q => s q || decide (q = p))) (hs : ∀ p, s p = true -> 0 <= p /\ p < 4096) (hp : 0 <= p /\ p < 4096) : SB w b (Bi s p) := by
 refine MB.tight (s := Bi s p) h fun q hq => ?_
 have hq2 : s q = true \/ q = p := by simpa [Bi] using hq
 rcases hq2 with hq | rfl
 ·exact hs q hq
 ·exact hp
theorem F4 {p : Int} (h0 : 0 <= p) (h1 : p <= 4294967295) : Eg p := ⟨by omega, by omega⟩
theorem SB.put {w : World} {b : Nat} {s : Int -> Bool} (h : SB w b s) {p : Int} (hp : 0 <= p /\ p < 4096) :
  ∃ w', (Instr.mapUpdate 58 (.map (some b)) (.int .i64 p) (.bool true)).run Tryz.prog w = .ok () w' /\ SB w' b (Bi s p) /\ w.mapTurned w' b := by
 obtain ⟨w', h1, h2, h3⟩ := h.1.put (by unfold maxLen; omega) (p := p) (F4 hp.1 (by omega));exact ⟨w', h1, h2.added h.2 hp, h3⟩
theorem SB.del {w : World} {b : Nat} {s : Int -> Bool} (h : SB w b s) {p : Int} (hp : 0 <= p /\ p <= 4294967295) (ty : TypeId) :
  ∃ w', (Builtin.delete_ #[58, 3] ty #[.map (some b), .int .i64 p]).run Tryz.prog w = .ok (.tuple #[]) w' /\ SB w' b (Pw s p) /\ w.mapTurned w' b := by
 obtain ⟨w', h1, h2, h3⟩ := h.1.del (p := p) (F4 hp.1 hp.2) ty;refine ⟨w', h1, MB.tight (s := Pw s p) h2 fun q hq => ?_, h3⟩;have hq2 : s q = true /\ ¬ q = p := by simpa [Pw] using hq
 exact h.2 q hq2.1
def MI (w : World) (b n : Nat) (f : Int -> Option Int) : Prop :=
 ∃ D : DataW Unit, w.ownsMap Tryz.prog 3 (plainElem Tryz.prog 3) b n D /\ Go.Maps.IsMap D /\ (∀ p, Eg p -> Go.Maps.has D (.int .i64 p) = (f p).isSome) /\ ∀ p, Eg p -> D.atKey (.int .i64 p) (.lit (.int .i64 0)) = .lit (.int .i64 ((f p).getD 0))
theorem MI.lt {w : World} {b n : Nat} {f : Int -> Option Int} (h : MI w b n f) : b < w.heap.size := by
 obtain ⟨D, h1, -⟩ := h; exact h1.lt
theorem MI.same {w w' : World} {b n : Nat} {f : Int -> Option Int} (h : MI w b n f) (he : hat w' b = hat w b) : MI w' b n f := by
 obtain ⟨D, ⟨es, clock, hb, h1⟩, h2⟩ := h;exact ⟨D, ⟨es, clock, he.trans hb, h1⟩, h2⟩
theorem MI.made (w : World) : MI (w.alloc (.map #[] 0)) w.heap.size 0 (fun _ => none) :=
 ⟨.map [], World.ownsMap_made w _ _ _, Go.Maps.isMap_empty, fun _ _ => rfl, fun _ _ => rfl⟩
theorem mL (w : World) : (zeroValue 3).run Tryz.prog w = .ok (.int .i64 0) w := by kernel_rfl
theorem Pk {a : Int} (h : Eg a) : plainElem (H := Unit) Tryz.prog 3 (.int .i64 a) = some (.lit (.int .i64 a), []) := plainElem_int Tryz.underlying3 (mU h)
theorem MI.look {w : World} {b n : Nat} {f : Int -> Option Int} (h : MI w b n f) {p : Int} (hp : Eg p) :
  (Instr.lookup 67 (.map (some b)) (.int .i64 p) true).run Tryz.prog w = .ok (.tuple #[.int .i64 ((f p).getD 0), .bool (f p).isSome]) w := by
 obtain ⟨D, h1, -, h2, h3⟩ := h;obtain ⟨v, ps, hr, hv⟩ := h1.look_ok (Go.Maps.int_keyed Tryz.underlying3) Tryz.underlying67 (mL w) (zd := .lit (.int .i64 0)) (zp := []) (Pk ⟨by omega, by omega⟩) (Li hp);rw [h3 p hp] at hv;obtain ⟨a, rfl, ha, -⟩ := plainElem_int_inv Tryz.underlying3 hv;have ha2 : (f p).getD 0 = a := by
  have := congrArg Prod.fst ha;simpa using this
 rw [h2 p hp, <- ha2] at hr;exact hr
def Ee (f : Int -> Option Int) (p a : Int) : Int -> Option Int := fun q => if q = p then some a else f q
theorem MI.put {w : World} {b n : Nat} {f : Int -> Option Int} (h : MI w b n f) (hn : n < maxLen) {p a : Int} (hp : Eg p) (ha : Eg a) :
  ∃ w', (Instr.mapUpdate 67 (.map (some b)) (.int .i64 p) (.int .i64 a)).run Tryz.prog w = .ok () w' /\ MI w' b (n + 1) (Ee f p a) /\ w.mapTurned w' b := by
 obtain ⟨D, h1, h0, h2, h3⟩ := h;obtain ⟨w', hr, ho, ht⟩ := h1.store (Go.Maps.int_keyed Tryz.underlying3) Tryz.underlying67 hn (Li hp) (d := .lit (.int .i64 a)) (ps := []) (val := .int .i64 a) (Pk ha);refine ⟨w', hr, ⟨_, ho, h0.put _ _, fun q hq => ?_, fun q hq => ?_⟩, ht⟩
 ·unfold Ee;by_cases hqp : q = p
  ·subst hqp;rw [Go.Maps.has_put_same h0 (Ia hq)]; simp
  ·rw [Go.Maps.has_put_other (F6 hqp), h2 q hq, if_neg hqp]
 ·unfold Ee;by_cases hqp : q = p
  ·subst hqp;rw [Go.Maps.atKey_put_same h0 (Ia hq)]; simp
  ·rw [Go.Maps.atKey_put_other (F6 hqp), h3 q hq, if_neg hqp]
def IB (w : World) (b : Nat) (f : Int -> Option Int) : Prop := MI w b 4096 f /\ ∀ p, (f p).isSome = true -> 0 <= p /\ p < 4096
theorem MI.tight {w : World} {b n : Nat} {f : Int -> Option Int} (h : MI w b n f) (hs : ∀ p, (f p).isSome = true -> 0 <= p /\ p < 4096) : IB w b f := by
 obtain ⟨D, h1, h2, h3, h4⟩ := h;exact ⟨⟨D, Ou h1 (fun p hp hh => hs p (by rw [<- h3 p hp]; exact hh)), h2, h3, h4⟩, hs⟩
theorem IB.same {w w' : World} {b : Nat} {f : Int -> Option Int} (h : IB w b f) (he : hat w' b = hat w b) : IB w' b f := ⟨h.1.same he, h.2⟩
theorem IB.lt {w : World} {b : Nat} {f : Int -> Option Int} (h : IB w b f) : b < w.heap.size := h.1.lt
theorem IB.put {w : World} {b : Nat} {f : Int -> Option Int} (h : IB w b f) {p a : Int} (hp : 0 <= p /\ p < 4096) (ha : Eg a) :
  ∃ w', (Instr.mapUpdate 67 (.map (some b)) (.int .i64 p) (.int .i64 a)).run Tryz.prog w = .ok () w' /\ IB w' b (Ee f p a) /\ w.mapTurned w' b := by
 obtain ⟨w', h1, h2, h3⟩ := h.1.put (by unfold maxLen; omega) (p := p) (F4 hp.1 (by omega)) ha;refine ⟨w', h1, h2.tight fun q hq => ?_, h3⟩;unfold Ee at hq;by_cases hqp : q = p
 ·subst hqp; exact hp
 ·rw [if_neg hqp] at hq;exact h.2 q hq
structure Fr (ex : List Nat) (w w' : World) : Prop where
 os : w'.os = w.os
 tape : w'.tape = w.tape
 output : w'.output = w.output
 size : w.heap.size <= w'.heap.size
 block : ∀ b, b < w.heap.size -> b ∉ ex -> hat w' b = hat w b
theorem Fr.refl (ex : List Nat) (w : World) : Fr ex w w := ⟨rfl, rfl, rfl, Nat.le_refl _, fun _ _ _ => rfl⟩
theorem Fr.trans {ex : List Nat} {a b c : World} (h : Fr ex a b) (h2 : Fr ex b c) : Fr ex a c :=
 ⟨h2.os.trans h.os, h2.tape.trans h.tape, h2.output.trans h.output, Nat.le_trans h.size h2.size, fun k hk hn => (h2.block k (Nat.lt_of_lt_of_le hk h.size) hn).trans (h.block k hk hn)⟩
theorem Fr.mono {ex ex' : List Nat} {a b : World} (h : Fr ex a b) (hs : ∀ k ∈ ex, k ∈ ex') : Fr ex' a b :=
 ⟨h.os, h.tape, h.output, h.size, fun k hk hn => h.block k hk fun hm => hn (hs k hm)⟩
theorem Ag {w w' : World} (h : Below w.heap.size w w') (ex : List Nat) : Fr ex w w' := ⟨h.os, h.tape, h.output, h.size, fun b hb _ => h.block b hb⟩
theorem F2 {w w' : World} {b : Nat} (h : w.mapTurned w' b) : Fr [b] w w' :=
 ⟨h.grown.os, h.grown.tape, h.grown.output, h.grown.size, fun k hk hn => Bx h (by simpa using hn) hk⟩
theorem Cl (w : World) (g : Nat) (cs : Array Value) : Fr [g] w (w.setRow g cs) :=
 ⟨(Af (Below.refl 0 w) (Nat.zero_le _) cs).os, (Af (Below.refl 0 w) (Nat.zero_le _) cs).tape, (Af (Below.refl 0 w) (Nat.zero_le _) cs).output, (Af (Below.refl 0 w) (Nat.zero_le _) cs).size, fun k hk hn => Be _ _ _ _ (by simpa using hn)⟩
theorem Ai (w : World) (g i : Nat) (v : Value) : Fr [g] w (w.setCell ⟨g, i, none⟩ v) :=
 ⟨rfl, rfl, rfl, by simp [World.setCell], fun k hk hn => E5 _ ⟨g, i, none⟩ _ _ (by simpa using hn)⟩
theorem Bj {ex : List Nat} {a w : World} (h : Fr ex a w) : Fr ex a w.drew := ⟨h.os, h.tape, h.output, h.size, h.block⟩
theorem Fr.below {ex : List Nat} {w w' : World} {B : Nat} (h : Fr ex w w') (hB : B <= w.heap.size) (he : ∀ k ∈ ex, B <= k) : Below B w w' :=
 ⟨h.os, h.tape, h.output, h.size, fun k hk => h.block k (Nat.lt_of_lt_of_le hk hB) fun hm => by have := he k hm; omega⟩
structure Env where
 (gl gw N bc bt bf bx cw : Nat)
 (X Y : Int)
 (img qf : Value)
def Cf (w : World) (g N c : Nat) (S : Nat -> List Int) : Prop := ∃ cs, hat w g = some (.cells cs 33) /\ (N * 128 <= cs.size /\ c * 128 <= cs.size) /\
 ∀ i, i < N -> (S i).length = 128 /\ A0 (S i) /\ cs.extract (i * 128) (i * 128 + 128) = IV .u8 (S i)
theorem Cf.same {w w' : World} {g N c : Nat} {S : Nat -> List Int} (h : Cf w g N c S) (he : hat w' g = hat w g) : Cf w' g N c S := by
 obtain ⟨cs, h1, h2⟩ := h;exact ⟨cs, he.trans h1, h2⟩
structure LS where
 S : Nat -> List Int
 cl : Int -> Bool
 fm : Int -> Bool
 bk : Int -> Option Int
structure LK (E : Env) (w : World) (st : LS) : Prop where
 look : hat w E.gl = some (.cells (Bt E.X E.Y E.img E.gw E.N E.cw E.bc E.bt E.bf E.qf) 62)
 want : Cf w E.gw E.N E.cw st.S
 claim : SB w E.bc st.cl
 firm : SB w E.bf st.fm
 blocks : IB w E.bx st.bk
structure EOk (E : Env) : Prop where
 small : E.X <= 4096
 pos : 0 <= E.Y
 size : E.X = E.N
 n1 : E.gl ≠ E.gw
 n2 : E.gl ≠ E.bc
 n3 : E.gl ≠ E.bf
 n4 : E.gw ≠ E.bc
 n5 : E.gw ≠ E.bf
 n6 : E.bc ≠ E.bf
 n7 : E.gl ≠ E.bx
 n8 : E.gw ≠ E.bx
 n9 : E.bc ≠ E.bx
 n10 : E.bf ≠ E.bx
theorem LK.fr {E : Env} {w w' : World} {st : LS} {ex : List Nat} (h : LK E w st) (hf : Fr ex w w') (h1 : E.gl ∉ ex) (h2 : E.gw ∉ ex) (h3 : E.bc ∉ ex) (h4 : E.bf ∉ ex) (h5 : E.bx ∉ ex) : LK E w' st := by
 have hw := h.want;obtain ⟨cs, hw1, -⟩ := hw;exact ⟨(hf.block _ (Aa h.look) h1).trans h.look, h.want.same (hf.block _ (Aa hw1) h2), h.claim.same (hf.block _ h.claim.lt h3), h.firm.same (hf.block _ h.firm.lt h4), h.blocks.same (hf.block _ h.blocks.lt h5)⟩
def Ar (E : Env) (p : Int) (st : LS) : Bool × LS := if isD E.X E.Y p = true /\ st.cl p = false then (true, { st with cl := Bi st.cl p }) else (false, st)
theorem Js {E : Env} (h : EOk E) {p : Int} (hd : isD E.X E.Y p = true) : 0 <= p /\ p < 4096 /\ p < E.N := by
 unfold isD at hd;have := of_decide_eq_true hd;have h1 := h.small;have h2 := h.pos;have h3 := h.size;omega
theorem Q5 {E : Env} (hE : EOk E) (p : Int) (st : LS) (w : World) (h0 : 0 <= p) (h1 : p <= 4294967295) (h : LK E w st) :
  Calls Tryz.prog 87 #[.pointer (some ⟨E.gl, 0, none⟩), .int .i64 p] w fun e w' => e = .returned (.bool (Ar E p st).1) /\ LK E w' (Ar E p st).2 /\ Fr [E.bc] w w' := by
 unfold Ar;by_cases hg : isD E.X E.Y p = true /\ st.cl p = false
 ·rw [if_pos hg];have hr := Js hE hg.1;refine (gG E.X E.Y p E.img E.qf E.gl E.gw E.N E.cw E.bc E.bt E.bf 4096 st.cl w h.look h.claim.1 (by unfold maxLen; omega) (F4 h0 h1) hg.1 hg.2).mono ?_;rintro e w' ⟨rfl, w1, hb, ht, hm⟩;have hf : Fr [E.bc] w w' := (Ag hb _).trans (F2 ht);have hlk := h.fr (Ag hb []) (by simp) (by simp) (by simp) (by simp) (by simp);have hw1 := hlk.want;obtain ⟨cs, hw1, -⟩ := hw1;exact ⟨rfl, ⟨(Bx ht hE.n2 (Aa hlk.look)).trans hlk.look, hlk.want.same (Bx ht hE.n4 (Aa hw1)), hm.added h.claim.2 ⟨hr.1, hr.2.1⟩, hlk.firm.same (Bx ht hE.n6.symm hlk.firm.lt), hlk.blocks.same (Bx ht hE.n9.symm hlk.blocks.lt)⟩, hf⟩
 ·rw [if_neg hg];refine (lD E.X E.Y p E.img E.qf E.gl E.gw E.N E.cw E.bc E.bt E.bf 4096 st.cl w h.look h.claim.1 (F4 h0 h1) ?_).mono ?_
  ·cases hd : isD E.X E.Y p with
   | false => exact .inl rfl
   | true =>
    cases hc : st.cl p with
    | true => exact .inr rfl
    | false => exact absurd ⟨hd, hc⟩ hg
  ·rintro e w' ⟨rfl, hb⟩;exact ⟨rfl, h.fr (Ag hb []) (by simp) (by simp) (by simp) (by simp) (by simp), Ag hb _⟩
def Bc (w : World) (v : Value) (ob : Option Nat) (xs : List Int) : Prop :=
 (v = .slice none 0 0 /\ ob = none /\ xs = []) \/
 ∃ g off c cs, v = .slice (some ⟨g, off, none⟩) xs.length c /\ ob = some g /\ hat w g = some (.cells cs 3) /\ xs.length <= c /\ off + c <= cs.size /\ ∀ j p, xs[j]? = some p -> cs[off + j]? = some (.int .i64 p)
theorem Bc.lt {w : World} {v : Value} {ob : Option Nat} {xs : List Int} (h : Bc w v ob xs) : ∀ g, ob = some g -> g < w.heap.size := by
 rintro g rfl;rcases h with ⟨-, h, -⟩ | ⟨g', off, c, cs, -, h, h2, -⟩
 ·cases h
 ·cases h; exact Aa h2
theorem Bc.fr {w w' : World} {v : Value} {ob : Option Nat} {xs : List Int} {ex : List Nat} (h : Bc w v ob xs) (hf : Fr ex w w') (hn : ∀ g, ob = some g -> g ∉ ex) : Bc w' v ob xs := by
 rcases h with h | ⟨g, off, c, cs, h1, h2, h3, h4⟩
 ·exact .inl h
 ·exact .inr ⟨g, off, c, cs, h1, h2, (hf.block _ (Aa h3) (hn g h2)).trans h3, h4⟩
theorem C4 (g off j : Nat) : (⟨g, off, none⟩ : Addr).add j = ⟨g, off + j, none⟩ := by unfold Addr.add; split <;> simp_all
theorem Fj {w : World} {v : Value} {ob : Option Nat} {xs : List Int} (h : Bc w v ob xs) (hn : xs.length <= 100000) (i : Int) (b : Nat) (hb : hat w b = some (.cells #[.int .i64 i] 3)) (ty : TypeId) :
  ∃ v' w' ob', (Builtin.append_ #[24, 24] ty #[v, .slice (some ⟨b, 0, none⟩) 1 1]).run Tryz.prog w = .ok v' w' /\ Bc w' v' ob' (xs ++ [i]) /\ Fr ob.toList w w' /\ (ob' = ob \/ ∃ g, ob' = some g /\ w.heap.size <= g) := by
 have ht : Tryz.prog.underlying 24 = some (.slice 3) := Tryz.underlying24;have h0 : (Tryz.prog.info? 3).map (fun i => (i.size, i.bytes)) = some (1, 8) := by kernel_rfl
 have h00 : (Tryz.prog.info? 3).bind (·.zero) = some (.int .i64 0) := by kernel_rfl
 obtain ⟨inf, hi, hz, hsz, hby⟩ : ∃ inf, Tryz.prog.info? 3 = some inf /\ inf.zero = some (.int .i64 0) /\ inf.size = 1 /\ inf.bytes = 8 := by
  cases hq : Tryz.prog.info? 3 with
  | none => rw [hq] at h0; cases h0
  | some inf =>
   rw [hq] at h0 h00;simp at h0 h00;exact ⟨inf, rfl, h00, h0.1, h0.2⟩
 have hs : ∀ W : World, hat W b = some (.cells #[.int .i64 i] 3) -> Src Tryz.prog inf.size 24 (.slice (some ⟨b, 0, none⟩) 1 1) 1 [.int .i64 i] W := fun W hW =>
  Src.ofSlice W ht ⟨b, 0, none⟩ 1 1 [.int .i64 i] (by rw [hsz]; rfl) (fun j u hj => by
   rw [C4, B0 hW];simpa using hj) (fun u hu => by simp at hu; subst hu; rfl)
 by_cases hroom : ∃ g off c cs, v = .slice (some ⟨g, off, none⟩) xs.length c /\ ob = some g /\ hat w g = some (.cells cs 3) /\ xs.length + 1 <= c /\ off + c <= cs.size /\ ∀ j p, xs[j]? = some p -> cs[off + j]? = some (.int .i64 p)
 ·obtain ⟨g, off, c, cs, rfl, rfl, hg, hc, hcs, hx⟩ := hroom
  have hr := run_append_room_src (P := Tryz.prog) w 24 24 ty 3 inf ht hi g off xs.length c _ 1 [.int .i64 i] (hs w hb) hc
   (fun j hj => by
    rw [hsz, B0 hg];simp at hj;subst hj;rw [Array.getElem?_eq_getElem (by omega)]; rfl)
   (fun j hj => J4 hg _)
  rw [hsz, Nat.mul_one] at hr;refine ⟨_, _, some g, hr, .inr ⟨g, off, c, cs.setIfInBounds (off + xs.length) (.int .i64 i), by simp, rfl, ?_, by simpa using hc, by simpa using hcs, fun j p hj => ?_⟩, ?_, .inl rfl⟩
  ·exact Ah _ _ _ _ _ _ _ hg
  ·rw [Array.getElem?_setIfInBounds];by_cases hjl : j = xs.length
   ·subst hjl;rw [if_pos rfl, if_pos (by omega)];simpa using hj
   ·rw [if_neg (by omega)];have : j < xs.length := by
     have := (List.getElem?_eq_some_iff.1 hj).1;simp at this; omega
    rw [List.getElem?_append_left this] at hj;exact hx j p hj
  ·exact (Ai w g (off + xs.length) (.int .i64 i)).mono (by simp)
 ·obtain ⟨base, cp, hv, hcp, hold⟩ : ∃ base cp, v = .slice base xs.length cp /\ cp < xs.length + 1 /\ (Builtin.firstCells inf.size xs.length (.slice base xs.length cp)).run Tryz.prog w.drew = .ok (xs.map (Value.int .i64)).toArray w.drew := by
   rcases h with ⟨rfl, rfl, rfl⟩ | ⟨g, off, c, cs, rfl, rfl, hg, hc, hcs, hx⟩
   ·exact ⟨none, 0, rfl, by simp, run_firstCells_none w.drew _ 0 0 0⟩
   ·refine ⟨some ⟨g, off, none⟩, c, rfl, ?_, ?_⟩
    ·refine Nat.lt_of_not_le fun hle => hroom ⟨g, off, c, cs, rfl, rfl, hg, by omega, hcs, hx⟩
    ·refine run_firstCells_some w.drew _ xs.length ⟨g, off, none⟩ xs.length c (xs.map (Value.int .i64)) (by rw [hsz]; simp) fun j u hj => ?_
     rw [C4];show w.cell? _ = _
     rw [B0 hg];rw [List.getElem?_map] at hj;cases hxj : xs[j]? with
     | none => rw [hxj] at hj; cases hj
     | some p => rw [hxj] at hj; rw [hx j p hxj, <- hj]; rfl
  subst hv;have hr := run_append_grow_src (P := Tryz.prog) w 24 24 ty 3 inf (.int .i64 0) ht hi hz base xs.length cp _ hold _ 1 [.int .i64 i] (hs w hb) hcp (by omega) (growslice_fits hcp (by rw [hby]; omega));have hge := grownCap_ge w (xs.length + 1) cp 3;refine ⟨_, _, some w.heap.size, hr, .inr ⟨w.heap.size, 0, grownCap w (xs.length + 1) cp 3, _, by rw [List.length_append]; rfl, rfl, A6 w.drew _ _ rfl, by simpa using hge, ?_, fun j p hj => ?_⟩, ?_, .inr ⟨_, rfl, Nat.le_refl _⟩⟩
  ·have hz2 : (Value.int .i64 0).cells.size = 1 := rfl;rw [Array.size_append, size_zeroCells, hz2];simp;omega
  ·have hjl : j < xs.length + 1 := by
    have := (List.getElem?_eq_some_iff.1 hj).1;simpa using this
   rw [Nat.zero_add, Array.getElem?_append_left (by simpa using hjl)];have he : (xs.map (Value.int .i64) ++ [Value.int .i64 i]) = (xs ++ [i]).map (Value.int .i64) := by simp
   rw [he, List.getElem?_toArray, List.getElem?_map, hj];rfl
  ·exact Ag (show Below w.heap.size w (w.drew.alloc _) from Below.alloc (show Below w.heap.size w w.drew from ⟨rfl, rfl, rfl, Nat.le_refl _, fun _ _ => rfl⟩) (Nat.le_refl _) _) _
def Md (w : World) (gr : Nat) (ob : Option Nat) (xs : List Int) : Prop := ∃ v, hat w gr = some (.cells #[v] 24) /\ Bc w v ob xs /\ ob ≠ some gr
theorem Md.fr {w w' : World} {gr : Nat} {ob : Option Nat} {xs : List Int} {ex : List Nat} (h : Md w gr ob xs) (hf : Fr ex w w') (h1 : gr ∉ ex) (h2 : ∀ g, ob = some g -> g ∉ ex) : Md w' gr ob xs := by
 obtain ⟨v, hv, hq, hn⟩ := h;exact ⟨v, (hf.block _ (Aa hv) h1).trans hv, hq.fr hf h2, hn⟩
theorem Md.lt {w : World} {gr : Nat} {ob : Option Nat} {xs : List Int} (h : Md w gr ob xs) : gr < w.heap.size := by
 obtain ⟨v, hv, -⟩ := h; exact Aa hv
theorem Md.blt {w : World} {gr : Nat} {ob : Option Nat} {xs : List Int} (h : Md w gr ob xs) : ∀ g, ob = some g -> g < w.heap.size := by
 obtain ⟨v, hv, hq, -⟩ := h; exact hq.lt
theorem Bc.one {w : World} {v : Value} {ob : Option Nat} {xs : List Int} (h : Bc w v ob xs) : v.oneCell' = true := by
 rcases h with ⟨rfl, -⟩ | ⟨g, off, c, cs, rfl, -⟩ <;> rfl
theorem Bc.slice {w : World} {v : Value} {ob : Option Nat} {xs : List Int} (h : Bc w v ob xs) : ∃ a c, v = .slice a xs.length c := by
 rcases h with ⟨rfl, -, rfl⟩ | ⟨g, off, c, cs, rfl, -⟩
 ·exact ⟨none, 0, rfl⟩
 ·exact ⟨_, _, rfl⟩
theorem Ao {P : Program} (w : World) {ops : Array Oper} {rest : List Oper} {o : Oper} {a : Act} {Q : Exit -> Act -> World -> Prop} (hgd : o.guard = none) (s x : Operand) (t : TypeId)
  (ho : o.op = .call { callee := .builtin .append, args := #[s, x], argTypes := #[t, t] }) (v u : Value) (hs : a.eval s = v) (hx : a.eval x = u) (v' : Value) (w' : World)
  (hr : (Builtin.append_ #[t, t] o.type #[v, u]).run P w = .ok v' w') (h : wpList P ops Q rest (a.put o.dst v') w') : wpList P ops Q (o :: rest) a w := by
 refine wpList_plain hgd fun K hK => ?_
 unfold Oper.wp;simp [execOp, ho, resolve, invoke, builtin, hs, hx, hr, Result.andThen];exact hK _ _ h
theorem dL (gr : Nat) (ob : Option Nat) (xs : List Int) (i : Int) (w : World) (h : Md w gr ob xs) (hn : xs.length <= 100000) :
  Calls Tryz.prog 26 #[.int .i64 i, .pointer (some ⟨gr, 0, none⟩)] w fun e w' => e = .returned (.tuple #[]) /\ ∃ ob', Md w' gr ob' (xs ++ [i]) /\ Fr (gr :: ob.toList) w w' /\ (ob' = ob \/ ∃ g, ob' = some g /\ w.heap.size <= g) := by
 obtain ⟨v, hv, hq, hne⟩ := h;have hgr := Aa hv;have hfa : Fr [] w (w.alloc (.cells #[.int .i64 i] 3)) := Ag ((Below.refl _ w).alloc (Nat.le_refl _) _) _;obtain ⟨v', w', ob', hr, hq', hf', ho'⟩ := Fj (hq.fr hfa (by simp)) hn i w.heap.size (A7 w _).1 24;have hv1 : hat (w.alloc (.cells #[.int .i64 i] 3)) gr = some (.cells #[v] 24) := (B4 w _ hv).1;have hgo : gr ∉ ob.toList := by
  intro hm;cases ob with
  | none => simp at hm
  | some g => simp at hm; exact hne (by rw [hm])
 have hv2 : hat w' gr = some (.cells #[v] 24) := (hf'.block gr (by simp; omega) hgo).trans hv1;obtain ⟨a', c', hsl⟩ := hq'.slice;have HQ := sW hq';have HF := sW hf';have HO := sW ho';have HSL := sW hsl;rw [hsl] at hr;have hz := hfa.size;clear hq' hf' ho' hq hfa hsl;go_enter Tryz.func26, Tryz.ntmps26;go_wp2_with (at_builtin; refine Ao _ rfl (.tmp 3) (.tmp 5) 24 rfl _ _ rfl rfl _ _ hr ?_)
 refine bodyPost_end (results_none rfl _ _ _) rfl ?_;have h2 : Fr [gr] w' (w'.setCell ⟨gr, 0, none⟩ (.slice a' (xs.length + 1) c')) := Ai _ _ _ _;have hlen : (xs ++ [i]).length = xs.length + 1 := by simp
 have hsl := HSL.out;rw [hlen] at hsl;have hob' : ∀ g, ob' = some g -> g ≠ gr := by
  intro g hg e;subst e;rcases HO.out with h | ⟨g', h, hl⟩
  ·exact hne (by rw [<- h, hg])
  ·rw [hg] at h; cases h;simp at hl; omega
 have hQ := HQ.out;rw [hsl] at hQ;refine ⟨rfl, ob', ⟨_, Ah _ _ _ _ _ _ _ hv2, hQ.fr h2 (fun g hg => by simpa using hob' g hg), fun e => hob' gr e rfl⟩, ?_, ?_⟩
 ·exact ((Ag ((Below.refl w.heap.size w).alloc (Nat.le_refl _) _) _).trans (HF.out.mono (fun k hk => List.mem_cons_of_mem _ hk))).trans (h2.mono (by simp))
 ·rcases HO.out with h | ⟨g', h, hl⟩
  ·exact .inl h
  ·exact .inr ⟨g', h, Nat.le_trans hz hl⟩
theorem dI (gr : Nat) (ob : Option Nat) (w : World) (h : Md w gr ob []) :
  Calls Tryz.prog 27 #[.pointer (some ⟨gr, 0, none⟩)] w fun e w' => e = .returned (.tuple #[.int .i64 0, .bool false]) /\ w' = w := by
 obtain ⟨v, hv, hq, hne⟩ := h;obtain ⟨a, c, rfl⟩ := hq.slice;clear hq;go_enter Tryz.func27, Tryz.ntmps27;go_wp2_with fail;go_ret2;exact ⟨rfl, rfl⟩
theorem T9 (gr : Nat) (ob : Option Nat) (x : Int) (xs : List Int) (w : World) (h : Md w gr ob (x :: xs)) :
  Calls Tryz.prog 27 #[.pointer (some ⟨gr, 0, none⟩)] w fun e w' => e = .returned (.tuple #[.int .i64 x, .bool true]) /\ Md w' gr ob xs /\ Fr [gr] w w' := by
 obtain ⟨v, hv, hq, hne⟩ := h;rcases hq with ⟨-, -, h⟩ | ⟨g, off, c, cs, rfl, hob, hg, hc, hcs, hx⟩
 ·cases h
 have h0 := hx 0 x rfl;rw [Nat.add_zero] at h0;have hgg : g ≠ gr := fun e => hne (by rw [hob, e])
 have HX := sW hx;have HNE := sW hne;have HOB := sW hob;simp only [List.length_cons] at hv hc;clear hx hne hob;have hl0 : ((xs.length : Int) + 1 == 0) = false := by simp; omega
 by_cases hc1 : c = 1
 ·subst hc1;obtain rfl : xs = [] := List.eq_nil_of_length_eq_zero (by omega);simp only [List.length_nil, Nat.zero_add] at hv hl0;clear hc;go_enter Tryz.func27, Tryz.ntmps27;go_wp2_with fail;go_ret2;have h2 : Fr [gr] w (w.setCell ⟨gr, 0, none⟩ (.slice (some ⟨g, off, none⟩) 0 0)) := Ai _ _ _ _;refine ⟨rfl, ⟨_, Ah _ _ _ _ _ _ _ hv, .inr ⟨g, off, 0, cs, rfl, HOB.out, (h2.block _ (Aa hg) (by simpa using hgg)).trans hg, by simp, by omega, fun j p hj => by simp at hj⟩, HNE.out⟩, h2⟩
 ·go_enter Tryz.func27, Tryz.ntmps27;go_wp2_with fail;go_ret2;have h2 : Fr [gr] w (w.setCell ⟨gr, 0, none⟩ (.slice (some ⟨g, off + 1, none⟩) xs.length (c - 1))) := Ai _ _ _ _;refine ⟨rfl, ⟨_, Ah _ _ _ _ _ _ _ hv, .inr ⟨g, off + 1, c - 1, cs, rfl, HOB.out, (h2.block _ (Aa hg) (by simpa using hgg)).trans hg, by omega, by omega, fun j p hj => ?_⟩, HNE.out⟩, h2⟩;have := HX.out (j + 1) p (by simpa using hj);rw [show off + 1 + j = off + (j + 1) by omega];exact this
open Go.ChangeShapes Go.WideShapes Go.ChangeAt Go.RowKit
theorem Mt {H : Type} {enc : TypeId × Value -> H} {P : Program} (hl : laidOutB P = true) {W W' : World} (hb : Below W.heap.size W W') :
  ∀ {ts : List TypeId} {vs : List Value} {ds : List (DataW H)} {ps : List MemPlace}, (ts.all fun t => P.readableRec t && decide (t < P.types.size)) = true -> DataW.TrodAll enc P W 0 (fun _ => true) true ts vs ds ps -> (∀ x ∈ ps, x.block < W.heap.size) ->
   DataW.TrodAll enc P W' 0 (fun b => decide (b < W.heap.size)) true ts vs ds ps
 | [], [], [], _, _, h, _ => h
 | [], [], _ :: _, _, _, h, _ => h.elim
 | [], _ :: _, [], _, _, h, _ => h.elim
 | [], _ :: _, _ :: _, _, _, h, _ => h.elim
 | _ :: _, [], [], _, _, h, _ => h.elim
 | _ :: _, [], _ :: _, _, _, h, _ => h.elim
 | _ :: _, _ :: _, [], _, _, h, _ => h.elim
 | t :: ts, v :: vs, d :: ds, ps, hr, ⟨p, q, h1, h2, e⟩, hs => by
  simp only [List.all_cons, Bool.and_eq_true, decide_eq_true_eq] at hr;exact ⟨p, q, Below.trod hl hr.1.1 hr.1.2 h1 hb (fun x hx => hs x (by rw [e]; exact List.mem_append_left _ hx)), Mt hl hb hr.2 h2 (fun x hx => hs x (by rw [e]; exact List.mem_append_right _ hx)), e⟩
theorem iI {H : Type} {enc : TypeId × Value -> H} {P : Program} {f : Func} {s : ChangeSpec} {W W' : World} {args : Array Value} {ds : List (DataW H)} {before : List MemPlace} {T : TypeId} (hl : laidOutB P = true)
  (hW : DataW.Whole enc P f.params.toList s.vars false W args.toList ds [] before) (hvars : s.vars = []) (hres : (s.fn H ds).results = [.lit (.bool true)]) (hargs : (s.fn H ds).args = ds) (hvs : (s.fn H ds).vars = [])
  (hr : (f.params.toList.all fun t => P.readableRec t && decide (t < P.types.size)) = true) (hrt : f.resultTypes = #[T]) (hT : P.underlying T = some .bool) (hb : Below W.heap.size W W') :
  s.post enc P f false true false false W args (.bool true) W' := by
 have hW' := hW;have hlt : ∀ x ∈ before, x.block < W.heap.size := fun x hx => by simpa using hW'.lt x hx
 obtain ⟨p, q, hA, hV, rfl, -, -⟩ := hW;rw [hvars] at hV;have hq : q = [] := (trodVars_none hV).2;subst hq;refine ⟨ds, [], _, [], p, [], hW', ?_, ?_, ?_, hb.frame _, fun h => by cases h⟩
 ·rw [List.append_nil, hres, hrt];exact trodAll_mk1 (shut_bool hT true)
 ·rw [List.append_nil, hargs];exact Mt hl hb hr hA (fun x hx => hlt x (by simp [hx]))
 ·rw [List.append_nil, hvs, hvars];rfl
def Img (w : World) (v : Value) (N : Nat) (S : Nat -> List Int) : Prop :=
 ∃ a ci, v = .slice a N ci /\ N <= ci /\ ci <= maxLen /\ (0 < N -> ∃ gi oi, a = some ⟨gi, oi, none⟩ /\ Gn w gi oi N S)
theorem Img.same {w w' : World} {v : Value} {N : Nat} {S : Nat -> List Int} (h : Img w v N S) (hf : Fr [] w w') : Img w' v N S := by
 obtain ⟨a, ci, h1, h2, h3, h4⟩ := h;refine ⟨a, ci, h1, h2, h3, fun hN => ?_⟩;obtain ⟨gi, oi, h5, h6⟩ := h4 hN;exact ⟨gi, oi, h5, h6.same (hf.block _ h6.lt (by simp))⟩
theorem Wn {w : World} {a : Addr} {v : Value} (h : w.cell? a = some v) : ∃ g o cs t fr, a = ⟨g, o, none⟩ /\ hat w g = some (.cells cs t fr) /\ cs[o]? = some v := by
 obtain ⟨b, off, spot⟩ := a;have hs : spot = none := by simpa using World.cell?_spot h
 subst hs;cases hh : w.heap[b]? with
 | none => unfold World.cell? at h; simp [hh] at h
 | some o =>
  cases o with
  | cells cs t fr => exact ⟨b, off, cs, t, fr, rfl, hh, by rw [<- B0 (w := w) hh]; exact h⟩
  | _ => unfold World.cell? at h; simp [hh] at h
def qB : Value -> Int
 | .int _ n => n
 | _ => 0
theorem Tryz.cellsSec : Tryz.prog.cellsOf 33 = 128 := by kernel_rfl
theorem Tryz.cellsU8 : Tryz.prog.cellsOf 5 = 1 := by kernel_rfl
theorem gL {H : Type} {enc : TypeId × Value -> H} {W : World} {base : Nat} {v : Value} {d : DataW H} {p : List MemPlace} (hv : Value.okWide Tryz.prog W .any base 22 v)
  (h : DataW.Trod enc Tryz.prog W 0 (fun _ => true) true 22 v d p) : ∃ N S, Img W v N S := by
 obtain ⟨a0, len0, cap0, rfl⟩ := okWide_slice Tryz.underlying22 hv;obtain ⟨fuel, hf⟩ := h;rcases Go.Deep.open_slice Tryz.underlying22 hf with ⟨hcs, hx⟩ | ⟨a, len, cap, m, n, D, Pl, hcs, -, hl, hm, hz, hx, hcell⟩
 ·have e : (Value.slice a0 len0 cap0) = .slice none 0 0 := by simpa [Value.cells] using hcs
  rw [e];exact ⟨0, fun _ => [], none, 0, rfl, Nat.le_refl _, by simp, fun h => by omega⟩
 ·have e : (Value.slice a0 len0 cap0) = .slice (some a) len cap := by simpa [Value.cells] using hcs
  rw [e];simp only [if_true] at hz;subst hz;simp only [Tryz.cellsSec] at hcell;have key : ∀ i, i < len -> ∀ j, j < 128 -> ∃ z : Int, W.cell? ((a.add (i * 128)).add j) = some (.int .u8 z) /\ (Lit.int .u8 z).wf = true := by
   intro i hi j hj;obtain ⟨cs', hc, ht⟩ := hcell i (by omega);obtain ⟨-, hlen, hget⟩ := World.cells?_some hc;obtain ⟨xs, k, -, -, -, hxs, hel⟩ := DataW.trod_array Tryz.underlying33 ht;have hel' := hel j hj;rw [Tryz.cellsU8, Nat.mul_one, List.getElem?_eq_getElem (by omega)] at hel';obtain ⟨z, hz, -, hwf⟩ := DataW.trod_int Tryz.underlying5 hel';have hj2 : cs'[j]? = some (.int .u8 z) := by
    have h0 : ((cs'.drop j).take 1)[0]? = some (.int .u8 z) := by rw [hz]; rfl
    rw [List.getElem?_take, if_pos (by omega), List.getElem?_drop] at h0;simpa using h0
   refine ⟨z, ?_, hwf⟩;rw [<- hj2, <- hget j hj]
  refine ⟨len, fun i => (List.range 128).map fun j => match W.cell? ((a.add (i * 128)).add j) with | some v => qB v | none => 0, some a, m, rfl, hl, hm, fun hN => ?_⟩;obtain ⟨z0, h0, -⟩ := key 0 hN 0 (by omega);obtain ⟨g, o, cs, t, fr, ha, hg, hc0⟩ := Wn h0;obtain ⟨b, off, spot⟩ := a;have hb : b = g /\ off = o /\ spot = none := by
   cases spot with
   | none =>
    rw [C4, C4] at ha;injection ha with e1 e2 e3
    exact ⟨e1, by omega, rfl⟩
   | some q =>
    exfalso
    have := World.cell?_spot h0;simp [Addr.add] at this
  obtain ⟨rfl, rfl, rfl⟩ := hb;simp only [C4] at key;have key2 : ∀ i, i < len -> ∀ j, j < 128 -> ∃ z : Int, cs[off + i * 128 + j]? = some (.int .u8 z) /\ (Lit.int .u8 z).wf = true /\ (match W.cell? (((⟨b, off, none⟩ : Addr).add (i * 128)).add j) with | some v => qB v | none => 0) = z := by
   intro i hi j hj;obtain ⟨z, h1, h2⟩ := key i hi j hj;refine ⟨z, ?_, h2, ?_⟩
   ·rw [<- B0 hg]; exact h1
   ·rw [C4, C4, h1]; rfl
  refine ⟨b, off, rfl, cs, t, fr, hg, ?_, fun i hi => ⟨by simp, ?_, ?_⟩⟩
  ·obtain ⟨z, h1, -⟩ := key2 (len - 1) (by omega) 127 (by omega);have := (Array.getElem?_eq_some_iff.1 h1).1;omega
  ·intro x hx;obtain ⟨j, hj, rfl⟩ := List.mem_map.1 hx;obtain ⟨z, h1, h2, h3⟩ := key2 i hi j (List.mem_range.1 hj);rw [h3];simp [Lit.wf, IntKind.min, IntKind.max, IntKind.signed, IntKind.bits] at h2;omega
  ·apply Array.ext_getElem?
   intro j;have hsz : off + i * 128 + 128 <= cs.size := by
    obtain ⟨z, h1, -⟩ := key2 i hi 127 (by omega);have := (Array.getElem?_eq_some_iff.1 h1).1;omega
   rw [Array.getElem?_extract, Bh];by_cases hj : j < 128
   ·obtain ⟨z, h1, h2, h3⟩ := key2 i hi j hj;rw [if_pos (by omega), List.getElem?_map, List.getElem?_range hj, h1];simp only [Option.map_some, h3]
   ·rw [if_neg (by omega), List.getElem?_eq_none (by simp; omega)]; rfl
theorem My (s t : List Int) : ∀ (n a : Nat), (∀ j, a <= j -> j < a + n -> nth s j = nth t j) -> Aj s a n = Aj t a n
 | 0, _, _ => rfl
 | n + 1, a, h => by
  simp only [Aj];rw [h a (by omega) (by omega), My s t n (a + 1) (fun j h1 h2 => h j (by omega) (by omega))]
theorem Pf (s : List Int) : ∀ (n a : Nat) (v : Int), (∀ j, j < n -> nth s (a + j) = v / 2 ^ (8 * j) % 256) -> Aj s a n = v % 256 ^ n
 | 0, _, v, _ => by simp [Aj, Int.emod_one]
 | n + 1, a, v, h => by
  have h0 := h 0 (by omega);have ih := Pf s n (a + 1) (v / 256) (fun j hj => by
   have := h (j + 1) (by omega);rw [show a + 1 + j = a + (j + 1) by omega, this];rw [Int.ediv_ediv_of_nonneg (by omega : (0 : Int) <= 256)];congr 2
   rw [show 8 * (j + 1) = 8 + 8 * j by omega, Int.pow_add];rfl)
  simp only [Aj];rw [ih];simp only [Nat.add_zero, Nat.mul_zero, Int.pow_zero, Int.ediv_one] at h0;rw [h0, show (256 : Int) ^ (n + 1) = 256 * 256 ^ n by rw [Int.pow_succ]; omega, Int.mul_comm 256 ((v / 256) % 256 ^ n)];rw [Int.emod_def v (256 * 256 ^ n), Int.emod_def (v / 256) (256 ^ n), Int.emod_def v 256, <- Int.ediv_ediv_of_nonneg (by omega : (0 : Int) <= 256)];rw [Int.sub_mul, Int.mul_comm (v / 256) 256, Int.mul_assoc 256, Int.mul_comm 256 (256 ^ n * _)];omega
theorem Jn (s : List Int) (a n : Nat) (v : Int) (h : a + n <= s.length) (h0 : 0 <= v) (hv : v < 256 ^ n) : Aj (setB s a n v) a n = v := by
 rw [Pf _ n a v (fun j hj => by rw [D0 _ _ _ _ h, if_pos (by omega), show a + j - a = j by omega])];exact Int.emod_eq_of_lt h0 hv
theorem Gx (s : List Int) (a n b m : Nat) (v : Int) (h : b + m <= s.length) (hd : a + n <= b \/ b + m <= a) : Aj (setB s b m v) a n = Aj s a n :=
 My _ _ _ _ fun j h1 h2 => by rw [D0 _ _ _ _ h, if_neg (by omega)]
theorem J1 {s : List Int} (h : ∀ j, j < s.length -> 0 <= nth s j /\ nth s j < 256) : A0 s := by
 intro x hx;obtain ⟨i, hi, rfl⟩ := List.getElem_of_mem hx;rw [E9 hi]; exact h i hi
theorem A0.setB {s : List Int} (hb : A0 s) (a n : Nat) (v : Int) (h : a + n <= s.length) : A0 (setB s a n v) := by
 refine J1 fun j _ => ?_
 rw [D0 _ _ _ _ h];split
 ·omega
 ·exact hb.at j
theorem A0.putL {s bs : List Int} (hb : A0 s) (hs : A0 bs) (a : Nat) (h : a + bs.length <= s.length) : A0 (putL s a bs) := by
 refine J1 fun j _ => ?_
 rw [Rl _ _ _ _ h];split
 ·exact hs.at _
 ·exact hb.at j
theorem Et (n : Nat) : A0 (zl n) := by
 refine J1 fun j _ => ?_
 rw [Lz]; omega
theorem W3 : A0 E8 := by unfold A0 E8; decide
theorem Lk : (putL (zl 128) 0 E8).length = 128 := by rw [G8 _ _ _ (by rw [Ca]; decide)]; exact Ca _
theorem Vt (x y : Int) : A0 (Bp x y) := by
 unfold Bp;refine A0.setB (A0.setB (A0.putL (Et _) W3 _ (by rw [Ca]; decide)) _ _ _ ?_) _ _ _ ?_
 ·rw [Lk]; decide
 ·rw [Dp, Lk]; decide
theorem jF (x y : Int) (h0 : 0 <= x) (h1 : x < 4294967296) : Aj (Bp x y) 4 4 = x := by
 unfold Bp;rw [Gx _ _ _ _ _ _ (by rw [Dp, Lk]; decide) (by omega)];exact Jn _ _ _ _ (by rw [Lk]; decide) h0 h1
theorem jG (x y : Int) (h0 : 0 <= y) (h1 : y < 4294967296) : Aj (Bp x y) 8 4 = y := by
 unfold Bp;exact Jn _ _ _ _ (by rw [Dp, Lk]; decide) h0 h1
theorem Uz : ∀ j, j < 18 -> ∀ k, k < 18 -> j ≠ k -> fAt j + fWd j <= fAt k \/ fAt k + fWd k <= fAt j := by decide
theorem Mk (l : List Int) : ∀ n, n <= 18 -> A0 (Em l n)
 | 0, _ => Et _
 | n + 1, h => by
  rw [Cr];exact A0.setB (Mk l n (by omega)) _ _ _ (by rw [C5]; exact Qp n (by omega))
theorem Ph (l : List Int) (hf : ∀ j, j < 18 -> 0 <= nth l (B9 j) /\ nth l (B9 j) < 256 ^ fWd j) : ∀ n, n <= 18 -> ∀ j, j < n -> Aj (Em l n) (fAt j) (fWd j) = nth l (B9 j)
 | 0, _, j, hj => by omega
 | n + 1, h, j, hj => by
  rw [Cr];by_cases hjn : j = n
  ·subst hjn;exact Jn _ _ _ _ (by rw [C5]; exact Qp j (by omega)) (hf j (by omega)).1 (hf j (by omega)).2
  ·rw [Gx _ _ _ _ _ _ (by rw [C5]; exact Qp n (by omega)) (Uz j (by omega) n (by omega) hjn)];exact Ph l hf n (by omega) j (by omega)
theorem nU {l : List Int} (h : l.length = 18) : l = [nth l 0, nth l 1, nth l 2, nth l 3, nth l 4, nth l 5, nth l 6, nth l 7, nth l 8, nth l 9, nth l 10, nth l 11, nth l 12, nth l 13, nth l 14, nth l 15, nth l 16, nth l 17] := by
 refine J8 (by simp [h]) fun i hi => ?_
 rw [h] at hi;have : i = 0 \/ i = 1 \/ i = 2 \/ i = 3 \/ i = 4 \/ i = 5 \/ i = 6 \/ i = 7 \/ i = 8 \/ i = 9 \/ i = 10 \/ i = 11 \/ i = 12 \/ i = 13 \/ i = 14 \/ i = 15 \/ i = 16 \/ i = 17 := by omega
 rcases this with rfl | rfl | rfl | rfl | rfl | rfl | rfl | rfl | rfl | rfl | rfl | rfl | rfl | rfl | rfl | rfl | rfl | rfl <;> rfl
theorem Wu (l : List Int) (hl : l.length = 18) (hf : ∀ j, j < 18 -> 0 <= nth l (B9 j) /\ nth l (B9 j) < 256 ^ fWd j) : D8 (Aj (A9 l) 8 8) (A9 l) = l := by
 have g := Ph l hf 18 (by omega);have g0 := g 0 (by omega); have g1 := g 1 (by omega); have g2 := g 2 (by omega); have g3 := g 3 (by omega); have g4 := g 4 (by omega); have g5 := g 5 (by omega);have g6 := g 6 (by omega); have g7 := g 7 (by omega); have g8 := g 8 (by omega); have g9 := g 9 (by omega); have g10 := g 10 (by omega); have g11 := g 11 (by omega);have g12 := g 12 (by omega); have g13 := g 13 (by omega); have g14 := g 14 (by omega); have g15 := g 15 (by omega); have g16 := g 16 (by omega); have g17 := g 17 (by omega);clear g;change Aj (A9 l) _ _ = _ at g0 g1 g2 g3 g4 g5 g6 g7 g8 g9 g10 g11 g12 g13 g14 g15 g16 g17;generalize A9 l = s at *;simp only [fAt, fWd, B9] at *;conv => rhs; rw [nU hl]
 simp only [D8, List.range, List.range.loop, List.map_cons, List.map_nil, List.cons_append, List.nil_append];simp only [Nat.mul_zero, Nat.add_zero, g0, g1, g2, g3, g4, g5, g6, g7, g8, g9, g10, g11, g12, g13, g14, g15, g16, g17]
theorem Mn (x : List Int) : ∀ n, n <= 32 -> A0 (Dd x n)
 | 0, _ => Et _
 | n + 1, h => by
  rw [Gi];exact A0.setB (Mn x n (by omega)) _ _ _ (by rw [Gh]; omega)
theorem Pm (x : List Int) (hf : Gc x) : ∀ n, n <= 32 -> ∀ j, j < n -> Aj (Dd x n) (4 * j) 4 = nth x j
 | 0, _, j, hj => by omega
 | n + 1, h, j, hj => by
  rw [Gi];by_cases hjn : j = n
  ·subst hjn;have := hf j (by omega);have p4 : (256 : Int) ^ 4 = 4294967296 := by decide
   exact Jn _ _ _ _ (by rw [Gh]; omega) this.1 (by rw [p4]; omega)
  ·rw [Gx _ _ _ _ _ _ (by rw [Gh]; omega) (by omega)];exact Pm x hf n (by omega) j (by omega)
theorem Xf (x : List Int) (hx : x.length = 32) (hf : Gc x) : An (Dd x 32) = x := by
 refine J8 (by simp [hx]) fun i hi => ?_
 simp at hi;rw [Ud _ _ hi, Pm x hf 32 (by omega) i hi]
theorem gE {s : List Int} (hb : A0 s) (a : Nat) : 0 <= Aj s a 4 /\ Aj s a 4 <= 4294967295 := by
 have h0 := hb.at a; have h1 := hb.at (a + 1); have h2 := hb.at (a + 2); have h3 := hb.at (a + 3);have e : Aj s a 4 = nth s a + 256 * (nth s (a + 1) + 256 * (nth s (a + 2) + 256 * nth s (a + 3))) := by
  simp only [Aj, Int.mul_zero, Int.add_zero]
 rw [e]; omega
theorem Vu {x y : Int} (h : Ef x y) : A4 (Bp x y) = (x, y, 0) := by
 obtain ⟨⟨h1, h2⟩, ⟨h3, h4⟩, h5⟩ := id h;unfold A4;rw [jF x y (by omega) (by omega), jG x y (by omega) (by omega), if_pos ⟨h, rfl⟩]
theorem bF {s : List Int} (h : (A4 s).2.2 = 0) : Ef (A4 s).1 (A4 s).2.1 /\ Bp (A4 s).1 (A4 s).2.1 = s := by
 unfold A4 at *;split at h
 ·rename_i hc; rw [if_pos hc]; exact hc
 ·cases h
theorem lB (n a : Nat) : ∀ m, Aj (zl n) a m = 0
 | 0 => rfl
 | m + 1 => by
  simp only [Aj, Lz];have := My (zl n) (zl n) m (a + 1) (fun _ _ _ => rfl);have h : ∀ m a, Aj (zl n) a m = 0 := by
   intro m; induction m with
   | zero => intro a; rfl
   | succ m ih => intro a; simp only [Aj, Lz, ih]; omega
  rw [h]; omega
theorem gO {l : List Int} (h : Bu l) (j : Nat) (hj : j < 18) : 0 <= nth l (B9 j) /\ nth l (B9 j) < 256 ^ fWd j := by
 obtain ⟨h1, h2, h3⟩ := Lg l h j hj;refine ⟨h1, ?_⟩;by_cases h8 : fWd j < 8
 ·have := h3 h8;rwa [Int.pow_mul] at this
 ·have : fWd j = 8 := by have := Nh j; omega
  rw [this];have p8 : (256 : Int) ^ 8 = 18446744073709551616 := by decide
  rw [p8]; omega
theorem Hy {l : List Int} (hl : l.length = 18) (h : Bu l) : Al (A9 l) = (l, 0) := by
 have e := Wu l hl (gO h);unfold Al;rw [e, if_pos ⟨h, rfl⟩]
theorem J5 (l : List Int) : A0 (A9 l) := Mk l 18 (by omega)
theorem aL {s : List Int} (h : (Al s).2 = 0) : Bu (Al s).1 /\ A9 (Al s).1 = s := by
 unfold Al at *;split at h
 ·rename_i hc; rw [if_pos hc]; exact hc
 ·cases h
theorem gP : Al (zl 128) = (zl 18, 0) := by
 have hm : Bu (zl 18) := by unfold Bu; rw [if_pos (Lz _ _)]
 have e : A9 (zl 18) = zl 128 := by decide +kernel
 have := Hy (Ca 18) hm;rwa [e] at this
theorem dJ (s : ByteArray) : A0 (nmL s) := by
 intro x hx;unfold nmL at hx;obtain ⟨b, -, rfl⟩ := List.mem_map.1 hx;have := b.toNat_lt;omega
theorem Io {s : ByteArray} (h : s.size <= 40) : (putL (zl 128) 5 (nmL s)).length = 128 := by
 rw [G8 _ _ _ (by rw [Ca, Gs]; omega)]; exact Ca _
theorem Tm (x : Int) (s : ByteArray) (h : s.size <= 40) : A0 (A8 x s) := by
 unfold A8;refine A0.setB (A0.setB (A0.putL (Et _) (dJ s) _ (by rw [Ca, Gs]; omega)) _ _ _ ?_) _ _ _ ?_
 ·rw [Io h]; omega
 ·rw [Dp, Io h]; omega
theorem eB (x : Int) (s : ByteArray) (h : s.size <= 40) (h0 : 0 <= x) (h1 : x < 4294967296) : Aj (A8 x s) 0 4 = x := by
 unfold A8;rw [Gx _ _ _ _ _ _ (by rw [Dp, Io h]; omega) (by omega)];exact Jn _ _ _ _ (by rw [Io h]; omega) h0 h1
theorem eA (x : Int) (s : ByteArray) (h : s.size <= 40) : nth (A8 x s) 4 = s.size := by
 unfold A8;rw [D0 _ _ _ _ (by rw [Dp, Io h]; omega), if_pos (by omega)];simp only [Nat.sub_self, Nat.mul_zero, Int.pow_zero, Int.ediv_one];omega
theorem Xx (x : Int) (s : ByteArray) (h : s.size <= 40) (i : Nat) (hi : i < s.size) : nth (A8 x s) (5 + i) = nth (nmL s) i := by
 unfold A8
 rw [D0 _ _ _ _ (by rw [Dp, Io h]; omega), if_neg (by omega), D0 _ _ _ _ (by rw [Io h]; omega), if_neg (by omega),
  Rl _ _ _ _ (by rw [Ca, Gs]; omega), if_pos (by rw [Gs]; omega), show 5 + i - 5 = i by omega]
theorem Zt (x : Int) (s : ByteArray) (h : s.size <= 40) : Mg (A8 x s) = s := by
 unfold Mg;rw [eA x s h, if_pos (by omega)];have e : Il (A8 x s) ((s.size : Int)).toNat = s.data.toList := by
  apply List.ext_getElem
  ·rw [Kb, Fp]; omega
  ·intro i h1 h2;have hi : i < s.size := by rw [Fp] at h2; exact h2
   have hr : ∀ (t : List Int) (n : Nat) (h1 : i < (Il t n).length), (Il t n)[i] = UInt8.ofNat (nth t (5 + i)).toNat := fun t n h1 => by simp [Il]
   rw [hr, Xx x s h i hi];have hn : nth (nmL s) i = ((s.data.toList[i]'h2).toNat : Int) := by
    unfold nth nmL;rw [List.getElem?_map, List.getElem?_eq_getElem h2];rfl
   rw [hn, Int.toNat_natCast, UInt8.ofNat_toNat]
 rw [e]
theorem Xy {x : Int} {s : ByteArray} (h : (Ck x s).2 = 0) : (x = 0 /\ s.toList = []) \/ Ex x s := by
 unfold Ck at h;by_cases h1 : x = 0 /\ s.toList = []
 ·exact .inl h1
 ·rw [if_neg h1] at h;by_cases h2 : Ex x s
  ·exact .inr h2
  ·rw [if_neg h2] at h; cases h
theorem fG {s : ByteArray} (h : s.toList = []) : s = { data := #[] } := by
 rw [Lib.toList_data] at h;obtain ⟨⟨l⟩⟩ := s;obtain rfl : l = [] := h;rfl
theorem dN : Mg (zl 128) = { data := #[] } := by decide +kernel
theorem Sq {x : Int} {s : ByteArray} (h : (Ck x s).2 = 0) : A2 (Ck x s).1 = (x, s, 0) := by
 rcases Xy h with ⟨rfl, he⟩ | hm
 ·obtain rfl := fG he;have e : Ck 0 { data := #[] } = (zl 128, 0) := by unfold Ck; rw [if_pos ⟨rfl, he⟩]
  simp only [e];unfold A2;rw [lB, dN, if_pos e]
 ·have hz : ¬ (x = 0 /\ s.toList = []) := fun hc => by have := hm.1.1; omega
  have e : Ck x s = (A8 x s, 0) := by unfold Ck; rw [if_neg hz, if_pos hm]
  simp only [e];unfold A2;have h40 := hm.size.2;have h1 := hm.1.1;have h2 := hm.1.2;rw [eB x s h40 (by omega) (by omega), Zt x s h40, if_pos e]
theorem eC : A2 (zl 128) = (0, { data := #[] }, 0) := by
 have he : Ck 0 { data := #[] } = (zl 128, 0) := by unfold Ck; rw [if_pos ⟨rfl, by decide +kernel⟩]
 have := Sq (x := 0) (s := { data := #[] }) (by rw [he]);rwa [he] at this
def Bn (S : Nat -> List Int) (i : Nat) (s : List Int) : Nat -> List Int := fun j => if j = i then s else S j
noncomputable def Cu (siftF : List Int -> LS -> List Int × Bool × LS) (at' : Nat) (st : LS) : Bool × LS :=
 if (siftF (An (st.S at')) st).2.1 = false then (false, { (siftF (An (st.S at')) st).2.2 with cl := Pw (siftF (An (st.S at')) st).2.2.cl at' })
 else (true, { (siftF (An (st.S at')) st).2.2 with S := Bn (siftF (An (st.S at')) st).2.2.S at' (Du (siftF (An (st.S at')) st).1).1, fm := Bi (siftF (An (st.S at')) st).2.2.fm at' })
theorem Cf.load {w : World} {g N c : Nat} {S : Nat -> List Int} (h : Cf w g N c S) {i : Nat} (hi : i < N) :
  ∃ cs, hat w g = some (.cells cs 33) /\ (∀ raw w', El raw 128 (i * 128) w' (some (.cells cs 33)) = .ok (.agg (IV .u8 (S i))) w') /\ (S i).length = 128 /\ A0 (S i) := by
 obtain ⟨cs, h1, h2, h3⟩ := h;refine ⟨cs, h1, fun raw w' => ?_, (h3 i hi).1, (h3 i hi).2.1⟩;rw [Cy (by omega), (h3 i hi).2.2]
theorem Lu (old : Array Value) (off : Nat) (cs : Array Value) : (Ak old off cs).toList = old.toList.take off ++ (cs.toList ++ old.toList.drop (off + cs.size)) := by
 unfold Ak;simp
theorem eE {cs new : Array Value} {m i : Nat} (hi : i * m + m <= cs.size) (hn : new.size = m) : (Ak cs (i * m) new).extract (i * m) (i * m + m) = new := by
 apply Array.ext'
 rw [Array.toList_extract, List.extract_eq_take_drop, Lu];have hlen : (cs.toList.take (i * m)).length = i * m := by simp; omega
 rw [Nat.add_sub_cancel_left, List.drop_left' hlen, List.take_left' (by simpa using hn)]
theorem Zx {cs new : Array Value} {m i j : Nat} (hi : i * m + m <= cs.size) (hn : new.size = m) (hji : j * m + m <= i * m \/ i * m + m <= j * m) : (Ak cs (i * m) new).extract (j * m) (j * m + m) = cs.extract (j * m) (j * m + m) := by
 apply Array.ext'
 rw [Array.toList_extract, Array.toList_extract, List.extract_eq_take_drop, List.extract_eq_take_drop, Lu];have hlen : (cs.toList.take (i * m)).length = i * m := by simp; omega
 apply List.ext_getElem?
 intro k;rw [List.getElem?_take, List.getElem?_take];split
 ·rename_i hk
  rw [List.getElem?_drop, List.getElem?_drop];rcases hji with h4 | h4
  ·rw [List.getElem?_append_left (by rw [hlen]; omega), List.getElem?_take, if_pos (by omega)]
  ·rw [List.getElem?_append_right (by rw [hlen]; omega), hlen, List.getElem?_append_right (by rw [Array.length_toList, hn]; omega), Array.length_toList, List.getElem?_drop, hn];congr 1
   omega
 ·rfl
theorem Cf.store {w : World} {g N c : Nat} {S : Nat -> List Int} (h : Cf w g N c S) {cs : Array Value} (hcs : hat w g = some (.cells cs 33)) {i : Nat} (hi : i < N) {s : List Int} (hl : s.length = 128) (hb : A0 s) :
  Cf (w.setRow g (Ak cs (i * 128) (IV .u8 s))) g N c (Bn S i s) := by
 obtain ⟨cs', h1, h2, h3⟩ := h;rw [hcs] at h1;obtain rfl : cs = cs' := by
  have := Option.some.inj h1;injection this
 have hsz : (IV .u8 s).size = 128 := by rw [P6, hl]
 have hi2 : i * 128 + 128 <= N * 128 := by omega
 refine ⟨Ak cs (i * 128) (IV .u8 s), Aq _ _ _ _ _ _ hcs, (by rw [Hb _ _ _ (by rw [hsz]; omega)]; exact h2), fun j hj => ?_⟩;unfold Bn;by_cases hji : j = i
 ·subst hji;rw [if_pos rfl];exact ⟨hl, hb, eE (by omega) hsz⟩
 ·rw [if_neg hji];refine ⟨(h3 j hj).1, (h3 j hj).2.1, (Zx (by omega) hsz (by omega)).trans (h3 j hj).2.2⟩
theorem I8 {s : List Int} (hb : A0 s) : ∀ p ∈ An s, 0 <= p /\ p <= 4294967295 := by
 intro p hp;unfold An at hp;rw [List.mem_map] at hp;obtain ⟨i, hi, he⟩ := hp;rw [<- he];exact gE hb (4 * i)
theorem M2 (l : List Int) : A0 (Du l).1 := by
 by_cases h : Gc l
 ·simp only [Ln h]; exact Mn l 32 (by omega)
 ·simp only [Vc h]; exact Et 128
theorem Fr.drop_new {ex : List Nat} {w a b : World} {g : Nat} (h : Fr [] w a) (h2 : Fr (g :: ex) a b) (hg : w.heap.size <= g) : Fr ex w b :=
 ⟨h2.os.trans h.os, h2.tape.trans h.tape, h2.output.trans h.output, Nat.le_trans h.size h2.size, fun k hk hn => (h2.block k (Nat.lt_of_lt_of_le hk h.size) (by simp only [List.mem_cons, not_or]; exact ⟨by omega, hn⟩)).trans (h.block k hk (by simp))⟩
theorem Um {E : Env} (hE : EOk E) (siftF : List Int -> LS -> List Int × Bool × LS) (f : Nat) (caps : Array Value) (at' : Nat) (st : LS) (w : World) (J : World -> Prop) (ex : List Nat) (hJ : J w) (hJf : ∀ w w', J w -> Fr [] w w' -> J w')
  (hf : ∀ args w, (callFunc f args).run Tryz.prog w = .ok (.enter f args) w) (ha : at' < E.N) (hN : E.N <= 4096) (h : LK E w st)
  (hsift : ∀ (ps : List Int) (gt : Nat) (st : LS) (W : World), ps.length = 32 -> (∀ p ∈ ps, 0 <= p /\ p <= 4294967295) -> LK E W st -> J W -> Gb W gt 0 89 32 (fun _ => none) ps -> gt ∉ [E.gl, E.gw, E.bc, E.bf, E.bx] -> w.heap.size <= gt ->
   Calls Tryz.prog f (#[.slice (some ⟨gt, 0, none⟩) 32 32] ++ caps) W fun e w' => e = .returned (.bool (siftF ps st).2.1) /\ LK E w' (siftF ps st).2.2 /\ hat w' gt = some (.cells (IV .i64 (siftF ps st).1) 89) /\ (siftF ps st).1.length = 32 /\ Fr (gt :: ex) W w') :
  Calls Tryz.prog 52 #[.pointer (some ⟨E.gl, 0, none⟩), .int .i64 at', .func (.func f) #[] caps] w fun e w' => e = .returned (.bool (Cu siftF at' st).1) /\ LK E w' (Cu siftF at' st).2 /\ Fr ([E.bc, E.gw, E.bf] ++ ex) w w' := by
 have hl := h.look;unfold Bt at hl;obtain ⟨cs, hcs, hld, hlen, hby⟩ := h.want.load ha;have HBY := sW hby;have HS := sW hsift;have HH := sW h;clear hby hsift;have ha0 : (0 : Int) <= (at' : Int) := Int.natCast_nonneg _;have ha1 : (at' : Int) < (E.N : Int) := by omega
 go_enter Tryz.func52, Tryz.ntmps52;go_wp2_with fail;refine (Nm (st.S at') hlen HBY.out _).mono ?_; rintro e w1 ⟨rfl, hb⟩;go_wp2_with fail;have hb2 := At hb hb.size (.cells (IV .i64 (An (st.S at'))) 89);have hlk2 := HH.out.fr (Ag hb2 []) (by simp) (by simp) (by simp) (by simp) (by simp);have hg2 := A7 w1 (.cells (IV .i64 (An (st.S at'))) 89);have hz1 := hb.size;have hn2 : Gb (w1.alloc (.cells (IV .i64 (An (st.S at'))) 89)) w1.heap.size 0 89 32 (fun _ => none) (An (st.S at')) := ⟨_, hg2.1, by simp, by simp, fun j p hj => (by rw [Nat.zero_add, Bh, hj]; rfl), fun j hj => Array.getElem?_eq_none (by simp at hj ⊢; omega)⟩;have hgn : w1.heap.size ∉ [E.gl, E.gw, E.bc, E.bf, E.bx] := by
  have a1 := Aa HH.out.look;have a2 := Aa hcs;have a3 := HH.out.claim.lt;have a4 := HH.out.firm.lt;have a5 := HH.out.blocks.lt;simp only [List.mem_cons, List.mem_nil_iff, or_false];omega
 have HB2 := sW hb2;have HGN := sW hgn;refine (HS.out (An (st.S at')) w1.heap.size st _ (by simp) (I8 HBY.out) hlk2 (hJf _ _ hJ (Ag hb2 [])) hn2 hgn hz1).mono ?_; rintro e w3 ⟨rfl, hlk3, hg3, hl3, hf3⟩;clear hb2 hlk2 hg2 hn2 hgn hl hcs hld hlen HS hb;generalize hR : siftF (An (st.S at')) st = R at *;have HR := sW hR;clear hR;obtain ⟨ps, left, st3⟩ := R;simp only at hlk3 hg3 hl3;have HL3 := sW hlk3;have HF3 := sW hf3;have hl := hlk3.look;unfold Bt at hl;cases left with
 | false =>
  obtain ⟨w4, hr, hm, ht⟩ := hlk3.claim.del (p := (at' : Int)) ⟨ha0, by omega⟩ 0;have HM4 := sW hm;have HT4 := sW ht;clear hm ht hlk3 hf3 hg3 hl3;go_wp2_with fail;go_ret;have hfr : Fr ([E.bc, E.gw, E.bf] ++ ex) w w4 := ((Fr.drop_new (Ag HB2.out []) HF3.out hz1).mono (by simp +contextual)).trans ((F2 HT4.out).mono (by simp));have h3 := HL3.out;have hw3 := h3.want;obtain ⟨cs3, hw3, -⟩ := hw3;unfold Cu;rw [HR.out];exact ⟨rfl, ⟨(Bx HT4.out hE.n2 (Aa h3.look)).trans h3.look, h3.want.same (Bx HT4.out hE.n4 (Aa hw3)), HM4.out, h3.firm.same (Bx HT4.out hE.n6.symm h3.firm.lt), h3.blocks.same (Bx HT4.out hE.n9.symm h3.blocks.lt)⟩, hfr⟩
 | true =>
  have hcl := hlk3.want;obtain ⟨cs3, hcs3, hs3, hs3b⟩ := hcl
  have hst : ∀ raw w', Cw raw 128 (at' * 128) E.gw (IV .u8 (Du ps).1) w' (some (.cells cs3 33 (0, 0))) = .ok () (w'.setRow E.gw (Ak cs3 (at' * 128) (IV .u8 (Du ps).1))) := fun raw w' =>
   Cb (by omega) (by simp) (by simp)
  have HPL := sW hl3;clear hs3b hf3;have hgt : w1.heap.size ≠ E.gw := fun e => HGN.out (by rw [e]; simp)
  have hgt0 : w1.heap.size < w3.heap.size := Aa hg3;have hgl0 : E.gl < w3.heap.size := Aa hl;generalize w1.heap.size = gt at *;have hn1 := hE.n1;go_wp2_with fail;go_region_with ((refine (gW ps HPL.out _).mono ?_; rintro e w5 ⟨rfl, hb5⟩; have hb5 : Below w3.heap.size w3 w5 := ⟨hb5.os, hb5.tape, hb5.output, hb5.size, hb5.block⟩; have fl5 := (hop hb5 hl).1; have fg5 := (hop hb5 hg3).1; have fw5 := (hop hb5 hcs3).1))
  all_goals
   have hf5 : Fr [] w3 w5 := Ag hb5 [];have hlk5 := HL3.out.fr hf5 (by simp) (by simp) (by simp) (by simp) (by simp);have hw6 := hlk5.want.store fw5 ha (Lm ps) (M2 ps);have hl6 : hat (w5.setRow E.gw (Ak cs3 (at' * 128) (IV .u8 (Du ps).1))) E.gl = _ := (Be _ _ _ _ hE.n1).trans fl5;have hc6 := hlk5.claim.same (Be w5 E.gw E.bc (Ak cs3 (at' * 128) (IV .u8 (Du ps).1)) hE.n4.symm);have hb6 := hlk5.blocks.same (Be w5 E.gw E.bx (Ak cs3 (at' * 128) (IV .u8 (Du ps).1)) hE.n8.symm);have hm6 := hlk5.firm.same (Be w5 E.gw E.bf (Ak cs3 (at' * 128) (IV .u8 (Du ps).1)) hE.n5.symm);have hf6 : Fr ([E.bc, E.gw, E.bf] ++ ex) w3 (w5.setRow E.gw (Ak cs3 (at' * 128) (IV .u8 (Du ps).1))) := (hf5.mono (by simp)).trans ((Cl _ _ _).mono (by simp));generalize w5.setRow E.gw (Ak cs3 (at' * 128) (IV .u8 (Du ps).1)) = w6 at *;obtain ⟨w7, hr7, hm7, ht7⟩ := hm6.put (p := (at' : Int)) ⟨ha0, by omega⟩;have HW6 := sW hw6;have HC6 := sW hc6;have HX6 := sW hb6;have HF6 := sW hf6;have HM7 := sW hm7;have HT7 := sW ht7;have hl6s := Aa hl6;clear hw6 hc6 hb6 hm6 hf6 hm7 ht7 hlk5 hf5 hlk3;go_wp2_with fail;go_ret;unfold Cu;rw [HR.out];have hfr : Fr ([E.bc, E.gw, E.bf] ++ ex) w w7 := (((Fr.drop_new (Ag HB2.out []) HF3.out hz1).mono (by simp +contextual)).trans HF6.out).trans ((F2 HT7.out).mono (by simp));have hw6 := HW6.out;obtain ⟨cs6, hw6, -⟩ := hw6;exact ⟨rfl, ⟨(Bx HT7.out hE.n3 hl6s).trans hl6, HW6.out.same (Bx HT7.out hE.n5 (Aa hw6)), HC6.out.same (Bx HT7.out hE.n6 HC6.out.lt), HM7.out, HX6.out.same (Bx HT7.out hE.n10.symm HX6.out.lt)⟩, hfr⟩
end Go.Proofs.YthioepdgnbdohaaGreat
