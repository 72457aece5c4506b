import Derived.Maps.OwnSet
import Derived.Maps.RangeWalk
import Derived.Deep.RegionHeld3
import Derived.Test.YthioepdgnbdohaaGreatM01
import Derived.Test.YthioepdgnbdohaaGreatM03
namespace Go.Proofs.YthioepdgnbdohaaGreat
set_option maxHeartbeats 16000000
set_option maxRecDepth 1000000
set_option linter.unusedSimpArgs false
set_option linter.unusedVariables false
open Go.RowKit
theorem ret_int {a b : Int} {k : IntKind} (h : a = b) : Ending.returned (.int k a) = .returned (.int k b) := by rw [h]
def i64ok (p : Int) : Prop := -9223372036854775808 ≤ p ∧ p ≤ 9223372036854775807
theorem i64wf {p : Int} (h : i64ok p) : (Lit.int .i64 p).wf = true := by
 unfold i64ok at h
 simp [Lit.wf, IntKind.min, IntKind.max, IntKind.signed, IntKind.bits]; omega
theorem keyInt {p : Int} (h : i64ok p) : keyOf Tryz.prog 3 (.int .i64 p) = some (.int .i64 p) := Go.Maps.keyOf_int_mk Tryz.underlying3 (i64wf h)
theorem keyInt_is {p : Int} (h : i64ok p) : WideAt.IsKeyLit (.int .i64 p) := (Go.Maps.int_keyed Tryz.underlying3).key (keyInt h)
theorem litInt_ne {p q : Int} (h : p ≠ q) : (Lit.int .i64 p) ≠ .int .i64 q := fun e => h (by injection e)
def MB (w : World) (b n : Nat) (s : Int → Bool) : Prop :=
 ∃ D : DataW Unit, w.ownsMap Tryz.prog 3 (plainElem Tryz.prog 4) b n D ∧ Go.Maps.IsMap D ∧ (∀ p, i64ok p → Go.Maps.has D (.int .i64 p) = s p) ∧ ∀ p, i64ok p → D.atKey (.int .i64 p) (.lit (.bool false)) = .lit (.bool (s p))
theorem MB.lt {w : World} {b n : Nat} {s : Int → Bool} (h : MB w b n s) : b < w.heap.size := by
 obtain ⟨D, h1, -⟩ := h; exact h1.lt
theorem MB.same {w w' : World} {b n : Nat} {s : Int → Bool} (h : MB w b n s) (he : hat w' b = hat w b) : MB w' b n s := by
 obtain ⟨D, ⟨es, clock, hb, h1⟩, h2⟩ := h
 exact ⟨D, ⟨es, clock, he.trans hb, h1⟩, h2⟩
theorem MB.made (w : World) : MB (w.alloc (.map #[] 0)) w.heap.size 0 (fun _ => false) :=
 ⟨.map [], World.ownsMap_made w _ _ _, Go.Maps.isMap_empty, fun _ _ => rfl, fun _ _ => rfl⟩
theorem zeroBool (w : World) : (zeroValue 4).run Tryz.prog w = .ok (.bool false) w := by kernel_rfl
theorem plainBool_inv {v : Value} {x : Bool} {ps : List MemPlace} (h : plainElem (H := Unit) Tryz.prog 4 v = some (.lit (.bool x), ps)) : v = .bool x := by
 cases v <;> simp [plainElem, Tryz.underlying4] at h
 rw [h.1]
theorem MB.look {w : World} {b n : Nat} {s : Int → Bool} (h : MB w b n s) {p : Int} (hp : i64ok p) : (Instr.lookup 58 (.map (some b)) (.int .i64 p) false).run Tryz.prog w = .ok (.bool (s p)) w := by
 obtain ⟨D, h1, -, -, h3⟩ := h
 obtain ⟨v, ps, hr, hv⟩ := h1.lookup (Go.Maps.int_keyed Tryz.underlying3) Tryz.underlying58 (zeroBool w) (zd := .lit (.bool false)) (zp := []) (by simp [plainElem, Tryz.underlying4]) (keyInt hp)
 rw [h3 p hp] at hv
 rw [plainBool_inv hv] at hr
 exact hr
theorem MB.put {w : World} {b n : Nat} {s : Int → Bool} (h : MB w b n s) (hn : n < maxLen) {p : Int} (hp : i64ok p) :
  ∃ w', (Instr.mapUpdate 58 (.map (some b)) (.int .i64 p) (.bool true)).run Tryz.prog w = .ok () w' ∧ MB w' b (n + 1) (fun q => s q || decide (q = p)) ∧ w.mapTurned w' b := by
 obtain ⟨D, h1, h0, h2, h3⟩ := h
 obtain ⟨w', hr, ho, ht⟩ := h1.store (Go.Maps.int_keyed Tryz.underlying3) Tryz.underlying58 hn (keyInt hp) (d := .lit (.bool true)) (ps := []) (val := .bool true) (by simp [plainElem, Tryz.underlying4])
 refine ⟨w', hr, ⟨_, ho, h0.put _ _, fun q hq => ?_, fun q hq => ?_⟩, ht⟩
 ·by_cases hqp : q = p
  ·subst hqp
   rw [Go.Maps.has_put_same h0 (keyInt_is hq)]; simp
  ·rw [Go.Maps.has_put_other (litInt_ne hqp), h2 q hq]; simp [hqp]
 ·by_cases hqp : q = p
  ·subst hqp
   rw [Go.Maps.atKey_put_same h0 (keyInt_is hq)]; simp
  ·rw [Go.Maps.atKey_put_other (litInt_ne hqp), h3 q hq]; simp [hqp]
theorem MB.del {w : World} {b n : Nat} {s : Int → Bool} (h : MB w b n s) {p : Int} (hp : i64ok p) (ty : TypeId) :
  ∃ w', (Builtin.delete_ #[58, 3] ty #[.map (some b), .int .i64 p]).run Tryz.prog w = .ok (.tuple #[]) w' ∧ MB w' b n (fun q => s q && !decide (q = p)) ∧ w.mapTurned w' b := by
 obtain ⟨D, h1, h0, h2, h3⟩ := h
 obtain ⟨w', hr, ho, ht⟩ := h1.drop (Go.Maps.int_keyed Tryz.underlying3) Tryz.underlying58 (keyInt hp) ty
 refine ⟨w', hr, ⟨_, ho, h0.del _, fun q hq => ?_, fun q hq => ?_⟩, ht⟩
 ·by_cases hqp : q = p
  ·subst hqp
   rw [Go.Maps.has_del_same]; simp
  ·rw [Go.Maps.has_del_other (litInt_ne hqp), h2 q hq]; simp [hqp]
 ·by_cases hqp : q = p
  ·subst hqp
   rw [Go.Maps.atKey_del_same]; simp
  ·rw [Go.Maps.atKey_del_other (litInt_ne hqp), h3 q hq]; simp [hqp]
theorem turned_hat {w w' : World} {b k : Nat} (h : w.mapTurned w' b) (hk : k ≠ b) (hl : k < w.heap.size) : hat w' k = hat w k := h.grown.block k hl (fun e => hk (by injection e))
section
variable {P : Program} {ops : Array Oper} {Q : Exit → Act → World → Prop}
theorem wanted_of {o : Oper} {a : Act} {j d : Nat} {b : Bool} (ho : o.guard = some (j, b)) {oj : Oper} (hj : ops[j]? = some oj) (hd : oj.dst = some d) (h : gt a d = .bool b) : Region.wanted o (yielded ops a.tmps) = true := by
 have h1 : a.tmps[d]? = some (.bool b) := by
  unfold gt at h
  rw [Array.getD_eq_getD_getElem?] at h
  cases hx : a.tmps[d]? with
  | none => rw [hx] at h; cases h
  | some v => rw [hx] at h; exact congrArg some h
 have h2 : yielded ops a.tmps j = some b := by
  unfold yielded
  rw [hj]
  simp [hd, h1]
 simp [Region.wanted, ho, h2]
theorem wanted_free {o : Oper} {a : Act} (ho : o.guard = none) : Region.wanted o (yielded ops a.tmps) = true := by simp [Region.wanted, ho]
theorem wpOp_val_g {i : Nat} {o : Oper} {K : Act → World → Prop} {a : Act} {w w1 : World} {v : Value} (ho : ops[i]? = some o) (hg : Region.wanted o (yielded ops a.tmps) = true)
  (hr : (execOp a.eval o).run P w = .ok (.value v) w1) (hk : K (a.put o.dst v) w1) : wpOp P ops Q i K a w := by
 unfold wpOp
 simp only [ho]
 rw [if_pos hg]
 refine .inl ?_
 unfold Oper.wp
 rw [hr]
 exact hk
theorem wpOp_call_g {i : Nat} {o : Oper} {K : Act → World → Prop} {a : Act} {w : World} {f : FuncId} {args : Array Value} {R : Ending → World → Prop} (ho : ops[i]? = some o) (hg : Region.wanted o (yielded ops a.tmps) = true)
  (hr : (execOp a.eval o).run P w = .ok (.enter f args) w) (hc : Calls P f args w R) (hk : ∀ e w', R e w' → ∃ v, e = .returned v ∧ K (a.put o.dst v) w') : wpOp P ops Q i K a w := by
 unfold wpOp
 simp only [ho]
 rw [if_pos hg]
 refine .inl ?_
 unfold Oper.wp
 rw [hr]
 refine hc.mono fun e w' hR => ?_
 obtain ⟨v, rfl, hK⟩ := hk e w' hR
 exact hK
end
def lkCells (X Y : Int) (img : Value) (gw N cw : Nat) (bc bt bf : Nat) (qf : Value) : Array Value :=
 #[.int .i64 X, .int .i64 Y, img, .slice (some ⟨gw, 0, none⟩) N cw, .map (some bc), .map (some bt), .map (some bf), qf]
@[go_sem] theorem ld_super (raw : Result Value) (w : World) (a b c d e f g h : Value) (t : TypeId) (fr : Nat × Nat) : ldRow raw 2 0 w (some (.cells #[a, b, c, d, e, f, g, h] t fr)) = .ok (.agg #[a, b]) w := by
 rw [ldRow_part (by simp)]; rfl
theorem good_yes (X Y p : Int) (img qf : Value) (gl gw N cw bc bt bf n : Nat) (s : Int → Bool) (w : World) (hl : hat w gl = some (.cells (lkCells X Y img gw N cw bc bt bf qf) 62)) (hc : MB w bc n s) (hn : n < maxLen) (hp : i64ok p)
  (hd : isD X Y p = true) (hs : s p = false) :
  Calls Tryz.prog 87 #[.pointer (some ⟨gl, 0, none⟩), .int .i64 p] w fun e w' => e = .returned (.bool true) ∧ ∃ w1, Below w.heap.size w w1 ∧ w1.mapTurned w' bc ∧ MB w' bc (n + 1) (fun q => s q || decide (q = p)) := by
 go_enter Tryz.func87, Tryz.ntmps87
 unfold lkCells at hl
 have HC := Lib.hid hc
 clear hc
 go_wp2_with fail
 refine (lisData_any X Y p _).mono ?_; rintro e w1 ⟨rfl, hb⟩
 rw [hd]
 obtain ⟨hl1, -⟩ := hop hb hl
 have hc1 := HC.out.same (hat_below hb HC.out.lt)
 have hlk := hc1.look hp
 rw [hs] at hlk
 obtain ⟨w2, hr, hm, ht⟩ := hc1.put hn hp
 have HM := Lib.hid hm
 have HT := Lib.hid ht
 have HB := Lib.hid hb
 clear hm ht hb hl hc1 HC
 go_wp2_with fail
 go_ret
 exact ⟨rfl, w1, HB.out, HT.out, HM.out⟩
theorem good_no (X Y p : Int) (img qf : Value) (gl gw N cw bc bt bf n : Nat) (s : Int → Bool) (w : World) (hl : hat w gl = some (.cells (lkCells X Y img gw N cw bc bt bf qf) 62)) (hc : MB w bc n s) (hp : i64ok p)
  (hd : isD X Y p = false ∨ s p = true) :
  Calls Tryz.prog 87 #[.pointer (some ⟨gl, 0, none⟩), .int .i64 p] w fun e w' => e = .returned (.bool false) ∧ Below w.heap.size w w' := by
 go_enter Tryz.func87, Tryz.ntmps87
 unfold lkCells at hl
 have HC := Lib.hid hc
 clear hc
 go_wp2_with fail
 refine (lisData_any X Y p _).mono ?_; rintro e w1 ⟨rfl, hb⟩
 obtain ⟨hl1, -⟩ := hop hb hl
 have hc1 := HC.out.same (hat_below hb HC.out.lt)
 have hlk := hc1.look hp
 clear hc1 HC hl
 cases hd2 : isD X Y p with
 | false =>
  clear hd
  go_wp2_with fail
  go_ret
  exact ⟨rfl, hb⟩
 | true =>
  rw [hd2] at hd
  have hs : s p = true := by rcases hd with h | h <;> first | cases h | exact h
  rw [hs] at hlk
  clear hd hs
  go_wp2_with fail
  go_ret
  exact ⟨rfl, hb⟩
theorem count_any (x : Nat) (cs : Array Value) (z : Int) (w : World) (hx : hat w x = some (.cells cs 69)) (hz : cs[2]? = some (.int .i64 z)) (h0 : 0 ≤ z) (h1 : z ≤ 136704) :
  Calls Tryz.prog 47 #[.pointer (some ⟨x, 0, none⟩)] w fun e w' => e = .returned (.int .i64 ((z + 127) / 128)) ∧ Below w.heap.size w w' := by
 go_enter Tryz.func47, Tryz.ntmps47
 go_wp2_with fail
 go_ret
 exact ⟨ret_int (by omega), Below.refl _ _⟩
noncomputable def supR (x y : Int) : List Int × Int := open Classical in if SupMay x y then (supSec x y, 0) else (zl 128, 60)
theorem supR_yes {x y : Int} (h : SupMay x y) : supR x y = (supSec x y, 0) := by unfold supR; rw [if_pos h]
theorem supR_no {x y : Int} (h : ¬ SupMay x y) : supR x y = (zl 128, 60) := by unfold supR; rw [if_neg h]
theorem supSec_length (x y : Int) : (supSec x y).length = 128 := by simp [supSec]; decide
@[go_sem, simp] theorem supR_length (x y : Int) : (supR x y).1.length = 128 := by
 by_cases h : SupMay x y
 ·simp only [supR_yes h]; exact supSec_length x y
 ·simp only [supR_no h, zl_length]
noncomputable def supV (x y : Int) : Value := .tuple #[.agg (IV .u8 (supR x y).1), .int .i64 (supR x y).2]
def In64 (x : Int) : Prop := -9223372036854775808 ≤ x ∧ x ≤ 9223372036854775807
theorem rsup_any (x y : Int) (w : World) (hx : In64 x) (hy : In64 y) :
  Calls Tryz.prog 40 #[.agg #[.int .i64 x, .int .i64 y]] w fun e w' => e = .returned (.tuple #[.agg (IV .u8 (supR x y).1), .int .i64 (supR x y).2]) ∧ Below w.heap.size w w' := by
 by_cases h : SupMay x y
 ·simp only [supR_yes h]; exact rsuperSector_ok x y w h
 ·simp only [supR_no h]; exact rsuperSector_no x y w h hx.2 hy.2 hx.1 hy.1
noncomputable def rdSupR (s : List Int) : Int × Int × Int := open Classical in
 if SupMay (getB s 4 4) (getB s 8 4) ∧ supSec (getB s 4 4) (getB s 8 4) = s then (getB s 4 4, getB s 8 4, 0) else (0, 0, 60)
theorem rdSupV_eq (s : List Int) : rdSuperV s = .tuple #[.agg #[.int .i64 (rdSupR s).1, .int .i64 (rdSupR s).2.1], .int .i64 (rdSupR s).2.2] := by
 unfold rdSuperV rdSupR
 split <;> rfl
theorem lrdSup_any (s : List Int) (hs : s.length = 128) (hb : Bytes s) (w : World) :
  Calls Tryz.prog 23 #[.agg (IV .u8 s)] w fun e w' => e = .returned (.tuple #[.agg #[.int .i64 (rdSupR s).1, .int .i64 (rdSupR s).2.1], .int .i64 (rdSupR s).2.2]) ∧ Below w.heap.size w w' := by
 rw [← rdSupV_eq]; exact lreadSuper_any s hs hb w
theorem rrdSup_any (s : List Int) (hs : s.length = 128) (hb : Bytes s) (w : World) :
  Calls Tryz.prog 18 #[.agg (IV .u8 s)] w fun e w' => e = .returned (.tuple #[.agg #[.int .i64 (rdSupR s).1, .int .i64 (rdSupR s).2.1], .int .i64 (rdSupR s).2.2]) ∧ Below w.heap.size w w' := by
 rw [← rdSupV_eq]; exact rreadSuper_any s hs hb w
noncomputable def inoR (l : List Int) : List Int × Int := open Classical in if InoMay l then (inoSec l, 0) else (zl 128, 61)
theorem inoR_yes {l : List Int} (h : InoMay l) : inoR l = (inoSec l, 0) := by unfold inoR; rw [if_pos h]
theorem inoR_no {l : List Int} (h : ¬ InoMay l) : inoR l = (zl 128, 61) := by unfold inoR; rw [if_neg h]
@[go_sem, simp] theorem inoR_length (l : List Int) : (inoR l).1.length = 128 := by
 by_cases h : InoMay l
 ·simp only [inoR_yes h]; unfold inoSec; exact inoSecN_length _ _
 ·simp only [inoR_no h, zl_length]
theorem lino_any (l : List Int) (hl : l.length = 18) (w : World) :
  Calls Tryz.prog 61 #[.agg (IV .i64 l)] w fun e w' => e = .returned (.tuple #[.agg (IV .u8 (inoR l).1), .int .i64 (inoR l).2]) ∧ Below w.heap.size w w' := by
 by_cases h : InoMay l
 ·simp only [inoR_yes h]; exact linodeSector_ok l hl h w
 ·simp only [inoR_no h]; exact linodeSector_no l hl h w
theorem rino_any (l : List Int) (hl : l.length = 18) (w : World) :
  Calls Tryz.prog 34 #[.agg (IV .i64 l)] w fun e w' => e = .returned (.tuple #[.agg (IV .u8 (inoR l).1), .int .i64 (inoR l).2]) ∧ Below w.heap.size w w' := by
 by_cases h : InoMay l
 ·simp only [inoR_yes h]; exact rinodeSector_ok l hl h w
 ·simp only [inoR_no h]; exact rinodeSector_no l hl h w
noncomputable def rdInoR (s : List Int) : List Int × Int := open Classical in
 if InoMay (rdIno (getB s 8 8) s) ∧ inoSec (rdIno (getB s 8 8) s) = s then (rdIno (getB s 8 8) s, 0) else (zl 18, 61)
theorem rdInoV_eq (s : List Int) : rdInoV s = .tuple #[.agg (IV .i64 (rdInoR s).1), .int .i64 (rdInoR s).2] := by
 unfold rdInoV rdInoR
 split <;> rfl
@[go_sem, simp] theorem rdInoR_length (s : List Int) : (rdInoR s).1.length = 18 := by
 unfold rdInoR
 split
 ·exact rdIno_length _ _
 ·simp
theorem lrdIno_any (s : List Int) (hs : s.length = 128) (hb : Bytes s) (w : World) :
  Calls Tryz.prog 46 #[.agg (IV .u8 s)] w fun e w' => e = .returned (.tuple #[.agg (IV .i64 (rdInoR s).1), .int .i64 (rdInoR s).2]) ∧ Below w.heap.size w w' := by
 rw [← rdInoV_eq]; exact lreadInode_any s hs hb w
theorem rrdIno_any (s : List Int) (hs : s.length = 128) (hb : Bytes s) (w : World) :
  Calls Tryz.prog 19 #[.agg (IV .u8 s)] w fun e w' => e = .returned (.tuple #[.agg (IV .i64 (rdInoR s).1), .int .i64 (rdInoR s).2]) ∧ Below w.heap.size w w' := by
 rw [← rdInoV_eq]; exact rreadInode_any s hs hb w
noncomputable def ptrR (x : List Int) : List Int × Int := open Classical in if PtrMay x then (ptrSecN x 32, 0) else (zl 128, 62)
theorem ptrR_yes {l : List Int} (h : PtrMay l) : ptrR l = (ptrSecN l 32, 0) := by unfold ptrR; rw [if_pos h]
theorem ptrR_no {l : List Int} (h : ¬ PtrMay l) : ptrR l = (zl 128, 62) := by unfold ptrR; rw [if_neg h]
theorem ptrV_eq (x : List Int) : ptrV x = .tuple #[.agg (IV .u8 (ptrR x).1), .int .i64 (ptrR x).2] := by
 by_cases h : PtrMay x
 ·simp only [ptrV_yes h, ptrR_yes h]
 ·simp only [ptrV_no h, ptrR_no h]
@[go_sem, simp] theorem ptrR_length (l : List Int) : (ptrR l).1.length = 128 := by
 by_cases h : PtrMay l
 ·simp only [ptrR_yes h]; exact ptrSecN_length _ _
 ·simp only [ptrR_no h, zl_length]
theorem lptr_any (x : List Int) (hx : x.length = 32) (w : World) :
  Calls Tryz.prog 89 #[.agg (IV .i64 x)] w fun e w' => e = .returned (.tuple #[.agg (IV .u8 (ptrR x).1), .int .i64 (ptrR x).2]) ∧ Below w.heap.size w w' := by
 rw [← ptrV_eq]; exact lpointersSector_any x hx w
theorem rptr_any (x : List Int) (hx : x.length = 32) (w : World) :
  Calls Tryz.prog 94 #[.agg (IV .i64 x)] w fun e w' => e = .returned (.tuple #[.agg (IV .u8 (ptrR x).1), .int .i64 (ptrR x).2]) ∧ Below w.heap.size w w' := by
 rw [← ptrV_eq]; exact rpointersSector_any x hx w
theorem rslo_any (x : Int) (s : ByteArray) (w : World) (hss : s.size < 4611686018427387904) :
  Calls Tryz.prog 43 #[.agg #[.int .i64 x, .string s]] w fun e w' => e = .returned (.tuple #[.agg (IV .u8 (slotR x s).1), .int .i64 (slotR x s).2]) ∧ Below w.heap.size w w' :=
 rslotSector_any x s w hss
def rdSloR (s : List Int) : Int × ByteArray × Int := if slotR (getB s 0 4) (rdNm s) = (s, 0) then (getB s 0 4, rdNm s, 0) else (0, { data := #[] }, 63)
theorem rdSlotV_eq (s : List Int) : rdSlotV s = .tuple #[.agg #[.int .i64 (rdSloR s).1, .string (rdSloR s).2.1], .int .i64 (rdSloR s).2.2] := by
 unfold rdSlotV rdSloR
 split <;> rfl
theorem lrdSlo_any (s : List Int) (hs : s.length = 128) (hb : Bytes s) (w : World) :
  Calls Tryz.prog 59 #[.agg (IV .u8 s)] w fun e w' => e = .returned (.tuple #[.agg #[.int .i64 (rdSloR s).1, .string (rdSloR s).2.1], .int .i64 (rdSloR s).2.2]) ∧ Below w.heap.size w w' := by
 rw [← rdSlotV_eq]; exact lreadSlot_any s hs hb w
theorem rrdSlo_any (s : List Int) (hs : s.length = 128) (hb : Bytes s) (w : World) :
  Calls Tryz.prog 71 #[.agg (IV .u8 s)] w fun e w' => e = .returned (.tuple #[.agg #[.int .i64 (rdSloR s).1, .string (rdSloR s).2.1], .int .i64 (rdSloR s).2.2]) ∧ Below w.heap.size w w' := by
 rw [← rdSlotV_eq]; exact rreadSlot_any s hs hb w
theorem below_drew {B : Nat} {a w : World} (h : Below B a w) : Below B a w.drew := ⟨h.os, h.tape, h.output, h.size, h.block⟩
def Secs (w : World) (g o N : Nat) (S : Nat → List Int) : Prop := ∃ cs t fr, hat w g = some (.cells cs t fr) ∧ o + N * 128 ≤ cs.size ∧
 ∀ i, i < N → (S i).length = 128 ∧ Bytes (S i) ∧ cs.extract (o + i * 128) (o + i * 128 + 128) = IV .u8 (S i)
theorem Secs.lt {w : World} {g o N : Nat} {S : Nat → List Int} (h : Secs w g o N S) : g < w.heap.size := by
 obtain ⟨cs, t, fr, h1, -⟩ := h; exact hat_lt h1
theorem Secs.same {w w' : World} {g o N : Nat} {S : Nat → List Int} (h : Secs w g o N S) (he : hat w' g = hat w g) : Secs w' g o N S := by
 obtain ⟨cs, t, fr, h1, h2⟩ := h
 exact ⟨cs, t, fr, he.trans h1, h2⟩
theorem Secs.load {w : World} {g o N : Nat} {S : Nat → List Int} (h : Secs w g o N S) {i : Nat} (hi : i < N) :
  ∃ cs t fr, hat w g = some (.cells cs t fr) ∧ ∀ raw w', ldRow raw 128 (o + i * 128) w' (some (.cells cs t fr)) = .ok (.agg (IV .u8 (S i))) w' := by
 obtain ⟨cs, t, fr, h1, h2, h3⟩ := h
 refine ⟨cs, t, fr, h1, fun raw w' => ?_⟩
 rw [ldRow_part (by omega), (h3 i hi).2.2]
theorem Secs.len {w : World} {g o N : Nat} {S : Nat → List Int} (h : Secs w g o N S) {i : Nat} (hi : i < N) : (S i).length = 128 ∧ Bytes (S i) := by
 obtain ⟨cs, t, fr, h1, h2, h3⟩ := h
 exact ⟨(h3 i hi).1, (h3 i hi).2.1⟩
noncomputable def soundR (s : List Int) : Bool := decide ((rdInoR s).2 = 0) && !decide (nth (rdInoR s).1 0 = 0)
theorem sound_yes (X Y : Int) (qf : Value) (gi oi N ci : Nat) (S : Nat → List Int) (gl gw NW cw bc bt bf : Nat) (i : Nat) (w : World) (hl : hat w gl = some (.cells (lkCells X Y (.slice (some ⟨gi, oi, none⟩) N ci) gw NW cw bc bt bf qf) 62))
  (hS : Secs w gi oi N S) (h1 : 1 ≤ i) (hY : (i : Int) ≤ Y) (hN : Y < N) (hN2 : N ≤ 4096) :
  Calls Tryz.prog 25 #[.pointer (some ⟨gl, 0, none⟩), .int .i64 i] w fun e w' => e = .returned (.tuple #[.agg (IV .i64 (rdInoR (S i)).1), .bool (soundR (S i))]) ∧ Below w.heap.size w w' := by
 unfold lkCells at hl
 have hi : i < N := by omega
 obtain ⟨cs, t, fr, hcs, hld⟩ := hS.load hi
 obtain ⟨hlen, hby⟩ := hS.len hi
 have hcall := fun w => lrdIno_any (S i) hlen hby w
 have hrl := rdInoR_length (S i)
 unfold soundR
 generalize (rdInoR (S i)).1 = l at *
 generalize (rdInoR (S i)).2 = c at *
 have HCALL := Lib.hid hcall
 clear hcall
 have hgl := hat_lt hl
 have hgi := hat_lt hcs
 have d1 : decide ((i : Int) < 1) = false := decide_eq_false (by omega)
 have d2 : decide (Y < (i : Int)) = false := decide_eq_false (by omega)
 have hiN : (i : Int) < (N : Int) := by omega
 clear hS hlen hby
 go_enter Tryz.func25, Tryz.ntmps25
 go_wp2_with fail
 refine (HCALL.out _).mono ?_; rintro e w1 ⟨rfl, hb⟩
 have hsz := hb.size
 have hres : hat w1 w.heap.size = some (.cells (IV .i64 (zl 18)) 45) := (hat_below hb (hopN w _).2).trans (hopN w _).1
 have hlt : w.heap.size < w1.heap.size := hat_lt hres
 have hb0 : Below w.heap.size w w1 := ((Below.refl w.heap.size w).alloc (Nat.le_refl _) _).trans (hb.mono (by simp))
 have HB := Lib.hid hb0
 clear hb hsz hb0
 cases dc : (c == 0)
 ·go_wp2_with fail
  go_region
  go_wp2_with fail
  refine ret_ct row45 rfl (cs := IV .i64 l) rfl (hopA _ _ (hopS hres _).1).1 (by simp [hrl]) rfl ⟨?_, below_drew (below_new (below_setRow HB.out (Nat.le_refl _) _) (by simp; omega) _)⟩
  have hc0 : ¬ c = 0 := by simpa using dc
  simp [hc0]
 ·go_wp2_with fail
  go_region
  go_wp2_with fail
  refine ret_ct row45 rfl (cs := IV .i64 l) rfl (hopA _ _ (hopS hres _).1).1 (by simp [hrl]) rfl ⟨?_, below_drew (below_new (below_setRow HB.out (Nat.le_refl _) _) (by simp; omega) _)⟩
  have hc0 : c = 0 := by simpa using dc
  by_cases h0 : nth l 0 = 0 <;> simp [hc0, h0]
theorem getElem_opt {α : Type} {l : List α} {k : Nat} (h : k < l.length) : ∃ x, l[k]? = some x := ⟨l[k], List.getElem?_eq_getElem h⟩
theorem drop_cons {α : Type} {l : List α} {k : Nat} {x : α} (h : l[k]? = some x) : l.drop k = x :: l.drop (k + 1) := by
 obtain ⟨hk, rfl⟩ := List.getElem?_eq_some_iff.1 h
 exact List.drop_eq_getElem_cons hk
theorem set_mid {pre r : List Int} {p : Int} {k : Nat} (h : pre.length = k) : (pre ++ p :: r).set k 0 = (pre ++ [0]) ++ r := by
 subst h; simp
def siftP {σ : Type} (goodP : Int → σ → Bool × σ) (keepP : Nat → Int → σ → Bool × σ) (base step n : Int) : Nat → List Int → σ → List Int × Bool × σ
 | _, [], st => ([], false, st)
 | k, p :: r, st =>
  if p = 0 then (0 :: (siftP goodP keepP base step n (k + 1) r st).1, (siftP goodP keepP base step n (k + 1) r st).2.1, (siftP goodP keepP base step n (k + 1) r st).2.2)
  else if n ≤ base + step * k then (0 :: (siftP goodP keepP base step n (k + 1) r st).1, (siftP goodP keepP base step n (k + 1) r st).2.1, (siftP goodP keepP base step n (k + 1) r st).2.2)
  else if (goodP p st).1 = false then (0 :: (siftP goodP keepP base step n (k + 1) r (goodP p st).2).1, (siftP goodP keepP base step n (k + 1) r (goodP p st).2).2.1, (siftP goodP keepP base step n (k + 1) r (goodP p st).2).2.2)
  else if (keepP k p (goodP p st).2).1 = false then
   (0 :: (siftP goodP keepP base step n (k + 1) r (keepP k p (goodP p st).2).2).1, (siftP goodP keepP base step n (k + 1) r (keepP k p (goodP p st).2).2).2.1, (siftP goodP keepP base step n (k + 1) r (keepP k p (goodP p st).2).2).2.2)
  else (p :: (siftP goodP keepP base step n (k + 1) r (keepP k p (goodP p st).2).2).1, true, (siftP goodP keepP base step n (k + 1) r (keepP k p (goodP p st).2).2).2.2)
theorem siftP_cons {σ : Type} (goodP : Int → σ → Bool × σ) (keepP : Nat → Int → σ → Bool × σ) (base step n : Int) (k : Nat) (p : Int) (r : List Int) (st : σ) : siftP goodP keepP base step n k (p :: r) st =
  if p = 0 then (0 :: (siftP goodP keepP base step n (k + 1) r st).1, (siftP goodP keepP base step n (k + 1) r st).2.1, (siftP goodP keepP base step n (k + 1) r st).2.2)
  else if n ≤ base + step * k then (0 :: (siftP goodP keepP base step n (k + 1) r st).1, (siftP goodP keepP base step n (k + 1) r st).2.1, (siftP goodP keepP base step n (k + 1) r st).2.2)
  else if (goodP p st).1 = false then (0 :: (siftP goodP keepP base step n (k + 1) r (goodP p st).2).1, (siftP goodP keepP base step n (k + 1) r (goodP p st).2).2.1, (siftP goodP keepP base step n (k + 1) r (goodP p st).2).2.2)
  else if (keepP k p (goodP p st).2).1 = false then
   (0 :: (siftP goodP keepP base step n (k + 1) r (keepP k p (goodP p st).2).2).1, (siftP goodP keepP base step n (k + 1) r (keepP k p (goodP p st).2).2).2.1, (siftP goodP keepP base step n (k + 1) r (keepP k p (goodP p st).2).2).2.2)
  else (p :: (siftP goodP keepP base step n (k + 1) r (keepP k p (goodP p st).2).2).1, true, (siftP goodP keepP base step n (k + 1) r (keepP k p (goodP p st).2).2).2.2) := rfl
theorem siftP_len {σ : Type} (goodP : Int → σ → Bool × σ) (keepP : Nat → Int → σ → Bool × σ) (base step n : Int) : ∀ (r : List Int) (k : Nat) (st : σ), (siftP goodP keepP base step n k r st).1.length = r.length
 | [], _, _ => rfl
 | p :: r, k, st => by
  unfold siftP
  split
  ·simp [siftP_len goodP keepP base step n r]
  ·split
   ·simp [siftP_len goodP keepP base step n r]
   ·split
    ·simp [siftP_len goodP keepP base step n r]
    ·split
     ·simp [siftP_len goodP keepP base step n r]
     ·simp [siftP_len goodP keepP base step n r]
def Nums (w : World) (g o : Nat) (t : TypeId) (sz : Nat) (re : Nat → Option Value) (ps : List Int) : Prop := ∃ cs, hat w g = some (.cells cs t (0, 0)) ∧ cs.size = sz ∧ o + ps.length ≤ cs.size ∧ (∀ j p, ps[j]? = some p → cs[o + j]? = some (.int .i64 p)) ∧ ∀ j, (j < o ∨ o + ps.length ≤ j) → cs[j]? = re j
theorem Nums.same {w w' : World} {g o sz : Nat} {t : TypeId} {re : Nat → Option Value} {ps : List Int} (h : Nums w g o t sz re ps) (he : hat w' g = hat w g) : Nums w' g o t sz re ps := by
 obtain ⟨cs, h1, h2⟩ := h
 exact ⟨cs, he.trans h1, h2⟩
theorem Nums.cell {w : World} {g o j sz : Nat} {t : TypeId} {re : Nat → Option Value} {ps : List Int} {p : Int} (h : Nums w g o t sz re ps) (hj : ps[j]? = some p) : ∃ cs, hat w g = some (.cells cs t (0, 0)) ∧ cs[o + j]? = some (.int .i64 p) := by
 obtain ⟨cs, h1, h2, h3, h4, -⟩ := h
 exact ⟨cs, h1, h4 j p hj⟩
theorem Nums.lt {w : World} {g o sz : Nat} {t : TypeId} {re : Nat → Option Value} {ps : List Int} (h : Nums w g o t sz re ps) : g < w.heap.size := by
 obtain ⟨cs, h1, -⟩ := h; exact hat_lt h1
theorem Nums.zero {w : World} {g o j sz : Nat} {t : TypeId} {re : Nat → Option Value} {ps : List Int} (h : Nums w g o t sz re ps) (hj : j < ps.length) : Nums (w.setCell ⟨g, o + j, none⟩ (.int .i64 0)) g o t sz re (ps.set j 0) := by
 obtain ⟨cs, h1, h0, h2, h3, h4⟩ := h
 refine ⟨cs.setIfInBounds (o + j) (.int .i64 0), hat_setCell_at _ _ _ _ _ _ _ h1, by simpa using h0, by simpa using h2, fun i p hi => ?_, fun i hi => ?_⟩
 rotate_left
 ·rw [List.length_set] at hi
  rw [Array.getElem?_setIfInBounds, if_neg (by omega)]
  exact h4 i hi
 rw [List.getElem?_set] at hi
 rw [Array.getElem?_setIfInBounds]
 by_cases hij : j = i
 ·subst hij
  rw [if_pos rfl, if_pos hj] at hi
  obtain rfl := Option.some.inj hi
  rw [if_pos rfl, if_pos (by omega)]
 ·rw [if_neg hij] at hi
  rw [if_neg (by omega)]
  exact h3 i p hi
theorem Nums.all {w : World} {g : Nat} {t : TypeId} {re : Nat → Option Value} {ps : List Int} (h : Nums w g 0 t ps.length re ps) : hat w g = some (.cells (IV .i64 ps) t) := by
 obtain ⟨cs, h1, h0, h2, h3, -⟩ := h
 rw [h1]
 have : cs = IV .i64 ps := by
  apply Array.ext_getElem?
  intro j
  rw [IV_get?]
  by_cases hj : j < ps.length
  ·have h4 := h3 j ps[j] (List.getElem?_eq_getElem hj)
   rw [Nat.zero_add] at h4
   rw [h4, List.getElem?_eq_getElem hj]; rfl
  ·rw [Array.getElem?_eq_none (by omega), List.getElem?_eq_none (by omega)]; rfl
 rw [this]
theorem sift_any {σ : Type} (goodP : Int → σ → Bool × σ) (keepP : Nat → Int → σ → Bool × σ) (base step n : Int) (I : World → σ → Prop) (lv : Value) (f : Nat) (caps : Array Value) (gp op cp sz : Nat) (tg : TypeId) (re : Nat → Option Value) (ps : List Int) (st : σ) (w : World)
  (hf : ∀ args w, (callFunc f args).run Tryz.prog w = .ok (.enter f args) w) (hI : I w st) (hN : Nums w gp op tg sz re ps) (hc : ps.length ≤ cp) (hm : ps.length ≤ 32) (h0 : 0 ≤ base) (h1 : base ≤ 2000) (h2 : 0 ≤ step) (h3 : step ≤ 100) (h4 : 0 ≤ n) (h5 : n ≤ 100000) (hp : ∀ p ∈ ps, 0 ≤ p ∧ p ≤ 4294967295)
  (hset : ∀ w st j v, op ≤ j → j < op + ps.length → I w st → I (w.setCell ⟨gp, j, none⟩ v) st)
  (hgood : ∀ p st w, 0 ≤ p → p ≤ 4294967295 → I w st → Calls Tryz.prog 87 #[lv, .int .i64 p] w fun e w' => e = .returned (.bool (goodP p st).1) ∧ I w' (goodP p st).2 ∧ hat w' gp = hat w gp)
  (hkeep : ∀ (k : Nat) p st w, k < ps.length → 0 ≤ p → p ≤ 4294967295 → (∃ s0, (goodP p s0).1 = true) → I w st → Calls Tryz.prog f (#[.int .i64 k, .int .i64 p] ++ caps) w fun e w' => e = .returned (.bool (keepP k p st).1) ∧ I w' (keepP k p st).2 ∧ hat w' gp = hat w gp) :
  Calls Tryz.prog 49 #[lv, .slice (some ⟨gp, op, none⟩) ps.length cp, .int .i64 base, .int .i64 step, .int .i64 n, .func (.func f) #[] caps] w fun e w' =>
   e = .returned (.bool (siftP goodP keepP base step n 0 ps st).2.1) ∧ I w' (siftP goodP keepP base step n 0 ps st).2.2 ∧ Nums w' gp op tg sz re (siftP goodP keepP base step n 0 ps st).1 := by
 have HI := Lib.hid hI
 have HN := Lib.hid hN
 have HS := Lib.hid hset
 have HG := Lib.hid hgood
 have HK := Lib.hid hkeep
 have HP := Lib.hid hp
 clear hI hN hset hgood hkeep hp
 generalize hM : ps.length = M at *
 have HM := Lib.hid hM
 clear hM
 go_enter Tryz.func49, Tryz.ntmps49
 go_wp2_with fail
 go_loopw [13, 18] (fun lf i wr => ∃ (k : Nat) (pre : List Int) (b : Bool) (st' : σ), k ≤ M ∧ i = .int .i64 k ∧ lf = .bool b ∧ pre.length = k ∧ I wr st' ∧ Nums wr gp op tg sz re (pre ++ ps.drop k) ∧
   siftP goodP keepP base step n 0 ps st = (pre ++ (siftP goodP keepP base step n k (ps.drop k) st').1, b || (siftP goodP keepP base step n k (ps.drop k) st').2.1, (siftP goodP keepP base step n k (ps.drop k) st').2.2)) (fun _ i _ => M - (intOf i).toNat)
 case atStart => exact ⟨0, [], false, st, Nat.zero_le _, rfl, rfl, rfl, HI.out, by simpa using HN.out, by simp⟩
 case round =>
  obtain ⟨k, pre, b, st', hk, rfl, rfl, hpl, hI, hN, he⟩ := hrel
  have HI := Lib.hid hI
  have HN := Lib.hid hN
  have HE := Lib.hid he
  have HL := Lib.hid hpl
  clear hI hN he hpl
  by_cases hkM : k < M
  ·obtain ⟨p, hpk⟩ := getElem_opt (l := ps) (k := k) (by rw [HM.out]; exact hkM)
   have hdr := drop_cons hpk
   have hpb := HP.out p (List.mem_of_getElem? hpk)
   obtain ⟨hpb0, hpb1⟩ := hpb
   have hE := HE.out
   rw [hdr, siftP_cons] at hE
   have hcell := HN.out.cell (j := k) (p := p) (by rw [List.getElem?_append_right (by rw [HL.out]; exact Nat.le_refl _), HL.out, Nat.sub_self, hdr]; rfl)
   obtain ⟨cs, hcs, hck⟩ := hcell
   have hki0 : (0 : Int) ≤ (k : Int) := Int.natCast_nonneg _
   have hki1 : (k : Int) < (M : Int) := by omega
   have HD := Lib.hid hdr
   clear hdr HE
   by_cases hp0 : p = 0
   ·rw [if_pos hp0] at hE
    have HE := Lib.hid hE
    have dp : (p == 0) = true := by simpa using hp0
    clear hE
    go_wp2_with fail
    go_roundw
    case rel =>
     refine ⟨k + 1, pre ++ [0], b, st', by omega, by go_num, rfl, by simp [HL.out], HI.out, ?_, ?_⟩
     ·have h := HN.out
      rw [HD.out, hp0] at h
      simpa using h
     ·rw [HE.out]; simp
    case measure => (show M - (k + 1) < M - k); omega
   ·rw [if_neg hp0] at hE
    have dp : (p == 0) = false := by simpa using hp0
    have hks : 0 ≤ step * (k : Int) ∧ step * (k : Int) ≤ 3200 := ⟨Int.mul_nonneg h2 hki0, by have := Int.mul_le_mul h3 (show (k : Int) ≤ 32 by omega) hki0 (by omega); omega⟩
    obtain ⟨hks0, hks1⟩ := hks
    generalize hSK : step * (k : Int) = SK at *
    by_cases hnb : n ≤ base + SK
    ·rw [if_pos hnb] at hE
     have HE := Lib.hid hE
     have dn : decide (n ≤ base + SK) = true := decide_eq_true hnb
     clear hE
     have hz := HN.out.zero (j := k) (by simp [HL.out, HD.out])
     rw [HD.out, set_mid HL.out] at hz
     have HZ := Lib.hid hz
     clear hz
     go_wp2_with fail
     go_roundw
     case rel => exact ⟨k + 1, pre ++ [0], b, st', by omega, by go_num, rfl, by simp [HL.out], HS.out _ _ _ _ (by omega) (by omega) HI.out, HZ.out, by rw [HE.out]; simp⟩
     case measure => (show M - (k + 1) < M - k); omega
    ·rw [if_neg hnb] at hE
     have dn : decide (n ≤ base + SK) = false := decide_eq_false hnb
     have HE := Lib.hid hE
     clear hE
     go_wp2_with fail
     refine (HG.out p st' wr hpb0 hpb1 HI.out).mono ?_; rintro e w2 ⟨rfl, hI2, hg2⟩
     have HI2 := Lib.hid hI2
     have hcs2 := hg2.trans hcs
     have hN2 := HN.out.same hg2
     have hz := (hN2.zero (j := k) (by simp [HL.out, HD.out]))
     have hd2 := hN2
     rw [HD.out, set_mid HL.out] at hz
     have HZ := Lib.hid hz
     have HN2 := Lib.hid hN2
     clear hI2 hz hd2 hN2 hg2
     cases hgb : (goodP p st').1 with
     | false =>
      have hE := HE.out
      rw [if_pos hgb] at hE
      have HE := Lib.hid hE
      clear hE hgb
      go_wp2_with fail
      go_roundw
      case rel => exact ⟨k + 1, pre ++ [0], b, (goodP p st').2, by omega, by go_num, rfl, by simp [HL.out], HS.out _ _ _ _ (by omega) (by omega) HI2.out, HZ.out, by rw [HE.out]; simp⟩
      case measure => (show M - (k + 1) < M - k); omega
     | true =>
      have hE := HE.out
      rw [if_neg (by rw [hgb]; decide)] at hE
      have HE := Lib.hid hE
      have HGB : Hid (∃ s0, (goodP p s0).1 = true) := Lib.hid ⟨st', hgb⟩
      clear hE hgb
      go_wp2_with fail
      refine (HK.out k p (goodP p st').2 w2 hkM hpb0 hpb1 HGB.out HI2.out).mono ?_; rintro e w3 ⟨rfl, hI3, hg3⟩
      have HI3 := Lib.hid hI3
      have hcs3 := hg3.trans hcs2
      have hN3 := HN2.out.same hg3
      have hz := (hN3.zero (j := k) (by simp [HL.out, HD.out]))
      have hd3 := hN3
      rw [HD.out, set_mid HL.out] at hz
      rw [HD.out] at hd3
      have HZ := Lib.hid hz
      have HD3 := Lib.hid hd3
      clear hI3 hz hd3 hN3 hg3 hcs2
      cases hkb : (keepP k p (goodP p st').2).1 with
      | false =>
       have hE := HE.out
       rw [if_pos hkb] at hE
       have HE := Lib.hid hE
       clear hE hkb
       go_wp2_with fail
       go_roundw
       case rel => exact ⟨k + 1, pre ++ [0], b, (keepP k p (goodP p st').2).2, by omega, by go_num, rfl, by simp [HL.out], HS.out _ _ _ _ (by omega) (by omega) HI3.out, HZ.out, by rw [HE.out]; simp⟩
       case measure => (show M - (k + 1) < M - k); omega
      | true =>
       have hE := HE.out
       rw [if_neg (by rw [hkb]; decide)] at hE
       have HE := Lib.hid hE
       clear hE hkb
       go_wp2_with fail
       go_roundw
       case rel => exact ⟨k + 1, pre ++ [p], true, (keepP k p (goodP p st').2).2, by omega, by go_num, rfl, by simp [HL.out], HI3.out, by simpa using HD3.out, by rw [HE.out]; simp⟩
       case measure => (show M - (k + 1) < M - k); omega
  ·obtain rfl : k = M := by omega
   have hdr : ps.drop k = [] := List.drop_of_length_le (by rw [HM.out]; exact Nat.le_refl _)
   have hE := HE.out
   have hNN := HN.out
   rw [hdr] at hE hNN
   simp [siftP] at hE hNN
   have HNN := Lib.hid hNN
   have HE := Lib.hid hE
   clear hE hNN hdr HN
   go_wp2_with fail
   go_ret
   rw [HE.out]
   exact ⟨rfl, HI.out, HNN.out⟩
theorem filter_one (n : Nat) : ∀ l : List Nat, l.Pairwise (· ≠ ·) → l.length ≤ (l.filter fun x => x != n).length + 1
 | [], _ => by simp
 | x :: r, hp => by
  rw [List.pairwise_cons] at hp
  by_cases hx : x = n
  ·subst hx
   have hr : r.filter (fun y => y != x) = r := by
    rw [List.filter_eq_self]
    intro y hy
    have := hp.1 y hy
    simpa using fun e => this e.symm
   rw [List.filter_cons_of_neg (by simp), hr]
   simp
  ·rw [List.filter_cons_of_pos (by simpa using hx)]
   have := filter_one n r hp.2
   rw [List.length_cons, List.length_cons]; omega
theorem few_nats : ∀ (n : Nat) (l : List Nat), l.Pairwise (· ≠ ·) → (∀ x ∈ l, x < n) → l.length ≤ n
 | 0, l, _, h => by
  cases l with
  | nil => simp
  | cons x r => exact absurd (h x (by simp)) (by omega)
 | n + 1, l, hp, h => by
  have h1 : (l.filter fun x => x != n).length ≤ n := few_nats n _ (hp.filter _) (fun x hx => by
   rw [List.mem_filter] at hx
   have := h x hx.1
   have h2 : x ≠ n := by simpa using hx.2
   omega)
  have := filter_one n l hp
  omega
def keyNat : Lit → Nat
 | .int _ p => p.toNat
 | _ => 0
theorem map_apart {α : Type} (l : List α) (f : α → Nat) (R : α → α → Prop) (hp : l.Pairwise R) (hf : ∀ a ∈ l, ∀ b ∈ l, R a b → f a ≠ f b) : (l.map f).Pairwise (· ≠ ·) := by
 induction l with
 | nil => simp
 | cons x r ih =>
  rw [List.pairwise_cons] at hp
  rw [List.map_cons, List.pairwise_cons]
  refine ⟨fun y hy => ?_, ih hp.2 (fun a ha b hb => hf a (by simp [ha]) b (by simp [hb]))⟩
  obtain ⟨z, hz, rfl⟩ := List.mem_map.1 hy
  exact hf x (by simp) z (by simp [hz]) (hp.1 z hz)
theorem i64_of_wf {p : Int} (h : (Lit.int .i64 p).wf = true) : i64ok p := by
 simp [Lit.wf, IntKind.min, IntKind.max, IntKind.signed, IntKind.bits] at h
 exact ⟨by omega, by omega⟩
theorem own_tight {w : World} {R : Value → Option (DataW Unit × List MemPlace)} {b n : Nat} {D : DataW Unit} (h : w.ownsMap Tryz.prog 3 R b n D) (hk : ∀ p, i64ok p → Go.Maps.has D (.int .i64 p) = true → 0 ≤ p ∧ p < 4096) : w.ownsMap Tryz.prog 3 R b 4096 D := by
 have htidy := h.tidy (Go.Maps.int_keyed Tryz.underlying3)
 obtain ⟨es, clock, hb, F, hs, hD⟩ := h
 refine ⟨es, clock, hb, F, ?_, hD⟩
 obtain ⟨l, hl, hp⟩ := htidy
 have hlen : es.size = l.length := by
  rw [hl] at hD
  injection hD with hD
  have h2 := congrArg List.length hD
  rw [length_sorted] at h2
  simpa using h2.symm
 have hkey : ∀ x ∈ l, ∃ p : Int, x.1 = .int .i64 p ∧ 0 ≤ p ∧ p < 4096 := fun x hx => by
  have hx0 := hx
  rw [hl] at hD
  injection hD with hD
  rw [hD] at hx
  have hx2 := (WideShapes.sorted_perm _).mem_iff.1 hx
  obtain ⟨v, hv⟩ := Go.Maps.fit_keys F x hx2
  have hkl : WideAt.IsKeyLit x.1 := (Go.Maps.int_keyed Tryz.underlying3).key hv
  obtain ⟨p, -, h1, hw⟩ := Go.Maps.keyOf_int_inv Tryz.underlying3 hv
  have hhas : Go.Maps.has D (.int .i64 p) = true := by
   rw [hl, ← h1]
   show l.any _ = true
   rw [List.any_eq_true]
   exact ⟨x, hx0, WideAt.sameKey_self hkl⟩
  exact ⟨p, h1, hk p (i64_of_wf hw) hhas⟩
 rw [hlen]
 have := few_nats 4096 (l.map fun x => keyNat x.1) (map_apart l _ _ hp (fun a ha b hb hab e => by
  obtain ⟨p, h1, h2, h3⟩ := hkey a ha
  obtain ⟨q, h4, h5, h6⟩ := hkey b hb
  rw [h1, h4] at hab e
  simp only [keyNat] at e
  exact hab (by rw [show p = q by omega]))) (fun x hx => by
  obtain ⟨z, hz, rfl⟩ := List.mem_map.1 hx
  obtain ⟨p, h1, h2, h3⟩ := hkey z hz
  rw [h1]
  simp only [keyNat]; omega)
 simpa using this
def SB (w : World) (b : Nat) (s : Int → Bool) : Prop := MB w b 4096 s ∧ ∀ p, s p = true → 0 ≤ p ∧ p < 4096
theorem MB.tight {w : World} {b n : Nat} {s : Int → Bool} (h : MB w b n s) (hs : ∀ p, s p = true → 0 ≤ p ∧ p < 4096) : SB w b s := by
 obtain ⟨D, h1, h2, h3, h4⟩ := h
 exact ⟨⟨D, own_tight h1 (fun p hp hh => hs p (by rw [← h3 p hp]; exact hh)), h2, h3, h4⟩, hs⟩
theorem SB.same {w w' : World} {b : Nat} {s : Int → Bool} (h : SB w b s) (he : hat w' b = hat w b) : SB w' b s := ⟨h.1.same he, h.2⟩
theorem SB.lt {w : World} {b : Nat} {s : Int → Bool} (h : SB w b s) : b < w.heap.size := h.1.lt
def addS (s : Int → Bool) (p : Int) : Int → Bool := fun q => s q || decide (q = p)
def delS (s : Int → Bool) (p : Int) : Int → Bool := fun q => s q && !decide (q = p)
theorem MB.added {w : World} {b n : Nat} {s : Int → Bool} {p : Int} (h : MB w b n (fun q => s q || decide (q = p))) (hs : ∀ p, s p = true → 0 ≤ p ∧ p < 4096) (hp : 0 ≤ p ∧ p < 4096) : SB w b (addS s p) := by
 refine MB.tight (s := addS s p) h fun q hq => ?_
 have hq2 : s q = true ∨ q = p := by simpa [addS] using hq
 rcases hq2 with hq | rfl
 ·exact hs q hq
 ·exact hp
theorem i64_small {p : Int} (h0 : 0 ≤ p) (h1 : p ≤ 4294967295) : i64ok p := ⟨by omega, by omega⟩
theorem SB.put {w : World} {b : Nat} {s : Int → Bool} (h : SB w b s) {p : Int} (hp : 0 ≤ p ∧ p < 4096) :
  ∃ w', (Instr.mapUpdate 58 (.map (some b)) (.int .i64 p) (.bool true)).run Tryz.prog w = .ok () w' ∧ SB w' b (addS s p) ∧ w.mapTurned w' b := by
 obtain ⟨w', h1, h2, h3⟩ := h.1.put (by unfold maxLen; omega) (p := p) (i64_small hp.1 (by omega))
 exact ⟨w', h1, h2.added h.2 hp, h3⟩
theorem SB.del {w : World} {b : Nat} {s : Int → Bool} (h : SB w b s) {p : Int} (hp : 0 ≤ p ∧ p ≤ 4294967295) (ty : TypeId) :
  ∃ w', (Builtin.delete_ #[58, 3] ty #[.map (some b), .int .i64 p]).run Tryz.prog w = .ok (.tuple #[]) w' ∧ SB w' b (delS s p) ∧ w.mapTurned w' b := by
 obtain ⟨w', h1, h2, h3⟩ := h.1.del (p := p) (i64_small hp.1 hp.2) ty
 refine ⟨w', h1, MB.tight (s := delS s p) h2 fun q hq => ?_, h3⟩
 have hq2 : s q = true ∧ ¬ q = p := by simpa [delS] using hq
 exact h.2 q hq2.1
def MI (w : World) (b n : Nat) (f : Int → Option Int) : Prop :=
 ∃ D : DataW Unit, w.ownsMap Tryz.prog 3 (plainElem Tryz.prog 3) b n D ∧ Go.Maps.IsMap D ∧ (∀ p, i64ok p → Go.Maps.has D (.int .i64 p) = (f p).isSome) ∧ ∀ p, i64ok p → D.atKey (.int .i64 p) (.lit (.int .i64 0)) = .lit (.int .i64 ((f p).getD 0))
theorem MI.lt {w : World} {b n : Nat} {f : Int → Option Int} (h : MI w b n f) : b < w.heap.size := by
 obtain ⟨D, h1, -⟩ := h; exact h1.lt
theorem MI.same {w w' : World} {b n : Nat} {f : Int → Option Int} (h : MI w b n f) (he : hat w' b = hat w b) : MI w' b n f := by
 obtain ⟨D, ⟨es, clock, hb, h1⟩, h2⟩ := h
 exact ⟨D, ⟨es, clock, he.trans hb, h1⟩, h2⟩
theorem MI.made (w : World) : MI (w.alloc (.map #[] 0)) w.heap.size 0 (fun _ => none) :=
 ⟨.map [], World.ownsMap_made w _ _ _, Go.Maps.isMap_empty, fun _ _ => rfl, fun _ _ => rfl⟩
theorem zeroInt (w : World) : (zeroValue 3).run Tryz.prog w = .ok (.int .i64 0) w := by kernel_rfl
theorem plainInt_mk {a : Int} (h : i64ok a) : plainElem (H := Unit) Tryz.prog 3 (.int .i64 a) = some (.lit (.int .i64 a), []) := plainElem_int Tryz.underlying3 (i64wf h)
theorem MI.look {w : World} {b n : Nat} {f : Int → Option Int} (h : MI w b n f) {p : Int} (hp : i64ok p) :
  (Instr.lookup 67 (.map (some b)) (.int .i64 p) true).run Tryz.prog w = .ok (.tuple #[.int .i64 ((f p).getD 0), .bool (f p).isSome]) w := by
 obtain ⟨D, h1, -, h2, h3⟩ := h
 obtain ⟨v, ps, hr, hv⟩ := h1.look_ok (Go.Maps.int_keyed Tryz.underlying3) Tryz.underlying67 (zeroInt w) (zd := .lit (.int .i64 0)) (zp := []) (plainInt_mk ⟨by omega, by omega⟩) (keyInt hp)
 rw [h3 p hp] at hv
 obtain ⟨a, rfl, ha, -⟩ := plainElem_int_inv Tryz.underlying3 hv
 have ha2 : (f p).getD 0 = a := by
  have := congrArg Prod.fst ha
  simpa using this
 rw [h2 p hp, ← ha2] at hr
 exact hr
def putI (f : Int → Option Int) (p a : Int) : Int → Option Int := fun q => if q = p then some a else f q
theorem MI.put {w : World} {b n : Nat} {f : Int → Option Int} (h : MI w b n f) (hn : n < maxLen) {p a : Int} (hp : i64ok p) (ha : i64ok a) :
  ∃ w', (Instr.mapUpdate 67 (.map (some b)) (.int .i64 p) (.int .i64 a)).run Tryz.prog w = .ok () w' ∧ MI w' b (n + 1) (putI f p a) ∧ w.mapTurned w' b := by
 obtain ⟨D, h1, h0, h2, h3⟩ := h
 obtain ⟨w', hr, ho, ht⟩ := h1.store (Go.Maps.int_keyed Tryz.underlying3) Tryz.underlying67 hn (keyInt hp) (d := .lit (.int .i64 a)) (ps := []) (val := .int .i64 a) (plainInt_mk ha)
 refine ⟨w', hr, ⟨_, ho, h0.put _ _, fun q hq => ?_, fun q hq => ?_⟩, ht⟩
 ·unfold putI
  by_cases hqp : q = p
  ·subst hqp
   rw [Go.Maps.has_put_same h0 (keyInt_is hq)]; simp
  ·rw [Go.Maps.has_put_other (litInt_ne hqp), h2 q hq, if_neg hqp]
 ·unfold putI
  by_cases hqp : q = p
  ·subst hqp
   rw [Go.Maps.atKey_put_same h0 (keyInt_is hq)]; simp
  ·rw [Go.Maps.atKey_put_other (litInt_ne hqp), h3 q hq, if_neg hqp]
def IB (w : World) (b : Nat) (f : Int → Option Int) : Prop := MI w b 4096 f ∧ ∀ p, (f p).isSome = true → 0 ≤ p ∧ p < 4096
theorem MI.tight {w : World} {b n : Nat} {f : Int → Option Int} (h : MI w b n f) (hs : ∀ p, (f p).isSome = true → 0 ≤ p ∧ p < 4096) : IB w b f := by
 obtain ⟨D, h1, h2, h3, h4⟩ := h
 exact ⟨⟨D, own_tight h1 (fun p hp hh => hs p (by rw [← h3 p hp]; exact hh)), h2, h3, h4⟩, hs⟩
theorem IB.same {w w' : World} {b : Nat} {f : Int → Option Int} (h : IB w b f) (he : hat w' b = hat w b) : IB w' b f := ⟨h.1.same he, h.2⟩
theorem IB.lt {w : World} {b : Nat} {f : Int → Option Int} (h : IB w b f) : b < w.heap.size := h.1.lt
theorem IB.put {w : World} {b : Nat} {f : Int → Option Int} (h : IB w b f) {p a : Int} (hp : 0 ≤ p ∧ p < 4096) (ha : i64ok a) :
  ∃ w', (Instr.mapUpdate 67 (.map (some b)) (.int .i64 p) (.int .i64 a)).run Tryz.prog w = .ok () w' ∧ IB w' b (putI f p a) ∧ w.mapTurned w' b := by
 obtain ⟨w', h1, h2, h3⟩ := h.1.put (by unfold maxLen; omega) (p := p) (i64_small hp.1 (by omega)) ha
 refine ⟨w', h1, h2.tight fun q hq => ?_, h3⟩
 unfold putI at hq
 by_cases hqp : q = p
 ·subst hqp; exact hp
 ·rw [if_neg hqp] at hq
  exact h.2 q hq
structure Fr (ex : List Nat) (w w' : World) : Prop where
 os : w'.os = w.os
 tape : w'.tape = w.tape
 output : w'.output = w.output
 size : w.heap.size ≤ w'.heap.size
 block : ∀ b, b < w.heap.size → b ∉ ex → hat w' b = hat w b
theorem Fr.refl (ex : List Nat) (w : World) : Fr ex w w := ⟨rfl, rfl, rfl, Nat.le_refl _, fun _ _ _ => rfl⟩
theorem Fr.trans {ex : List Nat} {a b c : World} (h : Fr ex a b) (h2 : Fr ex b c) : Fr ex a c :=
 ⟨h2.os.trans h.os, h2.tape.trans h.tape, h2.output.trans h.output, Nat.le_trans h.size h2.size, fun k hk hn => (h2.block k (Nat.lt_of_lt_of_le hk h.size) hn).trans (h.block k hk hn)⟩
theorem Fr.mono {ex ex' : List Nat} {a b : World} (h : Fr ex a b) (hs : ∀ k ∈ ex, k ∈ ex') : Fr ex' a b :=
 ⟨h.os, h.tape, h.output, h.size, fun k hk hn => h.block k hk fun hm => hn (hs k hm)⟩
theorem fr_below {w w' : World} (h : Below w.heap.size w w') (ex : List Nat) : Fr ex w w' := ⟨h.os, h.tape, h.output, h.size, fun b hb _ => h.block b hb⟩
theorem fr_turned {w w' : World} {b : Nat} (h : w.mapTurned w' b) : Fr [b] w w' :=
 ⟨h.grown.os, h.grown.tape, h.grown.output, h.grown.size, fun k hk hn => turned_hat h (by simpa using hn) hk⟩
theorem fr_setRow (w : World) (g : Nat) (cs : Array Value) : Fr [g] w (w.setRow g cs) :=
 ⟨(below_setRow (Below.refl 0 w) (Nat.zero_le _) cs).os, (below_setRow (Below.refl 0 w) (Nat.zero_le _) cs).tape, (below_setRow (Below.refl 0 w) (Nat.zero_le _) cs).output, (below_setRow (Below.refl 0 w) (Nat.zero_le _) cs).size, fun k hk hn => hat_setRow _ _ _ _ (by simpa using hn)⟩
theorem fr_setCell (w : World) (g i : Nat) (v : Value) : Fr [g] w (w.setCell ⟨g, i, none⟩ v) :=
 ⟨rfl, rfl, rfl, by simp [World.setCell], fun k hk hn => hat_setCell _ ⟨g, i, none⟩ _ _ (by simpa using hn)⟩
theorem fr_drew {ex : List Nat} {a w : World} (h : Fr ex a w) : Fr ex a w.drew := ⟨h.os, h.tape, h.output, h.size, h.block⟩
theorem Fr.below {ex : List Nat} {w w' : World} {B : Nat} (h : Fr ex w w') (hB : B ≤ w.heap.size) (he : ∀ k ∈ ex, B ≤ k) : Below B w w' :=
 ⟨h.os, h.tape, h.output, h.size, fun k hk => h.block k (Nat.lt_of_lt_of_le hk hB) fun hm => by have := he k hm; omega⟩
structure Env where
 (gl gw N bc bt bf bx cw : Nat)
 (X Y : Int)
 (img qf : Value)
def WSecs (w : World) (g N : Nat) (S : Nat → List Int) : Prop := ∃ cs, hat w g = some (.cells cs 33) ∧ N * 128 ≤ cs.size ∧
 ∀ i, i < N → (S i).length = 128 ∧ Bytes (S i) ∧ cs.extract (i * 128) (i * 128 + 128) = IV .u8 (S i)
theorem WSecs.same {w w' : World} {g N : Nat} {S : Nat → List Int} (h : WSecs w g N S) (he : hat w' g = hat w g) : WSecs w' g N S := by
 obtain ⟨cs, h1, h2⟩ := h
 exact ⟨cs, he.trans h1, h2⟩
structure LS where
 S : Nat → List Int
 cl : Int → Bool
 fm : Int → Bool
 bk : Int → Option Int
structure LK (E : Env) (w : World) (st : LS) : Prop where
 look : hat w E.gl = some (.cells (lkCells E.X E.Y E.img E.gw E.N E.cw E.bc E.bt E.bf E.qf) 62)
 want : WSecs w E.gw E.N st.S
 claim : SB w E.bc st.cl
 firm : SB w E.bf st.fm
 blocks : IB w E.bx st.bk
structure EOk (E : Env) : Prop where
 small : E.X ≤ 4096
 pos : 0 ≤ E.Y
 size : E.X = E.N
 n1 : E.gl ≠ E.gw
 n2 : E.gl ≠ E.bc
 n3 : E.gl ≠ E.bf
 n4 : E.gw ≠ E.bc
 n5 : E.gw ≠ E.bf
 n6 : E.bc ≠ E.bf
 n7 : E.gl ≠ E.bx
 n8 : E.gw ≠ E.bx
 n9 : E.bc ≠ E.bx
 n10 : E.bf ≠ E.bx
theorem LK.fr {E : Env} {w w' : World} {st : LS} {ex : List Nat} (h : LK E w st) (hf : Fr ex w w') (h1 : E.gl ∉ ex) (h2 : E.gw ∉ ex) (h3 : E.bc ∉ ex) (h4 : E.bf ∉ ex) (h5 : E.bx ∉ ex) : LK E w' st := by
 have hw := h.want
 obtain ⟨cs, hw1, -⟩ := hw
 exact ⟨(hf.block _ (hat_lt h.look) h1).trans h.look, h.want.same (hf.block _ (hat_lt hw1) h2), h.claim.same (hf.block _ h.claim.lt h3), h.firm.same (hf.block _ h.firm.lt h4), h.blocks.same (hf.block _ h.blocks.lt h5)⟩
def goodP (E : Env) (p : Int) (st : LS) : Bool × LS := if isD E.X E.Y p = true ∧ st.cl p = false then (true, { st with cl := addS st.cl p }) else (false, st)
theorem isD_range {E : Env} (h : EOk E) {p : Int} (hd : isD E.X E.Y p = true) : 0 ≤ p ∧ p < 4096 ∧ p < E.N := by
 unfold isD at hd
 have := of_decide_eq_true hd
 have h1 := h.small
 have h2 := h.pos
 have h3 := h.size
 omega
theorem good_any {E : Env} (hE : EOk E) (p : Int) (st : LS) (w : World) (h0 : 0 ≤ p) (h1 : p ≤ 4294967295) (h : LK E w st) :
  Calls Tryz.prog 87 #[.pointer (some ⟨E.gl, 0, none⟩), .int .i64 p] w fun e w' => e = .returned (.bool (goodP E p st).1) ∧ LK E w' (goodP E p st).2 ∧ Fr [E.bc] w w' := by
 unfold goodP
 by_cases hg : isD E.X E.Y p = true ∧ st.cl p = false
 ·rw [if_pos hg]
  have hr := isD_range hE hg.1
  refine (good_yes E.X E.Y p E.img E.qf E.gl E.gw E.N E.cw E.bc E.bt E.bf 4096 st.cl w h.look h.claim.1 (by unfold maxLen; omega) (i64_small h0 h1) hg.1 hg.2).mono ?_
  rintro e w' ⟨rfl, w1, hb, ht, hm⟩
  have hf : Fr [E.bc] w w' := (fr_below hb _).trans (fr_turned ht)
  have hlk := h.fr (fr_below hb []) (by simp) (by simp) (by simp) (by simp) (by simp)
  have hw1 := hlk.want
  obtain ⟨cs, hw1, -⟩ := hw1
  exact ⟨rfl, ⟨(turned_hat ht hE.n2 (hat_lt hlk.look)).trans hlk.look, hlk.want.same (turned_hat ht hE.n4 (hat_lt hw1)), hm.added h.claim.2 ⟨hr.1, hr.2.1⟩, hlk.firm.same (turned_hat ht hE.n6.symm hlk.firm.lt), hlk.blocks.same (turned_hat ht hE.n9.symm hlk.blocks.lt)⟩, hf⟩
 ·rw [if_neg hg]
  refine (good_no E.X E.Y p E.img E.qf E.gl E.gw E.N E.cw E.bc E.bt E.bf 4096 st.cl w h.look h.claim.1 (i64_small h0 h1) ?_).mono ?_
  ·cases hd : isD E.X E.Y p with
   | false => exact .inl rfl
   | true =>
    cases hc : st.cl p with
    | true => exact .inr rfl
    | false => exact absurd ⟨hd, hc⟩ hg
  ·rintro e w' ⟨rfl, hb⟩
   exact ⟨rfl, h.fr (fr_below hb []) (by simp) (by simp) (by simp) (by simp) (by simp), fr_below hb _⟩
theorem getB_congr (s t : List Int) : ∀ (n a : Nat), (∀ j, a ≤ j → j < a + n → nth s j = nth t j) → getB s a n = getB t a n
 | 0, _, _ => rfl
 | n + 1, a, h => by
  simp only [getB]
  rw [h a (by omega) (by omega), getB_congr s t n (a + 1) (fun j h1 h2 => h j (by omega) (by omega))]
theorem getB_digits (s : List Int) : ∀ (n a : Nat) (v : Int), (∀ j, j < n → nth s (a + j) = v / 2 ^ (8 * j) % 256) → getB s a n = v % 256 ^ n
 | 0, _, v, _ => by simp [getB, Int.emod_one]
 | n + 1, a, v, h => by
  have h0 := h 0 (by omega)
  have ih := getB_digits s n (a + 1) (v / 256) (fun j hj => by
   have := h (j + 1) (by omega)
   rw [show a + 1 + j = a + (j + 1) by omega, this]
   rw [Int.ediv_ediv_of_nonneg (by omega : (0 : Int) ≤ 256)]
   congr 2
   rw [show 8 * (j + 1) = 8 + 8 * j by omega, Int.pow_add]
   rfl)
  simp only [getB]
  rw [ih]
  simp only [Nat.add_zero, Nat.mul_zero, Int.pow_zero, Int.ediv_one] at h0
  rw [h0, show (256 : Int) ^ (n + 1) = 256 * 256 ^ n by rw [Int.pow_succ]; omega, Int.mul_comm 256 ((v / 256) % 256 ^ n)]
  rw [Int.emod_def v (256 * 256 ^ n), Int.emod_def (v / 256) (256 ^ n), Int.emod_def v 256, ← Int.ediv_ediv_of_nonneg (by omega : (0 : Int) ≤ 256)]
  rw [Int.sub_mul, Int.mul_comm (v / 256) 256, Int.mul_assoc 256, Int.mul_comm 256 (256 ^ n * _)]
  omega
theorem getB_setB (s : List Int) (a n : Nat) (v : Int) (h : a + n ≤ s.length) (h0 : 0 ≤ v) (hv : v < 256 ^ n) : getB (setB s a n v) a n = v := by
 rw [getB_digits _ n a v (fun j hj => by rw [nth_setB _ _ _ _ h, if_pos (by omega), show a + j - a = j by omega])]
 exact Int.emod_eq_of_lt h0 hv
theorem getB_setB_off (s : List Int) (a n b m : Nat) (v : Int) (h : b + m ≤ s.length) (hd : a + n ≤ b ∨ b + m ≤ a) : getB (setB s b m v) a n = getB s a n :=
 getB_congr _ _ _ _ fun j h1 h2 => by rw [nth_setB _ _ _ _ h, if_neg (by omega)]
theorem bytes_of_nth {s : List Int} (h : ∀ j, j < s.length → 0 ≤ nth s j ∧ nth s j < 256) : Bytes s := by
 intro x hx
 obtain ⟨i, hi, rfl⟩ := List.getElem_of_mem hx
 rw [nth_getElem hi]; exact h i hi
theorem Bytes.setB {s : List Int} (hb : Bytes s) (a n : Nat) (v : Int) (h : a + n ≤ s.length) : Bytes (setB s a n v) := by
 refine bytes_of_nth fun j _ => ?_
 rw [nth_setB _ _ _ _ h]
 split
 ·omega
 ·exact hb.at j
theorem Bytes.putL {s bs : List Int} (hb : Bytes s) (hs : Bytes bs) (a : Nat) (h : a + bs.length ≤ s.length) : Bytes (putL s a bs) := by
 refine bytes_of_nth fun j _ => ?_
 rw [nth_putL _ _ _ _ h]
 split
 ·exact hs.at _
 ·exact hb.at j
theorem bytes_zl (n : Nat) : Bytes (zl n) := by
 refine bytes_of_nth fun j _ => ?_
 rw [zl_get]; omega
theorem markL_bytes : Bytes markL := by unfold Bytes markL; decide
theorem mark_len : (putL (zl 128) 0 markL).length = 128 := by rw [putL_length _ _ _ (by rw [zl_length]; decide)]; exact zl_length _
theorem supSec_bytes (x y : Int) : Bytes (supSec x y) := by
 unfold supSec
 refine Bytes.setB (Bytes.setB (Bytes.putL (bytes_zl _) markL_bytes _ (by rw [zl_length]; decide)) _ _ _ ?_) _ _ _ ?_
 ·rw [mark_len]; decide
 ·rw [setB_length, mark_len]; decide
theorem supSec_x (x y : Int) (h0 : 0 ≤ x) (h1 : x < 4294967296) : getB (supSec x y) 4 4 = x := by
 unfold supSec
 rw [getB_setB_off _ _ _ _ _ _ (by rw [setB_length, mark_len]; decide) (by omega)]
 exact getB_setB _ _ _ _ (by rw [mark_len]; decide) h0 h1
theorem supSec_y (x y : Int) (h0 : 0 ≤ y) (h1 : y < 4294967296) : getB (supSec x y) 8 4 = y := by
 unfold supSec
 exact getB_setB _ _ _ _ (by rw [setB_length, mark_len]; decide) h0 h1
theorem fields_apart : ∀ j, j < 18 → ∀ k, k < 18 → j ≠ k → fAt j + fWd j ≤ fAt k ∨ fAt k + fWd k ≤ fAt j := by decide
theorem inoSecN_bytes (l : List Int) : ∀ n, n ≤ 18 → Bytes (inoSecN l n)
 | 0, _ => bytes_zl _
 | n + 1, h => by
  rw [inoSecN_succ]
  exact Bytes.setB (inoSecN_bytes l n (by omega)) _ _ _ (by rw [inoSecN_length]; exact fAt_le n (by omega))
theorem inoSecN_get (l : List Int) (hf : ∀ j, j < 18 → 0 ≤ nth l (fCell j) ∧ nth l (fCell j) < 256 ^ fWd j) : ∀ n, n ≤ 18 → ∀ j, j < n → getB (inoSecN l n) (fAt j) (fWd j) = nth l (fCell j)
 | 0, _, j, hj => by omega
 | n + 1, h, j, hj => by
  rw [inoSecN_succ]
  by_cases hjn : j = n
  ·subst hjn
   exact getB_setB _ _ _ _ (by rw [inoSecN_length]; exact fAt_le j (by omega)) (hf j (by omega)).1 (hf j (by omega)).2
  ·rw [getB_setB_off _ _ _ _ _ _ (by rw [inoSecN_length]; exact fAt_le n (by omega)) (fields_apart j (by omega) n (by omega) hjn)]
   exact inoSecN_get l hf n (by omega) j (by omega)
theorem list18 {l : List Int} (h : l.length = 18) : l = [nth l 0, nth l 1, nth l 2, nth l 3, nth l 4, nth l 5, nth l 6, nth l 7, nth l 8, nth l 9, nth l 10, nth l 11, nth l 12, nth l 13, nth l 14, nth l 15, nth l 16, nth l 17] := by
 refine nth_ext (by simp [h]) fun i hi => ?_
 rw [h] at hi
 have : i = 0 ∨ i = 1 ∨ i = 2 ∨ i = 3 ∨ i = 4 ∨ i = 5 ∨ i = 6 ∨ i = 7 ∨ i = 8 ∨ i = 9 ∨ i = 10 ∨ i = 11 ∨ i = 12 ∨ i = 13 ∨ i = 14 ∨ i = 15 ∨ i = 16 ∨ i = 17 := by omega
 rcases this with rfl | rfl | rfl | rfl | rfl | rfl | rfl | rfl | rfl | rfl | rfl | rfl | rfl | rfl | rfl | rfl | rfl | rfl <;> rfl
theorem inoSec_back (l : List Int) (hl : l.length = 18) (hf : ∀ j, j < 18 → 0 ≤ nth l (fCell j) ∧ nth l (fCell j) < 256 ^ fWd j) : rdIno (getB (inoSec l) 8 8) (inoSec l) = l := by
 have g := inoSecN_get l hf 18 (by omega)
 have g0 := g 0 (by omega); have g1 := g 1 (by omega); have g2 := g 2 (by omega); have g3 := g 3 (by omega); have g4 := g 4 (by omega); have g5 := g 5 (by omega)
 have g6 := g 6 (by omega); have g7 := g 7 (by omega); have g8 := g 8 (by omega); have g9 := g 9 (by omega); have g10 := g 10 (by omega); have g11 := g 11 (by omega)
 have g12 := g 12 (by omega); have g13 := g 13 (by omega); have g14 := g 14 (by omega); have g15 := g 15 (by omega); have g16 := g 16 (by omega); have g17 := g 17 (by omega)
 clear g
 change getB (inoSec l) _ _ = _ at g0 g1 g2 g3 g4 g5 g6 g7 g8 g9 g10 g11 g12 g13 g14 g15 g16 g17
 generalize inoSec l = s at *
 simp only [fAt, fWd, fCell] at *
 conv => rhs; rw [list18 hl]
 simp only [rdIno, List.range, List.range.loop, List.map_cons, List.map_nil, List.cons_append, List.nil_append]
 simp only [Nat.mul_zero, Nat.add_zero, g0, g1, g2, g3, g4, g5, g6, g7, g8, g9, g10, g11, g12, g13, g14, g15, g16, g17]
theorem ptrSecN_bytes (x : List Int) : ∀ n, n ≤ 32 → Bytes (ptrSecN x n)
 | 0, _ => bytes_zl _
 | n + 1, h => by
  rw [ptrSecN_succ]
  exact Bytes.setB (ptrSecN_bytes x n (by omega)) _ _ _ (by rw [ptrSecN_length]; omega)
theorem ptrSecN_get (x : List Int) (hf : PtrMay x) : ∀ n, n ≤ 32 → ∀ j, j < n → getB (ptrSecN x n) (4 * j) 4 = nth x j
 | 0, _, j, hj => by omega
 | n + 1, h, j, hj => by
  rw [ptrSecN_succ]
  by_cases hjn : j = n
  ·subst hjn
   have := hf j (by omega)
   have p4 : (256 : Int) ^ 4 = 4294967296 := by decide
   exact getB_setB _ _ _ _ (by rw [ptrSecN_length]; omega) this.1 (by rw [p4]; omega)
  ·rw [getB_setB_off _ _ _ _ _ _ (by rw [ptrSecN_length]; omega) (by omega)]
   exact ptrSecN_get x hf n (by omega) j (by omega)
theorem ptr_back (x : List Int) (hx : x.length = 32) (hf : PtrMay x) : rdPtr (ptrSecN x 32) = x := by
 refine nth_ext (by simp [hx]) fun i hi => ?_
 simp at hi
 rw [rdPtr_nth _ _ hi, ptrSecN_get x hf 32 (by omega) i hi]
theorem getB4_lt {s : List Int} (hb : Bytes s) (a : Nat) : 0 ≤ getB s a 4 ∧ getB s a 4 ≤ 4294967295 := by
 have h0 := hb.at a; have h1 := hb.at (a + 1); have h2 := hb.at (a + 2); have h3 := hb.at (a + 3)
 have e : getB s a 4 = nth s a + 256 * (nth s (a + 1) + 256 * (nth s (a + 2) + 256 * nth s (a + 3))) := by
  simp only [getB, Int.mul_zero, Int.add_zero]
 rw [e]; omega
theorem supSec_reads {x y : Int} (h : SupMay x y) : rdSupR (supSec x y) = (x, y, 0) := by
 obtain ⟨⟨h1, h2⟩, ⟨h3, h4⟩, h5⟩ := id h
 unfold rdSupR
 rw [supSec_x x y (by omega) (by omega), supSec_y x y (by omega) (by omega), if_pos ⟨h, rfl⟩]
theorem sup_one {s : List Int} (h : (rdSupR s).2.2 = 0) : SupMay (rdSupR s).1 (rdSupR s).2.1 ∧ supSec (rdSupR s).1 (rdSupR s).2.1 = s := by
 unfold rdSupR at *
 split at h
 ·rename_i hc; rw [if_pos hc]; exact hc
 ·cases h
theorem getB_zl (n a : Nat) : ∀ m, getB (zl n) a m = 0
 | 0 => rfl
 | m + 1 => by
  simp only [getB, zl_get]
  have := getB_congr (zl n) (zl n) m (a + 1) (fun _ _ _ => rfl)
  have h : ∀ m a, getB (zl n) a m = 0 := by
   intro m; induction m with
   | zero => intro a; rfl
   | succ m ih => intro a; simp only [getB, zl_get, ih]; omega
  rw [h]; omega
theorem ino_fits {l : List Int} (h : InoMay l) (j : Nat) (hj : j < 18) : 0 ≤ nth l (fCell j) ∧ nth l (fCell j) < 256 ^ fWd j := by
 obtain ⟨h1, h2, h3⟩ := inoMay_fits l h j hj
 refine ⟨h1, ?_⟩
 by_cases h8 : fWd j < 8
 ·have := h3 h8
  rwa [Int.pow_mul] at this
 ·have : fWd j = 8 := by have := fWd_pos j; omega
  rw [this]
  have p8 : (256 : Int) ^ 8 = 18446744073709551616 := by decide
  rw [p8]; omega
theorem inoSec_reads {l : List Int} (hl : l.length = 18) (h : InoMay l) : rdInoR (inoSec l) = (l, 0) := by
 have e := inoSec_back l hl (ino_fits h)
 unfold rdInoR
 rw [e, if_pos ⟨h, rfl⟩]
theorem inoSec_bytes (l : List Int) : Bytes (inoSec l) := inoSecN_bytes l 18 (by omega)
theorem ino_one {s : List Int} (h : (rdInoR s).2 = 0) : InoMay (rdInoR s).1 ∧ inoSec (rdInoR s).1 = s := by
 unfold rdInoR at *
 split at h
 ·rename_i hc; rw [if_pos hc]; exact hc
 ·cases h
theorem ino_zero : rdInoR (zl 128) = (zl 18, 0) := by
 have hm : InoMay (zl 18) := by unfold InoMay; rw [if_pos (zl_get _ _)]
 have e : inoSec (zl 18) = zl 128 := by decide +kernel
 have := inoSec_reads (zl_length 18) hm
 rwa [e] at this
theorem nmL_bytes (s : ByteArray) : Bytes (nmL s) := by
 intro x hx
 unfold nmL at hx
 obtain ⟨b, -, rfl⟩ := List.mem_map.1 hx
 have := b.toNat_lt
 omega
theorem slot_len {s : ByteArray} (h : s.size ≤ 40) : (putL (zl 128) 5 (nmL s)).length = 128 := by
 rw [putL_length _ _ _ (by rw [zl_length, nmL_length]; omega)]; exact zl_length _
theorem slotSec_bytes (x : Int) (s : ByteArray) (h : s.size ≤ 40) : Bytes (slotSec x s) := by
 unfold slotSec
 refine Bytes.setB (Bytes.setB (Bytes.putL (bytes_zl _) (nmL_bytes s) _ (by rw [zl_length, nmL_length]; omega)) _ _ _ ?_) _ _ _ ?_
 ·rw [slot_len h]; omega
 ·rw [setB_length, slot_len h]; omega
theorem slotSec_x (x : Int) (s : ByteArray) (h : s.size ≤ 40) (h0 : 0 ≤ x) (h1 : x < 4294967296) : getB (slotSec x s) 0 4 = x := by
 unfold slotSec
 rw [getB_setB_off _ _ _ _ _ _ (by rw [setB_length, slot_len h]; omega) (by omega)]
 exact getB_setB _ _ _ _ (by rw [slot_len h]; omega) h0 h1
theorem slotSec_n (x : Int) (s : ByteArray) (h : s.size ≤ 40) : nth (slotSec x s) 4 = s.size := by
 unfold slotSec
 rw [nth_setB _ _ _ _ (by rw [setB_length, slot_len h]; omega), if_pos (by omega)]
 simp only [Nat.sub_self, Nat.mul_zero, Int.pow_zero, Int.ediv_one]
 omega
theorem slotSec_raw (x : Int) (s : ByteArray) (h : s.size ≤ 40) (i : Nat) (hi : i < s.size) : nth (slotSec x s) (5 + i) = nth (nmL s) i := by
 unfold slotSec
 rw [nth_setB _ _ _ _ (by rw [setB_length, slot_len h]; omega), if_neg (by omega), nth_setB _ _ _ _ (by rw [slot_len h]; omega), if_neg (by omega),
  nth_putL _ _ _ _ (by rw [zl_length, nmL_length]; omega), if_pos (by rw [nmL_length]; omega), show 5 + i - 5 = i by omega]
theorem slotSec_nm (x : Int) (s : ByteArray) (h : s.size ≤ 40) : rdNm (slotSec x s) = s := by
 unfold rdNm
 rw [slotSec_n x s h, if_pos (by omega)]
 have e : rawNm (slotSec x s) ((s.size : Int)).toNat = s.data.toList := by
  apply List.ext_getElem
  ·rw [rawNm_length, len_data]; omega
  ·intro i h1 h2
   have hi : i < s.size := by rw [len_data] at h2; exact h2
   have hr : ∀ (t : List Int) (n : Nat) (h1 : i < (rawNm t n).length), (rawNm t n)[i] = UInt8.ofNat (nth t (5 + i)).toNat := fun t n h1 => by simp [rawNm]
   rw [hr, slotSec_raw x s h i hi]
   have hn : nth (nmL s) i = ((s.data.toList[i]'h2).toNat : Int) := by
    unfold nth nmL
    rw [List.getElem?_map, List.getElem?_eq_getElem h2]
    rfl
   rw [hn, Int.toNat_natCast, UInt8.ofNat_toNat]
 rw [e]
theorem slot_yes {x : Int} {s : ByteArray} (h : (slotR x s).2 = 0) : (x = 0 ∧ s.toList = []) ∨ SlotMay x s := by
 unfold slotR at h
 by_cases h1 : x = 0 ∧ s.toList = []
 ·exact .inl h1
 ·rw [if_neg h1] at h
  by_cases h2 : SlotMay x s
  ·exact .inr h2
  ·rw [if_neg h2] at h; cases h
theorem empty_of {s : ByteArray} (h : s.toList = []) : s = { data := #[] } := by
 rw [Lib.toList_data] at h
 obtain ⟨⟨l⟩⟩ := s
 obtain rfl : l = [] := h
 rfl
theorem rdNm_zero : rdNm (zl 128) = { data := #[] } := by decide +kernel
theorem slot_reads {x : Int} {s : ByteArray} (h : (slotR x s).2 = 0) : rdSloR (slotR x s).1 = (x, s, 0) := by
 rcases slot_yes h with ⟨rfl, he⟩ | hm
 ·obtain rfl := empty_of he
  have e : slotR 0 { data := #[] } = (zl 128, 0) := by unfold slotR; rw [if_pos ⟨rfl, he⟩]
  simp only [e]
  unfold rdSloR
  rw [getB_zl, rdNm_zero, if_pos e]
 ·have hz : ¬ (x = 0 ∧ s.toList = []) := fun hc => by have := hm.1.1; omega
  have e : slotR x s = (slotSec x s, 0) := by unfold slotR; rw [if_neg hz, if_pos hm]
  simp only [e]
  unfold rdSloR
  have h40 := hm.size.2
  have h1 := hm.1.1
  have h2 := hm.1.2
  rw [slotSec_x x s h40 (by omega) (by omega), slotSec_nm x s h40, if_pos e]
theorem slot_zero : rdSloR (zl 128) = (0, { data := #[] }, 0) := by
 have he : slotR 0 { data := #[] } = (zl 128, 0) := by unfold slotR; rw [if_pos ⟨rfl, by decide +kernel⟩]
 have := slot_reads (x := 0) (s := { data := #[] }) (by rw [he])
 rwa [he] at this
def updS (S : Nat → List Int) (i : Nat) (s : List Int) : Nat → List Int := fun j => if j = i then s else S j
noncomputable def tableP (siftF : List Int → LS → List Int × Bool × LS) (at' : Nat) (st : LS) : Bool × LS :=
 if (siftF (rdPtr (st.S at')) st).2.1 = false then (false, { (siftF (rdPtr (st.S at')) st).2.2 with cl := delS (siftF (rdPtr (st.S at')) st).2.2.cl at' })
 else (true, { (siftF (rdPtr (st.S at')) st).2.2 with S := updS (siftF (rdPtr (st.S at')) st).2.2.S at' (ptrR (siftF (rdPtr (st.S at')) st).1).1, fm := addS (siftF (rdPtr (st.S at')) st).2.2.fm at' })
theorem WSecs.load {w : World} {g N : Nat} {S : Nat → List Int} (h : WSecs w g N S) {i : Nat} (hi : i < N) :
  ∃ cs, hat w g = some (.cells cs 33) ∧ (∀ raw w', ldRow raw 128 (i * 128) w' (some (.cells cs 33)) = .ok (.agg (IV .u8 (S i))) w') ∧ (S i).length = 128 ∧ Bytes (S i) := by
 obtain ⟨cs, h1, h2, h3⟩ := h
 refine ⟨cs, h1, fun raw w' => ?_, (h3 i hi).1, (h3 i hi).2.1⟩
 rw [ldRow_part (by omega), (h3 i hi).2.2]
theorem splice_list (old : Array Value) (off : Nat) (cs : Array Value) : (splice old off cs).toList = old.toList.take off ++ (cs.toList ++ old.toList.drop (off + cs.size)) := by
 unfold splice
 simp
theorem splice_at {cs new : Array Value} {m i : Nat} (hi : i * m + m ≤ cs.size) (hn : new.size = m) : (splice cs (i * m) new).extract (i * m) (i * m + m) = new := by
 apply Array.ext'
 rw [Array.toList_extract, List.extract_eq_take_drop, splice_list]
 have hlen : (cs.toList.take (i * m)).length = i * m := by simp; omega
 rw [Nat.add_sub_cancel_left, List.drop_left' hlen, List.take_left' (by simpa using hn)]
theorem splice_off {cs new : Array Value} {m i j : Nat} (hi : i * m + m ≤ cs.size) (hn : new.size = m) (hji : j * m + m ≤ i * m ∨ i * m + m ≤ j * m) : (splice cs (i * m) new).extract (j * m) (j * m + m) = cs.extract (j * m) (j * m + m) := by
 apply Array.ext'
 rw [Array.toList_extract, Array.toList_extract, List.extract_eq_take_drop, List.extract_eq_take_drop, splice_list]
 have hlen : (cs.toList.take (i * m)).length = i * m := by simp; omega
 apply List.ext_getElem?
 intro k
 rw [List.getElem?_take, List.getElem?_take]
 split
 ·rename_i hk
  rw [List.getElem?_drop, List.getElem?_drop]
  rcases hji with h4 | h4
  ·rw [List.getElem?_append_left (by rw [hlen]; omega), List.getElem?_take, if_pos (by omega)]
  ·rw [List.getElem?_append_right (by rw [hlen]; omega), hlen, List.getElem?_append_right (by rw [Array.length_toList, hn]; omega), Array.length_toList, List.getElem?_drop, hn]
   congr 1
   omega
 ·rfl
theorem WSecs.store {w : World} {g N : Nat} {S : Nat → List Int} (h : WSecs w g N S) {cs : Array Value} (hcs : hat w g = some (.cells cs 33)) {i : Nat} (hi : i < N) {s : List Int} (hl : s.length = 128) (hb : Bytes s) :
  WSecs (w.setRow g (splice cs (i * 128) (IV .u8 s))) g N (updS S i s) := by
 obtain ⟨cs', h1, h2, h3⟩ := h
 rw [hcs] at h1
 obtain rfl : cs = cs' := by
  have := Option.some.inj h1
  injection this
 have hsz : (IV .u8 s).size = 128 := by rw [IV_size, hl]
 have hi2 : i * 128 + 128 ≤ N * 128 := by omega
 refine ⟨splice cs (i * 128) (IV .u8 s), hat_setRow_at _ _ _ _ _ _ hcs, (by rw [splice_size _ _ _ (by rw [hsz]; omega)]; exact h2), fun j hj => ?_⟩
 unfold updS
 by_cases hji : j = i
 ·subst hji
  rw [if_pos rfl]
  exact ⟨hl, hb, splice_at (by omega) hsz⟩
 ·rw [if_neg hji]
  refine ⟨(h3 j hj).1, (h3 j hj).2.1, (splice_off (by omega) hsz (by omega)).trans (h3 j hj).2.2⟩
theorem rdPtr_small {s : List Int} (hb : Bytes s) : ∀ p ∈ rdPtr s, 0 ≤ p ∧ p ≤ 4294967295 := by
 intro p hp
 unfold rdPtr at hp
 rw [List.mem_map] at hp
 obtain ⟨i, hi, he⟩ := hp
 rw [← he]
 exact getB4_lt hb (4 * i)
theorem ptrR_bytes (l : List Int) : Bytes (ptrR l).1 := by
 by_cases h : PtrMay l
 ·simp only [ptrR_yes h]; exact ptrSecN_bytes l 32 (by omega)
 ·simp only [ptrR_no h]; exact bytes_zl 128
theorem Fr.drop_new {ex : List Nat} {w a b : World} {g : Nat} (h : Fr [] w a) (h2 : Fr (g :: ex) a b) (hg : w.heap.size ≤ g) : Fr ex w b :=
 ⟨h2.os.trans h.os, h2.tape.trans h.tape, h2.output.trans h.output, Nat.le_trans h.size h2.size, fun k hk hn => (h2.block k (Nat.lt_of_lt_of_le hk h.size) (by simp only [List.mem_cons, not_or]; exact ⟨by omega, hn⟩)).trans (h.block k hk (by simp))⟩
theorem table_any {E : Env} (hE : EOk E) (siftF : List Int → LS → List Int × Bool × LS) (f : Nat) (caps : Array Value) (at' : Nat) (st : LS) (w : World) (J : World → Prop) (ex : List Nat) (hJ : J w) (hJf : ∀ w w', J w → Fr [] w w' → J w')
  (hf : ∀ args w, (callFunc f args).run Tryz.prog w = .ok (.enter f args) w) (ha : at' < E.N) (hN : E.N ≤ 4096) (h : LK E w st)
  (hsift : ∀ (ps : List Int) (gt : Nat) (st : LS) (W : World), ps.length = 32 → (∀ p ∈ ps, 0 ≤ p ∧ p ≤ 4294967295) → LK E W st → J W → Nums W gt 0 89 32 (fun _ => none) ps → gt ∉ [E.gl, E.gw, E.bc, E.bf, E.bx] → w.heap.size ≤ gt →
   Calls Tryz.prog f (#[.slice (some ⟨gt, 0, none⟩) 32 32] ++ caps) W fun e w' => e = .returned (.bool (siftF ps st).2.1) ∧ LK E w' (siftF ps st).2.2 ∧ hat w' gt = some (.cells (IV .i64 (siftF ps st).1) 89) ∧ (siftF ps st).1.length = 32 ∧ Fr (gt :: ex) W w') :
  Calls Tryz.prog 52 #[.pointer (some ⟨E.gl, 0, none⟩), .int .i64 at', .func (.func f) #[] caps] w fun e w' => e = .returned (.bool (tableP siftF at' st).1) ∧ LK E w' (tableP siftF at' st).2 ∧ Fr ([E.bc, E.gw, E.bf] ++ ex) w w' := by
 have hl := h.look
 unfold lkCells at hl
 obtain ⟨cs, hcs, hld, hlen, hby⟩ := h.want.load ha
 have HBY := Lib.hid hby
 have HS := Lib.hid hsift
 have HH := Lib.hid h
 clear hby hsift
 have ha0 : (0 : Int) ≤ (at' : Int) := Int.natCast_nonneg _
 have ha1 : (at' : Int) < (E.N : Int) := by omega
 go_enter Tryz.func52, Tryz.ntmps52
 go_wp2_with fail
 refine (lreadPointers_any (st.S at') hlen HBY.out _).mono ?_; rintro e w1 ⟨rfl, hb⟩
 go_wp2_with fail
 have hb2 := below_new hb hb.size (.cells (IV .i64 (rdPtr (st.S at'))) 89)
 have hlk2 := HH.out.fr (fr_below hb2 []) (by simp) (by simp) (by simp) (by simp) (by simp)
 have hg2 := hopN w1 (.cells (IV .i64 (rdPtr (st.S at'))) 89)
 have hz1 := hb.size
 have hn2 : Nums (w1.alloc (.cells (IV .i64 (rdPtr (st.S at'))) 89)) w1.heap.size 0 89 32 (fun _ => none) (rdPtr (st.S at')) := ⟨_, hg2.1, by simp, by simp, fun j p hj => (by rw [Nat.zero_add, IV_get?, hj]; rfl), fun j hj => Array.getElem?_eq_none (by simp at hj ⊢; omega)⟩
 have hgn : w1.heap.size ∉ [E.gl, E.gw, E.bc, E.bf, E.bx] := by
  have a1 := hat_lt HH.out.look
  have a2 := hat_lt hcs
  have a3 := HH.out.claim.lt
  have a4 := HH.out.firm.lt
  have a5 := HH.out.blocks.lt
  simp only [List.mem_cons, List.mem_nil_iff, or_false]
  omega
 have HB2 := Lib.hid hb2
 have HGN := Lib.hid hgn
 refine (HS.out (rdPtr (st.S at')) w1.heap.size st _ (by simp) (rdPtr_small HBY.out) hlk2 (hJf _ _ hJ (fr_below hb2 [])) hn2 hgn hz1).mono ?_; rintro e w3 ⟨rfl, hlk3, hg3, hl3, hf3⟩
 clear hb2 hlk2 hg2 hn2 hgn hl hcs hld hlen HS hb
 generalize hR : siftF (rdPtr (st.S at')) st = R at *
 have HR := Lib.hid hR
 clear hR
 obtain ⟨ps, left, st3⟩ := R
 simp only at hlk3 hg3 hl3
 have HL3 := Lib.hid hlk3
 have HF3 := Lib.hid hf3
 have hl := hlk3.look
 unfold lkCells at hl
 cases left with
 | false =>
  obtain ⟨w4, hr, hm, ht⟩ := hlk3.claim.del (p := (at' : Int)) ⟨ha0, by omega⟩ 0
  have HM4 := Lib.hid hm
  have HT4 := Lib.hid ht
  clear hm ht hlk3 hf3 hg3 hl3
  go_wp2_with fail
  go_ret
  have hfr : Fr ([E.bc, E.gw, E.bf] ++ ex) w w4 := ((Fr.drop_new (fr_below HB2.out []) HF3.out hz1).mono (by simp +contextual)).trans ((fr_turned HT4.out).mono (by simp))
  have h3 := HL3.out
  have hw3 := h3.want
  obtain ⟨cs3, hw3, -⟩ := hw3
  unfold tableP
  rw [HR.out]
  exact ⟨rfl, ⟨(turned_hat HT4.out hE.n2 (hat_lt h3.look)).trans h3.look, h3.want.same (turned_hat HT4.out hE.n4 (hat_lt hw3)), HM4.out, h3.firm.same (turned_hat HT4.out hE.n6.symm h3.firm.lt), h3.blocks.same (turned_hat HT4.out hE.n9.symm h3.blocks.lt)⟩, hfr⟩
 | true =>
  have hcl := hlk3.want
  obtain ⟨cs3, hcs3, hs3, hs3b⟩ := hcl
  have hst : ∀ raw w', stRow raw 128 (at' * 128) E.gw (IV .u8 (ptrR ps).1) w' (some (.cells cs3 33 (0, 0))) = .ok () (w'.setRow E.gw (splice cs3 (at' * 128) (IV .u8 (ptrR ps).1))) := fun raw w' =>
   stRow_part (by omega) (by simp) (by simp)
  have HPL := Lib.hid hl3
  clear hs3b hf3
  have hgt : w1.heap.size ≠ E.gw := fun e => HGN.out (by rw [e]; simp)
  have hgt0 : w1.heap.size < w3.heap.size := hat_lt hg3
  have hgl0 : E.gl < w3.heap.size := hat_lt hl
  generalize w1.heap.size = gt at *
  have hn1 := hE.n1
  go_wp2_with fail
  go_region_with ((refine (lptr_any ps HPL.out _).mono ?_; rintro e w5 ⟨rfl, hb5⟩; have hb5 : Below w3.heap.size w3 w5 := ⟨hb5.os, hb5.tape, hb5.output, hb5.size, hb5.block⟩; have fl5 := (hop hb5 hl).1; have fg5 := (hop hb5 hg3).1; have fw5 := (hop hb5 hcs3).1))
  all_goals
   have hf5 : Fr [] w3 w5 := fr_below hb5 []
   have hlk5 := HL3.out.fr hf5 (by simp) (by simp) (by simp) (by simp) (by simp)
   have hw6 := hlk5.want.store fw5 ha (ptrR_length ps) (ptrR_bytes ps)
   have hl6 : hat (w5.setRow E.gw (splice cs3 (at' * 128) (IV .u8 (ptrR ps).1))) E.gl = _ := (hat_setRow _ _ _ _ hE.n1).trans fl5
   have hc6 := hlk5.claim.same (hat_setRow w5 E.gw E.bc (splice cs3 (at' * 128) (IV .u8 (ptrR ps).1)) hE.n4.symm)
   have hb6 := hlk5.blocks.same (hat_setRow w5 E.gw E.bx (splice cs3 (at' * 128) (IV .u8 (ptrR ps).1)) hE.n8.symm)
   have hm6 := hlk5.firm.same (hat_setRow w5 E.gw E.bf (splice cs3 (at' * 128) (IV .u8 (ptrR ps).1)) hE.n5.symm)
   have hf6 : Fr ([E.bc, E.gw, E.bf] ++ ex) w3 (w5.setRow E.gw (splice cs3 (at' * 128) (IV .u8 (ptrR ps).1))) := (hf5.mono (by simp)).trans ((fr_setRow _ _ _).mono (by simp))
   generalize w5.setRow E.gw (splice cs3 (at' * 128) (IV .u8 (ptrR ps).1)) = w6 at *
   obtain ⟨w7, hr7, hm7, ht7⟩ := hm6.put (p := (at' : Int)) ⟨ha0, by omega⟩
   have HW6 := Lib.hid hw6
   have HC6 := Lib.hid hc6
   have HX6 := Lib.hid hb6
   have HF6 := Lib.hid hf6
   have HM7 := Lib.hid hm7
   have HT7 := Lib.hid ht7
   have hl6s := hat_lt hl6
   clear hw6 hc6 hb6 hm6 hf6 hm7 ht7 hlk5 hf5 hlk3
   go_wp2_with fail
   go_ret
   unfold tableP
   rw [HR.out]
   have hfr : Fr ([E.bc, E.gw, E.bf] ++ ex) w w7 := (((Fr.drop_new (fr_below HB2.out []) HF3.out hz1).mono (by simp +contextual)).trans HF6.out).trans ((fr_turned HT7.out).mono (by simp))
   have hw6 := HW6.out
   obtain ⟨cs6, hw6, -⟩ := hw6
   exact ⟨rfl, ⟨(turned_hat HT7.out hE.n3 hl6s).trans hl6, HW6.out.same (turned_hat HT7.out hE.n5 (hat_lt hw6)), HC6.out.same (turned_hat HT7.out hE.n6 HC6.out.lt), HM7.out, HX6.out.same (turned_hat HT7.out hE.n10.symm HX6.out.lt)⟩, hfr⟩
theorem Fr.past {ex ex' : List Nat} {w w' : World} (h : Fr ex w w') (hs : ∀ k ∈ ex, k ∈ ex' ∨ w.heap.size ≤ k) : Fr ex' w w' :=
 ⟨h.os, h.tape, h.output, h.size, fun b hb hn => h.block b hb fun hm => by
  rcases hs b hm with h1 | h1
  ·exact hn h1
  ·omega⟩
def Bools (w : World) (g N : Nat) (s : Int → Bool) : Prop := ∃ cs, hat w g = some (.cells cs 4) ∧ N ≤ cs.size ∧ ∀ j : Nat, j < N → cs[j]? = some (.bool (s j))
theorem Bools.lt {w : World} {g N : Nat} {s : Int → Bool} (h : Bools w g N s) : g < w.heap.size := by
 obtain ⟨cs, h1, -⟩ := h; exact hat_lt h1
theorem Bools.same {w w' : World} {g N : Nat} {s : Int → Bool} (h : Bools w g N s) (he : hat w' g = hat w g) : Bools w' g N s := by
 obtain ⟨cs, h1, h2⟩ := h
 exact ⟨cs, he.trans h1, h2⟩
theorem Bools.put {w : World} {g N : Nat} {s : Int → Bool} (h : Bools w g N s) {p : Nat} (hp : p < N) : Bools (w.setCell ⟨g, p, none⟩ (.bool true)) g N (addS s p) := by
 obtain ⟨cs, h1, h2, h3⟩ := h
 refine ⟨cs.setIfInBounds p (.bool true), hat_setCell_at _ _ _ _ _ _ _ h1, by simpa using h2, fun j hj => ?_⟩
 rw [Array.getElem?_setIfInBounds]
 by_cases hjp : p = j
 ·subst hjp
  rw [if_pos rfl, if_pos (by omega)]
  simp [addS]
 ·rw [if_neg hjp, h3 j hj]
  have : ¬ ((j : Int) = (p : Int)) := by omega
  simp [addS, this]
structure SEnv where
 (g gs cs gi oi N ci : Nat)
 (X Y : Int)
 (S : Nat → List Int)
 ino : Value
structure SG (E : SEnv) (w : World) (seen : Int → Bool) : Prop where
 s : hat w E.g = some (.cells #[.int .i64 E.X, .int .i64 E.Y, .slice (some ⟨E.gi, E.oi, none⟩) E.N E.ci, .slice (some ⟨E.gs, 0, none⟩) E.N E.cs, E.ino] 81)
 b : Bools w E.gs E.N seen
 i : Secs w E.gi E.oi E.N E.S
structure SOk (E : SEnv) : Prop where
 X : E.X = E.N
 N : E.N ≤ 4096
 Y0 : 0 ≤ E.Y
 n1 : E.g ≠ E.gs
 n2 : E.gi ≠ E.gs
theorem SG.fr {E : SEnv} {w w' : World} {seen : Int → Bool} {ex : List Nat} (h : SG E w seen) (hf : Fr ex w w') (h1 : E.g ∉ ex) (h2 : E.gs ∉ ex) (h3 : E.gi ∉ ex) : SG E w' seen :=
 ⟨(hf.block _ (hat_lt h.s) h1).trans h.s, h.b.same (hf.block _ h.b.lt h2), h.i.same (hf.block _ h.i.lt h3)⟩
@[go_sem] theorem ld_super5 (raw : Result Value) (w : World) (a b c d e : Value) (t : TypeId) (fr : Nat × Nat) : ldRow raw 2 0 w (some (.cells #[a, b, c, d, e] t fr)) = .ok (.agg #[a, b]) w := by
 rw [ldRow_part (by simp)]; rfl
def aimW (X Y idx n p : Int) (s : Int → Bool) : Bool := decide (idx < n) && isD X Y p && !s p
def aimS (X Y idx n p : Int) (s : Int → Bool) : Int → Bool := if aimW X Y idx n p s = true then addS s p else s
def rowW (X Y n base : Int) : Nat → List Int → (Int → Bool) → Option (Int → Bool)
 | _, [], s => some s
 | k, p :: r, s => if p = 0 then rowW X Y n base (k + 1) r s else if aimW X Y (base + k) n p s = true then rowW X Y n base (k + 1) r (addS s p) else none
def someL (ps : List Int) : Bool := ps.any fun p => p != 0
def tabW (X Y : Int) (S : Nat → List Int) (n base : Int) (at' : Nat) (s : Int → Bool) : Option (Int → Bool) :=
 match rowW X Y n base 0 (rdPtr (S at')) s with
 | none => none
 | some s' => if someL (rdPtr (S at')) = true then some s' else none
theorem hat_setCell_ne (w : World) (g i : Nat) (v : Value) (n : Nat) (h : n ≠ g) : hat (w.setCell ⟨g, i, none⟩ v) n = hat w n := hat_setCell _ ⟨g, i, none⟩ v n h
structure TEnv where
 (lv nv xv gx : Nat)
 n : Int
structure TV (E : Env) (T : TEnv) (w : World) : Prop where
 l : hat w T.lv = some (.cells #[.pointer (some ⟨E.gl, 0, none⟩)] 56)
 n : hat w T.nv = some (.cells #[.int .i64 T.n] 3)
 x : hat w T.xv = some (.cells #[.pointer (some ⟨T.gx, 0, none⟩)] 70)
 g : ∃ cs, hat w T.gx = some (.cells cs 69) ∧ cs.size = 20 ∧ cs[19]? = some (.map (some E.bx))
theorem TV.fr {E : Env} {T : TEnv} {w w' : World} {ex : List Nat} (h : TV E T w) (hf : Fr ex w w') (h1 : T.lv ∉ ex) (h2 : T.nv ∉ ex) (h3 : T.xv ∉ ex) (h4 : T.gx ∉ ex) : TV E T w' := by
 obtain ⟨cs, hg, hg2⟩ := h.g
 exact ⟨(hf.block _ (hat_lt h.l) h1).trans h.l, (hf.block _ (hat_lt h.n) h2).trans h.n, (hf.block _ (hat_lt h.x) h3).trans h.x, cs, (hf.block _ (hat_lt hg) h4).trans hg, hg2⟩
theorem TV.cell {E : Env} {T : TEnv} {w : World} (h : TV E T w) (g j : Nat) (v : Value) (h1 : g ≠ T.lv) (h2 : g ≠ T.nv) (h3 : g ≠ T.xv) (h4 : g = T.gx → j ≤ 18) : TV E T (w.setCell ⟨g, j, none⟩ v) := by
 obtain ⟨cs, hg, hg2, hg3⟩ := h.g
 refine ⟨(hat_setCell_ne w g j v _ h1.symm).trans h.l, (hat_setCell_ne w g j v _ h2.symm).trans h.n, (hat_setCell_ne w g j v _ h3.symm).trans h.x, ?_⟩
 by_cases hgx : g = T.gx
 ·have hj := h4 hgx
  subst hgx
  refine ⟨cs.setIfInBounds j v, hat_setCell_at _ _ _ _ _ _ _ hg, by simpa using hg2, ?_⟩
  rw [Array.getElem?_setIfInBounds, if_neg (by omega)]
  exact hg3
 ·exact ⟨cs, (hat_setCell_ne w g j v _ (fun e => hgx e.symm)).trans hg, hg2, hg3⟩
def mine (E : Env) : List Nat := [E.gl, E.gw, E.bc, E.bf, E.bx]
structure TOk (E : Env) (T : TEnv) : Prop where
 l : T.lv ∉ mine E
 n : T.nv ∉ mine E
 x : T.xv ∉ mine E
 g : T.gx ∉ mine E
 n0 : 0 ≤ T.n
 n1 : T.n ≤ 1068
def keepRow (base : Int) (k : Nat) (p : Int) (st : LS) : Bool × LS := (true, { st with bk := putI st.bk (base + k) p })
def rowP (E : Env) (T : TEnv) (base : Int) (ps : List Int) (st : LS) : List Int × Bool × LS := siftP (goodP E) (keepRow base) base 1 T.n 0 ps st
theorem keepRow_any {E : Env} (hE : EOk E) {T : TEnv} (hT : TOk E T) (fv : Nat) (base : Int) (k : Nat) (p : Int) (st : LS) (w : World) (h : LK E w st) (hv : TV E T w) (hf : hat w fv = some (.cells #[.int .i64 base] 3))
  (h0 : 0 ≤ base) (h1 : base ≤ 1068) (hk : k < 32) (hp0 : 0 ≤ p) (hp1 : p ≤ 4294967295) :
  Calls Tryz.prog 50 #[.int .i64 k, .int .i64 p, .pointer (some ⟨T.xv, 0, none⟩), .pointer (some ⟨fv, 0, none⟩)] w fun e w' =>
   e = .returned (.bool (keepRow base k p st).1) ∧ LK E w' (keepRow base k p st).2 ∧ Fr [E.bx] w w' := by
 obtain ⟨cs, hg, hgs, hg19⟩ := hv.g
 have h19 : ∀ h : 19 < cs.size, cs[19]'h = Value.map (some E.bx) := fun h => by
  rw [Array.getElem?_eq_getElem h] at hg19
  exact Option.some.inj hg19
 have hx := hv.x
 have HL := Lib.hid h
 obtain ⟨w1, hr, hm, ht⟩ := (show IB w.drew E.bx st.bk from h.blocks).put (p := base + k) (a := p) (by omega) (i64_small hp0 hp1)
 have HM := Lib.hid hm
 have HT := Lib.hid ht
 have hk0 : (0 : Int) ≤ (k : Int) := Int.natCast_nonneg _
 have hk1 : (k : Int) < 32 := by omega
 clear hm ht h
 go_enter Tryz.func50, Tryz.ntmps50
 go_wp2_with fail
 go_region
 go_wp2_with fail
 go_ret
 have hl : LK E w.drew st := HL.out.fr (fr_drew (Fr.refl [] w)) (by simp) (by simp) (by simp) (by simp) (by simp)
 have hw := hl.want
 obtain ⟨csw, hw, -⟩ := hw
 exact ⟨rfl, ⟨(turned_hat HT.out hE.n7 (hat_lt hl.look)).trans hl.look, hl.want.same (turned_hat HT.out hE.n8 (hat_lt hw)), hl.claim.same (turned_hat HT.out hE.n9 hl.claim.lt), hl.firm.same (turned_hat HT.out hE.n10 hl.firm.lt), HM.out⟩, (fr_drew (Fr.refl _ w)).trans (fr_turned HT.out)⟩
theorem row_any {E : Env} (hE : EOk E) {T : TEnv} (hT : TOk E T) (gp op cp sz : Nat) (tg : TypeId) (re : Nat → Option Value) (ps : List Int) (base : Int) (st : LS) (w : World) (h : LK E w st) (hv : TV E T w) (hN : Nums w gp op tg sz re ps)
  (hc : ps.length ≤ cp) (hm : ps.length ≤ 32) (h0 : 0 ≤ base) (h1 : base ≤ 1068) (hp : ∀ p ∈ ps, 0 ≤ p ∧ p ≤ 4294967295)
  (hg : gp ∉ mine E) (hl : gp ≠ T.lv) (hn : gp ≠ T.nv) (hx : gp ≠ T.xv) (hgx : gp = T.gx → op + ps.length ≤ 19) :
  Calls Tryz.prog 48 #[.slice (some ⟨gp, op, none⟩) ps.length cp, .int .i64 base, .pointer (some ⟨T.lv, 0, none⟩), .pointer (some ⟨T.nv, 0, none⟩), .pointer (some ⟨T.xv, 0, none⟩)] w fun e w' =>
   e = .returned (.bool (rowP E T base ps st).2.1) ∧ LK E w' (rowP E T base ps st).2.2 ∧ TV E T w' ∧ Nums w' gp op tg sz re (rowP E T base ps st).1 ∧ Fr [E.bc, E.bx, gp] w w' := by
 have HL := Lib.hid h
 have HV := Lib.hid hv
 have HN := Lib.hid hN
 have HP := Lib.hid hp
 have hv1 := hv.l
 have hv2 := hv.n
 have hv3 := hv.x
 have z1 := hat_lt hv1
 have z2 := hat_lt hv2
 have z3 := hat_lt hv3
 clear h hv hN hp
 go_enter Tryz.func48, Tryz.ntmps48
 go_wp2_with fail
 have hf0 : Fr [] w (w.alloc (.cells #[.int .i64 base] 3)) := fr_below ((Below.refl w.heap.size w).alloc (Nat.le_refl _) _) []
 have hN1 := HN.out
 obtain ⟨csg, hg1, hg2⟩ := hN1
 have hgl := hat_lt hg1
 have hfv := hopN w (.cells #[.int .i64 base] 3)
 have hgf : gp ≠ w.heap.size := by omega
 have hbcf : E.bc ≠ w.heap.size := by have := HL.out.claim.lt; omega
 have hbxf : E.bx ≠ w.heap.size := by have := HL.out.blocks.lt; omega
 have hl0 := HL.out.fr hf0 (by simp) (by simp) (by simp) (by simp) (by simp)
 have hv0 := HV.out.fr hf0 (by simp) (by simp) (by simp) (by simp)
 have hn0 := HN.out.same (hf0.block gp hgl (by simp))
 generalize hfv' : w.heap.size = fv at *
 generalize w.alloc (.cells #[.int .i64 base] 3) = w0 at *
 have hg0 : gp < w0.heap.size := by have := hf0.size; omega
 obtain ⟨hm1, hm2, hm3, hm4, hm5⟩ : gp ≠ E.gl ∧ gp ≠ E.gw ∧ gp ≠ E.bc ∧ gp ≠ E.bf ∧ gp ≠ E.bx := by simpa [mine] using hg
 obtain ⟨-, -, tl2, -, tl3⟩ : T.lv ≠ E.gl ∧ T.lv ≠ E.gw ∧ T.lv ≠ E.bc ∧ T.lv ≠ E.bf ∧ T.lv ≠ E.bx := by simpa [mine] using hT.l
 obtain ⟨-, -, tn2, -, tn3⟩ : T.nv ≠ E.gl ∧ T.nv ≠ E.gw ∧ T.nv ≠ E.bc ∧ T.nv ≠ E.bf ∧ T.nv ≠ E.bx := by simpa [mine] using hT.n
 obtain ⟨-, -, tx2, -, tx3⟩ : T.xv ≠ E.gl ∧ T.xv ≠ E.gw ∧ T.xv ≠ E.bc ∧ T.xv ≠ E.bf ∧ T.xv ≠ E.bx := by simpa [mine] using hT.x
 obtain ⟨-, -, tg2, -, tg3⟩ : T.gx ≠ E.gl ∧ T.gx ≠ E.gw ∧ T.gx ≠ E.bc ∧ T.gx ≠ E.bf ∧ T.gx ≠ E.bx := by simpa [mine] using hT.g
 refine (sift_any (goodP E) (keepRow base) base 1 T.n (fun w' st' => LK E w' st' ∧ TV E T w' ∧ hat w' fv = some (.cells #[.int .i64 base] 3) ∧ Fr [E.bc, E.bx, gp] w0 w') _ 50 #[.pointer (some ⟨T.xv, 0, none⟩), .pointer (some ⟨fv, 0, none⟩)] gp op cp sz tg re ps st w0 ?hf ⟨hl0, hv0, hfv.1, Fr.refl _ _⟩ hn0 hc hm h0 (by omega) (by omega) (by omega) hT.n0 (by have := hT.n1; omega) HP.out ?hset ?hgood ?hkeep).mono ?post
 case hf =>
  intro args w
  go_simp
 case hset =>
  rintro w1 st1 j v hj1 hj2 ⟨h1, h2, h3, h4⟩
  have hfr := fr_setCell w1 gp j v
  exact ⟨h1.fr hfr (by simpa using hm1.symm) (by simpa using hm2.symm) (by simpa using hm3.symm) (by simpa using hm4.symm) (by simpa using hm5.symm),
   h2.cell gp j v hl hn hx (fun e => by have := hgx e; omega), (hat_setCell_ne w1 gp j v _ hgf.symm).trans h3, h4.trans (hfr.mono (by simp))⟩
 case hgood =>
  rintro p st1 w1 hp0 hp1 ⟨h1, h2, h3, h4⟩
  refine (good_any hE p st1 w1 hp0 hp1 h1).mono ?_
  rintro e w2 ⟨rfl, h5, h6⟩
  exact ⟨rfl, ⟨h5, h2.fr h6 (by simpa using tl2) (by simpa using tn2) (by simpa using tx2) (by simpa using tg2), (h6.block fv (hat_lt h3) (by simpa using hbcf.symm)).trans h3, h4.trans (h6.mono (by simp))⟩, h6.block gp (Nat.lt_of_lt_of_le hg0 h4.size) (by simpa using hm3)⟩
 case hkeep =>
  rintro k p st1 w1 hk hp0 hp1 - ⟨h1, h2, h3, h4⟩
  refine (keepRow_any hE hT fv base k p st1 w1 h1 h2 h3 h0 (by omega) (by omega) hp0 hp1).mono ?_
  rintro e w2 ⟨rfl, h5, h6⟩
  exact ⟨rfl, ⟨h5, h2.fr h6 (by simpa using tl3) (by simpa using tn3) (by simpa using tx3) (by simpa using tg3), (h6.block fv (hat_lt h3) (by simpa using hbxf.symm)).trans h3, h4.trans (h6.mono (by simp))⟩, h6.block gp (Nat.lt_of_lt_of_le hg0 h4.size) (by simpa using hm5)⟩
 case post =>
  rintro e w1 ⟨rfl, ⟨h1, h2, h3, h4⟩, h5⟩
  have HF := Lib.hid ((hf0.mono (by simp)).trans h4)
  have H1 := Lib.hid h1
  have H2 := Lib.hid h2
  have H5 := Lib.hid h5
  clear h1 h2 h3 h4 h5 hl0 hv0 hn0 hfv hv1 hv2 hv3
  go_wp2_with fail
  go_ret
  exact ⟨rfl, H1.out, H2.out, H5.out, HF.out⟩
structure TC (E : Env) (T : TEnv) (rv bv : Nat) (w : World) : Prop where
 v : TV E T w
 r : hat w rv = some (.cells #[.func (.func 48) #[] #[.pointer (some ⟨T.lv, 0, none⟩), .pointer (some ⟨T.nv, 0, none⟩), .pointer (some ⟨T.xv, 0, none⟩)]] 97)
 b : hat w bv = some (.cells #[.func (.func 51) #[] #[.pointer (some ⟨T.lv, 0, none⟩), .pointer (some ⟨rv, 0, none⟩)]] 96)
def theirs (T : TEnv) (rv bv : Nat) : List Nat := [T.lv, T.nv, T.xv, T.gx, rv, bv]
theorem TC.fr {E : Env} {T : TEnv} {rv bv : Nat} {w w' : World} {ex : List Nat} (h : TC E T rv bv w) (hf : Fr ex w w') (hd : ∀ k ∈ ex, k ∉ theirs T rv bv) : TC E T rv bv w' := by
 have m : ∀ k, k ∈ theirs T rv bv → k ∉ ex := fun k hk he => hd k he hk
 exact ⟨h.v.fr hf (m _ (by simp [theirs])) (m _ (by simp [theirs])) (m _ (by simp [theirs])) (m _ (by simp [theirs])), (hf.block _ (hat_lt h.r) (m _ (by simp [theirs]))).trans h.r, (hf.block _ (hat_lt h.b) (m _ (by simp [theirs]))).trans h.b⟩
theorem TC.lt {E : Env} {T : TEnv} {rv bv : Nat} {w : World} (h : TC E T rv bv w) : ∀ k ∈ theirs T rv bv, k < w.heap.size := by
 obtain ⟨cs, hg, -⟩ := h.v.g
 intro k hk
 simp only [theirs, List.mem_cons, List.mem_nil_iff, or_false] at hk
 rcases hk with rfl | rfl | rfl | rfl | rfl | rfl
 ·exact hat_lt h.v.l
 ·exact hat_lt h.v.n
 ·exact hat_lt h.v.x
 ·exact hat_lt hg
 ·exact hat_lt h.r
 ·exact hat_lt h.b
structure COk (E : Env) (T : TEnv) (rv bv : Nat) : Prop where
 t : TOk E T
 apart : ∀ k ∈ mine E, k ∉ theirs T rv bv
theorem rowT_any {E : Env} (hE : EOk E) {T : TEnv} {rv bv : Nat} (hT : COk E T rv bv) (fv gt : Nat) (base : Int) (ps : List Int) (st : LS) (w : World) (h : LK E w st) (hv : TC E T rv bv w) (hf : hat w fv = some (.cells #[.int .i64 base] 3))
  (hN : Nums w gt 0 89 32 (fun _ => none) ps) (hl : ps.length = 32) (hp : ∀ p ∈ ps, 0 ≤ p ∧ p ≤ 4294967295) (h0 : 0 ≤ base) (h1 : base ≤ 1068) (hg : gt ∉ mine E) (hgt : gt ∉ theirs T rv bv) :
  Calls Tryz.prog 53 #[.slice (some ⟨gt, 0, none⟩) 32 32, .pointer (some ⟨rv, 0, none⟩), .pointer (some ⟨fv, 0, none⟩)] w fun e w' =>
   e = .returned (.bool (rowP E T base ps st).2.1) ∧ LK E w' (rowP E T base ps st).2.2 ∧ hat w' gt = some (.cells (IV .i64 (rowP E T base ps st).1) 89) ∧ (rowP E T base ps st).1.length = 32 ∧ Fr [gt, E.bc, E.bx] w w' := by
 have hr := hv.r
 have HL := Lib.hid h
 have HV := Lib.hid hv
 have HN := Lib.hid hN
 have HP := Lib.hid hp
 clear h hv hN hp
 simp only [theirs, List.mem_cons, List.mem_nil_iff, or_false, not_or] at hgt
 go_enter Tryz.func53, Tryz.ntmps53
 go_wp2_with fail
 have hc := row_any hE hT.t gt 0 32 32 89 (fun _ => none) ps base st w HL.out HV.out.v HN.out (by omega) (by omega) h0 h1 HP.out hg hgt.1 hgt.2.1 hgt.2.2.1 (fun e => absurd e hgt.2.2.2.1)
 rw [hl] at hc
 refine hc.mono ?_; rintro e w1 ⟨rfl, h2, h3, h4, h5⟩
 have hlen : (rowP E T base ps st).1.length = 32 := (siftP_len _ _ _ _ _ _ _ _).trans hl
 have h6 : hat w1 gt = some (.cells (IV .i64 (rowP E T base ps st).1) 89) := Nums.all (by rw [hlen]; exact h4)
 have H2 := Lib.hid h2
 have H5 := Lib.hid h5
 have H6 := Lib.hid h6
 have HLEN := Lib.hid hlen
 clear h2 h3 h4 h5 h6 hlen hc
 go_wp2_with fail
 go_ret
 exact ⟨rfl, H2.out, H6.out, HLEN.out, H5.out.mono (by simp)⟩
noncomputable def belowP (E : Env) (T : TEnv) (base p : Int) (st : LS) : Bool × LS := tableP (rowP E T base) p.toNat st
theorem below_any {E : Env} (hE : EOk E) {T : TEnv} {rv bv : Nat} (hT : COk E T rv bv) (base p : Int) (st : LS) (w : World) (h : LK E w st) (hv : TC E T rv bv w)
  (h0 : 0 ≤ base) (h1 : base ≤ 1068) (hp : isD E.X E.Y p = true) :
  Calls Tryz.prog 51 #[.int .i64 p, .int .i64 base, .pointer (some ⟨T.lv, 0, none⟩), .pointer (some ⟨rv, 0, none⟩)] w fun e w' =>
   e = .returned (.bool (belowP E T base p st).1) ∧ LK E w' (belowP E T base p st).2 ∧ Fr [E.bc, E.gw, E.bf, E.bx] w w' := by
 have hr := isD_range hE hp
 have hl := hv.v.l
 have hlz := hat_lt hl
 have HL := Lib.hid h
 have HV := Lib.hid hv
 clear h hv
 have hpn : p = (p.toNat : Int) := by omega
 unfold belowP
 generalize p.toNat = at' at *
 subst hpn
 go_enter Tryz.func51, Tryz.ntmps51
 go_wp2_with fail
 have hf0 : Fr [] w (w.alloc (.cells #[.int .i64 base] 3)) := fr_below ((Below.refl w.heap.size w).alloc (Nat.le_refl _) _) []
 have hfv := hopN w (.cells #[.int .i64 base] 3)
 have hlt := HV.out.lt
 have hv0 := HV.out.fr hf0 (by simp)
 have hl0 := HL.out.fr hf0 (by simp) (by simp) (by simp) (by simp) (by simp)
 have hf2 := hf0.size
 generalize hfv' : w.heap.size = fv at *
 generalize w.alloc (.cells #[.int .i64 base] 3) = w0 at *
 have hcl := HL.out.claim.lt
 have hfr := HL.out.firm.lt
 have hbl := HL.out.blocks.lt
 refine (table_any hE (rowP E T base) 53 #[.pointer (some ⟨rv, 0, none⟩), .pointer (some ⟨fv, 0, none⟩)] at' st w0 (fun W => TC E T rv bv W ∧ hat W fv = some (.cells #[.int .i64 base] 3)) [E.bc, E.bx] ⟨hv0, hfv.1⟩ ?hJ ?hf (by omega) (by have := hE.small; have := hE.size; omega) hl0 ?hs).mono ?post
 case hJ =>
  rintro W W' ⟨h2, h3⟩ hfr
  exact ⟨h2.fr hfr (by simp), (hfr.block fv (hat_lt h3) (by simp)).trans h3⟩
 case hf =>
  intro args w
  go_simp
 case hs =>
  rintro ps gt st1 W hps hpb h2 ⟨h3, h4⟩ h5 h6 h7
  refine (rowT_any hE hT fv gt base ps st1 W h2 h3 h4 h5 hps hpb h0 h1 h6 ?_).mono fun e w' h => h
  intro hm
  have := hlt gt hm
  have := hfv.2
  omega
 case post =>
  rintro e w1 ⟨rfl, h2, h3⟩
  have H2 := Lib.hid h2
  have H3 := Lib.hid ((hf0.mono (by simp)).trans (h3.mono (ex' := [E.bc, E.gw, E.bf, E.bx]) (by simp)))
  clear h2 h3 hl0 hv0 hfv hl
  go_wp2_with fail
  go_ret
  exact ⟨rfl, H2.out, H3.out⟩
theorem goodP_isD {E : Env} {p : Int} (h : ∃ s0, (goodP E p s0).1 = true) : isD E.X E.Y p = true := by
 obtain ⟨s0, h⟩ := h
 unfold goodP at h
 split at h
 ·rename_i h2; exact h2.1
 ·cases h
noncomputable def keep3 (E : Env) (T : TEnv) (_k : Nat) (p : Int) (st : LS) : Bool × LS := belowP E T 12 p st
noncomputable def keep9 (E : Env) (T : TEnv) (k : Nat) (p : Int) (st : LS) : Bool × LS := belowP E T (44 + 32 * k) p st
noncomputable def dblP (E : Env) (T : TEnv) (ps : List Int) (st : LS) : List Int × Bool × LS := siftP (goodP E) (keep9 E T) 44 32 T.n 0 ps st
noncomputable def keep4 (E : Env) (T : TEnv) (_k : Nat) (p : Int) (st : LS) : Bool × LS := tableP (dblP E T) p.toNat st
theorem keep3_any {E : Env} (hE : EOk E) {T : TEnv} {rv bv : Nat} (hT : COk E T rv bv) (k : Nat) (p : Int) (st : LS) (w : World) (h : LK E w st) (hv : TC E T rv bv w) (hp : isD E.X E.Y p = true) :
  Calls Tryz.prog 54 #[.int .i64 k, .int .i64 p, .pointer (some ⟨bv, 0, none⟩)] w fun e w' =>
   e = .returned (.bool (keep3 E T k p st).1) ∧ LK E w' (keep3 E T k p st).2 ∧ Fr [E.bc, E.gw, E.bf, E.bx] w w' := by
 have hb := hv.b
 have HL := Lib.hid h
 have HV := Lib.hid hv
 clear h hv
 unfold keep3
 go_enter Tryz.func54, Tryz.ntmps54
 go_wp2_with fail
 refine (below_any hE hT 12 p st w HL.out HV.out (by omega) (by omega) hp).mono ?_; rintro e w1 ⟨rfl, h2, h3⟩
 have H2 := Lib.hid h2
 have H3 := Lib.hid h3
 clear h2 h3
 go_wp2_with fail
 go_ret
 exact ⟨rfl, H2.out, H3.out⟩
theorem keep9_any {E : Env} (hE : EOk E) {T : TEnv} {rv bv : Nat} (hT : COk E T rv bv) (k : Nat) (hk : k < 32) (p : Int) (st : LS) (w : World) (h : LK E w st) (hv : TC E T rv bv w) (hp : isD E.X E.Y p = true) :
  Calls Tryz.prog 57 #[.int .i64 k, .int .i64 p, .pointer (some ⟨bv, 0, none⟩)] w fun e w' =>
   e = .returned (.bool (keep9 E T k p st).1) ∧ LK E w' (keep9 E T k p st).2 ∧ Fr [E.bc, E.gw, E.bf, E.bx] w w' := by
 have hb := hv.b
 have HL := Lib.hid h
 have HV := Lib.hid hv
 have hk0 : (0 : Int) ≤ (k : Int) := Int.natCast_nonneg _
 have hk1 : (k : Int) < 32 := by omega
 clear h hv
 unfold keep9
 go_enter Tryz.func57, Tryz.ntmps57
 go_wp2_with fail
 refine (below_any hE hT (44 + 32 * k) p st w HL.out HV.out (by omega) (by omega) hp).mono ?_; rintro e w1 ⟨rfl, h2, h3⟩
 have H2 := Lib.hid h2
 have H3 := Lib.hid h3
 clear h2 h3
 go_wp2_with fail
 go_ret
 exact ⟨rfl, H2.out, H3.out⟩
theorem dbl_any {E : Env} (hE : EOk E) {T : TEnv} {rv bv : Nat} (hT : COk E T rv bv) (gt : Nat) (ps : List Int) (st : LS) (w : World) (h : LK E w st) (hv : TC E T rv bv w)
  (hN : Nums w gt 0 89 32 (fun _ => none) ps) (hl : ps.length = 32) (hp : ∀ p ∈ ps, 0 ≤ p ∧ p ≤ 4294967295) (hg : gt ∉ mine E) (hgt : gt ∉ theirs T rv bv) :
  Calls Tryz.prog 56 #[.slice (some ⟨gt, 0, none⟩) 32 32, .pointer (some ⟨T.lv, 0, none⟩), .pointer (some ⟨T.nv, 0, none⟩), .pointer (some ⟨bv, 0, none⟩)] w fun e w' =>
   e = .returned (.bool (dblP E T ps st).2.1) ∧ LK E w' (dblP E T ps st).2.2 ∧ hat w' gt = some (.cells (IV .i64 (dblP E T ps st).1) 89) ∧ (dblP E T ps st).1.length = 32 ∧ Fr [gt, E.bc, E.gw, E.bf, E.bx] w w' := by
 have hv1 := hv.v.l
 have hv2 := hv.v.n
 have HL := Lib.hid h
 have HV := Lib.hid hv
 have HN := Lib.hid hN
 have HP := Lib.hid hp
 clear h hv hN hp
 have hgn : ∀ k ∈ theirs T rv bv, k ≠ gt := fun k hk e => hgt (e ▸ hk)
 have hgm : ∀ k ∈ mine E, k ≠ gt := fun k hk e => hg (e ▸ hk)
 go_enter Tryz.func56, Tryz.ntmps56
 go_wp2_with fail
 have hcall := sift_any (goodP E) (keep9 E T) 44 32 T.n (fun w' st' => LK E w' st' ∧ TC E T rv bv w' ∧ Fr [gt, E.bc, E.gw, E.bf, E.bx] w w') (.pointer (some ⟨E.gl, 0, none⟩)) 57 #[.pointer (some ⟨bv, 0, none⟩)] gt 0 32 32 89 (fun _ => none) ps st w (fun args w => by go_simp) ⟨HL.out, HV.out, Fr.refl _ _⟩ HN.out (by omega) (by omega) (by omega) (by omega) (by omega) (by omega) hT.t.n0 (by have := hT.t.n1; omega) HP.out
  (by
   rintro w1 st1 j v hj1 hj2 ⟨h1, h2, h3⟩
   have hfr := fr_setCell w1 gt j v
   refine ⟨h1.fr hfr ?_ ?_ ?_ ?_ ?_, h2.fr hfr (by simpa using hgt), h3.trans (hfr.mono (by simp))⟩ <;> simpa using hgm _ (by simp [mine]))
  (by
   rintro p st1 w1 hp0 hp1 ⟨h1, h2, h3⟩
   refine (good_any hE p st1 w1 hp0 hp1 h1).mono ?_
   rintro e w2 ⟨rfl, h5, h6⟩
   exact ⟨rfl, ⟨h5, h2.fr h6 (by simpa using hT.apart E.bc (by simp [mine])), h3.trans (h6.mono (by simp))⟩, h6.block gt (Nat.lt_of_lt_of_le HN.out.lt h3.size) (by simpa using (hgm E.bc (by simp [mine])).symm)⟩)
  (by
   rintro k p st1 w1 hk hp0 hp1 hgd ⟨h1, h2, h3⟩
   refine (keep9_any hE hT k (by omega) p st1 w1 h1 h2 (goodP_isD hgd)).mono ?_
   rintro e w2 ⟨rfl, h5, h6⟩
   refine ⟨rfl, ⟨h5, h2.fr h6 ?_, h3.trans (h6.mono (by simp +contextual))⟩, h6.block gt (Nat.lt_of_lt_of_le HN.out.lt h3.size) ?_⟩
   ·intro q hq
    exact hT.apart q (by simp only [List.mem_cons, List.mem_nil_iff, or_false] at hq; rcases hq with rfl | rfl | rfl | rfl <;> simp [mine])
   ·intro hm
    exact hg (by simp only [List.mem_cons, List.mem_nil_iff, or_false] at hm; rcases hm with e | e | e | e <;> simp [mine, e]))
 rw [hl] at hcall
 refine hcall.mono ?_; rintro e w1 ⟨rfl, ⟨h2, h3, h4⟩, h5⟩
 have hlen : (dblP E T ps st).1.length = 32 := (siftP_len _ _ _ _ _ _ _ _).trans hl
 have h6 : hat w1 gt = some (.cells (IV .i64 (dblP E T ps st).1) 89) := Nums.all (by rw [hlen]; exact h5)
 have H2 := Lib.hid h2
 have H4 := Lib.hid h4
 have H6 := Lib.hid h6
 have HLEN := Lib.hid hlen
 clear h2 h3 h4 h5 h6 hlen hcall
 go_wp2_with fail
 go_ret
 exact ⟨rfl, H2.out, H6.out, HLEN.out, H4.out⟩
theorem keep4_any {E : Env} (hE : EOk E) {T : TEnv} {rv bv : Nat} (hT : COk E T rv bv) (k : Nat) (p : Int) (st : LS) (w : World) (h : LK E w st) (hv : TC E T rv bv w) (hp : isD E.X E.Y p = true) :
  Calls Tryz.prog 55 #[.int .i64 k, .int .i64 p, .pointer (some ⟨T.lv, 0, none⟩), .pointer (some ⟨T.nv, 0, none⟩), .pointer (some ⟨bv, 0, none⟩)] w fun e w' =>
   e = .returned (.bool (keep4 E T k p st).1) ∧ LK E w' (keep4 E T k p st).2 ∧ Fr [E.bc, E.gw, E.bf, E.bx] w w' := by
 have hr := isD_range hE hp
 have hl := hv.v.l
 have HL := Lib.hid h
 have HV := Lib.hid hv
 clear h hv
 have hpn : p = (p.toNat : Int) := by omega
 unfold keep4
 generalize p.toNat = at' at *
 subst hpn
 have hlt := HV.out.lt
 go_enter Tryz.func55, Tryz.ntmps55
 go_wp2_with fail
 refine (table_any hE (dblP E T) 56 #[.pointer (some ⟨T.lv, 0, none⟩), .pointer (some ⟨T.nv, 0, none⟩), .pointer (some ⟨bv, 0, none⟩)] at' st w (fun W => TC E T rv bv W) [E.bc, E.gw, E.bf, E.bx] HV.out ?hJ ?hf (by omega) (by have := hE.small; have := hE.size; omega) HL.out ?hs).mono ?post
 case hJ =>
  rintro W W' h2 hfr
  exact h2.fr hfr (by simp)
 case hf =>
  intro args w
  go_simp
 case hs =>
  rintro ps gt st1 W hps hpb h2 h3 h5 h6 h7
  refine (dbl_any hE hT gt ps st1 W h2 h3 h5 hps hpb h6 ?_).mono fun e w' h => h
  intro hm
  have := hlt gt hm
  omega
 case post =>
  rintro e w1 ⟨rfl, h2, h3⟩
  have H2 := Lib.hid h2
  have H3 := Lib.hid (h3.mono (ex' := [E.bc, E.gw, E.bf, E.bx]) (by simp))
  clear h2 h3 hl
  go_wp2_with fail
  go_ret
  exact ⟨rfl, H2.out, H3.out⟩
end Go.Proofs.YthioepdgnbdohaaGreat
