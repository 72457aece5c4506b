import Derived.LaidEql
import Derived.Stop.Asserts
import Derived.RowKitTokens
import Derived.Deep.Slices
import Derived.Deep.Strs
import Derived.OpenShut
import Derived.Test.YtmnecpnkkapflaaGreatM04
import Derived.Test.YtmnecpnkkapflaaGreatM09
import Derived.Test.YtmnecpnkkapflaaGreatM13
import Derived.Test.YtmnecpnkkapflaaGreatM14
import Derived.Test.YtmnecpnkkapflaaGreatM15
namespace Go.Proofs.YtmnecpnkkapflaaGreat
set_option maxHeartbeats 16000000
set_option maxRecDepth 1000000
set_option linter.unusedSimpArgs false
set_option linter.unusedVariables false
open Go.RowKit Go.Extern.Stop Go.Stop Go.Extern
theorem Tryz.isTypeOf (v : Value) (w : World) : (Extern.ReflectliteType.typeOf #[.iface 29 v]).run Tryz.prog w = .ok (.iface 143 (.agg #[.pointer (some ⟨1, 29, none⟩)])) w := by kernel_rfl
def cmpM : Array Value → Sem Value := Extern.ReflectliteType.method fun t => do Extern.Rtype.noPackHeld "Comparable" t; pure (.bool (← typeInfo t).comparable)
theorem Tryz.isComparable (w : World) : (cmpM #[.agg #[.pointer (some ⟨1, 29, none⟩)]]).run Tryz.prog w = .ok (.bool true) w := by kernel_rfl
theorem Tryz.isMethodComparable (v : Value) (w : World) : (Go.method 358 143 v "Comparable").run Tryz.prog w = .ok (185, v) w := by kernel_rfl
theorem Tryz.noIsE (v : Value) (xT : TypeId) (w : World) : (Instr.typeAssert (.iface 29 v) xT 145 true).run Tryz.prog w = .ok (.tuple #[.nilIface, .bool false]) w := run_typeAssert_lacksB Tryz.underlying145 (by kernel_rfl) (by kernel_rfl) v xT w
theorem Tryz.noUnwrapE (v : Value) (xT : TypeId) (w : World) : (Instr.typeAssert (.iface 29 v) xT 148 true).run Tryz.prog w = .ok (.tuple #[.nilIface, .bool false]) w := run_typeAssert_lacksB Tryz.underlying148 (by kernel_rfl) (by kernel_rfl) v xT w
theorem Tryz.noUnwrapsE (v : Value) (xT : TypeId) (w : World) : (Instr.typeAssert (.iface 29 v) xT 150 true).run Tryz.prog w = .ok (.tuple #[.nilIface, .bool false]) w := run_typeAssert_lacksB Tryz.underlying150 (by kernel_rfl) (by kernel_rfl) v xT w
theorem Tryz.errnoComp : (Tryz.prog.info? 29).map (·.comparable) = some true := by kernel_rfl
theorem run_eql_errno (x y : Int) (w : World) : (binOp .eql 107 (.iface 29 (.int .i64 x)) (.iface 29 (.int .i64 y))).run Tryz.prog w = .ok (.bool (x == y)) w := by
 obtain ⟨i, hi, hc⟩ := Option.map_eq_some_iff.1 Tryz.errnoComp
 have h : ∀ d : Nat, (Op.equalIn (d + 2) 107 (.iface 29 (.int .i64 x)) (.iface 29 (.int .i64 y))).run Tryz.prog w = .ok (x == y) w := fun d => by
  simp [Op.equalIn, run_underlying Tryz.underlying107, run_underlying Tryz.underlying29, typeInfo, hi, hc]
 simp only [binOp]
 simp [Op.equal, Op.maxDepth, h 9998]
theorem errors_isw (x y : Int) (w : World) : Calls Tryz.prog 56 #[.iface 29 (.int .i64 x), .iface 29 (.int .i64 y), .bool true] w fun e w' => e = .returned (.bool (x == y)) ∧ w' = w := by
 have nE := Tryz.noIsE
 have uE := Tryz.noUnwrapE
 have vE := Tryz.noUnwrapsE
 have heq := run_eql_errno x y
 cases hxy : (x == y) with
 | true =>
  rw [hxy] at heq
  go_enter Tryz.func56, Tryz.ntmps56
  go_wp2_with fail
  refine wp_loop_rounds 1 ?_
  rw [rounds_succ]
  go_wp2_with fail
  go_ret
  exact ⟨rfl, rfl⟩
 | false =>
  rw [hxy] at heq
  go_enter Tryz.func56, Tryz.ntmps56
  go_wp2_with fail
  refine wp_loop_rounds 1 ?_
  rw [rounds_succ]
  go_wp2_with fail
  go_ret
  exact ⟨rfl, rfl⟩
theorem errors_is (x y : Int) (w : World) : Calls Tryz.prog 36 #[.iface 29 (.int .i64 x), .iface 29 (.int .i64 y)] w fun e w' => e = .returned (.bool (x == y)) ∧ w' = w := by
 have h8 := @run_callFunc_extern Tryz.prog 55 _ Extern.ReflectliteType.typeOf Tryz.func55 (by kernel_rfl) (by kernel_rfl) (by kernel_rfl) (by kernel_rfl)
 have h32 := @run_callFunc_extern Tryz.prog 185 _ cmpM Tryz.func185 (by kernel_rfl) (by kernel_rfl) (by kernel_rfl) (by kernel_rfl)
 have tT := Tryz.isTypeOf
 have cT := Tryz.isComparable
 have mR := Tryz.isMethodComparable
 have nE := Tryz.noIsE
 have uE := Tryz.noUnwrapE
 have vE := Tryz.noUnwrapsE
 have heq := run_eql_errno x y
 go_enter Tryz.func36, Tryz.ntmps36
 clear heq nE uE vE
 go_wp2_with fail
 refine (errors_isw x y w).mono ?_; rintro e w1 ⟨rfl, rfl⟩
 go_wp2_with fail
 go_ret
 exact ⟨rfl, rfl⟩
open Go.RowKit
def wrD (W : Nat → List Int) : List Int → DS → Int × DS
 | [], d => (0, d)
 | n :: r, d => if (writeD n.toNat (W n.toNat) d).1 = 0 then wrD W r (writeD n.toNat (W n.toNat) d).2 else writeD n.toNat (W n.toNat) d
noncomputable def runD (N : Nat) (d : DS) : Int × DS := if d.off = true then (22, d) else if lookE N d.S ≠ 0 then (lookE N d.S, d) else wrD (lookS N d.S) (lookX N d.S) d
def RP.Nil (R : RP) : Prop := R.N = 0 ∧ R.xs = [] ∧ R.ys = [] ∧ R.zs = []
structure RunOut (N : Nat) (d : DS) (gd gs : Nat) (w : World) (e : Ending) (w' : World) (R : RP) : Prop where
 e : e = .returned (.tuple #[R.val, .int .i64 (runD N d).1])
 r : RepW w' R
 y : (runD N d).1 = 0 → R.Look N d.S
 n : (runD N d).1 ≠ 0 → R.Nil
 k : DK w' gd gs N (runD N d).2
 f : Fr [gd, gs] w w'
 o : ∀ g ∈ R.os, w.heap.size ≤ g
theorem wrD_drop {W : Nat → List Int} {L : List Int} {k : Nat} (hk : k < L.length) (d : DS) : wrD W (L.drop k) d = if (writeD (nth L k).toNat (W (nth L k).toNat) d).1 = 0 then wrD W (L.drop (k + 1)) (writeD (nth L k).toNat (W (nth L k).toNat) d).2 else writeD (nth L k).toNat (W (nth L k).toNat) d := by
 have e : L.drop k = nth L k :: L.drop (k + 1) := by
  rw [List.drop_eq_getElem_cons hk]
  unfold nth
  rw [List.getElem?_eq_getElem hk]; rfl
 rw [e]; rfl
theorem wrD_end {W : Nat → List Int} {L : List Int} (d : DS) : wrD W (L.drop L.length) d = (0, d) := by
 rw [List.drop_length]; rfl
theorem writeD_ok {n : Nat} {s : List Int} {d : DS} {c : Int} (h0 : 0 ≤ d.cnt) (h1 : d.cnt ≤ c) (h2 : 0 ≤ d.left) (h3 : d.left ≤ 1000000000000) :
  0 ≤ (writeD n s d).2.cnt ∧ (writeD n s d).2.cnt ≤ c + 1 ∧ 0 ≤ (writeD n s d).2.left ∧ (writeD n s d).2.left ≤ 1000000000000 := by
 unfold writeD
 split
 ·exact ⟨h0, by show d.cnt ≤ c + 1; omega, h2, h3⟩
 ·split
  ·exact ⟨h0, by show d.cnt ≤ c + 1; omega, Int.le_refl _, by show (0 : Int) ≤ _; omega⟩
  ·rename_i hn
   refine ⟨by show 0 ≤ d.cnt + 1; omega, by show d.cnt + 1 ≤ c + 1; omega, ?_, ?_⟩
   ·show 0 ≤ (if d.armed = true then d.left - 1 else d.left)
    split
    ·rename_i ha
     have : d.left ≠ 0 := fun h => hn ⟨ha, h⟩
     omega
    ·exact h2
   ·show (if d.armed = true then d.left - 1 else d.left) ≤ _
    split <;> omega
theorem writeD_two (n : Nat) (s : List Int) (d : DS) : (writeD n s d).1 = 0 ∨ (writeD n s d).1 = 22 := by
 unfold writeD
 split
 ·exact .inr rfl
 ·split
  ·exact .inr rfl
  ·exact .inl rfl
theorem lookX_at {N : Nat} {S : Nat → List Int} {k : Nat} (hk : k < (lookX N S).length) : ∃ j : Nat, nth (lookX N S) k = j ∧ j < N := by
 have hm : nth (lookX N S) k ∈ lookX N S := by
  unfold nth; rw [List.getElem?_eq_getElem hk]; exact List.getElem_mem hk
 unfold lookX at hm
 split at hm
 ·obtain ⟨j, hj⟩ := writeL_nat hm
  rw [hj] at hm
  exact ⟨j, by unfold lookX; rw [if_pos (by assumption)]; exact hj, (mem_writeL.1 hm).1⟩
 ·cases hm
def nilR : RP := ⟨.slice none 0 0, .slice none 0 0, .slice none 0 0, .slice none 0 0, none, none, none, none, 0, fun _ => [], [], [], []⟩
theorem nilR_rep (w : World) : RepW w nilR := ⟨SecR.none' _ _, .inl ⟨rfl, rfl, rfl⟩, .inl ⟨rfl, rfl, rfl⟩, .inl ⟨rfl, rfl, rfl⟩, fun g h => (by cases h), fun g h => (by cases h), fun g h => (by cases h), Nat.zero_le _, Nat.zero_le _, Nat.zero_le _, Nat.zero_le _⟩
theorem nilR_nil : nilR.Nil := ⟨rfl, rfl, rfl, rfl⟩
theorem nilR_os : ∀ g ∈ nilR.os, False := fun g h => by simp [RP.os, nilR] at h
theorem runNil_any (w : World) : Calls Tryz.prog 14 #[.pointer none] w fun e w' => e = .returned (.tuple #[nilR.val, .int .i64 1]) ∧ Below w.heap.size w w' := by
 go_enter Tryz.func14, Tryz.ntmps14
 go_wp2_with fail
 exact ret_ct row34 rfl (cs := repNil) rfl (hopN w _).1 rfl rfl ⟨rfl, (Below.refl _ _).alloc (Nat.le_refl _) _⟩
theorem run_any {w : World} {gd gs N : Nat} {d : DS} (h : DK w gd gs N d) (hk : DOk d) (hc : d.cnt ≤ 900000000000) (hN : N ≤ 4096) : Calls Tryz.prog 14 #[.pointer (some ⟨gd, 0, none⟩)] w fun e w' => ∃ R, RunOut N d gd gs w e w' R := by
 have H := Lib.hid h
 have HK := Lib.hid hk
 clear h hk
 have hz : hat (w.alloc (.cells repNil 34)) w.heap.size = some (.cells repNil 34) := (hopN w _).1
 have hf0 := fr_new w (.cells repNil 34) []
 have HF0 := Lib.hid hf0
 have H0 := Lib.hid (H.out.fr hf0 (by simp) (by simp))
 have hnd : w.heap.size ≠ gd ∧ w.heap.size ≠ gs := ⟨fun e => by have := hat_lt H.out.hd; omega, fun e => by have := H.out.hs.lt; omega⟩
 clear hf0
 unfold repNil at hz HF0 H0
 go_enter Tryz.func14, Tryz.ntmps14
 go_wp2_with fail
 generalize w.alloc (.cells #[.slice none 0 0, .slice none 0 0, .slice none 0 0, .slice none 0 0] 34) = w0 at *
 have hgz : Hid (w.heap.size ≤ w.heap.size) := Lib.hid (Nat.le_refl _)
 obtain ⟨gR, hgR⟩ : ∃ gR, gR = w.heap.size := ⟨_, rfl⟩
 rw [← hgR] at hz hnd ⊢
 have HGR := Lib.hid hgR
 clear hgR hgz
 have hzl := hat_lt hz
 refine (down_any H0.out).mono ?_; rintro e w1 ⟨rfl, rfl⟩
 cases ho : d.off with
 | true =>
  have HW : Hid (runD N d = (22, d)) := Lib.hid (by unfold runD; rw [if_pos ho])
  have HFp := Lib.hid (hat_put4 hz (.slice none 0 0) (.slice none 0 0) (.slice none 0 0) (.slice none 0 0))
  go_wp2_with fail
  refine ret_ct row34 rfl (cs := repNil) rfl HFp.out rfl rfl ⟨nilR, ⟨by rw [HW.out]; rfl, nilR_rep _, fun h => absurd h (by rw [HW.out]; show ¬ ((22 : Int) = 0); decide), fun _ => nilR_nil, ?_, ?_, fun g hg => (nilR_os g hg).elim⟩⟩
  ·rw [HW.out]
   exact H0.out.fr (fr_put4 w1 gR _ _ _ _) (by simpa using hnd.1.symm) (by simpa using hnd.2.symm)
  ·exact ((HF0.out.mono (ex' := [gR]) (by simp)).trans (fr_put4 w1 gR _ _ _ _)).past (fun k hk => by simp at hk; subst hk; exact .inr (by rw [HGR.out]; exact Nat.le_refl _))
 | false =>
  go_wp2_with fail
  refine (image_any H0.out hN).mono ?_; rintro e w2 ⟨gi, rfl, hws, hb2, hgi⟩
  have HF2 := Lib.hid (HF0.out.trans (fr_below hb2 []))
  have hz2 := (hop hb2 hz).1
  have HW2 := Lib.hid hws
  have H2 := Lib.hid (H0.out.fr (fr_below hb2 []) (by simp) (by simp))
  clear hws hb2 hz hzl
  have hzl := hat_lt hz2
  go_wp2_with fail
  refine (look_rep (img0_of HW2.out)).mono ?_; rintro e w3 ⟨hb3, R, rfl, hR, hRL, hRo⟩
  have HF3 := Lib.hid (HF2.out.trans (fr_below hb3 []))
  have hz3 := (hop hb3 hz2).1
  have H3 := Lib.hid (H2.out.fr (fr_below hb3 []) (by simp) (by simp))
  have HRO := Lib.hid (show ∀ g ∈ R.os, gR < g from fun g hg => by have h1 := hat_lt hz2; have h2 := hRo g hg; omega)
  obtain ⟨v0, v1, v2, v3, o0, o1, o2, o3, RN, RS, xs, ys, zs⟩ := R
  obtain ⟨a0, c0, e0⟩ := hR.r0.g.slice
  obtain ⟨a1, c1, e1⟩ := hR.r1.slice
  obtain ⟨a2, c2, e2⟩ := hR.r2.slice
  obtain ⟨a3, c3, e3⟩ := hR.r3.slice
  simp only at e0 e1 e2 e3
  subst e0 e1 e2 e3
  unfold RP.val
  simp only
  have HR := Lib.hid hR
  have HRL := Lib.hid hRL
  clear hb3 hR hRL hRo hz2 hzl
  have hzl := hat_lt hz3
  by_cases he : lookE N d.S = 0
  ·rw [he]
   have HW : Hid (runD N d = wrD (lookS N d.S) (lookX N d.S) d) := Lib.hid (by unfold runD; rw [if_neg (by rw [ho]; decide), if_neg (fun h => h he)])
   have hfA := fr_new w3 (.cells #[.slice a0 RN c0, .slice a1 xs.length c1, .slice a2 ys.length c2, .slice a3 zs.length c3] 34) []
   have hgA := (hopN w3 (.cells #[.slice a0 RN c0, .slice a1 xs.length c1, .slice a2 ys.length c2, .slice a3 zs.length c3] 34)).1
   have HF4 := Lib.hid (HF3.out.trans hfA)
   have H4 := Lib.hid (H3.out.fr hfA (by simp) (by simp))
   have hz4 := (hfA.block _ hzl (by simp)).trans hz3
   have HR4 := Lib.hid (HR.out.fr hfA (by simp))
   have hRA : gR ≠ w3.heap.size := by omega
   have HOA : Hid (∀ g ∈ (⟨.slice a0 RN c0, .slice a1 xs.length c1, .slice a2 ys.length c2, .slice a3 zs.length c3, o0, o1, o2, o3, RN, RS, xs, ys, zs⟩ : RP).os, g ≠ w3.heap.size) := Lib.hid (fun g hg e => by have := HR.out.lt g hg; omega)
   have HGA : Hid (w.heap.size ≤ w3.heap.size) := Lib.hid HF3.out.size
   clear hfA hz3 hzl H3 H2 HF2 HF3 HR
   have HDN : Hid (gd ≠ w3.heap.size ∧ gs ≠ w3.heap.size) := Lib.hid ⟨fun e => by have := hat_lt H4.out.hd; have := hat_lt hgA; have := HF4.out.size; have h5 := hat_lt H.out.hd; have := HGA.out; omega, fun e => by have h5 := H.out.hs.lt; have := HGA.out; omega⟩
   go_upto_region 6 with fail
   have hxe : xs = lookX N d.S := HRL.out.x
   have hsl := hat_lt hgA
   obtain ⟨hRN, hRS⟩ : RN = N ∧ RS = lookS N d.S := ⟨HRL.out.n.trans (by unfold lookN; rw [if_pos he]), HRL.out.s⟩
   generalize w3.alloc (.cells #[.slice a0 RN c0, .slice a1 xs.length c1, .slice a2 ys.length c2, .slice a3 zs.length c3] 34) = w4 at *
   generalize w3.heap.size = gr at *
   have HXE := Lib.hid hxe
   have HRS := Lib.hid hRS
   have HHE := Lib.hid he
   clear hxe hRS he
   subst hRN
   go_wp2_with fail
   go_loopw [28] (fun v wr => ∃ k : Nat, v = .int .i64 k ∧ k ≤ xs.length ∧ ∃ dk : DS, Hid (DK wr gd gs RN dk) ∧ Hid (0 ≤ dk.cnt ∧ dk.cnt ≤ d.cnt + k ∧ 0 ≤ dk.left ∧ dk.left ≤ 1000000000000) ∧ Hid (wrD RS xs d = wrD RS (xs.drop k) dk) ∧ Hid (Fr [gd, gs] w4 wr)) (fun v wr => xs.length - (intOf v).toNat)
   case atStart => exact ⟨0, rfl, Nat.zero_le _, d, H4, Lib.hid (by obtain ⟨q1, q2, q3, q4⟩ := HK.out; exact ⟨q1, by omega, q3, q4⟩), Lib.hid rfl, Lib.hid (Fr.refl _ _)⟩
   case round =>
    obtain ⟨k, rfl, hk, dk, HD, HN, HE, HF⟩ := hrel
    have hg := (HF.out.block gr (hat_lt hgA) (by simp; exact ⟨HDN.out.1.symm, HDN.out.2.symm⟩)).trans hgA
    have hz5 := (HF.out.block gR (hat_lt hz4) (by simpa using hnd)).trans hz4
    have hgl := hat_lt hg
    have hzl := hat_lt hz5
    by_cases hkN : k < xs.length
    ·have hk0 : (0 : Int) ≤ (k : Int) := Int.natCast_nonneg _
     have hk1 : (k : Int) < (xs.length : Int) := by omega
     have HRr := Lib.hid (HR4.out.fr HF.out (fun g hg => by
      have h1 := HRO.out g hg
      have h2 := hat_lt H.out.hd
      have h3 := H.out.hs.lt
      have h4 := HGR.out
      simp only [List.mem_cons, List.not_mem_nil, or_false, not_or]
      omega))
     obtain ⟨j, hj, hjN⟩ : ∃ j : Nat, nth xs k = j ∧ j < RN := by rw [HXE.out]; exact lookX_at (by rw [← HXE.out]; exact hkN)
     obtain ⟨gq, offq, cq, csq, eq, -, hcq, hxq⟩ := HRr.out.r1.cell (k := k) hkN
     injection eq with e1 e2 e3
     subst e1 e3
     rw [hj] at hxq
     obtain ⟨aW, cW, eW, hW⟩ := HRr.out.r0.img
     obtain ⟨gW, oW, eaW, hSW⟩ := hW (by show 0 < RN; omega)
     injection eW with f1 f2 f3
     subst f1 f3 eaW
     obtain ⟨csW, tW, frW, hcW, hlW⟩ := hSW.load hjN
     have hlen := HRr.out.r0.len j hjN
     have hj0 : (0 : Int) ≤ (j : Int) := Int.natCast_nonneg _
     have hj1 : (j : Int) < (RN : Int) := by omega
     have HLEN := Lib.hid hlen
     obtain ⟨n1, n2, n3, n4⟩ := HN.out
     have hkk : xs.length ≤ 4900 := HRr.out.n1
     have hwr := write_any HD.out ⟨n1, by omega, n3, n4⟩ hjN hN HLEN.out.1 HLEN.out.2
     have HWR := Lib.hid hwr
     have HJ := Lib.hid hj
     have HSTEP := Lib.hid (wrD_drop (W := RS) hkN dk)
     have HOK := Lib.hid (writeD_ok (n := j) (s := RS j) n1 n2 n3 n4)
     have HTWO := Lib.hid (writeD_two j (RS j) dk)
     clear hwr hj hSW hlen hW n1 n2 n3 n4
     simp only at hlW
     generalize hww : writeD j (RS j) dk = ww at *
     obtain ⟨cc, dq⟩ := ww
     go_wp2_with fail
     refine HWR.out.mono ?_; rintro e w6 ⟨rfl, hdk6, hf6⟩
     have HD6 := Lib.hid hdk6
     have HF6 := Lib.hid (HF.out.trans hf6)
     have hg6 := (hf6.block gr hgl (by simp; exact ⟨HDN.out.1.symm, HDN.out.2.symm⟩)).trans hg
     have hz6 := (hf6.block gR hzl (by simpa using hnd)).trans hz5
     clear hdk6 hf6 hcW hcq hxq hlW hg hz5 hgl hzl
     have hgl := hat_lt hg6
     have hzl := hat_lt hz6
     go_wp2_with fail
     refine (errors_is cc 0 _).mono ?_; rintro e w7 ⟨rfl, rfl⟩
     cases hc0 : (cc == 0) with
     | true =>
      go_wp2_with fail
      go_roundw
      case rel =>
       have hc1 : cc = 0 := by simpa using hc0
       refine ⟨k + 1, by go_num, by omega, dq, HD6, Lib.hid (by have := HOK.out; omega), Lib.hid ?_, HF6⟩
       rw [HE.out, HSTEP.out, HJ.out]
       show (if (writeD j (RS j) dk).1 = 0 then _ else _) = _
       rw [hww, if_pos hc1]
       show wrD RS (xs.drop (k + 1)) (writeD j (RS j) dk).2 = _
       rw [hww]
      case measure => (show xs.length - (k + 1) < xs.length - k); omega
     | false =>
      have hc1 : ¬ cc = 0 := by simpa using hc0
      have HFp := Lib.hid (hat_put4 hz6 (.slice none 0 0) (.slice none 0 0) (.slice none 0 0) (.slice none 0 0))
      have hfp := fr_put4 w7 gR (.slice none 0 0) (.slice none 0 0) (.slice none 0 0) (.slice none 0 0)
      have HFq := Lib.hid ((((HF4.out.mono (ex' := [gR, gd, gs]) (by simp)).trans (HF6.out.mono (by simp))).trans (hfp.mono (by simp))).past (ex' := [gd, gs]) (fun k hk => by
       simp at hk ⊢
       rcases hk with rfl | rfl | rfl
       ·exact .inr (by rw [HGR.out]; exact Nat.le_refl _)
       ·exact .inl (.inl rfl)
       ·exact .inl (.inr rfl)))
      have HDq := Lib.hid (HD6.out.fr hfp (by simpa using hnd.1.symm) (by simpa using hnd.2.symm))
      have HEND : Hid (runD RN d = (cc, dq)) := Lib.hid (by
       rw [HW.out, ← HRS.out, ← HXE.out, HE.out, HSTEP.out, HJ.out]
       show (if (writeD j (RS j) dk).1 = 0 then _ else _) = _
       rw [hww, if_neg hc1]
       exact hww)
      clear hfp
      go_wp2_with fail
      exact ret_ct row34 rfl (cs := repNil) rfl HFp.out rfl rfl ⟨nilR, ⟨by rw [HEND.out]; rfl, nilR_rep _, fun h => absurd h (by rw [HEND.out]; exact hc1), fun _ => nilR_nil, by rw [HEND.out]; exact HDq.out, HFq.out, fun g hg => (nilR_os g hg).elim⟩⟩
    ·have hkk : k = xs.length := by omega
     clear hk hkN
     subst hkk
     have HFp := Lib.hid (hat_put4 hz5 (.slice a0 RN c0) (.slice a1 xs.length c1) (.slice a2 ys.length c2) (.slice a3 zs.length c3))
     have hfp := fr_put4 wr gR (.slice a0 RN c0) (.slice a1 xs.length c1) (.slice a2 ys.length c2) (.slice a3 zs.length c3)
     have HRr := Lib.hid ((HR4.out.fr HF.out (fun g hg => by
      have h1 := HRO.out g hg
      have h2 := hat_lt H.out.hd
      have h3 := H.out.hs.lt
      have h4 := HGR.out
      simp only [List.mem_cons, List.not_mem_nil, or_false, not_or]
      omega)).fr hfp (fun g hg hm => by
      have h1 := HRO.out g hg
      simp at hm
      omega))
     have HFq := Lib.hid ((((HF4.out.mono (ex' := [gR, gd, gs]) (by simp)).trans (HF.out.mono (by simp))).trans (hfp.mono (by simp))).past (ex' := [gd, gs]) (fun k hk => by
      simp at hk ⊢
      rcases hk with rfl | rfl | rfl
      ·exact .inr (by rw [HGR.out]; exact Nat.le_refl _)
      ·exact .inl (.inl rfl)
      ·exact .inl (.inr rfl)))
     have HDq := Lib.hid (HD.out.fr hfp (by simpa using hnd.1.symm) (by simpa using hnd.2.symm))
     clear hfp
     go_wp2_with fail
     have hend := HE.out
     rw [wrD_end, HRS.out, HXE.out, ← HW.out] at hend
     refine ret_ct row34 rfl (cs := #[.slice a0 RN c0, .slice a1 xs.length c1, .slice a2 ys.length c2, .slice a3 zs.length c3]) rfl HFp.out rfl rfl ⟨_, ⟨?_, HRr.out, fun _ => HRL.out, fun h => absurd (by rw [hend]) h, by rw [hend]; exact HDq.out, HFq.out, fun g hg => by have h1 := HRO.out g hg; have h2 := HGR.out; omega⟩⟩
     rw [hend]; rfl
  ·have he1 : (lookE N d.S == 0) = false := by simp [he]
   have HW : Hid (runD N d = (lookE N d.S, d)) := Lib.hid (by unfold runD; rw [if_neg (by rw [ho]; decide), if_pos he])
   generalize lookE N d.S = E at *
   have HFp := Lib.hid (hopA _ (.cells #[.slice a0 RN c0, .slice a1 xs.length c1, .slice a2 ys.length c2, .slice a3 zs.length c3] 34) (hat_put4 hz3 (.slice none 0 0) (.slice none 0 0) (.slice none 0 0) (.slice none 0 0))).1
   have hfp := fr_put4 w3 gR (.slice none 0 0) (.slice none 0 0) (.slice none 0 0) (.slice none 0 0)
   have hfq := fr_new (put4 w3 gR (.slice none 0 0) (.slice none 0 0) (.slice none 0 0) (.slice none 0 0)) (.cells #[.slice a0 RN c0, .slice a1 xs.length c1, .slice a2 ys.length c2, .slice a3 zs.length c3] 34) []
   have HFq := Lib.hid ((((HF3.out.mono (ex' := [gR]) (by simp)).trans hfp).trans (hfq.mono (by simp))).past (ex' := [gd, gs]) (fun k hk => by simp at hk; subst hk; exact .inr (by rw [HGR.out]; exact Nat.le_refl _)))
   have HDq := Lib.hid ((H3.out.fr hfp (by simpa using hnd.1.symm) (by simpa using hnd.2.symm)).fr hfq (by simp) (by simp))
   clear hfp hfq
   go_wp2_with fail
   exact ret_ct row34 rfl (cs := repNil) rfl HFp.out rfl rfl ⟨nilR, ⟨by rw [HW.out]; rfl, nilR_rep _, fun h => absurd h (by rw [HW.out]; exact he), fun _ => nilR_nil, by rw [HW.out]; exact HDq.out, HFq.out, fun g hg => (nilR_os g hg).elim⟩⟩
def smallSp : List Spot := [(0, 0, [66, 82, 75, 87, 16, 0, 0, 0, 4]), (1, 0, [2, 7, 0, 0, 128]), (1, 16, [5]), (2, 0, [1, 1, 0, 0, 3]), (2, 16, [6]), (5, 0, [2, 0, 0, 0, 1, 97]), (6, 0, [104, 101, 108, 108, 111])]
theorem smallN : picN 16 = 16 := by decide +kernel
theorem smallS_all : (List.range 16).all (fun j => decide (picS 16 smallSp j = exS j)) = true := by decide +kernel
theorem smallS {j : Nat} (hj : j < 16) : picS 16 smallSp j = exS j := by
 have h := List.all_eq_true.1 smallS_all j (List.mem_range.2 hj)
 exact of_decide_eq_true h
theorem hat_alloc_if (w : World) (o : Obj) (n : Nat) : hat (w.alloc o) n = if n = w.heap.size then some o else hat w n := by
 by_cases h : n = w.heap.size
 ·rw [if_pos h]; exact hat_alloc_at w o n h
 ·rw [if_neg h]
  unfold hat
  show (w.heap.push o)[n]? = w.heap[n]?
  rw [Array.getElem?_push, if_neg h]
theorem BRow.lit {w : World} {b : Nat} {cs : Array Value} {t : TypeId} (l : List Int) (hl : l.length ≤ 100) (hb : Bytes l) (h : hat w b = some (.cells cs t)) (hc : cs = IV .u8 l) {n : Nat} (hn : n = l.length) : BRow w (.slice (some ⟨b, 0, none⟩) n n) l := by
 subst hc hn
 refine ⟨_, _, rfl, by omega, hb, fun _ => ⟨b, 0, _, _, _, rfl, h, by simp, fun k x hx => ?_⟩⟩
 rw [IV_get?, Nat.zero_add, hx]; rfl
theorem i64_lit {x : Int} (h0 : 0 ≤ x) (h1 : x ≤ 1000) : I64 x := ⟨by omega, by omega⟩
theorem small_pic {W : World} {b0 b1 b2 b3 b4 b5 b6 b7 : Nat}
  (h0 : hat W b0 = some (.cells (IV .u8 [66, 82, 75, 87, 16, 0, 0, 0, 4]) 5)) (h1 : hat W b1 = some (.cells (IV .u8 [2, 7, 0, 0, 128]) 5)) (h2 : hat W b2 = some (.cells (IV .u8 [5]) 5)) (h3 : hat W b3 = some (.cells (IV .u8 [1, 1, 0, 0, 3]) 5))
  (h4 : hat W b4 = some (.cells (IV .u8 [6]) 5)) (h5 : hat W b5 = some (.cells (IV .u8 [2, 0, 0, 0, 1, 97]) 5)) (h6 : hat W b6 = some (.cells (IV .u8 [104, 101, 108, 108, 111]) 5))
  (h7 : hat W b7 = some (.cells #[.int .i64 0, .int .i64 0, .slice (some ⟨b0, 0, none⟩) 9 9, .int .i64 1, .int .i64 0, .slice (some ⟨b1, 0, none⟩) 5 5, .int .i64 1, .int .i64 16, .slice (some ⟨b2, 0, none⟩) 1 1, .int .i64 2, .int .i64 0, .slice (some ⟨b3, 0, none⟩) 5 5, .int .i64 2, .int .i64 16, .slice (some ⟨b4, 0, none⟩) 1 1, .int .i64 5, .int .i64 0, .slice (some ⟨b5, 0, none⟩) 6 6, .int .i64 6, .int .i64 0, .slice (some ⟨b6, 0, none⟩) 5 5] 44)) :
  Pic W (.agg #[.int .i64 16, .slice (some ⟨b7, 0, none⟩) 7 7]) 16 smallSp := by
 refine ⟨i64_lit (by omega) (by omega), _, _, rfl, by decide, fun _ => ⟨b7, 0, _, _, _, rfl, h7, (show (21 : Nat) ≤ 21 from Nat.le_refl _), fun i x hx => ?_⟩⟩
 have hb : ∀ l : List Int, (l.all fun x => decide (0 ≤ x ∧ x < 256)) = true → Bytes l := fun l h x hx => of_decide_eq_true (List.all_eq_true.1 h x hx)
 rcases i with _ | _ | _ | _ | _ | _ | _ | i
 ·obtain rfl := Option.some.inj hx
  exact ⟨i64_lit (by decide) (by decide), i64_lit (by decide) (by decide), _, rfl, BRow.lit _ (by decide) (hb _ (by decide)) h0 rfl rfl⟩
 ·obtain rfl := Option.some.inj hx
  exact ⟨i64_lit (by decide) (by decide), i64_lit (by decide) (by decide), _, rfl, BRow.lit _ (by decide) (hb _ (by decide)) h1 rfl rfl⟩
 ·obtain rfl := Option.some.inj hx
  exact ⟨i64_lit (by decide) (by decide), i64_lit (by decide) (by decide), _, rfl, BRow.lit _ (by decide) (hb _ (by decide)) h2 rfl rfl⟩
 ·obtain rfl := Option.some.inj hx
  exact ⟨i64_lit (by decide) (by decide), i64_lit (by decide) (by decide), _, rfl, BRow.lit _ (by decide) (hb _ (by decide)) h3 rfl rfl⟩
 ·obtain rfl := Option.some.inj hx
  exact ⟨i64_lit (by decide) (by decide), i64_lit (by decide) (by decide), _, rfl, BRow.lit _ (by decide) (hb _ (by decide)) h4 rfl rfl⟩
 ·obtain rfl := Option.some.inj hx
  exact ⟨i64_lit (by decide) (by decide), i64_lit (by decide) (by decide), _, rfl, BRow.lit _ (by decide) (hb _ (by decide)) h5 rfl rfl⟩
 ·obtain rfl := Option.some.inj hx
  exact ⟨i64_lit (by decide) (by decide), i64_lit (by decide) (by decide), _, rfl, BRow.lit _ (by decide) (hb _ (by decide)) h6 rfl rfl⟩
 ·simp [smallSp] at hx
theorem small_any (w : World) : Calls Tryz.prog 32 #[] w fun e w' => ∃ g, e = .returned (.slice (some ⟨g, 0, none⟩) 16 16) ∧ WSecs w' g 16 16 exS ∧ Below w.heap.size w w' ∧ w.heap.size ≤ g := by
 go_enter Tryz.func32, Tryz.ntmps32
 go_wp2_with fail
 have hb : ∀ (B : Nat) (w w' : World), Below B w w' → B ≤ w.heap.size → ∀ o, Below B w (w'.alloc o) := fun B w w' h hB o => h.alloc (Nat.le_trans hB h.size) o
 refine (image_pic (small_pic (b0 := w.heap.size) (b1 := w.heap.size + 1) (b2 := w.heap.size + 1 + 1) (b3 := w.heap.size + 1 + 1 + 1) (b4 := w.heap.size + 1 + 1 + 1 + 1) (b5 := w.heap.size + 1 + 1 + 1 + 1 + 1) (b6 := w.heap.size + 1 + 1 + 1 + 1 + 1 + 1) (b7 := w.heap.size + 1 + 1 + 1 + 1 + 1 + 1 + 1) ?_ ?_ ?_ ?_ ?_ ?_ ?_ ?_)).mono ?_
 iterate 8 (focus (repeat (first | (rw [hat_alloc_if, if_neg (by simp only [World.size_alloc]; omega)]) | (rw [hat_alloc_if, if_pos (by simp only [World.size_alloc])])); try rfl))
 rintro e w1 ⟨g, rfl, hws, hb1, hg⟩
 rw [smallN] at hws ⊢
 have HW := Lib.hid (hws.congr fun j hj => smallS hj)
 have HB : Hid (Below w.heap.size w w1) := Lib.hid (Below.trans (by
  repeat (first | exact Below.refl _ _ | refine hb _ _ _ ?_ (Nat.le_refl _) _)) (hb1.mono (by simp; omega)))
 have HG : Hid (w.heap.size ≤ g) := Lib.hid (by simp at hg; omega)
 clear hws hb1 hg hb
 go_wp2_with fail
 go_ret
 exact ⟨g, rfl, HW.out, HB.out, HG.out⟩
theorem exE : lookE 16 exS = 0 := by
 unfold lookE
 rw [if_neg (by omega), if_neg (by rw [exS_0]; simp), if_pos ex_root]
theorem exX : lookX 16 exS = [1, 6] := by
 unfold lookX lookS
 rw [if_pos exE, exS_0]
 show writeL 16 4 (repS 4 (lookZ 16 4 exS)) exS (lookZ 16 4 exS).st.fm = _
 rw [ex_look]
 exact ex_write
theorem exLS : lookS 16 exS = repS 4 exZ := by
 unfold lookS
 rw [exS_0]
 show repS 4 (lookZ 16 4 exS) = _
 rw [ex_look]
theorem exRun : runD 16 (imgD exS) = (0, ⟨updS (updS exS 1 (repS 4 exZ 1)) 6 (repS 4 exZ 6), 2, false, false, 0⟩) := by
 unfold runD
 rw [if_neg (by simp [imgD]), if_neg (fun h => h exE)]
 show wrD (lookS 16 exS) (lookX 16 exS) (imgD exS) = _
 rw [exX, exLS]
 rfl
theorem RepW.cut {w : World} {R : RP} (h : RepW w R) : ∃ a0 c0 a1 c1 a2 c2 a3 c3, R.val = .agg #[.slice a0 R.N c0, .slice a1 R.xs.length c1, .slice a2 R.ys.length c2, .slice a3 R.zs.length c3] ∧
  SecR w (.slice a0 R.N c0) R.o0 R.N R.S ∧ QRow w (.slice a1 R.xs.length c1) R.o1 R.xs ∧ QRow w (.slice a2 R.ys.length c2) R.o2 R.ys ∧ QRow w (.slice a3 R.zs.length c3) R.o3 R.zs := by
 obtain ⟨a0, c0, e0⟩ := h.r0.g.slice
 obtain ⟨a1, c1, e1⟩ := h.r1.slice
 obtain ⟨a2, c2, e2⟩ := h.r2.slice
 obtain ⟨a3, c3, e3⟩ := h.r3.slice
 refine ⟨a0, c0, a1, c1, a2, c2, a3, c3, by unfold RP.val; rw [e0, e1, e2, e3], ?_, ?_, ?_, ?_⟩
 ·rw [← e0]; exact h.r0
 ·rw [← e1]; exact h.r1
 ·rw [← e2]; exact h.r2
 ·rw [← e3]; exact h.r3
theorem known13_true (w : World) : Calls Tryz.prog 11 #[] w fun e w' => e = .returned (.bool true) ∧ Below w.heap.size w w' := by
 go_enter Tryz.func11, Tryz.ntmps11
 go_wp2_with fail
 refine (small_any _).mono ?_; rintro e w1 ⟨g, rfl, hws, hb1, hg⟩
 have HW1 := Lib.hid hws
 have HB1 := Lib.hid hb1
 clear hws hb1
 go_wp2_with fail
 refine (from_any (img0_of HW1.out) (by omega) (by omega)).mono ?_; rintro e w2 ⟨gd, gs, rfl, hdk, hb2, hg1, hg2⟩
 have HB2 := Lib.hid (below_call HB1.out hb2 HB1.out.size)
 have HD2 := Lib.hid hdk
 have HZ1 := Lib.hid HB1.out.size
 clear hdk hb2
 go_wp2_with fail
 refine (run_any HD2.out ⟨by simp [imgD], by simp [imgD], by simp [imgD], by simp [imgD]⟩ (by simp [imgD]) (by omega)).mono ?_; rintro e w3 ⟨R, hR⟩
 obtain ⟨rfl, hr, hy, -, hk, hf, ho⟩ := hR
 rw [exRun] at hk hy ⊢
 obtain ⟨a0, c0, a1, c1, a2, c2, a3, c3, hv, s0, s1, s2, s3⟩ := hr.cut
 have hxs : R.xs = [1, 6] := (hy rfl).x.trans exX
 rw [hxs] at hv s1
 rw [hv]
 have HB3 := Lib.hid (HB2.out.trans (hf.below (B := w.heap.size) HB2.out.size (fun k hk => by have := HZ1.out; simp at hk; omega)))
 have hfA := fr_new w3 (.cells #[.slice a0 R.N c0, .slice a1 2 c1, .slice a2 R.ys.length c2, .slice a3 R.zs.length c3] 34) []
 have hgA := (hopN w3 (.cells #[.slice a0 R.N c0, .slice a1 2 c1, .slice a2 R.ys.length c2, .slice a3 R.zs.length c3] 34)).1
 have HB4 := Lib.hid (HB3.out.trans (hfA.below (B := w.heap.size) HB3.out.size (by simp)))
 have HD4 := Lib.hid (hk.fr hfA (by simp) (by simp))
 have HQ4 := Lib.hid (s1.fr hfA (by simp))
 clear hk hf ho hr hy hfA s0 s1 s2 s3 hv hxs
 go_upto_region 5 with fail
 generalize w3.alloc (.cells #[.slice a0 R.N c0, .slice a1 2 c1, .slice a2 R.ys.length c2, .slice a3 R.zs.length c3] 34) = w4 at *
 generalize w3.heap.size = gr at *
 have hgAl := hat_lt hgA
 go_wp2_with fail
 refine (image_any HD4.out (by omega)).mono ?_; rintro e w5 ⟨gi, rfl, hwi, hb5, hgi⟩
 have HB5 := Lib.hid (below_call HB4.out hb5 HB4.out.size)
 have HD5 := Lib.hid (HD4.out.fr (fr_below hb5 []) (by simp) (by simp))
 have HQ5 := Lib.hid (HQ4.out.fr (fr_below hb5 []) (by simp))
 have hg5 := (hop hb5 hgA).1
 have hg5l := hat_lt hg5
 obtain ⟨g1, f1, k1, csq, e1, -, hcq, hq0⟩ := HQ5.out.cell (k := 0) (by simp)
 injection e1 with e1 e2 e3
 subst e1 e3
 obtain ⟨g1', f1', k1', csq', e1, -, hcq', hq1⟩ := HQ5.out.cell (k := 1) (by simp)
 injection e1 with e1 e2 e3
 injection e1 with e1
 injection e1 with p1 p2
 subst p1 p2 e3
 rw [hcq] at hcq'
 injection hcq' with hcq'
 injection hcq' with hcq'
 subst hcq'
 obtain ⟨csI, hcI, hszI, hallI⟩ := hwi
 have hI : ∀ j k, j < 16 → k < 128 → csI[j * 128 + k]? = some (.int .u8 (nth (updS (updS exS 1 (repS 4 exZ 1)) 6 (repS 4 exZ 6) j) k)) := fun j k hj hk => by
  exact (extract_sec (o := j * 128) (hallI j hj).1 (by have := hszI.1; omega)).1 (hallI j hj).2.2 k hk
 have c129 : csI[129]? = some (.int .u8 1) := by
  have := hI 1 1 (by omega) (by omega)
  rw [show updS (updS exS 1 (repS 4 exZ 1)) 6 (repS 4 exZ 6) 1 = inoSec exA' from by rw [updS_ne _ _ (by omega), updS_eq]; exact exW_1] at this
  rw [show nth (inoSec exA') 1 = 1 from by decide +kernel] at this
  exact this
 have c770 : csI[770]? = some (.int .u8 108) := by
  have := hI 6 2 (by omega) (by omega)
  rw [show updS (updS exS 1 (repS 4 exZ 1)) 6 (repS 4 exZ 6) 6 = [104, 101, 108] ++ zl 125 from by rw [updS_eq]; exact exW_6] at this
  rw [show nth ([104, 101, 108] ++ zl 125) 2 = 108 from rfl] at this
  exact this
 have c771 : csI[771]? = some (.int .u8 0) := by
  have := hI 6 3 (by omega) (by omega)
  rw [show updS (updS exS 1 (repS 4 exZ 1)) 6 (repS 4 exZ 6) 6 = [104, 101, 108] ++ zl 125 from by rw [updS_eq]; exact exW_6] at this
  rw [show nth ([104, 101, 108] ++ zl 125) 3 = 0 from rfl] at this
  exact this
 have hq0 : csq[f1]? = some (.int .i64 1) := hq0
 have hq1 : csq[f1 + 1]? = some (.int .i64 6) := hq1
 have hcIl := hat_lt hcI
 have hcql := hat_lt hcq
 clear hI hallI hszI hb5
 go_wp2_with fail
 refine (writes_any HD5.out).mono ?_; rintro e w6 ⟨rfl, rfl⟩
 go_wp2_with fail
 go_ret
 exact ⟨rfl, HB5.out⟩
theorem fsckNames_any (w : World) : Calls Tryz.prog 3 #[] w fun e w' => e = .returned (.bool true) ∧ Below w.heap.size w w' := by
 go_enter Tryz.func3, Tryz.ntmps3
 go_wp2_with fail
 refine (known13_true _).mono ?_; rintro e w1 ⟨rfl, hb1⟩
 have HB := Lib.hid hb1
 clear hb1
 go_wp2_with fail
 go_ret
 exact ⟨rfl, HB.out⟩
open Go.ChangeShapes Go.WideShapes Go.ChangeAt Go.RowKit
theorem Tryz.cellsSpot : Tryz.prog.cellsOf 44 = 3 := by kernel_rfl
theorem cells_int : Tryz.prog.cellsOf 3 = 1 := by kernel_rfl
theorem cells_sspot : Tryz.prog.cellsOf 23 = 1 := by kernel_rfl
theorem cells_pict : Tryz.prog.cellsOf 25 = 2 := by kernel_rfl
theorem cells_su8 : Tryz.prog.cellsOf 42 = 1 := by kernel_rfl
theorem i64_of {x : Int} (h : (Lit.int .i64 x).wf = true) : I64 x := bounds_i64 h
theorem bytes_of {H : Type} {enc : TypeId × Value → H} {W : World} {fuel : Nat} {cs : List Value} {x : DataW H × List MemPlace}
  (h : DataW.trod enc Tryz.prog W 0 (fun _ => true) true fuel 42 cs = some x) : ∃ v l, cs = [v] ∧ BRow W v l := by
 rcases Go.Deep.open_slice Tryz.underlying42 h with ⟨hcs, hx⟩ | ⟨a, len, cap, m, n, D, Pl, hcs, -, hl, hm, hz, hx, hcell⟩
 ·exact ⟨_, [], hcs, none, 0, rfl, by simp, fun x hx => by simp at hx, fun h => by simp at h⟩
 ·simp only [if_true] at hz
  subst hz
  simp only [Tryz.cellsU8, Nat.mul_one] at hcell
  have key : ∀ i, i < len → ∃ z : Int, W.cell? (a.add i) = some (.int .u8 z) ∧ (Lit.int .u8 z).wf = true := by
   intro i hi
   obtain ⟨cs', hc, ht⟩ := hcell i (by omega)
   obtain ⟨-, hlen, hget⟩ := World.cells?_some hc
   obtain ⟨z, hz, -, hwf⟩ := DataW.trod_int Tryz.underlying5 ht
   refine ⟨z, ?_, hwf⟩
   have := hget 0 (by omega)
   rw [hz] at this
   simpa [Go.Deep.add_add] using this
  have hmax : maxLen = 9223372036854775807 := by decide
  by_cases h0 : len = 0
  ·subst h0
   exact ⟨_, [], hcs, some a, _, rfl, by simp, fun x hx => by simp at hx, fun h => by simp at h⟩
  ·obtain ⟨z0, hz0, -⟩ := key 0 (by omega)
   obtain ⟨g, o, cs0, t, fr, ha, hg, hc0⟩ := hat_of_cell hz0
   obtain ⟨b, off, spot⟩ := a
   have hb : b = g ∧ off = o ∧ spot = none := by
    cases spot with
    | none =>
     rw [add_none] at ha
     injection ha with e1 e2 e3
     exact ⟨e1, by omega, rfl⟩
    | some q =>
     exfalso
     have := World.cell?_spot hz0
     simp [Addr.add] at this
   obtain ⟨rfl, rfl, rfl⟩ := hb
   simp only [add_none] at key
   have key2 : ∀ i, i < len → ∃ z : Int, cs0[off + i]? = some (.int .u8 z) ∧ (Lit.int .u8 z).wf = true := fun i hi => by
    obtain ⟨z, h1, h2⟩ := key i hi
    exact ⟨z, by rw [← cell_hat hg]; exact h1, h2⟩
   obtain ⟨f, hf⟩ := Go.Deep.choose_lt key2
   refine ⟨_, (List.range len).map f, hcs, some ⟨b, off, none⟩, _, by rw [List.length_map, List.length_range], ?_, fun x hx => ?_, fun _ => ⟨b, off, cs0, t, fr, rfl, hg, ?_, fun k x hx => ?_⟩⟩
   ·rw [List.length_map, List.length_range]; omega
   ·obtain ⟨j, hj, rfl⟩ := List.mem_map.1 hx
    have := bounds_u8 (hf j (List.mem_range.1 hj)).2
    exact ⟨this.1, by omega⟩
   ·have := (Array.getElem?_eq_some_iff.1 (hf (len - 1) (by omega)).1).1
    simp; omega
   ·have hk : k < len := by have := (List.getElem?_eq_some_iff.1 hx).1; simpa using this
    rw [List.getElem?_map, List.getElem?_range hk] at hx
    simp at hx
    rw [(hf k hk).1, hx]
theorem pic_of {H : Type} {enc : TypeId × Value → H} {W : World} {base : Nat} {v : Value} {d : DataW H} {p : List MemPlace} (hv : Value.okWide Tryz.prog W .any base 25 v)
  (h : DataW.Trod enc Tryz.prog W 0 (fun _ => true) true 25 v d p) : ∃ sec sp, Pic W v sec sp := by
 obtain ⟨cs, rfl, hsz⟩ := okWide_struct Tryz.underlying25 hv
 obtain ⟨fuel, hf⟩ := h
 obtain ⟨y0, y1, n, -, hcl, h0, h1⟩ := trod_struct2 Tryz.underlying25 hf
 rw [cells_pict] at hsz
 simp only [cells_int, cells_sspot] at h0 h1
 obtain ⟨va, vb, rfl⟩ : ∃ va vb, cs = #[va, vb] := by
  obtain ⟨l⟩ := cs
  match l, hsz with
  | [a, b], _ => exact ⟨a, b, rfl⟩
 obtain ⟨x0, e0, -, hw0⟩ := DataW.trod_int Tryz.underlying3 h0
 have e0 : va = .int .i64 x0 := by simpa [Value.cells] using e0
 subst e0
 have hw : I64 x0 := i64_of hw0
 rcases Go.Deep.open_slice Tryz.underlying23 h1 with ⟨hcs, hx⟩ | ⟨a, len, cap, m, n, D, Pl, hcs, -, hl, hm, hz, hx, hcell⟩
 ·have e1 : vb = .slice none 0 0 := by simpa [Value.cells] using hcs
  subst e1
  exact ⟨x0, [], hw, none, 0, rfl, by simp, fun h => by simp at h⟩
 ·have e1 : vb = .slice (some a) len cap := by simpa [Value.cells] using hcs
  subst e1
  simp only [if_true] at hz
  subst hz
  simp only [Tryz.cellsSpot] at hcell
  have key : ∀ i, i < len → ∃ x : Spot, I64 x.1 ∧ I64 x.2.1 ∧ ∃ dv, W.cell? ((a.add (i * 3)).add 0) = some (.int .i64 x.1) ∧ W.cell? ((a.add (i * 3)).add 1) = some (.int .i64 x.2.1) ∧ W.cell? ((a.add (i * 3)).add 2) = some dv ∧ BRow W dv x.2.2 := by
   intro i hi
   obtain ⟨cs', hc, ht⟩ := hcell i (by omega)
   obtain ⟨-, hlen, hget⟩ := World.cells?_some hc
   obtain ⟨z0, z1, z2, n', -, -, k0, k1, k2⟩ := Go.Deep.trod_struct3 Tryz.underlying44 ht
   simp only [cells_int, cells_su8] at k0 k1 k2
   obtain ⟨p0, q0, -, w0⟩ := DataW.trod_int Tryz.underlying3 k0
   obtain ⟨p1, q1, -, w1⟩ := DataW.trod_int Tryz.underlying3 k1
   obtain ⟨dv, l, q2, hb⟩ := bytes_of k2
   have g : ∀ j v, j < 3 → (cs'.drop j).take 1 = [v] → W.cell? ((a.add (i * 3)).add j) = some v := fun j v hj hv => by
    rw [hget j hj]
    have h0 : ((cs'.drop j).take 1)[0]? = some v := by rw [hv]; rfl
    rw [List.getElem?_take, if_pos (by omega), List.getElem?_drop] at h0
    simpa using h0
   exact ⟨(p0, p1, l), i64_of w0, i64_of w1, dv, g 0 _ (by omega) q0, g 1 _ (by omega) q1, g 2 _ (by omega) q2, hb⟩
  have hmax : maxLen = 9223372036854775807 := by decide
  by_cases h0 : len = 0
  ·subst h0
   exact ⟨x0, [], hw, some a, _, rfl, by simp, fun h => by simp at h⟩
  ·obtain ⟨s0, -, -, d0, hz0, -⟩ := key 0 (by omega)
   obtain ⟨g, o, cs0, t, fr, ha, hg, hc0⟩ := hat_of_cell hz0
   obtain ⟨b, off, spot⟩ := a
   have hb : b = g ∧ off = o ∧ spot = none := by
    cases spot with
    | none =>
     rw [add_none, add_none] at ha
     injection ha with e1 e2 e3
     exact ⟨e1, by omega, rfl⟩
    | some q =>
     exfalso
     have := World.cell?_spot hz0
     simp [Addr.add] at this
   obtain ⟨rfl, rfl, rfl⟩ := hb
   simp only [add_none] at key
   obtain ⟨f, hf⟩ := Go.Deep.choose_lt key
   refine ⟨x0, (List.range len).map f, hw, some ⟨b, off, none⟩, _, by simp; rfl, by rw [List.length_map, List.length_range]; omega, fun _ => ⟨b, off, cs0, t, fr, rfl, hg, ?_, fun i x hx => ?_⟩⟩
   ·obtain ⟨-, -, dv, -, -, h3, -⟩ := hf (len - 1) (by omega)
    rw [cell_hat hg] at h3
    have := (Array.getElem?_eq_some_iff.1 h3).1
    rw [List.length_map, List.length_range]; omega
   ·have hi : i < len := by have := (List.getElem?_eq_some_iff.1 hx).1; simpa using this
    rw [List.getElem?_map, List.getElem?_range hi] at hx
    simp only [Option.map_some, Option.some.injEq] at hx
    subst hx
    obtain ⟨a1, a2, dv, h1, h2, h3, h4⟩ := hf i hi
    rw [cell_hat hg] at h1 h2 h3
    refine ⟨a1, a2, dv, ?_, h4⟩
    have := (Array.getElem?_eq_some_iff.1 h3).1
    apply Array.ext_getElem?
    intro j
    rw [Array.getElem?_extract]
    rcases j with _ | _ | _ | j
    ·rw [if_pos (by omega), h1]; rfl
    ·rw [if_pos (by omega), h2]; rfl
    ·rw [if_pos (by omega), h3]; rfl
    ·rw [if_neg (by omega)]; simp
theorem same_yes {v1 v2 : Value} {N : Nat} {S1 S2 : Nat → List Int} {w : World} (h1 : Img0 w v1 N S1) (h2 : Img0 w v2 N S2) (hN : N ≤ 100000) (hs : ∀ j, j < N → S1 j = S2 j) :
  Calls Tryz.prog 16 #[v1, v2] w fun e w' => e = .returned (.bool true) ∧ Fr [] w w' := by
 refine (sectors_any h1 h2 hN).mono ?_
 rintro e w' ⟨b, rfl, hb, hf⟩
 exact ⟨by rw [hb.2 ⟨rfl, hs⟩], hf⟩
theorem fsckNothing_any {v : Value} {sec : Int} {sp : List Spot} {w : World} (h : Pic w v sec sp) : Calls Tryz.prog 7 #[v] w fun e w' => e = .returned (.bool true) ∧ Below w.heap.size w w' := by
 have H := Lib.hid h
 obtain ⟨-, a, c, rfl, -⟩ := h
 have hf0 := fr_new w (.cells #[.int .i64 sec, .slice a sp.length c] 25) []
 have hg0 := (hopN w (.cells #[.int .i64 sec, .slice a sp.length c] 25)).1
 have HF0 := Lib.hid hf0
 clear hf0
 go_enter Tryz.func7, Tryz.ntmps7
 go_wp2_with fail
 generalize w.alloc (.cells #[.int .i64 sec, .slice a sp.length c] 25) = w0 at *
 have hgl := hat_lt hg0
 refine (runNil_any w0).mono ?_; rintro e w1 ⟨rfl, hb1⟩
 have HF1 := Lib.hid (HF0.out.trans (fr_below hb1 []))
 have hg1 := (hop hb1 hg0).1
 have hg1l := hat_lt hg1
 have hfA := fr_new w1 (.cells repNil 34) []
 have hgA := (hopN w1 (.cells repNil 34)).1
 have HF2 := Lib.hid (HF1.out.trans hfA)
 have hg2 := (hfA.block _ hg1l (by simp)).trans hg1
 clear hb1 hg0 hgl hfA
 unfold repNil at hgA HF2 hg2
 unfold nilR RP.val
 simp only
 go_upto_region 2 with fail
 generalize w1.alloc (.cells #[.slice none 0 0, .slice none 0 0, .slice none 0 0, .slice none 0 0] 34) = w2 at *
 have hgAl := hat_lt hgA
 generalize w1.heap.size = gr at *
 have hg2l := hat_lt hg2
 go_wp2_with fail
 refine (image_pic (H.out.fr HF2.out)).mono ?_; rintro e w3 ⟨gi, rfl, hws, hb3, hgi⟩
 have hP := picN_small sec
 have HF3 := Lib.hid (HF2.out.trans (fr_below hb3 []))
 have hgr3 := (hop hb3 hgA).1
 have hgr3l := hat_lt hgr3
 have HGR3 := Lib.hid hgr3l
 have HW := Lib.hid hws
 generalize picN sec = N at *
 generalize picS sec sp = S at *
 clear hws hb3 hgA hgAl hg2 hg2l hg1 hg1l
 go_wp2_with fail
 refine (from_any (img0_of HW.out) hP.1 (by omega)).mono ?_; rintro e w4 ⟨gd, gs, rfl, hdk, hb4, hd1, hd2⟩
 have HF4 := Lib.hid (HF3.out.trans (fr_below hb4 []))
 have hgr4 := (hop hb4 hgr3).1
 have hgr4l := hat_lt hgr4
 have HW4 := Lib.hid (HW.out.same (hat_below hb4 HW.out.lt))
 have HD4 := Lib.hid hdk
 have HGD := Lib.hid (show w3.heap.size ≤ gd ∧ w3.heap.size ≤ gs from ⟨hd1, hd2⟩)
 clear hdk hb4 hgr3 hgr3l hd1 hd2
 go_wp2_with fail
 refine (known13_true _).mono ?_; rintro e w5 ⟨rfl, hb5⟩
 have HF5 := Lib.hid (HF4.out.trans (fr_below hb5 []))
 have hgr5 := (hop hb5 hgr4).1
 have hgr5l := hat_lt hgr5
 have HW5 := Lib.hid (HW4.out.same (hat_below hb5 HW4.out.lt))
 have HD5 := Lib.hid (HD4.out.fr (fr_below hb5 []) (by simp) (by simp))
 clear hb5 hgr4 hgr4l
 go_wp2_with fail
 refine (arm_any HD5.out (n := 0) (by omega)).mono ?_; rintro e w6 ⟨-, h6⟩
 obtain ⟨rfl, hdk, hf6⟩ := h6 rfl
 have hgne : gr ≠ gd ∧ gr ≠ gs ∧ gi ≠ gd ∧ gi ≠ gs := by
  have h1 := HGD.out
  have h2 := HW.out.lt
  have h3 := HGR3.out
  omega
 have HF6 := Lib.hid ((HF5.out.mono (ex' := [gd]) (by simp)).trans hf6)
 have HW6 := Lib.hid (HW5.out.same (hf6.block _ HW5.out.lt (by simpa using hgne.2.2.1)))
 have hgr6 := (hf6.block gr hgr5l (by simpa using hgne.1)).trans hgr5
 have hgr6l := hat_lt hgr6
 have HD6 := Lib.hid hdk
 have hN0 : (0 : Int) < (N : Int) := by omega
 obtain ⟨csW, hcW, hlW, hsl, hsb⟩ := HW6.out.load (i := 0) (by omega)
 rw [Nat.zero_mul] at hlW
 have hcWl := hat_lt hcW
 have HS0 := Lib.hid (show _ ∧ _ from ⟨hsl, hsb⟩)
 clear hdk hf6 hsl hsb hgr5 hgr5l
 go_wp2_with fail
 refine (write_any HD6.out ⟨by simp [armD, imgD], by simp [armD, imgD], by simp [armD, imgD], by simp [armD, imgD]⟩ (n := 0) (by omega) (by omega) HS0.out.1 HS0.out.2).mono ?_; rintro e w7 ⟨rfl, hdk, hf7⟩
 have hw7 : writeD 0 (S 0) (armD 0 (imgD S)) = (22, ⟨S, 0, true, false, 0⟩) := rfl
 have hw7' : writeD 0 (S 0) (armD ((0 : Nat) : Int) (imgD S)) = (22, ⟨S, 0, true, false, 0⟩) := rfl
 rw [hw7'] at hdk ⊢
 have HF7 := Lib.hid ((HF6.out.mono (ex' := [gd, gs]) (by simp)).trans hf7)
 have HW7 := Lib.hid (HW6.out.same (hf7.block _ HW6.out.lt (by simp; exact hgne.2.2)))
 have HD7 := Lib.hid hdk
 clear hdk hf7 hcW hcWl hlW hw7 hw7' HS0
 go_wp2_with fail
 refine (run_any HD7.out ⟨by simp, by simp, by simp, by simp⟩ (by simp) (by omega)).mono ?_; rintro e w8 ⟨R, hR⟩
 have hrun : runD N ⟨S, 0, true, false, 0⟩ = (22, ⟨S, 0, true, false, 0⟩) := by unfold runD; rw [if_pos rfl]
 obtain ⟨rfl, hr, -, hn, hk, hf8, ho⟩ := hR
 rw [hrun] at hk hn ⊢
 obtain ⟨n0, n1, n2, n3⟩ := hn (by show ¬ ((22 : Int) = 0); decide)
 obtain ⟨a0, c0, a1, c1, a2, c2, a3, c3, hv, -⟩ := hr.cut
 rw [n0, n1, n2, n3] at hv
 rw [hv]
 have hfA := fr_new w8 (.cells #[.slice a0 0 c0, .slice a1 0 c1, .slice a2 0 c2, .slice a3 0 c3] 34) []
 have hgA := (hopN w8 (.cells #[.slice a0 0 c0, .slice a1 0 c1, .slice a2 0 c2, .slice a3 0 c3] 34)).1
 have HF9 := Lib.hid ((HF7.out.trans hf8).trans (hfA.mono (by simp)))
 have HW9 := Lib.hid ((HW7.out.same (hf8.block _ HW7.out.lt (by simp; exact hgne.2.2))).same (hfA.block _ (by have := HW7.out.lt; have := hf8.size; omega) (by simp)))
 have HD9 := Lib.hid (hk.fr hfA (by simp) (by simp))
 have hz : w8.heap.size ≠ gd := by have := hat_lt hk.hd; omega
 clear hk hf8 ho hr hfA hv n0 n1 n2 n3 hrun
 go_upto_region 10 with fail
 generalize w8.alloc (.cells #[.slice a0 0 c0, .slice a1 0 c1, .slice a2 0 c2, .slice a3 0 c3] 34) = w9 at *
 generalize w8.heap.size = gq at *
 have hgAl := hat_lt hgA
 go_wp2_with fail
 refine (writes_any HD9.out).mono ?_; rintro e w10 ⟨rfl, rfl⟩
 go_wp2_with fail
 refine (restart_any HD9.out).mono ?_; rintro e w11 ⟨rfl, hdk, hf11⟩
 have hgq := (hf11.block gq hgAl (by simpa using hz)).trans hgA
 have hgql := hat_lt hgq
 have HF11 := Lib.hid (HF9.out.trans (hf11.mono (by simp)))
 have HW11 := Lib.hid (HW9.out.same (hf11.block _ HW9.out.lt (by simpa using hgne.2.2.1)))
 have HD11 := Lib.hid hdk
 clear hdk hf11 hgA hgAl
 go_wp2_with fail
 refine (image_any HD11.out (by omega)).mono ?_; rintro e w12 ⟨gj, rfl, hwj, hb12, hgj⟩
 have HF12 := Lib.hid (HF11.out.trans (fr_below hb12 _))
 have HW12 := Lib.hid (HW11.out.same (hat_below hb12 HW11.out.lt))
 have HJ := Lib.hid hwj
 clear hwj hb12
 go_wp2_with fail
 refine (same_yes (img0_of HJ.out) (img0_of HW12.out) (by omega) (fun j hj => rfl)).mono ?_; rintro e w13 ⟨rfl, hf13⟩
 have HF13 := Lib.hid (HF12.out.trans (hf13.mono (by simp)))
 clear hf13
 go_wp2_with fail
 go_ret
 exact ⟨rfl, HF13.out.below (Nat.le_refl _) (fun k hk => by
  have h1 := HGD.out
  have h2 := HF3.out.size
  simp at hk; omega)⟩
theorem cutS_cons (S W : Nat → List Int) (n : Nat) (r : List Int) : cutS (updS S n (W n)) W r = cutS S W ((n : Int) :: r) := by
 funext j
 unfold cutS updS
 by_cases h : (j : Int) ∈ r
 ·rw [if_pos h, if_pos (List.mem_cons_of_mem _ h)]
 ·rw [if_neg h]
  by_cases hj : j = n
  ·subst hj
   rw [if_pos rfl, if_pos List.mem_cons_self]
  ·rw [if_neg hj, if_neg (fun hm => by
    rcases List.mem_cons.1 hm with h2 | h2
    ·omega
    ·exact h h2)]
theorem cutS_none (S W : Nat → List Int) : cutS S W [] = S := by funext j; unfold cutS; simp
theorem wr_free {W : Nat → List Int} : ∀ (L : List Int) (d : DS), (∀ x ∈ L, ∃ j : Nat, x = j) → d.off = false → d.armed = false → wrD W L d = (0, { d with S := cutS d.S W L, cnt := d.cnt + L.length })
 | [], d, _, _, _ => by
  show (0, d) = _
  rw [cutS_none]
  simp
 | x :: r, d, hL, ho, ha => by
  obtain ⟨n, rfl⟩ := hL x List.mem_cons_self
  have hw : writeD (n : Int).toNat (W (n : Int).toNat) d = (0, { d with S := updS d.S n (W n), cnt := d.cnt + 1 }) := by
   unfold writeD
   rw [if_neg (by rw [ho]; decide), if_neg (fun h => by rw [ha] at h; cases h.1), if_neg (by rw [ha]; decide)]
   rfl
  show (if (writeD (n : Int).toNat (W (n : Int).toNat) d).1 = 0 then wrD W r (writeD (n : Int).toNat (W (n : Int).toNat) d).2 else _) = _
  rw [hw, if_pos rfl]
  show wrD W r { d with S := updS d.S n (W n), cnt := d.cnt + 1 } = _
  rw [wr_free r { d with S := updS d.S n (W n), cnt := d.cnt + 1 } (fun x hx => hL x (List.mem_cons_of_mem _ hx)) ho ha]
  show ((0 : Int), ({ d with S := cutS (updS d.S n (W n)) W r, cnt := d.cnt + 1 + r.length } : DS)) = _
  rw [cutS_cons, List.length_cons, show d.cnt + 1 + (r.length : Int) = d.cnt + ((r.length + 1 : Nat) : Int) by omega]
theorem wr_armed {W : Nat → List Int} : ∀ (L : List Int) (m : Nat) (d : DS), (∀ x ∈ L, ∃ j : Nat, x = j) → d.off = false → d.armed = true → d.left = m →
  wrD W L d = if L.length ≤ m then (0, { d with S := cutS d.S W L, cnt := d.cnt + L.length, left := (m - L.length : Nat) }) else (22, ⟨cutS d.S W (L.take m), d.cnt + m, true, false, 0⟩)
 | [], m, d, _, _, _, hl => by
  show (0, d) = _
  rw [if_pos (by simp), cutS_none]
  cases d
  simp at hl ⊢
  exact hl
 | x :: r, m, d, hL, ho, ha, hl => by
  obtain ⟨n, rfl⟩ := hL x List.mem_cons_self
  show (if (writeD (n : Int).toNat (W (n : Int).toNat) d).1 = 0 then wrD W r (writeD (n : Int).toNat (W (n : Int).toNat) d).2 else writeD (n : Int).toNat (W (n : Int).toNat) d) = _
  cases m with
  | zero =>
   have hw : writeD (n : Int).toNat (W (n : Int).toNat) d = (22, { d with off := true, armed := false, left := 0 }) := by
    unfold writeD
    rw [if_neg (by rw [ho]; decide), if_pos ⟨ha, by rw [hl]; rfl⟩]
   rw [hw, if_neg (show ¬ ((22 : Int) = 0) by decide), if_neg (by simp), List.take_zero, cutS_none]
   cases d
   simp
  | succ m =>
   have hw : writeD (n : Int).toNat (W (n : Int).toNat) d = (0, { d with S := updS d.S n (W n), cnt := d.cnt + 1, left := d.left - 1 }) := by
    unfold writeD
    rw [if_neg (by rw [ho]; decide), if_neg (fun h => by rw [hl] at h; omega), if_pos ha]
    rfl
   rw [hw, if_pos rfl]
   show wrD W r { d with S := updS d.S n (W n), cnt := d.cnt + 1, left := d.left - 1 } = _
   rw [wr_armed r m { d with S := updS d.S n (W n), cnt := d.cnt + 1, left := d.left - 1 } (fun x hx => hL x (List.mem_cons_of_mem _ hx)) ho ha (by show d.left - 1 = _; rw [hl]; omega)]
   simp only [List.length_cons, List.take_succ_cons]
   by_cases h : r.length ≤ m
   ·rw [if_pos h, if_pos (by omega)]
    show ((0 : Int), ({ d with S := cutS (updS d.S n (W n)) W r, cnt := d.cnt + 1 + r.length, left := ((m - r.length : Nat) : Int) } : DS)) = _
    rw [cutS_cons, show d.cnt + 1 + (r.length : Int) = d.cnt + ((r.length + 1 : Nat) : Int) by omega, show m - r.length = m + 1 - (r.length + 1) by omega]
   ·rw [if_neg h, if_neg (by omega)]
    show ((22 : Int), (⟨cutS (updS d.S n (W n)) W (r.take m), d.cnt + 1 + m, true, false, 0⟩ : DS)) = _
    rw [cutS_cons, show d.cnt + 1 + (m : Int) = d.cnt + ((m + 1 : Nat) : Int) by omega]
theorem lookX_nat {N : Nat} {S : Nat → List Int} : ∀ x ∈ lookX N S, ∃ j : Nat, x = j := by
 intro x hx
 unfold lookX at hx
 split at hx
 ·exact writeL_nat hx
 ·cases hx
theorem mem_lookX {N : Nat} {S : Nat → List Int} (he : lookE N S = 0) {j : Nat} : (j : Int) ∈ lookX N S ↔ j < N ∧ lookS N S j ≠ S j := by
 unfold lookX; rw [if_pos he]; exact mem_writeL
theorem cut_all {N : Nat} {S : Nat → List Int} (he : lookE N S = 0) {j : Nat} (hj : j < N) : cutS S (lookS N S) (lookX N S) j = lookS N S j := by
 unfold cutS
 by_cases h : (j : Int) ∈ lookX N S
 ·rw [if_pos h]
 ·rw [if_neg h]
  exact Decidable.byContradiction fun hn => h ((mem_lookX he).2 ⟨hj, fun e => hn e.symm⟩)
theorem cut_look {N : Nat} {S : Nat → List Int} (hS : ∀ j, j < N → (S j).length = 128 ∧ Bytes (S j)) (he : lookE N S = 0) (n : Nat) :
  lookE N (cutS S (lookS N S) ((lookX N S).take n)) = 0 ∧ lookS N (cutS S (lookS N S) ((lookX N S).take n)) = lookS N S ∧ lookX N (cutS S (lookS N S) ((lookX N S).take n)) = (lookX N S).drop n ∧
   lookI N (cutS S (lookS N S) ((lookX N S).take n)) = lookI N S ∧ lookB N (cutS S (lookS N S) ((lookX N S).take n)) = lookB N S := by
 obtain ⟨b8, b4, e0, eX, hroot⟩ := lookE_ok he
 have hmay := (sup_one e0).1
 rw [eX] at hmay
 obtain ⟨⟨x1, x2⟩, ⟨y1, y2⟩, xy⟩ := hmay
 have hc := cut_law (X := N) (Y := (rdSupR (S 0)).2.1) (N := N) y1 rfl hS hroot.1 (by omega) n
 have hX : lookX N S = writeL N (rdSupR (S 0)).2.1 (lookS N S) S (lookZ N (rdSupR (S 0)).2.1 S).st.fm := by unfold lookX; rw [if_pos he]
 have hSe : lookS N S = repS (rdSupR (S 0)).2.1 (lookZ N (rdSupR (S 0)).2.1 S) := rfl
 simp only at hc
 rw [← hSe, ← hX] at hc
 generalize hS' : cutS S (lookS N S) ((lookX N S).take n) = S' at *
 obtain ⟨m1, m2, m3, m4, m5, m6, m7⟩ := hc
 have hE' : lookE N S' = 0 := by
  unfold lookE
  rw [if_neg (by omega), m5, if_neg (fun h => h.elim (fun h => h e0) (fun h => h eX)), if_pos (m6 hroot)]
 have hLS : lookS N S' = lookS N S := by
  unfold lookS at m1 ⊢
  rw [m5]
  exact funext m1
 refine ⟨hE', hLS, ?_, ?_, ?_⟩
 ·rw [← m2]
  unfold lookX
  rw [if_pos hE', m5]
  unfold lookS
  rw [m5]
 ·unfold lookI
  rw [if_pos hE', if_pos he, m5]
  congr 1
  funext p
  exact m3 _
 ·unfold lookB
  rw [if_pos hE', if_pos he, m5, m4]
theorem lookS_len {N : Nat} {S : Nat → List Int} {w : World} {R : RP} (h : RepW w R) (hl : R.Look N S) (he : lookE N S = 0) : ∀ j, j < N → (lookS N S j).length = 128 ∧ Bytes (lookS N S j) := fun j hj => by
 have := h.r0.len j (by rw [hl.n]; unfold lookN; rw [if_pos he]; exact hj)
 rw [hl.s] at this
 exact this
structure Held (R : RP) (N : Nat) (d : DS) (gd gs : Nat) (w w' wA : World) (a0 a1 a2 a3 : Option Addr) (c0 c1 c2 c3 : Nat) : Prop where
 g : hat wA w'.heap.size = some (.cells #[.slice a0 R.N c0, .slice a1 R.xs.length c1, .slice a2 R.ys.length c2, .slice a3 R.zs.length c3] 34)
 k : DK wA gd gs N (runD N d).2
 f : Fr [gd, gs] w wA
 s0 : SecR wA (.slice a0 R.N c0) R.o0 R.N R.S
 s1 : QRow wA (.slice a1 R.xs.length c1) R.o1 R.xs
 s2 : QRow wA (.slice a2 R.ys.length c2) R.o2 R.ys
 s3 : QRow wA (.slice a3 R.zs.length c3) R.o3 R.zs
 z : w.heap.size ≤ w'.heap.size
 o : ∀ g ∈ R.os, w.heap.size ≤ g ∧ g < w'.heap.size
 nd : w'.heap.size ≠ gd ∧ w'.heap.size ≠ gs
theorem RunOut.hold {N : Nat} {d : DS} {gd gs : Nat} {w : World} {e : Ending} {w' : World} {R : RP} (h : RunOut N d gd gs w e w' R) :
  ∃ a0 c0 a1 c1 a2 c2 a3 c3, R.val = .agg #[.slice a0 R.N c0, .slice a1 R.xs.length c1, .slice a2 R.ys.length c2, .slice a3 R.zs.length c3] ∧
   Held R N d gd gs w w' (w'.alloc (.cells #[.slice a0 R.N c0, .slice a1 R.xs.length c1, .slice a2 R.ys.length c2, .slice a3 R.zs.length c3] 34)) a0 a1 a2 a3 c0 c1 c2 c3 := by
 obtain ⟨a0, c0, a1, c1, a2, c2, a3, c3, hv, s0, s1, s2, s3⟩ := h.r.cut
 have hf := fr_new w' (.cells #[.slice a0 R.N c0, .slice a1 R.xs.length c1, .slice a2 R.ys.length c2, .slice a3 R.zs.length c3] 34) []
 exact ⟨a0, c0, a1, c1, a2, c2, a3, c3, hv, (hopN w' _).1, h.k.fr hf (by simp) (by simp), h.f.trans (hf.mono (by simp)), s0.fr hf (by simp), s1.fr hf (by simp), s2.fr hf (by simp), s3.fr hf (by simp), h.f.size, fun g hg => ⟨h.o g hg, h.r.lt g hg⟩, by
  have h1 := hat_lt h.k.hd; have h2 := h.k.hs.lt; omega⟩
theorem run_fresh {N : Nat} {d : DS} (ho : d.off = false) (ha : d.armed = false) (he : lookE N d.S = 0) : runD N d = (0, { d with S := cutS d.S (lookS N d.S) (lookX N d.S), cnt := d.cnt + (lookX N d.S).length }) := by
 unfold runD
 rw [if_neg (by rw [ho]; decide), if_neg (fun h => h he)]
 exact wr_free _ d lookX_nat ho ha
theorem run_bad {N : Nat} {d : DS} (ho : d.off = false) (he : lookE N d.S ≠ 0) : runD N d = (lookE N d.S, d) := by
 unfold runD
 rw [if_neg (by rw [ho]; decide), if_pos he]
theorem img_ok (S : Nat → List Int) : DOk (imgD S) := ⟨by simp [imgD], by simp [imgD], by simp [imgD], by simp [imgD]⟩
theorem Nil.lens {R : RP} (h : R.Nil) : R.N = 0 ∧ R.xs.length = 0 ∧ R.ys.length = 0 ∧ R.zs.length = 0 := ⟨h.1, by rw [h.2.1]; rfl, by rw [h.2.2.1]; rfl, by rw [h.2.2.2]; rfl⟩
theorem fsckWell_any {v : Value} {sec : Int} {sp : List Spot} {w : World} (h : Pic w v sec sp) : Calls Tryz.prog 5 #[v] w fun e w' => e = .returned (.bool true) ∧ Below w.heap.size w w' := by
 have H := Lib.hid h
 obtain ⟨-, a, c, rfl, -⟩ := h
 have hf0 := fr_new w (.cells #[.int .i64 sec, .slice a sp.length c] 25) []
 have hg0 := (hopN w (.cells #[.int .i64 sec, .slice a sp.length c] 25)).1
 have HF0 := Lib.hid hf0
 clear hf0
 go_enter Tryz.func5, Tryz.ntmps5
 go_wp2_with fail
 generalize w.alloc (.cells #[.int .i64 sec, .slice a sp.length c] 25) = w0 at *
 refine (image_pic (H.out.fr HF0.out)).mono ?_; rintro e w3 ⟨gi, rfl, hws, hb3, hgi⟩
 have hP := picN_small sec
 have HF3 := Lib.hid (HF0.out.trans (fr_below hb3 []))
 have HW := Lib.hid hws
 generalize picN sec = N at *
 generalize picS sec sp = S at *
 have HSL := Lib.hid (fun j hj => hws.secs.len (i := j) hj)
 clear hws hb3 hg0
 go_wp2_with fail
 refine (from_any (img0_of HW.out) hP.1 (by omega)).mono ?_; rintro e w4 ⟨gd, gs, rfl, hdk, hb4, hd1, hd2⟩
 have HF4 := Lib.hid (HF3.out.trans (fr_below hb4 []))
 have HW4 := Lib.hid (HW.out.same (hat_below hb4 HW.out.lt))
 have HD4 := Lib.hid hdk
 have HGD := Lib.hid (show w3.heap.size ≤ gd ∧ w3.heap.size ≤ gs from ⟨hd1, hd2⟩)
 have HGI : Hid (gi ≠ gd ∧ gi ≠ gs) := Lib.hid (by have := HW.out.lt; omega)
 have HZ3 := Lib.hid HF3.out.size
 clear hdk hb4 hd1 hd2
 go_wp2_with fail
 refine (known13_true _).mono ?_; rintro e w5 ⟨rfl, hb5⟩
 have HF5 := Lib.hid (HF4.out.trans (fr_below hb5 []))
 have HW5 := Lib.hid (HW4.out.same (hat_below hb5 HW4.out.lt))
 have HD5 := Lib.hid (HD4.out.fr (fr_below hb5 []) (by simp) (by simp))
 clear hb5
 go_wp2_with fail
 refine (run_any HD5.out (img_ok S) (by simp [imgD]) (by omega)).mono ?_; rintro e wq ⟨R, hR⟩
 obtain ⟨a0, c0, a1, c1, a2, c2, a3, c3, hv, hh⟩ := hR.hold
 obtain rfl := hR.e
 rw [hv]
 have HRY := Lib.hid (show _ ∧ _ from ⟨hR.y, hR.n⟩)
 have HH := Lib.hid hh
 clear hR hv hh
 by_cases he : lookE N S = 0
 ·have hrun := run_fresh (N := N) (d := imgD S) rfl rfl he
  have hrl : (runD N (imgD S)).1 = 0 := by rw [hrun]
  have hRL := HRY.out.1 hrl
  have hRN : R.N = N := by rw [hRL.n]; show lookN N S = N; unfold lookN; rw [if_pos he]
  have hRX : R.xs = lookX N S := hRL.x
  have HRUN := Lib.hid hrun
  have HE := Lib.hid he
  have HRX := Lib.hid hRX
  have HRS := Lib.hid (show R.S = lookS N S from hRL.s)
  have HRN := Lib.hid hRN
  rw [hrl]
  clear hrun hRL he hRX hRN
  go_upto_region 6 with fail
  generalize wq.alloc (.cells #[.slice a0 R.N c0, .slice a1 R.xs.length c1, .slice a2 R.ys.length c2, .slice a3 R.zs.length c3] 34) = wA at *
  have hg := HH.out.g
  have hgl := hat_lt hg
  have hnd := HH.out.nd
  have HZ := Lib.hid HH.out.z
  have HK := Lib.hid HH.out.k
  have HS0 := Lib.hid HH.out.s0
  have HF6 := Lib.hid ((HF5.out.mono (ex' := [gd, gs]) (by simp)).trans HH.out.f)
  have HW6 := Lib.hid (HW5.out.same (HH.out.f.block _ HW5.out.lt (by simp; exact HGI.out)))
  clear HH
  generalize wq.heap.size = gr at *
  go_wp2_with fail
  refine (well_any0 (img0_of HW6.out)).mono ?_; rintro e wB ⟨b, rfl, hb, hbl⟩
  have HF7 := Lib.hid (HF6.out.trans (fr_below hbl _))
  have HBB := Lib.hid hb
  have hg7 := (hop hbl hg).1
  have hg7l := hat_lt hg7
  have HK7 := Lib.hid (HK.out.fr (fr_below hbl []) (by simp) (by simp))
  have HS7 := Lib.hid (HS0.out.fr (fr_below hbl []) (by simp))
  have HW7 := Lib.hid (HW6.out.same (hat_below hbl HW6.out.lt))
  clear hbl hb hg hgl
  have HKR : Hid (DK wB gd gs N { imgD S with S := cutS S (lookS N S) (lookX N S), cnt := 0 + (lookX N S).length }) := Lib.hid (by have := HK7.out; rw [HRUN.out] at this; exact this)
  cases b with
  | true =>
   have hwell := HBB.out.1 rfl
   have hkeep := (look_keeps HSL.out hwell).2
   have hst := (stands_iff HSL.out HE.out).1 hwell
   have hX0 : lookX N S = [] := by unfold lookX lookS; rw [if_pos HE.out]; exact hst
   have HS8 : Hid (∀ j, lookS N S j = S j) := Lib.hid hkeep
   have hx0 : R.xs.length = 0 := by rw [HRX.out, hX0]; rfl
   rw [hx0] at hg7
   rw [HRN.out] at hg7
   have HKQ : Hid (DK wB gd gs N (imgD S)) := Lib.hid (by
    have := HKR.out
    rw [hX0, cutS_none] at this
    exact this)
   have HSQ : Hid (SecR wB (.slice a0 N c0) R.o0 N S) := Lib.hid (by
    have h1 := HS7.out
    rw [HRS.out, HRN.out] at h1
    exact h1.congr fun j hj => HS8.out j)
   clear hkeep hst hX0 hwell hrl hx0
   go_wp2_with fail
   refine (writes_any HKQ.out).mono ?_; rintro e wC ⟨rfl, rfl⟩
   go_wp2_with fail
   refine (same_yes HSQ.out.img (img0_of HW7.out) (by omega) (fun j hj => rfl)).mono ?_; rintro e wD ⟨rfl, hfD⟩
   have HF8 := Lib.hid (HF7.out.trans (hfD.mono (by simp)))
   have HK8 := Lib.hid (HKQ.out.fr hfD (by simp) (by simp))
   have HW8 := Lib.hid (HW7.out.same (hfD.block _ HW7.out.lt (by simp)))
   clear hfD
   go_wp2_with fail
   refine (image_any HK8.out (by omega)).mono ?_; rintro e wE ⟨gj, rfl, hwj, hbE, hgj⟩
   have HF9 := Lib.hid (HF8.out.trans (fr_below hbE _))
   have HW9 := Lib.hid (HW8.out.same (hat_below hbE HW8.out.lt))
   have HJ := Lib.hid hwj
   clear hwj hbE
   go_wp2_with fail
   refine (same_yes (img0_of HJ.out) (img0_of HW9.out) (by omega) (fun j hj => rfl)).mono ?_; rintro e wG ⟨rfl, hfG⟩
   have HF10 := Lib.hid (HF9.out.trans (hfG.mono (by simp)))
   clear hfG
   go_wp2_with fail
   go_ret
   exact ⟨rfl, HF10.out.below (Nat.le_refl _) (fun k hk => by
    have h1 := HGD.out
    have h2 := HZ3.out
    simp at hk; omega)⟩
  | false =>
   have hX0 : 0 < (lookX N S).length := by
    refine Nat.pos_of_ne_zero fun h0 => ?_
    have hnil : lookX N S = [] := List.eq_nil_of_length_eq_zero h0
    have hx : writeL N (rdSupR (S 0)).2.1 (repS (rdSupR (S 0)).2.1 (lookZ N (rdSupR (S 0)).2.1 S)) S (lookZ N (rdSupR (S 0)).2.1 S).st.fm = [] := by
     unfold lookX lookS at hnil; rw [if_pos HE.out] at hnil; exact hnil
    have := HBB.out.2 ((stands_iff HSL.out HE.out).2 hx)
    cases this
   have hpos : decide ((0 : Int) < ((lookX N S).length : Int)) = true := decide_eq_true (by omega)
   clear hg7 hg7l
   go_wp2_with fail
   refine (writes_any HKR.out).mono ?_; rintro e wC ⟨rfl, rfl⟩
   go_wp2_with fail
   go_ret
   exact ⟨rfl, HF7.out.below (Nat.le_refl _) (fun k hk => by
    have h1 := HGD.out
    have h2 := HZ3.out
    simp at hk; omega)⟩
 ·have hrun := run_bad (N := N) (d := imgD S) rfl he
  have hrl : (runD N (imgD S)).1 = lookE N S := by rw [hrun]; rfl
  have hE2 : (lookE N S == 0) = false := by simp [he]
  have HE := Lib.hid he
  rw [hrl]
  generalize hEE : lookE N S = E at *
  have HEE := Lib.hid hEE
  clear hrun he hrl hEE HRY
  go_upto_region 6 with fail
  generalize wq.alloc (.cells #[.slice a0 R.N c0, .slice a1 R.xs.length c1, .slice a2 R.ys.length c2, .slice a3 R.zs.length c3] 34) = wA at *
  have HF6 := Lib.hid ((HF5.out.mono (ex' := [gd, gs]) (by simp)).trans HH.out.f)
  have HW6 := Lib.hid (HW5.out.same (HH.out.f.block _ HW5.out.lt (by simp; exact HGI.out)))
  clear HH
  generalize wq.heap.size = gr at *
  go_wp2_with fail
  refine (well_any0 (img0_of HW6.out)).mono ?_; rintro e wB ⟨b, rfl, hb, hbl⟩
  have HF7 := Lib.hid (HF6.out.trans (fr_below hbl _))
  have HBB := Lib.hid hb
  clear hbl hb
  cases b with
  | true =>
   exact absurd (HEE.out.symm.trans (look_keeps HSL.out (HBB.out.1 rfl)).1) HE.out
  | false =>
   go_wp2_with fail
   go_ret
   exact ⟨rfl, HF7.out.below (Nat.le_refl _) (fun k hk => by
    have h1 := HGD.out
    have h2 := HZ3.out
    simp at hk; omega)⟩
theorem two_runs {N : Nat} {S : Nat → List Int} (hS : ∀ j, j < N → (S j).length = 128 ∧ Bytes (S j)) (he : lookE N S = 0) :
  let d := (runD N (imgD S)).2
  lookE N d.S = 0 ∧ lookS N d.S = lookS N S ∧ lookX N d.S = [] ∧ lookI N d.S = lookI N S ∧ lookB N d.S = lookB N S ∧ d.off = false ∧ d.armed = false ∧ runD N d = (0, d) ∧ d.cnt = (lookX N S).length ∧ (∀ j, j < N → d.S j = lookS N S j) ∧ d.left = 0 := by
 intro d
 have hd : d = { imgD S with S := cutS S (lookS N S) (lookX N S), cnt := 0 + ((lookX N S).length : Int) } := by
  show (runD N (imgD S)).2 = _
  rw [run_fresh (d := imgD S) rfl rfl he]
  rfl
 have hc := cut_look hS he (lookX N S).length
 rw [List.take_length, List.drop_length] at hc
 have hdS : d.S = cutS S (lookS N S) (lookX N S) := by rw [hd]
 rw [← hdS] at hc
 obtain ⟨c1, c2, c3, c4, c5⟩ := hc
 have ho : d.off = false := by rw [hd]; rfl
 have ha : d.armed = false := by rw [hd]; rfl
 refine ⟨c1, c2, c3, c4, c5, ho, ha, ?_, by rw [hd]; show (0 : Int) + _ = _; omega, fun j hj => by rw [hdS]; exact cut_all he hj, by rw [hd]; rfl⟩
 rw [run_fresh ho ha c1, c3, cutS_none]
 simp
theorem fsckTwice_any {v : Value} {sec : Int} {sp : List Spot} {w : World} (h : Pic w v sec sp) : Calls Tryz.prog 4 #[v] w fun e w' => e = .returned (.bool true) ∧ Below w.heap.size w w' := by
 have H := Lib.hid h
 obtain ⟨-, a, c, rfl, -⟩ := h
 have hf0 := fr_new w (.cells #[.int .i64 sec, .slice a sp.length c] 25) []
 have hg0 := (hopN w (.cells #[.int .i64 sec, .slice a sp.length c] 25)).1
 have HF0 := Lib.hid hf0
 clear hf0
 go_enter Tryz.func4, Tryz.ntmps4
 go_wp2_with fail
 generalize w.alloc (.cells #[.int .i64 sec, .slice a sp.length c] 25) = w0 at *
 refine (image_pic (H.out.fr HF0.out)).mono ?_; rintro e w3 ⟨gi, rfl, hws, hb3, hgi⟩
 have hP := picN_small sec
 have HF3 := Lib.hid (HF0.out.trans (fr_below hb3 []))
 have HW := Lib.hid hws
 generalize picN sec = N at *
 generalize picS sec sp = S at *
 have HSL := Lib.hid (fun j hj => hws.secs.len (i := j) hj)
 clear hws hb3 hg0
 go_wp2_with fail
 refine (from_any (img0_of HW.out) hP.1 (by omega)).mono ?_; rintro e w4 ⟨gd, gs, rfl, hdk, hb4, hd1, hd2⟩
 have HF4 := Lib.hid (HF3.out.trans (fr_below hb4 []))
 have HW4 := Lib.hid (HW.out.same (hat_below hb4 HW.out.lt))
 have HD4 := Lib.hid hdk
 have HGD := Lib.hid (show w3.heap.size ≤ gd ∧ w3.heap.size ≤ gs from ⟨hd1, hd2⟩)
 have HGI : Hid (gi ≠ gd ∧ gi ≠ gs) := Lib.hid (by have := HW.out.lt; omega)
 have HZ3 := Lib.hid HF3.out.size
 clear hdk hb4 hd1 hd2
 go_wp2_with fail
 refine (known13_true _).mono ?_; rintro e w5 ⟨rfl, hb5⟩
 have HF5 := Lib.hid (HF4.out.trans (fr_below hb5 []))
 have HW5 := Lib.hid (HW4.out.same (hat_below hb5 HW4.out.lt))
 have HD5 := Lib.hid (HD4.out.fr (fr_below hb5 []) (by simp) (by simp))
 clear hb5
 go_wp2_with fail
 refine (run_any HD5.out (img_ok S) (by simp [imgD]) (by omega)).mono ?_; rintro e wq ⟨R, hR⟩
 obtain ⟨a0, c0, a1, c1, a2, c2, a3, c3, hv, hh⟩ := hR.hold
 obtain rfl := hR.e
 rw [hv]
 have HRY := Lib.hid (show _ ∧ _ from ⟨hR.y, hR.n⟩)
 have HN1 := Lib.hid hR.r.n1
 have HN2 := Lib.hid (show _ ∧ _ from ⟨hR.r.n2, hR.r.n3⟩)
 have HH := Lib.hid hh
 clear hR hv hh
 by_cases he : lookE N S = 0
 ·have htw := two_runs HSL.out he
  have hrl : (runD N (imgD S)).1 = 0 := by rw [run_fresh (d := imgD S) rfl rfl he]
  simp only at htw
  obtain ⟨t1, t2, t3, t4, t5, t6, t7, t8, t9, t10, t11⟩ := htw
  have HK0 := HH.out.k
  generalize (runD N (imgD S)).2 = d1 at *
  have hRL := HRY.out.1 hrl
  have HRL := Lib.hid hRL
  have HRN := Lib.hid (show R.N = N by rw [hRL.n]; show lookN N S = N; unfold lookN; rw [if_pos he])
  have HE := Lib.hid he
  have HT := Lib.hid (show lookE N d1.S = 0 ∧ lookS N d1.S = lookS N S ∧ lookX N d1.S = [] ∧ lookI N d1.S = lookI N S ∧ lookB N d1.S = lookB N S from ⟨t1, t2, t3, t4, t5⟩)
  have HTR := Lib.hid t8
  have HTS := Lib.hid t10
  have hxl : (lookX N S).length ≤ 4900 := by have := HN1.out; rw [hRL.x] at this; exact this
  have HDOK : Hid (DOk d1 ∧ d1.cnt ≤ 900000000000) := Lib.hid ⟨⟨by rw [t9]; omega, by rw [t9]; omega, by rw [t11]; omega, by rw [t11]; omega⟩, by rw [t9]; omega⟩
  have HK0 := Lib.hid HK0
  have HG0 := Lib.hid HH.out.g
  have HND := Lib.hid HH.out.nd
  have HZ := Lib.hid HH.out.z
  have HS0 := Lib.hid HH.out.s0
  have HQ2 := Lib.hid HH.out.s2
  have HQ3 := Lib.hid HH.out.s3
  have HF6 := Lib.hid ((HF5.out.mono (ex' := [gd, gs]) (by simp)).trans HH.out.f)
  have HO := Lib.hid HH.out.o
  rw [hrl]
  clear HH hRL he hrl t1 t2 t3 t4 t5 t6 t7 t8 t9 t10 t11 HRY
  go_upto_region 6 with fail
  generalize wq.alloc (.cells #[.slice a0 R.N c0, .slice a1 R.xs.length c1, .slice a2 R.ys.length c2, .slice a3 R.zs.length c3] 34) = wA at *
  generalize wq.heap.size = gr at *
  go_wp2_with fail
  refine (writes_any HK0.out).mono ?_; rintro e wB ⟨rfl, rfl⟩
  go_wp2_with fail
  refine (run_any HK0.out HDOK.out.1 HDOK.out.2 (by omega)).mono ?_; rintro e wp ⟨Q, hQ⟩
  obtain ⟨b0, e0, b1, e1, b2, e2, b3, e3, hv, hh⟩ := hQ.hold
  obtain rfl := hQ.e
  rw [hv]
  have HQY := hQ.y
  rw [HTR.out] at HQY ⊢
  have hQL := HQY rfl
  have HQL := Lib.hid hQL
  have hQN : Q.N = N := by rw [hQL.n]; unfold lookN; rw [if_pos HT.out.1]
  have hQX : Q.xs.length = 0 := by rw [hQL.x, HT.out.2.2.1]; rfl
  rw [hQN, hQX] at hh ⊢
  have HQN := Lib.hid hQN
  have HH2 := Lib.hid hh
  have hg9 := HH2.out.g
  rw [hQN, hQX] at hg9
  have HK9 : Hid (DK _ gd gs N d1) := Lib.hid (by have := HH2.out.k; rw [HTR.out] at this; exact this)
  have hne := HND.out
  have hgr9 := (HH2.out.f.block gr (hat_lt HG0.out) (by simp; exact hne)).trans HG0.out
  have HS9 := Lib.hid HH2.out.s0
  have HQ29 := Lib.hid HH2.out.s2
  have HQ39 := Lib.hid HH2.out.s3
  have hdis : ∀ g ∈ R.os, g ∉ [gd, gs] := fun g hg => by
   have h1 := HO.out g hg
   have h2 := hat_lt HD5.out.hd
   have h3 := HD5.out.hs.lt
   simp
   omega
  have HSr := Lib.hid (HS0.out.fr HH2.out.f (fun g hg => hdis g (RP.mem_os.2 (.inl hg))))
  have HQ2r := Lib.hid (HQ2.out.fr HH2.out.f (fun g hg => hdis g (RP.mem_os.2 (.inr (.inr (.inl hg))))))
  have HQ3r := Lib.hid (HQ3.out.fr HH2.out.f (fun g hg => hdis g (RP.mem_os.2 (.inr (.inr (.inr hg))))))
  have HF9 := Lib.hid (HF6.out.trans HH2.out.f)
  have hgq : wp.heap.size ≠ gr := by have := hat_lt HG0.out; have := HH2.out.z; omega
  clear HH2 hQ hv hh HQY hQL HS0 HQ2 HQ3 HF6 HK0 hQX hQN hdis
  go_upto_region 8 with fail
  generalize wp.alloc (.cells #[.slice b0 N e0, .slice b1 0 e1, .slice b2 Q.ys.length e2, .slice b3 Q.zs.length e3] 34) = w9 at *
  generalize wp.heap.size = gq at *
  go_wp2_with fail
  refine (image_any HK9.out (by omega)).mono ?_; rintro e wC ⟨gj, rfl, hwj, hbC, hgj⟩
  have HWJ := Lib.hid (hwj.congr HTS.out)
  have HF10 := Lib.hid (HF9.out.trans (fr_below hbC _))
  have hgr10 := (hop hbC hgr9).1
  have hgq10 := (hop hbC hg9).1
  have HK10 := Lib.hid (HK9.out.fr (fr_below hbC []) (by simp) (by simp))
  have HSr10 := Lib.hid (HSr.out.fr (fr_below hbC []) (by simp))
  have HS10 := Lib.hid (HS9.out.fr (fr_below hbC []) (by simp))
  have HQ2r10 := Lib.hid (HQ2r.out.fr (fr_below hbC []) (by simp))
  have HQ3r10 := Lib.hid (HQ3r.out.fr (fr_below hbC []) (by simp))
  have HQ210 := Lib.hid (HQ29.out.fr (fr_below hbC []) (by simp))
  have HQ310 := Lib.hid (HQ39.out.fr (fr_below hbC []) (by simp))
  clear hwj hbC hg9 hgr9 HK9 HSr HS9 HQ2r HQ3r HQ29 HQ39
  go_wp2_with fail
  refine (well_any0 (img0_of HWJ.out)).mono ?_; rintro e wD ⟨b, rfl, hb, hbD⟩
  obtain rfl : b = true := hb.2 (look_well HSL.out HE.out)
  have HF11 := Lib.hid (HF10.out.trans (fr_below hbD _))
  have hgr11 := (hop hbD hgr10).1
  have hgq11 := (hop hbD hgq10).1
  have HK11 := Lib.hid (HK10.out.fr (fr_below hbD []) (by simp) (by simp))
  have HSr11 := Lib.hid (HSr10.out.fr (fr_below hbD []) (by simp))
  have HS11 := Lib.hid (HS10.out.fr (fr_below hbD []) (by simp))
  have HQ2r11 := Lib.hid (HQ2r10.out.fr (fr_below hbD []) (by simp))
  have HQ3r11 := Lib.hid (HQ3r10.out.fr (fr_below hbD []) (by simp))
  have HQ211 := Lib.hid (HQ210.out.fr (fr_below hbD []) (by simp))
  have HQ311 := Lib.hid (HQ310.out.fr (fr_below hbD []) (by simp))
  clear hb hbD hgr10 hgq10 HK10 HSr10 HS10 HQ2r10 HQ3r10 HQ210 HQ310 HWJ
  rw [HRN.out] at hgr11
  have hyz : Q.ys = R.ys ∧ Q.zs = R.zs := ⟨by rw [HQL.out.y, HRL.out.y]; exact HT.out.2.2.2.1, by rw [HQL.out.z, HRL.out.z]; exact HT.out.2.2.2.2⟩
  rw [hyz.1] at hgq11 HQ211
  rw [hyz.2] at hgq11 HQ311
  have hsQ : SecR wD (.slice b0 N e0) Q.o0 N (lookS N S) := by
   have h1 := HS11.out
   rw [HQN.out] at h1
   have h2 : Q.S = lookS N S := HQL.out.s.trans HT.out.2.1
   rw [h2] at h1
   exact h1
  have hsR : SecR wD (.slice a0 N c0) R.o0 N (lookS N S) := by
   have h1 := HSr11.out
   rw [HRN.out] at h1
   have h2 : R.S = lookS N S := HRL.out.s
   rw [h2] at h1
   exact h1
  have hX0 : Fr [] wD wD.drew := fr_drew (Fr.refl [] wD)
  have x1 : hat wD.drew gr = some (.cells #[.slice a0 N c0, .slice a1 R.xs.length c1, .slice a2 R.ys.length c2, .slice a3 R.zs.length c3] 34) := hgr11
  have x2 : hat wD.drew gq = some (.cells #[.slice b0 N e0, .slice b1 0 e1, .slice b2 R.ys.length e2, .slice b3 R.zs.length e3] 34) := hgq11
  have HA1 := Lib.hid (hsQ.fr hX0 (by simp))
  have HA2 := Lib.hid (hsR.fr hX0 (by simp))
  have HKd := Lib.hid (HK11.out.fr hX0 (by simp) (by simp))
  have HB2 := Lib.hid (HQ2r11.out.fr hX0 (by simp))
  have HB3 := Lib.hid (HQ3r11.out.fr hX0 (by simp))
  have HB4 := Lib.hid (HQ211.out.fr hX0 (by simp))
  have HB5 := Lib.hid (HQ311.out.fr hX0 (by simp))
  have hN9 : N ≤ 100000 := by omega
  have hN4 : N ≤ 4096 := by omega
  have hly : R.ys.length ≤ 100000 := by have := HN2.out.1; omega
  have hlz : R.zs.length ≤ 100000 := by have := HN2.out.2; omega
  have HEQ2 : Hid (∀ j, j < N → lookS N S j = d1.S j) := Lib.hid (fun j hj => (HTS.out j hj).symm)
  have noq : ∀ {o : Option Nat} (g : Nat), o = some g → g ∉ ([] : List Nat) := fun _ _ => List.not_mem_nil
  have nin : ∀ g : Nat, g ∉ ([] : List Nat) := fun _ => List.not_mem_nil
  have HX := Lib.hid (HF11.out.trans (hX0.mono (ex' := [gd, gs]) (by simp)))
  have z1 := hat_lt x1
  have z2 := hat_lt x2
  clear hgr11 hgq11 HSr11 HS11 HK11 HQ2r11 HQ3r11 HQ211 HQ311 hyz hsQ hsR hX0
  go_upto_region 11 with fail
  go_region_held3 (fun w' => hat w' gr = some (.cells #[.slice a0 N c0, .slice a1 R.xs.length c1, .slice a2 R.ys.length c2, .slice a3 R.zs.length c3] 34) ∧ hat w' gq = some (.cells #[.slice b0 N e0, .slice b1 0 e1, .slice b2 R.ys.length e2, .slice b3 R.zs.length e3] 34)) (first | assumption | (refine ⟨?_, ?_⟩ <;> assumption))
   (first
    | (with_reducible refine (writes_any HKd.out).mono ?_; rintro e wW ⟨rfl, rfl⟩)
    | (with_reducible refine (same_yes HA1.out.img HA2.out.img hN9 (fun _ _ => rfl)).mono ?_; rintro e wS ⟨rfl, hfS⟩; have s1 := (hfS.block gr (hat_lt x1) (nin _)).trans x1; have s2 := (hfS.block gq (hat_lt x2) (nin _)).trans x2; have HXS := Lib.hid hfS)
    | (with_reducible refine (image_any (HKd.out.fr HXS.out (nin _) (nin _)) hN4).mono ?_; rintro e wI ⟨gj, rfl, hwj, hbI, hgj⟩; have i1 := (hop hbI s1).1; have i2 := (hop hbI s2).1; have HXI := Lib.hid (HXS.out.trans (fr_below hbI [])); have HWI := Lib.hid hwj)
    | (with_reducible refine (same_yes (HA2.out.fr HXI.out noq).img (img0_of HWI.out) hN9 HEQ2.out).mono ?_; rintro e wT ⟨rfl, hfT⟩; have t1 := (hfT.block gr (hat_lt i1) (nin _)).trans i1; have t2 := (hfT.block gq (hat_lt i2) (nin _)).trans i2; have HXT := Lib.hid (HXI.out.trans hfT))
    | (with_reducible refine (ints_yes (HB2.out.fr HXT.out noq) (HB4.out.fr HXT.out noq) hly).mono ?_; rintro e wU ⟨rfl, hfU⟩; have u1 := (hfU.block gr (hat_lt t1) (nin _)).trans t1; have u2 := (hfU.block gq (hat_lt t2) (nin _)).trans t2; have HXU := Lib.hid (HXT.out.trans hfU))
    | (with_reducible refine (ints_yes (HB3.out.fr HXU.out noq) (HB5.out.fr HXU.out noq) hlz).mono ?_; rintro e wV ⟨rfl, hfV⟩; have v1 := (hfV.block gr (hat_lt u1) (nin _)).trans u1; have v2 := (hfV.block gq (hat_lt u2) (nin _)).trans u2; have HXV := Lib.hid (HXU.out.trans hfV))
    | fail)
  all_goals
   go_wp2_with fail
   go_ret
   exact ⟨rfl, (HX.out.trans (HXV.out.mono (by simp))).below (Nat.le_refl _) (fun k hk => by
    have h1 := HGD.out
    have h2 := HZ3.out
    simp at hk; omega)⟩
 ·have hrun := run_bad (N := N) (d := imgD S) rfl he
  have hrl : (runD N (imgD S)).1 = lookE N S := by rw [hrun]; rfl
  have hor := lookE_or he
  have HK0 := HH.out.k
  rw [hrun] at HK0
  have HRUN := Lib.hid hrun
  have hE2 : (lookE N S == 0) = false := by simp [he]
  have HK0 := Lib.hid HK0
  rw [hrl]
  have HSE := Lib.hid (show lookE N (imgD S).S = lookE N S from rfl)
  have HF6 := Lib.hid ((HF5.out.mono (ex' := [gd, gs]) (by simp)).trans HH.out.f)
  have HW6 := Lib.hid (HW5.out.same (HH.out.f.block _ HW5.out.lt (by simp; exact HGI.out)))
  clear hrun he hrl HRY HH HN1 HN2
  go_upto_region 6 with fail
  generalize wq.alloc (.cells #[.slice a0 R.N c0, .slice a1 R.xs.length c1, .slice a2 R.ys.length c2, .slice a3 R.zs.length c3] 34) = wA at *
  generalize wq.heap.size = gr at *
  go_wp2_with fail
  refine (writes_any HK0.out).mono ?_; rintro e wB ⟨rfl, rfl⟩
  go_wp2_with fail
  refine (run_any HK0.out (img_ok S) (by simp [imgD]) (by omega)).mono ?_; rintro e wp ⟨Q, hQ⟩
  obtain ⟨b0, e0, b1, e1, b2, e2, b3, e3, hv, hh⟩ := hQ.hold
  obtain rfl := hQ.e
  rw [hv]
  have HK9 := hh.k
  rw [HRUN.out] at HK9 ⊢
  have HK9 := Lib.hid HK9
  have HF9 := Lib.hid (HF6.out.trans hh.f)
  have HW9 := Lib.hid (HW6.out.same (hh.f.block _ HW6.out.lt (by simp; exact HGI.out)))
  clear hQ hv hh HF6 HK0
  have hE3 : lookE N (imgD S).S = lookE N S := rfl
  simp only [hE3]
  generalize lookE N S = E at *
  go_upto_region 8 with fail
  generalize wp.alloc (.cells #[.slice b0 Q.N e0, .slice b1 Q.xs.length e1, .slice b2 Q.ys.length e2, .slice b3 Q.zs.length e3] 34) = w9 at *
  generalize wp.heap.size = gq at *
  go_wp2_with fail
  refine (writes_any HK9.out).mono ?_; rintro e wC ⟨rfl, rfl⟩
  go_wp2_with fail
  refine (image_any HK9.out (by omega)).mono ?_; rintro e wE ⟨gj, rfl, hwj, hbE, hgj⟩
  have HF10 := Lib.hid (HF9.out.trans (fr_below hbE _))
  have HW10 := Lib.hid (HW9.out.same (hat_below hbE HW9.out.lt))
  have HJ := Lib.hid hwj
  clear hwj hbE
  go_wp2_with fail
  refine (same_yes (img0_of HJ.out) (img0_of HW10.out) (by omega) (fun j hj => rfl)).mono ?_; rintro e wG ⟨rfl, hfG⟩
  have HF11 := Lib.hid (HF10.out.trans (hfG.mono (by simp)))
  clear hfG
  rcases hor with rfl | rfl
  ·go_wp2_with fail
   go_ret
   exact ⟨rfl, HF11.out.below (Nat.le_refl _) (fun k hk => by
    have h1 := HGD.out
    have h2 := HZ3.out
    simp at hk; omega)⟩
  ·go_wp2_with fail
   go_ret
   exact ⟨rfl, HF11.out.below (Nat.le_refl _) (fun k hk => by
    have h1 := HGD.out
    have h2 := HZ3.out
    simp at hk; omega)⟩
end Go.Proofs.YtmnecpnkkapflaaGreat
