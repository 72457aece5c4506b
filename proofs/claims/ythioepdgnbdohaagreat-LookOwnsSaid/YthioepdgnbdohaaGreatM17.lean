import Derived.Deep.DeepCutAuto
import Derived.SizedLaws
import Derived.Test.YthioepdgnbdohaaGreatM04
import Derived.Test.YthioepdgnbdohaaGreatM10
import Derived.Test.YthioepdgnbdohaaGreatM11
import Derived.Test.YthioepdgnbdohaaGreatM12
import Derived.Test.YthioepdgnbdohaaGreatM16
namespace Go.Proofs.YthioepdgnbdohaaGreat
set_option maxHeartbeats 16000000
set_option maxRecDepth 1000000
set_option linter.unusedSimpArgs false
set_option linter.unusedVariables false
open Go.RowKit
def Qh (w w' : World) (N : Nat) (X Y : Int) (S : Nat -> List Int) (e : Ending) : Prop :=
 ∃ gw cw v1 v2 v3 o1 o2 o3,e = .returned (.tuple #[.agg #[.slice (some ⟨gw,0,none⟩) N cw,v1,v2,v3],.int .i64 0]) /\ Cf w' gw N 0 (Dn Y (Dc X Y S)) /\
  Bc w' v1 o1 (Gw N Y (Dn Y (Dc X Y S)) S (Dc X Y S).st.fm) /\ Bc w' v2 o2 (Dk fun p => ((Dc X Y S).T p.toNat).isSome) /\ Bc w' v3 o3 (Dk (Dc X Y S).st.cl) /\
  Below w.heap.size w w' /\ w.heap.size <= gw /\ Fe w.heap.size o1 /\ Fe w.heap.size o2 /\ Fe w.heap.size o3
noncomputable def Mh (Y : Int) (z : LZ) (k : Nat) (j : Nat) : List Int := if 1 <= j /\ j < k then Dn Y z j else z.st.S j
theorem iQ (Y : Int) (z : LZ) : Mh Y z 1 = z.st.S := by
 funext j
 unfold Mh;rw [if_neg (by omega)]
theorem Ma {Y : Int} {z : LZ} {k : Nat} (h : 1 <= k) : Mh Y z (k + 1) = Bn (Mh Y z k) k (Dn Y z k) := by
 funext j
 unfold Mh Bn;by_cases e : j = k
 ·subst e; rw [if_pos (by omega)]; simp
 ·by_cases h1 : 1 <= j /\ j < k
  ·rw [if_pos (by omega),if_neg e];exact (if_pos h1).symm
  ·rw [if_neg (by omega),if_neg e];exact (if_neg h1).symm
theorem iP {Y : Int} {z : LZ} {M : Nat} (h : (M : Int) = Y + 1) : Mh Y z M = Dn Y z := by
 funext j
 unfold Mh;by_cases h1 : 1 <= j /\ j < M
 ·rw [if_pos h1]
 ·rw [if_neg h1,Ow z (by omega)]
theorem Bc.ne {w : World} {v : Value} {o : Option Nat} {xs : List Int} (h : Bc w v o xs) {g : Nat} {cs : Array Value} {t : TypeId} {f : Nat × Nat} (hg : hat w g = some (.cells cs t f)) (ht : t ≠ 3) : ∀ q,o = some q -> q ∉ [g] := by
 rintro q rfl hm;rw [List.mem_singleton] at hm;subst hm;rcases h with ⟨-, e, -⟩ | ⟨g,off,c,cs', -, e,h7, -⟩
 ·cases e
 ·have := Option.some.inj e;subst this;rw [hg] at h7;injection h7 with h8
  injection h8 with h9 h10
  exact ht h10
theorem iS {E : Ay} (hE : ROk E) {I0 : Nat -> List Int} {w w' : World} {o' : Option Nat} (h2 : nth (Al (E.A 1)).1 0 = 2) (h : Tkn E 1 (Al (E.A 1)).1 (Cd E.A).st none [] (tkZ (Cd E.A).T) I0 (enZ (Cd E.A).T) w w' o') : ∃ I,DG E (w'.setCell ⟨E.ge,1,none⟩ (.int .i64 1)) o' [] (C7 E.X E.Y E.A) I := by
 have hM : 1 < E.M := by have := hE.M; have := hE.Y1; omega
 have hg := (h.g).count hE hM 1;rw [bH (Nat.le_refl 1) ⟨(Ap E.X E.Y (Al (E.A 1)).1 (Cd E.A).st).1,1,(Ap E.X E.Y (Al (E.A 1)).1 (Cd E.A).st).2.bk⟩] at hg;have e : (fun j => if 1 = j then (1 : Int) else enZ (Cd E.A).T j) = enZ (A3 (Cd E.A).T 1 ⟨(Ap E.X E.Y (Al (E.A 1)).1 (Cd E.A).st).1,1,(Ap E.X E.Y (Al (E.A 1)).1 (Cd E.A).st).2.bk⟩) := (Uv (Cd E.A).T 1 ⟨(Ap E.X E.Y (Al (E.A 1)).1 (Cd E.A).st).1,1,(Ap E.X E.Y (Al (E.A 1)).1 (Cd E.A).st).2.bk⟩).symm;rw [e] at hg;refine ⟨fun j => if j = 1 then (Ap E.X E.Y (Al (E.A 1)).1 (Cd E.A).st).1 else I0 j,?_,fun j u hu => ?_⟩
 ·show RG E _ o' ([] ++ (if nth (Al (E.A 1)).1 0 = 2 then [] ++ [((1 : Nat) : Int)] else [])) _ _ _ _ _
  rw [if_pos h2] at hg ⊢;exact hg
 ·have hu2 : A3 (fun _ => none) 1 ⟨(Ap E.X E.Y (Al (E.A 1)).1 (Cd E.A).st).1,1,(Ap E.X E.Y (Al (E.A 1)).1 (Cd E.A).st).2.bk⟩ j = some u := hu;by_cases hj : j = 1
  ·subst hj;rw [Cp] at hu2;rw [<- Option.some.inj hu2];exact if_pos rfl
  ·rw [Cm _ _ hj] at hu2;cases hu2
theorem qJ {E : Ay} (hE : ROk E) (hA : ∀ j : Nat,isD E.X E.Y j = true -> (E.A j).length = 128 /\ A0 (E.A j)) (hr : Fm E.A) : DI E [] (C7 E.X E.Y E.A) /\ (∃ L,WZ E.X E.Y E.A L 0 0 (C7 E.X E.Y E.A)) /\ Ed (C7 E.X E.Y E.A) <= 8192 := by
 have hY0 : 0 <= E.Y := by have := hE.Y1; omega
 refine ⟨DI.enter hE (z := Cd E.A) ⟨S7 hA,fun i t h => (by cases h),List.nodup_nil,fun i hi => (by cases hi)⟩ (Nat.le_refl 1) (by have := hE.Y1; omega) (Ps hr.1),⟨_,X2 hE.Y1 hA hr⟩,?_⟩;have hm := Id hr.1;have hb := (Dy hm.2).1 hm.1;exact ((Z1 E.X E.Y E.A).take (Nat.le_refl 1) hE.Y1 (by decide) (Br _) hb.1.2.2.1.1 hb.1.2.2.1.2 (by decide) (by decide) rfl).pot
structure RkI (E : Ay) (o : Option Nat) (done : List Int) (z : LZ) (I : Nat -> List Int) (w : World) (gs gx : Nat) (r2 : List Int) (k : Nat) (W : World) : Prop where
 g : RG E W o done (Bn (Mh E.Y z k) k (zl 128)) z.st.cl (tkZ z.T) I (enZ z.T) \/ RG E W o done (Mh E.Y z (k + 1)) z.st.cl (tkZ z.T) I (enZ z.T)
 x : hat W gx = some (.cells (IV .i64 r2) 45)
 z : hat W w.heap.size = some (.cells #[.slice none 0 0,.slice none 0 0,.slice none 0 0,.slice none 0 0] 26) /\ hat W gs = some (.cells #[.int .i64 (E.N : Int),.int .i64 E.Y] 40)
 b : Below w.heap.size w W
section
variable {E : Ay} {o : Option Nat} {done : List Int} {z : LZ} {I : Nat -> List Int} {w W W' : World} {gs gx : Nat} {r2 : List Int} {k : Nat}
theorem RkI.any (h : RkI E o done z I w gs gx r2 k W) : ∃ S',RG E W o done S' z.st.cl (tkZ z.T) I (enZ z.T) := by
 rcases h.g with h | h <;> exact ⟨_,h⟩
theorem RkI.below (h : RkI E o done z I w gs gx r2 k W) (hb : Below W.heap.size W W') : RkI E o done z I w gs gx r2 k W' :=
 ⟨h.g.imp (fun h => h.below hb) (fun h => h.below hb),(hop hb h.x).1,⟨(hop hb h.z.1).1,(hop hb h.z.2).1⟩,h.b.trans (hb.mono h.b.size)⟩
theorem RkI.store (hE : ROk E) (hk1 : 1 <= k) (hkN : k < E.N) (hms : w.heap.size <= E.gw) (hr : Dn E.Y z k = (Da r2).1) (h : RkI E o done z I w gs gx r2 k W) {csx : Array Value} (hcx : hat W E.gw = some (.cells csx 33)) :
  RkI E o done z I w gs gx r2 k (W.setRow E.gw (Ak csx (k * 128) (IV .u8 (Da r2).1))) /\ RG E (W.setRow E.gw (Ak csx (k * 128) (IV .u8 (Da r2).1))) o done (Mh E.Y z (k + 1)) z.st.cl (tkZ z.T) I (enZ z.T) := by
 have hg : RG E (W.setRow E.gw (Ak csx (k * 128) (IV .u8 (Da r2).1))) o done (Mh E.Y z (k + 1)) z.st.cl (tkZ z.T) I (enZ z.T) := by
  rcases h.g with h | h
  ·have h := h.store hE hcx hkN (s := (Da r2).1) (I2 _) (Mz _);rw [Kk,<- hr,<- Ma hk1,hr] at h;exact h
  ·have h := h.store hE hcx hkN (s := (Da r2).1) (I2 _) (Mz _);rw [Ma hk1,Kk,<- hr,<- Ma hk1,hr] at h;exact h
 have hf := Cl W E.gw (Ak csx (k * 128) (IV .u8 (Da r2).1));have hf' : Fr (E.ms ++ o.toList) W (W.setRow E.gw (Ak csx (k * 128) (IV .u8 (Da r2).1))) := hf.mono (by simp [Ay.ms]);obtain ⟨S',hS⟩ := h.any;refine ⟨⟨.inr hg,(hf.block gx (Aa h.x) (fun hm => ?_)).trans h.x,⟨hS.keep hf' h.z.1 (by decide),hS.keep hf' h.z.2 (by decide)⟩,h.b.trans (hf.below h.b.size (fun b hb => by simp at hb; subst hb; exact hms))⟩,hg⟩;rw [List.mem_singleton] at hm;have hx := h.x;rw [hm,hcx] at hx;injection hx with h8
 injection h8 with h9 h10
 exact absurd h10 (by decide)
end
theorem Zl (gi oi N ci : Nat) (S : Nat -> List Int) (w : World) (hS : Gn w gi oi N S) (h8 : 8 <= N) (hN : N <= 4096) (h0 : (A4 (S 0)).2.2 = 0) (hX : (A4 (S 0)).1 = N) :
  Calls Tryz.prog 11 #[.slice (some ⟨gi,oi,none⟩) N ci] w fun e w' => (Fm S /\ Qh w w' N (A4 (S 0)).1 (A4 (S 0)).2.1 S e) \/ (¬ Fm S /\ e = .returned (.tuple #[.agg Bv,.int .i64 121]) /\ Below w.heap.size w w') := by
 obtain ⟨cs,t,fr,hcs,hld⟩ := hS.load (show 0 < N by omega);obtain ⟨hl0,hb0⟩ := hS.len (show 0 < N by omega);have HRS := sW (fun W => Sb (S 0) hl0 hb0 W);rw [Nat.zero_mul,Nat.add_zero] at hld;have hcl := Aa hcs;have hz1 := (A7 w (.cells Bv 26)).1;have hc1 := (B4 w (.cells Bv 26) hcs).1;have hf1 := A1 w (.cells Bv 26) [];have d1 : ¬ (N : Int) < 8 := by omega
 have d2 : ¬ (4096 : Int) < (N : Int) := by omega
 have d3 : (0 : Int) < (N : Int) := by omega
 have HF1 := sW hf1;have HMAY := sW (bF h0).1;obtain ⟨X,Y,er,hR⟩ : ∃ X Y er,A4 (S 0) = (X,Y,er) := ⟨_,_,_,rfl⟩;rw [hR] at HRS HMAY h0 hX;rw [hR];simp only at h0 hX HMAY ⊢;subst h0;subst hX;have HS := sW hS;have HGI : Hid (gi < w.heap.size) := sW hcl;clear hS hf1 hR;go_enter Tryz.func11,Tryz.ntmps11;go_wp2_with fail;generalize hW1 : w.alloc (.cells #[.slice none 0 0,.slice none 0 0,.slice none 0 0,.slice none 0 0] 26) = w1 at *;refine (HRS.out w1).mono ?_; rintro e w2 ⟨rfl,hb2⟩;have hz2 := (hop hb2 (show hat w1 w.heap.size = some (.cells Bv 26) by rw [<- hW1]; exact (A7 w _).1)).1;have hgz := Aa hz2;have HF2 := sW ((show Fr [] w w1 by rw [<- hW1]; exact A1 w _ []).trans (Ag hb2 []));have hXn : ((N : Int) != (N : Int)) = false := by simp
 unfold Bv at hz2;clear hb2 hz1 hc1 hcs hld hW1 HF1 HRS;go_upto_region 6 with fail;have hz3 := (B4 w2 (.cells #[.int .i64 (N : Int),.int .i64 Y] 40) hz2).1;have hs3 := (A7 w2 (.cells #[.int .i64 (N : Int),.int .i64 Y] 40)).1;have HF3 := sW (HF2.out.trans (A1 w2 (.cells #[.int .i64 (N : Int),.int .i64 Y] 40) []));have hgz3 := Aa hs3;generalize w2.alloc (.cells #[.int .i64 (N : Int),.int .i64 Y] 40) = w3 at *;generalize hgs : w2.heap.size = gs at *;have HGS : Hid (w.heap.size < gs /\ gs < w3.heap.size) := sW ⟨by omega,hgz3⟩;clear hz2 HF2 hgs hgz hgz3;have HS3 := sW (HS.out.same (HF3.out.block _ HS.out.lt (by simp)));obtain ⟨M,hM⟩ : ∃ M : Nat,(M : Int) = Y + 1 := ⟨(Y + 1).toNat,by obtain ⟨-, ⟨y1, -⟩, -⟩ := HMAY.out; omega⟩;have HM := sW hM;have hM9 : M <= 4096 := by obtain ⟨-, ⟨y1,y2⟩,xy⟩ := HMAY.out; omega
 have hY0 : 0 <= Y := by obtain ⟨-, ⟨y1,y2⟩,xy⟩ := HMAY.out; omega
 have hY9 : Y < 4096 := by omega
 have hM0 : 0 <= (M : Int) := by omega
 have hwr : IntKind.i64.wrap (Y + 1) = (M : Int) := by rw [IntKind.wrap_i64]; omega
 refine N4 (by kernel_rfl) 23 (by decide) rfl (Za w3) Y8 (rkG N Y gs gi oi ci N M S w3) (fun _ => none) ⟨Bj (Fr.refl [] w3),fun _ _ h => by cases h⟩ ?_ ?_ ?_
 ·intro i v own wa own' wb hi hIa hIb hE hG; exact dP hE hG
 ·intro i o hi ho a' own w' hI hS hF;have hi' : i = 0 \/ i = 1 \/ i = 2 \/ i = 3 \/ i = 4 \/ i = 5 \/ i = 6 \/ i = 7 \/ i = 8 \/ i = 9 \/ i = 10 \/ i = 11 \/ i = 12 \/ i = 13 \/ i = 14 \/ i = 15 \/ i = 16 \/ i = 17 \/ i = 18 \/ i = 19 \/ i = 20 \/ i = 21 \/ i = 22 := by omega
  have hstay : Y8 own w' own w' := ⟨Fr.refl _ _,fun _ _ h => h⟩;have hss := (hI.1.block _ (Aa hs3) (by simp)).trans hs3;have hS4 : a'.tmps[4]?.getD undef = .pointer (some ⟨gs,0,none⟩) := gtx ((hS 4 (by decide)).trans rfl);have hS0 : a'.tmps[0]?.getD undef = .slice (some ⟨gi,oi,none⟩) N ci := gtx ((hS 0 (by decide)).trans rfl);rcases hi' with rfl | rfl | rfl | rfl | rfl | rfl | rfl | rfl | rfl | rfl | rfl | rfl | rfl | rfl | rfl | rfl | rfl | rfl | rfl | rfl | rfl | rfl | rfl
  all_goals (have ho' := Option.some.inj ho; subst ho')
  ·exact Bl 40 2 Pq (.tmp 4) rfl rfl rfl gs _ ((hS 4 (by decide)).trans rfl) hss rfl ⟨_,own,rfl,hI,hstay,rfl⟩
  ·exact Eu (.tmp 0) rfl rfl rfl _ ((hS 0 (by decide)).trans rfl) ⟨_,own,rfl,hI,hstay,rfl⟩
  ·have hfa := A1 w' (.cells #[] 33) [];exact Ae rfl rfl (v := .slice (some ⟨w'.heap.size,0,none⟩) 0 0) (w1 := w'.alloc (.cells #[] 33)) (by simp [go_sem]) ⟨_,own,rfl,Ot hI hfa,⟨hfa,fun _ _ h => h⟩,_,rfl⟩
  ·exact Eu (.tmp 0) rfl rfl rfl _ ((hS 0 (by decide)).trans rfl) ⟨_,own,rfl,hI,hstay,rfl⟩
  ·obtain ⟨b0,e2⟩ := hF 2 (by decide) _ 40 rfl rfl;have f2 : a'.eval (.tmp 40) = .slice (some ⟨b0,0,none⟩) 0 0 := e2;have f3 : a'.eval (.tmp 41) = .slice (some ⟨gi,oi,none⟩) N ci := hF 3 (by decide) _ 41 rfl rfl;obtain ⟨g,cw,w'',hr,hg0,hws,hb⟩ := V1 gi oi N ci b0 S w' (HS3.out.same (hI.1.block _ HS3.out.lt (by simp))) (by omega) (by omega);exact Ae rfl rfl (v := .slice (some ⟨g,0,none⟩) N cw) (w1 := w'') (by simp [execOp,resolve,invoke,builtin,f2,f3,hr,Result.andThen]) ⟨_,Iu own g 4,rfl,Gg hI (Ag hb []) hws.lt2 4,Gf hI (Ag hb []) hg0 4,g,cw,rfl,Nat.le_trans hI.1.size hg0,hws,by simp [Iu]⟩
  ·exact Eu (.tmp 0) rfl rfl rfl _ ((hS 0 (by decide)).trans rfl) ⟨_,own,rfl,hI,hstay,rfl⟩
  ·have e5 := gtx (hF 5 (by decide) _ 43 rfl rfl);exact Ae rfl rfl (v := .int .i64 N) (w1 := w') (by simp [go_sem,e5]) ⟨_,own,rfl,hI,hstay,rfl⟩
  ·have e6 := gtx (hF 6 (by decide) _ 44 rfl rfl);obtain ⟨w'',hr,hn,hb⟩ := M1 w' N (by omega);exact Ae rfl rfl (v := .slice (some ⟨w'.heap.size,0,none⟩) N N) (w1 := w'') (by simp [go_sem,e6,hr]) ⟨_,Iu own w'.heap.size 7,rfl,Gg hI (Ag hb []) hn.lt 7,Gf hI (Ag hb []) (Nat.le_refl _) 7,_,rfl,hI.1.size,hn,by simp [Iu]⟩
  ·exact Ae rfl rfl (v := .pointer (some ⟨gs,1,none⟩)) (w1 := w') (by simp [go_sem,hS4]) ⟨_,own,rfl,hI,hstay,rfl⟩
  ·have e8 := gtx (hF 8 (by decide) _ 46 rfl rfl);exact Ae rfl rfl (v := .int .i64 Y) (w1 := w') (by simp [go_sem,e8,hss]) ⟨_,own,rfl,hI,hstay,rfl⟩
  ·have e9 := gtx (hF 9 (by decide) _ 47 rfl rfl);exact Ae rfl rfl (v := .int .i64 M) (w1 := w') (by simp [go_sem,e9,hwr]) ⟨_,own,rfl,hI,hstay,rfl⟩
  ·have e10 := gtx (hF 10 (by decide) _ 48 rfl rfl);obtain ⟨w'',hr,hn,hb⟩ := M1 w' M (by omega);exact Ae rfl rfl (v := .slice (some ⟨w'.heap.size,0,none⟩) M M) (w1 := w'') (by simp [go_sem,e10,hr]) ⟨_,Iu own w'.heap.size 11,rfl,Gg hI (Ag hb []) hn.lt 11,Gf hI (Ag hb []) (Nat.le_refl _) 11,_,rfl,hI.1.size,hn,by simp [Iu]⟩
  ·exact Ae rfl rfl (v := .pointer (some ⟨gs,1,none⟩)) (w1 := w') (by simp [go_sem,hS4]) ⟨_,own,rfl,hI,hstay,rfl⟩
  ·have e12 := gtx (hF 12 (by decide) _ 50 rfl rfl);exact Ae rfl rfl (v := .int .i64 Y) (w1 := w') (by simp [go_sem,e12,hss]) ⟨_,own,rfl,hI,hstay,rfl⟩
  ·have e13 := gtx (hF 13 (by decide) _ 51 rfl rfl);exact Ae rfl rfl (v := .int .i64 M) (w1 := w') (by simp [go_sem,e13,hwr]) ⟨_,own,rfl,hI,hstay,rfl⟩
  ·have e14 := gtx (hF 14 (by decide) _ 52 rfl rfl);obtain ⟨w'',hr,hn,hb⟩ := dD w' M (by omega);exact Ae rfl rfl (v := .slice (some ⟨w'.heap.size,0,none⟩) M M) (w1 := w'') (by simp [go_sem,e14,hr]) ⟨_,Iu own w'.heap.size 15,rfl,Gg hI (Ag hb []) hn.lt 15,Gf hI (Ag hb []) (Nat.le_refl _) 15,_,rfl,hI.1.size,hn,by simp [Iu]⟩
  ·exact Ae rfl rfl (v := .pointer (some ⟨gs,1,none⟩)) (w1 := w') (by simp [go_sem,hS4]) ⟨_,own,rfl,hI,hstay,rfl⟩
  ·have e16 := gtx (hF 16 (by decide) _ 54 rfl rfl);exact Ae rfl rfl (v := .int .i64 Y) (w1 := w') (by simp [go_sem,e16,hss]) ⟨_,own,rfl,hI,hstay,rfl⟩
  ·have e17 := gtx (hF 17 (by decide) _ 55 rfl rfl);exact Ae rfl rfl (v := .int .i64 M) (w1 := w') (by simp [go_sem,e17,hwr]) ⟨_,own,rfl,hI,hstay,rfl⟩
  ·have e18 := gtx (hF 18 (by decide) _ 56 rfl rfl);obtain ⟨w'',hr,hn,hb⟩ := dE w' M (by omega);exact Ae rfl rfl (v := .slice (some ⟨w'.heap.size,0,none⟩) M M) (w1 := w'') (by simp [go_sem,e18,hr]) ⟨_,Iu own w'.heap.size 19,rfl,Gg hI (Ag hb []) hn.lt 19,Gf hI (Ag hb []) (Nat.le_refl _) 19,_,rfl,hI.1.size,hn,by simp [Iu]⟩
  ·have e0 := gtx (hF 0 (by decide) _ 38 rfl rfl);have e1 := gtx (hF 1 (by decide) _ 39 rfl rfl);obtain ⟨gw,cw,e4,hw0,hw1,o4⟩ := hF 4 (by decide) _ 42 rfl rfl;obtain ⟨gc,e7,hc0,hc1,o7⟩ := hF 7 (by decide) _ 45 rfl rfl;obtain ⟨gt',e11,ht0,ht1,o11⟩ := hF 11 (by decide) _ 49 rfl rfl;obtain ⟨gn,e15,hn0,hn1,o15⟩ := hF 15 (by decide) _ 53 rfl rfl;obtain ⟨ge,e19,he0,he1,o19⟩ := hF 19 (by decide) _ 57 rfl rfl;have e4 := gtx e4;have e7 := gtx e7;have e11 := gtx e11;have e15 := gtx e15;have e19 := gtx e19;have hnd : [gw,gc,gt',gn,ge].Nodup := by
    have k : ∀ {a b i j : Nat},own a = some i -> own b = some j -> i ≠ j -> a ≠ b := fun ha hb hij e => by
     rw [e,hb] at ha;exact hij (Option.some.inj ha).symm
    simp only [List.nodup_cons,List.mem_cons,List.not_mem_nil,or_false,not_or,not_false_eq_true,and_true,List.nodup_nil];exact ⟨⟨k o4 o7 (by decide),k o4 o11 (by decide),k o4 o15 (by decide),k o4 o19 (by decide)⟩,⟨k o7 o11 (by decide),k o7 o15 (by decide),k o7 o19 (by decide)⟩,⟨k o11 o15 (by decide),k o11 o19 (by decide)⟩,k o15 o19 (by decide)⟩
   exact Ae rfl rfl (v := .agg (I9 N Y gi oi ci N M gw cw gc gt' gn ge)) (w1 := w') (by simp [go_sem,e0,e1,e4,e7,e11,e15,e19,I9]) ⟨_,own,rfl,hI,hstay,gw,cw,gc,gt',gn,ge,rfl,⟨by simp; omega,hw1,hc1,ht1,hn1,he1,hnd⟩⟩
  ·obtain ⟨gw,cw,gc,gt',gn,ge,e20,h6⟩ := hF 20 (by decide) _ 58 rfl rfl;have e20 := gtx e20;have hfb := A1 w' (.cells (I9 N Y gi oi ci N M gw cw gc gt' gn ge) 76) [];have hlt := h6.lt;exact Ae rfl rfl (v := .pointer (some ⟨w'.heap.size,0,none⟩)) (w1 := w'.alloc (.cells (I9 N Y gi oi ci N M gw cw gc gt' gn ge) 76)) (by simp [go_sem,e20,I9]) ⟨_,own,rfl,Ot hI hfb,⟨hfb,fun _ _ h => h⟩,_,gw,cw,gc,gt',gn,ge,rfl,(A7 w' _).1,h6.fr hfb,hI.1.size,fun hm => Nat.lt_irrefl _ (hlt _ hm)⟩
  ·obtain ⟨g,gw,cw,gc,gt',gn,ge,e21,h6⟩ := hF 21 (by decide) _ 59 rfl rfl;have e21 := gtx e21;exact Ae rfl rfl (v := .pointer (some ⟨g,0,none⟩)) (w1 := w') (by simp [go_sem,e21]) ⟨_,own,rfl,hI,hstay,g,gw,cw,gc,gt',gn,ge,rfl,h6⟩
 ·intro val own w4 hI hF;obtain ⟨g,gw,cw,gc,gt',gn,ge,e22,hg4,h6,hg0,hgn⟩ := hF 22 _ 6 (by decide) rfl rfl;have hz4 := (hI.1.block _ (Aa hz3) (by simp)).trans hz3;have hs4 := (hI.1.block _ (Aa hs3) (by simp)).trans hs3;have HF4 := sW (HF3.out.trans hI.1);have hS4 := HS3.out.same (hI.1.block _ HS3.out.lt (by simp));have hgi3 : gi < w3.heap.size := by have := HGI.out; have := HF3.out.size; omega
  have hE0 : ∃ E : Ay,(DG E w4 none [] (Cd S) (fun _ => zl 18) /\ ROk E) /\ (N : Int) = E.X /\ g = E.g /\ gi = E.gi /\ oi = E.oi /\ N = E.N /\ ci = E.ci /\ M = E.M /\ Y = E.Y /\ S = E.A /\ (∀ b ∈ E.ms,w3.heap.size <= b) := by
   obtain ⟨-, ⟨y1,y2⟩,xy⟩ := HMAY.out;exact ⟨_,⟨lX hS4 hgi3 hg4 h6,rfl,h8,hN,y1,(by show Y < N; omega),hM,iR hgi3 h6 hg0 hgn⟩,rfl,rfl,rfl,rfl,rfl,rfl,rfl,rfl,rfl,fun b hb => by
    simp only [Ay.ms,List.mem_cons,List.not_mem_nil,or_false] at hb;rcases hb with rfl | rfl | rfl | rfl | rfl | rfl
    ·exact hg0
    all_goals exact h6.lo _ (by simp)⟩
  have z34 := hI.1.size;have hgw0 : w3.heap.size <= gw := h6.lo gw (by simp);simp only [Bg,List.take,List.drop,List.take_succ_cons,List.drop_succ_cons,e22,Act.put,List.setIfInBounds_toArray,List.set_cons_zero,List.set_cons_succ];clear hF hI hs3 hz3 HS3 e22 hg4 h6 hgn hgi3 hS4 hwr;generalize val 0 = x0;generalize val 1 = x1;generalize val 2 = x2;generalize val 3 = x3;generalize val 4 = x4;generalize val 5 = x5;generalize val 6 = x6;generalize val 7 = x7;generalize val 8 = x8;generalize val 9 = x9;generalize val 10 = x10;generalize val 11 = x11;generalize val 12 = x12;generalize val 13 = x13;generalize val 14 = x14;generalize val 15 = x15;generalize val 16 = x16;generalize val 17 = x17;generalize val 18 = x18;generalize val 19 = x19;generalize val 20 = x20;generalize val 21 = x21;obtain ⟨E,⟨hDG,hE⟩,hEX,rfl,rfl,rfl,rfl,rfl,rfl,rfl,rfl,hms⟩ := hE0;have HE := sW hE;have HDG := sW hDG;have HEX := sW hEX;have hY1 := hE.Y1;have hYN := hE.YN;have hA : ∀ j : Nat,isD E.X E.Y j = true -> (E.A j).length = 128 /\ A0 (E.A j) := fun j hj => HS.out.len (by unfold isD at hj; have := of_decide_eq_true hj; omega)
  have HA := sW hA;have HMS : Hid (∀ b ∈ E.ms,w.heap.size <= b) := sW (fun b hb => by have := HF3.out.size; have := hms b hb; omega);clear hA HF3 HS HGI hg0 hgw0 hms;have hcall := M6 hE 1 (Nat.le_refl 1) hY1 w4 hDG.g;have HSOUND := sW (Oe (s := E.A 1));have hrl := Br (E.A 1);obtain ⟨v4,hg4, -⟩ := hDG.g.l;clear hEX hDG hE;go_wp2_with fail;refine hcall.mono ?_; rintro e w5 ⟨rfl,hb5⟩;have hz5 := (hop hb5 hz4).1;have hs5 := (hop hb5 hs4).1;have HF5 := sW (HF4.out.trans (Ag hb5 []));have HDG5 : Hid (DG E w5 none [] (Cd E.A) (fun _ => zl 18)) := sW ⟨HDG.out.g.below hb5,HDG.out.i⟩;have hzl5 := Aa hz5;have hsl5 := Aa hs5;clear hb5 hg4 hz4 hs4 HF4 HDG hcall;have hk0 : (IV .i64 (Al (E.A 1)).1)[0]? = some (.int .i64 (nth (Al (E.A 1)).1 0)) := by
   rw [Bh,Am (by omega)]; rfl
  have HRO : Hid (Fm E.A ↔ Cj (E.A 1) = true /\ nth (Al (E.A 1)).1 0 = 2) := sW Iff.rfl;have HFIN := sW (Fo hz5 (.slice none 0 0) (.slice none 0 0) (.slice none 0 0) (.slice none 0 0));have HBEL := sW ((((HF5.out.mono (ex' := [w.heap.size]) (by simp)).trans (Db w5 w.heap.size (.slice none 0 0) (.slice none 0 0) (.slice none 0 0) (.slice none 0 0))).trans (A1 _ (.cells (IV .i64 (Al (E.A 1)).1) 45) [w.heap.size])).below (B := w.heap.size) (Nat.le_refl _) (by simp));have HRAW : Hid ((Al (E.A 1)).1 = (Al (E.A 1)).1) := sW rfl;obtain ⟨raw,hRAW⟩ : ∃ r,(Al (E.A 1)).1 = r := ⟨_,rfl⟩;clear HRAW;rw [hRAW] at HBEL HRO HSOUND hk0 hrl ⊢;have HRAW := sW hRAW;clear hRAW;cases hsd : Cj (E.A 1) with
  | false =>
   rw [hsd] at HRO;have HNO := sW (show ¬ Fm E.A from fun h => by have := (HRO.out.1 h).1; cases this);clear HSOUND hk0;go_wp2_with fail;exact Ax Hs rfl (cs := Bv) rfl (B4 _ _ HFIN.out).1 rfl rfl (.inr ⟨HNO.out,rfl,HBEL.out⟩)
  | true =>
   cases hkd : (nth raw 0 == 2) with
   | false =>
    have hkn : (nth raw 0 != 2) = true := by simpa using hkd
    have HNO := sW (show ¬ Fm E.A from fun h => by have := (HRO.out.1 h).2; simp [this] at hkd);clear HSOUND HRO;go_wp2_with fail;exact Ax Hs rfl (cs := Bv) rfl (B4 _ _ HFIN.out).1 rfl rfl (.inr ⟨HNO.out,rfl,HBEL.out⟩)
   | true =>
    have hk2 : nth raw 0 = 2 := by simpa using hkd
    have HYES := sW (HRO.out.2 ⟨hsd,hk2⟩);have HKK := sW hk2;have hkn : (nth raw 0 != 2) = false := by simpa using hkd
    have hld5 : ∀ r w',El r 18 0 w' (some (.cells (IV .i64 raw) 45)) = .ok (.agg (IV .i64 raw)) w' := fun r w' => by rw [Cy (by simp [hrl])]; simp [<- hrl]
    obtain ⟨r1,r2, -⟩ := HSOUND.out hsd;have hM1 : 1 < E.M := by have := HM.out; omega
    have hi6 := (A7 w5 (.cells (IV .i64 raw) 45)).1;have hb6 := (Below.refl w5.heap.size w5).alloc (Nat.le_refl _) (.cells (IV .i64 raw) 45);have HDG6 : Hid (DG E (w5.alloc (.cells (IV .i64 raw) 45)) none [] (Cd E.A) (fun _ => zl 18)) := sW ⟨HDG5.out.g.below hb6,HDG5.out.i⟩;have HF6 := sW (HF5.out.trans (Ag hb6 []));have hz6 := (hop hb6 hz5).1;have hs6 := (hop hb6 hs5).1;have hi6l := Aa hi6;clear HRO HBEL HFIN HSOUND hsd hkd hk2 HF5 HDG5 hb6;go_upto_region 10 with fail;generalize w5.alloc (.cells (IV .i64 raw) 45) = w6 at *;clear hz5 hs5 hzl5 hsl5;have hzl6 := Aa hz6;have hsl6 := Aa hs6;have hTK := Si HE.out 1 (Nat.le_refl 1) hM1 hrl r1 r2 (Cd E.A).st (S7 HA.out).si (l := []) (by simp) w6 HDG6.out.g;go_wp2_with fail;refine hTK.mono ?_; rintro e w7 ⟨rfl,o',hT⟩;have hff : Fr (E.ms ++ (none : Option Nat).toList) w6 w7 := hT.f.mono (by simp [Ay.ms]);have hz7 := HDG6.out.g.keep hff hz6 (by decide);have hs7 := HDG6.out.g.keep hff hs6 (by decide);have HF7 := sW hff;have HT7 := sW hT;obtain ⟨v7,hl7, -⟩ := hT.g.l;obtain ⟨cse,hce, -, halle⟩ := hT.g.e;have hce1 := halle 1 hM1;have hl7l := Aa hl7;have hcel := Aa hce;have h1M : (1 : Int) < (E.M : Int) := by omega
    clear hT hff hTK hz6 hs6 hzl6 hsl6 hi6 hi6l hld5 hk0 hkn halle r1 r2;go_upto_region 12 with fail;have HT8 := sW (iS HE.out (by rw [HRAW.out]; exact HKK.out) (by rw [HRAW.out]; exact HT7.out));have hf8 : Fr (E.ms ++ o'.toList) w7 (w7.setCell ⟨E.ge,1,none⟩ (.int .i64 1)) := (Ai w7 E.ge 1 (.int .i64 1)).mono (by simp [Ay.ms]);have HZ8 : Hid (hat (w7.setCell ⟨E.ge,1,none⟩ (.int .i64 1)) w.heap.size = some (.cells #[.slice none 0 0,.slice none 0 0,.slice none 0 0,.slice none 0 0] 26) /\ hat (w7.setCell ⟨E.ge,1,none⟩ (.int .i64 1)) gs = some (.cells #[.int .i64 (E.N : Int),.int .i64 E.Y] 40)) := sW ⟨HT7.out.g.keep hf8 hz7 (by decide),HT7.out.g.keep hf8 hs7 (by decide)⟩;have HB8 : Hid (Below w.heap.size w (w7.setCell ⟨E.ge,1,none⟩ (.int .i64 1))) := sW (((HF6.out.below (Nat.le_refl _) (by simp)).trans (HF7.out.below HF6.out.size (fun b hb => HMS.out b (by simpa using hb)))).trans ((Ai w7 E.ge 1 (.int .i64 1)).below (Nat.le_trans HF6.out.size HF7.out.size) (fun b hb => HMS.out b (by simp at hb; subst hb; simp [Ay.ms]))));have HO8 : Hid (Fe w.heap.size o') := sW (fun q hq => by
     rcases HT7.out.o with e | ⟨g1,e,h1⟩
     ·rw [e] at hq; cases hq
     ·rw [e] at hq;have := Option.some.inj hq;have := HF6.out.size;omega)
    have HDI8 := sW (qJ HE.out HA.out HYES.out);clear hz7 hs7 hl7 hl7l hce hcel hce1 hf8 HT7 HF7 HF6 HDG6 h1M;generalize w7.setCell ⟨E.ge,1,none⟩ (.int .i64 1) = w8 at *;go_wp2_with fail;go_loopw [9] (fun kv wr => ∃ (done : List Int) (z : LZ) (o : Option Nat) (I : Nat -> List Int) (f : Nat),kv = .int .i64 done.length /\ Hid (DG E wr o done z I) /\ Hid (DI E done z) /\ Hid (∃ L,WZ E.X E.Y E.A L 0 0 z) /\ Hid (Ed z <= f /\ Hr E.X E.Y E.A f z = Dc E.X E.Y E.A) /\ Hid (hat wr w.heap.size = some (.cells #[.slice none 0 0,.slice none 0 0,.slice none 0 0,.slice none 0 0] 26) /\ hat wr gs = some (.cells #[.int .i64 (E.N : Int),.int .i64 E.Y] 40)) /\ Hid (Below w.heap.size w wr) /\ Hid (Fe w.heap.size o)) (fun v _ => 100001 - (intOf v).toNat)
    case atStart =>
     obtain ⟨I,hI⟩ := HT8.out;exact ⟨[],C7 E.X E.Y E.A,o',I,8192,rfl,sW hI,sW HDI8.out.1,sW HDI8.out.2.1,sW ⟨HDI8.out.2.2,rfl⟩,HZ8,HB8,HO8⟩
    case round =>
     obtain ⟨done,z,o,I,f,rfl,HD,HI,HW,HL,HZ,HB,HO⟩ := hrel;clear HT8 HZ8 HB8 HO8 HDI8;obtain ⟨vr,hlr,hqr⟩ := HD.out.g.l;have hlrl := Aa hlr;have hd0 : (0 : Int) <= (done.length : Int) := Int.natCast_nonneg _;cases hQ : z.q with
     | cons c0 r =>
      obtain ⟨hc1,hcY,hcT⟩ := HI.out.rg c0 (by rw [hQ]; simp);obtain ⟨c,rfl⟩ := Int.eq_ofNat_of_zero_le (show 0 <= c0 by omega);rw [Int.toNat_natCast] at hcT;obtain ⟨t,ht⟩ := Option.isSome_iff_exists.1 hcT;have hlen := HI.out.len HE.out;rw [hQ] at hqr hlen;obtain ⟨gq,off,cq,csq,ev,eo,hgq,hcell⟩ := hqr.cell (k := done.length) (by simp);have hnth : nth (done ++ (c : Int) :: r) done.length = (c : Int) := by
       unfold nth;rw [List.getElem?_append_right (Nat.le_refl _),Nat.sub_self]; rfl
      rw [hnth] at hcell;rw [ev] at hlr;have hgql := Aa hgq;have hdl : (done.length : Int) < ((done ++ (c : Int) :: r).length : Int) := by simp; omega
      have hdn : done.length < (done ++ (c : Int) :: r).length := by simp
      have hdl9 : done.length < 100000 := by simp at hlen; omega
      have hDz : DG E wr o (done ++ [(c : Int)]) { z with q := r } I := ⟨by have := HD.out.g; rw [hQ] at this; show RG E wr o ((done ++ [(c : Int)]) ++ r) _ _ _ _ _; rw [List.append_assoc]; exact this,HD.out.i⟩;have hDI : DI E (done ++ [(c : Int)]) { z with q := r } := ⟨HI.out.inv.pop hQ,HI.out.ix,by have := HI.out.nd; rw [hQ] at this; show ((done ++ [(c : Int)]) ++ r).Nodup; rw [List.append_assoc]; exact this,fun i hi => HI.out.rg i (by rw [hQ]; have hi : i ∈ (done ++ [(c : Int)]) ++ r := hi; rw [List.append_assoc] at hi; exact hi)⟩;have hPZ : PZ E.X E.Y { z with q := r } := by obtain ⟨L,hW⟩ := HW.out; exact hW.pz.q r
      have hcr : (c : Int) ∉ ({ z with q := r } : LZ).q := by
       have := HI.out.inv.qn;rw [hQ] at this;exact (List.nodup_cons.1 this).1
      have HC := sW (iN HE.out hDI hPZ (t := t) ht hcr wr hDz);have HDI2 : Hid (∀ w' o1 I1,oX E (done ++ [(c : Int)]) o (Cv E.X E.Y E.A c { z with q := r }) wr w' o1 I1 -> DI E (done ++ [(c : Int)]) (Cv E.X E.Y E.A c { z with q := r })) := sW (fun w' o1 I1 h => h.i);have HW2 : Hid (∃ L,WZ E.X E.Y E.A L 0 0 (Cv E.X E.Y E.A c { z with q := r })) := sW (by obtain ⟨L,hW⟩ := HW.out; have := Wc (by omega) hW hQ; rw [Int.toNat_natCast] at this; exact this)
      have HL2 : Hid (∃ f',Ed (Cv E.X E.Y E.A c { z with q := r }) <= f' /\ Hr E.X E.Y E.A f' (Cv E.X E.Y E.A c { z with q := r }) = Dc E.X E.Y E.A) := sW (by
       have hpp := Qc hQ;obtain ⟨h1,h2⟩ := HL.out;obtain ⟨f',rfl⟩ : ∃ f',f = f' + 1 := ⟨f - 1,by omega⟩;have h3 := Vb hY9 E.A c { z with q := r } (X := E.X);rw [Fz _ _ _ _ _ _ _ hQ,Int.toNat_natCast] at h2;exact ⟨f',by omega,h2⟩)
      clear hDz hDI hPZ hcr hc1 hcY hcT ht hqr hlen hnth HI HW HL;go_wp2_with fail;refine HC.out.mono ?_; rintro e w9 ⟨rfl,o1,I1,hd2⟩;have hD2 := hd2.d;have HZ9 : Hid (hat w9 w.heap.size = some (.cells #[.slice none 0 0,.slice none 0 0,.slice none 0 0,.slice none 0 0] 26) /\ hat w9 gs = some (.cells #[.int .i64 (E.N : Int),.int .i64 E.Y] 40)) := sW ⟨HD.out.g.keep hd2.f HZ.out.1 (by decide),HD.out.g.keep hd2.f HZ.out.2 (by decide)⟩;have HB9 : Hid (Below w.heap.size w w9) := sW (HB.out.trans (hd2.f.below HB.out.size (fun b hb => by
       rcases List.mem_append.1 hb with hb | hb
       ·exact HMS.out b hb
       ·exact HO.out b (by simpa using hb))))
      have HO9 : Hid (Fe w.heap.size o1) := sW (HO.out.to HB.out.size hd2.o);have HD9 := sW hD2;have HI9 := sW hd2.i;clear hD2 hd2 HC HD HZ HB HO hlr hlrl hgq hgql hcell;go_wp2_with fail;go_roundw
      case rel =>
       obtain ⟨f',hf'⟩ := HL2.out;first | exact ⟨done ++ [(c : Int)],_,o1,I1,f',by simp,HD9,HI9,HW2,sW hf',HZ9,HB9,HO9⟩ | ((repeat apply Exists.intro); exact ⟨⟨done ++ [(c : Int)],_,o1,I1,f',by simp,HD9,HI9,HW2,sW hf',HZ9,HB9,HO9⟩,rfl⟩)
      case measure => (show 100001 - (done.length + 1) < 100001 - done.length); omega
     | nil =>
      rw [hQ,List.append_nil] at hqr;obtain ⟨aq,cq,ev⟩ := hqr.slice;rw [ev] at hlr;have hzz : z = Dc E.X E.Y E.A := by rw [<- HL.out.2,Ib _ _ _ _ _ hQ]
      have HZL := sW hzz;have HR : Hid (RG E wr o done z.st.S z.st.cl (tkZ z.T) I (enZ z.T)) := sW (by have := HD.out.g; rw [hQ,List.append_nil] at this; exact this);have HIT := sW HD.out.i;clear hqr hzz hQ HL HW HI HD;obtain ⟨wq,hwq⟩ : ∃ x,x = wr := ⟨_,rfl⟩;subst hwq;go_wp2_with fail;clear hlr hlrl;go_loopw [10] (fun kv wr => ∃ k : Nat,kv = .int .i64 k /\ 1 <= k /\ k <= E.M /\ Hid (RG E wr o done (Mh E.Y z k) z.st.cl (tkZ z.T) I (enZ z.T)) /\ Hid (hat wr w.heap.size = some (.cells #[.slice none 0 0,.slice none 0 0,.slice none 0 0,.slice none 0 0] 26) /\ hat wr gs = some (.cells #[.int .i64 (E.N : Int),.int .i64 E.Y] 40)) /\ Hid (Below w.heap.size w wr)) (fun v _ => E.M + 1 - (intOf v).toNat)
      case atStart => exact ⟨1,rfl,Nat.le_refl _,by omega,sW (by rw [iQ]; exact HR.out),HZ,HB⟩
      case round =>
       obtain ⟨k,rfl,hk1,hkM,HRk,HZk,HBk⟩ := hrel;have hk0 : (0 : Int) <= (k : Int) := Int.natCast_nonneg _;have hsk := HZk.out.2;have hskl := Aa hsk;obtain ⟨vk,hlk, -⟩ := HRk.out.l;have hlkl := Aa hlk;by_cases hkM2 : k < E.M
       ·have hkY : (k : Int) <= E.Y := by have := HM.out; omega
        have hkN : k < E.N := by omega
        have hki : (k : Int) < (E.N : Int) := by omega
        have hkm : (k : Int) < (E.M : Int) := by omega
        obtain ⟨csw,hcw, -, -, -⟩ := HRk.out.s.load hkN;have hcwl := Aa hcw;have hst : ∀ raw w',Cw raw 128 (k * 128) E.gw (IV .u8 (zl 128)) w' (some (.cells csw 33 (0,0))) = .ok () (w'.setRow E.gw (Ak csw (k * 128) (IV .u8 (zl 128)))) := fun raw w' => Cb (by obtain ⟨cs',h1,h2,h3⟩ := HRk.out.s; rw [hcw] at h1; injection h1 with h4; injection h4 with h5; subst h5; have := Nat.mul_le_mul_right 128 (show k + 1 <= E.N by omega); omega) (by simp) (by simp)
        have HR10 := sW (HRk.out.store HE.out hcw hkN (s := zl 128) (by simp) (Et 128));have hf10 := Cl wr E.gw (Ak csw (k * 128) (IV .u8 (zl 128)));have hf10' : Fr (E.ms ++ o.toList) wr (wr.setRow E.gw (Ak csw (k * 128) (IV .u8 (zl 128)))) := hf10.mono (by simp [Ay.ms]);have HZ10 : Hid (hat (wr.setRow E.gw (Ak csw (k * 128) (IV .u8 (zl 128)))) w.heap.size = some (.cells #[.slice none 0 0,.slice none 0 0,.slice none 0 0,.slice none 0 0] 26) /\ hat (wr.setRow E.gw (Ak csw (k * 128) (IV .u8 (zl 128)))) gs = some (.cells #[.int .i64 (E.N : Int),.int .i64 E.Y] 40)) := sW ⟨HRk.out.keep hf10' HZk.out.1 (by decide),HRk.out.keep hf10' HZk.out.2 (by decide)⟩;have HB10 : Hid (Below w.heap.size w (wr.setRow E.gw (Ak csw (k * 128) (IV .u8 (zl 128))))) := sW (HBk.out.trans (hf10.below HBk.out.size (fun b hb => HMS.out b (by simp at hb; subst hb; simp [Ay.ms]))));clear hf10 hf10' HRk HZk HBk;go_upto_region 20 with fail;clear hlk hlkl hsk hskl hcw hcwl hst;generalize wr.setRow E.gw (Ak csw (k * 128) (IV .u8 (zl 128))) = w10 at *;obtain ⟨v10,hl10, -⟩ := HR10.out.l;have hl10l := Aa hl10;obtain ⟨cst,hct, -, hallt⟩ := HR10.out.t;have hctk := hallt k hkM2;have hctl := Aa hct;rw [Ki] at hctk;clear hallt;cases hT : z.T k with
        | none =>
         rw [hT] at hctk;have hctk2 : cst[k]? = some (.bool false) := hctk;have HR11 : Hid (RG E w10 o done (Mh E.Y z (k + 1)) z.st.cl (tkZ z.T) I (enZ z.T)) := sW (by rw [Ma hk1,Nq z hk1 hkY]; unfold Tb; rw [hT]; exact HR10.out);clear hctk hT HR10;go_wp2_with fail;go_roundw
         case rel => first | exact ⟨k + 1,by go_num,by omega,by omega,HR11,HZ10,HB10⟩ | ((repeat apply Exists.intro); exact ⟨⟨k + 1,by go_num,by omega,by omega,HR11,HZ10,HB10⟩,rfl⟩)
         case measure => (show E.M + 1 - (k + 1) < E.M + 1 - k); omega
        | some t =>
         rw [hT] at hctk;have hctk2 : cst[k]? = some (.bool true) := hctk;obtain ⟨csn,hcn,hr18,hldn, -⟩ := HR10.out.n.load hkM2;rw [HIT.out k t hT] at hr18 hldn;have hcnl := Aa hcn;obtain ⟨cse,hce, -, halle⟩ := HR10.out.e;have hcek : cse[k]? = some (.int .i64 t.en) := by have := halle k hkM2; unfold enZ at this; rw [hT] at this; exact this
         have hcel := Aa hce;have HRS : Hid (Dn E.Y z k = (Da (t.raw.set 1 t.en)).1) := sW (by rw [Nq z hk1 hkY]; unfold Tb; rw [hT]);obtain ⟨raw,hraw⟩ : ∃ r,t.raw = r := ⟨_,rfl⟩;rw [hraw] at hr18 hldn HRS;obtain ⟨en,hen⟩ : ∃ r,t.en = r := ⟨_,rfl⟩;rw [hen] at hcek HRS;clear hraw hen hctk hT halle;have hi11 := (A7 w10 (.cells (IV .i64 raw) 45)).1;have hi12 := (A7 w10 (.cells (IV .i64 (raw.set 1 en)) 45)).1;have HB12 : Hid (Below w10.heap.size w10 (w10.alloc (.cells (IV .i64 (raw.set 1 en)) 45))) := sW ((Below.refl _ _).alloc (Nat.le_refl _) _);have hce11 := (B4 w10 (.cells (IV .i64 raw) 45) hce).1;have hl11 := (B4 w10 (.cells (IV .i64 raw) 45) hl10).1;have hi11l := Aa hi11;go_upto_region 23 with fail;clear hce11 hl11 hi11 hi11l hl10l hct hctl hctk2 hcn hcnl hce hcel hcek hldn;generalize w10.alloc (.cells (IV .i64 (raw.set 1 en)) 45) = w12 at *;obtain ⟨r2,hr2⟩ : ∃ r,raw.set 1 en = r := ⟨_,rfl⟩;have hr2l : r2.length = 18 := by rw [<- hr2]; simpa using hr18
         rw [hr2] at hi12 HRS;have hld12 : ∀ r w',El r 18 0 w' (some (.cells (IV .i64 r2) 45)) = .ok (.agg (IV .i64 r2)) w' := fun r w' => by rw [Cy (by simp [hr2l])]; simp [<- hr2l]
         have HI0 : Hid (RkI E o done z I w gs w10.heap.size r2 k w12) := sW ⟨.inl (HR10.out.below HB12.out),hi12,⟨(hop HB12.out HZ10.out.1).1,(hop HB12.out HZ10.out.2).1⟩,HB10.out.trans (HB12.out.mono HB10.out.size)⟩;clear hr18 hr2 hl10 HR10 HZ10 HB10 HB12 hi12;refine Vy (by kernel_rfl) 12 (by decide) rfl (RkI E o done z I w gs w10.heap.size r2 k) (fun W W' => RG E W o done (Mh E.Y z (k + 1)) z.st.cl (tkZ z.T) I (enZ z.T) -> RG E W' o done (Mh E.Y z (k + 1)) z.st.cl (tkZ z.T) I (enZ z.T)) (fun i' v W => match i' with | 0 => v = (.pointer (some ⟨E.g,0,none⟩)) | 1 => v = (.pointer (some ⟨E.g,0,none⟩)) | 2 => v = (.pointer (some ⟨E.g,3,none⟩)) | 3 => v = (.slice (some ⟨E.gw,0,none⟩) E.N E.cw) | 4 => v = (.int .i64 (k : Int)) | 5 => v = (.agg (IV .i64 r2)) | 6 => v = (.tuple #[.agg (IV .u8 (Da r2).1),.int .i64 (Da r2).2]) | 7 => v = (.tuple #[.agg (IV .u8 (Da r2).1),.int .i64 (Da r2).2]) | 8 => v = (.agg (IV .u8 (Da r2).1)) | 9 => v = (.int .i64 (Da r2).2) | 10 => v = (.pointer (some ⟨E.gw,k * 128,none⟩)) | _ => True) (fun i' W => i' = 11 -> RG E W o done (Mh E.Y z (k + 1)) z.st.cl (tkZ z.T) I (enZ z.T)) (HI0.out.below (Ds (Below.refl _ _))) ?_ ?_ ?_ ?_
         ·intro i' v wa wb hi _ _ hE5 hG;have hi' : i' = 0 \/ i' = 1 \/ i' = 2 \/ i' = 3 \/ i' = 4 \/ i' = 5 \/ i' = 6 \/ i' = 7 \/ i' = 8 \/ i' = 9 \/ i' = 10 \/ i' = 11 := by omega
          rcases hi' with rfl | rfl | rfl | rfl | rfl | rfl | rfl | rfl | rfl | rfl | rfl | rfl <;> exact hG
         ·intro i' wa wb hi _ _ hE5 hG e;exact hE5 (hG e)
         ·intro i' o' hi ho a' w' hBB hS hF hFH;have hi' : i' = 0 \/ i' = 1 \/ i' = 2 \/ i' = 3 \/ i' = 4 \/ i' = 5 \/ i' = 6 \/ i' = 7 \/ i' = 8 \/ i' = 9 \/ i' = 10 \/ i' = 11 := by omega
          obtain ⟨S',hR⟩ := hBB.any;obtain ⟨vx,hl, -⟩ := hR.l;rcases hi' with rfl | rfl | rfl | rfl | rfl | rfl | rfl | rfl | rfl | rfl | rfl | rfl
          all_goals (have ho' := Option.some.inj ho; subst ho')
          ·have q6 : a'.tmps[6]?.getD undef = (.pointer (some ⟨E.g,0,none⟩)) := gtx ((hS 6 (by decide)).trans rfl);refine Ae rfl rfl (v := (.pointer (some ⟨E.g,0,none⟩))) (w1 := w') ?_ ⟨_,rfl,hBB,id,rfl,fun e => (by cases e)⟩;simp [go_sem,q6]
          ·have q135 : a'.tmps[135]?.getD undef = (.pointer (some ⟨E.g,0,none⟩)) := gtx ((hF 0 (by decide) _ 135 rfl rfl).trans rfl);refine Ae rfl rfl (v := (.pointer (some ⟨E.g,0,none⟩))) (w1 := w') ?_ ⟨_,rfl,hBB,id,rfl,fun e => (by cases e)⟩;simp [go_sem,q135]
          ·have q136 : a'.tmps[136]?.getD undef = (.pointer (some ⟨E.g,0,none⟩)) := gtx ((hF 1 (by decide) _ 136 rfl rfl).trans rfl);refine Ae rfl rfl (v := (.pointer (some ⟨E.g,3,none⟩))) (w1 := w') ?_ ⟨_,rfl,hBB,id,rfl,fun e => (by cases e)⟩;simp [go_sem,q136]
          ·have q137 : a'.tmps[137]?.getD undef = (.pointer (some ⟨E.g,3,none⟩)) := gtx ((hF 2 (by decide) _ 137 rfl rfl).trans rfl);refine Ae rfl rfl (v := (.slice (some ⟨E.gw,0,none⟩) E.N E.cw)) (w1 := w') ?_ ⟨_,rfl,hBB,id,rfl,fun e => (by cases e)⟩;simp [go_sem,q137,hl]
          ·have q10 : a'.tmps[10]?.getD undef = (.int .i64 (k : Int)) := gtx ((hS 10 (by decide)).trans rfl);refine Ae rfl rfl (v := (.int .i64 (k : Int))) (w1 := w') ?_ ⟨_,rfl,hBB,id,rfl,fun e => (by cases e)⟩;simp [go_sem,q10]
          ·have q11 : a'.tmps[11]?.getD undef = (.pointer (some ⟨w10.heap.size,0,none⟩)) := gtx ((hS 11 (by decide)).trans rfl);refine Ae rfl rfl (v := (.agg (IV .i64 r2))) (w1 := w') ?_ ⟨_,rfl,hBB,id,rfl,fun e => (by cases e)⟩;simp [go_sem,q11,hBB.x,hld12]
          ·have q140 : a'.tmps[140]?.getD undef = (.agg (IV .i64 r2)) := gtx ((hF 5 (by decide) _ 140 rfl rfl).trans rfl);refine Bk (f := 34) (args := #[.agg (IV .i64 r2)]) rfl rfl (by simp [go_sem,q140]) (Rv r2 hr2l w') ?_;rintro e w'' ⟨rfl,hb'⟩;exact ⟨_,rfl,_,rfl,hBB.below hb',fun h => h.below hb',rfl,fun e => (by cases e)⟩
          ·have q141 : a'.tmps[141]?.getD undef = (.tuple #[.agg (IV .u8 (Da r2).1),.int .i64 (Da r2).2]) := gtx ((hF 6 (by decide) _ 141 rfl rfl).trans rfl);refine Ae rfl rfl (v := (.tuple #[.agg (IV .u8 (Da r2).1),.int .i64 (Da r2).2])) (w1 := w') ?_ ⟨_,rfl,hBB,id,rfl,fun e => (by cases e)⟩;simp [go_sem,q141]
          ·have q134 : a'.tmps[134]?.getD undef = (.tuple #[.agg (IV .u8 (Da r2).1),.int .i64 (Da r2).2]) := gtx ((hF 7 (by decide) _ 134 rfl rfl).trans rfl);refine Ae rfl rfl (v := (.agg (IV .u8 (Da r2).1))) (w1 := w') ?_ ⟨_,rfl,hBB,id,rfl,fun e => (by cases e)⟩;simp [go_sem,q134]
          ·have q134 : a'.tmps[134]?.getD undef = (.tuple #[.agg (IV .u8 (Da r2).1),.int .i64 (Da r2).2]) := gtx ((hF 7 (by decide) _ 134 rfl rfl).trans rfl);refine Ae rfl rfl (v := (.int .i64 (Da r2).2)) (w1 := w') ?_ ⟨_,rfl,hBB,id,rfl,fun e => (by cases e)⟩;simp [go_sem,q134]
          ·have q138 : a'.tmps[138]?.getD undef = (.slice (some ⟨E.gw,0,none⟩) E.N E.cw) := gtx ((hF 3 (by decide) _ 138 rfl rfl).trans rfl);have q139 : a'.tmps[139]?.getD undef = (.int .i64 (k : Int)) := gtx ((hF 4 (by decide) _ 139 rfl rfl).trans rfl);refine Ae rfl rfl (v := (.pointer (some ⟨E.gw,k * 128,none⟩))) (w1 := w') ?_ ⟨_,rfl,hBB,id,rfl,fun e => (by cases e)⟩;simp [go_sem,q138,q139,hk0,hki,hkN]
          ·have q144 : a'.tmps[144]?.getD undef = (.pointer (some ⟨E.gw,k * 128,none⟩)) := gtx ((hF 10 (by decide) _ 144 rfl rfl).trans rfl);have q142 : a'.tmps[142]?.getD undef = (.agg (IV .u8 (Da r2).1)) := gtx ((hF 8 (by decide) _ 142 rfl rfl).trans rfl);obtain ⟨csx,hcx, -, -, -⟩ := hR.s.load hkN;have hst2 : ∀ raw w',Cw raw 128 (k * 128) E.gw (IV .u8 (Da r2).1) w' (some (.cells csx 33 (0,0))) = .ok () (w'.setRow E.gw (Ak csx (k * 128) (IV .u8 (Da r2).1))) := fun raw w' => Cb (by obtain ⟨cs',h1,h2,h3⟩ := hR.s; rw [hcx] at h1; injection h1 with h4; injection h4 with h5; subst h5; have := Nat.mul_le_mul_right 128 (show k + 1 <= E.N by omega); omega) (by simp) (by simp)
           obtain ⟨hput,hput2⟩ := hBB.store HE.out hk1 hkN (HMS.out E.gw (by simp [Ay.ms])) HRS.out hcx;refine eN rfl rfl (w1 := w'.setRow E.gw (Ak csx (k * 128) (IV .u8 (Da r2).1))) ?_ ⟨undef,rfl,hput,fun _ => hput2,trivial,fun _ => hput2⟩;simp [go_sem,q144,q142,hcx,hst2]
         intro val w13 hBB hF hFH;have y0 := hF 0 _ 135 (by decide) rfl rfl;have y1 := hF 1 _ 136 (by decide) rfl rfl;have y2 := hF 2 _ 137 (by decide) rfl rfl;have y3 := hF 3 _ 138 (by decide) rfl rfl;have y4 := hF 4 _ 139 (by decide) rfl rfl;have y5 := hF 5 _ 140 (by decide) rfl rfl;have y6 := hF 6 _ 141 (by decide) rfl rfl;have y7 := hF 7 _ 134 (by decide) rfl rfl;have y8 := hF 8 _ 142 (by decide) rfl rfl;have y9 := hF 9 _ 143 (by decide) rfl rfl;have y10 := hF 10 _ 144 (by decide) rfl rfl;simp only [] at y0 y1 y2 y3 y4 y5 y6 y7 y8 y9 y10;simp only [Bg,List.take,List.drop,List.take_succ_cons,List.drop_succ_cons,y0,y1,y2,y3,y4,y5,y6,y7,y8,y9,y10,Act.put,List.setIfInBounds_toArray,List.set_cons_zero,List.set_cons_succ];clear y0 y1 y2 y3 y4 y5 y6 y7 y8 y9 y10 hF;have HR14 := sW (hFH 11 (by decide) rfl);have HZ14 := sW hBB.z;have HB14 := sW hBB.b;clear hFH hBB HI0 HRS hld12;go_wp2_with fail;go_roundw
         case rel => first | exact ⟨k + 1,by go_num,by omega,by omega,HR14,HZ14,HB14⟩ | ((repeat apply Exists.intro); exact ⟨⟨k + 1,by go_num,by omega,by omega,HR14,HZ14,HB14⟩,rfl⟩)
         case measure => (show E.M + 1 - (k + 1) < E.M + 1 - k); omega
       ·obtain rfl : k = E.M := by omega
        have hkY : ¬ (E.M : Int) <= E.Y := by have := HM.out; omega
        obtain ⟨wq2,hwq2⟩ : ∃ x,x = wr := ⟨_,rfl⟩;subst hwq2;have HR2 : Hid (RG E wq2 o done (Dn E.Y z) z.st.cl (tkZ z.T) I (enZ z.T)) := sW (by have := HRk.out; rw [iP HM.out] at this; exact this);have HWF : Hid (∃ L,S9 E.X E.Y E.A L z) := sW (by rw [HZL.out]; exact lK hY1 hY9 HA.out HYES.out);have HAIM : Hid (∀ i : Nat,1 <= i -> i < E.M -> tkZ z.T i = true -> Up E.N (Dn E.Y z) (I i) /\ ∀ q ∈ O4 (Dn E.Y z) (I i),0 <= q /\ q < E.N) := sW (fun i h1 h2 h3 => by
         obtain ⟨L,hW⟩ := HWF.out;rw [Ki] at h3;obtain ⟨t,ht⟩ := Option.isSome_iff_exists.1 h3;rw [HIT.out i t ht];exact fW (by omega) HEX.out.symm (by omega) hW (mX hW) ht)
        have HC := sW (Xn HE.out HAIM.out wq2 HR2.out);clear HRk HB HR hlk hlkl;go_wp2_with fail;refine HC.out.mono ?_; rintro e wE ⟨u1,u2,u3,o1,o2,o3,rfl,k2,k3,k4,k5,k6⟩;have KOW := sW k6;clear k6;have hzE : hat wE w.heap.size = _ := (k5.block _ (Aa HZk.out.1)).trans HZk.out.1;have HE1 := sW (Fo hzE (.slice (some ⟨E.gw,0,none⟩) E.N E.cw) u1 u2 u3);have P4 := Db wE w.heap.size (.slice (some ⟨E.gw,0,none⟩) E.N E.cw) u1 u2 u3;have K := sW (show _ /\ _ /\ _ /\ _ /\ _ from ⟨k2,k3,k4,k5,P4⟩);have HQN := sW (show _ /\ _ /\ _ from ⟨k2.ne hzE (by decide),k3.ne hzE (by decide),k4.ne hzE (by decide)⟩);clear k2 k3 k4 k5 P4 HC;obtain ⟨p1,q1,c1,rfl⟩ : ∃ p q c,u1 = .slice p q c := K.out.1.sl;obtain ⟨p2,q2,c2,rfl⟩ : ∃ p q c,u2 = .slice p q c := K.out.2.1.sl;obtain ⟨p3,q3,c3,rfl⟩ : ∃ p q c,u3 = .slice p q c := K.out.2.2.1.sl;have hzEl := Aa hzE;go_wp2_with fail;refine Ax Hs rfl (cs := #[.slice (some ⟨E.gw,0,none⟩) E.N E.cw,.slice p1 q1 c1,.slice p2 q2 c2,.slice p3 q3 c3]) rfl HE1.out rfl rfl (.inl ⟨HYES.out,?_⟩);obtain ⟨k2,k3,k4,k5,P4⟩ := K.out;obtain ⟨n1,n2,n3⟩ := HQN.out;obtain ⟨L,hW⟩ := HWF.out;have hw := HR2.out.s;rw [<- HEX.out] at hW;rw [cI hY1 hW HIT.out HM.out] at k2;rw [fX hY9 hW HM.out] at k3;rw [Yo hN hW] at k4;have hzl := HZL.out;rw [<- HEX.out] at hzl;have hms := HMS.out E.gw (by simp [Ay.ms]);have hgz : E.gw ≠ w.heap.size := fun e => by
         obtain ⟨csz,hcsz, -⟩ := hw;rw [e,HZk.out.1] at hcsz;injection hcsz with h8
         injection h8 with h9 h10
         exact absurd h10 (by decide)
        have hwE : Cf wE E.gw E.N 0 (Dn E.Y z) := hw.same (k5.block _ hw.lt2);unfold Qh;rw [<- hzl];exact ⟨E.gw,E.cw,_,_,_,o1,o2,o3,rfl,hwE.same (P4.block _ hwE.lt2 (by simpa using hgz)),k2.fr P4 n1,k3.fr P4 n2,k4.fr P4 n3,(HBk.out.trans (k5.mono HBk.out.size)).trans (P4.below (by have := HBk.out.size; have := k5.size; omega) (by simp)),hms,fun q hq => Nat.le_trans HBk.out.size (KOW.out.1 q hq),fun q hq => Nat.le_trans HBk.out.size (KOW.out.2.1 q hq),fun q hq => Nat.le_trans HBk.out.size (KOW.out.2.2 q hq)⟩
theorem Xk (a : Option Addr) (N c : Nat) (w : World) (h : N < 8 \/ 4096 < N) :
  Calls Tryz.prog 11 #[.slice a N c] w fun e w' => e = .returned (.tuple #[.agg Bv,.int .i64 120]) /\ Below w.heap.size w w' := by
 have HF := sW (A7 w (.cells Bv 26)).1;have HB := sW ((Below.refl w.heap.size w).alloc (Nat.le_refl _) (.cells Bv 26));cases d1 : decide ((N : Int) < 8) with
 | true =>
  have d2 : (N : Int) < 8 := of_decide_eq_true d1;clear h;go_enter Tryz.func11,Tryz.ntmps11;go_wp2_with fail;exact Ax Hs rfl (cs := Bv) rfl HF.out rfl rfl ⟨rfl,HB.out⟩
 | false =>
  have d2 : ¬ (N : Int) < 8 := of_decide_eq_false d1;have d3 : (4096 : Int) < (N : Int) := by omega
  clear h;go_enter Tryz.func11,Tryz.ntmps11;go_wp2_with fail;exact Ax Hs rfl (cs := Bv) rfl HF.out rfl rfl ⟨rfl,HB.out⟩
theorem Xl (gi oi N ci : Nat) (S : Nat -> List Int) (w : World) (hS : Gn w gi oi N S) (h8 : 8 <= N) (hN : N <= 4096) (h : (A4 (S 0)).2.2 ≠ 0 \/ (A4 (S 0)).1 ≠ N) :
  Calls Tryz.prog 11 #[.slice (some ⟨gi,oi,none⟩) N ci] w fun e w' => e = .returned (.tuple #[.agg Bv,.int .i64 120]) /\ Below w.heap.size w w' := by
 obtain ⟨cs,t,fr,hcs,hld⟩ := hS.load (show 0 < N by omega);obtain ⟨hl0,hb0⟩ := hS.len (show 0 < N by omega);have HRS := sW (fun W => Sb (S 0) hl0 hb0 W);rw [Nat.zero_mul,Nat.add_zero] at hld;have hcl := Aa hcs;have hz1 := (A7 w (.cells Bv 26)).1;have hc1 := (B4 w (.cells Bv 26) hcs).1;have hf1 := A1 w (.cells Bv 26) [];have d1 : ¬ (N : Int) < 8 := by omega
 have d2 : ¬ (4096 : Int) < (N : Int) := by omega
 have d3 : (0 : Int) < (N : Int) := by omega
 have HF1 := sW hf1;obtain ⟨X,Y,er,hR⟩ : ∃ X Y er,A4 (S 0) = (X,Y,er) := ⟨_,_,_,rfl⟩;rw [hR] at h HRS;simp only at h;clear hS hf1 hR;go_enter Tryz.func11,Tryz.ntmps11;go_wp2_with fail;generalize hW1 : w.alloc (.cells #[.slice none 0 0,.slice none 0 0,.slice none 0 0,.slice none 0 0] 26) = w1 at *;refine (HRS.out w1).mono ?_; rintro e w2 ⟨rfl,hb2⟩;have hz2 := (hop hb2 (show hat w1 w.heap.size = some (.cells Bv 26) by rw [<- hW1]; exact (A7 w _).1)).1;have hgz := Aa hz2;have HFIN := sW (B4 (Zh w2 w.heap.size (.slice none 0 0) (.slice none 0 0) (.slice none 0 0) (.slice none 0 0)) (.cells #[.int .i64 X,.int .i64 Y] 40) (Fo hz2 (.slice none 0 0) (.slice none 0 0) (.slice none 0 0) (.slice none 0 0))).1;have HB := sW (((((show Fr [] w w1 by rw [<- hW1]; exact A1 w _ []).trans (Ag hb2 [])).mono (ex' := [w.heap.size]) (by simp)).trans (Db w2 w.heap.size (.slice none 0 0) (.slice none 0 0) (.slice none 0 0) (.slice none 0 0))).trans (A1 _ (.cells #[.int .i64 X,.int .i64 Y] 40) [w.heap.size]) |>.below (B := w.heap.size) (Nat.le_refl _) (by simp));unfold Bv at hz2;clear hb2 hz1 hc1 hcs hld hW1 HF1 HRS;cases hed : (er == 0) with
 | false =>
  have hedn : (er != 0) = true := by simpa using hed
  clear h;go_wp2_with fail;exact Ax Hs rfl (cs := Bv) rfl HFIN.out rfl rfl ⟨rfl,HB.out⟩
 | true =>
  have her : er = 0 := by simpa using hed
  have hxn : (X != (N : Int)) = true := by
   rcases h with h | h
   ·exact absurd her h
   ·simpa using h
  have hedn : (er != 0) = false := by simpa using her
  clear h;go_wp2_with fail;exact Ax Hs rfl (cs := Bv) rfl HFIN.out rfl rfl ⟨rfl,HB.out⟩
theorem Zk {v : Value} {N : Nat} {S : Nat -> List Int} {w : World} (h : G6 w v N S) :
  Calls Tryz.prog 11 #[v] w fun e w' => Below w.heap.size w w' /\ ((Co N S = 0 /\ Qh w w' N N (A4 (S 0)).2.1 S e) \/ (Co N S ≠ 0 /\ e = .returned (.tuple #[.agg Bv,.int .i64 (Co N S)]))) := by
 obtain ⟨a,ci,rfl,h3⟩ := h;by_cases c1 : N < 8 \/ 4096 < N
 ·have he : Co N S = 120 := by unfold Co; rw [if_pos c1]
  refine (Xk a N ci w c1).mono ?_;rintro e w' ⟨rfl,hb⟩;exact ⟨hb,.inr ⟨by rw [he]; decide,by rw [he]⟩⟩
 ·obtain ⟨gi,oi,rfl,hS⟩ := h3 (by omega);by_cases c2 : (A4 (S 0)).2.2 ≠ 0 \/ (A4 (S 0)).1 ≠ N
  ·have he : Co N S = 120 := by unfold Co; rw [if_neg c1,if_pos c2]
   refine (Xl gi oi N ci S w hS (by omega) (by omega) c2).mono ?_;rintro e w' ⟨rfl,hb⟩;exact ⟨hb,.inr ⟨by rw [he]; decide,by rw [he]⟩⟩
  ·have e1 : (A4 (S 0)).2.2 = 0 := Decidable.byContradiction fun h4 => c2 (.inl h4)
   have e2 : (A4 (S 0)).1 = N := Decidable.byContradiction fun h4 => c2 (.inr h4)
   refine (Zl gi oi N ci S w hS (by omega) (by omega) e1 e2).mono ?_;rintro e w' (⟨hr,ho⟩ | ⟨hr,rfl,hb⟩)
   ·rw [e2] at ho;obtain ⟨gw,cw,v1,v2,v3,o1,o2,o3,k0,k1,k2,k3,k4,k5,k6⟩ := id ho;exact ⟨k5,.inl ⟨by unfold Co; rw [if_neg c1,if_neg c2,if_pos hr],ho⟩⟩
   ·have he : Co N S = 121 := by unfold Co; rw [if_neg c1,if_neg c2,if_neg hr]
    exact ⟨hb,.inr ⟨by rw [he]; decide,by rw [he]⟩⟩
theorem dQ {v : Value} {N : Nat} {S : Nat -> List Int} {w : World} (h : G6 w v N S) :
  Calls Tryz.prog 11 #[v] w fun e w' => Below w.heap.size w w' /\
   ((Co N S = 0 /\ ∃ gw cw v1 v2 v3 o1 o2 o3,e = .returned (.tuple #[.agg #[.slice (some ⟨gw,0,none⟩) N cw,v1,v2,v3],.int .i64 0]) /\ Cf w' gw N 0 (Kq N S) /\ Bc w' v1 o1 (Ft N S) /\ Bc w' v2 o2 (Fs N S) /\ Bc w' v3 o3 (Fq N S) /\ w.heap.size <= gw /\ Fe w.heap.size o1 /\ Fe w.heap.size o2 /\ Fe w.heap.size o3) \/
    (Co N S ≠ 0 /\ e = .returned (.tuple #[.agg Bv,.int .i64 (Co N S)]))) := by
 refine (Zk h).mono ?_;rintro e w' ⟨hb,⟨he,gw,cw,v1,v2,v3,o1,o2,o3,rfl,k1,k2,k3,k4, -, k5⟩ | ⟨he,rfl⟩⟩
 ·refine ⟨hb,.inl ⟨he,gw,cw,v1,v2,v3,o1,o2,o3,rfl,k1,?_,?_,?_,k5⟩⟩
  ·unfold Ft; rw [if_pos he]; exact k2
  ·unfold Fs; rw [if_pos he]; exact k3
  ·unfold Fq; rw [if_pos he]; exact k4
 ·exact ⟨hb,.inr ⟨he,rfl⟩⟩
def pE (N : Nat) (S : Nat -> List Int) (w : World) (e : Ending) (w' : World) : Prop :=
 Below w.heap.size w w' /\ ∃ v0 v1 v2 v3 o1 o2 o3,e = .returned (.tuple #[.agg #[v0,v1,v2,v3],.int .i64 (Co N S)]) /\ K8 w' v0 v1 v2 v3 o1 o2 o3 (Hq N S) (Kq N S) (Ft N S) (Fs N S) (Fq N S) /\
  ∀ ex w2,(∀ g ∈ ex,g < w.heap.size) -> Fr ex w' w2 -> K8 w2 v0 v1 v2 v3 o1 o2 o3 (Hq N S) (Kq N S) (Ft N S) (Fs N S) (Fq N S)
theorem R9 {v : Value} {N : Nat} {S : Nat -> List Int} {w : World} (h : G6 w v N S) :
  Calls Tryz.prog 11 #[v] w (pE N S w) := by
 refine (dQ h).mono ?_;rintro e w' ⟨hb,⟨he,gw,cw,v1,v2,v3,o1,o2,o3,rfl,k0,k1,k2,k3,k4,k5,k6,k7⟩ | ⟨he,rfl⟩⟩
 ·obtain ⟨h8,hN9, -⟩ := Wz he;have hwl : (Ft N S).length <= N := by unfold Ft; rw [if_pos he]; exact S6 _ _ _ _
  have hkt : (Fs N S).length <= 4097 := by
   unfold Fs; rw [if_pos he];have h1 := L5 4096 (fun p => ((Dc N (A4 (S 0)).2.1 S).T p.toNat).isSome);change (Dk _).length <= _ at h1;omega
  have hkc : (Fq N S).length <= 4097 := by
   unfold Fq; rw [if_pos he];have h1 := L5 4096 (Dc N (A4 (S 0)).2.1 S).st.cl;change (Dk _).length <= _ at h1;omega
  have hn : Hq N S = N := by unfold Hq; rw [if_pos he]
  refine ⟨hb,.slice (some ⟨gw,0,none⟩) N cw,v1,v2,v3,o1,o2,o3,by rw [he],?_,fun ex w2 hex hf => ?_⟩
  ·rw [hn]; exact ⟨aK k0,k1,k2,k3,by omega,by omega,by omega,by omega⟩
  ·rw [hn];exact ⟨aK (k0.same (hf.block gw k0.lt (fun hm => by have := hex gw hm; omega))),k1.fr hf (fun q hq hm => by have := hex q hm; have := k5 q hq; omega),k2.fr hf (fun q hq hm => by have := hex q hm; have := k6 q hq; omega),k3.fr hf (fun q hq hm => by have := hex q hm; have := k7 q hq; omega),by omega,by omega,by omega,by omega⟩
 ·refine ⟨hb,.slice none 0 0,.slice none 0 0,.slice none 0 0,.slice none 0 0,none,none,none,rfl,?_,fun ex w2 _ _ => ?_⟩
  ·unfold Hq Ft Fs Fq;rw [if_neg he,if_neg he,if_neg he,if_neg he];exact Xj _ _
  ·unfold Hq Ft Fs Fq;rw [if_neg he,if_neg he,if_neg he,if_neg he];exact Xj _ _
structure OwL (w0 w : World) (N : Nat) (S T : Nat -> List Int) (vm : Value) (gF ga gb gc ge : Nat) (A B C : RP) (r0 r1 r2 r3 : Value) (q1 q2 q3 : Option Nat) : Prop where
 m : Ew w vm (some gF) N T
 a : hat w ga = some (.cells #[A.v0,A.v1,A.v2,A.v3] 26)
 b : hat w gb = some (.cells #[B.v0,B.v1,B.v2,B.v3] 26)
 c : hat w ge = some (.cells #[C.v0,C.v1,C.v2,C.v3] 26)
 r : hat w gc = some (.cells #[r0,r1,r2,r3] 26)
 v : K8 w r0 r1 r2 r3 q1 q2 q3 (Hq N S) (Kq N S) (Ft N S) (Fs N S) (Fq N S)
 R : S8 w 3 (R3 A B C)
 la : A.Look N S
 lb : B.Look N S
 lc : C.Look N T
 n : ∀ n,n < 3 -> gF ∉ (R3 A B C n).os
 lo : ∀ n,n < 3 -> ∀ g ∈ (R3 A B C n).os,w0.heap.size <= g
 w : Below w0.heap.size w0 w
section
variable {w0 : World} {N : Nat} {S T : Nat -> List Int} {vm : Value} {gF ga gb gc ge : Nat} {A B C : RP} {r0 r1 r2 r3 : Value} {q1 q2 q3 : Option Nat}
theorem OwL.same {w w' : World} (h : OwL w0 w N S T vm gF ga gb gc ge A B C r0 r1 r2 r3 q1 q2 q3) (hf : Fr [] w w') : OwL w0 w' N S T vm gF ga gb gc ge A B C r0 r1 r2 r3 q1 q2 q3 :=
 ⟨h.m.fr hf (by simp),(hf.block _ (Aa h.a) (by simp)).trans h.a,(hf.block _ (Aa h.b) (by simp)).trans h.b,(hf.block _ (Aa h.c) (by simp)).trans h.c,(hf.block _ (Aa h.r) (by simp)).trans h.r,h.v.same hf,h.R.fr hf (by simp),h.la,h.lb,h.lc,h.n,h.lo,h.w.trans (hf.below h.w.size (by simp))⟩
theorem RP.Look.same {R : RP} {N : Nat} {S : Nat -> List Int} (h : R.Look N S) : (R.N = Hq N S /\ ∀ j,j < R.N -> R.S j = Kq N S j) /\ R.xs = Ft N S /\ R.ys = Fs N S /\ R.zs = Fq N S :=
 ⟨⟨h.n,fun j _ => congrFun h.s j⟩,h.x,h.y,h.z⟩
theorem qC (w : World) (h : OwL w0 w N S T vm gF ga gb gc ge A B C r0 r1 r2 r3 q1 q2 q3) (u0 u1 u2 u3 u4 u6 u9 u11 u13 u16 u17 u18 u19 u20 u21 u22 u23 u24 u25 u26 u27 u28 u29 u30 u31 u32 u33 u34 u35 u36 u37 u38 u39 u40 u41 u42 u43 u44 u45 u46 u47 u48 u49 u50 u51 u52 u53 u54 u55 u56 u57 u58 u59 u60 u61 u62 u63 u64 u65 u66 u67 u68 u69 u70 u71 u72 u73 u74 u75 u76 u77 u78 u79 u80 u81 u82 u83 u84 u85 u86 u87 u88 u89 u90 u91 u92 u93 u94 u95 u96 u97 u98 u99 u100 u101 u102 u103 u104 u105 u106 u107 u108 u109 u110 u111 u112 u113 u114 u115 u116 u117 u118 u119 u120 u121 u122 u123 u124 u125 u126 u127 u128 u129 u130 u131 u132 u133 u134 u135 u136 u137 u138 u139 u140 u141 u142 u143 u144 u145 u146 u147 u148 u149 u150 u151 u152 u153 u154 u155 u156 u157 u158 u159 u160 u161 u162 u163 u164 u165 u166 u167 u168 u169 u170 u171 u172 u173 u174 u175 u176 u177 u178 u179 u180 u181 u182 u183 u184 u185 u186 u187 u188 u189 u190 u191 u192 u193 u194 u195 u196 u197 u198 u199 u200 u201 u202 u203 u204 u205 u206 u207 u208 u209 u210 u211 u212 u213 u214 u215 u216 u217 u218 u219 u220 u221 u222 u223 u224 u225 u226 u227 u228 u229 u230 : Value) :
  Code.wp Tryz.prog (owC 11) (bodyPost Tryz.prog Tryz.f4 (owP w0)) ⟨#[u0,u1,u2,u3,u4,.bool true,u6,vm,.pointer (some ⟨ga,0,none⟩),u9,.pointer (some ⟨gb,0,none⟩),u11,.pointer (some ⟨gc,0,none⟩),u13,.pointer (some ⟨ge,0,none⟩),.int .i64 (Co N T),u16,u17,u18,u19,u20,u21,u22,u23,u24,u25,u26,u27,u28,u29,u30,u31,u32,u33,u34,u35,u36,u37,u38,u39,u40,u41,u42,u43,u44,u45,u46,u47,u48,u49,u50,u51,u52,u53,u54,u55,u56,u57,u58,u59,u60,u61,u62,u63,u64,u65,u66,u67,u68,u69,u70,u71,u72,u73,u74,u75,u76,u77,u78,u79,u80,u81,u82,u83,u84,u85,u86,u87,u88,u89,u90,u91,u92,u93,u94,u95,u96,u97,u98,u99,u100,u101,u102,u103,u104,u105,u106,u107,u108,u109,u110,u111,u112,u113,u114,u115,u116,u117,u118,u119,u120,u121,u122,u123,u124,u125,u126,u127,u128,u129,u130,u131,u132,u133,u134,u135,u136,u137,u138,u139,u140,u141,u142,u143,u144,u145,u146,u147,u148,u149,u150,u151,u152,u153,u154,u155,u156,u157,u158,u159,u160,u161,u162,u163,u164,u165,u166,u167,u168,u169,u170,u171,u172,u173,u174,u175,u176,u177,u178,u179,u180,u181,u182,u183,u184,u185,u186,u187,u188,u189,u190,u191,u192,u193,u194,u195,u196,u197,u198,u199,u200,u201,u202,u203,u204,u205,u206,u207,u208,u209,u210,u211,u212,u213,u214,u215,u216,u217,u218,u219,u220,u221,u222,u223,u224,u225,u226,u227,u228,u229,u230],[]⟩ w := by
 conv => arg 2; whnf
 have H := sW h;clear h;obtain ⟨E,hE⟩ : ∃ E,Co N T = E := ⟨_,rfl⟩;have HE := sW hE;rw [hE];clear hE;go_wp2_with fail;refine (R9 H.out.m.img).mono ?_; rintro e w8 ⟨hb8,t0,t1,t2,t3,p1,p2,p3,rfl,hRV,hKP⟩;have HKP := sW hKP;have HRV := sW hRV;obtain ⟨x0,y0,rfl, -⟩ := hRV.i;obtain ⟨x1,y1,rfl⟩ := hRV.q1.slice;obtain ⟨x2,y2,rfl⟩ := hRV.q2.slice;obtain ⟨x3,y3,rfl⟩ := hRV.q3.slice;generalize hLN : Hq N T = LN at *;generalize hLX : (Ft N T) = LX at *;generalize hLI : (Fs N T) = LI at *;generalize hLB : (Fq N T) = LB at *;have hfS := (Ag hb8 []).trans (Dv w8 (.cells #[.slice x0 LN y0,.slice x1 LX.length y1,.slice x2 LI.length y2,.slice x3 LB.length y3] 26) []);have HL := sW (H.out.same hfS)
 have HS : Hid (OwS w0 (w8.alloc (.cells #[.slice x0 LN y0,.slice x1 LX.length y1,.slice x2 LI.length y2,.slice x3 LB.length y3] 26)) N T vm gF w8.heap.size w.heap.size (.slice x0 LN y0) (.slice x1 LX.length y1) (.slice x2 LI.length y2) (.slice x3 LB.length y3) p1 p2 p3 (A.os ++ (B.os ++ C.os))) := sW
  ⟨HL.out.m,fun ex w2 h1 h2 => by rw [hLN,hLX,hLI,hLB]; exact HKP.out ex w2 h1 ((Dv w8 _ ex).trans h2),(A7 w8 _).1,fun hm => by
   rcases List.mem_append.1 hm with hm | hm
   ·exact H.out.n 0 (by omega) hm
   ·rcases List.mem_append.1 hm with hm | hm
    ·exact H.out.n 1 (by omega) hm
    ·exact H.out.n 2 (by omega) hm,fun g hm => by
   rcases List.mem_append.1 hm with hm | hm
   ·exact ⟨H.out.lo 0 (by omega) g hm,(H.out.R.rep 0 (by omega)).lt g hm⟩
   ·rcases List.mem_append.1 hm with hm | hm
    ·exact ⟨H.out.lo 1 (by omega) g hm,(H.out.R.rep 1 (by omega)).lt g hm⟩
    ·exact ⟨H.out.lo 2 (by omega) g hm,(H.out.R.rep 2 (by omega)).lt g hm⟩,hb8.size,HL.out.w⟩
 rw [HE.out];clear hb8 hRV hKP hfS hLN hLX hLI hLB;go_upto_region 14 with fail;generalize w8.alloc (.cells #[.slice x0 LN y0,.slice x1 LX.length y1,.slice x2 LI.length y2,.slice x3 LB.length y3] 26) = wS at *;generalize w8.heap.size = gs at *;have ha := HL.out.a;have hr := HL.out.r;have hal := Aa ha;have hrl := Aa hr;go_wp2_with fail;refine (Nt (HL.out.R.rep 0 (by omega)).repV HL.out.v).mono ?_; rintro e w9 ⟨b,rfl,hb,hb9⟩;obtain rfl : b = true := hb.2 HL.out.la.same;have HF9 := sW (Ag hb9 []);have HL9 := sW (HL.out.same HF9.out);clear hb hb9 ha hr hal hrl;have ha := HL9.out.b;have hr := HL9.out.r;have hal := Aa ha;have hrl := Aa hr;go_wp2_with fail;refine (Nt (HL9.out.R.rep 1 (by omega)).repV HL9.out.v).mono ?_; rintro e wA ⟨b,rfl,hb,hbA⟩;obtain rfl : b = true := hb.2 HL9.out.lb.same;have HFA := sW (HF9.out.trans (Ag hbA []));have HLA := sW (HL9.out.same (Ag hbA []));clear hb hbA ha hr hal hrl;have ha := HLA.out.c;have hr : hat wA gs = _ := (HFA.out.block gs (Aa HS.out.g) (by simp)).trans HS.out.g;have hal := Aa ha;have hrl := Aa hr;go_wp2_with fail;refine (Nt (HLA.out.R.rep 2 (by omega)).repV (HS.out.k [] wA (by simp) HFA.out)).mono ?_; rintro e wB ⟨b,rfl,hb,hbB⟩;obtain rfl : b = true := hb.2 HLA.out.lc.same;have HFB := sW (HFA.out.trans (Ag hbB []));have HLB := sW (HLA.out.same (Ag hbB []));clear hb hbB ha hr hal hrl;go_upto_if 122 with fail;go_cut [] from 18 (fun wx => wx = wB)
 case first =>
  go_wp2_with fail;go_meet
  case rel => exact rfl
 case rest =>
  subst hcut;have hE := HE.out;subst hE;refine (show ∀ a w,Code.wp _ (owC 13) _ a w -> _ from by assumption) _ _ (qD (A := A) (B := B) (C := C) wc HS.out (HFB.out.mono (by simp)) HLB.out.a HLB.out.b HLB.out.c HLB.out.R (fun n hn g hg => ?_) _ _ _ _ _ _ _ _ _ _ _ _ _ _ _ _ _ _ _ _ _ _ _ _ _ _ _ _ _ _ _ _ _ _ _ _ _ _ _ _ _ _ _ _ _ _ _ _ _ _ _ _ _ _ _ _ _ _ _ _ _ _ _ _ _ _ _ _ _ _ _ _ _ _ _ _ _ _ _ _ _ _ _ _ _ _ _ _ _ _ _ _ _ _ _ _ _ _ _ _ _ _ _ _ _ _ _ _ _ _ _ _ _ _ _ _ _ _ _ _ _ _ _ _ _ _ _ _ _ _ _ _ _ _ _ _ _ _ _ _ _ _ _ _ _ _ _ _ _ _ _ _ _ _ _ _ _ _ _ _ _ _ _ _ _ _ _ _ _ _ _ _ _ _ _ _ _ _ _ _ _ _ _ _ _ _ _ _ _ _ _ _ _ _ _ _ _ _ _ _ _ _ _ _ _ _ _ _ _ _ _ _ _ _ _ _ _ _ _ _ _ _ _ _);rcases n with _ | _ | _ | n
  ·exact List.mem_append_left _ hg
  ·exact List.mem_append_right _ (List.mem_append_left _ hg)
  ·exact List.mem_append_right _ (List.mem_append_right _ hg)
  ·omega
end
theorem P1 {P : Program} (w : World) {ops : Array Oper} {rest : List Oper} {o : Oper} {a : Act} {Q : Exit -> Act -> World -> Prop} (hgd : o.guard = none) (s x : Operand) (t : TypeId)
  (ho : o.op = .call { callee := .builtin .copy,args := #[s,x],argTypes := #[t,t] }) (v u : Value) (hs : a.eval s = v) (hx : a.eval x = u) (v' : Value) (w' : World)
  (hr : (Builtin.copy_ #[t,t] o.type #[v,u]).run P w = .ok v' w') (h : wpList P ops Q rest (a.put o.dst v') w') : wpList P ops Q (o :: rest) a w := by
 refine wpList_plain hgd fun K hK => ?_
 unfold Oper.wp;simp [execOp,ho,resolve,invoke,builtin,hs,hx,hr,Result.andThen];exact hK _ _ h
def kH (k : Nat) (S S2 : Nat -> List Int) : Nat -> List Int := fun j => if j < k then S2 j else S j
theorem Ew.ws {w : World} {g N c : Nat} {o : Option Nat} {S : Nat -> List Int} (h : Ew w (.slice (some ⟨g,0,none⟩) N c) o N S) : Cf w g N c S := by
 rcases h.g with ⟨e, -⟩ | ⟨g',off,c',cs,e, -, h1,h2,h3,h4⟩
 ·cases e
 ·injection e with e1 e2 e3
  injection e1 with e1
  injection e1 with p1 p2
  subst p1 p2 e3;refine ⟨cs,h1,⟨by omega,by omega⟩,fun i hi => ⟨(h.len i hi).1,(h.len i hi).2,?_⟩⟩;have := (Ie (o := 0) (fun i hi => (h.len i hi).1) h2).2 h4 i hi;rw [Nat.zero_add] at this;exact this
theorem G6.firsts {w : World} {u : Value} {M : Nat} {S : Nat -> List Int} (h : G6 w u M S) {n : Nat} (hn : n <= M) : ∃ news : List Value,news.length = n * 128 /\ (Builtin.firstCells 128 n u).run Tryz.prog w = .ok news.toArray w /\ (∀ k,k < n * 128 -> news[k]? = some (Jl S k)) /\ (Builtin.lenOf u).run Tryz.prog w = .ok M w := by
 obtain ⟨a,c,rfl,h⟩ := h;by_cases h0 : n = 0
 ·subst h0;refine ⟨[],rfl,?_,fun k hk => by omega,rfl⟩;cases a with
  | none => exact run_firstCells_none w 128 0 M c
  | some a => exact run_firstCells_some w 128 0 a M c [] rfl (fun j v hj => by simp at hj)
 ·obtain ⟨g,off,rfl,cs,t,fr,hg,hsz,hall⟩ := h (by omega);have hc := (Ie (fun i hi => (hall i hi).1) hsz).1 fun i hi => (hall i hi).2.2
  have hle : n * 128 <= M * 128 := Nat.mul_le_mul_right _ hn;refine ⟨(cs.extract off (off + n * 128)).toList,by simp; omega,run_firstCells_some w 128 n ⟨g,off,none⟩ M c _ (by simp; omega) (fun j x hj => ?_),fun k hk => ?_,rfl⟩
  ·rw [C4,B0 hg];have hkl : j < n * 128 := by
    have := (List.getElem?_eq_some_iff.1 hj).1;simp at this; omega
   rw [Array.getElem?_toList,Array.getElem?_extract,if_pos (by omega)] at hj;exact hj
  ·rw [Array.getElem?_toList,Array.getElem?_extract,if_pos (by omega)];exact hc k (by omega)
theorem Iy (g : Nat) (t : TypeId) (fr : Nat × Nat) : ∀ (vs : List Value) (o : Nat) (w : World) (cs cs' : Array Value),hat w g = some (.cells cs t fr) -> hat (w.setCells g o vs) g = some (.cells cs' t fr) -> ∀ j,o + vs.length <= j -> cs'[j]? = cs[j]?
 | [],o,w,cs,cs',h,h',j,hj => by
  have h2 : hat w g = some (.cells cs' t fr) := h';rw [h] at h2;injection h2 with h2
  injection h2 with h2
  rw [h2]
 | x :: r,o,w,cs,cs',h,h',j,hj => by
  rw [List.length_cons] at hj;rw [Iy g t fr r (o + 1) _ _ cs' (Ah w g o x _ _ _ h) h' j (by omega),Array.getElem?_setIfInBounds,if_neg (by omega)]
theorem Zq {w : World} {v u : Value} {o : Option Nat} {N M : Nat} {S S2 : Nat -> List Int} (h : Ew w v o N S) (hu : G6 w u M S2) (ty : TypeId) :
  ∃ w',(Builtin.copy_ #[22,22] ty #[v,u]).run Tryz.prog w = .ok (goInt (Nat.min M N)) w' /\ Ew w' v o N (kH (Nat.min M N) S S2) /\ Fr o.toList w w' := by
 obtain ⟨inf,z,hi,hz,hzs,his,hib⟩ := Lf;have ht : Tryz.prog.underlying 22 = some (.slice 33) := Tryz.underlying22;have hn1 : Nat.min M N <= M := Nat.min_le_left _ _;have hn2 : Nat.min M N <= N := Nat.min_le_right _ _;obtain ⟨news,hl,hf,hk,hlen⟩ := hu.firsts hn1;have hone : ∀ x ∈ news,x.oneCell' = true := fun x hx => by
  obtain ⟨j,hj⟩ := List.getElem?_of_mem hx;have hjl := (List.getElem?_eq_some_iff.1 hj).1;rw [hk j (by omega)] at hj;rw [<- Option.some.inj hj]; rfl
 rcases h.g with ⟨rfl,rfl,rfl⟩ | ⟨g,off,c,cs,rfl,rfl,h1,h2,h3,h4⟩
 ·refine ⟨w,?_,⟨.inl ⟨rfl,rfl,rfl⟩,fun j hj => by omega⟩,Fr.refl _ _⟩;have e : Nat.min M 0 = 0 := Nat.min_zero M;rw [e] at hf ⊢;simp [Builtin.copy_,run_underlying ht,sizeOf,typeInfo,hi,his,hlen,hf,e]
 ·generalize hm : Nat.min M N = m at *;have hst := run_storeCells_cells (P := Tryz.prog) g off news 0 w (fun j hj => by
   rw [B0 h1,Array.getElem?_eq_getElem (by omega)]; rfl) (fun j hj => J4 h1 _) hone
  simp only [Nat.add_zero] at hst;obtain ⟨cs',a1,a2,a3,a4⟩ := Hv g 33 (0,0) news off w cs h1;refine ⟨w.setCells g off news,?_,⟨.inr ⟨g,off,c,cs',rfl,rfl,a1,by rw [a2]; exact h2,by rw [a2]; exact h3,fun k hk1 => ?_⟩,fun j hj => ?_⟩,(Iw g _ _ _).mono (by simp)⟩
  ·simp [Builtin.copy_,run_underlying ht,sizeOf,typeInfo,hi,his,hlen,hf,hm,hst]
  ·unfold Jl kH;by_cases hkm : k < m * 128
   ·rw [if_pos (by omega)];exact a4 k _ (hk k hkm) (by omega)
   ·rw [if_neg (by omega)];rw [Iy g 33 (0,0) news off w cs cs' h1 a1 _ (by omega)];exact h4 k hk1
  ·unfold kH;split
   ·exact hu.len j (by omega)
   ·exact h.len j hj
theorem U8 {v v2 : Value} {N N2 : Nat} {S S2 : Nat -> List Int} {w : World} (h : G6 w v N S) (h2 : G6 w v2 N2 S2) (hN : N * 128 <= 140737488351232) (hN2 : N2 * 128 <= 140737488351232) :
  Calls Tryz.prog 4 #[v,v2] w fun e w' => e = .returned (.bool true) /\ Below w.heap.size w w' := by
 have HI := sW h;have HJ := sW h2;obtain ⟨av,ci,rfl, -⟩ := id h;obtain ⟨av2,ci2,rfl, -⟩ := id h2;clear h h2;go_enter Tryz.func4,Tryz.ntmps4;go_wp2_with fail;refine (U7 _).mono ?_; rintro e w1 ⟨rfl,hb1⟩;have HB1 := sW hb1;have hfa : Fr [] w (w1.alloc (.cells #[] 33)) := (Ag hb1 []).trans (Dv w1 _ []);have hsa : Ew (w1.alloc (.cells #[] 33)) (.slice (some ⟨w1.heap.size,0,none⟩) 0 0) (some w1.heap.size) 0 S := Ew.of (c := 0) ⟨#[],(A7 w1 _).1,⟨by simp,by simp⟩,fun i hi => by omega⟩;obtain ⟨vA,wA,oA,hrA,hSA,hgA⟩ := Ns hsa (HI.out.same hfa) (by omega) 22;have hcz : Qm 0 S S = S := by funext j; simp [Qm]
 rw [Nat.zero_add,hcz] at hSA;rw [Nat.zero_add] at hgA;clear hcz;go_wp2_with (at_builtin; refine Ao _ rfl (.tmp 30) (.tmp 31) 22 rfl _ _ rfl rfl _ _ hrA ?_)
 have hbs : (Instr.buildSlice 22 2 #[(0,.agg (IV .u8 ((zl 128).set 0 71))),(1,.agg (IV .u8 ((zl 128).set 0 72)))]).run Tryz.prog wA = .ok (.slice (some ⟨wA.heap.size,0,none⟩) 2 2) (wA.alloc (.cells (IV .u8 [Ec 71,Ec 72].flatten) 33)) := aA [Ec 71,Ec 72] (by simp [Dz]) (by simp) (by simp) wA;refine oM 22 (.tmp 33) (.tmp 34) rfl _ _ rfl rfl _ _ hbs ?_;have hfA : Fr [] w wA := ((hfa.mono (ex' := [w1.heap.size]) (by simp)).trans (hgA.fr.mono (ex' := [w1.heap.size]) (by simp))).past (fun k hk => by simp at hk; subst hk; exact .inr hb1.size);have hfB : Fr [] w (wA.alloc (.cells (IV .u8 [Ec 71,Ec 72].flatten) 33)) := hfA.trans (Dv _ _ _);have hoA : oA ≠ some wA.heap.size := fun e => by have := hSA.g.lt _ e; omega
 obtain ⟨vB,wB,oB,hrB,hSB,hgB⟩ := Ns (hSA.fr (Dv wA (.cells (IV .u8 [Ec 71,Ec 72].flatten) 33) []) (by simp)) (jL (A7 wA _).1 (Dz _) (Dz _) (Gq (by omega)) (Gq (by omega))) (by omega) 22;have hfC : Fr oA.toList w wB := (hfB.mono (ex' := oA.toList) (by simp)).trans hgB.fr;clear h;obtain ⟨gF,offF,cF,csF,rfl,rfl, -⟩ : ∃ g off c cs,vB = .slice (some ⟨g,off,none⟩) (N + 2) c /\ oB = some g /\ hat wB g = some (.cells cs 33) := by
  rcases hSB.g with ⟨-, -, h0⟩ | ⟨g,off,c,cs,e1,e2,e3, -⟩
  ·omega
  ·exact ⟨g,off,c,cs,e1,e2,e3⟩
 have hcF : N + 2 <= cF := by
  obtain ⟨⟨a,c,e,hc⟩, -⟩ := hgB;injection e with e1 e2 e3
  omega
 have hgF : w.heap.size <= gF := by
  rcases hgB.ob with e | ⟨g,e,hg⟩
  ·rcases hgA.ob with e' | ⟨g',e',hg'⟩
   ·rw [e'] at e;have := hb1.size;injection e with e; omega
   ·rw [e'] at e;have := hb1.size;injection e with e
    simp at hg'; omega
  ·have := hfA.size;injection e with e
   simp at hg; omega
 have hBB : Below w.heap.size w wB := hfC.below (Nat.le_refl _) (fun k hk => by
  rcases hgA.ob with e' | ⟨g',e',hg'⟩
  ·rw [e'] at hk; simp at hk; have := hb1.size; omega
  ·rw [e'] at hk; simp at hk; subst hk; have := hb1.size; simp at hg'; omega)
 have HBB := sW hBB;have HGF := sW hgF;have HFULL := sW hSB;have hNi0 : (0 : Int) <= (N : Int) := Int.natCast_nonneg _;have hNi1 : (N : Int) <= (cF : Int) := by omega
 clear hfa hsa hgA hSA hfA hfB hoA hSB hgB hfC hBB hgF hb1;go_wp2_with (at_builtin; refine Ao _ rfl (.tmp 32) (.tmp 35) 22 rfl _ _ rfl rfl _ _ hrB ?_)
 have HM := sW ((HFULL.out.cutTo (M := N) (by omega)).congr (S' := S) (fun j hj => by unfold Qm; rw [if_pos (by omega)]));clear hrB hrA hbs;have HIB := sW (HI.out.same (Ag HBB.out []));have HJB := sW (HJ.out.same (Ag HBB.out []));refine (Nl HM.out.img).mono ?_; rintro e wC ⟨hbC,RA,rfl,hRA,hLA,hoA⟩;obtain ⟨a0,c0,a1,c1,a2,c2,a3,c3,hvA,hgA,hRA1,heA⟩ := hRA.laid;have hfA := Dv wC (.cells #[.slice a0 RA.N c0,.slice a1 RA.xs.length c1,.slice a2 RA.ys.length c2,.slice a3 RA.zs.length c3] 26) [];have HF1 := sW ((Ag hbC []).trans hfA);have HRA1 := sW hRA1;have HLA := sW hLA;have HOA := sW hoA;have HEA := sW heA;have HZA := sW hbC.size;rw [hvA];clear hbC hRA hLA hoA hRA1 hfA hvA heA;go_upto_region 7 with fail;generalize wC.alloc (.cells #[.slice a0 RA.N c0,.slice a1 RA.xs.length c1,.slice a2 RA.ys.length c2,.slice a3 RA.zs.length c3] 26) = w1 at *;generalize wC.heap.size = ga at *;have HGA := sW hgA;clear hgA;go_wp2_with fail;refine (Nl (HM.out.fr HF1.out (by simp)).img).mono ?_; rintro e wD ⟨hbD,RB,rfl,hRB,hLB,hoB⟩;obtain ⟨b0,d0,b1,d1,b2,d2,b3,d3,hvB,hgB,hRB1,heB⟩ := hRB.laid;have hfB := Dv wD (.cells #[.slice b0 RB.N d0,.slice b1 RB.xs.length d1,.slice b2 RB.ys.length d2,.slice b3 RB.zs.length d3] 26) [];have HF2 := sW (HF1.out.trans ((Ag hbD []).trans hfB));have HRA2 := sW (HRA1.out.fr ((Ag hbD []).trans hfB) (by simp));have HGA2 := sW ((((Ag hbD []).trans hfB).block ga (Aa HGA.out) (by simp)).trans HGA.out);have HRB2 := sW hRB1;have HLB := sW hLB;have HOB := sW hoB;have HEB := sW heB;have HZB := sW hbD.size;rw [hvB];have HLTA := sW HRA1.out.lt;have HLTB := sW HRB2.out.lt;clear hbD hRB hLB hoB hRB1 hfB hvB heB HRA1 HGA;go_upto_region 8 with fail;generalize wD.alloc (.cells #[.slice b0 RB.N d0,.slice b1 RB.xs.length d1,.slice b2 RB.ys.length d2,.slice b3 RB.zs.length d3] 26) = w2 at *;generalize wD.heap.size = gb at *;have HGB2 := sW hgB;clear hgB;go_wp2_with fail;refine (R9 (HIB.out.same HF2.out)).mono ?_; rintro e wE ⟨hbE,r0,r1,r2,r3,q1,q2,q3,rfl,hRV,hKP⟩;have HKP := sW hKP;have HFBE := sW (HF2.out.trans (Ag hbE []));clear hKP;obtain ⟨x0,y0,rfl,hx0⟩ := hRV.i;obtain ⟨x1,y1,rfl⟩ := hRV.q1.slice;obtain ⟨x2,y2,rfl⟩ := hRV.q2.slice;obtain ⟨x3,y3,rfl⟩ := hRV.q3.slice;generalize hLN : Hq N S = LN at *;generalize hLX : (Ft N S) = LX at *;generalize hLI : (Fs N S) = LI at *;generalize hLB : (Fq N S) = LB at *;have hfC := Dv wE (.cells #[.slice x0 LN y0,.slice x1 LX.length y1,.slice x2 LI.length y2,.slice x3 LB.length y3] 26) [];have hgC := (A7 wE (.cells #[.slice x0 LN y0,.slice x1 LX.length y1,.slice x2 LI.length y2,.slice x3 LB.length y3] 26)).1;have hfD := (Ag hbE []).trans hfC;have HF3 := sW (HF2.out.trans hfD);have HRA3 := sW (HRA2.out.fr hfD (by simp));have HRB3 := sW (HRB2.out.fr hfD (by simp));have HGA3 := sW ((hfD.block ga (Aa HGA2.out) (by simp)).trans HGA2.out);have HGB3 := sW ((hfD.block gb (Aa HGB2.out) (by simp)).trans HGB2.out);have HRV3 := sW (hRV.same hfC);have HLNX := sW (show _ /\ _ /\ _ /\ _ from ⟨hLN,hLX,hLI,hLB⟩);have HZE := sW hbE.size;have HFC := sW hfC;have HF23 := sW hfD;clear hbE hRV hx0 hfC hfD hLN hLX hLI hLB HRA2 HRB2 HGA2 HGB2;go_upto_region 9 with fail;generalize wE.alloc (.cells #[.slice x0 LN y0,.slice x1 LX.length y1,.slice x2 LI.length y2,.slice x3 LB.length y3] 26) = w3 at *;generalize wE.heap.size = gc at *;have HGC3 := sW hgC;clear hgC;have hE : ∃ E,Co N S = E := ⟨_,rfl⟩;obtain ⟨E,hE⟩ := hE;have HEE := sW hE;rw [hE];clear hE;go_wp2_with fail;refine (Pr (HM.out.fr HF3.out (by simp)).img (HIB.out.same HF3.out) (by omega)).mono ?_; rintro e w4 ⟨b,rfl,hb,hf4⟩;obtain rfl : b = true := hb.2 ⟨rfl,fun _ _ => rfl⟩;have HF4 := sW (HF3.out.trans hf4);have HFC4 := sW (HFC.out.trans hf4);have HFL4 := sW (HFULL.out.fr HF4.out (by simp));have HF34 := sW hf4;clear hb hf4;obtain ⟨aF,kF,eF,hF⟩ := HFL4.out.img;obtain ⟨gf,of,eaF,hSF⟩ := hF (by omega);subst eaF;injection eF with f1 f2 f3
 injection f1 with f1
 injection f1 with f4 f5
 subst f3 f4 f5;obtain ⟨csL,tL,fL,hcL,hl0⟩ := hSF.load (i := N) (by omega);obtain ⟨csM,tM,fM,hcM,hl1⟩ := hSF.load (i := N + 1) (by omega);rw [hcL] at hcM;injection hcM with hcM
 injection hcM with m1 m2 m3
 subst m1 m2 m3;have e71 : Qm N S (fun i => if i = 0 then Ec 71 else Ec 72) N = (zl 128).set 0 71 := by
  unfold Qm; rw [if_neg (by omega)]; show (if N - N = 0 then Ec 71 else Ec 72) = _; rw [if_pos (by omega)]; rfl
 have e72 : Qm N S (fun i => if i = 0 then Ec 71 else Ec 72) (N + 1) = (zl 128).set 0 72 := by
  unfold Qm; rw [if_neg (by omega)]; show (if N + 1 - N = 0 then Ec 71 else Ec 72) = _; rw [if_neg (by omega)]; rfl
 rw [e71] at hl0;rw [e72] at hl1;have hi0 : (0 : Int) <= (N : Int) + 1 := by omega
 have hi1 : (N : Int) < (N : Int) + 2 := by omega
 have hi2 : (N : Int) + 1 < (N : Int) + 2 := by omega
 have hcLl := Aa hcL;have hzne : ¬ (IV .u8 (zl 128) = #[]) := fun h => by have h1 := congrArg Array.size h; simp [Ca] at h1
 clear hF hSF e71 e72 f2;obtain ⟨w5,hcp,hs5,hf5⟩ := Zq (HM.out.fr HF4.out (by simp)) (HJB.out.same HF4.out) 3;have HS5 := sW hs5;have HF5 := sW hf5;clear hs5 hf5;go_upto_region 12 with (at_builtin; refine P1 _ rfl (.tmp 89) (.tmp 90) 22 rfl _ _ rfl rfl _ _ hcp ?_)
 generalize hTT : kH (N2.min N) S S2 = T at *;clear hcp hcL hl0 hl1 hi0 hi1 hi2 hcLl hTT;have HGL := sW (HFULL.out.g.lt gF rfl);have HF45 := sW ((HF4.out.mono (ex' := [gF]) (by simp)).trans (HF5.out.mono (ex' := [gF]) (by simp)));have HIN := sW (show ∀ g,wB.heap.size <= g -> g ∉ [gF] from fun g hg hm => by have := HGL.out; simp at hm; omega)
 have HRV5 : Hid (K8 w5 _ _ _ _ _ _ _ _ _ _ _ _) := sW (by
  exact HKP.out [gF] w5 (fun g hg => by have h3 := HGL.out; have h4 := HF2.out.size; simp at hg; omega) ((HFC4.out.mono (by simp)).trans (HF5.out.mono (by simp))))
 have HF35 := sW ((HF34.out.mono (ex' := [gF]) (by simp)).trans (HF5.out.mono (ex' := [gF]) (by simp)));have HOB' : Hid (∀ g ∈ RB.os,wB.heap.size <= g) := sW (fun g hg => by have := HOB.out g hg; have := HF1.out.size; omega);have HRA5 := sW (HRA3.out.fr HF35.out (fun g hg => HIN.out g (HOA.out g hg)));have HRB5 := sW (HRB3.out.fr HF35.out (fun g hg => HIN.out g (HOB'.out g hg)))
 have HGA5 : Hid (hat w5 ga = some (.cells #[RA.v0,RA.v1,RA.v2,RA.v3] 26)) := sW (by
  rw [HEA.out.1,HEA.out.2.1,HEA.out.2.2.1,HEA.out.2.2.2];exact (HF35.out.block ga (Aa HGA3.out) (HIN.out ga HZA.out)).trans HGA3.out)
 have HGB5 : Hid (hat w5 gb = some (.cells #[RB.v0,RB.v1,RB.v2,RB.v3] 26)) := sW (by
  rw [HEB.out.1,HEB.out.2.1,HEB.out.2.2.1,HEB.out.2.2.2];exact (HF35.out.block gb (Aa HGB3.out) (HIN.out gb (Nat.le_trans HF1.out.size HZB.out))).trans HGB3.out)
 have HGC5 := sW ((HF35.out.block gc (Aa HGC3.out) (HIN.out gc (Nat.le_trans HF2.out.size HZE.out))).trans HGC3.out);have HB5 : Hid (Below w.heap.size w w5) := sW (HBB.out.trans (HF45.out.below HBB.out.size (fun k hk => by simp at hk; subst hk; exact HGF.out)));have HSZ : Hid (w2.heap.size <= w5.heap.size) := sW (Nat.le_trans HF23.out.size HF35.out.size)
 have HSY : Hid (w1.heap.size <= w5.heap.size) := sW (by
  have h1 := Aa HGB5.out;have h2 := HZB.out;omega)
 clear hzne;go_cut [14,15] from 16 (fun v14 v15 wx => ∃ ge RC,v14 = .pointer (some ⟨ge,0,none⟩) /\ v15 = .int .i64 (Co N T) /\ Hid (OwL w wx N S T (.slice (some ⟨gF,offF,none⟩) N cF) gF ga gb gc ge RA RB RC (.slice x0 LN y0) (.slice x1 LX.length y1) (.slice x2 LI.length y2) (.slice x3 LB.length y3) q1 q2 q3))
 case first =>
  go_wp2_with fail;refine (Nl HS5.out.img).mono ?_; rintro e w6 ⟨hb6,RC,rfl,hRC,hLC,hoC⟩;obtain ⟨s0,z0,s1,z1,s2,z2,s3,z3,hvC,hgC2,hRC1,heC⟩ := hRC.laid;have hfE := (Ag hb6 []).trans (Dv w6 (.cells #[.slice s0 RC.N z0,.slice s1 RC.xs.length z1,.slice s2 RC.ys.length z2,.slice s3 RC.zs.length z3] 26) [])
  have HOL : Hid (OwL w (w6.alloc (.cells #[.slice s0 RC.N z0,.slice s1 RC.xs.length z1,.slice s2 RC.ys.length z2,.slice s3 RC.zs.length z3] 26)) N S T (.slice (some ⟨gF,offF,none⟩) N cF) gF ga gb gc w6.heap.size RA RB RC (.slice x0 LN y0) (.slice x1 LX.length y1) (.slice x2 LI.length y2) (.slice x3 LB.length y3) q1 q2 q3) := sW (by
   have hA := HOA.out;have hB := HOB.out;have hB' := HOB'.out;have hA2 := HLTA.out;have hB2 := HLTB.out;have hsz := HSZ.out;have hsy := HSY.out;have hw := HGL.out;have h45 := HF45.out.size;have h1w := HBB.out.size;refine ⟨HS5.out.fr hfE (by simp),(hfE.block _ (Aa HGA5.out) (by simp)).trans HGA5.out,(hfE.block _ (Aa HGB5.out) (by simp)).trans HGB5.out,by rw [heC.1,heC.2.1,heC.2.2.1,heC.2.2.2]; exact hgC2,(hfE.block _ (Aa HGC5.out) (by simp)).trans HGC5.out,?_,⟨fun n hn => ?_,fun i j hi hj hij g hg hm => ?_⟩,HLA.out,HLB.out,hLC,fun n hn hm => ?_,fun n hn g hg => ?_,HB5.out.trans (hfE.below HB5.out.size (by simp))⟩
   ·rw [HLNX.out.1,HLNX.out.2.1,HLNX.out.2.2.1,HLNX.out.2.2.2];exact HRV5.out.same hfE
   ·rcases n with _ | _ | _ | n
    ·exact HRA5.out.fr hfE (by simp)
    ·exact HRB5.out.fr hfE (by simp)
    ·exact hRC1
    ·omega
   ·rcases i with _ | _ | _ | i <;> rcases j with _ | _ | _ | j <;> first | omega | skip
    ·have a1 := hA2 g hg; have a2 := hB g hm; omega
    ·have a1 := hA2 g hg; have a2 := hoC g hm; omega
    ·have a1 := hA2 g hm; have a2 := hB g hg; omega
    ·have a1 := hB2 g hg; have a2 := hoC g hm; omega
    ·have a1 := hA2 g hm; have a2 := hoC g hg; omega
    ·have a1 := hB2 g hm; have a2 := hoC g hg; omega
   ·rcases n with _ | _ | _ | n
    ·have := hA gF hm; omega
    ·have := hB' gF hm; omega
    ·have := hoC gF hm; omega
    ·omega
   ·rcases n with _ | _ | _ | n
    ·have := hA g hg; omega
    ·have := hB' g hg; omega
    ·have := hoC g hg; omega
    ·omega)
  rw [hvC];clear hb6 hRC hLC hoC hRC1 hfE hvC heC hgC2;go_wp2_with fail;go_meet
  case rel => exact ⟨_,RC,rfl,rfl,HOL⟩
 case rest =>
  obtain ⟨ge,RC,h14,h15,HOL⟩ := hcut;subst h14 h15;exact (show ∀ a w,Code.wp _ (owC 11) _ a w -> _ from by assumption) _ _ (qC wc HOL.out _ _ _ _ _ _ _ _ _ _ _ _ _ _ _ _ _ _ _ _ _ _ _ _ _ _ _ _ _ _ _ _ _ _ _ _ _ _ _ _ _ _ _ _ _ _ _ _ _ _ _ _ _ _ _ _ _ _ _ _ _ _ _ _ _ _ _ _ _ _ _ _ _ _ _ _ _ _ _ _ _ _ _ _ _ _ _ _ _ _ _ _ _ _ _ _ _ _ _ _ _ _ _ _ _ _ _ _ _ _ _ _ _ _ _ _ _ _ _ _ _ _ _ _ _ _ _ _ _ _ _ _ _ _ _ _ _ _ _ _ _ _ _ _ _ _ _ _ _ _ _ _ _ _ _ _ _ _ _ _ _ _ _ _ _ _ _ _ _ _ _ _ _ _ _ _ _ _ _ _ _ _ _ _ _ _ _ _ _ _ _ _ _ _ _ _ _ _ _ _ _ _ _ _ _ _ _ _ _ _ _ _ _ _ _ _ _ _ _ _ _ _ _ _)
open Go.ChangeShapes Go.WideShapes Go.ChangeAt Go.RowKit
theorem Tryz.bytesSec : Tryz.prog.bytesOf 33 = 128 := by kernel_rfl
theorem Ty {H : Type} {enc : TypeId × Value -> H} {W : World} {v : Value} {d : DataW H} {p : List MemPlace} {N : Nat} {S : Nat -> List Int}
  (h : DataW.Trod enc Tryz.prog W 0 (fun _ => true) true 22 v d p) (hI : Img W v N S) {ts : List TypeId} {ds : List (DataW H)} (hsz : (DataW.weightsEach Tryz.prog ts ds).all (· <= reachBytes) = true) {j : Nat} (ht : ts[j]? = some 22) (hd : ds[j]? = some d) : N * 128 <= 140737488351232 := by
 obtain ⟨a,ci,rfl, -⟩ := hI;obtain ⟨fuel,hf⟩ := h;rcases Go.Deep.open_slice Tryz.underlying22 hf with ⟨hcs,hx⟩ | ⟨a',len,cap,m,n,D,Pl,hcs, -, hl,hm,hz,hx,hcell⟩
 ·have e : (Value.slice a N ci) = .slice none 0 0 := by simpa [Value.cells] using hcs
  injection e with _ e
  omega
 ·have e : (Value.slice a N ci) = .slice (some a') len cap := by simpa [Value.cells] using hcs
  injection e with _ e
  have hx1 := congrArg Prod.fst hx;simp only at hx1;rw [hx1] at hd;have h1 := sized_slice hsz ht hd Tryz.underlying22;rw [Tryz.bytesSec] at h1;simp only [List.length_map,List.length_range] at h1;have h2 : reachBytes = 140737488351232 := by decide
  have h3 : N * 128 <= (len + (m - len)) * 128 := Nat.mul_le_mul_right _ (by omega);omega
end Go.Proofs.YthioepdgnbdohaaGreat
