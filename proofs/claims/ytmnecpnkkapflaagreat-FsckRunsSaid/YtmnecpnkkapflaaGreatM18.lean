import Derived.Deep.DeepCutAuto
import Derived.StillTailTactics
import Derived.Test.YtmnecpnkkapflaaGreatM09
import Derived.Test.YtmnecpnkkapflaaGreatM10
import Derived.Test.YtmnecpnkkapflaaGreatM12
import Derived.Test.YtmnecpnkkapflaaGreatM13
import Derived.Test.YtmnecpnkkapflaaGreatM17
namespace Go.Proofs.YtmnecpnkkapflaaGreat
set_option maxHeartbeats 16000000
set_option maxRecDepth 1000000
set_option linter.unusedSimpArgs false
set_option linter.unusedVariables false
open Go.RowKit
def Rq(w w':World)(N:Nat)(X Y:Int)(S:Nat->List Int)(e:Ending):Prop:=
 ∃ gw cw v1 v2 v3 o1 o2 o3,e= .returned (.tuple #[.agg #[.slice (some ⟨gw,0,none⟩) N cw,v1,v2,v3],.int .i64 0])/\B8 w' gw N 0 (Ck Y (Bh X Y S))/\
  Bg w' v1 o1 (Es N Y (Ck Y (Bh X Y S)) S (Bh X Y S).st.fm)/\Bg w' v2 o2 (Dz fun p=>((Bh X Y S).T p.toNat).isSome)/\Bg w' v3 o3 (Dz (Bh X Y S).st.cl)/\
  Below w.heap.size w w'/\w.heap.size<=gw/\Fa w.heap.size o1/\Fa w.heap.size o2/\Fa w.heap.size o3
noncomputable def Mw(Y:Int)(z:LZ)(k:Nat)(j:Nat):List Int:=if 1<=j/\j<k then Ck Y z j else z.st.S j
theorem mW(Y:Int)(z:LZ):Mw Y z 1=z.st.S:=by
 funext j
 unfold Mw;rw[if_neg (by omega)]
theorem Mp{Y:Int}{z:LZ}{k:Nat}(h:1<=k):Mw Y z (k+1)=Ay (Mw Y z k) k (Ck Y z k):=by
 funext j
 unfold Mw Ay;by_cases e:j=k
 ·subst e;rw[if_pos (by omega)];simp
 ·by_cases h1:1<=j/\j<k
  ·rw[if_pos (by omega),if_neg e];exact(if_pos h1).symm
  ·rw[if_neg (by omega),if_neg e];exact(if_neg h1).symm
theorem mV{Y:Int}{z:LZ}{M:Nat}(h:(M:Int)=Y+1):Mw Y z M=Ck Y z:=by
 funext j
 unfold Mw;by_cases h1:1<=j/\j<M
 ·rw[if_pos h1]
 ·rw[if_neg h1,Fw z (by omega)]
theorem Bg.ne{w:World}{v:Value}{o:Option Nat}{xs:List Int}(h:Bg w v o xs){g:Nat}{cs:Array Value}{t:TypeId}{f:Nat×Nat}(hg:hat w g=some (.cells cs t f))(ht:t≠3):∀ q,o=some q->q∉[g]:=by
 rintro q rfl hm;rw[List.mem_singleton]at hm;subst hm;rcases h with ⟨-,e,-⟩|⟨g,off,c,cs',-,e,h7,-⟩
 ·cases e
 ·have:=Option.some.inj e;subst this;rw[hg]at h7;injection h7 with h8
  injection h8 with h9 h10
  exact ht h10
theorem nA{E:A3}(hE:ROk E){I0:Nat->List Int}{w w':World}{o':Option Nat}(h2:nth (Am (E.A 1)).1 0=2)(h:Tkn E 1 (Am (E.A 1)).1 (Cf E.A).st none [] (tkZ (Cf E.A).T) I0 (enZ (Cf E.A).T) w w' o'):∃ I,DG E (w'.setCell ⟨E.ge,1,none⟩ (.int .i64 1)) o' [] (Df E.X E.Y E.A) I:=by
 have hM:1<E.M:=by have:=hE.M;have:=hE.Y1;omega
 have hg:=(h.g).count hE hM 1;rw[eQ (Nat.le_refl 1) ⟨(Aj E.X E.Y (Am (E.A 1)).1 (Cf E.A).st).1,1,(Aj E.X E.Y (Am (E.A 1)).1 (Cf E.A).st).2.bk⟩]at hg;have e:(fun j=>if 1=j then(1:Int)else enZ (Cf E.A).T j)=enZ (A2 (Cf E.A).T 1 ⟨(Aj E.X E.Y (Am (E.A 1)).1 (Cf E.A).st).1,1,(Aj E.X E.Y (Am (E.A 1)).1 (Cf E.A).st).2.bk⟩):=(Wj (Cf E.A).T 1 ⟨(Aj E.X E.Y (Am (E.A 1)).1 (Cf E.A).st).1,1,(Aj E.X E.Y (Am (E.A 1)).1 (Cf E.A).st).2.bk⟩).symm;rw[e]at hg;refine⟨fun j=>if j=1 then(Aj E.X E.Y (Am (E.A 1)).1 (Cf E.A).st).1 else I0 j,?_,fun j u hu=>?_⟩
 ·show RG E _ o' ([]++(if nth (Am (E.A 1)).1 0=2 then []++[((1:Nat):Int)]else [])) _ _ _ _ _
  rw[if_pos h2]at hg ⊢;exact hg
 ·have hu2:A2 (fun _=>none) 1 ⟨(Aj E.X E.Y (Am (E.A 1)).1 (Cf E.A).st).1,1,(Aj E.X E.Y (Am (E.A 1)).1 (Cf E.A).st).2.bk⟩ j=some u:=hu;by_cases hj:j=1
  ·subst hj;rw[Cg]at hu2;rw[<-Option.some.inj hu2];exact if_pos rfl
  ·rw[Cb _ _ hj]at hu2;cases hu2
theorem wM{E:A3}(hE:ROk E)(hA:∀ j:Nat,isD E.X E.Y j=true->(E.A j).length=128/\A4 (E.A j))(hr:Fb E.A):DI E [] (Df E.X E.Y E.A)/\(∃ L,WZ E.X E.Y E.A L 0 0 (Df E.X E.Y E.A))/\Ek (Df E.X E.Y E.A)<=8192:=by
 have hY0:0<=E.Y:=by have:=hE.Y1;omega
 refine⟨DI.enter hE (z:=Cf E.A) ⟨Qe hA,fun i t h=>(by cases h),List.nodup_nil,fun i hi=>(by cases hi)⟩ (Nat.le_refl 1) (by have:=hE.Y1;omega) (Jo hr.1),⟨_,Z6 hE.Y1 hA hr⟩,?_⟩;have hm:=Ir hr.1;have hb:=(D9 hm.2).1 hm.1;exact((dD E.X E.Y E.A).take (Nat.le_refl 1) hE.Y1 (by decide) (Bo _) hb.1.2.2.1.1 hb.1.2.2.1.2 (by decide) (by decide) rfl).pot
structure RkI (E:A3) (o:Option Nat) (done:List Int) (z:LZ) (I:Nat->List Int) (w:World) (gs gx:Nat) (r2:List Int) (k:Nat) (W:World):Prop where
 g:RG E W o done (Ay (Mw E.Y z k) k (zl 128)) z.st.cl (tkZ z.T) I (enZ z.T)\/RG E W o done (Mw E.Y z (k+1)) z.st.cl (tkZ z.T) I (enZ z.T)
 x:hat W gx=some (.cells (IV .i64 r2) 78)
 z:hat W w.heap.size=some (.cells #[.slice none 0 0,.slice none 0 0,.slice none 0 0,.slice none 0 0] 34)/\hat W gs=some (.cells #[.int .i64 (E.N:Int),.int .i64 E.Y] 68)
 b:Below w.heap.size w W
section
variable {E:A3} {o:Option Nat} {done:List Int} {z:LZ} {I:Nat->List Int} {w W W':World} {gs gx:Nat} {r2:List Int} {k:Nat}
theorem RkI.any(h:RkI E o done z I w gs gx r2 k W):∃ S',RG E W o done S' z.st.cl (tkZ z.T) I (enZ z.T):=by
 rcases h.g with h|h<;>exact⟨_,h⟩
theorem RkI.below(h:RkI E o done z I w gs gx r2 k W)(hb:Below W.heap.size W W'):RkI E o done z I w gs gx r2 k W':=
 ⟨h.g.imp (fun h=>h.below hb) (fun h=>h.below hb),(hop hb h.x).1,⟨(hop hb h.z.1).1,(hop hb h.z.2).1⟩,h.b.trans (hb.mono h.b.size)⟩
theorem RkI.store(hE:ROk E)(hk1:1<=k)(hkN:k<E.N)(hms:w.heap.size<=E.gw)(hr:Ck E.Y z k=(Dr r2).1)(h:RkI E o done z I w gs gx r2 k W){csx:Array Value}(hcx:hat W E.gw=some (.cells csx 47)):
  RkI E o done z I w gs gx r2 k (W.setRow E.gw (Ap csx (k*128) (IV .u8 (Dr r2).1)))/\RG E (W.setRow E.gw (Ap csx (k*128) (IV .u8 (Dr r2).1))) o done (Mw E.Y z (k+1)) z.st.cl (tkZ z.T) I (enZ z.T):=by
 have hg:RG E (W.setRow E.gw (Ap csx (k*128) (IV .u8 (Dr r2).1))) o done (Mw E.Y z (k+1)) z.st.cl (tkZ z.T) I (enZ z.T):=by
  rcases h.g with h|h
  ·have h:=h.store hE hcx hkN (s:=(Dr r2).1) (Je _) (Np _);rw[K0, <-hr, <-Mp hk1,hr]at h;exact h
  ·have h:=h.store hE hcx hkN (s:=(Dr r2).1) (Je _) (Np _);rw[Mp hk1,K0, <-hr, <-Mp hk1,hr]at h;exact h
 have hf:=Da W E.gw (Ap csx (k*128) (IV .u8 (Dr r2).1));have hf':Fr (E.ms++o.toList) W (W.setRow E.gw (Ap csx (k*128) (IV .u8 (Dr r2).1))):=hf.mono (by simp[A3.ms]);obtain⟨S',hS⟩:=h.any;refine⟨⟨.inr hg,(hf.block gx (Aa h.x) (fun hm=>?_)).trans h.x,⟨hS.keep hf' h.z.1 (by decide),hS.keep hf' h.z.2 (by decide)⟩,h.b.trans (hf.below h.b.size (fun b hb=>by simp at hb;subst hb;exact hms))⟩,hg⟩;rw[List.mem_singleton]at hm;have hx:=h.x;rw[hm,hcx]at hx;injection hx with h8
 injection h8 with h9 h10
 exact absurd h10 (by decide)
end
theorem cA(gi oi N ci:Nat)(S:Nat->List Int)(w:World)(hS:G9 w gi oi N S)(h8:8<=N)(hN:N<=4096)(h0:(A1 (S 0)).2.2=0)(hX:(A1 (S 0)).1=N):
  Calls Tryz.prog 45 #[.slice (some ⟨gi,oi,none⟩) N ci] w fun e w'=>(Fb S/\Rq w w' N (A1 (S 0)).1 (A1 (S 0)).2.1 S e)\/(¬ Fb S/\e= .returned (.tuple #[.agg Bd,.int .i64 121])/\Below w.heap.size w w'):=by
 obtain⟨cs,t,fr,hcs,hld⟩:=hS.load (show 0<N by omega);obtain⟨hl0,hb0⟩:=hS.len (show 0<N by omega);have HRS:=zA (fun W=>Tt (S 0) hl0 hb0 W);rw[Nat.zero_mul,Nat.add_zero]at hld;have hcl:=Aa hcs;have hz1:=(A6 w (.cells Bd 34)).1;have hc1:=(B7 w (.cells Bd 34) hcs).1;have hf1:=Be w (.cells Bd 34) [];have d1:¬ (N:Int)<8:=by omega
 have d2:¬ (4096:Int)<(N:Int):=by omega
 have d3:(0:Int)<(N:Int):=by omega
 have HF1:=zA hf1;have HMAY:=zA (Xq h0).1;obtain⟨X,Y,er,hR⟩:∃ X Y er,A1 (S 0)=(X,Y,er):=⟨_,_,_,rfl⟩;rw[hR]at HRS HMAY h0 hX;rw[hR];simp only at h0 hX HMAY ⊢;subst h0;subst hX;have HS:=zA hS;have HGI:Hid (gi<w.heap.size):=zA hcl;clear hS hf1 hR;go_enter Tryz.func45,Tryz.ntmps45;go_wp2_with fail;generalize hW1:w.alloc (.cells #[.slice none 0 0,.slice none 0 0,.slice none 0 0,.slice none 0 0] 34)=w1 at*;refine(HRS.out w1).mono ?_;rintro e w2 ⟨rfl,hb2⟩;have hz2:=(hop hb2 (show hat w1 w.heap.size=some (.cells Bd 34) by rw[<-hW1];exact(A6 w _).1)).1;have hgz:=Aa hz2;have HF2:=zA ((show Fr [] w w1 by rw[<-hW1];exact Be w _ []).trans (Af hb2 []));have hXn:((N:Int) !=(N:Int))=false:=by simp
 unfold Bd at hz2;clear hb2 hz1 hc1 hcs hld hW1 HF1 HRS;go_upto_region 6 with fail;have hz3:=(B7 w2 (.cells #[.int .i64 (N:Int),.int .i64 Y] 68) hz2).1;have hs3:=(A6 w2 (.cells #[.int .i64 (N:Int),.int .i64 Y] 68)).1;have HF3:=zA (HF2.out.trans (Be w2 (.cells #[.int .i64 (N:Int),.int .i64 Y] 68) []));have hgz3:=Aa hs3;generalize w2.alloc (.cells #[.int .i64 (N:Int),.int .i64 Y] 68)=w3 at*;generalize hgs:w2.heap.size=gs at*;have HGS:Hid (w.heap.size<gs/\gs<w3.heap.size):=zA ⟨by omega,hgz3⟩;clear hz2 HF2 hgs hgz hgz3;have HS3:=zA (HS.out.same (HF3.out.block _ HS.out.lt (by simp)));obtain⟨M,hM⟩:∃ M:Nat,(M:Int)=Y+1:=⟨(Y+1).toNat,by obtain⟨-,⟨y1,-⟩,-⟩:=HMAY.out;omega⟩;have HM:=zA hM;have hM9:M<=4096:=by obtain⟨-,⟨y1,y2⟩,xy⟩:=HMAY.out;omega
 have hY0:0<=Y:=by obtain⟨-,⟨y1,y2⟩,xy⟩:=HMAY.out;omega
 have hY9:Y<4096:=by omega
 have hM0:0<=(M:Int):=by omega
 have hwr:IntKind.i64.wrap (Y+1)=(M:Int):=by rw[IntKind.wrap_i64];omega
 refine O7 (by kernel_rfl) 23 (by decide) rfl (bR w3) bP (rkG N Y gs gi oi ci N M S w3) (fun _=>none) ⟨Bb (Fr.refl [] w3),fun _ _ h=>by cases h⟩ ?_ ?_ ?_
 ·intro i v own wa own' wb hi hIa hIb hE hG;exact jA hE hG
 ·intro i o hi ho a' own w' hI hS hF;have hi':i=0\/i=1\/i=2\/i=3\/i=4\/i=5\/i=6\/i=7\/i=8\/i=9\/i=10\/i=11\/i=12\/i=13\/i=14\/i=15\/i=16\/i=17\/i=18\/i=19\/i=20\/i=21\/i=22:=(by omega);have hstay:bP own w' own w':=⟨Fr.refl _ _,fun _ _ h=>h⟩;have hss:=(hI.1.block _ (Aa hs3) (by simp)).trans hs3;have hS4:a'.tmps[4]?.getD undef= .pointer (some ⟨gs,0,none⟩):=gtx ((hS 4 (by decide)).trans rfl);have hS0:a'.tmps[0]?.getD undef= .slice (some ⟨gi,oi,none⟩) N ci:=gtx ((hS 0 (by decide)).trans rfl);rcases hi' with rfl|rfl|rfl|rfl|rfl|rfl|rfl|rfl|rfl|rfl|rfl|rfl|rfl|rfl|rfl|rfl|rfl|rfl|rfl|rfl|rfl|rfl|rfl
  all_goals (have ho':=Option.some.inj ho;subst ho')
  ·exact Bp 68 2 Qx (.tmp 4) rfl rfl rfl gs _ ((hS 4 (by decide)).trans rfl) hss rfl ⟨_,own,rfl,hI,hstay,rfl⟩
  ·exact E8 (.tmp 0) rfl rfl rfl _ ((hS 0 (by decide)).trans rfl) ⟨_,own,rfl,hI,hstay,rfl⟩
  ·have hfa:=Be w' (.cells #[] 47) [];exact Ae rfl rfl (v:= .slice (some ⟨w'.heap.size,0,none⟩) 0 0) (w1:=w'.alloc (.cells #[] 47)) (by simp[go_sem]) ⟨_,own,rfl,Pw hI hfa,⟨hfa,fun _ _ h=>h⟩,_,rfl⟩
  ·exact E8 (.tmp 0) rfl rfl rfl _ ((hS 0 (by decide)).trans rfl) ⟨_,own,rfl,hI,hstay,rfl⟩
  ·obtain⟨b0,e2⟩:=hF 2 (by decide) _ 40 rfl rfl;have f2:a'.eval (.tmp 40)= .slice (some ⟨b0,0,none⟩) 0 0:=e2;have f3:a'.eval (.tmp 41)= .slice (some ⟨gi,oi,none⟩) N ci:=hF 3 (by decide) _ 41 rfl rfl;obtain⟨g,cw,w'',hr,hg0,hws,hb⟩:=Xz gi oi N ci b0 S w' (HS3.out.same (hI.1.block _ HS3.out.lt (by simp))) (by omega) (by omega);exact Ae rfl rfl (v:= .slice (some ⟨g,0,none⟩) N cw) (w1:=w'') (by simp[execOp,resolve,invoke,builtin,f2,f3,hr,Result.andThen]) ⟨_,I7 own g 4,rfl,Gv hI (Af hb []) hws.lt2 4,Gu hI (Af hb []) hg0 4,g,cw,rfl,Nat.le_trans hI.1.size hg0,hws,by simp[I7]⟩
  ·exact E8 (.tmp 0) rfl rfl rfl _ ((hS 0 (by decide)).trans rfl) ⟨_,own,rfl,hI,hstay,rfl⟩
  ·have e5:=gtx (hF 5 (by decide) _ 43 rfl rfl);exact Ae rfl rfl (v:= .int .i64 N) (w1:=w') (by simp[go_sem,e5]) ⟨_,own,rfl,hI,hstay,rfl⟩
  ·have e6:=gtx (hF 6 (by decide) _ 44 rfl rfl);obtain⟨w'',hr,hn,hb⟩:=Nr w' N (by omega);exact Ae rfl rfl (v:= .slice (some ⟨w'.heap.size,0,none⟩) N N) (w1:=w'') (by simp[go_sem,e6,hr]) ⟨_,I7 own w'.heap.size 7,rfl,Gv hI (Af hb []) hn.lt 7,Gu hI (Af hb []) (Nat.le_refl _) 7,_,rfl,hI.1.size,hn,by simp[I7]⟩
  ·exact Ae rfl rfl (v:= .pointer (some ⟨gs,1,none⟩)) (w1:=w') (by simp[go_sem,hS4]) ⟨_,own,rfl,hI,hstay,rfl⟩
  ·have e8:=gtx (hF 8 (by decide) _ 46 rfl rfl);exact Ae rfl rfl (v:= .int .i64 Y) (w1:=w') (by simp[go_sem,e8,hss]) ⟨_,own,rfl,hI,hstay,rfl⟩
  ·have e9:=gtx (hF 9 (by decide) _ 47 rfl rfl);exact Ae rfl rfl (v:= .int .i64 M) (w1:=w') (by simp[go_sem,e9,hwr]) ⟨_,own,rfl,hI,hstay,rfl⟩
  ·have e10:=gtx (hF 10 (by decide) _ 48 rfl rfl);obtain⟨w'',hr,hn,hb⟩:=Nr w' M (by omega);exact Ae rfl rfl (v:= .slice (some ⟨w'.heap.size,0,none⟩) M M) (w1:=w'') (by simp[go_sem,e10,hr]) ⟨_,I7 own w'.heap.size 11,rfl,Gv hI (Af hb []) hn.lt 11,Gu hI (Af hb []) (Nat.le_refl _) 11,_,rfl,hI.1.size,hn,by simp[I7]⟩
  ·exact Ae rfl rfl (v:= .pointer (some ⟨gs,1,none⟩)) (w1:=w') (by simp[go_sem,hS4]) ⟨_,own,rfl,hI,hstay,rfl⟩
  ·have e12:=gtx (hF 12 (by decide) _ 50 rfl rfl);exact Ae rfl rfl (v:= .int .i64 Y) (w1:=w') (by simp[go_sem,e12,hss]) ⟨_,own,rfl,hI,hstay,rfl⟩
  ·have e13:=gtx (hF 13 (by decide) _ 51 rfl rfl);exact Ae rfl rfl (v:= .int .i64 M) (w1:=w') (by simp[go_sem,e13,hwr]) ⟨_,own,rfl,hI,hstay,rfl⟩
  ·have e14:=gtx (hF 14 (by decide) _ 52 rfl rfl);obtain⟨w'',hr,hn,hb⟩:=iI w' M (by omega);exact Ae rfl rfl (v:= .slice (some ⟨w'.heap.size,0,none⟩) M M) (w1:=w'') (by simp[go_sem,e14,hr]) ⟨_,I7 own w'.heap.size 15,rfl,Gv hI (Af hb []) hn.lt 15,Gu hI (Af hb []) (Nat.le_refl _) 15,_,rfl,hI.1.size,hn,by simp[I7]⟩
  ·exact Ae rfl rfl (v:= .pointer (some ⟨gs,1,none⟩)) (w1:=w') (by simp[go_sem,hS4]) ⟨_,own,rfl,hI,hstay,rfl⟩
  ·have e16:=gtx (hF 16 (by decide) _ 54 rfl rfl);exact Ae rfl rfl (v:= .int .i64 Y) (w1:=w') (by simp[go_sem,e16,hss]) ⟨_,own,rfl,hI,hstay,rfl⟩
  ·have e17:=gtx (hF 17 (by decide) _ 55 rfl rfl);exact Ae rfl rfl (v:= .int .i64 M) (w1:=w') (by simp[go_sem,e17,hwr]) ⟨_,own,rfl,hI,hstay,rfl⟩
  ·have e18:=gtx (hF 18 (by decide) _ 56 rfl rfl);obtain⟨w'',hr,hn,hb⟩:=iJ w' M (by omega);exact Ae rfl rfl (v:= .slice (some ⟨w'.heap.size,0,none⟩) M M) (w1:=w'') (by simp[go_sem,e18,hr]) ⟨_,I7 own w'.heap.size 19,rfl,Gv hI (Af hb []) hn.lt 19,Gu hI (Af hb []) (Nat.le_refl _) 19,_,rfl,hI.1.size,hn,by simp[I7]⟩
  ·have e0:=gtx (hF 0 (by decide) _ 38 rfl rfl);have e1:=gtx (hF 1 (by decide) _ 39 rfl rfl);obtain⟨gw,cw,e4,hw0,hw1,o4⟩:=hF 4 (by decide) _ 42 rfl rfl;obtain⟨gc,e7,hc0,hc1,o7⟩:=hF 7 (by decide) _ 45 rfl rfl;obtain⟨gt',e11,ht0,ht1,o11⟩:=hF 11 (by decide) _ 49 rfl rfl;obtain⟨gn,e15,hn0,hn1,o15⟩:=hF 15 (by decide) _ 53 rfl rfl;obtain⟨ge,e19,he0,he1,o19⟩:=hF 19 (by decide) _ 57 rfl rfl;have e4:=gtx e4;have e7:=gtx e7;have e11:=gtx e11;have e15:=gtx e15;have e19:=gtx e19;have hnd:[gw,gc,gt',gn,ge].Nodup:=by
    have k:∀ {a b i j:Nat},own a=some i->own b=some j->i≠j->a≠b:=fun ha hb hij e=>by
     rw[e,hb]at ha;exact hij (Option.some.inj ha).symm
    simp only[List.nodup_cons,List.mem_cons,List.not_mem_nil,or_false,not_or,not_false_eq_true,and_true,List.nodup_nil];exact⟨⟨k o4 o7 (by decide),k o4 o11 (by decide),k o4 o15 (by decide),k o4 o19 (by decide)⟩,⟨k o7 o11 (by decide),k o7 o15 (by decide),k o7 o19 (by decide)⟩,⟨k o11 o15 (by decide),k o11 o19 (by decide)⟩,k o15 o19 (by decide)⟩
   exact Ae rfl rfl (v:= .agg (Jl N Y gi oi ci N M gw cw gc gt' gn ge)) (w1:=w') (by simp[go_sem,e0,e1,e4,e7,e11,e15,e19,Jl]) ⟨_,own,rfl,hI,hstay,gw,cw,gc,gt',gn,ge,rfl,⟨by simp;omega,hw1,hc1,ht1,hn1,he1,hnd⟩⟩
  ·obtain⟨gw,cw,gc,gt',gn,ge,e20,h6⟩:=hF 20 (by decide) _ 58 rfl rfl;have e20:=gtx e20;have hfb:=Be w' (.cells (Jl N Y gi oi ci N M gw cw gc gt' gn ge) 129) [];have hlt:=h6.lt;exact Ae rfl rfl (v:= .pointer (some ⟨w'.heap.size,0,none⟩)) (w1:=w'.alloc (.cells (Jl N Y gi oi ci N M gw cw gc gt' gn ge) 129)) (by simp[go_sem,e20,Jl]) ⟨_,own,rfl,Pw hI hfb,⟨hfb,fun _ _ h=>h⟩,_,gw,cw,gc,gt',gn,ge,rfl,(A6 w' _).1,h6.fr hfb,hI.1.size,fun hm=>Nat.lt_irrefl _ (hlt _ hm)⟩
  ·obtain⟨g,gw,cw,gc,gt',gn,ge,e21,h6⟩:=hF 21 (by decide) _ 59 rfl rfl;have e21:=gtx e21;exact Ae rfl rfl (v:= .pointer (some ⟨g,0,none⟩)) (w1:=w') (by simp[go_sem,e21]) ⟨_,own,rfl,hI,hstay,g,gw,cw,gc,gt',gn,ge,rfl,h6⟩
 ·intro val own w4 hI hF;obtain⟨g,gw,cw,gc,gt',gn,ge,e22,hg4,h6,hg0,hgn⟩:=hF 22 _ 6 (by decide) rfl rfl;have hz4:=(hI.1.block _ (Aa hz3) (by simp)).trans hz3;have hs4:=(hI.1.block _ (Aa hs3) (by simp)).trans hs3;have HF4:=zA (HF3.out.trans hI.1);have hS4:=HS3.out.same (hI.1.block _ HS3.out.lt (by simp));have hgi3:gi<w3.heap.size:=(by have:=HGI.out;have:=HF3.out.size;omega);have hE0:∃ E:A3,(DG E w4 none [] (Cf S) (fun _=>zl 18)/\ROk E)/\(N:Int)=E.X/\g=E.g/\gi=E.gi/\oi=E.oi/\N=E.N/\ci=E.ci/\M=E.M/\Y=E.Y/\S=E.A/\(∀ b∈E.ms,w3.heap.size<=b):=by
   obtain⟨-,⟨y1,y2⟩,xy⟩:=HMAY.out;exact⟨_,⟨rD hS4 hgi3 hg4 h6,rfl,h8,hN,y1,(by show Y<N;omega),hM,mZ hgi3 h6 hg0 hgn⟩,rfl,rfl,rfl,rfl,rfl,rfl,rfl,rfl,rfl,fun b hb=>by
    simp only[A3.ms,List.mem_cons,List.not_mem_nil,or_false]at hb;rcases hb with rfl|rfl|rfl|rfl|rfl|rfl
    ·exact hg0
    all_goals exact h6.lo _ (by simp)⟩
  have z34:=hI.1.size;have hgw0:w3.heap.size<=gw:=h6.lo gw (by simp);simp only[Bi,List.take,List.drop,List.take_succ_cons,List.drop_succ_cons,e22,Act.put,List.setIfInBounds_toArray,List.set_cons_zero,List.set_cons_succ];clear hF hI hs3 hz3 HS3 e22 hg4 h6 hgn hgi3 hS4 hwr;generalize val 0=x0;generalize val 1=x1;generalize val 2=x2;generalize val 3=x3;generalize val 4=x4;generalize val 5=x5;generalize val 6=x6;generalize val 7=x7;generalize val 8=x8;generalize val 9=x9;generalize val 10=x10;generalize val 11=x11;generalize val 12=x12;generalize val 13=x13;generalize val 14=x14;generalize val 15=x15;generalize val 16=x16;generalize val 17=x17;generalize val 18=x18;generalize val 19=x19;generalize val 20=x20;generalize val 21=x21;obtain⟨E,⟨hDG,hE⟩,hEX,rfl,rfl,rfl,rfl,rfl,rfl,rfl,rfl,hms⟩:=hE0;have HE:=zA hE;have HDG:=zA hDG;have HEX:=zA hEX;have hY1:=hE.Y1;have hYN:=hE.YN;have hA:∀ j:Nat,isD E.X E.Y j=true->(E.A j).length=128/\A4 (E.A j):=fun j hj=>HS.out.len (by unfold isD at hj;have:=of_decide_eq_true hj;omega)
  have HA:=zA hA;have HMS:Hid (∀ b∈E.ms,w.heap.size<=b):=zA (fun b hb=>by have:=HF3.out.size;have:=hms b hb;omega);clear hA HF3 HS HGI hg0 hgw0 hms;have hcall:=N3 hE 1 (Nat.le_refl 1) hY1 w4 hDG.g;have HSOUND:=zA (Pk (s:=E.A 1));have hrl:=Bo (E.A 1);obtain⟨v4,hg4,-⟩:=hDG.g.l;clear hEX hDG hE;go_wp2_with fail;refine hcall.mono ?_;rintro e w5 ⟨rfl,hb5⟩;have hz5:=(hop hb5 hz4).1;have hs5:=(hop hb5 hs4).1;have HF5:=zA (HF4.out.trans (Af hb5 []));have HDG5:Hid (DG E w5 none [] (Cf E.A) (fun _=>zl 18)):=zA ⟨HDG.out.g.below hb5,HDG.out.i⟩;have hzl5:=Aa hz5;have hsl5:=Aa hs5;clear hb5 hg4 hz4 hs4 HF4 HDG hcall;have hk0:(IV .i64 (Am (E.A 1)).1)[0]? =some (.int .i64 (nth (Am (E.A 1)).1 0)):=by
   rw[Bl,An (by omega)];rfl
  have HRO:Hid (Fb E.A↔Bw (E.A 1)=true/\nth (Am (E.A 1)).1 0=2):=zA Iff.rfl;have HFIN:=zA (Dc hz5 (.slice none 0 0) (.slice none 0 0) (.slice none 0 0) (.slice none 0 0));have HBEL:=zA ((((HF5.out.mono (ex':=[w.heap.size]) (by simp)).trans (Cl w5 w.heap.size (.slice none 0 0) (.slice none 0 0) (.slice none 0 0) (.slice none 0 0))).trans (Be _ (.cells (IV .i64 (Am (E.A 1)).1) 78) [w.heap.size])).below (B:=w.heap.size) (Nat.le_refl _) (by simp));have HRAW:Hid ((Am (E.A 1)).1=(Am (E.A 1)).1):=zA rfl;obtain⟨raw,hRAW⟩:∃ r,(Am (E.A 1)).1=r:=⟨_,rfl⟩;clear HRAW;rw[hRAW]at HBEL HRO HSOUND hk0 hrl ⊢;have HRAW:=zA hRAW;clear hRAW;cases hsd:Bw (E.A 1)with
  |false=>
   rw[hsd]at HRO;have HNO:=zA (show ¬ Fb E.A from fun h=>by have:=(HRO.out.1 h).1;cases this);clear HSOUND hk0;go_wp2_with fail;exact Aw Fe rfl (cs:=Bd) rfl (B7 _ _ HFIN.out).1 rfl rfl (.inr ⟨HNO.out,rfl,HBEL.out⟩)
  |true=>
   cases hkd:(nth raw 0==2)with
   |false=>
    have hkn:(nth raw 0 !=2)=true:=(by simpa using hkd);have HNO:=zA (show ¬ Fb E.A from fun h=>by have:=(HRO.out.1 h).2;simp[this]at hkd);clear HSOUND HRO;go_wp2_with fail;exact Aw Fe rfl (cs:=Bd) rfl (B7 _ _ HFIN.out).1 rfl rfl (.inr ⟨HNO.out,rfl,HBEL.out⟩)
   |true=>
    have hk2:nth raw 0=2:=(by simpa using hkd);have HYES:=zA (HRO.out.2 ⟨hsd,hk2⟩);have HKK:=zA hk2;have hkn:(nth raw 0 !=2)=false:=(by simpa using hkd);have hld5:∀ r w',Ea r 18 0 w' (some (.cells (IV .i64 raw) 78))= .ok (.agg (IV .i64 raw)) w':=fun r w'=>by rw[Dp (by simp[hrl])];simp[<-hrl]
    obtain⟨r1,r2,-⟩:=HSOUND.out hsd;have hM1:1<E.M:=(by have:=HM.out;omega);have hi6:=(A6 w5 (.cells (IV .i64 raw) 78)).1;have hb6:=(Below.refl w5.heap.size w5).alloc (Nat.le_refl _) (.cells (IV .i64 raw) 78);have HDG6:Hid (DG E (w5.alloc (.cells (IV .i64 raw) 78)) none [] (Cf E.A) (fun _=>zl 18)):=zA ⟨HDG5.out.g.below hb6,HDG5.out.i⟩;have HF6:=zA (HF5.out.trans (Af hb6 []));have hz6:=(hop hb6 hz5).1;have hs6:=(hop hb6 hs5).1;have hi6l:=Aa hi6;clear HRO HBEL HFIN HSOUND hsd hkd hk2 HF5 HDG5 hb6;go_upto_region 10 with fail;generalize w5.alloc (.cells (IV .i64 raw) 78)=w6 at*;clear hz5 hs5 hzl5 hsl5;have hzl6:=Aa hz6;have hsl6:=Aa hs6;have hTK:=T0 HE.out 1 (Nat.le_refl 1) hM1 hrl r1 r2 (Cf E.A).st (Qe HA.out).si (l:=[]) (by simp) w6 HDG6.out.g;go_wp2_with fail;refine hTK.mono ?_;rintro e w7 ⟨rfl,o',hT⟩;have hff:Fr (E.ms++(none:Option Nat).toList) w6 w7:=hT.f.mono (by simp[A3.ms]);have hz7:=HDG6.out.g.keep hff hz6 (by decide);have hs7:=HDG6.out.g.keep hff hs6 (by decide);have HF7:=zA hff;have HT7:=zA hT;obtain⟨v7,hl7,-⟩:=hT.g.l;obtain⟨cse,hce,-,halle⟩:=hT.g.e;have hce1:=halle 1 hM1;have hl7l:=Aa hl7;have hcel:=Aa hce;have h1M:(1:Int)<(E.M:Int):=(by omega);clear hT hff hTK hz6 hs6 hzl6 hsl6 hi6 hi6l hld5 hk0 hkn halle r1 r2;go_upto_region 12 with fail;have HT8:=zA (nA HE.out (by rw[HRAW.out];exact HKK.out) (by rw[HRAW.out];exact HT7.out));have hf8:Fr (E.ms++o'.toList) w7 (w7.setCell ⟨E.ge,1,none⟩ (.int .i64 1)):=(Ai w7 E.ge 1 (.int .i64 1)).mono (by simp[A3.ms]);have HZ8:Hid (hat (w7.setCell ⟨E.ge,1,none⟩ (.int .i64 1)) w.heap.size=some (.cells #[.slice none 0 0,.slice none 0 0,.slice none 0 0,.slice none 0 0] 34)/\hat (w7.setCell ⟨E.ge,1,none⟩ (.int .i64 1)) gs=some (.cells #[.int .i64 (E.N:Int),.int .i64 E.Y] 68)):=zA ⟨HT7.out.g.keep hf8 hz7 (by decide),HT7.out.g.keep hf8 hs7 (by decide)⟩;have HB8:Hid (Below w.heap.size w (w7.setCell ⟨E.ge,1,none⟩ (.int .i64 1))):=zA (((HF6.out.below (Nat.le_refl _) (by simp)).trans (HF7.out.below HF6.out.size (fun b hb=>HMS.out b (by simpa using hb)))).trans ((Ai w7 E.ge 1 (.int .i64 1)).below (Nat.le_trans HF6.out.size HF7.out.size) (fun b hb=>HMS.out b (by simp at hb;subst hb;simp[A3.ms]))));have HO8:Hid (Fa w.heap.size o'):=zA (fun q hq=>by
     rcases HT7.out.o with e|⟨g1,e,h1⟩
     ·rw[e]at hq;cases hq
     ·rw[e]at hq;have:=Option.some.inj hq;have:=HF6.out.size;omega)
    have HDI8:=zA (wM HE.out HA.out HYES.out);clear hz7 hs7 hl7 hl7l hce hcel hce1 hf8 HT7 HF7 HF6 HDG6 h1M;generalize w7.setCell ⟨E.ge,1,none⟩ (.int .i64 1)=w8 at*;go_wp2_with fail;go_loopw [9] (fun kv wr=>∃ (done:List Int) (z:LZ) (o:Option Nat) (I:Nat->List Int) (f:Nat),kv= .int .i64 done.length/\Hid (DG E wr o done z I)/\Hid (DI E done z)/\Hid (∃ L,WZ E.X E.Y E.A L 0 0 z)/\Hid (Ek z<=f/\Gq E.X E.Y E.A f z=Bh E.X E.Y E.A)/\Hid (hat wr w.heap.size=some (.cells #[.slice none 0 0,.slice none 0 0,.slice none 0 0,.slice none 0 0] 34)/\hat wr gs=some (.cells #[.int .i64 (E.N:Int),.int .i64 E.Y] 68))/\Hid (Below w.heap.size w wr)/\Hid (Fa w.heap.size o)) (fun v _=>100001-(intOf v).toNat)
    case atStart=>
     obtain⟨I,hI⟩:=HT8.out;exact⟨[],Df E.X E.Y E.A,o',I,8192,rfl,zA hI,zA HDI8.out.1,zA HDI8.out.2.1,zA ⟨HDI8.out.2.2,rfl⟩,HZ8,HB8,HO8⟩
    case round=>
     obtain⟨done,z,o,I,f,rfl,HD,HI,HW,HL,HZ,HB,HO⟩:=hrel;clear HT8 HZ8 HB8 HO8 HDI8;obtain⟨vr,hlr,hqr⟩:=HD.out.g.l;have hlrl:=Aa hlr;have hd0:(0:Int)<=(done.length:Int):=Int.natCast_nonneg _;cases hQ:z.q with
     |cons c0 r=>
      obtain⟨hc1,hcY,hcT⟩:=HI.out.rg c0 (by rw[hQ];simp);obtain⟨c,rfl⟩:=Int.eq_ofNat_of_zero_le (show 0<=c0 by omega);rw[Int.toNat_natCast]at hcT;obtain⟨t,ht⟩:=Option.isSome_iff_exists.1 hcT;have hlen:=HI.out.len HE.out;rw[hQ]at hqr hlen;obtain⟨gq,off,cq,csq,ev,eo,hgq,hcell⟩:=hqr.cell (k:=done.length) (by simp);have hnth:nth (done++(c:Int)::r) done.length=(c:Int):=by
       unfold nth;rw[List.getElem?_append_right (Nat.le_refl _),Nat.sub_self];rfl
      rw[hnth]at hcell;rw[ev]at hlr;have hgql:=Aa hgq;have hdl:(done.length:Int)<((done++(c:Int)::r).length:Int):=(by simp;omega);have hdn:done.length<(done++(c:Int)::r).length:=(by simp);have hdl9:done.length<100000:=(by simp at hlen;omega);have hDz:DG E wr o (done++[(c:Int)]) {z with q:=r} I:=⟨by have:=HD.out.g;rw[hQ]at this;show RG E wr o ((done++[(c:Int)])++r) _ _ _ _ _;rw[List.append_assoc];exact this,HD.out.i⟩;have hDI:DI E (done++[(c:Int)]) {z with q:=r}:=⟨HI.out.inv.pop hQ,HI.out.ix,by have:=HI.out.nd;rw[hQ]at this;show((done++[(c:Int)])++r).Nodup;rw[List.append_assoc];exact this,fun i hi=>HI.out.rg i (by rw[hQ];have hi:i∈(done++[(c:Int)])++r:=hi;rw[List.append_assoc]at hi;exact hi)⟩;have hPZ:PZ E.X E.Y {z with q:=r}:=(by obtain⟨L,hW⟩:=HW.out;exact hW.pz.q r);have hcr:(c:Int)∉({z with q:=r}:LZ).q:=by
       have:=HI.out.inv.qn;rw[hQ]at this;exact(List.nodup_cons.1 this).1
      have HC:=zA (mU HE.out hDI hPZ (t:=t) ht hcr wr hDz);have HDI2:Hid (∀ w' o1 I1,uN E (done++[(c:Int)]) o (Ct E.X E.Y E.A c {z with q:=r}) wr w' o1 I1->DI E (done++[(c:Int)]) (Ct E.X E.Y E.A c {z with q:=r})):=zA (fun w' o1 I1 h=>h.i);have HW2:Hid (∃ L,WZ E.X E.Y E.A L 0 0 (Ct E.X E.Y E.A c {z with q:=r})):=zA (by obtain⟨L,hW⟩:=HW.out;have:=Yc (by omega) hW hQ;rw[Int.toNat_natCast]at this;exact this)
      have HL2:Hid (∃ f',Ek (Ct E.X E.Y E.A c {z with q:=r})<=f'/\Gq E.X E.Y E.A f' (Ct E.X E.Y E.A c {z with q:=r})=Bh E.X E.Y E.A):=zA (by
       have hpp:=Rj hQ;obtain⟨h1,h2⟩:=HL.out;obtain⟨f',rfl⟩:∃ f',f=f'+1:=⟨f-1,by omega⟩;have h3:=W6 hY9 E.A c {z with q:=r} (X:=E.X);rw[E0 _ _ _ _ _ _ _ hQ,Int.toNat_natCast]at h2;exact⟨f',by omega,h2⟩)
      clear hDz hDI hPZ hcr hc1 hcY hcT ht hqr hlen hnth HI HW HL;go_wp2_with fail;refine HC.out.mono ?_;rintro e w9 ⟨rfl,o1,I1,hd2⟩;have hD2:=hd2.d;have HZ9:Hid (hat w9 w.heap.size=some (.cells #[.slice none 0 0,.slice none 0 0,.slice none 0 0,.slice none 0 0] 34)/\hat w9 gs=some (.cells #[.int .i64 (E.N:Int),.int .i64 E.Y] 68)):=zA ⟨HD.out.g.keep hd2.f HZ.out.1 (by decide),HD.out.g.keep hd2.f HZ.out.2 (by decide)⟩;have HB9:Hid (Below w.heap.size w w9):=zA (HB.out.trans (hd2.f.below HB.out.size (fun b hb=>by
       rcases List.mem_append.1 hb with hb|hb
       ·exact HMS.out b hb
       ·exact HO.out b (by simpa using hb))))
      have HO9:Hid (Fa w.heap.size o1):=zA (HO.out.to HB.out.size hd2.o);have HD9:=zA hD2;have HI9:=zA hd2.i;clear hD2 hd2 HC HD HZ HB HO hlr hlrl hgq hgql hcell;go_wp2_with fail;go_roundw
      case rel=>
       obtain⟨f',hf'⟩:=HL2.out;first|exact⟨done++[(c:Int)],_,o1,I1,f',by simp,HD9,HI9,HW2,zA hf',HZ9,HB9,HO9⟩|((repeat apply Exists.intro);exact⟨⟨done++[(c:Int)],_,o1,I1,f',by simp,HD9,HI9,HW2,zA hf',HZ9,HB9,HO9⟩,rfl⟩)
      case measure=>(show 100001-(done.length+1)<100001-done.length);omega
     |nil=>
      rw[hQ,List.append_nil]at hqr;obtain⟨aq,cq,ev⟩:=hqr.slice;rw[ev]at hlr;have hzz:z=Bh E.X E.Y E.A:=(by rw[<-HL.out.2,Gj _ _ _ _ _ hQ]);have HZL:=zA hzz;have HR:Hid (RG E wr o done z.st.S z.st.cl (tkZ z.T) I (enZ z.T)):=zA (by have:=HD.out.g;rw[hQ,List.append_nil]at this;exact this);have HIT:=zA HD.out.i;clear hqr hzz hQ HL HW HI HD;obtain⟨wq,hwq⟩:∃ x,x=wr:=⟨_,rfl⟩;subst hwq;go_wp2_with fail;clear hlr hlrl;go_loopw [10] (fun kv wr=>∃ k:Nat,kv= .int .i64 k/\1<=k/\k<=E.M/\Hid (RG E wr o done (Mw E.Y z k) z.st.cl (tkZ z.T) I (enZ z.T))/\Hid (hat wr w.heap.size=some (.cells #[.slice none 0 0,.slice none 0 0,.slice none 0 0,.slice none 0 0] 34)/\hat wr gs=some (.cells #[.int .i64 (E.N:Int),.int .i64 E.Y] 68))/\Hid (Below w.heap.size w wr)) (fun v _=>E.M+1-(intOf v).toNat)
      case atStart=>exact⟨1,rfl,Nat.le_refl _,by omega,zA (by rw[mW];exact HR.out),HZ,HB⟩
      case round=>
       obtain⟨k,rfl,hk1,hkM,HRk,HZk,HBk⟩:=hrel;have hk0:(0:Int)<=(k:Int):=Int.natCast_nonneg _;have hsk:=HZk.out.2;have hskl:=Aa hsk;obtain⟨vk,hlk,-⟩:=HRk.out.l;have hlkl:=Aa hlk;by_cases hkM2:k<E.M
       ·have hkY:(k:Int)<=E.Y:=(by have:=HM.out;omega);have hkN:k<E.N:=(by omega);have hki:(k:Int)<(E.N:Int):=(by omega);have hkm:(k:Int)<(E.M:Int):=(by omega);obtain⟨csw,hcw,-,-,-⟩:=HRk.out.s.load hkN;have hcwl:=Aa hcw;have hst:∀ raw w',Dd raw 128 (k*128) E.gw (IV .u8 (zl 128)) w' (some (.cells csw 47 (0,0)))= .ok () (w'.setRow E.gw (Ap csw (k*128) (IV .u8 (zl 128)))):=fun raw w'=>Cj (by obtain⟨cs',h1,h2,h3⟩:=HRk.out.s;rw[hcw]at h1;injection h1 with h4;injection h4 with h5;subst h5;have:=Nat.mul_le_mul_right 128 (show k+1<=E.N by omega);omega) (by simp) (by simp)
        have HR10:=zA (HRk.out.store HE.out hcw hkN (s:=zl 128) (by simp) (F0 128));have hf10:=Da wr E.gw (Ap csw (k*128) (IV .u8 (zl 128)));have hf10':Fr (E.ms++o.toList) wr (wr.setRow E.gw (Ap csw (k*128) (IV .u8 (zl 128)))):=hf10.mono (by simp[A3.ms]);have HZ10:Hid (hat (wr.setRow E.gw (Ap csw (k*128) (IV .u8 (zl 128)))) w.heap.size=some (.cells #[.slice none 0 0,.slice none 0 0,.slice none 0 0,.slice none 0 0] 34)/\hat (wr.setRow E.gw (Ap csw (k*128) (IV .u8 (zl 128)))) gs=some (.cells #[.int .i64 (E.N:Int),.int .i64 E.Y] 68)):=zA ⟨HRk.out.keep hf10' HZk.out.1 (by decide),HRk.out.keep hf10' HZk.out.2 (by decide)⟩;have HB10:Hid (Below w.heap.size w (wr.setRow E.gw (Ap csw (k*128) (IV .u8 (zl 128))))):=zA (HBk.out.trans (hf10.below HBk.out.size (fun b hb=>HMS.out b (by simp at hb;subst hb;simp[A3.ms]))));clear hf10 hf10' HRk HZk HBk;go_upto_region 20 with fail;clear hlk hlkl hsk hskl hcw hcwl hst;generalize wr.setRow E.gw (Ap csw (k*128) (IV .u8 (zl 128)))=w10 at*;obtain⟨v10,hl10,-⟩:=HR10.out.l;have hl10l:=Aa hl10;obtain⟨cst,hct,-,hallt⟩:=HR10.out.t;have hctk:=hallt k hkM2;have hctl:=Aa hct;rw[Ky]at hctk;clear hallt;cases hT:z.T k with
        |none=>
         rw[hT]at hctk;have hctk2:cst[k]? =some (.bool false):=hctk;have HR11:Hid (RG E w10 o done (Mw E.Y z (k+1)) z.st.cl (tkZ z.T) I (enZ z.T)):=zA (by rw[Mp hk1,Gy z hk1 hkY];unfold Pj;rw[hT];exact HR10.out);clear hctk hT HR10;go_wp2_with fail;go_roundw
         case rel=>first|exact⟨k+1,by go_num,by omega,by omega,HR11,HZ10,HB10⟩|((repeat apply Exists.intro);exact⟨⟨k+1,by go_num,by omega,by omega,HR11,HZ10,HB10⟩,rfl⟩)
         case measure=>(show E.M+1-(k+1)<E.M+1-k);omega
        |some t=>
         rw[hT]at hctk;have hctk2:cst[k]? =some (.bool true):=hctk;obtain⟨csn,hcn,hr18,hldn,-⟩:=HR10.out.n.load hkM2;rw[HIT.out k t hT]at hr18 hldn;have hcnl:=Aa hcn;obtain⟨cse,hce,-,halle⟩:=HR10.out.e;have hcek:cse[k]? =some (.int .i64 t.en):=(by have:=halle k hkM2;unfold enZ at this;rw[hT]at this;exact this);have hcel:=Aa hce;have HRS:Hid (Ck E.Y z k=(Dr (t.raw.set 1 t.en)).1):=zA (by rw[Gy z hk1 hkY];unfold Pj;rw[hT]);obtain⟨raw,hraw⟩:∃ r,t.raw=r:=⟨_,rfl⟩;rw[hraw]at hr18 hldn HRS;obtain⟨en,hen⟩:∃ r,t.en=r:=⟨_,rfl⟩;rw[hen]at hcek HRS;clear hraw hen hctk hT halle;have hi11:=(A6 w10 (.cells (IV .i64 raw) 78)).1;have hi12:=(A6 w10 (.cells (IV .i64 (raw.set 1 en)) 78)).1;have HB12:Hid (Below w10.heap.size w10 (w10.alloc (.cells (IV .i64 (raw.set 1 en)) 78))):=zA ((Below.refl _ _).alloc (Nat.le_refl _) _);have hce11:=(B7 w10 (.cells (IV .i64 raw) 78) hce).1;have hl11:=(B7 w10 (.cells (IV .i64 raw) 78) hl10).1;have hi11l:=Aa hi11;go_upto_region 23 with fail;clear hce11 hl11 hi11 hi11l hl10l hct hctl hctk2 hcn hcnl hce hcel hcek hldn;generalize w10.alloc (.cells (IV .i64 (raw.set 1 en)) 78)=w12 at*;obtain⟨r2,hr2⟩:∃ r,raw.set 1 en=r:=⟨_,rfl⟩;have hr2l:r2.length=18:=(by rw[<-hr2];simpa using hr18);rw[hr2]at hi12 HRS;have hld12:∀ r w',Ea r 18 0 w' (some (.cells (IV .i64 r2) 78))= .ok (.agg (IV .i64 r2)) w':=fun r w'=>by rw[Dp (by simp[hr2l])];simp[<-hr2l]
         have HI0:Hid (RkI E o done z I w gs w10.heap.size r2 k w12):=zA ⟨.inl (HR10.out.below HB12.out),hi12,⟨(hop HB12.out HZ10.out.1).1,(hop HB12.out HZ10.out.2).1⟩,HB10.out.trans (HB12.out.mono HB10.out.size)⟩;clear hr18 hr2 hl10 HR10 HZ10 HB10 HB12 hi12;refine Xw (by kernel_rfl) 12 (by decide) rfl (RkI E o done z I w gs w10.heap.size r2 k) (fun W W'=>RG E W o done (Mw E.Y z (k+1)) z.st.cl (tkZ z.T) I (enZ z.T)->RG E W' o done (Mw E.Y z (k+1)) z.st.cl (tkZ z.T) I (enZ z.T)) (fun i' v W=>match i' with|0=>v=(.pointer (some ⟨E.g,0,none⟩))|1=>v=(.pointer (some ⟨E.g,0,none⟩))|2=>v=(.pointer (some ⟨E.g,3,none⟩))|3=>v=(.slice (some ⟨E.gw,0,none⟩) E.N E.cw)|4=>v=(.int .i64 (k:Int))|5=>v=(.agg (IV .i64 r2))|6=>v=(.tuple #[.agg (IV .u8 (Dr r2).1),.int .i64 (Dr r2).2])|7=>v=(.tuple #[.agg (IV .u8 (Dr r2).1),.int .i64 (Dr r2).2])|8=>v=(.agg (IV .u8 (Dr r2).1))|9=>v=(.int .i64 (Dr r2).2)|10=>v=(.pointer (some ⟨E.gw,k*128,none⟩))|_=>True) (fun i' W=>i'=11->RG E W o done (Mw E.Y z (k+1)) z.st.cl (tkZ z.T) I (enZ z.T)) (HI0.out.below (Dy (Below.refl _ _))) ?_ ?_ ?_ ?_
         ·intro i' v wa wb hi _ _ hE5 hG;have hi':i'=0\/i'=1\/i'=2\/i'=3\/i'=4\/i'=5\/i'=6\/i'=7\/i'=8\/i'=9\/i'=10\/i'=11:=(by omega);rcases hi' with rfl|rfl|rfl|rfl|rfl|rfl|rfl|rfl|rfl|rfl|rfl|rfl<;>exact hG
         ·intro i' wa wb hi _ _ hE5 hG e;exact hE5 (hG e)
         ·intro i' o' hi ho a' w' hBB hS hF hFH;have hi':i'=0\/i'=1\/i'=2\/i'=3\/i'=4\/i'=5\/i'=6\/i'=7\/i'=8\/i'=9\/i'=10\/i'=11:=(by omega);obtain⟨S',hR⟩:=hBB.any;obtain⟨vx,hl,-⟩:=hR.l;rcases hi' with rfl|rfl|rfl|rfl|rfl|rfl|rfl|rfl|rfl|rfl|rfl|rfl
          all_goals (have ho':=Option.some.inj ho;subst ho')
          ·have q6:a'.tmps[6]?.getD undef=(.pointer (some ⟨E.g,0,none⟩)):=gtx ((hS 6 (by decide)).trans rfl);refine Ae rfl rfl (v:=(.pointer (some ⟨E.g,0,none⟩))) (w1:=w') ?_ ⟨_,rfl,hBB,id,rfl,fun e=>(by cases e)⟩;simp[go_sem,q6]
          ·have q135:a'.tmps[135]?.getD undef=(.pointer (some ⟨E.g,0,none⟩)):=gtx ((hF 0 (by decide) _ 135 rfl rfl).trans rfl);refine Ae rfl rfl (v:=(.pointer (some ⟨E.g,0,none⟩))) (w1:=w') ?_ ⟨_,rfl,hBB,id,rfl,fun e=>(by cases e)⟩;simp[go_sem,q135]
          ·have q136:a'.tmps[136]?.getD undef=(.pointer (some ⟨E.g,0,none⟩)):=gtx ((hF 1 (by decide) _ 136 rfl rfl).trans rfl);refine Ae rfl rfl (v:=(.pointer (some ⟨E.g,3,none⟩))) (w1:=w') ?_ ⟨_,rfl,hBB,id,rfl,fun e=>(by cases e)⟩;simp[go_sem,q136]
          ·have q137:a'.tmps[137]?.getD undef=(.pointer (some ⟨E.g,3,none⟩)):=gtx ((hF 2 (by decide) _ 137 rfl rfl).trans rfl);refine Ae rfl rfl (v:=(.slice (some ⟨E.gw,0,none⟩) E.N E.cw)) (w1:=w') ?_ ⟨_,rfl,hBB,id,rfl,fun e=>(by cases e)⟩;simp[go_sem,q137,hl]
          ·have q10:a'.tmps[10]?.getD undef=(.int .i64 (k:Int)):=gtx ((hS 10 (by decide)).trans rfl);refine Ae rfl rfl (v:=(.int .i64 (k:Int))) (w1:=w') ?_ ⟨_,rfl,hBB,id,rfl,fun e=>(by cases e)⟩;simp[go_sem,q10]
          ·have q11:a'.tmps[11]?.getD undef=(.pointer (some ⟨w10.heap.size,0,none⟩)):=gtx ((hS 11 (by decide)).trans rfl);refine Ae rfl rfl (v:=(.agg (IV .i64 r2))) (w1:=w') ?_ ⟨_,rfl,hBB,id,rfl,fun e=>(by cases e)⟩;simp[go_sem,q11,hBB.x,hld12]
          ·have q140:a'.tmps[140]?.getD undef=(.agg (IV .i64 r2)):=gtx ((hF 5 (by decide) _ 140 rfl rfl).trans rfl);refine Bn (f:=59) (args:= #[.agg (IV .i64 r2)]) rfl rfl (by simp[go_sem,q140]) (mY r2 hr2l w') ?_;rintro e w'' ⟨rfl,hb'⟩;exact⟨_,rfl,_,rfl,hBB.below hb',fun h=>h.below hb',rfl,fun e=>(by cases e)⟩
          ·have q141:a'.tmps[141]?.getD undef=(.tuple #[.agg (IV .u8 (Dr r2).1),.int .i64 (Dr r2).2]):=gtx ((hF 6 (by decide) _ 141 rfl rfl).trans rfl);refine Ae rfl rfl (v:=(.tuple #[.agg (IV .u8 (Dr r2).1),.int .i64 (Dr r2).2])) (w1:=w') ?_ ⟨_,rfl,hBB,id,rfl,fun e=>(by cases e)⟩;simp[go_sem,q141]
          ·have q134:a'.tmps[134]?.getD undef=(.tuple #[.agg (IV .u8 (Dr r2).1),.int .i64 (Dr r2).2]):=gtx ((hF 7 (by decide) _ 134 rfl rfl).trans rfl);refine Ae rfl rfl (v:=(.agg (IV .u8 (Dr r2).1))) (w1:=w') ?_ ⟨_,rfl,hBB,id,rfl,fun e=>(by cases e)⟩;simp[go_sem,q134]
          ·have q134:a'.tmps[134]?.getD undef=(.tuple #[.agg (IV .u8 (Dr r2).1),.int .i64 (Dr r2).2]):=gtx ((hF 7 (by decide) _ 134 rfl rfl).trans rfl);refine Ae rfl rfl (v:=(.int .i64 (Dr r2).2)) (w1:=w') ?_ ⟨_,rfl,hBB,id,rfl,fun e=>(by cases e)⟩;simp[go_sem,q134]
          ·have q138:a'.tmps[138]?.getD undef=(.slice (some ⟨E.gw,0,none⟩) E.N E.cw):=gtx ((hF 3 (by decide) _ 138 rfl rfl).trans rfl);have q139:a'.tmps[139]?.getD undef=(.int .i64 (k:Int)):=gtx ((hF 4 (by decide) _ 139 rfl rfl).trans rfl);refine Ae rfl rfl (v:=(.pointer (some ⟨E.gw,k*128,none⟩))) (w1:=w') ?_ ⟨_,rfl,hBB,id,rfl,fun e=>(by cases e)⟩;simp[go_sem,q138,q139,hk0,hki,hkN]
          ·have q144:a'.tmps[144]?.getD undef=(.pointer (some ⟨E.gw,k*128,none⟩)):=gtx ((hF 10 (by decide) _ 144 rfl rfl).trans rfl);have q142:a'.tmps[142]?.getD undef=(.agg (IV .u8 (Dr r2).1)):=gtx ((hF 8 (by decide) _ 142 rfl rfl).trans rfl);obtain⟨csx,hcx,-,-,-⟩:=hR.s.load hkN;have hst2:∀ raw w',Dd raw 128 (k*128) E.gw (IV .u8 (Dr r2).1) w' (some (.cells csx 47 (0,0)))= .ok () (w'.setRow E.gw (Ap csx (k*128) (IV .u8 (Dr r2).1))):=fun raw w'=>Cj (by obtain⟨cs',h1,h2,h3⟩:=hR.s;rw[hcx]at h1;injection h1 with h4;injection h4 with h5;subst h5;have:=Nat.mul_le_mul_right 128 (show k+1<=E.N by omega);omega) (by simp) (by simp)
           obtain⟨hput,hput2⟩:=hBB.store HE.out hk1 hkN (HMS.out E.gw (by simp[A3.ms])) HRS.out hcx;refine jU rfl rfl (w1:=w'.setRow E.gw (Ap csx (k*128) (IV .u8 (Dr r2).1))) ?_ ⟨undef,rfl,hput,fun _=>hput2,trivial,fun _=>hput2⟩;simp[go_sem,q144,q142,hcx,hst2]
         intro val w13 hBB hF hFH;have y0:=hF 0 _ 135 (by decide) rfl rfl;have y1:=hF 1 _ 136 (by decide) rfl rfl;have y2:=hF 2 _ 137 (by decide) rfl rfl;have y3:=hF 3 _ 138 (by decide) rfl rfl;have y4:=hF 4 _ 139 (by decide) rfl rfl;have y5:=hF 5 _ 140 (by decide) rfl rfl;have y6:=hF 6 _ 141 (by decide) rfl rfl;have y7:=hF 7 _ 134 (by decide) rfl rfl;have y8:=hF 8 _ 142 (by decide) rfl rfl;have y9:=hF 9 _ 143 (by decide) rfl rfl;have y10:=hF 10 _ 144 (by decide) rfl rfl;simp only[]at y0 y1 y2 y3 y4 y5 y6 y7 y8 y9 y10;simp only[Bi,List.take,List.drop,List.take_succ_cons,List.drop_succ_cons,y0,y1,y2,y3,y4,y5,y6,y7,y8,y9,y10,Act.put,List.setIfInBounds_toArray,List.set_cons_zero,List.set_cons_succ];clear y0 y1 y2 y3 y4 y5 y6 y7 y8 y9 y10 hF;have HR14:=zA (hFH 11 (by decide) rfl);have HZ14:=zA hBB.z;have HB14:=zA hBB.b;clear hFH hBB HI0 HRS hld12;go_wp2_with fail;go_roundw
         case rel=>first|exact⟨k+1,by go_num,by omega,by omega,HR14,HZ14,HB14⟩|((repeat apply Exists.intro);exact⟨⟨k+1,by go_num,by omega,by omega,HR14,HZ14,HB14⟩,rfl⟩)
         case measure=>(show E.M+1-(k+1)<E.M+1-k);omega
       ·obtain rfl:k=E.M:=(by omega);have hkY:¬ (E.M:Int)<=E.Y:=(by have:=HM.out;omega);obtain⟨wq2,hwq2⟩:∃ x,x=wr:=⟨_,rfl⟩;subst hwq2;have HR2:Hid (RG E wq2 o done (Ck E.Y z) z.st.cl (tkZ z.T) I (enZ z.T)):=zA (by have:=HRk.out;rw[mV HM.out]at this;exact this);have HWF:Hid (∃ L,Un E.X E.Y E.A L z):=zA (by rw[HZL.out];exact qO hY1 hY9 HA.out HYES.out);have HAIM:Hid (∀ i:Nat,1<=i->i<E.M->tkZ z.T i=true->Wa E.N (Ck E.Y z) (I i)/\∀ q∈P9 (Ck E.Y z) (I i),0<=q/\q<E.N):=zA (fun i h1 h2 h3=>by
         obtain⟨L,hW⟩:=HWF.out;rw[Ky]at h3;obtain⟨t,ht⟩:=Option.isSome_iff_exists.1 h3;rw[HIT.out i t ht];exact lD (by omega) HEX.out.symm (by omega) hW (sL hW) ht)
        have HC:=zA (Zn HE.out HAIM.out wq2 HR2.out);clear HRk HB HR hlk hlkl;go_wp2_with fail;refine HC.out.mono ?_;rintro e wE ⟨u1,u2,u3,o1,o2,o3,rfl,k2,k3,k4,k5,k6⟩;have KOW:=zA k6;clear k6;have hzE:hat wE w.heap.size=_:=(k5.block _ (Aa HZk.out.1)).trans HZk.out.1;have HE1:=zA (Dc hzE (.slice (some ⟨E.gw,0,none⟩) E.N E.cw) u1 u2 u3);have P4:=Cl wE w.heap.size (.slice (some ⟨E.gw,0,none⟩) E.N E.cw) u1 u2 u3;have K:=zA (show _/\_/\_/\_/\_ from⟨k2,k3,k4,k5,P4⟩);have HQN:=zA (show _/\_/\_ from⟨k2.ne hzE (by decide),k3.ne hzE (by decide),k4.ne hzE (by decide)⟩);clear k2 k3 k4 k5 P4 HC;obtain⟨p1,q1,c1,rfl⟩:∃ p q c,u1= .slice p q c:=K.out.1.sl;obtain⟨p2,q2,c2,rfl⟩:∃ p q c,u2= .slice p q c:=K.out.2.1.sl;obtain⟨p3,q3,c3,rfl⟩:∃ p q c,u3= .slice p q c:=K.out.2.2.1.sl;have hzEl:=Aa hzE;go_wp2_with fail;refine Aw Fe rfl (cs:= #[.slice (some ⟨E.gw,0,none⟩) E.N E.cw,.slice p1 q1 c1,.slice p2 q2 c2,.slice p3 q3 c3]) rfl HE1.out rfl rfl (.inl ⟨HYES.out,?_⟩);obtain⟨k2,k3,k4,k5,P4⟩:=K.out;obtain⟨n1,n2,n3⟩:=HQN.out;obtain⟨L,hW⟩:=HWF.out;have hw:=HR2.out.s;rw[<-HEX.out]at hW;rw[gH hY1 hW HIT.out HM.out]at k2;rw[lE hY9 hW HM.out]at k3;rw[aV hN hW]at k4;have hzl:=HZL.out;rw[<-HEX.out]at hzl;have hms:=HMS.out E.gw (by simp[A3.ms]);have hgz:E.gw≠w.heap.size:=fun e=>by
         obtain⟨csz,hcsz,-⟩:=hw;rw[e,HZk.out.1]at hcsz;injection hcsz with h8
         injection h8 with h9 h10
         exact absurd h10 (by decide)
        have hwE:B8 wE E.gw E.N 0 (Ck E.Y z):=hw.same (k5.block _ hw.lt2);unfold Rq;rw[<-hzl];exact⟨E.gw,E.cw,_,_,_,o1,o2,o3,rfl,hwE.same (P4.block _ hwE.lt2 (by simpa using hgz)),k2.fr P4 n1,k3.fr P4 n2,k4.fr P4 n3,(HBk.out.trans (k5.mono HBk.out.size)).trans (P4.below (by have:=HBk.out.size;have:=k5.size;omega) (by simp)),hms,fun q hq=>Nat.le_trans HBk.out.size (KOW.out.1 q hq),fun q hq=>Nat.le_trans HBk.out.size (KOW.out.2.1 q hq),fun q hq=>Nat.le_trans HBk.out.size (KOW.out.2.2 q hq)⟩
theorem Zk(a:Option Addr)(N c:Nat)(w:World)(h:N<8\/4096<N):
  Calls Tryz.prog 45 #[.slice a N c] w fun e w'=>e= .returned (.tuple #[.agg Bd,.int .i64 120])/\Below w.heap.size w w':=by
 have HF:=zA (A6 w (.cells Bd 34)).1;have HB:=zA ((Below.refl w.heap.size w).alloc (Nat.le_refl _) (.cells Bd 34));cases d1:decide ((N:Int)<8)with
 |true=>
  have d2:(N:Int)<8:=of_decide_eq_true d1;clear h;go_enter Tryz.func45,Tryz.ntmps45;go_wp2_with fail;exact Aw Fe rfl (cs:=Bd) rfl HF.out rfl rfl ⟨rfl,HB.out⟩
 |false=>
  have d2:¬ (N:Int)<8:=of_decide_eq_false d1;have d3:(4096:Int)<(N:Int):=(by omega);clear h;go_enter Tryz.func45,Tryz.ntmps45;go_wp2_with fail;exact Aw Fe rfl (cs:=Bd) rfl HF.out rfl rfl ⟨rfl,HB.out⟩
theorem Zl(gi oi N ci:Nat)(S:Nat->List Int)(w:World)(hS:G9 w gi oi N S)(h8:8<=N)(hN:N<=4096)(h:(A1 (S 0)).2.2≠0\/(A1 (S 0)).1≠N):
  Calls Tryz.prog 45 #[.slice (some ⟨gi,oi,none⟩) N ci] w fun e w'=>e= .returned (.tuple #[.agg Bd,.int .i64 120])/\Below w.heap.size w w':=by
 obtain⟨cs,t,fr,hcs,hld⟩:=hS.load (show 0<N by omega);obtain⟨hl0,hb0⟩:=hS.len (show 0<N by omega);have HRS:=zA (fun W=>Tt (S 0) hl0 hb0 W);rw[Nat.zero_mul,Nat.add_zero]at hld;have hcl:=Aa hcs;have hz1:=(A6 w (.cells Bd 34)).1;have hc1:=(B7 w (.cells Bd 34) hcs).1;have hf1:=Be w (.cells Bd 34) [];have d1:¬ (N:Int)<8:=by omega
 have d2:¬ (4096:Int)<(N:Int):=by omega
 have d3:(0:Int)<(N:Int):=by omega
 have HF1:=zA hf1;obtain⟨X,Y,er,hR⟩:∃ X Y er,A1 (S 0)=(X,Y,er):=⟨_,_,_,rfl⟩;rw[hR]at h HRS;simp only at h;clear hS hf1 hR;go_enter Tryz.func45,Tryz.ntmps45;go_wp2_with fail;generalize hW1:w.alloc (.cells #[.slice none 0 0,.slice none 0 0,.slice none 0 0,.slice none 0 0] 34)=w1 at*;refine(HRS.out w1).mono ?_;rintro e w2 ⟨rfl,hb2⟩;have hz2:=(hop hb2 (show hat w1 w.heap.size=some (.cells Bd 34) by rw[<-hW1];exact(A6 w _).1)).1;have hgz:=Aa hz2;have HFIN:=zA (B7 (Q4 w2 w.heap.size (.slice none 0 0) (.slice none 0 0) (.slice none 0 0) (.slice none 0 0)) (.cells #[.int .i64 X,.int .i64 Y] 68) (Dc hz2 (.slice none 0 0) (.slice none 0 0) (.slice none 0 0) (.slice none 0 0))).1;have HB:=zA (((((show Fr [] w w1 by rw[<-hW1];exact Be w _ []).trans (Af hb2 [])).mono (ex':=[w.heap.size]) (by simp)).trans (Cl w2 w.heap.size (.slice none 0 0) (.slice none 0 0) (.slice none 0 0) (.slice none 0 0))).trans (Be _ (.cells #[.int .i64 X,.int .i64 Y] 68) [w.heap.size])|>.below (B:=w.heap.size) (Nat.le_refl _) (by simp));unfold Bd at hz2;clear hb2 hz1 hc1 hcs hld hW1 HF1 HRS;cases hed:(er==0)with
 |false=>
  have hedn:(er !=0)=true:=(by simpa using hed);clear h;go_wp2_with fail;exact Aw Fe rfl (cs:=Bd) rfl HFIN.out rfl rfl ⟨rfl,HB.out⟩
 |true=>
  have her:er=0:=(by simpa using hed);have hxn:(X !=(N:Int))=true:=by
   rcases h with h|h
   ·exact absurd her h
   ·simpa using h
  have hedn:(er !=0)=false:=(by simpa using her);clear h;go_wp2_with fail;exact Aw Fe rfl (cs:=Bd) rfl HFIN.out rfl rfl ⟨rfl,HB.out⟩
theorem bZ{v:Value}{N:Nat}{S:Nat->List Int}{w:World}(h:Hk w v N S):
  Calls Tryz.prog 45 #[v] w fun e w'=>Below w.heap.size w w'/\((B6 N S=0/\Rq w w' N N (A1 (S 0)).2.1 S e)\/(B6 N S≠0/\e= .returned (.tuple #[.agg Bd,.int .i64 (B6 N S)]))):=by
 obtain⟨a,ci,rfl,h3⟩:=h;by_cases c1:N<8\/4096<N
 ·have he:B6 N S=120:=(by unfold B6;rw[if_pos c1]);refine(Zk a N ci w c1).mono ?_;rintro e w' ⟨rfl,hb⟩;exact⟨hb,.inr ⟨by rw[he];decide,by rw[he]⟩⟩
 ·obtain⟨gi,oi,rfl,hS⟩:=h3 (by omega);by_cases c2:(A1 (S 0)).2.2≠0\/(A1 (S 0)).1≠N
  ·have he:B6 N S=120:=(by unfold B6;rw[if_neg c1,if_pos c2]);refine(Zl gi oi N ci S w hS (by omega) (by omega) c2).mono ?_;rintro e w' ⟨rfl,hb⟩;exact⟨hb,.inr ⟨by rw[he];decide,by rw[he]⟩⟩
  ·have e1:(A1 (S 0)).2.2=0:=Decidable.byContradiction fun h4=>c2 (.inl h4)
   have e2:(A1 (S 0)).1=N:=Decidable.byContradiction fun h4=>c2 (.inr h4)
   refine(cA gi oi N ci S w hS (by omega) (by omega) e1 e2).mono ?_;rintro e w' (⟨hr,ho⟩|⟨hr,rfl,hb⟩)
   ·rw[e2]at ho;obtain⟨gw,cw,v1,v2,v3,o1,o2,o3,k0,k1,k2,k3,k4,k5,k6⟩:=id ho;exact⟨k5,.inl ⟨by unfold B6;rw[if_neg c1,if_neg c2,if_pos hr],ho⟩⟩
   ·have he:B6 N S=121:=(by unfold B6;rw[if_neg c1,if_neg c2,if_neg hr]);exact⟨hb,.inr ⟨by rw[he];decide,by rw[he]⟩⟩
theorem jB{v:Value}{N:Nat}{S:Nat->List Int}{w:World}(h:Hk w v N S):
  Calls Tryz.prog 45 #[v] w fun e w'=>Below w.heap.size w w'/\
   ((B6 N S=0/\∃ gw cw v1 v2 v3 o1 o2 o3,e= .returned (.tuple #[.agg #[.slice (some ⟨gw,0,none⟩) N cw,v1,v2,v3],.int .i64 0])/\B8 w' gw N 0 (C3 N S)/\Bg w' v1 o1 (Cc N S)/\Bg w' v2 o2 (Ho N S)/\Bg w' v3 o3 (Hn N S)/\w.heap.size<=gw/\Fa w.heap.size o1/\Fa w.heap.size o2/\Fa w.heap.size o3)\/
    (B6 N S≠0/\e= .returned (.tuple #[.agg Bd,.int .i64 (B6 N S)]))):=by
 refine(bZ h).mono ?_;rintro e w' ⟨hb,⟨he,gw,cw,v1,v2,v3,o1,o2,o3,rfl,k1,k2,k3,k4,-,k5⟩|⟨he,rfl⟩⟩
 ·refine⟨hb,.inl ⟨he,gw,cw,v1,v2,v3,o1,o2,o3,rfl,k1,?_,?_,?_,k5⟩⟩
  ·unfold Cc;rw[if_pos he];exact k2
  ·unfold Ho;rw[if_pos he];exact k3
  ·unfold Hn;rw[if_pos he];exact k4
 ·exact⟨hb,.inr ⟨he,rfl⟩⟩
def wrR(W:Nat->List Int):List Int->DS->Int×DS
 |[],d=>(0,d)
 |n::r,d=>if (Bm n.toNat (W n.toNat) d).1=0 then wrR W r (Bm n.toNat (W n.toNat) d).2 else Bm n.toNat (W n.toNat) d
noncomputable def G1(N:Nat)(d:DS):Int×DS:=if d.off=true then(22,d)else if B6 N d.S≠0 then(B6 N d.S,d)else wrR (C3 N d.S) (Cc N d.S) d
theorem oM{W:Nat->List Int}{L:List Int}{k:Nat}(hk:k<L.length)(d:DS):wrR W (L.drop k) d=if (Bm (nth L k).toNat (W (nth L k).toNat) d).1=0 then wrR W (L.drop (k+1)) (Bm (nth L k).toNat (W (nth L k).toNat) d).2 else Bm (nth L k).toNat (W (nth L k).toNat) d:=by
 have e:L.drop k=nth L k::L.drop (k+1):=by
  rw[List.drop_eq_getElem_cons hk];unfold nth;rw[List.getElem?_eq_getElem hk];rfl
 rw[e];rfl
theorem rV{W:Nat->List Int}{L:List Int}(d:DS):wrR W (L.drop L.length) d=(0,d):=by
 rw[List.drop_length];rfl
theorem cI{n:Nat}{s:List Int}{d:DS}{c:Int}(h0:0<=d.cnt)(h1:d.cnt<=c)(h2:0<=d.left)(h3:d.left<=1000000000000):
  0<=(Bm n s d).2.cnt/\(Bm n s d).2.cnt<=c+1/\0<=(Bm n s d).2.left/\(Bm n s d).2.left<=1000000000000:=by
 unfold Bm;split
 ·exact⟨h0,by show d.cnt<=c+1;omega,h2,h3⟩
 ·split
  ·exact⟨h0,by show d.cnt<=c+1;omega,h2,h3⟩
  ·rename_i h4 h5
   refine⟨by show 0<=d.cnt+1;omega,by show d.cnt+1<=c+1;omega,?_,?_⟩
   ·show 0<=if d.armed=true then d.left-1 else d.left
    split
    ·rename_i h6
     have:d.left≠0:=fun e=>h5 ⟨h6,e⟩
     omega
    ·exact h2
   ·show(if d.armed=true then d.left-1 else d.left)<=_
    split<;>omega
theorem Bg.apart{w:World}{v:Value}{ob:Option Nat}{xs:List Int}{gd gs N:Nat}{d:DS}(h:Bg w v ob xs)(hk:RK w gd gs N d):∀ g,ob=some g->g∉[gd,gs]:=by
 rintro g rfl;rcases h with ⟨-,h,-⟩|⟨g',off,c,cs,-,h1,h2,-⟩
 ·cases h
 ·injection h1 with h1
  subst h1;obtain⟨cs',k1,-⟩:=hk.hs;intro hm;rcases List.mem_cons.1 hm with e|hm
  ·subst e;rw[hk.hd]at h2;injection h2 with h2
   injection h2 with _ h2
   revert h2;decide
  ·rcases List.mem_cons.1 hm with e|hm
   ·subst e;rw[k1]at h2;injection h2 with h2
    injection h2 with _ h2
    revert h2;decide
   ·cases hm
structure Sim (d r:DS):Prop where
 s:r.S=d.S
 c:r.cnt=d.cnt
 o:r.off=d.off
 e:d.off=false->r=d
theorem Sim.refl(d:DS):Sim d d:=⟨rfl,rfl,rfl,fun _=>rfl⟩
theorem jW{d r:DS}(h:Sim d r)(n:Nat)(s:List Int):(Bm n s r).1=(Bf n s d).1/\Sim (Bf n s d).2 (Bm n s r).2:=by
 by_cases ho:d.off=true
 ·have h1:Bm n s r=(22,r):=(by unfold Bm;rw[if_pos (by rw[h.o];exact ho)]);have h2:Bf n s d=(22,d):=(by unfold Bf;rw[if_pos ho]);rw[h1,h2];exact⟨rfl,h⟩
 ·have ho':d.off=false:=(by simpa using ho);have he:=h.e ho';subst he;unfold Bm Bf;rw[if_neg ho,if_neg ho];by_cases ha:r.armed=true/\r.left=0
  ·rw[if_pos ha,if_pos ha];exact⟨rfl,rfl,rfl,rfl,fun hh=>(by cases hh)⟩
  ·rw[if_neg ha,if_neg ha];exact⟨rfl,Sim.refl _⟩
theorem oN{W:Nat->List Int}:∀ (L:List Int) {d r:DS},Sim d r->(wrR W L r).1=(wrD W L d).1/\Sim (wrD W L d).2 (wrR W L r).2
 |[],d,r,h=>⟨rfl,h⟩
 |n::L,d,r,h=>by
  have h1:=jW h n.toNat (W n.toNat)
  show(if (Bm n.toNat (W n.toNat) r).1=0 then wrR W L (Bm n.toNat (W n.toNat) r).2 else Bm n.toNat (W n.toNat) r).1=(if (Bf n.toNat (W n.toNat) d).1=0 then wrD W L (Bf n.toNat (W n.toNat) d).2 else Bf n.toNat (W n.toNat) d).1/\
   Sim (if (Bf n.toNat (W n.toNat) d).1=0 then wrD W L (Bf n.toNat (W n.toNat) d).2 else Bf n.toNat (W n.toNat) d).2 (if (Bm n.toNat (W n.toNat) r).1=0 then wrR W L (Bm n.toNat (W n.toNat) r).2 else Bm n.toNat (W n.toNat) r).2
  rw[h1.1];by_cases h0:(Bf n.toNat (W n.toNat) d).1=0
  ·rw[if_pos h0,if_pos h0];exact oN L h1.2
  ·rw[if_neg h0,if_neg h0];exact h1
theorem Rl{N:Nat}{d r:DS}(h:Sim d r):(G1 N r).1=(E5 N d).1/\Sim (E5 N d).2 (G1 N r).2:=by
 unfold G1 E5;rw[h.o,h.s];by_cases ho:d.off=true
 ·rw[if_pos ho,if_pos ho];exact⟨rfl,h⟩
 ·rw[if_neg ho,if_neg ho];by_cases he:B6 N d.S≠0
  ·rw[if_pos he,if_pos he];exact⟨rfl,h⟩
  ·rw[if_neg he,if_neg he];exact oN _ h
theorem mX{d r:DS}(h:Sim d r):Oy r=Oy d:=by
 unfold Oy;rw[h.s,h.c]
theorem Zs(n:Nat)(s:List Int)(d:DS):(Bm n s d).1=0\/(Bm n s d).1=22:=by
 unfold Bm;split
 ·exact .inr rfl
 ·split
  ·exact .inr rfl
  ·exact .inl rfl
theorem Vk(N:Nat)(S:Nat->List Int):(Cc N S).length<=4900:=by
 unfold Cc;split
 ·rename_i he
  obtain⟨h8,hN9,-⟩:=So he;have hwl:=Um (N:=N) (A1 (S 0)).2.1 (C3 N S) S (Bh N (A1 (S 0)).2.1 S).st.fm;omega
 ·simp
theorem Lg.later{w w':World}{gw N c:Nat}{v1 v2 v3:Value}{o1 o2 o3:Option Nat}{S:Nat->List Int}{xs ys zs:List Int}{ex:List Nat}{cs:Array Value}(h:Lg w (.slice (some ⟨gw,0,none⟩) N c) v1 v2 v3 o1 o2 o3 N S xs ys zs)(hc:hat w gw=some (.cells cs 47))(hf:Fr ex w w')(h0:gw∉ex)(h1:∀ q,o1=some q->q∉ex)(h2:∀ q,o2=some q->q∉ex)(h3:∀ q,o3=some q->q∉ex):Lg w' (.slice (some ⟨gw,0,none⟩) N c) v1 v2 v3 o1 o2 o3 N S xs ys zs:=by
 obtain⟨⟨a,ci,e,hi⟩,q1,q2,q3,n0,n1,n2,n3⟩:=h;refine⟨⟨a,ci,e,fun hN=>?_⟩,q1.fr hf h1,q2.fr hf h2,q3.fr hf h3,n0,n1,n2,n3⟩;injection e with e1 e2 e3
 obtain⟨gi,oi,ea,hs⟩:=hi hN;refine⟨gi,oi,ea,hs.same ?_⟩;rw[ea]at e1;injection e1 with e1
 injection e1 with e4 e5
 subst e4;exact hf.block gw (Aa hc) h0
def fD(N:Nat)(d:DS)(gd gs:Nat)(w:World)(e:Ending)(w':World):Prop:=∃ v0 v1 v2 v3 o1 o2 o3 M W xs ys zs,e= .returned (.tuple #[.agg #[v0,v1,v2,v3],.int .i64 (G1 N d).1])/\Lg w' v0 v1 v2 v3 o1 o2 o3 M W xs ys zs/\
 ((G1 N d).1=0->M=On N d.S/\W=C3 N d.S/\xs=Cc N d.S/\ys=Ho N d.S/\zs=Hn N d.S)/\((G1 N d).1≠0->M=0/\xs=[]/\ys=[]/\zs=[])/\RK w' gd gs N (G1 N d).2/\Fr [gd,gs] w w'/\∀ ex w2,(∀ g∈ex,g<w.heap.size)->Fr ex w' w2->Lg w2 v0 v1 v2 v3 o1 o2 o3 M W xs ys zs
theorem fD.nil{N:Nat}{d d':DS}{gd gs:Nat}{w w':World}{E:Int}(hr:G1 N d=(E,d'))(hE:E≠0)(hk:RK w' gd gs N d')(hf:Fr [gd,gs] w w'):fD N d gd gs w (.returned (.tuple #[.agg Bd,.int .i64 E])) w':=
 ⟨.slice none 0 0,.slice none 0 0,.slice none 0 0,.slice none 0 0,none,none,none,0,fun _=>[],[],[],[],by rw[hr];rfl,Zi _ _,fun h=>absurd (by rw[hr]at h;exact h) hE,fun _=>⟨rfl,rfl,rfl,rfl⟩,by rw[hr];exact hk,hf,fun _ _ _ _=>Zi _ _⟩
theorem Tw{w:World}{gd gs N:Nat}{d:DS}(h:RK w gd gs N d)(hk:DOk d)(hc:d.cnt<=900000000000)(hN:N<=4096):Calls Tryz.prog 26 #[.pointer (some ⟨gd,0,none⟩)] w (fD N d gd gs w):=by
 have H:=zA h;have HK:=zA hk;clear h hk;have hz:hat (w.alloc (.cells Bd 34)) w.heap.size=some (.cells Bd 34):=(A6 w _).1;have hf0:=Do w (.cells Bd 34) [];have HF0:=zA hf0;have H0:=zA (H.out.fr hf0 (by simp) (by simp));have hnd:w.heap.size≠gd/\w.heap.size≠gs:=⟨fun e=>by have:=Aa H.out.hd;omega,fun e=>by have:=H.out.hs.lt;omega⟩;clear hf0;unfold Bd at hz HF0 H0;go_enter Tryz.func26,Tryz.ntmps26;go_wp2_with fail;generalize w.alloc (.cells #[.slice none 0 0,.slice none 0 0,.slice none 0 0,.slice none 0 0] 34)=w0 at*;obtain⟨gR,hgR⟩:∃ gR,gR=w.heap.size:=⟨_,rfl⟩;rw[<-hgR]at hz hnd ⊢;have HGR:=zA hgR;clear hgR;have hzl:=Aa hz;refine(iY H0.out).mono ?_;rintro e w1 ⟨rfl,rfl⟩;cases ho:d.off with
 |true=>
  have HW:Hid (G1 N d=(22,d)):=zA (by unfold G1;rw[if_pos ho]);have HFp:=zA (Dc hz (.slice none 0 0) (.slice none 0 0) (.slice none 0 0) (.slice none 0 0));go_wp2_with fail;refine Aw Fe rfl (cs:=Bd) rfl HFp.out rfl rfl (fD.nil HW.out (by decide) ?_ ?_)
  ·exact H0.out.fr (Cl w1 gR _ _ _ _) (by simpa using hnd.1.symm) (by simpa using hnd.2.symm)
  ·exact((HF0.out.mono (ex':=[gR]) (by simp)).trans (Cl w1 gR _ _ _ _)).past (fun k hk=>by simp at hk;subst hk;exact .inr (by rw[HGR.out];exact Nat.le_refl _))
 |false=>
  go_wp2_with fail;refine(Ku H0.out hN).mono ?_;rintro e w2 ⟨vi,oi,rfl,hws,hb2,-⟩;have HF2:=zA (HF0.out.trans (Af hb2 []));have hz2:=(hop hb2 hz).1;have HW2:=zA hws;have H2:=zA (H0.out.fr (Af hb2 []) (by simp) (by simp));clear hws hb2 hz hzl;have hzl:=Aa hz2;go_wp2_with fail;refine(jB HW2.out.img).mono ?_;rintro e w3 ⟨hb3,⟨he,gw,cw,v1,v2,v3,o1,o2,o3,rfl,k0,k1,k2,k3,k4⟩|⟨he,rfl⟩⟩
  ·have HF3:=zA (HF2.out.trans (Af hb3 []));have hz3:=(hop hb3 hz2).1;have H3:=zA (H2.out.fr (Af hb3 []) (by simp) (by simp));have HGW:=zA (show gd<gw/\gs<gw/\gR<gw from by have h1:=Aa H2.out.hd;have h2:=H2.out.hs.lt;omega);obtain⟨a1,c1,rfl⟩:=k1.slice;obtain⟨a2,c2,rfl⟩:=k2.slice;obtain⟨a3,c3,rfl⟩:=k3.slice;have hxl:=Vk N d.S;have HR0:=zA k0;have HR1:=zA k1;have HR2:=zA k2;have HR3:=zA k3;have HW:Hid (G1 N d=wrR (C3 N d.S) (Cc N d.S) d):=zA (by unfold G1;rw[if_neg (by rw[ho];decide),if_neg (fun h=>h he)]);have HE:=zA he;have HXA:Hid (∀ k,k<(Cc N d.S).length->∃ j:Nat,nth (Cc N d.S) k=j/\j<N):=zA (fun k hk=>Yz hk)
   have HOW:Hid (w.heap.size<=gw/\Fa w.heap.size o1/\Fa w.heap.size o2/\Fa w.heap.size o3):=zA (by
    have h1:=HF2.out.size;exact⟨Nat.le_trans h1 k4.1,fun q hq=>Nat.le_trans h1 (k4.2.1 q hq),fun q hq=>Nat.le_trans h1 (k4.2.2.1 q hq),fun q hq=>Nat.le_trans h1 (k4.2.2.2 q hq)⟩)
   clear hb3 k0 k1 k2 k3 k4 hz2 hzl he;have hzl:=Aa hz3;generalize hXX:Cc N d.S=xs at*;generalize hYY:Ho N d.S=ys at*;generalize hZZ:Hn N d.S=zs at*;have HXX:=zA hXX;have HYY:=zA hYY;have HZZ:=zA hZZ;clear hXX hYY hZZ;have hfA:=Do w3 (.cells #[.slice (some ⟨gw,0,none⟩) N cw,.slice a1 xs.length c1,.slice a2 ys.length c2,.slice a3 zs.length c3] 34) [];have hgA:=(A6 w3 (.cells #[.slice (some ⟨gw,0,none⟩) N cw,.slice a1 xs.length c1,.slice a2 ys.length c2,.slice a3 zs.length c3] 34)).1;have HF4:=zA (HF3.out.trans hfA);have H4:=zA (H3.out.fr hfA (by simp) (by simp));have hz4:=(hfA.block _ hzl (by simp)).trans hz3;have HW4:=zA (HR0.out.same (hfA.block _ HR0.out.lt (by simp)));have HQ1:=zA (HR1.out.fr hfA (by simp));have HQ2:=zA (HR2.out.fr hfA (by simp));have HQ3:=zA (HR3.out.fr hfA (by simp))
   have HDN:Hid (gd≠w3.heap.size/\gs≠w3.heap.size/\gR≠w3.heap.size):=zA (by
    have h1:=Aa H3.out.hd;have h2:=H3.out.hs.lt;omega)
   have HZ3:=zA hzl;have HGWL:=zA HR0.out.lt;clear hfA hz3 hzl H3 H2 HF2 HF3 HR0 HR1 HR2 HR3;go_upto_region 6 with fail;generalize w3.alloc (.cells #[.slice (some ⟨gw,0,none⟩) N cw,.slice a1 xs.length c1,.slice a2 ys.length c2,.slice a3 zs.length c3] 34)=w4 at*;generalize w3.heap.size=gr at*;have hsl:=Aa hgA;go_wp2_with fail;generalize hS0:C3 N d.S=RS at*;have HS0:=zA hS0;clear hS0;go_loopw [6] (fun v wr=>∃ k:Nat,v= .int .i64 k/\k<=xs.length/\∃ dk:DS,Hid (RK wr gd gs N dk)/\Hid (0<=dk.cnt/\dk.cnt<=d.cnt+k/\0<=dk.left/\dk.left<=1000000000000)/\Hid (wrR RS xs d=wrR RS (xs.drop k) dk)/\Hid (Fr [gd,gs] w4 wr)) (fun v wr=>xs.length-(intOf v).toNat)
   case atStart=>exact⟨0,rfl,Nat.zero_le _,d,H4,zA (by obtain⟨q1,q2,q3,q4⟩:=HK.out;exact⟨q1,by omega,q3,q4⟩),zA rfl,zA (Fr.refl _ _)⟩
   case round=>
    obtain⟨k,rfl,hk,dk,HD,HN,HEQ,HF⟩:=hrel;have hg:=(HF.out.block gr (Aa hgA) (by have:=HDN.out;simp;omega)).trans hgA;have hz5:=(HF.out.block gR (Aa hz4) (by simpa using hnd)).trans hz4;have hgl:=Aa hg;have hzl:=Aa hz5;by_cases hkN:k<xs.length
    ·have hk0:(0:Int)<=(k:Int):=Int.natCast_nonneg _;have hk1:(k:Int)<(xs.length:Int):=(by omega);have HQr:=zA (HQ1.out.fr HF.out (HQ1.out.apart H4.out));have HWr:=zA (HW4.out.same (HF.out.block gw HW4.out.lt (by have:=HGW.out;simp;omega)));obtain⟨j,hj,hjN⟩:=HXA.out k hkN;obtain⟨gq,offq,cq,csq,eq,-,hcq,hxq⟩:=HQr.out.cell (k:=k) hkN;injection eq with e1 e2 e3
     subst e1 e3;rw[hj]at hxq;obtain⟨csW,hcW,hlW,hlen⟩:=HWr.out.load hjN;have hj0:(0:Int)<=(j:Int):=Int.natCast_nonneg _;have hj1:(j:Int)<(N:Int):=(by omega);have HLEN:=zA hlen;obtain⟨n1,n2,n3,n4⟩:=HN.out;have hwr:=fun(wX:World) (hX:RK wX gd gs N dk)=>cJ hX ⟨n1,by omega,n3,n4⟩ hjN hN HLEN.out.1 HLEN.out.2
     have HWR:=zA hwr;have HJ:=zA hj;have HSTEP:=zA (oM (W:=RS) hkN dk);have HOK:=zA (cI (n:=j) (s:=RS j) n1 n2 n3 n4);clear hwr hj hlen n1 n2 n3 n4;generalize hww:Bm j (RS j) dk=ww at*;obtain⟨cc,dq⟩:=ww;have HD1:=zA (HD.out.fr (Bb (Fr.refl [] wr)) (by simp) (by simp));have HG:=zA hg;have HZ5:=zA hz5;have HWW:=zA hww;clear hww;go_wp2_with fail;go_still_tail 15,(by kernel_rfl)
     go_wp2_with fail;refine(HWR.out _ HD1.out).mono ?_;rintro e w6 ⟨rfl,hdk6,hf6⟩;have HD6:=zA hdk6;have HF6:=zA (HF.out.trans ((Bb (Fr.refl [gd,gs] wr)).trans hf6));have hg6:=(HF6.out.block gr (Aa hgA) (by have:=HDN.out;simp;omega)).trans hgA;have hz6:=(HF6.out.block gR (Aa hz4) (by simpa using hnd)).trans hz4;clear hdk6 hf6 hcW hcq hxq hlW hg hz5 hgl hzl HD1 HWR HQr HWr;have hgl:=Aa hg6;have hzl:=Aa hz6;have HTWO:=Zs j (RS j) dk;rw[HWW.out]at HTWO;rcases HTWO with h0|h0<;>(change cc=_ at h0;subst h0)
     ·go_wp2_with fail;go_roundw
      case rel=>
       refine⟨k+1,by go_num,by omega,dq,HD6,zA (by have:=HOK.out;omega),zA ?_,HF6⟩;rw[HEQ.out,HSTEP.out,HJ.out];show(if (Bm j (RS j) dk).1=0 then wrR RS (xs.drop (k+1)) (Bm j (RS j) dk).2 else Bm j (RS j) dk)=_
       rw[HWW.out,if_pos rfl]
      case measure=>(show xs.length-(k+1)<xs.length-k);omega
     ·have HFp:=zA (Dc hz6 (.slice none 0 0) (.slice none 0 0) (.slice none 0 0) (.slice none 0 0));have hfp:=Cl w6 gR (.slice none 0 0) (.slice none 0 0) (.slice none 0 0) (.slice none 0 0);have HFq:=zA ((((HF4.out.mono (ex':=[gR,gd,gs]) (by simp)).trans (HF6.out.mono (by simp))).trans (hfp.mono (by simp))).past (ex':=[gd,gs]) (fun k hk=>by
       simp at hk ⊢;rcases hk with rfl|rfl|rfl
       ·exact .inr (by rw[HGR.out];exact Nat.le_refl _)
       ·exact .inl (.inl rfl)
       ·exact .inl (.inr rfl)))
      have HDq:=zA (HD6.out.fr hfp (by simpa using hnd.1.symm) (by simpa using hnd.2.symm))
      have HEND:Hid (G1 N d=(22,dq)):=zA (by
       rw[HW.out,HEQ.out,HSTEP.out,HJ.out];show(if (Bm j (RS j) dk).1=0 then _ else Bm j (RS j) dk)=_
       rw[HWW.out,if_neg (show ¬ ((22:Int)=0) by decide)])
      clear hfp;go_wp2_with fail;exact Aw Fe rfl (cs:=Bd) rfl HFp.out rfl rfl (fD.nil HEND.out (by decide) HDq.out HFq.out)
    ·have hkk:k=xs.length:=(by omega);clear hk hkN;subst hkk;have HFp:=zA (Dc hz5 (.slice (some ⟨gw,0,none⟩) N cw) (.slice a1 xs.length c1) (.slice a2 ys.length c2) (.slice a3 zs.length c3));have hfp:=Cl wr gR (.slice (some ⟨gw,0,none⟩) N cw) (.slice a1 xs.length c1) (.slice a2 ys.length c2) (.slice a3 zs.length c3);have HFq:=zA ((((HF4.out.mono (ex':=[gR,gd,gs]) (by simp)).trans (HF.out.mono (by simp))).trans (hfp.mono (by simp))).past (ex':=[gd,gs]) (fun k hk=>by
      simp at hk ⊢;rcases hk with rfl|rfl|rfl
      ·exact .inr (by rw[HGR.out];exact Nat.le_refl _)
      ·exact .inl (.inl rfl)
      ·exact .inl (.inr rfl)))
     have HDq:=zA (HD.out.fr hfp (by simpa using hnd.1.symm) (by simpa using hnd.2.symm))
     have HRr:Hid (Lg (Q4 wr gR (.slice (some ⟨gw,0,none⟩) N cw) (.slice a1 xs.length c1) (.slice a2 ys.length c2) (.slice a3 zs.length c3)) (.slice (some ⟨gw,0,none⟩) N cw) (.slice a1 xs.length c1) (.slice a2 ys.length c2) (.slice a3 zs.length c3) o1 o2 o3 N RS xs ys zs):=zA (by
      have hr:∀ {v:Value} {o:Option Nat} {l:List Int},Bg w4 v o l->Bg (Q4 wr gR (.slice (some ⟨gw,0,none⟩) N cw) (.slice a1 xs.length c1) (.slice a2 ys.length c2) (.slice a3 zs.length c3)) v o l:=fun h=>by
       have h1:=h.fr HF.out (h.apart H4.out);refine h1.fr hfp (fun g hg hm=>?_);simp at hm;subst hm;rcases h1 with ⟨-,k,-⟩|⟨g',off,c,cs,-,k1,k2,-⟩
       ·rw[k]at hg;cases hg
       ·rw[k1]at hg;injection hg with hg
        subst hg;rw[hz5]at k2;injection k2 with k2
        injection k2 with _ k2
        revert k2;decide
      refine⟨F6 ((HW4.out.same (HF.out.block gw HW4.out.lt (by have:=HGW.out;simp;omega))).same (hfp.block gw (by have:=HF.out.size;have:=HW4.out.lt;omega) (by have:=HGW.out;simp;omega))),hr HQ1.out,hr HQ2.out,hr HQ3.out,by omega,by omega,?_,?_⟩
      ·have h1:=Mk 4096 (fun p=>((Bh N (A1 (d.S 0)).2.1 d.S).T p.toNat).isSome);rw[<-HYY.out];unfold Ho;rw[if_pos HE.out];change (Dz _).length<=_ at h1;omega
      ·have h1:=Mk 4096 (Bh N (A1 (d.S 0)).2.1 d.S).st.cl;rw[<-HZZ.out];unfold Hn;rw[if_pos HE.out];change (Dz _).length<=_ at h1;omega)
     have HFB:=zA hfp;clear hfp;go_wp2_with fail;have hend:=HEQ.out;rw[rV, <-HW.out]at hend;refine Aw Fe rfl (cs:= #[.slice (some ⟨gw,0,none⟩) N cw,.slice a1 xs.length c1,.slice a2 ys.length c2,.slice a3 zs.length c3]) rfl HFp.out rfl rfl ⟨_,_,_,_,o1,o2,o3,N,RS,xs,ys,zs,?_,HRr.out,fun _=>⟨by unfold On;rw[if_pos HE.out],HS0.out.symm,HXX.out.symm,HYY.out.symm,HZZ.out.symm⟩,fun h=>absurd (by rw[hend]) h,by rw[hend];exact HDq.out,HFq.out,fun ex wz hex hfz=>?_⟩
     ·rw[hend];rfl
     ·obtain⟨j0,j1,j2,j3⟩:=HOW.out;have hI:=HRr.out;obtain⟨csw,hcsw,-⟩:∃ cs,hat (Q4 wr gR (.slice (some ⟨gw,0,none⟩) N cw) (.slice a1 xs.length c1) (.slice a2 ys.length c2) (.slice a3 zs.length c3)) gw=some (.cells cs 47)/\True:=by
       obtain⟨cs,h1,-⟩:=(HW4.out.same (HF.out.block gw HW4.out.lt (by have:=HGW.out;simp;omega)));exact⟨cs,(HFB.out.block gw (Aa h1) (by have:=HGW.out;simp;omega)).trans h1,trivial⟩
      exact hI.later hcsw hfz (fun hm=>by have:=hex gw hm;omega) (fun q hq hm=>by have:=hex q hm;have:=j1 q hq;omega) (fun q hq hm=>by have:=hex q hm;have:=j2 q hq;omega) (fun q hq hm=>by have:=hex q hm;have:=j3 q hq;omega)
  ·have HF3:=zA (HF2.out.trans (Af hb3 []));have hz3:=(hop hb3 hz2).1;have H3:=zA (H2.out.fr (Af hb3 []) (by simp) (by simp));have HW:Hid (G1 N d=(B6 N d.S,d)):=zA (by unfold G1;rw[if_neg (by rw[ho];decide),if_pos he]);have HE:=zA he;have HFp:=zA (B7 _ (.cells #[.slice none 0 0,.slice none 0 0,.slice none 0 0,.slice none 0 0] 34) (Dc hz3 (.slice none 0 0) (.slice none 0 0) (.slice none 0 0) (.slice none 0 0))).1;have hfp:=Cl w3 gR (.slice none 0 0) (.slice none 0 0) (.slice none 0 0) (.slice none 0 0);have hfq:=Do (Q4 w3 gR (.slice none 0 0) (.slice none 0 0) (.slice none 0 0) (.slice none 0 0)) (.cells #[.slice none 0 0,.slice none 0 0,.slice none 0 0,.slice none 0 0] 34) [];have HFq:=zA ((((HF3.out.mono (ex':=[gR]) (by simp)).trans hfp).trans (hfq.mono (by simp))).past (ex':=[gd,gs]) (fun k hk=>by simp at hk;subst hk;exact .inr (by rw[HGR.out];exact Nat.le_refl _)));have HDq:=zA ((H3.out.fr hfp (by simpa using hnd.1.symm) (by simpa using hnd.2.symm)).fr hfq (by simp) (by simp));clear hfp hfq hz2 hzl he hb3;have hzl:=Aa hz3;rcases lW HE.out with hor|hor
   all_goals
    rw[hor]at HW ⊢;unfold Bd;go_wp2_with fail;exact Aw Fe rfl (cs:=Bd) rfl HFp.out rfl rfl (fD.nil HW.out (by decide) HDq.out HFq.out)
theorem U9(S W:Nat->List Int)(n:Nat)(r:List Int):Ft (Ay S n (W n)) W r=Ft S W ((n:Int)::r):=by
 funext j
 unfold Ft Ay;by_cases h:(j:Int)∈r
 ·rw[if_pos h,if_pos (List.mem_cons_of_mem _ h)]
 ·rw[if_neg h];by_cases hj:j=n
  ·subst hj;rw[if_pos rfl,if_pos List.mem_cons_self]
  ·rw[if_neg hj,if_neg (fun hm=>by
    rcases List.mem_cons.1 hm with h2|h2
    ·omega
    ·exact h h2)]
theorem Va(S W:Nat->List Int):Ft S W []=S:=by funext j;unfold Ft;simp
theorem aG{W:Nat->List Int}:∀ (L:List Int) (m:Nat) (d:DS),(∀ x∈L,∃ j:Nat,x=j)->d.off=false->d.armed=true->d.left=m->
  wrD W L d=if L.length<=m then(0,{d with S:=Ft d.S W L,cnt:=d.cnt+L.length,left:=(m-L.length:Nat)})else(22,⟨Ft d.S W (L.take m),d.cnt+m,true,false,0⟩)
 |[],m,d,_,_,_,hl=>by
  show(0,d)=_
  rw[if_pos (by simp),Va];cases d;simp at hl ⊢;exact hl
 |x::r,m,d,hL,ho,ha,hl=>by
  obtain⟨n,rfl⟩:=hL x List.mem_cons_self;show(if (Bf (n:Int).toNat (W (n:Int).toNat) d).1=0 then wrD W r (Bf (n:Int).toNat (W (n:Int).toNat) d).2 else Bf (n:Int).toNat (W (n:Int).toNat) d)=_
  cases m with
  |zero=>
   have hw:Bf (n:Int).toNat (W (n:Int).toNat) d=(22,{d with off:=true,armed:=false,left:=0}):=by
    unfold Bf;rw[if_neg (by rw[ho];decide),if_pos ⟨ha,by rw[hl];rfl⟩]
   rw[hw,if_neg (show ¬ ((22:Int)=0) by decide),if_neg (by simp),List.take_zero,Va];cases d;simp
  |succ m=>
   have hw:Bf (n:Int).toNat (W (n:Int).toNat) d=(0,{d with S:=Ay d.S n (W n),cnt:=d.cnt+1,left:=d.left-1}):=by
    unfold Bf;rw[if_neg (by rw[ho];decide),if_neg (fun h=>by rw[hl]at h;omega),if_pos ha];rfl
   rw[hw,if_pos rfl];show wrD W r {d with S:=Ay d.S n (W n),cnt:=d.cnt+1,left:=d.left-1}=_
   rw[aG r m {d with S:=Ay d.S n (W n),cnt:=d.cnt+1,left:=d.left-1} (fun x hx=>hL x (List.mem_cons_of_mem _ hx)) ho ha (by show d.left-1=_;rw[hl];omega)];simp only[List.length_cons,List.take_succ_cons];by_cases h:r.length<=m
   ·rw[if_pos h,if_pos (by omega)];show((0:Int),({d with S:=Ft (Ay d.S n (W n)) W r,cnt:=d.cnt+1+r.length,left:=((m-r.length:Nat):Int)}:DS))=_
    rw[U9,show d.cnt+1+(r.length:Int)=d.cnt+((r.length+1:Nat):Int) by omega,show m-r.length=m+1-(r.length+1) by omega]
   ·rw[if_neg h,if_neg (by omega)];show((22:Int),(⟨Ft (Ay d.S n (W n)) W (r.take m),d.cnt+1+m,true,false,0⟩:DS))=_
    rw[U9,show d.cnt+1+(m:Int)=d.cnt+((m+1:Nat):Int) by omega]
theorem iE{N:Nat}{S:Nat->List Int}:∀ x∈Cc N S,∃ j:Nat,x=j:=by
 intro x hx;unfold Cc at hx;split at hx
 ·exact K1 hx
 ·cases hx
theorem kM{N:Nat}{S:Nat->List Int}(hS:∀ j,j<N->(S j).length=128/\A4 (S j))(he:B6 N S=0)(n:Nat):
  B6 N (Ft S (C3 N S) ((Cc N S).take n))=0/\C3 N (Ft S (C3 N S) ((Cc N S).take n))=C3 N S/\Cc N (Ft S (C3 N S) ((Cc N S).take n))=(Cc N S).drop n/\
   Ho N (Ft S (C3 N S) ((Cc N S).take n))=Ho N S/\Hn N (Ft S (C3 N S) ((Cc N S).take n))=Hn N S:=by
 obtain⟨b8,b4,e0,eX,hroot⟩:=So he;have hmay:=(Xq e0).1;rw[eX]at hmay;obtain⟨⟨x1,x2⟩,⟨y1,y2⟩,xy⟩:=hmay;have hc:=pM (X:=N) (Y:=(A1 (S 0)).2.1) (N:=N) y1 rfl hS hroot.1 (by omega) n;have hX:Cc N S=Es N (A1 (S 0)).2.1 (C3 N S) S (Bh N (A1 (S 0)).2.1 S).st.fm:=by unfold Cc;rw[if_pos he]
 have hSe:C3 N S=Ck (A1 (S 0)).2.1 (Bh N (A1 (S 0)).2.1 S):=rfl;simp only at hc;rw[<-hSe, <-hX]at hc;generalize hS':Ft S (C3 N S) ((Cc N S).take n)=S' at*;obtain⟨m1,m2,m3,m4,m5,m6,m7⟩:=hc;have hE':B6 N S'=0:=by
  unfold B6;rw[if_neg (by omega),m5,if_neg (fun h=>h.elim (fun h=>h e0) (fun h=>h eX)),if_pos (m6 hroot)]
 have hLS:C3 N S'=C3 N S:=by
  unfold C3 at m1 ⊢;rw[m5];exact funext m1
 refine⟨hE',hLS,?_,?_,?_⟩
 ·rw[<-m2];unfold Cc;rw[if_pos hE',m5];unfold C3;rw[m5]
 ·unfold Ho;rw[if_pos hE',if_pos he,m5];congr 1
  funext p
  exact m3 _
 ·unfold Hn;rw[if_pos hE',if_pos he,m5,m4]
def Fz(c:Int)(n:Nat):Nat:=(if c<0 then(-(c+1)).tmod n else c.tmod n).toNat
theorem Ly(c:Int){n:Nat}(hn:0<n):Fz c n<n:=by
 unfold Fz;split
 ·have:=Int.tmod_lt_of_pos (-(c+1)) (show(0:Int)<n by omega);omega
 ·have:=Int.tmod_lt_of_pos c (show(0:Int)<n by omega);omega
theorem Ri(c:Int)(n:Nat)(hc0: -9223372036854775808<=c)(hc1:c<=9223372036854775807)(hn0:0<n)(hn1:n<=100000)(w:World):
  Calls Tryz.prog 20 #[.int .i64 c,.int .i64 n] w fun e w'=>e= .returned (.int .i64 (Fz c n))/\w'=w:=by
 have hnn:((n:Int)==0)=false:=by simp;omega
 have hn2:(n:Int)≠0:=by omega
 have hlt:=Ly c hn0;by_cases h:c<0
 ·have hre:(-(c+1)).tmod (n:Int)=Fz c n:=by
   have:=Int.tmod_nonneg (n:Int) (show 0<= -(c+1) by omega);unfold Fz;rw[if_pos h];omega
  generalize Fz c n=r at*;go_enter Tryz.func20,Tryz.ntmps20;go_wp2_with fail;go_ret;exact⟨rfl,rfl⟩
 ·have hre:c.tmod (n:Int)=Fz c n:=by
   have:=Int.tmod_nonneg (n:Int) (show 0<=c by omega);unfold Fz;rw[if_neg h];omega
  generalize Fz c n=r at*;go_enter Tryz.func20,Tryz.ntmps20;go_wp2_with fail;go_ret;exact⟨rfl,rfl⟩
def Nf(w:World)(v:Value)(l:List Int):Prop:=∃ a c,v= .slice a l.length c/\l.length<=9223372036854775807/\A4 l/\
 (0<l.length->∃ g o cs t fr,a=some ⟨g,o,none⟩/\hat w g=some (.cells cs t fr)/\o+l.length<=cs.size/\∀ k x,l[k]? =some x->cs[o+k]? =some (.int .u8 x))
abbrev We:=Int×Int×List Int
def I64(x:Int):Prop:= -9223372036854775808<=x/\x<=9223372036854775807
def Pic(w:World)(v:Value)(sec:Int)(sp:List We):Prop:=I64 sec/\∃ a c,v= .agg #[.int .i64 sec,.slice a sp.length c]/\sp.length<=9223372036854775807/\
 (0<sp.length->∃ g o cs t fr,a=some ⟨g,o,none⟩/\hat w g=some (.cells cs t fr)/\o+sp.length*3<=cs.size/\
  ∀ i x,sp[i]? =some x->I64 x.1/\I64 x.2.1/\∃ dv,cs.extract (o+i*3) (o+i*3+3)= #[.int .i64 x.1,.int .i64 x.2.1,dv]/\Nf w dv x.2.2)
theorem Nf.fr{w w':World}{v:Value}{l:List Int}(h:Nf w v l)(hf:Fr [] w w'):Nf w' v l:=by
 obtain⟨a,c,h1,h2,h3,h4⟩:=h;refine⟨a,c,h1,h2,h3,fun h0=>?_⟩;obtain⟨g,o,cs,t,fr,e1,e2,e3,e4⟩:=h4 h0;exact⟨g,o,cs,t,fr,e1,(hf.block _ (Aa e2) (by simp)).trans e2,e3,e4⟩
theorem Pic.fr{w w':World}{v:Value}{sec:Int}{sp:List We}(h:Pic w v sec sp)(hf:Fr [] w w'):Pic w' v sec sp:=by
 obtain⟨h0,a,c,h1,h2,h3⟩:=h;refine⟨h0,a,c,h1,h2,fun hp=>?_⟩;obtain⟨g,o,cs,t,fr,e1,e2,e3,e4⟩:=h3 hp;refine⟨g,o,cs,t,fr,e1,(hf.block _ (Aa e2) (by simp)).trans e2,e3,fun i x hx=>?_⟩;obtain⟨p1,p2,dv,p3,p4⟩:=e4 i x hx;exact⟨p1,p2,dv,p3,p4.fr hf⟩
def Nu(sec:Int):Nat:=1+Fz (wrap64 (sec-1)) 200
theorem Nv(sec:Int):1<=Nu sec/\Nu sec<=200:=by
 unfold Nu;have:=Ly (wrap64 (sec-1)) (n:=200) (by omega);omega
def Nc(N:Nat)(S:Nat->List Int)(x:We):Nat->List Int:=Ay S (Fz x.1 N) (putL (S (Fz x.1 N)) (Fz x.2.1 128) (x.2.2.take (128-Fz x.2.1 128)))
def iS(sec:Int)(sp:List We):Nat->List Int:=sp.foldl (Nc (Nu sec)) (fun _=>zl 128)
theorem mQ(s:List Int)(a:Nat):putL s a []=s:=by unfold putL;simp
theorem iU{s bs:List Int}{a:Nat}{x:Int}(h:a+bs.length<s.length):putL s a (bs++[x])=(putL s a bs).set (a+bs.length) x:=by
 unfold putL;have h1:(s.take a).length=a:=by simp;omega
 rw[List.set_append_right _ _ (by omega),h1,Nat.add_sub_cancel_left,List.set_append_right _ _ (Nat.le_refl _),Nat.sub_self,List.length_append,List.drop_eq_getElem_cons h,List.set_cons_zero,List.append_assoc];rfl
theorem cX(S:Nat->List Int)(n:Nat):Ay S n (S n)=S:=by
 funext j;unfold Ay;split
 ·rename_i h;rw[h]
 ·rfl
theorem oG(S:Nat->List Int)(n:Nat)(a b:List Int):Ay (Ay S n a) n b=Ay S n b:=by
 funext j;unfold Ay;split<;>rfl
theorem B8.cellset{w:World}{g N c:Nat}{S:Nat->List Int}(h:B8 w g N c S){p q:Nat}(hp:p<N)(hq:q<128){x:Int}(h0:0<=x)(h1:x<256):B8 (w.setCell ⟨g,p*128+q,none⟩ (.int .u8 x)) g N c (Ay S p ((S p).set q x)):=by
 obtain⟨cs,hcs,hsz,hall⟩:=h;refine⟨cs.setIfInBounds (p*128+q) (.int .u8 x),Ah _ _ _ _ _ _ _ hcs,by simpa using hsz,fun i hi=>?_⟩;obtain⟨l1,l2,l3⟩:=hall i hi;unfold Ay;by_cases hip:i=p
 ·subst hip;rw[if_pos rfl];refine⟨by simpa using l1,fun y hy=>?_,?_⟩
  ·rcases List.mem_or_eq_of_mem_set hy with h2|rfl
   ·exact l2 y h2
   ·exact⟨h0,h1⟩
  ·have e3:=(Fg l1 (by omega)).1 l3;refine(Fg (by simpa using l1) (by simp;omega)).2 fun k hk=>?_
   rw[Array.getElem?_setIfInBounds];unfold nth;by_cases hkq:k=q
   ·subst hkq;rw[if_pos rfl,if_pos (by omega),List.getElem?_set_self (by omega)];rfl
   ·rw[if_neg (by omega),List.getElem?_set_ne (by omega)];exact e3 k hk
 ·rw[if_neg hip];refine⟨l1,l2,?_⟩;have e3:=(Fg l1 (by omega)).1 l3;refine(Fg l1 (by simp;omega)).2 fun k hk=>?_
  rw[Array.getElem?_setIfInBounds,if_neg (by omega)];exact e3 k hk
theorem Pi{w:World}{v:Value}{sec:Int}{sp:List We}(h:Pic w v sec sp):Calls Tryz.prog 12 #[v] w fun e w'=>
  ∃ g,e= .returned (.slice (some ⟨g,0,none⟩) (Nu sec) (Nu sec))/\B8 w' g (Nu sec) (Nu sec) (iS sec sp)/\Below w.heap.size w w'/\w.heap.size<=g:=by
 have H:=zA h;obtain⟨⟨s0,s1⟩,a,c,rfl,hle,-⟩:=h;have hwr:I64 (wrap64 (sec-1)):=by
  unfold I64 wrap64;omega
 obtain⟨q0,q1⟩:=hwr;have hP:=Nv sec;have hPe:((Nu sec:Nat):Int)=1+(Fz (wrap64 (sec-1)) 200:Int):=by unfold Nu;omega
 have HSp:=zA (show iS sec sp=sp.foldl (Nc (Nu sec)) (fun _=>zl 128)from rfl);have hf0:=Do w (.cells #[.int .i64 sec,.slice a sp.length c] 25) [];have hg0:=(A6 w (.cells #[.int .i64 sec,.slice a sp.length c] 25)).1;have HF0:=zA hf0;clear hf0;go_enter Tryz.func12,Tryz.ntmps12;go_wp2_with fail;generalize w.alloc (.cells #[.int .i64 sec,.slice a sp.length c] 25)=w0 at*;have hgl:=Aa hg0;generalize hcc:wrap64 (sec-1)=cc at*;refine(Ri cc 200 q0 q1 (by omega) (by omega) w0).mono ?_;rintro e w1 ⟨rfl,rfl⟩;generalize hNN:Nu sec=N at*;obtain⟨w2,hr,hws,hb⟩:=Ml w1 N (by omega);rw[hPe]at hr;have hz2:=(hop hb hg0).1;have HS:=zA hws;have HB:=zA hb;clear hws hb;go_wp2_with fail;have hne:w.heap.size≠w1.heap.size:=by omega
 have HB0:=zA (HF0.out.size);obtain⟨gl,hgl2⟩:∃ gl,gl=w1.heap.size:=⟨_,rfl⟩;rw[<-hgl2]at hne HS ⊢;have HGL:=zA hgl2;have H2:=zA (H.out.fr (HF0.out.trans (Af HB.out [])));have hgxl:=Aa hz2;clear hgl2 hr hg0 hgl q0 q1 hcc hPe s0 s1;go_loopw [4] (fun v wr=>∃ i:Nat,v= .int .i64 i/\i<=sp.length/\Hid (B8 wr gl N N ((sp.take i).foldl (Nc N) (fun _=>zl 128)))/\Hid (Fr [gl] w2 wr)) (fun v wr=>sp.length-(intOf v).toNat)
 case atStart=>exact⟨0,rfl,Nat.zero_le _,HS,zA (Fr.refl _ _)⟩
 case round=>
  obtain⟨i,rfl,hi,HSr,HF⟩:=hrel;have hz3:=(HF.out.block w.heap.size (Aa hz2) (by simpa using hne)).trans hz2;have hz3l:=Aa hz3;by_cases hiN:i<sp.length
  ·have hi0:(0:Int)<=(i:Int):=Int.natCast_nonneg _;have hi1:(i:Int)<(sp.length:Int):=(by omega);obtain⟨-,a',c',he',-,hh⟩:=H.out;injection he' with he'
   injection he' with he'
   have hac:a=a'/\c=c':=by
    injection he' with _ e
    injection e with e1 e2
    injection e1 with p1 p2 p3
    exact⟨p1,p3⟩
   obtain⟨rfl,rfl⟩:=hac;clear he';obtain⟨gs,os,cs,ts,fs,rfl,hcs0,hszs,hall⟩:=hh (by omega);obtain⟨x,hx⟩:∃ x,sp[i]? =some x:=⟨_,List.getElem?_eq_getElem hiN⟩;obtain⟨⟨xs,xa,xd⟩,hxe⟩:∃ y:We,y=x:=⟨x,rfl⟩;subst hxe;obtain⟨⟨p0,p1⟩,⟨r0,r1⟩,dv,hex,ad,cd,rfl,hdl,hby,hdat⟩:=hall i _ hx;simp only at p0 p1 r0 r1 hex hdl hby hdat;have hFw:Fr [gl] w wr:=((HF0.out.trans (Af HB.out [])).mono (ex':=[gl]) (by simp)).trans HF.out;have hold:∀ g,g<w.heap.size->hat wr g=hat w g:=fun g hg=>hFw.block g hg (by have h1:=HGL.out;have h2:=HB0.out;simp;omega)
   have hcs:=(hold gs (Aa hcs0)).trans hcs0;have hgsl:=Aa hcs;have hc3:∀ q,q<3->cs[os+i*3+q]? =(#[.int .i64 xs,.int .i64 xa,.slice ad xd.length cd]:Array Value)[q]? :=fun q hq=>by
    rw[<-hex,Array.getElem?_extract,if_pos (by omega)]
   have hc30:cs[os+i*3]? =some (.int .i64 xs):=hc3 0 (by omega);have hc31:cs[os+i*3+1]? =some (.int .i64 xa):=hc3 1 (by omega);have hc32:cs[os+i*3+2]? =some (.slice ad xd.length cd):=hc3 2 (by omega);have HOLD:=zA hold;have HDAT:=zA hdat;have HBY:=zA hby;have HFW:=zA hFw;have HX:=zA hx;have hN1:(0:Nat)<N:=(by omega);have hN2:N<=100000:=(by omega);clear hh hall hx hex hszs hold hdat hby hFw hcs0 hc3;have hf3:=Do wr (.cells #[.int .i64 xs,.int .i64 xa,.slice ad xd.length cd] 44) [];have hs3:=(A6 wr (.cells #[.int .i64 xs,.int .i64 xa,.slice ad xd.length cd] 44)).1;have HFW3:=zA (HFW.out.trans (hf3.mono (by simp)));have HF3:=zA (HF.out.trans (hf3.mono (by simp)));have HS3:=zA (HSr.out.same (hf3.block _ HSr.out.lt (by simp)));have hsne:wr.heap.size≠gl:=(by have:=HSr.out.lt;omega);have HZ3:=zA ((hf3.block _ hz3l (by simp)).trans hz3);clear hf3;go_wp2_with fail;clear hz3 hz3l hc30 hc31 hc32 hcs hgsl;obtain⟨w3,hw3⟩:∃ w3,w3=wr.alloc (.cells #[.int .i64 xs,.int .i64 xa,.slice ad xd.length cd] 44):=⟨_,rfl⟩;rw[<-hw3]at hs3 HFW3 HF3 HS3 HZ3 ⊢;have hs3l:=Aa hs3;clear hw3;refine(Ri xs N p0 p1 hN1 hN2 w3).mono ?_;rintro e w4 ⟨rfl,rfl⟩;go_wp2_with fail;refine(Ri xa 128 r0 r1 (by omega) (by omega) w4).mono ?_;rintro e w5 ⟨rfl,rfl⟩;have hat128:=Ly xa (n:=128) (by omega);have hnN:=Ly xs hN1;have HSTEP:Hid (∀ s,(sp.take (i+1)).foldl (Nc N) s=Nc N ((sp.take i).foldl (Nc N) s) (xs,xa,xd)):=zA (fun s=>by
    rw[List.take_add_one,HX.out,List.foldl_append];rfl)
   have HSP:Hid (∀ S,Nc N S (xs,xa,xd)=Ay S (Fz xs N) (putL (S (Fz xs N)) (Fz xa 128) (xd.take (128-Fz xa 128)))):=zA (fun S=>rfl);generalize Fz xs N=n at*;generalize Fz xa 128=at' at*;generalize hSi:(sp.take i).foldl (Nc N) (fun _=>zl 128)=Si at*;have HSL:=zA (fun j hj=>(HS3.out.secs.len (i:=j) hj));clear p0 p1 r0 r1;obtain⟨gp,hgp⟩:∃ gp,gp=wr.heap.size:=⟨_,rfl⟩;have HGP:=zA hgp;clear hgp;go_wp2_with fail;go_loopw [8] (fun v wx=>∃ k:Nat,v= .int .i64 k/\k<=xd.length/\at'+k<=128/\Hid (B8 wx gl N N (Ay Si n (putL (Si n) at' (xd.take k))))/\Hid (Fr [gl] w5 wx)) (fun v wx=>xd.length-(intOf v).toNat)
   case atStart=>exact⟨0,rfl,Nat.zero_le _,by omega,zA (by rw[List.take_zero,mQ,cX];exact HS3.out),zA (Fr.refl _ _)⟩
   case round=>
    obtain⟨k,rfl,hk,hak,HSk,HFk⟩:=hrel;have hs4:=(HFk.out.block _ hs3l (by simpa using hsne)).trans hs3;have hs4l:=Aa hs4;have hk0:(0:Int)<=(k:Int):=Int.natCast_nonneg _;have hA0:(0:Int)<=(at':Int):=Int.natCast_nonneg _;by_cases hkl:k<xd.length
    ·have hk1:(k:Int)<(xd.length:Int):=(by omega);have d1:decide ((k:Int)<(xd.length:Int))=true:=decide_eq_true hk1;by_cases hk8:at'+k<128
     ·have d2:decide ((at':Int)+(k:Int)<128)=true:=decide_eq_true (by omega);have hk9:(at':Int)+(k:Int)<128:=(by omega);obtain⟨gd,od,csd,td,frd,rfl,hcd0,hszd,hdd⟩:=HDAT.out (by omega);have hcd:=((HFW3.out.trans HFk.out).block gd (Aa hcd0) (by have h1:=HGL.out;have h2:=HB0.out;have h3:=Aa hcd0;simp;omega)).trans hcd0;obtain⟨y,hy⟩:∃ y,xd[k]? =some y:=⟨_,List.getElem?_eq_getElem hkl⟩;have hbyte:=hdd k y hy;have hyb:=HBY.out y (List.mem_of_getElem? hy);have hn0:(0:Int)<=(n:Int):=Int.natCast_nonneg _;have hn1:(n:Int)<(N:Int):=(by omega);have hput:=HSk.out.cellset (p:=n) (q:=at'+k) hnN hk8 hyb.1 hyb.2
      have HPUT:Hid (B8 (wr.setCell ⟨gl,n*128+(at'+k),none⟩ (.int .u8 y)) gl N N (Ay Si n (putL (Si n) at' (xd.take (k+1))))):=zA (by
       have e1:Ay Si n (putL (Si n) at' (xd.take k)) n=putL (Si n) at' (xd.take k):=Cx _ _ _;have e2:xd.take (k+1)=xd.take k++[y]:=(by rw[List.take_add_one,hy];rfl);have e3:(xd.take k).length=k:=(by simp;omega);rw[e1,oG]at hput;rw[e2,iU (by rw[e3,(HSL.out n hnN).1];omega),e3];exact hput)
      have HFR:=zA (HFk.out.trans (Ai wr gl (n*128+(at'+k)) (.int .u8 y)));obtain⟨csl,hcl,⟨hszl,-⟩,-⟩:=id HSk.out;obtain⟨x0,hx0⟩:∃ x0,csl[n*128+(at'+k)]? =some x0:=⟨_,Array.getElem?_eq_getElem (by omega)⟩;have hcll:=Aa hcl;have hcdl:=Aa hcd;clear hput hy hyb hdd hszd hszl hcd0;go_wp2_with fail;go_region
      go_wp2_with fail;go_roundw
      case rel=>exact⟨k+1,by go_num,by omega,by omega,zA (HPUT.out.same rfl),zA (Bb HFR.out)⟩
      case measure=>(show xd.length-(k+1)<xd.length-k);omega
     ·have d2:decide ((at':Int)+(k:Int)<128)=false:=decide_eq_false (by omega)
      have HQ:Hid (B8 wr gl N N ((sp.take (i+1)).foldl (Nc N) (fun _=>zl 128))):=zA (by
       rw[HSTEP.out,hSi,HSP.out];have e:xd.take (128-at')=xd.take k:=(by rw[show 128-at'=k by omega]);rw[e];exact HSk.out)
      have HRF:=zA (HF3.out.trans HFk.out);go_wp2_with fail;go_roundw
      case rel=>exact⟨i+1,by go_num,by omega,HQ,HRF⟩
      case measure=>(show sp.length-(i+1)<sp.length-i);omega
    ·have d1:decide ((k:Int)<(xd.length:Int))=false:=decide_eq_false (by omega);have hkk:k=xd.length:=(by omega)
     have HQ:Hid (B8 wr gl N N ((sp.take (i+1)).foldl (Nc N) (fun _=>zl 128))):=zA (by
      rw[HSTEP.out,hSi,HSP.out];have e:xd.take (128-at')=xd.take k:=(by rw[hkk,List.take_length,List.take_of_length_le (by omega)]);rw[e];exact HSk.out)
     have HRF:=zA (HF3.out.trans HFk.out);go_wp2_with fail;go_roundw
     case rel=>exact⟨i+1,by go_num,by omega,HQ,HRF⟩
     case measure=>(show sp.length-(i+1)<sp.length-i);omega
  ·have hkk:i=sp.length:=(by omega);subst hkk;have HEND:=HSr;rw[List.take_length, <-HSp.out]at HEND;go_wp2_with fail;go_ret;rw[hNN];refine⟨gl,rfl,HEND.out,?_,?_⟩
   ·exact(HF0.out.below (B:=w.heap.size) (Nat.le_refl _) (by simp)).trans ((HB.out.mono HB0.out).trans (HF.out.below (B:=w.heap.size) (Nat.le_trans HB0.out HB.out.size) (by simp;rw[HGL.out];exact HB0.out)))
   ·rw[HGL.out];exact HB0.out
end Go.Proofs.YtmnecpnkkapflaaGreat
