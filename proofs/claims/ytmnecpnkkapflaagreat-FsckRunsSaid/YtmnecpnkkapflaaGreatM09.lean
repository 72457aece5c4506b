import Derived.Laws.MakeOwn
import Derived.Test.YtmnecpnkkapflaaGreatM04
import Derived.Test.YtmnecpnkkapflaaGreatM05
import Derived.Test.YtmnecpnkkapflaaGreatM08
namespace Go.Proofs.YtmnecpnkkapflaaGreat
set_option maxHeartbeats 16000000
set_option maxRecDepth 1000000
set_option linter.unusedSimpArgs false
set_option linter.unusedVariables false
open Go.RowKit
def Fb(S:Nat->List Int):Prop:=Bw (S 1)=true/\nth (Am (S 1)).1 0=2
def dF(w w':World)(N:Nat)(X Y:Int)(S:Nat->List Int)(e:Ending):Prop:=
 ∃ gw cw v1 v2 v3 o1 o2 o3,e= .returned (.tuple #[.agg #[.slice (some ⟨gw,0,none⟩) N cw,v1,v2,v3],.int .i64 0])/\B8 w' gw N cw (Ck Y (Bh X Y S))/\
  Bg w' v1 o1 (Es N Y (Ck Y (Bh X Y S)) S (Bh X Y S).st.fm)/\Bg w' v2 o2 (Dz fun p=>((Bh X Y S).T p.toNat).isSome)/\Bg w' v3 o3 (Dz (Bh X Y S).st.cl)/\
  Below w.heap.size w w'/\w.heap.size<=gw/\dG (gw+1) [o1,o2,o3]
structure aJ (N cw:Nat) (S:Nat->List Int) (w0 w:World) (gw bc bt bf:Nat):Prop where
 gw0:w0.heap.size<=gw
 bc0:w0.heap.size<=bc
 bt0:w0.heap.size<=bt
 bf0:w0.heap.size<=bf
 ws:B8 w gw N cw S
 c:hat w bc=some (.map #[] 0)
 t:hat w bt=some (.map #[] 0)
 f:hat w bf=some (.map #[] 0)
 n1:gw≠bc
 n2:gw≠bt
 n3:gw≠bf
 n4:bc≠bt
 n5:bc≠bf
 n6:bt≠bf
theorem aJ.fr{N cw:Nat}{S:Nat->List Int}{w0 w w':World}{gw bc bt bf:Nat}(h:aJ N cw S w0 w gw bc bt bf)(hf:Fr [] w w'):aJ N cw S w0 w' gw bc bt bf:=by
 obtain⟨cs,h5,-⟩:=id h.ws;exact⟨h.gw0,h.bc0,h.bt0,h.bf0,h.ws.same (hf.block _ (Aa h5) (by simp)),(hf.block _ (Aa h.c) (by simp)).trans h.c,(hf.block _ (Aa h.t) (by simp)).trans h.t,(hf.block _ (Aa h.f) (by simp)).trans h.f,h.n1,h.n2,h.n3,h.n4,h.n5,h.n6⟩
def qY(X Y:Int)(gi oi N ci:Nat)(S:Nat->List Int)(w0:World)(i:Nat)(v:Value)(own:Nat->Option Nat)(w':World):Prop:=
 match i with
 |0=>v= .agg #[.int .i64 X,.int .i64 Y]
 |1=>v= .slice (some ⟨gi,oi,none⟩) N ci
 |2=>v= .slice (some ⟨gi,oi,none⟩) N ci
 |3=>∃ g cw,v= .slice (some ⟨g,0,none⟩) N cw/\w0.heap.size<=g/\B8 w' g N cw S/\own g=some 3
 |4=>∃ b,v= .map (some b)/\w0.heap.size<=b/\hat w' b=some (.map #[] 0)/\own b=some 4
 |5=>∃ b,v= .map (some b)/\w0.heap.size<=b/\hat w' b=some (.map #[] 0)/\own b=some 5
 |6=>∃ b,v= .map (some b)/\w0.heap.size<=b/\hat w' b=some (.map #[] 0)/\own b=some 6
 |7=>∃ gw cw bc bt bf,v= .agg (Bz X Y (.slice (some ⟨gi,oi,none⟩) N ci) gw N cw bc bt bf .nilFunc)/\aJ N cw S w0 w' gw bc bt bf
 |_=>∃ gl gw cw bc bt bf,v= .pointer (some ⟨gl,0,none⟩)/\hat w' gl=some (.cells (Bz X Y (.slice (some ⟨gi,oi,none⟩) N ci) gw N cw bc bt bf .nilFunc) 95)/\aJ N cw S w0 w' gw bc bt bf/\w0.heap.size<=gl/\gl∉[gw,bc,bt,bf]
def bR(w0:World)(own:Nat->Option Nat)(w':World):Prop:=Fr [] w0 w'/\∀ b i,own b=some i->b<w'.heap.size
def bP(own:Nat->Option Nat)(w:World)(own':Nat->Option Nat)(w':World):Prop:=Fr [] w w'/\∀ b i,own b=some i->own' b=some i
def I7(own:Nat->Option Nat)(b i:Nat):Nat->Option Nat:=fun k=>if k=b then some i else own k
theorem Gv{w0 w w':World}{own:Nat->Option Nat}(h:bR w0 own w)(hf:Fr [] w w'){b:Nat}(hb:b<w'.heap.size)(i:Nat):bR w0 (I7 own b i) w':=by
 refine⟨h.1.trans hf,fun k j hk=>?_⟩;unfold I7 at hk;split at hk
 ·rename_i e;subst e;exact hb
 ·exact Nat.lt_of_lt_of_le (h.2 k j hk) hf.size
theorem Gu{w0 w w':World}{own:Nat->Option Nat}(h:bR w0 own w)(hf:Fr [] w w'){b:Nat}(hb:w.heap.size<=b)(i:Nat):bP own w (I7 own b i) w':=by
 refine⟨hf,fun k j hk=>?_⟩;unfold I7;rw[if_neg (fun e=>by have:=h.2 k j hk;omega)];exact hk
theorem Pw{w0 w w':World}{own:Nat->Option Nat}(h:bR w0 own w)(hf:Fr [] w w'):bR w0 own w':=⟨h.1.trans hf,fun k j hk=>Nat.lt_of_lt_of_le (h.2 k j hk) hf.size⟩
theorem bQ{X Y:Int}{gi oi N ci:Nat}{S:Nat->List Int}{w0:World}{i:Nat}{v:Value}{own own':Nat->Option Nat}{w w':World}(hE:bP own w own' w')(h:qY X Y gi oi N ci S w0 i v own w):qY X Y gi oi N ci S w0 i v own' w':=by
 unfold qY at h ⊢;split at h
 ·exact h
 ·exact h
 ·exact h
 ·obtain⟨g,cw,h1,h2,h3,h4⟩:=h;obtain⟨cs,h5,-⟩:=id h3;exact⟨g,cw,h1,h2,h3.same (hE.1.block _ (Aa h5) (by simp)),hE.2 _ _ h4⟩
 ·obtain⟨b,h1,h2,h3,h4⟩:=h;exact⟨b,h1,h2,(hE.1.block _ (Aa h3) (by simp)).trans h3,hE.2 _ _ h4⟩
 ·obtain⟨b,h1,h2,h3,h4⟩:=h;exact⟨b,h1,h2,(hE.1.block _ (Aa h3) (by simp)).trans h3,hE.2 _ _ h4⟩
 ·obtain⟨b,h1,h2,h3,h4⟩:=h;exact⟨b,h1,h2,(hE.1.block _ (Aa h3) (by simp)).trans h3,hE.2 _ _ h4⟩
 ·obtain⟨gw,cw,bc,bt,bf,h1,h2⟩:=h;exact⟨gw,cw,bc,bt,bf,h1,h2.fr hE.1⟩
 ·obtain⟨gl,gw,cw,bc,bt,bf,h1,h3,h2,h4⟩:=h;exact⟨gl,gw,cw,bc,bt,bf,h1,(hE.1.block _ (Aa h3) (by simp)).trans h3,h2.fr hE.1,h4⟩
theorem MB.of{w:World}{b:Nat}(h:hat w b=some (.map #[] 0)):MB w b 0 (fun _=>false):=by
 obtain⟨D,⟨es,clock,hb,h1⟩,h2⟩:=MB.made w;have hb2:hat (w.alloc (.map #[] 0)) w.heap.size=some (.map #[] 0):=(A6 w _).1;rw[show(w.alloc (.map #[] 0)).heap[w.heap.size]? =some (.map #[] 0)from hb2]at hb;have hb3:=Option.some.inj hb;injection hb3 with e1 e2
 subst e1;subst e2;exact⟨D,⟨#[],0,h,h1⟩,h2⟩
theorem SB.of{w:World}{b:Nat}(h:hat w b=some (.map #[] 0)):SB w b (fun _=>false):=(MB.of h).tight (fun _ hp=>by cases hp)
theorem PB.of{w:World}{b:Nat}(h:hat w b=some (.map #[] 0)):PB w b (fun _=>none):=by
 obtain⟨D,⟨es,clock,hb,h1⟩,h2⟩:=MP.made w;have hb2:hat (w.alloc (.map #[] 0)) w.heap.size=some (.map #[] 0):=(A6 w _).1;rw[show(w.alloc (.map #[] 0)).heap[w.heap.size]? =some (.map #[] 0)from hb2]at hb;have hb3:=Option.some.inj hb;injection hb3 with e1 e2
 subst e1;subst e2;exact MP.tight (n:=0) ⟨D,⟨#[],0,h,h1⟩,h2⟩ (fun p hp=>by cases hp)
theorem lZ{N:Nat}{Y:Int}{gi oi ci gl gw cw bc bt bf gr:Nat}{S:Nat->List Int}{w0 w:World}(hm:Ew N Y)(hgi:gi<w0.heap.size)(hsz:w0.heap.size<=w.heap.size)(hS:G9 w gi oi N S)(h5:aJ N cw S w0 w gw bc bt bf)
  (hgl:hat w gl=some (.cells (Bz N Y (.slice (some ⟨gi,oi,none⟩) N ci) gw N cw bc bt bf (Uy gr)) 95)) (hgl0:w0.heap.size<=gl) (hgn:gl∉[gw,bc,bt,bf]) (hgr:hat w gr=some (.cells #[.slice none 0 0] 32)) (hgr0:w0.heap.size<=gr) (hrn:gr∉[gl,gw,bc,bf,bt]):
  LW ⟨⟨gl,gw,N,bc,bt,bf,0,cw,N,Y,.slice (some ⟨gi,oi,none⟩) N ci,Uy gr⟩,gr,gi,oi,ci,w0.heap.size,S⟩ none (fun _=>none) (Cf S) w:=by
 obtain⟨⟨x1,x2⟩,⟨y1,y2⟩,xy⟩:=hm;simp only[List.mem_cons,List.not_mem_nil,or_false,not_or]at hgn;obtain⟨g1,g2,g3,g4⟩:=hgn;refine⟨⟨x2,by show 0<=Y;omega,rfl,g1,g2,g4,h5.n1,h5.n3,h5.n5,g3,h5.n2,h5.n4,fun e=>h5.n6 e.symm⟩,⟨rfl,hrn,fun g h=>(by cases h)⟩,rfl,hS,hgi,fun k hk=>?_,hsz,by show Y<N;omega,⟨hgl,h5.ws,SB.of h5.c,SB.of h5.f⟩,⟨_,PB.of h5.t,fun _=>rfl⟩,fun _ _=>rfl,fun i v h=>(by cases h),fun i j v u h=>(by cases h),⟨_,hgr,.inl ⟨rfl,rfl,rfl⟩,fun e=>(by cases e)⟩,dD _ _ _⟩;simp only[B4,List.cons_append,List.nil_append,Option.toList,List.mem_cons,List.not_mem_nil,or_false]at hk;show w0.heap.size<=k
 rcases hk with rfl|rfl|rfl|rfl|rfl|rfl
 ·exact hgl0
 ·exact h5.gw0
 ·exact h5.bc0
 ·exact h5.bf0
 ·exact h5.bt0
 ·exact hgr0
theorem iG(gi oi N ci:Nat)(S:Nat->List Int)(w:World)(hS:G9 w gi oi N S)(h8:8<=N)(hN:N<=4096)(h0:(A1 (S 0)).2.2=0)(hX:(A1 (S 0)).1=N):
  Calls Tryz.prog 35 #[.slice (some ⟨gi,oi,none⟩) N ci] w fun e w'=>(Fb S/\dF w w' N (A1 (S 0)).1 (A1 (S 0)).2.1 S e)\/(¬ Fb S/\e= .returned (.tuple #[.agg Bd,.int .i64 121])/\Below w.heap.size w w'):=by
 obtain⟨cs,t,fr,hcs,hld⟩:=hS.load (show 0<N by omega);obtain⟨hl0,hb0⟩:=hS.len (show 0<N by omega);have HRS:=zA (fun W=>Sq (S 0) hl0 hb0 W);rw[Nat.zero_mul,Nat.add_zero]at hld;have hcl:=Aa hcs;have hz1:=(A6 w (.cells Bd 34)).1;have hc1:=(B7 w (.cells Bd 34) hcs).1;have hf1:=Be w (.cells Bd 34) [];have d1:¬ (N:Int)<8:=by omega
 have d2:¬ (4096:Int)<(N:Int):=by omega
 have d3:(0:Int)<(N:Int):=by omega
 have HF1:=zA hf1;have HMAY:=zA (Xq h0).1;obtain⟨X,Y,er,hR⟩:∃ X Y er,A1 (S 0)=(X,Y,er):=⟨_,_,_,rfl⟩;rw[hR]at HRS HMAY h0 hX;rw[hR];simp only at h0 hX HMAY ⊢;subst h0;subst hX;have HS:=zA hS;clear hS hf1 hR;go_enter Tryz.func35,Tryz.ntmps35;go_wp2_with fail;generalize hW1:w.alloc (.cells #[.slice none 0 0,.slice none 0 0,.slice none 0 0,.slice none 0 0] 34)=w1 at*;refine(HRS.out w1).mono ?_;rintro e w2 ⟨rfl,hb2⟩;have hz2:=(hop hb2 (show hat w1 w.heap.size=some (.cells Bd 34) by rw[<-hW1];exact(A6 w _).1)).1;have hgz:=Aa hz2;have HF2:=zA ((show Fr [] w w1 by rw[<-hW1];exact Be w _ []).trans (Af hb2 []));have hXn:((N:Int) !=(N:Int))=false:=by simp
 unfold Bd at hz2;clear hb2 hz1 hc1 hcs hld hW1 HF1 HRS;go_wp2_with fail;have hz3:=(B7 w2 (.cells #[.int .i64 (N:Int),.int .i64 Y] 68) hz2).1;have hs3:=(A6 w2 (.cells #[.int .i64 (N:Int),.int .i64 Y] 68)).1;have HF3:=zA (HF2.out.trans (Be w2 (.cells #[.int .i64 (N:Int),.int .i64 Y] 68) []));have hgz3:=Aa hs3;generalize w2.alloc (.cells #[.int .i64 (N:Int),.int .i64 Y] 68)=w3 at*;clear hz2 HF2;have HS3:=zA (HS.out.same (HF3.out.block _ HS.out.lt (by simp)));refine O7 (by kernel_rfl) 10 (by decide) rfl (bR w3) bP (qY N Y gi oi N ci S w3) (fun _=>none) ⟨Bb (Fr.refl [] w3),fun _ _ h=>by cases h⟩ ?_ ?_ ?_
 ·intro i v own wa own' wb hi hIa hIb hE hG;exact bQ hE hG
 ·intro i o hi ho a' own w' hI hS hF;have hi':i=0\/i=1\/i=2\/i=3\/i=4\/i=5\/i=6\/i=7\/i=8\/i=9:=(by omega);have hstay:bP own w' own w':=⟨Fr.refl _ _,fun _ _ h=>h⟩;have hnew:w'.heap.size<(w'.alloc (.map #[] 0)).heap.size:=(A6 w' (.map #[] 0)).2;have hfa:=Be w' (.map #[] 0) [];rcases hi' with rfl|rfl|rfl|rfl|rfl|rfl|rfl|rfl|rfl|rfl
  all_goals (have ho':=Option.some.inj ho;subst ho')
  ·exact Bp 68 2 Qx (.tmp 4) rfl rfl rfl w2.heap.size _ ((hS 4 (by decide)).trans rfl) ((hI.1.block _ (Aa hs3) (by simp)).trans hs3) rfl ⟨_,own,rfl,hI,hstay,rfl⟩
  ·exact E8 (.tmp 0) rfl rfl rfl _ ((hS 0 (by decide)).trans rfl) ⟨_,own,rfl,hI,hstay,rfl⟩
  ·exact E8 (.tmp 0) rfl rfl rfl _ ((hS 0 (by decide)).trans rfl) ⟨_,own,rfl,hI,hstay,rfl⟩
  ·have e0:=gtx (hF 2 (by decide) _ 41 rfl rfl);refine Bn (f:=48) (args:= #[.slice (some ⟨gi,oi,none⟩) N ci]) rfl rfl (by simp[go_sem,e0]) (fL gi oi N ci S w' (HS3.out.same (hI.1.block _ HS3.out.lt (by simp))) (by omega) (by omega)) ?_;rintro e w'' ⟨g,cw,rfl,hg0,hws,hb⟩;obtain⟨csw,hcsw,-⟩:=id hws;exact⟨_,rfl,_,I7 own g 3,rfl,Gv hI (Af hb []) (Aa hcsw) 3,Gu hI (Af hb []) hg0 3,g,cw,rfl,Nat.le_trans hI.1.size hg0,hws,by simp[I7]⟩
  ·exact Ae rfl rfl (v:= .map (some w'.heap.size)) (w1:=w'.alloc (.map #[] 0)) (by simp[go_sem]) ⟨_,I7 own w'.heap.size 4,rfl,Gv hI hfa hnew 4,Gu hI hfa (Nat.le_refl _) 4,_,rfl,hI.1.size,(A6 w' _).1,by simp[I7]⟩
  ·exact Ae rfl rfl (v:= .map (some w'.heap.size)) (w1:=w'.alloc (.map #[] 0)) (by simp[go_sem]) ⟨_,I7 own w'.heap.size 5,rfl,Gv hI hfa hnew 5,Gu hI hfa (Nat.le_refl _) 5,_,rfl,hI.1.size,(A6 w' _).1,by simp[I7]⟩
  ·exact Ae rfl rfl (v:= .map (some w'.heap.size)) (w1:=w'.alloc (.map #[] 0)) (by simp[go_sem]) ⟨_,I7 own w'.heap.size 6,rfl,Gv hI hfa hnew 6,Gu hI hfa (Nat.le_refl _) 6,_,rfl,hI.1.size,(A6 w' _).1,by simp[I7]⟩
  ·have e0:=gtx (hF 0 (by decide) _ 39 rfl rfl);have e1:=gtx (hF 1 (by decide) _ 40 rfl rfl);obtain⟨gw,cw,e3,hgw0,hws4,o3⟩:=hF 3 (by decide) _ 42 rfl rfl;obtain⟨bc,e4,hbc0,hbc4,o4⟩:=hF 4 (by decide) _ 43 rfl rfl;obtain⟨bt,e5,hbt0,hbt4,o5⟩:=hF 5 (by decide) _ 44 rfl rfl;obtain⟨bf,e6,hbf0,hbf4,o6⟩:=hF 6 (by decide) _ 45 rfl rfl;have e3:=gtx e3;have e4:=gtx e4;have e5:=gtx e5;have e6:=gtx e6;have n1:gw≠bc:=fun e=>by rw[e,o4]at o3;cases o3
   have n2:gw≠bt:=fun e=>by rw[e,o5]at o3;cases o3
   have n3:gw≠bf:=fun e=>by rw[e,o6]at o3;cases o3
   have n4:bc≠bt:=fun e=>by rw[e,o5]at o4;cases o4
   have n5:bc≠bf:=fun e=>by rw[e,o6]at o4;cases o4
   have n6:bt≠bf:=fun e=>by rw[e,o6]at o5;cases o5
   exact Ae rfl rfl (v:= .agg (Bz N Y (.slice (some ⟨gi,oi,none⟩) N ci) gw N cw bc bt bf .nilFunc)) (w1:=w') (by simp[go_sem,e0,e1,e3,e4,e5,e6,Bz]) ⟨_,own,rfl,hI,hstay,gw,cw,bc,bt,bf,rfl,hgw0,hbc0,hbt0,hbf0,hws4,hbc4,hbt4,hbf4,n1,n2,n3,n4,n5,n6⟩
  ·obtain⟨gw,cw,bc,bt,bf,e7,h5⟩:=hF 7 (by decide) _ 46 rfl rfl;have e7:=gtx e7;obtain⟨csw,hcsw,-⟩:=id h5.ws;have z0:=Aa hcsw;have z1:=Aa h5.c;have z2:=Aa h5.t;have z3:=Aa h5.f;have hfb:=Be w' (.cells (Bz N Y (.slice (some ⟨gi,oi,none⟩) N ci) gw N cw bc bt bf .nilFunc) 95) [];exact Ae rfl rfl (v:= .pointer (some ⟨w'.heap.size,0,none⟩)) (w1:=w'.alloc (.cells (Bz N Y (.slice (some ⟨gi,oi,none⟩) N ci) gw N cw bc bt bf .nilFunc) 95)) (by simp[go_sem,e7,Bz]) ⟨_,own,rfl,Pw hI hfb,⟨hfb,fun _ _ h=>h⟩,_,gw,cw,bc,bt,bf,rfl,(A6 w' _).1,h5.fr hfb,hI.1.size,by simp;omega⟩
  ·obtain⟨gl,gw,cw,bc,bt,bf,e8,h5⟩:=hF 8 (by decide) _ 47 rfl rfl;have e8:=gtx e8;exact Ae rfl rfl (v:= .pointer (some ⟨gl,0,none⟩)) (w1:=w') (by simp[go_sem,e8]) ⟨_,own,rfl,hI,hstay,gl,gw,cw,bc,bt,bf,rfl,h5⟩
 ·intro val own w4 hI hF;obtain⟨gl,gw,cw,bc,bt,bf,e9,hgl4,h5,hgl0,hgn⟩:=hF 9 _ 6 (by decide) rfl rfl;have hz4:=(hI.1.block _ (Aa hz3) (by simp)).trans hz3;have HF4:=zA (HF3.out.trans hI.1);have HS4:=zA (HS3.out.same (hI.1.block _ HS3.out.lt (by simp)));have H5:=zA h5;have HGN:=zA hgn;have z34:=hI.1.size;clear hF hI hs3 hz3 HF3 HS3 HS h5 hgn;simp only[Bi,List.take,List.drop,List.take_succ_cons,List.drop_succ_cons,e9,Act.put,List.setIfInBounds_toArray,List.set_cons_zero,List.set_cons_succ];clear e9;generalize val 0=v0;generalize val 1=v1;generalize val 2=v2;generalize val 3=v3;generalize val 4=v4;generalize val 5=v5;generalize val 6=v6;generalize val 7=v7;generalize val 8=v8;obtain⟨⟨x1,x2⟩,⟨y1,y2⟩,xy⟩:=HMAY.out;have hcall:=P6 N Y .nilFunc gi oi N ci S gl gw N cw bc bt bf 1 w4 hgl4 HS4.out (Nat.le_refl _) y1 (by omega) hN;have HSOUND:=zA (Pk (s:=S 1));have hrl:=Bo (S 1);unfold Bz at hgl4;go_wp2_with fail;refine hcall.mono ?_;rintro e w5 ⟨rfl,hb5⟩;have hgl5:=(hop hb5 hgl4).1;have hz5:=(hop hb5 hz4).1;have HF5:=zA (HF4.out.trans (Af hb5 []));have HS5:=zA (HS4.out.same (A7 hb5 HS4.out.lt));have H55:=zA (H5.out.fr (Af hb5 []));have z45:=hb5.size;have hzl5:=Aa hz5;have hgll5:=Aa hgl5;clear hb5 hgl4 hz4 HF4 HS4 H5 hcall;have hk0:(IV .i64 (Am (S 1)).1)[0]? =some (.int .i64 (nth (Am (S 1)).1 0)):=by
   rw[Bl,An (by omega)];rfl
  have HRO:Hid (Fb S↔Bw (S 1)=true/\nth (Am (S 1)).1 0=2):=zA Iff.rfl;have HFIN:=zA (Dc hz5 (.slice none 0 0) (.slice none 0 0) (.slice none 0 0) (.slice none 0 0));have HBEL:=zA ((((HF5.out.mono (ex':=[w.heap.size]) (by simp)).trans (Cl w5 w.heap.size (.slice none 0 0) (.slice none 0 0) (.slice none 0 0) (.slice none 0 0))).trans (Be _ (.cells (IV .i64 (Am (S 1)).1) 78) [w.heap.size])).below (B:=w.heap.size) (Nat.le_refl _) (by simp));generalize hRAW:(Am (S 1)).1=raw at*;cases hsd:Bw (S 1)with
  |false=>
   rw[hsd]at HRO;have hno:¬ Fb S:=fun h=>by have:=(HRO.out.1 h).1;cases this
   clear HSOUND;have HNO:=zA hno;clear hno hk0;go_wp2_with fail;exact Aw Fe rfl (cs:=Bd) rfl (B7 _ _ HFIN.out).1 rfl rfl (.inr ⟨HNO.out,rfl,HBEL.out⟩)
  |true=>
   cases hkd:(nth raw 0==2)with
   |false=>
    have hkn:(nth raw 0 !=2)=true:=(by simpa using hkd);have HNO:=zA (show ¬ Fb S from fun h=>by have:=(HRO.out.1 h).2;simp[this]at hkd);clear HSOUND HRO;go_wp2_with fail;exact Aw Fe rfl (cs:=Bd) rfl (B7 _ _ HFIN.out).1 rfl rfl (.inr ⟨HNO.out,rfl,HBEL.out⟩)
   |true=>
    have hk2:nth raw 0=2:=(by simpa using hkd);have HYES:=zA (HRO.out.2 ⟨hsd,hk2⟩);have hkn:(nth raw 0 !=2)=false:=(by simpa using hkd);have hld5:∀ r w',Ea r 18 0 w' (some (.cells (IV .i64 raw) 78))= .ok (.agg (IV .i64 raw)) w':=fun r w'=>by rw[Dp (by simp[hrl])];simp[<-hrl]
    obtain⟨r1,r2,r3⟩:=HSOUND.out hsd;have R3:=zA r3;clear HRO HBEL HFIN HSOUND r3;go_wp2_with fail;have hw6:∀ (k:Nat) (cs:Array Value) (t:TypeId),hat (w5.setCell ⟨gl,7,none⟩ (Uy (w5.heap.size+1))) k=some (.cells cs t)->hat (((w5.setCell ⟨gl,7,none⟩ (Uy (w5.heap.size+1))).alloc (.cells (IV .i64 raw) 78)).alloc (.cells #[.slice none 0 0] 32)) k=some (.cells cs t):=fun k cs t h=>(B7 _ _ (B7 _ _ h).1).1
    have hgl6:=hw6 gl _ _ (Ah w5 gl 7 (Uy (w5.heap.size+1)) _ _ _ hgl5);have hfs:Fr [gl] w5 (((w5.setCell ⟨gl,7,none⟩ (Uy (w5.heap.size+1))).alloc (.cells (IV .i64 raw) 78)).alloc (.cells #[.slice none 0 0] 32)):=((Ai _ _ _ _).trans (Be _ _ _)).trans (Be _ _ _);have hgr6:hat (((w5.setCell ⟨gl,7,none⟩ (Uy (w5.heap.size+1))).alloc (.cells (IV .i64 raw) 78)).alloc (.cells #[.slice none 0 0] 32)) (w5.heap.size+1)=some (.cells #[.slice none 0 0] 32):=Bc _ _ _ (by simp);have h2z:w.heap.size≠gl:=(by omega);have hz6:=(hfs.block _ (Aa hz5) (by simpa using h2z)).trans hz5;have hgn:=HGN.out;simp only[List.mem_cons,List.not_mem_nil,or_false,not_or]at hgn;obtain⟨g1,g2,g3,g4⟩:=hgn;have h56:aJ N cw S w3 (((w5.setCell ⟨gl,7,none⟩ (Uy (w5.heap.size+1))).alloc (.cells (IV .i64 raw) 78)).alloc (.cells #[.slice none 0 0] 32)) gw bc bt bf:=by
     have h:=H55.out;obtain⟨csw,h5w,-⟩:=id h.ws;exact⟨h.gw0,h.bc0,h.bt0,h.bf0,h.ws.same (hfs.block _ (Aa h5w) (by simpa using Ne.symm g1)),(hfs.block _ (Aa h.c) (by simpa using Ne.symm g2)).trans h.c,(hfs.block _ (Aa h.t) (by simpa using Ne.symm g3)).trans h.t,(hfs.block _ (Aa h.f) (by simpa using Ne.symm g4)).trans h.f,h.n1,h.n2,h.n3,h.n4,h.n5,h.n6⟩
    have hgi3:gi<w3.heap.size:=(by omega);have hlt5:w3.heap.size<=w5.heap.size:=(by omega);have hrn:w5.heap.size+1∉[gl,gw,bc,bf,bt]:=by
     have h:=H55.out;obtain⟨csw,h5w,-⟩:=id h.ws;have a1:=Aa h5w;have a2:=Aa h.c;have a3:=Aa h.t;have a4:=Aa h.f;simp only[List.mem_cons,List.not_mem_nil,or_false,not_or];omega
    have HLW6:=zA (lZ (ci:=ci) (cw:=cw) (gr:=w5.heap.size+1) HMAY.out hgi3 (Nat.le_trans hlt5 hfs.size) (HS5.out.same (hfs.block _ HS5.out.lt (by simp;omega))) h56 hgl6 hgl0 HGN.out hgr6 (by omega) hrn);have HF6:=zA (((HF5.out.mono (ex':=[gl]) (by simp)).trans hfs).old (ex':=[]) (by simp;omega));unfold Uy at HLW6 HF6 hz6;clear h56 hw6 hgl6 hgr6 hfs hz5 hgl5 H55 HS5 HF5;generalize ((w5.setCell ⟨gl,7,none⟩ (.func (.func 50) #[] #[.pointer (some ⟨w5.heap.size+1,0,none⟩)])).alloc (.cells (IV .i64 raw) 78)).alloc (.cells #[.slice none 0 0] 32)=w6 at*;generalize w5.heap.size+1=gr at*;generalize hV:(⟨⟨gl,gw,N,bc,bt,bf,0,cw,N,Y,.slice (some ⟨gi,oi,none⟩) N ci,.func (.func 50) #[] #[.pointer (some ⟨gr,0,none⟩)]⟩,gr,gi,oi,ci,w3.heap.size,S⟩:WE)=V at HLW6;have v1:gl=V.E.gl:=(by rw[<-hV]);have v2:gw=V.E.gw:=(by rw[<-hV]);have v3:bt=V.E.bt:=(by rw[<-hV]);have v4:gr=V.gr:=(by rw[<-hV]);have v5:N=V.E.N:=(by rw[<-hV]);have v6:Y=V.E.Y:=(by rw[<-hV]);have v7:w3.heap.size=V.G0:=(by rw[<-hV]);have v8:S=V.IMG:=(by rw[<-hV]);have v9:cw=V.E.cw:=(by rw[<-hV]);have v10:(N:Int)=V.E.X:=(by rw[<-hV]);have hcall:=eP HLW6.out 1 raw hrl (Nat.le_refl _) (by rw[<-v6];exact y1) rfl r1 r2 R3.out;rw[<-v1, <-v6, <-v10]at hcall;refine hcall.mono ?_;rintro e w7 ⟨rfl,ob,B,⟨gx,bx⟩,hlw7,hmv7,hB⟩;have hl7:=hlw7.k.look;unfold Bz at hl7;rw[<-v1]at hl7;have hp7:=hlw7.ptr 1 (by omega);rw[hB,show((1:Nat):Int)=1 from rfl]at hp7;simp only[Option.map_some,Lz]at hp7;have ht7:(Dg N Y 1 raw 0 (Cf S)).T 1=some ⟨(Aj N Y raw (Cf S).st).1,0,(Aj N Y raw (Cf S).st).2.bk⟩:=(by simp[Dg,A2]);obtain⟨t',ht',hgx7,-⟩:=hlw7.yes 1 _ hB;rw[ht7]at ht';obtain rfl:=Option.some.inj ht';simp only at hgx7;have hz8:=Fj (hlw7.zi.t 1 _ ht7).2.2.1 0 bx;simp only at hz8;generalize hc8:inC (Aj N Y raw (Cf S).st).1 0 bx=c8 at hgx7 hz8;have z18:18<c8.size:=(by omega);have hlw8:=hlw7.en hB ht7 (n:=1) (by omega) (by omega);have hz0:Df N Y S={Dg N Y 1 raw 0 (Cf S)with T:=A2 (Dg N Y 1 raw 0 (Cf S)).T 1 ⟨(Aj N Y raw (Cf S).st).1,1,(Aj N Y raw (Cf S).st).2.bk⟩}:=(by rw[<-hRAW];exact jN N Y S);rw[<-hz0]at hlw8;have hqs:(Df N Y S).q=[1]:=by
     rw[hz0];show(if nth raw 0=2 then(Cf S).q++[((1:Nat):Int)]else _)=_
     rw[if_pos hk2];rfl
    have HLW8:=zA hlw8;have HQS:=zA hqs;have HB7:=zA ((hmv7.below HLW6.out (by simp)).trans ((Ai w7 gx 18 (.int .i64 1)).below (B:=V.G0) (Nat.le_trans HLW6.out.sz hmv7.size) (by obtain⟨t0,-,-,-,h1,-⟩:=hlw7.yes 1 _ hB;simpa using h1)));have hq8:=hlw8.q;rw[hqs, <-v4]at hq8;have HQ8:=zA hq8;have HVV:Hid (gl=V.E.gl/\gw=V.E.gw/\bt=V.E.bt/\gr=V.gr/\N=V.E.N/\Y=V.E.Y/\w3.heap.size=V.G0/\S=V.IMG/\cw=V.E.cw/\(N:Int)=V.E.X):=zA ⟨v1,v2,v3,v4,v5,v6,v7,v8,v9,v10⟩;clear hlw7 hlw8 hmv7 hc8 ht7 hcall hz0 hqs hq8 hB ht' v1 v2 v3 v4 v5 v6 v7 v8 v9 v10 hV;go_wp2_with fail;refine(Vp gr ob 1 [] _ HQ8.out).mono ?_;rintro e w9 ⟨rfl,hq9,hf9⟩;have HLW9:Hid (LW V ob B {Df N Y S with q:=[]} w9):=zA (HLW8.out.pop HQS.out (by rw[<-HVV.out.2.2.2.1];exact hq9) (by rw[<-HVV.out.2.2.2.1];exact hf9));have HB9:Hid (Below V.G0 w6 w9):=zA (HB7.out.trans ((Ch.gr (V:=V) (but:=[]) (ob:=ob) (B:=B) (by rw[<-HVV.out.2.2.2.1];exact hf9)).below HLW8.out (by simp)))
    have HKB:Hid (∃ v,B 1=some v):=zA (by
     obtain⟨-,t,ht⟩:=HLW8.out.zi.q 1 (by rw[HQS.out];simp);cases hb:B 1 with
     |none=>
      have:=HLW8.out.no 1 hb;have e:(1:Int).toNat=1:=rfl;rw[e,this]at ht;cases ht
     |some v=>exact⟨v,rfl⟩)
    have HLL:Hid (Gq N Y S 8191 (Ct N Y S 1 {Df N Y S with q:=[]})=Bh N Y S/\Ek {Df N Y S with q:=[]}<=8191):=zA (by
     refine⟨?_,?_⟩
     ·unfold Bh;rw[E0 N Y S 8191 (Df N Y S) 1 [] HQS.out];rfl
     ·exact Nat.le_of_succ_le_succ (Nat.le_trans (Nat.le_of_eq (Rj HQS.out)) HLW8.out.zi.pot))
    clear hq9 hf9 HLW8 HQS HB7 HQ8 hl7 hp7 hgx7 hz8 z18 hk0 hk2 hkn hkd;go_wp2_with fail;have H3L:Hid (w.heap.size<w3.heap.size):=zA (by omega);have HZ6:=zA hz6;clear hz6 hgz hgz3 z34 z45 hzl5 hgll5 hgl0 hgi3 hlt5 hcl h2z
    go_loopg [11,12] (Ek {Df N Y S with q:=[]}+1) (fun g i m wr=>∃ (ob:Option Nat) (B:Nat->Option (Nat×Nat)) (z:LZ),Hid (LW V ob B z wr)/\Hid (Below V.G0 w6 wr)/\
     ((m= .bool true/\∃ (k f:Nat),i= .int .i64 k/\k<4096/\Hid (∃ v,B k=some v)/\g=Ek z+1/\Hid (Ek z<=f)/\Hid (Gq N Y S f (Ct N Y S k z)=Bh N Y S))\/(m= .bool false/\i= .int .i64 0/\g=0/\Hid (z=Bh N Y S))))
    case atStart=>exact⟨ob,B,_,HLW9,HB9,.inl ⟨rfl,1,8191,rfl,by omega,HKB,rfl,zA HLL.out.2,zA HLL.out.1⟩⟩
    case round=>
     obtain⟨ob1,B1,z1,H1,HB1,hor⟩:=hrel;clear HLW9 HB9 HKB HLL;rcases hor with ⟨rfl,k,f,rfl,hk,HK,rfl,HP,HE⟩|⟨rfl,rfl,rfl,HE⟩
     ·obtain⟨v,hv⟩:=HK.out;have hcall:=pS H1.out k hk v hv;rw[<-HVV.out.1]at hcall;have HC:=zA hcall;clear hcall hv;go_wp2_with fail;refine HC.out.mono ?_;rintro e wA ⟨rfl,obA,BA,hlwA,hmvA⟩;have HMA:=zA (HB1.out.trans (hmvA.below H1.out (by simp)));have hpot:Ek (Ct V.E.X V.E.Y V.IMG k z1)<=Ek z1:=W6 (by have:=hlwA.small;have:=hlwA.img4096;omega) _ _ _;rw[<-HVV.out.2.2.2.2.2.2.2.2.2, <-HVV.out.2.2.2.2.2.1, <-HVV.out.2.2.2.2.2.2.2.1]at hlwA hpot;have HLA:=zA hlwA;have hqA:=hlwA.q;rw[<-HVV.out.2.2.2.1]at hqA;clear hlwA hmvA HC;cases hQ:(Ct N Y S k z1).q with
      |nil=>
       rw[hQ]at hqA;have HQA:=zA hqA;have HFI:Hid (Ct N Y S k z1=Bh N Y S):=zA (by rw[<-HE.out,Gj _ _ _ _ _ hQ]);clear hqA hpot;go_wp2_with fail;refine(iR gr obA _ HQA.out).mono ?_;rintro e wB ⟨rfl,rfl⟩;go_wp2_with fail;go_roundg 0
       case measure=>omega
       case rel=>exact⟨obA,BA,_,HLA,HMA,.inr ⟨rfl,rfl,rfl,HFI⟩⟩
      |cons j r=>
       rw[hQ]at hqA;have HQA:=zA hqA;obtain⟨hj0,tj,htj⟩:=HLA.out.zi.q j (by rw[hQ];simp);obtain⟨jn,rfl⟩:=Int.eq_ofNat_of_zero_le hj0;have htj:(Ct N Y S k z1).T jn=some tj:=htj;have hj4:jn<4096:=by
        have h1:=(HLA.out.zi.t jn tj htj).2.1;have h2:Y=V.E.Y:=HVV.out.2.2.2.2.2.1;omega
       have hpp:=Rj hQ;obtain⟨f',hf'⟩:∃ f',f=f'+1:=⟨f-1,by have:=HP.out;omega⟩;have HE2:Hid (Gq N Y S f' (Ct N Y S jn {Ct N Y S k z1 with q:=r})=Bh N Y S):=zA (by rw[<-HE.out,hf',E0 _ _ _ _ _ _ _ hQ];rfl);have HP2:Hid (Ek {Ct N Y S k z1 with q:=r}<=f'):=zA (Nat.le_of_succ_le_succ (Nat.le_trans (Nat.le_of_eq hpp) (Nat.le_trans hpot (Nat.le_trans HP.out (Nat.le_of_eq hf')))));have hlt:Ek {Ct N Y S k z1 with q:=r}+1<Ek z1+1:=Nat.lt_succ_of_le (Nat.le_trans (Nat.le_of_eq hpp) hpot)
       have HKJ:Hid (∃ v,BA jn=some v):=zA (by
        cases hb:BA jn with
        |none=>(have h3:=HLA.out.no jn hb;rw[h3]at htj;cases htj)
        |some v=>exact⟨v,rfl⟩)
       have HQQ:=zA hQ;clear hqA hpot hpp hj0 htj hQ;go_wp2_with fail;refine(Vp gr obA jn r _ HQA.out).mono ?_;rintro e wB ⟨rfl,hqB,hfB⟩;have HLB:=zA (HLA.out.pop HQQ.out (by rw[<-HVV.out.2.2.2.1];exact hqB) (by rw[<-HVV.out.2.2.2.1];exact hfB));have HMB:=zA (HMA.out.trans ((Ch.gr (V:=V) (but:=[]) (ob:=obA) (B:=BA) (by rw[<-HVV.out.2.2.2.1];exact hfB)).below HLA.out (by simp)));clear hqB hfB;go_wp2_with fail;go_roundg (Ek {Ct N Y S k z1 with q:=r}+1)
       case measure=>exact hlt
       case rel=>exact⟨obA,BA,_,HLB,HMB,.inl ⟨rfl,jn,f',rfl,hj4,HKJ,rfl,HP2,HE2⟩⟩
     ·have hcall:=bY H1.out;rw[<-HVV.out.1]at hcall;have HC:=zA hcall;have hzr:hat wr w.heap.size=_:=(HB1.out.block _ (by rw[<-HVV.out.2.2.2.2.2.2.1];exact H3L.out)).trans HZ6.out;have HS1:=zA H1.out.sz;clear hcall;go_wp2_with fail;refine HC.out.mono ?_;rintro e wE ⟨u1,u2,u3,o1,o2,o3,rfl,k1,k2,k3,k4,k5,k6⟩;have hzE:hat wE w.heap.size=_:=(k5.block _ (by rw[<-HVV.out.2.2.2.2.2.2.1];exact H3L.out)).trans hzr;have HE1:=zA (Dc hzE (.slice (some ⟨V.E.gw,0,none⟩) V.E.N V.E.cw) u1 u2 u3);have P4:=Cl wE w.heap.size (.slice (some ⟨V.E.gw,0,none⟩) V.E.N V.E.cw) u1 u2 u3;have K:=zA (show _/\_/\_/\_/\_/\_/\_ from⟨k1,k2,k3,k4,k5,k6,P4⟩);clear k1 k2 k3 k4 k5 k6 P4 hzr HC;obtain⟨p1,q1,c1,rfl⟩:∃ p q c,u1= .slice p q c:=K.out.2.1.sl;obtain⟨p2,q2,c2,rfl⟩:∃ p q c,u2= .slice p q c:=K.out.2.2.1.sl;obtain⟨p3,q3,c3,rfl⟩:∃ p q c,u3= .slice p q c:=K.out.2.2.2.1.sl;go_wp2_with fail;refine Aw Fe rfl (cs:= #[.slice (some ⟨V.E.gw,0,none⟩) V.E.N V.E.cw,.slice p1 q1 c1,.slice p2 q2 c2,.slice p3 q3 c3]) rfl HE1.out rfl rfl (.inl ⟨HYES.out,?_⟩);obtain⟨k1,k2,k3,k4,k5,k6,P4⟩:=K.out;obtain⟨-,e2,-,-,e5,e6,e7,e8,-,-⟩:=HVV.out;rw[<-e5, <-e6,HE.out]at k1;rw[<-e5, <-e6,HE.out, <-e8]at k2;rw[HE.out]at k3 k4;rw[<-e5]at P4 ⊢;have hg:=H1.out.lo V.E.gw (by simp[B4]);have hg2:=H1.out.mlt V.E.gw (by simp[B4]);have h3:=H3L.out;have hs:=HS1.out;have hne:V.E.gw∉[w.heap.size]:=(by simp;omega);have hqn:∀ o∈[o1,o2,o3],∀ q,o=some q->q∉[w.heap.size]:=fun o ho q hq=>by
       have:=k6.1 o ho q hq;simp;omega
      obtain⟨csE,hcE,-⟩:=id k1;refine⟨V.E.gw,V.E.cw,_,_,_,o1,o2,o3,rfl,k1.same (P4.block _ (Aa hcE) hne),k2.fr P4 (hqn o1 (by simp)),k3.fr P4 (hqn o2 (by simp)),k4.fr P4 (hqn o3 (by simp)),?_,by omega,fun o ho q hq=>?_,k6.2⟩
      ·have hw6:=HF6.out.size;have hle:w.heap.size<=V.G0:=(by omega);exact(((HF6.out.below (B:=w.heap.size) (Nat.le_refl _) (by simp)).trans (HB1.out.mono hle)).trans (k5.mono hle)).trans (P4.below (by have:=k5.size;omega) (by simp))
      ·have:=k6.1 o ho q hq;omega
theorem Bg.cell{w:World}{v:Value}{ob:Option Nat}{xs:List Int}(h:Bg w v ob xs){k:Nat}(hk:k<xs.length):∃ g off c cs,v= .slice (some ⟨g,off,none⟩) xs.length c/\ob=some g/\hat w g=some (.cells cs 3)/\cs[off+k]? =some (.int .i64 (nth xs k)):=by
 rcases h with ⟨-,-,rfl⟩|⟨g,off,c,cs,rfl,h1,h2,h3,h4,h5⟩
 ·simp at hk
 ·exact⟨g,off,c,cs,rfl,h1,h2,h5 k _ (by rw[An hk])⟩
theorem Sk{v1 v2:Value}{o1 o2:Option Nat}{xs ys:List Int}{w:World}(h1:Bg w v1 o1 xs)(h2:Bg w v2 o2 ys)(hx:xs.length<=100000)(hy:ys.length<=100000):
  Calls Tryz.prog 19 #[v1,v2] w fun e w'=>e= .returned (.bool (decide (xs=ys)))/\Fr [] w w':=by
 obtain⟨a1,c1,e1⟩:=h1.slice;obtain⟨a2,c2,e2⟩:=h2.slice;subst e1 e2;have H1:=zA h1;have H2:=zA h2;clear h1 h2;generalize hM:xs.length=M at*;generalize hK:ys.length=K at*;have HM:=zA hM;have HK:=zA hK;clear hM hK;by_cases hMK:M=K
 ·subst hMK;have d1:((M:Int) !=(M:Int))=false:=(by simp);have hpost:∀ (b:Bool) W,Fr [] w W->b=decide (xs=ys)->(fun e w'=>e=Ending.returned (.bool (decide (xs=ys)))/\Fr [] w w') (.returned (.bool b)) W:=fun b W hf hb=>⟨by rw[hb],hf⟩
  have HP:=zA hpost;clear hpost;go_enter Tryz.func19,Tryz.ntmps19;go_wp2_with fail;go_loopw [5] (fun v wr=>∃ k:Nat,v= .int .i64 k/\k<=M/\Hid (∀ j,j<k->nth xs j=nth ys j)/\Hid (Fr [] w wr)) (fun v wr=>M-(intOf v).toNat)
  case atStart=>exact⟨0,rfl,Nat.zero_le _,zA (fun j hj=>by omega),zA (Fr.refl _ _)⟩
  case round=>
   obtain⟨k,rfl,hk,HE,HF⟩:=hrel;by_cases hkM:k<M
   ·have hk0:(0:Int)<=(k:Int):=Int.natCast_nonneg _;have hk1:(k:Int)<(M:Int):=(by omega);obtain⟨g1,f1,cc1,cs1,s1,t1,u1,x1⟩:=(H1.out.fr HF.out (by simp)).cell (k:=k) (by rw[HM.out];exact hkM);obtain⟨g2,f2,cc2,cs2,s2,t2,u2,x2⟩:=(H2.out.fr HF.out (by simp)).cell (k:=k) (by rw[HK.out];exact hkM);injection s1 with s1
    injection s2 with s2
    subst s1 s2 t1 t2;cases hq:(nth xs k==nth ys k)with
    |true=>
     have hqn:(nth xs k !=nth ys k)=false:=(by simpa using hq);go_wp2_with fail;go_region
     go_wp2_with fail;go_roundw
     case rel=>
      refine⟨k+1,by go_num,by omega,zA (fun j hj=>?_),zA (Bb HF.out)⟩;by_cases hjk:j=k
      ·subst hjk;simpa using hq
      ·exact HE.out j (by omega)
     case measure=>(show M-(k+1)<M-k);omega
    |false=>
     have hqn:(nth xs k !=nth ys k)=true:=(by simpa using hq);go_wp2_with fail;go_region
     go_wp2_with fail;go_ret;refine HP.out false _ (Bb HF.out) ?_;symm
     rw[decide_eq_false_iff_not];intro e;rw[e]at hq;simp at hq
   ·obtain rfl:k=M:=(by omega);go_wp2_with fail;go_ret;refine HP.out true _ HF.out ?_;symm
    rw[decide_eq_true_eq];apply List.ext_getElem?
    intro j;by_cases hj:j<k
    ·rw[An (by rw[HM.out];exact hj),An (by rw[HK.out];exact hj),HE.out j hj]
    ·rw[List.getElem?_eq_none (by rw[HM.out];omega),List.getElem?_eq_none (by rw[HK.out];omega)]
 ·have d1:((M:Int) !=(K:Int))=true:=(by simp;omega);have hne:decide (xs=ys)=false:=by
   rw[decide_eq_false_iff_not];intro e;rw[e]at HM;exact hMK (HM.out.symm.trans HK.out)
  rw[hne];go_enter Tryz.func19,Tryz.ntmps19;go_wp2_with fail;go_ret;exact⟨rfl,Fr.refl _ _⟩
theorem L6{σ:Type}(At:Int->σ->Bool×σ)(keepP:Nat->Int->σ->Bool×σ)(base step n:Int):∀ (m k:Nat) (st:σ),A0 At keepP base step n k (List.replicate m 0) st=(List.replicate m 0,false,st)
 |0,_,_=>rfl
 |m+1,k,st=>by
  rw[List.replicate_succ,E6,if_pos rfl,L6 At keepP base step n m (k+1) st]
theorem Vq{X Y:Int}{kd lk sz md p n:Int}(hn:0<n)(st:LS)(hp:p≠0)(hd:isD X Y p=true)(hc:st.cl p=false):
  Az X Y n ([kd,lk,sz,md,p]++List.replicate 13 0) st=([kd,lk,sz,md,p]++List.replicate 13 0,{st with cl:=A8 st.cl p,bk:=Ec st.bk 0 p}):=by
 have h1:(([kd,lk,sz,md,p]++List.replicate 13 0:List Int).drop 4).take 12=p::List.replicate 11 0:=rfl;have hg:Au X Y p st=(true,{st with cl:=A8 st.cl p}):=by unfold Au;rw[if_pos ⟨hd,hc⟩]
 have h2:J9 X Y n 0 (p::List.replicate 11 0) st=(p::List.replicate 11 0,true,{st with cl:=A8 st.cl p,bk:=Ec st.bk 0 p}):=by
  unfold J9;rw[E6,if_neg hp,if_neg (by simp;omega),hg];simp only[Cm,Bool.true_eq_false,if_false];rw[L6];rfl
 have z0:∀ (kp:Nat->Int->LS->Bool×LS) (base:Int) (st:LS),A0 (Au X Y) kp base 1 n 0 [0] st=([0],false,st):=fun kp base st=>L6 (Au X Y) kp base 1 n 1 0 st
 unfold Az;simp only;rw[h1,h2];have h16:nth ([kd,lk,sz,md,p]++List.replicate 13 0) 16=0:=rfl;have h17:nth ([kd,lk,sz,md,p]++List.replicate 13 0) 17=0:=rfl;rw[h16,h17];simp only[z0];rfl
def exA:List Int:=[2,7,128,0,5]++List.replicate 13 0
def gF:List Int:=[2,1,128,0,5]++List.replicate 13 0
def exB:List Int:=[1,1,3,0,6]++List.replicate 13 0
def exN:ByteArray:={data:= #[97]}
def exH:List Int:=[104,101,108,108,111]++zl 123
def exS:Nat->List Int:=Ay (Ay (Ay (Ay (Ay (fun _=>zl 128) 0 (Cw 16 4)) 1 (Cp exA)) 2 (Cp exB)) 5 (Cu 2 exN)) 6 exH
theorem pV:B0 exA:=by
 unfold B0;rw[if_neg (by decide)];refine⟨by decide,fun j h1 h2=>?_,?_⟩
 ·have:j=4\/j=5\/j=6\/j=7\/j=8\/j=9\/j=10\/j=11\/j=12\/j=13\/j=14\/j=15\/j=16\/j=17:=(by omega);rcases this with rfl|rfl|rfl|rfl|rfl|rfl|rfl|rfl|rfl|rfl|rfl|rfl|rfl|rfl<;>decide
 ·decide
theorem kS:B0 gF:=by
 unfold B0;rw[if_neg (by decide)];refine⟨by decide,fun j h1 h2=>?_,?_⟩
 ·have:j=4\/j=5\/j=6\/j=7\/j=8\/j=9\/j=10\/j=11\/j=12\/j=13\/j=14\/j=15\/j=16\/j=17:=(by omega);rcases this with rfl|rfl|rfl|rfl|rfl|rfl|rfl|rfl|rfl|rfl|rfl|rfl|rfl|rfl<;>decide
 ·decide
theorem dK:B0 exB:=by
 unfold B0;rw[if_neg (by decide)];refine⟨by decide,fun j h1 h2=>?_,?_⟩
 ·have:j=4\/j=5\/j=6\/j=7\/j=8\/j=9\/j=10\/j=11\/j=12\/j=13\/j=14\/j=15\/j=16\/j=17:=(by omega);rcases this with rfl|rfl|rfl|rfl|rfl|rfl|rfl|rfl|rfl|rfl|rfl|rfl|rfl|rfl<;>decide
 ·decide
theorem pW:Fd 2 exN:=by decide+kernel
theorem tD:Ew 16 4:=by unfold Ew;omega
theorem pX:exS 0=Cw 16 4:=by simp[exS,Ay]
theorem dL:exS 1=Cp exA:=by simp[exS,Ay]
theorem dM:exS 2=Cp exB:=by simp[exS,Ay]
theorem pY:exS 3=zl 128:=by simp[exS,Ay]
theorem pZ:exS 4=zl 128:=by simp[exS,Ay]
theorem qA:exS 5=Cu 2 exN:=by simp[exS,Ay]
theorem dN:exS 6=exH:=by simp[exS,Ay]
theorem kT:A1 (exS 0)=(16,4,0):=by rw[pX];exact Xp tD
theorem kU:Am (exS 1)=(exA,0):=by rw[dL];exact Ih (by decide) pV
theorem sE:Am (exS 2)=(exB,0):=by rw[dM];exact Ih (by decide) dK
theorem kX:Cv 2 exN=(Cu 2 exN,0):=by
 unfold Cv;rw[if_neg (by omega),if_pos pW]
theorem vK:Ax (exS 5)=(2,exN,0):=by
 have h:=Ud (x:=2) (s:=exN) (by rw[kX]);rw[kX]at h;rw[qA];exact h
def Uq:TI:=⟨exA,1,Ec (fun _=>none) 0 5⟩
def xQ:TI:=⟨exB,1,Ec (fun _=>none) 0 6⟩
def exZ:LZ:=⟨⟨Ay exS 6 (C8 exH 3),A8 (A8 (fun _=>false) 5) 6,(Eg 1 ⟨exS,A8 (fun _=>false) 5,fun _=>false,Ec (fun _=>none) 0 5⟩).fm,Ec (fun _=>none) 0 6⟩,A2 (A2 (fun _=>none) 1 Uq) 2 xQ,[]⟩
theorem lA:Aj 16 4 exA ⟨exS,fun _=>false,fun _=>false,fun _=>none⟩=(exA,Eg 1 ⟨exS,A8 (fun _=>false) 5,fun _=>false,Ec (fun _=>none) 0 5⟩):=by
 unfold Aj;have h2:Aq (nth exA 2)=1:=rfl;rw[h2];have h:=Vq (X:=16) (Y:=4) (kd:=2) (lk:=7) (sz:=128) (md:=0) (p:=5) (n:=1) (by omega) ⟨exS,fun _=>false,fun _=>false,fun _=>none⟩ (by omega) (by decide) rfl;simp only;rw[show([2,7,128,0,5]++List.replicate 13 0:List Int)=exA from rfl]at h;rw[h,if_pos (by rfl)]
theorem lB(fm:Int->Bool)(bk:Int->Option Int):Aj 16 4 exB ⟨exS,A8 (fun _=>false) 5,fm,bk⟩=(exB,⟨Ay exS 6 (C8 exH 3),A8 (A8 (fun _=>false) 5) 6,fm,Ec (fun _=>none) 0 6⟩):=by
 unfold Aj;have h2:Aq (nth exB 2)=1:=rfl;rw[h2];have h:=Vq (X:=16) (Y:=4) (kd:=1) (lk:=1) (sz:=3) (md:=0) (p:=6) (n:=1) (by omega) ⟨exS,A8 (fun _=>false) 5,fm,fun _=>none⟩ (by omega) (by decide) (by show A8 (fun _=>false) 5 6=false;decide);simp only;rw[show([1,1,3,0,6]++List.replicate 13 0:List Int)=exB from rfl]at h;rw[h,if_neg (by decide)];unfold Bt;show(_,(⟨Ay exS 6 (C8 (exS 6) 3),_,_,_⟩:LS))=_
 rw[dN]
theorem kZ:Df 16 4 exS=⟨Eg 1 ⟨exS,A8 (fun _=>false) 5,fun _=>false,Ec (fun _=>none) 0 5⟩,A2 (fun _=>none) 1 Uq,[1]⟩:=by
 unfold Df Dg;rw[kU,lA];rfl
theorem kY:Bw (exS 2)=true:=by
 unfold Bw;rw[sE];decide
theorem dO:Bh 16 4 exS=exZ:=by
 unfold Bh;rw[kZ,E0 16 4 exS 8191 _ 1 [] rfl];have h1:Ct 16 4 exS (1:Int).toNat ⟨Eg 1 ⟨exS,A8 (fun _=>false) 5,fun _=>false,Ec (fun _=>none) 0 5⟩,A2 (fun _=>none) 1 Uq,[]⟩=exZ:=by
  unfold Ct;have ht:A2 (fun _=>none) 1 Uq (1:Int).toNat=some Uq:=rfl;simp only[ht];have hc:(Aq (nth Uq.raw 2)).toNat=1:=rfl;have hb:Uq.bk ((0:Nat):Int)=some 5:=rfl;rw[hc];simp only[G4,hb];unfold Cy;have h5:Ax ((Eg 1 ⟨exS,A8 (fun _=>false) 5,fun _=>false,Ec (fun _=>none) 0 5⟩).S (5:Int).toNat)=(2,exN,0):=vK;simp only[h5];rw[if_neg (by omega)];have he:Cz 16 4 exS (2:Int).toNat exN (⟨Eg 1 ⟨exS,A8 (fun _=>false) 5,fun _=>false,Ec (fun _=>none) 0 5⟩,A2 (fun _=>none) 1 Uq,[]⟩,fun _=>false)=(true,exZ,Ll (fun _=>false) exN):=by
   unfold Cz;rw[if_neg (by simp)];have hz:Cn 16 4 exS (2:Int).toNat ⟨Eg 1 ⟨exS,A8 (fun _=>false) 5,fun _=>false,Ec (fun _=>none) 0 5⟩,A2 (fun _=>none) 1 Uq,[]⟩=some exZ:=by
    unfold Cn;have ht2:A2 (fun _=>none) 1 Uq (2:Int).toNat=none:=rfl;have hs2:Bw (exS (2:Int).toNat)=true:=kY;have hr2:Am (exS (2:Int).toNat)=(exB,0):=sE;simp only[ht2,hs2,if_true,hr2];unfold Dg;have hx:=lB (Eg 1 ⟨exS,A8 (fun _=>false) 5,fun _=>false,Ec (fun _=>none) 0 5⟩).fm (Eg 1 ⟨exS,A8 (fun _=>false) 5,fun _=>false,Ec (fun _=>none) 0 5⟩).bk;have hx2:Aj 16 4 exB (Eg 1 ⟨exS,A8 (fun _=>false) 5,fun _=>false,Ec (fun _=>none) 0 5⟩)=_:=hx;simp only;rw[hx2];rfl
   simp only[hz]
  rw[he,if_pos ⟨trivial,by omega,rfl⟩]
 rw[h1];exact Gj _ _ _ _ _ rfl
theorem sF:Ck 4 exZ 1=Cp gF:=by
 unfold Ck;rw[if_pos (by omega)];show(Dr (exA.set 1 1)).1=_
 rw[show exA.set 1 1=gF from rfl,Ix kS]
theorem vL:Ck 4 exZ 2=Cp exB:=by
 unfold Ck;rw[if_pos (by omega)];show(Dr (exB.set 1 1)).1=_
 rw[show exB.set 1 1=exB from rfl,Ix dK]
theorem kW(j:Nat)(h1:j≠1)(h6:j≠6):Ck 4 exZ j=exS j:=by
 by_cases h2:j=2
 ·subst h2;rw[vL,dM]
 ·unfold Ck;by_cases hj:1<=j/\(j:Int)<=4
  ·rw[if_pos hj];have:j=3\/j=4:=(by omega);rcases this with rfl|rfl
   ·rw[pY];rfl
   ·rw[pZ];rfl
  ·rw[if_neg hj];show Ay exS 6 _ j=_
   unfold Ay;rw[if_neg h6]
theorem kV:Ck 4 exZ 6=[104,101,108]++zl 125:=by
 unfold Ck;rw[if_neg (by omega)];show Ay exS 6 (C8 exH 3) 6=_
 decide+kernel
theorem exD(j:Nat):decide (Ck 4 exZ j≠exS j)=(decide (j=1)||decide (j=6)):=by
 by_cases h1:j=1
 ·subst h1;rw[sF];have:Cp gF≠exS 1:=(by rw[dL];decide+kernel);simp[this]
 ·by_cases h6:j=6
  ·subst h6;rw[kV];have:([104,101,108]++zl 125:List Int)≠exS 6:=(by rw[dN];decide+kernel);rw[decide_eq_true this];rfl
  ·rw[kW j h1 h6];simp[h1,h6]
theorem vM:∀ p:Int,exZ.st.fm p=decide (p=5):=by
 intro p;show(false||(List.range (1:Int).toNat).any fun k=>Ec (fun _=>none) 0 5 (k:Int)==some p)=_
 by_cases h:p=5
 ·subst h;decide
 ·have h2:(Ec (fun _=>none) 0 5 ((0:Nat):Int)==some p)=false:=by
   show(some 5==some p)=false
   simp;omega
  have h3:(List.range (1:Int).toNat)=[0]:=rfl;simp only[h3,List.any_cons,List.any_nil,h2,h];decide
theorem lC:Es 16 4 (Ck 4 exZ) exS exZ.st.fm=[1,6]:=by
 unfold Es Bv;simp only[exD,vM];decide+kernel
theorem Vh:∃ i0 z,Tryz.prog.info? 47=some i0/\i0.zero=some z/\z.cells=IV .u8 (zl 128)/\i0.size=128/\i0.bytes=128:=by
 have h:(Tryz.prog.info? 47).map (fun i=>(i.zero.map (fun z=>z.cells),i.size,i.bytes))=some (some (IV .u8 (zl 128)),128,128):=by kernel_rfl
 cases hq:Tryz.prog.info? 47 with
 |none=>rw[hq]at h;cases h
 |some inf=>
  rw[hq]at h;simp only[Option.map_some,Option.some.injEq,Prod.mk.injEq]at h;obtain⟨h1,h2,h3⟩:=h;cases hz:inf.zero with
  |none=>rw[hz]at h1;cases h1
  |some z=>
   rw[hz]at h1;simp only[Option.map_some,Option.some.injEq]at h1;exact⟨inf,z,rfl,hz,h1,h2,h3⟩
theorem B8.lt{w:World}{g N c:Nat}{S:Nat->List Int}(h:B8 w g N c S):g<w.heap.size:=by
 obtain⟨cs,h1,-⟩:=h;exact Aa h1
theorem Ml(w:World)(N:Nat)(hN:N<=4096):∃ w',(Instr.makeSlice 26 (.int .i64 N) (.int .i64 N)).run Tryz.prog w= .ok (.slice (some ⟨w.heap.size,0,none⟩) N N) w'/\B8 w' w.heap.size N N (fun _=>zl 128)/\Below w.heap.size w w':=by
 obtain⟨i,z,h1,h2,h3,h4,h5⟩:=Vh;have hr:=run_make (P:=Tryz.prog) w 26 47 i z Tryz.underlying26 h1 h2 .i64 .i64 N N (by omega) (Int.le_refl _) (by rw[h5];omega) (by omega);rw[Int.toNat_natCast,h4,h3]at hr;refine⟨_,hr,⟨_,(A6 w _).1,by rw[size_madeCells];exact⟨Nat.le_refl _,Nat.le_refl _⟩,fun j hj=>⟨C2 _,F0 _,?_⟩⟩,(Below.refl _ _).alloc (Nat.le_refl _) _⟩;apply Array.ext_getElem?
 intro k;rw[Array.getElem?_extract,Bl,size_madeCells];by_cases hk:k<128
 ·rw[if_pos (by omega)];have hm:((IV .u8 (zl 128)).size:Nat)=128:=(by simp);have hlt:(j*128+k)%128<128:=Nat.mod_lt _ (by omega);have hz:∀ n,n<128->(IV .u8 (zl 128))[n]! = .int .u8 0:=fun n hn=>by
   rw[getElem!_def,Bl];unfold zl;rw[List.getElem?_replicate,if_pos hn];rfl
  unfold madeCells;rw[Array.getElem?_map,Array.getElem?_range,if_pos (by omega)];simp only[Option.map_some,hm,hz _ hlt];unfold zl;rw[List.getElem?_replicate,if_pos hk];rfl
 ·rw[if_neg (by omega),List.getElem?_eq_none (by simp;omega)];rfl
theorem B8.secs{w:World}{g N c:Nat}{S:Nat->List Int}(h:B8 w g N c S):G9 w g 0 N S:=by
 obtain⟨cs,h1,h2,h3⟩:=h;exact⟨cs,_,_,h1,by omega,fun i hi=>by simpa using h3 i hi⟩
theorem qB:Fb exS:=⟨by unfold Bw;rw[kU];decide,by rw[kU];rfl⟩
theorem Bg.two{w:World}{g:Nat}{a b:Int}(h:hat w g=some (.cells #[.int .i64 a,.int .i64 b] 3)):Bg w (.slice (some ⟨g,0,none⟩) 2 2) (some g) [a,b]:=
 .inr ⟨g,0,2,_,rfl,rfl,h,Nat.le_refl _,Nat.le_refl _,fun j p hj=>by
  rcases j with _|_|j
  ·simp at hj;subst hj;rfl
  ·simp at hj;subst hj;rfl
  ·simp at hj⟩
noncomputable def B6(N:Nat)(S:Nat->List Int):Int:=open Classical in
 if N<8\/4096<N then 120 else if (A1 (S 0)).2.2≠0\/(A1 (S 0)).1≠N then 120 else if Fb S then 0 else 121
theorem So{N:Nat}{S:Nat->List Int}(h:B6 N S=0):8<=N/\N<=4096/\(A1 (S 0)).2.2=0/\(A1 (S 0)).1=N/\Fb S:=by
 unfold B6 at h;split at h
 ·cases h
 ·split at h
  ·cases h
  ·split at h
   ·rename_i h1 h2 h3
    refine⟨by omega,by omega,Decidable.byContradiction fun h4=>h2 (.inl h4),Decidable.byContradiction fun h4=>h2 (.inr h4),h3⟩
   ·cases h
theorem Do(w:World)(o:Obj)(ex:List Nat):Fr ex w (w.alloc o):=Af ((Below.refl w.heap.size w).alloc (Nat.le_refl _) _) _
theorem Fr.past{ex ex':List Nat}{w w':World}(h:Fr ex w w')(hs:∀ k∈ex,k∈ex'\/w.heap.size<=k):Fr ex' w w':=
 ⟨h.os,h.tape,h.output,h.size,fun b hb hn=>h.block b hb fun hm=>by
  rcases hs b hm with h1|h1
  ·exact hn h1
  ·omega⟩
def Et(w:World)(g N:Nat)(s:Int->Bool):Prop:=∃ cs,hat w g=some (.cells cs 4)/\N<=cs.size/\∀ j:Nat,j<N->cs[j]? =some (.bool (s j))
theorem Et.lt{w:World}{g N:Nat}{s:Int->Bool}(h:Et w g N s):g<w.heap.size:=by
 obtain⟨cs,h1,-⟩:=h;exact Aa h1
theorem Et.same{w w':World}{g N:Nat}{s:Int->Bool}(h:Et w g N s)(he:hat w' g=hat w g):Et w' g N s:=by
 obtain⟨cs,h1,h2⟩:=h;exact⟨cs,he.trans h1,h2⟩
theorem Et.put{w:World}{g N:Nat}{s:Int->Bool}(h:Et w g N s){p:Nat}(hp:p<N):Et (w.setCell ⟨g,p,none⟩ (.bool true)) g N (A8 s p):=by
 obtain⟨cs,h1,h2,h3⟩:=h;refine⟨cs.setIfInBounds p (.bool true),Ah _ _ _ _ _ _ _ h1,by simpa using h2,fun j hj=>?_⟩;rw[Array.getElem?_setIfInBounds];by_cases hjp:p=j
 ·subst hjp;rw[if_pos rfl,if_pos (by omega)];simp[A8]
 ·rw[if_neg hjp,h3 j hj];have:¬ ((j:Int)=(p:Int)):=(by omega);simp[A8,this]
structure uR where
 (g gs cs gi oi N ci:Nat)
 (X Y:Int)
 (S:Nat->List Int)
 ino:Value
structure SG (E:uR) (w:World) (seen:Int->Bool):Prop where
 s:hat w E.g=some (.cells #[.int .i64 E.X,.int .i64 E.Y,.slice (some ⟨E.gi,E.oi,none⟩) E.N E.ci,.slice (some ⟨E.gs,0,none⟩) E.N E.cs,E.ino] 75)
 b:Et w E.gs E.N seen
 i:G9 w E.gi E.oi E.N E.S
theorem SG.fr{E:uR}{w w':World}{seen:Int->Bool}{ex:List Nat}(h:SG E w seen)(hf:Fr ex w w')(h1:E.g∉ex)(h2:E.gs∉ex)(h3:E.gi∉ex):SG E w' seen:=
 ⟨(hf.block _ (Aa h.s) h1).trans h.s,h.b.same (hf.block _ h.b.lt h2),h.i.same (hf.block _ h.i.lt h3)⟩
@[go_sem] theorem uH (raw:Result Value) (w:World) (a b c d e:Value) (t:TypeId) (fr:Nat×Nat):Ea raw 2 0 w (some (.cells #[a,b,c,d,e] t fr))= .ok (.agg #[a,b]) w:=by
 rw[Dp (by simp)];rfl
def Ms(raw:List Int):List Int:=(raw.drop 4).take 12
theorem pL(raw:List Int)(hr:raw.length=18)(h0:0<=nth raw 2)(h1:nth raw 2<=136704)(w:World):
  Calls Tryz.prog 60 #[.agg (IV .i64 raw)] w fun e w'=>e= .returned (.int .i64 (Aq (nth raw 2)))/\Below w.heap.size w w':=by
 have hc:(IV .i64 raw)[2]? =some (.int .i64 (nth raw 2)):=by rw[Bl,An (by omega)];rfl
 have HR:Hid (∀ x:Int,x=(nth raw 2+127)/128->x=Aq (nth raw 2)):=zA (fun x h=>h);go_enter Tryz.func60,Tryz.ntmps60;go_wp2_with fail;go_ret;exact⟨eH (HR.out _ (by omega)),(Below.refl _ _).alloc (Nat.le_refl _) _⟩
def J0(S:Nat->List Int)(p:Int)(i:Nat):Int:=if p=0 then 0 else nth (Al (S p.toNat)) i
def D6(S:Nat->List Int)(raw:List Int)(k:Nat):Int:=
 if k<12 then nth raw (4+k)else if k<44 then J0 S (nth raw 16) (k-12)else J0 S (if nth raw 17=0 then 0 else nth (Al (S (nth raw 17).toNat)) ((k-44)/32)) ((k-44)%32)
structure Wa (N:Nat) (S:Nat->List Int) (raw:List Int):Prop where
 r:raw.length=18
 p16:0<=nth raw 16/\nth raw 16<N
 p17:0<=nth raw 17/\nth raw 17<N
 d:nth raw 17≠0->∀ p∈Al (S (nth raw 17).toNat),p<N
def De(S:Nat->List Int):List Int->List (Int×ByteArray)->Option (List (Int×ByteArray))
 |[],a=>some a
 |p::r,a=>if p=0 then De S r a else if (Ax (S p.toNat)).2.2≠0 then none else if (Ax (S p.toNat)).1=0 then De S r a else De S r (a++[((Ax (S p.toNat)).1,(Ax (S p.toNat)).2.1)])
theorem Hr(S:Nat->List Int)(p:Int)(r:List Int)(a:List (Int×ByteArray)):De S (p::r) a=if p=0 then De S r a else if (Ax (S p.toNat)).2.2≠0 then none else if (Ax (S p.toNat)).1=0 then De S r a else De S r (a++[((Ax (S p.toNat)).1,(Ax (S p.toNat)).2.1)]):=rfl
def X5(S:Nat->List Int)(raw:List Int):List Int:=(List.range (Aq (nth raw 2)).toNat).map (D6 S raw)
theorem W5{w:World}{b b':Nat}{e:TypeId}{size:Nat}{v:Value}{n:Nat}{xs:List Value}(h:w.ownsRow b e size v n xs)(hb:b'<=b):w.ownsRow b' e size v n xs:=by
 obtain⟨h0,h⟩:=h;refine⟨h0,h.imp_right ?_⟩;rintro ⟨g,cap,cur,h1,h2,h3⟩;exact⟨g,cap,cur,h1,by omega,h3⟩
theorem M3{w w':World}{b:Nat}{e:TypeId}{size:Nat}{v:Value}{n:Nat}{xs:List Value}(h:w.ownsRow b e size v n xs)(hb:Below w.heap.size w w'):w'.ownsRow b e size v n xs:=by
 obtain⟨h0,h⟩:=h;refine⟨h0,h.imp_right ?_⟩;rintro ⟨g,cap,cur,h1,h2,h3,h4⟩;exact⟨g,cap,cur,h1,h2,(hop hb h3).1,h4⟩
section
variable {P:Program} {ops:Array Oper} {Q:Exit->Act->World->Prop}
theorem Br{i:Nat}{o:Oper}{K:Act->World->Prop}{a:Act}{w:World}{j d:Nat}{b b':Bool}(ho:ops[i]? =some o)(hg:o.guard=some (j,b)){oj:Oper}(hj:ops[j]? =some oj)(hd:oj.dst=some d)(h:gt a d= .bool b')(hb:(b==b')=false)(hk:K (a.put o.dst undef) w):wpOp P ops Q i K a w:=by
 have h1:a.tmps[d]? =some (.bool b'):=by
  unfold gt at h;rw[Array.getD_eq_getD_getElem?]at h;cases hx:a.tmps[d]? with
  |none=>rw[hx]at h;cases h
  |some v=>rw[hx]at h;exact congrArg some h
 have h2:yielded ops a.tmps j=some b':=by
  unfold yielded;rw[hj];simp[hd,h1]
 have h3:Region.wanted o (yielded ops a.tmps)=false:=by
  simp[Region.wanted,hg,h2];intro e;subst e;cases b'<;>cases hb
 unfold wpOp;simp only[ho];rw[if_neg (by rw[h3];simp)];exact hk
theorem jU{i:Nat}{o:Oper}{K:Act->World->Prop}{a:Act}{w w1:World}(ho:ops[i]? =some o)(hg:o.guard=none)
  (hr:(execOp a.eval o).run P w= .ok .skip w1) (hk:K (a.put o.dst undef) w1):wpOp P ops Q i K a w:=by
 unfold wpOp;simp only[ho];rw[if_pos (by simp[Region.wanted,hg])];refine .inl ?_;unfold Oper.wp;rw[hr];exact hk
end
abbrev Ent:=Int×ByteArray
def kJ(L:Nat->List Ent)(N j:Nat):Nat:=((List.range (N+1)).map fun i=>(L i).countP fun e=>decide (e.1=(j:Int))).sum
def Xu(L:Nat->List Ent)(c:Nat)(l:List Ent):Nat->List Ent:=fun i=>if i=c then l else L i
theorem Kz(L:Nat->List Ent)(c:Nat)(l:List Ent):Xu L c l c=l:=by unfold Xu;rw[if_pos rfl]
theorem Jq(L:Nat->List Ent){c i:Nat}(l:List Ent)(h:i≠c):Xu L c l i=L i:=by unfold Xu;rw[if_neg h]
theorem eO(f g:Nat->Nat)(c d:Nat)(h:∀ i,i≠c->f i=g i)(hc:f c=g c+d):∀ n:Nat,((List.range n).map f).sum=((List.range n).map g).sum+if c<n then d else 0
 |0=>rfl
 |n+1=>by
  rw[List.range_succ,List.map_append,List.map_append,List.sum_append,List.sum_append,eO f g c d h hc n];simp only[List.map_cons,List.map_nil,List.sum_cons,List.sum_nil];by_cases hn:n=c
  ·subst hn;rw[if_neg (by omega),if_pos (by omega),hc];omega
  ·rw[h n hn];by_cases hl:c<n
   ·rw[if_pos hl,if_pos (by omega)];omega
   ·rw[if_neg hl,if_neg (by omega)];omega
theorem kK(L:Nat->List Ent){N c:Nat}(hc:c<=N)(e:Ent)(j:Nat):kJ (Xu L c (L c++[e])) N j=kJ L N j+if e.1=(j:Int)then 1 else 0:=by
 unfold kJ;rw[eO (fun i=>(Xu L c (L c++[e]) i).countP fun e=>decide (e.1=(j:Int))) (fun i=>(L i).countP fun e=>decide (e.1=(j:Int))) c (if e.1=(j:Int)then 1 else 0)]
 ·rw[if_pos (by omega)]
 ·intro i hi;simp only[Jq L _ hi]
 ·simp only[Kz,List.countP_append,List.countP_cons,List.countP_nil,decide_eq_true_eq];omega
theorem Z7(f:Nat->Nat):∀ n:Nat,(∀ i,i<n->f i=0)->((List.range n).map f).sum=0
 |0,_=>rfl
 |n+1,h=>by
  rw[List.range_succ,List.map_append,List.sum_append,Z7 f n (fun i hi=>h i (by omega))];simp[h n (by omega)]
theorem U6{L:Nat->List Ent}{N j:Nat}(h:∀ i e,e∈L i->e.1≠(j:Int)):kJ L N j=0:=
 Z7 _ _ fun i _=>List.countP_eq_zero.2 fun e he=>by simp[h i e he]
def bkL(bk:Int->Option Int)(n:Nat):List Int:=(List.range n).map fun(k:Nat)=>(bk k).getD 0
theorem Oc(bk:Int->Option Int)(n:Nat):bkL bk (n+1)=bkL bk n++[(bk n).getD 0]:=by
 unfold bkL;rw[List.range_succ,List.map_append];rfl
theorem X3(bk:Int->Option Int):bkL bk 0=[]:=rfl
theorem qQ{bk:Int->Option Int}{n:Nat}{p:Int}(h:p∈bkL bk n)(hp:p≠0):∃ k:Nat,k<n/\bk k=some p:=by
 unfold bkL at h;rw[List.mem_map]at h;obtain⟨k,hk,e⟩:=h;refine⟨k,List.mem_range.1 hk,?_⟩;cases hb:bk k with
 |none=>rw[hb]at e;exact absurd e.symm hp
 |some q=>rw[hb]at e;exact congrArg some e
theorem Kw(S:Nat->List Int):∀ (a b:List Int) (l:List Ent),De S (a++b) l=(De S a l).bind (De S b)
 |[],b,l=>rfl
 |p::r,b,l=>by
  rw[List.cons_append,Hr,Hr];split
  ·exact Kw S r b l
  ·split
   ·rfl
   ·split
    ·exact Kw S r b l
    ·exact Kw S r b _
theorem L9{S S':Nat->List Int}:∀ (a:List Int) (l:List Ent),(∀ p∈a,p≠0->S' p.toNat=S p.toNat)->De S' a l=De S a l
 |[],_,_=>rfl
 |p::r,l,h=>by
  have ih:=fun l=>L9 r l (fun q hq=>h q (List.mem_cons_of_mem _ hq))
  rw[Hr,Hr,ih,ih];by_cases hp:p=0
  ·rw[if_pos hp,if_pos hp]
  ·rw[if_neg hp,if_neg hp,h p (List.mem_cons_self ..) hp]
theorem Jn{S:Nat->List Int}{a:List Int}{l:List Ent}(h:De S a []=some l)(p:Int):De S (a++[p]) []=if p=0 then some l else if (Ax (S p.toNat)).2.2≠0 then none else if (Ax (S p.toNat)).1=0 then some l else some (l++[((Ax (S p.toNat)).1,(Ax (S p.toNat)).2.1)]):=by
 rw[Kw,h];show De S [p] l=_
 rw[Hr];rfl
def Nh(w:World)(g N:Nat)(f:Nat->Int):Prop:=∃ cs,hat w g=some (.cells cs 3)/\N<=cs.size/\∀ j:Nat,j<N->cs[j]? =some (.int .i64 (f j))
theorem Nh.lt{w:World}{g N:Nat}{f:Nat->Int}(h:Nh w g N f):g<w.heap.size:=by
 obtain⟨cs,h1,-⟩:=h;exact Aa h1
theorem Nh.same{w w':World}{g N:Nat}{f:Nat->Int}(h:Nh w g N f)(he:hat w' g=hat w g):Nh w' g N f:=by
 obtain⟨cs,h1,h2⟩:=h;exact⟨cs,he.trans h1,h2⟩
theorem Nh.put{w:World}{g N:Nat}{f f':Nat->Int}(h:Nh w g N f){p:Nat}{x:Int}(hp:p<N)(hf:∀ j,f' j=if p=j then x else f j):Nh (w.setCell ⟨g,p,none⟩ (.int .i64 x)) g N f':=by
 obtain⟨cs,h1,h2,h3⟩:=h;refine⟨cs.setIfInBounds p (.int .i64 x),Ah _ _ _ _ _ _ _ h1,by simpa using h2,fun j hj=>?_⟩;rw[Array.getElem?_setIfInBounds,hf];by_cases hjp:p=j
 ·subst hjp;rw[if_pos rfl,if_pos (by omega),if_pos rfl]
 ·rw[if_neg hjp,if_neg hjp,h3 j hj]
def Lf(w:World)(g M:Nat)(I:Nat->List Int):Prop:=∃ cs,hat w g=some (.cells cs 78)/\cs.size=M*18/\∀ i,i<M->(I i).length=18/\cs.extract (i*18) (i*18+18)=IV .i64 (I i)
theorem Lf.lt{w:World}{g N:Nat}{I:Nat->List Int}(h:Lf w g N I):g<w.heap.size:=by
 obtain⟨cs,h1,-⟩:=h;exact Aa h1
theorem Lf.same{w w':World}{g N:Nat}{I:Nat->List Int}(h:Lf w g N I)(he:hat w' g=hat w g):Lf w' g N I:=by
 obtain⟨cs,h1,h2⟩:=h;exact⟨cs,he.trans h1,h2⟩
theorem Lf.load{w:World}{g M:Nat}{I:Nat->List Int}(h:Lf w g M I){i:Nat}(hi:i<M):
  ∃ cs,hat w g=some (.cells cs 78)/\(I i).length=18/\(∀ raw w',Ea raw 18 (i*18) w' (some (.cells cs 78))= .ok (.agg (IV .i64 (I i))) w')/\∀ k,k<18->cs[i*18+k]? =some (.int .i64 (nth (I i) k)):=by
 obtain⟨cs,h1,h2,h3⟩:=h;obtain⟨hl,hx⟩:=h3 i hi;refine⟨cs,h1,hl,fun raw w'=>?_,fun k hk=>?_⟩
 ·rw[Dp (by omega),hx]
 ·have:=congrArg (fun a:Array Value=>a[k]?) hx;simp only[Array.getElem?_extract,Bl,An (l:=I i) (i:=k) (by omega)]at this;rw[if_pos (by omega)]at this;exact this
theorem Tryz.infoW3:(Tryz.prog.info? 3).map (fun i=>(i.zero,i.size,i.bytes))=some (some (.int .i64 0),1,8):=by kernel_rfl
theorem Tryz.infoW4:(Tryz.prog.info? 4).map (fun i=>(i.zero,i.size,i.bytes))=some (some (.bool false),1,1):=by kernel_rfl
theorem Y3(z:Value)(n j:Nat)(hj:j<n)(hz:z.cells= #[z]):(madeCells z.cells (n*1))[j]? =some z:=by
 rw[hz];unfold madeCells;rw[Array.getElem?_map,Array.getElem?_range,if_pos (by omega)];simp[Nat.mod_one]
theorem iJ(w:World)(N:Nat)(hN:N<=5000):∃ w',(Instr.makeSlice 32 (.int .i64 N) (.int .i64 N)).run Tryz.prog w= .ok (.slice (some ⟨w.heap.size,0,none⟩) N N) w'/\Nh w' w.heap.size N (fun _=>0)/\Below w.heap.size w w':=by
 obtain⟨i,h2,h3,h4,h5⟩:=info_parts Tryz.infoW3;have hr:=run_make (P:=Tryz.prog) w 32 3 i (.int .i64 0) Tryz.underlying32 h2 h3 .i64 .i64 N N (by omega) (Int.le_refl _) (by rw[h5];omega) (by omega);rw[Int.toNat_natCast,h4]at hr;refine⟨_,hr,⟨_,(A6 w _).1,by rw[size_madeCells];omega,fun j hj=>Y3 _ _ _ hj rfl⟩,(Below.refl _ _).alloc (Nat.le_refl _) _⟩
theorem Nr(w:World)(N:Nat)(hN:N<=5000):∃ w',(Instr.makeSlice 72 (.int .i64 N) (.int .i64 N)).run Tryz.prog w= .ok (.slice (some ⟨w.heap.size,0,none⟩) N N) w'/\Et w' w.heap.size N (fun _=>false)/\Below w.heap.size w w':=by
 obtain⟨i,h2,h3,h4,h5⟩:=info_parts Tryz.infoW4;have hr:=run_make (P:=Tryz.prog) w 72 4 i (.bool false) Tryz.underlying72 h2 h3 .i64 .i64 N N (by omega) (Int.le_refl _) (by rw[h5];omega) (by omega);rw[Int.toNat_natCast,h4]at hr;refine⟨_,hr,⟨_,(A6 w _).1,by rw[size_madeCells];omega,fun j hj=>Y3 _ _ _ hj rfl⟩,(Below.refl _ _).alloc (Nat.le_refl _) _⟩
theorem gQ:∃ i0 z,Tryz.prog.info? 78=some i0/\i0.zero=some z/\z.cells=IV .i64 (zl 18)/\i0.size=18/\i0.bytes=144:=by
 have h:(Tryz.prog.info? 78).map (fun i=>(i.zero.map (fun z=>z.cells),i.size,i.bytes))=some (some (IV .i64 (zl 18)),18,144):=by kernel_rfl
 cases hq:Tryz.prog.info? 78 with
 |none=>rw[hq]at h;cases h
 |some inf=>
  rw[hq]at h;simp only[Option.map_some,Option.some.injEq,Prod.mk.injEq]at h;obtain⟨h1,h2,h3⟩:=h;cases hz:inf.zero with
  |none=>rw[hz]at h1;cases h1
  |some z=>
   rw[hz]at h1;simp only[Option.map_some,Option.some.injEq]at h1;exact⟨inf,z,rfl,hz,h1,h2,h3⟩
theorem iI(w:World)(N:Nat)(hN:N<=5000):∃ w',(Instr.makeSlice 73 (.int .i64 N) (.int .i64 N)).run Tryz.prog w= .ok (.slice (some ⟨w.heap.size,0,none⟩) N N) w'/\Lf w' w.heap.size N (fun _=>zl 18)/\Below w.heap.size w w':=by
 obtain⟨i,z,h2,h3,hc,h4,h5⟩:=gQ;have hr:=run_make (P:=Tryz.prog) w 73 78 i z Tryz.underlying73 h2 h3 .i64 .i64 N N (by omega) (Int.le_refl _) (by rw[h5];omega) (by omega);rw[Int.toNat_natCast,h4,hc]at hr;refine⟨_,hr,⟨_,(A6 w _).1,by rw[size_madeCells],fun j hj=>⟨C2 _,?_⟩⟩,(Below.refl _ _).alloc (Nat.le_refl _) _⟩;apply Array.ext_getElem?
 intro k;rw[Array.getElem?_extract,Bl,size_madeCells];by_cases hk:k<18
 ·rw[if_pos (by omega)];have hm:((IV .i64 (zl 18)).size:Nat)=18:=(by simp);have hlt:(j*18+k)%18<18:=Nat.mod_lt _ (by omega);have hz:∀ n,n<18->(IV .i64 (zl 18))[n]! = .int .i64 0:=fun n hn=>by
   rw[getElem!_def,Bl];unfold zl;rw[List.getElem?_replicate,if_pos hn];rfl
  unfold madeCells;rw[Array.getElem?_map,Array.getElem?_range,if_pos (by omega)];simp only[Option.map_some,hm,hz _ hlt];unfold zl;rw[List.getElem?_replicate,if_pos hk];rfl
 ·rw[if_neg (by omega),List.getElem?_eq_none (by simp;omega)];rfl
def kF(w:World)(g:Nat)(l:List Ent):Prop:=∃ cs,hat w g=some (.cells cs 125)/\∀ k x nm,l[k]? =some (x,nm)->cs[k*2]? =some (.int .i64 x)/\cs[k*2+1]? =some (.string nm)
theorem kF.same{w w':World}{g:Nat}{l:List Ent}(h:kF w g l)(he:hat w' g=hat w g):kF w' g l:=by
 obtain⟨cs,h1,h2⟩:=h;exact⟨cs,he.trans h1,h2⟩
def dE(I:Nat->List Int)(M:Nat)(l:List Ent):Prop:=(∀ e∈l,2<=e.1/\e.1<M/\nth (I e.1.toNat) 0≠0)/\(l.map Prod.snd).Nodup
def tA(S I:Nat->List Int)(M i:Nat):Prop:=nth (I i) 0=2->∃ l,De S (X5 S (I i)) []=some l/\dE I M l
def fX(S I:Nat->List Int)(M:Nat)(i:Nat):List Ent:=if 1<=i/\i<M/\nth (I i) 0=2 then(De S (X5 S (I i)) []).getD []else []
theorem Ye{S I:Nat->List Int}{M i:Nat}(h1:1<=i)(h2:i<M)(h3:nth (I i) 0=2){l:List Ent}(h:De S (X5 S (I i)) []=some l):fX S I M i=l:=by
 unfold fX;rw[if_pos ⟨h1,h2,h3⟩,h];rfl
theorem pU{S I:Nat->List Int}{M i:Nat}(h3:nth (I i) 0≠2):fX S I M i=[]:=by
 unfold fX;rw[if_neg (fun h=>h3 h.2.2)]
def sR(L:Nat->List Ent)(P:Nat->Prop):Prop:=∀ i e,P i->e∈L i->P e.1.toNat
def unr(M:Nat)(rch:Int->Bool):Nat:=((List.range M).filter fun(j:Nat)=> !rch (j:Int)).length
theorem eU{M:Nat}{rch:Int->Bool}{x:Nat}(hx:x<M)(h:rch x=false):unr M (A8 rch x)<unr M rch:=by
 unfold unr;have e:(List.range M).filter (fun(j:Nat)=> !A8 rch x (j:Int))=((List.range M).filter fun(j:Nat)=> !rch (j:Int)).filter fun j=>j !=x:=by
  rw[List.filter_filter];apply List.filter_congr
  intro j _;by_cases hj:j=x
  ·subst hj;simp[A8]
  ·have:¬ ((j:Int)=(x:Int)):=(by omega);simp[A8,hj,this]
 rw[e,List.length_filter_lt_length_iff_exists];exact⟨x,List.mem_filter.2 ⟨List.mem_range.2 hx,by simp[h]⟩,by simp⟩
def Gc(X Y base:Int)(k:Nat)(p:Int)(st:LS):Bool×LS:=
 if isD X Y p=true/\st.cl p=false then(true,{st with cl:=A8 st.cl p,bk:=Ec st.bk (base+k) p})else(false,st)
noncomputable def Du(X Y:Int)(F:List Int->LS->List Int×Bool×LS)(p:Int)(st:LS):Bool×LS:=
 if isD X Y p=true/\st.cl p=false then C7 F p.toNat {st with cl:=A8 st.cl p}else(false,st)
def F4(T:Nat->Int->LS->Bool×LS)(base step n:Int):Nat->List Int->LS->List Int×Bool×LS
 |_,[],st=>([],false,st)
 |k,p::r,st=>
  if p=0\/n<=base+step*k\/(T k p st).1=false then(0::(F4 T base step n (k+1) r st).1,(F4 T base step n (k+1) r st).2.1,(F4 T base step n (k+1) r st).2.2)
  else(p::(F4 T base step n (k+1) r (T k p st).2).1,true,(F4 T base step n (k+1) r (T k p st).2).2.2)
theorem D0(T:Nat->Int->LS->Bool×LS)(base step n:Int)(k:Nat)(p:Int)(r:List Int)(st:LS):F4 T base step n k (p::r) st=
  if p=0\/n<=base+step*k\/(T k p st).1=false then(0::(F4 T base step n (k+1) r st).1,(F4 T base step n (k+1) r st).2.1,(F4 T base step n (k+1) r st).2.2)
  else(p::(F4 T base step n (k+1) r (T k p st).2).1,true,(F4 T base step n (k+1) r (T k p st).2).2.2):=rfl
theorem O1{At:Int->LS->Bool×LS}{keepP:Nat->Int->LS->Bool×LS}{T:Nat->Int->LS->Bool×LS}(base step n:Int)
  (hT:∀ k p st,T k p st=if (At p st).1=false then(false,(At p st).2)else keepP k p (At p st).2) (hF:∀ k p st,(T k p st).1=false->(T k p st).2=st):
  ∀ (ps:List Int) (k:Nat) (st:LS),A0 At keepP base step n k ps st=F4 T base step n k ps st
 |[],_,_=>rfl
 |p::r,k,st=>by
  rw[E6,D0];simp only[O1 base step n hT hF r];by_cases h0:p=0
  ·rw[if_pos h0,if_pos (.inl h0)]
  ·rw[if_neg h0];by_cases h1:n<=base+step*k
   ·rw[if_pos h1,if_pos (.inr (.inl h1))]
   ·rw[if_neg h1];have ht:=hT k p st;by_cases h2:(At p st).1=false
    ·rw[if_pos h2]at ht;have hf:=hF k p st (by rw[ht]);have e:(At p st).2=st:=(by rw[ht]at hf;exact hf);rw[if_pos h2,if_pos (.inr (.inr (by rw[ht]))),e]
    ·rw[if_neg h2]at ht;rw[if_neg h2, <-ht];by_cases h3:(T k p st).1=false
     ·rw[if_pos h3,if_pos (.inr (.inr h3)),hF k p st h3]
     ·rw[if_neg h3,if_neg (by rintro (h|h|h)<;>contradiction)]
def Gr(s s2:LS):Prop:=∀ j:Nat,s.cl j=true->s2.cl j=true/\s2.fm j=s.fm j/\s2.S j=s.S j
theorem Gr.refl(s:LS):Gr s s:=fun _ h=>⟨h,rfl,rfl⟩
theorem Gr.trans{a b c:LS}(h:Gr a b)(h2:Gr b c):Gr a c:=fun j hj=>by
 obtain⟨h3,h4,h5⟩:=h j hj;obtain⟨h6,h7,h8⟩:=h2 j h3;exact⟨h6,h7.trans h4,h8.trans h5⟩
def Pb(s:LS):Prop:=∀ j:Nat,s.fm j=true->s.cl j=true
structure Xx (T:Int->LS->Bool×LS):Prop where
 fail:∀ p s,(T p s).1=false->(T p s).2=s
 grow:∀ p s,Gr s (T p s).2
 fmcl:∀ p s,Pb s->Pb (T p s).2
structure Wd (F:List Int->LS->List Int×Bool×LS):Prop where
 fail:∀ ps s,(F ps s).2.1=false->(F ps s).2.2=s/\∀ i,nth (F ps s).1 i=0
 grow:∀ ps s,Gr s (F ps s).2.2
 fmcl:∀ ps s,Pb s->Pb (F ps s).2.2
 sub:∀ ps s i,nth (F ps s).1 i=nth ps i\/nth (F ps s).1 i=0
 len:∀ ps s,(F ps s).1.length=ps.length
theorem J3(p:Int)(r:List Int):nth (p::r) 0=p:=rfl
theorem J4(p:Int)(r:List Int)(i:Nat):nth (p::r) (i+1)=nth r i:=rfl
theorem B5{X Y p:Int}(hY:0<=Y)(h:isD X Y p=true):(p.toNat:Int)=p/\p≠0:=by
 unfold isD at h;have:=of_decide_eq_true h;omega
theorem E7(s:Int->Bool)(p:Int):A8 s p p=true:=by simp[A8]
theorem C9{s:Int->Bool}{p q:Int}(h:s q=true):A8 s p q=true:=by simp[A8,h]
theorem I8{s:Int->Bool}{p q:Int}(h:q≠p):A8 s p q=s q:=by simp[A8,h]
theorem pQ{s:Int->Bool}{p:Int}(h:s p=false):Q2 (A8 s p) p=s:=by
 funext q
 unfold Q2 A8;by_cases hq:q=p
 ·subst hq;simp[h]
 ·simp[hq]
theorem Cx(S:Nat->List Int)(i:Nat)(a:List Int):Ay S i a i=a:=by unfold Ay;rw[if_pos rfl]
theorem Ca(S:Nat->List Int){i j:Nat}(a:List Int)(h:j≠i):Ay S i a j=S j:=by unfold Ay;rw[if_neg h]
theorem L7{T:Nat->Int->LS->Bool×LS}(hT:∀ k,Xx (T k))(base step n:Int)(k0:Nat):Wd (F4 T base step n k0):=by
 refine⟨fun ps=>?_,fun ps=>?_,fun ps=>?_,fun ps=>?_,fun ps=>?_⟩
 ·induction ps generalizing k0 with
  |nil=>intro s _;exact⟨rfl,fun i=>rfl⟩
  |cons p r ih=>
   intro s h;rw[D0]at h ⊢;split at h
   ·rename_i hc
    rw[if_pos hc];obtain⟨h1,h2⟩:=ih (k0+1) s h;refine⟨h1,fun i=>?_⟩;cases i with
    |zero=>rfl
    |succ i=>exact h2 i
   ·cases h
 ·induction ps generalizing k0 with
  |nil=>intro s;exact Gr.refl _
  |cons p r ih=>
   intro s;rw[D0];split
   ·exact ih (k0+1) s
   ·exact((hT k0).grow p s).trans (ih (k0+1) _)
 ·induction ps generalizing k0 with
  |nil=>intro s h;exact h
  |cons p r ih=>
   intro s h;rw[D0];split
   ·exact ih (k0+1) s h
   ·exact ih (k0+1) _ ((hT k0).fmcl p s h)
 ·induction ps generalizing k0 with
  |nil=>intro s i;exact .inl rfl
  |cons p r ih=>
   intro s i;rw[D0];split
   ·cases i with
    |zero=>exact .inr rfl
    |succ i=>exact ih (k0+1) s i
   ·cases i with
    |zero=>exact .inl rfl
    |succ i=>exact ih (k0+1) _ i
 ·induction ps generalizing k0 with
  |nil=>intro s;rfl
  |cons p r ih=>
   intro s;rw[D0];split
   ·simp[ih (k0+1) s]
   ·simp[ih (k0+1) (T k0 p s).2]
theorem Qa(X Y base:Int)(k:Nat):Xx (Gc X Y base k):=by
 refine⟨fun p s h=>?_,fun p s=>?_,fun p s h=>?_⟩
 ·unfold Gc at h ⊢;split at h
  ·cases h
  ·rename_i hc;rw[if_neg hc]
 ·unfold Gc;split
  ·exact fun j hj=>⟨C9 hj,rfl,rfl⟩
  ·exact Gr.refl _
 ·unfold Gc;split
  ·exact fun j hj=>C9 (h j hj)
  ·exact h
theorem Gd{X Y:Int}{F:List Int->LS->List Int×Bool×LS}{p:Int}{s:LS}(h:(Du X Y F p s).1=true):
  isD X Y p=true/\s.cl p=false/\(F (Al (s.S p.toNat)) {s with cl:=A8 s.cl p}).2.1=true/\
  (Du X Y F p s).2={(F (Al (s.S p.toNat)) {s with cl:=A8 s.cl p}).2.2 with S:=Ay (F (Al (s.S p.toNat)) {s with cl:=A8 s.cl p}).2.2.S p.toNat (D5 (F (Al (s.S p.toNat)) {s with cl:=A8 s.cl p}).1).1,fm:=A8 (F (Al (s.S p.toNat)) {s with cl:=A8 s.cl p}).2.2.fm p.toNat}:=by
 unfold Du at h ⊢;split at h
 ·rename_i hc
  rw[if_pos hc];unfold C7 at h ⊢;split at h
  ·cases h
  ·rename_i hl
   rw[if_neg hl];exact⟨hc.1,hc.2,by simpa using hl,rfl⟩
 ·cases h
theorem Qb{X Y:Int}{F:List Int->LS->List Int×Bool×LS}{p:Int}{s:LS}(h1:isD X Y p=true)(h2:s.cl p=false):(Du X Y F p s).1=(F (Al (s.S p.toNat)) {s with cl:=A8 s.cl p}).2.1:=by
 unfold Du;rw[if_pos ⟨h1,h2⟩];unfold C7;split
 ·rename_i h;exact h.symm
 ·rename_i h;simpa using h
theorem Hd{X Y:Int}(hY:0<=Y){F:List Int->LS->List Int×Bool×LS}(hF:Wd F):Xx (Du X Y F):=by
 have hfail:∀ p s,(Du X Y F p s).1=false->(Du X Y F p s).2=s:=by
  intro p s h;unfold Du at h ⊢;split at h
  ·rename_i hc
   rw[if_pos hc];unfold C7 at h ⊢;split at h
   ·rename_i hl
    rw[if_pos hl];have e:=(hF.fail _ _ hl).1;have hp:=(B5 hY hc.1).1;simp only;rw[e];simp only[hp,pQ hc.2]
   ·cases h
  ·rename_i hc;rw[if_neg hc]
 refine⟨hfail,fun p s=>?_,fun p s h=>?_⟩
 ·cases hb:(Du X Y F p s).1 with
  |false=>rw[hfail p s hb];exact Gr.refl _
  |true=>
   obtain⟨h1,h2,h3,h4⟩:=Gd hb;rw[h4];obtain⟨hp,-⟩:=B5 hY h1;intro j hj;have hjp:(j:Int)≠p:=fun e=>by rw[e,h2]at hj;cases hj
   have hjn:j≠p.toNat:=fun e=>hjp (by rw[e,hp])
   obtain⟨g1,g2,g3⟩:=hF.grow (Al (s.S p.toNat)) {s with cl:=A8 s.cl p} j (C9 hj);refine⟨g1,?_,?_⟩
   ·show A8 _ _ _=_
    rw[I8 (by rw[hp];exact hjp)];exact g2
   ·show Ay _ _ _ _=_
    rw[Ca _ _ hjn];exact g3
 ·cases hb:(Du X Y F p s).1 with
  |false=>rw[hfail p s hb];exact h
  |true=>
   obtain⟨h1,h2,h3,h4⟩:=Gd hb;rw[h4];obtain⟨hp,-⟩:=B5 hY h1;intro j hj;have hc1:Pb {s with cl:=A8 s.cl p}:=fun j hj=>C9 (h j hj)
   by_cases hjp:(j:Int)=p
   ·have:=(hF.grow (Al (s.S p.toNat)) {s with cl:=A8 s.cl p} j (by rw[hjp];exact E7 _ _)).1;exact this
   ·have hj2:A8 (F (Al (s.S p.toNat)) {s with cl:=A8 s.cl p}).2.2.fm p.toNat j=true:=hj;rw[I8 (by rw[hp];exact hjp)]at hj2;exact hF.fmcl _ _ hc1 j hj2
def P7(a b:List Int):Prop:=∀ i,nth (Al a) i=nth (Al b) i\/nth (Al a) i=0
structure Sd (X Y:Int) (allw:Prop) (W A:Nat->List Int) (f0:Int->Bool) (s s':LS):Prop where
 cl:s'.cl=s.cl
 fm:s'.fm=s.fm
 bk:s'.bk=s.bk
 S:∀ j,s'.S j=s.S j\/s'.S j=W j
 un:∀ j:Nat,isD X Y j=true->s.cl j=false->s'.S j=A j/\A4 (s.S j)/\(¬ allw->P7 (A j) (s.S j))
 f0:∀ j:Nat,f0 j=true->s.cl j=true
 fc:Pb s
def Pro(allw:Prop)(W A:Nat->List Int)(f0:Int->Bool)(s:LS):Prop:=∀ j:Nat,s.fm j=true->f0 j=false->s.S j=W j/\(allw->A j=W j)
theorem Pro.back{allw:Prop}{W A:Nat->List Int}{f0:Int->Bool}{s s2:LS}(h:Pro allw W A f0 s2)(hg:Gr s s2)(hc:Pb s):Pro allw W A f0 s:=fun j hj h0=>by
 obtain⟨h1,h2,h3⟩:=hg j (hc j hj);have:=h j (by rw[h2];exact hj) h0;rw[h3]at this;exact this
structure sW (X Y:Int) (allw:Prop) (W A:Nat->List Int) (f0:Int->Bool) (T:Int->LS->Bool×LS):Prop where
 yes:∀ p s s',Sd X Y allw W A f0 s s'->Pro allw W A f0 (T p s).2->(T p s).1=true->(T p s').1=true/\Sd X Y allw W A f0 (T p s).2 (T p s').2
 no:∀ p s s',Sd X Y allw W A f0 s s'->Pro allw W A f0 s->(T p s).1=false->¬ allw->(T p s').1=false
def fE(X Y:Int)(allw:Prop)(W A:Nat->List Int)(f0:Int->Bool)(F:List Int->LS->List Int×Bool×LS):Prop:=
 ∀ ps ps' s s',Sd X Y allw W A f0 s s'->Pro allw W A f0 (F ps s).2.2->ps'.length=ps.length->(∀ i,(nth ps' i=nth ps i\/(nth ps' i=0/\nth (F ps s).1 i=0))/\(allw->nth ps' i=nth (F ps s).1 i))->
  (F ps' s').1=(F ps s).1/\(F ps' s').2.1=(F ps s).2.1/\Sd X Y allw W A f0 (F ps s).2.2 (F ps' s').2.2
theorem Mq{X Y:Int}{allw:Prop}{W A:Nat->List Int}{f0:Int->Bool}{T:Nat->Int->LS->Bool×LS}(hT:∀ k,Xx (T k))(hS:∀ k,sW X Y allw W A f0 (T k))(base step n:Int)(k0:Nat):fE X Y allw W A f0 (F4 T base step n k0):=by
 intro ps;induction ps generalizing k0 with
 |nil=>
  intro ps' s s' hR hP hl hi;cases ps' with
  |nil=>exact⟨rfl,rfl,hR⟩
  |cons _ _=>cases hl
 |cons p r ih=>
  intro ps' s s' hR hP hl hi;cases ps' with
  |nil=>cases hl
  |cons p' r'=>
   have hl':r'.length=r.length:=(by simpa using hl);have h0:=hi 0;have hS':=fun i=>hi (i+1)
   rw[D0]at hP h0 hS' ⊢;rw[D0];by_cases hc:p=0\/n<=base+step*k0\/(T k0 p s).1=false
   ·rw[if_pos hc]at hP h0 hS' ⊢;simp only[J3,J4]at h0 hS';have hc':p'=0\/n<=base+step*k0\/(T k0 p' s').1=false:=by
     by_cases hp0:p'=0
     ·exact .inl hp0
     ·have hpp:p'=p:=by
       rcases h0.1 with h|h
       ·exact h
       ·exact absurd h.1 hp0
      have hna:¬ allw:=fun ha=>hp0 (h0.2 ha)
      subst hpp;rcases hc with h|h|h
      ·exact .inl h
      ·exact .inr (.inl h)
      ·exact .inr (.inr ((hS k0).no p' s s' hR (hP.back ((L7 hT base step n (k0+1)).grow r s) hR.fc) h hna))
    rw[if_pos hc'];obtain⟨a1,a2,a3⟩:=ih (k0+1) r' s s' hR hP hl' hS';exact⟨by rw[a1],a2,a3⟩
   ·rw[if_neg hc]at hP h0 hS' ⊢;simp only[J3,J4]at h0 hS';have hp0:p≠0:=fun h=>hc (.inl h)
    have hpp:p'=p:=by
     rcases h0.1 with h|h
     ·exact h
     ·exact absurd h.2 hp0
    subst hpp;have ht:(T k0 p' s).1=true:=by
     cases hb:(T k0 p' s).1 with
     |true=>rfl
     |false=>exact absurd (.inr (.inr hb)) hc
    have hPm:Pro allw W A f0 (T k0 p' s).2:=hP.back ((L7 hT base step n (k0+1)).grow r _) ((hT k0).fmcl p' s hR.fc);obtain⟨b1,b2⟩:=(hS k0).yes p' s s' hR hPm ht;have hc':¬ (p'=0\/n<=base+step*k0\/(T k0 p' s').1=false):=by
     rintro (h|h|h)
     ·exact hp0 h
     ·exact hc (.inr (.inl h))
     ·rw[b1]at h;cases h
    rw[if_neg hc'];obtain⟨a1,a2,a3⟩:=ih (k0+1) r' _ _ b2 hP hl' hS';exact⟨by rw[a1],rfl,a3⟩
theorem cV(X Y:Int)(allw:Prop)(W A:Nat->List Int)(f0:Int->Bool)(base:Int)(k:Nat):sW X Y allw W A f0 (Gc X Y base k):=by
 refine⟨fun p s s' hR hP h=>?_,fun p s s' hR hP h hna=>?_⟩
 ·unfold Gc at h hP ⊢;split at h
  ·rename_i hc
   rw[if_pos hc]at hP ⊢;rw[if_pos (by rw[hR.cl];exact hc)];refine⟨rfl,by show A8 s'.cl p=A8 s.cl p;rw[hR.cl],hR.fm,by show Ec s'.bk _ _=Ec s.bk _ _;rw[hR.bk],hR.S,fun j hj hcj=>hR.un j hj ?_,fun j hj=>C9 (hR.f0 j hj),fun j hj=>C9 (hR.fc j hj)⟩;cases hb:s.cl j with
   |false=>rfl
   |true=>have:A8 s.cl p j=true:=C9 hb;rw[show A8 s.cl p j=false from hcj]at this;cases this
  ·cases h
 ·unfold Gc at h ⊢;split at h
  ·cases h
  ·rename_i hc
   rw[if_neg (by rw[hR.cl];exact hc)]
theorem Nw{o c:List Int}(hc:A4 c)(hs:∀ i,nth o i=nth (Al c) i\/nth o i=0):F8 o:=by
 intro j hj;rcases hs j with h|h
 ·rw[h];have hm:nth (Al c) j∈Al c:=by
   unfold nth;rw[List.getElem?_eq_getElem (by simp;exact hj)];exact List.getElem_mem _
  exact Jk hc _ hm
 ·rw[h];omega
theorem N7{X Y:Int}(hY:0<=Y){allw:Prop}{W A:Nat->List Int}{f0:Int->Bool}{F:List Int->LS->List Int×Bool×LS}(hF:Wd F)(hS:fE X Y allw W A f0 F):sW X Y allw W A f0 (Du X Y F):=by
 have hclaim:∀ p s s',Sd X Y allw W A f0 s s'->Sd X Y allw W A f0 {s with cl:=A8 s.cl p} {s' with cl:=A8 s'.cl p}:=fun p s s' hR=>
  ⟨by show A8 s'.cl p=A8 s.cl p;rw[hR.cl],hR.fm,hR.bk,hR.S,fun j hj hcj=>hR.un j hj (by
   cases hb:s.cl j with
   |false=>rfl
   |true=>have:A8 s.cl p j=true:=C9 hb;rw[show A8 s.cl p j=false from hcj]at this;cases this),fun j hj=>C9 (hR.f0 j hj),fun j hj=>C9 (hR.fc j hj)⟩
 refine⟨fun p s s' hR hP h=>?_,fun p s s' hR hP h hna=>?_⟩
 ·obtain⟨h1,h2,h3,h4⟩:=Gd h;obtain⟨hp,hp0⟩:=B5 hY h1;have h1':isD X Y (p.toNat:Int)=true:=(by rw[hp];exact h1);have h2':s.cl (p.toNat:Int)=false:=(by rw[hp];exact h2);obtain⟨u1,u2,u3⟩:=hR.un p.toNat h1' h2';have hR1:=hclaim p s s' hR;rw[h4]at hP;have hmay:F8 (F (Al (s.S p.toNat)) {s with cl:=A8 s.cl p}).1:=Nw u2 (fun i=>hF.sub _ _ i);have hlen:(F (Al (s.S p.toNat)) {s with cl:=A8 s.cl p}).1.length=32:=(by rw[hF.len];simp);have hback:=Tb _ hlen hmay;have hf0:f0 p.toNat=false:=by
   cases hb:f0 p.toNat with
   |false=>rfl
   |true=>have:=hR.f0 p.toNat hb;rw[h2']at this;cases this
  have hW:=hP p.toNat (E7 _ _) hf0;obtain⟨hW1,hW2⟩:=hW;have hW1:Dh (F (Al (s.S p.toNat)) {s with cl:=A8 s.cl p}).1 32=W p.toNat:=by
   rw[<-hW1];show _=Ay _ _ _ _
   rw[Cx,J5 hmay]
  have hsfm:s.fm p.toNat=false:=by
   cases hb:s.fm p.toNat with
   |false=>rfl
   |true=>have:=hR.fc p.toNat hb;rw[h2']at this;cases this
  have hg:=hF.grow (Al (s.S p.toNat)) {s with cl:=A8 s.cl p} p.toNat (by rw[hp];exact E7 _ _);have hPin:Pro allw W A f0 (F (Al (s.S p.toNat)) {s with cl:=A8 s.cl p}).2.2:=by
   intro j hj hj0;have hne:j≠p.toNat:=fun e=>by
    subst e;have h9:(F (Al (s.S p.toNat)) {s with cl:=A8 s.cl p}).2.2.fm p.toNat=s.fm p.toNat:=hg.2.1;rw[h9,hsfm]at hj;cases hj
   have:=hP j (C9 hj) hj0;obtain⟨t1,t2⟩:=this;refine⟨?_,t2⟩;rw[<-t1];exact(Ca _ _ hne).symm
  have hrel:∀ i,(nth (Al (s'.S p.toNat)) i=nth (Al (s.S p.toNat)) i\/(nth (Al (s'.S p.toNat)) i=0/\nth (F (Al (s.S p.toNat)) {s with cl:=A8 s.cl p}).1 i=0))/\(allw->nth (Al (s'.S p.toNat)) i=nth (F (Al (s.S p.toNat)) {s with cl:=A8 s.cl p}).1 i):=by
   intro i;refine⟨?_,fun ha=>?_⟩
   ·rcases hR.S p.toNat with e|e
    ·exact .inl (by rw[e])
    ·rw[e, <-hW1,hback];rcases hF.sub (Al (s.S p.toNat)) {s with cl:=A8 s.cl p} i with h|h
     ·exact .inl h
     ·exact .inr ⟨h,h⟩
   ·rw[u1,hW2 ha, <-hW1,hback]
  obtain⟨a1,a2,a3⟩:=hS _ (Al (s'.S p.toNat)) _ _ hR1 hPin (by simp) hrel;have hyes:(Du X Y F p s').1=true:=(by rw[Qb h1 (by rw[hR.cl];exact h2),a2,h3]);obtain⟨-,-,-,h4'⟩:=Gd hyes;refine⟨hyes,?_⟩;rw[h4,h4'];refine⟨a3.cl,?_,a3.bk,fun j=>?_,fun j hj hcj=>?_,a3.f0,fun j hj=>?_⟩
  ·show A8 _ _=A8 _ _
   rw[a3.fm]
  ·by_cases hjp:j=p.toNat
   ·subst hjp;left
    show Ay _ _ _ _=Ay _ _ _ _
    rw[Cx,Cx,a1]
   ·show Ay _ _ _ _=Ay _ _ _ _\/Ay _ _ _ _=_
    rw[Ca _ _ hjp,Ca _ _ hjp];exact a3.S j
  ·have hne:j≠p.toNat:=fun e=>by
    subst e;have h9:(F (Al (s.S p.toNat)) {s with cl:=A8 s.cl p}).2.2.cl p.toNat=false:=hcj;rw[hg.1]at h9;cases h9
   obtain⟨v1,v2,v3⟩:=a3.un j hj hcj;show Ay _ _ _ _=_/\A4 (Ay _ _ _ _)/\(¬ allw->P7 _ (Ay _ _ _ _))
   rw[Ca _ _ hne,Ca _ _ hne];exact⟨v1,v2,v3⟩
  ·by_cases hjp:(j:Int)=(p.toNat:Int)
   ·have:j=p.toNat:=(by omega);subst this;exact hg.1
   ·have hj2:A8 (F (Al (s.S p.toNat)) {s with cl:=A8 s.cl p}).2.2.fm p.toNat j=true:=hj;rw[I8 hjp]at hj2;exact a3.fc j hj2
 ·by_cases hc:isD X Y p=true/\s.cl p=false
  ·obtain⟨h1,h2⟩:=hc;obtain⟨hp,hp0⟩:=B5 hY h1;have h1':isD X Y (p.toNat:Int)=true:=(by rw[hp];exact h1);have h2':s.cl (p.toNat:Int)=false:=(by rw[hp];exact h2);obtain⟨u1,u2,u3⟩:=hR.un p.toNat h1' h2';have hR1:=hclaim p s s' hR;rw[Qb h1 h2]at h;obtain⟨e1,e2⟩:=hF.fail _ _ h;have hPin:Pro allw W A f0 (F (Al (s.S p.toNat)) {s with cl:=A8 s.cl p}).2.2:=(by rw[e1];exact hP)
   obtain⟨a1,a2,a3⟩:=hS _ (Al (s'.S p.toNat)) _ _ hR1 hPin (by simp) (fun i=>⟨by
    rw[u1];rcases u3 hna i with h|h
    ·exact .inl h
    ·exact .inr ⟨h,e2 i⟩,fun ha=>absurd ha hna⟩)
   rw[Qb h1 (by rw[hR.cl];exact h2),a2,h]
  ·unfold Du;rw[if_neg (by rw[hR.cl];exact hc)]
end Go.Proofs.YtmnecpnkkapflaaGreat
