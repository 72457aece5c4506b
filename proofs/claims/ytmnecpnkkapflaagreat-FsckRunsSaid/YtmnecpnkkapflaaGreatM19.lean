import Derived.Great.BuildSlice
import Derived.Deep.CutBlock
import Derived.Test.YtmnecpnkkapflaaGreatM09
import Derived.Test.YtmnecpnkkapflaaGreatM10
import Derived.Test.YtmnecpnkkapflaaGreatM12
import Derived.Test.YtmnecpnkkapflaaGreatM13
import Derived.Test.YtmnecpnkkapflaaGreatM18
namespace Go.Proofs.YtmnecpnkkapflaaGreat
set_option maxHeartbeats 16000000
set_option maxRecDepth 1000000
set_option linter.unusedSimpArgs false
set_option linter.unusedVariables false
open Go.RowKit
def Rn:List We:=[(0,0,[66,82,75,87,16,0,0,0,4]),(1,0,[2,7,0,0,128]),(1,16,[5]),(2,0,[1,1,0,0,3]),(2,16,[6]),(5,0,[2,0,0,0,1,97]),(6,0,[104,101,108,108,111])]
theorem tR:Nu 16=16:=by decide+kernel
theorem cO:(List.range 16).all (fun j=>decide (iS 16 Rn j=exS j))=true:=by decide+kernel
theorem tS{j:Nat}(hj:j<16):iS 16 Rn j=exS j:=by
 have h:=List.all_eq_true.1 cO j (List.mem_range.2 hj);exact of_decide_eq_true h
theorem Oj(w:World)(o:Obj)(n:Nat):hat (w.alloc o) n=if n=w.heap.size then some o else hat w n:=by
 by_cases h:n=w.heap.size
 ·rw[if_pos h];exact Bc w o n h
 ·rw[if_neg h];unfold hat;show(w.heap.push o)[n]? =w.heap[n]?
  rw[Array.getElem?_push,if_neg h]
theorem Nf.lit{w:World}{b:Nat}{cs:Array Value}{t:TypeId}(l:List Int)(hl:l.length<=100)(hb:A4 l)(h:hat w b=some (.cells cs t))(hc:cs=IV .u8 l){n:Nat}(hn:n=l.length):Nf w (.slice (some ⟨b,0,none⟩) n n) l:=by
 subst hc hn;refine⟨_,_,rfl,by omega,hb,fun _=>⟨b,0,_,_,_,rfl,h,by simp,fun k x hx=>?_⟩⟩;rw[Bl,Nat.zero_add,hx];rfl
theorem Ey{x:Int}(h0:0<=x)(h1:x<=1000):I64 x:=⟨by omega,by omega⟩
theorem jK{W:World}{b0 b1 b2 b3 b4 b5 b6 b7:Nat}
  (h0:hat W b0=some (.cells (IV .u8 [66,82,75,87,16,0,0,0,4]) 5)) (h1:hat W b1=some (.cells (IV .u8 [2,7,0,0,128]) 5)) (h2:hat W b2=some (.cells (IV .u8 [5]) 5)) (h3:hat W b3=some (.cells (IV .u8 [1,1,0,0,3]) 5))
  (h4:hat W b4=some (.cells (IV .u8 [6]) 5)) (h5:hat W b5=some (.cells (IV .u8 [2,0,0,0,1,97]) 5)) (h6:hat W b6=some (.cells (IV .u8 [104,101,108,108,111]) 5))
  (h7:hat W b7=some (.cells #[.int .i64 0,.int .i64 0,.slice (some ⟨b0,0,none⟩) 9 9,.int .i64 1,.int .i64 0,.slice (some ⟨b1,0,none⟩) 5 5,.int .i64 1,.int .i64 16,.slice (some ⟨b2,0,none⟩) 1 1,.int .i64 2,.int .i64 0,.slice (some ⟨b3,0,none⟩) 5 5,.int .i64 2,.int .i64 16,.slice (some ⟨b4,0,none⟩) 1 1,.int .i64 5,.int .i64 0,.slice (some ⟨b5,0,none⟩) 6 6,.int .i64 6,.int .i64 0,.slice (some ⟨b6,0,none⟩) 5 5] 44)):
  Pic W (.agg #[.int .i64 16,.slice (some ⟨b7,0,none⟩) 7 7]) 16 Rn:=by
 refine⟨Ey (by omega) (by omega),_,_,rfl,by decide,fun _=>⟨b7,0,_,_,_,rfl,h7,(show(21:Nat)<=21 from Nat.le_refl _),fun i x hx=>?_⟩⟩;have hb:∀ l:List Int,(l.all fun x=>decide (0<=x/\x<256))=true->A4 l:=fun l h x hx=>of_decide_eq_true (List.all_eq_true.1 h x hx)
 rcases i with _|_|_|_|_|_|_|i
 ·obtain rfl:=Option.some.inj hx;exact⟨Ey (by decide) (by decide),Ey (by decide) (by decide),_,rfl,Nf.lit _ (by decide) (hb _ (by decide)) h0 rfl rfl⟩
 ·obtain rfl:=Option.some.inj hx;exact⟨Ey (by decide) (by decide),Ey (by decide) (by decide),_,rfl,Nf.lit _ (by decide) (hb _ (by decide)) h1 rfl rfl⟩
 ·obtain rfl:=Option.some.inj hx;exact⟨Ey (by decide) (by decide),Ey (by decide) (by decide),_,rfl,Nf.lit _ (by decide) (hb _ (by decide)) h2 rfl rfl⟩
 ·obtain rfl:=Option.some.inj hx;exact⟨Ey (by decide) (by decide),Ey (by decide) (by decide),_,rfl,Nf.lit _ (by decide) (hb _ (by decide)) h3 rfl rfl⟩
 ·obtain rfl:=Option.some.inj hx;exact⟨Ey (by decide) (by decide),Ey (by decide) (by decide),_,rfl,Nf.lit _ (by decide) (hb _ (by decide)) h4 rfl rfl⟩
 ·obtain rfl:=Option.some.inj hx;exact⟨Ey (by decide) (by decide),Ey (by decide) (by decide),_,rfl,Nf.lit _ (by decide) (hb _ (by decide)) h5 rfl rfl⟩
 ·obtain rfl:=Option.some.inj hx;exact⟨Ey (by decide) (by decide),Ey (by decide) (by decide),_,rfl,Nf.lit _ (by decide) (hb _ (by decide)) h6 rfl rfl⟩
 ·simp[Rn]at hx
theorem jJ(w:World):Calls Tryz.prog 32 #[] w fun e w'=>∃ g,e= .returned (.slice (some ⟨g,0,none⟩) 16 16)/\B8 w' g 16 16 exS/\Below w.heap.size w w'/\w.heap.size<=g:=by
 go_enter Tryz.func32,Tryz.ntmps32;go_wp2_with fail;have hb:∀ (B:Nat) (w w':World),Below B w w'->B<=w.heap.size->∀ o,Below B w (w'.alloc o):=fun B w w' h hB o=>h.alloc (Nat.le_trans hB h.size) o
 refine(Pi (jK (b0:=w.heap.size) (b1:=w.heap.size+1) (b2:=w.heap.size+1+1) (b3:=w.heap.size+1+1+1) (b4:=w.heap.size+1+1+1+1) (b5:=w.heap.size+1+1+1+1+1) (b6:=w.heap.size+1+1+1+1+1+1) (b7:=w.heap.size+1+1+1+1+1+1+1) ?_ ?_ ?_ ?_ ?_ ?_ ?_ ?_)).mono ?_;iterate 8 (focus (repeat (first|(rw[Oj,if_neg (by simp only[World.size_alloc];omega)])|(rw[Oj,if_pos (by simp only[World.size_alloc])]));try rfl))
 rintro e w1 ⟨g,rfl,hws,hb1,hg⟩;rw[tR]at hws ⊢;have HW:=zA (hws.congr fun j hj=>tS hj)
 have HB:Hid (Below w.heap.size w w1):=zA (Below.trans (by
  repeat (first|exact Below.refl _ _|refine hb _ _ _ ?_ (Nat.le_refl _) _)) (hb1.mono (by simp;omega)))
 have HG:Hid (w.heap.size<=g):=zA (by simp at hg;omega);clear hws hb1 hg hb;go_wp2_with fail;go_ret;exact⟨g,rfl,HW.out,HB.out,HG.out⟩
theorem exE:B6 16 exS=0:=by
 unfold B6;rw[if_neg (by omega),if_neg (by rw[kT];simp),if_pos qB]
theorem exX:Cc 16 exS=[1,6]:=by
 unfold Cc C3;rw[if_pos exE,kT];show Es 16 4 (Ck 4 (Bh 16 4 exS)) exS (Bh 16 4 exS).st.fm=_
 rw[dO];exact lC
theorem xP:C3 16 exS=Ck 4 exZ:=by
 unfold C3;rw[kT];show Ck 4 (Bh 16 4 exS)=_
 rw[dO]
theorem vJ:E5 16 (Kh exS)=(0,⟨Ay (Ay exS 1 (Ck 4 exZ 1)) 6 (Ck 4 exZ 6),2,false,false,0⟩):=by
 unfold E5;rw[if_neg (by simp[Kh]),if_neg (fun h=>h exE)];show wrD (C3 16 exS) (Cc 16 exS) (Kh exS)=_
 rw[exX,xP];rfl
theorem Hl.cut{w:World}{R:RP}(h:Hl w R):∃ a0 c0 a1 c1 a2 c2 a3 c3,R.val= .agg #[.slice a0 R.N c0,.slice a1 R.xs.length c1,.slice a2 R.ys.length c2,.slice a3 R.zs.length c3]/\
  Fs w (.slice a0 R.N c0) R.o0 R.N R.S/\Bg w (.slice a1 R.xs.length c1) R.o1 R.xs/\Bg w (.slice a2 R.ys.length c2) R.o2 R.ys/\Bg w (.slice a3 R.zs.length c3) R.o3 R.zs:=by
 obtain⟨a0,c0,e0⟩:=h.r0.g.slice;obtain⟨a1,c1,e1⟩:=h.r1.slice;obtain⟨a2,c2,e2⟩:=h.r2.slice;obtain⟨a3,c3,e3⟩:=h.r3.slice;refine⟨a0,c0,a1,c1,a2,c2,a3,c3,by unfold RP.val;rw[e0,e1,e2,e3],?_,?_,?_,?_⟩
 ·rw[<-e0];exact h.r0
 ·rw[<-e1];exact h.r1
 ·rw[<-e2];exact h.r2
 ·rw[<-e3];exact h.r3
theorem W1(w:World):Calls Tryz.prog 11 #[] w fun e w'=>e= .returned (.bool true)/\Below w.heap.size w w':=by
 go_enter Tryz.func11,Tryz.ntmps11;go_wp2_with fail;refine(jJ _).mono ?_;rintro e w1 ⟨g,rfl,hws,hb1,hg⟩;have HW1:=zA hws;have HB1:=zA hb1;clear hws hb1;go_wp2_with fail;refine(Sb (F6 HW1.out) (by omega) (by omega)).mono ?_;rintro e w2 ⟨gd,gs,rfl,hdk,hb2,hg1,hg2⟩;have HB2:=zA (Ad HB1.out hb2 HB1.out.size);have HD2:=zA hdk;have HZ1:=zA HB1.out.size;clear hdk hb2;go_wp2_with fail;refine(Rk HD2.out ⟨by simp[Kh],by simp[Kh],by simp[Kh],by simp[Kh]⟩ (by simp[Kh]) (by omega)).mono ?_;rintro e w3 ⟨R,hR⟩;obtain⟨rfl,hr,hy,-,hk,hf,ho⟩:=hR;rw[vJ]at hk hy ⊢;obtain⟨a0,c0,a1,c1,a2,c2,a3,c3,hv,s0,s1,s2,s3⟩:=hr.cut;have hxs:R.xs=[1,6]:=(hy rfl).x.trans exX;rw[hxs]at hv s1;rw[hv];have HB3:=zA (HB2.out.trans (hf.below (B:=w.heap.size) HB2.out.size (fun k hk=>by have:=HZ1.out;simp at hk;omega)));have hfA:=Do w3 (.cells #[.slice a0 R.N c0,.slice a1 2 c1,.slice a2 R.ys.length c2,.slice a3 R.zs.length c3] 34) [];have hgA:=(A6 w3 (.cells #[.slice a0 R.N c0,.slice a1 2 c1,.slice a2 R.ys.length c2,.slice a3 R.zs.length c3] 34)).1;have HB4:=zA (HB3.out.trans (hfA.below (B:=w.heap.size) HB3.out.size (by simp)));have HD4:=zA (hk.fr hfA (by simp) (by simp));have HQ4:=zA (s1.fr hfA (by simp));clear hk hf ho hr hy hfA s0 s1 s2 s3 hv hxs;go_upto_region 5 with fail;generalize w3.alloc (.cells #[.slice a0 R.N c0,.slice a1 2 c1,.slice a2 R.ys.length c2,.slice a3 R.zs.length c3] 34)=w4 at*;generalize w3.heap.size=gr at*;have hgAl:=Aa hgA;go_wp2_with fail;refine(J1 HD4.out (by omega)).mono ?_;rintro e w5 ⟨gi,rfl,hwi,hb5,hgi⟩;have HB5:=zA (Ad HB4.out hb5 HB4.out.size);have HD5:=zA (HD4.out.fr (Af hb5 []) (by simp) (by simp));have HQ5:=zA (HQ4.out.fr (Af hb5 []) (by simp));have hg5:=(hop hb5 hgA).1;have hg5l:=Aa hg5;obtain⟨g1,f1,k1,csq,e1,-,hcq,hq0⟩:=HQ5.out.cell (k:=0) (by simp);injection e1 with e1 e2 e3
 subst e1 e3;obtain⟨g1',f1',k1',csq',e1,-,hcq',hq1⟩:=HQ5.out.cell (k:=1) (by simp);injection e1 with e1 e2 e3
 injection e1 with e1
 injection e1 with p1 p2
 subst p1 p2 e3;rw[hcq]at hcq';injection hcq' with hcq'
 injection hcq' with hcq'
 subst hcq';obtain⟨csI,hcI,hszI,hallI⟩:=hwi;have hI:∀ j k,j<16->k<128->csI[j*128+k]? =some (.int .u8 (nth (Ay (Ay exS 1 (Ck 4 exZ 1)) 6 (Ck 4 exZ 6) j) k)):=fun j k hj hk=>by
  exact(Fg (o:=j*128) (hallI j hj).1 (by have:=hszI.1;omega)).1 (hallI j hj).2.2 k hk
 have c129:csI[129]? =some (.int .u8 1):=by
  have:=hI 1 1 (by omega) (by omega);rw[show Ay (Ay exS 1 (Ck 4 exZ 1)) 6 (Ck 4 exZ 6) 1=Cp gF from by rw[Ca _ _ (by omega),Cx];exact sF]at this;rw[show nth (Cp gF) 1=1 from by decide+kernel]at this;exact this
 have c770:csI[770]? =some (.int .u8 108):=by
  have:=hI 6 2 (by omega) (by omega);rw[show Ay (Ay exS 1 (Ck 4 exZ 1)) 6 (Ck 4 exZ 6) 6=[104,101,108]++zl 125 from by rw[Cx];exact kV]at this;rw[show nth ([104,101,108]++zl 125) 2=108 from rfl]at this;exact this
 have c771:csI[771]? =some (.int .u8 0):=by
  have:=hI 6 3 (by omega) (by omega);rw[show Ay (Ay exS 1 (Ck 4 exZ 1)) 6 (Ck 4 exZ 6) 6=[104,101,108]++zl 125 from by rw[Cx];exact kV]at this;rw[show nth ([104,101,108]++zl 125) 3=0 from rfl]at this;exact this
 have hq0:csq[f1]? =some (.int .i64 1):=hq0;have hq1:csq[f1+1]? =some (.int .i64 6):=hq1;have hcIl:=Aa hcI;have hcql:=Aa hcq;clear hI hallI hszI hb5;go_wp2_with fail;refine(N9 HD5.out).mono ?_;rintro e w6 ⟨rfl,rfl⟩;go_wp2_with fail;go_ret;exact⟨rfl,HB5.out⟩
theorem T8{v1 v2:Value}{N:Nat}{S1 S2:Nat->List Int}{w:World}(h1:Hk w v1 N S1)(h2:Hk w v2 N S2)(hN:N<=100000)(hs:∀ j,j<N->S1 j=S2 j):
  Calls Tryz.prog 16 #[v1,v2] w fun e w'=>e= .returned (.bool true)/\Fr [] w w':=by
 refine(Qz h1 h2 (by omega)).mono ?_;rintro e w' ⟨b,rfl,hb,hf⟩;exact⟨by rw[hb.2 ⟨rfl,hs⟩],hf⟩
structure xI (R:RP) (N:Nat) (d:DS) (gd gs:Nat) (w w' wA:World) (a0 a1 a2 a3:Option Addr) (c0 c1 c2 c3:Nat):Prop where
 g:hat wA w'.heap.size=some (.cells #[.slice a0 R.N c0,.slice a1 R.xs.length c1,.slice a2 R.ys.length c2,.slice a3 R.zs.length c3] 34)
 k:DK wA gd gs N (E5 N d).2
 f:Fr [gd,gs] w wA
 s0:Fs wA (.slice a0 R.N c0) R.o0 R.N R.S
 s1:Bg wA (.slice a1 R.xs.length c1) R.o1 R.xs
 s2:Bg wA (.slice a2 R.ys.length c2) R.o2 R.ys
 s3:Bg wA (.slice a3 R.zs.length c3) R.o3 R.zs
 z:w.heap.size<=w'.heap.size
 o:∀ g∈R.os,w.heap.size<=g/\g<w'.heap.size
 nd:w'.heap.size≠gd/\w'.heap.size≠gs
theorem aL.hold{N:Nat}{d:DS}{gd gs:Nat}{w:World}{e:Ending}{w':World}{R:RP}(h:aL N d gd gs w e w' R):
  ∃ a0 c0 a1 c1 a2 c2 a3 c3,R.val= .agg #[.slice a0 R.N c0,.slice a1 R.xs.length c1,.slice a2 R.ys.length c2,.slice a3 R.zs.length c3]/\
   xI R N d gd gs w w' (w'.alloc (.cells #[.slice a0 R.N c0,.slice a1 R.xs.length c1,.slice a2 R.ys.length c2,.slice a3 R.zs.length c3] 34)) a0 a1 a2 a3 c0 c1 c2 c3:=by
 obtain⟨a0,c0,a1,c1,a2,c2,a3,c3,hv,s0,s1,s2,s3⟩:=h.r.cut;have hf:=Do w' (.cells #[.slice a0 R.N c0,.slice a1 R.xs.length c1,.slice a2 R.ys.length c2,.slice a3 R.zs.length c3] 34) []
 exact⟨a0,c0,a1,c1,a2,c2,a3,c3,hv,(A6 w' _).1,h.k.fr hf (by simp) (by simp),h.f.trans (hf.mono (by simp)),s0.fr hf (by simp),s1.fr hf (by simp),s2.fr hf (by simp),s3.fr hf (by simp),h.f.size,fun g hg=>⟨h.o g hg,h.r.lt g hg⟩,by
  have h1:=Aa h.k.hd;have h2:=h.k.hs.lt;omega⟩
theorem rF{N:Nat}{d:DS}(ho:d.off=false)(he:B6 N d.S≠0):E5 N d=(B6 N d.S,d):=by
 unfold E5;rw[if_neg (by rw[ho];decide),if_pos he]
structure DSm (d:DS) (c:Int):Prop where
 c0:0<=d.cnt
 c1:d.cnt<=c
 l0:0<=d.left
 l1:d.left<=1000000000000
theorem DSm.ok{d:DS}{c:Int}(h:DSm d c)(hc:c<=900000000000):DOk d/\d.cnt<=900000000000:=by
 have h1:=h.c1;exact⟨⟨h.c0,by omega,h.l0,h.l1⟩,by omega⟩
theorem DSm.mono{d:DS}{c c':Int}(h:DSm d c)(hc:c<=c'):DSm d c':=⟨h.c0,by have:=h.c1;omega,h.l0,h.l1⟩
theorem DSm.arm{d:DS}{c:Int}(h:DSm d c){n:Nat}(hn:n<=100000):DSm (Nk n d) c:=⟨h.c0,h.c1,by show(0:Int)<=(n:Int);omega,by show(n:Int)<=_;omega⟩
theorem DSm.rest{d:DS}{c:Int}(h:DSm d c):DSm (Oy d) c:=⟨h.c0,h.c1,Int.le_refl _,by show(0:Int)<=_;omega⟩
theorem oL{W:Nat->List Int}:∀ (L:List Int) {d:DS} {c:Int},DSm d c->DSm (wrD W L d).2 (c+L.length)
 |[],d,c,h=>by
  show DSm d (c+((([]:List Int).length:Nat):Int))
  exact h.mono (by simp)
 |n::L,d,c,h=>by
  obtain⟨a0,a1,a2,a3⟩:=V9 (n:=n.toNat) (s:=W n.toNat) h.c0 h.c1 h.l0 h.l1;show DSm (if (Bf n.toNat (W n.toNat) d).1=0 then wrD W L (Bf n.toNat (W n.toNat) d).2 else Bf n.toNat (W n.toNat) d).2 (c+(((n::L).length:Nat):Int))
  split
  ·have:=oL (W:=W) L (d:=(Bf n.toNat (W n.toNat) d).2) (c:=c+1) ⟨a0,a1,a2,a3⟩;exact this.mono (by simp only[List.length_cons];omega)
  ·exact⟨a0,by simp only[List.length_cons];omega,a2,a3⟩
theorem Vz{N:Nat}{d:DS}{c:Int}(h:DSm d c):DSm (E5 N d).2 (c+4900):=by
 unfold E5;split
 ·exact h.mono (by omega)
 ·split
  ·exact h.mono (by omega)
  ·have h1:=oL (W:=C3 N d.S) (Cc N d.S) h;have h2:=Vk N d.S;exact h1.mono (by omega)
theorem aF{W:Nat->List Int}:∀ (L:List Int) {d:DS},d.off=false->d.armed=false->(wrD W L d).2.off=false/\(wrD W L d).2.armed=false
 |[],d,h,ha=>⟨h,ha⟩
 |n::L,d,h,ha=>by
  have hw:Bf n.toNat (W n.toNat) d=(0,{d with S:=Ay d.S n.toNat (W n.toNat),cnt:=d.cnt+1,left:=d.left}):=by
   unfold Bf;rw[h,ha];simp
  show(if (Bf n.toNat (W n.toNat) d).1=0 then wrD W L (Bf n.toNat (W n.toNat) d).2 else Bf n.toNat (W n.toNat) d).2.off=false/\(if (Bf n.toNat (W n.toNat) d).1=0 then wrD W L (Bf n.toNat (W n.toNat) d).2 else Bf n.toNat (W n.toNat) d).2.armed=false
  rw[hw];exact aF L h ha
theorem Zr{N:Nat}{d:DS}(h:d.off=false)(ha:d.armed=false):(E5 N d).2.off=false/\(E5 N d).2.armed=false:=by
 unfold E5;split
 ·exact⟨h,ha⟩
 ·split
  ·exact⟨h,ha⟩
  ·exact aF _ h ha
theorem Ks{N:Nat}{d r:DS}{R:RP}{M:Nat}{W:Nat->List Int}{xs ys zs:List Int}(hs:Sim d r)(hy:(E5 N d).1=0->R.Look N d.S)(hn:(E5 N d).1≠0->R.Nil)
  (h0:(G1 N r).1=0->M=On N r.S/\W=C3 N r.S/\xs=Cc N r.S/\ys=Ho N r.S/\zs=Hn N r.S) (h1:(G1 N r).1≠0->M=0/\xs=[]/\ys=[]/\zs=[]):
  (R.N=M/\∀ j,j<R.N->R.S j=W j)/\R.xs=xs/\R.ys=ys/\R.zs=zs:=by
 have he:=(Rl (N:=N) hs).1;rw[he,hs.s]at h0;rw[he]at h1;by_cases h:(E5 N d).1=0
 ·have a:=hy h;obtain⟨b1,b2,b3,b4,b5⟩:=h0 h;exact⟨⟨a.n.trans b1.symm,fun j _=>by rw[a.s,b2]⟩,a.x.trans b3.symm,a.y.trans b4.symm,a.z.trans b5.symm⟩
 ·obtain⟨a1,a2,a3,a4⟩:=hn h;obtain⟨b1,b2,b3,b4⟩:=h1 h;exact⟨⟨a1.trans b1.symm,fun j hj=>by omega⟩,a2.trans b2.symm,a3.trans b3.symm,a4.trans b4.symm⟩
def G6(m:Nat):List Int:=(zl 128).set 0 (m:Int)
theorem Fk(m:Nat):(G6 m).length=128:=by unfold G6;rw[List.length_set];exact C2 _
theorem S5{m:Nat}(h:m<256):A4 (G6 m):=by
 intro x hx;unfold G6 at hx;rcases List.mem_or_eq_of_mem_set hx with h1|rfl
 ·exact F0 _ x h1
 ·omega
def RP.mark(R:RP)(m:Nat):RP:={R with S:=fun _=>G6 m,xs:=List.replicate R.xs.length (10000+m:Int),ys:=List.replicate R.ys.length (20000+m:Int),zs:=List.replicate R.zs.length (30000+m:Int)}
theorem Bg.put{w:World}{g off c:Nat}{ob:Option Nat}{xs:List Int}(h:Bg w (.slice (some ⟨g,off,none⟩) xs.length c) ob xs){k:Nat}(hk:k<xs.length)(x:Int):
  Bg (w.setCell ⟨g,off+k,none⟩ (.int .i64 x)) (.slice (some ⟨g,off,none⟩) xs.length c) ob (xs.set k x):=by
 rcases h with ⟨h,-⟩|⟨g',off',c',cs,e,h1,h2,h3,h4,h5⟩
 ·cases h
 ·injection e with e1 e2 e3
  injection e1 with e1
  injection e1 with p1 p2
  subst p1 p2 e3;refine .inr ⟨g,off,c,cs.setIfInBounds (off+k) (.int .i64 x),by rw[List.length_set],h1,Ah _ _ _ _ _ _ _ h2,by rw[List.length_set];exact h3,by rw[Array.size_setIfInBounds];exact h4,fun j p hj=>?_⟩;rw[Array.getElem?_setIfInBounds];by_cases hjk:j=k
  ·subst hjk;rw[List.getElem?_set_self hk]at hj;rw[if_pos rfl,if_pos (by omega),Option.some.inj hj]
  ·rw[if_neg (by omega)];rw[List.getElem?_set_ne (by omega)]at hj;exact h5 j p hj
theorem Fs.ne{w:World}{v v':Value}{o o':Option Nat}{N:Nat}{S:Nat->List Int}{xs:List Int}(h:Fs w v o N S)(h':Bg w v' o' xs){g q:Nat}(hg:o=some g)(hq:o'=some q):q≠g:=by
 rintro rfl;rcases h.g with ⟨-,h,-⟩|⟨g',off,c,cs,-,h,hc,-⟩
 ·rw[hg]at h;cases h
 ·rcases h' with ⟨-,h2,-⟩|⟨g2,_,_,cs2,-,h2,hc2,-⟩
  ·rw[hq]at h2;cases h2
  ·rw[hg]at h;rw[hq]at h2;cases h;cases h2;rw[hc]at hc2;injection hc2 with hc2
   injection hc2 with _ hc2
   revert hc2;decide
structure Wc (w:World) (n:Nat) (R:Nat->RP):Prop where
 rep:∀ i,i<n->Hl w (R i)
 dis:∀ i j,i<n->j<n->i≠j->∀ g∈(R i).os,g∉(R j).os
theorem Wc.fr{w w':World}{n:Nat}{R:Nat->RP}{ex:List Nat}(h:Wc w n R)(hf:Fr ex w w')(hn:∀ i,i<n->∀ g∈(R i).os,g∉ex):Wc w' n R:=
 ⟨fun i hi=>(h.rep i hi).fr hf (hn i hi),h.dis⟩
def Gs(k:Nat)(R:Nat->RP):Nat->RP:=fun i=>if i<k then(R i).mark (i+1)else R i
theorem Mm(k:Nat)(R:Nat->RP)(i:Nat):(Gs k R i).os=(R i).os:=by unfold Gs;split<;>rfl
theorem iK(k:Nat)(R:Nat->RP):Gs k R k=R k:=by unfold Gs;rw[if_neg (Nat.lt_irrefl k)]
theorem Wc.mark{w w':World}{n k:Nat}{R:Nat->RP}(h:Wc w n (Gs k R))(hk:k<n)(h1:Hl w' ((Gs k R k).mark (k+1)))(hf:Fr (Gs k R k).os w w'):Wc w' n (Gs (k+1) R):=by
 refine⟨fun i hi=>?_,fun i j hi hj hij=>by rw[Mm,Mm];have:=h.dis i j hi hj hij;rw[Mm,Mm]at this;exact this⟩;by_cases hik:i=k
 ·subst hik;have e:Gs (i+1) R i=(Gs i R i).mark (i+1):=(by rw[iK];unfold Gs;rw[if_pos (Nat.lt_succ_self i)]);rw[e];exact h1
 ·have e:Gs (k+1) R i=Gs k R i:=by
   unfold Gs;by_cases h2:i<k
   ·rw[if_pos h2,if_pos (by omega)]
   ·rw[if_neg h2,if_neg (by omega)]
  rw[e];exact(h.rep i hi).fr hf (h.dis i k hi hk hik)
def I6(R:Nat->RP)(k:Nat):Value:=if k%4=0 then(R (k/4)).v0 else if k%4=1 then(R (k/4)).v1 else if k%4=2 then(R (k/4)).v2 else(R (k/4)).v3
theorem Bx.rep{w:World}{g off n c:Nat}{ob:Option Nat}{R:Nat->RP}(h:Bx 34 4 w (.slice (some ⟨g,off,none⟩) n c) ob n (I6 R)){i:Nat}(hi:i<n):
  ∃ cs,hat w g=some (.cells cs 34)/\ob=some g/\∀ raw w',Ea raw 4 (off+i*4) w' (some (.cells cs 34))= .ok (R i).val w':=by
 rcases h with ⟨h,-⟩|⟨g',off',c',cs,e,h2,h3,h4,h5,h6⟩
 ·cases h
 ·injection e with e1 e2 e3
  injection e1 with e1
  injection e1 with p1 p2
  subst p1 p2 e3;refine⟨cs,h3,h2,fun raw w'=>?_⟩;rw[Dp (by omega)];unfold RP.val;congr 2
  apply Array.ext_getElem?
  intro j;rw[Array.getElem?_extract];have key:∀ q,q<4->cs[off+i*4+q]? =some (I6 R (i*4+q)):=fun q hq=>by
   have:=h6 (i*4+q) (by omega);rw[<-Nat.add_assoc]at this;exact this
  have e4:∀ q,q<4->(i*4+q)/4=i/\(i*4+q)%4=q:=fun q hq=>by omega
  rcases j with _|_|_|_|j
  ·rw[if_pos (by omega),key 0 (by omega)];unfold I6;rw[(e4 0 (by omega)).1,(e4 0 (by omega)).2];rfl
  ·rw[if_pos (by omega),key 1 (by omega)];unfold I6;rw[(e4 1 (by omega)).1,(e4 1 (by omega)).2];rfl
  ·rw[if_pos (by omega),key 2 (by omega)];unfold I6;rw[(e4 2 (by omega)).1,(e4 2 (by omega)).2];rfl
  ·rw[if_pos (by omega),key 3 (by omega)];unfold I6;rw[(e4 3 (by omega)).1,(e4 3 (by omega)).2];rfl
  ·rw[if_neg (by omega)];simp
structure Ex (T:TypeId) (sz:Nat) (w:World) (v:Value) (o:Option Nat) (vx:Value) (ox:Option Nat) (n m:Nat) (f:Nat->Value) (B:Nat):Prop where
 x:Bx T sz w vx ox (n+m) f
 l:Bx T sz w v o n f
 e:(∃ a c,v= .slice a n c/\vx= .slice a (n+m) c/\ox=o)\/∃ g,ox=some g/\B<=g
 c:∃ a c,vx= .slice a (n+m) c/\(n+m<=c\/vx=v)
 b:∀ g,o=some g->g<B
theorem Ex.fr{T:TypeId}{sz:Nat}{w w':World}{v vx:Value}{o ox:Option Nat}{n m B:Nat}{f:Nat->Value}{ex:List Nat}(h:Ex T sz w v o vx ox n m f B)(hf:Fr ex w w')(h1:∀ g,o=some g->g∉ex)(h2:∀ g,ox=some g->g∉ex):Ex T sz w' v o vx ox n m f B:=
 ⟨h.x.fr hf h2,h.l.fr hf h1,h.e,h.c,h.b⟩
theorem Ex.zero{T:TypeId}{sz:Nat}{w:World}{v:Value}{o:Option Nat}{n B:Nat}{f:Nat->Value}(h:Bx T sz w v o n f)(hb:∀ g,o=some g->g<B):Ex T sz w v o v o n 0 f B:=by
 obtain⟨a,c,hv⟩:=h.slice;exact⟨h,h,.inl ⟨a,c,hv,hv,rfl⟩,⟨a,c,hv,.inr rfl⟩,hb⟩
theorem Ex.step{P:Program}{ST T:TypeId}{sz By:Nat}(ht:P.underlying ST=some (.slice T)){inf:TypeInfo}{z:Value}(hi:P.info? T=some inf)(hz:inf.zero=some z)(hzs:z.cells.size=sz)(his:inf.size=sz)(hib:inf.bytes=By)
  {w:World} {v vx u:Value} {o ox:Option Nat} {n m B:Nat} {f:Nat->Value} (h:Ex T sz w v o vx ox n m f B) {news:List Value} (hs:Src P sz ST u 1 news w) (hnw:∀ k,k<sz->news[k]? =some (f ((n+m)*sz+k))) (hB:0<By) (hn:(n+m+1)*By<=140737488355328) (hBw:B<=w.heap.size) (ty:TypeId):
  ∃ vx' w' ox',(Builtin.append_ #[ST,ST] ty #[vx,u]).run P w= .ok vx' w'/\Ex T sz w' v o vx' ox' n (m+1) f B/\Fr ox.toList w w'/\(ox'=ox\/∃ g,ox'=some g/\w.heap.size<=g)/\∃ a c,vx'= .slice a (n+m+1) c:=by
 obtain⟨v',w',ob',h1,h2,h3⟩:=G2 ht hi hz hzs his hib h.x (f2:=fun k=>f ((n+m)*sz+k)) hs (fun k hk=>hnw k (by omega)) hB hn ty;have he:Up ((n+m)*sz) f (fun k=>f ((n+m)*sz+k))=f:=by
  funext k
  unfold Up;by_cases hk:k<(n+m)*sz
  ·rw[if_pos hk]
  ·rw[if_neg hk];show f ((n+m)*sz+(k-(n+m)*sz))=f k
   rw[Nat.add_sub_cancel' (Nat.le_of_not_lt hk)]
 rw[he]at h2;obtain⟨⟨a',c',hv',hc'⟩,h3'⟩:=id h3;refine⟨v',w',ob',h1,⟨h2,?_,?_,⟨a',c',hv',.inl hc'⟩,h.b⟩,h3.fr,h3.ob,a',c',hv'⟩
 ·rcases h3' with ⟨a,c,q1,q2,q3,q4⟩|⟨g,q1,q2,q3⟩
  ·rcases h.e with ⟨a2,c2,p1,p2,p3⟩|⟨g,p1,p2⟩
   ·have e:a=a2/\c=c2:=by
     rw[q1]at p2;injection p2 with x1 x2 x3
     exact⟨x1,x3⟩
    obtain⟨rfl,rfl⟩:=e;subst q2 p1 q3 p3;rcases h2 with ⟨hx,-,hn0⟩|⟨g,off,c2,cs,hx,ho,hcs,s1,s2,s3⟩
    ·omega
    ·injection hx with x1 x2 x3
     subst x1 x3;have hle:n*sz<=(n+m+1)*sz:=Nat.mul_le_mul_right _ (by omega);exact .inr ⟨g,off,c,cs,rfl,ho,hcs,by omega,s2,fun k hk=>s3 k (by omega)⟩
   ·refine h.l.fr q4 fun b hb hm=>?_
    have:=h.b b hb;rw[p1]at hm;simp at hm;omega
  ·exact h.l.fr q3 (by simp)
 ·rcases h3' with ⟨a,c,q1,q2,q3,q4⟩|⟨g,q1,q2,q3⟩
  ·rcases h.e with ⟨a2,c2,p1,p2,p3⟩|⟨g,p1,p2⟩
   ·have e:a=a2/\c=c2:=by
     rw[q1]at p2;injection p2 with x1 x2 x3
     exact⟨x1,x3⟩
    obtain⟨rfl,rfl⟩:=e;exact .inl ⟨a,c,p1,q2,q3.trans p3⟩
   ·exact .inr ⟨g,q3.trans p1,p2⟩
  ·exact .inr ⟨g,q1,Nat.le_trans hBw q2⟩
theorem Bx.ne{T T':TypeId}{sz sz':Nat}{w:World}{v v':Value}{o o':Option Nat}{n n':Nat}{f f':Nat->Value}(h:Bx T sz w v o n f)(h':Bx T' sz' w v' o' n' f')(ht:T≠T'){g q:Nat}(hg:o=some g)(hq:o'=some q):q≠g:=by
 rintro rfl;rcases h with ⟨-,h,-⟩|⟨g1,_,_,cs,-,h,hc,-⟩
 ·rw[hg]at h;cases h
 ·rcases h' with ⟨-,h2,-⟩|⟨g2,_,_,cs2,-,h2,hc2,-⟩
  ·rw[hq]at h2;cases h2
  ·rw[hg]at h;rw[hq]at h2;cases h;cases h2;rw[hc]at hc2;injection hc2 with hc2
   injection hc2 with _ hc2
   exact ht hc2
theorem Bg.g{w:World}{v:Value}{o:Option Nat}{xs:List Int}(h:Bg w v o xs):Bx 3 1 w v o xs.length (fun k=> .int .i64 (nth xs k))/\∃ a c,v= .slice a xs.length c/\xs.length<=c:=by
 rcases h with ⟨rfl,rfl,rfl⟩|⟨g,off,c,cs,rfl,rfl,h1,h2,h3,h4⟩
 ·exact⟨.inl ⟨rfl,rfl,rfl⟩,none,0,rfl,Nat.le_refl _⟩
 ·exact⟨.inr ⟨g,off,c,cs,rfl,rfl,h1,by omega,by omega,fun k hk=>h4 k _ (by unfold nth;rw[List.getElem?_eq_getElem (by omega)];rfl)⟩,_,_,rfl,h2⟩
theorem Bx.q{w:World}{v:Value}{o:Option Nat}{n:Nat}{f:Nat->Value}{xs:List Int}(h:Bx 3 1 w v o n f)(hc:∃ a c,v= .slice a n c/\n<=c)(hn:xs.length=n)(hf:∀ k,k<n->f k= .int .i64 (nth xs k)):Bg w v o xs:=by
 subst hn;rcases h with ⟨rfl,rfl,h⟩|⟨g,off,c,cs,rfl,rfl,h1,h2,h3,h4⟩
 ·exact .inl ⟨rfl,rfl,List.eq_nil_of_length_eq_zero h⟩
 ·obtain⟨a,c',e,hle⟩:=hc;injection e with e1 e2 e3
  subst e3;refine .inr ⟨g,off,c,cs,rfl,rfl,h1,hle,by omega,fun j p hj=>?_⟩;have hjl:=(List.getElem?_eq_some_iff.1 hj).1;rw[h4 j (by omega),hf j hjl];unfold nth;rw[hj];rfl
theorem Rg{n:Nat}{x:Int}{k:Nat}(hk:k<n):nth (List.replicate n x) k=x:=by
 unfold nth;rw[List.getElem?_replicate,if_pos hk];rfl
structure Pc (w:World) (R X:RP) (m j0 j1 j2 j3 B:Nat):Prop where
 x0:Ex 47 128 w R.v0 R.o0 X.v0 X.o0 R.N j0 (Fy fun _=>G6 m) B
 x1:Ex 3 1 w R.v1 R.o1 X.v1 X.o1 R.xs.length j1 (fun _=> .int .i64 (10000+m)) B
 x2:Ex 3 1 w R.v2 R.o2 X.v2 X.o2 R.ys.length j2 (fun _=> .int .i64 (20000+m)) B
 x3:Ex 3 1 w R.v3 R.o3 X.v3 X.o3 R.zs.length j3 (fun _=> .int .i64 (30000+m)) B
 d12:∀ g,X.o1=some g->X.o2≠some g
 d13:∀ g,X.o1=some g->X.o3≠some g
 d23:∀ g,X.o2=some g->X.o3≠some g
 e12:∀ g,R.o1=some g->R.o2≠some g
 e13:∀ g,R.o1=some g->R.o3≠some g
 e23:∀ g,R.o2=some g->R.o3≠some g
 n0:R.N<=4900
 n1:R.xs.length<=4900
 n2:R.ys.length<=4900
 n3:R.zs.length<=4900
 c1:∃ a c,R.v1= .slice a R.xs.length c/\R.xs.length<=c
 c2:∃ a c,R.v2= .slice a R.ys.length c/\R.ys.length<=c
 c3:∃ a c,R.v3= .slice a R.zs.length c/\R.zs.length<=c
theorem Ex.ob{T:TypeId}{sz:Nat}{w:World}{v vx:Value}{o ox:Option Nat}{n m B:Nat}{f:Nat->Value}(h:Ex T sz w v o vx ox n m f B){g:Nat}(hg:ox=some g):o=some g\/B<=g:=by
 rcases h.e with ⟨-,-,-,-,e⟩|⟨q,h1,h2⟩
 ·exact .inl (e.symm.trans hg)
 ·rw[hg]at h1;cases h1;exact .inr h2
theorem Pc.os{w:World}{R X:RP}{m j0 j1 j2 j3 B:Nat}(h:Pc w R X m j0 j1 j2 j3 B):∀ g∈X.os,g∈R.os\/B<=g:=fun g hg=>by
 rcases RP.mem_os.1 hg with e|e|e|e
 ·exact(h.x0.ob e).imp (fun h=>RP.mem_os.2 (.inl h)) id
 ·exact(h.x1.ob e).imp (fun h=>RP.mem_os.2 (.inr (.inl h))) id
 ·exact(h.x2.ob e).imp (fun h=>RP.mem_os.2 (.inr (.inr (.inl h)))) id
 ·exact(h.x3.ob e).imp (fun h=>RP.mem_os.2 (.inr (.inr (.inr h)))) id
theorem Pc.fr{w w':World}{R X:RP}{m j0 j1 j2 j3 B:Nat}{ex:List Nat}(h:Pc w R X m j0 j1 j2 j3 B)(hf:Fr ex w w')(h1:∀ g∈R.os,g∉ex)(h2:∀ g∈X.os,g∉ex):Pc w' R X m j0 j1 j2 j3 B:=
 ⟨h.x0.fr hf (fun g hg=>h1 g (RP.mem_os.2 (.inl hg))) (fun g hg=>h2 g (RP.mem_os.2 (.inl hg))),h.x1.fr hf (fun g hg=>h1 g (RP.mem_os.2 (.inr (.inl hg)))) (fun g hg=>h2 g (RP.mem_os.2 (.inr (.inl hg)))),
  h.x2.fr hf (fun g hg=>h1 g (RP.mem_os.2 (.inr (.inr (.inl hg))))) (fun g hg=>h2 g (RP.mem_os.2 (.inr (.inr (.inl hg))))),h.x3.fr hf (fun g hg=>h1 g (RP.mem_os.2 (.inr (.inr (.inr hg))))) (fun g hg=>h2 g (RP.mem_os.2 (.inr (.inr (.inr hg))))),
  h.d12,h.d13,h.d23,h.e12,h.e13,h.e23,h.n0,h.n1,h.n2,h.n3,h.c1,h.c2,h.c3⟩
theorem Pc.lt{w:World}{R X:RP}{m j0 j1 j2 j3 B:Nat}(h:Pc w R X m j0 j1 j2 j3 B):∀ g∈X.os,g<w.heap.size:=fun g hg=>by
 rcases RP.mem_os.1 hg with e|e|e|e
 ·exact h.x0.x.lt g e
 ·exact h.x1.x.lt g e
 ·exact h.x2.x.lt g e
 ·exact h.x3.x.lt g e
theorem Pc.start{w:World}{R:RP}{m B:Nat}(h:Hl w (R.mark m))(hb:∀ g∈R.os,g<B):Pc w (R.mark m) (R.mark m) m 0 0 0 0 B:=by
 obtain⟨g1,c1⟩:=h.r1.g;obtain⟨g2,c2⟩:=h.r2.g;obtain⟨g3,c3⟩:=h.r3.g;have key:∀ (l:List Int) (x:Int) (k:Nat),k<(List.replicate l.length x).length*1->(Value.int .i64 (nth (List.replicate l.length x) k))= .int .i64 x:=fun l x k hk=>by rw[Rg (by simpa using hk)]
 exact⟨Ex.zero h.r0.g (fun g hg=>hb g (RP.mem_os.2 (.inl hg))),Ex.zero (g1.congr (key R.xs _)) (fun g hg=>hb g (RP.mem_os.2 (.inr (.inl hg)))),Ex.zero (g2.congr (key R.ys _)) (fun g hg=>hb g (RP.mem_os.2 (.inr (.inr (.inl hg))))),Ex.zero (g3.congr (key R.zs _)) (fun g hg=>hb g (RP.mem_os.2 (.inr (.inr (.inr hg))))),
  h.d12,h.d13,h.d23,h.d12,h.d13,h.d23,h.n0,h.n1,h.n2,h.n3,c1,c2,c3⟩
theorem rK{w:World}{b:Nat}{x:Int}(hb:hat w b=some (.cells #[.int .i64 x] 3)):∃ news,Src Tryz.prog 1 32 (.slice (some ⟨b,0,none⟩) 1 1) 1 news w/\∀ k,k<1->news[k]? =some (.int .i64 x):=by
 have h:Bg w (.slice (some ⟨b,0,none⟩) 1 1) (some b) [x]:= .inr ⟨b,0,1,_,rfl,rfl,hb,by simp,by simp,fun j p hj=>by
  rcases j with _|j
  ·simpa using hj
  ·simp at hj⟩
 exact⟨_,h.src,fun k hk=>by
  cases k with
  |zero=>rfl
  |succ k=>exact absurd hk (by omega)⟩
theorem Ex.cq{w:World}{v vx:Value}{o ox:Option Nat}{n j B:Nat}{f:Nat->Value}(h:Ex 3 1 w v o vx ox n (j+1) f B):∃ a c,vx= .slice a (n+(j+1)) c/\n+(j+1)<=c:=by
 obtain⟨a,c,h1,h2⟩:=h.c;refine⟨a,c,h1,h2.elim id fun e=>?_⟩;obtain⟨a2,c2,h3⟩:=h.l.slice;rw[e,h3]at h1;injection h1 with _ h1
 omega
theorem Pc.repV{w:World}{R X:RP}{m j B:Nat}(hm:m<256)(hj:j<50)(h:Pc w R X m (j+1) (j+1) (j+1) (j+1) B):
  Lg w X.v0 X.v1 X.v2 X.v3 X.o1 X.o2 X.o3 (R.N+(j+1)) (fun _=>G6 m) (List.replicate (R.xs.length+(j+1)) (10000+m)) (List.replicate (R.ys.length+(j+1)) (20000+m)) (List.replicate (R.zs.length+(j+1)) (30000+m)):=by
 have hs:Fs w X.v0 X.o0 (R.N+(j+1)) (fun _=>G6 m):=⟨h.x0.x,fun i hi=>⟨Fk m,S5 hm⟩⟩;have:=h.n0;have:=h.n1;have:=h.n2;have:=h.n3;exact⟨hs.img,h.x1.x.q h.x1.cq (by simp) (fun k hk=>by rw[Rg hk]),h.x2.x.q h.x2.cq (by simp) (fun k hk=>by rw[Rg hk]),h.x3.x.q h.x3.cq (by simp) (fun k hk=>by rw[Rg hk]),by omega,by simp;omega,by simp;omega,by simp;omega⟩
theorem pI(l:List (List Int))(hl:∀ s∈l,s.length=128)(h0:0<l.length)(h1:l.length<=100)(W:World):
  (Instr.buildSlice 26 l.length (((l.map fun s=>Value.agg (IV .u8 s)).zipIdx 0).map fun x=>(x.2,x.1)).toArray).run Tryz.prog W= .ok (.slice (some ⟨W.heap.size,0,none⟩) l.length l.length) (W.alloc (.cells (IV .u8 l.flatten) 47)):=by
 obtain⟨i,z,e1,e2,e3,e4,e5⟩:=Vh;refine run_buildSlice W _ 47 l.length _ _ i z Tryz.underlying26 e1 e2 (by rw[e4];omega) (by rw[e4];omega) ?_;rw[e4];have h:=Great.fill_whole (s:=128) (by omega) (l.map fun s=>Value.agg (IV .u8 s)) ((Array.range (l.length*128)).map (z.cells[· %z.cells.size]!)) (fun v hv=>by
  obtain⟨s,hs,rfl⟩:=List.mem_map.1 hv;show(IV .u8 s).size=128
  rw[Rb,hl s hs]) (by simp)
 have e:((l.map fun s=>Value.agg (IV .u8 s)).flatMap fun v=>v.cells.toList).toArray=IV .u8 l.flatten:=by
  apply Array.ext'
  unfold IV;simp only[List.flatMap_map];clear hl h0 h1 h;induction l with
  |nil=>rfl
  |cons s l ih=>
   rw[List.flatMap_cons,List.flatten_cons,List.map_append,ih];rfl
 rw[e]at h;exact h
theorem uA{P:Program}{o:Oper}{a:Act}{w:World}{K:Act->World->Prop}{Q:Exit->Act->World->Prop}(t:TypeId)(x:Operand)(ho:o.op= .buildSlice t 1 #[(0,x)])(v:Value)(hx:a.eval x=v)(v':Value)(w':World)
  (hr:(Instr.buildSlice t 1 #[(0,v)]).run P w= .ok v' w') (h:K (a.put o.dst v') w'):o.wp P a w K Q:=by
 unfold Oper.wp execOp;simp only[ho,Sem.run_bind,List.map_toArray,List.map_cons,List.map_nil,hx,hr,Result.andThen_ok];exact h
theorem uB{P:Program}{o:Oper}{a:Act}{w:World}{K:Act->World->Prop}{Q:Exit->Act->World->Prop}(t:TypeId)(x y:Operand)(ho:o.op= .buildSlice t 2 #[(0,x),(1,y)])(v u:Value)(hx:a.eval x=v)(hy:a.eval y=u)(v':Value)(w':World)
  (hr:(Instr.buildSlice t 2 #[(0,v),(1,u)]).run P w= .ok v' w') (h:K (a.put o.dst v') w'):o.wp P a w K Q:=by
 unfold Oper.wp execOp;simp only[ho,Sem.run_bind,List.map_toArray,List.map_cons,List.map_nil,hx,hy,hr,Result.andThen_ok];exact h
theorem Hl.parts{w:World}{R:RP}(h:Hl w R):∃ a0 c0 a1 c1 a2 c2 a3 c3,R.v0= .slice a0 R.N c0/\R.v1= .slice a1 R.xs.length c1/\R.v2= .slice a2 R.ys.length c2/\R.v3= .slice a3 R.zs.length c3:=by
 obtain⟨a0,c0,e0⟩:=h.r0.g.slice;obtain⟨a1,c1,e1⟩:=h.r1.slice;obtain⟨a2,c2,e2⟩:=h.r2.slice;obtain⟨a3,c3,e3⟩:=h.r3.slice;exact⟨a0,c0,a1,c1,a2,c2,a3,c3,e0,e1,e2,e3⟩
theorem Hl.laid{w:World}{R:RP}(h:Hl w R):∃ a0 c0 a1 c1 a2 c2 a3 c3,R.val= .agg #[.slice a0 R.N c0,.slice a1 R.xs.length c1,.slice a2 R.ys.length c2,.slice a3 R.zs.length c3]/\
  hat (w.alloc (.cells #[.slice a0 R.N c0,.slice a1 R.xs.length c1,.slice a2 R.ys.length c2,.slice a3 R.zs.length c3] 34)) w.heap.size=some (.cells #[.slice a0 R.N c0,.slice a1 R.xs.length c1,.slice a2 R.ys.length c2,.slice a3 R.zs.length c3] 34)/\
  Hl (w.alloc (.cells #[.slice a0 R.N c0,.slice a1 R.xs.length c1,.slice a2 R.ys.length c2,.slice a3 R.zs.length c3] 34)) R/\(R.v0= .slice a0 R.N c0/\R.v1= .slice a1 R.xs.length c1/\R.v2= .slice a2 R.ys.length c2/\R.v3= .slice a3 R.zs.length c3):=by
 obtain⟨a0,c0,a1,c1,a2,c2,a3,c3,e0,e1,e2,e3⟩:=h.parts;exact⟨a0,c0,a1,c1,a2,c2,a3,c3,by unfold RP.val;rw[e0,e1,e2,e3],(A6 w _).1,h.fr (Do w _ []) (by simp),e0,e1,e2,e3⟩
theorem Yq:∃ i0 z,Tryz.prog.info? 34=some i0/\i0.zero=some z/\z.cells.size=4/\i0.size=4/\i0.bytes=96:=by
 have h:(Tryz.prog.info? 34).map (fun i=>(i.zero.map (fun z=>z.cells.size),i.size,i.bytes))=some (some 4,4,96):=by kernel_rfl
 cases hq:Tryz.prog.info? 34 with
 |none=>rw[hq]at h;cases h
 |some inf=>
  rw[hq]at h;simp at h;obtain⟨h1,h2,h3⟩:=h;obtain⟨z,hz,h1⟩:=h1;exact⟨inf,z,rfl,hz,h1,h2,h3⟩
theorem pH(l:List (Array Value))(hl:∀ s∈l,s.size=4)(h0:0<l.length)(h1:l.length<=100)(W:World):
  (Instr.buildSlice 54 l.length (((l.map Value.agg).zipIdx 0).map fun x=>(x.2,x.1)).toArray).run Tryz.prog W= .ok (.slice (some ⟨W.heap.size,0,none⟩) l.length l.length) (W.alloc (.cells (l.flatMap Array.toList).toArray 34)):=by
 obtain⟨i,z,e1,e2,e3,e4,e5⟩:=Yq;refine run_buildSlice W _ 34 l.length _ _ i z Tryz.underlying54 e1 e2 (by rw[e4];omega) (by rw[e4];omega) ?_;rw[e4];have h:=Great.fill_whole (s:=4) (by omega) (l.map Value.agg) ((Array.range (l.length*4)).map (z.cells[· %z.cells.size]!)) (fun v hv=>by
  obtain⟨s,hs,rfl⟩:=List.mem_map.1 hv;show s.size=4
  exact hl s hs) (by simp)
 have e:((l.map Value.agg).flatMap fun v=>v.cells.toList).toArray=(l.flatMap Array.toList).toArray:=by
  rw[List.flatMap_map];rfl
 rw[e]at h;exact h
structure In (w0 w:World) (R X:RP) (m j0 j1 j2 j3 gx:Nat):Prop where
 x:Pc w R X m j0 j1 j2 j3 (gx+1)
 h:hat w gx=some (.cells #[X.v0,X.v1,X.v2,X.v3] 34)
 f:Fr R.os w0 w
 n:gx∉R.os
 z:w0.heap.size<=gx
theorem In.fstep{w0 w w':World}{R X:RP}{m j0 j1 j2 j3 gx:Nat}{ex:List Nat}(h:In w0 w R X m j0 j1 j2 j3 gx)(hf:Fr ex w w')(hx:∀ k∈ex,k∈X.os\/gx<=k):Fr R.os w0 w':=by
 have h1:Fr (R.os++ex) w0 w':=(h.f.mono (fun k hk=>List.mem_append_left _ hk)).trans (hf.mono (fun k hk=>List.mem_append_right _ hk));refine h1.past fun k hk=>?_
 rcases List.mem_append.1 hk with hk|hk
 ·exact .inl hk
 ·have:=h.z;rcases hx k hk with hk|hk
  ·rcases h.x.os k hk with hk|hk
   ·exact .inl hk
   ·exact .inr (by omega)
  ·exact .inr (by omega)
theorem In.nx{w0 w:World}{R X:RP}{m j0 j1 j2 j3 gx:Nat}(h:In w0 w R X m j0 j1 j2 j3 gx):gx∉X.os:=fun hm=>by
 rcases h.x.os gx hm with hk|hk
 ·exact h.n hk
 ·omega
theorem In.put{w0 w w1 w2:World}{R X X':RP}{m j0 j1 j2 j3 i0 i1 i2 i3 gx i:Nat}{oi:Option Nat}{v:Value}(h:In w0 w R X m j0 j1 j2 j3 gx)(hf1:Fr [] w w1)(hf2:Fr oi.toList w1 w2)(ho:∀ g,oi=some g->g∈X.os)(hx:Pc w2 R X' m i0 i1 i2 i3 (gx+1))
  (hv:(#[X.v0,X.v1,X.v2,X.v3]:Array Value).setIfInBounds i v= #[X'.v0,X'.v1,X'.v2,X'.v3]):
  hat w2 gx=some (.cells #[X.v0,X.v1,X.v2,X.v3] 34)/\In w0 (w2.setCell ⟨gx,i,none⟩ v) R X' m i0 i1 i2 i3 gx:=by
 have hg1:=(hf1.block gx (Aa h.h) (by simp)).trans h.h;have hg2:hat w2 gx=_:=(hf2.block gx (Aa hg1) (fun hm=>h.nx (ho gx (by simpa using hm)))).trans hg1;have hn':gx∉X'.os:=fun hm=>by
  rcases hx.os gx hm with hk|hk
  ·exact h.n hk
  ·omega
 refine⟨hg2,⟨hx.fr (Ai w2 gx i v) (fun g hg hm=>?_) (fun g hg hm=>?_),?_,?_,h.n,h.z⟩⟩
 ·simp at hm;subst hm;exact h.n hg
 ·simp at hm;subst hm;exact hn' hg
 ·rw[Ah _ _ _ _ _ _ _ hg2,hv]
 ·refine h.fstep (ex:=oi.toList++[gx]) (((hf1.mono (by simp)).trans (hf2.mono (fun k hk=>List.mem_append_left _ hk))).trans ((Ai w2 gx i v).mono (fun k hk=>List.mem_append_right _ hk))) fun k hk=>?_
  rcases List.mem_append.1 hk with hk|hk
  ·exact .inl (ho k (by simpa using hk))
  ·simp at hk;exact .inr (by omega)
def sN:Nat->Code->Code
 |0,c=>c
 |k+1,.seq _ b=>sN k b
 |_+1,_=> .skip
theorem Bx.reps{w:World}{b:Nat}{cs:Array Value}{n:Nat}{R:Nat->RP}(h:hat w b=some (.cells cs 34))(hs:cs.size=n*4)(hc:∀ k,k<n*4->cs[k]? =some (I6 R k)):Bx 34 4 w (.slice (some ⟨b,0,none⟩) n n) (some b) n (I6 R):=
 .inr ⟨b,0,n,cs,rfl,rfl,h,by omega,by omega,fun k hk=>by rw[Nat.zero_add];exact hc k hk⟩
theorem Bx.repc{w:World}{g off n c:Nat}{ob:Option Nat}{R:Nat->RP}(h:Bx 34 4 w (.slice (some ⟨g,off,none⟩) n c) ob n (I6 R)){i:Nat}(hi:i<n):
  ∃ cs,hat w g=some (.cells cs 34)/\cs[off+i*4]? =some (R i).v0/\cs[off+i*4+1]? =some (R i).v1/\cs[off+i*4+2]? =some (R i).v2/\cs[off+i*4+3]? =some (R i).v3:=by
 rcases h with ⟨h,-⟩|⟨g',off',c',cs,e,h2,h3,h4,h5,h6⟩
 ·cases h
 ·injection e with e1 e2 e3
  injection e1 with e1
  injection e1 with p1 p2
  subst p1 p2 e3;have key:∀ q,q<4->cs[off+i*4+q]? =some (I6 R (i*4+q)):=fun q hq=>by
   have:=h6 (i*4+q) (by omega);rw[<-Nat.add_assoc]at this;exact this
  have e4:∀ q,q<4->(i*4+q)/4=i/\(i*4+q)%4=q:=fun q hq=>by omega
  refine⟨cs,h3,?_,?_,?_,?_⟩
  ·rw[<-Nat.add_zero (off+i*4),key 0 (by omega)];unfold I6;rw[(e4 0 (by omega)).1,(e4 0 (by omega)).2];rfl
  ·rw[key 1 (by omega)];unfold I6;rw[(e4 1 (by omega)).1,(e4 1 (by omega)).2];rfl
  ·rw[key 2 (by omega)];unfold I6;rw[(e4 2 (by omega)).1,(e4 2 (by omega)).2];rfl
  ·rw[key 3 (by omega)];unfold I6;rw[(e4 3 (by omega)).1,(e4 3 (by omega)).2];rfl
theorem Rv(x:Int)(w:World):(Instr.build 47 #[(0,.int .u8 x)]).run Tryz.prog w= .ok (.agg (IV .u8 ((zl 128).set 0 x))) w:=by kernel_rfl
theorem V8{P:Program}{o:Oper}{a:Act}{w:World}{K:Act->World->Prop}{Q:Exit->Act->World->Prop}(t:TypeId)(x:Operand)(ho:o.op= .build t #[(0,x)])(v:Value)(hx:a.eval x=v)(v':Value)
  (hr:(Instr.build t #[(0,v)]).run P w= .ok v' w) (h:K (a.put o.dst v') w):o.wp P a w K Q:=by
 unfold Oper.wp execOp;simp only[ho,Sem.run_bind,List.map_toArray,List.map_cons,List.map_nil,hx,hr,Result.andThen_ok];exact h
def nv(R:Nat->RP)(q:Nat):Value:=if q%3=0 then(R (q/3)).v1 else if q%3=1 then(R (q/3)).v2 else(R (q/3)).v3
def no(R:Nat->RP)(q:Nat):Option Nat:=if q%3=0 then(R (q/3)).o1 else if q%3=1 then(R (q/3)).o2 else(R (q/3)).o3
def nx(R:Nat->RP)(q:Nat):List Int:=if q%3=0 then(R (q/3)).xs else if q%3=1 then(R (q/3)).ys else(R (q/3)).zs
def nl(R:Nat->RP)(q:Nat):Nat:=(nx R q).length
def G7(S:Nat->Nat->Value)(i:Nat)(f:Nat->Value):Nat->Nat->Value:=fun j=>if j=i then f else S j
structure SpL (OS:List Nat) (w0 w:World) (M:Nat) (R:Nat->RP) (vl:Value) (ol:Option Nat) (S X:Nat->Nat->Value):Prop where
 l:Bx 34 4 w vl ol M (I6 R)
 s:∀ i,i<M->Bx 47 128 w (R i).v0 (R i).o0 (R i).N (S i)
 q:∀ j,j<M*3->Bx 3 1 w (nv R j) (no R j) (nl R j) (X j)
 ds:∀ i j,i<M->j<M->i≠j->∀ g,(R i).o0=some g->(R j).o0≠some g
 dq:∀ i j,i<M*3->j<M*3->i≠j->∀ g,no R i=some g->no R j≠some g
 n0:∀ i,i<M->(R i).N<=4900
 n1:∀ j,j<M*3->nl R j<=4900
 f:Fr OS w0 w
 so:∀ i,i<M->∀ g,(R i).o0=some g->g∈OS
 qo:∀ j,j<M*3->∀ g,no R j=some g->g∈OS
theorem mF{R:Nat->RP}{j g:Nat}(h:no R j=some g):g∈(R (j/3)).os:=by
 unfold no at h;split at h
 ·exact RP.mem_os.2 (.inr (.inl h))
 ·split at h
  ·exact RP.mem_os.2 (.inr (.inr (.inl h)))
  ·exact RP.mem_os.2 (.inr (.inr (.inr h)))
theorem SpL.start{OS:List Nat}{w:World}{M:Nat}{R:Nat->RP}{vl:Value}{ol:Option Nat}(hl:Bx 34 4 w vl ol M (I6 R))(h:Wc w M R)(hO:∀ i,i<M->∀ g∈(R i).os,g∈OS):
  SpL OS w w M R vl ol (fun i=>Fy (R i).S) (fun j q=> .int .i64 (nth (nx R j) q)):=by
 refine⟨hl,fun i hi=>(h.rep i hi).r0.g,fun j hj=>?_,fun i j hi hj hij g hg hm=>?_,fun i j hi hj hij g hg hm=>?_,fun i hi=>(h.rep i hi).n0,fun j hj=>?_,Fr.refl _ _,fun i hi g hg=>hO i hi g (RP.mem_os.2 (.inl hg)),fun j hj g hg=>hO (j/3) (by omega) g (mF hg)⟩
 ·have hr:=h.rep (j/3) (by omega);unfold nv no nl nx;by_cases h0:j%3=0
  ·simp only[if_pos h0];exact hr.r1.g.1
  ·by_cases h1:j%3=1
   ·simp only[if_neg h0,if_pos h1];exact hr.r2.g.1
   ·simp only[if_neg h0,if_neg h1];exact hr.r3.g.1
 ·exact h.dis i j hi hj hij g (RP.mem_os.2 (.inl hg)) (RP.mem_os.2 (.inl hm))
 ·by_cases he:i/3=j/3
  ·have hr:=h.rep (j/3) (by omega);unfold no at hg hm;rw[he]at hg;have hi3:i%3<3:=Nat.mod_lt _ (by omega);have hj3:j%3<3:=Nat.mod_lt _ (by omega);have h9:i%3≠j%3:=(by omega);by_cases i0:i%3=0
   ·by_cases j1:j%3=1
    ·rw[if_pos i0]at hg;rw[if_neg (by omega),if_pos j1]at hm;exact hr.d12 g hg hm
    ·rw[if_pos i0]at hg;rw[if_neg (by omega),if_neg j1]at hm;exact hr.d13 g hg hm
   ·by_cases i1:i%3=1
    ·by_cases j0:j%3=0
     ·rw[if_neg i0,if_pos i1]at hg;rw[if_pos j0]at hm;exact hr.d12 g hm hg
     ·rw[if_neg i0,if_pos i1]at hg;rw[if_neg j0,if_neg (by omega)]at hm;exact hr.d23 g hg hm
    ·by_cases j0:j%3=0
     ·rw[if_neg i0,if_neg i1]at hg;rw[if_pos j0]at hm;exact hr.d13 g hm hg
     ·rw[if_neg i0,if_neg i1]at hg;rw[if_neg j0,if_pos (by omega)]at hm;exact hr.d23 g hm hg
  ·exact h.dis (i/3) (j/3) (by omega) (by omega) he g (mF hg) (mF hm)
 ·have hr:=h.rep (j/3) (by omega);unfold nl nx;split
  ·exact hr.n1
  ·split
   ·exact hr.n2
   ·exact hr.n3
section
variable {OS:List Nat} {w0 w w':World} {M:Nat} {R:Nat->RP} {vl:Value} {ol:Option Nat} {S X:Nat->Nat->Value}
theorem SpL.off(h:SpL OS w0 w M R vl ol S X){ex:List Nat}(hf:Fr ex w w')(h0:∀ g∈ex,w0.heap.size<=g)(h1:∀ g∈ex,ol≠some g)(h2:∀ g∈ex,∀ i,i<M->(R i).o0≠some g)(h3:∀ g∈ex,∀ j,j<M*3->no R j≠some g):SpL OS w0 w' M R vl ol S X:=
 ⟨h.l.fr hf (fun g hg hm=>h1 g hm hg),fun i hi=>(h.s i hi).fr hf (fun g hg hm=>h2 g hm i hi hg),fun j hj=>(h.q j hj).fr hf (fun g hg hm=>h3 g hm j hj hg),h.ds,h.dq,h.n0,h.n1,
  ((h.f.mono (ex':=OS++ex) (fun k hk=>List.mem_append_left _ hk)).trans (hf.mono (fun k hk=>List.mem_append_right _ hk))).past (fun k hk=>(List.mem_append.1 hk).imp id (h0 k)),h.so,h.qo⟩
theorem SpL.same(h:SpL OS w0 w M R vl ol S X)(hf:Fr [] w w'):SpL OS w0 w' M R vl ol S X:=h.off hf (by simp) (by simp) (by simp) (by simp)
theorem SpL.congr(h:SpL OS w0 w M R vl ol S X){S' X':Nat->Nat->Value}(hs:∀ i,i<M->∀ k,k<(R i).N*128->S i k=S' i k)(hx:∀ j,j<M*3->∀ k,k<nl R j*1->X j k=X' j k):SpL OS w0 w M R vl ol S' X':=
 ⟨h.l,fun i hi=>(h.s i hi).congr (hs i hi),fun j hj=>(h.q j hj).congr (hx j hj),h.ds,h.dq,h.n0,h.n1,h.f,h.so,h.qo⟩
theorem vU:(34:TypeId)≠47:=by decide
theorem vT:(34:TypeId)≠3:=by decide
theorem mE:(47:TypeId)≠3:=by decide
theorem SpL.turnS(h:SpL OS w0 w M R vl ol S X){i g:Nat}{f:Nat->Value}(hi:i<M)(hg:(R i).o0=some g)(hf:Fr [g] w w')(hr:Bx 47 128 w' (R i).v0 (R i).o0 (R i).N f):SpL OS w0 w' M R vl ol (G7 S i f) X:=by
 refine⟨h.l.fr hf (fun b hb hm=>?_),fun j hj=>?_,fun j hj=>(h.q j hj).fr hf (fun b hb hm=>?_),h.ds,h.dq,h.n0,h.n1,h.f.trans (hf.mono (fun k hk=>by simp at hk;subst hk;exact h.so i hi k hg)),h.so,h.qo⟩
 ·simp at hm;subst hm;exact h.l.ne (h.s i hi) vU hb hg rfl
 ·unfold G7;by_cases hji:j=i
  ·subst hji;rw[if_pos rfl];exact hr
  ·rw[if_neg hji];refine(h.s j hj).fr hf (fun b hb hm=>?_);simp at hm;subst hm;exact h.ds j i hj hi hji b hb hg
 ·simp at hm;subst hm;exact(h.s i hi).ne (h.q j hj) mE hg hb rfl
theorem SpL.turnQ(h:SpL OS w0 w M R vl ol S X){j g:Nat}{f:Nat->Value}(hj:j<M*3)(hg:no R j=some g)(hf:Fr [g] w w')(hr:Bx 3 1 w' (nv R j) (no R j) (nl R j) f):SpL OS w0 w' M R vl ol S (G7 X j f):=by
 refine⟨h.l.fr hf (fun b hb hm=>?_),fun i hi=>(h.s i hi).fr hf (fun b hb hm=>?_),fun i hi=>?_,h.ds,h.dq,h.n0,h.n1,h.f.trans (hf.mono (fun k hk=>by simp at hk;subst hk;exact h.qo j hj k hg)),h.so,h.qo⟩
 ·simp at hm;subst hm;exact h.l.ne (h.q j hj) vT hb hg rfl
 ·simp at hm;subst hm;exact(h.s i hi).ne (h.q j hj) mE hb hg rfl
 ·unfold G7;by_cases hij:i=j
  ·subst hij;rw[if_pos rfl];exact hr
  ·rw[if_neg hij];refine(h.q i hi).fr hf (fun b hb hm=>?_);simp at hm;subst hm;exact h.dq i j hi hj hij b hb hg
end
theorem Bx.putS{w:World}{v:Value}{ob:Option Nat}{N:Nat}{f:Nat->Value}(h:Bx 47 128 w v ob N f){k:Nat}(hk:k<N){s:List Int}(hs:s.length=128):
  ∃ g off c cs,v= .slice (some ⟨g,off,none⟩) N c/\ob=some g/\hat w g=some (.cells cs 47)/\off+N*128<=cs.size/\Bx 47 128 (w.setRow g (Ap cs (off+k*128) (IV .u8 s))) v ob N (fun q=>if q/128=k then Fy (fun _=>s) q else f q):=by
 rcases h with ⟨-,-,h⟩|⟨g,off,c,cs,rfl,h0,h1,h2,h3,h4⟩
 ·omega
 ·have hsz:(IV .u8 s).size=128:=(by simp[hs]);have hss:=Hs cs (off+k*128) (IV .u8 s) (by rw[hsz];omega);refine⟨g,off,c,cs,rfl,h0,h1,h2,.inr ⟨g,off,c,_,rfl,h0,Ar _ _ _ _ _ _ h1,by rw[hss];exact h2,by rw[hss];exact h3,fun j hj=>?_⟩⟩;rw[Uf (by rw[hsz];omega),hsz];show _=some (if j/128=k then Fy (fun _=>s) j else f j)
  by_cases hjk:j/128=k
  ·rw[if_pos hjk,if_pos (by omega),Bl,An (by omega),show off+j-(off+k*128)=j%128 by omega];rfl
  ·rw[if_neg hjk,if_neg (by omega)];exact h4 j hj
theorem Bx.putQ{w:World}{v:Value}{ob:Option Nat}{n:Nat}{f:Nat->Value}(h:Bx 3 1 w v ob n f){k:Nat}(hk:k<n)(x:Int):
  ∃ g off c cs,v= .slice (some ⟨g,off,none⟩) n c/\ob=some g/\hat w g=some (.cells cs 3)/\cs[off+k]? =some (f k)/\Bx 3 1 (w.setCell ⟨g,off+k,none⟩ (.int .i64 x)) v ob n (fun q=>if q=k then .int .i64 x else f q):=by
 rcases h with ⟨-,-,h⟩|⟨g,off,c,cs,rfl,h0,h1,h2,h3,h4⟩
 ·omega
 ·refine⟨g,off,c,cs,rfl,h0,h1,h4 k (by omega),.inr ⟨g,off,c,cs.setIfInBounds (off+k) (.int .i64 x),rfl,h0,Ah _ _ _ _ _ _ _ h1,by simpa using h2,by simpa using h3,fun j hj=>?_⟩⟩;rw[Array.getElem?_setIfInBounds];show _=some (if j=k then Value.int .i64 x else f j)
  by_cases hjk:j=k
  ·subst hjk;rw[if_pos rfl,if_pos rfl,if_pos (by omega)]
  ·rw[if_neg (by omega),if_neg hjk];exact h4 j hj
theorem Bx.cellQ{T:TypeId}{w:World}{v:Value}{ob:Option Nat}{n:Nat}{f:Nat->Value}(h:Bx T 1 w v ob n f){k:Nat}(hk:k<n):∃ g off c cs,v= .slice (some ⟨g,off,none⟩) n c/\ob=some g/\hat w g=some (.cells cs T)/\cs[off+k]? =some (f k):=by
 rcases h with ⟨-,-,h⟩|⟨g,off,c,cs,rfl,h0,h1,h2,h3,h4⟩
 ·omega
 ·exact⟨g,off,c,cs,rfl,h0,h1,h4 k (by omega)⟩
def Gt(j:Nat):Nat->Value:=fun _=> .int .i64 (-100-(j:Int))
def Er(i:Nat):Nat->Value:=Fy fun _=>G6 (1+i)
noncomputable def U1(k:Nat):Code:=sN k (Tryz.f31.body.getD .skip)
def spP(OS:List Nat)(w0:World):Ending->World->Prop:=fun e w'=>e= .returned (.bool true)/\Fr OS w0 w'
structure SpE (OS:List Nat) (w0 w:World) (M L:Nat) (R:Nat->RP) (gl fl cl:Nat) (ol:Option Nat) (gn fn cn:Nat) (on:Option Nat) (gg fg cg:Nat) (og:Option Nat) (gt ft ct:Nat) (ot:Option Nat) (y:Nat->Value) (p:Nat->Option Nat) (z:Nat->Value) (r:Nat->Option Nat):Prop where
 sp:SpL OS w0 w M R (.slice (some ⟨gl,fl,none⟩) M cl) ol Er Gt
 eL:L=M*3
 num:Bx 32 1 w (.slice (some ⟨gn,fn,none⟩) L cn) on L (nv R)
 g:Bx 32 1 w (.slice (some ⟨gg,fg,none⟩) L cg) og L y
 gx:∀ j,j<L->Bx 3 1 w (y j) (p j) (nl R j+9) (Gt j)
 t:Bx 26 1 w (.slice (some ⟨gt,ft,none⟩) M ct) ot M z
 tx:∀ i,i<M->Bx 47 128 w (z i) (r i) ((R i).N+9) (Er i)
section
variable {OS:List Nat} {w0 w w':World} {M L:Nat} {R:Nat->RP} {gl fl cl:Nat} {ol:Option Nat} {gn fn cn:Nat} {on:Option Nat} {gg fg cg:Nat} {og:Option Nat} {gt ft ct:Nat} {ot:Option Nat} {y:Nat->Value} {p:Nat->Option Nat} {z:Nat->Value} {r:Nat->Option Nat}
theorem SpE.same(h:SpE OS w0 w M L R gl fl cl ol gn fn cn on gg fg cg og gt ft ct ot y p z r)(hf:Fr [] w w'):SpE OS w0 w' M L R gl fl cl ol gn fn cn on gg fg cg og gt ft ct ot y p z r:=
 ⟨h.sp.same hf,h.eL,h.num.fr hf (by simp),h.g.fr hf (by simp),fun j hj=>(h.gx j hj).fr hf (by simp),h.t.fr hf (by simp),fun i hi=>(h.tx i hi).fr hf (by simp)⟩
theorem nR(i k:Nat):Er i (k*128)= .int .u8 (1+(i:Int)):=by
 unfold Er Fy G6;rw[Nat.mul_mod_left];have e:nth ((zl 128).set 0 ((1+i:Nat):Int)) 0=((1+i:Nat):Int):=rfl;rw[e];congr 1
theorem Bx.secAt{w:World}{v:Value}{o:Option Nat}{n i:Nat}(h:Bx 47 128 w v o n (Er i)){k:Nat}(hk:k<n):∃ g off c cs,v= .slice (some ⟨g,off,none⟩) n c/\hat w g=some (.cells cs 47)/\cs[off+k*128]? =some (.int .u8 (1+(i:Int))):=by
 rcases h with ⟨-,-,h⟩|⟨g,off,c,cs,rfl,h0,h1,h2,h3,h4⟩
 ·omega
 ·exact⟨g,off,c,cs,rfl,h1,by rw[h4 (k*128) (by omega),nR]⟩
theorem sp9(w:World)(h:SpE OS w0 w M L R gl fl cl ol gn fn cn on gg fg cg og gt ft ct ot y p z r)(hM:M<=24)(u1 u2 u4 u5 u6 u7 u10 u11 u12 u13 u14 u15 u16 u17 u18 u19 u20 u21 u22 u23 u24 u25 u26 u27 u28 u29 u30 u31 u32 u33 u34 u35 u36 u37 u38 u39 u40 u41 u42 u43 u44 u45 u46 u47 u48 u49 u50 u51 u52 u53 u54 u55 u56 u57 u58 u59 u60 u61 u62 u63 u64 u65 u66 u67 u68 u69 u70 u71 u72 u73 u74 u75 u76 u77 u78 u79 u80 u81 u82 u83 u84 u85 u86 u87 u88 u89 u90 u91 u92 u93 u94 u95 u96 u97 u98 u99 u100 u101 u102 u103 u104 u105 u106 u107 u108 u109 u110 u111 u112 u113 u114 u115 u116 u117 u118 u119 u120 u121 u122 u123 u124 u125 u126 u127 u128 u129 u130 u131 u132 u133 u134 u135 u136 u137 u138 u139 u140 u141 u142 u143 u144 u145 u146 u147 u148 u149 u150 u151 u152 u153 u154 u155 u156 u157 u158 u159 u160 u161 u162 u163 u164 u165 u166 u167 u168 u169 u170 u171 u172 u173 u174 u175 u176 u177 u178 u179 u180 u181 u182 u183 u184 u185 u186 u187 u188 u189 u190 u191 u192 u193 u194 u195 u196 u197 u198 u199 u200 u201 u202 u203 u204 u205 u206 u207 u208 u209 u210 u211 u212 u213 u214 u215 u216 u217 u218 u219 u220 u221 u222 u223 u224 u225 u226 u227 u228 u229 u230 u231 u232 u233 u234:Value):
  Code.wp Tryz.prog (U1 9) (bodyPost Tryz.prog Tryz.f31 (spP OS w0)) ⟨#[.slice (some ⟨gl,fl,none⟩) M cl,u1,u2,.slice (some ⟨gn,fn,none⟩) L cn,u4,u5,u6,u7,.slice (some ⟨gg,fg,none⟩) L cg,.slice (some ⟨gt,ft,none⟩) M ct,u10,u11,u12,u13,u14,u15,u16,u17,u18,u19,u20,u21,u22,u23,u24,u25,u26,u27,u28,u29,u30,u31,u32,u33,u34,u35,u36,u37,u38,u39,u40,u41,u42,u43,u44,u45,u46,u47,u48,u49,u50,u51,u52,u53,u54,u55,u56,u57,u58,u59,u60,u61,u62,u63,u64,u65,u66,u67,u68,u69,u70,u71,u72,u73,u74,u75,u76,u77,u78,u79,u80,u81,u82,u83,u84,u85,u86,u87,u88,u89,u90,u91,u92,u93,u94,u95,u96,u97,u98,u99,u100,u101,u102,u103,u104,u105,u106,u107,u108,u109,u110,u111,u112,u113,u114,u115,u116,u117,u118,u119,u120,u121,u122,u123,u124,u125,u126,u127,u128,u129,u130,u131,u132,u133,u134,u135,u136,u137,u138,u139,u140,u141,u142,u143,u144,u145,u146,u147,u148,u149,u150,u151,u152,u153,u154,u155,u156,u157,u158,u159,u160,u161,u162,u163,u164,u165,u166,u167,u168,u169,u170,u171,u172,u173,u174,u175,u176,u177,u178,u179,u180,u181,u182,u183,u184,u185,u186,u187,u188,u189,u190,u191,u192,u193,u194,u195,u196,u197,u198,u199,u200,u201,u202,u203,u204,u205,u206,u207,u208,u209,u210,u211,u212,u213,u214,u215,u216,u217,u218,u219,u220,u221,u222,u223,u224,u225,u226,u227,u228,u229,u230,u231,u232,u233,u234],[]⟩ w:=by
 conv=>arg 2;whnf
 have H:=zA h;clear h;go_wp2_with fail;go_loopw [18] (fun v wr=>∃ i:Nat,v= .int .i64 i/\i<=M/\Hid (SpE OS w0 wr M L R gl fl cl ol gn fn cn on gg fg cg og gt ft ct ot y p z r)) (fun v _=>M-(intOf v).toNat)
 case atStart=>exact⟨0,rfl,by omega,H⟩
 case round=>
  obtain⟨i,rfl,hi,H⟩:=hrel;have hi0:(0:Int)<=(i:Int):=Int.natCast_nonneg _;by_cases hlt:i<M
  ·have hi1:(i:Int)<(M:Int):=(by omega);go_wp2_with fail;obtain⟨w7,rfl⟩:∃ x,x=wr:=⟨_,rfl⟩;go_loopw [19] (fun v wx=>∃ k:Nat,v= .int .i64 k/\k<=(R i).N+9/\Hid (SpE OS w0 wx M L R gl fl cl ol gn fn cn on gg fg cg og gt ft ct ot y p z r)) (fun v _=>(R i).N+9-(intOf v).toNat)
   case atStart=>exact⟨0,rfl,by omega,H⟩
   case round=>
    obtain⟨k,rfl,hk,H⟩:=hrel;have hk0:(0:Int)<=(k:Int):=Int.natCast_nonneg _;obtain⟨gq,oq,cq,cs,hv,-,hcs,hci⟩:=H.out.t.cellQ hlt;injection hv with hv1 hv2 hv3
    injection hv1 with hv1
    injection hv1 with hv4 hv5
    subst hv4 hv5 hv3;clear hv2;by_cases hkl:k<(R i).N+9
    ·have hN9:=H.out.sp.n0 i hlt;have hk9:(k:Int)<5000:=(by omega);have hk1:(k:Int)<((R i).N:Int)+9:=(by omega);clear hN9;obtain⟨g2,f2,c2,cs2,hz,hcs2,hc2⟩:=(H.out.tx i hlt).secAt hkl;rw[hz]at hci;obtain⟨cs3,hcs3,hc3,-⟩:=H.out.sp.l.repc hlt;by_cases hkn:k<(R i).N
     ·have hk2:(k:Int)<((R i).N:Int):=(by omega);obtain⟨g4,f4,c4,cs4,hz4,hcs4,hc4⟩:=(H.out.sp.s i hlt).secAt hkn;rw[hz4]at hc3;have HZ:=zA (And.intro hz hz4);clear hz hz4;have l1:=Aa hcs;have l2:=Aa hcs2;have l3:=Aa hcs3;have l4:=Aa hcs4;go_wp2_with fail;go_roundw
      case rel=>exact⟨k+1,by go_num,by omega,H⟩
      case measure=>(show(R i).N+9-(k+1)<(R i).N+9-k);omega
     ·have hk2:((R i).N:Int)<=(k:Int):=(by omega);have hk3:¬ (k:Int)<((R i).N:Int):=(by omega);obtain⟨a4,c4,hz4⟩:=(H.out.sp.s i hlt).slice;rw[hz4]at hc3;have HZ:=zA (And.intro hz hz4);clear hz hz4;have l1:=Aa hcs;have l2:=Aa hcs2;have l3:=Aa hcs3;go_wp2_with fail;go_roundw
      case rel=>exact⟨k+1,by go_num,by omega,H⟩
      case measure=>(show(R i).N+9-(k+1)<(R i).N+9-k);omega
    ·obtain⟨a2,c2,hz⟩:=(H.out.tx i hlt).slice;rw[hz]at hci;have HZ:=zA hz;clear hz;obtain rfl:k=(R i).N+9:=(by omega);have l1:=Aa hcs;go_wp2_with fail;go_roundw
     case rel=>exact⟨i+1,by go_num,by omega,H⟩
     case measure=>(show M-(i+1)<M-i);omega
  ·obtain rfl:i=M:=(by omega);go_wp2_with fail;go_ret;exact⟨rfl,H.out.sp.f⟩
theorem sp8(w:World)(h:SpE OS w0 w M L R gl fl cl ol gn fn cn on gg fg cg og gt ft ct ot y p z r)(hM:M<=24)(u1 u2 u4 u5 u6 u7 u10 u11 u12 u13 u14 u15 u16 u17 u18 u19 u20 u21 u22 u23 u24 u25 u26 u27 u28 u29 u30 u31 u32 u33 u34 u35 u36 u37 u38 u39 u40 u41 u42 u43 u44 u45 u46 u47 u48 u49 u50 u51 u52 u53 u54 u55 u56 u57 u58 u59 u60 u61 u62 u63 u64 u65 u66 u67 u68 u69 u70 u71 u72 u73 u74 u75 u76 u77 u78 u79 u80 u81 u82 u83 u84 u85 u86 u87 u88 u89 u90 u91 u92 u93 u94 u95 u96 u97 u98 u99 u100 u101 u102 u103 u104 u105 u106 u107 u108 u109 u110 u111 u112 u113 u114 u115 u116 u117 u118 u119 u120 u121 u122 u123 u124 u125 u126 u127 u128 u129 u130 u131 u132 u133 u134 u135 u136 u137 u138 u139 u140 u141 u142 u143 u144 u145 u146 u147 u148 u149 u150 u151 u152 u153 u154 u155 u156 u157 u158 u159 u160 u161 u162 u163 u164 u165 u166 u167 u168 u169 u170 u171 u172 u173 u174 u175 u176 u177 u178 u179 u180 u181 u182 u183 u184 u185 u186 u187 u188 u189 u190 u191 u192 u193 u194 u195 u196 u197 u198 u199 u200 u201 u202 u203 u204 u205 u206 u207 u208 u209 u210 u211 u212 u213 u214 u215 u216 u217 u218 u219 u220 u221 u222 u223 u224 u225 u226 u227 u228 u229 u230 u231 u232 u233 u234:Value):
  Code.wp Tryz.prog (U1 8) (bodyPost Tryz.prog Tryz.f31 (spP OS w0)) ⟨#[.slice (some ⟨gl,fl,none⟩) M cl,u1,u2,.slice (some ⟨gn,fn,none⟩) L cn,u4,u5,u6,u7,.slice (some ⟨gg,fg,none⟩) L cg,.slice (some ⟨gt,ft,none⟩) M ct,u10,u11,u12,u13,u14,u15,u16,u17,u18,u19,u20,u21,u22,u23,u24,u25,u26,u27,u28,u29,u30,u31,u32,u33,u34,u35,u36,u37,u38,u39,u40,u41,u42,u43,u44,u45,u46,u47,u48,u49,u50,u51,u52,u53,u54,u55,u56,u57,u58,u59,u60,u61,u62,u63,u64,u65,u66,u67,u68,u69,u70,u71,u72,u73,u74,u75,u76,u77,u78,u79,u80,u81,u82,u83,u84,u85,u86,u87,u88,u89,u90,u91,u92,u93,u94,u95,u96,u97,u98,u99,u100,u101,u102,u103,u104,u105,u106,u107,u108,u109,u110,u111,u112,u113,u114,u115,u116,u117,u118,u119,u120,u121,u122,u123,u124,u125,u126,u127,u128,u129,u130,u131,u132,u133,u134,u135,u136,u137,u138,u139,u140,u141,u142,u143,u144,u145,u146,u147,u148,u149,u150,u151,u152,u153,u154,u155,u156,u157,u158,u159,u160,u161,u162,u163,u164,u165,u166,u167,u168,u169,u170,u171,u172,u173,u174,u175,u176,u177,u178,u179,u180,u181,u182,u183,u184,u185,u186,u187,u188,u189,u190,u191,u192,u193,u194,u195,u196,u197,u198,u199,u200,u201,u202,u203,u204,u205,u206,u207,u208,u209,u210,u211,u212,u213,u214,u215,u216,u217,u218,u219,u220,u221,u222,u223,u224,u225,u226,u227,u228,u229,u230,u231,u232,u233,u234],[]⟩ w:=by
 conv=>arg 2;whnf
 have hL:L<=100:=by have:=h.eL;omega
 have H:=zA h;clear h;go_upto_block 16 with fail
 go_cut []from 16 (fun wx=>Hid (SpE OS w0 wx M L R gl fl cl ol gn fn cn on gg fg cg og gt ft ct ot y p z r))
 case first=>
  go_wp2_with fail;go_loopw [16] (fun v wr=>∃ j:Nat,v= .int .i64 j/\j<=L/\Hid (SpE OS w0 wr M L R gl fl cl ol gn fn cn on gg fg cg og gt ft ct ot y p z r)) (fun v _=>L-(intOf v).toNat)
  case atStart=>exact⟨0,rfl,by omega,H⟩
  case round=>
   obtain⟨j,rfl,hj,H⟩:=hrel;have hj0:(0:Int)<=(j:Int):=Int.natCast_nonneg _;by_cases hlt:j<L
   ·have hj1:(j:Int)<(L:Int):=(by omega);have hlt3:j<M*3:=(by have:=H.out.eL;omega);go_wp2_with fail;obtain⟨w7,rfl⟩:∃ x,x=wr:=⟨_,rfl⟩;go_loopw [17] (fun v wx=>∃ k:Nat,v= .int .i64 k/\k<=nl R j+9/\Hid (SpE OS w0 wx M L R gl fl cl ol gn fn cn on gg fg cg og gt ft ct ot y p z r)) (fun v _=>nl R j+9-(intOf v).toNat)
    case atStart=>exact⟨0,rfl,by omega,H⟩
    case round=>
     obtain⟨k,rfl,hk,H⟩:=hrel;have hk0:(0:Int)<=(k:Int):=Int.natCast_nonneg _;obtain⟨gq,oq,cq,cs,hv,-,hcs,hci⟩:=H.out.g.cellQ hlt;injection hv with hv1 hv2 hv3
     injection hv1 with hv1
     injection hv1 with hv4 hv5
     subst hv4 hv5 hv3;clear hv2;by_cases hkl:k<nl R j+9
     ·have hN9:=H.out.sp.n1 j hlt3;have hk9:(k:Int)<5000:=(by omega);have hk1:(k:Int)<(nl R j:Int)+9:=(by omega);clear hN9;obtain⟨g2,f2,c2,cs2,hy,-,hcs2,hc2⟩:=(H.out.gx j hlt).cellQ hkl;rw[hy]at hci;obtain⟨gq,oq,cq,cs3,hv,-,hcs3,hc3⟩:=H.out.num.cellQ hlt;injection hv with hv1 hv2 hv3
      injection hv1 with hv1
      injection hv1 with hv4 hv5
      subst hv4 hv5 hv3;clear hv2;have hc2':cs2[f2+k]? =some (.int .i64 (-100-(j:Int))):=hc2;by_cases hkn:k<nl R j
      ·have hk2:(k:Int)<(nl R j:Int):=(by omega);obtain⟨g4,f4,c4,cs4,hz4,-,hcs4,hc4⟩:=(H.out.sp.q j hlt3).cellQ hkn;have hc4':cs4[f4+k]? =some (.int .i64 (-100-(j:Int))):=hc4;rw[hz4]at hc3;have HZ:=zA (And.intro hy hz4);clear hy hz4 hc2 hc4;have l1:=Aa hcs;have l2:=Aa hcs2;have l3:=Aa hcs3;have l4:=Aa hcs4;go_wp2_with fail;go_roundw
       case rel=>exact⟨k+1,by go_num,by omega,H⟩
       case measure=>(show nl R j+9-(k+1)<nl R j+9-k);omega
      ·have hk2:(nl R j:Int)<=(k:Int):=(by omega);have hk3:¬ (k:Int)<(nl R j:Int):=(by omega);obtain⟨a4,c4,hz4⟩:=(H.out.sp.q j hlt3).slice;rw[hz4]at hc3;have HZ:=zA (And.intro hy hz4);clear hy hz4 hc2;have l1:=Aa hcs;have l2:=Aa hcs2;have l3:=Aa hcs3;go_wp2_with fail;go_roundw
       case rel=>exact⟨k+1,by go_num,by omega,H⟩
       case measure=>(show nl R j+9-(k+1)<nl R j+9-k);omega
     ·obtain⟨a2,c2,hy⟩:=(H.out.gx j hlt).slice;rw[hy]at hci;have HZ:=zA hy;clear hy;obtain rfl:k=nl R j+9:=(by omega);have l1:=Aa hcs;go_wp2_with fail;go_roundw
      case rel=>exact⟨j+1,by go_num,by omega,H⟩
      case measure=>(show L-(j+1)<L-j);omega
   ·obtain rfl:j=L:=(by omega);go_wp2_with fail;go_meet
    case rel=>exact H
 case rest=>
  exact(show ∀ a w,Code.wp _ (U1 9) _ a w->_ from by assumption) _ _ (sp9 wc hcut.out hM _ _ _ _ _ _ _ _ _ _ _ _ _ _ _ _ _ _ _ _ _ _ _ _ _ _ _ _ _ _ _ _ _ _ _ _ _ _ _ _ _ _ _ _ _ _ _ _ _ _ _ _ _ _ _ _ _ _ _ _ _ _ _ _ _ _ _ _ _ _ _ _ _ _ _ _ _ _ _ _ _ _ _ _ _ _ _ _ _ _ _ _ _ _ _ _ _ _ _ _ _ _ _ _ _ _ _ _ _ _ _ _ _ _ _ _ _ _ _ _ _ _ _ _ _ _ _ _ _ _ _ _ _ _ _ _ _ _ _ _ _ _ _ _ _ _ _ _ _ _ _ _ _ _ _ _ _ _ _ _ _ _ _ _ _ _ _ _ _ _ _ _ _ _ _ _ _ _ _ _ _ _ _ _ _ _ _ _ _ _ _ _ _ _ _ _ _ _ _ _ _ _ _ _ _ _ _ _ _ _ _ _ _ _ _ _ _ _ _ _ _ _ _ _ _ _ _ _ _ _ _)
end
theorem dR:∃ i0,Tryz.prog.info? 32=some i0/\i0.zero=some (.slice none 0 0)/\i0.size=1/\i0.bytes=24:=by
 have h:(Tryz.prog.info? 32).map (fun i=>(i.zero,i.size,i.bytes))=some (some (.slice none 0 0),1,24):=by kernel_rfl
 cases hq:Tryz.prog.info? 32 with
 |none=>rw[hq]at h;cases h
 |some inf=>
  rw[hq]at h;simp at h;exact⟨inf,rfl,h.1,h.2.1,h.2.2⟩
theorem qJ:∃ i0,Tryz.prog.info? 26=some i0/\i0.zero=some (.slice none 0 0)/\i0.size=1/\i0.bytes=24:=by
 have h:(Tryz.prog.info? 26).map (fun i=>(i.zero,i.size,i.bytes))=some (some (.slice none 0 0),1,24):=by kernel_rfl
 cases hq:Tryz.prog.info? 26 with
 |none=>rw[hq]at h;cases h
 |some inf=>
  rw[hq]at h;simp at h;exact⟨inf,rfl,h.1,h.2.1,h.2.2⟩
theorem Vn{ST T:TypeId}(ht:Tryz.prog.underlying ST=some (.slice T)){inf:TypeInfo}(hi:Tryz.prog.info? T=some inf)(hz:inf.zero=some (.slice none 0 0))(his:inf.size=1)(hib:inf.bytes=24){w:World}{v:Value}{ob:Option Nat}{k:Nat}{f:Nat->Value}(h:Bx T 1 w v ob k f)(xs:List Value)(h1:∀ x∈xs,x.oneCell'=true)(hk:k+xs.length<=1000)(ty:TypeId):
  ∃ a c w2 ob',(Builtin.append_ #[ST,ST] ty #[v,.slice (some ⟨w.heap.size,0,none⟩) xs.length xs.length]).run Tryz.prog (w.alloc (.cells xs.toArray T))= .ok (.slice a (k+xs.length) c) w2/\
   Bx T 1 w2 (.slice a (k+xs.length) c) ob' (k+xs.length) (fun i=>if i<k then f i else xs.getD (i-k) undef)/\Fr ob.toList w w2/\(ob'=ob\/∃ g,ob'=some g/\w.heap.size<=g):=by
 have hf1:=Do w (.cells xs.toArray T) [];have hb:Bx T 1 (w.alloc (.cells xs.toArray T)) (.slice (some ⟨w.heap.size,0,none⟩) xs.length xs.length) (some w.heap.size) xs.length (fun q=>xs.getD q undef):= .inr ⟨w.heap.size,0,xs.length,xs.toArray,rfl,rfl,(A6 w _).1,by simp,by simp,fun q hq=>by
  have hq':q<xs.length:=(by omega);simp[List.getD,List.getElem?_eq_getElem hq']⟩
 obtain⟨news,hs,hnw⟩:=hb.src (P:=Tryz.prog) ht (fun q hq=>by
  have hq':q<xs.length:=(by omega);simp only[List.getD,List.getElem?_eq_getElem hq',Option.getD_some];exact h1 _ (List.getElem_mem _))
 obtain⟨v',w2,om',hr,hg,hgr⟩:=G2 (P:=Tryz.prog) (ST:=ST) (sz:=1) ht hi hz rfl his hib (h.fr hf1 (by simp)) hs hnw (by omega) (by omega) ty;obtain⟨a,c,rfl⟩:=hg.slice;refine⟨a,c,w2,om',hr,hg.congr fun q hq=>?_,(hf1.mono (by simp)).trans hgr.fr,hgr.ob.imp id (fun⟨g,h1,h2⟩=>⟨g,h1,Nat.le_trans hf1.size h2⟩)⟩;unfold Up;rw[Nat.mul_one]
theorem uC{w:World}{v x:Value}{o ox:Option Nat}{n q B:Nat}{c:Int}(h:Ex 3 1 w v o x ox n q (fun _=> .int .i64 c) B)(hB:B<=w.heap.size)(hn:n<=4900)(hq:q<=50)(ty:TypeId):
  ∃ a m cc w2 o',(Builtin.append_ #[32,32] ty #[x,.slice (some ⟨w.heap.size,0,none⟩) 1 1]).run Tryz.prog (w.alloc (.cells #[.int .i64 c] 3))= .ok (.slice a m cc) w2/\Ex 3 1 w2 v o (.slice a m cc) o' n (q+1) (fun _=> .int .i64 c) B/\Fr ox.toList w w2/\(o'=ox\/∃ g,o'=some g/\w.heap.size<=g):=by
 obtain⟨inf,hi,hz,his,hib⟩:=Ok;have hf1:=Do w (.cells #[.int .i64 c] 3) [];obtain⟨news,hs,hnw⟩:=rK (x:=c) (A6 w (.cells #[.int .i64 c] 3)).1;obtain⟨v',w2,o',hr,hx,hf,ho,a,cc,rfl⟩:=(h.fr hf1 (by simp) (by simp)).step (P:=Tryz.prog) (ST:=32) Tryz.underlying32 hi hz rfl his hib hs (fun k hk=>hnw k hk) (by omega) (by omega) (Nat.le_trans hB hf1.size) ty;exact⟨a,_,cc,w2,o',hr,hx,(hf1.mono (by simp)).trans hf,ho.imp id (fun⟨g,h1,h2⟩=>⟨g,h1,Nat.le_trans hf1.size h2⟩)⟩
theorem uD{w:World}{v x:Value}{o ox:Option Nat}{n q B m:Nat}(h:Ex 47 128 w v o x ox n q (Fy fun _=>G6 m) B)(hm:m<256)(hB:B<=w.heap.size)(hn:n<=4900)(hq:q<=50)(ty:TypeId):
  ∃ a r cc w2 o',(Builtin.append_ #[26,26] ty #[x,.slice (some ⟨w.heap.size,0,none⟩) 1 1]).run Tryz.prog (w.alloc (.cells (IV .u8 [G6 m].flatten) 47))= .ok (.slice a r cc) w2/\Ex 47 128 w2 v o (.slice a r cc) o' n (q+1) (Fy fun _=>G6 m) B/\Fr ox.toList w w2/\(o'=ox\/∃ g,o'=some g/\w.heap.size<=g):=by
 obtain⟨inf,z,hi,hz,hzs,his,hib⟩:=Lr;have hf1:=Do w (.cells (IV .u8 [G6 m].flatten) 47) [];have hfl:[G6 m].flatten=G6 m:=by simp
 have hS:Hk (w.alloc (.cells (IV .u8 [G6 m].flatten) 47)) (.slice (some ⟨w.heap.size,0,none⟩) 1 1) 1 (fun _=>G6 m):=⟨_,_,rfl,fun _=>⟨w.heap.size,0,rfl,_,_,_,(A6 w _).1,by rw[hfl];simp[Fk],fun i hi=>⟨Fk m,S5 hm,by
  obtain rfl:i=0:=(by omega);rw[hfl];apply Array.ext_getElem?
  intro k;rw[Array.getElem?_extract];simp only[Nat.zero_add,Nat.zero_mul,Rb,Fk];split
  ·rfl
  ·rw[Bl,List.getElem?_eq_none (by rw[Fk];omega)];rfl⟩⟩⟩
 obtain⟨news,hs,hnw⟩:=hS.src;obtain⟨v',w2,o',hr,hx,hf,ho,a,cc,rfl⟩:=(h.fr hf1 (by simp) (by simp)).step (P:=Tryz.prog) (ST:=26) Tryz.underlying26 hi hz hzs his hib hs (fun k hk=>by
  have e:((n+q)*128+k)%128=k%128:=(by omega);rw[hnw k (by omega)];show some (Value.int .u8 (nth (G6 m) (k%128)))=some (Value.int .u8 (nth (G6 m) (((n+q)*128+k)%128)))
  rw[e]) (by omega) (by omega) (Nat.le_trans hB hf1.size) ty
 exact⟨a,_,cc,w2,o',hr,hx,(hf1.mono (by simp)).trans hf,ho.imp id (fun⟨g,h1,h2⟩=>⟨g,h1,Nat.le_trans hf1.size h2⟩)⟩
section
variable {OS:List Nat} {w0 w1 w w':World} {M L:Nat} {R:Nat->RP} {vl vn v:Value} {ol on og:Option Nat} {S X:Nat->Nat->Value} {y z:Nat->Value} {p r:Nat->Option Nat} {k:Nat}
theorem SpL.turnQ'(h:SpL OS w0 w M R vl ol S X){j:Nat}{f:Nat->Value}(hj:j<M*3)(hf:Fr (no R j).toList w w')(hr:Bx 3 1 w' (nv R j) (no R j) (nl R j) f)(he:f=X j):SpL OS w0 w' M R vl ol S X:=by
 have e:G7 X j f=X:=by
  funext i
  unfold G7;split
  ·rename_i hi;subst hi;exact he
  ·rfl
 cases hg:no R j with
 |none=>rw[hg]at hf;exact h.same hf
 |some g=>
  rw[hg]at hf;have:=h.turnQ hj hg hf hr;rw[e]at this;exact this
theorem SpL.turnS'(h:SpL OS w0 w M R vl ol S X){j:Nat}{f:Nat->Value}(hj:j<M)(hf:Fr (R j).o0.toList w w')(hr:Bx 47 128 w' (R j).v0 (R j).o0 (R j).N f)(he:f=S j):SpL OS w0 w' M R vl ol S X:=by
 have e:G7 S j f=S:=by
  funext i
  unfold G7;split
  ·rename_i hi;subst hi;exact he
  ·rfl
 cases hg:(R j).o0 with
 |none=>rw[hg]at hf;exact h.same hf
 |some g=>
  rw[hg]at hf;have:=h.turnS hj hg hf hr;rw[e]at this;exact this
structure SpG (OS:List Nat) (w0 w1 w:World) (M L:Nat) (R:Nat->RP) (vl vn:Value) (ol on:Option Nat) (k:Nat) (v:Value) (og:Option Nat) (y:Nat->Value) (p:Nat->Option Nat):Prop where
 sp:SpL OS w0 w M R vl ol Er Gt
 eL:L=M*3
 num:Bx 32 1 w vn on L (nv R)
 g:Bx 32 1 w v og k y
 go:∀ b,og=some b->w1.heap.size<=b
 gn:∀ b,on=some b->b<w1.heap.size
 gl:∀ b,ol=some b->b<w1.heap.size
 lo:∀ j,j<M*3->∀ b,no R j=some b->b<w1.heap.size
 gx:∀ j,j<k->∃ B,w1.heap.size<=B/\Ex 3 1 w (nv R j) (no R j) (y j) (p j) (nl R j) 9 (Gt j) B
 z:w1.heap.size<=w.heap.size
 z0:w0.heap.size<=w1.heap.size
theorem Kl:(32:TypeId)≠3:=by decide
theorem S6:(32:TypeId)≠47:=by decide
theorem tK:(32:TypeId)≠34:=by decide
theorem SpG.grown(h:SpG OS w0 w1 w M L R vl vn ol on k v og y p){B:Nat}{x:Value}{o:Option Nat}(hk:k<L)(hf:Fr (no R k).toList w w')(hx:Ex 3 1 w' (nv R k) (no R k) x o (nl R k) 9 (Gt k) B):
  SpL OS w0 w' M R vl ol Er Gt/\Bx 32 1 w' vn on L (nv R)/\Bx 32 1 w' v og k y/\∀ j,j<k->∃ B,w1.heap.size<=B/\Ex 3 1 w' (nv R j) (no R j) (y j) (p j) (nl R j) 9 (Gt j) B:=by
 have hk3:k<M*3:=by have:=h.eL;omega
 refine⟨h.sp.turnQ' hk3 hf hx.l rfl,h.num.fr hf (fun b hb hm=>h.num.ne (h.sp.q k hk3) Kl hb (by simpa using hm) rfl),h.g.fr hf (fun b hb hm=>h.g.ne (h.sp.q k hk3) Kl hb (by simpa using hm) rfl),fun j hj=>?_⟩;obtain⟨B',hB',hxj⟩:=h.gx j hj;refine⟨B',hB',hxj.fr hf (fun b hb hm=>h.sp.dq j k (by omega) hk3 (by omega) b hb (by simpa using hm)) (fun b hb hm=>?_)⟩;have hm':no R k=some b:=by simpa using hm
 rcases hxj.ob hb with q|q
 ·exact h.sp.dq j k (by omega) hk3 (by omega) b q hm'
 ·have:=h.lo k hk3 b hm';omega
theorem SpG.next(h:SpG OS w0 w1 w M L R vl vn ol on k v og y p){w2:World}{B:Nat}{x v':Value}{o og':Option Nat}(hk:k<L)(hf:Fr (no R k).toList w w')(hx:Ex 3 1 w' (nv R k) (no R k) x o (nl R k) 9 (Gt k) B)(hB:w1.heap.size<=B)
  (hg:Bx 32 1 w2 v' og' (k+1) (fun i=>if i<k then y i else x)) (hf2:Fr og.toList w' w2) (ho:og'=og\/∃ g,og'=some g/\w'.heap.size<=g):SpG OS w0 w1 w2 M L R vl vn ol on (k+1) v' og' (fun i=>if i<k then y i else x) (fun i=>if i<k then p i else o):=by
 obtain⟨g1,g2,g3,g4⟩:=h.grown hk hf hx;have hz':=Nat.le_trans h.z hf.size;have hgt:∀ b∈og.toList,w1.heap.size<=b/\og=some b:=fun b hb=>by
  have hb':og=some b:=(by simpa using hb);exact⟨h.go b hb',hb'⟩
 refine⟨g1.off hf2 (fun b hb=>Nat.le_trans h.z0 (hgt b hb).1) (fun b hb hm=>?_) (fun b hb i hi hm=>?_) (fun b hb j hj hm=>?_),h.eL,g2.fr hf2 (fun b hb hm=>?_),hg,fun b hb=>?_,h.gn,h.gl,h.lo,fun j hj=>?_,Nat.le_trans hz' hf2.size,h.z0⟩
 ·have:=h.gl b hm;have:=(hgt b hb).1;omega
 ·exact g3.ne (g1.s i hi) S6 (hgt b hb).2 hm rfl
 ·exact g3.ne (g1.q j hj) Kl (hgt b hb).2 hm rfl
 ·have:=h.gn b hb;have:=(hgt b hm).1;omega
 ·rcases ho with ho|⟨q,ho,hq⟩
  ·exact h.go b (ho.symm.trans hb)
  ·rw[hb]at ho;cases ho;omega
 ·by_cases hjk:j<k
  ·obtain⟨B',hB',hxj⟩:=g4 j hjk;refine⟨B',hB',?_⟩;rw[if_pos hjk,if_pos hjk];exact hxj.fr hf2 (fun b hb hm=>g3.ne hxj.l Kl (hgt b hm).2 hb rfl) (fun b hb hm=>g3.ne hxj.x Kl (hgt b hm).2 hb rfl)
  ·obtain rfl:j=k:=(by omega);refine⟨B,hB,?_⟩;rw[if_neg hjk,if_neg hjk];exact hx.fr hf2 (fun b hb hm=>g3.ne hx.l Kl (hgt b hm).2 hb rfl) (fun b hb hm=>g3.ne hx.x Kl (hgt b hm).2 hb rfl)
end
end Go.Proofs.YtmnecpnkkapflaaGreat
