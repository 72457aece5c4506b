import Derived.Test.YtmnecpnkkapflaaGreatM04
import Derived.Test.YtmnecpnkkapflaaGreatM05
import Derived.Test.YtmnecpnkkapflaaGreatM07
import Derived.Test.YtmnecpnkkapflaaGreatM09
import Derived.Test.YtmnecpnkkapflaaGreatM10
import Derived.Test.YtmnecpnkkapflaaGreatM12
namespace Go.Proofs.YtmnecpnkkapflaaGreat
set_option maxHeartbeats 16000000
set_option maxRecDepth 1000000
set_option linter.unusedSimpArgs false
set_option linter.unusedVariables false
open Go.RowKit
def wrD(W:Nat->List Int):List Int->DS->Int×DS
 |[],d=>(0,d)
 |n::r,d=>if (Bf n.toNat (W n.toNat) d).1=0 then wrD W r (Bf n.toNat (W n.toNat) d).2 else Bf n.toNat (W n.toNat) d
noncomputable def E5(N:Nat)(d:DS):Int×DS:=if d.off=true then(22,d)else if B6 N d.S≠0 then(B6 N d.S,d)else wrD (C3 N d.S) (Cc N d.S) d
def RP.Nil(R:RP):Prop:=R.N=0/\R.xs=[]/\R.ys=[]/\R.zs=[]
structure aL (N:Nat) (d:DS) (gd gs:Nat) (w:World) (e:Ending) (w':World) (R:RP):Prop where
 e:e= .returned (.tuple #[R.val,.int .i64 (E5 N d).1])
 r:Hl w' R
 y:(E5 N d).1=0->R.Look N d.S
 n:(E5 N d).1≠0->R.Nil
 k:DK w' gd gs N (E5 N d).2
 f:Fr [gd,gs] w w'
 o:∀ g∈R.os,w.heap.size<=g
theorem oK{W:Nat->List Int}{L:List Int}{k:Nat}(hk:k<L.length)(d:DS):wrD W (L.drop k) d=if (Bf (nth L k).toNat (W (nth L k).toNat) d).1=0 then wrD W (L.drop (k+1)) (Bf (nth L k).toNat (W (nth L k).toNat) d).2 else Bf (nth L k).toNat (W (nth L k).toNat) d:=by
 have e:L.drop k=nth L k::L.drop (k+1):=by
  rw[List.drop_eq_getElem_cons hk];unfold nth;rw[List.getElem?_eq_getElem hk];rfl
 rw[e];rfl
theorem rU{W:Nat->List Int}{L:List Int}(d:DS):wrD W (L.drop L.length) d=(0,d):=by
 rw[List.drop_length];rfl
theorem V9{n:Nat}{s:List Int}{d:DS}{c:Int}(h0:0<=d.cnt)(h1:d.cnt<=c)(h2:0<=d.left)(h3:d.left<=1000000000000):
  0<=(Bf n s d).2.cnt/\(Bf n s d).2.cnt<=c+1/\0<=(Bf n s d).2.left/\(Bf n s d).2.left<=1000000000000:=by
 unfold Bf;split
 ·exact⟨h0,by show d.cnt<=c+1;omega,h2,h3⟩
 ·split
  ·exact⟨h0,by show d.cnt<=c+1;omega,Int.le_refl _,by show(0:Int)<=_;omega⟩
  ·rename_i hn
   refine⟨by show 0<=d.cnt+1;omega,by show d.cnt+1<=c+1;omega,?_,?_⟩
   ·show 0<=(if d.armed=true then d.left-1 else d.left)
    split
    ·rename_i ha
     have:d.left≠0:=fun h=>hn ⟨ha,h⟩
     omega
    ·exact h2
   ·show(if d.armed=true then d.left-1 else d.left)<=_
    split<;>omega
theorem cY(n:Nat)(s:List Int)(d:DS):(Bf n s d).1=0\/(Bf n s d).1=22:=by
 unfold Bf;split
 ·exact .inr rfl
 ·split
  ·exact .inr rfl
  ·exact .inl rfl
theorem Yz{N:Nat}{S:Nat->List Int}{k:Nat}(hk:k<(Cc N S).length):∃ j:Nat,nth (Cc N S) k=j/\j<N:=by
 have hm:nth (Cc N S) k∈Cc N S:=by
  unfold nth;rw[List.getElem?_eq_getElem hk];exact List.getElem_mem hk
 unfold Cc at hm;split at hm
 ·obtain⟨j,hj⟩:=K1 hm;rw[hj]at hm;exact⟨j,by unfold Cc;rw[if_pos (by assumption)];exact hj,(Kk.1 hm).1⟩
 ·cases hm
def Y8:RP:=⟨.slice none 0 0,.slice none 0 0,.slice none 0 0,.slice none 0 0,none,none,none,none,0,fun _=>[],[],[],[]⟩
theorem S8(w:World):Hl w Y8:=⟨Fs.none' _ _,.inl ⟨rfl,rfl,rfl⟩,.inl ⟨rfl,rfl,rfl⟩,.inl ⟨rfl,rfl,rfl⟩,fun g h=>(by cases h),fun g h=>(by cases h),fun g h=>(by cases h),Nat.zero_le _,Nat.zero_le _,Nat.zero_le _,Nat.zero_le _⟩
theorem S7:Y8.Nil:=⟨rfl,rfl,rfl,rfl⟩
theorem W3:∀ g∈Y8.os,False:=fun g h=>by simp[RP.os,Y8]at h
theorem Rk{w:World}{gd gs N:Nat}{d:DS}(h:DK w gd gs N d)(hk:DOk d)(hc:d.cnt<=900000000000)(hN:N<=4096):Calls Tryz.prog 14 #[.pointer (some ⟨gd,0,none⟩)] w fun e w'=>∃ R,aL N d gd gs w e w' R:=by
 have H:=zA h;have HK:=zA hk;clear h hk;have hz:hat (w.alloc (.cells Bd 34)) w.heap.size=some (.cells Bd 34):=(A6 w _).1;have hf0:=Do w (.cells Bd 34) [];have HF0:=zA hf0;have H0:=zA (H.out.fr hf0 (by simp) (by simp));have hnd:w.heap.size≠gd/\w.heap.size≠gs:=⟨fun e=>by have:=Aa H.out.hd;omega,fun e=>by have:=H.out.hs.lt;omega⟩;clear hf0;unfold Bd at hz HF0 H0;go_enter Tryz.func14,Tryz.ntmps14;go_wp2_with fail;generalize w.alloc (.cells #[.slice none 0 0,.slice none 0 0,.slice none 0 0,.slice none 0 0] 34)=w0 at*;have hgz:Hid (w.heap.size<=w.heap.size):=zA (Nat.le_refl _);obtain⟨gR,hgR⟩:∃ gR,gR=w.heap.size:=⟨_,rfl⟩;rw[<-hgR]at hz hnd ⊢;have HGR:=zA hgR;clear hgR hgz;have hzl:=Aa hz;refine(kO H0.out).mono ?_;rintro e w1 ⟨rfl,rfl⟩;cases ho:d.off with
 |true=>
  have HW:Hid (E5 N d=(22,d)):=zA (by unfold E5;rw[if_pos ho]);have HFp:=zA (Dc hz (.slice none 0 0) (.slice none 0 0) (.slice none 0 0) (.slice none 0 0));go_wp2_with fail;refine Aw Fe rfl (cs:=Bd) rfl HFp.out rfl rfl ⟨Y8,⟨by rw[HW.out];rfl,S8 _,fun h=>absurd h (by rw[HW.out];show ¬ ((22:Int)=0);decide),fun _=>S7,?_,?_,fun g hg=>(W3 g hg).elim⟩⟩
  ·rw[HW.out];exact H0.out.fr (Cl w1 gR _ _ _ _) (by simpa using hnd.1.symm) (by simpa using hnd.2.symm)
  ·exact((HF0.out.mono (ex':=[gR]) (by simp)).trans (Cl w1 gR _ _ _ _)).past (fun k hk=>by simp at hk;subst hk;exact .inr (by rw[HGR.out];exact Nat.le_refl _))
 |false=>
  go_wp2_with fail;refine(J1 H0.out hN).mono ?_;rintro e w2 ⟨gi,rfl,hws,hb2,hgi⟩;have HF2:=zA (HF0.out.trans (Af hb2 []));have hz2:=(hop hb2 hz).1;have HW2:=zA hws;have H2:=zA (H0.out.fr (Af hb2 []) (by simp) (by simp));clear hws hb2 hz hzl;have hzl:=Aa hz2;go_wp2_with fail;refine(lX (F6 HW2.out)).mono ?_;rintro e w3 ⟨hb3,R,rfl,hR,hRL,hRo⟩;have HF3:=zA (HF2.out.trans (Af hb3 []));have hz3:=(hop hb3 hz2).1;have H3:=zA (H2.out.fr (Af hb3 []) (by simp) (by simp));have HRO:=zA (show ∀ g∈R.os,gR<g from fun g hg=>by have h1:=Aa hz2;have h2:=hRo g hg;omega);obtain⟨v0,v1,v2,v3,o0,o1,o2,o3,RN,RS,xs,ys,zs⟩:=R;obtain⟨a0,c0,e0⟩:=hR.r0.g.slice;obtain⟨a1,c1,e1⟩:=hR.r1.slice;obtain⟨a2,c2,e2⟩:=hR.r2.slice;obtain⟨a3,c3,e3⟩:=hR.r3.slice;simp only at e0 e1 e2 e3;subst e0 e1 e2 e3;unfold RP.val;simp only;have HR:=zA hR;have HRL:=zA hRL;clear hb3 hR hRL hRo hz2 hzl;have hzl:=Aa hz3;by_cases he:B6 N d.S=0
  ·rw[he];have HW:Hid (E5 N d=wrD (C3 N d.S) (Cc N d.S) d):=zA (by unfold E5;rw[if_neg (by rw[ho];decide),if_neg (fun h=>h he)]);have hfA:=Do w3 (.cells #[.slice a0 RN c0,.slice a1 xs.length c1,.slice a2 ys.length c2,.slice a3 zs.length c3] 34) [];have hgA:=(A6 w3 (.cells #[.slice a0 RN c0,.slice a1 xs.length c1,.slice a2 ys.length c2,.slice a3 zs.length c3] 34)).1;have HF4:=zA (HF3.out.trans hfA);have H4:=zA (H3.out.fr hfA (by simp) (by simp));have hz4:=(hfA.block _ hzl (by simp)).trans hz3;have HR4:=zA (HR.out.fr hfA (by simp));have hRA:gR≠w3.heap.size:=(by omega);have HOA:Hid (∀ g∈(⟨.slice a0 RN c0,.slice a1 xs.length c1,.slice a2 ys.length c2,.slice a3 zs.length c3,o0,o1,o2,o3,RN,RS,xs,ys,zs⟩:RP).os,g≠w3.heap.size):=zA (fun g hg e=>by have:=HR.out.lt g hg;omega);have HGA:Hid (w.heap.size<=w3.heap.size):=zA HF3.out.size;clear hfA hz3 hzl H3 H2 HF2 HF3 HR;have HDN:Hid (gd≠w3.heap.size/\gs≠w3.heap.size):=zA ⟨fun e=>by have:=Aa H4.out.hd;have:=Aa hgA;have:=HF4.out.size;have h5:=Aa H.out.hd;have:=HGA.out;omega,fun e=>by have h5:=H.out.hs.lt;have:=HGA.out;omega⟩;go_upto_region 6 with fail;have hxe:xs=Cc N d.S:=HRL.out.x;have hsl:=Aa hgA;obtain⟨hRN,hRS⟩:RN=N/\RS=C3 N d.S:=⟨HRL.out.n.trans (by unfold On;rw[if_pos he]),HRL.out.s⟩;generalize w3.alloc (.cells #[.slice a0 RN c0,.slice a1 xs.length c1,.slice a2 ys.length c2,.slice a3 zs.length c3] 34)=w4 at*;generalize w3.heap.size=gr at*;have HXE:=zA hxe;have HRS:=zA hRS;have HHE:=zA he;clear hxe hRS he;subst hRN;go_wp2_with fail;go_loopw [28] (fun v wr=>∃ k:Nat,v= .int .i64 k/\k<=xs.length/\∃ dk:DS,Hid (DK wr gd gs RN dk)/\Hid (0<=dk.cnt/\dk.cnt<=d.cnt+k/\0<=dk.left/\dk.left<=1000000000000)/\Hid (wrD RS xs d=wrD RS (xs.drop k) dk)/\Hid (Fr [gd,gs] w4 wr)) (fun v wr=>xs.length-(intOf v).toNat)
   case atStart=>exact⟨0,rfl,Nat.zero_le _,d,H4,zA (by obtain⟨q1,q2,q3,q4⟩:=HK.out;exact⟨q1,by omega,q3,q4⟩),zA rfl,zA (Fr.refl _ _)⟩
   case round=>
    obtain⟨k,rfl,hk,dk,HD,HN,HE,HF⟩:=hrel;have hg:=(HF.out.block gr (Aa hgA) (by simp;exact⟨HDN.out.1.symm,HDN.out.2.symm⟩)).trans hgA;have hz5:=(HF.out.block gR (Aa hz4) (by simpa using hnd)).trans hz4;have hgl:=Aa hg;have hzl:=Aa hz5;by_cases hkN:k<xs.length
    ·have hk0:(0:Int)<=(k:Int):=Int.natCast_nonneg _;have hk1:(k:Int)<(xs.length:Int):=(by omega);have HRr:=zA (HR4.out.fr HF.out (fun g hg=>by
      have h1:=HRO.out g hg;have h2:=Aa H.out.hd;have h3:=H.out.hs.lt;have h4:=HGR.out;simp only[List.mem_cons,List.not_mem_nil,or_false,not_or];omega))
     obtain⟨j,hj,hjN⟩:∃ j:Nat,nth xs k=j/\j<RN:=(by rw[HXE.out];exact Yz (by rw[<-HXE.out];exact hkN));obtain⟨gq,offq,cq,csq,eq,-,hcq,hxq⟩:=HRr.out.r1.cell (k:=k) hkN;injection eq with e1 e2 e3
     subst e1 e3;rw[hj]at hxq;obtain⟨aW,cW,eW,hW⟩:=HRr.out.r0.img;obtain⟨gW,oW,eaW,hSW⟩:=hW (by show 0<RN;omega);injection eW with f1 f2 f3
     subst f1 f3 eaW;obtain⟨csW,tW,frW,hcW,hlW⟩:=hSW.load hjN;have hlen:=HRr.out.r0.len j hjN;have hj0:(0:Int)<=(j:Int):=Int.natCast_nonneg _;have hj1:(j:Int)<(RN:Int):=(by omega);have HLEN:=zA hlen;obtain⟨n1,n2,n3,n4⟩:=HN.out;have hkk:xs.length<=4900:=HRr.out.n1;have hwr:=jV HD.out ⟨n1,by omega,n3,n4⟩ hjN hN HLEN.out.1 HLEN.out.2;have HWR:=zA hwr;have HJ:=zA hj;have HSTEP:=zA (oK (W:=RS) hkN dk);have HOK:=zA (V9 (n:=j) (s:=RS j) n1 n2 n3 n4);have HTWO:=zA (cY j (RS j) dk);clear hwr hj hSW hlen hW n1 n2 n3 n4;simp only at hlW;generalize hww:Bf j (RS j) dk=ww at*;obtain⟨cc,dq⟩:=ww;go_wp2_with fail;refine HWR.out.mono ?_;rintro e w6 ⟨rfl,hdk6,hf6⟩;have HD6:=zA hdk6;have HF6:=zA (HF.out.trans hf6);have hg6:=(hf6.block gr hgl (by simp;exact⟨HDN.out.1.symm,HDN.out.2.symm⟩)).trans hg;have hz6:=(hf6.block gR hzl (by simpa using hnd)).trans hz5;clear hdk6 hf6 hcW hcq hxq hlW hg hz5 hgl hzl;have hgl:=Aa hg6;have hzl:=Aa hz6;go_wp2_with fail;refine(gE cc 0 _).mono ?_;rintro e w7 ⟨rfl,rfl⟩;cases hc0:(cc==0)with
     |true=>
      go_wp2_with fail;go_roundw
      case rel=>
       have hc1:cc=0:=(by simpa using hc0);refine⟨k+1,by go_num,by omega,dq,HD6,zA (by have:=HOK.out;omega),zA ?_,HF6⟩;rw[HE.out,HSTEP.out,HJ.out];show(if (Bf j (RS j) dk).1=0 then _ else _)=_
       rw[hww,if_pos hc1];show wrD RS (xs.drop (k+1)) (Bf j (RS j) dk).2=_
       rw[hww]
      case measure=>(show xs.length-(k+1)<xs.length-k);omega
     |false=>
      have hc1:¬ cc=0:=(by simpa using hc0);have HFp:=zA (Dc hz6 (.slice none 0 0) (.slice none 0 0) (.slice none 0 0) (.slice none 0 0));have hfp:=Cl w7 gR (.slice none 0 0) (.slice none 0 0) (.slice none 0 0) (.slice none 0 0);have HFq:=zA ((((HF4.out.mono (ex':=[gR,gd,gs]) (by simp)).trans (HF6.out.mono (by simp))).trans (hfp.mono (by simp))).past (ex':=[gd,gs]) (fun k hk=>by
       simp at hk ⊢;rcases hk with rfl|rfl|rfl
       ·exact .inr (by rw[HGR.out];exact Nat.le_refl _)
       ·exact .inl (.inl rfl)
       ·exact .inl (.inr rfl)))
      have HDq:=zA (HD6.out.fr hfp (by simpa using hnd.1.symm) (by simpa using hnd.2.symm))
      have HEND:Hid (E5 RN d=(cc,dq)):=zA (by
       rw[HW.out, <-HRS.out, <-HXE.out,HE.out,HSTEP.out,HJ.out];show(if (Bf j (RS j) dk).1=0 then _ else _)=_
       rw[hww,if_neg hc1];exact hww)
      clear hfp;go_wp2_with fail;exact Aw Fe rfl (cs:=Bd) rfl HFp.out rfl rfl ⟨Y8,⟨by rw[HEND.out];rfl,S8 _,fun h=>absurd h (by rw[HEND.out];exact hc1),fun _=>S7,by rw[HEND.out];exact HDq.out,HFq.out,fun g hg=>(W3 g hg).elim⟩⟩
    ·have hkk:k=xs.length:=(by omega);clear hk hkN;subst hkk;have HFp:=zA (Dc hz5 (.slice a0 RN c0) (.slice a1 xs.length c1) (.slice a2 ys.length c2) (.slice a3 zs.length c3));have hfp:=Cl wr gR (.slice a0 RN c0) (.slice a1 xs.length c1) (.slice a2 ys.length c2) (.slice a3 zs.length c3);have HRr:=zA ((HR4.out.fr HF.out (fun g hg=>by
      have h1:=HRO.out g hg;have h2:=Aa H.out.hd;have h3:=H.out.hs.lt;have h4:=HGR.out;simp only[List.mem_cons,List.not_mem_nil,or_false,not_or];omega)).fr hfp (fun g hg hm=>by
      have h1:=HRO.out g hg;simp at hm;omega))
     have HFq:=zA ((((HF4.out.mono (ex':=[gR,gd,gs]) (by simp)).trans (HF.out.mono (by simp))).trans (hfp.mono (by simp))).past (ex':=[gd,gs]) (fun k hk=>by
      simp at hk ⊢;rcases hk with rfl|rfl|rfl
      ·exact .inr (by rw[HGR.out];exact Nat.le_refl _)
      ·exact .inl (.inl rfl)
      ·exact .inl (.inr rfl)))
     have HDq:=zA (HD.out.fr hfp (by simpa using hnd.1.symm) (by simpa using hnd.2.symm));clear hfp;go_wp2_with fail;have hend:=HE.out;rw[rU,HRS.out,HXE.out, <-HW.out]at hend;refine Aw Fe rfl (cs:= #[.slice a0 RN c0,.slice a1 xs.length c1,.slice a2 ys.length c2,.slice a3 zs.length c3]) rfl HFp.out rfl rfl ⟨_,⟨?_,HRr.out,fun _=>HRL.out,fun h=>absurd (by rw[hend]) h,by rw[hend];exact HDq.out,HFq.out,fun g hg=>by have h1:=HRO.out g hg;have h2:=HGR.out;omega⟩⟩;rw[hend];rfl
  ·have he1:(B6 N d.S==0)=false:=(by simp[he]);have HW:Hid (E5 N d=(B6 N d.S,d)):=zA (by unfold E5;rw[if_neg (by rw[ho];decide),if_pos he]);generalize B6 N d.S=E at*;have HFp:=zA (B7 _ (.cells #[.slice a0 RN c0,.slice a1 xs.length c1,.slice a2 ys.length c2,.slice a3 zs.length c3] 34) (Dc hz3 (.slice none 0 0) (.slice none 0 0) (.slice none 0 0) (.slice none 0 0))).1;have hfp:=Cl w3 gR (.slice none 0 0) (.slice none 0 0) (.slice none 0 0) (.slice none 0 0);have hfq:=Do (Q4 w3 gR (.slice none 0 0) (.slice none 0 0) (.slice none 0 0) (.slice none 0 0)) (.cells #[.slice a0 RN c0,.slice a1 xs.length c1,.slice a2 ys.length c2,.slice a3 zs.length c3] 34) [];have HFq:=zA ((((HF3.out.mono (ex':=[gR]) (by simp)).trans hfp).trans (hfq.mono (by simp))).past (ex':=[gd,gs]) (fun k hk=>by simp at hk;subst hk;exact .inr (by rw[HGR.out];exact Nat.le_refl _)));have HDq:=zA ((H3.out.fr hfp (by simpa using hnd.1.symm) (by simpa using hnd.2.symm)).fr hfq (by simp) (by simp));clear hfp hfq;go_wp2_with fail;exact Aw Fe rfl (cs:=Bd) rfl HFp.out rfl rfl ⟨Y8,⟨by rw[HW.out];rfl,S8 _,fun h=>absurd h (by rw[HW.out];exact he),fun _=>S7,by rw[HW.out];exact HDq.out,HFq.out,fun g hg=>(W3 g hg).elim⟩⟩
structure A3 where
 (g gi oi N ci gw cw gc cc gt ct gn cn ge ce M:Nat)
 (X Y:Int)
 A:Nat->List Int
def A3.bs(E:A3):List Nat:=[E.g,E.gi,E.gw,E.gc,E.gt,E.gn,E.ge]
structure ROk (E:A3):Prop where
 X:E.X=E.N
 N8:8<=E.N
 N:E.N<=4096
 Y1:1<=E.Y
 YN:E.Y<E.N
 M:(E.M:Int)=E.Y+1
 nd:E.bs.Nodup
structure RG (E:A3) (w:World) (o:Option Nat) (l:List Int) (S:Nat->List Int) (cl tk:Int->Bool) (I:Nat->List Int) (en:Nat->Int):Prop where
 l:∃ v,hat w E.g=some (.cells #[.int .i64 E.X,.int .i64 E.Y,.slice (some ⟨E.gi,E.oi,none⟩) E.N E.ci,.slice (some ⟨E.gw,0,none⟩) E.N E.cw,.slice (some ⟨E.gc,0,none⟩) E.N E.cc,.slice (some ⟨E.gt,0,none⟩) E.M E.ct,.slice (some ⟨E.gn,0,none⟩) E.M E.cn,.slice (some ⟨E.ge,0,none⟩) E.M E.ce,v] 129)/\Bg w v o l
 i:G9 w E.gi E.oi E.N E.A
 s:B8 w E.gw E.N 0 S
 c:Et w E.gc E.N cl
 t:Et w E.gt E.M tk
 n:Lf w E.gn E.M I
 e:Nh w E.ge E.M en
 no:∀ q,o=some q->q∉E.bs
theorem B8.lt2{w:World}{g N c:Nat}{S:Nat->List Int}(h:B8 w g N c S):g<w.heap.size:=by
 obtain⟨cs,h1,-⟩:=h;exact Aa h1
section
variable {E:A3} {w w':World} {o:Option Nat} {l:List Int} {S:Nat->List Int} {cl tk:Int->Bool} {I:Nat->List Int} {en:Nat->Int}
theorem RG.fr{ex:List Nat}(h:RG E w o l S cl tk I en)(hf:Fr ex w w')(hx:∀ b∈E.bs,b∉ex)(ho:∀ q,o=some q->q∉ex):RG E w' o l S cl tk I en:=by
 obtain⟨v,h1,h2⟩:=h.l;have k:∀ b∈E.bs,b<w.heap.size->hat w' b=hat w b:=fun b hb hl=>hf.block b hl (hx b hb)
 refine⟨⟨v,(k _ (by simp[A3.bs]) (Aa h1)).trans h1,h2.fr hf ho⟩,h.i.same (k _ (by simp[A3.bs]) h.i.lt),h.s.same (k _ (by simp[A3.bs]) h.s.lt2),h.c.same (k _ (by simp[A3.bs]) h.c.lt),h.t.same (k _ (by simp[A3.bs]) h.t.lt),h.n.same (k _ (by simp[A3.bs]) h.n.lt),h.e.same (k _ (by simp[A3.bs]) h.e.lt),h.no⟩
theorem RG.below(h:RG E w o l S cl tk I en)(hb:Below w.heap.size w w'):RG E w' o l S cl tk I en:=h.fr (Af hb []) (fun _ _=>by simp) (fun _ _=>by simp)
theorem RG.lts(h:RG E w o l S cl tk I en):∀ b∈E.bs,b<w.heap.size:=by
 obtain⟨v,h1,h2⟩:=h.l;intro b hb;simp only[A3.bs,List.mem_cons,List.not_mem_nil,or_false]at hb;rcases hb with rfl|rfl|rfl|rfl|rfl|rfl|rfl
 ·exact Aa h1
 ·exact h.i.lt
 ·exact h.s.lt2
 ·exact h.c.lt
 ·exact h.t.lt
 ·exact h.n.lt
 ·exact h.e.lt
theorem RG.lto(h:RG E w o l S cl tk I en):∀ q,o=some q->q<w.heap.size:=by
 obtain⟨v,-,h2⟩:=h.l;exact h2.lt
theorem RG.turn{b:Nat}(h:RG E w o l S cl tk I en)(hE:ROk E)(hf:Fr [b] w w')(hb:b∈E.bs):(∀ q,o=some q->q≠b)/\∀ c∈E.bs,c≠b->hat w' c=hat w c:=
 ⟨fun q hq e=>h.no q hq (by rw[e];exact hb),fun c hc hn=>hf.block c (h.lts c hc) (by simpa using hn)⟩
end
theorem ROk.ne{E:A3}(h:ROk E):(E.g≠E.gi/\E.g≠E.gw/\E.g≠E.gc/\E.g≠E.gt/\E.g≠E.gn/\E.g≠E.ge)/\(E.gi≠E.gw/\E.gi≠E.gc/\E.gi≠E.gt/\E.gi≠E.gn/\E.gi≠E.ge)/\(E.gw≠E.gc/\E.gw≠E.gt/\E.gw≠E.gn/\E.gw≠E.ge)/\(E.gc≠E.gt/\E.gc≠E.gn/\E.gc≠E.ge)/\(E.gt≠E.gn/\E.gt≠E.ge)/\E.gn≠E.ge:=by
 have:=h.nd;unfold A3.bs at this;simp at this;grind
theorem Et.set{w:World}{g N:Nat}{s:Int->Bool}(h:Et w g N s){p:Nat}(hp:p<N)(b:Bool):Et (w.setCell ⟨g,p,none⟩ (.bool b)) g N (fun q=>if q=(p:Int)then b else s q):=by
 obtain⟨cs,h1,h2,h3⟩:=h;refine⟨cs.setIfInBounds p (.bool b),Ah _ _ _ _ _ _ _ h1,by simpa using h2,fun j hj=>?_⟩;rw[Array.getElem?_setIfInBounds];by_cases hjp:p=j
 ·subst hjp;rw[if_pos rfl,if_pos (by omega)];simp
 ·have:¬ ((j:Int)=(p:Int)):=(by omega);rw[if_neg hjp,h3 j hj];simp[this]
theorem oZ(s:Int->Bool)(p:Int):(fun q=>if q=p then true else s q)=A8 s p:=by
 funext q
 unfold A8;by_cases h:q=p<;>simp[h]
theorem pP(s:Int->Bool)(p:Int):(fun q=>if q=p then false else s q)=Q2 s p:=by
 funext q
 unfold Q2;by_cases h:q=p<;>simp[h]
section
variable {E:A3} {w:World} {o:Option Nat} {l:List Int} {S:Nat->List Int} {cl tk:Int->Bool} {I:Nat->List Int} {en:Nat->Int}
theorem RG.claim(hE:ROk E)(h:RG E w o l S cl tk I en){p:Nat}(hp:p<E.N)(b:Bool):RG E (w.setCell ⟨E.gc,p,none⟩ (.bool b)) o l S (fun q=>if q=(p:Int)then b else cl q) tk I en:=by
 obtain⟨n0,n1,n2,n3,n4,n5⟩:=hE.ne;have hf:=Ai w E.gc p (.bool b);obtain⟨t1,t2⟩:=h.turn hE hf (by simp[A3.bs]);obtain⟨v,h1,h2⟩:=h.l;refine⟨⟨v,(t2 _ (by simp[A3.bs]) n0.2.2.1).trans h1,h2.fr hf (fun q hq=>by simpa using t1 q hq)⟩,h.i.same (t2 _ (by simp[A3.bs]) n1.2.1),h.s.same (t2 _ (by simp[A3.bs]) n2.1),h.c.set hp b,h.t.same (t2 _ (by simp[A3.bs]) n3.1.symm),h.n.same (t2 _ (by simp[A3.bs]) n3.2.1.symm),h.e.same (t2 _ (by simp[A3.bs]) n3.2.2.symm),h.no⟩
theorem RG.take(hE:ROk E)(h:RG E w o l S cl tk I en){p:Nat}(hp:p<E.M)(b:Bool):RG E (w.setCell ⟨E.gt,p,none⟩ (.bool b)) o l S cl (fun q=>if q=(p:Int)then b else tk q) I en:=by
 obtain⟨n0,n1,n2,n3,n4,n5⟩:=hE.ne;have hf:=Ai w E.gt p (.bool b);obtain⟨t1,t2⟩:=h.turn hE hf (by simp[A3.bs]);obtain⟨v,h1,h2⟩:=h.l;refine⟨⟨v,(t2 _ (by simp[A3.bs]) n0.2.2.2.1).trans h1,h2.fr hf (fun q hq=>by simpa using t1 q hq)⟩,h.i.same (t2 _ (by simp[A3.bs]) n1.2.2.1),h.s.same (t2 _ (by simp[A3.bs]) n2.2.1),h.c.same (t2 _ (by simp[A3.bs]) n3.1),h.t.set hp b,h.n.same (t2 _ (by simp[A3.bs]) n4.1.symm),h.e.same (t2 _ (by simp[A3.bs]) n4.2.symm),h.no⟩
theorem RG.count(hE:ROk E)(h:RG E w o l S cl tk I en){p:Nat}(hp:p<E.M)(x:Int):RG E (w.setCell ⟨E.ge,p,none⟩ (.int .i64 x)) o l S cl tk I (fun j=>if p=j then x else en j):=by
 obtain⟨n0,n1,n2,n3,n4,n5⟩:=hE.ne;have hf:=Ai w E.ge p (.int .i64 x);obtain⟨t1,t2⟩:=h.turn hE hf (by simp[A3.bs]);obtain⟨v,h1,h2⟩:=h.l;exact⟨⟨v,(t2 _ (by simp[A3.bs]) n0.2.2.2.2.2).trans h1,h2.fr hf (fun q hq=>by simpa using t1 q hq)⟩,h.i.same (t2 _ (by simp[A3.bs]) n1.2.2.2.2),h.s.same (t2 _ (by simp[A3.bs]) n2.2.2.2),h.c.same (t2 _ (by simp[A3.bs]) n3.2.2),h.t.same (t2 _ (by simp[A3.bs]) n4.2),h.n.same (t2 _ (by simp[A3.bs]) n5),h.e.put hp (fun j=>rfl),h.no⟩
theorem RG.store(hE:ROk E)(h:RG E w o l S cl tk I en){cs:Array Value}(hcs:hat w E.gw=some (.cells cs 47)){i:Nat}(hi:i<E.N){s:List Int}(hl:s.length=128)(hb:A4 s):RG E (w.setRow E.gw (Ap cs (i*128) (IV .u8 s))) o l (Ay S i s) cl tk I en:=by
 obtain⟨n0,n1,n2,n3,n4,n5⟩:=hE.ne;have hf:=Da w E.gw (Ap cs (i*128) (IV .u8 s));obtain⟨t1,t2⟩:=h.turn hE hf (by simp[A3.bs]);obtain⟨v,h1,h2⟩:=h.l;exact⟨⟨v,(t2 _ (by simp[A3.bs]) n0.2.1).trans h1,h2.fr hf (fun q hq=>by simpa using t1 q hq)⟩,h.i.same (t2 _ (by simp[A3.bs]) n1.1),h.s.store hcs hi hl hb,h.c.same (t2 _ (by simp[A3.bs]) n2.1.symm),h.t.same (t2 _ (by simp[A3.bs]) n2.2.1.symm),h.n.same (t2 _ (by simp[A3.bs]) n2.2.2.1.symm),h.e.same (t2 _ (by simp[A3.bs]) n2.2.2.2.symm),h.no⟩
theorem RG.ino(hE:ROk E)(h:RG E w o l S cl tk I en){cs:Array Value}(hcs:hat w E.gn=some (.cells cs 78)){i:Nat}(hi:i<E.M){raw:List Int}(hl:raw.length=18):RG E (w.setRow E.gn (Ap cs (i*18) (IV .i64 raw))) o l S cl tk (fun j=>if j=i then raw else I j) en:=by
 obtain⟨n0,n1,n2,n3,n4,n5⟩:=hE.ne;have hf:=Da w E.gn (Ap cs (i*18) (IV .i64 raw));obtain⟨t1,t2⟩:=h.turn hE hf (by simp[A3.bs]);obtain⟨v,h1,h2⟩:=h.l;refine⟨⟨v,(t2 _ (by simp[A3.bs]) n0.2.2.2.2.1).trans h1,h2.fr hf (fun q hq=>by simpa using t1 q hq)⟩,h.i.same (t2 _ (by simp[A3.bs]) n1.2.2.2.1),h.s.same (t2 _ (by simp[A3.bs]) n2.2.2.1),h.c.same (t2 _ (by simp[A3.bs]) n3.2.1),h.t.same (t2 _ (by simp[A3.bs]) n4.1),?_,h.e.same (t2 _ (by simp[A3.bs]) n5.symm),h.no⟩;obtain⟨cs',k1,k2,k3⟩:=h.n;rw[hcs]at k1;obtain rfl:cs=cs':=by
  have:=Option.some.inj k1;injection this
 exact Lf.put hcs k2 k3 hi hl (fun j _=>rfl)
end
@[go_sem] theorem uI (raw:Result Value) (w:World) (a b c d e f g h i:Value) (t:TypeId) (fr:Nat×Nat):Ea raw 2 0 w (some (.cells #[a,b,c,d,e,f,g,h,i] t fr))= .ok (.agg #[a,b]) w:=by
 rw[Dp (by simp)];rfl
section
variable {E:A3} {o:Option Nat} {l:List Int} {tk:Int->Bool} {I:Nat->List Int} {en:Nat->Int}
theorem J8(hE:ROk E)(p:Int)(st:LS)(w:World)(h:RG E w o l st.S st.cl tk I en):
  Calls Tryz.prog 96 #[.pointer (some ⟨E.g,0,none⟩),.int .i64 p] w fun e w'=>
   e= .returned (.bool (Au E.X E.Y p st).1)/\RG E w' o l (Au E.X E.Y p st).2.S (Au E.X E.Y p st).2.cl tk I en/\Fr [E.gc] w w':=by
 have HS:=zA h;obtain⟨v,hs,-⟩:=h.l;clear h;have hz:=Aa hs;cases hd:isD E.X E.Y p with
 |false=>
  have HA:Hid (Au E.X E.Y p st=(false,st)):=zA (by unfold Au;rw[if_neg (by rw[hd];simp)]);go_enter Tryz.func96,Tryz.ntmps96;go_wp2_with fail;refine(L4 E.X E.Y p _).mono ?_;rintro e w1 ⟨rfl,hb⟩;rw[hd];have HF:=zA (Af hb [E.gc]);have HS1:=zA (HS.out.below hb);clear hb;go_wp2_with fail;go_ret;exact⟨by rw[HA.out];rfl,by rw[HA.out];exact HS1.out,HF.out⟩
 |true=>
  have hr:0<=p/\p<E.N:=by
   unfold isD at hd;have:=of_decide_eq_true hd;have:=hE.Y1;have:=hE.X;omega
  obtain⟨pn,rfl⟩:=Int.eq_ofNat_of_zero_le hr.1;have hpN:pn<E.N:=(by omega);have hpi:(pn:Int)<(E.N:Int):=hr.2;have hsb:=HS.out.c;obtain⟨cs,hcs,hsz,hall⟩:=hsb;have hcell:=hall pn hpN;clear hall hr;cases hv:st.cl pn with
  |true=>
   rw[hv]at hcell;have HA:Hid (Au E.X E.Y pn st=(false,st)):=zA (by unfold Au;rw[if_neg (by rw[hv];simp)]);go_enter Tryz.func96,Tryz.ntmps96;go_wp2_with fail;refine(L4 E.X E.Y pn _).mono ?_;rintro e w1 ⟨rfl,hb⟩;rw[hd];have HF:=zA (Af hb [E.gc]);have HS1:=zA (HS.out.below hb);have hs1:=(hop hb hs).1;have hcs1:=(hop hb hcs).1;clear hb;go_wp2_with fail;go_ret;exact⟨by rw[HA.out];rfl,by rw[HA.out];exact HS1.out,HF.out⟩
  |false=>
   rw[hv]at hcell;have HA:Hid (Au E.X E.Y pn st=(true,{st with cl:=A8 st.cl pn})):=zA (by unfold Au;rw[if_pos ⟨hd,hv⟩]);go_enter Tryz.func96,Tryz.ntmps96;go_wp2_with fail;refine(L4 E.X E.Y pn _).mono ?_;rintro e w1 ⟨rfl,hb⟩;rw[hd];have hf1:=Af hb [];have HS1:=zA (HS.out.below hb);have hs1:=(hop hb hs).1;have hcs1:=(hop hb hcs).1;have HS2:=zA (HS1.out.claim hE hpN true);rw[oZ]at HS2;have HF:=zA ((hf1.mono (ex':=[E.gc]) (by simp)).trans (Ai w1 E.gc pn (.bool true)));clear hb hf1;go_wp2_with fail;go_ret;exact⟨by rw[HA.out];rfl,by rw[HA.out];exact HS2.out,HF.out⟩
end
section
variable {E:A3} {o:Option Nat} {l:List Int} {tk:Int->Bool} {I:Nat->List Int} {en:Nat->Int}
theorem Tq(hE:ROk E)(at':Nat)(ha:at'<E.N)(ps:List Int){S:Nat->List Int}{cl:Int->Bool}(w:World)(h:RG E w o l S cl tk I en):
  Calls Tryz.prog 98 #[.pointer (some ⟨E.g,0,none⟩),.int .i64 at',.agg (IV .i64 ps),.bool false] w fun e w'=>
   e= .returned (.bool false)/\RG E w' o l S (Q2 cl at') tk I en/\Fr [E.gc] w w':=by
 have hB1:Below w.heap.size w (w.alloc (.cells (IV .i64 ps) 119)):=(Below.refl _ _).alloc (Nat.le_refl _) _;have h1:=h.below hB1;have hi0:(0:Int)<=(at':Int):=Int.natCast_nonneg _;have hi1:(at':Int)<(E.N:Int):=by omega
 obtain⟨cs,hcs,hsz,hall⟩:=h1.c;have hcell:=hall at' ha;obtain⟨v,hs,-⟩:=h1.l;have HS2:=zA (h1.claim hE ha false);rw[pP]at HS2;have HF:=zA (((Af hB1 []).mono (ex':=[E.gc]) (by simp)).trans (Ai (w.alloc (.cells (IV .i64 ps) 119)) E.gc at' (.bool false)));clear hall h hB1 h1;have hz:=Aa hs;have hz2:=Aa hcs;go_enter Tryz.func98,Tryz.ntmps98;go_wp2_with fail;go_ret;exact⟨rfl,HS2.out,HF.out⟩
theorem Qw(hE:ROk E)(at':Nat)(ha:at'<E.N)(ps:List Int)(hp:ps.length=32){S:Nat->List Int}{cl:Int->Bool}(w:World)(h:RG E w o l S cl tk I en):
  Calls Tryz.prog 98 #[.pointer (some ⟨E.g,0,none⟩),.int .i64 at',.agg (IV .i64 ps),.bool true] w fun e w'=>
   e= .returned (.bool true)/\RG E w' o l (Ay S at' (D5 ps).1) cl tk I en/\Fr [E.gw] w w':=by
 have hB1:Below w.heap.size w (w.alloc (.cells (IV .i64 ps) 119)):=(Below.refl _ _).alloc (Nat.le_refl _) _;have h1:=h.below hB1;have hgp:=(A6 w (.cells (IV .i64 ps) 119)).1;have ha0:(0:Int)<=(at':Int):=Int.natCast_nonneg _;have ha1:(at':Int)<(E.N:Int):=by omega
 obtain⟨v,hl,-⟩:=h1.l;have HL1:=zA h1;have hN:=hE.N;have HF1:=zA (Af hB1 [E.gw]);have hcl:=h1.s;obtain⟨cs3,hcs3,hs3,hs3b⟩:=hcl
 have hst:∀ raw w',Dd raw 128 (at'*128) E.gw (IV .u8 (D5 ps).1) w' (some (.cells cs3 47 (0,0)))= .ok () (w'.setRow E.gw (Ap cs3 (at'*128) (IV .u8 (D5 ps).1))):=fun raw w'=>
  Cj (by omega) (by simp) (by simp)
 clear hs3b h hB1 h1;go_enter Tryz.func98,Tryz.ntmps98;go_upto_region 1 with fail;generalize w.alloc (.cells (IV .i64 ps) 119)=w3 at*;generalize w.heap.size=gp at*;have hgpl:=Aa hgp;have hgl0:=Aa hl;have hgw0:=Aa hcs3;go_wp2_with fail;go_region_with ((refine(nH ps hp _).mono ?_;rintro e w5 ⟨rfl,hb5⟩;have hb5:Below w3.heap.size w3 w5:=⟨hb5.os,hb5.tape,hb5.output,hb5.size,hb5.block⟩;have fl5:=(hop hb5 hl).1;have fg5:=(hop hb5 hgp).1;have fw5:=(hop hb5 hcs3).1))
 all_goals
  have hf5:Fr [] w3 w5:=Af hb5 [];have HS6:=zA ((HL1.out.below hb5).store hE fw5 ha (L0 ps) (Nx ps));have HF6:=zA (HF1.out.trans ((hf5.mono (ex':=[E.gw]) (by simp)).trans (Da w5 E.gw (Ap cs3 (at'*128) (IV .u8 (D5 ps).1)))));generalize w5.setRow E.gw (Ap cs3 (at'*128) (IV .u8 (D5 ps).1))=w6 at*;go_wp2_with fail;go_ret;exact⟨rfl,HS6.out,HF6.out⟩
theorem Vw(hE:ROk E)(at':Nat)(ha:at'<E.N)(base n:Int)(hb0:0<=base)(hb1:base<=2000)(st:LS)(w:World)(h:RG E w o l st.S st.cl tk I en):
  Calls Tryz.prog 97 #[.pointer (some ⟨E.g,0,none⟩),.int .i64 at',.int .i64 base,.int .i64 n] w fun e w'=>
   e= .returned (.bool (C7 (J9 E.X E.Y n base) at' st).1)/\RG E w' o l (C7 (J9 E.X E.Y n base) at' st).2.S (C7 (J9 E.X E.Y n base) at' st).2.cl tk I en/\Fr [E.gc,E.gw] w w':=by
 obtain⟨v,hs,-⟩:=h.l;obtain⟨cs,hcs,hld,hlen,hby⟩:=h.s.load ha;have HS:=zA h;have HLT:=zA (show(∀ b∈E.bs,b<w.heap.size)/\(∀ q,o=some q->q<w.heap.size)from⟨h.lts,h.lto⟩);have ha0:(0:Int)<=(at':Int):=Int.natCast_nonneg _;have ha1:(at':Int)<(E.N:Int):=by omega
 have HCALL:=zA (fun W=>Gz (st.S at') hlen hby W);clear h hby hlen;go_enter Tryz.func97,Tryz.ntmps97;go_wp2_with fail;refine(HCALL.out _).mono ?_;rintro e w1 ⟨rfl,hb⟩;have hpl:(Al (st.S at')).length=32:=by simp
 have HTP:Hid (C7 (J9 E.X E.Y n base) at' st=if (A0 (Au E.X E.Y) (Cm base) base 1 n 0 (Al (st.S at')) st).2.1=false then(false,{(A0 (Au E.X E.Y) (Cm base) base 1 n 0 (Al (st.S at')) st).2.2 with cl:=Q2 (A0 (Au E.X E.Y) (Cm base) base 1 n 0 (Al (st.S at')) st).2.2.cl at'})
  else(true,{(A0 (Au E.X E.Y) (Cm base) base 1 n 0 (Al (st.S at')) st).2.2 with S:=Ay (A0 (Au E.X E.Y) (Cm base) base 1 n 0 (Al (st.S at')) st).2.2.S at' (D5 (A0 (Au E.X E.Y) (Cm base) base 1 n 0 (Al (st.S at')) st).1).1,fm:=A8 (A0 (Au E.X E.Y) (Cm base) base 1 n 0 (Al (st.S at')) st).2.2.fm at'})):=zA rfl
 generalize hPS:Al (st.S at')=ps at*;have hgt:=(A6 w1 (.cells (IV .i64 ps) 119)).1;have hB2:Below w.heap.size w (w1.alloc (.cells (IV .i64 ps) 119)):=hb.alloc hb.size _;have HSG:=zA (HS.out.below hB2);have HF1:=zA (Af hB2 []);have HGT:Hid ((∀ b∈E.bs,b≠w1.heap.size)/\∀ q,o=some q->q≠w1.heap.size):=zA ⟨fun b hb' e=>by have:=HLT.out.1 b hb';have:=hb.size;omega,fun q hq e=>by have:=HLT.out.2 q hq;have:=hb.size;omega⟩;have HGN:Hid (w.heap.size<=w1.heap.size):=zA hb.size;clear hb hB2 hcs hld HCALL HLT hs;go_wp2_with fail;generalize w1.alloc (.cells (IV .i64 ps) 119)=w2 at*;generalize w1.heap.size=gt at*
 go_loopw [10,11] (fun sm kv wr=>∃ (k:Nat) (pre:List Int) (b:Bool) (s:LS),kv= .int .i64 k/\sm= .bool b/\k<=32/\Hid (pre.length=k)/\Hid (RG E wr o l s.S s.cl tk I en)/\Hid (hat wr gt=some (.cells (IV .i64 (pre++ps.drop k)) 119))/\Hid (Fr [gt,E.gc] w2 wr)/\
   Hid (A0 (Au E.X E.Y) (Cm base) base 1 n 0 ps st=(pre++(A0 (Au E.X E.Y) (Cm base) base 1 n k (ps.drop k) s).1,b||(A0 (Au E.X E.Y) (Cm base) base 1 n k (ps.drop k) s).2.1,(A0 (Au E.X E.Y) (Cm base) base 1 n k (ps.drop k) s).2.2))) (fun _ v _=>32-(intOf v).toNat)
 case atStart=>exact⟨0,[],false,st,rfl,rfl,by omega,zA rfl,HSG,zA (by simpa using hgt),zA (Fr.refl _ _),zA (by simp)⟩
 case round=>
  obtain⟨k,pre,b,s,rfl,rfl,hk,HL,HG,HT,HF,HE⟩:=hrel;by_cases hk32:k<32
  ·obtain⟨p,hpk⟩:=D8 (l:=ps) (k:=k) (by omega);have hk0:(0:Int)<=(k:Int):=Int.natCast_nonneg _;have hk1:(k:Int)<32:=(by omega);have hdr:=Io hpk;have hE1:=HE.out;rw[hdr,E6]at hE1;have HSET:Hid ((pre++ps.drop k).set k 0=(pre++[0])++ps.drop (k+1)):=zA (by rw[hdr];exact O0 HL.out);have HKEEP:Hid (pre++ps.drop k=(pre++[p])++ps.drop (k+1)):=zA (by rw[hdr];simp);have hcl:(pre++ps.drop k).length=32:=(by rw[List.length_append,HL.out,List.length_drop,hpl];omega);have hck:(pre++ps.drop k)[k]? =some p:=(by rw[List.getElem?_append_right (by rw[HL.out];exact Nat.le_refl _),HL.out,Nat.sub_self,hdr];rfl);have hT:=HT.out;obtain⟨cur,hcur⟩:∃ cur,pre++ps.drop k=cur:=⟨_,rfl⟩;rw[hcur]at hT hcl hck HSET HKEEP;have hnk:nth cur k=p:=(by unfold nth;rw[hck];rfl);have HPL1:∀ x:Int,Hid ((pre++[x]).length=k+1):=fun x=>zA (by simp[HL.out])
   clear hdr hcur HT HE hpk hck;have hTl:=Aa hT;by_cases hp0:p=0
   ·rw[if_pos hp0]at hE1;have HE1:=zA hE1;have d1:(p !=0)=false:=(by simpa using hp0);have HT1:Hid (hat wr gt=some (.cells (IV .i64 ((pre++[0])++ps.drop (k+1))) 119)):=zA (by rw[<-hp0, <-HKEEP.out];exact hT);clear hE1 hp0;cases b
    all_goals
     go_wp2_with fail;go_roundw
     case rel=>exact⟨k+1,pre++[0],_,s,by go_num,rfl,by omega,HPL1 0,HG,HT1,HF,zA (by rw[HE1.out];simp)⟩
     case measure=>(show 32-(k+1)<32-k);omega
   ·rw[if_neg hp0]at hE1;have d1:(p !=0)=true:=(by simpa using hp0);have HST:∀ W,Hid (hat W gt=some (.cells (IV .i64 cur) 119)->hat (W.setCell ⟨gt,k,none⟩ (.int .i64 0)) gt=some (.cells (IV .i64 ((pre++[0])++ps.drop (k+1))) 119)):=fun W=>zA (fun hW=>by
     have:=Ah W gt k (.int .i64 0) _ _ _ hW;rw[Ng,HSET.out]at this;exact this)
    have HZ0:Hid (nth ((pre++[0])++ps.drop (k+1)) k=0/\((pre++[0])++ps.drop (k+1)).length=32):=zA (by
     rw[<-HSET.out];refine⟨?_,by simp[hcl]⟩;unfold nth;rw[List.getElem?_set,if_pos rfl,if_pos (by omega)];rfl)
    have HGS:∀ W s',Hid (RG E W o l (LS.S s') (LS.cl s') tk I en->RG E (W.setCell ⟨gt,k,none⟩ (.int .i64 0)) o l (LS.S s') (LS.cl s') tk I en):=fun W s'=>zA (fun hW=>hW.fr (Ai W gt k _) (fun b hb=>by simpa using HGT.out.1 b hb) (fun q hq=>by simpa using HGT.out.2 q hq))
    clear HSET;by_cases hn:n<=base+1*(k:Int)
    ·rw[if_pos hn]at hE1;have HE1:=zA hE1;have hn2:n<=base+(k:Int):=(by omega);have HT4:=zA ((HST wr).out hT);have HG4:=zA ((HGS wr s).out HG.out);have HF4:=zA (HF.out.trans ((Ai wr gt k (.int .i64 0)).mono (ex':=[gt,E.gc]) (by simp)));clear hE1 hn HST HGS HKEEP;go_upto_region 8 with fail;generalize wr.setCell ⟨gt,k,none⟩ (.int .i64 0)=w4 at*;have hT4:=HT4.out;have hT4l:=Aa hT4;obtain⟨hz0,hz1⟩:=HZ0.out;obtain⟨cur2,hc2⟩:∃ c,(pre++[0])++ps.drop (k+1)=c:=⟨_,rfl⟩;rw[hc2]at hT4 hz0 hz1;clear hc2;cases b
     all_goals
      go_wp2_with fail;go_roundw
      case rel=>exact⟨k+1,pre++[0],_,s,by go_num,rfl,by omega,HPL1 0,HG4,HT4,HF4,zA (by rw[HE1.out];simp)⟩
      case measure=>(show 32-(k+1)<32-k);omega
    ·rw[if_neg hn]at hE1;have hn2:¬ n<=base+(k:Int):=(by omega);have HC:=zA (J8 hE p s wr HG.out);have HE1:=zA hE1;have HTW:=zA hT;have HGTC:Hid (gt≠E.gc):=zA (fun e=>HGT.out.1 E.gc (by simp[A3.bs]) e.symm);clear hE1 hn;go_wp2_with fail;refine HC.out.mono ?_;rintro e w3 ⟨rfl,hg3,hf3⟩;have hT3:=(hf3.block gt (Aa HTW.out) (by simpa using HGTC.out)).trans HTW.out;have HF3:=zA (HF.out.trans (hf3.mono (ex':=[gt,E.gc]) (by simp)));have hT3l:=Aa hT3;clear hf3 HC hT hTl HTW;cases hgd:(Au E.X E.Y p s).1 with
     |false=>
      have hE2:=HE1.out;rw[if_pos hgd]at hE2;have HE2:=zA hE2;have HT4:=zA ((HST w3).out hT3);have HG4:=zA ((HGS w3 (Au E.X E.Y p s).2).out hg3);have HF4:=zA (HF3.out.trans ((Ai w3 gt k (.int .i64 0)).mono (ex':=[gt,E.gc]) (by simp)));clear hE2 hg3 HST HGS HKEEP HE1;generalize (Au E.X E.Y p s).2=s3 at*;go_upto_region 8 with fail;generalize w3.setCell ⟨gt,k,none⟩ (.int .i64 0)=w4 at*;have hT4:=HT4.out;have hT4l:=Aa hT4;obtain⟨hz0,hz1⟩:=HZ0.out;obtain⟨cur2,hc2⟩:∃ c,(pre++[0])++ps.drop (k+1)=c:=⟨_,rfl⟩;rw[hc2]at hT4 hz0 hz1;clear hc2;cases b
      all_goals
       go_wp2_with fail;go_roundw
       case rel=>exact⟨k+1,pre++[0],_,s3,by go_num,rfl,by omega,HPL1 0,HG4,HT4,HF4,zA (by rw[HE2.out];simp)⟩
       case measure=>(show 32-(k+1)<32-k);omega
     |true=>
      have hE2:=HE1.out;rw[if_neg (by rw[hgd];simp),if_neg (by simp[Cm])]at hE2;have HE2:=zA hE2;have HG3:Hid (RG E w3 o l (Cm base k p (Au E.X E.Y p s).2).2.S (Cm base k p (Au E.X E.Y p s).2).2.cl tk I en):=zA hg3;have HT3:Hid (hat w3 gt=some (.cells (IV .i64 ((pre++[p])++ps.drop (k+1))) 119)):=zA (by rw[<-HKEEP.out];exact hT3);clear hE2 hg3 HST HGS HKEEP HE1 HZ0;generalize (Cm base k p (Au E.X E.Y p s).2).2=s3 at*;cases b
      all_goals
       go_wp2_with fail;go_roundw
       case rel=>exact⟨k+1,pre++[p],true,s3,by go_num,rfl,by omega,HPL1 p,HG3,HT3,HF3,zA (by rw[HE2.out];simp)⟩
       case measure=>(show 32-(k+1)<32-k);omega
  ·obtain rfl:k=32:=(by omega);have hE1:=HE.out;have hd:ps.drop 32=[]:=List.drop_of_length_le (by omega);rw[hd]at hE1;change _=(pre++[],b||false,s)at hE1;rw[List.append_nil,Bool.or_false]at hE1;have hT:=HT.out;rw[hd,List.append_nil]at hT;have hp32:pre.length=32:=HL.out;have hTl:=Aa hT;have HFW:Hid (Fr [E.gc,E.gw] w wr):=zA (Fr.mono (Fr.drop_new HF1.out HF.out HGN.out) (by simp));have HTP2:=HTP;rw[hE1]at HTP2;clear hE1 hd HTP HE HT;cases b with
   |false=>
    have HC:=zA (Tq hE at' ha pre wr HG.out);go_wp2_with fail;refine HC.out.mono ?_;rintro e w3 ⟨rfl,hg3,hf3⟩;have HG3:=zA hg3;have HF3:=zA (HFW.out.trans (hf3.mono (ex':=[E.gc,E.gw]) (by simp)));clear hg3 hf3 HC;go_wp2_with fail;go_ret;rw[HTP2.out];exact⟨rfl,HG3.out,HF3.out⟩
   |true=>
    have HC:=zA (Qw hE at' ha pre hp32 wr HG.out);go_wp2_with fail;refine HC.out.mono ?_;rintro e w3 ⟨rfl,hg3,hf3⟩;have HG3:=zA hg3;have HF3:=zA (HFW.out.trans (hf3.mono (ex':=[E.gc,E.gw]) (by simp)));clear hg3 hf3 HC;go_wp2_with fail;go_ret;rw[HTP2.out];exact⟨rfl,HG3.out,HF3.out⟩
end
theorem Kt{fn:Func}{t u v x:Tmp}(h:fn.results= #[.tmp t,.tmp u,.tmp v,.tmp x])(tmps:Array Value)(P:Program)(w:World):
  (results fn tmps).run P w= .ok (.tuple #[tmps.getD t undef,tmps.getD u undef,tmps.getD v undef,tmps.getD x undef]) w:=by
 simp[results,h]
abbrev Mb (gw N cw:Nat):Value:= .agg #[.slice (some ⟨gw,0,none⟩) N cw,.int .i64 (-1),.int .i64 0]
def Fq(S:Nat->List Int)(p:Int):List Int:=if p=0 then zl 32 else Al (S p.toNat)
theorem Ht(S:Nat->List Int)(p:Int):(Fq S p).length=32:=by
 unfold Fq;split<;>simp
theorem Hu(S:Nat->List Int)(p:Int)(i:Nat):nth (Fq S p) i=J0 S p i:=by
 unfold Fq J0;split
 ·rw[Mf]
 ·rfl
section
variable {gw N cw:Nat} {S:Nat->List Int}
theorem jD(n:Nat)(hn:n<N)(w:World)(h:B8 w gw N 0 S):
  Calls Tryz.prog 135 #[Mb gw N cw,.int .i64 n] w fun e w'=>e= .returned (.tuple #[.agg (IV .u8 (S n)),.int .i64 0])/\Below w.heap.size w w':=by
 have hB1:Below w.heap.size w (w.alloc (.cells #[.slice (some ⟨gw,0,none⟩) N cw,.int .i64 (-1),.int .i64 0] 160)):=(Below.refl _ _).alloc (Nat.le_refl _) _;have hB2:Below w.heap.size w ((w.alloc (.cells #[.slice (some ⟨gw,0,none⟩) N cw,.int .i64 (-1),.int .i64 0] 160)).alloc (.cells (IV .u8 (zl 128)) 47)):=hB1.alloc hB1.size _;have h2:=h.same (A7 hB2 h.lt2);have hg1:=(B7 _ (.cells (IV .u8 (zl 128)) 47) (A6 w (.cells #[.slice (some ⟨gw,0,none⟩) N cw,.int .i64 (-1),.int .i64 0] 160)).1).1;have hg2:=(A6 (w.alloc (.cells #[.slice (some ⟨gw,0,none⟩) N cw,.int .i64 (-1),.int .i64 0] 160)) (.cells (IV .u8 (zl 128)) 47)).1;obtain⟨cs,hcs,hld,hlen,hby⟩:=h2.load hn;have HB2:=zA hB2;have hz1:(w.alloc (.cells #[.slice (some ⟨gw,0,none⟩) N cw,.int .i64 (-1),.int .i64 0] 160)).heap.size=w.heap.size+1:=World.size_alloc _ _;rw[hz1]at hg2;have hn0:(0:Int)<=(n:Int):=Int.natCast_nonneg _;have hn1:(n:Int)<(N:Int):=by omega
 have hm1:((n:Int)== -1)=false:=by simp<;>omega
 have hlt:¬ (n:Int)<0:=by omega
 have hge:¬ (N:Int)<=(n:Int):=by omega
 clear hB1 hB2 h h2 hby;go_enter Tryz.func135,Tryz.ntmps135;go_upto_region 1 with fail;try rw[hz1]
 clear hz1;generalize (w.alloc (.cells #[.slice (some ⟨gw,0,none⟩) N cw,.int .i64 (-1),.int .i64 0] 160)).alloc (.cells (IV .u8 (zl 128)) 47)=w2 at*;have hl1:=Aa hg1;have hl2:=Aa hg2;have hl3:=Aa hcs;have hst:∀ raw w',Dd raw 128 0 (w.heap.size+1) (IV .u8 (S n)) w' (some (.cells (IV .u8 (zl 128)) 47 (0,0)))= .ok () (w'.setRow (w.heap.size+1) (IV .u8 (S n))):=fun raw w'=>Fp (by simp) (by simpa using hlen) (by simp)
 have HEND:Hid (hat (w2.setRow (w.heap.size+1) (IV .u8 (S n))) (w.heap.size+1)=some (.cells (IV .u8 (S n)) 47)/\Below w.heap.size w (w2.setRow (w.heap.size+1) (IV .u8 (S n)))):=zA ⟨Ar _ _ _ _ _ _ hg2,Ag HB2.out (by omega) _⟩;generalize w.heap.size+1=gz at*;go_wp2_with fail;generalize w2.setRow gz (IV .u8 (S n))=w3 at*;obtain⟨hz3,hB3⟩:=HEND.out;exact Aw Cq rfl (cs:=IV .u8 (S n)) rfl hz3 (by simpa using hlen) rfl ⟨rfl,hB3⟩
theorem Gb(p:Int)(hp0:0<=p)(hp1:p<N)(w:World)(h:B8 w gw N 0 S):
  Calls Tryz.prog 118 #[Mb gw N cw,.int .i64 p] w fun e w'=>e= .returned (.tuple #[.agg (IV .i64 (Fq S p)),.int .i64 0])/\Below w.heap.size w w':=by
 have hB1:Below w.heap.size w (w.alloc (.cells #[.slice (some ⟨gw,0,none⟩) N cw,.int .i64 (-1),.int .i64 0] 160)):=(Below.refl _ _).alloc (Nat.le_refl _) _;have hB2:Below w.heap.size w ((w.alloc (.cells #[.slice (some ⟨gw,0,none⟩) N cw,.int .i64 (-1),.int .i64 0] 160)).alloc (.cells (IV .i64 (zl 32)) 119)):=hB1.alloc hB1.size _;have HS2:=zA (h.same (A7 hB2 h.lt2));have hg1:=(B7 _ (.cells (IV .i64 (zl 32)) 119) (A6 w (.cells #[.slice (some ⟨gw,0,none⟩) N cw,.int .i64 (-1),.int .i64 0] 160)).1).1;have hg2:=(A6 (w.alloc (.cells #[.slice (some ⟨gw,0,none⟩) N cw,.int .i64 (-1),.int .i64 0] 160)) (.cells (IV .i64 (zl 32)) 119)).1;have HB2:=zA hB2;have hz1:(w.alloc (.cells #[.slice (some ⟨gw,0,none⟩) N cw,.int .i64 (-1),.int .i64 0] 160)).heap.size=w.heap.size+1:=World.size_alloc _ _;rw[hz1]at hg2;clear hB1 hB2 h;obtain⟨ps,hps⟩:∃ ps,Fq S p=ps:=⟨_,rfl⟩;have hpl:ps.length=32:=by rw[<-hps];exact Ht S p
 have HPS:=zA hps;clear hps;go_enter Tryz.func118,Tryz.ntmps118;go_upto_region 1 with fail;try rw[hz1]
 clear hz1;generalize (w.alloc (.cells #[.slice (some ⟨gw,0,none⟩) N cw,.int .i64 (-1),.int .i64 0] 160)).alloc (.cells (IV .i64 (zl 32)) 119)=w2 at*;have hl1:=Aa hg1;have hl2:=Aa hg2;have HGZ:Hid (w.heap.size<=w.heap.size+1):=zA (by omega);generalize w.heap.size+1=gz at*;by_cases h0:p=0
 ·have d0:(p==0)=true:=(by simpa using h0);have hz:ps=zl 32:=(by rw[<-HPS.out];unfold Fq;rw[if_pos h0]);subst hz;have hst:∀ raw w',Dd raw 32 0 gz (IV .i64 (zl 32)) w' (some (.cells (IV .i64 (zl 32)) 119 (0,0)))= .ok () (w'.setRow gz (IV .i64 (zl 32))):=fun raw w'=>Fp (by simp) (by simp) (by simp)
  have HEND:Hid (hat (w2.setRow gz (IV .i64 (zl 32))) gz=some (.cells (IV .i64 (zl 32)) 119)/\Below w.heap.size w (w2.setRow gz (IV .i64 (zl 32)))):=zA ⟨Ar _ _ _ _ _ _ hg2,Ag HB2.out HGZ.out _⟩;clear h0;go_wp2_with fail;generalize w2.setRow gz (IV .i64 (zl 32))=w3 at*;obtain⟨hz3,hB3⟩:=HEND.out;exact Aw Xd rfl (cs:=IV .i64 (zl 32)) rfl hz3 (by simp) rfl ⟨by rw[HPS.out];rfl,hB3⟩
 ·have d0:(p==0)=false:=(by simpa using h0);obtain⟨n,rfl⟩:=Int.eq_ofNat_of_zero_le hp0;have hn:n<N:=(by omega);have HC:=zA (jD (cw:=cw) n hn w2 HS2.out);obtain⟨-,-,-,hlen,hby⟩:=HS2.out.load hn;have HRP:=zA (fun W=>Gz (S n) hlen hby W);have hrp:Al (S n)=ps:=(by rw[<-HPS.out];unfold Fq;rw[if_neg h0,Int.toNat_natCast]);rw[hrp]at HRP;clear h0 hby hrp;go_wp2_with fail;refine HC.out.mono ?_;rintro e w3 ⟨rfl,hb3⟩;have hg33:=(hop hb3 hg2).1;have hg6:=(A6 w3 (.cells (IV .u8 (S n)) 47)).1;have hB4:Below w2.heap.size w2 (w3.alloc (.cells (IV .u8 (S n)) 47)):=hb3.alloc hb3.size _;have HB4:=zA (Ad HB2.out hB4 HB2.out.size);have hg4:=(hop hB4 hg2).1;clear hB4 hb3 hg33 HC HS2 HB2 hg1 hl1 hg2 hl2;go_upto_region 4 with fail;generalize w3.alloc (.cells (IV .u8 (S n)) 47)=w4 at*;generalize w3.heap.size=g6 at*;have hl4:=Aa hg4;have hl6:=Aa hg6;go_wp2_with fail;refine(HRP.out _).mono ?_;rintro e w5 ⟨rfl,hb5⟩;have hg5:=(hop hb5 hg4).1;have hl5:=Aa hg5;have hst:∀ raw w',Dd raw 32 0 gz (IV .i64 ps) w' (some (.cells (IV .i64 (zl 32)) 119 (0,0)))= .ok () (w'.setRow gz (IV .i64 ps)):=fun raw w'=>Fp (by simp) (by simpa using hpl) (by simp)
  have HEND:Hid (hat (w5.setRow gz (IV .i64 ps)) gz=some (.cells (IV .i64 ps) 119)/\Below w.heap.size w (w5.setRow gz (IV .i64 ps))):=zA ⟨Ar _ _ _ _ _ _ hg5,Ag (Ad HB4.out hb5 HB4.out.size) HGZ.out _⟩;clear hb5;go_wp2_with fail;generalize w5.setRow gz (IV .i64 ps)=w6 at*;obtain⟨hz3,hB3⟩:=HEND.out;exact Aw Xd rfl (cs:=IV .i64 ps) rfl hz3 (by simpa using hpl) rfl ⟨by rw[HPS.out];rfl,hB3⟩
theorem nK(k:Nat)(hk:k<1068)(w:World):
  Calls Tryz.prog 117 #[.int .i64 k] w fun e w'=>e= .returned (.tuple #[.int .i64 (if k<12 then 0 else if k<44 then 1 else 2),.int .i64 (if k<12 then k else if k<44 then(k-12:Nat)else((k-44)/32:Nat)),.int .i64 (if k<44 then 0 else((k-44)%32:Nat)),.int .i64 0])/\w'=w:=by
 have h0:(0:Int)<=(k:Int):=Int.natCast_nonneg _;have h1:¬ (k:Int)<0:=by omega
 have h2:¬ (1068:Int)<=(k:Int):=by omega
 by_cases h12:k<12
 ·have hi:(k:Int)<12:=(by omega);rw[if_pos h12,if_pos h12,if_pos (by omega)];go_enter Tryz.func117,Tryz.ntmps117;go_wp2_with fail;(try simp only[Exit.inBlock,Exit.then])
  refine bodyPost_ret (Kt rfl _ _ _) rfl ?_;exact⟨rfl,rfl⟩
 ·have hi:¬ (k:Int)<12:=(by omega);rw[if_neg h12,if_neg h12];by_cases h44:k<44
  ·have hi2:(k:Int)<44:=(by omega);rw[if_pos h44,if_pos h44,if_pos h44];have e:(k:Int)-12=((k-12:Nat):Int):=(by omega);go_enter Tryz.func117,Tryz.ntmps117;go_wp2_with fail;(try simp only[Exit.inBlock,Exit.then])
   refine bodyPost_ret (Kt rfl _ _ _) rfl ?_;exact⟨by rw[<-e];rfl,rfl⟩
  ·have hi2:¬ (k:Int)<44:=(by omega);rw[if_neg h44,if_neg h44,if_neg h44];obtain⟨m,rfl⟩:∃ m,k=44+m:=⟨k-44,by omega⟩;have e4:44+m-44=m:=(by omega);rw[e4];go_enter Tryz.func117,Tryz.ntmps117;go_wp2_with fail;(try simp only[Exit.inBlock,Exit.then])
   refine bodyPost_ret (Kt rfl _ _ _) rfl ?_;refine⟨?_,rfl⟩;simp only[Array.getD_eq_getD_getElem?,List.getElem?_toArray,List.getElem?_cons_succ,List.getElem?_cons_zero,Option.getD_some];have e5:(44+(m:Int)-44)/32=((m/32:Nat):Int):=(by omega);have e6:(44+(m:Int)-44)%32=((m%32:Nat):Int):=(by omega);have e7:((m/32:Nat):Int)=(m:Int)/32:=(by omega);have e8:((m%32:Nat):Int)=(m:Int)%32:=(by omega);rw[e5,e6,e7,e8]
end
section
variable {gw N cw:Nat} {S:Nat->List Int}
theorem iZ{raw:List Int}(hA:Wa N S raw)(k:Nat)(hk:k<1068)(w:World)(h:B8 w gw N 0 S):
  Calls Tryz.prog 99 #[Mb gw N cw,.agg (IV .i64 raw),.int .i64 k] w fun e w'=>e= .returned (.tuple #[.int .i64 (D6 S raw k),.int .i64 0])/\Below w.heap.size w w':=by
 have hB1:Below w.heap.size w (w.alloc (.cells #[.slice (some ⟨gw,0,none⟩) N cw,.int .i64 (-1),.int .i64 0] 160)):=(Below.refl _ _).alloc (Nat.le_refl _) _;have hB2:Below w.heap.size w ((w.alloc (.cells #[.slice (some ⟨gw,0,none⟩) N cw,.int .i64 (-1),.int .i64 0] 160)).alloc (.cells (IV .i64 raw) 78)):=hB1.alloc hB1.size _;have HS2:=zA (h.same (A7 hB2 h.lt2));have hg1:=(B7 _ (.cells (IV .i64 raw) 78) (A6 w (.cells #[.slice (some ⟨gw,0,none⟩) N cw,.int .i64 (-1),.int .i64 0] 160)).1).1;have hg2:=(A6 (w.alloc (.cells #[.slice (some ⟨gw,0,none⟩) N cw,.int .i64 (-1),.int .i64 0] 160)) (.cells (IV .i64 raw) 78)).1;have HB2:=zA hB2;have hz1:(w.alloc (.cells #[.slice (some ⟨gw,0,none⟩) N cw,.int .i64 (-1),.int .i64 0] 160)).heap.size=w.heap.size+1:=World.size_alloc _ _;rw[hz1]at hg2;clear hB1 hB2 h;have hr:raw.length=18:=hA.r;have HA:=zA hA;clear hA;obtain⟨res,hres⟩:∃ r,D6 S raw k=r:=⟨_,rfl⟩;rw[hres];have HR:=zA hres;clear hres;have HW:=zA (fun W=>nK k hk W);go_enter Tryz.func99,Tryz.ntmps99;go_upto_region 1 with fail;try rw[hz1]
 clear hz1;generalize (w.alloc (.cells #[.slice (some ⟨gw,0,none⟩) N cw,.int .i64 (-1),.int .i64 0] 160)).alloc (.cells (IV .i64 raw) 78)=w2 at*;have hl1:=Aa hg1;have hl2:=Aa hg2;generalize w.heap.size+1=gx at*;have hk0:(0:Int)<=(k:Int):=Int.natCast_nonneg _;by_cases h12:k<12
 ·rw[if_pos h12,if_pos h12,if_pos (by omega)]at HW;have hk12:(k:Int)<12:=(by omega);have hcb:(IV .i64 raw)[4+k]? =some (.int .i64 (nth raw (4+k))):=(by rw[Bl,An (by omega)];rfl);have HRR:Hid (nth raw (4+k)=res):=zA (by rw[<-HR.out];unfold D6;rw[if_pos h12]);go_wp2_with fail;refine(HW.out _).mono ?_;rintro e w3 ⟨rfl,rfl⟩;go_wp2_with fail;go_ret2;exact⟨by rw[<-HRR.out];rfl,HB2.out⟩
 ·rw[if_neg h12,if_neg h12]at HW;by_cases h44:k<44
  ·rw[if_pos h44,if_pos h44,if_pos h44]at HW;obtain⟨m,hm⟩:∃ m,k-12=m:=⟨_,rfl⟩;rw[hm]at HW;have hm32:m<32:=(by omega);have hmi:(m:Int)<32:=(by omega);have hm0:(0:Int)<=(m:Int):=Int.natCast_nonneg _;have hc16:(IV .i64 raw)[16]? =some (.int .i64 (nth raw 16)):=(by rw[Bl,An (by omega)];rfl);have HC:=zA (Gb (cw:=cw) (nth raw 16) HA.out.p16.1 HA.out.p16.2 w2 HS2.out);have hpl:=Ht S (nth raw 16);have HRR:Hid (nth (Fq S (nth raw 16)) m=res):=zA (by rw[<-HR.out,Hu];unfold D6;rw[if_neg h12,if_pos h44,hm]);generalize Fq S (nth raw 16)=ps at*;have hcm:(IV .i64 ps)[m]? =some (.int .i64 (nth ps m)):=(by rw[Bl,An (by omega)];rfl);clear hm;go_wp2_with fail;refine(HW.out _).mono ?_;rintro e w3 ⟨rfl,rfl⟩;go_wp2_with fail;refine HC.out.mono ?_;rintro e w4 ⟨rfl,hb4⟩;have hg5:=(A6 w4 (.cells (IV .i64 ps) 119)).1;have hB5:Below w3.heap.size w3 (w4.alloc (.cells (IV .i64 ps) 119)):=hb4.alloc hb4.size _;have HB5:=zA (Ad HB2.out hB5 HB2.out.size);clear hB5 hb4 HC HW;go_upto_region 8 with fail;generalize w4.alloc (.cells (IV .i64 ps) 119)=w5 at*;generalize w4.heap.size=gt at*;have hl5:=Aa hg5;go_wp2_with fail;go_ret2;exact⟨by rw[<-HRR.out];rfl,HB5.out⟩
  ·rw[if_neg h44,if_neg h44,if_neg h44]at HW;obtain⟨i,hi⟩:∃ i,(k-44)/32=i:=⟨_,rfl⟩;obtain⟨j,hj⟩:∃ j,(k-44)%32=j:=⟨_,rfl⟩;rw[hi,hj]at HW;have hi32:i<32:=(by omega);have hii:(i:Int)<32:=(by omega);have hi0:(0:Int)<=(i:Int):=Int.natCast_nonneg _;have hj32:j<32:=(by omega);have hji:(j:Int)<32:=(by omega);have hj0:(0:Int)<=(j:Int):=Int.natCast_nonneg _;have hc17:(IV .i64 raw)[17]? =some (.int .i64 (nth raw 17)):=(by rw[Bl,An (by omega)];rfl);have HC:=zA (Gb (cw:=cw) (nth raw 17) HA.out.p17.1 HA.out.p17.2 w2 HS2.out);have hpl:=Ht S (nth raw 17)
   have HRR:Hid (nth (Fq S (nth (Fq S (nth raw 17)) i)) j=res):=zA (by
    rw[<-HR.out,Hu];unfold D6;rw[if_neg h12,if_neg h44,hi,hj,Hu];rfl)
   have HP:Hid (0<=nth (Fq S (nth raw 17)) i/\nth (Fq S (nth raw 17)) i<N):=zA (by
    rw[Hu];unfold J0;split
    ·rename_i h0
     have:=HA.out.p17;omega
    ·rename_i h0
     have hm:nth (Al (S (nth raw 17).toNat)) i∈Al (S (nth raw 17).toNat):=List.mem_iff_getElem?.2 ⟨i,An (by simp;omega)⟩;have:=HA.out.p17;exact⟨(Jk (HS2.out.load (i:=(nth raw 17).toNat) (by omega)).choose_spec.2.2.2 _ hm).1,HA.out.d h0 _ hm⟩)
   generalize Fq S (nth raw 17)=ps at*;have hcm:(IV .i64 ps)[i]? =some (.int .i64 (nth ps i)):=(by rw[Bl,An (by omega)];rfl);obtain⟨p,hp⟩:∃ p,nth ps i=p:=⟨_,rfl⟩;rw[hp]at HP HRR hcm;have hql:=Ht S p;have HC2:=zA (fun W hW=>Gb (gw:=gw) (N:=N) (S:=S) (cw:=cw) p HP.out.1 HP.out.2 W hW);generalize Fq S p=qs at*;have hcj:(IV .i64 qs)[j]? =some (.int .i64 (nth qs j)):=(by rw[Bl,An (by omega)];rfl);clear hi hj;go_wp2_with fail;refine(HW.out _).mono ?_;rintro e w3 ⟨rfl,rfl⟩;go_wp2_with fail;refine HC.out.mono ?_;rintro e w4 ⟨rfl,hb4⟩;have hg5:=(A6 w4 (.cells (IV .i64 ps) 119)).1;have hB5:Below w3.heap.size w3 (w4.alloc (.cells (IV .i64 ps) 119)):=hb4.alloc hb4.size _;have HB5:=zA (Ad HB2.out hB5 HB2.out.size);have hg1':=(hop hB5 hg1).1;have HS5:=zA (HS2.out.same (A7 hB5 HS2.out.lt2));clear hB5 hb4 HC HW;go_upto_region 10 with fail;generalize w4.alloc (.cells (IV .i64 ps) 119)=w5 at*;generalize w4.heap.size=gt at*;have hl5:=Aa hg5;have hl1':=Aa hg1';go_wp2_with fail;have hN5:=(A6 w5 (.cells (IV .i64 (zl 32)) 119)).1;have hBN:Below w5.heap.size w5 (w5.alloc (.cells (IV .i64 (zl 32)) 119)).drew:=Below.drew ((Below.refl _ _).alloc (Nat.le_refl _) _);have HBN:=zA hBN;have HSN:=zA (HS5.out.same (A7 hBN HS5.out.lt2));have HN5:Hid (hat (w5.alloc (.cells (IV .i64 (zl 32)) 119)).drew w5.heap.size=some (.cells (IV .i64 (zl 32)) 119)):=zA hN5;clear hBN hN5;have hst:∀ raw w',Dd raw 32 0 w5.heap.size (IV .i64 qs) w' (some (.cells (IV .i64 (zl 32)) 119 (0,0)))= .ok () (w'.setRow w5.heap.size (IV .i64 qs)):=fun raw w'=>Fp (by simp) (by simpa using hql) (by simp)
   go_region_with (first
    |(refine(HC2.out w5.drew (HS5.out.same (w':=w5.drew) rfl)).mono ?_;rintro e w6 ⟨rfl,hb6⟩;have hB6:Below w5.heap.size w5 w6:=⟨hb6.os,hb6.tape,hb6.output,hb6.size,hb6.block⟩)
    |(refine(HC2.out (w5.alloc (.cells (IV .i64 (zl 32)) 119)).drew HSN.out).mono ?_;rintro e w6 ⟨rfl,hb6⟩;have hB6:Below w5.heap.size w5 w6:=Ad HBN.out hb6 HBN.out.size;have hx6:=(hop hb6 HN5.out).1;have hx6l:=Aa hx6))
   all_goals first
    |(have hg7:=(A6 w6 (.cells (IV .i64 qs) 119)).1
      have hB7:Below w5.heap.size w5 (w6.alloc (.cells (IV .i64 qs) 119)):=hB6.alloc hB6.size _;have HB7:=zA (Ad HB5.out hB7 HB5.out.size);clear hB7 hb6 hB6;go_upto_region 13 with fail;generalize w6.alloc (.cells (IV .i64 qs) 119)=w7 at*;generalize w6.heap.size=gu at*;have hl7:=Aa hg7;go_wp2_with fail;go_ret2;exact⟨by rw[<-HRR.out];rfl,HB7.out⟩)
    |(have hg7:=Ar _ _ (IV .i64 qs) _ _ _ hx6
      have HB7:=zA (Ag (Ad HB5.out hB6 HB5.out.size) (g:=w5.heap.size) HB5.out.size (IV .i64 qs));clear hb6 hB6;go_upto_region 13 with fail;generalize w6.setRow w5.heap.size (IV .i64 qs)=w7 at*;have hl7:=Aa hg7;go_wp2_with fail;go_ret2;exact⟨by rw[<-HRR.out];rfl,HB7.out⟩)
end
def Ei(raw pre:List Int)(k:Nat):List Int:=raw.take 4++(pre++raw.drop (4+k))
theorem Od{raw pre:List Int}{k:Nat}(hr:raw.length=18)(hp:pre.length=k)(hk:k<=14):(Ei raw pre k).length=18:=by
 unfold Ei;simp[hr,hp];omega
theorem Wi{raw pre:List Int}{k:Nat}(hr:raw.length=18)(hp:pre.length=k){j:Nat}(hj:4+k<=j):nth (Ei raw pre k) j=nth raw j:=by
 unfold Ei nth;rw[List.getElem?_append_right (by simp;omega),List.getElem?_append_right (by simp[hr];omega),List.getElem?_drop];congr 2
 simp[hr];omega
theorem U8{raw:List Int}{k:Nat}(hr:raw.length=18)(hk:k<14):raw.drop (4+k)=nth raw (4+k)::raw.drop (4+(k+1)):=Io (An (by omega))
theorem Pf{raw pre:List Int}{k:Nat}(hr:raw.length=18)(hk:k<14):Ei raw pre k=Ei raw (pre++[nth raw (4+k)]) (k+1):=by
 unfold Ei;rw[U8 hr hk];simp
theorem Rw{raw pre:List Int}{k:Nat}(hr:raw.length=18)(hp:pre.length=k)(hk:k<14):(Ei raw pre k).set (4+k) 0=Ei raw (pre++[0]) (k+1):=by
 unfold Ei;rw[U8 hr hk,List.set_append_right _ _ (by simp;omega),List.set_append_right _ _ (by simp[hr];omega)];have e:4+k-(raw.take 4).length-pre.length=0:=by simp[hr,hp]
 rw[e];simp
theorem fR{raw:List Int}{k:Nat}(hr:raw.length=18)(hk:k<12):((raw.drop 4).take 12)[k]? =some (nth raw (4+k)):=by
 rw[List.getElem?_take,if_pos hk,List.getElem?_drop,An (by omega)]
theorem Zx{σ:Type}(g:Int->σ->Bool×σ)(kp:Nat->Int->σ->Bool×σ)(base n p:Int)(s:σ):A0 g kp base 1 n 0 [p] s=
  if p=0 then([0],false,s)else if n<=base then([0],false,s)else if (g p s).1=false then([0],false,(g p s).2)else if (kp 0 p (g p s).2).1=false then([0],false,(kp 0 p (g p s).2).2)else([p],true,(kp 0 p (g p s).2).2):=by
 rw[E6];have e:base+1*((0:Nat):Int)=base:=by omega
 rw[e];rfl
section
variable {E:A3} {w w':World} {o:Option Nat} {l:List Int} {S:Nat->List Int} {cl tk:Int->Bool} {I:Nat->List Int} {en:Nat->Int}
theorem RG.byte(hE:ROk E)(h:RG E w o l S cl tk I en){p k:Nat}(hp:p<E.N)(hk:k<128):RG E (w.setCell ⟨E.gw,p*128+k,none⟩ (.int .u8 0)) o l (Ay S p ((S p).set k 0)) cl tk I en:=by
 obtain⟨n0,n1,n2,n3,n4,n5⟩:=hE.ne;have hf:=Ai w E.gw (p*128+k) (.int .u8 0);obtain⟨t1,t2⟩:=h.turn hE hf (by simp[A3.bs]);obtain⟨v,h1,h2⟩:=h.l;refine⟨⟨v,(t2 _ (by simp[A3.bs]) n0.2.1).trans h1,h2.fr hf (fun q hq=>by simpa using t1 q hq)⟩,h.i.same (t2 _ (by simp[A3.bs]) n1.1),?_,h.c.same (t2 _ (by simp[A3.bs]) n2.1.symm),h.t.same (t2 _ (by simp[A3.bs]) n2.2.1.symm),h.n.same (t2 _ (by simp[A3.bs]) n2.2.2.1.symm),h.e.same (t2 _ (by simp[A3.bs]) n2.2.2.2.symm),h.no⟩;obtain⟨cs,k1,k2,k3⟩:=h.s;refine⟨cs.setIfInBounds (p*128+k) (.int .u8 0),Ah _ _ _ _ _ _ _ k1,by simpa using k2,fun j hj=>?_⟩;obtain⟨m1,m2,m3⟩:=k3 j hj;by_cases hjp:j=p
 ·subst hjp;rw[Cx];refine⟨by simpa using m1,fun x hx=>?_,?_⟩
  ·rcases List.mem_or_eq_of_mem_set hx with hx|hx
   ·exact m2 x hx
   ·subst hx;decide
  ·apply Array.ext_getElem?
   intro i;rw[Array.getElem?_extract,Bl,List.getElem?_set];have m4:=congrArg (fun a:Array Value=>a[i]?) m3;simp only[Array.getElem?_extract,Bl]at m4;by_cases hi:i<128
   ·rw[if_pos (by simp;omega),Array.getElem?_setIfInBounds];rw[if_pos (by omega)]at m4;by_cases hik:k=i
    ·subst hik;rw[if_pos rfl,if_pos (by omega),if_pos rfl,if_pos (by omega)];rfl
    ·rw[if_neg (by omega),if_neg hik];exact m4
   ·rw[if_neg (by simp;omega),if_neg (by omega),List.getElem?_eq_none (by omega)];rfl
 ·rw[Ca _ _ hjp];refine⟨m1,m2,?_⟩;rw[<-m3];apply Array.ext_getElem?
  intro i;rw[Array.getElem?_extract,Array.getElem?_extract];by_cases hi:i<128
  ·rw[if_pos (by simp;omega),if_pos (by omega),Array.getElem?_setIfInBounds,if_neg (by omega)]
  ·rw[if_neg (by simp;omega),if_neg (by omega)]
theorem RG.push(hE:ROk E)(h:RG E w o l S cl tk I en)(hl:l.length<=100000)(i:Int)(ty:TypeId){v:Value}
  (hv:hat w E.g=some (.cells #[.int .i64 E.X,.int .i64 E.Y,.slice (some ⟨E.gi,E.oi,none⟩) E.N E.ci,.slice (some ⟨E.gw,0,none⟩) E.N E.cw,.slice (some ⟨E.gc,0,none⟩) E.N E.cc,.slice (some ⟨E.gt,0,none⟩) E.M E.ct,.slice (some ⟨E.gn,0,none⟩) E.M E.cn,.slice (some ⟨E.ge,0,none⟩) E.M E.ce,v] 129)):
  ∃ v' w' o',(∃ a n c,v'= .slice a n c)/\(Builtin.append_ #[32,32] ty #[v,.slice (some ⟨w.heap.size,0,none⟩) 1 1]).run Tryz.prog (w.alloc (.cells #[.int .i64 i] 3))= .ok v' w'/\
   hat w' E.g=some (.cells #[.int .i64 E.X,.int .i64 E.Y,.slice (some ⟨E.gi,E.oi,none⟩) E.N E.ci,.slice (some ⟨E.gw,0,none⟩) E.N E.cw,.slice (some ⟨E.gc,0,none⟩) E.N E.cc,.slice (some ⟨E.gt,0,none⟩) E.M E.ct,.slice (some ⟨E.gn,0,none⟩) E.M E.cn,.slice (some ⟨E.ge,0,none⟩) E.M E.ce,v] 129)/\
   RG E (w'.setCell ⟨E.g,8,none⟩ v') o' (l++[i]) S cl tk I en/\Fr (E.g::o.toList) w (w'.setCell ⟨E.g,8,none⟩ v')/\(o'=o\/∃ g,o'=some g/\w.heap.size<=g):=by
 obtain⟨v0,hl0,hq⟩:=h.l;obtain rfl:v0=v:=by
  rw[hv]at hl0;have:=Option.some.inj hl0;injection this with h9
  injection h9 with h8
  have h7:=congrArg (fun l:List Value=>l[8]?) h8;simp at h7;exact h7.symm
 obtain⟨v',w',o',h1,h2,h3,h4⟩:=Fx (hq.fr (Be w (.cells #[.int .i64 i] 3) []) (by simp)) hl i w.heap.size (A6 w _).1 ty;have hno:∀ b∈E.bs,b∉o.toList:=fun b hb hm=>h.no b (by simpa using hm) hb
 have hsz:(w.alloc (.cells #[.int .i64 i] 3)).heap.size=w.heap.size+1:=World.size_alloc _ _;have hf:Fr o.toList w w':=(Be w _ _).trans h3;have hg:∀ b∈E.bs,hat w' b=hat w b:=fun b hb=>hf.block b (h.lts b hb) (hno b hb)
 have h4b:o'=o\/∃ g,o'=some g/\w.heap.size<=g:=by
  rcases h4 with h4|⟨g,h4,h5⟩
  ·exact .inl h4
  ·exact .inr ⟨g,h4,by omega⟩
 have hno':∀ q,o'=some q->q∉E.bs:=by
  intro q hq' hm;rcases h4b with e|⟨g,e,hg'⟩
  ·exact h.no q (e.symm.trans hq') hm
  ·rw[hq']at e;injection e with e
   have:=h.lts q hm;omega
 have hgb:E.g∈E.bs:=by simp[A3.bs]
 have hv':hat w' E.g=_:=(hg _ hgb).trans hl0;obtain⟨n0,n1,n2,n3,n4,n5⟩:=hE.ne;have hc:∀ b,b∈E.bs->b≠E.g->hat (w'.setCell ⟨E.g,8,none⟩ v') b=hat w b:=fun b hb hn=>(Fh w' ⟨E.g,8,none⟩ v' b hn).trans (hg b hb)
 refine⟨v',w',o',h2.sl,h1,hv',⟨⟨v',?_,h2.fr (Ai w' E.g 8 v') (fun q hq' hm=>by simp at hm;subst hm;exact hno' _ hq' hgb)⟩,h.i.same (hc _ (by simp[A3.bs]) n0.1.symm),h.s.same (hc _ (by simp[A3.bs]) n0.2.1.symm),h.c.same (hc _ (by simp[A3.bs]) n0.2.2.1.symm),h.t.same (hc _ (by simp[A3.bs]) n0.2.2.2.1.symm),h.n.same (hc _ (by simp[A3.bs]) n0.2.2.2.2.1.symm),h.e.same (hc _ (by simp[A3.bs]) n0.2.2.2.2.2.symm),hno'⟩,(hf.mono (by simp+contextual)).trans ((Ai w' E.g 8 v').mono (by simp)),h4b⟩;exact Ah _ _ 8 v' _ _ _ hv'
end
def Qd(s:List Int)(a k:Nat):List Int:=s.take a++(zl (k-a)++s.drop k)
theorem jY{s:List Int}{a:Nat}(h:a<=s.length):Qd s a a=s:=by
 unfold Qd;rw[Nat.sub_self];exact List.take_append_drop a s
theorem oO{s:List Int}{a:Nat}(h:s.length=128):Qd s a 128=C8 s a:=by
 unfold Qd C8;rw[List.drop_of_length_le (by omega),List.append_nil]
theorem aH{s:List Int}{a k:Nat}(h:s.length=128)(ha:a<=k)(hk:k<=128)(j:Nat):(Qd s a k)[j]? =if a<=j/\j<k then some 0 else s[j]? :=by
 unfold Qd zl;have e1:(s.take a).length=a:=by simp[h];omega
 have e2:(List.replicate (k-a) (0:Int)).length=k-a:=by simp
 by_cases hja:j<a
 ·rw[List.getElem?_append_left (by omega),List.getElem?_take,if_pos hja,if_neg (by omega)]
 ·rw[List.getElem?_append_right (by omega),e1];by_cases hjk:j<k
  ·rw[List.getElem?_append_left (by omega),List.getElem?_replicate,if_pos (by omega),if_pos (by omega)]
  ·rw[List.getElem?_append_right (by omega),e2,List.getElem?_drop,if_neg (by omega)];congr 1
   omega
theorem jX{s:List Int}{a k:Nat}(h:s.length=128)(ha:a<=k)(hk:k<128):(Qd s a k).set k 0=Qd s a (k+1):=by
 have hlen:k<(Qd s a k).length:=by unfold Qd zl;simp[h];omega
 apply List.ext_getElem?
 intro j;rw[List.getElem?_set,aH (k:=k) h ha (by omega),aH (k:=k+1) h (by omega) (by omega)];by_cases hj:k=j
 ·subst hj;rw[if_pos rfl,if_pos hlen,if_pos (by omega)]
 ·rw[if_neg hj];by_cases hc:a<=j/\j<k
  ·rw[if_pos hc,if_pos (by omega)]
  ·rw[if_neg hc,if_neg (by omega)]
end Go.Proofs.YtmnecpnkkapflaaGreat
