import Derived.Sort.OwnSortedInts
import Derived.Maps.RangeWalk
import Derived.Test.YtmnecpnkkapflaaGreatM04
import Derived.Test.YtmnecpnkkapflaaGreatM06
namespace Go.Proofs.YtmnecpnkkapflaaGreat
set_option maxHeartbeats 16000000
set_option maxRecDepth 1000000
set_option linter.unusedSimpArgs false
set_option linter.unusedVariables false
open Go.RowKit
theorem Ua{s:List Int}(h:(Ax s).2.2=0)(h0:(Ax s).1≠0):1<=(Ax s).1/\(Ax s).1<=512/\(Ax s).2.1.size<=40:=by
 unfold Ax at*;split at h
 ·rename_i h1
  rw[if_pos h1]at h0 ⊢;have h2:(Cv (Ak s 0 4) (Mv s)).2=0:=(by rw[h1]);rcases Z0 h2 with h3|h3
  ·exact absurd h3.1 h0
  ·exact⟨h3.1.1,h3.1.2,h3.size.2⟩
 ·cases h
theorem Wk{X Y:Int}{IMG:Nat->List Int}{i:Nat}{nm:ByteArray}{zn:LZ×(ByteArray->Bool)}(h:(Cz X Y IMG i nm zn).1=false):(Cz X Y IMG i nm zn).2=zn:=by
 unfold Cz at*;split
 ·rfl
 ·rename_i h1
  rw[if_neg h1]at h;split
  ·rename_i h2
   rw[h2]at h;cases h
  ·rfl
theorem LW.st{V:WE}{ob:Option Nat}{B:Nat->Option (Nat×Nat)}{z:LZ}{w w':World}{st:LS}(h:LW V ob B z w)(hf:Fr [V.E.gw] w w')(hk:LK0 V.E w' st):LW V ob B {z with st:=st} w':=by
 have hm:V.E.gw∈B4 V ob:=by simp[B4]
 have hg:=h.lo _ hm;have hgi:V.gi∉[V.E.gw]:=fun hx=>by
  rw[List.mem_singleton]at hx;have:=h.gi0;omega
 obtain⟨tk,hpb,htk⟩:=h.pb;have hv:=h.qo.v
 refine⟨h.e0,h.qo,h.img,h.secs.same (hf.block _ h.secs.lt hgi),h.gi0,h.lo,Nat.le_trans h.sz hf.size,h.small,hk,
  ⟨tk,hpb.same (hf.block _ hpb.lt (by have:=h.e0.m2;simp;omega)),htk⟩,h.no,fun i v hv=>?_,h.inj,h.q.fr hf (by simp at hv ⊢;omega) (fun g hg=>by have:=h.qo.b g hg;simp at this ⊢;omega),⟨h.zi.t,h.zi.q,h.zi.pot⟩⟩
 obtain⟨t,h1,h2,h3,h4,h5,h6,h7⟩:=h.yes i v hv;exact⟨t,h1,(hf.block _ (Aa h2) (fun hx=>by rw[List.mem_singleton]at hx;exact h6 (by rw[hx];exact hm))).trans h2,h3.same (hf.block _ h3.lt (fun hx=>by rw[List.mem_singleton]at hx;exact h7 (by rw[hx];exact hm))),h4,h5,h6,h7⟩
theorem LW.wipe{V:WE}{ob:Option Nat}{B:Nat->Option (Nat×Nat)}{z:LZ}{w:World}(h:LW V ob B z w){p:Nat}(hp:p<V.E.N){cs:Array Value}(hcs:hat w V.E.gw=some (.cells cs 47)):
  LW V ob B (Db p z) (w.setRow V.E.gw (Ap cs (p*128) (IV .u8 (zl 128)))):=
 h.st (Da _ _ _) ⟨(Bj _ _ _ _ h.e0.n1).trans h.k.look,h.k.want.store hcs hp (C2 128) (F0 128),h.k.claim.same (Bj _ _ _ _ h.e0.n4.symm),h.k.firm.same (Bj _ _ _ _ h.e0.n5.symm)⟩
theorem Ch.gw{V:WE}{but:List Nat}{ob:Option Nat}{B:Nat->Option (Nat×Nat)}(w:World)(cs:Array Value):Ch V but ob B w ob B (w.setRow V.E.gw cs):=
 Ch.of (Da _ _ _) (fun k hk=> .inr fun ha=>ha.1 (by rw[List.mem_singleton]at hk;subst hk;simp[B4]))
theorem pS{V:WE}{ob:Option Nat}{B:Nat->Option (Nat×Nat)}{z:LZ}{w:World}(h:LW V ob B z w)(i:Nat)(hi:i<4096)(v:Nat×Nat)(hB:B i=some v):
  Calls Tryz.prog 53 #[.pointer (some ⟨V.E.gl,0,none⟩),.int .i64 i] w fun e w'=>e= .returned (.tuple #[])/\∃ ob' B',LW V ob' B' (Ct V.E.X V.E.Y V.IMG i z) w'/\Ch V [] ob B w ob' B' w':=by
 obtain⟨hN4,hNX⟩:=h.img4096;have hsm:=h.small;have hY0:=h.e0.pos;obtain⟨gx,bx⟩:=v;obtain⟨t,hT,hgx,-⟩:=h.yes i _ hB;simp only at hgx;obtain⟨-,-,hrl,hz0,hz1,-⟩:=h.zi.t i t hT;have hp:=h.ptr i (by omega);rw[hB]at hp;simp only[Option.map_some,Lz]at hp;have hl:=h.k.look;unfold Bz at hl;have hDO:Ct V.E.X V.E.Y V.IMG i z=(G4 V.E.X V.E.Y V.IMG t.bk (Aq (nth t.raw 2)).toNat 0 (z,fun _=>false)).1:=by unfold Ct;rw[hT]
 rw[hDO];have hgxl:=Aa hgx;have hgxa:=(B7 w (.map #[] 0) hgx).1;have hk2:=Ig hrl t.en bx (show 2<18 by omega);have hc0:0<=Aq (nth t.raw 2):=by unfold Aq;omega
 have hc1:Aq (nth t.raw 2)<=1068:=by unfold Aq;omega
 have hcnt:=fun W hW=>U7 gx (inC t.raw t.en bx) (nth t.raw 2) W hW hk2 hz0 hz1
 rw[show(nth t.raw 2+127)/128=Aq (nth t.raw 2)from rfl]at hcnt;obtain⟨M,hM⟩:=Int.eq_ofNat_of_zero_le hc0;rw[hM]at hcnt ⊢;rw[Int.toNat_natCast];have hM1:M<=1068:=by omega
 have HCNT:=zA hcnt;have H:=zA h;have HT:=zA hT;have HF1:=zA (Be w (.map #[] 0) []);have HNB:=zA (NB.of (A6 w (.map #[] 0)).1);have hnbl:=(A6 w (.map #[] 0)).2;have HNA:=zA (Hi.new h (Nat.le_refl w.heap.size));have hnb0:=h.sz;clear hcnt h hT hDO hc0 hc1 hM;go_enter Tryz.func53,Tryz.ntmps53;go_wp2_with fail;generalize hW1:w.alloc (.map #[] 0)=w1 at*;refine(HCNT.out w1 hgxa).mono ?_;rintro e w2 ⟨rfl,hb2⟩;have hf2:Fr [] w1 w2:=Af hb2 [];have HMV2:=zA ((Ch.of (V:=V) (but:=[]) (ob:=ob) (B:=B) HF1.out (by simp)).trans (Ch.of hf2 (by simp)));have HF2:=zA (HF1.out.trans hf2);have HLW2:=zA ((H.out.fr HF1.out (by simp)).fr hf2 (by simp));have HNB2:=zA (HNB.out.same (hf2.block _ hnbl (by simp)));have hnbl2:=HNB2.out.lt;clear hb2 hf2 hp hl hgx hgxl hgxa;generalize hnb:w.heap.size=nb at*;go_wp2_with fail
 go_loopw [20] (fun v wr=>∃ (k:Nat) (zn:LZ×(ByteArray->Bool)) (n':Nat) (ob':Option Nat) (B':Nat->Option (Nat×Nat)),v= .int .i64 k/\k<=M/\n'<=k/\Hid (LW V ob' B' zn.1 wr)/\Hid (NB wr nb n' zn.2)/\Hid (Ch V [nb] ob B w2 ob' B' wr)
   /\Hid (G4 V.E.X V.E.Y V.IMG t.bk M 0 (z,fun _=>false)=G4 V.E.X V.E.Y V.IMG t.bk (M-k) k zn)/\Hid (K3 z zn.1)) (fun v wr=>M-(intOf v).toNat)
 case atStart=>exact⟨0,(z,fun _=>false),0,ob,B,rfl,Nat.zero_le _,Nat.le_refl _,HLW2,HNB2,zA (Ch.refl _ _ _ _ _),zA rfl,zA (K3.refl _)⟩
 case round=>
  obtain⟨k,zn,n',ob',B',rfl,hk,hn',HLW,HNBR,HMV,HE,HK⟩:=hrel;have hlw:=HLW.out;obtain⟨t',hT',hbk⟩:=HK.out i t HT.out;have hB':=HMV.out.ext i _ hB;obtain⟨t'',hT'',hgx,hib,-⟩:=hlw.yes i _ hB';rw[hT']at hT'';obtain rfl:t'=t'':=(by injection hT'');simp only at hgx hib;obtain⟨-,-,hrl',-,-,-,-,hvals⟩:=hlw.zi.t i t' hT';have k19:=bB hrl' t'.en bx;have hz8:=Fj hrl' t'.en bx;have hl:=hlw.k.look;unfold Bz at hl;rw[hbk]at hib hvals;generalize hc8:inC t'.raw t'.en bx=c8 at hgx k19 hz8;have j19:∀ h:19<c8.size,c8[19]'h=Value.map (some bx):=fun h=>by
   rw[Array.getElem?_eq_getElem h]at k19;exact Option.some.inj k19
  have z19:19<c8.size:=(by omega);have hlkp:=hib.1.look (p:=(k:Int)) ⟨by omega,by omega⟩;clear hlw k19 hc8 hT'' hib;by_cases hkM:k<M
  ·have hkM':(k:Int)<(M:Int):=(by omega);have hstep:G4 V.E.X V.E.Y V.IMG t.bk (M-k) k zn=G4 V.E.X V.E.Y V.IMG t.bk (M-(k+1)) (k+1) (match t.bk k with|none=>zn|some p=>Cy V.E.X V.E.Y V.IMG p.toNat zn):=by
    rw[show M-k=(M-(k+1))+1 by omega];rfl
   have HE2:=zA (HE.out.trans hstep);clear hstep;cases hbkk:t.bk k with
   |none=>
    have hE:=HE2.out;rw[hbkk]at hE hlkp;have HE3:=zA hE;clear hE;go_wp2_with fail;go_roundw
    case rel=>exact⟨k+1,zn,n',ob',B',by go_num,by omega,by omega,HLW,HNBR,HMV,HE3,HK⟩
    case measure=>(show M-(k+1)<M-k);omega
   |some p=>
    have hpd:=hvals _ _ hbkk;have hE:=HE2.out;rw[hbkk]at hE hlkp;have HE3:=zA hE;unfold isD at hpd;have hpd2:=of_decide_eq_true hpd;obtain⟨at',rfl⟩:=Int.eq_ofNat_of_zero_le (show 0<=p by omega);have hatN:at'<V.E.N:=(by omega);have hat0:(0:Int)<=(at':Int):=Int.natCast_nonneg _;have hat1:(at':Int)<(V.E.N:Int):=(by omega);obtain⟨csw,hcsw,hldw,hlenw,hbyw⟩:=HLW.out.k.want.load hatN;obtain⟨ino,nm,er,hR⟩:∃ ino nm er,Ax (zn.1.st.S at')=(ino,nm,er):=⟨_,_,_,rfl⟩;have HRS:Hid (∀ W,Calls Tryz.prog 86 #[.agg (IV .u8 (zn.1.st.S at'))] W fun e w'=>e= .returned (.tuple #[.agg #[.int .i64 ino,.string nm],.int .i64 er])/\Below W.heap.size W w'):=zA (fun W=>by
     have h:=bL (zn.1.st.S at') hlenw hbyw W;rw[hR]at h;exact h)
    have HOKS:Hid (er=0->ino≠0->1<=ino/\ino<=512/\nm.size<=40):=zA (by
     have h:=Ua (s:=zn.1.st.S at');rw[hR]at h;exact h)
    have HSZ:Hid (Cy V.E.X V.E.Y V.IMG at' zn=if er=0/\ino=0 then zn else if er=0/\ino<=V.E.Y/\(Cz V.E.X V.E.Y V.IMG ino.toNat nm zn).1=true then(Cz V.E.X V.E.Y V.IMG ino.toNat nm zn).2 else(Db at' zn.1,zn.2)):=zA (by
     unfold Cy;rw[hR])
    have HE3:Hid (G4 V.E.X V.E.Y V.IMG t.bk M 0 (z,fun _=>false)=G4 V.E.X V.E.Y V.IMG t.bk (M-(k+1)) (k+1) (Cy V.E.X V.E.Y V.IMG at' zn)):=zA (by
     have h:=HE2.out;rw[hbkk]at h;exact h)
    have hcw0:=HLW.out.k.want;obtain⟨csw',hcsw',hsw,-⟩:=hcw0;rw[hcsw]at hcsw';obtain rfl:csw=csw':=(by(have h1:=Option.some.inj hcsw';injection h1))
    have hst:∀ raw' w',Dd raw' 128 (at'*128) V.E.gw (IV .u8 (zl 128)) w' (some (.cells csw 47 (0,0)))= .ok () (w'.setRow V.E.gw (Ap csw (at'*128) (IV .u8 (zl 128)))):=fun raw' w'=>
     Cj (by omega) (by simp) (by simp)
    clear hE HE2 hR hlenw hbyw hcsw' hpd hvals;go_wp2_with fail;refine(HRS.out wr).mono ?_;rintro e w3 ⟨rfl,hb3⟩;have hf4:Fr [] wr (w3.alloc (.cells #[.int .i64 ino,.string nm] 125)):=(Af hb3 []).trans (Be _ _ _);have HLW4:=zA (HLW.out.fr hf4 (by simp));have HNB4:=zA (HNBR.out.same (hf4.block _ HNBR.out.lt (by simp)));have HMV4:=zA (HMV.out.trans (Ch.of hf4 (by simp)));have hl4:=(hf4.block _ (Aa hl) (by simp)).trans hl;have hcsw4:=(hf4.block _ (Aa hcsw) (by simp)).trans hcsw;have hsl4:=(A6 w3 (.cells #[.int .i64 ino,.string nm] 125)).1;have hz4:=(A6 w3 (.cells #[.int .i64 ino,.string nm] 125)).2;have hl4l:=Aa hl4;have HSA:=zA (Hi.new HLW.out (show wr.heap.size<=w3.heap.size from hb3.size));have hnbr:=HNBR.out.lt;have hwr3:=hb3.size;have hw4l:=Aa hcsw4;clear hf4 hb3 hl hcsw hgx HLW HNBR HMV hlkp;cases hed:(er==0)with
    |false=>
     have hen:¬ er=0:=(by simpa using hed);have hedn:(er !=0)=true:=(by simpa using hen);go_wp2_with fail;generalize w3.alloc (.cells #[.int .i64 ino,.string nm] 125)=w4 at*;generalize w3.heap.size=sb at*;refine wp_region_noPanic ?_;refine wp_region_held_drew (S:=(fun w'=>hat w' V.E.gl=some (.cells #[.int .i64 V.E.X,.int .i64 V.E.Y,V.E.img,.slice (some ⟨V.E.gw,0,none⟩) V.E.N V.E.cw,.map (some V.E.bc),.map (some V.E.bt),.map (some V.E.bf),V.E.qf] 95)/\hat w' sb=some (.cells #[.int .i64 ino,.string nm] 125))) (by kernel_rfl) ⟨hl4,hsl4⟩ (fun hHeld=>?_);refine wpAnyH_take (i:=0) (oi:={dst:=some 52,op:=Op.move (Operand.tmp 10),type:=29,pos:= "look.go:154",after:= #[],guard:=none}) (v:=?va0) rfl (by kernel_rfl) (by kernel_rfl) (by kernel_rfl) (fun _ _ _ h=>h) (Or.inl ⟨by rfl,?hya0⟩) (by assumption) ?resta0
     case hya0=>(intro w' hSw;(try dsimp only at hSw);go_simp;(try with_reducible rfl))
     try simp only[Act.put,List.setIfInBounds_toArray,List.set_cons_zero,List.set_cons_succ]
     refine wpAnyH_take (i:=1) (oi:={dst:=some 53,op:=Op.binOp BinOp.neq 29 (Operand.tmp 52) (Operand.const (Value.int IntKind.i64 0)) 29,type:=4,pos:= "look.go:154",after:= #[{on:=0,ground:=Ground.data}],guard:=none}) (v:=?va1) rfl (by kernel_rfl) (by kernel_rfl) (by kernel_rfl) (fun _ _ _ h=>h) (Or.inl ⟨by rfl,?hya1⟩) (by assumption) ?resta1
     case hya1=>(intro w' hSw;(try dsimp only at hSw);go_simp;(try with_reducible rfl))
     try simp only[Act.put,List.setIfInBounds_toArray,List.set_cons_zero,List.set_cons_succ]
     refine wpAnyH_take (i:=2) (oi:={dst:=some 54,op:=Op.move (Operand.tmp 53),type:=4,pos:= "look.go:154",after:= #[{on:=1,ground:=Ground.data}],guard:=none}) (v:=?va2) rfl (by kernel_rfl) (by kernel_rfl) (by kernel_rfl) (fun _ _ _ h=>h) (Or.inl ⟨by rfl,?hya2⟩) (by assumption) ?resta2
     case hya2=>(intro w' hSw;(try dsimp only at hSw);go_simp;(try with_reducible rfl))
     try simp only[Act.put,List.setIfInBounds_toArray,List.set_cons_zero,List.set_cons_succ]
     refine wpAnyH_take (i:=3) (oi:={dst:=some 55,op:=Op.fieldAddr 125 (Operand.tmp 9) 0,type:=0,pos:= "look.go:154",after:= #[{on:=2,ground:=Ground.guard}],guard:=some (2,false)}) (v:=undef) rfl (by kernel_rfl) (by kernel_rfl) (by kernel_rfl) (fun _ _ _ h=>h) (Or.inr ⟨by rfl,rfl⟩) (by assumption) ?_;try simp only[Act.put,List.setIfInBounds_toArray,List.set_cons_zero,List.set_cons_succ]
     refine wpAnyH_take (i:=4) (oi:={dst:=some 56,op:=Op.load 3 (Operand.tmp 55),type:=3,pos:= "look.go:154",after:= #[{on:=3,ground:=Ground.data},{on:=2,ground:=Ground.guard}],guard:=some (2,false)}) (v:=undef) rfl (by kernel_rfl) (by kernel_rfl) (by kernel_rfl) (fun _ _ _ h=>h) (Or.inr ⟨by rfl,rfl⟩) (by assumption) ?_;try simp only[Act.put,List.setIfInBounds_toArray,List.set_cons_zero,List.set_cons_succ]
     refine wpAnyH_take (i:=5) (oi:={dst:=some 57,op:=Op.move (Operand.tmp 0),type:=89,pos:= "look.go:154",after:= #[{on:=2,ground:=Ground.guard}],guard:=some (2,false)}) (v:=undef) rfl (by kernel_rfl) (by kernel_rfl) (by kernel_rfl) (fun _ _ _ h=>h) (Or.inr ⟨by rfl,rfl⟩) (by assumption) ?_;try simp only[Act.put,List.setIfInBounds_toArray,List.set_cons_zero,List.set_cons_succ]
     refine wpAnyH_take (i:=6) (oi:={dst:=some 58,op:=Op.nilCheck (Operand.tmp 57),type:=0,pos:= "look.go:154",after:= #[{on:=5,ground:=Ground.data},{on:=2,ground:=Ground.guard}],guard:=some (2,false)}) (v:=undef) rfl (by kernel_rfl) (by kernel_rfl) (by kernel_rfl) (fun _ _ _ h=>h) (Or.inr ⟨by rfl,rfl⟩) (by assumption) ?_;try simp only[Act.put,List.setIfInBounds_toArray,List.set_cons_zero,List.set_cons_succ]
     refine wpAnyH_take (i:=7) (oi:={dst:=some 59,op:=Op.fieldAddr 95 (Operand.tmp 58) 0,type:=0,pos:= "look.go:154",after:= #[{on:=6,ground:=Ground.data},{on:=2,ground:=Ground.guard}],guard:=some (2,false)}) (v:=undef) rfl (by kernel_rfl) (by kernel_rfl) (by kernel_rfl) (fun _ _ _ h=>h) (Or.inr ⟨by rfl,rfl⟩) (by assumption) ?_;try simp only[Act.put,List.setIfInBounds_toArray,List.set_cons_zero,List.set_cons_succ]
     refine wpAnyH_take (i:=8) (oi:={dst:=some 60,op:=Op.fieldAddr 68 (Operand.tmp 59) 1,type:=0,pos:= "look.go:154",after:= #[{on:=7,ground:=Ground.data},{on:=2,ground:=Ground.guard}],guard:=some (2,false)}) (v:=undef) rfl (by kernel_rfl) (by kernel_rfl) (by kernel_rfl) (fun _ _ _ h=>h) (Or.inr ⟨by rfl,rfl⟩) (by assumption) ?_;try simp only[Act.put,List.setIfInBounds_toArray,List.set_cons_zero,List.set_cons_succ]
     refine wpAnyH_take (i:=9) (oi:={dst:=some 61,op:=Op.load 3 (Operand.tmp 60),type:=3,pos:= "look.go:154",after:= #[{on:=8,ground:=Ground.data},{on:=2,ground:=Ground.guard}],guard:=some (2,false)}) (v:=undef) rfl (by kernel_rfl) (by kernel_rfl) (by kernel_rfl) (fun _ _ _ h=>h) (Or.inr ⟨by rfl,rfl⟩) (by assumption) ?_;try simp only[Act.put,List.setIfInBounds_toArray,List.set_cons_zero,List.set_cons_succ]
     refine wpAnyH_take (i:=10) (oi:={dst:=some 62,op:=Op.binOp BinOp.gtr 3 (Operand.tmp 56) (Operand.tmp 61) 3,type:=4,pos:= "look.go:154",after:= #[{on:=4,ground:=Ground.data},{on:=9,ground:=Ground.data},{on:=2,ground:=Ground.guard}],guard:=some (2,false)}) (v:=undef) rfl (by kernel_rfl) (by kernel_rfl) (by kernel_rfl) (fun _ _ _ h=>h) (Or.inr ⟨by rfl,rfl⟩) (by assumption) ?_;try simp only[Act.put,List.setIfInBounds_toArray,List.set_cons_zero,List.set_cons_succ]
     refine wpAnyH_take (i:=11) (oi:={dst:=some 63,op:=Op.pick (Operand.tmp 54) (Operand.const (Value.bool true)) (Operand.tmp 62),type:=4,pos:= "look.go:154",after:= #[{on:=2,ground:=Ground.data},{on:=10,ground:=Ground.data}],guard:=none}) (v:=?va11) rfl (by kernel_rfl) (by kernel_rfl) (by kernel_rfl) (fun _ _ _ h=>h) (Or.inl ⟨by rfl,?hya11⟩) (by assumption) ?resta11
     case hya11=>(intro w' hSw;(try dsimp only at hSw);go_simp;(try with_reducible rfl))
     try simp only[Act.put,List.setIfInBounds_toArray,List.set_cons_zero,List.set_cons_succ]
     refine wpAnyH_take (i:=12) (oi:={dst:=some 64,op:=Op.move (Operand.tmp 63),type:=4,pos:= "look.go:154",after:= #[{on:=11,ground:=Ground.data},{on:=2,ground:=Ground.chain}],guard:=none}) (v:=?va12) rfl (by kernel_rfl) (by kernel_rfl) (by kernel_rfl) (fun _ _ _ h=>h) (Or.inl ⟨by rfl,?hya12⟩) (by assumption) ?resta12
     case hya12=>(intro w' hSw;(try dsimp only at hSw);go_simp;(try with_reducible rfl))
     try simp only[Act.put,List.setIfInBounds_toArray,List.set_cons_zero,List.set_cons_succ]
     refine wpAnyH_take (i:=13) (oi:={dst:=some 65,op:=Op.move (Operand.tmp 0),type:=89,pos:= "look.go:154",after:= #[{on:=12,ground:=Ground.guard}],guard:=some (12,false)}) (v:=undef) rfl (by kernel_rfl) (by kernel_rfl) (by kernel_rfl) (fun _ _ _ h=>h) (Or.inr ⟨by rfl,rfl⟩) (by assumption) ?_;try simp only[Act.put,List.setIfInBounds_toArray,List.set_cons_zero,List.set_cons_succ]
     refine wpAnyH_take (i:=14) (oi:={dst:=some 66,op:=Op.load 125 (Operand.tmp 9),type:=125,pos:= "look.go:154",after:= #[{on:=12,ground:=Ground.guard}],guard:=some (12,false)}) (v:=undef) rfl (by kernel_rfl) (by kernel_rfl) (by kernel_rfl) (fun _ _ _ h=>h) (Or.inr ⟨by rfl,rfl⟩) (by assumption) ?_;try simp only[Act.put,List.setIfInBounds_toArray,List.set_cons_zero,List.set_cons_succ]
     refine wpAnyH_take (i:=15) (oi:={dst:=some 67,op:=Op.move (Operand.tmp 5),type:=136,pos:= "look.go:154",after:= #[{on:=12,ground:=Ground.guard}],guard:=some (12,false)}) (v:=undef) rfl (by kernel_rfl) (by kernel_rfl) (by kernel_rfl) (fun _ _ _ h=>h) (Or.inr ⟨by rfl,rfl⟩) (by assumption) ?_;try simp only[Act.put,List.setIfInBounds_toArray,List.set_cons_zero,List.set_cons_succ]
     refine wpAnyH_take (i:=16) (oi:={dst:=some 68,op:=Op.call {callee:=Callee.value (Operand.func 87),args:= #[Operand.tmp 65,Operand.tmp 66,Operand.tmp 67],argTypes:= #[89,125,136]},type:=4,pos:= "look.go:154",after:= #[{on:=13,ground:=Ground.data},{on:=14,ground:=Ground.data},{on:=15,ground:=Ground.data},{on:=12,ground:=Ground.chain},{on:=12,ground:=Ground.guard}],guard:=some (12,false)}) (v:=undef) rfl (by kernel_rfl) (by kernel_rfl) (by kernel_rfl) (fun _ _ _ h=>h) (Or.inr ⟨by rfl,rfl⟩) (by assumption) ?_;try simp only[Act.put,List.setIfInBounds_toArray,List.set_cons_zero,List.set_cons_succ]
     refine wpAnyH_take (i:=17) (oi:={dst:=some 69,op:=Op.unOp UnOp.not 4 (Operand.tmp 68),type:=4,pos:= "look.go:154",after:= #[{on:=16,ground:=Ground.data},{on:=12,ground:=Ground.guard}],guard:=some (12,false)}) (v:=undef) rfl (by kernel_rfl) (by kernel_rfl) (by kernel_rfl) (fun _ _ _ h=>h) (Or.inr ⟨by rfl,rfl⟩) (by assumption) ?_;try simp only[Act.put,List.setIfInBounds_toArray,List.set_cons_zero,List.set_cons_succ]
     refine wpAnyH_take (i:=18) (oi:={dst:=some 70,op:=Op.pick (Operand.tmp 64) (Operand.const (Value.bool true)) (Operand.tmp 69),type:=4,pos:= "look.go:154",after:= #[{on:=12,ground:=Ground.data},{on:=17,ground:=Ground.data}],guard:=none}) (v:=?va18) rfl (by kernel_rfl) (by kernel_rfl) (by kernel_rfl) (fun _ _ _ h=>h) (Or.inl ⟨by rfl,?hya18⟩) (by assumption) ?resta18
     case hya18=>(intro w' hSw;(try dsimp only at hSw);go_simp;(try with_reducible rfl))
     try simp only[Act.put,List.setIfInBounds_toArray,List.set_cons_zero,List.set_cons_succ]
     refine wpAnyH_done (by kernel_rfl) (NoPanic.normal ?_) _;clear hcsw4 hst;obtain⟨cswx,hcswx,hszx,-⟩:=HLW4.out.k.want;have hstx:∀ raw' w',Dd raw' 128 (at'*128) V.E.gw (IV .u8 (zl 128)) w' (some (.cells cswx 47 (0,0)))= .ok () (w'.setRow V.E.gw (Ap cswx (at'*128) (IV .u8 (zl 128)))):=fun raw' w'=>Cj (by omega) (by simp) (by simp)
     have hcswl:=Aa hcswx;go_wp2_with fail;go_roundw
     case rel=>
      have hax:=HMV4.out.apart nb hnbl2 HNA.out;have hnw:nb≠V.E.gw:=fun e=>hax.1 (by rw[e];simp[B4])
      refine⟨k+1,(Db at' zn.1,zn.2),n',ob',B',by go_num,by omega,by omega,zA ((HLW4.out.fr (Bb (Fr.refl [] _)) (by simp)).wipe hatN hcswx),zA ((HNB4.out.same (Sg _ _)).same (Bj _ _ _ _ hnw)),zA ((HMV4.out.trans (Ch.of (Bb (Fr.refl [] _)) (by simp))).trans (Ch.gw _ _)),zA ?_,zA ?_⟩
      ·rw[HE3.out,HSZ.out];rw[if_neg (fun h=>hen h.1),if_neg (fun h=>hen h.1)]
      ·exact HK.out
     case measure=>(show M-(k+1)<M-k);omega
    |true=>
     have hen:er=0:=(by simpa using hed);have hedn:(er !=0)=false:=(by simpa using hen);cases hid:(ino==0)with
     |true=>
      have hin:ino=0:=(by simpa using hid);have HIN:=zA hin;have HEN:=zA hen;clear hin hen;go_wp2_with fail;go_roundw
      case rel=>
       refine⟨k+1,zn,n',ob',B',by go_num,by omega,by omega,HLW4,HNB4,HMV4,zA ?_,HK⟩;rw[HE3.out,HSZ.out,if_pos ⟨HEN.out,HIN.out⟩]
      case measure=>(show M-(k+1)<M-k);omega
     |false=>
      have hin:¬ ino=0:=(by simpa using hid);obtain⟨hi0,hi1,hnm⟩:=HOKS.out hen hin;have HEN:=zA hen;clear hen;cases hyd:decide (V.E.Y<ino)with
      |true=>
       have hyn:V.E.Y<ino:=of_decide_eq_true hyd;go_wp2_with fail;generalize w3.alloc (.cells #[.int .i64 ino,.string nm] 125)=w4 at*;generalize w3.heap.size=sb at*;refine wp_region_noPanic ?_;refine wp_region_held_drew (S:=(fun w'=>hat w' V.E.gl=some (.cells #[.int .i64 V.E.X,.int .i64 V.E.Y,V.E.img,.slice (some ⟨V.E.gw,0,none⟩) V.E.N V.E.cw,.map (some V.E.bc),.map (some V.E.bt),.map (some V.E.bf),V.E.qf] 95)/\hat w' sb=some (.cells #[.int .i64 ino,.string nm] 125))) (by kernel_rfl) ⟨hl4,hsl4⟩ (fun hHeld=>?_);refine wpAnyH_take (i:=0) (oi:={dst:=some 52,op:=Op.move (Operand.tmp 10),type:=29,pos:= "look.go:154",after:= #[],guard:=none}) (v:=?vb0) rfl (by kernel_rfl) (by kernel_rfl) (by kernel_rfl) (fun _ _ _ h=>h) (Or.inl ⟨by rfl,?hyb0⟩) (by assumption) ?restb0
       case hyb0=>(intro w' hSw;(try dsimp only at hSw);go_simp;(try with_reducible rfl))
       try simp only[Act.put,List.setIfInBounds_toArray,List.set_cons_zero,List.set_cons_succ]
       refine wpAnyH_take (i:=1) (oi:={dst:=some 53,op:=Op.binOp BinOp.neq 29 (Operand.tmp 52) (Operand.const (Value.int IntKind.i64 0)) 29,type:=4,pos:= "look.go:154",after:= #[{on:=0,ground:=Ground.data}],guard:=none}) (v:=?vb1) rfl (by kernel_rfl) (by kernel_rfl) (by kernel_rfl) (fun _ _ _ h=>h) (Or.inl ⟨by rfl,?hyb1⟩) (by assumption) ?restb1
       case hyb1=>(intro w' hSw;(try dsimp only at hSw);go_simp;(try with_reducible rfl))
       try simp only[Act.put,List.setIfInBounds_toArray,List.set_cons_zero,List.set_cons_succ]
       refine wpAnyH_take (i:=2) (oi:={dst:=some 54,op:=Op.move (Operand.tmp 53),type:=4,pos:= "look.go:154",after:= #[{on:=1,ground:=Ground.data}],guard:=none}) (v:=?vb2) rfl (by kernel_rfl) (by kernel_rfl) (by kernel_rfl) (fun _ _ _ h=>h) (Or.inl ⟨by rfl,?hyb2⟩) (by assumption) ?restb2
       case hyb2=>(intro w' hSw;(try dsimp only at hSw);go_simp;(try with_reducible rfl))
       try simp only[Act.put,List.setIfInBounds_toArray,List.set_cons_zero,List.set_cons_succ]
       refine wpAnyH_take (i:=3) (oi:={dst:=some 55,op:=Op.fieldAddr 125 (Operand.tmp 9) 0,type:=0,pos:= "look.go:154",after:= #[{on:=2,ground:=Ground.guard}],guard:=some (2,false)}) (v:=?vb3) rfl (by kernel_rfl) (by kernel_rfl) (by kernel_rfl) (fun _ _ _ h=>h) (Or.inl ⟨by rfl,?hyb3⟩) (by assumption) ?restb3
       case hyb3=>(intro w' hSw;(try dsimp only at hSw);go_simp;(try with_reducible rfl))
       try simp only[Act.put,List.setIfInBounds_toArray,List.set_cons_zero,List.set_cons_succ]
       refine wpAnyH_take (i:=4) (oi:={dst:=some 56,op:=Op.load 3 (Operand.tmp 55),type:=3,pos:= "look.go:154",after:= #[{on:=3,ground:=Ground.data},{on:=2,ground:=Ground.guard}],guard:=some (2,false)}) (v:=?vb4) rfl (by kernel_rfl) (by kernel_rfl) (by kernel_rfl) (fun _ _ _ h=>h) (Or.inl ⟨by rfl,?hyb4⟩) (by assumption) ?restb4
       case hyb4=>(intro w' hSw;(try dsimp only at hSw);go_simp;(try with_reducible rfl))
       try simp only[Act.put,List.setIfInBounds_toArray,List.set_cons_zero,List.set_cons_succ]
       refine wpAnyH_take (i:=5) (oi:={dst:=some 57,op:=Op.move (Operand.tmp 0),type:=89,pos:= "look.go:154",after:= #[{on:=2,ground:=Ground.guard}],guard:=some (2,false)}) (v:=?vb5) rfl (by kernel_rfl) (by kernel_rfl) (by kernel_rfl) (fun _ _ _ h=>h) (Or.inl ⟨by rfl,?hyb5⟩) (by assumption) ?restb5
       case hyb5=>(intro w' hSw;(try dsimp only at hSw);go_simp;(try with_reducible rfl))
       try simp only[Act.put,List.setIfInBounds_toArray,List.set_cons_zero,List.set_cons_succ]
       refine wpAnyH_take (i:=6) (oi:={dst:=some 58,op:=Op.nilCheck (Operand.tmp 57),type:=0,pos:= "look.go:154",after:= #[{on:=5,ground:=Ground.data},{on:=2,ground:=Ground.guard}],guard:=some (2,false)}) (v:=?vb6) rfl (by kernel_rfl) (by kernel_rfl) (by kernel_rfl) (fun _ _ _ h=>h) (Or.inl ⟨by rfl,?hyb6⟩) (by assumption) ?restb6
       case hyb6=>(intro w' hSw;(try dsimp only at hSw);go_simp;(try with_reducible rfl))
       try simp only[Act.put,List.setIfInBounds_toArray,List.set_cons_zero,List.set_cons_succ]
       refine wpAnyH_take (i:=7) (oi:={dst:=some 59,op:=Op.fieldAddr 95 (Operand.tmp 58) 0,type:=0,pos:= "look.go:154",after:= #[{on:=6,ground:=Ground.data},{on:=2,ground:=Ground.guard}],guard:=some (2,false)}) (v:=?vb7) rfl (by kernel_rfl) (by kernel_rfl) (by kernel_rfl) (fun _ _ _ h=>h) (Or.inl ⟨by rfl,?hyb7⟩) (by assumption) ?restb7
       case hyb7=>(intro w' hSw;(try dsimp only at hSw);go_simp;(try with_reducible rfl))
       try simp only[Act.put,List.setIfInBounds_toArray,List.set_cons_zero,List.set_cons_succ]
       refine wpAnyH_take (i:=8) (oi:={dst:=some 60,op:=Op.fieldAddr 68 (Operand.tmp 59) 1,type:=0,pos:= "look.go:154",after:= #[{on:=7,ground:=Ground.data},{on:=2,ground:=Ground.guard}],guard:=some (2,false)}) (v:=?vb8) rfl (by kernel_rfl) (by kernel_rfl) (by kernel_rfl) (fun _ _ _ h=>h) (Or.inl ⟨by rfl,?hyb8⟩) (by assumption) ?restb8
       case hyb8=>(intro w' hSw;(try dsimp only at hSw);go_simp;(try with_reducible rfl))
       try simp only[Act.put,List.setIfInBounds_toArray,List.set_cons_zero,List.set_cons_succ]
       refine wpAnyH_take (i:=9) (oi:={dst:=some 61,op:=Op.load 3 (Operand.tmp 60),type:=3,pos:= "look.go:154",after:= #[{on:=8,ground:=Ground.data},{on:=2,ground:=Ground.guard}],guard:=some (2,false)}) (v:=?vb9) rfl (by kernel_rfl) (by kernel_rfl) (by kernel_rfl) (fun _ _ _ h=>h) (Or.inl ⟨by rfl,?hyb9⟩) (by assumption) ?restb9
       case hyb9=>(intro w' hSw;(try dsimp only at hSw);go_simp;(try with_reducible rfl))
       try simp only[Act.put,List.setIfInBounds_toArray,List.set_cons_zero,List.set_cons_succ]
       refine wpAnyH_take (i:=10) (oi:={dst:=some 62,op:=Op.binOp BinOp.gtr 3 (Operand.tmp 56) (Operand.tmp 61) 3,type:=4,pos:= "look.go:154",after:= #[{on:=4,ground:=Ground.data},{on:=9,ground:=Ground.data},{on:=2,ground:=Ground.guard}],guard:=some (2,false)}) (v:=?vb10) rfl (by kernel_rfl) (by kernel_rfl) (by kernel_rfl) (fun _ _ _ h=>h) (Or.inl ⟨by rfl,?hyb10⟩) (by assumption) ?restb10
       case hyb10=>(intro w' hSw;(try dsimp only at hSw);go_simp;(try with_reducible rfl))
       try simp only[Act.put,List.setIfInBounds_toArray,List.set_cons_zero,List.set_cons_succ]
       refine wpAnyH_take (i:=11) (oi:={dst:=some 63,op:=Op.pick (Operand.tmp 54) (Operand.const (Value.bool true)) (Operand.tmp 62),type:=4,pos:= "look.go:154",after:= #[{on:=2,ground:=Ground.data},{on:=10,ground:=Ground.data}],guard:=none}) (v:=?vb11) rfl (by kernel_rfl) (by kernel_rfl) (by kernel_rfl) (fun _ _ _ h=>h) (Or.inl ⟨by rfl,?hyb11⟩) (by assumption) ?restb11
       case hyb11=>(intro w' hSw;(try dsimp only at hSw);go_simp;(try with_reducible rfl))
       try simp only[Act.put,List.setIfInBounds_toArray,List.set_cons_zero,List.set_cons_succ]
       refine wpAnyH_take (i:=12) (oi:={dst:=some 64,op:=Op.move (Operand.tmp 63),type:=4,pos:= "look.go:154",after:= #[{on:=11,ground:=Ground.data},{on:=2,ground:=Ground.chain}],guard:=none}) (v:=?vb12) rfl (by kernel_rfl) (by kernel_rfl) (by kernel_rfl) (fun _ _ _ h=>h) (Or.inl ⟨by rfl,?hyb12⟩) (by assumption) ?restb12
       case hyb12=>(intro w' hSw;(try dsimp only at hSw);go_simp;(try with_reducible rfl))
       try simp only[Act.put,List.setIfInBounds_toArray,List.set_cons_zero,List.set_cons_succ]
       refine wpAnyH_take (i:=13) (oi:={dst:=some 65,op:=Op.move (Operand.tmp 0),type:=89,pos:= "look.go:154",after:= #[{on:=12,ground:=Ground.guard}],guard:=some (12,false)}) (v:=undef) rfl (by kernel_rfl) (by kernel_rfl) (by kernel_rfl) (fun _ _ _ h=>h) (Or.inr ⟨by rfl,rfl⟩) (by assumption) ?_;try simp only[Act.put,List.setIfInBounds_toArray,List.set_cons_zero,List.set_cons_succ]
       refine wpAnyH_take (i:=14) (oi:={dst:=some 66,op:=Op.load 125 (Operand.tmp 9),type:=125,pos:= "look.go:154",after:= #[{on:=12,ground:=Ground.guard}],guard:=some (12,false)}) (v:=undef) rfl (by kernel_rfl) (by kernel_rfl) (by kernel_rfl) (fun _ _ _ h=>h) (Or.inr ⟨by rfl,rfl⟩) (by assumption) ?_;try simp only[Act.put,List.setIfInBounds_toArray,List.set_cons_zero,List.set_cons_succ]
       refine wpAnyH_take (i:=15) (oi:={dst:=some 67,op:=Op.move (Operand.tmp 5),type:=136,pos:= "look.go:154",after:= #[{on:=12,ground:=Ground.guard}],guard:=some (12,false)}) (v:=undef) rfl (by kernel_rfl) (by kernel_rfl) (by kernel_rfl) (fun _ _ _ h=>h) (Or.inr ⟨by rfl,rfl⟩) (by assumption) ?_;try simp only[Act.put,List.setIfInBounds_toArray,List.set_cons_zero,List.set_cons_succ]
       refine wpAnyH_take (i:=16) (oi:={dst:=some 68,op:=Op.call {callee:=Callee.value (Operand.func 87),args:= #[Operand.tmp 65,Operand.tmp 66,Operand.tmp 67],argTypes:= #[89,125,136]},type:=4,pos:= "look.go:154",after:= #[{on:=13,ground:=Ground.data},{on:=14,ground:=Ground.data},{on:=15,ground:=Ground.data},{on:=12,ground:=Ground.chain},{on:=12,ground:=Ground.guard}],guard:=some (12,false)}) (v:=undef) rfl (by kernel_rfl) (by kernel_rfl) (by kernel_rfl) (fun _ _ _ h=>h) (Or.inr ⟨by rfl,rfl⟩) (by assumption) ?_;try simp only[Act.put,List.setIfInBounds_toArray,List.set_cons_zero,List.set_cons_succ]
       refine wpAnyH_take (i:=17) (oi:={dst:=some 69,op:=Op.unOp UnOp.not 4 (Operand.tmp 68),type:=4,pos:= "look.go:154",after:= #[{on:=16,ground:=Ground.data},{on:=12,ground:=Ground.guard}],guard:=some (12,false)}) (v:=undef) rfl (by kernel_rfl) (by kernel_rfl) (by kernel_rfl) (fun _ _ _ h=>h) (Or.inr ⟨by rfl,rfl⟩) (by assumption) ?_;try simp only[Act.put,List.setIfInBounds_toArray,List.set_cons_zero,List.set_cons_succ]
       refine wpAnyH_take (i:=18) (oi:={dst:=some 70,op:=Op.pick (Operand.tmp 64) (Operand.const (Value.bool true)) (Operand.tmp 69),type:=4,pos:= "look.go:154",after:= #[{on:=12,ground:=Ground.data},{on:=17,ground:=Ground.data}],guard:=none}) (v:=?vb18) rfl (by kernel_rfl) (by kernel_rfl) (by kernel_rfl) (fun _ _ _ h=>h) (Or.inl ⟨by rfl,?hyb18⟩) (by assumption) ?restb18
       case hyb18=>(intro w' hSw;(try dsimp only at hSw);go_simp;(try with_reducible rfl))
       try simp only[Act.put,List.setIfInBounds_toArray,List.set_cons_zero,List.set_cons_succ]
       refine wpAnyH_done (by kernel_rfl) (NoPanic.normal ?_) _;clear hcsw4 hst;obtain⟨cswx,hcswx,hszx,-⟩:=HLW4.out.k.want;have hstx:∀ raw' w',Dd raw' 128 (at'*128) V.E.gw (IV .u8 (zl 128)) w' (some (.cells cswx 47 (0,0)))= .ok () (w'.setRow V.E.gw (Ap cswx (at'*128) (IV .u8 (zl 128)))):=fun raw' w'=>Cj (by omega) (by simp) (by simp)
       have hcswl:=Aa hcswx;go_wp2_with fail;go_roundw
       case rel=>
        have hax:=HMV4.out.apart nb hnbl2 HNA.out;have hnw:nb≠V.E.gw:=fun e=>hax.1 (by rw[e];simp[B4])
        refine⟨k+1,(Db at' zn.1,zn.2),n',ob',B',by go_num,by omega,by omega,zA ((HLW4.out.fr (Bb (Fr.refl [] _)) (by simp)).wipe hatN hcswx),zA ((HNB4.out.same (Sg _ _)).same (Bj _ _ _ _ hnw)),zA ((HMV4.out.trans (Ch.of (Bb (Fr.refl [] _)) (by simp))).trans (Ch.gw _ _)),zA ?_,zA ?_⟩
        ·rw[HE3.out,HSZ.out];rw[if_neg (fun h=>hin h.2),if_neg (fun h=>by have:=h.2.1;omega)]
        ·exact HK.out
       case measure=>(show M-(k+1)<M-k);omega
      |false=>
       have hyn:¬ V.E.Y<ino:=of_decide_eq_false hyd;obtain⟨inn,rfl⟩:=Int.eq_ofNat_of_zero_le (show 0<=ino by omega);have HSZ2:=HSZ.out;rw[Int.toNat_natCast]at HSZ2;obtain⟨r,zn2,hER⟩:∃ r zn2,Cz V.E.X V.E.Y V.IMG inn nm zn=(r,zn2):=⟨_,_,rfl⟩;rw[hER,if_neg (fun h=>hin h.2)]at HSZ2;have HSZ3:=zA HSZ2;have HAP:=HMV4.out.apart nb hnbl2 HNA.out;have hent:=fY (zn:=zn) (HLW4.out.fr (Bb (Fr.refl [] _)) (by simp)) inn nm hnm nb n' (HNB4.out.same (Sg _ _)) (by unfold maxLen;omega) HAP hnb0 (by omega) (by omega);rw[hER]at hent;have HENT:=zA hent;have HKP:=zA (Wz V.E.X V.E.Y V.IMG inn nm zn);have HERF:=zA (fun h=>Wk (X:=V.E.X) (Y:=V.E.Y) (IMG:=V.IMG) (i:=inn) (nm:=nm) (zn:=zn) h);rw[hER]at HKP HERF;clear HSZ2 hent HAP hER HSZ;go_wp2_with fail;generalize w3.alloc (.cells #[.int .i64 inn,.string nm] 125)=w4 at*;generalize w3.heap.size=sb at*;refine wp_region_noPanic ?_;refine wp_region_held_drew (S:=(fun w'=>hat w' V.E.gl=some (.cells #[.int .i64 V.E.X,.int .i64 V.E.Y,V.E.img,.slice (some ⟨V.E.gw,0,none⟩) V.E.N V.E.cw,.map (some V.E.bc),.map (some V.E.bt),.map (some V.E.bf),V.E.qf] 95)/\hat w' sb=some (.cells #[.int .i64 inn,.string nm] 125))) (by kernel_rfl) ⟨hl4,hsl4⟩ (fun hHeld=>?_);refine wpAnyH_take (i:=0) (oi:={dst:=some 52,op:=Op.move (Operand.tmp 10),type:=29,pos:= "look.go:154",after:= #[],guard:=none}) (v:=?vc0) rfl (by kernel_rfl) (by kernel_rfl) (by kernel_rfl) (fun _ _ _ h=>h) (Or.inl ⟨by rfl,?hyc0⟩) (by assumption) ?restc0
       case hyc0=>(intro w' hSw;(try dsimp only at hSw);go_simp;(try with_reducible rfl))
       try simp only[Act.put,List.setIfInBounds_toArray,List.set_cons_zero,List.set_cons_succ]
       refine wpAnyH_take (i:=1) (oi:={dst:=some 53,op:=Op.binOp BinOp.neq 29 (Operand.tmp 52) (Operand.const (Value.int IntKind.i64 0)) 29,type:=4,pos:= "look.go:154",after:= #[{on:=0,ground:=Ground.data}],guard:=none}) (v:=?vc1) rfl (by kernel_rfl) (by kernel_rfl) (by kernel_rfl) (fun _ _ _ h=>h) (Or.inl ⟨by rfl,?hyc1⟩) (by assumption) ?restc1
       case hyc1=>(intro w' hSw;(try dsimp only at hSw);go_simp;(try with_reducible rfl))
       try simp only[Act.put,List.setIfInBounds_toArray,List.set_cons_zero,List.set_cons_succ]
       refine wpAnyH_take (i:=2) (oi:={dst:=some 54,op:=Op.move (Operand.tmp 53),type:=4,pos:= "look.go:154",after:= #[{on:=1,ground:=Ground.data}],guard:=none}) (v:=?vc2) rfl (by kernel_rfl) (by kernel_rfl) (by kernel_rfl) (fun _ _ _ h=>h) (Or.inl ⟨by rfl,?hyc2⟩) (by assumption) ?restc2
       case hyc2=>(intro w' hSw;(try dsimp only at hSw);go_simp;(try with_reducible rfl))
       try simp only[Act.put,List.setIfInBounds_toArray,List.set_cons_zero,List.set_cons_succ]
       refine wpAnyH_take (i:=3) (oi:={dst:=some 55,op:=Op.fieldAddr 125 (Operand.tmp 9) 0,type:=0,pos:= "look.go:154",after:= #[{on:=2,ground:=Ground.guard}],guard:=some (2,false)}) (v:=?vc3) rfl (by kernel_rfl) (by kernel_rfl) (by kernel_rfl) (fun _ _ _ h=>h) (Or.inl ⟨by rfl,?hyc3⟩) (by assumption) ?restc3
       case hyc3=>(intro w' hSw;(try dsimp only at hSw);go_simp;(try with_reducible rfl))
       try simp only[Act.put,List.setIfInBounds_toArray,List.set_cons_zero,List.set_cons_succ]
       refine wpAnyH_take (i:=4) (oi:={dst:=some 56,op:=Op.load 3 (Operand.tmp 55),type:=3,pos:= "look.go:154",after:= #[{on:=3,ground:=Ground.data},{on:=2,ground:=Ground.guard}],guard:=some (2,false)}) (v:=?vc4) rfl (by kernel_rfl) (by kernel_rfl) (by kernel_rfl) (fun _ _ _ h=>h) (Or.inl ⟨by rfl,?hyc4⟩) (by assumption) ?restc4
       case hyc4=>(intro w' hSw;(try dsimp only at hSw);go_simp;(try with_reducible rfl))
       try simp only[Act.put,List.setIfInBounds_toArray,List.set_cons_zero,List.set_cons_succ]
       refine wpAnyH_take (i:=5) (oi:={dst:=some 57,op:=Op.move (Operand.tmp 0),type:=89,pos:= "look.go:154",after:= #[{on:=2,ground:=Ground.guard}],guard:=some (2,false)}) (v:=?vc5) rfl (by kernel_rfl) (by kernel_rfl) (by kernel_rfl) (fun _ _ _ h=>h) (Or.inl ⟨by rfl,?hyc5⟩) (by assumption) ?restc5
       case hyc5=>(intro w' hSw;(try dsimp only at hSw);go_simp;(try with_reducible rfl))
       try simp only[Act.put,List.setIfInBounds_toArray,List.set_cons_zero,List.set_cons_succ]
       refine wpAnyH_take (i:=6) (oi:={dst:=some 58,op:=Op.nilCheck (Operand.tmp 57),type:=0,pos:= "look.go:154",after:= #[{on:=5,ground:=Ground.data},{on:=2,ground:=Ground.guard}],guard:=some (2,false)}) (v:=?vc6) rfl (by kernel_rfl) (by kernel_rfl) (by kernel_rfl) (fun _ _ _ h=>h) (Or.inl ⟨by rfl,?hyc6⟩) (by assumption) ?restc6
       case hyc6=>(intro w' hSw;(try dsimp only at hSw);go_simp;(try with_reducible rfl))
       try simp only[Act.put,List.setIfInBounds_toArray,List.set_cons_zero,List.set_cons_succ]
       refine wpAnyH_take (i:=7) (oi:={dst:=some 59,op:=Op.fieldAddr 95 (Operand.tmp 58) 0,type:=0,pos:= "look.go:154",after:= #[{on:=6,ground:=Ground.data},{on:=2,ground:=Ground.guard}],guard:=some (2,false)}) (v:=?vc7) rfl (by kernel_rfl) (by kernel_rfl) (by kernel_rfl) (fun _ _ _ h=>h) (Or.inl ⟨by rfl,?hyc7⟩) (by assumption) ?restc7
       case hyc7=>(intro w' hSw;(try dsimp only at hSw);go_simp;(try with_reducible rfl))
       try simp only[Act.put,List.setIfInBounds_toArray,List.set_cons_zero,List.set_cons_succ]
       refine wpAnyH_take (i:=8) (oi:={dst:=some 60,op:=Op.fieldAddr 68 (Operand.tmp 59) 1,type:=0,pos:= "look.go:154",after:= #[{on:=7,ground:=Ground.data},{on:=2,ground:=Ground.guard}],guard:=some (2,false)}) (v:=?vc8) rfl (by kernel_rfl) (by kernel_rfl) (by kernel_rfl) (fun _ _ _ h=>h) (Or.inl ⟨by rfl,?hyc8⟩) (by assumption) ?restc8
       case hyc8=>(intro w' hSw;(try dsimp only at hSw);go_simp;(try with_reducible rfl))
       try simp only[Act.put,List.setIfInBounds_toArray,List.set_cons_zero,List.set_cons_succ]
       refine wpAnyH_take (i:=9) (oi:={dst:=some 61,op:=Op.load 3 (Operand.tmp 60),type:=3,pos:= "look.go:154",after:= #[{on:=8,ground:=Ground.data},{on:=2,ground:=Ground.guard}],guard:=some (2,false)}) (v:=?vc9) rfl (by kernel_rfl) (by kernel_rfl) (by kernel_rfl) (fun _ _ _ h=>h) (Or.inl ⟨by rfl,?hyc9⟩) (by assumption) ?restc9
       case hyc9=>(intro w' hSw;(try dsimp only at hSw);go_simp;(try with_reducible rfl))
       try simp only[Act.put,List.setIfInBounds_toArray,List.set_cons_zero,List.set_cons_succ]
       refine wpAnyH_take (i:=10) (oi:={dst:=some 62,op:=Op.binOp BinOp.gtr 3 (Operand.tmp 56) (Operand.tmp 61) 3,type:=4,pos:= "look.go:154",after:= #[{on:=4,ground:=Ground.data},{on:=9,ground:=Ground.data},{on:=2,ground:=Ground.guard}],guard:=some (2,false)}) (v:=?vc10) rfl (by kernel_rfl) (by kernel_rfl) (by kernel_rfl) (fun _ _ _ h=>h) (Or.inl ⟨by rfl,?hyc10⟩) (by assumption) ?restc10
       case hyc10=>(intro w' hSw;(try dsimp only at hSw);go_simp;(try with_reducible rfl))
       try simp only[Act.put,List.setIfInBounds_toArray,List.set_cons_zero,List.set_cons_succ]
       refine wpAnyH_take (i:=11) (oi:={dst:=some 63,op:=Op.pick (Operand.tmp 54) (Operand.const (Value.bool true)) (Operand.tmp 62),type:=4,pos:= "look.go:154",after:= #[{on:=2,ground:=Ground.data},{on:=10,ground:=Ground.data}],guard:=none}) (v:=?vc11) rfl (by kernel_rfl) (by kernel_rfl) (by kernel_rfl) (fun _ _ _ h=>h) (Or.inl ⟨by rfl,?hyc11⟩) (by assumption) ?restc11
       case hyc11=>(intro w' hSw;(try dsimp only at hSw);go_simp;(try with_reducible rfl))
       try simp only[Act.put,List.setIfInBounds_toArray,List.set_cons_zero,List.set_cons_succ]
       refine wpAnyH_take (i:=12) (oi:={dst:=some 64,op:=Op.move (Operand.tmp 63),type:=4,pos:= "look.go:154",after:= #[{on:=11,ground:=Ground.data},{on:=2,ground:=Ground.chain}],guard:=none}) (v:=?vc12) rfl (by kernel_rfl) (by kernel_rfl) (by kernel_rfl) (fun _ _ _ h=>h) (Or.inl ⟨by rfl,?hyc12⟩) (by assumption) ?restc12
       case hyc12=>(intro w' hSw;(try dsimp only at hSw);go_simp;(try with_reducible rfl))
       try simp only[Act.put,List.setIfInBounds_toArray,List.set_cons_zero,List.set_cons_succ]
       refine wpAnyH_take (i:=13) (oi:={dst:=some 65,op:=Op.move (Operand.tmp 0),type:=89,pos:= "look.go:154",after:= #[{on:=12,ground:=Ground.guard}],guard:=some (12,false)}) (v:=?vc13) rfl (by kernel_rfl) (by kernel_rfl) (by kernel_rfl) (fun _ _ _ h=>h) (Or.inl ⟨by rfl,?hyc13⟩) (by assumption) ?restc13
       case hyc13=>(intro w' hSw;(try dsimp only at hSw);go_simp;(try with_reducible rfl))
       try simp only[Act.put,List.setIfInBounds_toArray,List.set_cons_zero,List.set_cons_succ]
       refine wpAnyH_take (i:=14) (oi:={dst:=some 66,op:=Op.load 125 (Operand.tmp 9),type:=125,pos:= "look.go:154",after:= #[{on:=12,ground:=Ground.guard}],guard:=some (12,false)}) (v:=?vc14) rfl (by kernel_rfl) (by kernel_rfl) (by kernel_rfl) (fun _ _ _ h=>h) (Or.inl ⟨by rfl,?hyc14⟩) (by assumption) ?restc14
       case hyc14=>(intro w' hSw;(try dsimp only at hSw);go_simp;(try with_reducible rfl))
       try simp only[Act.put,List.setIfInBounds_toArray,List.set_cons_zero,List.set_cons_succ]
       refine wpAnyH_take (i:=15) (oi:={dst:=some 67,op:=Op.move (Operand.tmp 5),type:=136,pos:= "look.go:154",after:= #[{on:=12,ground:=Ground.guard}],guard:=some (12,false)}) (v:=?vc15) rfl (by kernel_rfl) (by kernel_rfl) (by kernel_rfl) (fun _ _ _ h=>h) (Or.inl ⟨by rfl,?hyc15⟩) (by assumption) ?restc15
       case hyc15=>(intro w' hSw;(try dsimp only at hSw);go_simp;(try with_reducible rfl))
       try simp only[Act.put,List.setIfInBounds_toArray,List.set_cons_zero,List.set_cons_succ]
       refine wpAnyH_ready (rs:=[16]) (by kernel_rfl) (by simp) ?_;refine AllReadyH.cons (o:={dst:=some 68,op:=Op.call {callee:=Callee.value (Operand.func 87),args:= #[Operand.tmp 65,Operand.tmp 66,Operand.tmp 67],argTypes:= #[89,125,136]},type:=4,pos:= "look.go:154",after:= #[{on:=13,ground:=Ground.data},{on:=14,ground:=Ground.data},{on:=15,ground:=Ground.data},{on:=12,ground:=Ground.chain},{on:=12,ground:=Ground.guard}],guard:=some (12,false)}) rfl (fun K hK=>?_) AllReadyH.nil;go_simp;refine HENT.out.mono ?_;rintro e w5 ⟨rfl,ob2,B2,n2,hn2,hlw5,hnb5,hmv5⟩;have hl5:=hlw5.k.look;unfold Bz at hl5;have hsl5:=(hmv5.block sb hz4 HSA.out (by simp;omega)).trans hsl4;have HLW5:=zA hlw5;have HNB5:=zA hnb5;have HMV5:=zA ((HMV4.out.trans (Ch.of (Bb (Fr.refl [] _)) (by simp))).trans hmv5);clear hlw5 hnb5 hmv5;refine hK.out _ _ ⟨hl5,hsl5⟩ (fun hHeld=>?_);clear hK K;try simp only[Act.put,List.setIfInBounds_toArray,List.set_cons_zero,List.set_cons_succ]
       cases r with
       |true=>
        refine wpAnyH_take (i:=17) (oi:={dst:=some 69,op:=Op.unOp UnOp.not 4 (Operand.tmp 68),type:=4,pos:= "look.go:154",after:= #[{on:=16,ground:=Ground.data},{on:=12,ground:=Ground.guard}],guard:=some (12,false)}) (v:=?vd17) rfl (by kernel_rfl) (by kernel_rfl) (by kernel_rfl) (fun _ _ _ h=>h) (Or.inl ⟨by rfl,?hyd17⟩) (by assumption) ?restd17
        case hyd17=>(intro w' hSw;(try dsimp only at hSw);go_simp;(try with_reducible rfl))
        try simp only[Act.put,List.setIfInBounds_toArray,List.set_cons_zero,List.set_cons_succ]
        refine wpAnyH_take (i:=18) (oi:={dst:=some 70,op:=Op.pick (Operand.tmp 64) (Operand.const (Value.bool true)) (Operand.tmp 69),type:=4,pos:= "look.go:154",after:= #[{on:=12,ground:=Ground.data},{on:=17,ground:=Ground.data}],guard:=none}) (v:=?vd18) rfl (by kernel_rfl) (by kernel_rfl) (by kernel_rfl) (fun _ _ _ h=>h) (Or.inl ⟨by rfl,?hyd18⟩) (by assumption) ?restd18
        case hyd18=>(intro w' hSw;(try dsimp only at hSw);go_simp;(try with_reducible rfl))
        try simp only[Act.put,List.setIfInBounds_toArray,List.set_cons_zero,List.set_cons_succ]
        refine wpAnyH_done (by kernel_rfl) (NoPanic.normal ?_) _;go_wp2_with fail;go_roundw
        case rel=>
         refine⟨k+1,zn2,n2,ob2,B2,by go_num,by omega,by omega,HLW5,HNB5,HMV5,zA ?_,zA (HK.out.trans HKP.out)⟩;rw[HE3.out,HSZ3.out,if_pos ⟨HEN.out,by omega,rfl⟩]
        case measure=>(show M-(k+1)<M-k);omega
       |false=>
        have hz2:zn2=zn:=HERF.out rfl;subst hz2;refine wpAnyH_take (i:=17) (oi:={dst:=some 69,op:=Op.unOp UnOp.not 4 (Operand.tmp 68),type:=4,pos:= "look.go:154",after:= #[{on:=16,ground:=Ground.data},{on:=12,ground:=Ground.guard}],guard:=some (12,false)}) (v:=?ve17) rfl (by kernel_rfl) (by kernel_rfl) (by kernel_rfl) (fun _ _ _ h=>h) (Or.inl ⟨by rfl,?hye17⟩) (by assumption) ?reste17
        case hye17=>(intro w' hSw;(try dsimp only at hSw);go_simp;(try with_reducible rfl))
        try simp only[Act.put,List.setIfInBounds_toArray,List.set_cons_zero,List.set_cons_succ]
        refine wpAnyH_take (i:=18) (oi:={dst:=some 70,op:=Op.pick (Operand.tmp 64) (Operand.const (Value.bool true)) (Operand.tmp 69),type:=4,pos:= "look.go:154",after:= #[{on:=12,ground:=Ground.data},{on:=17,ground:=Ground.data}],guard:=none}) (v:=?ve18) rfl (by kernel_rfl) (by kernel_rfl) (by kernel_rfl) (fun _ _ _ h=>h) (Or.inl ⟨by rfl,?hye18⟩) (by assumption) ?reste18
        case hye18=>(intro w' hSw;(try dsimp only at hSw);go_simp;(try with_reducible rfl))
        try simp only[Act.put,List.setIfInBounds_toArray,List.set_cons_zero,List.set_cons_succ]
        refine wpAnyH_done (by kernel_rfl) (NoPanic.normal ?_) _;obtain⟨cswx,hcswx,hszx,-⟩:=HLW5.out.k.want;have hstx:∀ raw' w',Dd raw' 128 (at'*128) V.E.gw (IV .u8 (zl 128)) w' (some (.cells cswx 47 (0,0)))= .ok () (w'.setRow V.E.gw (Ap cswx (at'*128) (IV .u8 (zl 128)))):=fun raw' w'=>Cj (by omega) (by simp) (by simp)
        have hcswl:=Aa hcswx;go_wp2_with fail;go_roundw
        case rel=>
         have hax:=HMV5.out.apart nb hnbl2 HNA.out;have hnw:nb≠V.E.gw:=fun e=>hax.1 (by rw[e];simp[B4])
         refine⟨k+1,(Db at' zn2.1,zn2.2),n2,ob2,B2,by go_num,by omega,by omega,zA (HLW5.out.wipe hatN hcswx),zA (HNB5.out.same (Bj _ _ _ _ hnw)),zA (HMV5.out.trans (Ch.gw _ _)),zA ?_,zA ?_⟩
         ·rw[HE3.out];rw[HSZ3.out,if_neg (fun h=>by cases h.2.2)]
         ·exact HK.out
        case measure=>(show M-(k+1)<M-k);omega
  ·obtain rfl:k=M:=(by omega);have hE:=HE.out;rw[Nat.sub_self]at hE;have HE2:=zA hE;clear hE;go_wp2_with fail;refine bodyPost_end (results_none rfl _ _ _) rfl ?_;rw[HE2.out];exact⟨rfl,ob',B',HLW.out,Ch.from HF2.out HMV.out [] (fun k hk=>by rw[List.mem_singleton]at hk;exact .inr (by omega))⟩
def C6(n:Nat)(s:Int->Bool):List Int:=((List.range n).filter fun(i:Nat)=>s (i:Int)).map fun(i:Nat)=>(i:Int)
def Dz(s:Int->Bool):List Int:=C6 4096 s
theorem iL{n:Nat}{s:Int->Bool}{x:Int}:x∈C6 n s↔0<=x/\x<n/\s x=true:=by
 unfold C6;rw[List.mem_map];constructor
 ·rintro ⟨i,hi,rfl⟩;rw[List.mem_filter,List.mem_range]at hi;exact⟨by omega,by omega,hi.2⟩
 ·rintro ⟨h0,h1,h2⟩;obtain⟨i,rfl⟩:=Int.eq_ofNat_of_zero_le h0;exact⟨i,List.mem_filter.2 ⟨List.mem_range.2 (by omega),h2⟩,rfl⟩
theorem lS(n:Nat)(s:Int->Bool):(C6 n s).Pairwise (· < ·):=by
 unfold C6;rw[List.pairwise_map];refine List.Pairwise.imp ?_ ((List.pairwise_lt_range (n:=n)).filter _);intro a b h;omega
theorem V6:∀ (l m:List Int),l.Pairwise (· < ·)->m.Pairwise (· < ·)->(∀ x,x∈l↔x∈m)->l=m
 |[],[],_,_,_=>rfl
 |[],b::m,_,_,h=>by have:=(h b).2 (by simp);cases this
 |a::l,[],_,_,h=>by have:=(h a).1 (by simp);cases this
 |a::l,b::m,hl,hm,h=>by
  rw[List.pairwise_cons]at hl hm;have hab:a=b:=by
   have h1:=(h a).1 (by simp);have h2:=(h b).2 (by simp);rw[List.mem_cons]at h1 h2;rcases h1 with h1|h1
   ·exact h1
   ·rcases h2 with h2|h2
    ·exact h2.symm
    ·have:=hm.1 a h1;have:=hl.1 b h2;omega
  subst hab;congr 1
  refine V6 l m hl.2 hm.2 fun x=>?_
  constructor
  ·intro hx;have h1:=(h x).1 (by simp[hx]);rw[List.mem_cons]at h1;rcases h1 with h1|h1
   ·have:=hl.1 x hx;omega
   ·exact h1
  ·intro hx;have h1:=(h x).2 (by simp[hx]);rw[List.mem_cons]at h1;rcases h1 with h1|h1
   ·have:=hm.1 x hx;omega
   ·exact h1
theorem V2{n:Nat}{s:Int->Bool}{xs:List Int}(hx:xs.Pairwise (· ≠ ·))(hm:∀ x,x∈xs↔0<=x/\x<n/\s x=true):(xs.mergeSort fun x y=>decide (x<=y))=C6 n s:=by
 have hp:=List.mergeSort_perm xs fun x y=>decide (x<=y)
 have hs:=List.pairwise_mergeSort (le:=fun x y:Int=>decide (x<=y)) (fun a b c h1 h2=>by simp at h1 h2 ⊢;omega) (fun a b=>by simp;omega) xs;have hn:(xs.mergeSort fun x y=>decide (x<=y)).Pairwise (· ≠ ·):=(hp.pairwise_iff (fun {a b} h=>fun e=>h e.symm)).2 hx;refine V6 _ _ ?_ (lS n s) fun x=>?_
 ·refine List.Pairwise.imp ?_ (hs.and hn);intro a b h;have h1:a<=b:=(by simpa using h.1);have:=h.2;omega
 ·rw[hp.mem_iff,hm x,iL]
theorem Oi{n:Nat}{xs:List Int}(hx:xs.Pairwise (· ≠ ·))(hm:∀ x∈xs,0<=x/\x<n):xs.length<=n:=by
 have h:=R4 n (xs.map Int.toNat) (Vl xs Int.toNat (· ≠ ·) hx (fun a ha b hb hab e=>hab (by have:=hm a ha;have:=hm b hb;omega))) (fun y hy=>by
  obtain⟨z,hz,rfl⟩:=List.mem_map.1 hy;have:=hm z hz;omega)
 simpa using h
theorem qI:(Tryz.prog.info? 3).map (fun i=>(i.zero,i.size,i.bytes))=some (some (.int .i64 0),1,8):=by kernel_rfl
theorem Ok:∃ i0,Tryz.prog.info? 3=some i0/\i0.zero=some (.int .i64 0)/\i0.size=1/\i0.bytes=8:=by
 have h:=qI;cases hq:Tryz.prog.info? 3 with
 |none=>rw[hq]at h;cases h
 |some inf=>
  rw[hq]at h;simp at h;exact⟨inf,rfl,h.1,h.2.1,h.2.2⟩
def Hj(w:World)(base:Nat)(v:Value)(xs:List Int):Prop:=w.ownsRow base 3 1 v xs.length (xs.map (Value.int .i64))
theorem Hj.nil(w:World)(base:Nat):Hj w base (.slice none 0 0) []:=⟨rfl,.inl ⟨rfl,rfl⟩⟩
theorem Hj.base{w:World}{b b':Nat}{v:Value}{xs:List Int}(h:Hj w b v xs)(hb:b'<=b):Hj w b' v xs:=by
 obtain⟨h1,h2⟩:=h;refine⟨h1,h2.imp id ?_⟩;rintro ⟨g,cap,cur,a1,a2,a3⟩;exact⟨g,cap,cur,a1,Nat.le_trans hb a2,a3⟩
theorem Hj.fr{w w':World}{b:Nat}{v:Value}{xs:List Int}{ex:List Nat}(h:Hj w b v xs)(hf:Fr ex w w')(hx:∀ k∈ex,k<b):Hj w' b v xs:=by
 obtain⟨h1,h2⟩:=h;refine⟨h1,h2.imp id ?_⟩;rintro ⟨g,cap,cur,a1,a2,a3,a4⟩;exact⟨g,cap,cur,a1,a2,(hf.block g (Aa (w:=w) a3) (fun hm=>by have:=hx g hm;omega)).trans a3,a4⟩
theorem Z1(b:Nat)(D:DataW Unit)(s:Int->Bool)(w:World)(hown:w.ownsMap Tryz.prog 3 (plainElem Tryz.prog 4) b 4096 D)(hhas:∀ p,El p->Go.Maps.has D (.int .i64 p)=s p)(hs:∀ p,s p=true->0<=p/\p<4096):
  Calls Tryz.prog 90 #[.map (some b)] w fun e w'=>∃ v,e= .returned v/\Hj w' w.heap.size v (Dz s)/\Below w.heap.size w w':=by
 obtain⟨i0,hi,hz0,hz1,hz2⟩:=Ok;have HHAS:=zA hhas;have HS:=zA hs;have hbl:=hown.lt;clear hhas hs;go_enter Tryz.func90,Tryz.ntmps90;go_wp2_with (first|(at_range;refine wpList_range_own _ rfl _ _ rfl 3 4 (Go.Maps.int_keyed Tryz.underlying3) Tryz.underlying91 (plainElem Tryz.prog 4) b 4096 D rfl hown ?_;intro w9 hrg hgr hsz)|fail)
 try go_frame
 have HB9:=zA (show Fr [] w w9 from⟨hgr.os,hgr.tape,hgr.output,hgr.size,fun k hk _=>hgr.block k hk (by simp)⟩);have HRG:=zA hrg;clear hrg hgr hown
 go_loopw [3] (fun v wr=>∃ (left:Lit->Bool) (cnt:Nat) (xs:List Int),wr.ranges Tryz.prog 3 (plainElem Tryz.prog 4) b w.heap.size 4096 D left cnt/\Hid (Hj wr w9.heap.size v xs)/\Hid (xs.Pairwise (· ≠ ·))/\Hid (∀ x∈xs,s x=true/\left (.int .i64 x)=false)/\
   Hid (∀ z,left z=true->Go.Maps.has D z=true)/\Hid (∀ p,s p=true->left (.int .i64 p)=true\/p∈xs)/\Hid (Fr [w.heap.size] w9 wr)) (fun _ wr=>wr.rangeLeft b w.heap.size)
 case atStart=>
  refine⟨_,_,[],HRG.out,zA (Hj.nil _ _),zA (by simp),zA (by simp),zA (fun _ h=>h),zA (fun p hp=> .inl ?_),zA (Fr.refl _ _)⟩;have:=HS.out p hp;rw[HHAS.out p ⟨by omega,by omega⟩];exact hp
 case round=>
  obtain⟨left,cnt,xs,hrg,HOWN,HND,HIN,HL1,HL2,HFR⟩:=hrel;go_wp2_with (first|(at_next;refine wpList_next_ranges _ rfl _ rfl 3 (Go.Maps.int_keyed Tryz.underlying3) (plainElem Tryz.prog 4) (Value.int .i64) (fun v:Value=>v) (fun key kl hkey=>by obtain⟨x,rfl,_⟩:=Go.Maps.keyOf_int_inv Tryz.underlying3 hkey;exact⟨x,rfl⟩) (fun v y hv=>⟨v,rfl⟩) b w.heap.size 4096 _ _ _ rfl hrg ?_ ?_)|fail)
  ·intro hc0 hl0;have hmem:∀ x,x∈xs↔0<=x/\x<(4096:Nat)/\s x=true:=fun x=>⟨fun h=>by
    have h1:=(HIN.out x h).1;have h2:=HS.out x h1;exact⟨h2.1,by omega,h1⟩,fun h=>by
    rcases HL2.out x h.2.2 with h1|h1
    ·rw[hl0]at h1;cases h1
    ·exact h1⟩
   have hsort:=V2 (n:=4096) HND.out hmem;have hsz9:w.heap.size<=w9.heap.size:=(by omega);have hfin:Fr [] w wr:=(HB9.out.mono (ex':=[w.heap.size]) (by simp)).trans HFR.out|>.old (by simp)
   have hlen:(xs.mergeSort fun x y=>decide (x<=y)).length=xs.length:=List.length_mergeSort _;have hxl:xs.length<=4096:=Oi HND.out (fun x hx=>by have:=(hmem x).1 hx;omega);have HSORT:=zA hsort;have HFIN:=zA hfin;have HLEN:=zA hlen;obtain⟨-,hv⟩:=HOWN.out;clear hrg hl0 HL1 HL2 hmem hsort hfin hlen HRG;rcases hv with ⟨rfl,hx0⟩|⟨g,cap,cur,rfl,hg,hcur,hn,hcap,hsz2,htake⟩
   ·go_wp2_with fail;refine(Tryz.slices_Sort_int_none none 0 wr).mono ?_;rintro e w5 ⟨rfl,rfl⟩;go_wp2_with fail;go_ret;have hk:Dz s=[]:=by
     have:=HSORT.out;rw[List.eq_nil_of_length_eq_zero hx0,List.mergeSort_nil]at this;exact this.symm
    rw[hk];exact⟨_,rfl,Hj.nil _ _,HFIN.out.below (Nat.le_refl _) (by simp)⟩
   ·have hholds:=holds_of_blockI (ss:=xs) hcur (by rw[<-Nat.mul_one xs.length];exact htake);have hgl:=Aa (w:=wr) hcur;have HT:=zA htake;have HC:=zA hcur;clear htake;go_wp2_with fail;refine(Tryz.slices_Sort_int g 0 cap xs wr hholds hgl (by omega)).mono ?_;rintro e w5 ⟨rfl,nn,os,rfl⟩;have hown5:=ownsRow_sortedI (n:=nn) (os:=os) HLEN.out hg HC.out hn hcap hsz2;have hgb:=grownBy_sortedI (w:=wr) (g:=g) (n:=nn) (os:=os) ((xs.mergeSort fun x y=>decide (x<=y)).toArray);rw[HSORT.out]at hown5 hgb HLEN ⊢;have hb5:=HFIN.out.below (B:=w.heap.size) (Nat.le_refl _) (by simp);have hb6:=hb5.grown hgb hb5.size (fun q hq=>by injection hq;omega);generalize Go.Sort.grow (Go.Sort.putRow (Value.int .i64) (Go.Sort.ahead wr nn) g 0 (C6 4096 s).toArray) os=w6 at*;clear hholds hgb;go_wp2_with fail;go_ret;refine⟨_,rfl,Hj.base ?_ hsz9,hb6⟩;unfold Hj;rw[show Dz s=C6 4096 s from rfl,HLEN.out];exact hown5
  ·intro x c kl y1 y2 w10 cnt1 hkey hlx hry hat10 hrg1 hlt hg1 hs1 hen;obtain⟨x',hxe,rfl,hwx⟩:=Go.Maps.keyOf_int_inv Tryz.underlying3 hkey;obtain rfl:x=x':=(by injection hxe);have hx64:=Mj hwx;have hsx:s x=true:=(by rw[<-HHAS.out x hx64];exact HL1.out _ hlx);have hxr:=HS.out x hsx;have hxn:x∉xs:=fun hm=>by have:=(HIN.out x hm).2;rw[hlx]at this;cases this
   have hf10:Fr [w.heap.size] wr w10:=⟨hg1.os,hg1.tape,hg1.output,hg1.size,fun k hk hn=>hg1.block k hk (by simpa using hn)⟩;have hxl:xs.length<=4096:=Oi HND.out (fun x hx=>by have:=HS.out x (HIN.out x hx).1;omega);have hown10:=HOWN.out.fr hf10 (by simp;omega);have hwz:w9.heap.size<=w10.heap.size:=Nat.le_trans HFR.out.size hf10.size;have HF10:=zA hf10;have HO:=zA hown10;have HRG1:=zA hrg1;have HRGO:=zA hrg;clear hrg1 hown10 hf10 hat10 hkey hry hrg hxe hwx hg1;go_wp2_with (at_builtin;refine wpList_append_own _ rfl (.tmp 11) (.tmp 13) 32 rfl w9.heap.size 3 i0 _ 1 8 Tryz.underlying32 hi hz0 hz1 hz2 rfl (by decide) u3 xs.length (xs.map (Value.int .i64)) rfl (HO.out.alloc _) ⟨wr.heap.size,0,none⟩ 1 1 [.int .i64 x] rfl rfl ?c1 ?c2 ?c3 ?c4 ?c5 (fun v' w1 hown' hgrow _=>?_))
   case c1=>
    intro j u hj;have hj3:j<1:=by
     have:=(List.getElem?_eq_some_iff.1 hj).1;simpa using this
    rw[C4,Nat.zero_add,Bs (Bc _ _ _ hs1.symm)];simpa using hj
   case c2=>
    intro u hu;simp at hu;subst hu;rfl
   case c3=>unfold maxLen;omega
   case c4=>omega
   case c5=>simp only[World.size_alloc];omega
   have hnb:∀ k,u3.ownBlock=some k->w9.heap.size<=k:=fun k hk=>by
    refine Nat.le_of_not_lt fun h=>?_
    exact Hb HO.out h hk
   have hga:w10.grownBy (w10.alloc (.cells #[.int .i64 x] 3)) none:=⟨rfl,rfl,rfl,by simp,fun k hk _=>A9 _ _ _ hk⟩;have HRG2:=zA ((HRG1.out.kept hga (by simp) (by simp)).kept hgrow (fun e=>by have:=hnb _ e.symm;omega) (fun e=>by have:=hnb _ e.symm;omega));go_roundw
   case rel=>
    refine⟨_,cnt1,xs++[x],HRG2.out,zA ?_,zA ?_,zA (fun z hz=>?_),zA (fun z hz=>HL1.out z (by rw[Bool.and_eq_true]at hz;exact hz.1)),zA (fun p hp=>?_),zA ?_⟩
    ·unfold Hj;rw[List.length_append,List.map_append];exact hown'
    ·rw[List.pairwise_append];refine⟨HND.out,by simp,fun a ha b hb=>?_⟩;rw[List.mem_singleton]at hb;subst hb;exact fun e=>hxn (by rw[<-e];exact ha)
    ·rw[List.mem_append,List.mem_singleton]at hz;rcases hz with hz|rfl
     ·exact⟨(HIN.out z hz).1,by rw[(HIN.out z hz).2];rfl⟩
     ·exact⟨hsx,by simp[Lit.sameKey]⟩
    ·by_cases hpx:p=x
     ·subst hpx;exact .inr (by simp)
     ·rcases HL2.out p hp with h|h
      ·refine .inl ?_;rw[h];simp[Lit.sameKey,hpx]
      ·exact .inr (by simp[h])
    ·have f1:=HFR.out.trans HF10.out;refine⟨hgrow.os.trans f1.os,hgrow.tape.trans f1.tape,hgrow.output.trans f1.output,Nat.le_trans f1.size (Nat.le_trans (by simp) hgrow.size),fun k hk hn=>?_⟩;exact((hgrow.block k (by simp;omega) (fun e=>by have:=hnb _ e.symm;omega)).trans (A9 _ _ _ (by omega))).trans (f1.block k hk hn)
   case measure=>
    rw[HRG2.out.left_eq,HRGO.out.left_eq];exact hlt
theorem cP(b:Nat)(D:DataW Unit)(s:Int->Bool)(w:World)(hown:w.ownsMap Tryz.prog 3 (Jh) b 4096 D)(hhas:∀ p,El p->Go.Maps.has D (.int .i64 p)=s p)(hs:∀ p,s p=true->0<=p/\p<4096):
  Calls Tryz.prog 89 #[.map (some b)] w fun e w'=>∃ v,e= .returned v/\Hj w' w.heap.size v (Dz s)/\Below w.heap.size w w':=by
 obtain⟨i0,hi,hz0,hz1,hz2⟩:=Ok;have HHAS:=zA hhas;have HS:=zA hs;have hbl:=hown.lt;clear hhas hs;go_enter Tryz.func89,Tryz.ntmps89;go_wp2_with (first|(at_range;refine wpList_range_own _ rfl _ _ rfl 3 103 (Go.Maps.int_keyed Tryz.underlying3) Tryz.underlying92 (Jh) b 4096 D rfl hown ?_;intro w9 hrg hgr hsz)|fail)
 try go_frame
 have HB9:=zA (show Fr [] w w9 from⟨hgr.os,hgr.tape,hgr.output,hgr.size,fun k hk _=>hgr.block k hk (by simp)⟩);have HRG:=zA hrg;clear hrg hgr hown
 go_loopw [3] (fun v wr=>∃ (left:Lit->Bool) (cnt:Nat) (xs:List Int),wr.ranges Tryz.prog 3 (Jh) b w.heap.size 4096 D left cnt/\Hid (Hj wr w9.heap.size v xs)/\Hid (xs.Pairwise (· ≠ ·))/\Hid (∀ x∈xs,s x=true/\left (.int .i64 x)=false)/\
   Hid (∀ z,left z=true->Go.Maps.has D z=true)/\Hid (∀ p,s p=true->left (.int .i64 p)=true\/p∈xs)/\Hid (Fr [w.heap.size] w9 wr)) (fun _ wr=>wr.rangeLeft b w.heap.size)
 case atStart=>
  refine⟨_,_,[],HRG.out,zA (Hj.nil _ _),zA (by simp),zA (by simp),zA (fun _ h=>h),zA (fun p hp=> .inl ?_),zA (Fr.refl _ _)⟩;have:=HS.out p hp;rw[HHAS.out p ⟨by omega,by omega⟩];exact hp
 case round=>
  obtain⟨left,cnt,xs,hrg,HOWN,HND,HIN,HL1,HL2,HFR⟩:=hrel;go_wp2_with (first|(at_next;refine wpList_next_ranges _ rfl _ rfl 3 (Go.Maps.int_keyed Tryz.underlying3) (Jh) (Value.int .i64) (fun v:Value=>v) (fun key kl hkey=>by obtain⟨x,rfl,_⟩:=Go.Maps.keyOf_int_inv Tryz.underlying3 hkey;exact⟨x,rfl⟩) (fun v y hv=>⟨v,rfl⟩) b w.heap.size 4096 _ _ _ rfl hrg ?_ ?_)|fail)
  ·intro hc0 hl0;have hmem:∀ x,x∈xs↔0<=x/\x<(4096:Nat)/\s x=true:=fun x=>⟨fun h=>by
    have h1:=(HIN.out x h).1;have h2:=HS.out x h1;exact⟨h2.1,by omega,h1⟩,fun h=>by
    rcases HL2.out x h.2.2 with h1|h1
    ·rw[hl0]at h1;cases h1
    ·exact h1⟩
   have hsort:=V2 (n:=4096) HND.out hmem;have hsz9:w.heap.size<=w9.heap.size:=(by omega);have hfin:Fr [] w wr:=(HB9.out.mono (ex':=[w.heap.size]) (by simp)).trans HFR.out|>.old (by simp)
   have hlen:(xs.mergeSort fun x y=>decide (x<=y)).length=xs.length:=List.length_mergeSort _;have hxl:xs.length<=4096:=Oi HND.out (fun x hx=>by have:=(hmem x).1 hx;omega);have HSORT:=zA hsort;have HFIN:=zA hfin;have HLEN:=zA hlen;obtain⟨-,hv⟩:=HOWN.out;clear hrg hl0 HL1 HL2 hmem hsort hfin hlen HRG;rcases hv with ⟨rfl,hx0⟩|⟨g,cap,cur,rfl,hg,hcur,hn,hcap,hsz2,htake⟩
   ·go_wp2_with fail;refine(Tryz.slices_Sort_int_none none 0 wr).mono ?_;rintro e w5 ⟨rfl,rfl⟩;go_wp2_with fail;go_ret;have hk:Dz s=[]:=by
     have:=HSORT.out;rw[List.eq_nil_of_length_eq_zero hx0,List.mergeSort_nil]at this;exact this.symm
    rw[hk];exact⟨_,rfl,Hj.nil _ _,HFIN.out.below (Nat.le_refl _) (by simp)⟩
   ·have hholds:=holds_of_blockI (ss:=xs) hcur (by rw[<-Nat.mul_one xs.length];exact htake);have hgl:=Aa (w:=wr) hcur;have HT:=zA htake;have HC:=zA hcur;clear htake;go_wp2_with fail;refine(Tryz.slices_Sort_int g 0 cap xs wr hholds hgl (by omega)).mono ?_;rintro e w5 ⟨rfl,nn,os,rfl⟩;have hown5:=ownsRow_sortedI (n:=nn) (os:=os) HLEN.out hg HC.out hn hcap hsz2;have hgb:=grownBy_sortedI (w:=wr) (g:=g) (n:=nn) (os:=os) ((xs.mergeSort fun x y=>decide (x<=y)).toArray);rw[HSORT.out]at hown5 hgb HLEN ⊢;have hb5:=HFIN.out.below (B:=w.heap.size) (Nat.le_refl _) (by simp);have hb6:=hb5.grown hgb hb5.size (fun q hq=>by injection hq;omega);generalize Go.Sort.grow (Go.Sort.putRow (Value.int .i64) (Go.Sort.ahead wr nn) g 0 (C6 4096 s).toArray) os=w6 at*;clear hholds hgb;go_wp2_with fail;go_ret;refine⟨_,rfl,Hj.base ?_ hsz9,hb6⟩;unfold Hj;rw[show Dz s=C6 4096 s from rfl,HLEN.out];exact hown5
  ·intro x c kl y1 y2 w10 cnt1 hkey hlx hry hat10 hrg1 hlt hg1 hs1 hen;obtain⟨x',hxe,rfl,hwx⟩:=Go.Maps.keyOf_int_inv Tryz.underlying3 hkey;obtain rfl:x=x':=(by injection hxe);have hx64:=Mj hwx;have hsx:s x=true:=(by rw[<-HHAS.out x hx64];exact HL1.out _ hlx);have hxr:=HS.out x hsx;have hxn:x∉xs:=fun hm=>by have:=(HIN.out x hm).2;rw[hlx]at this;cases this
   have hf10:Fr [w.heap.size] wr w10:=⟨hg1.os,hg1.tape,hg1.output,hg1.size,fun k hk hn=>hg1.block k hk (by simpa using hn)⟩;have hxl:xs.length<=4096:=Oi HND.out (fun x hx=>by have:=HS.out x (HIN.out x hx).1;omega);have hown10:=HOWN.out.fr hf10 (by simp;omega);have hwz:w9.heap.size<=w10.heap.size:=Nat.le_trans HFR.out.size hf10.size;have HF10:=zA hf10;have HO:=zA hown10;have HRG1:=zA hrg1;have HRGO:=zA hrg;clear hrg1 hown10 hf10 hat10 hkey hry hrg hxe hwx hg1;go_wp2_with (at_builtin;refine wpList_append_own _ rfl (.tmp 11) (.tmp 13) 32 rfl w9.heap.size 3 i0 _ 1 8 Tryz.underlying32 hi hz0 hz1 hz2 rfl (by decide) u3 xs.length (xs.map (Value.int .i64)) rfl (HO.out.alloc _) ⟨wr.heap.size,0,none⟩ 1 1 [.int .i64 x] rfl rfl ?c1 ?c2 ?c3 ?c4 ?c5 (fun v' w1 hown' hgrow _=>?_))
   case c1=>
    intro j u hj;have hj3:j<1:=by
     have:=(List.getElem?_eq_some_iff.1 hj).1;simpa using this
    rw[C4,Nat.zero_add,Bs (Bc _ _ _ hs1.symm)];simpa using hj
   case c2=>
    intro u hu;simp at hu;subst hu;rfl
   case c3=>unfold maxLen;omega
   case c4=>omega
   case c5=>simp only[World.size_alloc];omega
   have hnb:∀ k,u3.ownBlock=some k->w9.heap.size<=k:=fun k hk=>by
    refine Nat.le_of_not_lt fun h=>?_
    exact Hb HO.out h hk
   have hga:w10.grownBy (w10.alloc (.cells #[.int .i64 x] 3)) none:=⟨rfl,rfl,rfl,by simp,fun k hk _=>A9 _ _ _ hk⟩;have HRG2:=zA ((HRG1.out.kept hga (by simp) (by simp)).kept hgrow (fun e=>by have:=hnb _ e.symm;omega) (fun e=>by have:=hnb _ e.symm;omega));go_roundw
   case rel=>
    refine⟨_,cnt1,xs++[x],HRG2.out,zA ?_,zA ?_,zA (fun z hz=>?_),zA (fun z hz=>HL1.out z (by rw[Bool.and_eq_true]at hz;exact hz.1)),zA (fun p hp=>?_),zA ?_⟩
    ·unfold Hj;rw[List.length_append,List.map_append];exact hown'
    ·rw[List.pairwise_append];refine⟨HND.out,by simp,fun a ha b hb=>?_⟩;rw[List.mem_singleton]at hb;subst hb;exact fun e=>hxn (by rw[<-e];exact ha)
    ·rw[List.mem_append,List.mem_singleton]at hz;rcases hz with hz|rfl
     ·exact⟨(HIN.out z hz).1,by rw[(HIN.out z hz).2];rfl⟩
     ·exact⟨hsx,by simp[Lit.sameKey]⟩
    ·by_cases hpx:p=x
     ·subst hpx;exact .inr (by simp)
     ·rcases HL2.out p hp with h|h
      ·refine .inl ?_;rw[h];simp[Lit.sameKey,hpx]
      ·exact .inr (by simp[h])
    ·have f1:=HFR.out.trans HF10.out;refine⟨hgrow.os.trans f1.os,hgrow.tape.trans f1.tape,hgrow.output.trans f1.output,Nat.le_trans f1.size (Nat.le_trans (by simp) hgrow.size),fun k hk hn=>?_⟩;exact((hgrow.block k (by simp;omega) (fun e=>by have:=hnb _ e.symm;omega)).trans (A9 _ _ _ (by omega))).trans (f1.block k hk hn)
   case measure=>
    rw[HRG2.out.left_eq,HRGO.out.left_eq];exact hlt
noncomputable def Id(i:Nat)(z:LZ):LZ:=
 match z.T i with
 |none=>Db i z
 |some t=>{st:={z.st with S:=Ay z.st.S i (Dr (t.raw.set 1 t.en)).1},T:=A2 z.T i {t with raw:=t.raw.set 1 t.en},q:=z.q}
noncomputable def K7:Nat->Nat->LZ->LZ
 |0,_,z=>z
 |m+1,k,z=>K7 m (k+1) (Id k z)
theorem LW.turn{V:WE}{ob:Option Nat}{B:Nat->Option (Nat×Nat)}{z:LZ}{w:World}(h:LW V ob B z w){i:Nat}{v:Nat×Nat}{t t':TI}(hB:B i=some v)(ht:z.T i=some t){j:Nat}{x:Value}(hbk:t'.bk=t.bk)(hl:t'.raw.length=18)(h2:nth t'.raw 2=nth t.raw 2)(h0:0<=t'.en)(h1:t'.en<=100)
  (hc:(inC t.raw t.en v.2).setIfInBounds j x=inC t'.raw t'.en v.2):
  LW V ob B {z with T:=A2 z.T i t'} (w.setCell ⟨v.1,j,none⟩ x):=by
 have hf:Fr [v.1] w (w.setCell ⟨v.1,j,none⟩ x):=Ai _ _ _ _;obtain⟨t0,ht',hg,hb,l1,l2,n1,n2⟩:=h.yes i v hB;rw[ht]at ht';cases ht';have hm:∀ k∈B4 V ob,k∉[v.1]:=fun k hk hx=>by
  rw[List.mem_singleton]at hx;subst hx;exact n1 hk
 have hgi:V.gi∉[v.1]:=fun hx=>by
  rw[List.mem_singleton]at hx;have:=h.gi0;omega
 obtain⟨tk,hpb,htk⟩:=h.pb;obtain⟨z1,z2,z3,z4,z5,z6,z7,z8⟩:=h.zi.t i t ht
 refine⟨h.e0,h.qo,h.img,h.secs.same (hf.block _ h.secs.lt hgi),h.gi0,h.lo,Nat.le_trans h.sz hf.size,h.small,h.k.fr hf (hm _ (by simp[B4])) (hm _ (by simp[B4])) (hm _ (by simp[B4])) (hm _ (by simp[B4])),
  ⟨tk,hpb.same (hf.block _ hpb.lt (hm _ (by simp[B4]))),htk⟩,fun j hj=>?_,fun j u hu=>?_,h.inj,h.q.fr hf (hm _ (by simp[B4])) (fun g hg=>hm _ (by simp[B4,hg])),⟨fun k t1 ht1=>?_,fun k hk=>?_,?_⟩⟩
 ·show A2 z.T i _ j=none
  unfold A2;rw[if_neg (fun e=>by subst e;rw[hB]at hj;cases hj)];exact h.no j hj
 ·by_cases hji:j=i
  ·subst hji;rw[hB]at hu;cases hu;refine⟨t',by simp[A2],?_,?_,l1,l2,n1,n2⟩
   ·rw[Ah _ _ _ _ _ _ _ hg,hc]
   ·rw[hbk];exact hb.same (hf.block _ hb.lt (fun hx=>by
     rw[List.mem_singleton]at hx;exact h.cross hB hB hx.symm))
  ·obtain⟨t2,h1,h2,h3,h4⟩:=h.yes j u hu;refine⟨t2,by show A2 z.T i _ j=_;unfold A2;rw[if_neg hji];exact h1,(hf.block _ (Aa h2) (fun hx=>?_)).trans h2,h3.same (hf.block _ h3.lt (fun hx=>?_)),h4⟩
   ·rw[List.mem_singleton]at hx;exact h.inj j i u v hu hB hji hx
   ·rw[List.mem_singleton]at hx;exact h.cross hB hu hx.symm
 ·have ht2:A2 z.T i t' k=some t1:=ht1;unfold A2 at ht2;split at ht2
  ·rename_i e
   subst e;cases ht2;exact⟨z1,z2,hl,by rw[h2];exact z4,by rw[h2];exact z5,h0,h1,by rw[hbk];exact z8⟩
  ·exact h.zi.t k t1 ht2
 ·obtain⟨h0,t1,ht1⟩:=h.zi.q k hk;refine⟨h0,?_⟩;show ∃ t'',A2 z.T i _ k.toNat=some t''
  unfold A2;split
  ·exact⟨_,rfl⟩
  ·exact⟨t1,ht1⟩
 ·have:=Ph (z':={z with T:=A2 z.T i t'}) ht rfl;have hp:=h.zi.pot;unfold Ek at*;rw[this];exact hp
theorem Yp{raw:List Int}(h:raw.length=18)(en n:Int)(bx:Nat):(inC raw en bx).setIfInBounds 1 (.int .i64 n)=inC (raw.set 1 n) en bx:=by
 obtain⟨a0,a1,a2,a3,a4,a5,a6,a7,a8,a9,b0,b1,b2,b3,b4,b5,b6,b7,rfl⟩:=Ol h;simp[inC,Array.setIfInBounds]
theorem tH{raw:List Int}(h:raw.length=18)(en:Int)(bx:Nat)(r:Result Value)(w:World)(t:TypeId):Ea r 18 0 w (some (.cells (inC raw en bx) t))= .ok (.agg (IV .i64 raw)) w:=by
 rw[Dp (by rw[Fj h];omega)];obtain⟨a0,a1,a2,a3,a4,a5,a6,a7,a8,a9,b0,b1,b2,b3,b4,b5,b6,b7,rfl⟩:=Ol h;simp[inC,IV]
theorem LW.store{V:WE}{ob:Option Nat}{B:Nat->Option (Nat×Nat)}{z:LZ}{w:World}(h:LW V ob B z w){p:Nat}(hp:p<V.E.N){s:List Int}(hl:s.length=128)(hb:A4 s){cs:Array Value}(hcs:hat w V.E.gw=some (.cells cs 47)):
  LW V ob B {z with st:={z.st with S:=Ay z.st.S p s}} (w.setRow V.E.gw (Ap cs (p*128) (IV .u8 s))):=
 h.st (Da _ _ _) ⟨(Bj _ _ _ _ h.e0.n1).trans h.k.look,h.k.want.store hcs hp hl hb,h.k.claim.same (Bj _ _ _ _ h.e0.n4.symm),h.k.firm.same (Bj _ _ _ _ h.e0.n5.symm)⟩
theorem K0(S:Nat->List Int)(i:Nat)(a b:List Int):Ay (Ay S i a) i b=Ay S i b:=by
 funext j
 unfold Ay;split<;>rfl
theorem Np(l:List Int):A4 (Dr l).1:=by
 by_cases h:B0 l
 ·simp only[Ix h];exact Wu l
 ·simp only[Rf h];exact F0 128
noncomputable def Ck(Y:Int)(z:LZ):Nat->List Int:=fun j=>if 1<=j/\(j:Int)<=Y then(match z.T j with|none=>zl 128|some t=>(Dr (t.raw.set 1 t.en)).1)else z.st.S j
theorem rN(k:Nat)(z:LZ)(j:Nat)(h:j≠k):(Id k z).T j=z.T j:=by
 unfold Id;split
 ·rfl
 ·show A2 z.T k _ j=_
  unfold A2;rw[if_neg h]
theorem rM(k:Nat)(z:LZ)(j:Nat):(Id k z).st.S j=if j=k then(match z.T k with|none=>zl 128|some t=>(Dr (t.raw.set 1 t.en)).1)else z.st.S j:=by
 unfold Id;cases h:z.T k with
 |none=>rfl
 |some t=>rfl
theorem nS(k:Nat)(z:LZ):(Id k z).st.cl=z.st.cl/\(Id k z).st.fm=z.st.fm/\∀ j,((Id k z).T j).isSome=(z.T j).isSome:=by
 unfold Id;cases h:z.T k with
 |none=>exact⟨rfl,rfl,fun _=>rfl⟩
 |some t=>
  refine⟨rfl,rfl,fun j=>?_⟩;show(A2 z.T k _ j).isSome=_
  unfold A2;by_cases hj:j=k
  ·subst hj;rw[if_pos rfl,h];rfl
  ·rw[if_neg hj]
theorem Pq:∀ (m k:Nat) (z:LZ),(K7 m k z).st.cl=z.st.cl/\(K7 m k z).st.fm=z.st.fm/\(∀ j,((K7 m k z).T j).isSome=(z.T j).isSome)/\
  ∀ j,(K7 m k z).st.S j=if k<=j/\j<k+m then(match z.T j with|none=>zl 128|some t=>(Dr (t.raw.set 1 t.en)).1)else z.st.S j
 |0,k,z=>⟨rfl,rfl,fun _=>rfl,fun j=>by rw[if_neg (by omega)];rfl⟩
 |m+1,k,z=>by
  obtain⟨a1,a2,a3,a4⟩:=Pq m (k+1) (Id k z);obtain⟨b1,b2,b3⟩:=nS k z;refine⟨a1.trans b1,a2.trans b2,fun j=>(a3 j).trans (b3 j),fun j=>?_⟩;show(K7 m (k+1) (Id k z)).st.S j=_
  rw[a4 j];by_cases h1:k+1<=j/\j<k+1+m
  ·rw[if_pos h1,if_pos (by omega),rN k z j (by omega)]
  ·rw[if_neg h1,rM];by_cases h2:j=k
   ·subst h2;rw[if_pos rfl,if_pos (by omega)]
   ·rw[if_neg h2,if_neg (by omega)]
theorem qP(Y:Nat)(z:LZ):(K7 Y 1 z).st.S=Ck Y z:=by
 funext j
 rw[(Pq Y 1 z).2.2.2 j];unfold Ck;by_cases h:1<=j/\j<1+Y
 ·rw[if_pos h,if_pos (by omega)]
 ·rw[if_neg h,if_neg (by omega)]
theorem Fe:Lk Tryz.prog 34 4:=Ts Tryz.underlying34 rfl (by kernel_rfl)
def Bv(n:Nat)(S I:Nat->List Int)(sort:Nat->Bool):List Int:=((List.range n).filter fun(i:Nat)=>decide (S i≠I i)&&sort i).map fun(i:Nat)=>(i:Int)
def Es(N:Nat)(Y:Int)(S I:Nat->List Int)(fm:Int->Bool):List Int:=
 Bv N S I (fun i=> !decide ((i:Int)<=Y)&&fm i)++Bv N S I (fun i=>decide ((i:Int)<=Y))++Bv N S I (fun i=> !decide ((i:Int)<=Y)&& !fm i)
theorem Qq{n:Nat}{s s':Int->Bool}(h:∀ i:Nat,i<n->s i=s' i):C6 n s=C6 n s':=by
 unfold C6;congr 1
 apply List.filter_congr
 intro i hi;exact h i (List.mem_range.1 hi)
theorem Yx{s s':Int->Bool}(h:∀ i:Nat,i<4096->s i=s' i):Dz s=Dz s':=Qq h
theorem Bg.sl{w:World}{v:Value}{ob:Option Nat}{xs:List Int}(h:Bg w v ob xs):∃ a n c,v= .slice a n c:=by
 obtain⟨a,c,h⟩:=h.slice;exact⟨a,_,c,h⟩
theorem Hj.q{w:World}{base:Nat}{v:Value}{xs:List Int}(h:Hj w base v xs):∃ o,Bg w v o xs/\∀ g,o=some g->base<=g/\g<w.heap.size:=by
 obtain⟨h1,h2⟩:=h;rcases h2 with ⟨rfl,h2⟩|⟨g,cap,cur,rfl,hg,hcur,hn,hcap,hsz,ht⟩
 ·exact⟨none,.inl ⟨rfl,rfl,List.eq_nil_of_length_eq_zero h2⟩,fun g hg=>by cases hg⟩
 ·refine⟨some g,.inr ⟨g,0,cap,cur,rfl,rfl,hcur,hn,by omega,fun j p hj=>?_⟩,fun q hq=>by cases hq;exact⟨hg,Aa (w:=w) hcur⟩⟩;have hjl:j<xs.length:=(List.getElem?_eq_some_iff.1 hj).1;have h3:(cur.toList.take (xs.length*1))[j]? =(xs.map (Value.int .i64))[j]? :=(by rw[ht]);rw[List.getElem?_take,if_pos (by omega),List.getElem?_map,hj]at h3;rw[Nat.zero_add];simpa using h3
def Q4(w:World)(g:Nat)(a b c d:Value):World:=(((w.setCell ⟨g,0,none⟩ a).setCell ⟨g,1,none⟩ b).setCell ⟨g,2,none⟩ c).setCell ⟨g,3,none⟩ d
theorem Cl(w:World)(g:Nat)(a b c d:Value):Fr [g] w (Q4 w g a b c d):=(((Ai w g 0 a).trans (Ai _ g 1 b)).trans (Ai _ g 2 c)).trans (Ai _ g 3 d)
theorem Dc{w:World}{g:Nat}{x0 x1 x2 x3:Value}{t:TypeId}{fr:Nat×Nat}(h:hat w g=some (.cells #[x0,x1,x2,x3] t fr))(a b c d:Value):hat (Q4 w g a b c d) g=some (.cells #[a,b,c,d] t fr):=
 Ah _ _ _ _ _ _ _ (Ah _ _ _ _ _ _ _ (Ah _ _ _ _ _ _ _ (Ah _ _ _ _ _ _ _ h)))
theorem Ja(g:Nat):∀ (vs:List Value) (o:Nat) (w:World),Fr [g] w (w.setCells g o vs)
 |[],_,w=>Fr.refl _ w
 |v::r,o,w=>(Ai w g o v).trans (Ja g r (o+1) _)
theorem If(g:Nat)(t:TypeId)(fr:Nat×Nat):∀ (vs:List Value) (o:Nat) (w:World) (cs:Array Value),hat w g=some (.cells cs t fr)->∃ cs',hat (w.setCells g o vs) g=some (.cells cs' t fr)/\cs'.size=cs.size/\
  (∀ j,j<o->cs'[j]? =cs[j]?)/\∀ j v,vs[j]? =some v->o+j<cs.size->cs'[o+j]? =some v
 |[],o,w,cs,h=>⟨cs,h,rfl,fun _ _=>rfl,fun j v hv=>by simp at hv⟩
 |x::r,o,w,cs,h=>by
  obtain⟨cs',h1,h2,h3,h4⟩:=If g t fr r (o+1) _ _ (Ah w g o x _ _ _ h);refine⟨cs',h1,by rw[h2];simp,fun j hj=>?_,fun j v hv hj=>?_⟩
  ·rw[h3 j (by omega),Array.getElem?_setIfInBounds,if_neg (by omega)]
  ·cases j with
   |zero=>
    simp at hv;subst hv;rw[Nat.add_zero]at hj ⊢;rw[h3 o (by omega),Array.getElem?_setIfInBounds,if_pos rfl,if_pos hj]
   |succ j=>
    have:=h4 j v (by simpa using hv) (by simp;omega);rw[show o+(j+1)=o+1+j by omega];exact this
theorem Bg.src{w:World}{u:Value}{ob:Option Nat}{ys:List Int}(h:Bg w u ob ys):Src Tryz.prog 1 32 u ys.length (ys.map (Value.int .i64)) w:=by
 have ht:Tryz.prog.underlying 32=some (.slice 3):=Tryz.underlying32;rcases h with ⟨rfl,-,rfl⟩|⟨g,off,c,cs,rfl,-,hg,hc,hcs,hx⟩
 ·exact Src.ofNil w ht 0
 ·exact Src.ofSlice w ht ⟨g,off,none⟩ ys.length c _ (by simp) (fun j v hj=>by
   rw[C4,Bs hg];rw[List.getElem?_map]at hj;cases hxj:ys[j]? with
   |none=>rw[hxj]at hj;cases hj
   |some p=>rw[hxj]at hj;rw[hx j p hxj, <-hj];rfl) (fun v hv=>by rw[List.mem_map]at hv;obtain⟨x,-,rfl⟩:=hv;rfl)
theorem M9{w:World}{v u:Value}{ob ob2:Option Nat}{xs ys:List Int}(h:Bg w v ob xs)(h2:Bg w u ob2 ys)(hn:xs.length+ys.length<=100000)(ty:TypeId):
  ∃ v' w' ob',(Builtin.append_ #[32,32] ty #[v,u]).run Tryz.prog w= .ok v' w'/\Bg w' v' ob' (xs++ys)/\Fr ob.toList w w'/\(ob'=ob\/∃ g,ob'=some g/\w.heap.size<=g):=by
 have ht:Tryz.prog.underlying 32=some (.slice 3):=Tryz.underlying32;obtain⟨inf,hi,hz,hsz,hby⟩:=Ok;have hs:Src Tryz.prog inf.size 32 u ys.length (ys.map (Value.int .i64)) w:=by rw[hsz];exact h2.src
 by_cases hroom:∃ g off c cs,v= .slice (some ⟨g,off,none⟩) xs.length c/\ob=some g/\hat w g=some (.cells cs 3)/\xs.length+ys.length<=c/\off+c<=cs.size/\∀ j p,xs[j]? =some p->cs[off+j]? =some (.int .i64 p)
 ·obtain⟨g,off,c,cs,rfl,rfl,hg,hc,hcs,hx⟩:=hroom
  have hr:=run_append_room_src (P:=Tryz.prog) w 32 32 ty 3 inf ht hi g off xs.length c u ys.length _ hs hc
   (fun j hj=>by
    rw[hsz,Bs hg];simp at hj;rw[Array.getElem?_eq_getElem (by omega)];rfl)
   (fun j hj=>Kg hg _)
  rw[hsz,Nat.mul_one]at hr;obtain⟨cs',a1,a2,a3,a4⟩:=If g 3 (0,0) (ys.map (Value.int .i64)) (off+xs.length) w cs hg;refine⟨_,_,some g,hr,.inr ⟨g,off,c,cs',by simp,rfl,a1,by simpa using hc,by rw[a2];exact hcs,fun j p hj=>?_⟩,(Ja g _ _ _).mono (by simp),.inl rfl⟩;by_cases hjl:j<xs.length
  ·rw[List.getElem?_append_left hjl]at hj;rw[a3 _ (by omega)];exact hx j p hj
  ·rw[List.getElem?_append_right (by omega)]at hj;have hjy:j-xs.length<ys.length:=(List.getElem?_eq_some_iff.1 hj).1;have:=a4 (j-xs.length) (.int .i64 p) (by rw[List.getElem?_map,hj];rfl) (by omega);rw[show off+xs.length+(j-xs.length)=off+j by omega]at this;exact this
 ·by_cases h0:v= .slice none 0 0/\ob=none/\xs=[]/\ys=[]
  ·obtain⟨rfl,rfl,rfl,rfl⟩:=h0;refine⟨.slice none 0 0,w,none,?_,.inl ⟨rfl,rfl,rfl⟩,Fr.refl _ _,.inl rfl⟩;have hc0:(Builtin.firstCells inf.size 0 u).run Tryz.prog w= .ok #[] w:=hs.cells;rcases hs.kind with ⟨e',hk⟩|hk<;>simp[Builtin.append_,run_underlying ht,run_underlying hk,sizeOf,typeInfo,hi,hs.len,hc0]
  ·obtain⟨base,cp,hv,hcp,hold⟩:∃ base cp,v= .slice base xs.length cp/\cp<xs.length+ys.length/\(Builtin.firstCells inf.size xs.length (.slice base xs.length cp)).run Tryz.prog w.drew= .ok (xs.map (Value.int .i64)).toArray w.drew:=by
    rcases h with ⟨rfl,rfl,rfl⟩|⟨g,off,c,cs,rfl,rfl,hg,hc,hcs,hx⟩
    ·have hy:ys≠[]:=fun e=>h0 ⟨rfl,rfl,rfl,e⟩
     have:=List.length_pos_iff.2 hy;exact⟨none,0,rfl,by simpa using this,run_firstCells_none w.drew _ 0 0 0⟩
    ·refine⟨some ⟨g,off,none⟩,c,rfl,?_,?_⟩
     ·refine Nat.lt_of_not_le fun hle=>hroom ⟨g,off,c,cs,rfl,rfl,hg,hle,hcs,hx⟩
     ·refine run_firstCells_some w.drew _ xs.length ⟨g,off,none⟩ xs.length c (xs.map (Value.int .i64)) (by rw[hsz];simp) fun j u hj=>?_
      rw[C4];show w.cell? _=_
      rw[Bs hg];rw[List.getElem?_map]at hj;cases hxj:xs[j]? with
      |none=>rw[hxj]at hj;cases hj
      |some p=>rw[hxj]at hj;rw[hx j p hxj, <-hj];rfl
   subst hv;have hr:=run_append_grow_src (P:=Tryz.prog) w 32 32 ty 3 inf (.int .i64 0) ht hi hz base xs.length cp _ hold u ys.length _ hs hcp (by omega) (growslice_fits hcp (by rw[hby];omega));have hge:=grownCap_ge w (xs.length+ys.length) cp 3;refine⟨_,_,some w.heap.size,hr,.inr ⟨w.heap.size,0,grownCap w (xs.length+ys.length) cp 3,_,by rw[List.length_append],rfl,Bc w.drew _ _ rfl,by simpa using hge,?_,fun j p hj=>?_⟩,?_,.inr ⟨_,rfl,Nat.le_refl _⟩⟩
   ·have hz2:(Value.int .i64 0).cells.size=1:=rfl;rw[Array.size_append,size_zeroCells,hz2];simp;omega
   ·have hjl:j<xs.length+ys.length:=by
     have:=(List.getElem?_eq_some_iff.1 hj).1;simpa using this
    rw[Nat.zero_add,Array.getElem?_append_left (by simpa using hjl)];rw[<-List.map_append,List.getElem?_toArray,List.getElem?_map,hj];rfl
   ·exact Af (show Below w.heap.size w (w.drew.alloc _)from Below.alloc (show Below w.heap.size w w.drew from⟨rfl,rfl,rfl,Nat.le_refl _,fun _ _=>rfl⟩) (Nat.le_refl _) _) _
def Dis(a b:Option Nat):Prop:=∀ q,a=some q->b≠some q
theorem Dis.symm{a b:Option Nat}(h:Dis a b):Dis b a:=fun q hb ha=>h q ha hb
def I4(w:World)(base g5:Nat)(l:List (Option Nat)):Prop:=(∀ o∈l,∀ q,o=some q->base<=q/\q≠g5/\q<w.heap.size)/\l.Pairwise Dis
theorem I4.put{w w':World}{base g5:Nat}{a b:List (Option Nat)}{o o':Option Nat}(h:I4 w base g5 (a++o::b))(ho:o'=o\/∃ g,o'=some g/\w.heap.size<=g)(hb:base<=w.heap.size)(hg:g5<w.heap.size)(hs:w.heap.size<=w'.heap.size)(hl:∀ q,o'=some q->q<w'.heap.size):I4 w' base g5 (a++o'::b):=by
 obtain⟨h1,h2⟩:=h
 have hin:∀ x∈a++b,∀ q,x=some q->base<=q/\q≠g5/\q<w.heap.size:=fun x hx=>h1 x (by
  rw[List.mem_append]at hx ⊢;rcases hx with hx|hx
  ·exact .inl hx
  ·exact .inr (List.mem_cons_of_mem _ hx))
 refine⟨fun x hx q hq=>?_,?_⟩
 ·rw[List.mem_append,List.mem_cons]at hx;have hcase:x∈a++b\/x=o':=by
   rcases hx with hx|hx|hx
   ·exact .inl (List.mem_append.2 (.inl hx))
   ·exact .inr hx
   ·exact .inl (List.mem_append.2 (.inr hx))
  rcases hcase with hx|rfl
  ·have:=hin x hx q hq;exact⟨this.1,this.2.1,Nat.lt_of_lt_of_le this.2.2 hs⟩
  ·rcases ho with rfl|⟨g,hg2,hgl⟩
   ·have:=h1 x (by simp) q hq;exact⟨this.1,this.2.1,Nat.lt_of_lt_of_le this.2.2 hs⟩
   ·rw[hq]at hg2;cases hg2;exact⟨by omega,by omega,hl q hq⟩
 ·rw[List.pairwise_append]at h2 ⊢;obtain⟨p1,p2,p3⟩:=h2;rw[List.pairwise_cons]at p2 ⊢;have hd:∀ x∈a++b,Dis x o->Dis x o':=fun x hx hxo q hq hq2=>by
   rcases ho with rfl|⟨g,hg2,hgl⟩
   ·exact hxo q hq hq2
   ·rw[hq2]at hg2;cases hg2;have:=hin x hx q hq;omega
  refine⟨p1,⟨fun x hx=>(hd x (List.mem_append.2 (.inr hx)) (p2.1 x hx).symm).symm,p2.2⟩,fun x hx y hy=>?_⟩;rw[List.mem_cons]at hy;rcases hy with rfl|hy
  ·exact hd x (List.mem_append.2 (.inl hx)) (p3 x hx o (by simp))
  ·exact p3 x hx y (by simp[hy])
theorem Bk{a b:Option Nat}(h:Dis a b):∀ g,a=some g->g∉b.toList:=fun g hg hm=>by
 cases b with
 |none=>cases hm
 |some q=>
  simp at hm;subst hm;exact h g hg rfl
theorem I4.ten{w:World}{base g5:Nat}{o1 o2 o3 o4 o5:Option Nat}(h:I4 w base g5 [o1,o2,o3,o4,o5]):(Dis o1 o2/\Dis o1 o3/\Dis o1 o4/\Dis o1 o5)/\(Dis o2 o3/\Dis o2 o4/\Dis o2 o5)/\(Dis o3 o4/\Dis o3 o5)/\Dis o4 o5:=by
 obtain⟨-,h⟩:=h;rw[List.pairwise_cons,List.pairwise_cons,List.pairwise_cons,List.pairwise_cons]at h;obtain⟨h1,h2,h3,h4,-⟩:=h;exact⟨⟨h1 _ (by simp),h1 _ (by simp),h1 _ (by simp),h1 _ (by simp)⟩,⟨h2 _ (by simp),h2 _ (by simp),h2 _ (by simp)⟩,⟨h3 _ (by simp),h3 _ (by simp)⟩,h4 _ (by simp)⟩
theorem I4.old{wo wr w':World}{g5:Nat}{l:List (Option Nat)}{o:Option Nat}(hro:I4 wr wo.heap.size g5 l)(ho:o∈l)(hf0:Fr [] wo wr)(hf:Fr o.toList wr w'):Fr [] wo w':=
 ((hf0.mono (ex':=o.toList) (by simp)).trans hf).old (fun k hk=> .inr (hro.1 o ho k (by
  cases o with
  |none=>cases hk
  |some q=>simp at hk;rw[hk])).1)
theorem I4.g5{w:World}{base g5:Nat}{l:List (Option Nat)}{o:Option Nat}(hro:I4 w base g5 l)(ho:o∈l):g5∉o.toList:=fun hm=>by
 cases o with
 |none=>cases hm
 |some q=>
  simp at hm;exact(hro.1 _ ho q rfl).2.1 hm.symm
theorem Cr(k:Nat)(S I:Nat->List Int)(sort:Nat->Bool):Bv (k+1) S I sort=Bv k S I sort++(if (decide (S k≠I k)&&sort k)=true then [(k:Int)]else []):=by
 unfold Bv;rw[List.range_succ,List.filter_append,List.map_append];congr 1
 by_cases h:(decide (S k≠I k)&&sort k)=true
 ·rw[if_pos h];simp only[List.filter_cons];rw[if_pos h];rfl
 ·rw[if_neg h];simp only[List.filter_cons];rw[if_neg h];rfl
theorem I9(k:Nat)(S I:Nat->List Int)(sort:Nat->Bool):(Bv k S I sort).length<=k:=by
 unfold Bv;rw[List.length_map];exact Nat.le_trans (List.length_filter_le _ _) (by simp)
end Go.Proofs.YtmnecpnkkapflaaGreat
