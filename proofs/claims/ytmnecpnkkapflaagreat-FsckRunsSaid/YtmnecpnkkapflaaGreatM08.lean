import Derived.Test.YtmnecpnkkapflaaGreatM04
import Derived.Test.YtmnecpnkkapflaaGreatM06
import Derived.Test.YtmnecpnkkapflaaGreatM07
namespace Go.Proofs.YtmnecpnkkapflaaGreat
set_option maxHeartbeats 16000000
set_option maxRecDepth 1000000
set_option linter.unusedSimpArgs false
set_option linter.unusedVariables false
open Go.RowKit
def dG(n:Nat)(l:List (Option Nat)):Prop:=(∀ o∈l,∀ q,o=some q->n<=q)/\l.Pairwise Dis
theorem bY{V:WE}{ob:Option Nat}{B:Nat->Option (Nat×Nat)}{z:LZ}{w:World}(h:LW V ob B z w):
  Calls Tryz.prog 54 #[.pointer (some ⟨V.E.gl,0,none⟩)] w fun e w'=>∃ v1 v2 v3 o1 o2 o3,e= .returned (.agg #[.slice (some ⟨V.E.gw,0,none⟩) V.E.N V.E.cw,v1,v2,v3])/\B8 w' V.E.gw V.E.N V.E.cw (Ck V.E.Y z)/\
   Bg w' v1 o1 (Es V.E.N V.E.Y (Ck V.E.Y z) V.IMG z.st.fm)/\Bg w' v2 o2 (Dz fun p=>(z.T p.toNat).isSome)/\Bg w' v3 o3 (Dz z.st.cl)/\Below V.G0 w w'/\dG w.heap.size [o1,o2,o3]:=by
 obtain⟨hN4,hNX⟩:=h.img4096;have hsm:=h.small;have hY0:=h.e0.pos;obtain⟨YN,hYN⟩:=Int.eq_ofNat_of_zero_le hY0;have hl:=h.k.look;unfold Bz at hl;rw[hYN]at hl;have H:=zA h;have HF1:=zA (Be w (.cells #[.slice none 0 0,.slice none 0 0,.slice none 0 0,.slice none 0 0] 34) []);have hg2:=(A6 w (.cells #[.slice none 0 0,.slice none 0 0,.slice none 0 0,.slice none 0 0] 34)).1;have HLW1:=zA (h.fr HF1.out (by simp));have HSA:=zA (Hi.new h (Nat.le_refl w.heap.size));have hyn4:YN<4096:=by omega
 clear hNX;clear h;go_enter Tryz.func54,Tryz.ntmps54;go_wp2_with fail;generalize w.alloc (.cells #[.slice none 0 0,.slice none 0 0,.slice none 0 0,.slice none 0 0] 34)=w1 at*;go_loopw [3] (fun v wr=>∃ (k:Nat) (zk:LZ),v= .int .i64 k/\1<=k/\k<=YN+1/\Hid (LW V ob B zk wr)/\Hid (K7 (YN+1-k) k zk=K7 YN 1 z)/\Hid (Ch V [] ob B w1 ob B wr)) (fun v wr=>YN+1-(intOf v).toNat)
 case atStart=>exact⟨1,z,rfl,Nat.le_refl _,by omega,HLW1,zA (by rw[Nat.add_sub_cancel]),zA (Ch.refl _ _ _ _ _)⟩
 case round=>
  obtain⟨k,zk,rfl,hk1,hk2,HLW,HE,HMV⟩:=hrel;have hlr:=HLW.out.k.look;unfold Bz at hlr;rw[hYN]at hlr;by_cases hky:k<=YN
  ·have hky':(k:Int)<=(YN:Int):=(by omega);have hkN:k<V.E.N:=(by omega);have hk0:(0:Int)<=(k:Int):=Int.natCast_nonneg _;have hkN':(k:Int)<(V.E.N:Int):=(by omega);obtain⟨cswx,hcswx,hszx,-⟩:=HLW.out.k.want;have hstx:∀ (s:List Int),s.length=128->∀ (cs:Array Value),V.E.N*128<=cs.size->∀ raw' w',Dd raw' 128 (k*128) V.E.gw (IV .u8 s) w' (some (.cells cs 47 (0,0)))= .ok () (w'.setRow V.E.gw (Ap cs (k*128) (IV .u8 s))):=fun s hs cs hcs raw' w'=>Cj (by omega) (by simp[hs]) (by simp)
   have hst0:=hstx (zl 128) (C2 128) cswx hszx.1;have hcswl:=Aa hcswx;have HST:=zA hstx;have hlw2:=HLW.out.wipe hkN hcswx;have hp2:=hlw2.ptr k (by omega);have hl2:=hlw2.k.look;unfold Bz at hl2;rw[hYN]at hl2;have HLW2:=zA hlw2;have HMV2:=zA (HMV.out.trans (Ch.gw wr (Ap cswx (k*128) (IV .u8 (zl 128)))));have hcs2:=Ar wr V.E.gw (Ap cswx (k*128) (IV .u8 (zl 128))) _ _ _ hcswx;have hsz2:V.E.N*128<=(Ap cswx (k*128) (IV .u8 (zl 128))).size:=(by rw[Hs _ _ _ (by rw[Rb,C2];omega)];exact hszx.1);clear hstx hlw2;have hHE:K7 (YN+1-(k+1)) (k+1) (Id k zk)=K7 YN 1 z:=by
    rw[<-HE.out,show YN+1-k=(YN+1-(k+1))+1 by omega];rfl
   have HE2:=zA hHE;clear hHE;cases hB:B k with
   |none=>
    rw[hB]at hp2;simp only[Option.map_none,Lz]at hp2;have hT:=HLW.out.no k hB;have hs:Id k zk=Db k zk:=(by unfold Id;rw[hT]);rw[hs]at HE2;clear hs;go_wp2_with fail;go_roundw
    case rel=>exact⟨k+1,Db k zk,by go_num,by omega,by omega,HLW2,HE2,HMV2⟩
    case measure=>(show YN+1-(k+1)<YN+1-k);omega
   |some v=>
    obtain⟨gx,bx⟩:=v;rw[hB]at hp2;simp only[Option.map_some,Lz]at hp2;obtain⟨t,hT,hgx,-⟩:=HLW2.out.yes k _ hB;simp only at hgx;obtain⟨-,-,hrl,-,-,he0,he1,-⟩:=HLW2.out.zi.t k t hT;have hlw3:=HLW2.out.turn (t':={t with raw:=t.raw.set 1 t.en}) (j:=1) (x:= .int .i64 t.en) hB hT rfl (by simp[hrl]) (by unfold nth;rw[List.getElem?_set_ne (by omega)]) he0 he1 (Yp hrl t.en t.en bx);have k18:=bA hrl t.en bx;have hz8:=Fj hrl t.en bx;have hgx3:=Ah _ gx 1 (.int .i64 t.en) _ _ _ hgx;rw[Yp hrl t.en t.en bx]at hgx3;have hrl3:(t.raw.set 1 t.en).length=18:=(by simp[hrl]);have hldx:=fun raw w=>tH hrl3 t.en bx raw w 102
    generalize hc8:inC t.raw t.en bx=c8 at hgx k18 hz8;have j18:∀ h:18<c8.size,c8[18]'h=Value.int .i64 t.en:=fun h=>by
     rw[Array.getElem?_eq_getElem h]at k18;exact Option.some.inj k18
    have z18:18<c8.size:=(by omega);have z1:1<c8.size:=(by omega);have hgxl:=Aa hgx;have HLW3:=zA hlw3;have hgw:gx≠V.E.gw:=fun e=>by
     obtain⟨_,_,_,_,_,_,h6,_⟩:=HLW2.out.yes k _ hB;exact h6 (by show gx∈_;rw[e];simp[B4])
    have hgg:gx≠V.E.gl:=fun e=>by
     obtain⟨_,_,_,_,_,_,h6,_⟩:=HLW2.out.yes k _ hB;exact h6 (by show gx∈_;rw[e];simp[B4])
    have HMV3:=zA (HMV2.out.trans (Ch.of (Ai (wr.setRow V.E.gw (Ap cswx (k*128) (IV .u8 (zl 128)))) gx 1 (.int .i64 t.en)) (fun q hq=> .inr fun ha=>by
     rw[List.mem_singleton]at hq;subst hq;exact(ha.2 k _ hB).1 rfl)))
    have hs:Id k zk={st:={zk.st with S:=Ay zk.st.S k (Dr (t.raw.set 1 t.en)).1},T:=A2 zk.T k {t with raw:=t.raw.set 1 t.en},q:=zk.q}:=by
     have hT0:zk.T k=some t:=hT;unfold Id;rw[hT0]
    rw[hs]at HE2;clear hs hlw3 hc8 k18;go_wp2_with fail;have hl5:=((Ai (wr.setRow V.E.gw (Ap cswx (k*128) (IV .u8 (zl 128)))) gx 1 (.int .i64 t.en)).block _ (Aa hl2) (by simpa using hgg.symm)).trans hl2;have hcs5:=((Ai (wr.setRow V.E.gw (Ap cswx (k*128) (IV .u8 (zl 128)))) gx 1 (.int .i64 t.en)).block _ (Aa hcs2) (by simpa using hgw.symm)).trans hcs2;generalize ((wr.setRow V.E.gw (Ap cswx (k*128) (IV .u8 (zl 128)))).setCell ⟨gx,1,none⟩ (.int .i64 t.en))=w5 at*;generalize Ap cswx (k*128) (IV .u8 (zl 128))=cs2 at*;have hst6:=HST.out (Dr (t.raw.set 1 t.en)).1 (Je _) cs2 hsz2;have hE1:=HLW.out.e0.n1;refine wp_region_noPanic ?_;refine wp_region_held_drew (S:=(fun w'=>hat w' V.E.gl=some (.cells #[.int .i64 V.E.X,.int .i64 (YN:Int),V.E.img,.slice (some ⟨V.E.gw,0,none⟩) V.E.N V.E.cw,.map (some V.E.bc),.map (some V.E.bt),.map (some V.E.bf),V.E.qf] 95)/\hat w' gx=some (.cells (inC (t.raw.set 1 t.en) t.en bx) 102))) (by kernel_rfl) ⟨hl5,hgx3⟩ (fun hHeld=>?_);refine wpAnyH_take (i:=0) (oi:={dst:=some 42,op:=Op.move (Operand.tmp 0),type:=89,pos:= "look.go:208",after:= #[],guard:=none}) (v:=?va0) rfl (by kernel_rfl) (by kernel_rfl) (by kernel_rfl) (fun _ _ _ h=>h) (Or.inl ⟨by rfl,?hya0⟩) (by assumption) ?resta0
    case hya0=>(intro w' hSw;(try dsimp only at hSw);go_simp;(try with_reducible rfl))
    try simp only[Act.put,List.setIfInBounds_toArray,List.set_cons_zero,List.set_cons_succ]
    refine wpAnyH_take (i:=1) (oi:={dst:=some 43,op:=Op.nilCheck (Operand.tmp 42),type:=0,pos:= "look.go:208",after:= #[{on:=0,ground:=Ground.data}],guard:=none}) (v:=?va1) rfl (by kernel_rfl) (by kernel_rfl) (by kernel_rfl) (fun _ _ _ h=>h) (Or.inl ⟨by rfl,?hya1⟩) (by assumption) ?resta1
    case hya1=>(intro w' hSw;(try dsimp only at hSw);go_simp;(try with_reducible rfl))
    try simp only[Act.put,List.setIfInBounds_toArray,List.set_cons_zero,List.set_cons_succ]
    refine wpAnyH_take (i:=2) (oi:={dst:=some 44,op:=Op.fieldAddr 95 (Operand.tmp 43) 2,type:=0,pos:= "look.go:208",after:= #[{on:=1,ground:=Ground.data}],guard:=none}) (v:=?va2) rfl (by kernel_rfl) (by kernel_rfl) (by kernel_rfl) (fun _ _ _ h=>h) (Or.inl ⟨by rfl,?hya2⟩) (by assumption) ?resta2
    case hya2=>(intro w' hSw;(try dsimp only at hSw);go_simp;(try with_reducible rfl))
    try simp only[Act.put,List.setIfInBounds_toArray,List.set_cons_zero,List.set_cons_succ]
    refine wpAnyH_take (i:=3) (oi:={dst:=some 45,op:=Op.load 26 (Operand.tmp 44),type:=26,pos:= "look.go:208",after:= #[{on:=2,ground:=Ground.data}],guard:=none}) (v:=?va3) rfl (by kernel_rfl) (by kernel_rfl) (by kernel_rfl) (fun _ _ _ h=>h) (Or.inl ⟨by rfl,?hya3⟩) (by assumption) ?resta3
    case hya3=>(intro w' hSw;(try dsimp only at hSw);go_simp;(try with_reducible rfl))
    try simp only[Act.put,List.setIfInBounds_toArray,List.set_cons_zero,List.set_cons_succ]
    refine wpAnyH_take (i:=4) (oi:={dst:=some 46,op:=Op.move (Operand.tmp 3),type:=3,pos:= "look.go:208",after:= #[],guard:=none}) (v:=?va4) rfl (by kernel_rfl) (by kernel_rfl) (by kernel_rfl) (fun _ _ _ h=>h) (Or.inl ⟨by rfl,?hya4⟩) (by assumption) ?resta4
    case hya4=>(intro w' hSw;(try dsimp only at hSw);go_simp;(try with_reducible rfl))
    try simp only[Act.put,List.setIfInBounds_toArray,List.set_cons_zero,List.set_cons_succ]
    refine wpAnyH_take (i:=5) (oi:={dst:=some 47,op:=Op.move (Operand.tmp 4),type:=103,pos:= "look.go:208",after:= #[],guard:=none}) (v:=?va5) rfl (by kernel_rfl) (by kernel_rfl) (by kernel_rfl) (fun _ _ _ h=>h) (Or.inl ⟨by rfl,?hya5⟩) (by assumption) ?resta5
    case hya5=>(intro w' hSw;(try dsimp only at hSw);go_simp;(try with_reducible rfl))
    try simp only[Act.put,List.setIfInBounds_toArray,List.set_cons_zero,List.set_cons_succ]
    refine wpAnyH_take (i:=6) (oi:={dst:=some 48,op:=Op.nilCheck (Operand.tmp 47),type:=0,pos:= "look.go:208",after:= #[{on:=5,ground:=Ground.data}],guard:=none}) (v:=?va6) rfl (by kernel_rfl) (by kernel_rfl) (by kernel_rfl) (fun _ _ _ h=>h) (Or.inl ⟨by rfl,?hya6⟩) (by assumption) ?resta6
    case hya6=>(intro w' hSw;(try dsimp only at hSw);go_simp;(try with_reducible rfl))
    try simp only[Act.put,List.setIfInBounds_toArray,List.set_cons_zero,List.set_cons_succ]
    refine wpAnyH_take (i:=7) (oi:={dst:=some 49,op:=Op.fieldAddr 102 (Operand.tmp 48) 0,type:=0,pos:= "look.go:208",after:= #[{on:=6,ground:=Ground.data}],guard:=none}) (v:=?va7) rfl (by kernel_rfl) (by kernel_rfl) (by kernel_rfl) (fun _ _ _ h=>h) (Or.inl ⟨by rfl,?hya7⟩) (by assumption) ?resta7
    case hya7=>(intro w' hSw;(try dsimp only at hSw);go_simp;(try with_reducible rfl))
    try simp only[Act.put,List.setIfInBounds_toArray,List.set_cons_zero,List.set_cons_succ]
    refine wpAnyH_take (i:=8) (oi:={dst:=some 50,op:=Op.load 78 (Operand.tmp 49),type:=78,pos:= "look.go:208",after:= #[{on:=7,ground:=Ground.data}],guard:=none}) (v:=?va8) rfl (by kernel_rfl) (by kernel_rfl) (by kernel_rfl) (fun _ _ _ h=>h) (Or.inl ⟨by rfl,?hya8⟩) (by assumption) ?resta8
    case hya8=>(intro w' hSw;(try dsimp only at hSw);go_simp;(try with_reducible rfl))
    try simp only[Act.put,List.setIfInBounds_toArray,List.set_cons_zero,List.set_cons_succ]
    refine wpAnyH_ready (rs:=[9]) (by kernel_rfl) (by simp) ?_;refine AllReadyH.cons (o:={dst:=some 51,op:=Op.call {callee:=Callee.value (Operand.func 88),args:= #[Operand.tmp 50],argTypes:= #[78]},type:=113,pos:= "look.go:208",after:= #[{on:=8,ground:=Ground.data}],guard:=none}) rfl (fun K hK=>?_) AllReadyH.nil;go_simp;refine(lV (t.raw.set 1 t.en) hrl3 _).mono ?_;rintro e w6 ⟨rfl,hb6⟩;have hb6:Below w5.heap.size w5 w6:=⟨hb6.os,hb6.tape,hb6.output,hb6.size,hb6.block⟩;have hl6:=(hop hb6 hl5).1;have hgx6:=(hop hb6 hgx3).1;have hcs6:=(hop hb6 hcs5).1;refine hK.out _ _ ⟨hl6,hgx6⟩ (fun hHeld=>?_);clear hK K;try simp only[Act.put,List.setIfInBounds_toArray,List.set_cons_zero,List.set_cons_succ]
    refine wpAnyH_take (i:=10) (oi:={dst:=some 41,op:=Op.move (Operand.tmp 51),type:=113,pos:= "look.go:208",after:= #[{on:=9,ground:=Ground.data}],guard:=none}) (v:=?va10) rfl (by kernel_rfl) (by kernel_rfl) (by kernel_rfl) (fun _ _ _ h=>h) (Or.inl ⟨by rfl,?hya10⟩) (by assumption) ?resta10
    case hya10=>(intro w' hSw;(try dsimp only at hSw);go_simp;(try with_reducible rfl))
    try simp only[Act.put,List.setIfInBounds_toArray,List.set_cons_zero,List.set_cons_succ]
    refine wpAnyH_take (i:=11) (oi:={dst:=some 52,op:=Op.extract (Operand.tmp 41) 0,type:=47,pos:= "look.go:208",after:= #[{on:=10,ground:=Ground.data}],guard:=none}) (v:=?va11) rfl (by kernel_rfl) (by kernel_rfl) (by kernel_rfl) (fun _ _ _ h=>h) (Or.inl ⟨by rfl,?hya11⟩) (by assumption) ?resta11
    case hya11=>(intro w' hSw;(try dsimp only at hSw);go_simp;(try with_reducible rfl))
    try simp only[Act.put,List.setIfInBounds_toArray,List.set_cons_zero,List.set_cons_succ]
    refine wpAnyH_take (i:=12) (oi:={dst:=some 53,op:=Op.extract (Operand.tmp 41) 1,type:=29,pos:= "look.go:208",after:= #[{on:=10,ground:=Ground.data},{on:=14,ground:=Ground.gcOnly Departure.lateStores}],guard:=none}) (v:=?va12) rfl (by kernel_rfl) (by kernel_rfl) (by kernel_rfl) (fun _ _ _ h=>h) (Or.inl ⟨by rfl,?hya12⟩) (by assumption) ?resta12
    case hya12=>(intro w' hSw;(try dsimp only at hSw);go_simp;(try with_reducible rfl))
    try simp only[Act.put,List.setIfInBounds_toArray,List.set_cons_zero,List.set_cons_succ]
    refine wpAnyH_take (i:=13) (oi:={dst:=some 54,op:=Op.indexAddr 26 (Operand.tmp 45) (Operand.tmp 46),type:=0,pos:= "look.go:208",after:= #[{on:=3,ground:=Ground.data},{on:=4,ground:=Ground.data},{on:=0,ground:=Ground.phase},{on:=1,ground:=Ground.phase},{on:=2,ground:=Ground.phase},{on:=3,ground:=Ground.phase},{on:=4,ground:=Ground.phase},{on:=5,ground:=Ground.phase},{on:=6,ground:=Ground.phase},{on:=7,ground:=Ground.phase},{on:=8,ground:=Ground.phase},{on:=9,ground:=Ground.phase},{on:=10,ground:=Ground.phase},{on:=11,ground:=Ground.phase},{on:=12,ground:=Ground.textOnly Departure.lateStores}],guard:=none}) (v:=?va13) rfl (by kernel_rfl) (by kernel_rfl) (by kernel_rfl) (fun _ _ _ h=>h) (Or.inl ⟨by rfl,?hya13⟩) (by assumption) ?resta13
    case hya13=>(intro w' hSw;(try dsimp only at hSw);go_simp;(try with_reducible rfl))
    try simp only[Act.put,List.setIfInBounds_toArray,List.set_cons_zero,List.set_cons_succ]
    refine wpAnyH_ready (rs:=[14]) (by kernel_rfl) (by simp) ?_;refine AllReadyH.cons (o:={dst:=none,op:=Op.store 47 (Operand.tmp 54) (Operand.tmp 52),type:=0,pos:= "look.go:208",after:= #[{on:=13,ground:=Ground.data},{on:=11,ground:=Ground.data},{on:=9,ground:=Ground.chain},{on:=0,ground:=Ground.phase},{on:=1,ground:=Ground.phase},{on:=2,ground:=Ground.phase},{on:=3,ground:=Ground.phase},{on:=4,ground:=Ground.phase},{on:=5,ground:=Ground.phase},{on:=6,ground:=Ground.phase},{on:=7,ground:=Ground.phase},{on:=8,ground:=Ground.phase},{on:=9,ground:=Ground.phase},{on:=10,ground:=Ground.phase},{on:=11,ground:=Ground.phase},{on:=12,ground:=Ground.textOnly Departure.lateStores}],guard:=none}) rfl (fun K hK=>?_) AllReadyH.nil;go_simp;refine hK.out _ _ ⟨(Bj _ _ _ _ hE1).trans hl6,(Bj _ _ _ _ hgw).trans hgx6⟩ (fun hHeld=>?_);clear hK K;try simp only[Act.put,List.setIfInBounds_toArray,List.set_cons_zero,List.set_cons_succ]
    refine wpAnyH_done (by kernel_rfl) (NoPanic.normal ?_) _;have HLW6:=zA ((HLW3.out.fr (Af hb6 []) (by simp)).store hkN (Je (t.raw.set 1 t.en)) (Np (t.raw.set 1 t.en)) hcs6);have HMV6:=zA ((HMV3.out.trans (Ch.of (Af hb6 []) (by simp))).trans (Ch.gw w6 (Ap cs2 (k*128) (IV .u8 (Dr (t.raw.set 1 t.en)).1))));clear hst6 hst0;go_wp2_with fail;go_roundw
    case rel=>
     refine⟨k+1,_,by go_num,by omega,by omega,HLW6,zA ?_,HMV6⟩;refine Eq.trans ?_ HE2.out;congr 1
     simp only[Db,K0]
    case measure=>(show YN+1-(k+1)<YN+1-k);omega
  ·obtain rfl:k=YN+1:=(by omega);have hky':¬ ((YN+1:Nat):Int)<=(YN:Int):=(by omega);have hz:zk=K7 YN 1 z:=by
    have:=HE.out;rw[Nat.sub_self]at this;exact this
   obtain⟨a1,a2,a3,-⟩:=Pq YN 1 z;have a4:=qP YN z;rw[<-hz]at a1 a2 a3 a4;have HA1:=zA a1;have HA2:=zA a2;have HA3:=zA a3;have HA4:=zA a4;clear hz a1 a2 a3 a4 HE;obtain⟨tk,hpb,htk⟩:=HLW.out.pb;have hbtl:=hpb.lt;obtain⟨⟨D2,hown2,-,hhas2,-⟩,hs2⟩:=hpb;obtain⟨⟨D3,hown3,-,hhas3,-⟩,hs3⟩:=HLW.out.k.claim;have hkeys:(Dz fun p=>(tk p).isSome)=Dz fun p=>(z.T p.toNat).isSome:=Yx fun i hi=>by
    rw[htk i,Int.toNat_natCast, <-HA3.out i];cases hBi:B i with
    |none=>rw[HLW.out.no i hBi];rfl
    |some v=>
     obtain⟨t,hT,-⟩:=HLW.out.yes i v hBi;rw[hT];rfl
   have HSP:Hid (∀ W,Fr [] wr W->Calls Tryz.prog 89 #[.map (some V.E.bt)] W fun e w'=>∃ v,e= .returned v/\Hj w' W.heap.size v (Dz fun p=>(z.T p.toNat).isSome)/\Below W.heap.size W w'):=zA (fun W hf=>by
    rw[<-hkeys]
    exact cP V.E.bt D2 _ W (by
     obtain⟨es,clock,hb,h1⟩:=hown2;exact⟨es,clock,(hf.block _ hbtl (by simp)).trans hb,h1⟩) hhas2 hs2)
   have HSB:Hid (∀ W,Fr [] wr W->Calls Tryz.prog 90 #[.map (some V.E.bc)] W fun e w'=>∃ v,e= .returned v/\Hj w' W.heap.size v (Dz z.st.cl)/\Below W.heap.size W w'):=zA (fun W hf=>by
    rw[<-HA1.out]
    exact Z1 V.E.bc D3 _ W (by
     obtain⟨es,clock,hb,h1⟩:=hown3;exact⟨es,clock,(hf.block _ HLW.out.k.claim.lt (by simp)).trans hb,h1⟩) hhas3 hs3)
   clear hown2 hhas2 hs2 hown3 hhas3 hs3 htk hkeys;go_upto_region 9 with fail
   go_cut [5]from 9 (fun p wx=>∃ (v2 v3:Value) (o2 o3:Option Nat) (g5:Nat),p= .pointer (some ⟨g5,0,none⟩)/\Hid (Fr [] wr wx/\wr.heap.size<=g5/\hat wx g5=some (.cells #[.slice (some ⟨V.E.gw,0,none⟩) V.E.N V.E.cw,.slice none 0 0,v2,v3] 34)/\
    Bg wx v2 o2 (Dz fun p=>(z.T p.toNat).isSome)/\Bg wx v3 o3 (Dz z.st.cl)/\(∀ q,o2=some q->wr.heap.size<=q/\q≠g5)/\(∀ q,o3=some q->wr.heap.size<=q/\q≠g5)/\∀ q,o2=some q->o3≠some q))
   case first=>
    refine wp_region_noPanic ?_;refine wp_region_held_drew (S:=(fun w'=>hat w' V.E.gl=some (.cells #[.int .i64 V.E.X,.int .i64 (YN:Int),V.E.img,.slice (some ⟨V.E.gw,0,none⟩) V.E.N V.E.cw,.map (some V.E.bc),.map (some V.E.bt),.map (some V.E.bf),V.E.qf] 95))) (by kernel_rfl) hlr (fun hHeld=>?_);refine wpAnyH_take (i:=0) (oi:={dst:=some 55,op:=Op.move (Operand.tmp 0),type:=89,pos:= "look.go:211",after:= #[],guard:=none}) (v:=?vr0) rfl (by kernel_rfl) (by kernel_rfl) (by kernel_rfl) (fun _ _ _ h=>h) (Or.inl ⟨by rfl,?hyr0⟩) (by assumption) ?restr0
    case hyr0=>(intro w' hSw;(try dsimp only at hSw);go_simp;(try with_reducible rfl))
    try simp only[Act.put,List.setIfInBounds_toArray,List.set_cons_zero,List.set_cons_succ]
    refine wpAnyH_take (i:=1) (oi:={dst:=some 56,op:=Op.nilCheck (Operand.tmp 55),type:=0,pos:= "look.go:211",after:= #[{on:=0,ground:=Ground.data}],guard:=none}) (v:=?vr1) rfl (by kernel_rfl) (by kernel_rfl) (by kernel_rfl) (fun _ _ _ h=>h) (Or.inl ⟨by rfl,?hyr1⟩) (by assumption) ?restr1
    case hyr1=>(intro w' hSw;(try dsimp only at hSw);go_simp;(try with_reducible rfl))
    try simp only[Act.put,List.setIfInBounds_toArray,List.set_cons_zero,List.set_cons_succ]
    refine wpAnyH_take (i:=2) (oi:={dst:=some 57,op:=Op.fieldAddr 95 (Operand.tmp 56) 2,type:=0,pos:= "look.go:211",after:= #[{on:=1,ground:=Ground.data}],guard:=none}) (v:=?vr2) rfl (by kernel_rfl) (by kernel_rfl) (by kernel_rfl) (fun _ _ _ h=>h) (Or.inl ⟨by rfl,?hyr2⟩) (by assumption) ?restr2
    case hyr2=>(intro w' hSw;(try dsimp only at hSw);go_simp;(try with_reducible rfl))
    try simp only[Act.put,List.setIfInBounds_toArray,List.set_cons_zero,List.set_cons_succ]
    refine wpAnyH_take (i:=3) (oi:={dst:=some 58,op:=Op.load 26 (Operand.tmp 57),type:=26,pos:= "look.go:211",after:= #[{on:=2,ground:=Ground.data}],guard:=none}) (v:=?vr3) rfl (by kernel_rfl) (by kernel_rfl) (by kernel_rfl) (fun _ _ _ h=>h) (Or.inl ⟨by rfl,?hyr3⟩) (by assumption) ?restr3
    case hyr3=>(intro w' hSw;(try dsimp only at hSw);go_simp;(try with_reducible rfl))
    try simp only[Act.put,List.setIfInBounds_toArray,List.set_cons_zero,List.set_cons_succ]
    refine wpAnyH_take (i:=4) (oi:={dst:=some 59,op:=Op.move (Operand.tmp 0),type:=89,pos:= "look.go:211",after:= #[],guard:=none}) (v:=?vr4) rfl (by kernel_rfl) (by kernel_rfl) (by kernel_rfl) (fun _ _ _ h=>h) (Or.inl ⟨by rfl,?hyr4⟩) (by assumption) ?restr4
    case hyr4=>(intro w' hSw;(try dsimp only at hSw);go_simp;(try with_reducible rfl))
    try simp only[Act.put,List.setIfInBounds_toArray,List.set_cons_zero,List.set_cons_succ]
    refine wpAnyH_take (i:=5) (oi:={dst:=some 60,op:=Op.nilCheck (Operand.tmp 59),type:=0,pos:= "look.go:211",after:= #[{on:=4,ground:=Ground.data}],guard:=none}) (v:=?vr5) rfl (by kernel_rfl) (by kernel_rfl) (by kernel_rfl) (fun _ _ _ h=>h) (Or.inl ⟨by rfl,?hyr5⟩) (by assumption) ?restr5
    case hyr5=>(intro w' hSw;(try dsimp only at hSw);go_simp;(try with_reducible rfl))
    try simp only[Act.put,List.setIfInBounds_toArray,List.set_cons_zero,List.set_cons_succ]
    refine wpAnyH_take (i:=6) (oi:={dst:=some 61,op:=Op.fieldAddr 95 (Operand.tmp 60) 4,type:=0,pos:= "look.go:211",after:= #[{on:=5,ground:=Ground.data}],guard:=none}) (v:=?vr6) rfl (by kernel_rfl) (by kernel_rfl) (by kernel_rfl) (fun _ _ _ h=>h) (Or.inl ⟨by rfl,?hyr6⟩) (by assumption) ?restr6
    case hyr6=>(intro w' hSw;(try dsimp only at hSw);go_simp;(try with_reducible rfl))
    try simp only[Act.put,List.setIfInBounds_toArray,List.set_cons_zero,List.set_cons_succ]
    refine wpAnyH_take (i:=7) (oi:={dst:=some 62,op:=Op.load 92 (Operand.tmp 61),type:=92,pos:= "look.go:211",after:= #[{on:=6,ground:=Ground.data}],guard:=none}) (v:=?vr7) rfl (by kernel_rfl) (by kernel_rfl) (by kernel_rfl) (fun _ _ _ h=>h) (Or.inl ⟨by rfl,?hyr7⟩) (by assumption) ?restr7
    case hyr7=>(intro w' hSw;(try dsimp only at hSw);go_simp;(try with_reducible rfl))
    try simp only[Act.put,List.setIfInBounds_toArray,List.set_cons_zero,List.set_cons_succ]
    refine wpAnyH_take (i:=9) (oi:={dst:=some 64,op:=Op.move (Operand.tmp 0),type:=89,pos:= "look.go:211",after:= #[],guard:=none}) (v:=?vr9) rfl (by kernel_rfl) (by kernel_rfl) (by kernel_rfl) (fun _ _ _ h=>h) (Or.inl ⟨by rfl,?hyr9⟩) (by assumption) ?restr9
    case hyr9=>(intro w' hSw;(try dsimp only at hSw);go_simp;(try with_reducible rfl))
    try simp only[Act.put,List.setIfInBounds_toArray,List.set_cons_zero,List.set_cons_succ]
    refine wpAnyH_take (i:=10) (oi:={dst:=some 65,op:=Op.nilCheck (Operand.tmp 64),type:=0,pos:= "look.go:211",after:= #[{on:=9,ground:=Ground.data}],guard:=none}) (v:=?vr10) rfl (by kernel_rfl) (by kernel_rfl) (by kernel_rfl) (fun _ _ _ h=>h) (Or.inl ⟨by rfl,?hyr10⟩) (by assumption) ?restr10
    case hyr10=>(intro w' hSw;(try dsimp only at hSw);go_simp;(try with_reducible rfl))
    try simp only[Act.put,List.setIfInBounds_toArray,List.set_cons_zero,List.set_cons_succ]
    refine wpAnyH_take (i:=11) (oi:={dst:=some 66,op:=Op.fieldAddr 95 (Operand.tmp 65) 3,type:=0,pos:= "look.go:211",after:= #[{on:=10,ground:=Ground.data}],guard:=none}) (v:=?vr11) rfl (by kernel_rfl) (by kernel_rfl) (by kernel_rfl) (fun _ _ _ h=>h) (Or.inl ⟨by rfl,?hyr11⟩) (by assumption) ?restr11
    case hyr11=>(intro w' hSw;(try dsimp only at hSw);go_simp;(try with_reducible rfl))
    try simp only[Act.put,List.setIfInBounds_toArray,List.set_cons_zero,List.set_cons_succ]
    refine wpAnyH_take (i:=12) (oi:={dst:=some 67,op:=Op.load 91 (Operand.tmp 66),type:=91,pos:= "look.go:211",after:= #[{on:=11,ground:=Ground.data}],guard:=none}) (v:=?vr12) rfl (by kernel_rfl) (by kernel_rfl) (by kernel_rfl) (fun _ _ _ h=>h) (Or.inl ⟨by rfl,?hyr12⟩) (by assumption) ?restr12
    case hyr12=>(intro w' hSw;(try dsimp only at hSw);go_simp;(try with_reducible rfl))
    try simp only[Act.put,List.setIfInBounds_toArray,List.set_cons_zero,List.set_cons_succ]
    have hl_W0:hat wr.drew V.E.gl=_:=hlr;have f_W0:Fr [] wr wr.drew:=Bb (Fr.refl [] wr);have HZW0:=zA (show wr.drew.heap.size=wr.heap.size from rfl);generalize wr.drew=W0 at*;refine wpAnyH_ready (rs:=[8,15]) (by kernel_rfl) (by simp) ?_;refine AllReadyH.cons (o:={dst:=some 63,op:=Op.call {callee:=Callee.value (Operand.func 89),args:= #[Operand.tmp 62],argTypes:= #[92]},type:=32,pos:= "look.go:211",after:= #[{on:=7,ground:=Ground.data}],guard:=none}) rfl (fun K hK=>?_) ?_
    ·go_simp;refine(HSP.out _ f_W0).mono ?_;rintro e Wx18 ⟨v2,rfl,hr_Wx18,hb_Wx18⟩;have hl_Wx18:=(hop hb_Wx18 hl_W0).1;have f_Wx18:=f_W0.trans (Af hb_Wx18 []);have zz_Wx18:=hb_Wx18.size;obtain⟨o2,q2,p2⟩:=hr_Wx18.q;obtain⟨a2,n2,c2,rfl⟩:=q2.sl;have Q2_Wx18:=zA q2;have P2:=zA p2;clear hr_Wx18 hb_Wx18 q2 p2;refine hK.out _ _ hl_Wx18 (fun hHeld=>?_);clear hK K;try simp only[Act.put,List.setIfInBounds_toArray,List.set_cons_zero,List.set_cons_succ]
     refine wpAnyH_ready (rs:=[13,15]) (by kernel_rfl) (by simp) ?_;refine AllReadyH.cons (o:={dst:=some 68,op:=Op.call {callee:=Callee.value (Operand.func 90),args:= #[Operand.tmp 67],argTypes:= #[91]},type:=32,pos:= "look.go:211",after:= #[{on:=12,ground:=Ground.data},{on:=8,ground:=Ground.chain}],guard:=none}) rfl (fun K hK=>?_) ?_
     ·go_simp;refine(HSB.out _ f_Wx18).mono ?_;rintro e Wx213 ⟨v3,rfl,hr_Wx213,hb_Wx213⟩;have hl_Wx213:=(hop hb_Wx213 hl_Wx18).1;have f_Wx213:=f_Wx18.trans (Af hb_Wx213 []);have zz_Wx213:=hb_Wx213.size;obtain⟨o3,q3,p3⟩:=hr_Wx213.q;obtain⟨a3,n3,c3,rfl⟩:=q3.sl;have Q3_Wx213:=zA q3;have P3:=zA p3;have Q2_Wx213:=zA (Q2_Wx18.out.fr (Af hb_Wx213 []) (by simp));clear hr_Wx213 hb_Wx213 q3 p3;refine hK.out _ _ hl_Wx213 (fun hHeld=>?_);clear hK K;try simp only[Act.put,List.setIfInBounds_toArray,List.set_cons_zero,List.set_cons_succ]
      refine wpAnyH_take (i:=14) (oi:={dst:=some 69,op:=Op.build 34 #[(0,Operand.tmp 58),(2,Operand.tmp 63),(3,Operand.tmp 68)],type:=34,pos:= "look.go:211",after:= #[{on:=3,ground:=Ground.data},{on:=8,ground:=Ground.data},{on:=13,ground:=Ground.data}],guard:=none}) (v:=?vx314) rfl (by kernel_rfl) (by kernel_rfl) (by kernel_rfl) (fun _ _ _ h=>h) (Or.inl ⟨by rfl,?hyx314⟩) (by assumption) ?restx314
      case hyx314=>(intro w' hSw;(try dsimp only at hSw);go_simp;(try with_reducible rfl))
      try simp only[Act.put,List.setIfInBounds_toArray,List.set_cons_zero,List.set_cons_succ]
      refine wpAnyH_ready (rs:=[15]) (by kernel_rfl) (by simp) ?_;refine AllReadyH.cons (o:={dst:=some 5,op:=Op.alloc 34,type:=0,pos:= "look.go:211",after:= #[],guard:=none}) rfl (fun K hK=>?_) AllReadyH.nil;go_simp;have hl_Wx315:=(B7 Wx213 (.cells #[.slice none 0 0,.slice none 0 0,.slice none 0 0,.slice none 0 0] 34) hl_Wx213).1;have f_Wx315:=f_Wx213.trans (Be Wx213 (.cells #[.slice none 0 0,.slice none 0 0,.slice none 0 0,.slice none 0 0] 34) []);have h5_Wx315:=(A6 Wx213 (.cells #[.slice none 0 0,.slice none 0 0,.slice none 0 0,.slice none 0 0] 34)).1;have z5_Wx315:=(A6 Wx213 (.cells #[.slice none 0 0,.slice none 0 0,.slice none 0 0,.slice none 0 0] 34)).2;have Q2_Wx315:=zA (Q2_Wx213.out.fr (Be Wx213 (.cells #[.slice none 0 0,.slice none 0 0,.slice none 0 0,.slice none 0 0] 34) []) (by simp));have Q3_Wx315:=zA (Q3_Wx213.out.fr (Be Wx213 (.cells #[.slice none 0 0,.slice none 0 0,.slice none 0 0,.slice none 0 0] 34) []) (by simp));have zz_Wx315:Wx213.heap.size<=(Wx213.alloc (.cells #[.slice none 0 0,.slice none 0 0,.slice none 0 0,.slice none 0 0] 34)).heap.size:=Nat.le_of_lt z5_Wx315;refine hK.out _ _ hl_Wx315 (fun hHeld=>?_);clear hK K;generalize hWWx315:(Wx213.alloc (.cells #[.slice none 0 0,.slice none 0 0,.slice none 0 0,.slice none 0 0] 34))=Wx315 at*;generalize hg5:Wx213.heap.size=g5 at*;have HG5:=zA hg5;clear hg5;clear hWWx315;try simp only[Act.put,List.setIfInBounds_toArray,List.set_cons_zero,List.set_cons_succ]
      have zW0:=HZW0.out;have zg5:=HG5.out;have Z2:Hid (∀ q,o2=some q->wr.heap.size<=q/\q≠g5):=zA (fun q hq=>by have:=P2.out q hq;omega);have Z3:Hid (∀ q,o3=some q->wr.heap.size<=q/\q≠g5):=zA (fun q hq=>by have:=P3.out q hq;omega);have Z23:Hid (∀ q,o2=some q->o3≠some q):=zA (fun q hq hq3=>by have:=P2.out q hq;have:=P3.out q hq3;omega);have hg5w:wr.heap.size<=g5:=(by omega);have hg5l:V.E.gl≠g5:=(by(have:=Aa hlr;omega));clear zW0 zg5;have hlzx4:hat (Q4 Wx315 g5 (.slice (some ⟨V.E.gw,0,none⟩) V.E.N V.E.cw) (.slice none 0 0) (.slice a2 n2 c2) (.slice a3 n3 c3)) V.E.gl=_:=((Cl Wx315 g5 (.slice (some ⟨V.E.gw,0,none⟩) V.E.N V.E.cw) (.slice none 0 0) (.slice a2 n2 c2) (.slice a3 n3 c3)).block _ (Aa hl_Wx315) (by simpa using hg5l)).trans hl_Wx315;refine wpAnyH_ready (rs:=[16]) (by kernel_rfl) (by simp) ?_;refine AllReadyH.cons (o:={dst:=none,op:=Op.store 34 (Operand.tmp 5) (Operand.tmp 69),type:=0,pos:= "look.go:211",after:= #[{on:=15,ground:=Ground.data},{on:=14,ground:=Ground.data},{on:=13,ground:=Ground.chain},{on:=0,ground:=Ground.phase},{on:=1,ground:=Ground.phase},{on:=2,ground:=Ground.phase},{on:=3,ground:=Ground.phase},{on:=4,ground:=Ground.phase},{on:=5,ground:=Ground.phase},{on:=6,ground:=Ground.phase},{on:=7,ground:=Ground.phase},{on:=8,ground:=Ground.phase},{on:=9,ground:=Ground.phase},{on:=10,ground:=Ground.phase},{on:=11,ground:=Ground.phase},{on:=12,ground:=Ground.phase},{on:=13,ground:=Ground.phase},{on:=14,ground:=Ground.phase},{on:=15,ground:=Ground.phase}],guard:=none}) rfl (fun K hK=>?_) AllReadyH.nil;go_simp;refine hK.out _ _ hlzx4 (fun hHeld=>?_);clear hK K;try simp only[Act.put,List.setIfInBounds_toArray,List.set_cons_zero,List.set_cons_succ]
      refine wpAnyH_done (by kernel_rfl) (NoPanic.normal ?_) _;(try go_wp2_with fail)
      go_meet
      case rel=>
       exact⟨_,_,o2,o3,g5,rfl,zA ⟨((f_Wx315.mono (ex':=[g5]) (by simp)).trans (Cl Wx315 g5 (.slice (some ⟨V.E.gw,0,none⟩) V.E.N V.E.cw) (.slice none 0 0) (.slice a2 n2 c2) (.slice a3 n3 c3))).old (by simpa using hg5w),hg5w,Dc h5_Wx315 (.slice (some ⟨V.E.gw,0,none⟩) V.E.N V.E.cw) (.slice none 0 0) (.slice a2 n2 c2) (.slice a3 n3 c3),Q2_Wx315.out.fr (Cl Wx315 g5 (.slice (some ⟨V.E.gw,0,none⟩) V.E.N V.E.cw) (.slice none 0 0) (.slice a2 n2 c2) (.slice a3 n3 c3)) (fun q hq=>by have:=(Z2.out q hq).2;simpa using this),Q3_Wx315.out.fr (Cl Wx315 g5 (.slice (some ⟨V.E.gw,0,none⟩) V.E.N V.E.cw) (.slice none 0 0) (.slice a2 n2 c2) (.slice a3 n3 c3)) (fun q hq=>by have:=(Z3.out q hq).2;simpa using this),Z2.out,Z3.out,Z23.out⟩⟩
     refine AllReadyH.cons (o:={dst:=some 5,op:=Op.alloc 34,type:=0,pos:= "look.go:211",after:= #[],guard:=none}) rfl (fun K hK=>?_) AllReadyH.nil;go_simp;have hl_Wx215:=(B7 Wx18 (.cells #[.slice none 0 0,.slice none 0 0,.slice none 0 0,.slice none 0 0] 34) hl_Wx18).1;have f_Wx215:=f_Wx18.trans (Be Wx18 (.cells #[.slice none 0 0,.slice none 0 0,.slice none 0 0,.slice none 0 0] 34) []);have h5_Wx215:=(A6 Wx18 (.cells #[.slice none 0 0,.slice none 0 0,.slice none 0 0,.slice none 0 0] 34)).1;have z5_Wx215:=(A6 Wx18 (.cells #[.slice none 0 0,.slice none 0 0,.slice none 0 0,.slice none 0 0] 34)).2;have Q2_Wx215:=zA (Q2_Wx18.out.fr (Be Wx18 (.cells #[.slice none 0 0,.slice none 0 0,.slice none 0 0,.slice none 0 0] 34) []) (by simp));have zz_Wx215:Wx18.heap.size<=(Wx18.alloc (.cells #[.slice none 0 0,.slice none 0 0,.slice none 0 0,.slice none 0 0] 34)).heap.size:=Nat.le_of_lt z5_Wx215;refine hK.out _ _ hl_Wx215 (fun hHeld=>?_);clear hK K;generalize hWWx215:(Wx18.alloc (.cells #[.slice none 0 0,.slice none 0 0,.slice none 0 0,.slice none 0 0] 34))=Wx215 at*;generalize hg5:Wx18.heap.size=g5 at*;have HG5:=zA hg5;clear hg5;clear hWWx215;try simp only[Act.put,List.setIfInBounds_toArray,List.set_cons_zero,List.set_cons_succ]
     refine wpAnyH_ready (rs:=[13]) (by kernel_rfl) (by simp) ?_;refine AllReadyH.cons (o:={dst:=some 68,op:=Op.call {callee:=Callee.value (Operand.func 90),args:= #[Operand.tmp 67],argTypes:= #[91]},type:=32,pos:= "look.go:211",after:= #[{on:=12,ground:=Ground.data},{on:=8,ground:=Ground.chain}],guard:=none}) rfl (fun K hK=>?_) AllReadyH.nil;go_simp;refine(HSB.out _ f_Wx215).mono ?_;rintro e Wx513 ⟨v3,rfl,hr_Wx513,hb_Wx513⟩;have hl_Wx513:=(hop hb_Wx513 hl_Wx215).1;have f_Wx513:=f_Wx215.trans (Af hb_Wx513 []);have zz_Wx513:=hb_Wx513.size;obtain⟨o3,q3,p3⟩:=hr_Wx513.q;obtain⟨a3,n3,c3,rfl⟩:=q3.sl;have Q3_Wx513:=zA q3;have P3:=zA p3;have h5_Wx513:=(hop hb_Wx513 h5_Wx215).1;have Q2_Wx513:=zA (Q2_Wx215.out.fr (Af hb_Wx513 []) (by simp));clear hr_Wx513 hb_Wx513 q3 p3;refine hK.out _ _ hl_Wx513 (fun hHeld=>?_);clear hK K;try simp only[Act.put,List.setIfInBounds_toArray,List.set_cons_zero,List.set_cons_succ]
     refine wpAnyH_take (i:=14) (oi:={dst:=some 69,op:=Op.build 34 #[(0,Operand.tmp 58),(2,Operand.tmp 63),(3,Operand.tmp 68)],type:=34,pos:= "look.go:211",after:= #[{on:=3,ground:=Ground.data},{on:=8,ground:=Ground.data},{on:=13,ground:=Ground.data}],guard:=none}) (v:=?vx614) rfl (by kernel_rfl) (by kernel_rfl) (by kernel_rfl) (fun _ _ _ h=>h) (Or.inl ⟨by rfl,?hyx614⟩) (by assumption) ?restx614
     case hyx614=>(intro w' hSw;(try dsimp only at hSw);go_simp;(try with_reducible rfl))
     try simp only[Act.put,List.setIfInBounds_toArray,List.set_cons_zero,List.set_cons_succ]
     have zW0:=HZW0.out;have zg5:=HG5.out;have Z2:Hid (∀ q,o2=some q->wr.heap.size<=q/\q≠g5):=zA (fun q hq=>by have:=P2.out q hq;omega);have Z3:Hid (∀ q,o3=some q->wr.heap.size<=q/\q≠g5):=zA (fun q hq=>by have:=P3.out q hq;omega);have Z23:Hid (∀ q,o2=some q->o3≠some q):=zA (fun q hq hq3=>by have:=P2.out q hq;have:=P3.out q hq3;omega);have hg5w:wr.heap.size<=g5:=(by omega);have hg5l:V.E.gl≠g5:=(by(have:=Aa hlr;omega));clear zW0 zg5;have hlzx6:hat (Q4 Wx513 g5 (.slice (some ⟨V.E.gw,0,none⟩) V.E.N V.E.cw) (.slice none 0 0) (.slice a2 n2 c2) (.slice a3 n3 c3)) V.E.gl=_:=((Cl Wx513 g5 (.slice (some ⟨V.E.gw,0,none⟩) V.E.N V.E.cw) (.slice none 0 0) (.slice a2 n2 c2) (.slice a3 n3 c3)).block _ (Aa hl_Wx513) (by simpa using hg5l)).trans hl_Wx513;refine wpAnyH_ready (rs:=[16]) (by kernel_rfl) (by simp) ?_;refine AllReadyH.cons (o:={dst:=none,op:=Op.store 34 (Operand.tmp 5) (Operand.tmp 69),type:=0,pos:= "look.go:211",after:= #[{on:=15,ground:=Ground.data},{on:=14,ground:=Ground.data},{on:=13,ground:=Ground.chain},{on:=0,ground:=Ground.phase},{on:=1,ground:=Ground.phase},{on:=2,ground:=Ground.phase},{on:=3,ground:=Ground.phase},{on:=4,ground:=Ground.phase},{on:=5,ground:=Ground.phase},{on:=6,ground:=Ground.phase},{on:=7,ground:=Ground.phase},{on:=8,ground:=Ground.phase},{on:=9,ground:=Ground.phase},{on:=10,ground:=Ground.phase},{on:=11,ground:=Ground.phase},{on:=12,ground:=Ground.phase},{on:=13,ground:=Ground.phase},{on:=14,ground:=Ground.phase},{on:=15,ground:=Ground.phase}],guard:=none}) rfl (fun K hK=>?_) AllReadyH.nil;go_simp;refine hK.out _ _ hlzx6 (fun hHeld=>?_);clear hK K;try simp only[Act.put,List.setIfInBounds_toArray,List.set_cons_zero,List.set_cons_succ]
     refine wpAnyH_done (by kernel_rfl) (NoPanic.normal ?_) _;(try go_wp2_with fail)
     go_meet
     case rel=>
      exact⟨_,_,o2,o3,g5,rfl,zA ⟨((f_Wx513.mono (ex':=[g5]) (by simp)).trans (Cl Wx513 g5 (.slice (some ⟨V.E.gw,0,none⟩) V.E.N V.E.cw) (.slice none 0 0) (.slice a2 n2 c2) (.slice a3 n3 c3))).old (by simpa using hg5w),hg5w,Dc h5_Wx513 (.slice (some ⟨V.E.gw,0,none⟩) V.E.N V.E.cw) (.slice none 0 0) (.slice a2 n2 c2) (.slice a3 n3 c3),Q2_Wx513.out.fr (Cl Wx513 g5 (.slice (some ⟨V.E.gw,0,none⟩) V.E.N V.E.cw) (.slice none 0 0) (.slice a2 n2 c2) (.slice a3 n3 c3)) (fun q hq=>by have:=(Z2.out q hq).2;simpa using this),Q3_Wx513.out.fr (Cl Wx513 g5 (.slice (some ⟨V.E.gw,0,none⟩) V.E.N V.E.cw) (.slice none 0 0) (.slice a2 n2 c2) (.slice a3 n3 c3)) (fun q hq=>by have:=(Z3.out q hq).2;simpa using this),Z2.out,Z3.out,Z23.out⟩⟩
    refine AllReadyH.cons (o:={dst:=some 5,op:=Op.alloc 34,type:=0,pos:= "look.go:211",after:= #[],guard:=none}) rfl (fun K hK=>?_) AllReadyH.nil;go_simp;have hl_Wx115:=(B7 W0 (.cells #[.slice none 0 0,.slice none 0 0,.slice none 0 0,.slice none 0 0] 34) hl_W0).1;have f_Wx115:=f_W0.trans (Be W0 (.cells #[.slice none 0 0,.slice none 0 0,.slice none 0 0,.slice none 0 0] 34) []);have h5_Wx115:=(A6 W0 (.cells #[.slice none 0 0,.slice none 0 0,.slice none 0 0,.slice none 0 0] 34)).1;have z5_Wx115:=(A6 W0 (.cells #[.slice none 0 0,.slice none 0 0,.slice none 0 0,.slice none 0 0] 34)).2;have zz_Wx115:W0.heap.size<=(W0.alloc (.cells #[.slice none 0 0,.slice none 0 0,.slice none 0 0,.slice none 0 0] 34)).heap.size:=Nat.le_of_lt z5_Wx115;refine hK.out _ _ hl_Wx115 (fun hHeld=>?_);clear hK K;generalize hWWx115:(W0.alloc (.cells #[.slice none 0 0,.slice none 0 0,.slice none 0 0,.slice none 0 0] 34))=Wx115 at*;generalize hg5:W0.heap.size=g5 at*;have HG5:=zA hg5;clear hg5;clear hWWx115;try simp only[Act.put,List.setIfInBounds_toArray,List.set_cons_zero,List.set_cons_succ]
    refine wpAnyH_ready (rs:=[8]) (by kernel_rfl) (by simp) ?_;refine AllReadyH.cons (o:={dst:=some 63,op:=Op.call {callee:=Callee.value (Operand.func 89),args:= #[Operand.tmp 62],argTypes:= #[92]},type:=32,pos:= "look.go:211",after:= #[{on:=7,ground:=Ground.data}],guard:=none}) rfl (fun K hK=>?_) AllReadyH.nil;go_simp;refine(HSP.out _ f_Wx115).mono ?_;rintro e Wx78 ⟨v2,rfl,hr_Wx78,hb_Wx78⟩;have hl_Wx78:=(hop hb_Wx78 hl_Wx115).1;have f_Wx78:=f_Wx115.trans (Af hb_Wx78 []);have zz_Wx78:=hb_Wx78.size;obtain⟨o2,q2,p2⟩:=hr_Wx78.q;obtain⟨a2,n2,c2,rfl⟩:=q2.sl;have Q2_Wx78:=zA q2;have P2:=zA p2;have h5_Wx78:=(hop hb_Wx78 h5_Wx115).1;clear hr_Wx78 hb_Wx78 q2 p2;refine hK.out _ _ hl_Wx78 (fun hHeld=>?_);clear hK K;try simp only[Act.put,List.setIfInBounds_toArray,List.set_cons_zero,List.set_cons_succ]
    refine wpAnyH_ready (rs:=[13]) (by kernel_rfl) (by simp) ?_;refine AllReadyH.cons (o:={dst:=some 68,op:=Op.call {callee:=Callee.value (Operand.func 90),args:= #[Operand.tmp 67],argTypes:= #[91]},type:=32,pos:= "look.go:211",after:= #[{on:=12,ground:=Ground.data},{on:=8,ground:=Ground.chain}],guard:=none}) rfl (fun K hK=>?_) AllReadyH.nil;go_simp;refine(HSB.out _ f_Wx78).mono ?_;rintro e Wx813 ⟨v3,rfl,hr_Wx813,hb_Wx813⟩;have hl_Wx813:=(hop hb_Wx813 hl_Wx78).1;have f_Wx813:=f_Wx78.trans (Af hb_Wx813 []);have zz_Wx813:=hb_Wx813.size;obtain⟨o3,q3,p3⟩:=hr_Wx813.q;obtain⟨a3,n3,c3,rfl⟩:=q3.sl;have Q3_Wx813:=zA q3;have P3:=zA p3;have h5_Wx813:=(hop hb_Wx813 h5_Wx78).1;have Q2_Wx813:=zA (Q2_Wx78.out.fr (Af hb_Wx813 []) (by simp));clear hr_Wx813 hb_Wx813 q3 p3;refine hK.out _ _ hl_Wx813 (fun hHeld=>?_);clear hK K;try simp only[Act.put,List.setIfInBounds_toArray,List.set_cons_zero,List.set_cons_succ]
    refine wpAnyH_take (i:=14) (oi:={dst:=some 69,op:=Op.build 34 #[(0,Operand.tmp 58),(2,Operand.tmp 63),(3,Operand.tmp 68)],type:=34,pos:= "look.go:211",after:= #[{on:=3,ground:=Ground.data},{on:=8,ground:=Ground.data},{on:=13,ground:=Ground.data}],guard:=none}) (v:=?vx914) rfl (by kernel_rfl) (by kernel_rfl) (by kernel_rfl) (fun _ _ _ h=>h) (Or.inl ⟨by rfl,?hyx914⟩) (by assumption) ?restx914
    case hyx914=>(intro w' hSw;(try dsimp only at hSw);go_simp;(try with_reducible rfl))
    try simp only[Act.put,List.setIfInBounds_toArray,List.set_cons_zero,List.set_cons_succ]
    have zW0:=HZW0.out;have zg5:=HG5.out;have Z2:Hid (∀ q,o2=some q->wr.heap.size<=q/\q≠g5):=zA (fun q hq=>by have:=P2.out q hq;omega);have Z3:Hid (∀ q,o3=some q->wr.heap.size<=q/\q≠g5):=zA (fun q hq=>by have:=P3.out q hq;omega);have Z23:Hid (∀ q,o2=some q->o3≠some q):=zA (fun q hq hq3=>by have:=P2.out q hq;have:=P3.out q hq3;omega);have hg5w:wr.heap.size<=g5:=(by omega);have hg5l:V.E.gl≠g5:=(by(have:=Aa hlr;omega));clear zW0 zg5;have hlzx9:hat (Q4 Wx813 g5 (.slice (some ⟨V.E.gw,0,none⟩) V.E.N V.E.cw) (.slice none 0 0) (.slice a2 n2 c2) (.slice a3 n3 c3)) V.E.gl=_:=((Cl Wx813 g5 (.slice (some ⟨V.E.gw,0,none⟩) V.E.N V.E.cw) (.slice none 0 0) (.slice a2 n2 c2) (.slice a3 n3 c3)).block _ (Aa hl_Wx813) (by simpa using hg5l)).trans hl_Wx813;refine wpAnyH_ready (rs:=[16]) (by kernel_rfl) (by simp) ?_;refine AllReadyH.cons (o:={dst:=none,op:=Op.store 34 (Operand.tmp 5) (Operand.tmp 69),type:=0,pos:= "look.go:211",after:= #[{on:=15,ground:=Ground.data},{on:=14,ground:=Ground.data},{on:=13,ground:=Ground.chain},{on:=0,ground:=Ground.phase},{on:=1,ground:=Ground.phase},{on:=2,ground:=Ground.phase},{on:=3,ground:=Ground.phase},{on:=4,ground:=Ground.phase},{on:=5,ground:=Ground.phase},{on:=6,ground:=Ground.phase},{on:=7,ground:=Ground.phase},{on:=8,ground:=Ground.phase},{on:=9,ground:=Ground.phase},{on:=10,ground:=Ground.phase},{on:=11,ground:=Ground.phase},{on:=12,ground:=Ground.phase},{on:=13,ground:=Ground.phase},{on:=14,ground:=Ground.phase},{on:=15,ground:=Ground.phase}],guard:=none}) rfl (fun K hK=>?_) AllReadyH.nil;go_simp;refine hK.out _ _ hlzx9 (fun hHeld=>?_);clear hK K;try simp only[Act.put,List.setIfInBounds_toArray,List.set_cons_zero,List.set_cons_succ]
    refine wpAnyH_done (by kernel_rfl) (NoPanic.normal ?_) _;(try go_wp2_with fail)
    go_meet
    case rel=>
     exact⟨_,_,o2,o3,g5,rfl,zA ⟨((f_Wx813.mono (ex':=[g5]) (by simp)).trans (Cl Wx813 g5 (.slice (some ⟨V.E.gw,0,none⟩) V.E.N V.E.cw) (.slice none 0 0) (.slice a2 n2 c2) (.slice a3 n3 c3))).old (by simpa using hg5w),hg5w,Dc h5_Wx813 (.slice (some ⟨V.E.gw,0,none⟩) V.E.N V.E.cw) (.slice none 0 0) (.slice a2 n2 c2) (.slice a3 n3 c3),Q2_Wx813.out.fr (Cl Wx813 g5 (.slice (some ⟨V.E.gw,0,none⟩) V.E.N V.E.cw) (.slice none 0 0) (.slice a2 n2 c2) (.slice a3 n3 c3)) (fun q hq=>by have:=(Z2.out q hq).2;simpa using this),Q3_Wx813.out.fr (Cl Wx813 g5 (.slice (some ⟨V.E.gw,0,none⟩) V.E.N V.E.cw) (.slice none 0 0) (.slice a2 n2 c2) (.slice a3 n3 c3)) (fun q hq=>by have:=(Z3.out q hq).2;simpa using this),Z2.out,Z3.out,Z23.out⟩⟩
   case rest=>
    obtain⟨v2,v3,o2,o3,g5,rfl,HCUT⟩:=hcut;obtain⟨hfc,hg5,hh5,hq2,hq3,hz2,hz3,hz23⟩:=HCUT.out;have hrows:I4 wc wr.heap.size g5 [none,o2,o3,none,none]:=by
     refine⟨fun o ho q hq=>?_,?_⟩
     ·have:o=o2\/o=o3:=by
       subst hq;simp at ho;rcases ho with h|h
       ·exact .inl h
       ·exact .inr h
      rcases this with rfl|rfl
      ·exact⟨(hz2 q hq).1,(hz2 q hq).2,hq2.lt q hq⟩
      ·exact⟨(hz3 q hq).1,(hz3 q hq).2,hq3.lt q hq⟩
     ·refine List.Pairwise.cons ?_ (List.Pairwise.cons ?_ (List.Pairwise.cons ?_ (List.Pairwise.cons ?_ (List.Pairwise.cons ?_ List.Pairwise.nil))))
      ·intro x hx q hq;cases hq
      ·intro x hx q hq;simp only[List.mem_cons,List.not_mem_nil,or_false]at hx;rcases hx with rfl|rfl|rfl
       ·exact hz23 q hq
       ·exact fun h=>by cases h
       ·exact fun h=>by cases h
      ·intro x hx q hq;simp only[List.mem_cons,List.not_mem_nil,or_false]at hx;rcases hx with rfl|rfl
       ·exact fun h=>by cases h
       ·exact fun h=>by cases h
      ·intro x hx q hq;cases hq
      ·intro x hx q hq;cases hq
    have hnil:∀ (W:World),Bg W (.slice none 0 0) none []:=fun W=> .inl ⟨rfl,rfl,rfl⟩
    have HQ2:=zA hq2;have HQ3:=zA hq3;have HFC:=zA hfc;have HROWS:=zA hrows;have HNIL:=zA hnil;have hg5l:=Aa hh5;have hlwc:=HLW.out.fr hfc (by simp);have hlc:=hlwc.k.look;unfold Bz at hlc;have hg2r:=(HMV.out.block _ (Aa hg2) HSA.out (by simp)).trans hg2;have HG2:=zA hg2r;have HBW:=zA (HMV.out.below HLW1.out (by simp));have hwrz:=HMV.out.size;have hw1z:w.heap.size<w1.heap.size:=Aa hg2;clear HCUT hrows hnil hfc hq2 hq3 hz2 hz3 hz23 hlwc hlr;go_wp2_with fail
    go_loopw [6,7,75] (fun f6 f7 kv w2=>∃ (k:Nat) (v1:Value) (o1 o4 o5:Option Nat),kv= .int .i64 k/\k<=V.E.N/\Hid (Fr [] wr w2)/\hat w2 g5=some (.cells #[.slice (some ⟨V.E.gw,0,none⟩) V.E.N V.E.cw,v1,v2,v3] 34)/\
     Hid (Bg w2 v1 o1 (Bv k (Ck (YN:Int) z) V.IMG (fun i=> !decide ((i:Int)<=(YN:Int))&&z.st.fm i)))/\Hid (Bg w2 v2 o2 (Dz fun p=>(z.T p.toNat).isSome))/\Hid (Bg w2 v3 o3 (Dz z.st.cl))/\
     Hid (Bg w2 f6 o4 (Bv k (Ck (YN:Int) z) V.IMG (fun i=>decide ((i:Int)<=(YN:Int)))))/\Hid (Bg w2 f7 o5 (Bv k (Ck (YN:Int) z) V.IMG (fun i=> !decide ((i:Int)<=(YN:Int))&& !z.st.fm i)))/\Hid (I4 w2 wr.heap.size g5 [o1,o2,o3,o4,o5]))
     (fun _ _ kv _=>V.E.N-(intOf kv).toNat)
    case atStart=>exact⟨0,.slice none 0 0,none,none,none,rfl,Nat.zero_le _,HFC,hh5,zA (HNIL.out _),HQ2,HQ3,zA (HNIL.out _),zA (HNIL.out _),HROWS⟩
    case round=>
     clear hh5 hlc hg5l;obtain⟨k,v1,o1,o4,o5,rfl,hk,HFR,hh5,HV1,HV2,HV3,HV4,HV5,HRO⟩:=hrel;have hg5l:=Aa hh5;have hlw2:=HLW.out.fr HFR.out (by simp);have hl2:=hlw2.k.look;unfold Bz at hl2;rw[hYN,hlw2.img]at hl2;have hl2l:=Aa hl2;have hk0:(0:Int)<=(k:Int):=Int.natCast_nonneg _;by_cases hkN:k<V.E.N
     ·have hkN':(k:Int)<(V.E.N:Int):=(by omega);obtain⟨csw,hcsw,hldw,hlenw,-⟩:=hlw2.k.want.load hkN;obtain⟨csi,ti,fri,hcsi,hldi⟩:=hlw2.secs.load hkN;have hleni:=(hlw2.secs.len hkN).1;rw[HA4.out]at hldw hlenw;have hcswl:=Aa hcsw;have hcsil:=Aa hcsi;have hfirm:=(hlw2.fr (Bb (Fr.refl [] _)) (by simp)).k.firm.1.look (p:=(k:Int)) ⟨by omega,by omega⟩;rw[HA2.out]at hfirm;clear hlw2;cases hEQ:(Ck (YN:Int) z k==V.IMG k)with
      |true=>
       have heq:Ck (YN:Int) z k=V.IMG k:=(by simpa using hEQ);go_wp2_with fail;go_region
       go_wp2_with fail;go_roundw
       case rel=>
        refine⟨k+1,v1,o1,o4,o5,by go_num,by omega,zA (Bb HFR.out),hh5,?_,HV2,HV3,?_,?_,HRO⟩
        all_goals
         refine zA ?_;rw[Cr,if_neg (by simp[heq]),List.append_nil]
        ·exact HV1.out
        ·exact HV4.out
        ·exact HV5.out
       case measure=>(show V.E.N-(k+1)<V.E.N-k);omega
      |false=>
       have hne:¬ Ck (YN:Int) z k=V.IMG k:=(by simpa using hEQ);have hfa:Fr [] wr (wr.drew.alloc (.cells #[.int .i64 (k:Int)] 3)):=(Bb (Fr.refl [] wr)).trans (Be wr.drew (.cells #[.int .i64 (k:Int)] 3) []);have hll:=fun sort=>Nat.le_trans (I9 k (Ck (YN:Int) z) V.IMG sort) (show k<=100000 by omega)
       have hten:=HRO.out.ten;have HTEN:=zA hten
       have HRN:=zA (fun(o':Option Nat) (a b:List (Option Nat)) (o:Option Nat) (w':World) (hl:[o1,o2,o3,o4,o5]=a++o::b) (h1:o'=o\/∃ g,o'=some g/\(wr.drew.alloc (.cells #[.int .i64 (k:Int)] 3)).heap.size<=g) (h2:(wr.drew.alloc (.cells #[.int .i64 (k:Int)] 3)).heap.size<=w'.heap.size) (h3:∀ q,o'=some q->q<w'.heap.size)=>
        I4.put (w:=wr) (by rw[<-hl];exact HRO.out) (h1.imp id (fun⟨g,hg,hl⟩=>⟨g,hg,by simp at hl;omega⟩)) HFR.out.size hg5l (Nat.le_trans hfa.size h2) h3)
       clear hten;cases hY:decide ((k:Int)<=(YN:Int))with
       |true=>
        have hyk:(k:Int)<=(YN:Int):=of_decide_eq_true hY;obtain⟨vn,wn,on,hr,hqn,hfn,hon⟩:=Fx (HV4.out.fr hfa (by simp)) (hll _) (k:Int) wr.heap.size (A6 wr.drew (.cells #[.int .i64 (k:Int)] 3)).1 32;have HQN:=zA hqn;have HFN:=zA hfn;have HON:=zA hon;have HFA:=zA hfa;clear hqn hfn hon hfa hll;go_wp2_with fail;go_region
        go_wp2_with (at_builtin;refine Ao _ rfl (.tmp 106) (.tmp 108) 32 rfl _ _ rfl rfl _ _ hr ?_)
        go_roundw
        case rel=>
         have hf:=(HFA.out.mono (ex':=o4.toList) (by simp)).trans HFN.out;have hT:=HTEN.out;refine⟨k+1,v1,o1,on,o5,by go_num,by omega,zA (HRO.out.old (o:=o4) (by simp) HFR.out hf),(hf.block _ hg5l (HRO.out.g5 (by simp))).trans hh5,zA ?_,zA (HV2.out.fr hf (Bk hT.2.1.2.1)),zA (HV3.out.fr hf (Bk hT.2.2.1.1)),zA ?_,zA ?_,zA (HRN.out on [o1,o2,o3] [o5] o4 wn rfl HON.out HFN.out.size HQN.out.lt)⟩
         ·rw[Cr,if_neg (by simp[hyk]),List.append_nil];exact HV1.out.fr hf (Bk hT.1.2.2.1)
         ·rw[Cr,if_pos (by simp[hyk,hne])];exact HQN.out
         ·rw[Cr,if_neg (by simp[hyk]),List.append_nil];exact HV5.out.fr hf (Bk hT.2.2.2.symm)
        case measure=>(show V.E.N-(k+1)<V.E.N-k);omega
       |false=>
        have hyk:¬ (k:Int)<=(YN:Int):=of_decide_eq_false hY;cases hfmk:z.st.fm (k:Int)with
        |true=>
         rw[hfmk]at hfirm;obtain⟨vn,wn,on,hr,hqn,hfn,hon⟩:=Fx (HV1.out.fr hfa (by simp)) (hll _) (k:Int) wr.heap.size (A6 wr.drew (.cells #[.int .i64 (k:Int)] 3)).1 32;obtain⟨an,nn,cn,rfl⟩:=hqn.sl;have hf:=(hfa.mono (ex':=o1.toList) (by simp)).trans hfn;have hh5n:=(hf.block _ hg5l (HRO.out.g5 (o:=o1) (by simp))).trans hh5;have hg5n:=Aa hh5n;have hh5m:=Ah wn g5 1 (.slice an nn cn) _ _ _ hh5n;obtain⟨av,nv,cv,hv1s⟩:=HV1.out.sl;have HQN:=zA hqn;have HF:=zA hf;have HFN:=zA hfn;have HON:=zA hon;have HM:=zA hh5m;clear hqn hfn hon hfa hll hf hh5m;subst hv1s;go_wp2_with fail;go_region
         go_wp2_with (at_builtin;refine Ao _ rfl (.tmp 118) (.tmp 120) 32 rfl _ _ rfl rfl _ _ hr ?_)
         go_roundw
         case rel=>
          have hT:=HTEN.out;have hrn:=HRN.out on [] [o2,o3,o4,o5] o1 wn rfl HON.out HFN.out.size HQN.out.lt;have hc:Fr [g5] wn (wn.setCell ⟨g5,1,none⟩ (.slice an nn cn)):=Ai _ _ _ _;have hne5:∀ o∈[on,o2,o3,o4,o5],∀ q,o=some q->q∉[g5]:=fun o ho q hq=>by
           have:=(hrn.1 o ho q hq).2.1;simpa using this
          refine⟨k+1,.slice an nn cn,on,o4,o5,by go_num,by omega,zA ?_,HM.out,zA ?_,zA ((HV2.out.fr HF.out (Bk hT.1.1.symm)).fr hc (hne5 _ (by simp))),zA ((HV3.out.fr HF.out (Bk hT.1.2.1.symm)).fr hc (hne5 _ (by simp))),zA ?_,zA ?_,zA ⟨fun o ho q hq=>?_,hrn.2⟩⟩
          ·exact(((HRO.out.old (o:=o1) (by simp) HFR.out HF.out).mono (ex':=[g5]) (by simp)).trans hc).old (by simpa using hg5)
          ·rw[Cr,if_pos (by simp only[hY];simp[hne,hfmk])];exact HQN.out.fr hc (hne5 _ (by simp))
          ·rw[Cr,if_neg (by simp only[hY];simp),List.append_nil];exact(HV4.out.fr HF.out (Bk hT.1.2.2.1.symm)).fr hc (hne5 _ (by simp))
          ·rw[Cr,if_neg (by simp[hfmk]),List.append_nil];exact(HV5.out.fr HF.out (Bk hT.1.2.2.2.symm)).fr hc (hne5 _ (by simp))
          ·have:=hrn.1 o ho q hq;exact⟨this.1,this.2.1,Nat.lt_of_lt_of_le this.2.2 hc.size⟩
         case measure=>(show V.E.N-(k+1)<V.E.N-k);omega
        |false=>
         rw[hfmk]at hfirm;obtain⟨vn,wn,on,hr,hqn,hfn,hon⟩:=Fx (HV5.out.fr hfa (by simp)) (hll _) (k:Int) wr.heap.size (A6 wr.drew (.cells #[.int .i64 (k:Int)] 3)).1 32;have HQN:=zA hqn;have HFN:=zA hfn;have HON:=zA hon;have HFA:=zA hfa;clear hqn hfn hon hfa hll;go_wp2_with fail;go_region
         go_wp2_with (at_builtin;refine Ao _ rfl (.tmp 78) (.tmp 80) 32 rfl _ _ rfl rfl _ _ hr ?_)
         go_roundw
         case rel=>
          have hf:=(HFA.out.mono (ex':=o5.toList) (by simp)).trans HFN.out;have hT:=HTEN.out;refine⟨k+1,v1,o1,o4,on,by go_num,by omega,zA (HRO.out.old (o:=o5) (by simp) HFR.out hf),(hf.block _ hg5l (HRO.out.g5 (by simp))).trans hh5,zA ?_,zA (HV2.out.fr hf (Bk hT.2.1.2.2)),zA (HV3.out.fr hf (Bk hT.2.2.1.2)),zA ?_,zA ?_,zA (HRN.out on [o1,o2,o3,o4] [] o5 wn rfl HON.out HFN.out.size HQN.out.lt)⟩
          ·rw[Cr,if_neg (by simp[hfmk]),List.append_nil];exact HV1.out.fr hf (Bk hT.1.2.2.2)
          ·rw[Cr,if_neg (by simp only[hY];simp),List.append_nil];exact HV4.out.fr hf (Bk hT.2.2.2)
          ·rw[Cr,if_pos (by simp only[hY];simp[hne,hfmk])];exact HQN.out
         case measure=>(show V.E.N-(k+1)<V.E.N-k);omega
     ·obtain rfl:k=V.E.N:=(by omega);have hkN':¬ ((V.E.N:Nat):Int)<(V.E.N:Int):=(by omega);have hll:=fun sort=>I9 V.E.N (Ck (YN:Int) z) V.IMG sort
      obtain⟨vA,wA,oA,hrA,hqA,hfA,hoA⟩:=M9 HV1.out HV4.out (by have:=hll (fun i=> !decide ((i:Int)<=(YN:Int))&&z.st.fm i);have:=hll (fun i=>decide ((i:Int)<=(YN:Int)));omega) 32;have hT:=HRO.out.ten;have h5A:=HV5.out.fr hfA (Bk hT.1.2.2.2.symm);have hroA:=I4.put (a:=[]) (b:=[o2,o3,o4,o5]) (o':=oA) HRO.out hoA HFR.out.size hg5l hfA.size hqA.lt
      obtain⟨vB,wB,oB,hrB,hqB,hfB,hoB⟩:=M9 hqA h5A (by
       have:=hll (fun i=> !decide ((i:Int)<=(YN:Int))&&z.st.fm i);have:=hll (fun i=>decide ((i:Int)<=(YN:Int)));have:=hll (fun i=> !decide ((i:Int)<=(YN:Int))&& !z.st.fm i);rw[List.length_append];omega) 32
      have hroB:=I4.put (a:=[]) (b:=[o2,o3,o4,o5]) (o':=oB) hroA hoB (Nat.le_trans HFR.out.size hfA.size) (Nat.lt_of_lt_of_le hg5l hfA.size) hfB.size hqB.lt;have hTA:=I4.ten hroA;have hgA:=(hfA.block _ hg5l (HRO.out.g5 (by simp))).trans hh5;have hgB:=(hfB.block _ (Aa hgA) (I4.g5 (o:=oA) hroA (by simp))).trans hgA;have h2B:=(HV2.out.fr hfA (Bk hT.1.1.symm)).fr hfB (Bk hTA.1.1.symm);have h3B:=(HV3.out.fr hfA (Bk hT.1.2.1.symm)).fr hfB (Bk hTA.1.2.1.symm);have hfrA:=HRO.out.old (o:=o1) (by simp) HFR.out hfA;have hfrB:=I4.old (o:=oA) hroA (by simp) hfrA hfB;obtain⟨aB,nB,cB,rfl⟩:=hqB.sl;obtain⟨a2,n2,c2,rfl⟩:=h2B.sl;obtain⟨a3,n3,c3,rfl⟩:=h3B.sl;obtain⟨a1,n1,c1,hv1s⟩:=HV1.out.sl;have hg2B:=(hfrB.block _ (Aa HG2.out) (by simp)).trans HG2.out;have hgn:w.heap.size≠g5:=(by omega);have hcC:Fr [g5] wB (wB.setCell ⟨g5,1,none⟩ (.slice aB nB cB)):=Ai _ _ _ _;have hgC:=Ah wB g5 1 (.slice aB nB cB) _ _ _ hgB;have hg2C:=(hcC.block _ (Aa hg2B) (by simpa using hgn)).trans hg2B;have hlwB:=HLW.out.fr hfrB (by simp);have hgBl:=Aa hgB;have hgCl:=Aa hgC;have hg2Cl:=Aa hg2C;have HQB:=zA hqB;have H2B:=zA h2B;have H3B:=zA h3B;have HRB:=zA hroB;have HWB:=zA hlwB;have HFB:=zA hfrB;have HCC:=zA hcC;have HG2C:=zA hg2C;subst hv1s;clear hqA hqB h2B h3B h5A hfA hfB hoA hoB hroA hroB hlwB hfrB hfrA hcC hT hTA hll hg2B hlw2;go_wp2_with (at_builtin;first|(refine Ao _ rfl (.tmp 125) (.tmp 126) 32 rfl _ _ rfl rfl _ _ hrA ?_)|(refine Ao _ rfl (.tmp 127) (.tmp 128) 32 rfl _ _ rfl rfl _ _ hrB ?_))
      have hfin:=Dc HG2C.out (.slice (some ⟨V.E.gw,0,none⟩) V.E.N V.E.cw) (.slice aB nB cB) (.slice a2 n2 c2) (.slice a3 n3 c3);have P4:=Cl (wB.setCell ⟨g5,1,none⟩ (.slice aB nB cB)) w.heap.size (.slice (some ⟨V.E.gw,0,none⟩) V.E.N V.E.cw) (.slice aB nB cB) (.slice a2 n2 c2) (.slice a3 n3 c3);have hq5:∀ o∈[oB,o2,o3,o4,o5],∀ q,o=some q->q∉[g5]/\q∉[w.heap.size]:=fun o ho q hq=>by
       have:=HRB.out.1 o ho q hq;simp;omega
      have hgwl:=H.out.mlt V.E.gw (by simp[B4]);have hgwG:=H.out.lo V.E.gw (by simp[B4]);have hsG:=H.out.sz;have hwB:=HFB.out.size;refine Qu Fe rfl (cs:= #[.slice (some ⟨V.E.gw,0,none⟩) V.E.N V.E.cw,.slice aB nB cB,.slice a2 n2 c2,.slice a3 n3 c3]) rfl hfin rfl rfl ?_;refine⟨_,_,_,rfl,?_,oB,?_,o2,?_,o3,?_,?_,?_⟩
      ·rw[<-HA4.out];have hw0:=HWB.out.k.want;obtain⟨csz,hcsz,hcsz2⟩:=hw0;have e1:=(HCC.out.block _ (Aa hcsz) (by simp;omega)).trans hcsz;exact⟨csz,(P4.block _ (Aa e1) (by simp;omega)).trans e1,hcsz2⟩
      ·exact(HQB.out.fr HCC.out (fun q hq=>(hq5 _ (by simp) q hq).1)).fr P4 (fun q hq=>(hq5 oB (by simp) q hq).2)
      ·exact(H2B.out.fr HCC.out (fun q hq=>(hq5 o2 (by simp) q hq).1)).fr P4 (fun q hq=>(hq5 o2 (by simp) q hq).2)
      ·exact(H3B.out.fr HCC.out (fun q hq=>(hq5 o3 (by simp) q hq).1)).fr P4 (fun q hq=>(hq5 o3 (by simp) q hq).2)
      ·have b1:Below V.G0 w w1:=HF1.out.below hsG (by simp);have b2:=b1.trans HBW.out;have b3:=b2.trans (HFB.out.below HLW.out.sz (by simp));have b4:=b3.trans (HCC.out.below (by omega) (by simp;omega));exact b4.trans (P4.below (by(have:=HCC.out.size;omega)) (by simp;omega))
      ·refine⟨fun o ho q hq=>?_,HRB.out.2.sublist (by simp)⟩;have:=HRB.out.1 o (by simp at ho;rcases ho with rfl|rfl|rfl<;>simp) q hq;omega
theorem Lr:∃ i0 z,Tryz.prog.info? 47=some i0/\i0.zero=some z/\z.cells.size=128/\i0.size=128/\i0.bytes=128:=by
 have h:(Tryz.prog.info? 47).map (fun i=>(i.zero.map (fun z=>z.cells.size),i.size,i.bytes))=some (some 128,128,128):=by kernel_rfl
 cases hq:Tryz.prog.info? 47 with
 |none=>rw[hq]at h;cases h
 |some inf=>
  rw[hq]at h;simp at h;obtain⟨h1,h2,h3⟩:=h;obtain⟨z,hz,h1⟩:=h1;exact⟨inf,z,rfl,hz,h1,h2,h3⟩
theorem G9.cell{cs:Array Value}{o N:Nat}{S:Nat->List Int}(hs:o+N*128<=cs.size)(h:∀ i,i<N->(S i).length=128/\A4 (S i)/\cs.extract (o+i*128) (o+i*128+128)=IV .u8 (S i)){j:Nat}(hj:j<N*128):∃ x:Int,cs[o+j]? =some (.int .u8 x):=by
 have hi:j/128<N:=by omega
 obtain⟨h1,-,h2⟩:=h (j/128) hi;have h3:(cs.extract (o+j/128*128) (o+j/128*128+128))[j%128]? =(IV .u8 (S (j/128)))[j%128]? :=by rw[h2]
 rw[Lj .u8 _ _ (by rw[h1];omega),Array.getElem?_extract,if_pos (by omega)]at h3;rw[show o+j/128*128+j%128=o+j by omega]at h3;exact⟨_,h3⟩
theorem fL(gi oi N ci:Nat)(S:Nat->List Int)(w:World)(hS:G9 w gi oi N S)(h0:0<N)(hN:N<=4096):
  Calls Tryz.prog 48 #[.slice (some ⟨gi,oi,none⟩) N ci] w fun e w'=>∃ g cw,e= .returned (.slice (some ⟨g,0,none⟩) N cw)/\w.heap.size<=g/\B8 w' g N cw S/\Below w.heap.size w w':=by
 obtain⟨cs,t,fr,hcs,hsz,hall⟩:=hS;obtain⟨inf,z,hi,hz,hzs,his,hib⟩:=Lr;have ht:Tryz.prog.underlying 26=some (.slice 47):=Tryz.underlying26;have heq:∀ W,(binOp .eql 26 (.slice (some ⟨gi,oi,none⟩) N ci) (.slice none 0 0)).run Tryz.prog W= .ok (.bool false) W:=fun W=>by kernel_rfl
 have hc0:hat (w.alloc (.cells #[] 47)) gi=some (.cells cs t fr):=(B7 w _ hcs).1;have hnl:(cs.extract oi (oi+N*128)).toList.length=N*128:=by simp;omega
 have hget:∀ j u,(cs.extract oi (oi+N*128)).toList[j]? =some u->cs[oi+j]? =some u/\j<N*128:=fun j u hj=>by
  have hjl:j<N*128:=by
   have:=(List.getElem?_eq_some_iff.1 hj).1;omega
  rw[Array.getElem?_toList,Array.getElem?_extract,if_pos (by omega)]at hj;exact⟨hj,hjl⟩
 have hsrc:Src Tryz.prog inf.size 26 (.slice (some ⟨gi,oi,none⟩) N ci) N (cs.extract oi (oi+N*128)).toList (w.alloc (.cells #[] 47)):=
  Src.ofSlice _ ht ⟨gi,oi,none⟩ N ci _ (by rw[hnl,his]) (fun j u hj=>by
   rw[C4,Bs hc0];exact(hget j u hj).1) (fun u hu=>by
   obtain⟨j,hj⟩:=List.getElem?_of_mem hu;obtain⟨h1,h2⟩:=hget j u hj;obtain⟨x,hx⟩:=G9.cell hsz hall h2;rw[h1]at hx;rw[Option.some.inj hx];rfl)
 have hr:=run_append_grow_src (P:=Tryz.prog) (w.alloc (.cells #[] 47)) 26 26 26 47 inf z ht hi hz (some ⟨w.heap.size,0,none⟩) 0 0 [] (run_firstCells_some _ inf.size 0 ⟨w.heap.size,0,none⟩ 0 0 [] (by simp) (fun j u hj=>by simp at hj)) (.slice (some ⟨gi,oi,none⟩) N ci) N _ hsrc (by omega) (by omega) (growslice_fits (by omega) (by rw[hib];omega));simp only[Nat.zero_add,List.nil_append]at hr;have hge:=grownCap_ge (w.alloc (.cells #[] 47)) N 0 47;have hW:B8 ((w.alloc (.cells #[] 47)).drew.alloc (.cells ((cs.extract oi (oi+N*128)).toList.toArray++Builtin.zeroCells z.cells (grownCap (w.alloc (.cells #[] 47)) N 0 47-N)) 47)) (w.alloc (.cells #[] 47)).heap.size N (grownCap (w.alloc (.cells #[] 47)) N 0 47) S:=by
  refine⟨_,Bc _ _ _ rfl,by rw[Array.size_append,size_zeroCells,hzs,List.size_toArray,hnl];omega,fun i hi=>?_⟩;obtain⟨h1,h2,h3⟩:=hall i hi;refine⟨h1,h2,?_⟩;rw[<-h3];apply Array.ext_getElem?
  intro j;rw[Array.getElem?_extract,Array.getElem?_extract];by_cases hj:j<128
  ·rw[if_pos (by rw[Array.size_append,List.size_toArray,hnl];omega),if_pos (by omega),Array.getElem?_append_left (by rw[List.size_toArray,hnl];omega),List.getElem?_toArray,Array.getElem?_toList,Array.getElem?_extract,if_pos (by omega)];congr 1;omega
  ·rw[if_neg (by rw[Array.size_append,List.size_toArray,hnl];omega),if_neg (by omega)]
 have hB:Below w.heap.size w ((w.alloc (.cells #[] 47)).drew.alloc (.cells ((cs.extract oi (oi+N*128)).toList.toArray++Builtin.zeroCells z.cells (grownCap (w.alloc (.cells #[] 47)) N 0 47-N)) 47)):=(Dy ((Below.refl w.heap.size w).alloc (Nat.le_refl _) _)).alloc (by simp) _;have hzz:w.heap.size<=(w.alloc (.cells #[] 47)).heap.size:=by simp
 have HW:=zA hW;have HB:=zA hB;clear hW hB hsrc hget hnl hall;generalize (w.alloc (.cells #[] 47)).drew.alloc (.cells ((cs.extract oi (oi+N*128)).toList.toArray++Builtin.zeroCells z.cells (grownCap (w.alloc (.cells #[] 47)) N 0 47-N)) 47)=w2 at*;generalize grownCap (w.alloc (.cells #[] 47)) N 0 47=cw at*;generalize (w.alloc (.cells #[] 47)).heap.size=g at*;go_enter Tryz.func48,Tryz.ntmps48;go_wp2_with (at_builtin;refine Ao _ rfl (.tmp 5) (.tmp 6) 26 rfl _ _ rfl rfl _ _ hr ?_)
 go_ret;exact⟨g,cw,rfl,hzz,HW.out,HB.out⟩
def Bd:Array Value:= #[.slice none 0 0,.slice none 0 0,.slice none 0 0,.slice none 0 0]
theorem bH(a:Option Addr)(N c:Nat)(w:World)(h:N<8\/4096<N):
  Calls Tryz.prog 35 #[.slice a N c] w fun e w'=>e= .returned (.tuple #[.agg Bd,.int .i64 120])/\Below w.heap.size w w':=by
 have HF:=zA (A6 w (.cells Bd 34)).1;have HB:=zA ((Below.refl w.heap.size w).alloc (Nat.le_refl _) (.cells Bd 34));cases d1:decide ((N:Int)<8)with
 |true=>
  have d2:(N:Int)<8:=of_decide_eq_true d1;clear h;go_enter Tryz.func35,Tryz.ntmps35;go_wp2_with fail;exact Aw Fe rfl (cs:=Bd) rfl HF.out rfl rfl ⟨rfl,HB.out⟩
 |false=>
  have d2:¬ (N:Int)<8:=of_decide_eq_false d1;have d3:(4096:Int)<(N:Int):=(by omega);clear h;go_enter Tryz.func35,Tryz.ntmps35;go_wp2_with fail;exact Aw Fe rfl (cs:=Bd) rfl HF.out rfl rfl ⟨rfl,HB.out⟩
theorem bI(gi oi N ci:Nat)(S:Nat->List Int)(w:World)(hS:G9 w gi oi N S)(h8:8<=N)(hN:N<=4096)(h:(A1 (S 0)).2.2≠0\/(A1 (S 0)).1≠N):
  Calls Tryz.prog 35 #[.slice (some ⟨gi,oi,none⟩) N ci] w fun e w'=>e= .returned (.tuple #[.agg Bd,.int .i64 120])/\Below w.heap.size w w':=by
 obtain⟨cs,t,fr,hcs,hld⟩:=hS.load (show 0<N by omega);obtain⟨hl0,hb0⟩:=hS.len (show 0<N by omega);have HRS:=zA (fun W=>Sq (S 0) hl0 hb0 W);rw[Nat.zero_mul,Nat.add_zero]at hld;have hcl:=Aa hcs;have hz1:=(A6 w (.cells Bd 34)).1;have hc1:=(B7 w (.cells Bd 34) hcs).1;have hf1:=Be w (.cells Bd 34) [];have d1:¬ (N:Int)<8:=by omega
 have d2:¬ (4096:Int)<(N:Int):=by omega
 have d3:(0:Int)<(N:Int):=by omega
 have HF1:=zA hf1;obtain⟨X,Y,er,hR⟩:∃ X Y er,A1 (S 0)=(X,Y,er):=⟨_,_,_,rfl⟩;rw[hR]at h HRS;simp only at h;clear hS hf1 hR;go_enter Tryz.func35,Tryz.ntmps35;go_wp2_with fail;generalize hW1:w.alloc (.cells #[.slice none 0 0,.slice none 0 0,.slice none 0 0,.slice none 0 0] 34)=w1 at*;refine(HRS.out w1).mono ?_;rintro e w2 ⟨rfl,hb2⟩;have hz2:=(hop hb2 (show hat w1 w.heap.size=some (.cells Bd 34) by rw[<-hW1];exact(A6 w _).1)).1;have hgz:=Aa hz2;have HFIN:=zA (B7 (Q4 w2 w.heap.size (.slice none 0 0) (.slice none 0 0) (.slice none 0 0) (.slice none 0 0)) (.cells #[.int .i64 X,.int .i64 Y] 68) (Dc hz2 (.slice none 0 0) (.slice none 0 0) (.slice none 0 0) (.slice none 0 0))).1;have HB:=zA (((((show Fr [] w w1 by rw[<-hW1];exact Be w _ []).trans (Af hb2 [])).mono (ex':=[w.heap.size]) (by simp)).trans (Cl w2 w.heap.size (.slice none 0 0) (.slice none 0 0) (.slice none 0 0) (.slice none 0 0))).trans (Be _ (.cells #[.int .i64 X,.int .i64 Y] 68) [w.heap.size])|>.below (B:=w.heap.size) (Nat.le_refl _) (by simp));unfold Bd at hz2;clear hb2 hz1 hc1 hcs hld hW1 HF1 HRS;cases hed:(er==0)with
 |false=>
  have hedn:(er !=0)=true:=(by simpa using hed);clear h;go_wp2_with fail;exact Aw Fe rfl (cs:=Bd) rfl HFIN.out rfl rfl ⟨rfl,HB.out⟩
 |true=>
  have her:er=0:=(by simpa using hed);have hxn:(X !=(N:Int))=true:=by
   rcases h with h|h
   ·exact absurd her h
   ·simpa using h
  have hedn:(er !=0)=false:=(by simpa using her);clear h;go_wp2_with fail;exact Aw Fe rfl (cs:=Bd) rfl HFIN.out rfl rfl ⟨rfl,HB.out⟩
theorem mM{X Y:Int}(hY:Y<4096)(IMG:Nat->List Int)(p:Nat)(zn:LZ×(ByteArray->Bool)):Ek (Cy X Y IMG p zn).1<=Ek zn.1:=by
 unfold Cy;split
 ·exact Nat.le_refl _
 ·split
  ·rename_i h
   exact bS _ zn (by omega)
  ·exact Nat.le_refl _
theorem Zc{X Y:Int}(hY:Y<4096)(IMG:Nat->List Int)(bk:Int->Option Int):∀ (m k:Nat) (zn:LZ×(ByteArray->Bool)),Ek (G4 X Y IMG bk m k zn).1<=Ek zn.1
 |0,_,_=>Nat.le_refl _
 |m+1,k,zn=>by
  show Ek (G4 X Y IMG bk m (k+1) _).1<=_
  refine Nat.le_trans (Zc hY IMG bk m (k+1) _) ?_;split
  ·exact Nat.le_refl _
  ·exact mM hY IMG _ zn
theorem W6{X Y:Int}(hY:Y<4096)(IMG:Nat->List Int)(i:Nat)(z:LZ):Ek (Ct X Y IMG i z)<=Ek z:=by
 unfold Ct;split
 ·exact Nat.le_refl _
 ·exact Zc hY IMG _ _ _ (z,fun _=>false)
theorem Gj(X Y:Int)(IMG:Nat->List Int)(f:Nat)(z:LZ)(h:z.q=[]):Gq X Y IMG f z=z:=by
 cases f with
 |zero=>rfl
 |succ f=>unfold Gq;rw[h]
theorem E0(X Y:Int)(IMG:Nat->List Int)(f:Nat)(z:LZ)(i:Int)(r:List Int)(h:z.q=i::r):Gq X Y IMG (f+1) z=Gq X Y IMG f (Ct X Y IMG i.toNat {z with q:=r}):=by
 conv=>lhs;unfold Gq
 rw[h]
theorem LW.pop{V:WE}{ob:Option Nat}{B:Nat->Option (Nat×Nat)}{z:LZ}{w w':World}(h:LW V ob B z w){i:Int}{r:List Int}(hq:z.q=i::r)(hv:Mr w' V.gr ob r)(hf:Fr [V.gr] w w'):LW V ob B {z with q:=r} w':=by
 have hgr:V.gr∉[V.E.gl,V.E.gw,V.E.bc,V.E.bf,V.E.bt]:=h.qo.v;simp only[List.mem_cons,List.not_mem_nil,or_false,not_or]at hgr;obtain⟨a1,a2,a3,a4,a5⟩:=hgr;obtain⟨tk,hpb,htk⟩:=h.pb;have hgm:V.gr∈B4 V ob:=by simp[B4]
 have hgi:V.gi∉[V.gr]:=fun hx=>by
  rw[List.mem_singleton]at hx;have:=h.gi0;have:=h.lo _ hgm;omega
 refine⟨h.e0,h.qo,h.img,h.secs.same (hf.block _ h.secs.lt hgi),h.gi0,h.lo,Nat.le_trans h.sz hf.size,h.small,h.k.fr hf (by simpa using Ne.symm a1) (by simpa using Ne.symm a2) (by simpa using Ne.symm a3) (by simpa using Ne.symm a4),
  ⟨tk,hpb.same (hf.block _ hpb.lt (by simpa using Ne.symm a5)),htk⟩,h.no,fun j u hu=>?_,h.inj,hv,⟨h.zi.t,fun j hj=>h.zi.q j (by rw[hq];exact List.mem_cons_of_mem _ hj),?_⟩⟩
 ·obtain⟨t,h1,h2,h3,h4,h5,h6,h7⟩:=h.yes j u hu;refine⟨t,h1,(hf.block _ (Aa h2) (fun hx=>?_)).trans h2,h3.same (hf.block _ h3.lt (fun hx=>?_)),h4,h5,h6,h7⟩
  ·rw[List.mem_singleton]at hx;exact h6 (hx▸hgm)
  ·rw[List.mem_singleton]at hx;exact h7 (hx▸hgm)
 ·have:=h.zi.pot;unfold Ek at this ⊢;rw[hq]at this;have hz:Jb {z with q:=r}=Jb z:=rfl;rw[hz];simp at this ⊢;omega
theorem Ch.gr{V:WE}{but:List Nat}{ob:Option Nat}{B:Nat->Option (Nat×Nat)}{w w':World}(hf:Fr [V.gr] w w'):Ch V but ob B w ob B w':=
 Ch.of hf (fun k hk=> .inr (fun ha=>ha.1 (by rw[List.mem_singleton]at hk;subst hk;simp[B4])))
theorem Rj{z:LZ}{i:Int}{r:List Int}(hq:z.q=i::r):Ek {z with q:=r}+1=Ek z:=by
 unfold Ek;rw[hq];have hz:Jb {z with q:=r}=Jb z:=rfl;rw[hz];simp;omega
def Cf(S:Nat->List Int):LZ:=⟨⟨S,fun _=>false,fun _=>false,fun _=>none⟩,fun _=>none,[]⟩
theorem dD(X Y:Int)(S:Nat->List Int):ZI X Y (Cf S):=by
 refine⟨fun i t h=>(by cases h),fun i h=>(by cases h),?_⟩;unfold Ek Cf Jb Qm;have:=List.length_filter_le (fun i=>(none:Option TI).isNone) (List.range 4096);simp at this ⊢;omega
theorem jN(X Y:Int)(S:Nat->List Int):Df X Y S={Dg X Y 1 (Am (S 1)).1 0 (Cf S)with T:=A2 (Dg X Y 1 (Am (S 1)).1 0 (Cf S)).T 1 ⟨(Aj X Y (Am (S 1)).1 (Cf S).st).1,1,(Aj X Y (Am (S 1)).1 (Cf S).st).2.bk⟩}:=by
 unfold Df Dg Cf;rw[Uk]
section
variable {P:Program} {ops:Array Oper} {N:Nat} {Q:Exit->Act->World->Prop}
theorem O8{γ:Type}{id:Nat}{a:Act}{w:World}(hm:P.follows .mixedOrders=true)(N:Nat)(hok:F3 ops N=true)
  (hsz:(Dk (ops.toList.take N)).all (· <a.tmps.size)=true)
  (I:γ->World->Prop) (E:γ->World->γ->World->Prop) (G:Nat->Value->γ->World->Prop) (g0:γ)
  (h0:I g0 w.drew)
  (hE:∀ i v g w g' w',i<N->I g w->I g' w'->E g w g' w'->G i v g w->G i v g' w')
  (hs:∀ i o,i<N->ops[i]? =some o->∀ a' g w',I g w'->F5 ops N a a'->
   (∀ j∈Oper.needs o,∀ oj d,ops[j]? =some oj->oj.dst=some d->G j (gt a' d) g w')->
   wpOp P ops Q i (fun a'' w''=>∃ v g'',a''=a'.put o.dst v/\I g'' w''/\E g w' g'' w''/\G i v g'' w'') a' w')
  (he:∀ a' g w',I g w'->F5 ops N a a'->(∀ j oj d,j<N->ops[j]? =some oj->oj.dst=some d->G j (gt a' d) g w')->
   wpList P ops Q (ops.toList.drop N) a' w'):
  (Code.region id ops true).wp P Q a w:=by
 obtain⟨hb,ht,hNs,hnd⟩:=Hh hok;refine wp_region_any hm ?_
 have key:∀ (fuel:Nat) (L:Array Bool) (a':Act) (g:γ) (w':World),L.size=ops.size->Ga L<=fuel->(∀ j,N<=j->j<ops.size->L.getD j true=false)->
   I g w'->F5 ops N a a'->(∀ j oj d,j<N->L.getD j true=true->ops[j]? =some oj->oj.dst=some d->G j (gt a' d) g w')->wpAny P .any ops Q fuel L a' w':=by
  intro fuel;induction fuel with
  |zero=>
   intro L a' g w' hL hf htl hI hS hG;have hall:∀ j,j<ops.size->L.getD j true=true:=by
    intro j hj;cases hv:L.getD j true with
    |true=>rfl
    |false=>have:=Ff hv;omega
   have hN:N=ops.size:=by
    by_cases h:N<ops.size
    ·have:=htl N (Nat.le_refl _) h;rw[hall N h]at this;simp at this
    ·omega
   refine He hok 0 N L a' w' (Nat.le_refl _) (by omega) (by omega) hL (fun j hj=>by rw[hall j hj];simp;omega) ?_;exact he a' g w' hI hS (fun j oj d hj ho hd=>hG j oj d hj (hall j (by omega)) ho hd)
  |succ fuel ih=>
   intro L a' g w' hL hf htl hI hS hG;by_cases hall:∀ j,j<N->L.getD j true=true
   ·refine He hok (fuel+1) N L a' w' (Nat.le_refl _) hNs ?_ hL ?_ (he a' g w' hI hS (fun j oj d hj ho hd=>hG j oj d hj (hall j hj) ho hd))
    ·
     have:∀ (n:Nat) (l:List Bool),(∀ j,n<=j->j<l.length->l[j]? =some false)->l.length-n<=l.countP (· ==false):=by
      intro n;induction n with
      |zero=>
       intro l;induction l with
       |nil=>intro _;simp
       |cons b l ihl=>
        intro h;have h0:=h 0 (Nat.le_refl _) (by simp);simp at h0;subst h0;have:=ihl (fun j _ hj=>by have:=h (j+1) (by omega) (by simp;omega);simpa using this);simp at this ⊢;omega
      |succ n ihn=>
       intro l;cases l with
       |nil=>intro _;simp
       |cons b l=>
        intro h;have:=ihn l (fun j hj hjl=>by have:=h (j+1) (by omega) (by simp;omega);simpa using this);simp[List.countP_cons]at this ⊢;omega
     have h2:=this N L.toList (fun j hj hjl=>by
      have hjs:j<L.size:=(by simpa using hjl);have:=htl j hj (by omega);simp[hjs]at this ⊢;exact this)
     unfold Ga at hf;simp at h2;simp at hf;omega
    ·intro j hj;by_cases hjN:j<N
     ·rw[hall j hjN];simp[hjN]
     ·rw[htl j (by omega) hj];simp[hjN]
   ·refine⟨?_,?_⟩
    ·intro hr;exfalso
     have hex:∃ j,j<N/\L.getD j true=false:=by
      false_or_by_contra
      rename_i hne
      apply hall
      intro j hj;cases hv:L.getD j true with
      |true=>rfl
      |false=>exact(hne ⟨j,hj,hv⟩).elim
     have least:∀ n,(∃ j,j<n/\j<N/\L.getD j true=false)->∃ j,j<N/\L.getD j true=false/\∀ k,k<j->L.getD k true=true:=by
      intro n;induction n with
      |zero=>rintro ⟨j,hj,_⟩;omega
      |succ n ihn=>
       rintro ⟨j,hj,hjN,hv⟩;by_cases hlow:∃ k,k<j/\L.getD k true=false
       ·obtain⟨k,hk,hkv⟩:=hlow;exact ihn ⟨k,by omega,by omega,hkv⟩
       ·refine⟨j,hjN,hv,fun k hk=>?_⟩;cases hkv:L.getD k true with
        |true=>rfl
        |false=>exact(hlow ⟨k,hk,hkv⟩).elim
     obtain⟨j0,hj0,hv0⟩:=hex;obtain⟨j,hjN,hv,hlow⟩:=least (j0+1) ⟨j0,by omega,hj0,hv0⟩;have hlt:j<ops.size:=(by omega);have:j∈Region.ready .any ops L:=by
      refine J6 (o:=ops[j]) (by simp[hlt]) hv ?_;intro k hk;have hkj:=hb j ops[j] (by simp[hlt]) k hk;have h3:=hlow k hkj;have hks:k<L.size:=(by omega);simp[hks]at h3 ⊢;exact h3
     rw[hr]at this;simp at this
    ·intro i hi;obtain⟨o,ho,h1,h2⟩:=Gk hL hi;have hlt:i<ops.size:=(Array.getElem?_eq_some_iff.1 ho).1;have hiN:i<N:=by
      by_cases h:i<N
      ·exact h
      ·exfalso
       apply hall
       intro j hj;have:=h2 j (ht i o ho (by omega) j (by omega));have hjs:j<L.size:=(by omega);simp[hjs]at this ⊢;exact this
     refine wpOp_mono ?_ (hs i o hiN ho a' g w' hI hS ?_)
     ·rintro a'' w'' ⟨v,g'',rfl,hI',hE',hGi⟩;have hidst:∀ d,o.dst=some d->d∈Dk (ops.toList.take N):=by
       intro d hd;unfold Dk;refine List.mem_filterMap.2 ⟨o,?_,hd⟩;have hv:=(Array.getElem?_eq_some_iff.1 ho).2;rw[List.mem_take_iff_getElem];exact⟨i,by simp;omega,by simpa using hv⟩
      refine ih _ _ _ _ (by simpa using hL) (by have:=Ff h1;omega) ?_ hI' ?_ ?_
      ·intro j hj hjs;have:=htl j hj hjs;have hjs':j<L.size:=(by omega);simp[hjs',Array.getElem_setIfInBounds,show i≠j by omega]at this ⊢;exact this
      ·refine⟨by rw[Ka];exact hS.size,by rw[Iu];exact hS.defers,?_⟩;intro t ht';rw[Fv]
       ·exact hS.other t ht'
       ·intro e;exact ht' (hidst t e)
      ·intro j oj d hj hjL hoj hd;by_cases hji:j=i
       ·subst hji;rw[ho]at hoj;have hoe:o=oj:=(by simpa using hoj);subst hoe;rw[hd,Jz _ _ _ (by rw[hS.size];simpa using (List.all_eq_true.1 hsz) d (hidst d hd))];exact hGi
       ·have hjs':j<L.size:=(by omega);have hjL':L.getD j true=true:=by
         simp[hjs',Array.getElem_setIfInBounds,Ne.symm hji]at hjL ⊢;exact hjL
        have hg:=hG j oj d hj hjL' hoj hd;rw[Fv]
        ·exact hE j _ _ _ _ _ hj hI hI' hE' hg
        ·intro e;have hne:∀ (l:List Oper),(Dk l).Nodup->∀ (i j:Nat) (oi oj:Oper) (d:Nat),l[i]? =some oi->l[j]? =some oj->oi.dst=some d->oj.dst=some d->i=j:=by
          intro l;induction l with
          |nil=>intro _ i j oi oj d hi;simp at hi
          |cons x l ihl=>
           intro hnd i j oi oj d hi hj hdi hdj;have hnd':(Dk l).Nodup:=by
            unfold Dk at hnd ⊢;rw[List.filterMap_cons]at hnd;split at hnd
            ·exact hnd
            ·exact(List.nodup_cons.1 hnd).2
           have hx:∀ (j:Nat) (oj:Oper),l[j]? =some oj->oj.dst=some d->x.dst≠some d:=by
            intro j oj hj hdj hxd;unfold Dk at hnd;rw[List.filterMap_cons,hxd]at hnd;have:=(List.nodup_cons.1 hnd).1;apply this
            exact List.mem_filterMap.2 ⟨oj,List.mem_of_getElem? hj,hdj⟩
           cases i with
           |zero=>
            simp at hi;subst hi;cases j with
            |zero=>rfl
            |succ j=>simp at hj;exact(hx j oj hj hdj hdi).elim
           |succ i=>
            simp at hi;cases j with
            |zero=>simp at hj;subst hj;exact(hx i oi hi hdi hdj).elim
            |succ j=>simp at hj;rw[ihl hnd' i j oi oj d hi hj hdi hdj]
         have:=hne (ops.toList.take N) hnd i j o oj d (by simp[List.getElem?_take,hiN,ho]) (by simp[List.getElem?_take,hj,hoj]) e hd;exact hji this.symm
     ·intro j hj oj d hoj hd;have hjL:=h2 j hj;have hji:=hb i o ho j hj;have hjs:j<L.size:=(by omega);exact hG j oj d (by omega) (by simp[hjs]at hjL ⊢;exact hjL) hoj hd
 refine key ops.size (Array.replicate ops.size false) a g0 {w with drawn:=w.drawn+1} (by simp) ?_ ?_ h0 ⟨rfl,rfl,fun _ _=>rfl⟩ ?_
 ·have:=List.countP_le_length (p:=(· ==false)) (l:=(Array.replicate ops.size false).toList);unfold Ga;simpa using this
 ·intro j _ hj;simp[hj]
 ·intro j oj d hj hjL;simp[show j<ops.size by omega]at hjL
theorem O7{γ:Type}{id:Nat}{a:Act}{w:World}(hm:P.follows .mixedOrders=true)(N:Nat)(hok:F3 ops N=true)
  (hsz:(Dk (ops.toList.take N)).all (· <a.tmps.size)=true)
  (I:γ->World->Prop) (E:γ->World->γ->World->Prop) (G:Nat->Value->γ->World->Prop) (g0:γ)
  (h0:I g0 w.drew)
  (hE:∀ i v g w g' w',i<N->I g w->I g' w'->E g w g' w'->G i v g w->G i v g' w')
  (hs:∀ i o,i<N->ops[i]? =some o->∀ a' g w',I g w'->(∀ t,t∉Dk (ops.toList.take N)->gt a' t=gt a t)->
   (∀ j∈Oper.needs o,∀ oj d,ops[j]? =some oj->oj.dst=some d->G j (gt a' d) g w')->
   wpOp P ops Q i (fun a'' w''=>∃ v g'',a''=a'.put o.dst v/\I g'' w''/\E g w' g'' w''/\G i v g'' w'') a' w')
  (he:∀ val g w',I g w'->(∀ j oj d,j<N->ops[j]? =some oj->oj.dst=some d->G j (val j) g w')->
   wpList P ops Q (ops.toList.drop N) (Bi (ops.toList.take N) 0 val a) w'):
  (Code.region id ops true).wp P Q a w:=by
 refine O8 hm N hok hsz I E G g0 h0 hE (fun i o hi ho a' g w' hI hS hF=>hs i o hi ho a' g w' hI hS.other hF) ?_;intro a' g w' hI hS hF;let val:Nat->Value:=fun j=>match ops[j]? with|some oj=>(match oj.dst with|some d=>gt a' d|none=>undef)|none=>undef
 have hval:∀ j oj d,ops[j]? =some oj->oj.dst=some d->val j=gt a' d:=by
  intro j oj d hj hd;simp only[val,hj,hd]
 have hw:=he val g w' hI (fun j oj d hj ho hd=>by rw[hval j oj d ho hd];exact hF j oj d hj ho hd);have hae:a'=Bi (ops.toList.take N) 0 val a:=by
  refine Rc (by rw[Ji];exact hS.size) (by rw[Hg];exact hS.defers) (fun t ht=>?_);rw[Mn (ops.toList.take N) 0 val a a' t (by rw[<-hS.size];exact ht) (fun j oj d hj hd=>by
   rw[Nat.zero_add];refine hval j oj d ?_ hd;rw[List.getElem?_take]at hj;split at hj
   ·simpa using hj
   ·simp at hj)]
  split
  ·rfl
  ·rename_i h;exact hS.other t h
 rw[hae];exact hw
end
end Go.Proofs.YtmnecpnkkapflaaGreat
