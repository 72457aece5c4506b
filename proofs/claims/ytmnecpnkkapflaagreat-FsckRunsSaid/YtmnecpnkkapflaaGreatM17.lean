import Derived.Deep.DeepCutAuto
import Derived.Test.YtmnecpnkkapflaaGreatM01
import Derived.Test.YtmnecpnkkapflaaGreatM04
import Derived.Test.YtmnecpnkkapflaaGreatM08
import Derived.Test.YtmnecpnkkapflaaGreatM09
import Derived.Test.YtmnecpnkkapflaaGreatM15
import Derived.Test.YtmnecpnkkapflaaGreatM16
namespace Go.Proofs.YtmnecpnkkapflaaGreat
set_option maxHeartbeats 16000000
set_option maxRecDepth 1000000
set_option linter.unusedSimpArgs false
set_option linter.unusedVariables false
open Go.RowKit
def eN(W:Nat->List Int)(raw:List Int):List Int:=(spF (D6 W raw) 0 1068).map Prod.snd
def P9(W:Nat->List Int)(raw:List Int):List Int:=Jp W raw++if nth raw 0=2 then eN W raw else []
def I5(s:Int->Bool)(l:List Int)(q:Int):Bool:=s q||l.contains q
theorem Xy(s:Int->Bool):I5 s []=s:=by funext q;simp[I5]
theorem kG(s:Int->Bool)(a b:List Int):I5 (I5 s a) b=I5 s (a++b):=by funext q;simp[I5,Bool.or_assoc]
theorem U4(s:Int->Bool){l:List Int}{j:Nat}{q:Int}(h:l[j]? =some q):I5 s (l.take (j+1))=A8 (I5 s (l.take j)) q:=by
 funext x
 apply Bool.eq_iff_iff.2
 unfold I5 A8;rw[List.take_add_one,h];simp;grind
noncomputable def Dn(W I:Nat->List Int)(tk:Int->Bool):Nat->Int->Bool
 |0=>fun _=>false
 |k+1=>if 1<=k/\tk (k:Int)=true then I5 (Dn W I tk k) (P9 W (I k))else Dn W I tk k
def Nq(tk:Int->Bool)(q:Int):Bool:=decide (1<=q)&&tk q
theorem lO(tk:Int->Bool):C6 1 (Nq tk)=[]:=by rw[Iy,if_neg (by unfold Nq;simp)];rfl
theorem Vj{tk:Int->Bool}{k:Nat}(h:1<=k):C6 (k+1) (Nq tk)=C6 k (Nq tk)++if tk (k:Int)=true then [(k:Int)]else []:=by
 rw[Iy];unfold Nq;rw[decide_eq_true (by omega:(1:Int)<=k),Bool.true_and]
theorem aX(W I:Nat->List Int)(tk:Int->Bool):Dn W I tk 1=fun _=>false:=by
 show(if 1<=0/\tk ((0:Nat):Int)=true then I5 (Dn W I tk 0) (P9 W (I 0))else Dn W I tk 0)=_
 rw[if_neg (by omega)];rfl
theorem gI{W I:Nat->List Int}{tk:Int->Bool}{k:Nat}(h:tk (k:Int)=false):Dn W I tk (k+1)=Dn W I tk k:=by
 show(if 1<=k/\tk (k:Int)=true then I5 (Dn W I tk k) (P9 W (I k))else Dn W I tk k)=_
 rw[if_neg (by rw[h];simp)]
theorem Sa{W I:Nat->List Int}{tk:Int->Bool}{k:Nat}(h1:1<=k)(h:tk (k:Int)=true):Dn W I tk (k+1)=I5 (Dn W I tk k) (P9 W (I k)):=if_pos ⟨h1,h⟩
def G8(Y:Int)(f:Int->Bool)(n:Nat):Nat:=if (n:Int)<=Y then 1 else if f n=true then 0 else 2
theorem jQ(S:Nat->List Int)(raw:List Int):(Jp S raw).length<=40:=by
 unfold Jp;rw[List.length_append];have h1:(nz (nth raw 16)).length<=1:=by unfold nz;split<;>simp
 split
 ·simp;omega
 ·rw[List.length_cons];have:=eD (Al (S (nth raw 17).toNat));have h2:(Al (S (nth raw 17).toNat)).length=32:=(by simp);omega
def wrT(N:Nat)(Y:Int)(W A:Nat->List Int)(f:Int->Bool):Nat->List Int
 |0=>[]
 |t+1=>wrT N Y W A f t++Bv N W A (fun n=>G8 Y f n==t)
theorem eV(N:Nat)(Y:Int)(W A:Nat->List Int)(f:Int->Bool):∀ t,(wrT N Y W A f t).length<=N*t
 |0=>Nat.le_refl _
 |t+1=>by
  show(wrT N Y W A f t++Bv N W A _).length<=_
  rw[List.length_append];have:=eV N Y W A f t;have:=I9 N W A (fun n=>G8 Y f n==t);rw[Nat.mul_succ];omega
theorem Th{w ws:World}{B gr:Nat}{ex:List Nat}{cs:Array Value}{v:Value}{o:Option Nat}{xs:List Int}(hgr:hat w gr=some (.cells cs 34))(hq:Bg w v o xs)(ho:Fa B o)(hL:Lo ex B ws w)(hex:gr∈ex)(hB:B<=w.heap.size)(hn:xs.length<=100000)(i:Int)(k:Nat)(ty:TypeId):
  ∃ a n c w',(Builtin.append_ #[32,32] ty #[v,.slice (some ⟨w.heap.size,0,none⟩) 1 1]).run Tryz.prog (w.alloc (.cells #[.int .i64 i] 3))= .ok (.slice a n c) w'/\hat w' gr=some (.cells cs 34)/\
   hat (w'.setCell ⟨gr,k,none⟩ (.slice a n c)) gr=some (.cells (cs.setIfInBounds k (.slice a n c)) 34)/\(∃ o',Bg (w'.setCell ⟨gr,k,none⟩ (.slice a n c)) (.slice a n c) o' (xs++[i])/\Fa B o')/\Lo ex B ws (w'.setCell ⟨gr,k,none⟩ (.slice a n c))/\
   (∀ b cs t f,b≠gr->t≠3->hat w b=some (.cells cs t f)->hat (w'.setCell ⟨gr,k,none⟩ (.slice a n c)) b=some (.cells cs t f)):=by
 obtain⟨v',w',h1,⟨o',h2,h3,h4⟩,h5,h6⟩:=Kc hq ho (Below.refl B w) hB hn i ty;obtain⟨a,n,c,rfl⟩:=h2.sl;have key:∀ b cs t f,t≠3->hat w b=some (.cells cs t f)->hat w' b=some (.cells cs t f):=fun b cs t f ht hb=>by
  refine(h6.block b (Aa hb) (fun hm=>?_)).trans hb;have hob:o=some b:=(by simpa using hm);rcases hq with ⟨-,e,-⟩|⟨g,off,cc,cs',-,e,h7,-⟩
  ·rw[e]at hob;cases hob
  ·rw[e]at hob;injection hob with hob
   subst hob;rw[hb]at h7;injection h7 with h8
   injection h8 with h9 h10
   exact ht h10
 have hg':=key gr cs _ _ (by decide) hgr;refine⟨a,n,c,w',h1,hg',Ah _ _ _ _ _ _ _ hg',⟨o',h2.fr (Ai w' gr k _) (fun q hq' hm=>?_),h3⟩,(hL.trans (Lo.of h5)).trans ⟨rfl,rfl,rfl,(Ai w' gr k _).size,fun b hb hn=>(Ai w' gr k _).block b ?_ (by simp;exact fun e=>hn (e▸hex))⟩,fun b cs t f hne ht hb=>(Fh w' ⟨gr,k,none⟩ _ b hne).trans (key b cs t f ht hb)⟩
 ·simp at hm;subst hm;rcases h2 with ⟨-,e,-⟩|⟨g,off,cc,cs',-,e,h7,-⟩
  ·rw[e]at hq';cases hq'
  ·rw[e]at hq';injection hq' with hq'
   subst hq';rw[hg']at h7;injection h7 with h8
   injection h8 with h9 h10
   exact absurd h10 (by decide)
 ·have:=h5.size;omega
theorem Lo.weak{ex ex':List Nat}{B B':Nat}{a b:World}(h:Lo ex B a b)(hs:∀ k∈ex,k∈ex')(hB:B'<=B):Lo ex' B' a b:=⟨h.os,h.tape,h.output,h.size,fun k hk hn=>h.block k (by omega) (fun hm=>hn (hs k hm))⟩
section
variable {E:A3} {o:Option Nat} {l:List Int} {W I:Nat->List Int} {cl tk:Int->Bool} {en:Nat->Int}
theorem Zn(hE:ROk E)(hT:∀ i:Nat,1<=i->i<E.M->tk i=true->Wa E.N W (I i)/\∀ q∈P9 W (I i),0<=q/\q<E.N)(w:World)(h:RG E w o l W cl tk I en):
  Calls Tryz.prog 69 #[.pointer (some ⟨E.g,0,none⟩)] w fun e w'=>∃ v1 v2 v3 o1 o2 o3,e= .returned (.agg #[.slice (some ⟨E.gw,0,none⟩) E.N E.cw,v1,v2,v3])/\Bg w' v1 o1 (wrT E.N E.Y W E.A (Dn W I tk E.M) 3)/\Bg w' v2 o2 (C6 E.M (Nq tk))/\Bg w' v3 o3 (C6 E.N cl)/\Below w.heap.size w w'/\Fa w.heap.size o1/\Fa w.heap.size o2/\Fa w.heap.size o3:=by
 obtain⟨v,hl,-⟩:=h.l;have hll:=Aa hl;have HT:=zA hT;have hB1:Below w.heap.size w (w.alloc (.cells #[.slice none 0 0,.slice none 0 0,.slice none 0 0,.slice none 0 0] 34)):=(Below.refl _ _).alloc (Nat.le_refl _) _;have hl1:=(hop hB1 hl).1;have hg0:=(A6 w (.cells #[.slice none 0 0,.slice none 0 0,.slice none 0 0,.slice none 0 0] 34)).1;have HB1:=zA hB1;have HG0:=zA h;clear hB1 hl hll hT h;go_enter Tryz.func69,Tryz.ntmps69;go_upto_region 1 with fail;generalize w.alloc (.cells #[.slice none 0 0,.slice none 0 0,.slice none 0 0,.slice none 0 0] 34)=w1 at*;have hl1l:=Aa hl1;have hg0l:=Aa hg0;have HW0:Hid (w.heap.size<w1.heap.size/\(∀ b∈E.bs,b<w.heap.size)/\∀ q,o=some q->q<w.heap.size):=zA ⟨hg0l,HG0.out.lts,HG0.out.lto⟩;have hg2:=(A6 w1 (.cells #[.slice (some ⟨E.gw,0,none⟩) E.N E.cw,.slice none 0 0,.slice none 0 0,.slice none 0 0] 34)).1;have hB2:Below w1.heap.size w1 (w1.alloc (.cells #[.slice (some ⟨E.gw,0,none⟩) E.N E.cw,.slice none 0 0,.slice none 0 0,.slice none 0 0] 34)):=(Below.refl _ _).alloc (Nat.le_refl _) _;obtain⟨w3,hr3,hn3,hb3⟩:=Nr (w1.alloc (.cells #[.slice (some ⟨E.gw,0,none⟩) E.N E.cw,.slice none 0 0,.slice none 0 0,.slice none 0 0] 34)) E.N (by have:=hE.N;omega);have hz2:(w1.alloc (.cells #[.slice (some ⟨E.gw,0,none⟩) E.N E.cw,.slice none 0 0,.slice none 0 0,.slice none 0 0] 34)).heap.size=w1.heap.size+1:=World.size_alloc _ _;rw[hz2]at hr3 hn3;have hB3:=Ad hB2 hb3 hB2.size;have HB3:=zA (Ad HB1.out hB3 HB1.out.size);have hg2w:=(hop hb3 hg2).1;have hl2:=(hop hB2 hl1).1;have hl3:=(hop hB3 hl1).1;have hg03:=(hop hB3 hg0).1;have hl2l:=Aa hl2;have HZ:Hid (w1.heap.size<w3.heap.size/\w1.heap.size+1<w3.heap.size/\w1.heap.size≠w1.heap.size+1):=zA ⟨Aa hg2w,hn3.lt,by omega⟩;have HBO:=zA hn3;clear hn3 hb3 hB2 hB3;go_upto_region 2 with fail;clear hl1 hl1l hg0 hg0l hg2;try rw[hz2]
 go_upto_region 3 with fail;clear hr3 hz2 hl2 hl2l;generalize hgr:w1.heap.size=gr at*;generalize hgf:gr+1=gf at*;have HGF:Hid (gr≠gf/\gr<w3.heap.size/\gf<w3.heap.size/\w.heap.size<gr/\w.heap.size<gf):=zA (by have:=HZ.out;have:=HW0.out.1;omega);clear hgf HZ hgr;have HG3:=zA (HG0.out.below HB3.out);have HRG:Hid (∀ Wo,Lo [gr,gf] w3.heap.size w3 Wo->RG E Wo o l W cl tk I en):=zA (fun Wo hL=>HG3.out.fr (hL.to (Nat.le_refl _)) (fun b hb=>by have:=HW0.out.2.1 b hb;have:=HGF.out;simp;omega) (fun q hq=>by have:=HW0.out.2.2 q hq;have:=HGF.out;simp;omega));have hMY:(E.M:Int)=E.Y+1:=hE.M;have hN9:=hE.N;have hYN:=hE.YN;go_wp2_with fail;go_loopw [5] (fun kv wr=>∃ (k:Nat) (v2:Value) (o2:Option Nat),kv= .int .i64 k/\1<=k/\k<=E.M/\Hid (hat wr gr=some (.cells #[.slice (some ⟨E.gw,0,none⟩) E.N E.cw,.slice none 0 0,v2,.slice none 0 0] 34))/\Hid (Bg wr v2 o2 (C6 k (Nq tk)))/\Hid (Fa w3.heap.size o2)/\Hid (Lo [gr,gf] w3.heap.size w3 wr)/\Hid (Et wr gf E.N (Dn W I tk k))) (fun v _=>E.M+1-(intOf v).toNat)
 case atStart=>exact⟨1,.slice none 0 0,none,rfl,by omega,by have:=hE.Y1;omega,zA hg2w,zA (by rw[lO];exact .inl ⟨rfl,rfl,rfl⟩),zA (fun g hg=>by cases hg),zA (Lo.refl _ _ _),zA (by rw[aX];exact HBO.out)⟩
 case round=>
  obtain⟨k,v2,o2,rfl,hk1,hkM,HGR,HQ,HO,HL,HB⟩:=hrel;obtain⟨a2,n2,c2,e2⟩:=HQ.out.sl;subst e2;have hgrr:=HGR.out;have hgrrl:=Aa hgrr;have HGr:=zA (HRG.out wr HL.out);obtain⟨vr,hlr,-⟩:=HGr.out.l;have hlrl:=Aa hlr;have hk0:(0:Int)<=(k:Int):=Int.natCast_nonneg _;by_cases hkM2:k<E.M
  ·have hkY:(k:Int)<=E.Y:=(by omega);have hki:(k:Int)<(E.M:Int):=(by omega);obtain⟨cst,hct,-,hallt⟩:=HGr.out.t;have hctk:=hallt k hkM2;have hctl:=Aa hct;clear hallt;cases htk:tk (k:Int)with
   |false=>
    rw[htk]at hctk;have HQ2:Hid (Bg wr (.slice a2 n2 c2) o2 (C6 (k+1) (Nq tk))):=zA (by rw[Vj hk1,if_neg (by rw[htk];simp),List.append_nil];exact HQ.out);have HB2:Hid (Et wr gf E.N (Dn W I tk (k+1))):=zA (by rw[gI htk];exact HB.out);clear htk;go_wp2_with fail;go_roundw
    case rel=>first|exact⟨k+1,.slice a2 n2 c2,o2,by go_num,by omega,by omega,HGR,HQ2,HO,HL,HB2⟩|((repeat apply Exists.intro);exact⟨⟨k+1,.slice a2 n2 c2,o2,by go_num,by omega,by omega,HGR,HQ2,HO,HL,HB2⟩,rfl⟩)
    case measure=>(show E.M+1-(k+1)<E.M+1-k);omega
   |true=>
    rw[htk]at hctk;have HTK:=zA htk;obtain⟨hAk,htos⟩:=HT.out k hk1 hkM2 htk;have HA:=zA hAk;have HTOS:=zA htos;obtain⟨an,nn,cn,w4,hrun,hg4,hg5,⟨o4,hq4,ho4⟩,hL4,hty⟩:=Th (gr:=gr) hgrr HQ.out HO.out HL.out (by simp) (by have:=HL.out.size;omega) (by have:=Yy k (Nq tk);omega) (k:Int) 2 32;have HQ4:Hid (Bg (w4.setCell ⟨gr,2,none⟩ (.slice an nn cn)) (.slice an nn cn) o4 (C6 (k+1) (Nq tk))):=zA (by rw[Vj hk1,if_pos htk];exact hq4);have HO4:=zA ho4;have HL4:=zA hL4;have HGR4:Hid (hat (w4.setCell ⟨gr,2,none⟩ (.slice an nn cn)) gr=some (.cells #[.slice (some ⟨E.gw,0,none⟩) E.N E.cw,.slice none 0 0,.slice an nn cn,.slice none 0 0] 34)):=zA hg5
    have HB4:Hid (Et (w4.setCell ⟨gr,2,none⟩ (.slice an nn cn)) gf E.N (Dn W I tk k)):=zA (by
     obtain⟨cs,b1,b2⟩:=HB.out;exact⟨cs,hty gf cs _ _ HGF.out.1.symm (by decide) b1,b2⟩)
    have hg4l:=Aa hg4;clear htk hAk htos hg5 hq4 ho4 hL4 hty HQ HO HL HGR HB HGr;go_upto_region 8 with (at_builtin;refine Ao _ rfl (.tmp 45) (.tmp 47) 32 rfl _ _ rfl rfl _ _ hrun ?_)
    clear hrun hg4 hg4l hct hctk hctl hlr hlrl hgrr hgrrl;generalize w4.setCell ⟨gr,2,none⟩ (.slice an nn cn)=w5 at*;have HG5:=zA (HRG.out w5 HL4.out);obtain⟨v5,hl5,-⟩:=HG5.out.l;have hl5l:=Aa hl5;obtain⟨csn,hcn,hr18,hldn,-⟩:=HG5.out.n.load hkM2;have hcnl:=Aa hcn;obtain⟨raw,hraw⟩:∃ r,I k=r:=⟨_,rfl⟩;rw[hraw]at HA HTOS hldn hr18;have HRAW:=zA hraw;obtain⟨tl,htl⟩:∃ t,Jp W raw=t:=⟨_,rfl⟩;have htll:tl.length<=40:=(by rw[<-htl];exact jQ W raw);have HTL:=zA htl;have HWS:=zA HG5.out.s;have hIk0:csn[k*18]? =some (.int .i64 (nth raw 0)):=(by have:=Pm HG5.out.n hcn hkM2 0 (by omega);rw[hraw]at this;exact this);clear hraw htl;refine Im (by kernel_rfl) 15 (by decide) rfl (fun W=>Below w5.heap.size w5 W) (fun W W'=>Below W.heap.size W W') (fun i' v W=>match i' with|0=>v=(.pointer (some ⟨E.g,0,none⟩))|1=>v=(Mb E.gw E.N E.cw)|2=>v=(.pointer (some ⟨E.g,0,none⟩))|3=>v=(.pointer (some ⟨E.g,0,none⟩))|4=>v=(.pointer (some ⟨E.g,6,none⟩))|5=>v=(.slice (some ⟨E.gn,0,none⟩) E.M E.cn)|6=>v=(.int .i64 (k:Int))|7=>v=(.pointer (some ⟨E.gn,k*18,none⟩))|8=>v=(.agg (IV .i64 raw))|9=>∃ v0 o0,v= .tuple #[v0,.int .i64 0]/\Bg W v0 o0 tl/\Fa w5.heap.size o0|10=>∃ v0 o0,v= .tuple #[v0,.int .i64 0]/\Bg W v0 o0 tl/\Fa w5.heap.size o0|11=>∃ o0,Bg W v o0 tl/\Fa w5.heap.size o0|12=>v=(.int .i64 0)|13=>∃ o0,Bg W v o0 tl/\Fa w5.heap.size o0|_=>v=(.int .i64 0)) ((Below.refl _ _).drew) ?_ ?_ ?_
    ·intro i' v wa wb hi _ _ hE5 hG;have hi':i'=0\/i'=1\/i'=2\/i'=3\/i'=4\/i'=5\/i'=6\/i'=7\/i'=8\/i'=9\/i'=10\/i'=11\/i'=12\/i'=13\/i'=14:=(by omega);rcases hi' with rfl|rfl|rfl|rfl|rfl|rfl|rfl|rfl|rfl|rfl|rfl|rfl|rfl|rfl|rfl<;>try exact hG
     ·obtain⟨v0,o0,h1,h2,h3⟩:=hG;exact⟨v0,o0,h1,h2.fr (Af hE5 []) (by simp),h3⟩
     ·obtain⟨v0,o0,h1,h2,h3⟩:=hG;exact⟨v0,o0,h1,h2.fr (Af hE5 []) (by simp),h3⟩
     ·obtain⟨o0,h2,h3⟩:=hG;exact⟨o0,h2.fr (Af hE5 []) (by simp),h3⟩
     ·obtain⟨o0,h2,h3⟩:=hG;exact⟨o0,h2.fr (Af hE5 []) (by simp),h3⟩
    ·intro i' o hi ho a' w' hB hS hF;have hi':i'=0\/i'=1\/i'=2\/i'=3\/i'=4\/i'=5\/i'=6\/i'=7\/i'=8\/i'=9\/i'=10\/i'=11\/i'=12\/i'=13\/i'=14:=(by omega);have hl5:=(hop hB hl5).1;have hcn:=(hop hB hcn).1;rcases hi' with rfl|rfl|rfl|rfl|rfl|rfl|rfl|rfl|rfl|rfl|rfl|rfl|rfl|rfl|rfl
     all_goals (have ho':=Option.some.inj ho;subst ho')
     ·have q0:a'.tmps[0]?.getD undef=(.pointer (some ⟨E.g,0,none⟩)):=gtx ((hS 0 (by decide)).trans rfl);refine Ae rfl rfl (v:=(.pointer (some ⟨E.g,0,none⟩))) (w1:=w') ?_ ⟨_,rfl,hB,Below.refl _ _,rfl⟩;simp[go_sem,q0]
     ·have q51:a'.tmps[51]?.getD undef=(.pointer (some ⟨E.g,0,none⟩)):=gtx ((hF 0 (by decide) _ 51 rfl rfl).trans rfl);refine Bn (f:=100) (args:= #[.pointer (some ⟨E.g,0,none⟩)]) rfl rfl (by simp[go_sem,q51]) (Jm w' (HG5.out.below hB)) ?_;rintro e w'' ⟨rfl,hb'⟩;exact⟨_,rfl,_,rfl,Ad hB hb' hB.size,hb',rfl⟩
     ·have q0:a'.tmps[0]?.getD undef=(.pointer (some ⟨E.g,0,none⟩)):=gtx ((hS 0 (by decide)).trans rfl);refine Ae rfl rfl (v:=(.pointer (some ⟨E.g,0,none⟩))) (w1:=w') ?_ ⟨_,rfl,hB,Below.refl _ _,rfl⟩;simp[go_sem,q0]
     ·have q53:a'.tmps[53]?.getD undef=(.pointer (some ⟨E.g,0,none⟩)):=gtx ((hF 2 (by decide) _ 53 rfl rfl).trans rfl);refine Ae rfl rfl (v:=(.pointer (some ⟨E.g,0,none⟩))) (w1:=w') ?_ ⟨_,rfl,hB,Below.refl _ _,rfl⟩;simp[go_sem,q53]
     ·have q54:a'.tmps[54]?.getD undef=(.pointer (some ⟨E.g,0,none⟩)):=gtx ((hF 3 (by decide) _ 54 rfl rfl).trans rfl);refine Ae rfl rfl (v:=(.pointer (some ⟨E.g,6,none⟩))) (w1:=w') ?_ ⟨_,rfl,hB,Below.refl _ _,rfl⟩;simp[go_sem,q54]
     ·have q55:a'.tmps[55]?.getD undef=(.pointer (some ⟨E.g,6,none⟩)):=gtx ((hF 4 (by decide) _ 55 rfl rfl).trans rfl);refine Ae rfl rfl (v:=(.slice (some ⟨E.gn,0,none⟩) E.M E.cn)) (w1:=w') ?_ ⟨_,rfl,hB,Below.refl _ _,rfl⟩;simp[go_sem,q55,hl5]
     ·have q5:a'.tmps[5]?.getD undef=(.int .i64 (k:Int)):=gtx ((hS 5 (by decide)).trans rfl);refine Ae rfl rfl (v:=(.int .i64 (k:Int))) (w1:=w') ?_ ⟨_,rfl,hB,Below.refl _ _,rfl⟩;simp[go_sem,q5]
     ·have q56:a'.tmps[56]?.getD undef=(.slice (some ⟨E.gn,0,none⟩) E.M E.cn):=gtx ((hF 5 (by decide) _ 56 rfl rfl).trans rfl);have q57:a'.tmps[57]?.getD undef=(.int .i64 (k:Int)):=gtx ((hF 6 (by decide) _ 57 rfl rfl).trans rfl);refine Ae rfl rfl (v:=(.pointer (some ⟨E.gn,k*18,none⟩))) (w1:=w') ?_ ⟨_,rfl,hB,Below.refl _ _,rfl⟩;simp[go_sem,q56,q57,hk0,hki,hkM2]
     ·have q58:a'.tmps[58]?.getD undef=(.pointer (some ⟨E.gn,k*18,none⟩)):=gtx ((hF 7 (by decide) _ 58 rfl rfl).trans rfl);refine Ae rfl rfl (v:=(.agg (IV .i64 raw))) (w1:=w') ?_ ⟨_,rfl,hB,Below.refl _ _,rfl⟩;simp[go_sem,q58,hcn,hldn]
     ·have q52:a'.tmps[52]?.getD undef=(Mb E.gw E.N E.cw):=gtx ((hF 1 (by decide) _ 52 rfl rfl).trans rfl);have q59:a'.tmps[59]?.getD undef=(.agg (IV .i64 raw)):=gtx ((hF 8 (by decide) _ 59 rfl rfl).trans rfl);refine Bn (f:=103) (args:= #[Mb E.gw E.N E.cw,.agg (IV .i64 raw)]) rfl rfl (by simp[go_sem,q52,q59]) (Zp HA.out w' (HG5.out.below hB).s) ?_;rintro e w'' ⟨v0,o0,rfl,hq0,ho0,hb'⟩;exact⟨_,rfl,_,rfl,Ad hB hb' hB.size,hb',v0,o0,rfl,by rw[HTL.out]at hq0;exact hq0,fun g hg=>Nat.le_trans hB.size (ho0 g hg)⟩
     ·obtain⟨v0,o0,h1,h2,h3⟩:=hF 9 (by decide) _ 60 rfl rfl;have q:=gtx h1;refine Ae rfl rfl (v:= .tuple #[v0,.int .i64 0]) (w1:=w') ?_ ⟨_,rfl,hB,Below.refl _ _,v0,o0,rfl,h2,h3⟩;simp[go_sem,q]
     ·obtain⟨v0,o0,h1,h2,h3⟩:=hF 10 (by decide) _ 50 rfl rfl;have q:=gtx h1;refine Ae rfl rfl (v:=v0) (w1:=w') ?_ ⟨_,rfl,hB,Below.refl _ _,o0,h2,h3⟩;simp[go_sem,q]
     ·obtain⟨v0,o0,h1,h2,h3⟩:=hF 10 (by decide) _ 50 rfl rfl;have q:=gtx h1;refine Ae rfl rfl (v:= .int .i64 0) (w1:=w') ?_ ⟨_,rfl,hB,Below.refl _ _,rfl⟩;simp[go_sem,q]
     ·have h0:=hF 11 (by decide) _ 61 rfl rfl;obtain⟨o0,h2,h3⟩:=h0;obtain⟨xa,xn,xc,es⟩:∃ a n c,gt a' 61= .slice a n c:=by first|exact h2.sl|(obtain⟨a,c,e⟩:=h2.sl;exact⟨a,_,c,e⟩)
      have q:=gtx es;rw[es]at h2;refine Ae rfl rfl (v:= .slice xa xn xc) (w1:=w') ?_ ⟨_,rfl,hB,Below.refl _ _,o0,h2,h3⟩;simp[go_sem,q]
     ·have q62:a'.tmps[62]?.getD undef=(.int .i64 0):=gtx ((hF 12 (by decide) _ 62 rfl rfl).trans rfl);refine Ae rfl rfl (v:=(.int .i64 0)) (w1:=w') ?_ ⟨_,rfl,hB,Below.refl _ _,rfl⟩;simp[go_sem,q62]
    intro val w6 hB6 hF;have y0:=hF 0 _ 51 (by decide) rfl rfl;have y1:=hF 1 _ 52 (by decide) rfl rfl;have y2:=hF 2 _ 53 (by decide) rfl rfl;have y3:=hF 3 _ 54 (by decide) rfl rfl;have y4:=hF 4 _ 55 (by decide) rfl rfl;have y5:=hF 5 _ 56 (by decide) rfl rfl;have y6:=hF 6 _ 57 (by decide) rfl rfl;have y7:=hF 7 _ 58 (by decide) rfl rfl;have y8:=hF 8 _ 59 (by decide) rfl rfl;obtain⟨tba,-,y9,-⟩:=hF 9 _ 60 (by decide) rfl rfl;obtain⟨tbb,-,y10,-⟩:=hF 10 _ 50 (by decide) rfl rfl;have y12:=hF 12 _ 62 (by decide) rfl rfl;obtain⟨otb,htb,hotb⟩:=hF 13 _ 6 (by decide) rfl rfl;have y14:=hF 14 _ 7 (by decide) rfl rfl;simp only[]at y0 y1 y2 y3 y4 y5 y6 y7 y8 y12 y14;simp only[Bi,List.take,List.drop,List.take_succ_cons,List.drop_succ_cons,y0,y1,y2,y3,y4,y5,y6,y7,y8,y12,y14,y9,y10,Act.put,List.setIfInBounds_toArray,List.set_cons_zero,List.set_cons_succ];clear y0 y1 y2 y3 y4 y5 y6 y7 y8 y12 y14 y9 y10 hF;have HKEEP:Hid (∀ Wo,Fr [gf] w5 Wo->hat Wo gr=some (.cells #[.slice (some ⟨E.gw,0,none⟩) E.N E.cw,.slice none 0 0,.slice an nn cn,.slice none 0 0] 34)/\Bg Wo (.slice an nn cn) o4 (C6 (k+1) (Nq tk))/\Lo [gr,gf] w3.heap.size w3 Wo):=zA (fun Wo hF=>⟨(hF.block gr (Aa HGR4.out) (by simpa using HGF.out.1)).trans HGR4.out,HQ4.out.fr hF (fun q hq=>by have:=HO4.out q hq;have:=HGF.out;simp;omega),HL4.out.trans ⟨hF.os,hF.tape,hF.output,hF.size,fun b hb hn=>hF.block b (by have:=HL4.out.size;omega) (fun hm=>hn (by simp at hm;simp[hm]))⟩⟩);generalize val 13=v6 at*;have HF6:Hid (Fr [gf] w5 w6):=zA (Af hB6 _);have HB6:=zA (HB4.out.same (A7 hB6 HB4.out.lt));have HQT:=zA htb;have HOT:Hid (∀ q,otb=some q->q≠gf):=zA (fun q hq e=>by have:=hotb q hq;have:=HB4.out.lt;omega);obtain⟨a6,c6,e6⟩:=htb.slice;subst e6;clear hB6 htb hotb hl5 hl5l hcn hcnl hldn hIk0 HG5 HB4 HWS HGR4 HQ4 HL4;obtain⟨f0,hf0⟩:∃ f,Dn W I tk k=f:=⟨_,rfl⟩;have HFK:Hid (Dn W I tk (k+1)=I5 f0 (P9 W raw)):=zA (by rw[Sa hk1 HTK.out,hf0,HRAW.out]);rw[hf0]at HB6;clear hf0;have HTE:Hid (P9 W raw=tl++if nth raw 0=2 then eN W raw else []):=zA (by rw[<-HTL.out];rfl);have HTB:Hid (∀ q∈tl,0<=q/\q<E.N):=zA (fun q hq=>HTOS.out q (by rw[HTE.out];exact List.mem_append_left _ hq));go_wp2_with fail;go_loopw [8] (fun jv wr2=>∃ j:Nat,jv= .int .i64 j/\j<=tl.length/\Hid (Fr [gf] w6 wr2)/\Hid (Et wr2 gf E.N (I5 f0 (tl.take j)))) (fun v _=>tl.length+1-(intOf v).toNat)
    case atStart=>exact⟨0,rfl,by omega,zA (Fr.refl _ _),zA (by rw[List.take_zero,Xy];exact HB6.out)⟩
    case round=>
     obtain⟨j,rfl,hj,HFj,HBj⟩:=hrel;have hj0:(0:Int)<=(j:Int):=Int.natCast_nonneg _;by_cases hjl:j<tl.length
     ·have hji:(j:Int)<(tl.length:Int):=(by omega);obtain⟨gq,offq,cq,csq,eq,hoq,hcq,hcell⟩:=(HQT.out.fr HFj.out (fun q hq=>by simpa using HOT.out q hq)).cell hjl;injection eq with ea eb ec
      subst ea;subst ec;obtain⟨q,hq⟩:∃ q,nth tl j=q:=⟨_,rfl⟩;rw[hq]at hcell;have hqm:tl[j]? =some q:=(by rw[An hjl,hq]);have hqb:=HTB.out q (List.mem_of_getElem? hqm);obtain⟨qn,rfl⟩:=Int.eq_ofNat_of_zero_le hqb.1;have hqN:qn<E.N:=(by omega);have hqi:(qn:Int)<(E.N:Int):=hqb.2;have hqq:(0:Int)<=(qn:Int):=Int.natCast_nonneg _;have hcql:=Aa hcq;obtain⟨csB,hBc,hBz,hBall⟩:=HBj.out;have hBq:=hBall qn hqN;have hBcl:=Aa hBc;have HB2:=zA (HBj.out.put hqN);rw[<-U4 f0 hqm]at HB2;have HF2:=zA (HFj.out.trans (Ai wr gf qn (.bool true)));generalize I5 f0 (tl.take j) (qn:Int)=old at*;clear hBall hq hqm hqb eb;go_wp2_with fail;go_roundw
      case rel=>first|exact⟨j+1,by go_num,by omega,HF2,HB2⟩|((repeat apply Exists.intro);exact⟨⟨j+1,by go_num,by omega,HF2,HB2⟩,rfl⟩)
      case measure=>(show tl.length+1-(j+1)<tl.length+1-j);omega
     ·have hji:¬ (j:Int)<(tl.length:Int):=(by omega);obtain rfl:j=tl.length:=(by omega);rw[List.take_length]at HBj;obtain⟨w7,hw7⟩:∃ x,x=wr:=⟨_,rfl⟩;subst hw7;have HF7:=zA (HF6.out.trans HFj.out);obtain⟨hgr7,-,hL7⟩:=HKEEP.out w7 HF7.out;have HG5:=zA (HRG.out w7 hL7);obtain⟨v5,hl5,-⟩:=HG5.out.l;have hl5l:=Aa hl5;obtain⟨csn,hcn,hr18,hldn,-⟩:=HG5.out.n.load hkM2;have hcnl:=Aa hcn;have hIk0:csn[k*18]? =some (.int .i64 (nth raw 0)):=(by have:=Pm HG5.out.n hcn hkM2 0 (by omega);rw[HRAW.out]at this;exact this);rw[HRAW.out]at hldn hr18;clear hgr7 hL7 HQT HOT HTB HFj;go_upto_region 13 with fail;by_cases hkd:nth raw 0=2
      ·have d2:(nth raw 0==2)=true:=(by simpa using hkd);obtain⟨sl,hsl⟩:∃ s,spF (D6 W raw) 0 1068=s:=⟨_,rfl⟩;have HSL:=zA hsl;have hsll:sl.length<=1068:=(by rw[<-hsl];exact Il _ _ _);have HTE2:Hid (P9 W raw=tl++sl.map Prod.snd):=zA (by rw[HTE.out,if_pos hkd, <-hsl];rfl);have HSB:Hid (∀ sp∈sl,0<=sp.2/\sp.2<E.N):=zA (fun sp hq=>HTOS.out sp.2 (by rw[HTE2.out];exact List.mem_append_right _ (List.mem_map.2 ⟨sp,hq,rfl⟩)));clear hsl hkd;go_upto_region 14 with fail;refine Im (by kernel_rfl) 15 (by decide) rfl (fun W=>Below w7.heap.size w7 W) (fun W W'=>Below W.heap.size W W') (fun i' v W=>match i' with|0=>v=(.pointer (some ⟨E.g,0,none⟩))|1=>v=(Mb E.gw E.N E.cw)|2=>v=(.pointer (some ⟨E.g,0,none⟩))|3=>v=(.pointer (some ⟨E.g,0,none⟩))|4=>v=(.pointer (some ⟨E.g,6,none⟩))|5=>v=(.slice (some ⟨E.gn,0,none⟩) E.M E.cn)|6=>v=(.int .i64 (k:Int))|7=>v=(.pointer (some ⟨E.gn,k*18,none⟩))|8=>v=(.agg (IV .i64 raw))|9=>∃ v0,v= .tuple #[v0,.int .i64 0]/\Dm W w7.heap.size v0 sl|10=>∃ v0,v= .tuple #[v0,.int .i64 0]/\Dm W w7.heap.size v0 sl|11=>Dm W w7.heap.size v sl|12=>v=(.int .i64 0)|13=>Dm W w7.heap.size v sl|_=>v=(.int .i64 0)) ((Below.refl _ _).drew) ?_ ?_ ?_
       ·intro i' v wa wb hi _ _ hE5 hG;have hi':i'=0\/i'=1\/i'=2\/i'=3\/i'=4\/i'=5\/i'=6\/i'=7\/i'=8\/i'=9\/i'=10\/i'=11\/i'=12\/i'=13\/i'=14:=(by omega);rcases hi' with rfl|rfl|rfl|rfl|rfl|rfl|rfl|rfl|rfl|rfl|rfl|rfl|rfl|rfl|rfl<;>try exact hG
        ·obtain⟨v0,h1,h2⟩:=hG;exact⟨v0,h1,h2.below hE5⟩
        ·obtain⟨v0,h1,h2⟩:=hG;exact⟨v0,h1,h2.below hE5⟩
        ·exact Dm.below hG hE5
        ·exact Dm.below hG hE5
       ·intro i' o hi ho a' w' hB hS hF;have hi':i'=0\/i'=1\/i'=2\/i'=3\/i'=4\/i'=5\/i'=6\/i'=7\/i'=8\/i'=9\/i'=10\/i'=11\/i'=12\/i'=13\/i'=14:=(by omega);have hl5:=(hop hB hl5).1;have hcn:=(hop hB hcn).1;rcases hi' with rfl|rfl|rfl|rfl|rfl|rfl|rfl|rfl|rfl|rfl|rfl|rfl|rfl|rfl|rfl
        all_goals (have ho':=Option.some.inj ho;subst ho')
        ·have q0:a'.tmps[0]?.getD undef=(.pointer (some ⟨E.g,0,none⟩)):=gtx ((hS 0 (by decide)).trans rfl);refine Ae rfl rfl (v:=(.pointer (some ⟨E.g,0,none⟩))) (w1:=w') ?_ ⟨_,rfl,hB,Below.refl _ _,rfl⟩;simp[go_sem,q0]
        ·have q85:a'.tmps[85]?.getD undef=(.pointer (some ⟨E.g,0,none⟩)):=gtx ((hF 0 (by decide) _ 85 rfl rfl).trans rfl);refine Bn (f:=100) (args:= #[.pointer (some ⟨E.g,0,none⟩)]) rfl rfl (by simp[go_sem,q85]) (Jm w' (HG5.out.below hB)) ?_;rintro e w'' ⟨rfl,hb'⟩;exact⟨_,rfl,_,rfl,Ad hB hb' hB.size,hb',rfl⟩
        ·have q0:a'.tmps[0]?.getD undef=(.pointer (some ⟨E.g,0,none⟩)):=gtx ((hS 0 (by decide)).trans rfl);refine Ae rfl rfl (v:=(.pointer (some ⟨E.g,0,none⟩))) (w1:=w') ?_ ⟨_,rfl,hB,Below.refl _ _,rfl⟩;simp[go_sem,q0]
        ·have q87:a'.tmps[87]?.getD undef=(.pointer (some ⟨E.g,0,none⟩)):=gtx ((hF 2 (by decide) _ 87 rfl rfl).trans rfl);refine Ae rfl rfl (v:=(.pointer (some ⟨E.g,0,none⟩))) (w1:=w') ?_ ⟨_,rfl,hB,Below.refl _ _,rfl⟩;simp[go_sem,q87]
        ·have q88:a'.tmps[88]?.getD undef=(.pointer (some ⟨E.g,0,none⟩)):=gtx ((hF 3 (by decide) _ 88 rfl rfl).trans rfl);refine Ae rfl rfl (v:=(.pointer (some ⟨E.g,6,none⟩))) (w1:=w') ?_ ⟨_,rfl,hB,Below.refl _ _,rfl⟩;simp[go_sem,q88]
        ·have q89:a'.tmps[89]?.getD undef=(.pointer (some ⟨E.g,6,none⟩)):=gtx ((hF 4 (by decide) _ 89 rfl rfl).trans rfl);refine Ae rfl rfl (v:=(.slice (some ⟨E.gn,0,none⟩) E.M E.cn)) (w1:=w') ?_ ⟨_,rfl,hB,Below.refl _ _,rfl⟩;simp[go_sem,q89,hl5]
        ·have q5:a'.tmps[5]?.getD undef=(.int .i64 (k:Int)):=gtx ((hS 5 (by decide)).trans rfl);refine Ae rfl rfl (v:=(.int .i64 (k:Int))) (w1:=w') ?_ ⟨_,rfl,hB,Below.refl _ _,rfl⟩;simp[go_sem,q5]
        ·have q90:a'.tmps[90]?.getD undef=(.slice (some ⟨E.gn,0,none⟩) E.M E.cn):=gtx ((hF 5 (by decide) _ 90 rfl rfl).trans rfl);have q91:a'.tmps[91]?.getD undef=(.int .i64 (k:Int)):=gtx ((hF 6 (by decide) _ 91 rfl rfl).trans rfl);refine Ae rfl rfl (v:=(.pointer (some ⟨E.gn,k*18,none⟩))) (w1:=w') ?_ ⟨_,rfl,hB,Below.refl _ _,rfl⟩;simp[go_sem,q90,q91,hk0,hki,hkM2]
        ·have q92:a'.tmps[92]?.getD undef=(.pointer (some ⟨E.gn,k*18,none⟩)):=gtx ((hF 7 (by decide) _ 92 rfl rfl).trans rfl);refine Ae rfl rfl (v:=(.agg (IV .i64 raw))) (w1:=w') ?_ ⟨_,rfl,hB,Below.refl _ _,rfl⟩;simp[go_sem,q92,hcn,hldn]
        ·have q86:a'.tmps[86]?.getD undef=(Mb E.gw E.N E.cw):=gtx ((hF 1 (by decide) _ 86 rfl rfl).trans rfl);have q93:a'.tmps[93]?.getD undef=(.agg (IV .i64 raw)):=gtx ((hF 8 (by decide) _ 93 rfl rfl).trans rfl);refine Bn (f:=101) (args:= #[Mb E.gw E.N E.cw,.agg (IV .i64 raw)]) rfl rfl (by simp[go_sem,q86,q93]) (Tz HA.out w' (HG5.out.below hB).s) ?_;rintro e w'' ⟨v0,rfl,hq0,hb'⟩;exact⟨_,rfl,_,rfl,Ad hB hb' hB.size,hb',v0,rfl,by rw[HSL.out]at hq0;exact hq0.base hB.size⟩
        ·obtain⟨v0,h1,h2⟩:=hF 9 (by decide) _ 94 rfl rfl;have q:=gtx h1;refine Ae rfl rfl (v:= .tuple #[v0,.int .i64 0]) (w1:=w') ?_ ⟨_,rfl,hB,Below.refl _ _,v0,rfl,h2⟩;simp[go_sem,q]
        ·obtain⟨v0,h1,h2⟩:=hF 10 (by decide) _ 84 rfl rfl;have q:=gtx h1;refine Ae rfl rfl (v:=v0) (w1:=w') ?_ ⟨_,rfl,hB,Below.refl _ _,h2⟩;simp[go_sem,q]
        ·obtain⟨v0,h1,h2⟩:=hF 10 (by decide) _ 84 rfl rfl;have q:=gtx h1;refine Ae rfl rfl (v:= .int .i64 0) (w1:=w') ?_ ⟨_,rfl,hB,Below.refl _ _,rfl⟩;simp[go_sem,q]
        ·have h0:=hF 11 (by decide) _ 95 rfl rfl;have h2:Dm _ _ _ _:=h0;obtain⟨xa,xn,xc,es⟩:∃ a n c,gt a' 95= .slice a n c:=by first|exact h2.sl|(obtain⟨a,c,e⟩:=h2.sl;exact⟨a,_,c,e⟩)
         have q:=gtx es;rw[es]at h2;refine Ae rfl rfl (v:= .slice xa xn xc) (w1:=w') ?_ ⟨_,rfl,hB,Below.refl _ _,h2⟩;simp[go_sem,q]
        ·have q96:a'.tmps[96]?.getD undef=(.int .i64 0):=gtx ((hF 12 (by decide) _ 96 rfl rfl).trans rfl);refine Ae rfl rfl (v:=(.int .i64 0)) (w1:=w') ?_ ⟨_,rfl,hB,Below.refl _ _,rfl⟩;simp[go_sem,q96]
       intro val w8 hB8 hF;have y0:=hF 0 _ 85 (by decide) rfl rfl;have y1:=hF 1 _ 86 (by decide) rfl rfl;have y2:=hF 2 _ 87 (by decide) rfl rfl;have y3:=hF 3 _ 88 (by decide) rfl rfl;have y4:=hF 4 _ 89 (by decide) rfl rfl;have y5:=hF 5 _ 90 (by decide) rfl rfl;have y6:=hF 6 _ 91 (by decide) rfl rfl;have y7:=hF 7 _ 92 (by decide) rfl rfl;have y8:=hF 8 _ 93 (by decide) rfl rfl;obtain⟨spa,y9,-⟩:=hF 9 _ 94 (by decide) rfl rfl;obtain⟨spb,y10,-⟩:=hF 10 _ 84 (by decide) rfl rfl;have y12:=hF 12 _ 96 (by decide) rfl rfl;obtain hsp:=hF 13 _ 9 (by decide) rfl rfl;have y14:=hF 14 _ 10 (by decide) rfl rfl;simp only[]at y0 y1 y2 y3 y4 y5 y6 y7 y8 y12 y14;simp only[Bi,List.take,List.drop,List.take_succ_cons,List.drop_succ_cons,y0,y1,y2,y3,y4,y5,y6,y7,y8,y12,y14,y9,y10,Act.put,List.setIfInBounds_toArray,List.set_cons_zero,List.set_cons_succ];clear y0 y1 y2 y3 y4 y5 y6 y7 y8 y12 y14 y9 y10 hF;generalize val 13=v8 at*;obtain⟨a8,c8,e8⟩:=Dm.sl hsp;subst e8;have HF8:=zA (HF7.out.trans (Af hB8 [gf]));have HBs:=zA (HBj.out.same (A7 hB8 HBj.out.lt));have HSR:=zA hsp;clear hB8 hsp hl5 hl5l hcn hcnl hldn hIk0 HG5 HBj;go_wp2_with fail;go_loopw [11] (fun jv wr2=>∃ j:Nat,jv= .int .i64 j/\j<=sl.length/\Hid (Fr [gf] w8 wr2)/\Hid (Et wr2 gf E.N (I5 (I5 f0 tl) ((sl.map Prod.snd).take j)))) (fun v _=>sl.length+1-(intOf v).toNat)
       case atStart=>exact⟨0,rfl,by omega,zA (Fr.refl _ _),zA (by rw[List.take_zero,Xy];exact HBs.out)⟩
       case round=>
        obtain⟨j,rfl,hj,HFj,HBj⟩:=hrel;have hj0:(0:Int)<=(j:Int):=Int.natCast_nonneg _;by_cases hjl:j<sl.length
        ·have hji:(j:Int)<(sl.length:Int):=(by omega);obtain⟨gs,cg,csS,es,-,hgs,hall⟩:=HSR.out.at (fun e=>by rw[e]at hjl;simp at hjl);injection es with ea eb ec
         subst ea;subst ec;obtain⟨⟨ix,q⟩,hspj⟩:=D8 (l:=sl) (k:=j) hjl;have hcS:=hall _ _ (Xo sl j ix q hspj).2;have hqm:(sl.map Prod.snd)[j]? =some q:=(by rw[List.getElem?_map,hspj];rfl);have hqb:=HSB.out _ (List.mem_of_getElem? hspj);obtain⟨qn,rfl⟩:=Int.eq_ofNat_of_zero_le hqb.1;have hqN:qn<E.N:=(by have:=hqb.2;simp at this;exact this);have hqi:(qn:Int)<(E.N:Int):=(by omega);have hqq:(0:Int)<=(qn:Int):=Int.natCast_nonneg _;obtain⟨csB,hBc,hBz,hBall⟩:=HBj.out
         have hgsr:hat wr gs=some (.cells csS 167):=(HFj.out.block gs (Aa hgs) (by
          simp only[List.mem_singleton];intro e;subst e;obtain⟨cs',hb',-⟩:=HBs.out;rw[hgs]at hb';injection hb' with h8
          injection h8 with h9 h10
          exact absurd h10 (by decide))).trans hgs
         have hgsl:=Aa hgsr;have hBq:=hBall qn hqN;have hBcl:=Aa hBc;have HB2:=zA (HBj.out.put hqN);rw[<-U4 _ hqm]at HB2;have HF2:=zA (HFj.out.trans (Ai wr gf qn (.bool true)));generalize I5 (I5 f0 tl) ((sl.map Prod.snd).take j) (qn:Int)=old at*;clear hBall hqm hqb eb hall hgs hspj;go_wp2_with fail;go_roundw
         case rel=>first|exact⟨j+1,by go_num,by omega,HF2,HB2⟩|((repeat apply Exists.intro);exact⟨⟨j+1,by go_num,by omega,HF2,HB2⟩,rfl⟩)
         case measure=>(show sl.length+1-(j+1)<sl.length+1-j);omega
        ·have hji:¬ (j:Int)<(sl.length:Int):=(by omega);obtain rfl:j=sl.length:=(by omega);rw[List.take_of_length_le (by simp),kG, <-HTE2.out, <-HFK.out]at HBj;obtain⟨hgr9,hq9,hL9⟩:=HKEEP.out wr (HF8.out.trans HFj.out);have HGR9:=zA hgr9;have HQ9:=zA hq9;have HL9:=zA hL9;clear hgr9 hq9 hL9;go_wp2_with fail;go_roundw
         case rel=>first|exact⟨k+1,.slice an nn cn,o4,by go_num,by omega,by omega,HGR9,HQ9,HO4,HL9,HBj⟩|((repeat apply Exists.intro);exact⟨⟨k+1,.slice an nn cn,o4,by go_num,by omega,by omega,HGR9,HQ9,HO4,HL9,HBj⟩,rfl⟩)
         case measure=>(show E.M+1-(k+1)<E.M+1-k);omega
      ·have d2:(nth raw 0==2)=false:=(by simpa using hkd);rw[show I5 f0 tl=Dn W I tk (k+1) by rw[HFK.out,HTE.out,if_neg hkd,List.append_nil]]at HBj;obtain⟨hgr9,hq9,hL9⟩:=HKEEP.out w7 HF7.out;have HGR9:=zA hgr9;have HQ9:=zA hq9;have HL9:=zA hL9;clear hgr9 hq9 hL9 hkd;go_wp2_with fail;go_roundw
       case rel=>first|exact⟨k+1,.slice an nn cn,o4,by go_num,by omega,by omega,HGR9,HQ9,HO4,HL9,HBj⟩|((repeat apply Exists.intro);exact⟨⟨k+1,.slice an nn cn,o4,by go_num,by omega,by omega,HGR9,HQ9,HO4,HL9,HBj⟩,rfl⟩)
       case measure=>(show E.M+1-(k+1)<E.M+1-k);omega
  ·obtain rfl:k=E.M:=(by omega);obtain⟨w5,hw5⟩:∃ x,x=wr:=⟨_,rfl⟩;subst hw5;obtain⟨F,hF⟩:∃ f,Dn W I tk E.M=f:=⟨_,rfl⟩;rw[hF]at HB;have HFF:=zA hF;have HO2:Hid (∀ q,o2=some q->q<w5.heap.size):=zA HQ.out.lt;have HRG5:Hid (∀ Wo,Lo [gr] w5.heap.size w5 Wo->RG E Wo o l W cl tk I en/\Bg Wo (.slice a2 n2 c2) o2 (C6 E.M (Nq tk))/\Et Wo gf E.N F/\Below w.heap.size w Wo):=zA (fun Wo hLo=>by
    have hgr:gr∉o2.toList:=by
     intro hm;have:=HO.out gr (by simpa using hm);have:=HGF.out;omega
    have hf:=hLo.to (Nat.le_refl _);refine⟨HRG.out Wo (HL.out.trans (hLo.weak (by simp) HL.out.size)),HQ.out.fr hf (fun q hq hm=>by simp at hm;subst hm;exact hgr (by simpa using hq)),HB.out.same (hf.block gf HB.out.lt (by simpa using HGF.out.1.symm)),HB3.out.trans ?_⟩;have hl:=HL.out.trans (hLo.weak (ex':=[gr,gf]) (by simp) HL.out.size);exact⟨hl.os,hl.tape,hl.output,hl.size,fun b hb=>hl.block b (by have:=HGF.out;omega) (by have:=HGF.out;simp;omega)⟩)
   have hMY2:¬ (E.M:Int)<=E.Y:=(by omega);clear hF HBO HB3 HG3 hMY;go_wp2_with fail;go_loopw [12] (fun kv wr2=>∃ (k:Nat) (v3:Value) (o3:Option Nat),kv= .int .i64 k/\k<=E.N/\Hid (hat wr2 gr=some (.cells #[.slice (some ⟨E.gw,0,none⟩) E.N E.cw,.slice none 0 0,.slice a2 n2 c2,v3] 34))/\Hid (Bg wr2 v3 o3 (C6 k cl))/\Hid (Fa w5.heap.size o3)/\Hid (Lo [gr] w5.heap.size w5 wr2)) (fun v _=>E.N+1-(intOf v).toNat)
   case atStart=>exact⟨0,.slice none 0 0,none,rfl,by omega,HGR,zA (.inl ⟨rfl,rfl,rfl⟩),zA (fun g hg=>by cases hg),zA (Lo.refl _ _ _)⟩
   case round=>
    obtain⟨k,v3,o3,rfl,hkN,HG2,HQ3,HO3,HL3⟩:=hrel;obtain⟨a3,n3,c3,e3⟩:=HQ3.out.sl;subst e3;have hgrr:=HG2.out;have hgrrl:=Aa hgrr;have HGr:=zA (HRG5.out wr HL3.out).1;obtain⟨vr,hlr,-⟩:=HGr.out.l;have hlrl:=Aa hlr;have hk0:(0:Int)<=(k:Int):=Int.natCast_nonneg _;by_cases hkN2:k<E.N
    ·have hki:(k:Int)<(E.N:Int):=(by omega);obtain⟨csc,hcc,-,hallc⟩:=HGr.out.c;have hcck:=hallc k hkN2;have hccl:=Aa hcc;clear hallc;cases hcl:cl (k:Int)with
     |false=>
      rw[hcl]at hcck;have HQ4:Hid (Bg wr (.slice a3 n3 c3) o3 (C6 (k+1) cl)):=zA (by rw[Iy,if_neg (by rw[hcl];simp),List.append_nil];exact HQ3.out);clear hcl;go_wp2_with fail;go_roundw
      case rel=>first|exact⟨k+1,.slice a3 n3 c3,o3,by go_num,by omega,HG2,HQ4,HO3,HL3⟩|((repeat apply Exists.intro);exact⟨⟨k+1,.slice a3 n3 c3,o3,by go_num,by omega,HG2,HQ4,HO3,HL3⟩,rfl⟩)
      case measure=>(show E.N+1-(k+1)<E.N+1-k);omega
     |true=>
      rw[hcl]at hcck;obtain⟨an,nn,cn,w6,hrun,hg6,hg7,⟨o6,hq6,ho6⟩,hL6,-⟩:=Th (gr:=gr) hgrr HQ3.out HO3.out HL3.out (by simp) (by have:=HL3.out.size;omega) (by have:=Yy k cl;omega) (k:Int) 3 32;have HQ6:Hid (Bg (w6.setCell ⟨gr,3,none⟩ (.slice an nn cn)) (.slice an nn cn) o6 (C6 (k+1) cl)):=zA (by rw[Iy,if_pos hcl];exact hq6);have HO6:=zA ho6;have HL6:=zA hL6;have HG6:Hid (hat (w6.setCell ⟨gr,3,none⟩ (.slice an nn cn)) gr=some (.cells #[.slice (some ⟨E.gw,0,none⟩) E.N E.cw,.slice none 0 0,.slice a2 n2 c2,.slice an nn cn] 34)):=zA hg7;have hg6l:=Aa hg6;clear hcl hg7 hq6 ho6 hL6;go_wp2_with (at_builtin;refine Ao _ rfl (.tmp 127) (.tmp 129) 32 rfl _ _ rfl rfl _ _ hrun ?_)
      go_wp2_with fail;go_roundw
      case rel=>first|exact⟨k+1,.slice an nn cn,o6,by go_num,by omega,HG6,HQ6,HO6,HL6⟩|((repeat apply Exists.intro);exact⟨⟨k+1,.slice an nn cn,o6,by go_num,by omega,HG6,HQ6,HO6,HL6⟩,rfl⟩)
      case measure=>(show E.N+1-(k+1)<E.N+1-k);omega
    ·obtain rfl:k=E.N:=(by omega);have hkiN:¬ (E.N:Int)<(E.N:Int):=(by omega);obtain⟨w6,hw6⟩:∃ x,x=wr:=⟨_,rfl⟩;subst hw6;have HO3L:Hid (∀ q,o3=some q->q<w6.heap.size):=zA HQ3.out.lt;have HRG6:Hid (∀ Wo,Lo [gr] w6.heap.size w6 Wo->RG E Wo o l W cl tk I en/\Bg Wo (.slice a2 n2 c2) o2 (C6 E.M (Nq tk))/\Et Wo gf E.N F/\Below w.heap.size w Wo/\Bg Wo (.slice a3 n3 c3) o3 (C6 E.N cl)):=zA (fun Wo hLo=>by
      obtain⟨h1,h2,h3,h4⟩:=HRG5.out Wo (HL3.out.trans (hLo.weak (by simp) HL3.out.size));refine⟨h1,h2,h3,h4,HQ3.out.fr (hLo.to (Nat.le_refl _)) (fun q hq hm=>?_)⟩;simp at hm;subst hm;have:=HO3.out q hq;have:=HGF.out;have:=HL.out.size;omega)
     clear HQ3 HRG5;go_wp2_with fail;go_loopw [13] (fun kv wr2=>∃ (t:Nat) (v1:Value) (o1:Option Nat),kv= .int .i64 t/\t<=3/\Hid (hat wr2 gr=some (.cells #[.slice (some ⟨E.gw,0,none⟩) E.N E.cw,v1,.slice a2 n2 c2,.slice a3 n3 c3] 34))/\Hid (Bg wr2 v1 o1 (wrT E.N E.Y W E.A F t))/\Hid (Fa w6.heap.size o1)/\Hid (Lo [gr] w6.heap.size w6 wr2)) (fun v _=>3+1-(intOf v).toNat)
     case atStart=>exact⟨0,.slice none 0 0,none,rfl,by omega,HG2,zA (.inl ⟨rfl,rfl,rfl⟩),zA (fun g hg=>by cases hg),zA (Lo.refl _ _ _)⟩
     case round=>
      obtain⟨t,v1,o1,rfl,ht3,HGt,HQt,HOt,HLt⟩:=hrel;have ht0:(0:Int)<=(t:Int):=Int.natCast_nonneg _;by_cases ht:t<3
      ·have hti:(t:Int)<3:=(by omega);go_wp2_with fail;go_loopw [14] (fun kv wr2=>∃ (n:Nat) (v1:Value) (o1:Option Nat),kv= .int .i64 n/\n<=E.N/\Hid (hat wr2 gr=some (.cells #[.slice (some ⟨E.gw,0,none⟩) E.N E.cw,v1,.slice a2 n2 c2,.slice a3 n3 c3] 34))/\Hid (Bg wr2 v1 o1 (wrT E.N E.Y W E.A F t++Bv n W E.A (fun n=>G8 E.Y F n==t)))/\Hid (Fa w6.heap.size o1)/\Hid (Lo [gr] w6.heap.size w6 wr2)) (fun v _=>E.N+1-(intOf v).toNat)
       case atStart=>exact⟨0,v1,o1,rfl,by omega,HGt,zA (by rw[show Bv 0 W E.A (fun n=>G8 E.Y F n==t)=[]from rfl,List.append_nil];exact HQt.out),HOt,HLt⟩
       case round=>
        obtain⟨n,vn,on,rfl,hnN,HGn,HQn,HOn,HLn⟩:=hrel;obtain⟨a1,n1,c1,e1⟩:=HQn.out.sl;subst e1;have hgrr:=HGn.out;have hgrrl:=Aa hgrr;obtain⟨hGr,-,hBr,-⟩:=HRG6.out wr HLn.out;have HGr:=zA hGr;obtain⟨vr,hlr,-⟩:=HGr.out.l;have hlrl:=Aa hlr;have hn0:(0:Int)<=(n:Int):=Int.natCast_nonneg _;by_cases hnN2:n<E.N
        ·have hni:(n:Int)<(E.N:Int):=(by omega);obtain⟨csb,hcb,-,hallb⟩:=hBr;have hcbn:=hallb n hnN2;have hcbl:=Aa hcb;clear hallb hGr;go_upto_if 151 with fail;go_cut [15] (fun c wx=>c= .int .i64 ((G8 E.Y F n:Nat):Int)/\wx=wr)
         case first=>
          by_cases hnY:(n:Int)<=E.Y
          ·go_wp2_with fail;go_meet
           case rel=>exact⟨by unfold G8;rw[if_pos hnY];rfl,rfl⟩
          ·cases hFn:F (n:Int)with
           |true=>
            rw[hFn]at hcbn;go_wp2_with fail;go_meet
            case rel=>exact⟨by unfold G8;rw[if_neg (by omega),if_pos hFn];rfl,rfl⟩
           |false=>
            rw[hFn]at hcbn;go_wp2_with fail;go_meet
            case rel=>exact⟨by unfold G8;rw[if_neg (by omega),if_neg (by rw[hFn];simp)];rfl,rfl⟩
         case rest=>
          obtain⟨hro,hwx⟩:=hcut;subst wc;obtain⟨r,hr⟩:∃ r,G8 E.Y F n=r:=⟨_,rfl⟩;rw[hr]at hro;subst hro;have HRR:=zA hr;obtain⟨csi,ti,fri,hci,hldi⟩:=HGr.out.i.load hnN2;obtain⟨csw,hcw,hldw,hSW,-⟩:=HGr.out.s.load hnN2;have hcil:=Aa hci;have hcwl:=Aa hcw;have hSI:=HGr.out.i.len hnN2;clear hr;by_cases hrt:r=t
          ·subst hrt;by_cases hWA:W n=E.A n
           ·have hne:decide (W n=E.A n)=true:=decide_eq_true hWA;have HQX:Hid (Bg wr (.slice a1 n1 c1) on (wrT E.N E.Y W E.A F r++Bv (n+1) W E.A (fun n=>G8 E.Y F n==r))):=zA (by rw[Cr,if_neg (by simp[hWA]),List.append_nil];exact HQn.out);clear hWA;go_upto_region 35 with fail;refine Ba (by kernel_rfl) 20 (by decide) rfl (fun i=>match i with|0=>(.int .i64 (r:Int))|1=>(.int .i64 (r:Int))|2=>(.bool true)|3=>(.bool true)|4=>(.pointer (some ⟨E.g,0,none⟩))|5=>(.pointer (some ⟨E.g,0,none⟩))|6=>(.pointer (some ⟨E.g,3,none⟩))|7=>(.slice (some ⟨E.gw,0,none⟩) E.N E.cw)|8=>(.int .i64 (n:Int))|9=>(.pointer (some ⟨E.gw,n*128,none⟩))|10=>(.agg (IV .u8 (W n)))|11=>(.pointer (some ⟨E.g,0,none⟩))|12=>(.pointer (some ⟨E.g,0,none⟩))|13=>(.pointer (some ⟨E.g,2,none⟩))|14=>(.slice (some ⟨E.gi,E.oi,none⟩) E.N E.ci)|15=>(.int .i64 (n:Int))|16=>(.pointer (some ⟨E.gi,E.oi+n*128,none⟩))|17=>(.agg (IV .u8 (E.A n)))|18=>(.bool false)|_=>(.bool false)) ?_ ?_
            ·intro i' o ho0 ho a' w' hB hS hF;have hi':i'=0\/i'=1\/i'=2\/i'=3\/i'=4\/i'=5\/i'=6\/i'=7\/i'=8\/i'=9\/i'=10\/i'=11\/i'=12\/i'=13\/i'=14\/i'=15\/i'=16\/i'=17\/i'=18\/i'=19:=(by omega);have hlr:=(hop hB hlr).1;have hcw:=(hop hB hcw).1;have hci:=(hop hB hci).1;rcases hi' with rfl|rfl|rfl|rfl|rfl|rfl|rfl|rfl|rfl|rfl|rfl|rfl|rfl|rfl|rfl|rfl|rfl|rfl|rfl|rfl
             all_goals (have ho':=Option.some.inj ho;subst ho')
             ·have q15:a'.tmps[15]?.getD undef=(.int .i64 (r:Int)):=gtx ((hS 15 (by decide)).trans rfl);refine Ab rfl (Ac rfl) ?_ ⟨rfl,hB⟩;simp[go_sem,q15]
             ·have q13:a'.tmps[13]?.getD undef=(.int .i64 (r:Int)):=gtx ((hS 13 (by decide)).trans rfl);refine Ab rfl (Ac rfl) ?_ ⟨rfl,hB⟩;simp[go_sem,q13]
             ·have q156:=gtx (hF 0 (by decide) _ 156 rfl rfl);have q157:=gtx (hF 1 (by decide) _ 157 rfl rfl);refine Ab rfl (Ac rfl) ?_ ⟨rfl,hB⟩;simp[go_sem,q156,q157]
             ·have q158:=gtx (hF 2 (by decide) _ 158 rfl rfl);refine Ab rfl (Ac rfl) ?_ ⟨rfl,hB⟩;simp[go_sem,q158]
             ·have q0:a'.tmps[0]?.getD undef=(.pointer (some ⟨E.g,0,none⟩)):=gtx ((hS 0 (by decide)).trans rfl);refine Ab rfl (Av rfl rfl rfl (hF 3 (by decide) _ 159 rfl rfl)) ?_ ⟨rfl,hB⟩;simp[go_sem,q0]
             ·have q160:=gtx (hF 4 (by decide) _ 160 rfl rfl);refine Ab rfl (Av rfl rfl rfl (hF 3 (by decide) _ 159 rfl rfl)) ?_ ⟨rfl,hB⟩;simp[go_sem,q160]
             ·have q161:=gtx (hF 5 (by decide) _ 161 rfl rfl);refine Ab rfl (Av rfl rfl rfl (hF 3 (by decide) _ 159 rfl rfl)) ?_ ⟨rfl,hB⟩;simp[go_sem,q161]
             ·have q162:=gtx (hF 6 (by decide) _ 162 rfl rfl);refine Ab rfl (Av rfl rfl rfl (hF 3 (by decide) _ 159 rfl rfl)) ?_ ⟨rfl,hB⟩;simp[go_sem,q162,hlr]
             ·have q14:a'.tmps[14]?.getD undef=(.int .i64 (n:Int)):=gtx ((hS 14 (by decide)).trans rfl);refine Ab rfl (Av rfl rfl rfl (hF 3 (by decide) _ 159 rfl rfl)) ?_ ⟨rfl,hB⟩;simp[go_sem,q14]
             ·have q163:=gtx (hF 7 (by decide) _ 163 rfl rfl);have q164:=gtx (hF 8 (by decide) _ 164 rfl rfl);refine Ab rfl (Av rfl rfl rfl (hF 3 (by decide) _ 159 rfl rfl)) ?_ ⟨rfl,hB⟩;simp[go_sem,q163,q164,hn0,hni,hnN2]
             ·have q165:=gtx (hF 9 (by decide) _ 165 rfl rfl);refine Ab rfl (Av rfl rfl rfl (hF 3 (by decide) _ 159 rfl rfl)) ?_ ⟨rfl,hB⟩;simp[go_sem,q165,hcw,hldw]
             ·have q0:a'.tmps[0]?.getD undef=(.pointer (some ⟨E.g,0,none⟩)):=gtx ((hS 0 (by decide)).trans rfl);refine Ab rfl (Av rfl rfl rfl (hF 3 (by decide) _ 159 rfl rfl)) ?_ ⟨rfl,hB⟩;simp[go_sem,q0]
             ·have q167:=gtx (hF 11 (by decide) _ 167 rfl rfl);refine Ab rfl (Av rfl rfl rfl (hF 3 (by decide) _ 159 rfl rfl)) ?_ ⟨rfl,hB⟩;simp[go_sem,q167]
             ·have q168:=gtx (hF 12 (by decide) _ 168 rfl rfl);refine Ab rfl (Av rfl rfl rfl (hF 3 (by decide) _ 159 rfl rfl)) ?_ ⟨rfl,hB⟩;simp[go_sem,q168]
             ·have q169:=gtx (hF 13 (by decide) _ 169 rfl rfl);refine Ab rfl (Av rfl rfl rfl (hF 3 (by decide) _ 159 rfl rfl)) ?_ ⟨rfl,hB⟩;simp[go_sem,q169,hlr]
             ·have q14:a'.tmps[14]?.getD undef=(.int .i64 (n:Int)):=gtx ((hS 14 (by decide)).trans rfl);refine Ab rfl (Av rfl rfl rfl (hF 3 (by decide) _ 159 rfl rfl)) ?_ ⟨rfl,hB⟩;simp[go_sem,q14]
             ·have q170:=gtx (hF 14 (by decide) _ 170 rfl rfl);have q171:=gtx (hF 15 (by decide) _ 171 rfl rfl);refine Ab rfl (Av rfl rfl rfl (hF 3 (by decide) _ 159 rfl rfl)) ?_ ⟨rfl,hB⟩;simp[go_sem,q170,q171,hn0,hni,hnN2]
             ·have q172:=gtx (hF 16 (by decide) _ 172 rfl rfl);refine Ab rfl (Av rfl rfl rfl (hF 3 (by decide) _ 159 rfl rfl)) ?_ ⟨rfl,hB⟩;simp[go_sem,q172,hci,hldi]
             ·have q166:=gtx (hF 10 (by decide) _ 166 rfl rfl);have q173:=gtx (hF 17 (by decide) _ 173 rfl rfl);refine Ab rfl (Av rfl rfl rfl (hF 3 (by decide) _ 159 rfl rfl)) ?_ ⟨rfl,hB⟩;simp[go_sem,q166,q173,hSI.1,hSW,hne]
             ·have q159:=gtx (hF 3 (by decide) _ 159 rfl rfl);have q174:=gtx (hF 18 (by decide) _ 174 rfl rfl);refine Ab rfl (Ac rfl) ?_ ⟨rfl,hB⟩;simp[go_sem,q159,q174]
            intro w7 hB7;simp only[Bi,List.take,List.drop,List.take_succ_cons,List.drop_succ_cons,Act.put,List.setIfInBounds_toArray,List.set_cons_zero,List.set_cons_succ];have HGX:=zA (hop hB7 HGn.out).1;have HQY:=zA (HQX.out.fr (Af hB7 []) (by simp));have HLY:=zA (HLn.out.trans (Lo.of (hB7.mono HLn.out.size)));go_wp2_with fail;go_roundw
            case rel=>first|exact⟨n+1,.slice a1 n1 c1,on,by go_num,by omega,HGX,HQY,HOn,HLY⟩|((repeat apply Exists.intro);exact⟨⟨n+1,.slice a1 n1 c1,on,by go_num,by omega,HGX,HQY,HOn,HLY⟩,rfl⟩)
            case measure=>(show E.N+1-(n+1)<E.N+1-n);omega
           ·have hne:decide (W n=E.A n)=false:=decide_eq_false hWA;clear hcb hcbl hcbn;go_upto_region 35 with fail;refine Ba (by kernel_rfl) 20 (by decide) rfl (fun i=>match i with|0=>(.int .i64 (r:Int))|1=>(.int .i64 (r:Int))|2=>(.bool true)|3=>(.bool true)|4=>(.pointer (some ⟨E.g,0,none⟩))|5=>(.pointer (some ⟨E.g,0,none⟩))|6=>(.pointer (some ⟨E.g,3,none⟩))|7=>(.slice (some ⟨E.gw,0,none⟩) E.N E.cw)|8=>(.int .i64 (n:Int))|9=>(.pointer (some ⟨E.gw,n*128,none⟩))|10=>(.agg (IV .u8 (W n)))|11=>(.pointer (some ⟨E.g,0,none⟩))|12=>(.pointer (some ⟨E.g,0,none⟩))|13=>(.pointer (some ⟨E.g,2,none⟩))|14=>(.slice (some ⟨E.gi,E.oi,none⟩) E.N E.ci)|15=>(.int .i64 (n:Int))|16=>(.pointer (some ⟨E.gi,E.oi+n*128,none⟩))|17=>(.agg (IV .u8 (E.A n)))|18=>(.bool true)|_=>(.bool true)) ?_ ?_
            ·intro i' o ho0 ho a' w' hB hS hF;have hi':i'=0\/i'=1\/i'=2\/i'=3\/i'=4\/i'=5\/i'=6\/i'=7\/i'=8\/i'=9\/i'=10\/i'=11\/i'=12\/i'=13\/i'=14\/i'=15\/i'=16\/i'=17\/i'=18\/i'=19:=(by omega);have hlr:=(hop hB hlr).1;have hcw:=(hop hB hcw).1;have hci:=(hop hB hci).1;rcases hi' with rfl|rfl|rfl|rfl|rfl|rfl|rfl|rfl|rfl|rfl|rfl|rfl|rfl|rfl|rfl|rfl|rfl|rfl|rfl|rfl
             all_goals (have ho':=Option.some.inj ho;subst ho')
             ·have q15:a'.tmps[15]?.getD undef=(.int .i64 (r:Int)):=gtx ((hS 15 (by decide)).trans rfl);refine Ab rfl (Ac rfl) ?_ ⟨rfl,hB⟩;simp[go_sem,q15]
             ·have q13:a'.tmps[13]?.getD undef=(.int .i64 (r:Int)):=gtx ((hS 13 (by decide)).trans rfl);refine Ab rfl (Ac rfl) ?_ ⟨rfl,hB⟩;simp[go_sem,q13]
             ·have q156:=gtx (hF 0 (by decide) _ 156 rfl rfl);have q157:=gtx (hF 1 (by decide) _ 157 rfl rfl);refine Ab rfl (Ac rfl) ?_ ⟨rfl,hB⟩;simp[go_sem,q156,q157]
             ·have q158:=gtx (hF 2 (by decide) _ 158 rfl rfl);refine Ab rfl (Ac rfl) ?_ ⟨rfl,hB⟩;simp[go_sem,q158]
             ·have q0:a'.tmps[0]?.getD undef=(.pointer (some ⟨E.g,0,none⟩)):=gtx ((hS 0 (by decide)).trans rfl);refine Ab rfl (Av rfl rfl rfl (hF 3 (by decide) _ 159 rfl rfl)) ?_ ⟨rfl,hB⟩;simp[go_sem,q0]
             ·have q160:=gtx (hF 4 (by decide) _ 160 rfl rfl);refine Ab rfl (Av rfl rfl rfl (hF 3 (by decide) _ 159 rfl rfl)) ?_ ⟨rfl,hB⟩;simp[go_sem,q160]
             ·have q161:=gtx (hF 5 (by decide) _ 161 rfl rfl);refine Ab rfl (Av rfl rfl rfl (hF 3 (by decide) _ 159 rfl rfl)) ?_ ⟨rfl,hB⟩;simp[go_sem,q161]
             ·have q162:=gtx (hF 6 (by decide) _ 162 rfl rfl);refine Ab rfl (Av rfl rfl rfl (hF 3 (by decide) _ 159 rfl rfl)) ?_ ⟨rfl,hB⟩;simp[go_sem,q162,hlr]
             ·have q14:a'.tmps[14]?.getD undef=(.int .i64 (n:Int)):=gtx ((hS 14 (by decide)).trans rfl);refine Ab rfl (Av rfl rfl rfl (hF 3 (by decide) _ 159 rfl rfl)) ?_ ⟨rfl,hB⟩;simp[go_sem,q14]
             ·have q163:=gtx (hF 7 (by decide) _ 163 rfl rfl);have q164:=gtx (hF 8 (by decide) _ 164 rfl rfl);refine Ab rfl (Av rfl rfl rfl (hF 3 (by decide) _ 159 rfl rfl)) ?_ ⟨rfl,hB⟩;simp[go_sem,q163,q164,hn0,hni,hnN2]
             ·have q165:=gtx (hF 9 (by decide) _ 165 rfl rfl);refine Ab rfl (Av rfl rfl rfl (hF 3 (by decide) _ 159 rfl rfl)) ?_ ⟨rfl,hB⟩;simp[go_sem,q165,hcw,hldw]
             ·have q0:a'.tmps[0]?.getD undef=(.pointer (some ⟨E.g,0,none⟩)):=gtx ((hS 0 (by decide)).trans rfl);refine Ab rfl (Av rfl rfl rfl (hF 3 (by decide) _ 159 rfl rfl)) ?_ ⟨rfl,hB⟩;simp[go_sem,q0]
             ·have q167:=gtx (hF 11 (by decide) _ 167 rfl rfl);refine Ab rfl (Av rfl rfl rfl (hF 3 (by decide) _ 159 rfl rfl)) ?_ ⟨rfl,hB⟩;simp[go_sem,q167]
             ·have q168:=gtx (hF 12 (by decide) _ 168 rfl rfl);refine Ab rfl (Av rfl rfl rfl (hF 3 (by decide) _ 159 rfl rfl)) ?_ ⟨rfl,hB⟩;simp[go_sem,q168]
             ·have q169:=gtx (hF 13 (by decide) _ 169 rfl rfl);refine Ab rfl (Av rfl rfl rfl (hF 3 (by decide) _ 159 rfl rfl)) ?_ ⟨rfl,hB⟩;simp[go_sem,q169,hlr]
             ·have q14:a'.tmps[14]?.getD undef=(.int .i64 (n:Int)):=gtx ((hS 14 (by decide)).trans rfl);refine Ab rfl (Av rfl rfl rfl (hF 3 (by decide) _ 159 rfl rfl)) ?_ ⟨rfl,hB⟩;simp[go_sem,q14]
             ·have q170:=gtx (hF 14 (by decide) _ 170 rfl rfl);have q171:=gtx (hF 15 (by decide) _ 171 rfl rfl);refine Ab rfl (Av rfl rfl rfl (hF 3 (by decide) _ 159 rfl rfl)) ?_ ⟨rfl,hB⟩;simp[go_sem,q170,q171,hn0,hni,hnN2]
             ·have q172:=gtx (hF 16 (by decide) _ 172 rfl rfl);refine Ab rfl (Av rfl rfl rfl (hF 3 (by decide) _ 159 rfl rfl)) ?_ ⟨rfl,hB⟩;simp[go_sem,q172,hci,hldi]
             ·have q166:=gtx (hF 10 (by decide) _ 166 rfl rfl);have q173:=gtx (hF 17 (by decide) _ 173 rfl rfl);refine Ab rfl (Av rfl rfl rfl (hF 3 (by decide) _ 159 rfl rfl)) ?_ ⟨rfl,hB⟩;simp[go_sem,q166,q173,hSI.1,hSW,hne]
             ·have q159:=gtx (hF 3 (by decide) _ 159 rfl rfl);have q174:=gtx (hF 18 (by decide) _ 174 rfl rfl);refine Ab rfl (Ac rfl) ?_ ⟨rfl,hB⟩;simp[go_sem,q159,q174]
            intro w7 hB7;simp only[Bi,List.take,List.drop,List.take_succ_cons,List.drop_succ_cons,Act.put,List.setIfInBounds_toArray,List.set_cons_zero,List.set_cons_succ];have hg7:=(hop hB7 HGn.out).1;have hg7l:=Aa hg7;have hq7:Bg w7 (.slice a1 n1 c1) on (wrT E.N E.Y W E.A F r++Bv n W E.A (fun n=>G8 E.Y F n==r)):=HQn.out.fr (Af hB7 []) (by simp);have hl7:Lo [gr] w6.heap.size w6 w7:=HLn.out.trans (Lo.of (hB7.mono HLn.out.size))
            obtain⟨an,nn,cn,w8,hrun,hg8,hg9,⟨o8,hq8,ho8⟩,hL8,-⟩:=Th (gr:=gr) hg7 hq7 HOn.out hl7 (by simp) (by have:=hl7.size;omega) (by
             rw[List.length_append];have h1:=eV E.N E.Y W E.A F r;have h2:=I9 n W E.A (fun n=>G8 E.Y F n==r);have h3:E.N*r<=4096*3:=Nat.mul_le_mul hN9 (by omega);omega) (n:Int) 1 32
            have HQ8:Hid (Bg (w8.setCell ⟨gr,1,none⟩ (.slice an nn cn)) (.slice an nn cn) o8 (wrT E.N E.Y W E.A F r++Bv (n+1) W E.A (fun n=>G8 E.Y F n==r))):=zA (by rw[Cr,if_pos (by show(decide (W n≠E.A n)&&(G8 E.Y F n==r))=true;rw[HRR.out];simpa using hWA), <-List.append_assoc];exact hq8);have HO8:=zA ho8;have HL8:=zA hL8;have HG8:Hid (hat (w8.setCell ⟨gr,1,none⟩ (.slice an nn cn)) gr=some (.cells #[.slice (some ⟨E.gw,0,none⟩) E.N E.cw,.slice an nn cn,.slice a2 n2 c2,.slice a3 n3 c3] 34)):=zA hg9;have hg8l:=Aa hg8;clear hWA hg9 hq8 ho8 hL8 hB7 hq7 hl7 hgrr hgrrl hlr hlrl hci hcil hcw hcwl hldi hldw hSI hSW hne;go_wp2_with (at_builtin;refine Ao _ rfl (.tmp 177) (.tmp 179) 32 rfl _ _ rfl rfl _ _ hrun ?_)
            go_wp2_with fail;go_roundw
            case rel=>first|exact⟨n+1,.slice an nn cn,o8,by go_num,by omega,HG8,HQ8,HO8,HL8⟩|((repeat apply Exists.intro);exact⟨⟨n+1,.slice an nn cn,o8,by go_num,by omega,HG8,HQ8,HO8,HL8⟩,rfl⟩)
            case measure=>(show E.N+1-(n+1)<E.N+1-n);omega
          ·have hrt2:¬ (r:Int)=(t:Int):=(by omega);have HQX:Hid (Bg wr (.slice a1 n1 c1) on (wrT E.N E.Y W E.A F t++Bv (n+1) W E.A (fun n=>G8 E.Y F n==t))):=zA (by rw[Cr,if_neg (by simp[HRR.out,hrt]),List.append_nil];exact HQn.out);go_upto_region 35 with fail;refine Ba (by kernel_rfl) 20 (by decide) rfl (fun i=>match i with|0=>(.int .i64 (r:Int))|1=>(.int .i64 (t:Int))|2=>(.bool false)|3=>(.bool false)|4=>undef|5=>undef|6=>undef|7=>undef|8=>undef|9=>undef|10=>undef|11=>undef|12=>undef|13=>undef|14=>undef|15=>undef|16=>undef|17=>undef|18=>undef|_=>(.bool false)) ?_ ?_
           ·intro i' o ho0 ho a' w' hB hS hF;have hi':i'=0\/i'=1\/i'=2\/i'=3\/i'=4\/i'=5\/i'=6\/i'=7\/i'=8\/i'=9\/i'=10\/i'=11\/i'=12\/i'=13\/i'=14\/i'=15\/i'=16\/i'=17\/i'=18\/i'=19:=(by omega);rcases hi' with rfl|rfl|rfl|rfl|rfl|rfl|rfl|rfl|rfl|rfl|rfl|rfl|rfl|rfl|rfl|rfl|rfl|rfl|rfl|rfl
            all_goals (have ho':=Option.some.inj ho;subst ho')
            ·have q15:a'.tmps[15]?.getD undef=(.int .i64 (r:Int)):=gtx ((hS 15 (by decide)).trans rfl);refine Ab rfl (Ac rfl) ?_ ⟨rfl,hB⟩;simp[go_sem,q15]
            ·have q13:a'.tmps[13]?.getD undef=(.int .i64 (t:Int)):=gtx ((hS 13 (by decide)).trans rfl);refine Ab rfl (Ac rfl) ?_ ⟨rfl,hB⟩;simp[go_sem,q13]
            ·have q156:=gtx (hF 0 (by decide) _ 156 rfl rfl);have q157:=gtx (hF 1 (by decide) _ 157 rfl rfl);refine Ab rfl (Ac rfl) ?_ ⟨rfl,hB⟩;simp[go_sem,q156,q157,hrt2]
            ·have q158:=gtx (hF 2 (by decide) _ 158 rfl rfl);refine Ab rfl (Ac rfl) ?_ ⟨rfl,hB⟩;simp[go_sem,q158]
            ·exact Br rfl rfl rfl rfl (hF 3 (by decide) _ 159 rfl rfl) rfl ⟨rfl,hB⟩
            ·exact Br rfl rfl rfl rfl (hF 3 (by decide) _ 159 rfl rfl) rfl ⟨rfl,hB⟩
            ·exact Br rfl rfl rfl rfl (hF 3 (by decide) _ 159 rfl rfl) rfl ⟨rfl,hB⟩
            ·exact Br rfl rfl rfl rfl (hF 3 (by decide) _ 159 rfl rfl) rfl ⟨rfl,hB⟩
            ·exact Br rfl rfl rfl rfl (hF 3 (by decide) _ 159 rfl rfl) rfl ⟨rfl,hB⟩
            ·exact Br rfl rfl rfl rfl (hF 3 (by decide) _ 159 rfl rfl) rfl ⟨rfl,hB⟩
            ·exact Br rfl rfl rfl rfl (hF 3 (by decide) _ 159 rfl rfl) rfl ⟨rfl,hB⟩
            ·exact Br rfl rfl rfl rfl (hF 3 (by decide) _ 159 rfl rfl) rfl ⟨rfl,hB⟩
            ·exact Br rfl rfl rfl rfl (hF 3 (by decide) _ 159 rfl rfl) rfl ⟨rfl,hB⟩
            ·exact Br rfl rfl rfl rfl (hF 3 (by decide) _ 159 rfl rfl) rfl ⟨rfl,hB⟩
            ·exact Br rfl rfl rfl rfl (hF 3 (by decide) _ 159 rfl rfl) rfl ⟨rfl,hB⟩
            ·exact Br rfl rfl rfl rfl (hF 3 (by decide) _ 159 rfl rfl) rfl ⟨rfl,hB⟩
            ·exact Br rfl rfl rfl rfl (hF 3 (by decide) _ 159 rfl rfl) rfl ⟨rfl,hB⟩
            ·exact Br rfl rfl rfl rfl (hF 3 (by decide) _ 159 rfl rfl) rfl ⟨rfl,hB⟩
            ·exact Br rfl rfl rfl rfl (hF 3 (by decide) _ 159 rfl rfl) rfl ⟨rfl,hB⟩
            ·have q159:=gtx (hF 3 (by decide) _ 159 rfl rfl);have q174:=gtx (hF 18 (by decide) _ 174 rfl rfl);refine Ab rfl (Ac rfl) ?_ ⟨rfl,hB⟩;simp[go_sem,q159,q174]
           intro w7 hB7;simp only[Bi,List.take,List.drop,List.take_succ_cons,List.drop_succ_cons,Act.put,List.setIfInBounds_toArray,List.set_cons_zero,List.set_cons_succ];have HGX:=zA (hop hB7 HGn.out).1;have HQY:=zA (HQX.out.fr (Af hB7 []) (by simp));have HLY:=zA (HLn.out.trans (Lo.of (hB7.mono HLn.out.size)));go_wp2_with fail;go_roundw
           case rel=>first|exact⟨n+1,.slice a1 n1 c1,on,by go_num,by omega,HGX,HQY,HOn,HLY⟩|((repeat apply Exists.intro);exact⟨⟨n+1,.slice a1 n1 c1,on,by go_num,by omega,HGX,HQY,HOn,HLY⟩,rfl⟩)
           case measure=>(show E.N+1-(n+1)<E.N+1-n);omega
        ·obtain rfl:n=E.N:=(by omega);have hniN:¬ (E.N:Int)<(E.N:Int):=(by omega);clear hBr hGr;go_wp2_with fail;go_roundw
         case rel=>first|exact⟨t+1,.slice a1 n1 c1,on,by go_num,by omega,HGn,HQn,HOn,HLn⟩|((repeat apply Exists.intro);exact⟨⟨t+1,.slice a1 n1 c1,on,by go_num,by omega,HGn,HQn,HOn,HLn⟩,rfl⟩)
         case measure=>(show 3+1-(t+1)<3+1-t);omega
      ·obtain rfl:t=3:=(by omega);obtain⟨-,hq2,-,hbw,hq3⟩:=HRG6.out wr HLt.out;have hgrr:=HGt.out;have hgrrl:=Aa hgrr;have HQ2:=zA hq2;have HQ3:=zA hq3;have HBW:=zA hbw;clear hq2 hq3 hbw;have hgz:hat wr w.heap.size=some (.cells #[.slice none 0 0,.slice none 0 0,.slice none 0 0,.slice none 0 0] 34):=by
        have h1:=HGF.out;have h2:=HL.out.size;have h3:=HL3.out.size;rw[HLt.out.block w.heap.size (by omega) (by simp;omega),HL3.out.block w.heap.size (by omega) (by simp;omega),HL.out.block w.heap.size (by omega) (by simp;omega)];exact hg03
       obtain⟨x1,y1,z1,e1⟩:=HQt.out.sl;subst e1;have hgzl:=Aa hgz;have hne:w.heap.size≠gr:=(by have:=HGF.out;omega);clear hg03 hg2w;go_wp2_with fail;have hf4:=Ah _ _ 3 (.slice a3 n3 c3) _ _ _ (Ah _ _ 2 (.slice a2 n2 c2) _ _ _ (Ah _ _ 1 (.slice x1 y1 z1) _ _ _ (Ah _ _ 0 (.slice (some ⟨E.gw,0,none⟩) E.N E.cw) _ _ _ hgz)));have P4:=Cl wr w.heap.size (.slice (some ⟨E.gw,0,none⟩) E.N E.cw) (.slice x1 y1 z1) (.slice a2 n2 c2) (.slice a3 n3 c3);have h1:=HGF.out;have h2:=HL.out.size;have h3:=HL3.out.size;have h4:=HLt.out.size;refine Qu Fe rfl (cs:= #[.slice (some ⟨E.gw,0,none⟩) E.N E.cw,.slice x1 y1 z1,.slice a2 n2 c2,.slice a3 n3 c3]) rfl hf4 rfl rfl ?_;refine⟨_,_,_,o1,o2,o3,rfl,?_,HQ2.out.fr P4 (fun q hq=>by have:=HO.out q hq;simp;omega),HQ3.out.fr P4 (fun q hq=>by have:=HO3.out q hq;simp;omega),HBW.out.trans (P4.below (by omega) (by simp)),fun q hq=>by have:=HOt.out q hq;omega,fun q hq=>by have:=HO.out q hq;omega,fun q hq=>by have:=HO3.out q hq;omega⟩;rw[HFF.out];exact HQt.out.fr P4 (fun q hq=>by have:=HOt.out q hq;simp;omega)
end
theorem Xz(gi oi N ci g0:Nat)(S:Nat->List Int)(w:World)(hS:G9 w gi oi N S)(h0:0<N)(hN:N<=4096):
  ∃ g cw w',(Builtin.append_ #[26,26] 26 #[.slice (some ⟨g0,0,none⟩) 0 0,.slice (some ⟨gi,oi,none⟩) N ci]).run Tryz.prog w= .ok (.slice (some ⟨g,0,none⟩) N cw) w'/\w.heap.size<=g/\B8 w' g N 0 S/\Below w.heap.size w w':=by
 obtain⟨cs,t,fr,hcs,hsz,hall⟩:=hS;obtain⟨inf,z,hi,hz,hzs,his,hib⟩:=Lr;have ht:Tryz.prog.underlying 26=some (.slice 47):=Tryz.underlying26;have hnl:(cs.extract oi (oi+N*128)).toList.length=N*128:=by simp;omega
 have hget:∀ j u,(cs.extract oi (oi+N*128)).toList[j]? =some u->cs[oi+j]? =some u/\j<N*128:=fun j u hj=>by
  have hjl:j<N*128:=by
   have:=(List.getElem?_eq_some_iff.1 hj).1;omega
  rw[Array.getElem?_toList,Array.getElem?_extract,if_pos (by omega)]at hj;exact⟨hj,hjl⟩
 have hsrc:Src Tryz.prog inf.size 26 (.slice (some ⟨gi,oi,none⟩) N ci) N (cs.extract oi (oi+N*128)).toList w:=
  Src.ofSlice _ ht ⟨gi,oi,none⟩ N ci _ (by rw[hnl,his]) (fun j u hj=>by
   rw[C4,Bs hcs];exact(hget j u hj).1) (fun u hu=>by
   obtain⟨j,hj⟩:=List.getElem?_of_mem hu;obtain⟨h1,h2⟩:=hget j u hj;obtain⟨x,hx⟩:=G9.cell hsz hall h2;rw[h1]at hx;rw[Option.some.inj hx];rfl)
 have hr:=run_append_grow_src (P:=Tryz.prog) w 26 26 26 47 inf z ht hi hz (some ⟨g0,0,none⟩) 0 0 [] (run_firstCells_some _ inf.size 0 ⟨g0,0,none⟩ 0 0 [] (by simp) (fun j u hj=>by simp at hj)) (.slice (some ⟨gi,oi,none⟩) N ci) N _ hsrc (by omega) (by omega) (growslice_fits (by omega) (by rw[hib];omega));simp only[Nat.zero_add,List.nil_append]at hr;have hge:=grownCap_ge w N 0 47;refine⟨_,_,_,hr,Nat.le_refl _,?_,(Dy (Below.refl w.heap.size w)).alloc (by simp) _⟩;refine⟨_,Bc _ _ _ rfl,by rw[Array.size_append,List.size_toArray,hnl];omega,fun i hi=>?_⟩;obtain⟨h1,h2,h3⟩:=hall i hi;refine⟨h1,h2,?_⟩;rw[<-h3];apply Array.ext_getElem?
 intro j;rw[Array.getElem?_extract,Array.getElem?_extract];by_cases hj:j<128
 ·rw[if_pos (by rw[Array.size_append,List.size_toArray,hnl];omega),if_pos (by omega),Array.getElem?_append_left (by rw[List.size_toArray,hnl];omega),List.getElem?_toArray,Array.getElem?_toList,Array.getElem?_extract,if_pos (by omega)];congr 1;omega
 ·rw[if_neg (by rw[Array.size_append,List.size_toArray,hnl];omega),if_neg (by omega)]
def Jl(X Y:Int)(gi oi ci N M gw cw gc gt gn ge:Nat):Array Value:= #[.int .i64 X,.int .i64 Y,.slice (some ⟨gi,oi,none⟩) N ci,.slice (some ⟨gw,0,none⟩) N cw,.slice (some ⟨gc,0,none⟩) N N,.slice (some ⟨gt,0,none⟩) M M,.slice (some ⟨gn,0,none⟩) M M,.slice (some ⟨ge,0,none⟩) M M,.slice none 0 0]
structure Six (N M:Nat) (S:Nat->List Int) (w0 w:World) (gw gc gt gn ge:Nat):Prop where
 lo:∀ b∈[gw,gc,gt,gn,ge],w0.heap.size<=b
 ws:B8 w gw N 0 S
 c:Et w gc N (fun _=>false)
 t:Et w gt M (fun _=>false)
 n:Lf w gn M (fun _=>zl 18)
 e:Nh w ge M (fun _=>0)
 nd:[gw,gc,gt,gn,ge].Nodup
section
variable {N M:Nat} {S:Nat->List Int} {w0 w w':World} {gw gc gt gn ge:Nat}
theorem Six.fr(h:Six N M S w0 w gw gc gt gn ge)(hf:Fr [] w w'):Six N M S w0 w' gw gc gt gn ge:=
 ⟨h.lo,h.ws.same (hf.block _ h.ws.lt2 (by simp)),h.c.same (hf.block _ h.c.lt (by simp)),h.t.same (hf.block _ h.t.lt (by simp)),h.n.same (hf.block _ h.n.lt (by simp)),h.e.same (hf.block _ h.e.lt (by simp)),h.nd⟩
theorem Six.lt(h:Six N M S w0 w gw gc gt gn ge):∀ b∈[gw,gc,gt,gn,ge],b<w.heap.size:=by
 intro b hb;simp only[List.mem_cons,List.not_mem_nil,or_false]at hb;rcases hb with rfl|rfl|rfl|rfl|rfl
 ·exact h.ws.lt2
 ·exact h.c.lt
 ·exact h.t.lt
 ·exact h.n.lt
 ·exact h.e.lt
end
def rkG(X Y:Int)(gs gi oi ci N M:Nat)(S:Nat->List Int)(w0:World)(i:Nat)(v:Value)(own:Nat->Option Nat)(w':World):Prop:=
 match i with
 |0=>v= .agg #[.int .i64 X,.int .i64 Y]
 |1=>v= .slice (some ⟨gi,oi,none⟩) N ci
 |2=>∃ b,v= .slice (some ⟨b,0,none⟩) 0 0
 |3=>v= .slice (some ⟨gi,oi,none⟩) N ci
 |4=>∃ g cw,v= .slice (some ⟨g,0,none⟩) N cw/\w0.heap.size<=g/\B8 w' g N 0 S/\own g=some 4
 |5=>v= .slice (some ⟨gi,oi,none⟩) N ci
 |6=>v= .int .i64 N
 |7=>∃ g,v= .slice (some ⟨g,0,none⟩) N N/\w0.heap.size<=g/\Et w' g N (fun _=>false)/\own g=some 7
 |8=>v= .pointer (some ⟨gs,1,none⟩)
 |9=>v= .int .i64 Y
 |10=>v= .int .i64 M
 |11=>∃ g,v= .slice (some ⟨g,0,none⟩) M M/\w0.heap.size<=g/\Et w' g M (fun _=>false)/\own g=some 11
 |12=>v= .pointer (some ⟨gs,1,none⟩)
 |13=>v= .int .i64 Y
 |14=>v= .int .i64 M
 |15=>∃ g,v= .slice (some ⟨g,0,none⟩) M M/\w0.heap.size<=g/\Lf w' g M (fun _=>zl 18)/\own g=some 15
 |16=>v= .pointer (some ⟨gs,1,none⟩)
 |17=>v= .int .i64 Y
 |18=>v= .int .i64 M
 |19=>∃ g,v= .slice (some ⟨g,0,none⟩) M M/\w0.heap.size<=g/\Nh w' g M (fun _=>0)/\own g=some 19
 |20=>∃ gw cw gc gt gn ge,v= .agg (Jl X Y gi oi ci N M gw cw gc gt gn ge)/\Six N M S w0 w' gw gc gt gn ge
 |_=>∃ g gw cw gc gt gn ge,v= .pointer (some ⟨g,0,none⟩)/\hat w' g=some (.cells (Jl X Y gi oi ci N M gw cw gc gt gn ge) 129)/\Six N M S w0 w' gw gc gt gn ge/\w0.heap.size<=g/\g∉[gw,gc,gt,gn,ge]
theorem jA{X Y:Int}{gs gi oi ci N M:Nat}{S:Nat->List Int}{w0:World}{i:Nat}{v:Value}{own own':Nat->Option Nat}{w w':World}(hE:bP own w own' w')(h:rkG X Y gs gi oi ci N M S w0 i v own w):rkG X Y gs gi oi ci N M S w0 i v own' w':=by
 unfold rkG at h ⊢;split at h
 all_goals first
  |exact h
  |(obtain⟨g,cw,h1,h2,h3,h4⟩:=h
    exact⟨g,cw,h1,h2,B8.same h3 (hE.1.block _ h3.lt2 (by simp)),hE.2 _ _ h4⟩)
  |(obtain⟨g,h1,h2,h3,h4⟩:=h
    exact⟨g,h1,h2,h3.same (hE.1.block _ h3.lt (by simp)),hE.2 _ _ h4⟩)
  |(obtain⟨gw,cw,gc,gt,gn,ge,h1,h2⟩:=h
    exact⟨gw,cw,gc,gt,gn,ge,h1,h2.fr hE.1⟩)
  |(obtain⟨g,gw,cw,gc,gt,gn,ge,h1,h3,h2,h4⟩:=h
    exact⟨g,gw,cw,gc,gt,gn,ge,h1,(hE.1.block _ (Aa h3) (by simp)).trans h3,h2.fr hE.1,h4⟩)
theorem rD{X Y:Int}{gi oi ci N M g gw cw gc gt gn ge:Nat}{S:Nat->List Int}{w0 w:World}(hS:G9 w gi oi N S)(hgi:gi<w0.heap.size)(hg:hat w g=some (.cells (Jl X Y gi oi ci N M gw cw gc gt gn ge) 129))(h6:Six N M S w0 w gw gc gt gn ge):
  DG ⟨g,gi,oi,N,ci,gw,cw,gc,N,gt,M,gn,M,ge,M,M,X,Y,S⟩ w none [] (Cf S) (fun _=>zl 18):=
 ⟨⟨⟨_,hg,.inl ⟨rfl,rfl,rfl⟩⟩,hS,h6.ws,h6.c,h6.t,h6.n,h6.e,fun q hq=>by cases hq⟩,fun i t h=>by cases h⟩
theorem mZ{gi N M g gw gc gt gn ge:Nat}{S:Nat->List Int}{w0 w:World}(hgi:gi<w0.heap.size)(h6:Six N M S w0 w gw gc gt gn ge)(h0:w0.heap.size<=g)(hn:g∉[gw,gc,gt,gn,ge]):[g,gi,gw,gc,gt,gn,ge].Nodup:=by
 refine List.nodup_cons.2 ⟨fun hm=>?_,List.nodup_cons.2 ⟨fun hm=>?_,h6.nd⟩⟩
 ·rcases List.mem_cons.1 hm with e|e
  ·omega
  ·exact hn e
 ·have:=h6.lo _ hm;omega
theorem mC{at':Int}{ps:List Int}{x:Pt}(h:x∈nD at' ps):∃ k:Nat,k<ps.length/\x=(at',(k:Int),nth ps k):=by
 unfold nD at h;obtain⟨y,hy,rfl⟩:=List.mem_map.1 h;obtain⟨k,hk⟩:=List.mem_iff_getElem?.1 hy;rw[List.getElem?_zipIdx]at hk;cases hp:ps[k]? with
 |none=>rw[hp]at hk;cases hk
 |some p=>
  rw[hp]at hk;have e:y=(p,0+k):=(Option.some.inj hk).symm;subst e;refine⟨k,(List.getElem?_eq_some_iff.1 hp).1,?_⟩;show(at',((0+k:Nat):Int),p)=_
  rw[Nat.zero_add];congr 2
  show p=(ps[k]?).getD 0
  rw[hp];rfl
theorem mA{i:Int}{raw:List Int}{k:Nat}{x:Pt}(h:x∈fU i raw k):∃ j:Nat,j<k/\x=(i,(j:Int),nth raw (4+j)):=by
 unfold fU at h;obtain⟨j,hj,rfl⟩:=List.mem_map.1 h;exact⟨j,List.mem_range.1 hj,rfl⟩
theorem Y4{S:Nat->List Int}{at':Int}{ps:List Int}{x:Pt}:∀ {k:Nat},x∈fQ S at' ps k->∃ j:Nat,j<k/\(x=(at',(j:Int),nth ps j)\/x∈Lp S (nth ps j))
 |0,h=>by cases h
 |k+1,h=>by
  rcases List.mem_append.1 (show x∈fQ S at' ps k++(at',(k:Int),nth ps k)::Lp S (nth ps k)from h)with h|h
  ·obtain⟨j,h1,h2⟩:=Y4 h;exact⟨j,by omega,h2⟩
  ·rcases List.mem_cons.1 h with h|h
   ·exact⟨k,by omega,.inl h⟩
   ·exact⟨k,by omega,.inr h⟩
theorem Vm{S:Nat->List Int}{p:Int}{x:Pt}(h:x∈Lp S p):p≠0/\∃ k:Nat,k<32/\x=(p,(k:Int),nth (Al (S p.toNat)) k):=by
 unfold Lp at h;split at h
 ·cases h
 ·rename_i hp
  obtain⟨k,h1,h2⟩:=mC h;exact⟨hp,k,by simpa using h1,h2⟩
theorem gJ(n:Int){S:Nat->List Int}{i:Int}{raw:List Int}{x:Pt}(h:x∈dP S i raw):
  (∃ j:Nat,j<14/\x=(i,(j:Int),nth raw (4+j)))\/∃ (p:Int) (k:Nat),k<32/\p∈Gh n S raw/\x=(p,(k:Int),nth (Al (S p.toNat)) k):=by
 unfold dP at h;rcases List.mem_append.1 h with h|h
 ·rcases List.mem_append.1 h with h|h
  ·rcases List.mem_append.1 h with h|h
   ·obtain⟨j,h1,h2⟩:=mA h;exact .inl ⟨j,by omega,h2⟩
   ·simp only[List.mem_cons,List.not_mem_nil,or_false]at h;rcases h with h|h
    ·exact .inl ⟨12,by omega,h⟩
    ·exact .inl ⟨13,by omega,h⟩
  ·obtain⟨hp,k,h1,h2⟩:=Vm h;refine .inr ⟨_,k,h1,?_,h2⟩;unfold Gh;refine List.mem_append_right _ (List.mem_append_left _ ?_);show nth raw 16∈(if nth raw 16=0 then []else nth raw 16::(G5 12).tb S 0 (Al (S (nth raw 16).toNat)))++[]
   rw[if_neg hp];simp
 ·have hd:∀ q,q∈(if nth raw 17=0 then []else nth raw 17::(D1 n).tb S 0 (Al (S (nth raw 17).toNat)))++[]->q∈Gh n S raw:=fun q hq=>by
   unfold Gh;exact List.mem_append_right _ (List.mem_append_right _ hq)
  unfold pN at h;split at h
  ·cases h
  ·rename_i hp
   rw[if_neg hp]at hd;obtain⟨j,h1,h2⟩:=Y4 h;rcases h2 with h2|h2
   ·exact .inr ⟨_,j,h1,hd _ (by simp),h2⟩
   ·obtain⟨hq,k,h3,h4⟩:=Vm h2;refine .inr ⟨_,k,h3,hd _ ?_,h4⟩;rw[List.append_nil];refine List.mem_cons_of_mem _ ?_;have gen:∀ (ps:List Int) (k0 j:Nat),nth ps j≠0->nth ps j∈(D1 n).tb S k0 ps:=by
     intro ps;induction ps with
     |nil=>intro k0 j hj;exact absurd rfl hj
     |cons p r ih=>
      intro k0 j hj;show _∈(if p=0 then []else p::(G5 (44+32*(k0:Int))).tb S 0 (Al (S p.toNat)))++(D1 n).tb S (k0+1) r
      cases j with
      |zero=>
       rw[J3]at hj ⊢;rw[if_neg hj];simp
      |succ j=>
       rw[J4]at hj ⊢;exact List.mem_append_right _ (ih (k0+1) j hj)
    exact gen _ 0 j hq
theorem R9(W I:Nat->List Int)(tk:Int->Bool)(q:Int):∀ k,Dn W I tk k q=true↔∃ i:Nat,1<=i/\i<k/\tk (i:Int)=true/\q∈P9 W (I i)
 |0=>⟨fun h=>(by cases h),fun⟨i,_,h,_⟩=>by omega⟩
 |k+1=>by
  have ih:=R9 W I tk q k;by_cases hk:1<=k/\tk (k:Int)=true
  ·rw[Sa hk.1 hk.2];unfold I5;rw[Bool.or_eq_true,ih,List.contains_iff_mem];constructor
   ·rintro (⟨i,a,b,c⟩|h)
    ·exact⟨i,a,by omega,c⟩
    ·exact⟨k,hk.1,by omega,hk.2,h⟩
   ·rintro ⟨i,a,b,c,d⟩;by_cases e:i=k
    ·subst e;exact .inr d
    ·exact .inl ⟨i,a,by omega,c,d⟩
  ·rw[show Dn W I tk (k+1)=Dn W I tk k from if_neg hk,ih];constructor
   ·rintro ⟨i,a,b,c⟩;exact⟨i,a,by omega,c⟩
   ·rintro ⟨i,a,b,c,d⟩;by_cases e:i=k
    ·subst e;exact absurd ⟨a,c⟩ hk
    ·exact⟨i,a,by omega,c,d⟩
theorem iM{W:Nat->List Int}{raw:List Int}{q:Int}:q∈eN W raw↔q≠0/\∃ k:Nat,k<1068/\D6 W raw k=q:=by
 unfold eN spF;rw[List.mem_map];constructor
 ·rintro ⟨x,hx,rfl⟩;rw[List.mem_flatMap]at hx;obtain⟨k,hk,hx⟩:=hx;rw[List.mem_range]at hk;split at hx
  ·cases hx
  ·rename_i h0
   rw[List.mem_singleton]at hx;subst hx;rw[Nat.zero_add]at h0 ⊢;exact⟨h0,k,hk,rfl⟩
 ·rintro ⟨h0,k,hk,rfl⟩;refine⟨((k:Int),D6 W raw k),List.mem_flatMap.2 ⟨k,List.mem_range.2 hk,?_⟩,rfl⟩;rw[Nat.zero_add,if_neg h0];exact List.mem_singleton.2 rfl
theorem Ou{W:Nat->List Int}{raw:List Int}{q:Int}:q∈P9 W raw↔q∈Jp W raw\/(nth raw 0=2/\q≠0/\∃ k:Nat,k<1068/\D6 W raw k=q):=by
 unfold P9;rw[List.mem_append];refine or_congr Iff.rfl ?_;split
 ·rename_i h
  rw[iM];exact⟨fun a=>⟨h,a⟩,fun a=>a.2⟩
 ·rename_i h
  exact⟨fun a=>(by cases a),fun a=>absurd a.1 h⟩
theorem bM{p q:Int}:q∈nz p↔q=p/\p≠0:=by
 unfold nz;split
 ·rename_i h;exact⟨fun a=>(by cases a),fun a=>absurd h a.2⟩
 ·rename_i h;rw[List.mem_singleton];exact⟨fun a=>⟨a,h⟩,fun a=>a.1⟩
theorem Ps{S:Nat->List Int}{raw:List Int}{q:Int}:q∈Jp S raw↔(q=nth raw 16/\nth raw 16≠0)\/(nth raw 17≠0/\(q=nth raw 17\/∃ k,k<32/\q=nth (Al (S (nth raw 17).toNat)) k/\q≠0)):=by
 unfold Jp;rw[List.mem_append,bM];refine or_congr Iff.rfl ?_;split
 ·rename_i h;exact⟨fun a=>(by cases a),fun a=>absurd h a.1⟩
 ·rename_i h
  rw[List.mem_cons,List.mem_flatMap];constructor
  ·rintro (a|⟨p,hp,hq⟩)
   ·exact⟨h,.inl a⟩
   ·obtain⟨rfl,h0⟩:=bM.1 hq;obtain⟨k,hk⟩:=List.getElem?_of_mem hp;have hkl:=(List.getElem?_eq_some_iff.1 hk).1;have hl:(Al (S (nth raw 17).toNat)).length=32:=(by simp);refine⟨h,.inr ⟨k,by omega,?_,h0⟩⟩;generalize Al (S (nth raw 17).toNat)=l at*;unfold nth;rw[hk];rfl
  ·rintro ⟨-,a|⟨k,hk,rfl,h0⟩⟩
   ·exact .inl a
   ·have hl:(Al (S (nth raw 17).toNat)).length=32:=(by simp);exact .inr ⟨_,List.mem_of_getElem? (An (by omega)),bM.2 ⟨rfl,h0⟩⟩
theorem vX{n:Int}{S:Nat->List Int}{raw:List Int}(hr:raw.length=18){q:Int}(hq:q≠0)(h:q∈Dq n S raw):q∈Jp S raw\/∃ k:Nat,k<1068/\D6 S raw k=q:=by
 have h1:=(mB n S hr 0 hq).2 h;unfold Li at h1;obtain⟨x,hx,hxq⟩:=List.mem_map.1 h1;rcases gJ n hx with ⟨j,hj,e⟩|⟨p,k,hk,hp,e⟩
 ·subst e;simp only at hxq;by_cases h12:j<12
  ·exact .inr ⟨j,by omega,by unfold D6;rw[if_pos h12];exact hxq⟩
  ·refine .inl (Ps.2 ?_);by_cases h13:j=12
   ·subst h13;exact .inl ⟨hxq.symm,by rw[hxq];exact hq⟩
   ·obtain rfl:j=13:=(by omega);exact .inr ⟨by rw[hxq];exact hq,.inl hxq.symm⟩
 ·subst e;simp only at hxq;rcases Ps.1 ((Sz n S raw p).2 hp)with ⟨rfl,h0⟩|⟨h17,rfl|⟨j,hj,rfl,h0⟩⟩
  ·refine .inr ⟨12+k,by omega,?_⟩;unfold D6 J0;rw[if_neg (by omega),if_pos (by omega),if_neg h0,show 12+k-12=k by omega];exact hxq
  ·exact .inl (Ps.2 (.inr ⟨h17,.inr ⟨k,hk,hxq.symm,hq⟩⟩))
  ·refine .inr ⟨44+32*j+k,by omega,?_⟩;unfold D6;rw[if_neg (by omega),if_neg (by omega),if_neg h17,show(44+32*j+k-44)/32=j by omega,show(44+32*j+k-44)%32=k by omega];unfold J0;rw[if_neg h0];exact hxq
section
variable {X Y:Int} {A W:Nat->List Int} {L:Nat->List Ent} {z:LZ}
theorem Wn(hY:0<=Y)(h:Un X Y A L z)(ho:fC X Y A W z){i:Nat}{t:TI}(ht:z.T i=some t):
  Dq (Aq (nth t.raw 2)) W t.raw=psT z.st.S t/\(∀ q,q∈Jp W t.raw↔q∈tbT z.st.S t)/\∀ k:Nat,k<1068->t.bk k=H9 (D6 W t.raw k):=by
 obtain⟨a,-,c,d⟩:=tL hY h ho ht;have e:=(ho.yes i t ht).1;rw[e,Vi,C0 _ _ (by decide)]at a;refine⟨a,fun q=>?_,fun k hk=>?_⟩
 ·rw[Sz (Aq (nth t.raw 2)),d]
 ·rw[c k hk,e,X4]
theorem lD(hY:0<=Y){N:Nat}(hX:X=N)(hN:0<N)(h:Un X Y A L z)(ho:fC X Y A W z){i:Nat}{t:TI}(ht:z.T i=some t):Wa N W t.raw/\∀ q∈P9 W t.raw,0<=q/\q<N:=by
 obtain⟨a,b,c⟩:=Wn hY h ho ht;have hps:∀ p∈Dq (Aq (nth t.raw 2)) W t.raw,isD X Y p=true:=fun p hp=>by
  rw[a]at hp;exact((h.w.pz.ok i t ht).1 p hp).1
 obtain⟨h1,h2⟩:=Wf hY hX hN (h.w.inv.snd i t ht).2.1 hps;refine⟨h1,fun q hq=>?_⟩;rcases Ou.1 hq with hq|⟨-,-,k,hk,rfl⟩
 ·have hd:=hps q (Ki _ _ _ _ ((Sz (Aq (nth t.raw 2)) W t.raw q).1 hq));unfold isD at hd;have:=of_decide_eq_true hd;omega
 ·exact h2 k hk
theorem qD(hY:0<=Y)(h:Un X Y A L z)(ho:fC X Y A W z){I:Nat->List Int}(hI:∀ i t,z.T i=some t->I i=t.raw){M:Nat}(hM:(M:Int)=Y+1){q:Int}(hq0:q≠0)(hc:z.st.cl q=true):Dn W I (tkZ z.T) M q=true↔z.st.fm q=true:=by
 rw[R9];have key:∀ i t,z.T i=some t->∀ k:Nat,k<1068->D6 W t.raw k=q->t.bk k=some q:=fun i t ht k hk e=>by
  rw[(Wn hY h ho ht).2.2 k hk,e];unfold H9;rw[if_neg hq0]
 constructor
 ·rintro ⟨i,h1,h2,h3,h4⟩;rw[Ky]at h3;obtain⟨t,ht⟩:=Option.isSome_iff_exists.1 h3;rw[hI i t ht]at h4;rcases Ou.1 h4 with h5|⟨h5,-,k,hk,e⟩
  ·exact(h.w.pz.tb i t ht q (((Wn hY h ho ht).2.1 q).1 h5)).1
  ·exact(h.w.cz.f i t ht k q (key i t ht k hk e)).2 h5
 ·intro hf;obtain⟨i,t,ht,hp⟩:=h.w.pz.un q hc;obtain⟨h1,h2⟩:=h.w.ix i t ht;refine⟨i,h1,by omega,by rw[Ky,ht];rfl,?_⟩;rw[hI i t ht];rw[<-(Wn hY h ho ht).1]at hp;rcases vX (h.w.inv.snd i t ht).2.1 hq0 hp with h5|⟨k,hk,e⟩
  ·exact Ou.2 (.inl h5)
  ·exact Ou.2 (.inr ⟨(h.w.cz.f i t ht k q (key i t ht k hk e)).1 hf,hq0,k,hk,e⟩)
end
theorem Ke{N:Nat}{S I:Nat->List Int}{s s':Nat->Bool}(h:∀ i,i<N->S i≠I i->s i=s' i):Bv N S I s=Bv N S I s':=by
 unfold Bv;congr 1
 refine List.filter_congr (fun i hi=>?_);rw[List.mem_range]at hi;by_cases e:S i=I i
 ·simp[e]
 ·rw[h i hi e]
theorem Po{s:Int->Bool}{m:Nat}:∀ n,m<=n->(∀ i:Nat,m<=i->i<n->s i=false)->C6 n s=C6 m s
 |0,h,_=>by rw[Nat.le_zero.1 h]
 |n+1,h,hs=>by
  by_cases e:m=n+1
  ·rw[e]
  ·rw[Iy,if_neg (by rw[hs n (by omega) (by omega)];simp),List.append_nil];exact Po n (by omega) (fun i a b=>hs i a (by omega))
section
variable {Y:Int} {N:Nat} {A:Nat->List Int} {L:Nat->List Ent} {z:LZ}
theorem gH(hY:1<=Y)(h:Un N Y A L z){I:Nat->List Int}(hI:∀ i t,z.T i=some t->I i=t.raw){M:Nat}(hM:(M:Int)=Y+1):
  wrT N Y (Ck Y z) A (Dn (Ck Y z) I (tkZ z.T) M) 3=Es N Y (Ck Y z) A z.st.fm:=by
 have ho:=sL h;have key:∀ i,i<N->Ck Y z i≠A i->¬ (i:Int)<=Y->Dn (Ck Y z) I (tkZ z.T) M i=z.st.fm i:=fun i hi hne hiY=>by
  have hc:z.st.cl i=true:=by
   cases hcl:z.st.cl i with
   |true=>rfl
   |false=>
    refine absurd ?_ hne;rw[Fw z (by omega)];exact h.w.inv.si.un i hcl
  exact Bool.eq_iff_iff.2 (qD (by omega) h ho hI hM (by omega) hc)
 unfold Es;show(([]++Bv N _ A _)++Bv N _ A _)++Bv N _ A _=_
 rw[List.nil_append];congr 1
 ·congr 1
  ·refine Ke (fun i hi hne=>?_);unfold G8;by_cases hiY:(i:Int)<=Y
   ·rw[if_pos hiY];simp[hiY]
   ·rw[if_neg hiY,key i hi hne hiY];cases z.st.fm i<;>simp[hiY]
  ·refine Ke (fun i hi hne=>?_);unfold G8;by_cases hiY:(i:Int)<=Y
   ·rw[if_pos hiY];simp[hiY]
   ·rw[if_neg hiY,key i hi hne hiY];cases z.st.fm i<;>simp[hiY]
 ·refine Ke (fun i hi hne=>?_);unfold G8;by_cases hiY:(i:Int)<=Y
  ·rw[if_pos hiY];simp[hiY]
  ·rw[if_neg hiY,key i hi hne hiY];cases z.st.fm i<;>simp[hiY]
theorem lE{X:Int}(hY9:Y<4096)(h:Un X Y A L z){M:Nat}(hM:(M:Int)=Y+1):C6 M (Nq (tkZ z.T))=Dz fun p=>(z.T p.toNat).isSome:=by
 unfold Dz;rw[Po (m:=M) 4096 (by omega) (fun i h1 h2=>?_)]
 ·refine Qq (fun i hi=>?_);unfold Nq;rw[Ky,Int.toNat_natCast];cases hT:z.T i with
  |none=>simp
  |some t=>
   have:=(h.w.ix i t hT).1;simp;omega
 ·rw[Int.toNat_natCast];cases hT:z.T i with
  |none=>rfl
  |some t=>
   have:=(h.w.ix i t hT).2;omega
theorem aV(hN:N<=4096)(h:Un N Y A L z):C6 N z.st.cl=Dz z.st.cl:=by
 unfold Dz;rw[Po (m:=N) 4096 hN (fun i h1 h2=>?_)];cases hc:z.st.cl (i:Int)with
 |false=>rfl
 |true=>
  have hd:=h.w.inv.si.cd _ hc;unfold isD at hd;have:=of_decide_eq_true hd;omega
end
end Go.Proofs.YtmnecpnkkapflaaGreat
