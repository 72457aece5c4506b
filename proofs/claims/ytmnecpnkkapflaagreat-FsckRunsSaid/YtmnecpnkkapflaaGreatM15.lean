import Derived.Deep.Upon
import Derived.Test.YtmnecpnkkapflaaGreatM04
import Derived.Test.YtmnecpnkkapflaaGreatM09
import Derived.Test.YtmnecpnkkapflaaGreatM10
import Derived.Test.YtmnecpnkkapflaaGreatM11
import Derived.Test.YtmnecpnkkapflaaGreatM13
import Derived.Test.YtmnecpnkkapflaaGreatM14
namespace Go.Proofs.YtmnecpnkkapflaaGreat
set_option maxHeartbeats 16000000
set_option maxRecDepth 1000000
set_option linter.unusedSimpArgs false
set_option linter.unusedVariables false
open Go.RowKit
section
variable {E:A3} {o:Option Nat} {l:List Int} {tk:Int->Bool} {I:Nat->List Int} {en:Nat->Int}
theorem T0(hE:ROk E)(i:Nat)(hi1:1<=i)(hM:i<E.M){raw:List Int}(hr:raw.length=18)(hz0:0<=nth raw 2)(hz1:nth raw 2<=136704)(st:LS){A:Nat->List Int}(hSI:SI E.X E.Y A (Cs st))(hll:l.length<=100000)(w:World)(h:RG E w o l st.S st.cl tk I en):
  Calls Tryz.prog 67 #[.pointer (some ⟨E.g,0,none⟩),.int .i64 i,.agg (IV .i64 raw)] w fun e w'=>aM E i raw st o l tk I en w e w':=by
 have hB1:Below w.heap.size w (w.alloc (.cells (IV .i64 raw) 78)):=(Below.refl _ _).alloc (Nat.le_refl _) _;have hg1:=(A6 w (.cells (IV .i64 raw) 78)).1;have HG1:=zA (h.below hB1);have HF1:=zA (Af hB1 []);have HLT:Hid (Apt E o w.heap.size):=zA ⟨fun b hb=>by have:=h.lts b hb;omega,fun q hq=>by have:=h.lto q hq;omega⟩;have HWS:Hid (w.heap.size<=w.heap.size):=zA (Nat.le_refl _);have HSI:=zA hSI;have HGB:Hid (RG E (w.alloc (.cells (IV .i64 raw) 78)) o l (Cs st).S (Cs st).cl tk I en):=HG1;have HR:=zA hr;have HLL:=zA hll;have HZ:=zA (show 0<=nth raw 2/\nth raw 2<=136704 from⟨hz0,hz1⟩);obtain⟨n,hn⟩:∃ n:Nat,Aq (nth raw 2)=n:=⟨(Aq (nth raw 2)).toNat,by unfold Aq;omega⟩;have hn9:n<=1068:=by unfold Aq at hn;omega
 have HCT:=zA (fun W=>pL raw hr hz0 hz1 W);rw[hn]at HCT;have HN:=zA hn;clear h hB1 hSI hn HG1;generalize hst0:Cs st=st0 at*;have HST:=zA hst0;clear hst0;go_enter Tryz.func67,Tryz.ntmps67;go_upto_region 1 with fail;generalize w.alloc (.cells (IV .i64 raw) 78)=w1 at*;have hl1:=Aa hg1;have hraw18:(IV .i64 raw).size=18:=by simp[hr]
 go_wp2_with fail;refine(HCT.out _).mono ?_;rintro e w2 ⟨rfl,hb2⟩;have hg2:=(hop hb2 hg1).1;have HG2:=zA (HGB.out.below hb2);have HF2:=zA (HF1.out.trans (Af hb2 []));clear hb2 hg1 hl1 HGB HF1 HCT hraw18;generalize hgx:w.heap.size=gx at*;have HGX:Hid (w.heap.size<=gx):=zA (by omega);clear hgx HWS;go_wp2_with fail
 go_loopw [7] (fun kv wr=>∃ (k:Nat) (pre:List Int) (s:LS),kv= .int .i64 k/\k<=12/\Hid (pre.length=k)/\Hid (RG E wr o l s.S s.cl tk I en)/\Hid (hat wr gx=some (.cells (IV .i64 (Ei raw pre k)) 78))/\Hid (Fr [gx,E.gc] w2 wr)/\
   Hid (∃ b,A0 (Au E.X E.Y) (Cm 0) 0 1 n 0 ((raw.drop 4).take 12) st0=(pre++(A0 (Au E.X E.Y) (Cm 0) 0 1 n k (((raw.drop 4).take 12).drop k) s).1,b||(A0 (Au E.X E.Y) (Cm 0) 0 1 n k (((raw.drop 4).take 12).drop k) s).2.1,(A0 (Au E.X E.Y) (Cm 0) 0 1 n k (((raw.drop 4).take 12).drop k) s).2.2))) (fun v _=>12-(intOf v).toNat)
 case atStart=>exact⟨0,[],st0,rfl,by omega,zA rfl,HG2,zA (by unfold Ei;simpa using hg2),zA (Fr.refl _ _),zA ⟨false,by simp⟩⟩
 case round=>
  obtain⟨k,pre,s,rfl,hk,HL,HG,HT,HF,HE⟩:=hrel;have hT:=HT.out;have hTl:=Aa hT;have hk0:(0:Int)<=(k:Int):=Int.natCast_nonneg _;by_cases hk12:k<12
  ·have hk1:(k:Int)<12:=(by omega);obtain⟨p,hp⟩:∃ p,nth raw (4+k)=p:=⟨_,rfl⟩;have hpk:=fR HR.out hk12;rw[hp]at hpk;have hdr:=Io hpk;obtain⟨bE,hE1⟩:=HE.out;rw[hdr,E6]at hE1;have HSET:=zA (Rw HR.out HL.out (show k<14 by omega));have hkp:=Pf (pre:=pre) HR.out (show k<14 by omega);rw[hp]at hkp;have HKEEP:=zA hkp;have hnk:nth (Ei raw pre k) (4+k)=p:=(by rw[Wi HR.out HL.out (by omega),hp]);have hcl:=Od HR.out HL.out (show k<=14 by omega);have HPL1:∀ x:Int,Hid ((pre++[x]).length=k+1):=fun x=>zA (by simp[HL.out])
   obtain⟨cur,hcur⟩:∃ cur,Ei raw pre k=cur:=⟨_,rfl⟩;rw[hcur]at hT HSET HKEEP hnk hcl;clear hdr hcur HT HE hkp hpk hp;have hcell:(IV .i64 cur)[4+k]? =some (.int .i64 p):=(by rw[Bl,An (by omega),hnk];rfl);by_cases hp0:p=0
   ·rw[if_pos hp0]at hE1;have HE1:=zA hE1;have d1:(p !=0)=false:=(by simpa using hp0);have HT1:Hid (hat wr gx=some (.cells (IV .i64 (Ei raw (pre++[0]) (k+1))) 78)):=zA (by rw[<-hp0, <-HKEEP.out];exact hT);clear hE1 hp0;go_wp2_with fail;go_roundw
    case rel=>exact⟨k+1,pre++[0],s,by go_num,by omega,HPL1 0,HG,HT1,HF,zA ⟨bE,by rw[HE1.out];simp⟩⟩
    case measure=>(show 12-(k+1)<12-k);omega
   ·rw[if_neg hp0]at hE1;have d1:(p !=0)=true:=(by simpa using hp0);have HST2:∀ W,Hid (hat W gx=some (.cells (IV .i64 cur) 78)->hat (W.setCell ⟨gx,4+k,none⟩ (.int .i64 0)) gx=some (.cells (IV .i64 (Ei raw (pre++[0]) (k+1))) 78)):=fun W=>zA (fun hW=>by
     have:=Ah W gx (4+k) (.int .i64 0) _ _ _ hW;rw[Ng,HSET.out]at this;exact this)
    have HGS:∀ W s',Hid (RG E W o l (LS.S s') (LS.cl s') tk I en->RG E (W.setCell ⟨gx,4+k,none⟩ (.int .i64 0)) o l (LS.S s') (LS.cl s') tk I en):=fun W s'=>zA (fun hW=>hW.fr (Ai W gx (4+k) _) (fun b hb=>by simpa using HLT.out.1 b hb) (fun q hq=>by simpa using HLT.out.2 q hq))
    clear HSET;by_cases hn:(n:Int)<=0+1*(k:Int)
    ·rw[if_pos hn]at hE1;have HE1:=zA hE1;have hn2:(n:Int)<=(k:Int):=(by omega);have HT4:=zA ((HST2 wr).out hT);have HG4:=zA ((HGS wr s).out HG.out);have HF4:=zA (HF.out.trans ((Ai wr gx (4+k) (.int .i64 0)).mono (ex':=[gx,E.gc]) (by simp)));clear hE1 hn HST2 HGS HKEEP;go_wp2_with fail;go_roundw
     case rel=>exact⟨k+1,pre++[0],s,by go_num,by omega,HPL1 0,HG4,HT4,HF4,zA ⟨bE,by rw[HE1.out];simp⟩⟩
     case measure=>(show 12-(k+1)<12-k);omega
    ·rw[if_neg hn]at hE1;have hn2:¬ (n:Int)<=(k:Int):=(by omega);have HC:=zA (J8 hE p s wr HG.out);have HE1:=zA hE1;have HTW:=zA hT;have HGTC:Hid (gx≠E.gc):=zA (fun e=>HLT.out.1 E.gc (by simp[A3.bs]) e.symm);clear hE1 hn;go_wp2_with fail;refine HC.out.mono ?_;rintro e w3 ⟨rfl,hg3,hf3⟩;have hT3:hat w3 gx=some (.cells (IV .i64 cur) 78):=(hf3.block gx (Aa HTW.out) (by simpa using HGTC.out)).trans HTW.out;have HF3:=zA (HF.out.trans (hf3.mono (ex':=[gx,E.gc]) (by simp)));have hT3l:=Aa hT3;clear hf3 HC hT hTl HTW;cases hgd:(Au E.X E.Y p s).1 with
     |false=>
      have hE2:=HE1.out;rw[if_pos hgd]at hE2;have HE2:=zA hE2;have HT4:=zA ((HST2 w3).out hT3);have HG4:=zA ((HGS w3 (Au E.X E.Y p s).2).out hg3);have HF4:=zA (HF3.out.trans ((Ai w3 gx (4+k) (.int .i64 0)).mono (ex':=[gx,E.gc]) (by simp)));clear hE2 hg3 HST2 HGS HKEEP HE1;generalize (Au E.X E.Y p s).2=s3 at*;go_wp2_with fail;go_roundw
      case rel=>exact⟨k+1,pre++[0],s3,by go_num,by omega,HPL1 0,HG4,HT4,HF4,zA ⟨bE,by rw[HE2.out];simp⟩⟩
      case measure=>(show 12-(k+1)<12-k);omega
     |true=>
      have hE2:=HE1.out;rw[if_neg (by rw[hgd];simp),if_neg (by simp[Cm])]at hE2;have HE2:=zA hE2;have HG3:Hid (RG E w3 o l (Cm 0 k p (Au E.X E.Y p s).2).2.S (Cm 0 k p (Au E.X E.Y p s).2).2.cl tk I en):=zA hg3;have HT3:Hid (hat w3 gx=some (.cells (IV .i64 (Ei raw (pre++[p]) (k+1))) 78)):=zA (by rw[<-HKEEP.out];exact hT3);clear hE2 hg3 HST2 HGS HKEEP HE1;generalize (Cm 0 k p (Au E.X E.Y p s).2).2=s3 at*;go_wp2_with fail;go_roundw
      case rel=>exact⟨k+1,pre++[p],s3,by go_num,by omega,HPL1 p,HG3,HT3,HF3,zA ⟨true,by rw[HE2.out];simp⟩⟩
      case measure=>(show 12-(k+1)<12-k);omega
  ·obtain rfl:k=12:=(by omega);obtain⟨bE,hE1⟩:=HE.out;have hd:((raw.drop 4).take 12).drop 12=[]:=List.drop_of_length_le (by simp;omega);rw[hd]at hE1;change _=(pre++[],bE||false,s)at hE1;rw[List.append_nil]at hE1;have HA:Hid (J9 E.X E.Y n 0 ((raw.drop 4).take 12) st0=(pre,bE||false,s)):=zA hE1;have HF3:Hid (Fr [gx,E.gc,E.gw] w wr):=zA ((HF2.out.mono (ex':=[gx,E.gc,E.gw]) (by simp)).trans (HF.out.mono (ex':=[gx,E.gc,E.gw]) (by simp)));clear hE1 hd HE hk12 HF;obtain⟨w3,hw3⟩:∃ x,x=wr:=⟨_,rfl⟩;subst hw3;have HB0:=Zx (Au E.X E.Y) (Lt E.X E.Y n) 12 n (nth raw 16) s
   have HPX:Hid (Az E.X E.Y n raw st0=(raw.take 4++(pre++((A0 (Au E.X E.Y) (Lt E.X E.Y n) 12 1 n 0 [nth raw 16] s).1++(A0 (Au E.X E.Y) (Kj E.X E.Y n) 44 1 n 0 [nth raw 17] (A0 (Au E.X E.Y) (Lt E.X E.Y n) 12 1 n 0 [nth raw 16] s).2.2).1)),(A0 (Au E.X E.Y) (Kj E.X E.Y n) 44 1 n 0 [nth raw 17] (A0 (Au E.X E.Y) (Lt E.X E.Y n) 12 1 n 0 [nth raw 16] s).2.2).2.2)):=zA (by
    unfold Az;simp only[HA.out])
   generalize A0 (Au E.X E.Y) (Lt E.X E.Y n) 12 1 n 0 [nth raw 16] s=B at*;have HCUR:Hid (Ei raw pre 12=Ei raw pre 12/\pre.length=12):=zA ⟨rfl,HL.out⟩;have hn16:nth (Ei raw pre 12) 16=nth raw 16:=Wi HR.out HL.out (by omega);have hcl:=Od HR.out HL.out (show 12<=14 by omega);obtain⟨p,hp⟩:∃ p,nth raw 16=p:=⟨_,rfl⟩;rw[hp]at hn16 HB0;have HP16:=zA hp;obtain⟨cur,hcur⟩:∃ cur,Ei raw pre 12=cur:=⟨_,rfl⟩;rw[hcur]at hT hn16 hcl;have HCU:=zA hcur;have hcell:(IV .i64 cur)[16]? =some (.int .i64 p):=(by rw[Bl,An (by omega),hn16];rfl);clear hp hcur HT;go_upto_region 7 with fail;go_cut [63]from 14 (fun c wx=>∃ z:Bool,c= .bool z/\Hid (RG E wx o l B.2.2.S B.2.2.cl tk I en)/\Hid (hat wx gx=some (.cells (IV .i64 cur) 78))/\Hid (Fr [gx,E.gc,E.gw] w wx)/\Hid (B.1=[zOr z p]))
   case first=>
    by_cases hp0:p=0
    ·rw[if_pos hp0]at HB0;have d1:(p !=0)=false:=(by simpa using hp0);have HZZ:Hid (B.1=[zOr false p]):=zA (by rw[HB0,hp0];rfl);have HGG:Hid (RG E w3 o l B.2.2.S B.2.2.cl tk I en):=zA (by rw[HB0];exact HG.out);have HTT:=zA hT;clear HB0 hp0;go_wp2_with fail;go_meet
     case rel=>exact⟨false,rfl,HGG,HTT,HF3,HZZ⟩
    ·rw[if_neg hp0]at HB0;have d1:(p !=0)=true:=(by simpa using hp0);by_cases hn:(n:Int)<=12
     ·rw[if_pos hn]at HB0;have HZZ:Hid (B.1=[zOr true p]):=zA (by rw[HB0];rfl);have HGG:Hid (RG E w3 o l B.2.2.S B.2.2.cl tk I en):=zA (by rw[HB0];exact HG.out);have HTT:=zA hT;clear HB0 hp0;go_wp2_with fail;go_meet
      case rel=>exact⟨true,rfl,HGG,HTT,HF3,HZZ⟩
     ·rw[if_neg hn]at HB0;have HC:=zA (J8 hE p s w3 HG.out);have HTW:=zA hT;have HGTC:Hid (gx≠E.gc/\gx≠E.gw):=zA ⟨fun e=>HLT.out.1 E.gc (by simp[A3.bs]) e.symm,fun e=>HLT.out.1 E.gw (by simp[A3.bs]) e.symm⟩;have HB1:=zA HB0;clear hp0 HB0;go_wp2_with fail;refine HC.out.mono ?_;rintro e w4 ⟨rfl,hg4,hf4⟩;have hT4:hat w4 gx=some (.cells (IV .i64 cur) 78):=(hf4.block gx (Aa HTW.out) (by simpa using HGTC.out.1)).trans HTW.out;have HF4:=zA (HF3.out.trans (hf4.mono (ex':=[gx,E.gc,E.gw]) (by simp)));have HG4:=zA hg4;have HT4:=zA hT4;have hT4l:=Aa hT4;clear hf4 HC hT hTl HTW hg4;cases hgd:(Au E.X E.Y p s).1 with
      |false=>
       have hE2:=HB1.out;rw[if_pos hgd]at hE2;have HZZ:Hid (B.1=[zOr true p]):=zA (by rw[hE2];rfl);have HGG:Hid (RG E w4 o l B.2.2.S B.2.2.cl tk I en):=zA (by rw[hE2];exact HG4.out);clear hE2 HB1;go_wp2_with fail;go_meet
       case rel=>exact⟨true,rfl,HGG,HT4,HF4,HZZ⟩
      |true=>
       have hE2:=HB1.out;rw[if_neg (by rw[hgd];simp)]at hE2;have hlt:=Ww hE (Mi hgd);obtain⟨pn,rfl⟩:=Int.eq_ofNat_of_zero_le hlt.1;have hpN:pn<E.N:=(by omega);have HC:=zA (Vw hE pn hpN 12 n (by decide) (by decide) (Au E.X E.Y pn s).2 w4 HG4.out);have hkp:Lt E.X E.Y n 0 (pn:Int) (Au E.X E.Y pn s).2=C7 (J9 E.X E.Y n 12) pn (Au E.X E.Y pn s).2:=rfl;rw[hkp]at hE2;generalize C7 (J9 E.X E.Y n 12) pn (Au E.X E.Y pn s).2=R at*;have HE2:=zA hE2;clear hE2 HB1 hkp hlt;go_wp2_with fail;refine HC.out.mono ?_;rintro e w5 ⟨rfl,hg5,hf5⟩;have hE3:=HE2.out;have HT5:Hid (hat w5 gx=some (.cells (IV .i64 cur) 78)):=zA ((hf5.block gx (Aa HT4.out) (by simpa using HGTC.out)).trans HT4.out);have HF5:=zA (HF4.out.trans (hf5.mono (ex':=[gx,E.gc,E.gw]) (by simp)));cases hR1:R.1 with
       |false=>
        rw[if_pos hR1]at hE3;have HZZ:Hid (B.1=[zOr true (pn:Int)]):=zA (by rw[hE3];rfl);have HGG:Hid (RG E w5 o l B.2.2.S B.2.2.cl tk I en):=zA (by rw[hE3];exact hg5);clear hE3 hg5 hf5 HE2 HC;go_wp2_with fail;go_meet
        case rel=>exact⟨true,rfl,HGG,HT5,HF5,HZZ⟩
       |true=>
        rw[if_neg (by rw[hR1];simp)]at hE3;have HZZ:Hid (B.1=[zOr false (pn:Int)]):=zA (by rw[hE3];rfl);have HGG:Hid (RG E w5 o l B.2.2.S B.2.2.cl tk I en):=zA (by rw[hE3];exact hg5);clear hE3 hg5 hf5 HE2 HC;go_wp2_with fail;go_meet
        case rel=>exact⟨false,rfl,HGG,HT5,HF5,HZZ⟩
   case rest=>
    obtain⟨z,hz,HGb,HTb,HFb,HZb⟩:=hcut;subst hz;clear HB0 HG HF3 hT hTl;go_upto_if 63 with fail;go_cut []from 14 (fun wx=>Hid (RG E wx o l B.2.2.S B.2.2.cl tk I en)/\Hid (hat wx gx=some (.cells (IV .i64 (Ei raw (pre++B.1) 13)) 78))/\Hid (Fr [gx,E.gc,E.gw] w wx))
    case first=>
     have hT:=HTb.out;have hTl:=Aa hT;cases z with
     |false=>
      have HT4:Hid (hat wc gx=some (.cells (IV .i64 (Ei raw (pre++B.1) 13)) 78)):=zA (by
       rw[HZb.out,show zOr false p=nth raw (4+12)from HP16.out.symm, <-Pf HR.out (by decide),HCU.out];exact hT)
      go_wp2_with fail;go_meet
      case rel=>exact⟨HGb,HT4,HFb⟩
     |true=>
      have HT4:Hid (hat (wc.setCell ⟨gx,16,none⟩ (.int .i64 0)) gx=some (.cells (IV .i64 (Ei raw (pre++B.1) 13)) 78)):=zA (by
       have:=Ah wc gx 16 (.int .i64 0) _ _ _ hT;rw[Ng, <-HCU.out,show(16:Nat)=4+12 from rfl,Rw HR.out HL.out (by decide)]at this;rw[HZb.out];exact this)
      have HG4:=zA (HGb.out.fr (Ai wc gx 16 (.int .i64 0)) (fun b hb=>by simpa using HLT.out.1 b hb) (fun q hq=>by simpa using HLT.out.2 q hq));have HF4:=zA (HFb.out.trans ((Ai wc gx 16 (.int .i64 0)).mono (ex':=[gx,E.gc,E.gw]) (by simp)));go_wp2_with fail;go_meet
      case rel=>exact⟨HG4,HT4,HF4⟩
    case rest=>
     obtain⟨HG,HT,HF⟩:=hcut;have HLB:Hid ((pre++B.1).length=13):=zA (by rw[HZb.out];simp[HL.out]);have e0:=HST.out;subst e0;refine(show ∀ a w,Code.wp _ (tkC 4) _ a w->_ from by assumption) _ _ (tX hE i n gx hM st HR HZ HN hn9 HSI HLL w wc HLT HGX (pre++B.1) B.2.2 HLB (zA ?_) HG HT HF _ _ _ _ _ _ _ _ _ _ _ _ _ _ _ _ _ _ _ _ _ _ _ _ _ _ _ _ _ _ _ _ _ _ _ _ _ _ _ _ _ _ _ _ _ _ _ _ _ _ _ _ _ _ _ _ _ _ _ _ _ _ _ _ _ _ _ _ _ _ _ _ _ _ _ _ _ _ _ _ _ _ _ _ _ _ _ _ _ _ _ _ _ _ _ _ _ _ _ _ _ _ _ _ _ _ _ _ _ _ _ _ _ _ _ _ _ _ _ _ _ _ _ _ _ _ _ _ _ _ _ _ _ _ _ _ _ _ _ _ _ _ _ _ _ _ _ _ _ _ _ _ _ _ _ _ _ _ _ _ _ _ _ _ _ _ _ _ _ _ _ _ _ _ _ _ _ _ _ _ _ _ _ _ _ _ _ _ _ _ _ _ _ _ _ _);have:=HPX.out;rw[<-List.append_assoc pre]at this;exact this
end
def Nz(ops:Array Oper):Nat->Nat->Nat->Bool
 |0,_,_=>false
 |f+1,i,j=>match ops[i]? with|none=>false|some o=>(Oper.needs o).any fun m=>m==j||Nz ops f m j
def J7(ops:Array Oper)(N:Nat):Bool:=
 (ops.toList.zipIdx.all fun(o,i)=>(Oper.needs o).all (· <i)&&(i<N||(List.range i).all fun j=>Nz ops ops.size i j))&&
 N<=ops.size&&
 ((Dk (ops.toList.take N)).Nodup:Bool)
theorem Kr{ops:Array Oper}{L:Array Bool}(hcl:∀ j oj,ops[j]? =some oj->L.getD j false=true->∀ m∈Oper.needs oj,L.getD m false=true):∀ (f i:Nat) (o:Oper) (j:Nat),ops[i]? =some o->(∀ m∈Oper.needs o,L.getD m false=true)->Nz ops f i j=true->L.getD j false=true
 |0,_,_,_,_,_,h=>by cases h
 |f+1,i,o,j,ho,hn,h=>by
  unfold Nz at h;rw[ho]at h;simp only[List.any_eq_true,Bool.or_eq_true,beq_iff_eq]at h;obtain⟨m,hm,rfl|h⟩:=h
  ·exact hn m hm
  ·cases hom:ops[m]? with
   |none=>cases f<;>simp[Nz,hom]at h
   |some om=>exact Kr hcl f m om j hom (hcl m om hom (hn m hm)) h
section
variable {P:Program} {ops:Array Oper} {N:Nat} {Q:Exit->Act->World->Prop}
theorem L3(h:J7 ops N=true):(∀ i o,ops[i]? =some o->∀ j∈Oper.needs o,j<i)/\(∀ i o,ops[i]? =some o->N<=i->∀ j,j<i->Nz ops ops.size i j=true)/\N<=ops.size/\(Dk (ops.toList.take N)).Nodup:=by
 unfold J7 at h;simp only[Bool.and_eq_true,List.all_eq_true,decide_eq_true_eq]at h;obtain⟨⟨h1,h2⟩,h3⟩:=h;have key:∀ i o,ops[i]? =some o->(∀ x∈Oper.needs o,x<i)/\(i<N\/∀ j<i,Nz ops ops.size i j=true):=by
  intro i o hi;have:=h1 (o,i) (by simp[List.mem_zipIdx_iff_getElem?,hi]);simpa using this
 refine⟨fun i o hi=>(key i o hi).1,fun i o hi hN j hj=>?_,h2,h3⟩;rcases (key i o hi).2 with h|h
 ·omega
 ·exact h j hj
theorem Q0(hok:J7 ops N=true):∀ (fuel k:Nat) (L:Array Bool) (a:Act) (w:World),N<=k->k<=ops.size->ops.size-k<=fuel->L.size=ops.size->
  (∀ j,j<ops.size->L.getD j true=decide (j<k))->wpList P ops Q (ops.toList.drop k) a w->wpAny P .any ops Q fuel L a w:=by
 obtain⟨hb,ht,-,-⟩:=L3 hok;intro fuel;induction fuel with
 |zero=>
  intro k L a w hN hk hf hL hLk h;have:k=ops.size:=(by omega);subst this;refine⟨?_,by rw[List.drop_of_length_le (by simp)]at h;exact h⟩;apply List.eq_nil_iff_forall_not_mem.2
  intro i hi;obtain⟨o,ho,h1,-⟩:=Gk hL hi;have hlt:i<ops.size:=(Array.getElem?_eq_some_iff.1 ho).1;rw[hLk i hlt]at h1;simp at h1;omega
 |succ fuel ih=>
  intro k L a w hN hk hf hL hLk h;refine⟨?_,?_⟩
  ·intro hr;by_cases hks:k=ops.size
   ·subst hks;rw[List.drop_of_length_le (by simp)]at h;exact h
   ·exfalso
    have hlt:k<ops.size:=(by omega);have:k∈Region.ready .any ops L:=by
     refine J6 (o:=ops[k]) (by simp[hlt]) (by rw[hLk k hlt];simp) ?_;intro j hj;have hjk:=hb k ops[k] (by simp[hlt]) j hj;have:=hLk j (by omega);have hjs:j<L.size:=(by omega);simp[hjs]at this ⊢;rw[this];simpa using hjk
    rw[hr]at this;simp at this
  ·intro i hi;obtain⟨o,ho,h1,h2⟩:=Gk hL hi;have hlt:i<ops.size:=(Array.getElem?_eq_some_iff.1 ho).1;have hik:i=k:=by
    rw[hLk i hlt]at h1;simp at h1;by_cases hgt:k<i
    ·exfalso
     have hcl:∀ j oj,ops[j]? =some oj->L.getD j false=true->∀ m∈Oper.needs oj,L.getD m false=true:=by
      intro j oj hj hjL m hm;have hjs:=(Array.getElem?_eq_some_iff.1 hj).1;have h5:=hLk j hjs;have hjs':j<L.size:=(by omega);have hmj:=hb j oj hj m hm;have h6:=hLk m (by omega);have hms':m<L.size:=(by omega);simp[hjs']at h5 hjL;simp[hms']at h6 ⊢;rw[hjL]at h5;rw[h6];simp at h5 ⊢;omega
     have:=Kr hcl _ i o k ho h2 (ht i o ho (by omega) k hgt);have h3:=hLk k (by omega);have hks:k<L.size:=(by omega);simp[hks]at this h3;rw[this]at h3;simp at h3
    ·omega
   subst hik;have hd:ops.toList.drop i=o::ops.toList.drop (i+1):=by
    rw[List.drop_eq_getElem_cons (by simpa using hlt)];congr 1
    have:=(Array.getElem?_eq_some_iff.1 ho).2;simpa using this
   rw[hd]at h;have hnext:∀ a w,wpList P ops Q (ops.toList.drop (i+1)) a w->wpAny P .any ops Q fuel (L.setIfInBounds i true) a w:=by
    intro a w h;refine ih (i+1) _ a w (by omega) (by omega) (by omega) (by simpa using hL) ?_ h;intro j hj;have:=hLk j hj;have hjs:j<L.size:=(by omega);by_cases hji:j=i
    ·subst hji;simp[hjs]
    ·simp[hjs,Array.getElem_setIfInBounds,Ne.symm hji]at this ⊢;rw[this];simp;omega
   unfold wpOp;simp only[ho];unfold wpList at h;split
   ·rename_i hw
    rw[if_pos hw]at h;exact h.imp (Oper.wp_mono hnext) id
   ·rename_i hw
    rw[if_neg hw]at h;exact hnext _ _ h
theorem Qc{id:Nat}{a:Act}{w:World}(hm:P.follows .mixedOrders=true)(N:Nat)(hok:J7 ops N=true)
  (hsz:(Dk (ops.toList.take N)).all (· <a.tmps.size)=true)
  (I:World->Prop) (E:World->World->Prop) (G:Nat->Value->World->Prop)
  (h0:I w.drew)
  (hE:∀ i v w w',i<N->I w->I w'->E w w'->G i v w->G i v w')
  (hs:∀ i o,i<N->ops[i]? =some o->∀ a' w',I w'->F5 ops N a a'->
   (∀ j∈Oper.needs o,∀ oj d,ops[j]? =some oj->oj.dst=some d->G j (gt a' d) w')->
   wpOp P ops Q i (fun a'' w''=>∃ v,a''=a'.put o.dst v/\I w''/\E w' w''/\G i v w'') a' w')
  (he:∀ a' w',I w'->F5 ops N a a'->(∀ j oj d,j<N->ops[j]? =some oj->oj.dst=some d->G j (gt a' d) w')->
   wpList P ops Q (ops.toList.drop N) a' w'):
  (Code.region id ops true).wp P Q a w:=by
 obtain⟨hb,ht,hNs,hnd⟩:=L3 hok;refine wp_region_any hm ?_
 have key:∀ (fuel:Nat) (L:Array Bool) (a':Act) (w':World),L.size=ops.size->Ga L<=fuel->(∀ j,N<=j->j<ops.size->L.getD j true=false)->
   (∀ j oj,ops[j]? =some oj->L.getD j false=true->∀ m∈Oper.needs oj,L.getD m false=true)->I w'->F5 ops N a a'->(∀ j oj d,j<N->L.getD j true=true->ops[j]? =some oj->oj.dst=some d->G j (gt a' d) w')->wpAny P .any ops Q fuel L a' w':=by
  intro fuel;induction fuel with
  |zero=>
   intro L a' w' hL hf htl hcl hI hS hG;have hall:∀ j,j<ops.size->L.getD j true=true:=by
    intro j hj;cases hv:L.getD j true with
    |true=>rfl
    |false=>have:=Ff hv;omega
   have hN:N=ops.size:=by
    by_cases h:N<ops.size
    ·have:=htl N (Nat.le_refl _) h;rw[hall N h]at this;simp at this
    ·omega
   refine Q0 hok 0 N L a' w' (Nat.le_refl _) (by omega) (by omega) hL (fun j hj=>by rw[hall j hj];simp;omega) ?_;exact he a' w' hI hS (fun j oj d hj ho hd=>hG j oj d hj (hall j (by omega)) ho hd)
  |succ fuel ih=>
   intro L a' w' hL hf htl hcl hI hS hG;by_cases hall:∀ j,j<N->L.getD j true=true
   ·refine Q0 hok (fuel+1) N L a' w' (Nat.le_refl _) hNs ?_ hL ?_ (he a' w' hI hS (fun j oj d hj ho hd=>hG j oj d hj (hall j hj) ho hd))
    ·
     have:∀ (n:Nat) (l:List Bool),(∀ j,n<=j->j<l.length->l[j]? =some false)->l.length-n<=l.countP (· ==false):=by
      intro n;induction n with
      |zero=>
       intro l;induction l with
       |nil=>intro _;simp
       |cons b l ihl=>
        intro h;have h0:=h 0 (Nat.le_refl _) (by simp);simp at h0;subst h0;have:=ihl (fun j _ hj=>by have:=h (j+1) (by omega) (by simp;omega);simpa using this);simp at this ⊢;omega
      |succ n ihn=>
       intro l;cases l with
       |nil=>intro _;simp
       |cons b l=>
        intro h;have:=ihn l (fun j hj hjl=>by have:=h (j+1) (by omega) (by simp;omega);simpa using this);simp[List.countP_cons]at this ⊢;omega
     have h2:=this N L.toList (fun j hj hjl=>by
      have hjs:j<L.size:=(by simpa using hjl);have:=htl j hj (by omega);simp[hjs]at this ⊢;exact this)
     unfold Ga at hf;simp at h2;simp at hf;omega
    ·intro j hj;by_cases hjN:j<N
     ·rw[hall j hjN];simp[hjN]
     ·rw[htl j (by omega) hj];simp[hjN]
   ·refine⟨?_,?_⟩
    ·intro hr;exfalso
     have hex:∃ j,j<N/\L.getD j true=false:=by
      false_or_by_contra
      rename_i hne
      apply hall
      intro j hj;cases hv:L.getD j true with
      |true=>rfl
      |false=>exact(hne ⟨j,hj,hv⟩).elim
     have least:∀ n,(∃ j,j<n/\j<N/\L.getD j true=false)->∃ j,j<N/\L.getD j true=false/\∀ k,k<j->L.getD k true=true:=by
      intro n;induction n with
      |zero=>rintro ⟨j,hj,_⟩;omega
      |succ n ihn=>
       rintro ⟨j,hj,hjN,hv⟩;by_cases hlow:∃ k,k<j/\L.getD k true=false
       ·obtain⟨k,hk,hkv⟩:=hlow;exact ihn ⟨k,by omega,by omega,hkv⟩
       ·refine⟨j,hjN,hv,fun k hk=>?_⟩;cases hkv:L.getD k true with
        |true=>rfl
        |false=>exact(hlow ⟨k,hk,hkv⟩).elim
     obtain⟨j0,hj0,hv0⟩:=hex;obtain⟨j,hjN,hv,hlow⟩:=least (j0+1) ⟨j0,by omega,hj0,hv0⟩;have hlt:j<ops.size:=(by omega);have:j∈Region.ready .any ops L:=by
      refine J6 (o:=ops[j]) (by simp[hlt]) hv ?_;intro k hk;have hkj:=hb j ops[j] (by simp[hlt]) k hk;have h3:=hlow k hkj;have hks:k<L.size:=(by omega);simp[hks]at h3 ⊢;exact h3
     rw[hr]at this;simp at this
    ·intro i hi;obtain⟨o,ho,h1,h2⟩:=Gk hL hi;have hlt:i<ops.size:=(Array.getElem?_eq_some_iff.1 ho).1;have hiN:i<N:=by
      by_cases h:i<N
      ·exact h
      ·exfalso
       apply hall
       intro j hj;have:=Kr hcl _ i o j ho h2 (ht i o ho (by omega) j (by omega));have hjs:j<L.size:=(by omega);simp[hjs]at this ⊢;exact this
     refine wpOp_mono ?_ (hs i o hiN ho a' w' hI hS ?_)
     ·rintro a'' w'' ⟨v,rfl,hI',hE',hGi⟩;have hidst:∀ d,o.dst=some d->d∈Dk (ops.toList.take N):=by
       intro d hd;unfold Dk;refine List.mem_filterMap.2 ⟨o,?_,hd⟩;have hv:=(Array.getElem?_eq_some_iff.1 ho).2;rw[List.mem_take_iff_getElem];exact⟨i,by simp;omega,by simpa using hv⟩
      refine ih _ _ _ (by simpa using hL) (by have:=Ff h1;omega) ?_ ?_ hI' ?_ ?_
      ·intro j hj hjs;have:=htl j hj hjs;have hjs':j<L.size:=(by omega);simp[hjs',Array.getElem_setIfInBounds,show i≠j by omega]at this ⊢;exact this
      ·intro j oj hj hjL m hm;have hms:m<j:=hb j oj hj m hm;have hjs:=(Array.getElem?_eq_some_iff.1 hj).1;have hms':m<L.size:=(by omega);have hjs':j<L.size:=(by omega);have hmL:L.getD m false=true:=by
        by_cases hji:j=i
        ·subst hji;rw[ho]at hj;cases hj;exact h2 m hm
        ·refine hcl j oj hj ?_ m hm;simp[hjs',Array.getElem_setIfInBounds,Ne.symm hji]at hjL ⊢;exact hjL
       simp[hms',Array.getElem_setIfInBounds]at hmL ⊢;exact .inr hmL
      ·refine⟨by rw[Ka];exact hS.size,by rw[Iu];exact hS.defers,?_⟩;intro t ht';rw[Fv]
       ·exact hS.other t ht'
       ·intro e;exact ht' (hidst t e)
      ·intro j oj d hj hjL hoj hd;by_cases hji:j=i
       ·subst hji;rw[ho]at hoj;have hoe:o=oj:=(by simpa using hoj);subst hoe;rw[hd,Jz _ _ _ (by rw[hS.size];simpa using (List.all_eq_true.1 hsz) d (hidst d hd))];exact hGi
       ·have hjs':j<L.size:=(by omega);have hjL':L.getD j true=true:=by
         simp[hjs',Array.getElem_setIfInBounds,Ne.symm hji]at hjL ⊢;exact hjL
        have hg:=hG j oj d hj hjL' hoj hd;rw[Fv]
        ·exact hE j _ _ _ hj hI hI' hE' hg
        ·intro e;have hne:∀ (l:List Oper),(Dk l).Nodup->∀ (i j:Nat) (oi oj:Oper) (d:Nat),l[i]? =some oi->l[j]? =some oj->oi.dst=some d->oj.dst=some d->i=j:=by
          intro l;induction l with
          |nil=>intro _ i j oi oj d hi;simp at hi
          |cons x l ihl=>
           intro hnd i j oi oj d hi hj hdi hdj;have hnd':(Dk l).Nodup:=by
            unfold Dk at hnd ⊢;rw[List.filterMap_cons]at hnd;split at hnd
            ·exact hnd
            ·exact(List.nodup_cons.1 hnd).2
           have hx:∀ (j:Nat) (oj:Oper),l[j]? =some oj->oj.dst=some d->x.dst≠some d:=by
            intro j oj hj hdj hxd;unfold Dk at hnd;rw[List.filterMap_cons,hxd]at hnd;have:=(List.nodup_cons.1 hnd).1;apply this
            exact List.mem_filterMap.2 ⟨oj,List.mem_of_getElem? hj,hdj⟩
           cases i with
           |zero=>
            simp at hi;subst hi;cases j with
            |zero=>rfl
            |succ j=>simp at hj;exact(hx j oj hj hdj hdi).elim
           |succ i=>
            simp at hi;cases j with
            |zero=>simp at hj;subst hj;exact(hx i oi hi hdi hdj).elim
            |succ j=>simp at hj;rw[ihl hnd' i j oi oj d hi hj hdi hdj]
         have:=hne (ops.toList.take N) hnd i j o oj d (by simp[List.getElem?_take,hiN,ho]) (by simp[List.getElem?_take,hj,hoj]) e hd;exact hji this.symm
     ·intro j hj oj d hoj hd;have hjL:=h2 j hj;have hji:=hb i o ho j hj;have hjs:j<L.size:=(by omega);exact hG j oj d (by omega) (by simp[hjs]at hjL ⊢;exact hjL) hoj hd
 refine key ops.size (Array.replicate ops.size false) a {w with drawn:=w.drawn+1} (by simp) ?_ ?_ ?_ h0 ⟨rfl,rfl,fun _ _=>rfl⟩ ?_
 ·have:=List.countP_le_length (p:=(· ==false)) (l:=(Array.replicate ops.size false).toList);unfold Ga;simpa using this
 ·intro j _ hj;simp[hj]
 ·intro j oj hj hjL;have hjs:=(Array.getElem?_eq_some_iff.1 hj).1;simp[hjs]at hjL
 ·intro j oj d hj hjL;simp[show j<ops.size by omega]at hjL
theorem Im{id:Nat}{a:Act}{w:World}(hm:P.follows .mixedOrders=true)(N:Nat)(hok:J7 ops N=true)
  (hsz:(Dk (ops.toList.take N)).all (· <a.tmps.size)=true)
  (I:World->Prop) (E:World->World->Prop) (G:Nat->Value->World->Prop)
  (h0:I w.drew)
  (hE:∀ i v w w',i<N->I w->I w'->E w w'->G i v w->G i v w')
  (hs:∀ i o,i<N->ops[i]? =some o->∀ a' w',I w'->(∀ t,t∉Dk (ops.toList.take N)->gt a' t=gt a t)->
   (∀ j∈Oper.needs o,∀ oj d,ops[j]? =some oj->oj.dst=some d->G j (gt a' d) w')->
   wpOp P ops Q i (fun a'' w''=>∃ v,a''=a'.put o.dst v/\I w''/\E w' w''/\G i v w'') a' w')
  (he:∀ val w',I w'->(∀ j oj d,j<N->ops[j]? =some oj->oj.dst=some d->G j (val j) w')->
   wpList P ops Q (ops.toList.drop N) (Bi (ops.toList.take N) 0 val a) w'):
  (Code.region id ops true).wp P Q a w:=by
 refine Qc hm N hok hsz I E G h0 hE (fun i o hi ho a' w' hI hS hF=>hs i o hi ho a' w' hI hS.other hF) ?_;intro a' w' hI hS hF;let val:Nat->Value:=fun j=>match ops[j]? with|some oj=>(match oj.dst with|some d=>gt a' d|none=>undef)|none=>undef
 have hval:∀ j oj d,ops[j]? =some oj->oj.dst=some d->val j=gt a' d:=by
  intro j oj d hj hd;simp only[val,hj,hd]
 have hw:=he val w' hI (fun j oj d hj ho hd=>by rw[hval j oj d ho hd];exact hF j oj d hj ho hd);have hae:a'=Bi (ops.toList.take N) 0 val a:=by
  refine Rc (by rw[Ji];exact hS.size) (by rw[Hg];exact hS.defers) (fun t ht=>?_);rw[Mn (ops.toList.take N) 0 val a a' t (by rw[<-hS.size];exact ht) (fun j oj d hj hd=>by
   rw[Nat.zero_add];refine hval j oj d ?_ hd;rw[List.getElem?_take]at hj;split at hj
   ·simpa using hj
   ·simp at hj)]
  split
  ·rfl
  ·rename_i h;exact hS.other t h
 rw[hae];exact hw
end
abbrev Pt:=Int×Int×Int
def nD(at':Int)(ps:List Int):List Pt:=ps.zipIdx.map fun x=>(at',(x.2:Int),x.1)
theorem Nh.congr{w:World}{g N:Nat}{f f':Nat->Int}(h:Nh w g N f)(he:∀ j,j<N->f' j=f j):Nh w g N f':=by
 obtain⟨cs,h1,h2,h3⟩:=h;exact⟨cs,h1,h2,fun j hj=>by rw[he j hj];exact h3 j hj⟩
structure Lo (ex:List Nat) (B:Nat) (w w':World):Prop where
 os:w'.os=w.os
 tape:w'.tape=w.tape
 output:w'.output=w.output
 size:w.heap.size<=w'.heap.size
 block:∀ b,b<B->b∉ex->hat w' b=hat w b
theorem Lo.refl(ex:List Nat)(B:Nat)(w:World):Lo ex B w w:=⟨rfl,rfl,rfl,Nat.le_refl _,fun _ _ _=>rfl⟩
theorem Lo.trans{ex:List Nat}{B:Nat}{a b c:World}(h:Lo ex B a b)(k:Lo ex B b c):Lo ex B a c:=⟨k.os.trans h.os,k.tape.trans h.tape,k.output.trans h.output,Nat.le_trans h.size k.size,fun i hi hn=>(k.block i hi hn).trans (h.block i hi hn)⟩
theorem Lo.of{ex:List Nat}{B:Nat}{w w':World}(h:Below B w w'):Lo ex B w w':=⟨h.os,h.tape,h.output,h.size,fun b hb _=>h.block b hb⟩
theorem Lo.fr{ex:List Nat}{B:Nat}{w w':World}(h:Fr ex w w')(hB:B<=w.heap.size):Lo ex B w w':=⟨h.os,h.tape,h.output,h.size,fun b hb hn=>h.block b (by omega) hn⟩
theorem Lo.to{ex:List Nat}{B:Nat}{w w':World}(h:Lo ex B w w')(hB:w.heap.size<=B):Fr ex w w':=⟨h.os,h.tape,h.output,h.size,fun b hb hn=>h.block b (by omega) hn⟩
theorem Lo.mono{ex:List Nat}{B B':Nat}{w w':World}(h:Lo ex B w w')(hB:B'<=B):Lo ex B' w w':=⟨h.os,h.tape,h.output,h.size,fun b hb hn=>h.block b (by omega) hn⟩
abbrev Sp:=Int×Int
def spC(l:List Sp):List Value:=l.flatMap fun x=>[.int .i64 x.1,.int .i64 x.2]
theorem rH(a b:List Sp):spC (a++b)=spC a++spC b:=by unfold spC;rw[List.flatMap_append]
theorem rI(l:List Sp):(spC l).length=l.length*2:=by
 unfold spC;induction l with
 |nil=>rfl
 |cons a l ih=>rw[List.flatMap_cons,List.length_append,ih,List.length_cons];simp;omega
theorem rJ(l:List Sp):∀ u∈spC l,u.oneCell'=true:=by
 intro u hu;unfold spC at hu;rw[List.mem_flatMap]at hu;obtain⟨x,-,hu⟩:=hu;simp at hu;rcases hu with rfl|rfl<;>rfl
theorem Xo:∀ (l:List Sp) (k:Nat) (a b:Int),l[k]? =some (a,b)->(spC l)[k*2]? =some (.int .i64 a)/\(spC l)[k*2+1]? =some (.int .i64 b)
 |[],k,a,b,h=>by simp at h
 |e::r,0,a,b,h=>by
  simp at h;subst h;exact⟨rfl,rfl⟩
 |e::r,k+1,a,b,h=>by
  have h2:r[k]? =some (a,b):=(by simpa using h);obtain⟨x,y⟩:=Xo r k a b h2;have e1:spC (e::r)=[.int .i64 e.1,.int .i64 e.2]++spC r:=rfl;rw[e1];refine⟨?_,?_⟩
  ·rw[List.getElem?_append_right (by show 2<=(k+1)*2;omega)];rw[show(k+1)*2-[Value.int .i64 e.1,.int .i64 e.2].length=k*2 by show(k+1)*2-2=_;omega];exact x
  ·rw[List.getElem?_append_right (by show 2<=(k+1)*2+1;omega)];rw[show(k+1)*2+1-[Value.int .i64 e.1,.int .i64 e.2].length=k*2+1 by show(k+1)*2+1-2=_;omega];exact y
def Dm(w:World)(base:Nat)(v:Value)(l:List Sp):Prop:=w.ownsRow base 167 2 v l.length (spC l)
theorem Dm.nil(w:World)(base:Nat):Dm w base (.slice none 0 0) []:=⟨rfl,.inl ⟨rfl,rfl⟩⟩
theorem Dm.below{w w':World}{base:Nat}{v:Value}{l:List Sp}(h:Dm w base v l)(hb:Below w.heap.size w w'):Dm w' base v l:=M3 h hb
theorem Dm.base{w:World}{b b':Nat}{v:Value}{l:List Sp}(h:Dm w b v l)(hb:b'<=b):Dm w b' v l:=W5 h hb
theorem Dm.sl{w:World}{base:Nat}{v:Value}{l:List Sp}(h:Dm w base v l):∃ a c,v= .slice a l.length c:=by
 obtain⟨-,⟨rfl,hn⟩|⟨g,cap,cur,h1,-⟩⟩:=h
 ·exact⟨none,0,by rw[hn]⟩
 ·exact⟨_,_,h1⟩
theorem Dm.at{w:World}{base:Nat}{v:Value}{l:List Sp}(h:Dm w base v l)(hl:l≠[]):∃ g c cs,v= .slice (some ⟨g,0,none⟩) l.length c/\base<=g/\hat w g=some (.cells cs 167)/\∀ (j:Nat) (u:Value),(spC l)[j]? =some u->cs[j]? =some u:=by
 obtain⟨-,⟨rfl,hn⟩|⟨g,cap,cur,h1,h2,h3,h4,h5,h6,h7⟩⟩:=h
 ·exact absurd (List.length_eq_zero_iff.1 hn) hl
 ·refine⟨g,cap,cur,h1,h2,h3,fun j u hj=>?_⟩;rw[<-h7,List.getElem?_take]at hj;split at hj
  ·simpa using hj
  ·cases hj
theorem Tryz.info167:(Tryz.prog.info? 167).map (fun i=>(i.zero,i.size,i.bytes))=some (some (.agg #[.int .i64 0,.int .i64 0]),2,16):=by kernel_rfl
theorem Ju{w:World}{base:Nat}{v:Value}{l:List Sp}(h:Dm w base v l)(b c:Nat)(news:List Sp)(hb:∃ cs,hat w b=some (.cells cs 167)/\∀ (j:Nat) (u:Value),(spC news)[j]? =some u->cs[j]? =some u)(hn:l.length+news.length<=100000)(hs:base<=w.heap.size)(ty:TypeId):
  ∃ v' w',(Builtin.append_ #[162,162] ty #[v,.slice (some ⟨b,0,none⟩) news.length c]).run Tryz.prog w= .ok v' w'/\Dm w' base v' (l++news)/\Below base w w'/\∀ b cs t f,t≠167->hat w b=some (.cells cs t f)->hat w' b=some (.cells cs t f):=by
 obtain⟨i0,hi,hz,hz1,hz2⟩:=info_parts Tryz.info167;obtain⟨cs,hcs,hall⟩:=hb
 obtain⟨v',w',h1,h2,h3,-⟩:=run_append_own (P:=Tryz.prog) (w:=w) base 162 ty 167 i0 _ 2 16 Tryz.underlying162 hi hz hz1 hz2 rfl (by decide) v l.length (spC l) h ⟨b,0,none⟩ news.length c (spC news) (rI news)
  (fun j u hj=>by
   have hadd:(⟨b,0,none⟩:Addr).add j=⟨b,j,none⟩:=(by unfold Addr.add;split<;>simp_all);rw[hadd,Bs hcs];exact hall j u hj) (rJ news) (by unfold maxLen;omega) (by omega) hs
 refine⟨v',w',h1,?_,?_,fun b cs' t f ht hh=>(h3.block b (Aa hh) (fun e=>?_)).trans hh⟩
 ·unfold Dm;rw[List.length_append,rH];exact h2
 ·exact(Below.refl base w).grown h3 hs (fun k hk=>Decidable.byContradiction fun hlt=>Hb h (by omega) hk)
 ·obtain⟨-,⟨hv,-⟩|⟨g',cap,cur,hv,-,h6,-⟩⟩:=h
  ·rw[hv]at e;cases e
  ·rw[hv]at e;have e2:b=g':=Option.some.inj (show some b=some g' from e);rw[e2]at hh;have h7:hat w g'=some (.cells cur 167 (0,0)):=h6;rw[hh]at h7;injection h7 with h8
   injection h8 with h9 h10
   exact ht h10
theorem Na{w:World}{base b2:Nat}{v u:Value}{l news:List Sp}(h:Dm w base v l)(h2:Dm w b2 u news)(hn:l.length+news.length<=100000)(hs:base<=w.heap.size)(ty:TypeId):
  ∃ v' w',(Builtin.append_ #[162,162] ty #[v,u]).run Tryz.prog w= .ok v' w'/\Dm w' base v' (l++news)/\Below base w w'/\∀ b cs t f,t≠167->hat w b=some (.cells cs t f)->hat w' b=some (.cells cs t f):=by
 by_cases hne:news=[]
 ·subst hne;obtain⟨i0,hi,hz,hz1,hz2⟩:=info_parts Tryz.info167;have hsrc:Src Tryz.prog i0.size 162 u 0 [] w:=by
   obtain⟨-,⟨rfl,-⟩|⟨g,cap,cur,rfl,-⟩⟩:=h2
   ·exact Src.ofNil w Tryz.underlying162 0
   ·exact Src.ofSlice w Tryz.underlying162 ⟨g,0,none⟩ 0 cap [] (by simp) (fun j u hj=>by simp at hj) (fun u hu=>by cases hu)
  refine⟨v,w,?_,by rw[List.append_nil];exact h,Below.refl _ _,fun _ _ _ _ _ hh=>hh⟩;obtain⟨-,⟨rfl,hn0⟩|⟨g,cap,cur,rfl,-,-,hc,-⟩⟩:=h
  ·exact run_append_nothing w _ _ ty _ i0 Tryz.underlying162 hi none 0 0 (Nat.le_refl _) u hsrc
  ·exact run_append_nothing w _ _ ty _ i0 Tryz.underlying162 hi (some ⟨g,0,none⟩) _ cap hc u hsrc
 ·obtain⟨g,c,cs,rfl,-,hg,hall⟩:=h2.at hne;exact Ju h g c news ⟨cs,hg,hall⟩ hn hs ty
def spF(f:Nat->Int)(a n:Nat):List Sp:=(List.range n).flatMap fun k=>if f (a+k)=0 then []else [(((a+k:Nat):Int),f (a+k))]
theorem Z4(f:Nat->Int)(a:Nat):spF f a 0=[]:=rfl
theorem Fo(f:Nat->Int)(a n:Nat):spF f a (n+1)=spF f a n++if f (a+n)=0 then []else [(((a+n:Nat):Int),f (a+n))]:=by
 unfold spF;rw[List.range_succ,List.flatMap_append];simp
theorem O3(f:Nat->Int)(a n:Nat):∀ m,spF f a (n+m)=spF f a n++spF f (a+n) m
 |0=>by simp[Z4]
 |m+1=>by
  rw[<-Nat.add_assoc,Fo,O3 f a n m,Fo,List.append_assoc,Nat.add_assoc a n m]
theorem V3{f g:Nat->Int}{a n:Nat}(h:∀ k,k<n->f (a+k)=g (a+k)):spF f a n=spF g a n:=by
 induction n with
 |zero=>rfl
 |succ n ih=>rw[Fo,Fo,ih (fun k hk=>h k (by omega)),h n (by omega)]
theorem Il(f:Nat->Int)(a:Nat):∀ n,(spF f a n).length<=n
 |0=>Nat.le_refl _
 |n+1=>by
  rw[Fo,List.length_append];have:=Il f a n;split<;>simp<;>omega
theorem Zo(from':Nat)(hf:from'<=2000)(ps:List Int)(hp:ps.length=32)(w:World):
  Calls Tryz.prog 119 #[.agg (IV .i64 ps),.int .i64 from'] w fun e w'=>∃ v,e= .returned v/\Dm w' w.heap.size v (spF (fun j=>nth ps (j-from')) from' 32)/\Below w.heap.size w w':=by
 have hB1:Below w.heap.size w (w.alloc (.cells (IV .i64 ps) 119)):=(Below.refl _ _).alloc (Nat.le_refl _) _;have HB1:=zA hB1;have hgp:=(A6 w (.cells (IV .i64 ps) 119)).1;clear hB1;have hf0:(0:Int)<=(from':Int):=Int.natCast_nonneg _;go_enter Tryz.func119,Tryz.ntmps119;go_upto_region 1 with fail;generalize w.alloc (.cells (IV .i64 ps) 119)=w1 at*;go_wp2_with fail;go_loopw [5,6] (fun v kv wr=>∃ k:Nat,kv= .int .i64 k/\k<=32/\Hid (Dm wr (w.heap.size+1) v (spF (fun j=>nth ps (j-from')) from' k))/\Hid (Below (w.heap.size+1) w1 wr)) (fun _ kv _=>32-(intOf kv).toNat)
 case atStart=>exact⟨0,rfl,by omega,zA (Dm.nil _ _),zA (Below.refl _ _)⟩
 case round=>
  obtain⟨k,rfl,hk,HO,HF⟩:=hrel;have hgpr:hat wr w.heap.size=some (.cells (IV .i64 ps) 119):=(HF.out.block w.heap.size (by omega)).trans hgp;have hgprl:=Aa hgpr;have hk0:(0:Int)<=(k:Int):=Int.natCast_nonneg _;by_cases hk32:k<32
  ·have hk1:(k:Int)<32:=(by omega);have hsz:w.heap.size+1<=wr.heap.size:=(by omega);by_cases hz:nth ps k=0
   ·have HN:Hid (Dm wr (w.heap.size+1) u5 (spF (fun j=>nth ps (j-from')) from' (k+1))):=zA (by
     rw[Fo,if_pos (by show nth ps (from'+k-from')=0;rw[Nat.add_sub_cancel_left];exact hz),List.append_nil];exact HO.out)
    have d1:(nth ps k !=0)=false:=(by simpa using hz);clear hz;go_wp2_with fail;go_roundw
    case rel=>exact⟨k+1,by go_num,by omega,HN,HF⟩
    case measure=>(show 32-(k+1)<32-k);omega
   ·have d1:(nth ps k !=0)=true:=(by simpa using hz);obtain⟨q,hq⟩:∃ q:Nat,from'+k=q:=⟨_,rfl⟩
    have hqs:(from':Int)+(k:Int)=(q:Int):=(by omega);have hB3:Below wr.heap.size wr (wr.alloc (.cells #[.int .i64 q,.int .i64 (nth ps k)] 167)):=(Below.refl _ _).alloc (Nat.le_refl _) _;have hgn:=(A6 wr (.cells #[.int .i64 q,.int .i64 (nth ps k)] 167)).1;obtain⟨v',w4,hrun,hO4,hb4,-⟩:=Ju (HO.out.below hB3) wr.heap.size 1 [((q:Int),nth ps k)] ⟨_,hgn,fun j u hj=>by simpa [spC]using hj⟩ (by have:=Il (fun j=>nth ps (j-from')) from' k;simp;omega) (by simp only[World.size_alloc];omega) 162;simp only[List.length_singleton]at hrun
    have HN:Hid (Dm w4 (w.heap.size+1) v' (spF (fun j=>nth ps (j-from')) from' (k+1))):=zA (by
     rw[Fo,if_neg (by show ¬ nth ps (from'+k-from')=0;rw[Nat.add_sub_cancel_left];exact hz)];simp only[Nat.add_sub_cancel_left];rw[hq];exact hO4)
    have HF4:Hid (Below (w.heap.size+1) w1 w4):=zA (HF.out.trans ((hB3.mono hsz).trans hb4));clear hz hq hB3 hgn hO4 hb4;go_wp2_with (at_builtin;refine Ao _ rfl (.tmp 15) (.tmp 23) 162 rfl _ _ rfl rfl _ _ hrun ?_)
    go_roundw
    case rel=>exact⟨k+1,by go_num,by omega,HN,HF4⟩
    case measure=>(show 32-(k+1)<32-k);omega
  ·obtain rfl:k=32:=(by omega);go_wp2_with fail;go_ret;exact⟨_,rfl,HO.out.base (by omega),HB1.out.trans (HF.out.mono (by omega))⟩
theorem pF(S:Nat->List Int)(raw:List Int){j:Nat}(h:j<12):D6 S raw j=nth raw (4+j):=by unfold D6;rw[if_pos h]
theorem pG(S:Nat->List Int)(raw:List Int):spF (D6 S raw) 12 32=spF (fun j=>nth (Fq S (nth raw 16)) (j-12)) 12 32:=V3 (fun k hk=>by
 show D6 S raw (12+k)=nth (Fq S (nth raw 16)) (12+k-12)
 rw[Hu];unfold D6;rw[if_neg (by omega),if_pos (by omega)])
theorem pE(S:Nat->List Int)(raw:List Int)(i:Nat):spF (D6 S raw) (44+32*i) 32=spF (fun j=>nth (Fq S (nth (Fq S (nth raw 17)) i)) (j-(44+32*i))) (44+32*i) 32:=V3 (fun k hk=>by
 show D6 S raw (44+32*i+k)=nth (Fq S (nth (Fq S (nth raw 17)) i)) (44+32*i+k-(44+32*i))
 rw[Hu,Hu];unfold D6;rw[if_neg (by omega),if_neg (by omega),show(44+32*i+k-44)/32=i by omega,show(44+32*i+k-44)%32=k by omega,show 44+32*i+k-(44+32*i)=k by omega];rfl)
section
variable {gw N cw:Nat} {S:Nat->List Int}
theorem tU{raw:List Int}(hA:Wa N S raw){w:World}(h:B8 w gw N 0 S)(i:Nat):0<=nth (Fq S (nth raw 17)) i/\nth (Fq S (nth raw 17)) i<N:=by
 rw[Hu];unfold J0;split
 ·have:=hA.p17;omega
 ·rename_i h0
  by_cases hi:i<32
  ·have hm:nth (Al (S (nth raw 17).toNat)) i∈Al (S (nth raw 17).toNat):=List.mem_iff_getElem?.2 ⟨i,An (by simp;omega)⟩;have:=hA.p17;exact⟨(Jk (h.load (i:=(nth raw 17).toNat) (by omega)).choose_spec.2.2.2 _ hm).1,hA.d h0 _ hm⟩
  ·have:=hA.p17;rw[bO (by simp;omega)];omega
theorem Tz{raw:List Int}(hA:Wa N S raw)(w:World)(h:B8 w gw N 0 S):
  Calls Tryz.prog 101 #[Mb gw N cw,.agg (IV .i64 raw)] w fun e w'=>∃ v,e= .returned (.tuple #[v,.int .i64 0])/\Dm w' w.heap.size v (spF (D6 S raw) 0 1068)/\Below w.heap.size w w':=by
 have hB1:Below w.heap.size w (w.alloc (.cells #[.slice (some ⟨gw,0,none⟩) N cw,.int .i64 (-1),.int .i64 0] 160)):=(Below.refl _ _).alloc (Nat.le_refl _) _;have hB2:Below w.heap.size w ((w.alloc (.cells #[.slice (some ⟨gw,0,none⟩) N cw,.int .i64 (-1),.int .i64 0] 160)).alloc (.cells (IV .i64 raw) 78)):=hB1.alloc hB1.size _;have HS2:=zA (h.same (A7 hB2 h.lt2));have hg1:=(B7 _ (.cells (IV .i64 raw) 78) (A6 w (.cells #[.slice (some ⟨gw,0,none⟩) N cw,.int .i64 (-1),.int .i64 0] 160)).1).1;have hg2:=(A6 (w.alloc (.cells #[.slice (some ⟨gw,0,none⟩) N cw,.int .i64 (-1),.int .i64 0] 160)) (.cells (IV .i64 raw) 78)).1;have HB2:=zA hB2;have hz1:(w.alloc (.cells #[.slice (some ⟨gw,0,none⟩) N cw,.int .i64 (-1),.int .i64 0] 160)).heap.size=w.heap.size+1:=World.size_alloc _ _;rw[hz1]at hg2;clear hB1 hB2 h;have hr:raw.length=18:=hA.r;have HA:=zA hA;clear hA;have HW0:Hid (w.heap.size<w.heap.size+1):=zA (by omega);obtain⟨f,hf⟩:∃ f,D6 S raw=f:=⟨_,rfl⟩;have HD:Hid (∀ j,j<12->f j=nth raw (4+j)):=zA (fun j hj=>by rw[<-hf];exact pF S raw hj);have HSG:Hid (spF f 12 32=spF (fun j=>nth (Fq S (nth raw 16)) (j-12)) 12 32):=zA (by rw[<-hf];exact pG S raw);have HDB:Hid (∀ i,spF f (44+32*i) 32=spF (fun j=>nth (Fq S (nth (Fq S (nth raw 17)) i)) (j-(44+32*i))) (44+32*i) 32):=zA (fun i=>by rw[<-hf];exact pE S raw i);rw[hf];clear hf;go_enter Tryz.func101,Tryz.ntmps101;go_upto_region 1 with fail;try rw[hz1]
 clear hz1;generalize (w.alloc (.cells #[.slice (some ⟨gw,0,none⟩) N cw,.int .i64 (-1),.int .i64 0] 160)).alloc (.cells (IV .i64 raw) 78)=w2 at*;have hl1:=Aa hg1;have hl2:=Aa hg2;generalize hgx:w.heap.size+1=gx at*;have HGX:=zA hgx;clear hgx;go_wp2_with fail;go_loopw [6,7] (fun v kv wr=>∃ k:Nat,kv= .int .i64 k/\k<=12/\Hid (Dm wr w2.heap.size v (spF f 0 k))/\Hid (Below w2.heap.size w2 wr)) (fun _ kv _=>12-(intOf kv).toNat)
 case atStart=>exact⟨0,rfl,by omega,zA (Dm.nil _ _),zA (Below.refl _ _)⟩
 case round=>
  obtain⟨k,rfl,hk,HO,HF⟩:=hrel;have hg1r:=(hop HF.out hg1).1;have hg2r:=(hop HF.out hg2).1;have hg1rl:=Aa hg1r;have hg2rl:=Aa hg2r;have hk0:(0:Int)<=(k:Int):=Int.natCast_nonneg _;have hsz:w2.heap.size<=wr.heap.size:=HF.out.size;by_cases hk12:k<12
  ·have hk1:(k:Int)<12:=(by omega);have hcb:(IV .i64 raw)[4+k]? =some (.int .i64 (nth raw (4+k))):=(by rw[Bl,An (by omega)];rfl);by_cases hz:nth raw (4+k)=0
   ·have HN:Hid (Dm wr w2.heap.size u6 (spF f 0 (k+1))):=zA (by
     rw[Fo,Nat.zero_add,HD.out k hk12,if_pos hz,List.append_nil];exact HO.out)
    have d1:(nth raw (4+k) !=0)=false:=(by simpa using hz);clear hz;go_wp2_with fail;go_roundw
    case rel=>exact⟨k+1,by go_num,by omega,HN,HF⟩
    case measure=>(show 12-(k+1)<12-k);omega
   ·have d1:(nth raw (4+k) !=0)=true:=(by simpa using hz);have hB3:Below wr.heap.size wr (wr.alloc (.cells #[.int .i64 k,.int .i64 (nth raw (4+k))] 167)):=(Below.refl _ _).alloc (Nat.le_refl _) _;have hgn:=(A6 wr (.cells #[.int .i64 k,.int .i64 (nth raw (4+k))] 167)).1;obtain⟨v',w4,hrun,hO4,hb4,-⟩:=Ju (HO.out.below hB3) wr.heap.size 1 [((k:Int),nth raw (4+k))] ⟨_,hgn,fun j u hj=>by simpa [spC]using hj⟩ (by have:=Il f 0 k;simp;omega) (by simp only[World.size_alloc];omega) 162;simp only[List.length_singleton]at hrun
    have HN:Hid (Dm w4 w2.heap.size v' (spF f 0 (k+1))):=zA (by
     rw[Fo,Nat.zero_add,HD.out k hk12,if_neg hz];exact hO4)
    have HF4:Hid (Below w2.heap.size w2 w4):=zA (HF.out.trans ((hB3.mono hsz).trans hb4));clear hz hB3 hgn hO4 hb4;go_wp2_with (at_builtin;refine Ao _ rfl (.tmp 22) (.tmp 29) 162 rfl _ _ rfl rfl _ _ hrun ?_)
    go_roundw
    case rel=>exact⟨k+1,by go_num,by omega,HN,HF4⟩
    case measure=>(show 12-(k+1)<12-k);omega
  ·obtain rfl:k=12:=(by omega);obtain⟨a6,c6,e6⟩:=HO.out.sl;subst e6;have hc16:(IV .i64 raw)[16]? =some (.int .i64 (nth raw 16)):=(by rw[Bl,An (by omega)];rfl);have hc17:(IV .i64 raw)[17]? =some (.int .i64 (nth raw 17)):=(by rw[Bl,An (by omega)];rfl);have HS3:=zA (HS2.out.same (A7 HF.out HS2.out.lt2));have HC:=zA (Gb (cw:=cw) (nth raw 16) HA.out.p16.1 HA.out.p16.2 wr HS3.out);have hpl:=Ht S (nth raw 16);generalize Fq S (nth raw 16)=ps at*;obtain⟨w3,hw3⟩:∃ x,x=wr:=⟨_,rfl⟩;subst hw3;go_wp2_with fail;refine HC.out.mono ?_;rintro e w4 ⟨rfl,hb4⟩;have hg5:=(A6 w4 (.cells (IV .i64 ps) 119)).1;have hB5:Below w3.heap.size w3 (w4.alloc (.cells (IV .i64 ps) 119)):=hb4.alloc hb4.size _;have HF5:=zA (Ad HF.out hB5 HF.out.size);have HO5:=zA (HO.out.below hB5);have hg15:=(hop hB5 hg1r).1;have hg25:=(hop hB5 hg2r).1;have HS5:=zA (HS3.out.same (A7 hB5 HS3.out.lt2));have HG5:Hid (w2.heap.size<=w4.heap.size):=zA (Nat.le_trans hsz hb4.size);clear hB5 hb4 HC hg1r hg2r hg1rl hg2rl HS3;go_upto_region 8 with fail;generalize w4.alloc (.cells (IV .i64 ps) 119)=w5 at*;generalize w4.heap.size=gt at*;have hl5:=Aa hg5;have hl15:=Aa hg15;have hl25:=Aa hg25;have HC:=zA (Zo 12 (by omega) ps hpl w5);rw[show((12:Nat):Int)=12 from rfl, <-HSG.out]at HC;go_wp2_with fail;refine HC.out.mono ?_;rintro e w6 ⟨v2,rfl,hO6,hb6⟩;obtain⟨v7,w7,hrun,hO7,hb7,hty⟩:=Na (HO5.out.below hb6) hO6 (by have:=Il f 0 12;have:=Il f 12 32;omega) (by have:=HF5.out.size;have:=hb6.size;omega) 162;have hO7b:Dm w7 w2.heap.size v7 (spF f 0 44):=by
    have:=O3 f 0 12 32;rw[Nat.zero_add]at this;rw[show(44:Nat)=12+32 by rfl,this];exact hO7
   have hB7:Below w2.heap.size w5 w7:=(hb6.mono HF5.out.size).trans hb7;have HO7:=zA hO7b;have HF7:=zA (HF5.out.trans hB7);have hg17:hat w7 w.heap.size=some (.cells #[.slice (some ⟨gw,0,none⟩) N cw,.int .i64 (-1),.int .i64 0] 160):=(hB7.block _ hl1).trans hg15;have hg27:hat w7 gx=some (.cells (IV .i64 raw) 78):=(hB7.block _ hl2).trans hg25;have HS7:=zA (HS5.out.same (hB7.block _ (by have:=HS2.out.lt2;omega)));have hg7:hat w7 gt=some (.cells (IV .i64 ps) 119):=hty _ _ _ _ (by decide) (hop hb6 hg5).1;obtain⟨a7,c7,e7⟩:=HO7.out.sl;subst e7;clear hO7b hB7 hO7 hb7 hty hO6 hb6 HC HO5 HF5 hg5 hl5 hg15 hg25 hl15 hl25 HS5;go_upto_region 11 with (at_builtin;refine Ao _ rfl (.tmp 41) (.tmp 43) 162 rfl _ _ rfl rfl _ _ hrun ?_)
   clear hrun;have hl17:=Aa hg17;have hl27:=Aa hg27;have hl7:=Aa hg7;have HC:=zA (Gb (cw:=cw) (nth raw 17) HA.out.p17.1 HA.out.p17.2 w7 HS7.out);have hql:=Ht S (nth raw 17);have HP:Hid (∀ i,0<=nth (Fq S (nth raw 17)) i/\nth (Fq S (nth raw 17)) i<N):=zA (tU HA.out HS2.out);generalize Fq S (nth raw 17)=qs at*;go_wp2_with fail;refine HC.out.mono ?_;rintro e w8 ⟨rfl,hb8⟩;have hg8:=(hop hb8 hg7).1;have hg18:=(hop hb8 hg17).1;have hl8:=Aa hg8;have HO8:=zA (HO7.out.below hb8);have HF8:=zA (Ad HF7.out hb8 HF7.out.size);have HS8:=zA (HS7.out.same (A7 hb8 HS7.out.lt2));have hst:∀ raw w',Dd raw 32 0 gt (IV .i64 qs) w' (some (.cells (IV .i64 ps) 119 (0,0)))= .ok () (w'.setRow gt (IV .i64 qs)):=fun raw w'=>Fp (by simpa using hpl) (by simpa using hql) (by simp)
   have hg9:=Ar _ _ (IV .i64 qs) _ _ _ hg8;have HF9:=zA (Ag HF8.out HG5.out (IV .i64 qs))
   have HO9:Hid (Dm (w8.setRow gt (IV .i64 qs)) w2.heap.size (.slice a7 (spF f 0 44).length c7) (spF f 0 44)):=zA (by
    obtain⟨h0,h|⟨g,cap,cur,h1,h2,h3,h4⟩⟩:=HO8.out
    ·exact⟨h0,.inl h⟩
    ·refine⟨h0,.inr ⟨g,cap,cur,h1,h2,?_,h4⟩⟩;have hne:g≠gt:=fun e=>by
      subst e;have h5:hat w8 g=some (.cells cur 167 (0,0)):=h3;rw[hg8]at h5;injection h5 with h6
      injection h6 with h7 h8
      exact absurd h8 (by decide)
     exact(Bj w8 gt g (IV .i64 qs) hne).trans h3)
   have hg19:hat (w8.setRow gt (IV .i64 qs)) w.heap.size=some (.cells #[.slice (some ⟨gw,0,none⟩) N cw,.int .i64 (-1),.int .i64 0] 160):=(Bj w8 gt w.heap.size (IV .i64 qs) (by have:=HG5.out;omega)).trans hg18;have HS9:=zA (HS8.out.same (Bj w8 gt gw (IV .i64 qs) (by have:=HG5.out;have:=HS2.out.lt2;omega)));clear HO7 HF7 hb8 hg7 hl7 hg17 hl17 hg27 hl27 HS7 HC HO8 HF8 hg18 HS8;go_upto_region 12 with fail;clear hst hg8 hl8;generalize w8.setRow gt (IV .i64 qs)=w9 at*;have hl9:=Aa hg9;have hl19:=Aa hg19;go_wp2_with fail;go_loopw [6,10] (fun v kv wr=>∃ k:Nat,kv= .int .i64 k/\k<=32/\Hid (Dm wr w2.heap.size v (spF f 0 (44+32*k)))/\Hid (Below w2.heap.size w9 wr)/\Hid (hat wr gt=some (.cells (IV .i64 qs) 119))) (fun _ kv _=>32-(intOf kv).toNat)
   case atStart=>exact⟨0,rfl,by omega,HO9,zA (Below.refl _ _),zA hg9⟩
   case round=>
    obtain⟨k,rfl,hk,HO,HF,HT⟩:=hrel;have hT:=HT.out;have hTl:=Aa hT;have hg1r:hat wr w.heap.size=some (.cells #[.slice (some ⟨gw,0,none⟩) N cw,.int .i64 (-1),.int .i64 0] 160):=(HF.out.block _ hl1).trans hg19;have hg1rl:=Aa hg1r;have hk0:(0:Int)<=(k:Int):=Int.natCast_nonneg _;have HFW:Hid (w2.heap.size<=wr.heap.size):=zA (Nat.le_trans HF9.out.size HF.out.size);have HSr:=zA (HS9.out.same (HF.out.block _ (HS2.out.lt2)));obtain⟨w10,hw10⟩:∃ x,x=wr:=⟨_,rfl⟩;subst hw10;obtain⟨ar,cr,er⟩:=HO.out.sl;subst er;by_cases hk32:k<32
    ·have hk1:(k:Int)<32:=(by omega);have hcm:(IV .i64 qs)[k]? =some (.int .i64 (nth qs k)):=(by rw[Bl,An (by omega)];rfl);obtain⟨p,hp⟩:∃ p,nth qs k=p:=⟨_,rfl⟩;have hP:=HP.out k;rw[hp]at hP hcm;have hrl:=Ht S p;have HC2:=zA (fun W hW=>Gb (gw:=gw) (N:=N) (S:=S) (cw:=cw) p hP.1 hP.2 W hW);have HDK:=zA (HDB.out k);rw[hp]at HDK;generalize Fq S p=rs at*;clear hP;have hN5:=(A6 w10 (.cells (IV .i64 (zl 32)) 119)).1;have hBN:Below w10.heap.size w10 (w10.alloc (.cells (IV .i64 (zl 32)) 119)).drew:=Below.drew ((Below.refl _ _).alloc (Nat.le_refl _) _);have HBN:=zA hBN;have HSN:=zA (HSr.out.same (A7 hBN HSr.out.lt2));have HN5:Hid (hat (w10.alloc (.cells (IV .i64 (zl 32)) 119)).drew w10.heap.size=some (.cells (IV .i64 (zl 32)) 119)):=zA hN5;clear hBN hN5;have hst:∀ raw w',Dd raw 32 0 w10.heap.size (IV .i64 rs) w' (some (.cells (IV .i64 (zl 32)) 119 (0,0)))= .ok () (w'.setRow w10.heap.size (IV .i64 rs)):=fun raw w'=>Fp (by simp) (by simpa using hrl) (by simp)
     have HNEXT:Hid (∀ W g,Below w10.heap.size w10 W->hat W g=some (.cells (IV .i64 rs) 119)->∀ q:Nat,44+32*k=q->Calls Tryz.prog 119 #[.agg (IV .i64 rs),.int .i64 q] W fun e w'=>∃ v2 w11 v11,e= .returned v2/\(Builtin.append_ #[162,162] 162 #[.slice ar (spF f 0 (44+32*k)).length cr,v2]).run Tryz.prog w'= .ok v11 w11/\Hid (Dm w11 w2.heap.size v11 (spF f 0 (44+32*(k+1))))/\Hid (Below w2.heap.size w9 w11)/\Hid (hat w11 gt=some (.cells (IV .i64 qs) 119))):=zA (by
      intro W g hW hg q hq;subst hq;refine(Zo (44+32*k) (by omega) rs hrl W).mono ?_;rintro e w' ⟨v2,rfl,hO6,hb6⟩;rw[<-HDK.out]at hO6;have hb7:=Ad hW hb6 hW.size;obtain⟨v11,w11,hrun,hO11,hb11,hty⟩:=Na (HO.out.below hb7) hO6 (by have:=Il f 0 (44+32*k);have:=Il f (44+32*k) 32;omega) (by have:=HFW.out;have:=hb7.size;omega) 162;refine⟨v2,w11,v11,rfl,hrun,zA ?_,zA (HF.out.trans ((hb7.mono HFW.out).trans hb11)),zA (hty _ _ _ _ (by decide) (hop hb7 HT.out).1)⟩;have:=O3 f 0 (44+32*k) 32;rw[Nat.zero_add]at this;rw[show 44+32*(k+1)=44+32*k+32 by omega,this];exact hO11)
     obtain⟨q,hq⟩:∃ q:Nat,44+32*k=q:=⟨_,rfl⟩;have hqs:(44:Int)+32*(k:Int)=(q:Int):=(by omega);have HQ:=zA hq;clear hq;go_upto_region 17 with fail
     go_region_with (first
      |(refine(HC2.out w10.drew (HSr.out.same (w':=w10.drew) rfl)).mono ?_;rintro e w11 ⟨rfl,hb11⟩;have hB11:Below w10.heap.size w10 w11:=⟨hb11.os,hb11.tape,hb11.output,hb11.size,hb11.block⟩)
      |(refine(HC2.out (w10.alloc (.cells (IV .i64 (zl 32)) 119)).drew HSN.out).mono ?_;rintro e w11 ⟨rfl,hb11⟩;have hB11:Below w10.heap.size w10 w11:=Ad HBN.out hb11 HBN.out.size;have hx11:=(hop hb11 HN5.out).1;have hx11l:=Aa hx11))
     all_goals first
      |(have hg12:=(A6 w11 (.cells (IV .i64 rs) 119)).1
        have HB12:=zA (hB11.alloc hB11.size (.cells (IV .i64 rs) 119));clear hb11 hB11;go_upto_region 18 with fail;generalize w11.alloc (.cells (IV .i64 rs) 119)=w12 at*;generalize w11.heap.size=gu at*;have hl12:=Aa hg12;have HCR:=zA (HNEXT.out w12 gu HB12.out hg12 q HQ.out);go_wp2_with fail;refine HCR.out.mono ?_;rintro e w13 ⟨v2,w14,v14,rfl,hrun,HO14,HF14,HT14⟩;go_wp2_with (at_builtin;refine Ao _ rfl (.tmp 70) (.tmp 75) 162 rfl _ _ rfl rfl _ _ hrun ?_)
        go_roundw
        case rel=>exact⟨k+1,by go_num,by omega,HO14,HF14,HT14⟩
        case measure=>(show 32-(k+1)<32-k);omega)
      |(have hg12:=Ar _ _ (IV .i64 rs) _ _ _ hx11
        have HB12:=zA (Ag hB11 (g:=w10.heap.size) (Nat.le_refl _) (IV .i64 rs));clear hb11 hB11;go_upto_region 18 with fail;generalize w11.setRow w10.heap.size (IV .i64 rs)=w12 at*;have hl12:=Aa hg12;have HCR:=zA (HNEXT.out w12 w10.heap.size HB12.out hg12 q HQ.out);go_wp2_with fail;refine HCR.out.mono ?_;rintro e w13 ⟨v2,w14,v14,rfl,hrun,HO14,HF14,HT14⟩;go_wp2_with (at_builtin;refine Ao _ rfl (.tmp 70) (.tmp 75) 162 rfl _ _ rfl rfl _ _ hrun ?_)
        go_roundw
        case rel=>exact⟨k+1,by go_num,by omega,HO14,HF14,HT14⟩
        case measure=>(show 32-(k+1)<32-k);omega)
    ·obtain rfl:k=32:=(by omega);have HEND:Hid (Dm w10 w.heap.size (.slice ar (spF f 0 (44+32*32)).length cr) (spF f 0 1068)/\Below w.heap.size w w10):=zA ⟨HO.out.base (by omega),HB2.out.trans ((HF9.out.trans HF.out).mono (by omega))⟩;go_wp2_with fail;go_ret2;exact⟨_,rfl,HEND.out.1,HEND.out.2⟩
end
def tkZ(T:Nat->Option TI)(q:Int):Bool:=(T q.toNat).isSome
def enZ(T:Nat->Option TI)(j:Nat):Int:=match T j with|some t=>t.en|none=>0
theorem Ky(T:Nat->Option TI)(j:Nat):tkZ T (j:Int)=(T j).isSome:=by unfold tkZ;rw[Int.toNat_natCast]
theorem eQ{T:Nat->Option TI}{i:Nat}(h1:1<=i)(t:TI):(fun q=>if q=(i:Int)then true else tkZ T q)=tkZ (A2 T i t):=by
 funext q
 unfold tkZ A2;by_cases hq:q=(i:Int)
 ·subst hq;rw[if_pos rfl,Int.toNat_natCast,if_pos rfl];rfl
 ·rw[if_neg hq,if_neg (by omega)]
theorem rR{T:Nat->Option TI}{i:Nat}{t0:TI}(h:T i=some t0)(t:TI):tkZ (A2 T i t)=tkZ T:=by
 funext q
 unfold tkZ A2;by_cases hq:q.toNat=i
 ·rw[if_pos hq,hq,h];rfl
 ·rw[if_neg hq]
theorem Wj(T:Nat->Option TI)(i:Nat)(t:TI):enZ (A2 T i t)=fun j=>if i=j then t.en else enZ T j:=by
 funext j
 unfold enZ A2;by_cases hj:j=i
 ·subst hj;simp
 ·rw[if_neg hj,if_neg (fun e=>hj e.symm)]
def A3.ms(E:A3):List Nat:=[E.g,E.gw,E.gc,E.gt,E.gn,E.ge]
structure DG (E:A3) (w:World) (o:Option Nat) (done:List Int) (z:LZ) (I:Nat->List Int):Prop where
 g:RG E w o (done++z.q) z.st.S z.st.cl (tkZ z.T) I (enZ z.T)
 i:∀ i t,z.T i=some t->I i=t.raw
structure DI (E:A3) (done:List Int) (z:LZ):Prop where
 inv:Ev E.X E.Y E.A z
 ix:∀ i t,z.T i=some t->1<=i/\(i:Int)<=E.Y
 nd:(done++z.q).Nodup
 rg:∀ i∈done++z.q,1<=i/\i<=E.Y/\(z.T i.toNat).isSome=true
theorem DI.len{E:A3}(hE:ROk E){done:List Int}{z:LZ}(h:DI E done z):(done++z.q).length<=100000:=by
 have hl:=List.Nodup.length_le_of_subset (l₂:=(List.range 4097).map (fun(i:Nat)=>(i:Int))) h.nd (fun x hx=>by
  obtain⟨a,b,-⟩:=h.rg x hx;have:=hE.YN;have:=hE.N;exact List.mem_map.2 ⟨x.toNat,List.mem_range.2 (by omega),by omega⟩)
 simp only[List.length_map,List.length_range]at hl;omega
theorem DI.enter{E:A3}(hE:ROk E){done:List Int}{z z':LZ}(h:DI E done z){i:Nat}(h1:1<=i)(hY:(i:Int)<=E.Y)(he:Cn E.X E.Y E.A i z=some z'):DI E done z':=by
 have hY0:0<=E.Y:=by have:=hE.Y1;omega
 refine⟨(Oe hY0 h.inv he (fun _=>False)).1,?_,?_,?_⟩
 all_goals
  unfold Cn at he;split at he
  ·rename_i t ht
   split at he
   ·cases he
   ·cases he
    first
     |(intro j u hu
       have hu2:A2 z.T i {t with en:=t.en+1} j=some u:=hu;by_cases hj:j=i
       ·subst hj;exact⟨h1,hY⟩
       ·rw[Cb _ _ hj]at hu2;exact h.ix j u hu2)
     |exact h.nd
     |(intro j hj
       obtain⟨a,b,c⟩:=h.rg j hj;refine⟨a,b,?_⟩;show(A2 z.T i {t with en:=t.en+1} j.toNat).isSome=true
       unfold A2;split
       ·rfl
       ·exact c)
  ·rename_i ht
   split at he
   ·cases he;have hni:(i:Int)∉done++z.q:=fun hm=>by
     have:=(h.rg _ hm).2.2;rw[Int.toNat_natCast,ht]at this;cases this
    first
     |(intro j u hu
       have hu2:A2 z.T i ⟨(Aj E.X E.Y (Am (E.A i)).1 z.st).1,1,(Aj E.X E.Y (Am (E.A i)).1 z.st).2.bk⟩ j=some u:=hu;by_cases hj:j=i
       ·subst hj;exact⟨h1,hY⟩
       ·rw[Cb _ _ hj]at hu2;exact h.ix j u hu2)
     |(show(done++(if nth (Am (E.A i)).1 0=2 then z.q++[(i:Int)]else z.q)).Nodup
       split
       ·rw[<-List.append_assoc];exact List.nodup_append.2 ⟨h.nd,by simp,fun a ha b hb=>by simp at hb;subst hb;exact fun e=>hni (e▸ha)⟩
       ·exact h.nd)
     |(intro j hj
       have hj2:j∈done++(if nth (Am (E.A i)).1 0=2 then z.q++[(i:Int)]else z.q):=hj;have hj3:j∈done++z.q\/j=(i:Int):=by
        split at hj2
        ·rw[<-List.append_assoc,List.mem_append,List.mem_singleton]at hj2;exact hj2
        ·exact .inl hj2
       show 1<=j/\j<=E.Y/\(A2 z.T i _ j.toNat).isSome=true
       rcases hj3 with hj3|hj3
       ·obtain⟨a,b,c⟩:=h.rg j hj3;refine⟨a,b,?_⟩;unfold A2;split
        ·rfl
        ·exact c
       ·subst hj3;refine⟨by omega,hY,?_⟩;unfold A2;rw[if_pos (by omega)];rfl)
   ·cases he
theorem DI.wipe{E:A3}{done:List Int}{z:LZ}(h:DI E done z){p:Nat}(hc:z.st.cl p=true):DI E done (Db p z):=⟨h.inv.wipe hc,h.ix,h.nd,h.rg⟩
theorem RG.keep{E:A3}{w w':World}{o:Option Nat}{l:List Int}{S:Nat->List Int}{cl tk:Int->Bool}{I:Nat->List Int}{en:Nat->Int}(h:RG E w o l S cl tk I en)(hf:Fr (E.ms++o.toList) w w'){b:Nat}{cs:Array Value}{t:TypeId}{f:Nat×Nat}(hb:hat w b=some (.cells cs t f))(ht:t∉[129,47,4,78,3]):hat w' b=some (.cells cs t f):=by
 refine(hf.block b (Aa hb) (fun hm=>?_)).trans hb;have key:∀ (g:Nat) (cs':Array Value) (t':TypeId) (f':Nat×Nat),hat w g=some (.cells cs' t' f')->b=g->t'∈[129,47,4,78,3]->False:=by
  intro g cs' t' f' hg e hm;subst e;rw[hb]at hg;injection hg with h8
  injection h8 with h9 h10
  exact ht (h10▸hm)
 obtain⟨v,hl,hq⟩:=h.l;rcases List.mem_append.1 hm with hm|hm
 ·simp only[A3.ms,List.mem_cons,List.not_mem_nil,or_false]at hm;rcases hm with e|e|e|e|e|e
  ·exact key _ _ _ _ hl e (by simp)
  ·obtain⟨cs',h1,-⟩:=h.s;exact key _ _ _ _ h1 e (by simp)
  ·obtain⟨cs',h1,-⟩:=h.c;exact key _ _ _ _ h1 e (by simp)
  ·obtain⟨cs',h1,-⟩:=h.t;exact key _ _ _ _ h1 e (by simp)
  ·obtain⟨cs',h1,-⟩:=h.n;exact key _ _ _ _ h1 e (by simp)
  ·obtain⟨cs',h1,-⟩:=h.e;exact key _ _ _ _ h1 e (by simp)
 ·have ho:o=some b:=(by simpa using hm);rcases hq with ⟨-,e,-⟩|⟨g,off,c,cs',-,e,h2,-⟩
  ·rw[e]at ho;cases ho
  ·rw[e]at ho;injection ho with ho
   exact key g _ _ _ h2 ho.symm (by simp)
theorem Dm.keep{E:A3}{w w':World}{o:Option Nat}{l:List Int}{S:Nat->List Int}{cl tk:Int->Bool}{I:Nat->List Int}{en:Nat->Int}(h:RG E w o l S cl tk I en)(hf:Fr (E.ms++o.toList) w w'){base:Nat}{v:Value}{L:List Sp}(hs:Dm w base v L):Dm w' base v L:=by
 obtain⟨h0,h1|⟨g,cap,cur,h1,h2,h3,h4⟩⟩:=hs
 ·exact⟨h0,.inl h1⟩
 ·have h3':hat w g=some (.cells cur 167 (0,0)):=h3;exact⟨h0,.inr ⟨g,cap,cur,h1,h2,h.keep hf h3' (by decide),h4⟩⟩
theorem NmR.keep{E:A3}{w w':World}{o:Option Nat}{l:List Int}{S:Nat->List Int}{cl tk:Int->Bool}{I:Nat->List Int}{en:Nat->Int}(h:RG E w o l S cl tk I en)(hf:Fr (E.ms++o.toList) w w'){base:Nat}{v:Value}{ns:List ByteArray}(hs:NmR w base v ns):NmR w' base v ns:=by
 obtain⟨h0,h1|⟨g,cap,cur,h1,h2,h3,h4⟩⟩:=hs
 ·exact⟨h0,.inl h1⟩
 ·have h3':hat w g=some (.cells cur 9 (0,0)):=h3;exact⟨h0,.inr ⟨g,cap,cur,h1,h2,h.keep hf h3' (by decide),h4⟩⟩
theorem Tryz.infoN9:(Tryz.prog.info? 9).map (fun i=>(i.zero,i.size,i.bytes))=some (some (.string ByteArray.empty),1,16):=by kernel_rfl
theorem fF{w w0:World}{B base:Nat}{v:Value}{ns:List ByteArray}(h:NmR w base v ns)(hbase:B<=base)(hb:Below B w0 w)(hB:B<=w0.heap.size)(hs:base<=w.heap.size)(hn:ns.length<=100000)(s:ByteArray)(ty:TypeId):
  ∃ v' w',(Builtin.append_ #[165,165] ty #[v,.slice (some ⟨w.heap.size,0,none⟩) 1 1]).run Tryz.prog (w.alloc (.cells #[.string s] 9))= .ok v' w'/\NmR w' base v' (ns++[s])/\Below B w0 w'/\∀ b cs t f,t≠9->hat w b=some (.cells cs t f)->hat w' b=some (.cells cs t f):=by
 obtain⟨i0,hi,hz,hz1,hz2⟩:=info_parts Tryz.infoN9;have hbn:Below w.heap.size w (w.alloc (.cells #[.string s] 9)):=(Below.refl _ _).alloc (Nat.le_refl _) _;have h':=h.below hbn;have hsz:(w.alloc (.cells #[.string s] 9)).heap.size=w.heap.size+1:=World.size_alloc _ _
 obtain⟨v',w',h1,h2,h3,-⟩:=run_append_own (P:=Tryz.prog) (w:=w.alloc (.cells #[.string s] 9)) base 165 ty 9 i0 _ 1 16 Tryz.underlying165 hi hz hz1 hz2 rfl (by decide) v ns.length (ns.map Value.string) h' ⟨w.heap.size,0,none⟩ 1 1 [.string s] rfl
  (fun j u hj=>by
   have hadd:(⟨w.heap.size,0,none⟩:Addr).add j=⟨w.heap.size,j,none⟩:=(by unfold Addr.add;split<;>simp_all);rw[hadd,Bs (A6 w _).1];simpa using hj) (fun u hu=>by simp at hu;subst hu;rfl) (by unfold maxLen;omega) (by omega) (by omega)
 refine⟨v',w',h1,?_,?_,fun b cs t f ht hh=>(h3.block b (by have:=Aa hh;omega) (fun e=>?_)).trans (B7 w _ hh).1⟩
 ·unfold NmR;rw[List.length_append,List.map_append];exact h2
 ·have:Below base (w.alloc (.cells #[.string s] 9)) w':=(Below.refl base _).grown h3 (by omega) (fun k hk=>Decidable.byContradiction fun hlt=>Hb h' (by omega) hk);exact(As hb (by have:=hb.size;omega) _).trans (this.mono hbase)
 ·obtain⟨-,⟨hv,-⟩|⟨g',cap,cur,hv,-,h6,-⟩⟩:=h'
  ·rw[hv]at e;cases e
  ·rw[hv]at e;have e2:b=g':=Option.some.inj (show some b=some g' from e);have hh2:=(B7 w (.cells #[.string s] 9) hh).1;rw[e2]at hh2;have h7:hat (w.alloc (.cells #[.string s] 9)) g'=some (.cells cur 9 (0,0)):=h6;rw[hh2]at h7;injection h7 with h8
   injection h8 with h9 h10
   exact ht h10
open Classical in
theorem pT{E:A3}{done:List Int}{z:LZ}(h:DI E done z){I:Nat->List Int}(hI:∀ i t,z.T i=some t->I i=t.raw){ns:List ByteArray}{nm:ByteArray->Bool}(hn:∀ x,nm x=true↔x∈ns){ino:Nat}(h1:1<=ino)(s:ByteArray):
  fW E (tkZ z.T) I (enZ z.T) ino s ns=true↔(ino:Int)<=E.Y/\(Cz E.X E.Y E.A ino s (z,nm)).1=true:=by
 unfold fW;rw[Bool.and_eq_true,Bool.and_eq_true,Bool.and_eq_true,decide_eq_true_eq,decide_eq_true_eq,decide_eq_true_eq,Ky];have key:∀ b:Bool,((if (z.T ino).isSome=true then(decide (nth (I ino) 0=1)&&decide (enZ z.T ino<100))else Bw (E.A ino))=true↔(Cn E.X E.Y E.A ino z).isSome=true):=by
  intro _;unfold Cn;cases ht:z.T ino with
  |none=>
   simp only[Option.isSome_none,Bool.false_eq_true,if_false];by_cases hs:Bw (E.A ino)=true
   ·rw[if_pos hs,hs];simp
   ·rw[if_neg hs];constructor
    ·intro h;exact absurd h hs
    ·intro h;cases h
  |some t=>
   obtain⟨s1,s2,s3,s4,s5,s6⟩:=h.inv.snd ino t ht;have hm:=Ir s1;have hk:=((D9 hm.2).1 hm.1).1.1;have he:=h.inv.en ino t ht;have e1:enZ z.T ino=t.en:=(by unfold enZ;rw[ht]);simp only[Option.isSome_some,if_true,e1,hI ino t ht];rw[Bool.and_eq_true,decide_eq_true_eq,decide_eq_true_eq];by_cases hc:nth t.raw 0=2\/t.en=100
   ·rw[if_pos hc];constructor
    ·rintro ⟨a,b⟩;omega
    ·intro h;cases h
   ·rw[if_neg hc];constructor
    ·intro _;rfl
    ·intro _;omega
 unfold Cz;by_cases hc:nm s=true\/ino=1
 ·rw[if_pos hc];constructor
  ·rintro ⟨⟨⟨-,b⟩,c⟩,-⟩;rcases hc with hc|hc
   ·exact absurd ((hn s).1 hc) c
   ·exact absurd hc b
  ·rintro ⟨-,h⟩;cases h
 ·rw[if_neg hc];have hc1:ino≠1:=fun e=>hc (.inr e)
  have hc2:s∉ns:=fun e=>hc (.inl ((hn s).2 e))
  have hk:=key true;show _↔_/\(match Cn E.X E.Y E.A ino z with|some z'=>(true,z',Ll nm s)|none=>(false,z,nm)).1=true
  cases he:Cn E.X E.Y E.A ino z with
  |none=>
   rw[he]at hk;constructor
   ·rintro ⟨-,d⟩;have:=hk.1 d;cases this
   ·rintro ⟨-,h⟩;cases h
  |some z'=>
   rw[he]at hk;exact⟨fun hh=>⟨hh.1.1.1,rfl⟩,fun hh=>⟨⟨⟨hh.1,hc1⟩,hc2⟩,hk.2 rfl⟩⟩
noncomputable def Zq(E:A3)(L:List Sp)(zn:LZ×(ByteArray->Bool)):LZ×(ByteArray->Bool):=L.foldl (fun zn sp=>Cy E.X E.Y E.A sp.2.toNat zn) zn
theorem jE(E:A3)(sp:Sp)(L:List Sp)(zn:LZ×(ByteArray->Bool)):Zq E (sp::L) zn=Zq E L (Cy E.X E.Y E.A sp.2.toNat zn):=rfl
theorem jL(f:Nat->Int)(k m:Nat):spF f k (m+1)=(if f k=0 then []else [((k:Int),f k)])++spF f (k+1) m:=by
 have h:=O3 f k 1 m;rw[Nat.add_comm 1 m]at h;rw[h];congr 1
 rw[Fo,Z4];simp
theorem Yd(E:A3)(bk:Int->Option Int)(f:Nat->Int):∀ (m k:Nat) (zn:LZ×(ByteArray->Bool)),(∀ j,j<m->bk (k+j:Nat)=H9 (f (k+j)))->G4 E.X E.Y E.A bk m k zn=Zq E (spF f k m) zn
 |0,k,zn,h=>rfl
 |m+1,k,zn,h=>by
  have h0:=h 0 (by omega);rw[Nat.add_zero]at h0;have ih:=Yd E bk f m (k+1);have h1:∀ j,j<m->bk (k+1+j:Nat)=H9 (f (k+1+j)):=fun j hj=>by
   have:=h (j+1) (by omega);rw[show k+(j+1)=k+1+j by omega]at this;exact this
  show G4 E.X E.Y E.A bk m (k+1) _=_
  rw[jL,ih _ h1,h0];unfold H9;by_cases hz:f k=0
  ·rw[if_pos hz,if_pos hz];rfl
  ·rw[if_neg hz,if_neg hz];rfl
theorem fS{E:A3}(hE:ROk E){z:LZ}{c:Nat}{t:TI}(hI:Ev E.X E.Y E.A z)(hP:PZ E.X E.Y z)(ht:z.T c=some t):Ct E.X E.Y E.A c z=(Zq E (spF (D6 z.st.S t.raw) 0 1068) (z,fun _=>false)).1:=by
 have hb:∀ j,j<1068->t.bk (j:Nat)=H9 (D6 z.st.S t.raw j):=fun j hj=>by
  rw[hP.bk c t ht j (Int.natCast_nonneg _) (by omega),Iw _ _ (hI.snd c t ht).2.1 j hj]
 have hcn:(Aq (nth t.raw 2)).toNat<=1068:=by
  obtain⟨s1,s2,s3,s4,s5,s6⟩:=hI.snd c t ht;have hm:=Ir s1;have hk:=((D9 hm.2).1 hm.1).1.2.2.1;rw[s4];unfold Aq;omega
 obtain⟨m,hm⟩:∃ m,(Aq (nth t.raw 2)).toNat+m=1068:=⟨1068-(Aq (nth t.raw 2)).toNat,by omega⟩;have hnil:spF (D6 z.st.S t.raw) (Aq (nth t.raw 2)).toNat m=[]:=by
  have:∀ j,j<m->D6 z.st.S t.raw ((Aq (nth t.raw 2)).toNat+j)=0:=fun j hj=>by
   have h1:=hb ((Aq (nth t.raw 2)).toNat+j) (by omega);unfold H9 at h1;split at h1
   ·rename_i h2;exact h2
   ·have:=hI.keys c t _ _ ht h1;omega
  clear hm;induction m with
  |zero=>rfl
  |succ m ih=>rw[Fo,ih (fun j hj=>this j (by omega)),if_pos (this m (by omega))];rfl
 unfold Ct;rw[ht];show(G4 E.X E.Y E.A t.bk (Aq (nth t.raw 2)).toNat 0 (z,fun _=>false)).1=_
 rw[Yd E t.bk (D6 z.st.S t.raw) _ 0 _ (fun j hj=>by rw[Nat.zero_add];exact hb j (by omega))];have hsp:=O3 (D6 z.st.S t.raw) 0 (Aq (nth t.raw 2)).toNat m;rw[hm,Nat.zero_add,hnil,List.append_nil]at hsp;rw[hsp]
end Go.Proofs.YtmnecpnkkapflaaGreat
