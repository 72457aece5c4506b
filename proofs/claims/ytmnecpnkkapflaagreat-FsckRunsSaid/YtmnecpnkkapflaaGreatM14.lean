import Derived.Test.YtmnecpnkkapflaaGreatM10
import Derived.Test.YtmnecpnkkapflaaGreatM13
namespace Go.Proofs.YtmnecpnkkapflaaGreat
set_option maxHeartbeats 16000000
set_option maxRecDepth 1000000
set_option linter.unusedSimpArgs false
set_option linter.unusedVariables false
open Go.RowKit
def NmR(w:World)(base:Nat)(v:Value)(ns:List ByteArray):Prop:=w.ownsRow base 9 1 v ns.length (ns.map Value.string)
theorem NmR.below{w w':World}{base:Nat}{v:Value}{ns:List ByteArray}(h:NmR w base v ns)(hb:Below w.heap.size w w'):NmR w' base v ns:=M3 h hb
theorem NmR.sl{w:World}{base:Nat}{v:Value}{ns:List ByteArray}(h:NmR w base v ns):∃ a c,v= .slice a ns.length c:=by
 obtain⟨-,⟨rfl,hn⟩|⟨g,cap,cur,h1,-⟩⟩:=h
 ·exact⟨none,0,by rw[hn]⟩
 ·exact⟨_,_,h1⟩
theorem NmR.at{w:World}{base:Nat}{v:Value}{ns:List ByteArray}(h:NmR w base v ns)(hl:ns≠[]):∃ g c cs,v= .slice (some ⟨g,0,none⟩) ns.length c/\hat w g=some (.cells cs 9)/\∀ (j:Nat) (s:ByteArray),ns[j]? =some s->cs[j]? =some (.string s):=by
 obtain⟨-,⟨rfl,hn⟩|⟨g,cap,cur,h1,h2,h3,h4,h5,h6,h7⟩⟩:=h
 ·exact absurd (List.length_eq_zero_iff.1 hn) hl
 ·refine⟨g,cap,cur,h1,h3,fun j s hj=>?_⟩;have hj2:(ns.map Value.string)[j]? =some (.string s):=(by rw[List.getElem?_map,hj];rfl);rw[<-h7,List.getElem?_take]at hj2;split at hj2
  ·simpa using hj2
  ·cases hj2
theorem Pm{w:World}{g M:Nat}{I:Nat->List Int}(h:Lf w g M I){cs:Array Value}(hc:hat w g=some (.cells cs 78)){i:Nat}(hi:i<M)(k:Nat)(hk:k<18):cs[i*18+k]? =some (.int .i64 (nth (I i) k)):=by
 obtain⟨cs',h1,h2,h3⟩:=h;rw[hc]at h1;obtain rfl:cs=cs':=by
  have:=Option.some.inj h1;injection this
 obtain⟨h4,h5⟩:=h3 i hi;have:=congrArg (fun a:Array Value=>a[k]?) h5;simp only[Array.getElem?_extract,Bl,An (l:=I i) (i:=k) (by omega)]at this;rw[if_pos (by omega)]at this;exact this
theorem tN:Lk Tryz.prog 160 3:=Ts Tryz.underlying160 rfl (by kernel_rfl)
section
variable {E:A3} {o:Option Nat} {l:List Int} {tk:Int->Bool} {I:Nat->List Int} {en:Nat->Int} {S:Nat->List Int} {cl:Int->Bool}
theorem Jm(w:World)(h:RG E w o l S cl tk I en):
  Calls Tryz.prog 100 #[.pointer (some ⟨E.g,0,none⟩)] w fun e w'=>e= .returned (Mb E.gw E.N E.cw)/\Below w.heap.size w w':=by
 obtain⟨v,hl,-⟩:=h.l;have hll:=Aa hl;have hB1:Below w.heap.size w (w.alloc (.cells #[.slice none 0 0,.int .i64 0,.int .i64 0] 160)):=(Below.refl _ _).alloc (Nat.le_refl _) _;have hg1:=(A6 w (.cells #[.slice none 0 0,.int .i64 0,.int .i64 0] 160)).1;have hl1:=(hop hB1 hl).1;have HB1:=zA hB1;clear h hB1;go_enter Tryz.func100,Tryz.ntmps100;go_upto_region 1 with fail;generalize w.alloc (.cells #[.slice none 0 0,.int .i64 0,.int .i64 0] 160)=w1 at*;have hll1:=Aa hl1;have hlg1:=Aa hg1;go_wp2_with fail;have h3:=Ah _ _ 2 (.int .i64 0) _ _ _ (Ah _ _ 1 (.int .i64 (-1)) _ _ _ (Ah _ _ 0 (.slice (some ⟨E.gw,0,none⟩) E.N E.cw) _ _ _ hg1));have hf:Fr [w.heap.size] w1 (((w1.setCell ⟨w.heap.size,0,none⟩ (.slice (some ⟨E.gw,0,none⟩) E.N E.cw)).setCell ⟨w.heap.size,1,none⟩ (.int .i64 (-1))).setCell ⟨w.heap.size,2,none⟩ (.int .i64 0)):=((Ai _ _ _ _).trans (Ai _ _ _ _)).trans (Ai _ _ _ _);exact Qu tN rfl rfl h3 rfl rfl ⟨rfl,HB1.out.trans (hf.below HB1.out.size (by simp))⟩
theorem N3(hE:ROk E)(i:Nat)(h1:1<=i)(hY:(i:Int)<=E.Y)(w:World)(h:RG E w o l S cl tk I en):
  Calls Tryz.prog 66 #[.pointer (some ⟨E.g,0,none⟩),.int .i64 i] w fun e w'=>e= .returned (.tuple #[.agg (IV .i64 (Am (E.A i)).1),.bool (Bw (E.A i))])/\Below w.heap.size w w':=by
 have hi:i<E.N:=by have:=hE.YN;omega
 have hS:=h.i;obtain⟨v,hl,-⟩:=h.l;obtain⟨cs,t,fr,hcs,hld⟩:=hS.load hi;obtain⟨hlen,hby⟩:=hS.len hi;have hcall:=fun w=>cG (E.A i) hlen hby w
 have hrl:=Bo (E.A i);unfold Bw;generalize (Am (E.A i)).1=r at*;generalize (Am (E.A i)).2=c at*;have HCALL:=zA hcall;clear hcall;have hgl:=Aa hl;have hgi:=Aa hcs;have d1:decide ((i:Int)<1)=false:=decide_eq_false (by omega);have d2:decide (E.Y<(i:Int))=false:=decide_eq_false (by omega);have hiN:(i:Int)<(E.N:Int):=by omega
 have hi0:(0:Int)<=(i:Int):=Int.natCast_nonneg _;clear hS hlen hby h;go_enter Tryz.func66,Tryz.ntmps66;go_wp2_with fail;refine(HCALL.out _).mono ?_;rintro e w1 ⟨rfl,hb⟩;have hsz:=hb.size;have hres:hat w1 w.heap.size=some (.cells (IV .i64 (zl 18)) 78):=(A7 hb (A6 w _).2).trans (A6 w _).1;have hlt:w.heap.size<w1.heap.size:=Aa hres;have hb0:Below w.heap.size w w1:=((Below.refl w.heap.size w).alloc (Nat.le_refl _) _).trans (hb.mono (by simp));have HB:=zA hb0;clear hb hsz hb0;cases dc:(c==0)
 ·go_wp2_with fail;go_region
  go_wp2_with fail;refine Aw M8 rfl (cs:=IV .i64 r) rfl (B7 _ _ (Ed hres _).1).1 (by simp[hrl]) rfl ⟨?_,Dy (As (Ag HB.out (Nat.le_refl _) _) (by simp;omega) _)⟩;have hc0:¬ c=0:=(by simpa using dc);simp[hc0]
 ·go_wp2_with fail;go_region
  go_wp2_with fail;refine Aw M8 rfl (cs:=IV .i64 r) rfl (B7 _ _ (Ed hres _).1).1 (by simp[hrl]) rfl ⟨?_,Dy (As (Ag HB.out (Nat.le_refl _) _) (by simp;omega) _)⟩;have hc0:c=0:=(by simpa using dc);by_cases h0:nth r 0=0<;>simp[hc0,h0]
open Classical in
noncomputable def fW(E:A3)(tk:Int->Bool)(I:Nat->List Int)(en:Nat->Int)(ino:Nat)(nm:ByteArray)(ns:List ByteArray):Bool:=
 decide ((ino:Int)<=E.Y)&&decide (ino≠1)&&decide (nm∉ns)&&if tk ino=true then decide (nth (I ino) 0=1)&&decide (en ino<100)else Bw (E.A ino)
open Classical in
theorem Xc(hE:ROk E)(ino:Nat)(h1:1<=ino)(nm:ByteArray)(ns:List ByteArray)(hns:ns.length<=100000){base:Nat}{vn:Value}(w:World)(h:RG E w o l S cl tk I en)(hv:NmR w base vn ns):
  Calls Tryz.prog 102 #[.pointer (some ⟨E.g,0,none⟩),.agg #[.int .i64 ino,.string nm],vn] w fun e w'=>e= .returned (.bool (fW E tk I en ino nm ns))/\Below w.heap.size w w':=by
 obtain⟨a,c,rfl⟩:=hv.sl;have hB1:Below w.heap.size w (w.alloc (.cells #[.int .i64 ino,.string nm] 125)):=(Below.refl _ _).alloc (Nat.le_refl _) _;have hg1:=(A6 w (.cells #[.int .i64 ino,.string nm] 125)).1;have HB1:=zA hB1;have HG1:=zA (h.below hB1);have HV1:=zA (hv.below hB1);have HRES:Hid (fW E tk I en ino nm ns=(decide ((ino:Int)<=E.Y)&&decide (ino≠1)&&decide (nm∉ns)&&if tk ino=true then decide (nth (I ino) 0=1)&&decide (en ino<100)else Bw (E.A ino))):=zA rfl;obtain⟨res,hres⟩:∃ r,fW E tk I en ino nm ns=r:=⟨_,rfl⟩;rw[hres]at HRES ⊢;clear hres h hv hB1;obtain⟨v,hl1,-⟩:=HG1.out.l;go_enter Tryz.func102,Tryz.ntmps102;go_upto_region 1 with fail;generalize w.alloc (.cells #[.int .i64 ino,.string nm] 125)=w1 at*;have hi0:(0:Int)<=(ino:Int):=Int.natCast_nonneg _;by_cases hY:(ino:Int)<=E.Y
 ·have d1:decide (E.Y<(ino:Int))=false:=decide_eq_false (by omega);by_cases hr:ino=1
  ·have d2:((ino:Int)==1)=true:=(by simp;omega);have HR:Hid (res=false):=zA (by rw[HRES.out,decide_eq_false (p:=ino≠1) (by omega)];simp);refine Ba (by kernel_rfl) 13 (by decide) rfl (fun i=>match i with|0=>(.pointer (some ⟨w.heap.size,0,none⟩))|1=>(.int .i64 (ino:Int))|2=>(.pointer (some ⟨E.g,0,none⟩))|3=>(.pointer (some ⟨E.g,0,none⟩))|4=>(.pointer (some ⟨E.g,0,none⟩))|5=>(.pointer (some ⟨E.g,1,none⟩))|6=>(.int .i64 E.Y)|7=>(.bool false)|8=>(.bool false)|9=>(.pointer (some ⟨w.heap.size,0,none⟩))|10=>(.int .i64 (ino:Int))|11=>(.bool true)|_=>(.bool true)) ?_ ?_
   ·intro i' o ho0 ho a' w' hB hS hF;have hi':i'=0\/i'=1\/i'=2\/i'=3\/i'=4\/i'=5\/i'=6\/i'=7\/i'=8\/i'=9\/i'=10\/i'=11\/i'=12:=(by omega);have hg1:=(hop hB hg1).1;have hl1:=(hop hB hl1).1;rcases hi' with rfl|rfl|rfl|rfl|rfl|rfl|rfl|rfl|rfl|rfl|rfl|rfl|rfl
    all_goals (have ho':=Option.some.inj ho;subst ho')
    ·have q4:a'.tmps[4]?.getD undef=(.pointer (some ⟨w.heap.size,0,none⟩)):=gtx ((hS 4 (by decide)).trans rfl);refine Ab rfl (Ac rfl) ?_ ⟨rfl,hB⟩;simp[go_sem,q4]
    ·have q10:=gtx (hF 0 (by decide) _ 10 rfl rfl);refine Ab rfl (Ac rfl) ?_ ⟨rfl,hB⟩;simp[go_sem,q10,hg1]
    ·have q0:a'.tmps[0]?.getD undef=(.pointer (some ⟨E.g,0,none⟩)):=gtx ((hS 0 (by decide)).trans rfl);refine Ab rfl (Ac rfl) ?_ ⟨rfl,hB⟩;simp[go_sem,q0]
    ·have q12:=gtx (hF 2 (by decide) _ 12 rfl rfl);refine Ab rfl (Ac rfl) ?_ ⟨rfl,hB⟩;simp[go_sem,q12]
    ·have q13:=gtx (hF 3 (by decide) _ 13 rfl rfl);refine Ab rfl (Ac rfl) ?_ ⟨rfl,hB⟩;simp[go_sem,q13]
    ·have q14:=gtx (hF 4 (by decide) _ 14 rfl rfl);refine Ab rfl (Ac rfl) ?_ ⟨rfl,hB⟩;simp[go_sem,q14]
    ·have q15:=gtx (hF 5 (by decide) _ 15 rfl rfl);refine Ab rfl (Ac rfl) ?_ ⟨rfl,hB⟩;simp[go_sem,q15,hl1]
    ·have q11:=gtx (hF 1 (by decide) _ 11 rfl rfl);have q16:=gtx (hF 6 (by decide) _ 16 rfl rfl);refine Ab rfl (Ac rfl) ?_ ⟨rfl,hB⟩;simp[go_sem,q11,q16,d1]
    ·have q17:=gtx (hF 7 (by decide) _ 17 rfl rfl);refine Ab rfl (Ac rfl) ?_ ⟨rfl,hB⟩;simp[go_sem,q17]
    ·have q4:a'.tmps[4]?.getD undef=(.pointer (some ⟨w.heap.size,0,none⟩)):=gtx ((hS 4 (by decide)).trans rfl);refine Ab rfl (Av rfl rfl rfl (hF 8 (by decide) _ 18 rfl rfl)) ?_ ⟨rfl,hB⟩;simp[go_sem,q4]
    ·have q19:=gtx (hF 9 (by decide) _ 19 rfl rfl);refine Ab rfl (Av rfl rfl rfl (hF 8 (by decide) _ 18 rfl rfl)) ?_ ⟨rfl,hB⟩;simp[go_sem,q19,hg1]
    ·have q20:=gtx (hF 10 (by decide) _ 20 rfl rfl);refine Ab rfl (Av rfl rfl rfl (hF 8 (by decide) _ 18 rfl rfl)) ?_ ⟨rfl,hB⟩;simp[go_sem,q20,d2]
    ·have q18:=gtx (hF 8 (by decide) _ 18 rfl rfl);have q21:=gtx (hF 11 (by decide) _ 21 rfl rfl);refine Ab rfl (Ac rfl) ?_ ⟨rfl,hB⟩;simp[go_sem,q18,q21]
   intro w2 hB2;simp only[Bi,List.take,List.drop,List.take_succ_cons,List.drop_succ_cons,Act.put,List.setIfInBounds_toArray,List.set_cons_zero,List.set_cons_succ];go_wp2_with fail;go_ret;exact⟨by rw[HR.out];rfl,Ad HB1.out hB2 (by have:=HB1.out.size;omega)⟩
  ·have d2:((ino:Int)==1)=false:=(by simp;omega);refine Ba (by kernel_rfl) 13 (by decide) rfl (fun i=>match i with|0=>(.pointer (some ⟨w.heap.size,0,none⟩))|1=>(.int .i64 (ino:Int))|2=>(.pointer (some ⟨E.g,0,none⟩))|3=>(.pointer (some ⟨E.g,0,none⟩))|4=>(.pointer (some ⟨E.g,0,none⟩))|5=>(.pointer (some ⟨E.g,1,none⟩))|6=>(.int .i64 E.Y)|7=>(.bool false)|8=>(.bool false)|9=>(.pointer (some ⟨w.heap.size,0,none⟩))|10=>(.int .i64 (ino:Int))|11=>(.bool false)|_=>(.bool false)) ?_ ?_
   ·intro i' o ho0 ho a' w' hB hS hF;have hi':i'=0\/i'=1\/i'=2\/i'=3\/i'=4\/i'=5\/i'=6\/i'=7\/i'=8\/i'=9\/i'=10\/i'=11\/i'=12:=(by omega);have hg1:=(hop hB hg1).1;have hl1:=(hop hB hl1).1;rcases hi' with rfl|rfl|rfl|rfl|rfl|rfl|rfl|rfl|rfl|rfl|rfl|rfl|rfl
    all_goals (have ho':=Option.some.inj ho;subst ho')
    ·have q4:a'.tmps[4]?.getD undef=(.pointer (some ⟨w.heap.size,0,none⟩)):=gtx ((hS 4 (by decide)).trans rfl);refine Ab rfl (Ac rfl) ?_ ⟨rfl,hB⟩;simp[go_sem,q4]
    ·have q10:=gtx (hF 0 (by decide) _ 10 rfl rfl);refine Ab rfl (Ac rfl) ?_ ⟨rfl,hB⟩;simp[go_sem,q10,hg1]
    ·have q0:a'.tmps[0]?.getD undef=(.pointer (some ⟨E.g,0,none⟩)):=gtx ((hS 0 (by decide)).trans rfl);refine Ab rfl (Ac rfl) ?_ ⟨rfl,hB⟩;simp[go_sem,q0]
    ·have q12:=gtx (hF 2 (by decide) _ 12 rfl rfl);refine Ab rfl (Ac rfl) ?_ ⟨rfl,hB⟩;simp[go_sem,q12]
    ·have q13:=gtx (hF 3 (by decide) _ 13 rfl rfl);refine Ab rfl (Ac rfl) ?_ ⟨rfl,hB⟩;simp[go_sem,q13]
    ·have q14:=gtx (hF 4 (by decide) _ 14 rfl rfl);refine Ab rfl (Ac rfl) ?_ ⟨rfl,hB⟩;simp[go_sem,q14]
    ·have q15:=gtx (hF 5 (by decide) _ 15 rfl rfl);refine Ab rfl (Ac rfl) ?_ ⟨rfl,hB⟩;simp[go_sem,q15,hl1]
    ·have q11:=gtx (hF 1 (by decide) _ 11 rfl rfl);have q16:=gtx (hF 6 (by decide) _ 16 rfl rfl);refine Ab rfl (Ac rfl) ?_ ⟨rfl,hB⟩;simp[go_sem,q11,q16,d1]
    ·have q17:=gtx (hF 7 (by decide) _ 17 rfl rfl);refine Ab rfl (Ac rfl) ?_ ⟨rfl,hB⟩;simp[go_sem,q17]
    ·have q4:a'.tmps[4]?.getD undef=(.pointer (some ⟨w.heap.size,0,none⟩)):=gtx ((hS 4 (by decide)).trans rfl);refine Ab rfl (Av rfl rfl rfl (hF 8 (by decide) _ 18 rfl rfl)) ?_ ⟨rfl,hB⟩;simp[go_sem,q4]
    ·have q19:=gtx (hF 9 (by decide) _ 19 rfl rfl);refine Ab rfl (Av rfl rfl rfl (hF 8 (by decide) _ 18 rfl rfl)) ?_ ⟨rfl,hB⟩;simp[go_sem,q19,hg1]
    ·have q20:=gtx (hF 10 (by decide) _ 20 rfl rfl);refine Ab rfl (Av rfl rfl rfl (hF 8 (by decide) _ 18 rfl rfl)) ?_ ⟨rfl,hB⟩;simp[go_sem,q20,d2]
    ·have q18:=gtx (hF 8 (by decide) _ 18 rfl rfl);have q21:=gtx (hF 11 (by decide) _ 21 rfl rfl);refine Ab rfl (Ac rfl) ?_ ⟨rfl,hB⟩;simp[go_sem,q18,q21]
   intro w2 hB2;simp only[Bi,List.take,List.drop,List.take_succ_cons,List.drop_succ_cons,Act.put,List.setIfInBounds_toArray,List.set_cons_zero,List.set_cons_succ];have HB2:=zA hB2;have hl2:=(hop hB2 hl1).1;have hg2:=(hop hB2 hg1).1;have HG2:=zA (HG1.out.below hB2);have HV2:=zA (HV1.out.below hB2);clear hB2 HG1 HV1 hl1 hg1;go_wp2_with fail;go_loopw [7] (fun kv wr=>∃ j:Nat,kv= .int .i64 j/\j<=ns.length/\Hid (∀ j' s,j'<j->ns[j']? =some s->s≠nm)/\Hid (Below w2.heap.size w2 wr)) (fun kv _=>ns.length-(intOf kv).toNat)
   case atStart=>exact⟨0,rfl,by omega,zA (fun j' s h=>by omega),zA (Below.refl _ _)⟩
   case round=>
    obtain⟨j,rfl,hj,HN,HF⟩:=hrel;have hj0:(0:Int)<=(j:Int):=Int.natCast_nonneg _;obtain⟨w3,hw3⟩:∃ x,x=wr:=⟨_,rfl⟩;subst hw3;have hg3:=(hop HF.out hg2).1;have hl3:=(hop HF.out hl2).1;have HV3:=zA (HV2.out.below HF.out);by_cases hjl:j<ns.length
    ·have hji:(j:Int)<(ns.length:Int):=(by omega);obtain⟨s,hs⟩:=D8 (l:=ns) (k:=j) hjl;obtain⟨gn,cn,csn,en1,hcn,hall⟩:=HV3.out.at (fun e=>by rw[e]at hjl;simp at hjl);injection en1 with ea eb ec
     subst ea;subst ec;have hcs:=hall j s hs;have HS:=zA hs;clear hall hs eb;by_cases hsn:s=nm
     ·have hnn:s.toList=nm.toList:=(by rw[hsn])
      have HR:Hid (res=false):=zA (by
       rw[HRES.out,decide_eq_false (p:=nm∉ns) (fun h=>h (by rw[<-hsn];exact List.mem_of_getElem? HS.out))];simp)
      clear hsn;go_wp2_with fail;refine Ba (by kernel_rfl) 7 (by decide) rfl (fun i=>match i with|0=>(.slice (some ⟨gn,0,none⟩) ns.length c)|1=>(.int .i64 (j:Int))|2=>(.pointer (some ⟨gn,j,none⟩))|3=>(.string s)|4=>(.pointer (some ⟨w.heap.size,1,none⟩))|5=>(.string nm)|_=>(.bool true)) ?_ ?_
      ·intro i' o ho0 ho a' w' hB hS hF;have hi':i'=0\/i'=1\/i'=2\/i'=3\/i'=4\/i'=5\/i'=6:=(by omega);have hg3:=(hop hB hg3).1;have hcn:=(hop hB hcn).1;rcases hi' with rfl|rfl|rfl|rfl|rfl|rfl|rfl
       all_goals (have ho':=Option.some.inj ho;subst ho')
       ·have q2:a'.tmps[2]?.getD undef=(.slice (some ⟨gn,0,none⟩) ns.length c):=gtx ((hS 2 (by decide)).trans rfl);refine Ab rfl (Ac rfl) ?_ ⟨rfl,hB⟩;simp[go_sem,q2]
       ·have q7:a'.tmps[7]?.getD undef=(.int .i64 (j:Int)):=gtx ((hS 7 (by decide)).trans rfl);refine Ab rfl (Ac rfl) ?_ ⟨rfl,hB⟩;simp[go_sem,q7]
       ·have q29:=gtx (hF 0 (by decide) _ 29 rfl rfl);have q30:=gtx (hF 1 (by decide) _ 30 rfl rfl);refine Ab rfl (Ac rfl) ?_ ⟨rfl,hB⟩;simp[go_sem,q29,q30,hj0,hji,hjl]
       ·have q31:=gtx (hF 2 (by decide) _ 31 rfl rfl);refine Ab rfl (Ac rfl) ?_ ⟨rfl,hB⟩;simp[go_sem,q31,hcn,hcs]
       ·have q4:a'.tmps[4]?.getD undef=(.pointer (some ⟨w.heap.size,0,none⟩)):=gtx ((hS 4 (by decide)).trans rfl);refine Ab rfl (Ac rfl) ?_ ⟨rfl,hB⟩;simp[go_sem,q4]
       ·have q33:=gtx (hF 4 (by decide) _ 33 rfl rfl);refine Ab rfl (Ac rfl) ?_ ⟨rfl,hB⟩;simp[go_sem,q33,hg3]
       ·have q32:=gtx (hF 3 (by decide) _ 32 rfl rfl);have q34:=gtx (hF 5 (by decide) _ 34 rfl rfl);refine Ab rfl (Ac rfl) ?_ ⟨rfl,hB⟩;simp[go_sem,q32,q34,hnn]
      intro w4 hB4;simp only[Bi,List.take,List.drop,List.take_succ_cons,List.drop_succ_cons,Act.put,List.setIfInBounds_toArray,List.set_cons_zero,List.set_cons_succ];go_wp2_with fail;go_ret;exact⟨by rw[HR.out];rfl,Ad HB1.out (Ad HB2.out (Ad HF.out hB4 HF.out.size) HB2.out.size) (by have:=HB1.out.size;omega)⟩
     ·have hnn:¬ s.toList=nm.toList:=fun h=>hsn (cU h)
      have HN2:Hid (∀ j' s,j'<j+1->ns[j']? =some s->s≠nm):=zA (fun j' s' h hs'=>by
       by_cases e:j'=j
       ·subst e;rw[HS.out]at hs';rw[<-Option.some.inj hs'];exact hsn
       ·exact HN.out j' s' (by omega) hs')
      clear hsn;go_wp2_with fail;refine Ba (by kernel_rfl) 7 (by decide) rfl (fun i=>match i with|0=>(.slice (some ⟨gn,0,none⟩) ns.length c)|1=>(.int .i64 (j:Int))|2=>(.pointer (some ⟨gn,j,none⟩))|3=>(.string s)|4=>(.pointer (some ⟨w.heap.size,1,none⟩))|5=>(.string nm)|_=>(.bool false)) ?_ ?_
      ·intro i' o ho0 ho a' w' hB hS hF;have hi':i'=0\/i'=1\/i'=2\/i'=3\/i'=4\/i'=5\/i'=6:=(by omega);have hg3:=(hop hB hg3).1;have hcn:=(hop hB hcn).1;rcases hi' with rfl|rfl|rfl|rfl|rfl|rfl|rfl
       all_goals (have ho':=Option.some.inj ho;subst ho')
       ·have q2:a'.tmps[2]?.getD undef=(.slice (some ⟨gn,0,none⟩) ns.length c):=gtx ((hS 2 (by decide)).trans rfl);refine Ab rfl (Ac rfl) ?_ ⟨rfl,hB⟩;simp[go_sem,q2]
       ·have q7:a'.tmps[7]?.getD undef=(.int .i64 (j:Int)):=gtx ((hS 7 (by decide)).trans rfl);refine Ab rfl (Ac rfl) ?_ ⟨rfl,hB⟩;simp[go_sem,q7]
       ·have q29:=gtx (hF 0 (by decide) _ 29 rfl rfl);have q30:=gtx (hF 1 (by decide) _ 30 rfl rfl);refine Ab rfl (Ac rfl) ?_ ⟨rfl,hB⟩;simp[go_sem,q29,q30,hj0,hji,hjl]
       ·have q31:=gtx (hF 2 (by decide) _ 31 rfl rfl);refine Ab rfl (Ac rfl) ?_ ⟨rfl,hB⟩;simp[go_sem,q31,hcn,hcs]
       ·have q4:a'.tmps[4]?.getD undef=(.pointer (some ⟨w.heap.size,0,none⟩)):=gtx ((hS 4 (by decide)).trans rfl);refine Ab rfl (Ac rfl) ?_ ⟨rfl,hB⟩;simp[go_sem,q4]
       ·have q33:=gtx (hF 4 (by decide) _ 33 rfl rfl);refine Ab rfl (Ac rfl) ?_ ⟨rfl,hB⟩;simp[go_sem,q33,hg3]
       ·have q32:=gtx (hF 3 (by decide) _ 32 rfl rfl);have q34:=gtx (hF 5 (by decide) _ 34 rfl rfl);refine Ab rfl (Ac rfl) ?_ ⟨rfl,hB⟩;simp[go_sem,q32,q34,hnn]
      intro w4 hB4;simp only[Bi,List.take,List.drop,List.take_succ_cons,List.drop_succ_cons,Act.put,List.setIfInBounds_toArray,List.set_cons_zero,List.set_cons_succ];go_wp2_with fail;go_roundw
      case rel=>exact⟨j+1,by go_num,by omega,HN2,zA (Ad HF.out hB4 HF.out.size)⟩
      case measure=>(show ns.length-(j+1)<ns.length-j);omega
    ·have hji:¬ (j:Int)<(ns.length:Int):=(by omega);have HNI:Hid (nm∉ns):=zA (fun hm=>by
      obtain⟨j',hj'⟩:=List.mem_iff_getElem?.1 hm;exact HN.out j' nm (by have:=(List.getElem?_eq_some_iff.1 hj').1;omega) hj' rfl)
     have HR:Hid (res=if tk ino=true then decide (nth (I ino) 0=1)&&decide (en ino<100)else Bw (E.A ino)):=zA (by
      rw[HRES.out,decide_eq_true hY,decide_eq_true (p:=ino≠1) (by omega),decide_eq_true HNI.out];simp)
     have HG3:=zA (HG2.out.below HF.out);have HB3:=zA (Ad HB1.out (Ad HB2.out HF.out HB2.out.size) (by have:=HB1.out.size;omega));have hM:ino<E.M:=(by have:=hE.M;omega);have hMi:(ino:Int)<(E.M:Int):=(by omega);obtain⟨cst,hct,-,hallt⟩:=HG3.out.t;have hcti:=hallt ino hM;have hE2:=zA hE;clear HN HF HV2 HV3 HG2 HB2 hl2 hg2 hallt HNI;go_upto_region 8 with fail;cases htk:tk ino with
     |true=>
      rw[htk]at hcti;have HR2:Hid (res=(decide (nth (I ino) 0=1)&&decide (en ino<100))):=zA (by rw[HR.out,if_pos htk]);refine Ba (by kernel_rfl) 8 (by decide) rfl (fun i=>match i with|0=>(.pointer (some ⟨E.g,0,none⟩))|1=>(.pointer (some ⟨E.g,0,none⟩))|2=>(.pointer (some ⟨E.g,5,none⟩))|3=>(.slice (some ⟨E.gt,0,none⟩) E.M E.ct)|4=>(.pointer (some ⟨w.heap.size,0,none⟩))|5=>(.int .i64 (ino:Int))|6=>(.pointer (some ⟨E.gt,ino,none⟩))|_=>(.bool true)) ?_ ?_
      ·intro i' o ho0 ho a' w' hB hS hF;have hi':i'=0\/i'=1\/i'=2\/i'=3\/i'=4\/i'=5\/i'=6\/i'=7:=(by omega);have hg3:=(hop hB hg3).1;have hl3:=(hop hB hl3).1;have hct:=(hop hB hct).1;rcases hi' with rfl|rfl|rfl|rfl|rfl|rfl|rfl|rfl
       all_goals (have ho':=Option.some.inj ho;subst ho')
       ·have q0:a'.tmps[0]?.getD undef=(.pointer (some ⟨E.g,0,none⟩)):=gtx ((hS 0 (by decide)).trans rfl);refine Ab rfl (Ac rfl) ?_ ⟨rfl,hB⟩;simp[go_sem,q0]
       ·have q36:=gtx (hF 0 (by decide) _ 36 rfl rfl);refine Ab rfl (Ac rfl) ?_ ⟨rfl,hB⟩;simp[go_sem,q36]
       ·have q37:=gtx (hF 1 (by decide) _ 37 rfl rfl);refine Ab rfl (Ac rfl) ?_ ⟨rfl,hB⟩;simp[go_sem,q37]
       ·have q38:=gtx (hF 2 (by decide) _ 38 rfl rfl);refine Ab rfl (Ac rfl) ?_ ⟨rfl,hB⟩;simp[go_sem,q38,hl3]
       ·have q4:a'.tmps[4]?.getD undef=(.pointer (some ⟨w.heap.size,0,none⟩)):=gtx ((hS 4 (by decide)).trans rfl);refine Ab rfl (Ac rfl) ?_ ⟨rfl,hB⟩;simp[go_sem,q4]
       ·have q40:=gtx (hF 4 (by decide) _ 40 rfl rfl);refine Ab rfl (Ac rfl) ?_ ⟨rfl,hB⟩;simp[go_sem,q40,hg3]
       ·have q39:=gtx (hF 3 (by decide) _ 39 rfl rfl);have q41:=gtx (hF 5 (by decide) _ 41 rfl rfl);refine Ab rfl (Ac rfl) ?_ ⟨rfl,hB⟩;simp[go_sem,q39,q41,hi0,hMi,hM]
       ·have q42:=gtx (hF 6 (by decide) _ 42 rfl rfl);refine Ab rfl (Ac rfl) ?_ ⟨rfl,hB⟩;simp[go_sem,q42,hct,hcti]
      intro w4 hB4;simp only[Bi,List.take,List.drop,List.take_succ_cons,List.drop_succ_cons,Act.put,List.setIfInBounds_toArray,List.set_cons_zero,List.set_cons_succ];have HB4:=zA (Ad HB3.out hB4 HB3.out.size);have HG4:=zA (HG3.out.below hB4);have hg4:=(hop hB4 hg3).1;have hl4:=(hop hB4 hl3).1;obtain⟨csn,hcn,hldn,hlnn⟩:=HG4.out.n.load hM;obtain⟨cse,hce,-,halle⟩:=HG4.out.e;have hcei:=halle ino hM;have hk0:csn[ino*18]? =some (.int .i64 (nth (I ino) 0)):=Pm HG4.out.n hcn hM 0 (by omega);clear hB4 hg3 hl3 HG3 HB3 halle;go_upto_region 9 with fail;by_cases hk:nth (I ino) 0=1
      ·have dk:(nth (I ino) 0==1)=true:=(by simpa using hk);have HR3:Hid (res=decide (en ino<100)):=zA (by rw[HR2.out,decide_eq_true hk,Bool.true_and]);clear hk;refine Ba (by kernel_rfl) 22 (by decide) rfl (fun i=>match i with|0=>(.pointer (some ⟨E.g,0,none⟩))|1=>(.pointer (some ⟨E.g,0,none⟩))|2=>(.pointer (some ⟨E.g,6,none⟩))|3=>(.slice (some ⟨E.gn,0,none⟩) E.M E.cn)|4=>(.pointer (some ⟨w.heap.size,0,none⟩))|5=>(.int .i64 (ino:Int))|6=>(.pointer (some ⟨E.gn,ino*18,none⟩))|7=>(.pointer (some ⟨E.gn,ino*18,none⟩))|8=>(.int .i64 (nth (I ino) 0))|9=>(.bool true)|10=>(.bool true)|11=>(.pointer (some ⟨E.g,0,none⟩))|12=>(.pointer (some ⟨E.g,0,none⟩))|13=>(.pointer (some ⟨E.g,7,none⟩))|14=>(.slice (some ⟨E.ge,0,none⟩) E.M E.ce)|15=>(.pointer (some ⟨w.heap.size,0,none⟩))|16=>(.int .i64 (ino:Int))|17=>(.pointer (some ⟨E.ge,ino,none⟩))|18=>(.int .i64 (en ino))|19=>(.bool (decide (en ino<100)))|20=>(.bool (decide (en ino<100)))|_=>(.bool (decide (en ino<100)))) ?_ ?_
       ·intro i' o ho0 ho a' w' hB hS hF;have hi':i'=0\/i'=1\/i'=2\/i'=3\/i'=4\/i'=5\/i'=6\/i'=7\/i'=8\/i'=9\/i'=10\/i'=11\/i'=12\/i'=13\/i'=14\/i'=15\/i'=16\/i'=17\/i'=18\/i'=19\/i'=20\/i'=21:=(by omega);have hg4:=(hop hB hg4).1;have hl4:=(hop hB hl4).1;have hcn:=(hop hB hcn).1;have hce:=(hop hB hce).1;rcases hi' with rfl|rfl|rfl|rfl|rfl|rfl|rfl|rfl|rfl|rfl|rfl|rfl|rfl|rfl|rfl|rfl|rfl|rfl|rfl|rfl|rfl|rfl
        all_goals (have ho':=Option.some.inj ho;subst ho')
        ·have q0:a'.tmps[0]?.getD undef=(.pointer (some ⟨E.g,0,none⟩)):=gtx ((hS 0 (by decide)).trans rfl);refine Ab rfl (Ac rfl) ?_ ⟨rfl,hB⟩;simp[go_sem,q0]
        ·have q44:=gtx (hF 0 (by decide) _ 44 rfl rfl);refine Ab rfl (Ac rfl) ?_ ⟨rfl,hB⟩;simp[go_sem,q44]
        ·have q45:=gtx (hF 1 (by decide) _ 45 rfl rfl);refine Ab rfl (Ac rfl) ?_ ⟨rfl,hB⟩;simp[go_sem,q45]
        ·have q46:=gtx (hF 2 (by decide) _ 46 rfl rfl);refine Ab rfl (Ac rfl) ?_ ⟨rfl,hB⟩;simp[go_sem,q46,hl4]
        ·have q4:a'.tmps[4]?.getD undef=(.pointer (some ⟨w.heap.size,0,none⟩)):=gtx ((hS 4 (by decide)).trans rfl);refine Ab rfl (Ac rfl) ?_ ⟨rfl,hB⟩;simp[go_sem,q4]
        ·have q48:=gtx (hF 4 (by decide) _ 48 rfl rfl);refine Ab rfl (Ac rfl) ?_ ⟨rfl,hB⟩;simp[go_sem,q48,hg4]
        ·have q47:=gtx (hF 3 (by decide) _ 47 rfl rfl);have q49:=gtx (hF 5 (by decide) _ 49 rfl rfl);refine Ab rfl (Ac rfl) ?_ ⟨rfl,hB⟩;simp[go_sem,q47,q49,hi0,hMi,hM]
        ·have q50:=gtx (hF 6 (by decide) _ 50 rfl rfl);refine Ab rfl (Ac rfl) ?_ ⟨rfl,hB⟩;simp[go_sem,q50]
        ·have q51:=gtx (hF 7 (by decide) _ 51 rfl rfl);refine Ab rfl (Ac rfl) ?_ ⟨rfl,hB⟩;simp[go_sem,q51,hcn,hk0]
        ·have q52:=gtx (hF 8 (by decide) _ 52 rfl rfl);refine Ab rfl (Ac rfl) ?_ ⟨rfl,hB⟩;simp[go_sem,q52,dk]
        ·have q53:=gtx (hF 9 (by decide) _ 53 rfl rfl);refine Ab rfl (Ac rfl) ?_ ⟨rfl,hB⟩;simp[go_sem,q53]
        ·have q0:a'.tmps[0]?.getD undef=(.pointer (some ⟨E.g,0,none⟩)):=gtx ((hS 0 (by decide)).trans rfl);refine Ab rfl (Av rfl rfl rfl (hF 10 (by decide) _ 54 rfl rfl)) ?_ ⟨rfl,hB⟩;simp[go_sem,q0]
        ·have q55:=gtx (hF 11 (by decide) _ 55 rfl rfl);refine Ab rfl (Av rfl rfl rfl (hF 10 (by decide) _ 54 rfl rfl)) ?_ ⟨rfl,hB⟩;simp[go_sem,q55]
        ·have q56:=gtx (hF 12 (by decide) _ 56 rfl rfl);refine Ab rfl (Av rfl rfl rfl (hF 10 (by decide) _ 54 rfl rfl)) ?_ ⟨rfl,hB⟩;simp[go_sem,q56]
        ·have q57:=gtx (hF 13 (by decide) _ 57 rfl rfl);refine Ab rfl (Av rfl rfl rfl (hF 10 (by decide) _ 54 rfl rfl)) ?_ ⟨rfl,hB⟩;simp[go_sem,q57,hl4]
        ·have q4:a'.tmps[4]?.getD undef=(.pointer (some ⟨w.heap.size,0,none⟩)):=gtx ((hS 4 (by decide)).trans rfl);refine Ab rfl (Av rfl rfl rfl (hF 10 (by decide) _ 54 rfl rfl)) ?_ ⟨rfl,hB⟩;simp[go_sem,q4]
        ·have q59:=gtx (hF 15 (by decide) _ 59 rfl rfl);refine Ab rfl (Av rfl rfl rfl (hF 10 (by decide) _ 54 rfl rfl)) ?_ ⟨rfl,hB⟩;simp[go_sem,q59,hg4]
        ·have q58:=gtx (hF 14 (by decide) _ 58 rfl rfl);have q60:=gtx (hF 16 (by decide) _ 60 rfl rfl);refine Ab rfl (Av rfl rfl rfl (hF 10 (by decide) _ 54 rfl rfl)) ?_ ⟨rfl,hB⟩;simp[go_sem,q58,q60,hi0,hMi,hM]
        ·have q61:=gtx (hF 17 (by decide) _ 61 rfl rfl);refine Ab rfl (Av rfl rfl rfl (hF 10 (by decide) _ 54 rfl rfl)) ?_ ⟨rfl,hB⟩;simp[go_sem,q61,hce,hcei]
        ·have q62:=gtx (hF 18 (by decide) _ 62 rfl rfl);refine Ab rfl (Av rfl rfl rfl (hF 10 (by decide) _ 54 rfl rfl)) ?_ ⟨rfl,hB⟩;simp[go_sem,q62]
        ·have q54:=gtx (hF 10 (by decide) _ 54 rfl rfl);have q63:=gtx (hF 19 (by decide) _ 63 rfl rfl);refine Ab rfl (Ac rfl) ?_ ⟨rfl,hB⟩;simp[go_sem,q54,q63]
        ·have q64:=gtx (hF 20 (by decide) _ 64 rfl rfl);refine Ab rfl (Ac rfl) ?_ ⟨rfl,hB⟩;simp[go_sem,q64]
       intro w5 hB5;simp only[Bi,List.take,List.drop,List.take_succ_cons,List.drop_succ_cons,Act.put,List.setIfInBounds_toArray,List.set_cons_zero,List.set_cons_succ];go_wp2_with fail;go_ret;exact⟨by rw[HR3.out];rfl,Ad HB4.out hB5 HB4.out.size⟩
      ·have dk:(nth (I ino) 0==1)=false:=(by simpa using hk);have HR3:Hid (res=false):=zA (by rw[HR2.out,decide_eq_false hk,Bool.false_and]);clear hk;refine Ba (by kernel_rfl) 22 (by decide) rfl (fun i=>match i with|0=>(.pointer (some ⟨E.g,0,none⟩))|1=>(.pointer (some ⟨E.g,0,none⟩))|2=>(.pointer (some ⟨E.g,6,none⟩))|3=>(.slice (some ⟨E.gn,0,none⟩) E.M E.cn)|4=>(.pointer (some ⟨w.heap.size,0,none⟩))|5=>(.int .i64 (ino:Int))|6=>(.pointer (some ⟨E.gn,ino*18,none⟩))|7=>(.pointer (some ⟨E.gn,ino*18,none⟩))|8=>(.int .i64 (nth (I ino) 0))|9=>(.bool false)|10=>(.bool false)|11=>undef|12=>undef|13=>undef|14=>undef|15=>undef|16=>undef|17=>undef|18=>undef|19=>undef|20=>(.bool false)|_=>(.bool false)) ?_ ?_
       ·intro i' o ho0 ho a' w' hB hS hF;have hi':i'=0\/i'=1\/i'=2\/i'=3\/i'=4\/i'=5\/i'=6\/i'=7\/i'=8\/i'=9\/i'=10\/i'=11\/i'=12\/i'=13\/i'=14\/i'=15\/i'=16\/i'=17\/i'=18\/i'=19\/i'=20\/i'=21:=(by omega);have hg4:=(hop hB hg4).1;have hl4:=(hop hB hl4).1;have hcn:=(hop hB hcn).1;have hce:=(hop hB hce).1;rcases hi' with rfl|rfl|rfl|rfl|rfl|rfl|rfl|rfl|rfl|rfl|rfl|rfl|rfl|rfl|rfl|rfl|rfl|rfl|rfl|rfl|rfl|rfl
        all_goals (have ho':=Option.some.inj ho;subst ho')
        ·have q0:a'.tmps[0]?.getD undef=(.pointer (some ⟨E.g,0,none⟩)):=gtx ((hS 0 (by decide)).trans rfl);refine Ab rfl (Ac rfl) ?_ ⟨rfl,hB⟩;simp[go_sem,q0]
        ·have q44:=gtx (hF 0 (by decide) _ 44 rfl rfl);refine Ab rfl (Ac rfl) ?_ ⟨rfl,hB⟩;simp[go_sem,q44]
        ·have q45:=gtx (hF 1 (by decide) _ 45 rfl rfl);refine Ab rfl (Ac rfl) ?_ ⟨rfl,hB⟩;simp[go_sem,q45]
        ·have q46:=gtx (hF 2 (by decide) _ 46 rfl rfl);refine Ab rfl (Ac rfl) ?_ ⟨rfl,hB⟩;simp[go_sem,q46,hl4]
        ·have q4:a'.tmps[4]?.getD undef=(.pointer (some ⟨w.heap.size,0,none⟩)):=gtx ((hS 4 (by decide)).trans rfl);refine Ab rfl (Ac rfl) ?_ ⟨rfl,hB⟩;simp[go_sem,q4]
        ·have q48:=gtx (hF 4 (by decide) _ 48 rfl rfl);refine Ab rfl (Ac rfl) ?_ ⟨rfl,hB⟩;simp[go_sem,q48,hg4]
        ·have q47:=gtx (hF 3 (by decide) _ 47 rfl rfl);have q49:=gtx (hF 5 (by decide) _ 49 rfl rfl);refine Ab rfl (Ac rfl) ?_ ⟨rfl,hB⟩;simp[go_sem,q47,q49,hi0,hMi,hM]
        ·have q50:=gtx (hF 6 (by decide) _ 50 rfl rfl);refine Ab rfl (Ac rfl) ?_ ⟨rfl,hB⟩;simp[go_sem,q50]
        ·have q51:=gtx (hF 7 (by decide) _ 51 rfl rfl);refine Ab rfl (Ac rfl) ?_ ⟨rfl,hB⟩;simp[go_sem,q51,hcn,hk0]
        ·have q52:=gtx (hF 8 (by decide) _ 52 rfl rfl);refine Ab rfl (Ac rfl) ?_ ⟨rfl,hB⟩;simp[go_sem,q52,dk]
        ·have q53:=gtx (hF 9 (by decide) _ 53 rfl rfl);refine Ab rfl (Ac rfl) ?_ ⟨rfl,hB⟩;simp[go_sem,q53]
        ·exact Br rfl rfl rfl rfl (hF 10 (by decide) _ 54 rfl rfl) rfl ⟨rfl,hB⟩
        ·exact Br rfl rfl rfl rfl (hF 10 (by decide) _ 54 rfl rfl) rfl ⟨rfl,hB⟩
        ·exact Br rfl rfl rfl rfl (hF 10 (by decide) _ 54 rfl rfl) rfl ⟨rfl,hB⟩
        ·exact Br rfl rfl rfl rfl (hF 10 (by decide) _ 54 rfl rfl) rfl ⟨rfl,hB⟩
        ·exact Br rfl rfl rfl rfl (hF 10 (by decide) _ 54 rfl rfl) rfl ⟨rfl,hB⟩
        ·exact Br rfl rfl rfl rfl (hF 10 (by decide) _ 54 rfl rfl) rfl ⟨rfl,hB⟩
        ·exact Br rfl rfl rfl rfl (hF 10 (by decide) _ 54 rfl rfl) rfl ⟨rfl,hB⟩
        ·exact Br rfl rfl rfl rfl (hF 10 (by decide) _ 54 rfl rfl) rfl ⟨rfl,hB⟩
        ·exact Br rfl rfl rfl rfl (hF 10 (by decide) _ 54 rfl rfl) rfl ⟨rfl,hB⟩
        ·have q54:=gtx (hF 10 (by decide) _ 54 rfl rfl);have q63:=gtx (hF 19 (by decide) _ 63 rfl rfl);refine Ab rfl (Ac rfl) ?_ ⟨rfl,hB⟩;simp[go_sem,q54,q63]
        ·have q64:=gtx (hF 20 (by decide) _ 64 rfl rfl);refine Ab rfl (Ac rfl) ?_ ⟨rfl,hB⟩;simp[go_sem,q64]
       intro w5 hB5;simp only[Bi,List.take,List.drop,List.take_succ_cons,List.drop_succ_cons,Act.put,List.setIfInBounds_toArray,List.set_cons_zero,List.set_cons_succ];go_wp2_with fail;go_ret;exact⟨by rw[HR3.out];rfl,Ad HB4.out hB5 HB4.out.size⟩
     |false=>
      rw[htk]at hcti;have HR2:Hid (res=Bw (E.A ino)):=zA (by rw[HR.out,if_neg (by rw[htk];simp)]);refine Ba (by kernel_rfl) 8 (by decide) rfl (fun i=>match i with|0=>(.pointer (some ⟨E.g,0,none⟩))|1=>(.pointer (some ⟨E.g,0,none⟩))|2=>(.pointer (some ⟨E.g,5,none⟩))|3=>(.slice (some ⟨E.gt,0,none⟩) E.M E.ct)|4=>(.pointer (some ⟨w.heap.size,0,none⟩))|5=>(.int .i64 (ino:Int))|6=>(.pointer (some ⟨E.gt,ino,none⟩))|_=>(.bool false)) ?_ ?_
      ·intro i' o ho0 ho a' w' hB hS hF;have hi':i'=0\/i'=1\/i'=2\/i'=3\/i'=4\/i'=5\/i'=6\/i'=7:=(by omega);have hg3:=(hop hB hg3).1;have hl3:=(hop hB hl3).1;have hct:=(hop hB hct).1;rcases hi' with rfl|rfl|rfl|rfl|rfl|rfl|rfl|rfl
       all_goals (have ho':=Option.some.inj ho;subst ho')
       ·have q0:a'.tmps[0]?.getD undef=(.pointer (some ⟨E.g,0,none⟩)):=gtx ((hS 0 (by decide)).trans rfl);refine Ab rfl (Ac rfl) ?_ ⟨rfl,hB⟩;simp[go_sem,q0]
       ·have q36:=gtx (hF 0 (by decide) _ 36 rfl rfl);refine Ab rfl (Ac rfl) ?_ ⟨rfl,hB⟩;simp[go_sem,q36]
       ·have q37:=gtx (hF 1 (by decide) _ 37 rfl rfl);refine Ab rfl (Ac rfl) ?_ ⟨rfl,hB⟩;simp[go_sem,q37]
       ·have q38:=gtx (hF 2 (by decide) _ 38 rfl rfl);refine Ab rfl (Ac rfl) ?_ ⟨rfl,hB⟩;simp[go_sem,q38,hl3]
       ·have q4:a'.tmps[4]?.getD undef=(.pointer (some ⟨w.heap.size,0,none⟩)):=gtx ((hS 4 (by decide)).trans rfl);refine Ab rfl (Ac rfl) ?_ ⟨rfl,hB⟩;simp[go_sem,q4]
       ·have q40:=gtx (hF 4 (by decide) _ 40 rfl rfl);refine Ab rfl (Ac rfl) ?_ ⟨rfl,hB⟩;simp[go_sem,q40,hg3]
       ·have q39:=gtx (hF 3 (by decide) _ 39 rfl rfl);have q41:=gtx (hF 5 (by decide) _ 41 rfl rfl);refine Ab rfl (Ac rfl) ?_ ⟨rfl,hB⟩;simp[go_sem,q39,q41,hi0,hMi,hM]
       ·have q42:=gtx (hF 6 (by decide) _ 42 rfl rfl);refine Ab rfl (Ac rfl) ?_ ⟨rfl,hB⟩;simp[go_sem,q42,hct,hcti]
      intro w4 hB4;simp only[Bi,List.take,List.drop,List.take_succ_cons,List.drop_succ_cons,Act.put,List.setIfInBounds_toArray,List.set_cons_zero,List.set_cons_succ];have HB4:=zA (Ad HB3.out hB4 HB3.out.size);have HG4:=zA (HG3.out.below hB4);have hg4:=(hop hB4 hg3).1;have HC:=zA (N3 hE2.out ino h1 hY w4 HG4.out);have hg4l:=Aa hg4;clear hB4 hg3 hl3 HG3 HB3;go_wp2_with fail;refine HC.out.mono ?_;rintro e w5 ⟨rfl,hb5⟩;have HB5:=zA (As (Ad HB4.out hb5 HB4.out.size) (by have:=HB4.out.size;have:=hb5.size;omega) (.cells (IV .i64 (Am (E.A ino)).1) 78));clear hb5;go_wp2_with fail;go_ret;exact⟨by rw[HR2.out];rfl,HB5.out⟩
 ·have d1:decide (E.Y<(ino:Int))=true:=decide_eq_true (by omega);have HR:Hid (res=false):=zA (by rw[HRES.out,decide_eq_false hY];simp);refine Ba (by kernel_rfl) 13 (by decide) rfl (fun i=>match i with|0=>(.pointer (some ⟨w.heap.size,0,none⟩))|1=>(.int .i64 (ino:Int))|2=>(.pointer (some ⟨E.g,0,none⟩))|3=>(.pointer (some ⟨E.g,0,none⟩))|4=>(.pointer (some ⟨E.g,0,none⟩))|5=>(.pointer (some ⟨E.g,1,none⟩))|6=>(.int .i64 E.Y)|7=>(.bool true)|8=>(.bool true)|9=>undef|10=>undef|11=>undef|_=>(.bool true)) ?_ ?_
  ·intro i' o ho0 ho a' w' hB hS hF;have hi':i'=0\/i'=1\/i'=2\/i'=3\/i'=4\/i'=5\/i'=6\/i'=7\/i'=8\/i'=9\/i'=10\/i'=11\/i'=12:=(by omega);have hg1:=(hop hB hg1).1;have hl1:=(hop hB hl1).1;rcases hi' with rfl|rfl|rfl|rfl|rfl|rfl|rfl|rfl|rfl|rfl|rfl|rfl|rfl
   all_goals (have ho':=Option.some.inj ho;subst ho')
   ·have q4:a'.tmps[4]?.getD undef=(.pointer (some ⟨w.heap.size,0,none⟩)):=gtx ((hS 4 (by decide)).trans rfl);refine Ab rfl (Ac rfl) ?_ ⟨rfl,hB⟩;simp[go_sem,q4]
   ·have q10:=gtx (hF 0 (by decide) _ 10 rfl rfl);refine Ab rfl (Ac rfl) ?_ ⟨rfl,hB⟩;simp[go_sem,q10,hg1]
   ·have q0:a'.tmps[0]?.getD undef=(.pointer (some ⟨E.g,0,none⟩)):=gtx ((hS 0 (by decide)).trans rfl);refine Ab rfl (Ac rfl) ?_ ⟨rfl,hB⟩;simp[go_sem,q0]
   ·have q12:=gtx (hF 2 (by decide) _ 12 rfl rfl);refine Ab rfl (Ac rfl) ?_ ⟨rfl,hB⟩;simp[go_sem,q12]
   ·have q13:=gtx (hF 3 (by decide) _ 13 rfl rfl);refine Ab rfl (Ac rfl) ?_ ⟨rfl,hB⟩;simp[go_sem,q13]
   ·have q14:=gtx (hF 4 (by decide) _ 14 rfl rfl);refine Ab rfl (Ac rfl) ?_ ⟨rfl,hB⟩;simp[go_sem,q14]
   ·have q15:=gtx (hF 5 (by decide) _ 15 rfl rfl);refine Ab rfl (Ac rfl) ?_ ⟨rfl,hB⟩;simp[go_sem,q15,hl1]
   ·have q11:=gtx (hF 1 (by decide) _ 11 rfl rfl);have q16:=gtx (hF 6 (by decide) _ 16 rfl rfl);refine Ab rfl (Ac rfl) ?_ ⟨rfl,hB⟩;simp[go_sem,q11,q16,d1]
   ·have q17:=gtx (hF 7 (by decide) _ 17 rfl rfl);refine Ab rfl (Ac rfl) ?_ ⟨rfl,hB⟩;simp[go_sem,q17]
   ·exact Br rfl rfl rfl rfl (hF 8 (by decide) _ 18 rfl rfl) rfl ⟨rfl,hB⟩
   ·exact Br rfl rfl rfl rfl (hF 8 (by decide) _ 18 rfl rfl) rfl ⟨rfl,hB⟩
   ·exact Br rfl rfl rfl rfl (hF 8 (by decide) _ 18 rfl rfl) rfl ⟨rfl,hB⟩
   ·have q18:=gtx (hF 8 (by decide) _ 18 rfl rfl);have q21:=gtx (hF 11 (by decide) _ 21 rfl rfl);refine Ab rfl (Ac rfl) ?_ ⟨rfl,hB⟩;simp[go_sem,q18,q21]
  intro w2 hB2;simp only[Bi,List.take,List.drop,List.take_succ_cons,List.drop_succ_cons,Act.put,List.setIfInBounds_toArray,List.set_cons_zero,List.set_cons_succ];go_wp2_with fail;go_ret;exact⟨by rw[HR.out];rfl,Ad HB1.out hB2 (by have:=HB1.out.size;omega)⟩
end
theorem Ww{E:A3}(hE:ROk E){p:Int}(h:isD E.X E.Y p=true):0<=p/\p<E.N:=by
 unfold isD at h;have:=of_decide_eq_true h;have:=hE.X;have:=hE.Y1;omega
def Apt(E:A3)(o:Option Nat)(gx:Nat):Prop:=(∀ b∈E.bs,b≠gx)/\∀ q,o=some q->q≠gx
structure Tkn (E:A3) (i:Nat) (raw:List Int) (st:LS) (o:Option Nat) (l:List Int) (tk:Int->Bool) (I:Nat->List Int) (en:Nat->Int) (w w':World) (o':Option Nat):Prop where
 g:RG E w' o' (if nth raw 0=2 then l++[(i:Int)]else l) (Aj E.X E.Y raw st).2.S (Aj E.X E.Y raw st).2.cl (fun q=>if q=(i:Int)then true else tk q) (fun j=>if j=i then(Aj E.X E.Y raw st).1 else I j) en
 f:Fr (E.g::E.gw::E.gc::E.gt::E.gn::o.toList) w w'
 o:o'=o\/∃ g,o'=some g/\w.heap.size<=g
def aM(E:A3)(i:Nat)(raw:List Int)(st:LS)(o:Option Nat)(l:List Int)(tk:Int->Bool)(I:Nat->List Int)(en:Nat->Int)(w:World)(e:Ending)(w':World):Prop:=e= .returned (.tuple #[])/\∃ o',Tkn E i raw st o l tk I en w w' o'
theorem B8.cellAt{w:World}{g N c:Nat}{S:Nat->List Int}(h:B8 w g N c S){p:Nat}(hp:p<N):∃ cs,hat w g=some (.cells cs 47)/\∀ k,k<128->cs[p*128+k]? =some (.int .u8 (nth (S p) k)):=by
 obtain⟨cs,h1,h2,h3⟩:=h;obtain⟨h4,-,h5⟩:=h3 p hp;refine⟨cs,h1,fun k hk=>?_⟩;have:=congrArg (fun a:Array Value=>a[k]?) h5;simp only[Array.getElem?_extract,Bl,An (l:=S p) (i:=k) (by omega)]at this;rw[if_pos (by omega)]at this;exact this
theorem nY{n z:Int}{s:LS}(h:z%128=0):Bt n z s=s:=by
 unfold Bt;split
 ·rfl
 ·rw[if_pos h]
def eI:Nat->Code->Code
 |0,c=>c
 |k+1,.seq _ b=>eI k b
 |_+1,_=> .skip
noncomputable def tkC(k:Nat):Code:=eI k (Tryz.f67.body.getD .skip)
section
variable {E:A3} {o:Option Nat} {l:List Int} {tk:Int->Bool} {I:Nat->List Int} {en:Nat->Int}
theorem tZ(hE:ROk E)(i n gx:Nat)(hM:i<E.M){raw:List Int}(st:LS){A:Nat->List Int}(r:List Int×LS)(HR:Hid (raw.length=18))(HZ:Hid (0<=nth raw 2/\nth raw 2<=136704))(HN:Hid (Aq (nth raw 2)=n))(HSI:Hid (SI E.X E.Y A (Cs st)))(HLL:Hid (l.length<=100000))(w w6:World)(HLT:Hid (Apt E o gx))(HGX:Hid (w.heap.size<=gx))
  (HRP:Hid (Az E.X E.Y n raw (Cs st)=r)) (HG:Hid (RG E w6 o l r.2.S r.2.cl tk I en)) (HT:Hid (hat w6 gx=some (.cells (IV .i64 r.1) 78))) (HF:Hid (Fr [gx,E.gc,E.gw] w w6)) (u2 u3 u4 u7 u8 u9 u10 u11 u12 u13 u14 u15 u16 u17 u18 u19 u20 u21 u22 u23 u24 u25 u26 u27 u28 u29 u30 u31 u32 u33 u34 u35 u36 u37 u38 u39 u40 u41 u42 u43 u44 u45 u46 u47 u48 u49 u50 u51 u52 u53 u54 u55 u56 u57 u58 u59 u60 u61 u62 u63 u64 u65 u66 u67 u68 u69 u70 u71 u72 u73 u74 u75 u76 u77 u78 u79 u80 u81 u82 u83 u84 u85 u86 u87 u88 u89 u90 u91 u92 u93 u94 u95 u96 u97 u98 u99 u100 u101 u102 u103 u104 u105 u106 u107 u108 u109 u110 u111 u112 u113 u114 u115 u116 u117 u118 u119 u120 u121 u122 u123 u124 u125 u126 u127 u128 u129 u130 u131 u132 u133 u134 u135 u136 u137 u138 u139 u140 u141 u142 u143 u144 u145 u146 u147 u148 u149 u150 u151 u152 u153 u154 u155 u156 u157 u158 u159 u160 u161 u162 u163 u164 u165 u166 u167 u168 u169 u170 u171 u172 u173 u174 u175 u176 u177 u178 u179 u180 u181 u182 u183 u184 u185 u186 u187 u188 u189 u190 u191 u192 u193 u194 u195 u196 u197 u198 u199:Value):
  Code.wp Tryz.prog (tkC 6) (bodyPost Tryz.prog Tryz.f67 (aM E i raw st o l tk I en w)) ⟨#[.pointer (some ⟨E.g,0,none⟩),.int .i64 i,u2,u3,u4,.pointer (some ⟨gx,0,none⟩),.int .i64 n,u7,u8,u9,u10,u11,u12,u13,u14,u15,u16,u17,u18,u19,u20,u21,u22,u23,u24,u25,u26,u27,u28,u29,u30,u31,u32,u33,u34,u35,u36,u37,u38,u39,u40,u41,u42,u43,u44,u45,u46,u47,u48,u49,u50,u51,u52,u53,u54,u55,u56,u57,u58,u59,u60,u61,u62,u63,u64,u65,u66,u67,u68,u69,u70,u71,u72,u73,u74,u75,u76,u77,u78,u79,u80,u81,u82,u83,u84,u85,u86,u87,u88,u89,u90,u91,u92,u93,u94,u95,u96,u97,u98,u99,u100,u101,u102,u103,u104,u105,u106,u107,u108,u109,u110,u111,u112,u113,u114,u115,u116,u117,u118,u119,u120,u121,u122,u123,u124,u125,u126,u127,u128,u129,u130,u131,u132,u133,u134,u135,u136,u137,u138,u139,u140,u141,u142,u143,u144,u145,u146,u147,u148,u149,u150,u151,u152,u153,u154,u155,u156,u157,u158,u159,u160,u161,u162,u163,u164,u165,u166,u167,u168,u169,u170,u171,u172,u173,u174,u175,u176,u177,u178,u179,u180,u181,u182,u183,u184,u185,u186,u187,u188,u189,u190,u191,u192,u193,u194,u195,u196,u197,u198,u199],[]⟩ w6:=by
 conv=>arg 2;whnf
 obtain⟨hz0,hz1⟩:=HZ.out;have hraw:=Vr E.X E.Y n raw (Cs st) HR.out;rw[HRP.out]at hraw;obtain⟨hr18,hlow⟩:=hraw;have hk0:nth r.1 0=nth raw 0:=hlow 0 (by decide);have hk2:nth r.1 2=nth raw 2:=hlow 2 (by decide);have HK:=zA (show nth r.1 0=nth raw 0/\nth r.1 2=nth raw 2 from⟨hk0,hk2⟩);have hc0:(IV .i64 r.1)[0]? =some (.int .i64 (nth raw 0)):=by rw[Bl,An (by omega),hk0];rfl
 have hc2:(IV .i64 r.1)[2]? =some (.int .i64 (nth raw 2)):=by rw[Bl,An (by omega),hk2];rfl
 obtain⟨v,hl,-⟩:=HG.out.l;have hll:=Aa hl;obtain⟨cst,hct,hczt,hallt⟩:=HG.out.t;have hcti:=hallt i hM;have hctl:=Aa hct;have hi0:(0:Int)<=(i:Int):=Int.natCast_nonneg _;have hiM:(i:Int)<(E.M:Int):=by omega
 have hT:=HT.out;have HT7:Hid (hat (w6.setCell ⟨E.gt,i,none⟩ (.bool true)) gx=some (.cells (IV .i64 r.1) 78)):=zA ((Fh w6 ⟨E.gt,i,none⟩ (.bool true) gx (fun e=>HLT.out.1 E.gt (by simp[A3.bs]) e.symm)).trans hT);have HG7:=zA (HG.out.take hE hM true);have HF7:=zA ((HF.out.mono (ex':=[gx,E.gc,E.gw,E.gt]) (by simp+contextual)).trans ((Ai w6 E.gt i (.bool true)).mono (ex':=[gx,E.gc,E.gw,E.gt]) (by simp)));clear hlow hc0 hc2 hallt HF HG HT;go_upto_region 23 with fail;clear hct hczt hcti hctl hl hll hT;generalize w6.setCell ⟨E.gt,i,none⟩ (.bool true)=w7 at*;have hT7:=HT7.out;have hT7l:=Aa hT7;obtain⟨v,hl,-⟩:=HG7.out.l;have hll:=Aa hl;obtain⟨csn,hcn,hszn,halln⟩:=HG7.out.n;have hcnl:=Aa hcn;have hst:∀ raw w',Dd raw 18 (i*18) E.gn (IV .i64 r.1) w' (some (.cells csn 78 (0,0)))= .ok () (w'.setRow E.gn (Ap csn (i*18) (IV .i64 r.1))):=fun raw w'=>Cj (by omega) (by simpa using hr18) (by simp)
 clear halln;have HG8:Hid (RG E (w7.setRow E.gn (Ap csn (i*18) (IV .i64 r.1))).drew o l r.2.S r.2.cl (fun q=>if q=(i:Int)then true else tk q) (fun j=>if j=i then r.1 else I j) en):=zA ((HG7.out.ino hE hcn hM hr18).fr (Bb (Fr.refl [] _)) (fun _ _=>by simp) (fun _ _=>by simp));have HF8:Hid (Fr [gx,E.gc,E.gw,E.gt,E.gn] w (w7.setRow E.gn (Ap csn (i*18) (IV .i64 r.1))).drew):=zA (Bb ((HF7.out.mono (by simp+contextual)).trans ((Da w7 E.gn _).mono (by simp))));have HT8:Hid (hat (w7.setRow E.gn (Ap csn (i*18) (IV .i64 r.1))).drew gx=some (.cells (IV .i64 r.1) 78)):=zA ((Bj w7 E.gn gx _ (fun e=>HLT.out.2|>fun _=>HLT.out.1 E.gn (by simp[A3.bs]) e.symm)).trans hT7);go_region
 clear hst hcn hszn hcnl hl hll hT7 hT7l HG7 HF7 HT7;generalize (w7.setRow E.gn (Ap csn (i*18) (IV .i64 r.1))).drew=w8 at*;have hT8:=HT8.out;have hT8l:=Aa hT8;obtain⟨v,hl,hqv⟩:=HG8.out.l;have hll:=Aa hl
 have HTX:Hid (Aj E.X E.Y raw st=if nth raw 0=2 then(r.1,Eg n r.2)else(r.1,Bt n (nth raw 2) r.2)):=zA (by
  have:Aj E.X E.Y raw st=if nth raw 0=2 then((Az E.X E.Y (Aq (nth raw 2)) raw (Cs st)).1,Eg (Aq (nth raw 2)) (Az E.X E.Y (Aq (nth raw 2)) raw (Cs st)).2)else((Az E.X E.Y (Aq (nth raw 2)) raw (Cs st)).1,Bt (Aq (nth raw 2)) (nth raw 2) (Az E.X E.Y (Aq (nth raw 2)) raw (Cs st)).2):=rfl
  rw[HN.out,HRP.out]at this;exact this)
 have HFIN:Hid (∀ o' l' S' w',(if nth raw 0=2 then l++[(i:Int)]else l)=l'->(Aj E.X E.Y raw st).2.S=S'->(Aj E.X E.Y raw st).2.cl=r.2.cl->(Aj E.X E.Y raw st).1=r.1->RG E w' o' l' S' r.2.cl (fun q=>if q=(i:Int)then true else tk q) (fun j=>if j=i then r.1 else I j) en->Fr (gx::E.g::E.gw::E.gc::E.gt::E.gn::o.toList) w w'->(o'=o\/∃ g,o'=some g/\w.heap.size<=g)->aM E i raw st o l tk I en w (.returned (.tuple #[])) w'):=zA (fun o' l' S' w' e1 e2 e3 e4 h1 h2 h3=>⟨rfl,o',by
   rw[e1,e2,e3,e4];exact h1,h2.past (fun k hk=>by
   rcases List.mem_cons.1 hk with e|hk
   ·right;rw[e];exact HGX.out
   ·exact .inl hk),h3⟩)
 by_cases hkd:nth raw 0=2
 ·have d2:(nth raw 0==2)=true:=(by simpa using hkd);obtain⟨v',w9,o',⟨ar,nr,cr,rfl⟩,hrun,hv9,hg9,hf9,ho9⟩:=HG8.out.push hE HLL.out (i:Int) 32 hl;have hv9l:=Aa hv9
  have HE:Hid (aM E i raw st o l tk I en w (.returned (.tuple #[])) (w9.setCell ⟨E.g,8,none⟩ (.slice ar nr cr))):=zA (by
   refine HFIN.out o' _ _ _ (if_pos hkd) (by rw[HTX.out,if_pos hkd];rfl) (by rw[HTX.out,if_pos hkd];rfl) (by rw[HTX.out,if_pos hkd]) hg9 ((HF8.out.mono (by simp+contextual)).trans (hf9.mono (by simp+contextual))) ?_;rcases ho9 with h|⟨g,h,h2⟩
   ·exact .inl h
   ·exact .inr ⟨g,h,Nat.le_trans HF8.out.size h2⟩)
  clear hkd hg9 hf9 ho9 hqv;go_wp2_with (at_builtin;refine Ao _ rfl (.tmp 164) (.tmp 166) 32 rfl _ _ rfl rfl _ _ hrun ?_)
  go_wp2_with fail;(try simp only[Exit.inBlock,Exit.then])
  refine bodyPost_ret (results_none rfl _ _ _) rfl ?_;exact HE.out
 ·have d2:(nth raw 0==2)=false:=(by simpa using hkd)
  have HE0:Hid (Bt n (nth raw 2) r.2=r.2->∀ w',RG E w' o l r.2.S r.2.cl (fun q=>if q=(i:Int)then true else tk q) (fun j=>if j=i then r.1 else I j) en->Fr (gx::E.g::E.gw::E.gc::E.gt::E.gn::o.toList) w w'->aM E i raw st o l tk I en w (.returned (.tuple #[])) w'):=zA (fun h0 w' h1 h2=>
   HFIN.out o _ _ _ (if_neg hkd) (by rw[HTX.out,if_neg hkd,h0]) (by rw[HTX.out,if_neg hkd,h0]) (by rw[HTX.out,if_neg hkd]) h1 h2 (.inl rfl))
  obtain⟨m,hm⟩:∃ m:Nat,nth raw 2%128=m:=⟨(nth raw 2%128).toNat,by omega⟩;by_cases hm0:m=0
  ·have d3:(nth raw 2%128 !=0)=false:=(by rw[hm,hm0];rfl);have HE:=zA (HE0.out (nY (by rw[hm,hm0];rfl)) w8 HG8.out (HF8.out.mono (by simp+contextual)));clear hkd hm0 hm hqv;go_wp2_with fail;refine bodyPost_end (results_none rfl _ _ _) rfl ?_;exact HE.out
  ·have d3:(nth raw 2%128 !=0)=true:=(by rw[hm];simp;omega);have hmi:(m:Int)<128:=(by omega);obtain⟨d,hd⟩:∃ d,n=d+1:=⟨n-1,by have:=HN.out;have:=HZ.out;unfold Aq at*;omega⟩;have hdn:(n:Int)-1=(d:Int):=(by omega);have hd9:d<1068:=(by have:=HN.out;have:=HZ.out;unfold Aq at*;omega);have hwd:IntKind.i64.wrap (d:Int)=(d:Int):=(by rw[IntKind.wrap_i64];omega);have hd0:(0:Int)<=(d:Int):=Int.natCast_nonneg _;have HPF:=mN (by have:=hE.Y1;omega) (n:Int) HR.out HSI.out (fun q=>rfl);rw[HRP.out]at HPF;obtain⟨-,hok,-,-,hbk⟩:=HPF;have hA:=(Wf (X:=E.X) (Y:=E.Y) (by have:=hE.Y1;omega) hE.X (by have:=hE.N8;omega) hr18 (fun p hp=>(hok.1 p hp).1));have hbk2:=hbk d (by omega) (by omega);rw[Iw _ _ hr18 d hd9]at hbk2;have hpb:=hA.2 d hd9;have HA:=zA hA.1;obtain⟨p,hp⟩:∃ p,D6 r.2.S r.1 d=p:=⟨_,rfl⟩;rw[hp]at hbk2 hpb;have HBK:=zA hbk2;have HP:=zA hp;have HM:=zA hm;have HM0:Hid (m≠0):=zA hm0;have HKD:Hid (nth raw 0≠2):=zA hkd;have HD:=zA hd;clear hbk hbk2 hA hok hp hm0 hkd hd hqv;go_upto_region 27 with fail;refine Ba (by kernel_rfl) 11 (by decide) rfl (fun i=>match i with|0=>(.pointer (some ⟨E.g,0,none⟩))|1=>(Mb E.gw E.N E.cw)|2=>(.agg (IV .i64 r.1))|3=>(.int .i64 (n:Int))|4=>(.int .i64 (d:Int))|5=>(.tuple #[.int .i64 p,.int .i64 0])|6=>(.tuple #[.int .i64 p,.int .i64 0])|7=>(.int .i64 p)|8=>(.int .i64 0)|9=>(.int .i64 p)|_=>(.int .i64 0)) ?_ ?_
   ·intro i' o ho0 ho a' w' hB hS hF;have hi':i'=0\/i'=1\/i'=2\/i'=3\/i'=4\/i'=5\/i'=6\/i'=7\/i'=8\/i'=9\/i'=10:=(by omega);have hT8:=(hop hB hT8).1;rcases hi' with rfl|rfl|rfl|rfl|rfl|rfl|rfl|rfl|rfl|rfl|rfl
    all_goals (have ho':=Option.some.inj ho;subst ho')
    ·have q0:a'.tmps[0]?.getD undef=(.pointer (some ⟨E.g,0,none⟩)):=gtx ((hS 0 (by decide)).trans rfl);refine Ab rfl (Ac rfl) ?_ ⟨rfl,hB⟩;simp[go_sem,q0]
    ·have q175:=gtx (hF 0 (by decide) _ 175 rfl rfl);refine Q1 (f:=100) (args:= #[.pointer (some ⟨E.g,0,none⟩)]) rfl (Ac rfl) (by simp[go_sem,q175]) (Jm w' (HG8.out.below hB)) ?_;rintro e w'' ⟨rfl,hb'⟩;exact⟨_,rfl,rfl,Ad hB hb' hB.size⟩
    ·have q5:a'.tmps[5]?.getD undef=(.pointer (some ⟨gx,0,none⟩)):=gtx ((hS 5 (by decide)).trans rfl);refine Ab rfl (Ac rfl) ?_ ⟨rfl,hB⟩;simp[go_sem,q5,hT8,hr18,Ha]
    ·have q6:a'.tmps[6]?.getD undef=(.int .i64 (n:Int)):=gtx ((hS 6 (by decide)).trans rfl);refine Ab rfl (Ac rfl) ?_ ⟨rfl,hB⟩;simp[go_sem,q6]
    ·have q178:=gtx (hF 3 (by decide) _ 178 rfl rfl);refine Ab rfl (Ac rfl) ?_ ⟨rfl,hB⟩;simp[go_sem,q178,hdn,hwd]
    ·have q176:=gtx (hF 1 (by decide) _ 176 rfl rfl);have q177:=gtx (hF 2 (by decide) _ 177 rfl rfl);have q179:=gtx (hF 4 (by decide) _ 179 rfl rfl);refine Q1 (f:=99) (args:= #[Mb E.gw E.N E.cw,.agg (IV .i64 r.1),.int .i64 (d:Int)]) rfl (Ac rfl) (by simp[go_sem,q176,q177,q179]) (by have hh:=iZ (cw:=E.cw) HA.out d hd9 w' (HG8.out.below hB).s;rw[HP.out]at hh;exact hh) ?_;rintro e w'' ⟨rfl,hb'⟩;exact⟨_,rfl,rfl,Ad hB hb' hB.size⟩
    ·have q180:=gtx (hF 5 (by decide) _ 180 rfl rfl);refine Ab rfl (Ac rfl) ?_ ⟨rfl,hB⟩;simp[go_sem,q180]
    ·have q174:=gtx (hF 6 (by decide) _ 174 rfl rfl);refine Ab rfl (Ac rfl) ?_ ⟨rfl,hB⟩;simp[go_sem,q174]
    ·have q174:=gtx (hF 6 (by decide) _ 174 rfl rfl);refine Ab rfl (Ac rfl) ?_ ⟨rfl,hB⟩;simp[go_sem,q174]
    ·have q181:=gtx (hF 7 (by decide) _ 181 rfl rfl);refine Ab rfl (Ac rfl) ?_ ⟨rfl,hB⟩;simp[go_sem,q181]
    ·have q182:=gtx (hF 8 (by decide) _ 182 rfl rfl);refine Ab rfl (Ac rfl) ?_ ⟨rfl,hB⟩;simp[go_sem,q182]
   intro w9 hB9;simp only[Bi,List.take,List.drop,List.take_succ_cons,List.drop_succ_cons,Act.put,List.setIfInBounds_toArray,List.set_cons_zero,List.set_cons_succ];have HG9:=zA (HG8.out.below hB9);have HF9:=zA (HF8.out.trans (Af hB9 _));have hT9:=(hop hB9 hT8).1;have hl9:=(hop hB9 hl).1;have hT9l:=Aa hT9;have hl9l:=Aa hl9;clear hB9 HG8 HF8 HT8 hT8 hT8l hl hll;by_cases hp0:p=0
   ·subst hp0;have HE:=zA (HE0.out (by unfold Bt;rw[hdn,HBK.out];rfl) w9 HG9.out (HF9.out.mono (by simp+contextual)));go_wp2_with fail;refine bodyPost_end (results_none rfl _ _ _) rfl ?_;exact HE.out
   ·have d4:(p !=0)=true:=(by simpa using hp0);obtain⟨pn,rfl⟩:=Int.eq_ofNat_of_zero_le hpb.1;have hpN:pn<E.N:=(by omega);have hpi:(pn:Int)<(E.N:Int):=(by omega);have hpp:(0:Int)<=(pn:Int):=Int.natCast_nonneg _;have HS128:Hid ((r.2.S pn).length=128):=zA (HG9.out.s.load hpN).choose_spec.2.2.1
    have HTL:Hid (Bt n (nth raw 2) r.2={r.2 with S:=Ay r.2.S pn (C8 (r.2.S pn) m)}):=zA (by
     unfold Bt;rw[hdn,HBK.out];unfold H9;rw[if_neg hp0];show(if nth raw 2%128=0 then r.2 else _)=_
     rw[HM.out,if_neg (by have:=HM0.out;omega),Int.toNat_natCast];rfl)
    have HG90:Hid (RG E w9 o l (Ay r.2.S pn (Qd (r.2.S pn) m m)) r.2.cl (fun q=>if q=(i:Int)then true else tk q) (fun j=>if j=i then r.1 else I j) en):=zA (by
     rw[jY (by rw[HS128.out];omega)];have e:Ay r.2.S pn (r.2.S pn)=r.2.S:=jS _ _;rw[e];exact HG9.out)
    clear hp0 HG9 hpb;go_wp2_with fail;go_loopw [13] (fun kv wr=>∃ k:Nat,kv= .int .i64 k/\m<=k/\k<=128/\Hid (RG E wr o l (Ay r.2.S pn (Qd (r.2.S pn) m k)) r.2.cl (fun q=>if q=(i:Int)then true else tk q) (fun j=>if j=i then r.1 else I j) en)/\Hid (Fr [E.gw] w9 wr)) (fun v _=>128-(intOf v).toNat)
    case atStart=>exact⟨m,by first|rfl|rw[HM.out],by omega,by omega,HG90,zA (Fr.refl _ _)⟩
    case round=>
     obtain⟨k,rfl,hmk,hk,HGk,HFk⟩:=hrel;have hk0:(0:Int)<=(k:Int):=Int.natCast_nonneg _;by_cases hk128:k<128
     ·have hki:(k:Int)<128:=(by omega);obtain⟨v2,hl2,-⟩:=HGk.out.l;have hl2l:=Aa hl2;obtain⟨cs2,hc2',hcell2⟩:=HGk.out.s.cellAt hpN;have hck:=hcell2 k hk128;have hc2l:=Aa hc2';have HGn:=HGk.out.byte hE hpN hk128;rw[Cx,jX HS128.out hmk hk128,K0]at HGn;have HGN:=zA HGn;have HFN:=zA (HFk.out.trans (Ai wr E.gw (pn*128+k) (.int .u8 0)));generalize nth (Ay r.2.S pn (Qd (r.2.S pn) m k) pn) k=old at*;clear HGn hcell2;go_wp2_with fail;go_roundw
      case rel=>exact⟨k+1,by go_num,by omega,by omega,HGN,HFN⟩
      case measure=>(show 128-(k+1)<128-k);omega
     ·obtain rfl:k=128:=(by omega);have hend:=HGk.out;rw[oO HS128.out]at hend;have HE:=zA (HFIN.out o _ _ _ (if_neg HKD.out) (by rw[HTX.out,if_neg HKD.out,HTL.out]) (by rw[HTX.out,if_neg HKD.out,HTL.out]) (by rw[HTX.out,if_neg HKD.out]) hend ((HF9.out.mono (by simp+contextual)).trans (HFk.out.mono (by simp+contextual))) (.inl rfl));clear hend;go_wp2_with fail;refine bodyPost_end (results_none rfl _ _ _) rfl ?_;exact HE.out
end
def zOr(z:Bool)(p:Int):Int:=if z then 0 else p
def Pa(E:A3)(n p:Int)(z:Bool)(s2:LS)(C:List Int×Bool×LS):Prop:=
 if z=true\/p=0 then C=([0],false,s2)else isD E.X E.Y p=true/\C=([zOr (!(C7 (Pg E.X E.Y n) p.toNat s2).1) p],(C7 (Pg E.X E.Y n) p.toNat s2).1,(C7 (Pg E.X E.Y n) p.toNat s2).2)
theorem fM{raw pre:List Int}(hr:raw.length=18)(hp:pre.length=13)(a:Int):(Ei raw (pre++[a]) 14).set 17 0=Ei raw (pre++[0]) 14:=by
 unfold Ei;have e1:(raw.take 4).length=4:=by simp[hr]
 rw[List.set_append_right _ _ (by omega),e1,List.set_append_left _ _ (by simp[hp]),List.set_append_right _ _ (by omega),hp];rfl
section
variable {E:A3} {o:Option Nat} {l:List Int} {tk:Int->Bool} {I:Nat->List Int} {en:Nat->Int}
theorem tY(hE:ROk E)(i n gx:Nat)(hM:i<E.M){raw:List Int}(st:LS){A:Nat->List Int}(HR:Hid (raw.length=18))(HZ:Hid (0<=nth raw 2/\nth raw 2<=136704))(HN:Hid (Aq (nth raw 2)=n))(hn9:n<=1068)(HSI:Hid (SI E.X E.Y A (Cs st)))(HLL:Hid (l.length<=100000))(w w7:World)(HLT:Hid (Apt E o gx))(HGX:Hid (w.heap.size<=gx))
  (pre1:List Int) (z:Bool) (q:Int) (s2:LS) (C:List Int×Bool×LS) (HLB:Hid (pre1.length=13)) (HZb:Hid (Pa E n q z s2 C)) (HPX:Hid (Az E.X E.Y n raw (Cs st)=(raw.take 4++(pre1++C.1),C.2.2)))
  (HG:Hid (RG E w7 o l s2.S s2.cl tk I en)) (HT:Hid (hat w7 gx=some (.cells (IV .i64 (Ei raw (pre1++[zOr z q]) 14)) 78))) (HF:Hid (Fr [gx,E.gc,E.gw] w w7)) (u2 u3 u4 u7 u8 u9 u10 u11 u12 u13 u14 u15 u16 u17 u18 u19 u20 u21 u22 u23 u24 u25 u26 u27 u28 u29 u30 u31 u32 u33 u34 u35 u36 u37 u38 u39 u40 u41 u42 u43 u44 u45 u46 u47 u48 u49 u50 u51 u52 u53 u54 u55 u56 u57 u58 u59 u60 u61 u62 u63 u64 u65 u66 u67 u68 u69 u70 u71 u72 u73 u74 u75 u76 u77 u78 u79 u80 u81 u82 u83 u84 u85 u86 u87 u88 u89 u90 u91 u92 u93 u94 u95 u96 u97 u98 u99 u100 u101 u102 u103 u104 u105 u106 u107 u108 u109 u110 u111 u112 u113 u114 u115 u116 u117 u118 u119 u120 u121 u122 u123 u124 u125 u126 u127 u128 u129 u130 u131 u132 u133 u134 u135 u136 u137 u138 u139 u140 u141 u142 u143 u144 u145 u146 u147 u148 u149 u150 u151 u152 u153 u154 u155 u156 u157 u158 u159 u160 u161 u162 u163 u164 u165 u166 u167 u168 u169 u170 u171 u172 u173 u174 u175 u176 u177 u178 u179 u180 u181 u182 u183 u184 u185 u186 u187 u188 u189 u190 u191 u192 u193 u194 u195 u196 u197 u198 u199:Value):
  Code.wp Tryz.prog (tkC 5) (bodyPost Tryz.prog Tryz.f67 (aM E i raw st o l tk I en w)) ⟨#[.pointer (some ⟨E.g,0,none⟩),.int .i64 i,u2,u3,u4,.pointer (some ⟨gx,0,none⟩),.int .i64 n,u7,u8,u9,u10,u11,u12,u13,u14,u15,u16,u17,u18,u19,u20,u21,u22,u23,u24,u25,u26,u27,u28,u29,u30,u31,u32,u33,u34,u35,u36,u37,u38,u39,u40,u41,u42,u43,u44,u45,u46,u47,u48,u49,u50,u51,u52,u53,u54,u55,u56,u57,u58,u59,u60,u61,u62,u63,u64,u65,u66,u67,u68,u69,u70,u71,u72,u73,u74,u75,u76,u77,u78,u79,u80,u81,u82,u83,u84,u85,u86,u87,u88,u89,u90,u91,u92,u93,u94,u95,u96,u97,u98,u99,u100,u101,u102,u103,u104,u105,u106,u107,u108,u109,u110,u111,u112,u113,u114,u115,u116,u117,u118,u119,u120,u121,u122,u123,u124,u125,u126,u127,u128,u129,u130,u131,u132,u133,u134,u135,u136,u137,u138,u139,u140,u141,u142,u143,u144,u145,u146,u147,u148,u149,u150,u151,u152,u153,u154,u155,u156,u157,u158,u159,u160,u161,u162,u163,u164,u165,u166,u167,u168,u169,u170,u171,u172,u173,u174,u175,u176,u177,u178,u179,u180,u181,u182,u183,u184,u185,u186,u187,u188,u189,u190,u191,u192,u193,u194,u195,u196,u197,u198,u199],[]⟩ w7:=by
 conv=>arg 2;whnf
 have HLC:Hid ((pre1++[zOr z q]).length=14/\pre1.length=13):=zA ⟨by simp[HLB.out],HLB.out⟩;have hn17:nth (Ei raw (pre1++[zOr z q]) 14) 17=zOr z q:=by
  unfold Ei nth;rw[List.getElem?_append_right (by simp;omega),List.getElem?_append_left (by simp[HR.out,HLB.out]),List.getElem?_append_right (by simp[HR.out,HLB.out])];simp[HR.out,HLB.out]
 have hcl:=Od HR.out HLC.out.1 (show 14<=14 by omega);obtain⟨cur2,hcur2⟩:∃ cur,Ei raw (pre1++[zOr z q]) 14=cur:=⟨_,rfl⟩;rw[hcur2]at HT hn17 hcl;have HCU:=zA hcur2;obtain⟨d,hd⟩:∃ d,zOr z q=d:=⟨_,rfl⟩;rw[hd]at hn17;have HD:=zA hd;have hT:=HT.out;have hTl:=Aa hT;clear hcur2 hd;go_upto_if 82 with fail;go_cut [8,9,10]from 14 (fun x8 x9 x10 wx=>Hid (RG E wx o l C.2.2.S C.2.2.cl tk I en)/\Hid (hat wx gx=some (.cells (IV .i64 (Ei raw (pre1++C.1) 14)) 78))/\Hid (Fr [gx,E.gc,E.gw] w wx))
 case first=>
  by_cases hzq:z=true\/q=0
  ·have hC:=HZb.out;unfold Pa at hC;rw[if_pos hzq]at hC;have h0:d=0:=by
    rw[<-HD.out];unfold zOr;rcases hzq with h|h
    ·rw[h];rfl
    ·rw[h];split<;>rfl
   have d1:(d !=0)=false:=(by simpa using h0);have HGG:Hid (RG E w7 o l C.2.2.S C.2.2.cl tk I en):=zA (by rw[hC];exact HG.out)
   have HTT:Hid (hat w7 gx=some (.cells (IV .i64 (Ei raw (pre1++C.1) 14)) 78)):=zA (by
    rw[hC,show(([0],false,s2):List Int×Bool×LS).1=[d] by rw[h0], <-HD.out,HCU.out];exact hT)
   clear hC h0 hzq;go_wp2_with fail;go_meet
   case rel=>exact⟨HGG,HTT,HF⟩
  ·have hC:=HZb.out;unfold Pa at hC;rw[if_neg hzq]at hC;obtain⟨hD,hC⟩:=hC;have hlt:=Ww hE hD;have hz:z=false:=by
    cases z with
    |false=>rfl
    |true=>exact absurd (.inl rfl) hzq
   have hq0:q≠0:=fun h=>hzq (.inr h)
   obtain⟨pn,rfl⟩:=Int.eq_ofNat_of_zero_le hlt.1;have hdq:d=(pn:Int):=(by rw[<-HD.out,hz];rfl);subst hdq;rw[Int.toNat_natCast]at hC;have HC:=zA hC;have hpN:pn<E.N:=(by omega);have hpi:(pn:Int)<(E.N:Int):=(by omega);have hpp:(0:Int)<=(pn:Int):=Int.natCast_nonneg _;have d1:((pn:Int) !=0)=true:=(by simpa using hq0);obtain⟨v,hl,-⟩:=HG.out.l;have hll:=Aa hl;obtain⟨csw,hcw,hldw,hlenw,hbyw⟩:=HG.out.s.load hpN;have hcwl:=Aa hcw;have HRP:=zA (fun W=>Gz (s2.S pn) hlenw hbyw W);have hpl:(Al (s2.S pn)).length=32:=(by simp)
   have HTP:Hid (C7 (Pg E.X E.Y n) pn s2=if (A0 (Au E.X E.Y) (Ee E.X E.Y n) 44 32 n 0 (Al (s2.S pn)) s2).2.1=false then(false,{(A0 (Au E.X E.Y) (Ee E.X E.Y n) 44 32 n 0 (Al (s2.S pn)) s2).2.2 with cl:=Q2 (A0 (Au E.X E.Y) (Ee E.X E.Y n) 44 32 n 0 (Al (s2.S pn)) s2).2.2.cl pn})
    else(true,{(A0 (Au E.X E.Y) (Ee E.X E.Y n) 44 32 n 0 (Al (s2.S pn)) s2).2.2 with S:=Ay (A0 (Au E.X E.Y) (Ee E.X E.Y n) 44 32 n 0 (Al (s2.S pn)) s2).2.2.S pn (D5 (A0 (Au E.X E.Y) (Ee E.X E.Y n) 44 32 n 0 (Al (s2.S pn)) s2).1).1,fm:=A8 (A0 (Au E.X E.Y) (Ee E.X E.Y n) 44 32 n 0 (Al (s2.S pn)) s2).2.2.fm pn})):=zA rfl
   generalize hPS:Al (s2.S pn)=ps at*;clear hPS hbyw hlenw hC hzq hlt hD hq0;have HNE:Hid (E.gw≠w7.heap.size/\gx≠w7.heap.size):=zA ⟨by have:=Aa hcw;omega,by have:=Aa hT;omega⟩;go_upto_region 12 with fail;go_cut [8]from 14 (fun x8 wx=>∃ gt:Nat,x8= .pointer (some ⟨gt,0,none⟩)/\Hid (hat wx gt=some (.cells (IV .i64 ps) 119))/\Hid (Below w7.heap.size w7 wx)/\Hid (w7.heap.size<=gt))
   case first=>
    have hN5:=(A6 w7 (.cells (IV .i64 (zl 32)) 119)).1;have hBN:Below w7.heap.size w7 (w7.alloc (.cells (IV .i64 (zl 32)) 119)).drew:=Below.drew ((Below.refl _ _).alloc (Nat.le_refl _) _);have HBN:=zA hBN;have HN5:Hid (hat (w7.alloc (.cells (IV .i64 (zl 32)) 119)).drew w7.heap.size=some (.cells (IV .i64 (zl 32)) 119)):=zA hN5;clear hBN hN5;have hst:∀ raw w',Dd raw 32 0 w7.heap.size (IV .i64 ps) w' (some (.cells (IV .i64 (zl 32)) 119 (0,0)))= .ok () (w'.setRow w7.heap.size (IV .i64 ps)):=fun raw w'=>Fp (by simp) (by simpa using hpl) (by simp)
    go_region_with (first
     |(refine(HRP.out w7.drew).mono ?_;rintro e w11 ⟨rfl,hb11⟩;have hB11:Below w7.heap.size w7 w11:=⟨hb11.os,hb11.tape,hb11.output,hb11.size,hb11.block⟩)
     |(refine(HRP.out (w7.alloc (.cells (IV .i64 (zl 32)) 119)).drew).mono ?_;rintro e w11 ⟨rfl,hb11⟩;have hB11:Below w7.heap.size w7 w11:=Ad HBN.out hb11 HBN.out.size;have hx11:=(hop hb11 HN5.out).1;have hx11l:=Aa hx11))
    all_goals first
     |(have hg12:=zA (A6 w11 (.cells (IV .i64 ps) 119)).1
       have HB12:=zA (hB11.alloc hB11.size (.cells (IV .i64 ps) 119));have HSZ:=zA hB11.size;clear hb11 hB11;go_wp2_with fail;go_meet
       case rel=>exact⟨_,rfl,hg12,HB12,HSZ⟩)
     |(have hg12:=zA (Ar _ _ (IV .i64 ps) _ _ _ hx11)
       have HB12:=zA (Ag hB11 (g:=w7.heap.size) (Nat.le_refl _) (IV .i64 ps));clear hb11 hB11;go_wp2_with fail;go_meet
       case rel=>exact⟨_,rfl,hg12,HB12,zA (Nat.le_refl _)⟩)
   case rest=>
    obtain⟨gt,hx8,HGT0,HB8,HGTN⟩:=hcut;subst hx8;have HG8:=zA (HG.out.below HB8.out);have HT8:=zA ((hop HB8.out hT).1);have HGT:Hid ((∀ b∈E.bs,b≠gt)/\(∀ q,o=some q->q≠gt)/\gx≠gt):=zA ⟨fun b hb=>by have:=HG.out.lts b hb;have:=HGTN.out;omega,fun q hq=>by have:=HG.out.lto q hq;have:=HGTN.out;omega,by have:=Aa HT.out;have:=HGTN.out;omega⟩;have HF8:=zA (HF.out.trans (Af HB8.out _));have HWG:Hid (w.heap.size<=gt):=zA (by have:=HF.out.size;have:=HGTN.out;omega);clear hT hTl hl hll hcw hcwl hldw HRP HNE HB8 HG HF HT HGTN;obtain⟨w8,hw8⟩:∃ x,x=wc:=⟨_,rfl⟩;subst hw8;have hGT0:=HGT0.out;go_wp2_with fail
    go_loopw [9,10] (fun sm kv wr=>∃ (k:Nat) (pre:List Int) (b:Bool) (s:LS),kv= .int .i64 k/\sm= .bool b/\k<=32/\Hid (pre.length=k)/\Hid (RG E wr o l s.S s.cl tk I en)/\Hid (hat wr gt=some (.cells (IV .i64 (pre++ps.drop k)) 119))/\Hid (Fr [gt,E.gc,E.gw] w8 wr)/\
     Hid (A0 (Au E.X E.Y) (Ee E.X E.Y n) 44 32 n 0 ps s2=(pre++(A0 (Au E.X E.Y) (Ee E.X E.Y n) 44 32 n k (ps.drop k) s).1,b||(A0 (Au E.X E.Y) (Ee E.X E.Y n) 44 32 n k (ps.drop k) s).2.1,(A0 (Au E.X E.Y) (Ee E.X E.Y n) 44 32 n k (ps.drop k) s).2.2))) (fun _ v _=>32-(intOf v).toNat)
    case atStart=>exact⟨0,[],false,s2,rfl,rfl,by omega,zA rfl,HG8,zA (by simpa using hGT0),zA (Fr.refl _ _),zA (by simp)⟩
    case round=>
     obtain⟨k,pre,b,s,rfl,rfl,hk,HL,HG,HT,HF,HE⟩:=hrel;have hx8:=(HF.out.block gx (Aa HT8.out) (by simp only[List.mem_cons,List.not_mem_nil,or_false,not_or];exact⟨HGT.out.2.2,fun e=>HLT.out.1 E.gc (by simp[A3.bs]) e.symm,fun e=>HLT.out.1 E.gw (by simp[A3.bs]) e.symm⟩)).trans HT8.out;have HX8:Hid (hat wr gx=some (.cells (IV .i64 cur2) 78)):=zA hx8;clear hx8;by_cases hk32:k<32
     ·obtain⟨p,hpk⟩:=D8 (l:=ps) (k:=k) (by omega);have hk0:(0:Int)<=(k:Int):=Int.natCast_nonneg _;have hk1:(k:Int)<32:=(by omega);have hdr:=Io hpk;have hE1:=HE.out;rw[hdr,E6]at hE1;have HSET:Hid ((pre++ps.drop k).set k 0=(pre++[0])++ps.drop (k+1)):=zA (by rw[hdr];exact O0 HL.out);have HKEEP:Hid (pre++ps.drop k=(pre++[p])++ps.drop (k+1)):=zA (by rw[hdr];simp);have hcl2:(pre++ps.drop k).length=32:=(by rw[List.length_append,HL.out,List.length_drop,hpl];omega);have hck:(pre++ps.drop k)[k]? =some p:=(by rw[List.getElem?_append_right (by rw[HL.out];exact Nat.le_refl _),HL.out,Nat.sub_self,hdr];rfl);have hT:=HT.out;obtain⟨cur,hcur⟩:∃ cur,pre++ps.drop k=cur:=⟨_,rfl⟩;rw[hcur]at hT hcl2 hck HSET HKEEP;have hnk:nth cur k=p:=(by unfold nth;rw[hck];rfl);have HPL1:∀ x:Int,Hid ((pre++[x]).length=k+1):=fun x=>zA (by simp[HL.out])
      clear hdr hcur HT HE hpk hck;have hTl:=Aa hT;by_cases hp0:p=0
      ·rw[if_pos hp0]at hE1;have HE1:=zA hE1;have d1:(p !=0)=false:=(by simpa using hp0);have HT1:Hid (hat wr gt=some (.cells (IV .i64 ((pre++[0])++ps.drop (k+1))) 119)):=zA (by rw[<-hp0, <-HKEEP.out];exact hT);clear hE1 hp0;cases b
       all_goals
        go_wp2_with fail;go_roundw
        case rel=>exact⟨k+1,pre++[0],_,s,by go_num,rfl,by omega,HPL1 0,HG,HT1,HF,zA (by rw[HE1.out];simp)⟩
        case measure=>(show 32-(k+1)<32-k);omega
      ·rw[if_neg hp0]at hE1;have d1:(p !=0)=true:=(by simpa using hp0);have HST:∀ W,Hid (hat W gt=some (.cells (IV .i64 cur) 119)->hat (W.setCell ⟨gt,k,none⟩ (.int .i64 0)) gt=some (.cells (IV .i64 ((pre++[0])++ps.drop (k+1))) 119)):=fun W=>zA (fun hW=>by
        have:=Ah W gt k (.int .i64 0) _ _ _ hW;rw[Ng,HSET.out]at this;exact this)
       have HZ0:Hid (nth ((pre++[0])++ps.drop (k+1)) k=0/\((pre++[0])++ps.drop (k+1)).length=32):=zA (by
        rw[<-HSET.out];refine⟨?_,by simp[hcl2]⟩;unfold nth;rw[List.getElem?_set,if_pos rfl,if_pos (by omega)];rfl)
       have HGS:∀ W s',Hid (RG E W o l (LS.S s') (LS.cl s') tk I en->RG E (W.setCell ⟨gt,k,none⟩ (.int .i64 0)) o l (LS.S s') (LS.cl s') tk I en):=fun W s'=>zA (fun hW=>hW.fr (Ai W gt k _) (fun b hb=>by simpa using HGT.out.1 b hb) (fun q hq=>by simpa using HGT.out.2.1 q hq))
       have HZERO:Hid (∀ W s' b',RG E W o l (LS.S s') (LS.cl s') tk I en->hat W gt=some (.cells (IV .i64 cur) 119)->Fr [gt,E.gc,E.gw] w8 W->A0 (Au E.X E.Y) (Ee E.X E.Y n) 44 32 n 0 ps s2=(pre++(0::(A0 (Au E.X E.Y) (Ee E.X E.Y n) 44 32 n (k+1) (ps.drop (k+1)) s').1),b'||(A0 (Au E.X E.Y) (Ee E.X E.Y n) 44 32 n (k+1) (ps.drop (k+1)) s').2.1,(A0 (Au E.X E.Y) (Ee E.X E.Y n) 44 32 n (k+1) (ps.drop (k+1)) s').2.2)->
         Hid (RG E (W.setCell ⟨gt,k,none⟩ (.int .i64 0)) o l (LS.S s') (LS.cl s') tk I en)/\Hid (hat (W.setCell ⟨gt,k,none⟩ (.int .i64 0)) gt=some (.cells (IV .i64 ((pre++[0])++ps.drop (k+1))) 119))/\Hid (Fr [gt,E.gc,E.gw] w8 (W.setCell ⟨gt,k,none⟩ (.int .i64 0)))/\Hid (A0 (Au E.X E.Y) (Ee E.X E.Y n) 44 32 n 0 ps s2=((pre++[0])++(A0 (Au E.X E.Y) (Ee E.X E.Y n) 44 32 n (k+1) (ps.drop (k+1)) s').1,b'||(A0 (Au E.X E.Y) (Ee E.X E.Y n) 44 32 n (k+1) (ps.drop (k+1)) s').2.1,(A0 (Au E.X E.Y) (Ee E.X E.Y n) 44 32 n (k+1) (ps.drop (k+1)) s').2.2))):=zA (fun W s' b' h1 h2 h3 h4=>⟨zA ((HGS W s').out h1),zA ((HST W).out h2),zA (h3.trans ((Ai W gt k (.int .i64 0)).mono (ex':=[gt,E.gc,E.gw]) (by simp))),zA (by rw[h4];simp)⟩)
       clear HSET HST HGS;by_cases hn:(n:Int)<=44+32*(k:Int)
       ·rw[if_pos hn]at hE1;obtain⟨HG4,HT4,HF4,HE4⟩:=HZERO.out wr s b HG.out hT HF.out hE1;clear hE1 HKEEP HZERO;go_upto_region 19 with fail;generalize wr.setCell ⟨gt,k,none⟩ (.int .i64 0)=w4 at*;have hT4:=HT4.out;have hT4l:=Aa hT4;obtain⟨hz0,hz1⟩:=HZ0.out;obtain⟨cur3,hc3⟩:∃ c,(pre++[0])++ps.drop (k+1)=c:=⟨_,rfl⟩;rw[hc3]at hT4 hz0 hz1;clear hc3;cases b
        all_goals
         go_wp2_with fail;go_roundw
         case rel=>exact⟨k+1,pre++[0],_,s,by go_num,rfl,by omega,HPL1 0,HG4,HT4,HF4,HE4⟩
         case measure=>(show 32-(k+1)<32-k);omega
       ·rw[if_neg hn]at hE1;have HC1:=zA (J8 hE p s wr HG.out);have HE1:=zA hE1;have HTW:=zA hT;have HGTC:Hid (gt≠E.gc/\gt≠E.gw):=zA ⟨fun e=>HGT.out.1 E.gc (by simp[A3.bs]) e.symm,fun e=>HGT.out.1 E.gw (by simp[A3.bs]) e.symm⟩;clear hE1;go_wp2_with fail;refine HC1.out.mono ?_;rintro e w3 ⟨rfl,hg3,hf3⟩;have HT3:Hid (hat w3 gt=some (.cells (IV .i64 cur) 119)):=zA ((hf3.block gt (Aa HTW.out) (by simpa using HGTC.out.1)).trans HTW.out);have hT3:=HT3.out;have HF3:=zA (HF.out.trans (hf3.mono (ex':=[gt,E.gc,E.gw]) (by simp)));have HG3:=zA hg3;have hT3l:=Aa hT3;clear hf3 HC1 hT hTl HTW hg3;cases hgd:(Au E.X E.Y p s).1 with
        |false=>
         have hE2:=HE1.out;rw[if_pos hgd]at hE2;obtain⟨HG4,HT4,HF4,HE4⟩:=HZERO.out w3 (Au E.X E.Y p s).2 b HG3.out hT3 HF3.out hE2;clear hE2 HKEEP HE1 HZERO HG3 HT3;generalize (Au E.X E.Y p s).2=s3 at*;go_upto_region 19 with fail;generalize w3.setCell ⟨gt,k,none⟩ (.int .i64 0)=w4 at*;have hT4:=HT4.out;have hT4l:=Aa hT4;obtain⟨hz0,hz1⟩:=HZ0.out;obtain⟨cur3,hc3⟩:∃ c,(pre++[0])++ps.drop (k+1)=c:=⟨_,rfl⟩;rw[hc3]at hT4 hz0 hz1;clear hc3 hT3 hT3l;cases b
         all_goals
          go_wp2_with fail;go_roundw
          case rel=>exact⟨k+1,pre++[0],_,s3,by go_num,rfl,by omega,HPL1 0,HG4,HT4,HF4,HE4⟩
          case measure=>(show 32-(k+1)<32-k);omega
        |true=>
         have hE2:=HE1.out;rw[if_neg (by rw[hgd];simp)]at hE2;have hlt:=Ww hE (Mi hgd);obtain⟨qn,rfl⟩:=Int.eq_ofNat_of_zero_le hlt.1;have hqN:qn<E.N:=(by omega);have HC2:=zA (Vw hE qn hqN (44+32*(k:Int)) n (by omega) (by omega) (Au E.X E.Y qn s).2 w3 HG3.out);have hkp:Ee E.X E.Y n k (qn:Int) (Au E.X E.Y qn s).2=C7 (J9 E.X E.Y n (44+32*(k:Int))) qn (Au E.X E.Y qn s).2:=rfl;rw[hkp]at hE2;generalize C7 (J9 E.X E.Y n (44+32*(k:Int))) qn (Au E.X E.Y qn s).2=R at*;have HE2:=zA hE2;clear hE2 HE1 hkp hlt;go_wp2_with fail;refine HC2.out.mono ?_;rintro e w5 ⟨rfl,hg5,hf5⟩;have HT5:Hid (hat w5 gt=some (.cells (IV .i64 cur) 119)):=zA ((hf5.block gt (Aa HT3.out) (by simpa using HGTC.out)).trans HT3.out);have HF5:=zA (HF3.out.trans (hf5.mono (ex':=[gt,E.gc,E.gw]) (by simp)));have HG5:=zA hg5;have hT5:=HT5.out;have hT5l:=Aa hT5;have hE3:=HE2.out;clear hg5 hf5 HC2 HE2 HT3 hT3 hT3l HG3 HF3;cases hR1:R.1 with
         |false=>
          rw[if_pos hR1]at hE3;obtain⟨HG6,HT6,HF6,HE6⟩:=HZERO.out w5 R.2 b HG5.out hT5 HF5.out hE3;clear hE3 HKEEP HZERO HG5 HT5;go_upto_region 19 with fail;generalize w5.setCell ⟨gt,k,none⟩ (.int .i64 0)=w6 at*;have hT6:=HT6.out;have hT6l:=Aa hT6;obtain⟨hz0,hz1⟩:=HZ0.out;obtain⟨cur3,hc3⟩:∃ c,(pre++[0])++ps.drop (k+1)=c:=⟨_,rfl⟩;rw[hc3]at hT6 hz0 hz1;clear hc3 hT5 hT5l;cases b
          all_goals
           go_wp2_with fail;go_roundw
           case rel=>exact⟨k+1,pre++[0],_,R.2,by go_num,rfl,by omega,HPL1 0,HG6,HT6,HF6,HE6⟩
           case measure=>(show 32-(k+1)<32-k);omega
         |true=>
          rw[if_neg (by rw[hR1];simp)]at hE3;have HE3:=zA hE3;have HT6:Hid (hat w5 gt=some (.cells (IV .i64 ((pre++[(qn:Int)])++ps.drop (k+1))) 119)):=zA (by rw[<-HKEEP.out];exact hT5);clear hE3 HKEEP HZERO HT5;cases b
          all_goals
           go_wp2_with fail;go_roundw
           case rel=>exact⟨k+1,pre++[(qn:Int)],true,R.2,by go_num,rfl,by omega,HPL1 qn,HG5,HT6,HF5,zA (by rw[HE3.out];simp)⟩
           case measure=>(show 32-(k+1)<32-k);omega
     ·obtain rfl:k=32:=(by omega);have hE1:=HE.out;have hd:ps.drop 32=[]:=List.drop_of_length_le (by omega);rw[hd]at hE1;change _=(pre++[],b||false,s)at hE1;rw[List.append_nil,Bool.or_false]at hE1;have hT:=HT.out;rw[hd,List.append_nil]at hT;have hp32:pre.length=32:=HL.out;have hTl:=Aa hT;have HFW:Hid (Fr [gx,E.gc,E.gw] w wr):=zA (((HF8.out.mono (ex':=[gt,gx,E.gc,E.gw]) (by simp+contextual)).trans (HF.out.mono (ex':=[gt,gx,E.gc,E.gw]) (by simp+contextual))).past (fun k hk=>by
       rcases List.mem_cons.1 hk with e|hk
       ·right;rw[e];exact HWG.out
       ·exact .inl hk))
      have HTP2:=HTP;rw[hE1]at HTP2;have hX8:=HX8.out;have hX8l:=Aa hX8;clear hE1 hd HTP HE HT HF HF8;cases b with
      |false=>
       have HC1:=zA (Tq hE pn hpN pre wr HG.out);have hC:=HC.out;rw[HTP2.out]at hC;have HC3:Hid (C=([0],false,{s with cl:=Q2 s.cl pn})):=zA hC;clear hC;go_wp2_with fail;refine HC1.out.mono ?_;rintro e w3 ⟨rfl,hg3,hf3⟩;have hX3:hat w3 gx=some (.cells (IV .i64 cur2) 78):=(hf3.block gx hX8l (by simpa using fun e=>HLT.out.1 E.gc (by simp[A3.bs]) e.symm)).trans hX8;have hX3l:=Aa hX3
       have HGG:Hid (RG E (w3.setCell ⟨gx,17,none⟩ (.int .i64 0)) o l C.2.2.S C.2.2.cl tk I en):=zA (by
        rw[HC3.out];exact hg3.fr (Ai w3 gx 17 (.int .i64 0)) (fun b hb=>by simpa using HLT.out.1 b hb) (fun q hq=>by simpa using HLT.out.2 q hq))
       have HTT:Hid (hat (w3.setCell ⟨gx,17,none⟩ (.int .i64 0)) gx=some (.cells (IV .i64 (Ei raw (pre1++C.1) 14)) 78)):=zA (by
        have:=Ah w3 gx 17 (.int .i64 0) _ _ _ hX3;rw[Ng, <-HCU.out,fM HR.out HLB.out]at this;rw[HC3.out];exact this)
       have HFF:Hid (Fr [gx,E.gc,E.gw] w (w3.setCell ⟨gx,17,none⟩ (.int .i64 0))):=zA ((HFW.out.trans (hf3.mono (ex':=[gx,E.gc,E.gw]) (by simp))).trans ((Ai w3 gx 17 (.int .i64 0)).mono (ex':=[gx,E.gc,E.gw]) (by simp)));clear hg3 hf3 HC1;go_wp2_with fail;go_meet
       case rel=>exact⟨HGG,HTT,HFF⟩
      |true=>
       have HC1:=zA (Qw hE pn hpN pre hp32 wr HG.out);have hC:=HC.out;rw[HTP2.out]at hC;have HC3:Hid (C=([(pn:Int)],true,{s with S:=Ay s.S pn (D5 pre).1,fm:=A8 s.fm pn})):=zA hC;clear hC;go_wp2_with fail;refine HC1.out.mono ?_;rintro e w3 ⟨rfl,hg3,hf3⟩;have hX3:hat w3 gx=some (.cells (IV .i64 cur2) 78):=(hf3.block gx hX8l (by simpa using fun e=>HLT.out.1 E.gw (by simp[A3.bs]) e.symm)).trans hX8;have HGG:Hid (RG E w3 o l C.2.2.S C.2.2.cl tk I en):=zA (by rw[HC3.out];exact hg3)
       have HTT:Hid (hat w3 gx=some (.cells (IV .i64 (Ei raw (pre1++C.1) 14)) 78)):=zA (by
        rw[HC3.out,show([(pn:Int)]:List Int)=[zOr z pn] by rw[HD.out],HCU.out];exact hX3)
       have HFF:Hid (Fr [gx,E.gc,E.gw] w w3):=zA (HFW.out.trans (hf3.mono (ex':=[gx,E.gc,E.gw]) (by simp)));clear hg3 hf3 HC1;go_wp2_with fail;go_meet
       case rel=>exact⟨HGG,HTT,HFF⟩
 case rest=>
  obtain⟨HGc,HTc,HFc⟩:=hcut
  have HLX:Hid (C.1.length=1):=zA (by
   have hC:=HZb.out;unfold Pa at hC;split at hC
   ·rw[hC];rfl
   ·rw[hC.2];rfl)
  refine(show ∀ a w,Code.wp _ (tkC 6) _ a w->_ from by assumption) _ _ (tZ hE i n gx hM st (raw.take 4++(pre1++C.1),C.2.2) HR HZ HN HSI HLL w wc HLT HGX HPX HGc (zA ?_) HFc _ _ _ _ _ _ _ _ _ _ _ _ _ _ _ _ _ _ _ _ _ _ _ _ _ _ _ _ _ _ _ _ _ _ _ _ _ _ _ _ _ _ _ _ _ _ _ _ _ _ _ _ _ _ _ _ _ _ _ _ _ _ _ _ _ _ _ _ _ _ _ _ _ _ _ _ _ _ _ _ _ _ _ _ _ _ _ _ _ _ _ _ _ _ _ _ _ _ _ _ _ _ _ _ _ _ _ _ _ _ _ _ _ _ _ _ _ _ _ _ _ _ _ _ _ _ _ _ _ _ _ _ _ _ _ _ _ _ _ _ _ _ _ _ _ _ _ _ _ _ _ _ _ _ _ _ _ _ _ _ _ _ _ _ _ _ _ _ _ _ _ _ _ _ _ _ _ _ _ _ _ _ _ _ _ _ _ _ _ _ _ _ _ _ _ _);have e:=HTc.out;unfold Ei at e;rw[List.drop_of_length_le (by rw[HR.out];omega),List.append_nil]at e;exact e
end
section
variable {E:A3} {o:Option Nat} {l:List Int} {tk:Int->Bool} {I:Nat->List Int} {en:Nat->Int}
theorem tX(hE:ROk E)(i n gx:Nat)(hM:i<E.M){raw:List Int}(st:LS){A:Nat->List Int}(HR:Hid (raw.length=18))(HZ:Hid (0<=nth raw 2/\nth raw 2<=136704))(HN:Hid (Aq (nth raw 2)=n))(hn9:n<=1068)(HSI:Hid (SI E.X E.Y A (Cs st)))(HLL:Hid (l.length<=100000))(w wc:World)(HLT:Hid (Apt E o gx))(HGX:Hid (w.heap.size<=gx))
  (pre1:List Int) (s1:LS) (HLB:Hid (pre1.length=13)) (HPX:Hid (Az E.X E.Y n raw (Cs st)=(raw.take 4++(pre1++(A0 (Au E.X E.Y) (Kj E.X E.Y n) 44 1 n 0 [nth raw 17] s1).1),(A0 (Au E.X E.Y) (Kj E.X E.Y n) 44 1 n 0 [nth raw 17] s1).2.2)))
  (HG:Hid (RG E wc o l s1.S s1.cl tk I en)) (HT:Hid (hat wc gx=some (.cells (IV .i64 (Ei raw pre1 13)) 78))) (HF:Hid (Fr [gx,E.gc,E.gw] w wc)) (u2 u3 u4 u7 u8 u9 u10 u11 u12 u13 u14 u15 u16 u17 u18 u19 u20 u21 u22 u23 u24 u25 u26 u27 u28 u29 u30 u31 u32 u33 u34 u35 u36 u37 u38 u39 u40 u41 u42 u43 u44 u45 u46 u47 u48 u49 u50 u51 u52 u53 u54 u55 u56 u57 u58 u59 u60 u61 u62 u63 u64 u65 u66 u67 u68 u69 u70 u71 u72 u73 u74 u75 u76 u77 u78 u79 u80 u81 u82 u83 u84 u85 u86 u87 u88 u89 u90 u91 u92 u93 u94 u95 u96 u97 u98 u99 u100 u101 u102 u103 u104 u105 u106 u107 u108 u109 u110 u111 u112 u113 u114 u115 u116 u117 u118 u119 u120 u121 u122 u123 u124 u125 u126 u127 u128 u129 u130 u131 u132 u133 u134 u135 u136 u137 u138 u139 u140 u141 u142 u143 u144 u145 u146 u147 u148 u149 u150 u151 u152 u153 u154 u155 u156 u157 u158 u159 u160 u161 u162 u163 u164 u165 u166 u167 u168 u169 u170 u171 u172 u173 u174 u175 u176 u177 u178 u179 u180 u181 u182 u183 u184 u185 u186 u187 u188 u189 u190 u191 u192 u193 u194 u195 u196 u197 u198 u199:Value):
  Code.wp Tryz.prog (tkC 4) (bodyPost Tryz.prog Tryz.f67 (aM E i raw st o l tk I en w)) ⟨#[.pointer (some ⟨E.g,0,none⟩),.int .i64 i,u2,u3,u4,.pointer (some ⟨gx,0,none⟩),.int .i64 n,u7,u8,u9,u10,u11,u12,u13,u14,u15,u16,u17,u18,u19,u20,u21,u22,u23,u24,u25,u26,u27,u28,u29,u30,u31,u32,u33,u34,u35,u36,u37,u38,u39,u40,u41,u42,u43,u44,u45,u46,u47,u48,u49,u50,u51,u52,u53,u54,u55,u56,u57,u58,u59,u60,u61,u62,u63,u64,u65,u66,u67,u68,u69,u70,u71,u72,u73,u74,u75,u76,u77,u78,u79,u80,u81,u82,u83,u84,u85,u86,u87,u88,u89,u90,u91,u92,u93,u94,u95,u96,u97,u98,u99,u100,u101,u102,u103,u104,u105,u106,u107,u108,u109,u110,u111,u112,u113,u114,u115,u116,u117,u118,u119,u120,u121,u122,u123,u124,u125,u126,u127,u128,u129,u130,u131,u132,u133,u134,u135,u136,u137,u138,u139,u140,u141,u142,u143,u144,u145,u146,u147,u148,u149,u150,u151,u152,u153,u154,u155,u156,u157,u158,u159,u160,u161,u162,u163,u164,u165,u166,u167,u168,u169,u170,u171,u172,u173,u174,u175,u176,u177,u178,u179,u180,u181,u182,u183,u184,u185,u186,u187,u188,u189,u190,u191,u192,u193,u194,u195,u196,u197,u198,u199],[]⟩ wc:=by
 conv=>arg 2;whnf
 conv=>arg 4;dsimp only
 have HC0:=Zx (Au E.X E.Y) (Kj E.X E.Y n) 44 n (nth raw 17) s1;generalize A0 (Au E.X E.Y) (Kj E.X E.Y n) 44 1 n 0 [nth raw 17] s1=C at*;have hn17:nth (Ei raw pre1 13) 17=nth raw 17:=Wi HR.out HLB.out (by omega);have hcl:=Od HR.out HLB.out (show 13<=14 by omega);obtain⟨q,hq⟩:∃ q,nth raw 17=q:=⟨_,rfl⟩;rw[hq]at hn17 HC0;have HP17:=zA hq;obtain⟨cur,hcur⟩:∃ cur,Ei raw pre1 13=cur:=⟨_,rfl⟩;rw[hcur]at HT hn17 hcl;have HCU:=zA hcur;have hcell:(IV .i64 cur)[17]? =some (.int .i64 q):=by rw[Bl,An (by omega),hn17];rfl
 have hT:=HT.out;have hTl:=Aa hT;obtain⟨w6,hw6⟩:∃ x,x=wc:=⟨_,rfl⟩;subst hw6;clear hq hcur;go_upto_region 9 with fail;go_cut [78]from 14 (fun c wx=>∃ (z:Bool) (s2:LS),c= .bool z/\Hid (RG E wx o l s2.S s2.cl tk I en)/\Hid (hat wx gx=some (.cells (IV .i64 cur) 78))/\Hid (Fr [gx,E.gc,E.gw] w wx)/\Hid (Pa E n q z s2 C))
 case first=>
  by_cases hp0:q=0
  ·rw[if_pos hp0]at HC0;have d1:(q !=0)=false:=(by simpa using hp0);have HZZ:Hid (Pa E n q false s1 C):=zA (by unfold Pa;rw[if_pos (.inr hp0)];exact HC0);clear HC0 hp0;go_wp2_with fail;go_meet
   case rel=>exact⟨false,s1,rfl,HG,HT,HF,HZZ⟩
  ·have HQ0:=zA hp0;rw[if_neg hp0]at HC0;have d1:(q !=0)=true:=(by simpa using hp0);by_cases hn:(n:Int)<=44
   ·rw[if_pos hn]at HC0;have HZZ:Hid (Pa E n q true s1 C):=zA (by unfold Pa;rw[if_pos (.inl rfl)];exact HC0);clear HC0 hp0;go_wp2_with fail;go_meet
    case rel=>exact⟨true,s1,rfl,HG,HT,HF,HZZ⟩
   ·rw[if_neg hn]at HC0;have HC:=zA (J8 hE q s1 w6 HG.out);have HTW:=zA hT;have HGTC:Hid (gx≠E.gc):=zA (fun e=>HLT.out.1 E.gc (by simp[A3.bs]) e.symm);have HC1:=zA HC0;clear hp0 HC0;go_wp2_with fail;refine HC.out.mono ?_;rintro e w7 ⟨rfl,hg7,hf7⟩;have hT7:hat w7 gx=some (.cells (IV .i64 cur) 78):=(hf7.block gx (Aa HTW.out) (by simpa using HGTC.out)).trans HTW.out;have HF7:=zA (HF.out.trans (hf7.mono (ex':=[gx,E.gc,E.gw]) (by simp)));have HG7:=zA hg7;have HT7:=zA hT7;have hT7l:=Aa hT7;clear hf7 HC hT hTl HTW hg7;cases hgd:(Au E.X E.Y q s1).1 with
    |false=>
     have hE2:=HC1.out;rw[if_pos hgd]at hE2;have HZZ:Hid (Pa E n q true (Au E.X E.Y q s1).2 C):=zA (by unfold Pa;rw[if_pos (.inl rfl)];exact hE2);clear hE2 HC1;go_wp2_with fail;go_meet
     case rel=>exact⟨true,_,rfl,HG7,HT7,HF7,HZZ⟩
    |true=>
     have hE2:=HC1.out;rw[if_neg (by rw[hgd];simp)]at hE2
     have HZZ:Hid (Pa E n q false (Au E.X E.Y q s1).2 C):=zA (by
      unfold Pa;rw[if_neg (by simpa using HQ0.out)];refine⟨Mi hgd,?_⟩;rw[hE2];have hk4:Kj E.X E.Y n 0 q (Au E.X E.Y q s1).2=C7 (Pg E.X E.Y n) q.toNat (Au E.X E.Y q s1).2:=rfl;rw[hk4];cases (C7 (Pg E.X E.Y n) q.toNat (Au E.X E.Y q s1).2).1<;>rfl)
     clear hE2 HC1;go_wp2_with fail;go_meet
     case rel=>exact⟨false,_,rfl,HG7,HT7,HF7,HZZ⟩
 case rest=>
  obtain⟨z,s2,hz,HGb,HTb,HFb,HZb⟩:=hcut;subst hz;clear HC0 HG HF HT hT hTl;go_upto_if 78 with fail;go_cut []from 14 (fun wx=>Hid (RG E wx o l s2.S s2.cl tk I en)/\Hid (hat wx gx=some (.cells (IV .i64 (Ei raw (pre1++[zOr z q]) 14)) 78))/\Hid (Fr [gx,E.gc,E.gw] w wx))
  case first=>
   have hT:=HTb.out;have hTl:=Aa hT;cases z with
   |false=>
    have HT4:Hid (hat wc gx=some (.cells (IV .i64 (Ei raw (pre1++[zOr false q]) 14)) 78)):=zA (by
     rw[show zOr false q=nth raw (4+13)from HP17.out.symm, <-Pf HR.out (by decide),HCU.out];exact hT)
    go_wp2_with fail;go_meet
    case rel=>exact⟨HGb,HT4,HFb⟩
   |true=>
    have HT4:Hid (hat (wc.setCell ⟨gx,17,none⟩ (.int .i64 0)) gx=some (.cells (IV .i64 (Ei raw (pre1++[zOr true q]) 14)) 78)):=zA (by
     have:=Ah wc gx 17 (.int .i64 0) _ _ _ hT;rw[Ng, <-HCU.out,show(17:Nat)=4+13 from rfl,Rw HR.out HLB.out (by decide)]at this;exact this)
    have HG4:=zA (HGb.out.fr (Ai wc gx 17 (.int .i64 0)) (fun b hb=>by simpa using HLT.out.1 b hb) (fun q hq=>by simpa using HLT.out.2 q hq));have HF4:=zA (HFb.out.trans ((Ai wc gx 17 (.int .i64 0)).mono (ex':=[gx,E.gc,E.gw]) (by simp)));go_wp2_with fail;go_meet
    case rel=>exact⟨HG4,HT4,HF4⟩
  case rest=>
   obtain⟨HGc,HTc,HFc⟩:=hcut;refine(show ∀ a w,Code.wp _ (tkC 5) _ a w->_ from by assumption) _ _ (tY hE i n gx hM st HR HZ HN hn9 HSI HLL w wc HLT HGX pre1 z q s2 C HLB HZb HPX HGc HTc HFc _ _ _ _ _ _ _ _ _ _ _ _ _ _ _ _ _ _ _ _ _ _ _ _ _ _ _ _ _ _ _ _ _ _ _ _ _ _ _ _ _ _ _ _ _ _ _ _ _ _ _ _ _ _ _ _ _ _ _ _ _ _ _ _ _ _ _ _ _ _ _ _ _ _ _ _ _ _ _ _ _ _ _ _ _ _ _ _ _ _ _ _ _ _ _ _ _ _ _ _ _ _ _ _ _ _ _ _ _ _ _ _ _ _ _ _ _ _ _ _ _ _ _ _ _ _ _ _ _ _ _ _ _ _ _ _ _ _ _ _ _ _ _ _ _ _ _ _ _ _ _ _ _ _ _ _ _ _ _ _ _ _ _ _ _ _ _ _ _ _ _ _ _ _ _ _ _ _ _ _ _ _ _ _ _ _ _ _ _ _ _ _ _ _ _ _)
end
end Go.Proofs.YtmnecpnkkapflaaGreat
