import Derived.Deep.Slices
import Derived.Deep.Strs
import Derived.OpenShut
import Derived.SizedLaws
import Derived.Test.YtmnecpnkkapflaaGreatM04
import Derived.Test.YtmnecpnkkapflaaGreatM18
import Derived.Test.YtmnecpnkkapflaaGreatM20
namespace Go.Proofs.YtmnecpnkkapflaaGreat
set_option maxHeartbeats 16000000
set_option maxRecDepth 1000000
set_option linter.unusedSimpArgs false
set_option linter.unusedVariables false
open Go.ChangeShapes Go.WideShapes Go.ChangeAt Go.RowKit
theorem Tryz.cellsSpot:Tryz.prog.cellsOf 44=3:=by kernel_rfl
theorem Pe:Tryz.prog.cellsOf 3=1:=by kernel_rfl
theorem X6:Tryz.prog.cellsOf 23=1:=by kernel_rfl
theorem aQ:Tryz.prog.cellsOf 25=2:=by kernel_rfl
theorem fK:Tryz.prog.cellsOf 42=1:=by kernel_rfl
theorem Wt{x:Int}(h:(Lit.int .i64 x).wf=true):I64 x:=bounds_i64 h
theorem kI{H:Type}{enc:TypeId×Value->H}{W:World}{fuel:Nat}{cs:List Value}{x:DataW H×List MemPlace}
  (h:DataW.trod enc Tryz.prog W 0 (fun _=>true) true fuel 42 cs=some x):∃ v l,cs=[v]/\Nf W v l:=by
 rcases Go.Deep.open_slice Tryz.underlying42 h with ⟨hcs,hx⟩|⟨a,len,cap,m,n,D,Pl,hcs,-,hl,hm,hz,hx,hcell⟩
 ·exact⟨_,[],hcs,none,0,rfl,by simp,fun x hx=>by simp at hx,fun h=>by simp at h⟩
 ·simp only[if_true]at hz;subst hz;simp only[Tryz.cellsU8,Nat.mul_one]at hcell;have key:∀ i,i<len->∃ z:Int,W.cell? (a.add i)=some (.int .u8 z)/\(Lit.int .u8 z).wf=true:=by
   intro i hi;obtain⟨cs',hc,ht⟩:=hcell i (by omega);obtain⟨-,hlen,hget⟩:=World.cells?_some hc;obtain⟨z,hz,-,hwf⟩:=DataW.trod_int Tryz.underlying5 ht;refine⟨z,?_,hwf⟩;have:=hget 0 (by omega);rw[hz]at this;simpa [Go.Deep.add_add]using this
  have hmax:maxLen=9223372036854775807:=(by decide);by_cases h0:len=0
  ·subst h0;exact⟨_,[],hcs,some a,_,rfl,by simp,fun x hx=>by simp at hx,fun h=>by simp at h⟩
  ·obtain⟨z0,hz0,-⟩:=key 0 (by omega);obtain⟨g,o,cs0,t,fr,ha,hg,hc0⟩:=Lq hz0;obtain⟨b,off,spot⟩:=a;have hb:b=g/\off=o/\spot=none:=by
    cases spot with
    |none=>
     rw[C4]at ha;injection ha with e1 e2 e3
     exact⟨e1,by omega,rfl⟩
    |some q=>
     exfalso
     have:=World.cell?_spot hz0;simp[Addr.add]at this
   obtain⟨rfl,rfl,rfl⟩:=hb;simp only[C4]at key;have key2:∀ i,i<len->∃ z:Int,cs0[off+i]? =some (.int .u8 z)/\(Lit.int .u8 z).wf=true:=fun i hi=>by
    obtain⟨z,h1,h2⟩:=key i hi;exact⟨z,by rw[<-Bs hg];exact h1,h2⟩
   obtain⟨f,hf⟩:=Go.Deep.choose_lt key2;refine⟨_,(List.range len).map f,hcs,some ⟨b,off,none⟩,_,by rw[List.length_map,List.length_range],?_,fun x hx=>?_,fun _=>⟨b,off,cs0,t,fr,rfl,hg,?_,fun k x hx=>?_⟩⟩
   ·rw[List.length_map,List.length_range];omega
   ·obtain⟨j,hj,rfl⟩:=List.mem_map.1 hx;have:=bounds_u8 (hf j (List.mem_range.1 hj)).2;exact⟨this.1,by omega⟩
   ·have:=(Array.getElem?_eq_some_iff.1 (hf (len-1) (by omega)).1).1;simp;omega
   ·have hk:k<len:=(by have:=(List.getElem?_eq_some_iff.1 hx).1;simpa using this);rw[List.getElem?_map,List.getElem?_range hk]at hx;simp at hx;rw[(hf k hk).1,hx]
theorem mK{H:Type}{enc:TypeId×Value->H}{W:World}{base:Nat}{v:Value}{d:DataW H}{p:List MemPlace}(hv:Value.okWide Tryz.prog W .any base 25 v)
  (h:DataW.Trod enc Tryz.prog W 0 (fun _=>true) true 25 v d p):∃ sec sp,Pic W v sec sp:=by
 obtain⟨cs,rfl,hsz⟩:=okWide_struct Tryz.underlying25 hv;obtain⟨fuel,hf⟩:=h;obtain⟨y0,y1,n,-,hcl,h0,h1⟩:=trod_struct2 Tryz.underlying25 hf;rw[aQ]at hsz;simp only[Pe,X6]at h0 h1;obtain⟨va,vb,rfl⟩:∃ va vb,cs= #[va,vb]:=by
  obtain⟨l⟩:=cs;match l,hsz with
  |[a,b],_=>exact⟨a,b,rfl⟩
 obtain⟨x0,e0,-,hw0⟩:=DataW.trod_int Tryz.underlying3 h0;have e0:va= .int .i64 x0:=by simpa [Value.cells]using e0
 subst e0;have hw:I64 x0:=Wt hw0;rcases Go.Deep.open_slice Tryz.underlying23 h1 with ⟨hcs,hx⟩|⟨a,len,cap,m,n,D,Pl,hcs,-,hl,hm,hz,hx,hcell⟩
 ·have e1:vb= .slice none 0 0:=(by simpa [Value.cells]using hcs);subst e1;exact⟨x0,[],hw,none,0,rfl,by simp,fun h=>by simp at h⟩
 ·have e1:vb= .slice (some a) len cap:=(by simpa [Value.cells]using hcs);subst e1;simp only[if_true]at hz;subst hz;simp only[Tryz.cellsSpot]at hcell;have key:∀ i,i<len->∃ x:We,I64 x.1/\I64 x.2.1/\∃ dv,W.cell? ((a.add (i*3)).add 0)=some (.int .i64 x.1)/\W.cell? ((a.add (i*3)).add 1)=some (.int .i64 x.2.1)/\W.cell? ((a.add (i*3)).add 2)=some dv/\Nf W dv x.2.2:=by
   intro i hi;obtain⟨cs',hc,ht⟩:=hcell i (by omega);obtain⟨-,hlen,hget⟩:=World.cells?_some hc;obtain⟨z0,z1,z2,n',-,-,k0,k1,k2⟩:=Go.Deep.trod_struct3 Tryz.underlying44 ht;simp only[Pe,fK]at k0 k1 k2;obtain⟨p0,q0,-,w0⟩:=DataW.trod_int Tryz.underlying3 k0;obtain⟨p1,q1,-,w1⟩:=DataW.trod_int Tryz.underlying3 k1;obtain⟨dv,l,q2,hb⟩:=kI k2;have g:∀ j v,j<3->(cs'.drop j).take 1=[v]->W.cell? ((a.add (i*3)).add j)=some v:=fun j v hj hv=>by
    rw[hget j hj];have h0:((cs'.drop j).take 1)[0]? =some v:=(by rw[hv];rfl);rw[List.getElem?_take,if_pos (by omega),List.getElem?_drop]at h0;simpa using h0
   exact⟨(p0,p1,l),Wt w0,Wt w1,dv,g 0 _ (by omega) q0,g 1 _ (by omega) q1,g 2 _ (by omega) q2,hb⟩
  have hmax:maxLen=9223372036854775807:=(by decide);by_cases h0:len=0
  ·subst h0;exact⟨x0,[],hw,some a,_,rfl,by simp,fun h=>by simp at h⟩
  ·obtain⟨s0,-,-,d0,hz0,-⟩:=key 0 (by omega);obtain⟨g,o,cs0,t,fr,ha,hg,hc0⟩:=Lq hz0;obtain⟨b,off,spot⟩:=a;have hb:b=g/\off=o/\spot=none:=by
    cases spot with
    |none=>
     rw[C4,C4]at ha;injection ha with e1 e2 e3
     exact⟨e1,by omega,rfl⟩
    |some q=>
     exfalso
     have:=World.cell?_spot hz0;simp[Addr.add]at this
   obtain⟨rfl,rfl,rfl⟩:=hb;simp only[C4]at key;obtain⟨f,hf⟩:=Go.Deep.choose_lt key;refine⟨x0,(List.range len).map f,hw,some ⟨b,off,none⟩,_,by simp;rfl,by rw[List.length_map,List.length_range];omega,fun _=>⟨b,off,cs0,t,fr,rfl,hg,?_,fun i x hx=>?_⟩⟩
   ·obtain⟨-,-,dv,-,-,h3,-⟩:=hf (len-1) (by omega);rw[Bs hg]at h3;have:=(Array.getElem?_eq_some_iff.1 h3).1;rw[List.length_map,List.length_range];omega
   ·have hi:i<len:=(by have:=(List.getElem?_eq_some_iff.1 hx).1;simpa using this);rw[List.getElem?_map,List.getElem?_range hi]at hx;simp only[Option.map_some,Option.some.injEq]at hx;subst hx;obtain⟨a1,a2,dv,h1,h2,h3,h4⟩:=hf i hi;rw[Bs hg]at h1 h2 h3;refine⟨a1,a2,dv,?_,h4⟩;have:=(Array.getElem?_eq_some_iff.1 h3).1;apply Array.ext_getElem?
    intro j;rw[Array.getElem?_extract];rcases j with _|_|_|j
    ·rw[if_pos (by omega),h1];rfl
    ·rw[if_pos (by omega),h2];rfl
    ·rw[if_pos (by omega),h3];rfl
    ·rw[if_neg (by omega)];simp
theorem lR{H:Type}{enc:TypeId×Value->H}{W:World}{fuel:Nat}{cs:List Value}{x:DataW H×List MemPlace}
  (h:DataW.trod enc Tryz.prog W 0 (fun _=>true) true fuel 32 cs=some x):∃ v l,cs=[v]/\Wb W v l:=by
 rcases Go.Deep.open_slice Tryz.underlying32 h with ⟨hcs,hx⟩|⟨a,len,cap,m,n,D,Pl,hcs,-,hl,hm,hz,hx,hcell⟩
 ·exact⟨_,[],hcs,none,0,rfl,by simp,fun x hx=>by simp at hx,fun h=>by simp at h⟩
 ·simp only[if_true]at hz;subst hz;simp only[Pe,Nat.mul_one]at hcell;have key:∀ i,i<len->∃ z:Int,W.cell? (a.add i)=some (.int .i64 z)/\(Lit.int .i64 z).wf=true:=by
   intro i hi;obtain⟨cs',hc,ht⟩:=hcell i (by omega);obtain⟨-,hlen,hget⟩:=World.cells?_some hc;obtain⟨z,hz,-,hwf⟩:=DataW.trod_int Tryz.underlying3 ht;refine⟨z,?_,hwf⟩;have:=hget 0 (by omega);rw[hz]at this;simpa [Go.Deep.add_add]using this
  have hmax:maxLen=9223372036854775807:=(by decide);by_cases h0:len=0
  ·subst h0;exact⟨_,[],hcs,some a,_,rfl,by simp,fun x hx=>by simp at hx,fun h=>by simp at h⟩
  ·obtain⟨z0,hz0,-⟩:=key 0 (by omega);obtain⟨g,o,cs0,t,fr,ha,hg,hc0⟩:=Lq hz0;obtain⟨b,off,spot⟩:=a;have hb:b=g/\off=o/\spot=none:=by
    cases spot with
    |none=>
     rw[C4]at ha;injection ha with e1 e2 e3
     exact⟨e1,by omega,rfl⟩
    |some q=>
     exfalso
     have:=World.cell?_spot hz0;simp[Addr.add]at this
   obtain⟨rfl,rfl,rfl⟩:=hb;simp only[C4]at key;have key2:∀ i,i<len->∃ z:Int,cs0[off+i]? =some (.int .i64 z)/\(Lit.int .i64 z).wf=true:=fun i hi=>by
    obtain⟨z,h1,h2⟩:=key i hi;exact⟨z,by rw[<-Bs hg];exact h1,h2⟩
   obtain⟨f,hf⟩:=Go.Deep.choose_lt key2;refine⟨_,(List.range len).map f,hcs,some ⟨b,off,none⟩,_,by rw[List.length_map,List.length_range],?_,fun x hx=>?_,fun _=>⟨b,off,cs0,t,fr,rfl,hg,?_,fun k x hx=>?_⟩⟩
   ·rw[List.length_map,List.length_range];omega
   ·obtain⟨j,hj,rfl⟩:=List.mem_map.1 hx;exact Wt (hf j (List.mem_range.1 hj)).2
   ·have:=(Array.getElem?_eq_some_iff.1 (hf (len-1) (by omega)).1).1;simp;omega
   ·have hk:k<len:=(by have:=(List.getElem?_eq_some_iff.1 hx).1;simpa using this);rw[List.getElem?_map,List.getElem?_range hk]at hx;simp at hx;rw[(hf k hk).1,hx]
theorem qN{H:Type}{enc:TypeId×Value->H}{W:World}{base:Nat}{v:Value}{d:DataW H}{p:List MemPlace}(hv:Value.okWide Tryz.prog W .any base 32 v)
  (h:DataW.Trod enc Tryz.prog W 0 (fun _=>true) true 32 v d p):∃ l,Wb W v l:=by
 obtain⟨a,len,cap,rfl⟩:=okWide_slice Tryz.underlying32 hv;obtain⟨fuel,hf⟩:=h;obtain⟨v',l,hcs,hl⟩:=lR hf;have hv': .slice a len cap=v':=by simpa [Value.cells]using hcs
 subst hv';exact⟨l,hl⟩
theorem Tryz.bytesInt:Tryz.prog.bytesOf 3=8:=by kernel_rfl
theorem bD{H:Type}{enc:TypeId×Value->H}{W:World}{v:Value}{d:DataW H}{p:List MemPlace}{l:List Int}
  (h:DataW.Trod enc Tryz.prog W 0 (fun _=>true) true 32 v d p) (hI:Wb W v l) {ts:List TypeId} {ds:List (DataW H)} (hsz:(DataW.weightsEach Tryz.prog ts ds).all (· <=reachBytes)=true) {j:Nat} (ht:ts[j]? =some 32) (hd:ds[j]? =some d):l.length<=17592186043904:=by
 obtain⟨a,ci,rfl,-⟩:=hI;obtain⟨fuel,hf⟩:=h;rcases Go.Deep.open_slice Tryz.underlying32 hf with ⟨hcs,hx⟩|⟨a',len,cap,m,n,D,Pl,hcs,-,hl,hm,hz,hx,hcell⟩
 ·have e:(Value.slice a l.length ci)= .slice none 0 0:=(by simpa [Value.cells]using hcs);injection e with _ e
  omega
 ·have e:(Value.slice a l.length ci)= .slice (some a') len cap:=(by simpa [Value.cells]using hcs);injection e with _ e
  have hx1:=congrArg Prod.fst hx;simp only at hx1;rw[hx1]at hd;have h1:=sized_slice hsz ht hd Tryz.underlying32;rw[Tryz.bytesInt]at h1;simp only[List.length_map,List.length_range]at h1;have h2:reachBytes=140737488351232:=(by decide);have h3:l.length*8<=(len+(m-len))*8:=Nat.mul_le_mul_right _ (by omega);omega
end Go.Proofs.YtmnecpnkkapflaaGreat
