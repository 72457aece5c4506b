import Derived.LaidEql
import Derived.Stop.Asserts
import Derived.RowKitTokens
import Derived.Test.YtmnecpnkkapflaaGreatM07
import Derived.Test.YtmnecpnkkapflaaGreatM09
import Derived.Test.YtmnecpnkkapflaaGreatM10
import Derived.Test.YtmnecpnkkapflaaGreatM11
namespace Go.Proofs.YtmnecpnkkapflaaGreat
set_option maxHeartbeats 16000000
set_option maxRecDepth 1000000
set_option linter.unusedSimpArgs false
set_option linter.unusedVariables false
open Go.RowKit
theorem rZ(X Y:Int)(S:Nat->List Int):PZ X Y (Cf S):=⟨fun i t h=>(by cases h),fun i t h=>(by cases h),fun i t h=>(by cases h),fun i t i' t' p h=>(by cases h),fun q h=>(by cases h),fun i t h=>(by cases h),fun i t h=>(by cases h)⟩
theorem rY(S:Nat->List Int):CZ S (Cf S):=⟨fun i t h=>(by cases h),fun i t h=>(by cases h)⟩
theorem Z6{X Y:Int}(hY:1<=Y){S:Nat->List Int}(hA:∀ j:Nat,isD X Y j=true->(S j).length=128/\A4 (S j))(hr:Fb S):WZ X Y S (fun _=>[]) 0 0 (Df X Y S):=by
 have hs:Bw (S 1)=true:=hr.1;obtain⟨hi,-,-⟩:=Oo (by omega) hA hs;have hp:PZ X Y (Df X Y S):=(rZ X Y S).take (by omega) (Qe (Y:=Y) hA) rfl (Bo _) 1;have hc:CZ S (Df X Y S):=(rY S).take (X:=X) (Y:=Y) (by omega) (Qe (Y:=Y) hA) rfl (Bo _) 1;have hkind:nth (Aj X Y (Am (S 1)).1 (Cf S).st).1 0=nth (Am (S 1)).1 0:=by
  rw[(Hv X Y _ _).1];exact(Fm (X:=X) (by omega) _ (Bo _) _).1 0 (by omega)
 have hT:∀ i t,(Df X Y S).T i=some t->i=1/\t=⟨(Aj X Y (Am (S 1)).1 (Cf S).st).1,1,(Aj X Y (Am (S 1)).1 (Cf S).st).2.bk⟩:=by
  intro i t ht;have h2:A2 (fun _=>none) 1 ⟨(Aj X Y (Am (S 1)).1 (Cf S).st).1,1,(Aj X Y (Am (S 1)).1 (Cf S).st).2.bk⟩ i=some t:=ht;by_cases e:i=1
  ·subst e;rw[Cg]at h2;exact⟨rfl,(Option.some.inj h2).symm⟩
  ·rw[Cb _ _ e]at h2;cases h2
 have hq:(Df X Y S).q=[1]:=by
  show(if nth (Am (S 1)).1 0=2 then []++[((1:Nat):Int)]else [])=_
  rw[if_pos hr.2];rfl
 refine⟨hi,hp,hc,fun i e h=>(by cases h),fun i=>List.nodup_nil,fun i h=>absurd rfl h,fun i t ht=>?_,fun j t ht=>?_,fun j t ht=>?_,fun P h1 _ j t ht=>?_,⟨⟨(Aj X Y (Am (S 1)).1 (Cf S).st).1,1,(Aj X Y (Am (S 1)).1 (Cf S).st).2.bk⟩,show A2 (fun _=>none) 1 _ 1=_ from Cg _ _ _⟩,fun i t ht _=>?_⟩
 ·obtain⟨rfl,-⟩:=hT i t ht;exact⟨Nat.le_refl _,hY⟩
 ·obtain⟨rfl,rfl⟩:=hT j t ht;rw[if_pos rfl,U6 (fun i e he=>by cases he)];rfl
 ·obtain⟨rfl,rfl⟩:=hT j t ht;exact⟨Int.le_refl _,fun _=>rfl⟩
 ·obtain⟨rfl,-⟩:=hT j t ht;exact h1
 ·obtain⟨rfl,-⟩:=hT i t ht;unfold Gp;rw[hq,if_pos (by simp)];rfl
structure Un (X Y:Int) (S:Nat->List Int) (L:Nat->List Ent) (z:LZ):Prop where
 w:WZ X Y S L 0 0 z
 q:z.q=[]
theorem qO{X Y:Int}(hY:1<=Y)(hY9:Y<4096){S:Nat->List Int}(hA:∀ j:Nat,isD X Y j=true->(S j).length=128/\A4 (S j))(hr:Fb S):∃ L,Un X Y S L (Bh X Y S):=by
 obtain⟨L,h⟩:=dY (by omega) 8192 _ _ (Z6 hY hA hr);refine⟨L,h,?_⟩;have hm:=Ir hr.1;have hb:=(D9 hm.2).1 hm.1;have hz:ZI X Y (Df X Y S):=(dD X Y S).take (Nat.le_refl 1) hY (by decide) (Bo _) hb.1.2.2.1.1 hb.1.2.2.1.2 (by decide) (by decide) rfl;exact iH hY9 S 8192 _ hz.pot
theorem Yb(raw:List Int)(e:Int):Ms (raw.set 1 e)=Ms raw:=by
 unfold Ms;rw[List.drop_set_of_lt (by decide)]
theorem Vi(n:Int)(S:Nat->List Int)(raw:List Int)(e:Int):Dq n S (raw.set 1 e)=Dq n S raw:=by
 unfold Dq;rw[Yb,C0 _ _ (by decide),C0 _ _ (by decide)]
theorem gU(n:Int)(S:Nat->List Int)(raw:List Int)(e:Int):Ic n S (raw.set 1 e)↔Ic n S raw:=by
 unfold Ic;rw[Yb,C0 _ _ (by decide),C0 _ _ (by decide)]
theorem X4(S:Nat->List Int)(raw:List Int)(e:Int)(k:Nat):D6 S (raw.set 1 e) k=D6 S raw k:=by
 unfold D6;rw[C0 _ _ (by omega),C0 _ _ (by decide),C0 _ _ (by decide)]
structure fC (X Y:Int) (S W:Nat->List Int) (z:LZ):Prop where
 d:∀ j:Nat,isD X Y j=true->W j=z.st.S j
 yes:∀ i t,z.T i=some t->wI W i=t.raw.set 1 t.en/\nth t.raw 0≠0/\B0 (t.raw.set 1 t.en)
 no:∀ i:Nat,1<=i->(i:Int)<=Y->z.T i=none->wI W i=zl 18
 rd:∀ i:Nat,1<=i->(i:Int)<=Y->(Am (W i)).2=0
theorem sL{X Y:Int}{S:Nat->List Int}{L:Nat->List Ent}{z:LZ}(h:Un X Y S L z):fC X Y S (Ck Y z) z:=by
 have hyes:∀ i t,z.T i=some t->Am (Ck Y z i)=(t.raw.set 1 t.en,0)/\B0 (t.raw.set 1 t.en)/\nth t.raw 0≠0:=fun i t ht=>by
  obtain⟨h1,h2⟩:=h.w.ix i t ht;rw[Gy z h1 h2];exact Sj h.w.inv ht
 have hno:∀ i:Nat,1<=i->(i:Int)<=Y->z.T i=none->Am (Ck Y z i)=(zl 18,0):=fun i h1 h2 ht=>by
  rw[Gy z h1 h2];unfold Pj;rw[ht];exact Yt
 refine⟨fun j hj=>Fw z (Wx hj),fun i t ht=>?_,fun i h1 h2 ht=>?_,fun i h1 h2=>?_⟩
 ·obtain⟨a,b,c⟩:=hyes i t ht;exact⟨by rw[oI _ (h.w.ix i t ht).1,a],c,b⟩
 ·rw[oI _ h1,hno i h1 h2 ht]
 ·cases ht:z.T i with
  |none=>rw[hno i h1 h2 ht]
  |some t=>rw[(hyes i t ht).1]
theorem rT{X Y:Int}{S W:Nat->List Int}{z:LZ}(h:fC X Y S W z){i:Nat}{t:TI}(ht:z.T i=some t):nth (wI W i) 0=nth t.raw 0/\nth (wI W i) 2=nth t.raw 2:=by
 rw[(h.yes i t ht).1];exact⟨C0 _ _ (by decide),C0 _ _ (by decide)⟩
theorem tL{X Y:Int}(hY:0<=Y){S W:Nat->List Int}{L:Nat->List Ent}{z:LZ}(h:Un X Y S L z)(ho:fC X Y S W z){i:Nat}{t:TI}(ht:z.T i=some t):
  Dq (Aq (nth (wI W i) 2)) W (wI W i)=psT z.st.S t/\Ic (Aq (nth (wI W i) 2)) W (wI W i)/\(∀ k:Nat,k<1068->t.bk k=H9 (D6 W (wI W i) k))/\Gh (Aq (nth t.raw 2)) W t.raw=tbT z.st.S t:=by
 obtain⟨e0,e2⟩:=rT ho ht;obtain⟨a,b,c,d⟩:=Wv (Aq (nth t.raw 2)) z.st.S W t.raw (fun q hq=>by
  have hd:=((h.w.pz.ok i t ht).1 q (Ki _ _ _ q hq)).1;exact ho.d _ (by rw[(B5 hY hd).1];exact hd))
 rw[e2,(ho.yes i t ht).1,Vi,gU];refine⟨a,c.2 (h.w.pz.sh i t ht),fun k hk=>?_,b⟩;rw[h.w.pz.bk i t ht k (Int.natCast_nonneg _) (by omega),X4, <-Iw (Aq (nth t.raw 2)) W (h.w.inv.snd i t ht).2.1 k hk,d]
theorem Jg{N:Nat}{S I:Nat->List Int}{sort:Nat->Bool}{x:Int}:x∈Bv N S I sort↔∃ i:Nat,i<N/\x=i/\S i≠I i/\sort i=true:=by
 unfold Bv;simp only[List.mem_map,List.mem_filter,List.mem_range,Bool.and_eq_true,decide_eq_true_eq];constructor
 ·rintro ⟨i,⟨h1,h2,h3⟩,rfl⟩;exact⟨i,h1,rfl,h2,h3⟩
 ·rintro ⟨i,h1,rfl,h2,h3⟩;exact⟨i,⟨h1,h2,h3⟩,rfl⟩
theorem Jr(N:Nat)(S I:Nat->List Int)(sort:Nat->Bool):(Bv N S I sort).Nodup:=by
 unfold Bv;refine List.Pairwise.map _ (R:=fun a b:Nat=>a≠b) (fun a b h=>by omega) ?_;exact List.Pairwise.filter _ List.nodup_range
def cC(N:Nat)(Y:Int)(S I:Nat->List Int)(fm:Int->Bool):List Int:=Bv N S I (fun i=> !decide ((i:Int)<=Y)&&fm i)
def cD(N:Nat)(Y:Int)(S I:Nat->List Int):List Int:=Bv N S I (fun i=>decide ((i:Int)<=Y))
def jC(N:Nat)(Y:Int)(S I:Nat->List Int)(fm:Int->Bool):List Int:=Bv N S I (fun i=> !decide ((i:Int)<=Y)&& !fm i)
theorem Me(N:Nat)(Y:Int)(S I:Nat->List Int)(fm:Int->Bool):Es N Y S I fm=cC N Y S I fm++cD N Y S I++jC N Y S I fm:=rfl
theorem Lw{N:Nat}{Y:Int}{S I:Nat->List Int}{fm:Int->Bool}{j:Nat}:(j:Int)∈cC N Y S I fm↔j<N/\S j≠I j/\¬ (j:Int)<=Y/\fm j=true:=by
 unfold cC;rw[Jg];constructor
 ·rintro ⟨i,h1,h2,h3,h4⟩;have:j=i:=(by omega);subst this;simp at h4;exact⟨h1,h3,by omega,h4.2⟩
 ·rintro ⟨h1,h2,h3,h4⟩;exact⟨j,h1,rfl,h2,by simpa using ⟨by omega,h4⟩⟩
theorem Lx{N:Nat}{Y:Int}{S I:Nat->List Int}{j:Nat}:(j:Int)∈cD N Y S I↔j<N/\S j≠I j/\(j:Int)<=Y:=by
 unfold cD;rw[Jg];constructor
 ·rintro ⟨i,h1,h2,h3,h4⟩;have:j=i:=(by omega);subst this;simp at h4;exact⟨h1,h3,h4⟩
 ·rintro ⟨h1,h2,h3⟩;exact⟨j,h1,rfl,h2,by simpa using h3⟩
theorem Sy{N:Nat}{Y:Int}{S I:Nat->List Int}{fm:Int->Bool}{j:Nat}:(j:Int)∈jC N Y S I fm↔j<N/\S j≠I j/\¬ (j:Int)<=Y/\fm j=false:=by
 unfold jC;rw[Jg];constructor
 ·rintro ⟨i,h1,h2,h3,h4⟩;have:j=i:=(by omega);subst this;simp at h4;exact⟨h1,h3,by omega,h4.2⟩
 ·rintro ⟨h1,h2,h3,h4⟩;exact⟨j,h1,rfl,h2,by simpa using ⟨by omega,h4⟩⟩
theorem Kk{N:Nat}{Y:Int}{S I:Nat->List Int}{fm:Int->Bool}{j:Nat}:(j:Int)∈Es N Y S I fm↔j<N/\S j≠I j:=by
 rw[Me,List.mem_append,List.mem_append,Lw,Lx,Sy];constructor
 ·rintro ((⟨a,b,-⟩|⟨a,b,-⟩)|⟨a,b,-⟩)<;>exact⟨a,b⟩
 ·rintro ⟨a,b⟩;by_cases h:(j:Int)<=Y
  ·exact .inl (.inr ⟨a,b,h⟩)
  ·cases hf:fm j with
   |true=>exact .inl (.inl ⟨a,b,h,rfl⟩)
   |false=>exact .inr ⟨a,b,h,rfl⟩
theorem Xf{N:Nat}{S I:Nat->List Int}{sort:Nat->Bool}{x:Int}(h:x∈Bv N S I sort):∃ j:Nat,x=j:=by
 obtain⟨i,-,h,-⟩:=Jg.1 h;exact⟨i,h⟩
theorem K1{N:Nat}{Y:Int}{S I:Nat->List Int}{fm:Int->Bool}{x:Int}(h:x∈Es N Y S I fm):∃ j:Nat,x=j:=by
 rw[Me,List.mem_append,List.mem_append]at h;rcases h with (h|h)|h<;>exact Xf h
theorem K2(N:Nat)(Y:Int)(S I:Nat->List Int)(fm:Int->Bool):(Es N Y S I fm).Nodup:=by
 rw[Me,List.nodup_append,List.nodup_append];refine⟨⟨Jr _ _ _ _,Jr _ _ _ _,fun a ha b hb e=>?_⟩,Jr _ _ _ _,fun a ha b hb e=>?_⟩
 ·subst e;obtain⟨j,rfl⟩:=Xf ha;exact(Lw.1 ha).2.2.1 (Lx.1 hb).2.2
 ·subst e;obtain⟨j,rfl⟩:=Xf hb;rw[List.mem_append]at ha;rcases ha with ha|ha
  ·have h1:=(Lw.1 ha).2.2.2;have h2:=(Sy.1 hb).2.2.2;rw[h1]at h2;cases h2
  ·exact(Sy.1 hb).2.2.1 (Lx.1 ha).2.2
def Ft(S W:Nat->List Int)(P:List Int):Nat->List Int:=fun j=>if (j:Int)∈P then W j else S j
theorem Ln(N:Nat)(W S:Nat->List Int)(P:List Int)(sort:Nat->Bool):Bv N W (Ft S W P) sort=(Bv N W S sort).filter (fun x=>decide (x∉P)):=by
 unfold Bv;rw[List.filter_map,List.filter_filter];congr 1
 apply List.filter_congr
 intro i _;unfold Ft;simp only[Function.comp];by_cases h:(i:Int)∈P
 ·simp[h]
 ·simp[h]
theorem cZ(N:Nat)(Y:Int)(W S:Nat->List Int)(P:List Int)(fm:Int->Bool):Es N Y W (Ft S W P) fm=(Es N Y W S fm).filter (fun x=>decide (x∉P)):=by
 unfold Es;rw[Ln,Ln,Ln,List.filter_append,List.filter_append]
theorem Yj{L:List Int}(h:L.Nodup)(n:Nat):L.filter (fun x=>decide (x∉L.take n))=L.drop n:=by
 conv=>lhs;arg 2;rw[<-List.take_append_drop n L]
 rw[List.filter_append];have h1:(L.take n).filter (fun x=>decide (x∉L.take n))=[]:=by
  rw[List.filter_eq_nil_iff];intro a ha;simpa using ha
 have h2:(L.drop n).filter (fun x=>decide (x∉L.take n))=L.drop n:=by
  rw[List.filter_eq_self];intro a ha;have hd:=h;rw[<-List.take_append_drop n L,List.nodup_append]at hd;simpa using fun hm=>hd.2.2 a hm a ha rfl
 rw[h1,h2,List.nil_append]
theorem Ux{A B C:List Int}{n:Nat}{x:Int}(h:x∈(A++B++C).take n)(hn:n<=A.length+B.length):x∈A++B:=by
 rw[List.take_append_of_le_length (by simp;omega)]at h;exact List.mem_of_mem_take h
theorem M1{A B C:List Int}{n:Nat}{x:Int}(h:x∈A++B)(hn:A.length+B.length<=n):x∈(A++B++C).take n:=by
 rw[List.take_append,List.mem_append];left
 rw[List.take_of_length_le (by simp;omega)];exact h
theorem pM{X Y:Int}{N:Nat}(hY:1<=Y)(hN:X=N){S:Nat->List Int}(hS:∀ j,j<N->(S j).length=128/\A4 (S j))(hs:Bw (S 1)=true)(hSY:Y<N)(n:Nat):
  let W:=Ck Y (Bh X Y S)
  let L:=Es N Y W S (Bh X Y S).st.fm
  let z':=Bh X Y (Ft S W (L.take n))
  (∀ j,Ck Y z' j=W j)/\Es N Y (Ck Y z') (Ft S W (L.take n)) z'.st.fm=L.drop n/\(∀ i,(z'.T i).isSome=((Bh X Y S).T i).isSome)/\z'.st.cl=(Bh X Y S).st.cl/\Ft S W (L.take n) 0=S 0/\(Fb S->Fb (Ft S W (L.take n)))/\L.length<=N:=by
 intro W L z'
 have hA:∀ j:Nat,isD X Y j=true->(S j).length=128/\A4 (S j):=fun j hj=>hS j (by
  unfold isD at hj;have:=of_decide_eq_true hj;omega)
 obtain⟨-,hI,-⟩:=Oo (by omega) hA hs;have hdat:∀ j:Nat,j<N->¬ (j:Int)<=Y->isD X Y j=true:=fun j h1 h2=>by
  unfold isD;exact decide_eq_true (by omega)
 have h0:W 0=S 0:=by
  have h1:W 0=(Bh X Y S).st.S 0:=Fw _ (by omega);rw[h1];refine hI.si.un 0 ?_;cases hb:(Cs (Bh X Y S).st).cl ((0:Nat):Int)with
  |false=>rfl
  |true=>
   have:=hI.si.cd _ hb;unfold isD at this;have:=of_decide_eq_true this;omega
 have hfmD:∀ j:Nat,(Bh X Y S).st.fm j=true->isD X Y j=true:=fun j hj=>hI.si.cd _ (hI.si.fc j hj)
 have hlt:∀ j:Nat,(j:Int)∈L.take n->j<N/\W j≠S j:=fun j hj=>Kk.1 (List.mem_of_mem_take hj)
 have hR:RZ X Y (Ft S W (L.take n)) W ((cC N Y W S (Bh X Y S).st.fm).length+(cD N Y W S).length<n) (Bh X Y S) z':=by
  refine jR hY _ hA hs (fun j=>?_) (fun ha i h1 h2=>?_) (fun ha j hj=>?_) (fun hna j hj=>?_)
  ·unfold Ft;split
   ·exact .inr rfl
   ·exact .inl rfl
  ·show(if (i:Int)∈L.take n then W i else S i)=W i
   split
   ·rfl
   ·rename_i hm
    false_or_by_contra
    rename_i hne
    exact hm (M1 (A:=cC N Y W S (Bh X Y S).st.fm) (B:=cD N Y W S) (C:=jC N Y W S (Bh X Y S).st.fm) (List.mem_append.2 (.inr (Lx.2 ⟨by omega,fun e=>hne e.symm,h2⟩))) (by omega))
  ·show(if (j:Int)∈L.take n then W j else S j)=W j
   split
   ·rfl
   ·rename_i hm
    false_or_by_contra
    rename_i hne
    have hd:=hfmD j hj;have hj2:¬ (j:Int)<=Y/\j<N:=by
     unfold isD at hd;have:=of_decide_eq_true hd;omega
    exact hm (M1 (A:=cC N Y W S (Bh X Y S).st.fm) (B:=cD N Y W S) (C:=jC N Y W S (Bh X Y S).st.fm) (List.mem_append.2 (.inl (Lw.2 ⟨hj2.2,fun e=>hne e.symm,hj2.1,hj⟩))) (by omega))
  ·show P7 (if (j:Int)∈L.take n then W j else S j) (S j)
   split
   ·rename_i hm
    have h1:=Ux (A:=cC N Y W S (Bh X Y S).st.fm) (B:=cD N Y W S) (C:=jC N Y W S (Bh X Y S).st.fm) hm (by omega);have hnY:¬ (j:Int)<=Y:=by
     unfold isD at hj;have:=of_decide_eq_true hj;omega
    rw[List.mem_append]at h1;rcases h1 with h1|h1
    ·have h2:=(Lw.1 h1).2.2.2;have h3:W j=(Bh X Y S).st.S j:=Fw _ (Wx hj);rw[h3];exact hI.si.sub j h2
    ·exact absurd (Lx.1 h1).2.2 hnY
   ·exact fun _=> .inl rfl
 obtain⟨a,b,c,d⟩:=oE hI hR;have e:Ck Y z'=W:=funext a;refine⟨a,?_,d,b,?_,fun hr=>?_,?_⟩
 ·rw[e,c,cZ];exact Yj (K2 _ _ _ _ _) n
 ·unfold Ft;split
  ·exact h0
  ·rfl
 ·obtain⟨i1,-,i3⟩:=Oo (by omega) hA hs;obtain⟨te,hte,-⟩:=i3.t 1 ⟨(Aj X Y (Am (S 1)).1 (Cf S).st).1,1,(Aj X Y (Am (S 1)).1 (Cf S).st).2.bk⟩ (show A2 (fun _=>none) 1 _ 1=_ from Cg _ _ _)
  have h2:Two X Y S (Ft S W (L.take n)) W (Bh X Y S) False:=⟨by omega,fun i h1 h2=>⟨by
   have h3:=Gy (Bh X Y S) h1 h2;rw[<-h3];unfold Ft;split
   ·exact .inr rfl
   ·exact .inl rfl,fun h=>h.elim⟩,hI⟩
  obtain⟨x1,x2⟩:=eG h2 (Nat.le_refl 1) (by omega) hs hte;exact⟨x1,x2.kind.trans hr.2⟩
 ·have hl:=(List.Nodup.length_le_of_subset (l₂:=(List.range N).map (fun(i:Nat)=>(i:Int))) (K2 N Y W S (Bh X Y S).st.fm) (fun x hx=>by
   obtain⟨j,rfl⟩:=K1 hx;exact List.mem_map.2 ⟨j,List.mem_range.2 (Kk.1 hx).1,rfl⟩))
  simpa using hl
theorem lW{N:Nat}{S:Nat->List Int}(h:B6 N S≠0):B6 N S=120\/B6 N S=121:=by
 unfold B6 at h ⊢;split
 ·exact .inl rfl
 ·split
  ·exact .inl rfl
  ·split
   ·rename_i h1 h2 h3
    rw[if_neg h1,if_neg h2,if_pos h3]at h;exact absurd rfl h
   ·exact .inr rfl
theorem Mk(n:Nat)(s:Int->Bool):(C6 n s).length<=n:=by
 unfold C6;simp only[List.length_map];exact Nat.le_trans (List.length_filter_le _ _) (by simp)
theorem Um{N:Nat}(Y:Int)(W S:Nat->List Int)(fm:Int->Bool):(Es N Y W S fm).length<=N:=by
 have hl:=(List.Nodup.length_le_of_subset (l₂:=(List.range N).map (fun(i:Nat)=>(i:Int))) (K2 N Y W S fm) (fun x hx=>by
  obtain⟨j,rfl⟩:=K1 hx;exact List.mem_map.2 ⟨j,List.mem_range.2 (Kk.1 hx).1,rfl⟩))
 simpa using hl
def Bx(T:TypeId)(sz:Nat)(w:World)(v:Value)(ob:Option Nat)(n:Nat)(f:Nat->Value):Prop:=
 (v= .slice none 0 0/\ob=none/\n=0)\/∃ g off c cs,v= .slice (some ⟨g,off,none⟩) n c/\ob=some g/\hat w g=some (.cells cs T)/\off+n*sz<=cs.size/\off+c*sz<=cs.size/\∀ k,k<n*sz->cs[off+k]? =some (f k)
theorem Bx.lt{T:TypeId}{sz:Nat}{w:World}{v:Value}{ob:Option Nat}{n:Nat}{f:Nat->Value}(h:Bx T sz w v ob n f):∀ g,ob=some g->g<w.heap.size:=by
 rintro g rfl;rcases h with ⟨-,h,-⟩|⟨g',off,c,cs,-,h,h2,-⟩
 ·cases h
 ·cases h;exact Aa h2
theorem Bx.fr{T:TypeId}{sz:Nat}{w w':World}{v:Value}{ob:Option Nat}{n:Nat}{f:Nat->Value}{ex:List Nat}(h:Bx T sz w v ob n f)(hf:Fr ex w w')(hn:∀ g,ob=some g->g∉ex):Bx T sz w' v ob n f:=by
 rcases h with h|⟨g,off,c,cs,h1,h2,h3,h4⟩
 ·exact .inl h
 ·exact .inr ⟨g,off,c,cs,h1,h2,(hf.block _ (Aa h3) (hn g h2)).trans h3,h4⟩
theorem Bx.slice{T:TypeId}{sz:Nat}{w:World}{v:Value}{ob:Option Nat}{n:Nat}{f:Nat->Value}(h:Bx T sz w v ob n f):∃ a c,v= .slice a n c:=by
 rcases h with ⟨rfl,-,rfl⟩|⟨g,off,c,cs,rfl,-⟩
 ·exact⟨none,0,rfl⟩
 ·exact⟨_,_,rfl⟩
theorem Bx.congr{T:TypeId}{sz:Nat}{w:World}{v:Value}{ob:Option Nat}{n:Nat}{f f':Nat->Value}(h:Bx T sz w v ob n f)(he:∀ k,k<n*sz->f k=f' k):Bx T sz w v ob n f':=by
 rcases h with h|⟨g,off,c,cs,h1,h2,h3,h4,h5,h6⟩
 ·exact .inl h
 ·exact .inr ⟨g,off,c,cs,h1,h2,h3,h4,h5,fun k hk=>by rw[<-he k hk];exact h6 k hk⟩
theorem Bx.first{T:TypeId}{sz:Nat}{w:World}{g off n c:Nat}{f:Nat->Value}(ob:Option Nat)(h:Bx T sz w (.slice (some ⟨g,off,none⟩) n c) ob n f){m:Nat}(hm:m<=n):Bx T sz w (.slice (some ⟨g,off,none⟩) m c) ob m f:=by
 rcases h with ⟨h,-⟩|⟨g',off',c',cs,e,h2,h3,h4,h5,h6⟩
 ·cases h
 ·injection e with e1 e2 e3
  injection e1 with e1
  injection e1 with p1 p2
  subst p1 p2 e3;have h7:m*sz<=n*sz:=Nat.mul_le_mul_right _ hm;exact .inr ⟨g,off,c,cs,rfl,h2,h3,by omega,h5,fun k hk=>h6 k (by omega)⟩
def eZ(w w':World)(v v':Value)(ob ob':Option Nat)(n n':Nat):Prop:=
 (∃ a c,v'= .slice a n' c/\n'<=c)/\((∃ a c,v= .slice a n c/\v'= .slice a n' c/\ob'=ob/\Fr ob.toList w w')\/∃ g,ob'=some g/\w.heap.size<=g/\Fr [] w w')
theorem eZ.fr{w w':World}{v v':Value}{ob ob':Option Nat}{n n':Nat}(h:eZ w w' v v' ob ob' n n'):Fr ob.toList w w':=by
 rcases h.2 with ⟨a,c,-,-,-,h⟩|⟨g,-,-,h⟩
 ·exact h
 ·exact h.mono (by simp)
theorem eZ.ob{w w':World}{v v':Value}{ob ob':Option Nat}{n n':Nat}(h:eZ w w' v v' ob ob' n n'):ob'=ob\/∃ g,ob'=some g/\w.heap.size<=g:=by
 rcases h.2 with ⟨a,c,-,-,h,-⟩|⟨g,h1,h2,-⟩
 ·exact .inl h
 ·exact .inr ⟨g,h1,h2⟩
def Up(m:Nat)(f f2:Nat->Value):Nat->Value:=fun k=>if k<m then f k else f2 (k-m)
theorem G2{P:Program}{ST T:TypeId}{sz B:Nat}(ht:P.underlying ST=some (.slice T)){inf:TypeInfo}{z:Value}(hi:P.info? T=some inf)(hz:inf.zero=some z)(hzs:z.cells.size=sz)(his:inf.size=sz)(hib:inf.bytes=B)
  {w:World} {v u:Value} {ob:Option Nat} {n m:Nat} {f f2:Nat->Value} (h:Bx T sz w v ob n f) {news:List Value} (hs:Src P sz ST u m news w) (hnw:∀ k,k<m*sz->news[k]? =some (f2 k)) (hB:0<B) (hn:(n+m)*B<=140737488355328) (ty:TypeId):
  ∃ v' w' ob',(Builtin.append_ #[ST,ST] ty #[v,u]).run P w= .ok v' w'/\Bx T sz w' v' ob' (n+m) (Up (n*sz) f f2)/\eZ w w' v v' ob ob' n (n+m):=by
 have hs':Src P inf.size ST u m news w:=by rw[his];exact hs
 have hnl:news.length=m*sz:=hs.newsLen;by_cases hroom:∃ g off c cs,v= .slice (some ⟨g,off,none⟩) n c/\ob=some g/\hat w g=some (.cells cs T)/\n+m<=c/\off+n*sz<=cs.size/\off+c*sz<=cs.size/\∀ k,k<n*sz->cs[off+k]? =some (f k)
 ·obtain⟨g,off,c,cs,rfl,rfl,hg,hc,hnsz,hcsz,hf⟩:=hroom;have hle:(n+m)*sz<=c*sz:=Nat.mul_le_mul_right _ hc;rw[Nat.add_mul]at hle
  have hr:=run_append_room_src (P:=P) w ST ST ty T inf ht hi g off n c u m news hs' hc
   (fun j hj=>by
    rw[his,Bs hg,Array.getElem?_eq_getElem (by omega)];rfl)
   (fun j hj=>Kg hg _)
  rw[his]at hr;obtain⟨cs',a1,a2,a3,a4⟩:=If g T (0,0) news (off+n*sz) w cs hg;refine⟨_,_,some g,hr,.inr ⟨g,off,c,cs',rfl,rfl,a1,by rw[a2,Nat.add_mul];omega,by rw[a2];exact hcsz,fun k hk=>?_⟩,⟨⟨_,_,rfl,hc⟩,.inl ⟨_,_,rfl,rfl,rfl,(Ja g _ _ _).mono (by simp)⟩⟩⟩;unfold Up;rw[Nat.add_mul]at hk;by_cases hk1:k<n*sz
  ·rw[if_pos hk1,a3 _ (by omega)];exact hf k hk1
  ·rw[if_neg hk1];have:=a4 (k-n*sz) (f2 (k-n*sz)) (hnw _ (by omega)) (by omega);rw[show off+n*sz+(k-n*sz)=off+k by omega]at this;exact this
 ·by_cases h0:v= .slice none 0 0/\ob=none/\n=0/\m=0
  ·obtain⟨rfl,rfl,rfl,rfl⟩:=h0;have hnil:news=[]:=List.eq_nil_of_length_eq_zero (by simpa using hnl);subst hnil;refine⟨.slice none 0 0,w,none,?_,.inl ⟨rfl,rfl,rfl⟩,⟨none,0,rfl,Nat.le_refl _⟩,.inl ⟨none,0,rfl,rfl,rfl,Fr.refl _ _⟩⟩;have hc0:(Builtin.firstCells inf.size 0 u).run P w= .ok #[] w:=hs'.cells;rcases hs'.kind with ⟨e',hk⟩|hk<;>simp[Builtin.append_,run_underlying ht,run_underlying hk,sizeOf,typeInfo,hi,hs'.len,hc0]
  ·have hpos:0<sz\/sz=0:=(by omega);obtain⟨base,cp,hv,hcp,olds,hol,hold,hof⟩:∃ base cp,v= .slice base n cp/\cp<n+m/\∃ olds:List Value,olds.length=n*sz/\(Builtin.firstCells inf.size n (.slice base n cp)).run P w.drew= .ok olds.toArray w.drew/\∀ k,k<n*sz->olds[k]? =some (f k):=by
    rcases h with ⟨rfl,rfl,rfl⟩|⟨g,off,c,cs,rfl,rfl,hg,hnsz,hcsz,hf⟩
    ·refine⟨none,0,rfl,?_,[],by simp,run_firstCells_none w.drew _ 0 0 0,fun k hk=>by simp at hk⟩;by_cases hm0:m=0
     ·exact absurd ⟨rfl,rfl,rfl,hm0⟩ h0
     ·omega
    ·refine⟨some ⟨g,off,none⟩,c,rfl,?_,(cs.extract off (off+n*sz)).toList,by simp;omega,?_,fun k hk=>?_⟩
     ·exact Nat.lt_of_not_le fun hle=>hroom ⟨g,off,c,cs,rfl,rfl,hg,hle,hnsz,hcsz,hf⟩
     ·refine run_firstCells_some w.drew _ n ⟨g,off,none⟩ n c _ (by rw[his];simp;omega) fun j x hj=>?_
      rw[C4];show w.cell? _=_
      rw[Bs hg];have hjl:j<n*sz:=by
       have:=(List.getElem?_eq_some_iff.1 hj).1;simp at this;omega
      rw[Array.getElem?_toList,Array.getElem?_extract,if_pos (by omega)]at hj;exact hj
     ·rw[Array.getElem?_toList,Array.getElem?_extract,if_pos (by omega)];exact hf k hk
   subst hv;have hle1:(n+m)*1<=(n+m)*B:=Nat.mul_le_mul_left _ hB;have hr:=run_append_grow_src (P:=P) w ST ST ty T inf z ht hi hz base n cp olds hold u m news hs' hcp (by omega) (growslice_fits hcp (by rw[hib];exact hn));have hge:=grownCap_ge w (n+m) cp T;have hle2:(n+m)*sz<=grownCap w (n+m) cp T*sz:=Nat.mul_le_mul_right _ hge;rw[Nat.add_mul]at hle2;have hsz:((olds++news).toArray++Builtin.zeroCells z.cells (grownCap w (n+m) cp T-(n+m))).size=grownCap w (n+m) cp T*sz:=by
    rw[Array.size_append,size_zeroCells,hzs,List.size_toArray,List.length_append,hol,hnl,Nat.sub_mul,Nat.add_mul];omega
   refine⟨_,_,some w.heap.size,hr,.inr ⟨w.heap.size,0,grownCap w (n+m) cp T,_,rfl,rfl,Bc w.drew _ _ rfl,?_,?_,fun k hk=>?_⟩,⟨⟨_,_,rfl,hge⟩,.inr ⟨_,rfl,Nat.le_refl _,?_⟩⟩⟩
   ·rw[hsz,Nat.add_mul];omega
   ·rw[hsz];omega
   ·rw[Nat.add_mul]at hk;unfold Up;rw[Nat.zero_add,Array.getElem?_append_left (by simp;omega),List.getElem?_toArray];by_cases hk1:k<n*sz
    ·rw[if_pos hk1,List.getElem?_append_left (by omega)];exact hof k hk1
    ·rw[if_neg hk1,List.getElem?_append_right (by omega),hol];exact hnw _ (by omega)
   ·exact Af (show Below w.heap.size w (w.drew.alloc _)from Below.alloc (show Below w.heap.size w w.drew from⟨rfl,rfl,rfl,Nat.le_refl _,fun _ _=>rfl⟩) (Nat.le_refl _) _) _
theorem Bx.src{P:Program}{ST T:TypeId}{sz:Nat}(ht:P.underlying ST=some (.slice T)){w:World}{v:Value}{ob:Option Nat}{n:Nat}{f:Nat->Value}(h:Bx T sz w v ob n f)(h1:∀ k,k<n*sz->(f k).oneCell'=true):
  ∃ news,Src P sz ST v n news w/\∀ k,k<n*sz->news[k]? =some (f k):=by
 rcases h with ⟨rfl,-,rfl⟩|⟨g,off,c,cs,rfl,-,hg,hnsz,hcsz,hf⟩
 ·exact⟨[],Src.ofNil w ht 0,fun k hk=>by simp at hk⟩
 ·have key:∀ k x,(cs.extract off (off+n*sz)).toList[k]? =some x->k<n*sz/\cs[off+k]? =some x:=fun k x hk=>by
   have hkl:k<n*sz:=by
    have:=(List.getElem?_eq_some_iff.1 hk).1;simp at this;omega
   rw[Array.getElem?_toList,Array.getElem?_extract,if_pos (by omega)]at hk;exact⟨hkl,hk⟩
  refine⟨(cs.extract off (off+n*sz)).toList,Src.ofSlice w ht ⟨g,off,none⟩ n c _ (by simp;omega) (fun j x hj=>?_) (fun x hx=>?_),fun k hk=>?_⟩
  ·rw[C4,Bs hg];exact(key j x hj).2
  ·obtain⟨j,hj⟩:=List.getElem?_of_mem hx;obtain⟨hjl,hj2⟩:=key j x hj;rw[hf j hjl]at hj2;rw[<-Option.some.inj hj2];exact h1 j hjl
  ·rw[Array.getElem?_toList,Array.getElem?_extract,if_pos (by omega)];exact hf k hk
def Fy(S:Nat->List Int)(k:Nat):Value:= .int .u8 (nth (S (k/128)) (k%128))
theorem Fg{cs:Array Value}{o:Nat}{s:List Int}(hs:s.length=128)(hsz:o+128<=cs.size):cs.extract o (o+128)=IV .u8 s↔∀ k,k<128->cs[o+k]? =some (.int .u8 (nth s k)):=by
 constructor
 ·intro h k hk;have h2:(cs.extract o (o+128))[k]? =(IV .u8 s)[k]? :=(by rw[h]);rw[Array.getElem?_extract,if_pos (by omega),Bl,An (by omega)]at h2;exact h2
 ·intro h;apply Array.ext_getElem?
  intro k;rw[Array.getElem?_extract,Bl];by_cases hk:k<128
  ·rw[if_pos (by omega),h k hk,An (by omega)];rfl
  ·rw[if_neg (by omega),List.getElem?_eq_none (by omega)];rfl
theorem It{cs:Array Value}{o N:Nat}{S:Nat->List Int}(hs:∀ i,i<N->(S i).length=128)(hsz:o+N*128<=cs.size):
  (∀ i,i<N->cs.extract (o+i*128) (o+i*128+128)=IV .u8 (S i))↔∀ k,k<N*128->cs[o+k]? =some (Fy S k):=by
 constructor
 ·intro h k hk;have:=(Fg (hs (k/128) (by omega)) (by omega)).1 (h (k/128) (by omega)) (k%128) (by omega);rw[show o+k/128*128+k%128=o+k by omega]at this;exact this
 ·intro h i hi;refine(Fg (hs i hi) (by omega)).2 fun k hk=>?_
  have:=h (i*128+k) (by omega);unfold Fy at this;rw[show(i*128+k)/128=i by omega,show(i*128+k)%128=k by omega, <-Nat.add_assoc]at this;exact this
structure Fs (w:World) (v:Value) (ob:Option Nat) (N:Nat) (S:Nat->List Int):Prop where
 g:Bx 47 128 w v ob N (Fy S)
 len:∀ j,j<N->(S j).length=128/\A4 (S j)
theorem Fs.none'(w:World)(S:Nat->List Int):Fs w (.slice none 0 0) none 0 S:=⟨.inl ⟨rfl,rfl,rfl⟩,fun j h=>by omega⟩
theorem Fs.fr{w w':World}{v:Value}{ob:Option Nat}{N:Nat}{S:Nat->List Int}{ex:List Nat}(h:Fs w v ob N S)(hf:Fr ex w w')(hn:∀ g,ob=some g->g∉ex):Fs w' v ob N S:=⟨h.g.fr hf hn,h.len⟩
theorem Fs.congr{w:World}{v:Value}{ob:Option Nat}{N:Nat}{S S':Nat->List Int}(h:Fs w v ob N S)(he:∀ j,j<N->S j=S' j):Fs w v ob N S':=
 ⟨h.g.congr fun k hk=>by unfold Fy;rw[he _ (by omega)],fun j hj=>by rw[<-he j hj];exact h.len j hj⟩
theorem Fs.of{w:World}{g N c:Nat}{S:Nat->List Int}(h:B8 w g N c S):Fs w (.slice (some ⟨g,0,none⟩) N c) (some g) N S:=by
 obtain⟨cs,h1,h2,h3⟩:=h;refine⟨.inr ⟨g,0,c,cs,rfl,rfl,h1,by omega,by omega,(It (o:=0) (fun i hi=>(h3 i hi).1) (by omega)).1 fun i hi=>?_⟩,fun j hj=>⟨(h3 j hj).1,(h3 j hj).2.1⟩⟩;rw[Nat.zero_add];exact(h3 i hi).2.2
theorem Fs.img{w:World}{v:Value}{ob:Option Nat}{N:Nat}{S:Nat->List Int}(h:Fs w v ob N S):Hk w v N S:=by
 obtain⟨hg,hl⟩:=h;rcases hg with ⟨rfl,-,rfl⟩|⟨g,off,c,cs,rfl,-,h1,h2,h3,h4⟩
 ·exact⟨none,0,rfl,fun h=>by omega⟩
 ·refine⟨_,_,rfl,fun hN=>⟨g,off,rfl,cs,_,_,h1,h2,fun i hi=>⟨(hl i hi).1,(hl i hi).2,?_⟩⟩⟩;exact(It (fun i hi=>(hl i hi).1) h2).2 h4 i hi
theorem Hk.src{w:World}{v:Value}{N:Nat}{S:Nat->List Int}(h:Hk w v N S):∃ news,Src Tryz.prog 128 26 v N news w/\∀ k,k<N*128->news[k]? =some (Fy S k):=by
 have ht:Tryz.prog.underlying 26=some (.slice 47):=Tryz.underlying26;obtain⟨a,c,rfl,h⟩:=h;by_cases hN:N=0
 ·subst hN;refine⟨[],?_,fun k hk=>by omega⟩;cases a with
  |none=>exact Src.ofNil w ht c
  |some a=>exact Src.ofSlice w ht a 0 c [] rfl (fun j u hj=>by simp at hj) (fun u hu=>by simp at hu)
 ·obtain⟨g,off,rfl,cs,t,fr,hg,hsz,hall⟩:=h (by omega);have hc:=(It (fun i hi=>(hall i hi).1) hsz).1 fun i hi=>(hall i hi).2.2
  have key:∀ k x,(cs.extract off (off+N*128)).toList[k]? =some x->k<N*128/\cs[off+k]? =some x:=fun k x hk=>by
   have hkl:k<N*128:=by
    have:=(List.getElem?_eq_some_iff.1 hk).1;simp at this;omega
   rw[Array.getElem?_toList,Array.getElem?_extract,if_pos (by omega)]at hk;exact⟨hkl,hk⟩
  refine⟨(cs.extract off (off+N*128)).toList,Src.ofSlice w ht ⟨g,off,none⟩ N c _ (by simp;omega) (fun j x hj=>?_) (fun x hx=>?_),fun k hk=>?_⟩
  ·rw[C4,Bs hg];exact(key j x hj).2
  ·obtain⟨j,hj⟩:=List.getElem?_of_mem hx;obtain⟨hjl,hj2⟩:=key j x hj;rw[hc j hjl]at hj2;rw[<-Option.some.inj hj2];rfl
  ·rw[Array.getElem?_toList,Array.getElem?_extract,if_pos (by omega)];exact hc k hk
def fH(N:Nat)(S S2:Nat->List Int):Nat->List Int:=fun j=>if j<N then S j else S2 (j-N)
theorem fJ(N:Nat)(S S2:Nat->List Int):Up (N*128) (Fy S) (Fy S2)=Fy (fH N S S2):=by
 funext k
 unfold Up Fy fH;by_cases h:k<N*128
 ·rw[if_pos h,if_pos (by omega)]
 ·rw[if_neg h,if_neg (by omega),show(k-N*128)/128=k/128-N by omega,show(k-N*128)%128=k%128 by omega]
theorem Xh{w:World}{v u:Value}{ob:Option Nat}{N M:Nat}{S S2:Nat->List Int}(h:Fs w v ob N S)(hu:Hk w u M S2)(hn:(N+M)*128<=140737488355328)(ty:TypeId):
  ∃ v' w' ob',(Builtin.append_ #[26,26] ty #[v,u]).run Tryz.prog w= .ok v' w'/\Fs w' v' ob' (N+M) (fH N S S2)/\eZ w w' v v' ob ob' N (N+M):=by
 obtain⟨inf,z,hi,hz,hzs,his,hib⟩:=Lr;obtain⟨news,hs,hnw⟩:=hu.src;obtain⟨v',w',ob',h1,h2,h3⟩:=G2 (P:=Tryz.prog) (ST:=26) Tryz.underlying26 hi hz hzs his hib h.g hs hnw (by omega) hn ty;rw[fJ]at h2;refine⟨v',w',ob',h1,⟨h2,fun j hj=>?_⟩,h3⟩;unfold fH;by_cases hj1:j<N
 ·rw[if_pos hj1];exact h.len j hj1
 ·rw[if_neg hj1];exact hu.len _ (by omega)
theorem Uf{old cs:Array Value}{off:Nat}(h:off+cs.size<=old.size)(j:Nat):(Ap old off cs)[j]? =if off<=j/\j<off+cs.size then cs[j-off]? else old[j]? :=by
 rw[<-Array.getElem?_toList,Ma];by_cases h1:j<off
 ·rw[if_neg (by omega),List.getElem?_append_left (by simp;omega),List.getElem?_take,if_pos h1,Array.getElem?_toList]
 ·rw[List.getElem?_append_right (by simp;omega)];have hl:(old.toList.take off).length=off:=(by simp;omega);rw[hl];by_cases h2:j<off+cs.size
  ·rw[if_pos (by omega),List.getElem?_append_left (by simp;omega),Array.getElem?_toList]
  ·rw[if_neg (by omega),List.getElem?_append_right (by simp;omega),List.getElem?_drop,Array.length_toList,Array.getElem?_toList];congr 1;omega
theorem Fs.put{w:World}{v:Value}{ob:Option Nat}{N:Nat}{S:Nat->List Int}(h:Fs w v ob N S){k:Nat}(hk:k<N){s:List Int}(hs:s.length=128)(hb:A4 s):
  ∃ g off c cs,v= .slice (some ⟨g,off,none⟩) N c/\ob=some g/\hat w g=some (.cells cs 47)/\off+N*128<=cs.size/\Fs (w.setRow g (Ap cs (off+k*128) (IV .u8 s))) v ob N (Ay S k s):=by
 obtain⟨hg,hl⟩:=h;rcases hg with ⟨-,-,h⟩|⟨g,off,c,cs,rfl,h0,h1,h2,h3,h4⟩
 ·omega
 ·have hsz:(IV .u8 s).size=128:=(by simp[hs]);have hss:=Hs cs (off+k*128) (IV .u8 s) (by rw[hsz];omega);refine⟨g,off,c,cs,rfl,h0,h1,h2,⟨.inr ⟨g,off,c,_,rfl,h0,Ar _ _ _ _ _ _ h1,by rw[hss];exact h2,by rw[hss];exact h3,fun j hj=>?_⟩,fun j hj=>?_⟩⟩
  ·rw[Uf (by rw[hsz];omega),hsz];unfold Fy Ay;by_cases hjk:j/128=k
   ·rw[if_pos hjk,if_pos (by omega),Bl,An (by omega),show off+j-(off+k*128)=j%128 by omega];rfl
   ·rw[if_neg hjk,if_neg (by omega)];exact h4 j hj
  ·unfold Ay;split
   ·exact⟨hs,hb⟩
   ·exact hl j hj
structure RP where
 (v0 v1 v2 v3:Value)
 (o0 o1 o2 o3:Option Nat)
 (N:Nat)
 (S:Nat->List Int)
 (xs ys zs:List Int)
def RP.os(R:RP):List Nat:=R.o0.toList++R.o1.toList++R.o2.toList++R.o3.toList
def RP.val(R:RP):Value:= .agg #[R.v0,R.v1,R.v2,R.v3]
structure Hl (w:World) (R:RP):Prop where
 r0:Fs w R.v0 R.o0 R.N R.S
 r1:Bg w R.v1 R.o1 R.xs
 r2:Bg w R.v2 R.o2 R.ys
 r3:Bg w R.v3 R.o3 R.zs
 d12:∀ g,R.o1=some g->R.o2≠some g
 d13:∀ g,R.o1=some g->R.o3≠some g
 d23:∀ g,R.o2=some g->R.o3≠some g
 n0:R.N<=4900
 n1:R.xs.length<=4900
 n2:R.ys.length<=4900
 n3:R.zs.length<=4900
theorem RP.mem_os{R:RP}{g:Nat}:g∈R.os↔R.o0=some g\/R.o1=some g\/R.o2=some g\/R.o3=some g:=by
 unfold RP.os;simp[List.mem_append,Option.mem_toList,or_assoc]
theorem Hl.fr{w w':World}{R:RP}{ex:List Nat}(h:Hl w R)(hf:Fr ex w w')(hn:∀ g∈R.os,g∉ex):Hl w' R:=
 ⟨h.r0.fr hf (fun g hg=>hn g (RP.mem_os.2 (.inl hg))),h.r1.fr hf (fun g hg=>hn g (RP.mem_os.2 (.inr (.inl hg)))),h.r2.fr hf (fun g hg=>hn g (RP.mem_os.2 (.inr (.inr (.inl hg))))),h.r3.fr hf (fun g hg=>hn g (RP.mem_os.2 (.inr (.inr (.inr hg))))),h.d12,h.d13,h.d23,h.n0,h.n1,h.n2,h.n3⟩
theorem Hl.lt{w:World}{R:RP}(h:Hl w R):∀ g∈R.os,g<w.heap.size:=fun g hg=>by
 rcases RP.mem_os.1 hg with e|e|e|e
 ·exact h.r0.g.lt g e
 ·exact h.r1.lt g e
 ·exact h.r2.lt g e
 ·exact h.r3.lt g e
theorem Hl.repV{w:World}{R:RP}(h:Hl w R):Lg w R.v0 R.v1 R.v2 R.v3 R.o1 R.o2 R.o3 R.N R.S R.xs R.ys R.zs:=
 ⟨h.r0.img,h.r1,h.r2,h.r3,by have:=h.n0;omega,by have:=h.n1;omega,by have:=h.n2;omega,by have:=h.n3;omega⟩
noncomputable def On(N:Nat)(S:Nat->List Int):Nat:=if B6 N S=0 then N else 0
noncomputable def C3(N:Nat)(S:Nat->List Int):Nat->List Int:=Ck (A1 (S 0)).2.1 (Bh N (A1 (S 0)).2.1 S)
noncomputable def Cc(N:Nat)(S:Nat->List Int):List Int:=if B6 N S=0 then Es N (A1 (S 0)).2.1 (C3 N S) S (Bh N (A1 (S 0)).2.1 S).st.fm else []
noncomputable def Ho(N:Nat)(S:Nat->List Int):List Int:=if B6 N S=0 then Dz (fun p=>((Bh N (A1 (S 0)).2.1 S).T p.toNat).isSome)else []
noncomputable def Hn(N:Nat)(S:Nat->List Int):List Int:=if B6 N S=0 then Dz (Bh N (A1 (S 0)).2.1 S).st.cl else []
structure RP.Look (R:RP) (N:Nat) (S:Nat->List Int):Prop where
 n:R.N=On N S
 s:R.S=C3 N S
 x:R.xs=Cc N S
 y:R.ys=Ho N S
 z:R.zs=Hn N S
def uQ(N:Nat)(S:Nat->List Int)(w:World)(e:Ending)(w':World):Prop:=
 Below w.heap.size w w'/\∃ R:RP,e= .returned (.tuple #[R.val,.int .i64 (B6 N S)])/\Hl w' R/\R.Look N S/\∀ g∈R.os,w.heap.size<=g
theorem lX{v:Value}{N:Nat}{S:Nat->List Int}{w:World}(h:Hk w v N S):
  Calls Tryz.prog 35 #[v] w (uQ N S w):=by
 refine(iF h).mono ?_;rintro e w' ⟨hb,⟨he,gw,cw,v1,v2,v3,o1,o2,o3,rfl,k1,k2,k3,k4,k5,k6,k7,k8⟩|⟨he,rfl⟩⟩
 ·obtain⟨h8,hN9,-⟩:=So he;have hwl:=Um (N:=N) (A1 (S 0)).2.1 (Ck (A1 (S 0)).2.1 (Bh N (A1 (S 0)).2.1 S)) S (Bh N (A1 (S 0)).2.1 S).st.fm;have hkt:=Mk 4096 (fun p=>((Bh N (A1 (S 0)).2.1 S).T p.toNat).isSome);have hkc:=Mk 4096 (Bh N (A1 (S 0)).2.1 S).st.cl;change (Dz _).length<=_ at hkt hkc;refine⟨hb,⟨.slice (some ⟨gw,0,none⟩) N cw,v1,v2,v3,some gw,o1,o2,o3,N,C3 N S,Cc N S,Ho N S,Hn N S⟩,?_,⟨Fs.of k1,?_,?_,?_,?_,?_,?_,?_,?_,?_,?_⟩,⟨?_,rfl,rfl,rfl,rfl⟩,?_⟩
  ·rw[he];rfl
  ·show Bg _ _ _ (Cc N S);unfold Cc C3;rw[if_pos he];exact k2
  ·show Bg _ _ _ (Ho N S);unfold Ho;rw[if_pos he];exact k3
  ·show Bg _ _ _ (Hn N S);unfold Hn;rw[if_pos he];exact k4
  ·intro g h1 h2;have:=List.pairwise_cons.1 k8;exact this.1 o2 (by simp) g h1 h2
  ·intro g h1 h2;have:=List.pairwise_cons.1 k8;exact this.1 o3 (by simp) g h1 h2
  ·intro g h1 h2;have:=List.pairwise_cons.1 (List.pairwise_cons.1 k8).2;exact this.1 o3 (by simp) g h1 h2
  ·show N<=4900;omega
  ·show(Cc N S).length<=4900
   unfold Cc C3;rw[if_pos he];omega
  ·show(Ho N S).length<=4900
   unfold Ho;rw[if_pos he];omega
  ·show(Hn N S).length<=4900
   unfold Hn;rw[if_pos he];omega
  ·show N=On N S
   unfold On;rw[if_pos he]
  ·intro g hg;rcases RP.mem_os.1 hg with h0|h1|h1|h1
   ·obtain rfl:=Option.some.inj h0;exact k6
   ·exact Nat.le_trans k6 (Nat.le_of_succ_le (k7 o1 (by simp) g h1))
   ·exact Nat.le_trans k6 (Nat.le_of_succ_le (k7 o2 (by simp) g h1))
   ·exact Nat.le_trans k6 (Nat.le_of_succ_le (k7 o3 (by simp) g h1))
 ·refine⟨hb,⟨.slice none 0 0,.slice none 0 0,.slice none 0 0,.slice none 0 0,none,none,none,none,0,C3 N S,[],[],[]⟩,rfl,⟨Fs.none' _ _,.inl ⟨rfl,rfl,rfl⟩,.inl ⟨rfl,rfl,rfl⟩,.inl ⟨rfl,rfl,rfl⟩,?_,?_,?_,?_,?_,?_,?_⟩,⟨?_,rfl,?_,?_,?_⟩,?_⟩
  ·intro g h;cases h
  ·intro g h;cases h
  ·intro g h;cases h
  ·simp
  ·simp
  ·simp
  ·simp
  ·show 0=On N S;unfold On;rw[if_neg he]
  ·show []=Cc N S;unfold Cc;rw[if_neg he]
  ·show []=Ho N S;unfold Ho;rw[if_neg he]
  ·show []=Hn N S;unfold Hn;rw[if_neg he]
  ·intro g hg;simp[RP.os]at hg
structure DS where
 S:Nat->List Int
 cnt:Int
 off:Bool
 armed:Bool
 left:Int
def dkC(gs N:Nat)(d:DS):Array Value:= #[.slice (some ⟨gs,0,none⟩) N N,.int .i64 d.cnt,.bool d.off,.bool d.armed,.int .i64 d.left]
structure DK (w:World) (gd gs N:Nat) (d:DS):Prop where
 hd:hat w gd=some (.cells (dkC gs N d) 64)
 hs:B8 w gs N N d.S
theorem DK.ne{w:World}{gd gs N:Nat}{d:DS}(h:DK w gd gs N d):gd≠gs:=by
 rintro rfl;obtain⟨cs,h1,-⟩:=h.hs;rw[h.hd]at h1;injection h1 with h1
 injection h1 with _ h1
 revert h1;decide
theorem DK.fr{w w':World}{gd gs N:Nat}{d:DS}{ex:List Nat}(h:DK w gd gs N d)(hf:Fr ex w w')(h1:gd∉ex)(h2:gs∉ex):DK w' gd gs N d:=
 ⟨(hf.block _ (Aa h.hd) h1).trans h.hd,h.hs.same (hf.block _ h.hs.lt h2)⟩
theorem kO{w:World}{gd gs N:Nat}{d:DS}(h:DK w gd gs N d):Calls Tryz.prog 34 #[.pointer (some ⟨gd,0,none⟩)] w fun e w'=>e= .returned (.bool d.off)/\w'=w:=by
 have hd:=h.hd;unfold dkC at hd;have hl:=Aa hd;clear h;go_enter Tryz.func34,Tryz.ntmps34;go_wp2_with fail;go_ret;exact⟨rfl,rfl⟩
theorem N9{w:World}{gd gs N:Nat}{d:DS}(h:DK w gd gs N d):Calls Tryz.prog 15 #[.pointer (some ⟨gd,0,none⟩)] w fun e w'=>e= .returned (.int .i64 d.cnt)/\w'=w:=by
 have hd:=h.hd;unfold dkC at hd;have hl:=Aa hd;clear h;go_enter Tryz.func15,Tryz.ntmps15;go_wp2_with fail;go_ret;exact⟨rfl,rfl⟩
theorem aR{w:World}{gd gs N:Nat}{d:DS}(h:DK w gd gs N d){n:Nat}(hn:n<N)(hN:N<=4096):Calls Tryz.prog 42 #[.pointer (some ⟨gd,0,none⟩),.int .i64 n] w fun e w'=>e= .returned (.int .i64 (if d.off=true then 22 else 0))/\w'=w:=by
 have hd:=h.hd;unfold dkC at hd;have hl:=Aa hd;have hn0:(0:Int)<=(n:Int):=Int.natCast_nonneg _;have d1:decide ((n:Int)<0)=false:=decide_eq_false (by omega);have d2:decide ((N:Int)<=(n:Int))=false:=decide_eq_false (by omega);clear h;cases ho:d.off with
 |true=>
  rw[ho]at hd;go_enter Tryz.func42,Tryz.ntmps42;go_wp2_with fail;go_ret;exact⟨rfl,rfl⟩
 |false=>
  rw[ho]at hd;go_enter Tryz.func42,Tryz.ntmps42;go_wp2_with fail;go_ret;exact⟨rfl,rfl⟩
theorem DK.pow{w:World}{gd gs N:Nat}{d:DS}(h:DK w gd gs N d)(o a:Bool)(l:Int):
  DK (((w.setCell ⟨gd,2,none⟩ (.bool o)).setCell ⟨gd,3,none⟩ (.bool a)).setCell ⟨gd,4,none⟩ (.int .i64 l)) gd gs N {d with off:=o,armed:=a,left:=l}/\Fr [gd] w (((w.setCell ⟨gd,2,none⟩ (.bool o)).setCell ⟨gd,3,none⟩ (.bool a)).setCell ⟨gd,4,none⟩ (.int .i64 l)):=by
 have hf:Fr [gd] w (((w.setCell ⟨gd,2,none⟩ (.bool o)).setCell ⟨gd,3,none⟩ (.bool a)).setCell ⟨gd,4,none⟩ (.int .i64 l)):=((Ai w gd 2 _).trans (Ai _ gd 3 _)).trans (Ai _ gd 4 _);exact⟨⟨Ah _ _ _ _ _ _ _ (Ah _ _ _ _ _ _ _ (Ah _ _ _ _ _ _ _ h.hd)),h.hs.same (hf.block _ h.hs.lt (by simpa using h.ne.symm))⟩,hf⟩
theorem DK.left'{w:World}{gd gs N:Nat}{d:DS}(h:DK w gd gs N d)(l:Int):DK (w.setCell ⟨gd,4,none⟩ (.int .i64 l)) gd gs N {d with left:=l}/\Fr [gd] w (w.setCell ⟨gd,4,none⟩ (.int .i64 l)):=by
 have hf:=Ai w gd 4 (.int .i64 l);exact⟨⟨Ah _ _ _ _ _ _ _ h.hd,h.hs.same (hf.block _ h.hs.lt (by simpa using h.ne.symm))⟩,hf⟩
theorem DK.cnt'{w:World}{gd gs N:Nat}{d:DS}(h:DK w gd gs N d)(l:Int):DK (w.setCell ⟨gd,1,none⟩ (.int .i64 l)) gd gs N {d with cnt:=l}/\Fr [gd] w (w.setCell ⟨gd,1,none⟩ (.int .i64 l)):=by
 have hf:=Ai w gd 1 (.int .i64 l);exact⟨⟨Ah _ _ _ _ _ _ _ h.hd,h.hs.same (hf.block _ h.hs.lt (by simpa using h.ne.symm))⟩,hf⟩
theorem DK.sec{w:World}{gd gs N:Nat}{d:DS}(h:DK w gd gs N d){cs:Array Value}(hcs:hat w gs=some (.cells cs 47)){n:Nat}(hn:n<N){s:List Int}(hl:s.length=128)(hb:A4 s):
  DK (w.setRow gs (Ap cs (n*128) (IV .u8 s))) gd gs N {d with S:=Ay d.S n s}/\Fr [gs] w (w.setRow gs (Ap cs (n*128) (IV .u8 s))):=by
 have hf:=Da w gs (Ap cs (n*128) (IV .u8 s));exact⟨⟨(hf.block _ (Aa h.hd) (by simpa using h.ne)).trans h.hd,h.hs.store hcs hn hl hb⟩,hf⟩
def Oy(d:DS):DS:={d with off:=false,armed:=false,left:=0}
theorem Zj{w:World}{gd gs N:Nat}{d:DS}(h:DK w gd gs N d):Calls Tryz.prog 23 #[.pointer (some ⟨gd,0,none⟩)] w fun e w'=>e= .returned (.tuple #[])/\DK w' gd gs N (Oy d)/\Fr [gd] w w':=by
 have hd:=h.hd;have HD:=zA (h.pow false false 0);unfold dkC at hd;have hl:=Aa hd;clear h;go_enter Tryz.func23,Tryz.ntmps23;go_wp2_with fail;go_end0
 exact⟨rfl,HD.out⟩
def Nk(n:Int)(d:DS):DS:={d with off:=false,armed:=true,left:=n}
theorem pD{w:World}{gd gs N:Nat}{d:DS}(h:DK w gd gs N d){n:Nat}(hn:n<=100000):Calls Tryz.prog 21 #[.pointer (some ⟨gd,0,none⟩),.int .i64 n] w fun e w'=>
  (d.off=true->e= .returned (.int .i64 22)/\w'=w)/\(d.off=false->e= .returned (.int .i64 0)/\DK w' gd gs N (Nk n d)/\Fr [gd] w w'):=by
 have hd:=h.hd;have HD:=zA (h.pow false true n);unfold dkC at hd;have hl:=Aa hd;have hn0:(0:Int)<=(n:Int):=Int.natCast_nonneg _;have d1:decide ((n:Int)<0)=false:=decide_eq_false (by omega);clear h;cases ho:d.off with
 |true=>
  rw[ho]at hd;go_enter Tryz.func21,Tryz.ntmps21;go_wp2_with fail;go_ret;exact⟨fun _=>⟨rfl,rfl⟩,fun h=>(by cases h)⟩
 |false=>
  rw[ho]at hd;go_enter Tryz.func21,Tryz.ntmps21;go_wp2_with fail;go_ret;exact⟨fun h=>(by cases h),fun _=>⟨rfl,HD.out⟩⟩
def Bf(n:Nat)(s:List Int)(d:DS):Int×DS:=
 if d.off=true then(22,d)else if d.armed=true/\d.left=0 then(22,{d with off:=true,armed:=false,left:=0})
 else(0,{d with S:=Ay d.S n s,cnt:=d.cnt+1,left:=if d.armed=true then d.left-1 else d.left})
structure DOk (d:DS):Prop where
 c0:0<=d.cnt
 c1:d.cnt<=1000000000000
 l0:0<=d.left
 l1:d.left<=1000000000000
theorem jV{w:World}{gd gs N:Nat}{d:DS}(h:DK w gd gs N d)(hk:DOk d){n:Nat}(hn:n<N)(hN:N<=4096){s:List Int}(hl:s.length=128)(hb:A4 s):
  Calls Tryz.prog 22 #[.pointer (some ⟨gd,0,none⟩),.int .i64 n,.agg (IV .u8 s)] w fun e w'=>e= .returned (.int .i64 (Bf n s d).1)/\DK w' gd gs N (Bf n s d).2/\Fr [gd,gs] w w':=by
 have hn0:(0:Int)<=(n:Int):=Int.natCast_nonneg _;have hn1:(n:Int)<(N:Int):=by omega
 have H:=zA h;have HK:=zA hk;have HL:=zA hl;have HBY:=zA hb;clear h hk hb;clear hl;have hf1:Fr [] w (w.alloc (.cells (IV .u8 s) 47)):=Do w _ [];have H1:=zA (H.out.fr hf1 (by simp) (by simp));have hgb:hat (w.alloc (.cells (IV .u8 s) 47)) w.heap.size=some (.cells (IV .u8 s) 47):=(A6 w _).1;have hne:w.heap.size≠gd/\w.heap.size≠gs:=⟨fun e=>by have:=Aa H.out.hd;omega,fun e=>by have:=H.out.hs.lt;omega⟩;have HF1:=zA hf1;go_enter Tryz.func22,Tryz.ntmps22;go_wp2_with fail;generalize w.alloc (.cells (IV .u8 s) 47)=w1 at*;generalize w.heap.size=gb at*;refine(aR H1.out hn hN).mono ?_;rintro e w2 ⟨rfl,rfl⟩;have hgl:=Aa hgb;clear hf1 H;have hd:=H1.out.hd;have hdl:=Aa hd;unfold dkC at hd;cases ho:d.off with
 |true=>
  have HW:Hid (Bf n s d=(22,d)):=zA (by unfold Bf;rw[if_pos ho]);rw[ho]at hd;rw[if_pos rfl];go_wp2_with fail;go_ret;rw[HW.out];exact⟨rfl,H1.out,HF1.out.mono (by simp)⟩
 |false=>
  rw[ho]at hd;rw[if_neg (by decide)];obtain⟨csS,hcs,⟨hszS,-⟩,-⟩:=id H1.out.hs;have hsl:=Aa hcs;have hle:n*128+128<=csS.size:=(by omega);cases ha:d.armed with
  |true=>
   rw[ha]at hd;by_cases hl0:d.left=0
   ·have HW:Hid (Bf n s d=(22,{d with off:=true,armed:=false,left:=0})):=zA (by unfold Bf;rw[if_neg (by rw[ho];decide),if_pos ⟨ha,hl0⟩]);have HP:=zA (H1.out.pow true false 0);rw[hl0]at hd;clear hszS hcs hl0 hle hsl;go_wp2_with fail;go_ret;rw[HW.out];exact⟨rfl,HP.out.1,(HF1.out.mono (ex':=[gd,gs]) (by simp)).trans (HP.out.2.mono (by simp))⟩
   ·have HW:Hid (Bf n s d=(0,{d with S:=Ay d.S n s,cnt:=d.cnt+1,left:=d.left-1})):=zA (by unfold Bf;rw[if_neg (by rw[ho];decide),if_neg (fun h=>hl0 h.2),if_pos ha]);have hl1:(d.left==0)=false:=(by simp[hl0]);obtain⟨c0,c1,l0,l1⟩:=HK.out;have HP:=zA (H1.out.left' (d.left-1));have hd2:=HP.out.1.hd;have hdl2:=Aa hd2;have hcs2:=(HP.out.2.block gs (Aa hcs) (by simpa using H1.out.ne.symm)).trans hcs;have hgb2:=(HP.out.2.block gb hgl (by simpa using hne.1)).trans hgb;have hst:∀ raw w',Dd raw 128 (n*128) gs (IV .u8 s) w' (some (.cells csS 47 (0,0)))= .ok () (w'.setRow gs (Ap csS (n*128) (IV .u8 s))):=fun raw w'=>Cj hle (by simp[HL.out]) (by simp)
    have hld:∀ raw w',Ea raw 128 0 w' (some (.cells (IV .u8 s) 47 (0,0)))= .ok (.agg (IV .u8 s)) w':=fun raw w'=>Ha (by simp[HL.out])
    unfold dkC at hd2;rw[ho,ha]at hd2;simp only at hd2;clear hl0 hszS hle;go_wp2_with fail;have HF2:=zA ((HF1.out.mono (ex':=[gd,gs]) (by simp)).trans (HP.out.2.mono (by simp)));have HP1:=zA HP.out.1;clear HP hd hdl hgb hcs hgl hsl H1 HF1;generalize w2.setCell ⟨gd,4,none⟩ (.int .i64 (d.left-1))=w3 at*;have hgl:=Aa hgb2;have hsl:=Aa hcs2;go_region
    have HP3:=HP1.out.sec hcs2 hn HL.out HBY.out;have hq:DK (w3.setRow gs (Ap csS (n*128) (IV .u8 s))).drew gd gs N _:=⟨HP3.1.hd,HP3.1.hs.same rfl⟩;have HF3:=zA (HF2.out.trans ((Bb HP3.2).mono (by simp)));have HQ:=zA hq;clear HP3 hq hd2 hdl2 hcs2 hgb2 hgl hsl HP1 HF2;generalize (w3.setRow gs (Ap csS (n*128) (IV .u8 s))).drew=w4 at*;have hd4:=HQ.out.hd;have HE:=zA (HQ.out.cnt' (d.cnt+1));unfold dkC at hd4;have hdl4:=Aa hd4;simp only at hd4;go_wp2_with fail;go_ret;rw[HW.out];exact⟨rfl,HE.out.1,HF3.out.trans (HE.out.2.mono (by simp))⟩
  |false=>
   rw[ha]at hd;have HW:Hid (Bf n s d=(0,{d with S:=Ay d.S n s,cnt:=d.cnt+1})):=zA (by unfold Bf;rw[if_neg (by rw[ho];decide),if_neg (fun h=>by rw[ha]at h;cases h.1),if_neg (by rw[ha];decide)]);obtain⟨c0,c1,l0,l1⟩:=HK.out;have HP1:=H1;have hcs2:=hcs;have hgb2:=hgb;have hdl2:=hdl;have hd2:=hd;have hst:∀ raw w',Dd raw 128 (n*128) gs (IV .u8 s) w' (some (.cells csS 47 (0,0)))= .ok () (w'.setRow gs (Ap csS (n*128) (IV .u8 s))):=fun raw w'=>Cj hle (by simp[HL.out]) (by simp)
   have hld:∀ raw w',Ea raw 128 0 w' (some (.cells (IV .u8 s) 47 (0,0)))= .ok (.agg (IV .u8 s)) w':=fun raw w'=>Ha (by simp[HL.out])
   have HF2:=zA (HF1.out.mono (ex':=[gd,gs]) (by simp));clear hszS hle hd hdl hgb hcs H1 HF1;obtain⟨w3,rfl⟩:∃ x,x=w2:=⟨_,rfl⟩;go_wp2_with fail;go_region
   have HP3:=HP1.out.sec hcs2 hn HL.out HBY.out;have hq:DK (w3.setRow gs (Ap csS (n*128) (IV .u8 s))).drew gd gs N _:=⟨HP3.1.hd,HP3.1.hs.same rfl⟩;have HF3:=zA (HF2.out.trans ((Bb HP3.2).mono (by simp)));have HQ:=zA hq;clear HP3 hq hd2 hdl2 hcs2 hgb2 hgl hsl HP1 HF2;generalize (w3.setRow gs (Ap csS (n*128) (IV .u8 s))).drew=w4 at*;have hd4:=HQ.out.hd;have HE:=zA (HQ.out.cnt' (d.cnt+1));unfold dkC at hd4;have hdl4:=Aa hd4;simp only at hd4;go_wp2_with fail;go_ret;rw[HW.out];exact⟨rfl,HE.out.1,HF3.out.trans (HE.out.2.mono (by simp))⟩
theorem Lc{P:Program}(w:World){ops:Array Oper}{rest:List Oper}{o:Oper}{a:Act}{Q:Exit->Act->World->Prop}(hgd:o.guard=none)(s x:Operand)(t:TypeId)
  (ho:o.op= .call {callee:= .builtin .copy,args:= #[s,x],argTypes:= #[t,t]}) (v u:Value) (hs:a.eval s=v) (hx:a.eval x=u) (v':Value) (w':World)
  (hr:(Builtin.copy_ #[t,t] o.type #[v,u]).run P w= .ok v' w') (h:wpList P ops Q rest (a.put o.dst v') w'):wpList P ops Q (o::rest) a w:=by
 refine wpList_plain hgd fun K hK=>?_
 unfold Oper.wp;simp[execOp,ho,resolve,invoke,builtin,hs,hx,hr,Result.andThen];exact hK _ _ h
def kL(k:Nat)(S S2:Nat->List Int):Nat->List Int:=fun j=>if j<k then S2 j else S j
theorem Fs.ws{w:World}{g N c:Nat}{o:Option Nat}{S:Nat->List Int}(h:Fs w (.slice (some ⟨g,0,none⟩) N c) o N S):B8 w g N c S:=by
 rcases h.g with ⟨e,-⟩|⟨g',off,c',cs,e,-,h1,h2,h3,h4⟩
 ·cases e
 ·injection e with e1 e2 e3
  injection e1 with e1
  injection e1 with p1 p2
  subst p1 p2 e3;refine⟨cs,h1,⟨by omega,by omega⟩,fun i hi=>⟨(h.len i hi).1,(h.len i hi).2,?_⟩⟩;have:=(It (o:=0) (fun i hi=>(h.len i hi).1) h2).2 h4 i hi;rw[Nat.zero_add]at this;exact this
theorem Hk.firsts{w:World}{u:Value}{M:Nat}{S:Nat->List Int}(h:Hk w u M S){n:Nat}(hn:n<=M):∃ news:List Value,news.length=n*128/\(Builtin.firstCells 128 n u).run Tryz.prog w= .ok news.toArray w/\(∀ k,k<n*128->news[k]? =some (Fy S k))/\(Builtin.lenOf u).run Tryz.prog w= .ok M w:=by
 obtain⟨a,c,rfl,h⟩:=h;by_cases h0:n=0
 ·subst h0;refine⟨[],rfl,?_,fun k hk=>by omega,rfl⟩;cases a with
  |none=>exact run_firstCells_none w 128 0 M c
  |some a=>exact run_firstCells_some w 128 0 a M c [] rfl (fun j v hj=>by simp at hj)
 ·obtain⟨g,off,rfl,cs,t,fr,hg,hsz,hall⟩:=h (by omega);have hc:=(It (fun i hi=>(hall i hi).1) hsz).1 fun i hi=>(hall i hi).2.2
  have hle:n*128<=M*128:=Nat.mul_le_mul_right _ hn;refine⟨(cs.extract off (off+n*128)).toList,by simp;omega,run_firstCells_some w 128 n ⟨g,off,none⟩ M c _ (by simp;omega) (fun j x hj=>?_),fun k hk=>?_,rfl⟩
  ·rw[C4,Bs hg];have hkl:j<n*128:=by
    have:=(List.getElem?_eq_some_iff.1 hj).1;simp at this;omega
   rw[Array.getElem?_toList,Array.getElem?_extract,if_pos (by omega)]at hj;exact hj
  ·rw[Array.getElem?_toList,Array.getElem?_extract,if_pos (by omega)];exact hc k (by omega)
theorem Jc(g:Nat)(t:TypeId)(fr:Nat×Nat):∀ (vs:List Value) (o:Nat) (w:World) (cs cs':Array Value),hat w g=some (.cells cs t fr)->hat (w.setCells g o vs) g=some (.cells cs' t fr)->∀ j,o+vs.length<=j->cs'[j]? =cs[j]?
 |[],o,w,cs,cs',h,h',j,hj=>by
  have h2:hat w g=some (.cells cs' t fr):=h';rw[h]at h2;injection h2 with h2
  injection h2 with h2
  rw[h2]
 |x::r,o,w,cs,cs',h,h',j,hj=>by
  rw[List.length_cons]at hj;rw[Jc g t fr r (o+1) _ _ cs' (Ah w g o x _ _ _ h) h' j (by omega),Array.getElem?_setIfInBounds,if_neg (by omega)]
theorem T5{w:World}{v u:Value}{o:Option Nat}{N M:Nat}{S S2:Nat->List Int}(h:Fs w v o N S)(hu:Hk w u M S2)(ty:TypeId):
  ∃ w',(Builtin.copy_ #[26,26] ty #[v,u]).run Tryz.prog w= .ok (goInt (Nat.min M N)) w'/\Fs w' v o N (kL (Nat.min M N) S S2)/\Fr o.toList w w':=by
 obtain⟨inf,z,hi,hz,hzs,his,hib⟩:=Lr;have ht:Tryz.prog.underlying 26=some (.slice 47):=Tryz.underlying26;have hn1:Nat.min M N<=M:=Nat.min_le_left _ _;have hn2:Nat.min M N<=N:=Nat.min_le_right _ _;obtain⟨news,hl,hf,hk,hlen⟩:=hu.firsts hn1;have hone:∀ x∈news,x.oneCell'=true:=fun x hx=>by
  obtain⟨j,hj⟩:=List.getElem?_of_mem hx;have hjl:=(List.getElem?_eq_some_iff.1 hj).1;rw[hk j (by omega)]at hj;rw[<-Option.some.inj hj];rfl
 rcases h.g with ⟨rfl,rfl,rfl⟩|⟨g,off,c,cs,rfl,rfl,h1,h2,h3,h4⟩
 ·refine⟨w,?_,⟨.inl ⟨rfl,rfl,rfl⟩,fun j hj=>by omega⟩,Fr.refl _ _⟩;have e:Nat.min M 0=0:=Nat.min_zero M;rw[e]at hf ⊢;simp[Builtin.copy_,run_underlying ht,sizeOf,typeInfo,hi,his,hlen,hf,e]
 ·generalize hm:Nat.min M N=m at*;have hst:=run_storeCells_cells (P:=Tryz.prog) g off news 0 w (fun j hj=>by
   rw[Bs h1,Array.getElem?_eq_getElem (by omega)];rfl) (fun j hj=>Kg h1 _) hone
  simp only[Nat.add_zero]at hst;obtain⟨cs',a1,a2,a3,a4⟩:=If g 47 (0,0) news off w cs h1;refine⟨w.setCells g off news,?_,⟨.inr ⟨g,off,c,cs',rfl,rfl,a1,by rw[a2];exact h2,by rw[a2];exact h3,fun k hk1=>?_⟩,fun j hj=>?_⟩,(Ja g _ _ _).mono (by simp)⟩
  ·simp[Builtin.copy_,run_underlying ht,sizeOf,typeInfo,hi,his,hlen,hf,hm,hst]
  ·unfold Fy kL;by_cases hkm:k<m*128
   ·rw[if_pos (by omega)];exact a4 k _ (hk k hkm) (by omega)
   ·rw[if_neg (by omega)];rw[Jc g 47 (0,0) news off w cs cs' h1 a1 _ (by omega)];exact h4 k hk1
  ·unfold kL;split
   ·exact hu.len j (by omega)
   ·exact h.len j hj
theorem B8.congr{w:World}{g N c:Nat}{S S':Nat->List Int}(h:B8 w g N c S)(he:∀ j,j<N->S j=S' j):B8 w g N c S':=by
 obtain⟨cs,h1,h2,h3⟩:=h;exact⟨cs,h1,h2,fun i hi=>by rw[<-he i hi];exact h3 i hi⟩
theorem J1{w:World}{gd gs N:Nat}{d:DS}(h:DK w gd gs N d)(hN:N<=4096):Calls Tryz.prog 17 #[.pointer (some ⟨gd,0,none⟩)] w fun e w'=>
  ∃ g,e= .returned (.slice (some ⟨g,0,none⟩) N N)/\B8 w' g N N d.S/\Below w.heap.size w w'/\w.heap.size<=g:=by
 obtain⟨w1,hr,hws,hb⟩:=Ml w N hN;have h1:=h.fr (Af hb []) (by simp) (by simp);obtain⟨w2,hc,hs2,hf2⟩:=T5 (Fs.of hws) (F6 h1.hs) 3;have hmin:Nat.min N N=N:=Nat.min_self N;rw[hmin]at hc hs2;have hd:=h.hd;unfold dkC at hd;have hd1:=h1.hd;unfold dkC at hd1;have hl:=Aa hd;have hl1:=Aa hd1;have HS:=zA (hs2.ws.congr (S':=d.S) fun j hj=>by unfold kL;rw[if_pos hj]);have HB:=zA (hb.trans (hf2.below (B:=w.heap.size) hb.size (by simp)));have hr1:(Instr.makeSlice 26 (.int .i64 N) (.int .i64 N)).run Tryz.prog w= .ok (.slice (some ⟨w.heap.size,0,none⟩) N N) w1:=hr;have hc':(Builtin.copy_ #[26,26] 3 #[.slice (some ⟨w.heap.size,0,none⟩) N N,.slice (some ⟨gs,0,none⟩) N N]).run Tryz.prog w1= .ok (goInt N) w2:=hc;clear hc hr h hb hs2 hf2 hmin;go_enter Tryz.func17,Tryz.ntmps17;go_wp2_with (at_builtin;refine Lc _ rfl (.tmp 10) (.tmp 14) 26 rfl _ _ rfl rfl _ _ hc' ?_)
 go_ret;exact⟨_,rfl,HS.out,HB.out,Nat.le_refl _⟩
def oP(N:Nat):DS:=⟨fun _=>zl 128,0,false,false,0⟩
theorem qR{w:World}{N:Nat}(h0:1<=N)(hN:N<=4096):Calls Tryz.prog 33 #[.int .i64 N] w fun e w'=>
  ∃ gd gs,e= .returned (.tuple #[.pointer (some ⟨gd,0,none⟩),.int .i64 0])/\DK w' gd gs N (oP N)/\Below w.heap.size w w'/\w.heap.size<=gd/\w.heap.size<=gs:=by
 obtain⟨w1,hr,hws,hb⟩:=Ml w N hN;have HS:=zA hws;have HB:=zA hb;have hr1:(Instr.makeSlice 26 (.int .i64 N) (.int .i64 N)).run Tryz.prog w= .ok (.slice (some ⟨w.heap.size,0,none⟩) N N) w1:=hr;have d1:decide ((N:Int)<1)=false:=decide_eq_false (by omega);have d2:decide ((4096:Int)<(N:Int))=false:=decide_eq_false (by omega);clear hr hws hb;go_enter Tryz.func33,Tryz.ntmps33;go_wp2_with fail;go_ret2;refine⟨_,_,rfl,⟨(A6 w1 _).1,HS.out.same (A9 _ _ _ HS.out.lt)⟩,As HB.out HB.out.size _,HB.out.size,Nat.le_refl _⟩
def Kh(S:Nat->List Int):DS:=⟨S,0,false,false,0⟩
theorem Sb{w:World}{v:Value}{N:Nat}{S:Nat->List Int}(h:Hk w v N S)(h0:1<=N)(hN:N<=4096):Calls Tryz.prog 13 #[v] w fun e w'=>
  ∃ gd gs,e= .returned (.tuple #[.pointer (some ⟨gd,0,none⟩),.int .i64 0])/\DK w' gd gs N (Kh S)/\Below w.heap.size w w'/\w.heap.size<=gd/\w.heap.size<=gs:=by
 have HI:=zA h;obtain⟨a,c,rfl,-⟩:=id h;clear h;go_enter Tryz.func13,Tryz.ntmps13;go_wp2_with fail;refine(qR h0 hN).mono ?_;rintro e w1 ⟨gd,gs,rfl,hdk,hb,hg1,hg2⟩;have hd:=hdk.hd;unfold dkC oP at hd;have hl:=Aa hd;obtain⟨w2,hc,hs2,hf2⟩:=T5 (Fs.of hdk.hs) (HI.out.same (Af hb [])) 3;have hmin:Nat.min N N=N:=Nat.min_self N;rw[hmin]at hc hs2;have hc':(Builtin.copy_ #[26,26] 3 #[.slice (some ⟨gs,0,none⟩) N N,.slice a N c]).run Tryz.prog w1= .ok (goInt N) w2:=hc;have HB:=zA (hb.trans (hf2.below (B:=w.heap.size) hb.size (by simpa using hg2)));have HD:Hid (DK w2 gd gs N (Kh S)):=zA ⟨(hf2.block _ hl (by simpa using hdk.ne)).trans hd,hs2.ws.congr fun j hj=>by unfold kL;rw[if_pos hj];rfl⟩;clear hc hs2 hf2 hmin hb;go_wp2_with (at_builtin;refine Lc _ rfl (.tmp 18) (.tmp 19) 26 rfl _ _ rfl rfl _ _ hc' ?_)
 go_ret2;exact⟨gd,gs,rfl,HD.out,HB.out,hg1,hg2⟩
def rkC(gs N:Nat)(d:DS):Array Value:= #[.slice (some ⟨gs,0,none⟩) N N,.int .i64 d.cnt,.bool d.armed,.int .i64 d.left,.bool d.off]
structure RK (w:World) (gd gs N:Nat) (d:DS):Prop where
 hd:hat w gd=some (.cells (rkC gs N d) 86)
 hs:B8 w gs N N d.S
theorem RK.ne{w:World}{gd gs N:Nat}{d:DS}(h:RK w gd gs N d):gd≠gs:=by
 rintro rfl;obtain⟨cs,h1,-⟩:=h.hs;rw[h.hd]at h1;injection h1 with h1
 injection h1 with _ h1
 revert h1;decide
theorem RK.fr{w w':World}{gd gs N:Nat}{d:DS}{ex:List Nat}(h:RK w gd gs N d)(hf:Fr ex w w')(h1:gd∉ex)(h2:gs∉ex):RK w' gd gs N d:=
 ⟨(hf.block _ (Aa h.hd) h1).trans h.hd,h.hs.same (hf.block _ h.hs.lt h2)⟩
theorem iY{w:World}{gd gs N:Nat}{d:DS}(h:RK w gd gs N d):Calls Tryz.prog 44 #[.pointer (some ⟨gd,0,none⟩)] w fun e w'=>e= .returned (.bool d.off)/\w'=w:=by
 have hd:=h.hd;unfold rkC at hd;have hl:=Aa hd;clear h;go_enter Tryz.func44,Tryz.ntmps44;go_wp2_with fail;go_ret;exact⟨rfl,rfl⟩
theorem Qy{w:World}{gd gs N:Nat}{d:DS}(h:RK w gd gs N d):Calls Tryz.prog 28 #[.pointer (some ⟨gd,0,none⟩)] w fun e w'=>e= .returned (.int .i64 d.cnt)/\w'=w:=by
 have hd:=h.hd;unfold rkC at hd;have hl:=Aa hd;clear h;go_enter Tryz.func28,Tryz.ntmps28;go_wp2_with fail;go_ret;exact⟨rfl,rfl⟩
theorem cK{w:World}{gd gs N:Nat}{d:DS}(h:RK w gd gs N d){n:Nat}(hn:n<N)(hN:N<=4096):Calls Tryz.prog 70 #[.pointer (some ⟨gd,0,none⟩),.int .i64 n] w fun e w'=>e= .returned (.int .i64 (if d.off=true then 22 else 0))/\w'=w:=by
 have hd:=h.hd;unfold rkC at hd;have hl:=Aa hd;have hn0:(0:Int)<=(n:Int):=Int.natCast_nonneg _;have d1:decide ((n:Int)<0)=false:=decide_eq_false (by omega);have d2:decide ((N:Int)<=(n:Int))=false:=decide_eq_false (by omega);clear h;cases ho:d.off with
 |true=>
  rw[ho]at hd;go_enter Tryz.func70,Tryz.ntmps70;go_wp2_with fail;go_ret;exact⟨rfl,rfl⟩
 |false=>
  rw[ho]at hd;go_enter Tryz.func70,Tryz.ntmps70;go_wp2_with fail;go_ret;exact⟨rfl,rfl⟩
theorem RK.off'{w:World}{gd gs N:Nat}{d:DS}(h:RK w gd gs N d)(o:Bool):RK (w.setCell ⟨gd,4,none⟩ (.bool o)) gd gs N {d with off:=o}/\Fr [gd] w (w.setCell ⟨gd,4,none⟩ (.bool o)):=by
 have hf:=Ai w gd 4 (.bool o);exact⟨⟨Ah _ _ _ _ _ _ _ h.hd,h.hs.same (hf.block _ h.hs.lt (by simpa using h.ne.symm))⟩,hf⟩
theorem RK.arm'{w:World}{gd gs N:Nat}{d:DS}(h:RK w gd gs N d)(a:Bool):RK (w.setCell ⟨gd,2,none⟩ (.bool a)) gd gs N {d with armed:=a}/\Fr [gd] w (w.setCell ⟨gd,2,none⟩ (.bool a)):=by
 have hf:=Ai w gd 2 (.bool a);exact⟨⟨Ah _ _ _ _ _ _ _ h.hd,h.hs.same (hf.block _ h.hs.lt (by simpa using h.ne.symm))⟩,hf⟩
theorem RK.left'{w:World}{gd gs N:Nat}{d:DS}(h:RK w gd gs N d)(l:Int):RK (w.setCell ⟨gd,3,none⟩ (.int .i64 l)) gd gs N {d with left:=l}/\Fr [gd] w (w.setCell ⟨gd,3,none⟩ (.int .i64 l)):=by
 have hf:=Ai w gd 3 (.int .i64 l);exact⟨⟨Ah _ _ _ _ _ _ _ h.hd,h.hs.same (hf.block _ h.hs.lt (by simpa using h.ne.symm))⟩,hf⟩
theorem RK.cnt'{w:World}{gd gs N:Nat}{d:DS}(h:RK w gd gs N d)(l:Int):RK (w.setCell ⟨gd,1,none⟩ (.int .i64 l)) gd gs N {d with cnt:=l}/\Fr [gd] w (w.setCell ⟨gd,1,none⟩ (.int .i64 l)):=by
 have hf:=Ai w gd 1 (.int .i64 l);exact⟨⟨Ah _ _ _ _ _ _ _ h.hd,h.hs.same (hf.block _ h.hs.lt (by simpa using h.ne.symm))⟩,hf⟩
theorem RK.sec{w:World}{gd gs N:Nat}{d:DS}(h:RK w gd gs N d){cs:Array Value}(hcs:hat w gs=some (.cells cs 47)){n:Nat}(hn:n<N){s:List Int}(hl:s.length=128)(hb:A4 s):
  RK (w.setRow gs (Ap cs (n*128) (IV .u8 s))) gd gs N {d with S:=Ay d.S n s}/\Fr [gs] w (w.setRow gs (Ap cs (n*128) (IV .u8 s))):=by
 have hf:=Da w gs (Ap cs (n*128) (IV .u8 s));exact⟨⟨(hf.block _ (Aa h.hd) (by simpa using h.ne)).trans h.hd,h.hs.store hcs hn hl hb⟩,hf⟩
theorem Xg{w:World}{gd gs N:Nat}{d:DS}(h:RK w gd gs N d):Calls Tryz.prog 30 #[.pointer (some ⟨gd,0,none⟩)] w fun e w'=>e= .returned (.tuple #[])/\RK w' gd gs N (Oy d)/\Fr [gd] w w':=by
 have hd:=h.hd;have h1:=h.off' false;have h2:=h1.1.arm' false;have h3:=h2.1.left' 0;have HD:Hid (RK _ gd gs N (Oy d)/\Fr [gd] w _):=zA ⟨h3.1,(h1.2.trans h2.2).trans h3.2⟩;unfold rkC at hd;have hl:=Aa hd;clear h h1 h2 h3;go_enter Tryz.func30,Tryz.ntmps30;go_wp2_with fail;go_end0
 exact⟨rfl,HD.out⟩
theorem mS{w:World}{gd gs N:Nat}{d:DS}(h:RK w gd gs N d){n:Nat}(hn:n<=100000):Calls Tryz.prog 25 #[.pointer (some ⟨gd,0,none⟩),.int .i64 n] w fun e w'=>
  (d.off=true->e= .returned (.int .i64 22)/\w'=w)/\(d.off=false->e= .returned (.int .i64 0)/\RK w' gd gs N (Nk n d)/\Fr [gd] w w'):=by
 have hd:=h.hd;have hn0:(0:Int)<=(n:Int):=Int.natCast_nonneg _;have d1:decide ((n:Int)<0)=false:=decide_eq_false (by omega);cases ho:d.off with
 |true=>
  unfold rkC at hd;have hl:=Aa hd;rw[ho]at hd;clear h;go_enter Tryz.func25,Tryz.ntmps25;go_wp2_with fail;go_ret;exact⟨fun _=>⟨rfl,rfl⟩,fun h=>(by cases h)⟩
 |false=>
  have h2:=h.arm' true;have h3:=h2.1.left' n;have e:({{d with armed:=true}with left:=(n:Int)}:DS)=Nk n d:=by
   unfold Nk;cases d;simp at ho ⊢;exact ho
  rw[e]at h3;have HD:Hid (RK _ gd gs N (Nk n d)/\Fr [gd] w _):=zA ⟨h3.1,h2.2.trans h3.2⟩;unfold rkC at hd;have hl:=Aa hd;rw[ho]at hd;clear h h2 h3 e;go_enter Tryz.func25,Tryz.ntmps25;go_wp2_with fail;go_ret;exact⟨fun h=>(by cases h),fun _=>⟨rfl,HD.out⟩⟩
def Bm(n:Nat)(s:List Int)(d:DS):Int×DS:=
 if d.off=true then(22,d)else if d.armed=true/\d.left=0 then(22,{d with off:=true})
 else(0,{d with S:=Ay d.S n s,cnt:=d.cnt+1,left:=if d.armed=true then d.left-1 else d.left})
theorem cJ{w:World}{gd gs N:Nat}{d:DS}(h:RK w gd gs N d)(hk:DOk d){n:Nat}(hn:n<N)(hN:N<=4096){s:List Int}(hl:s.length=128)(hb:A4 s):
  Calls Tryz.prog 46 #[.pointer (some ⟨gd,0,none⟩),.int .i64 n,.agg (IV .u8 s)] w fun e w'=>e= .returned (.int .i64 (Bm n s d).1)/\RK w' gd gs N (Bm n s d).2/\Fr [gd,gs] w w':=by
 have hn0:(0:Int)<=(n:Int):=Int.natCast_nonneg _;have hn1:(n:Int)<(N:Int):=by omega
 have H:=zA h;have HK:=zA hk;have HL:=zA hl;have HBY:=zA hb;clear h hk hb;clear hl;have hf1:Fr [] w (w.alloc (.cells (IV .u8 s) 47)):=Do w _ [];have H1:=zA (H.out.fr hf1 (by simp) (by simp));have hgb:hat (w.alloc (.cells (IV .u8 s) 47)) w.heap.size=some (.cells (IV .u8 s) 47):=(A6 w _).1;have hne:w.heap.size≠gd/\w.heap.size≠gs:=⟨fun e=>by have:=Aa H.out.hd;omega,fun e=>by have:=H.out.hs.lt;omega⟩;have HF1:=zA hf1;go_enter Tryz.func46,Tryz.ntmps46;go_wp2_with fail;generalize w.alloc (.cells (IV .u8 s) 47)=w1 at*;generalize w.heap.size=gb at*;refine(cK H1.out hn hN).mono ?_;rintro e w2 ⟨rfl,rfl⟩;have hgl:=Aa hgb;clear hf1 H;have hd:=H1.out.hd;have hdl:=Aa hd;unfold rkC at hd;cases ho:d.off with
 |true=>
  have HW:Hid (Bm n s d=(22,d)):=zA (by unfold Bm;rw[if_pos ho]);rw[ho]at hd;rw[if_pos rfl];go_wp2_with fail;go_ret;rw[HW.out];exact⟨rfl,H1.out,HF1.out.mono (by simp)⟩
 |false=>
  rw[ho]at hd;rw[if_neg (by decide)];obtain⟨csS,hcs,⟨hszS,-⟩,-⟩:=id H1.out.hs;have hsl:=Aa hcs;have hle:n*128+128<=csS.size:=(by omega);cases ha:d.armed with
  |true=>
   rw[ha]at hd;by_cases hl0:d.left=0
   ·have HW:Hid (Bm n s d=(22,{d with off:=true})):=zA (by unfold Bm;rw[if_neg (by rw[ho];decide),if_pos ⟨ha,hl0⟩]);have HP:=zA (H1.out.off' true);rw[hl0]at hd;clear hszS hcs hl0 hle hsl;go_wp2_with fail;go_ret;rw[HW.out];exact⟨rfl,HP.out.1,(HF1.out.mono (ex':=[gd,gs]) (by simp)).trans (HP.out.2.mono (by simp))⟩
   ·have HW:Hid (Bm n s d=(0,{d with S:=Ay d.S n s,cnt:=d.cnt+1,left:=d.left-1})):=zA (by unfold Bm;rw[if_neg (by rw[ho];decide),if_neg (fun h=>hl0 h.2),if_pos ha]);have hl1:(d.left==0)=false:=(by simp[hl0]);obtain⟨c0,c1,l0,l1⟩:=HK.out;have HP:=zA (H1.out.left' (d.left-1));have hd2:=HP.out.1.hd;have hdl2:=Aa hd2;have hcs2:=(HP.out.2.block gs (Aa hcs) (by simpa using H1.out.ne.symm)).trans hcs;have hgb2:=(HP.out.2.block gb hgl (by simpa using hne.1)).trans hgb;have hst:∀ raw w',Dd raw 128 (n*128) gs (IV .u8 s) w' (some (.cells csS 47 (0,0)))= .ok () (w'.setRow gs (Ap csS (n*128) (IV .u8 s))):=fun raw w'=>Cj hle (by simp[HL.out]) (by simp)
    have hld:∀ raw w',Ea raw 128 0 w' (some (.cells (IV .u8 s) 47 (0,0)))= .ok (.agg (IV .u8 s)) w':=fun raw w'=>Ha (by simp[HL.out])
    unfold rkC at hd2;rw[ho,ha]at hd2;simp only at hd2;clear hl0 hszS hle;go_wp2_with fail;have HF2:=zA ((HF1.out.mono (ex':=[gd,gs]) (by simp)).trans (HP.out.2.mono (by simp)));have HP1:=zA HP.out.1;clear HP hd hdl hgb hcs hgl hsl H1 HF1;generalize w2.setCell ⟨gd,3,none⟩ (.int .i64 (d.left-1))=w3 at*;have hgl:=Aa hgb2;have hsl:=Aa hcs2;go_region
    have HP3:=HP1.out.sec hcs2 hn HL.out HBY.out;have hq:RK (w3.setRow gs (Ap csS (n*128) (IV .u8 s))).drew gd gs N _:=⟨HP3.1.hd,HP3.1.hs.same rfl⟩;have HF3:=zA (HF2.out.trans ((Bb HP3.2).mono (by simp)));have HQ:=zA hq;clear HP3 hq hd2 hdl2 hcs2 hgb2 hgl hsl HP1 HF2;generalize (w3.setRow gs (Ap csS (n*128) (IV .u8 s))).drew=w4 at*;have hd4:=HQ.out.hd;have HE:=zA (HQ.out.cnt' (d.cnt+1));unfold rkC at hd4;have hdl4:=Aa hd4;simp only at hd4;go_wp2_with fail;go_ret;rw[HW.out];exact⟨rfl,HE.out.1,HF3.out.trans (HE.out.2.mono (by simp))⟩
  |false=>
   rw[ha]at hd;have HW:Hid (Bm n s d=(0,{d with S:=Ay d.S n s,cnt:=d.cnt+1})):=zA (by unfold Bm;rw[if_neg (by rw[ho];decide),if_neg (fun h=>by rw[ha]at h;cases h.1),if_neg (by rw[ha];decide)]);obtain⟨c0,c1,l0,l1⟩:=HK.out;have HP1:=H1;have hcs2:=hcs;have hgb2:=hgb;have hdl2:=hdl;have hd2:=hd;have hst:∀ raw w',Dd raw 128 (n*128) gs (IV .u8 s) w' (some (.cells csS 47 (0,0)))= .ok () (w'.setRow gs (Ap csS (n*128) (IV .u8 s))):=fun raw w'=>Cj hle (by simp[HL.out]) (by simp)
   have hld:∀ raw w',Ea raw 128 0 w' (some (.cells (IV .u8 s) 47 (0,0)))= .ok (.agg (IV .u8 s)) w':=fun raw w'=>Ha (by simp[HL.out])
   have HF2:=zA (HF1.out.mono (ex':=[gd,gs]) (by simp));clear hszS hle hd hdl hgb hcs H1 HF1;obtain⟨w3,rfl⟩:∃ x,x=w2:=⟨_,rfl⟩;go_wp2_with fail;go_region
   have HP3:=HP1.out.sec hcs2 hn HL.out HBY.out;have hq:RK (w3.setRow gs (Ap csS (n*128) (IV .u8 s))).drew gd gs N _:=⟨HP3.1.hd,HP3.1.hs.same rfl⟩;have HF3:=zA (HF2.out.trans ((Bb HP3.2).mono (by simp)));have HQ:=zA hq;clear HP3 hq hd2 hdl2 hcs2 hgb2 hgl hsl HP1 HF2;generalize (w3.setRow gs (Ap csS (n*128) (IV .u8 s))).drew=w4 at*;have hd4:=HQ.out.hd;have HE:=zA (HQ.out.cnt' (d.cnt+1));unfold rkC at hd4;have hdl4:=Aa hd4;simp only at hd4;go_wp2_with fail;go_ret;rw[HW.out];exact⟨rfl,HE.out.1,HF3.out.trans (HE.out.2.mono (by simp))⟩
theorem Ku{w:World}{gd gs N:Nat}{d:DS}(h:RK w gd gs N d)(hN:N<=4096):Calls Tryz.prog 29 #[.pointer (some ⟨gd,0,none⟩)] w fun e w'=>
  ∃ v ob,e= .returned v/\Fs w' v ob N d.S/\Below w.heap.size w w'/\∀ g,ob=some g->w.heap.size<=g:=by
 obtain⟨v,w1,ob,hr,hs,hg⟩:=Xh (Fs.none' w d.S) (F6 h.hs) (by omega) 26;have hcz:fH 0 d.S d.S=d.S:=by funext j;simp[fH]
 rw[Nat.zero_add,hcz]at hs;have hd:=h.hd;unfold rkC at hd;have hl:=Aa hd;have HS:=zA hs;have HB:=zA (hg.fr.below (B:=w.heap.size) (Nat.le_refl _) (by simp));have HO:Hid (∀ g,ob=some g->w.heap.size<=g):=zA (fun g e=>by
  rcases hg.ob with h1|⟨g',h1,h2⟩
  ·rw[h1]at e;cases e
  ·rw[h1]at e;injection e with e;omega)
 have hr':(Builtin.append_ #[26,26] 26 #[.slice none 0 0,.slice (some ⟨gs,0,none⟩) N N]).run Tryz.prog w= .ok v w1:=hr;clear hr hs hg hcz;clear h;go_enter Tryz.func29,Tryz.ntmps29;go_wp2_with (at_builtin;refine Ao _ rfl (.tmp 4) (.tmp 8) 26 rfl _ _ rfl rfl _ _ hr' ?_)
 go_ret;exact⟨v,ob,rfl,HS.out,HB.out,HO.out⟩
theorem nC{w:World}{N:Nat}(h0:1<=N)(hN:N<=4096):Calls Tryz.prog 43 #[.int .i64 N] w fun e w'=>
  ∃ gd gs,e= .returned (.tuple #[.pointer (some ⟨gd,0,none⟩),.int .i64 0])/\RK w' gd gs N (oP N)/\Below w.heap.size w w'/\w.heap.size<=gd/\w.heap.size<=gs:=by
 obtain⟨w1,hr,hws,hb⟩:=Ml w N hN;have HS:=zA hws;have HB:=zA hb;have hr1:(Instr.makeSlice 26 (.int .i64 N) (.int .i64 N)).run Tryz.prog w= .ok (.slice (some ⟨w.heap.size,0,none⟩) N N) w1:=hr;have d1:decide ((N:Int)<1)=false:=decide_eq_false (by omega);have d2:decide ((4096:Int)<(N:Int))=false:=decide_eq_false (by omega);clear hr hws hb;go_enter Tryz.func43,Tryz.ntmps43;go_wp2_with fail;go_ret2;refine⟨_,_,rfl,⟨(A6 w1 _).1,HS.out.same (A9 _ _ _ HS.out.lt)⟩,As HB.out HB.out.size _,HB.out.size,Nat.le_refl _⟩
theorem oF{S T:Nat->List Int}{k:Nat}:Ay (fun j=>if j<k then T j else S j) k (T k)=fun j=>if j<k+1 then T j else S j:=by
 funext j
 unfold Ay;by_cases h:j=k
 ·subst h;simp
 ·rw[if_neg h];show(if j<k then T j else S j)=if j<k+1 then T j else S j
  by_cases h2:j<k
  ·rw[if_pos h2,if_pos (by omega)]
  ·rw[if_neg h2,if_neg (by omega)]
theorem Vv{w:World}{v:Value}{N:Nat}{S:Nat->List Int}(h:Hk w v N S)(hS:∀ j,j<N->(S j).length=128/\A4 (S j))(h0:1<=N)(hN:N<=4096):Calls Tryz.prog 24 #[v] w fun e w'=>
  ∃ gd gs,e= .returned (.tuple #[.pointer (some ⟨gd,0,none⟩),.int .i64 0])/\RK w' gd gs N (Kh S)/\Below w.heap.size w w'/\w.heap.size<=gd/\w.heap.size<=gs:=by
 have HSL:=zA hS;obtain⟨a,c,rfl,hi⟩:=id h;obtain⟨gi,oi,rfl,hsec⟩:=hi (by omega);have HI:=zA hsec;clear h hi hS hsec;go_enter Tryz.func24,Tryz.ntmps24;go_wp2_with fail;refine(nC h0 hN).mono ?_;rintro e w1 ⟨gd,gs,rfl,hdk,hb,hg1,hg2⟩;have HD:=zA hdk;have HB:=zA hb;have HG:=zA (show w.heap.size<=gd/\w.heap.size<=gs from⟨hg1,hg2⟩);clear hdk hb hg1 hg2;go_wp2_with fail;go_loopw [6] (fun v wr=>∃ k:Nat,v= .int .i64 k/\k<=N/\Hid (RK wr gd gs N ⟨fun j=>if j<k then S j else zl 128,0,false,false,0⟩)/\Hid (Fr [gs] w1 wr)) (fun v wr=>N-(intOf v).toNat)
 case atStart=>exact⟨0,rfl,Nat.zero_le _,zA HD.out,zA (Fr.refl _ _)⟩
 case round=>
  obtain⟨k,rfl,hk,HR,HF⟩:=hrel;have hFw:Fr [] w wr:=((Af HB.out [gs]).trans HF.out).past (fun q hq=> .inr (by have:=HG.out;simp at hq;omega));have HFw:=zA hFw;clear hFw;by_cases hkN:k<N
  ·have hk0:(0:Int)<=(k:Int):=Int.natCast_nonneg _;have hk1:(k:Int)<(N:Int):=(by omega);have hd:=HR.out.hd;unfold rkC at hd;simp only at hd;have hdl:=Aa hd;obtain⟨csI,tI,fI,hcI,hlI⟩:=(HI.out.same (HFw.out.block _ HI.out.lt (by simp))).load hkN;obtain⟨hsn,hsb⟩:=HSL.out k hkN;obtain⟨csN,hcN,hszN,-⟩:=id HR.out.hs;have hst:∀ raw w',Dd raw 128 (k*128) gs (IV .u8 (S k)) w' (some (.cells csN 47 (0,0)))= .ok () (w'.setRow gs (Ap csN (k*128) (IV .u8 (S k)))):=fun raw w'=>Cj (by omega) (by simp[hsn]) (by simp)
   have hP:=HR.out.sec hcN hkN hsn hsb
   have hq:RK (wr.setRow gs (Ap csN (k*128) (IV .u8 (S k)))).drew gd gs N ⟨fun j=>if j<k+1 then S j else zl 128,0,false,false,0⟩:=⟨hP.1.hd,by
    have h1:=hP.1.hs;rw[oF]at h1;exact h1.same rfl⟩
   have HQ:=zA hq;have HFQ:=zA (HF.out.trans (Bb hP.2));have hcl:=Aa hcN;clear hP hq hsn hsb hszN;go_wp2_with fail;go_region
   go_wp2_with fail;go_roundw
   case rel=>exact⟨k+1,by go_num,by omega,HQ,HFQ⟩
   case measure=>(show N-(k+1)<N-k);omega
  ·have hkk:k=N:=(by omega);subst hkk;go_wp2_with fail;go_ret2;exact⟨gd,gs,rfl,⟨HR.out.hd,HR.out.hs.congr fun j hj=>by show(if j<k then S j else zl 128)=S j;rw[if_pos hj]⟩,(Af HB.out [gs]|>.trans HF.out).below (Nat.le_refl _) (by have:=HG.out;simp;omega),HG.out.1,HG.out.2⟩
open Go.RowKit Go.Extern.Stop Go.Stop Go.Extern
theorem Tryz.isTypeOf(v:Value)(w:World):(Extern.ReflectliteType.typeOf #[.iface 29 v]).run Tryz.prog w= .ok (.iface 143 (.agg #[.pointer (some ⟨1,29,none⟩)])) w:=by kernel_rfl
def uZ:Array Value->Sem Value:=Extern.ReflectliteType.method fun t=>do Extern.Rtype.noPackHeld "Comparable" t;pure (.bool (<-typeInfo t).comparable)
theorem Tryz.isComparable(w:World):(uZ #[.agg #[.pointer (some ⟨1,29,none⟩)]]).run Tryz.prog w= .ok (.bool true) w:=by kernel_rfl
theorem Tryz.isMethodComparable(v:Value)(w:World):(Go.method 358 143 v "Comparable").run Tryz.prog w= .ok (185,v) w:=by kernel_rfl
theorem Tryz.noIsE(v:Value)(xT:TypeId)(w:World):(Instr.typeAssert (.iface 29 v) xT 145 true).run Tryz.prog w= .ok (.tuple #[.nilIface,.bool false]) w:=run_typeAssert_lacksB Tryz.underlying145 (by kernel_rfl) (by kernel_rfl) v xT w
theorem Tryz.noUnwrapE(v:Value)(xT:TypeId)(w:World):(Instr.typeAssert (.iface 29 v) xT 148 true).run Tryz.prog w= .ok (.tuple #[.nilIface,.bool false]) w:=run_typeAssert_lacksB Tryz.underlying148 (by kernel_rfl) (by kernel_rfl) v xT w
theorem Tryz.noUnwrapsE(v:Value)(xT:TypeId)(w:World):(Instr.typeAssert (.iface 29 v) xT 150 true).run Tryz.prog w= .ok (.tuple #[.nilIface,.bool false]) w:=run_typeAssert_lacksB Tryz.underlying150 (by kernel_rfl) (by kernel_rfl) v xT w
theorem Tryz.errnoComp:(Tryz.prog.info? 29).map (·.comparable)=some true:=by kernel_rfl
theorem Nb(x y:Int)(w:World):(binOp .eql 107 (.iface 29 (.int .i64 x)) (.iface 29 (.int .i64 y))).run Tryz.prog w= .ok (.bool (x==y)) w:=by
 obtain⟨i,hi,hc⟩:=Option.map_eq_some_iff.1 Tryz.errnoComp;have h:∀ d:Nat,(Op.equalIn (d+2) 107 (.iface 29 (.int .i64 x)) (.iface 29 (.int .i64 y))).run Tryz.prog w= .ok (x==y) w:=fun d=>by
  simp[Op.equalIn,run_underlying Tryz.underlying107,run_underlying Tryz.underlying29,typeInfo,hi,hc]
 simp only[binOp];simp[Op.equal,Op.maxDepth,h 9998]
theorem aU(x y:Int)(w:World):Calls Tryz.prog 56 #[.iface 29 (.int .i64 x),.iface 29 (.int .i64 y),.bool true] w fun e w'=>e= .returned (.bool (x==y))/\w'=w:=by
 have nE:=Tryz.noIsE;have uE:=Tryz.noUnwrapE;have vE:=Tryz.noUnwrapsE;have heq:=Nb x y;cases hxy:(x==y)with
 |true=>
  rw[hxy]at heq;go_enter Tryz.func56,Tryz.ntmps56;go_wp2_with fail;refine wp_loop_rounds 1 ?_;rw[rounds_succ];go_wp2_with fail;go_ret;exact⟨rfl,rfl⟩
 |false=>
  rw[hxy]at heq;go_enter Tryz.func56,Tryz.ntmps56;go_wp2_with fail;refine wp_loop_rounds 1 ?_;rw[rounds_succ];go_wp2_with fail;go_ret;exact⟨rfl,rfl⟩
theorem gE(x y:Int)(w:World):Calls Tryz.prog 36 #[.iface 29 (.int .i64 x),.iface 29 (.int .i64 y)] w fun e w'=>e= .returned (.bool (x==y))/\w'=w:=by
 have h8:=@run_callFunc_extern Tryz.prog 55 _ Extern.ReflectliteType.typeOf Tryz.func55 (by kernel_rfl) (by kernel_rfl) (by kernel_rfl) (by kernel_rfl);have h32:=@run_callFunc_extern Tryz.prog 185 _ uZ Tryz.func185 (by kernel_rfl) (by kernel_rfl) (by kernel_rfl) (by kernel_rfl);have tT:=Tryz.isTypeOf;have cT:=Tryz.isComparable;have mR:=Tryz.isMethodComparable;have nE:=Tryz.noIsE;have uE:=Tryz.noUnwrapE;have vE:=Tryz.noUnwrapsE;have heq:=Nb x y;go_enter Tryz.func36,Tryz.ntmps36;clear heq nE uE vE;go_wp2_with fail;refine(aU x y w).mono ?_;rintro e w1 ⟨rfl,rfl⟩;go_wp2_with fail;go_ret;exact⟨rfl,rfl⟩
end Go.Proofs.YtmnecpnkkapflaaGreat
