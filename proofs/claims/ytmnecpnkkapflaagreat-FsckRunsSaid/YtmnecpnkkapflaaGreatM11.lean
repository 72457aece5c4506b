import Derived.Test.YtmnecpnkkapflaaGreatM07
import Derived.Test.YtmnecpnkkapflaaGreatM08
import Derived.Test.YtmnecpnkkapflaaGreatM09
import Derived.Test.YtmnecpnkkapflaaGreatM10
namespace Go.Proofs.YtmnecpnkkapflaaGreat
set_option maxHeartbeats 16000000
set_option maxRecDepth 1000000
set_option linter.unusedSimpArgs false
set_option linter.unusedVariables false
open Go.RowKit
def Cs(s:LS):LS:={s with bk:=fun _=>none}
theorem jT{s:List Int}(h:s.length=128){k:Nat}(hk:k<=128):(C8 s k).length=128:=by
 unfold C8;simp only[List.length_append,List.length_take,C2];omega
theorem aE{s:List Int}(h:s.length=128){k:Nat}(hk:k<=128):C8 (C8 s k) k=C8 s k:=by
 unfold C8;rw[List.take_left' (by simp;omega)]
theorem R8{n:Int}{st:LS}{q:Int}(h:(Eg n st).fm q=true):st.fm q=true\/∃ k,st.bk k=some q:=by
 unfold Eg at h;simp only[Bool.or_eq_true,List.any_eq_true]at h;rcases h with h|⟨k,-,h⟩
 ·exact .inl h
 ·exact .inr ⟨k,by simpa using h⟩
theorem Nn{n:Int}{st:LS}{q:Int}(h:st.fm q=true):(Eg n st).fm q=true:=by
 unfold Eg;simp[h]
structure uT (X Y:Int) (A:Nat->List Int) (st st2:LS) (n:Int):Prop where
 si:SI X Y A (Cs st2)
 gr:Gr st st2
 new:∀ k q,st2.bk k=some q->isD X Y q=true/\st2.cl q=true/\st.cl q=false
 inj:∀ k k' q,st2.bk k=some q->st2.bk k'=some q->k=k'
 keys:E9 n st2
theorem N6{X Y:Int}(hY:0<=Y){A:Nat->List Int}{st:LS}(h:SI X Y A (Cs st))(raw:List Int):uT X Y A st (Aj X Y raw st).2 (Aq (nth raw 2)):=by
 obtain⟨i,d,g⟩:=W9 hY (Aq (nth raw 2)) raw h;have hkeys:E9 (Aq (nth raw 2)) (Az X Y (Aq (nth raw 2)) raw (Cs st)).2:=Ny X Y _ raw _ (fun k hk=>by cases hk);have hnew:∀ k q,(Az X Y (Aq (nth raw 2)) raw (Cs st)).2.bk k=some q->isD X Y q=true/\(Az X Y (Aq (nth raw 2)) raw (Cs st)).2.cl q=true/\st.cl q=false/\(Az X Y (Aq (nth raw 2)) raw (Cs st)).2.fm q=false:=by
  intro k q hk;obtain⟨a,b,c⟩:=i.bk k q hk;rcases d.new k q hk with ⟨k',h5⟩|⟨-,h5⟩
  ·cases h5
  ·exact⟨a,b,h5,c⟩
 have hbk:=O4 X Y raw st;have hg2:Gr st (Az X Y (Aq (nth raw 2)) raw (Cs st)).2:=g;unfold Aj;simp only;rw[show({st with bk:=fun _=>none}:LS)=Cs st from rfl];generalize Az X Y (Aq (nth raw 2)) raw (Cs st)=r at*;split
 ·refine⟨⟨fun j hj=>?_,i.cd,fun k q hk=>(by cases hk),fun k k' q hk=>(by cases hk),i.un,i.ln,fun j hj=>?_⟩,fun j hj=>?_,fun k q hk=>?_,i.inj,hkeys⟩
  ·rcases R8 hj with h1|⟨k,h1⟩
   ·exact i.fc j h1
   ·exact(i.bk k _ h1).2.1
  ·rcases R8 hj with h1|⟨k,h1⟩
   ·exact i.sub j h1
   ·obtain⟨a,b,c,e⟩:=hnew k _ h1;have h2:r.2.S j=A j:=by
     rw[d.same j e];exact h.un j c
    show P7 (r.2.S j) _
    rw[h2];exact fun _=> .inl rfl
  ·obtain⟨a,b,c⟩:=hg2 j hj;refine⟨a,?_,c⟩;apply Bool.eq_iff_iff.2
   constructor
   ·intro hf;rcases R8 hf with h1|⟨k,h1⟩
    ·rw[<-b];exact h1
    ·have:=(hnew k _ h1).2.2.1;rw[hj]at this;cases this
   ·intro hf;exact Nn (by rw[b];exact hf)
  ·obtain⟨a,b,c,-⟩:=hnew k q hk;exact⟨a,b,c⟩
 ·have htS:∀ j:Nat,(Bt (Aq (nth raw 2)) (nth raw 2) r.2).S j≠r.2.S j->∃ k,r.2.bk k=some (j:Int)/\((Bt (Aq (nth raw 2)) (nth raw 2) r.2).S j=C8 (r.2.S j) (nth raw 2%128).toNat):=by
   intro j hj;unfold Bt at hj ⊢;cases hb:r.2.bk (Aq (nth raw 2)-1)with
   |none=>rw[hb]at hj;exact absurd rfl hj
   |some p=>
    rw[hb]at hj;simp only at hj ⊢;split at hj
    ·exact absurd rfl hj
    ·rename_i hz
     have hp:=(B5 hY (hnew _ _ hb).1).1;by_cases hjp:j=p.toNat
     ·subst hjp;refine⟨_,by rw[hp];exact hb,?_⟩;rw[if_neg hz];show Ay _ _ _ _=_
      rw[Cx]
     ·exact absurd (Ca _ _ hjp) hj
  have ht1:(Bt (Aq (nth raw 2)) (nth raw 2) r.2).cl=r.2.cl/\(Bt (Aq (nth raw 2)) (nth raw 2) r.2).fm=r.2.fm/\(Bt (Aq (nth raw 2)) (nth raw 2) r.2).bk=r.2.bk:=by
   unfold Bt;split
   ·exact⟨rfl,rfl,rfl⟩
   ·split<;>exact⟨rfl,rfl,rfl⟩
  obtain⟨t1,t2,t3⟩:=ht1;have hk128:(nth raw 2%128).toNat<=128:=(by omega);refine⟨⟨fun j hj=>?_,fun q hq=>?_,fun k q hk=>(by cases hk),fun k k' q hk=>(by cases hk),fun j hj=>?_,fun j hj=>?_,fun j hj=>?_⟩,fun j hj=>?_,fun k q hk=>?_,fun k k' q h1 h2=>?_,fun k hk=>?_⟩
  ·have hj2:(Bt (Aq (nth raw 2)) (nth raw 2) r.2).fm j=true:=hj;show(Bt (Aq (nth raw 2)) (nth raw 2) r.2).cl j=true
   rw[t2]at hj2;rw[t1];exact i.fc j hj2
  ·have hq2:(Bt (Aq (nth raw 2)) (nth raw 2) r.2).cl q=true:=hq;rw[t1]at hq2;exact i.cd q hq2
  ·have hj2:(Bt (Aq (nth raw 2)) (nth raw 2) r.2).cl j=false:=hj;rw[t1]at hj2;show(Bt (Aq (nth raw 2)) (nth raw 2) r.2).S j=_
   by_cases hc:(Bt (Aq (nth raw 2)) (nth raw 2) r.2).S j=r.2.S j
   ·rw[hc];exact i.un j hj2
   ·obtain⟨k,h1,-⟩:=htS j hc;have:=(i.bk k _ h1).2.1;rw[hj2]at this;cases this
  ·show((Bt (Aq (nth raw 2)) (nth raw 2) r.2).S j).length=128/\A4 ((Bt (Aq (nth raw 2)) (nth raw 2) r.2).S j)
   obtain⟨l1,l2⟩:=i.ln j hj;by_cases hc:(Bt (Aq (nth raw 2)) (nth raw 2) r.2).S j=r.2.S j
   ·rw[hc];exact⟨l1,l2⟩
   ·obtain⟨k,-,h1⟩:=htS j hc;rw[h1];exact⟨jT l1 hk128,Qk l2 _⟩
  ·have hj2:(Bt (Aq (nth raw 2)) (nth raw 2) r.2).fm j=true:=hj;rw[t2]at hj2;show P7 ((Bt (Aq (nth raw 2)) (nth raw 2) r.2).S j) _
   by_cases hc:(Bt (Aq (nth raw 2)) (nth raw 2) r.2).S j=r.2.S j
   ·rw[hc];exact i.sub j hj2
   ·obtain⟨k,h1,-⟩:=htS j hc;have:=(i.bk k _ h1).2.2;rw[hj2]at this;cases this
  ·obtain⟨a,b,c⟩:=hg2 j hj;refine⟨by show(Bt _ _ _).cl j=true;rw[t1];exact a,by show(Bt _ _ _).fm j=_;rw[t2];exact b,?_⟩;show(Bt (Aq (nth raw 2)) (nth raw 2) r.2).S j=_
   by_cases hc:(Bt (Aq (nth raw 2)) (nth raw 2) r.2).S j=r.2.S j
   ·rw[hc];exact c
   ·obtain⟨k,h1,-⟩:=htS j hc;have:=(hnew k _ h1).2.2.1;rw[hj]at this;cases this
  ·have hk2:(Bt (Aq (nth raw 2)) (nth raw 2) r.2).bk k=some q:=hk;rw[t3]at hk2;obtain⟨a,b,c,-⟩:=hnew k q hk2;exact⟨a,by show(Bt _ _ _).cl q=true;rw[t1];exact b,c⟩
  ·have h1':(Bt (Aq (nth raw 2)) (nth raw 2) r.2).bk k=some q:=h1;have h2':(Bt (Aq (nth raw 2)) (nth raw 2) r.2).bk k'=some q:=h2;rw[t3]at h1' h2';exact i.inj k k' q h1' h2'
  ·have hk2:((Bt (Aq (nth raw 2)) (nth raw 2) r.2).bk k).isSome=true:=hk;rw[t3]at hk2;exact hkeys k hk2
def qZ(z:LZ)(j:Nat):Prop:=∃ i∈z.q,∃ t k,z.T i.toNat=some t/\t.bk k=some (j:Int)
structure Ev (X Y:Int) (A:Nat->List Int) (z:LZ):Prop where
 si:SI X Y A (Cs z.st)
 blk:∀ i t k q,z.T i=some t->t.bk k=some q->isD X Y q=true/\z.st.cl q=true
 inj:∀ i t k i' t' k' q,z.T i=some t->t.bk k=some q->z.T i'=some t'->t'.bk k'=some q->i=i'/\k=k'
 keys:∀ i t k q,z.T i=some t->t.bk k=some q->0<=k/\k<Aq (nth t.raw 2)
 qn:z.q.Nodup
 qT:∀ i∈z.q,0<=i/\∃ t,z.T i.toNat=some t/\nth t.raw 0=2
 snd:∀ i t,z.T i=some t->Bw (A i)=true/\t.raw.length=18/\nth t.raw 0=nth (Am (A i)).1 0/\nth t.raw 2=nth (Am (A i)).1 2/\nth t.raw 3=nth (Am (A i)).1 3/\∀ j,4<=j->nth t.raw j=nth (Am (A i)).1 j\/nth t.raw j=0
 en:∀ i t,z.T i=some t->0<=t.en/\t.en<=100
theorem Cg(T:Nat->Option TI)(i:Nat)(t:TI):A2 T i t i=some t:=by unfold A2;rw[if_pos rfl]
theorem Cb(T:Nat->Option TI){i j:Nat}(t:TI)(h:j≠i):A2 T i t j=T j:=by unfold A2;rw[if_neg h]
theorem mP{X Y:Int}(hY:0<=Y)(n:Int){raw:List Int}(hr:raw.length=18)(st:LS)(j:Nat)(hj:4<=j):nth (Az X Y n raw st).1 j=nth raw j\/nth (Az X Y n raw st).1 j=0:=by
 obtain⟨-,q1,q2,q3,q4⟩:=Fm (X:=X) hY n hr st;by_cases h16:j<16
 ·have e:=q1 (j-4) (by omega);rw[show 4+(j-4)=j by omega]at e;rw[e];rcases (Fc (X:=X) hY (fun _=>[]) n 0).ok.sub ((raw.drop 4).take 12) st (j-4)with h|h
  ·left
   rw[show(pA X Y n raw st).1=(Pz X Y n 0 ((raw.drop 4).take 12) st).1 from rfl,h,Nt hr (by omega),show 4+(j-4)=j by omega]
  ·exact .inr h
 ·by_cases h17:j=16
  ·subst h17;rw[q2];exact(Kv (X:=X) hY (fun _=>[]) n).ok.sub [nth raw 16] _ 0
  ·by_cases h18:j=17
   ·subst h18;rw[q3];exact(Nl (X:=X) hY (fun _=>[]) n).ok.sub [nth raw 17] _ 0
   ·right
    exact Kn (by omega)
theorem Ev.take{X Y:Int}(hY:0<=Y){A:Nat->List Int}{z:LZ}(h:Ev X Y A z){i:Nat}(hT:z.T i=none)(hs:Bw (A i)=true){n:Int}(h0:0<=n)(h1:n<=100):Ev X Y A (Dg X Y i (Am (A i)).1 n z):=by
 have hrl:=Bo (A i);have t:=N6 hY h.si (Am (A i)).1;obtain⟨q0,-,-,-,q4⟩:=Fm (X:=X) hY (Aq (nth (Am (A i)).1 2)) hrl (Cs z.st);have hsub:=mP (X:=X) hY (Aq (nth (Am (A i)).1 2)) hrl (Cs z.st);have hf:=Is X Y (Am (A i)).1 z.st;rw[show({z.st with bk:=fun _=>none}:LS)=Cs z.st from rfl]at hf;generalize hraw:(Am (A i)).1=raw at*;have hold:∀ {j:Nat} {u:TI},(Dg X Y i raw n z).T j=some u->(j=i/\u=⟨(Aj X Y raw z.st).1,n,(Aj X Y raw z.st).2.bk⟩)\/(j≠i/\z.T j=some u):=by
  intro j u hu;have hu2:A2 z.T i ⟨(Aj X Y raw z.st).1,n,(Aj X Y raw z.st).2.bk⟩ j=some u:=hu;by_cases hj:j=i
  ·subst hj;rw[Cg]at hu2;exact .inl ⟨rfl,(Option.some.inj hu2).symm⟩
  ·rw[Cb _ _ hj]at hu2;exact .inr ⟨hj,hu2⟩
 have hclq:∀ q,isD X Y q=true->z.st.cl q=true->(Aj X Y raw z.st).2.cl q=true:=by
  intro q hq hc;have e:=(B5 hY hq).1;have:=(t.gr q.toNat (by rw[e];exact hc)).1;rw[e]at this;exact this
 refine⟨t.si,fun j u k q hu hk=>?_,fun j u k j' u' k' q hu hk hu' hk'=>?_,fun j u k q hu hk=>?_,?_,fun j hj=>?_,fun j u hu=>?_,fun j u hu=>?_⟩
 ·rcases hold hu with ⟨-,rfl⟩|⟨-,hu2⟩
  ·obtain⟨a,b,-⟩:=t.new k q hk;exact⟨a,b⟩
  ·obtain⟨a,b⟩:=h.blk j u k q hu2 hk;exact⟨a,hclq q a b⟩
 ·rcases hold hu with ⟨rfl,rfl⟩|⟨hj,hu2⟩
  ·rcases hold hu' with ⟨rfl,rfl⟩|⟨hj',hu2'⟩
   ·exact⟨rfl,t.inj k k' q hk hk'⟩
   ·have a:=(t.new k q hk).2.2;have b:=(h.blk j' u' k' q hu2' hk').2;rw[a]at b;cases b
  ·rcases hold hu' with ⟨rfl,rfl⟩|⟨hj',hu2'⟩
   ·have a:=(t.new k' q hk').2.2;have b:=(h.blk j u k q hu2 hk).2;rw[a]at b;cases b
   ·exact h.inj j u k j' u' k' q hu2 hk hu2' hk'
 ·rcases hold hu with ⟨-,rfl⟩|⟨-,hu2⟩
  ·have:=t.keys k (by rw[show(Aj X Y raw z.st).2.bk k=some q from hk];rfl);show 0<=k/\k<Aq (nth (Aj X Y raw z.st).1 2)
   rw[hf,q0 2 (by omega)];exact this
  ·exact h.keys j u k q hu2 hk
 ·show(if nth raw 0=2 then z.q++[(i:Int)]else z.q).Nodup
  split
  ·rw[List.nodup_append];refine⟨h.qn,by simp,fun a ha b hb=>?_⟩;rw[List.mem_singleton]at hb;subst hb;intro e;subst e;obtain⟨-,u,hu,-⟩:=h.qT _ ha;have:z.T i=some u:=hu;rw[hT]at this;cases this
  ·exact h.qn
 ·have hj2:j∈(if nth raw 0=2 then z.q++[(i:Int)]else z.q):=hj;have hq:j∈z.q->0<=j/\∃ u,(Dg X Y i raw n z).T j.toNat=some u/\nth u.raw 0=2:=by
   intro hm;obtain⟨a,u,hu,hk⟩:=h.qT j hm;refine⟨a,u,?_,hk⟩;show A2 z.T i _ j.toNat=_
   rw[Cb _ _ (fun e=>by rw[e,hT]at hu;cases hu)];exact hu
  split at hj2
  ·rename_i hk2
   rw[List.mem_append,List.mem_singleton]at hj2;rcases hj2 with hm|rfl
   ·exact hq hm
   ·refine⟨Int.natCast_nonneg _,⟨(Aj X Y raw z.st).1,n,(Aj X Y raw z.st).2.bk⟩,Cg _ _ _,?_⟩;show nth (Aj X Y raw z.st).1 0=2
    rw[hf,q0 0 (by omega)];exact hk2
  ·exact hq hj2
 ·rcases hold hu with ⟨rfl,rfl⟩|⟨-,hu2⟩
  ·rw[hraw];refine⟨hs,?_,?_,?_,?_,?_⟩
   ·show(Aj X Y raw z.st).1.length=18
    rw[hf];exact q4
   ·show nth (Aj X Y raw z.st).1 0=_
    rw[hf,q0 0 (by omega)]
   ·show nth (Aj X Y raw z.st).1 2=_
    rw[hf,q0 2 (by omega)]
   ·show nth (Aj X Y raw z.st).1 3=_
    rw[hf,q0 3 (by omega)]
   ·show ∀ j,4<=j->nth (Aj X Y raw z.st).1 j=_\/nth (Aj X Y raw z.st).1 j=0
    rw[hf];exact hsub
  ·exact h.snd j u hu2
 ·rcases hold hu with ⟨rfl,rfl⟩|⟨-,hu2⟩
  ·exact⟨h0,h1⟩
  ·exact h.en j u hu2
structure Jw (X Y:Int) (E E2:Nat->Prop) (z z2:LZ):Prop where
 s:∀ j:Nat,isD X Y j=true->z.st.cl j=true->¬ qZ z j->¬ E j->z2.st.cl j=true/\¬ qZ z2 j/\¬ E2 j/\z2.st.S j=z.st.S j
 f:∀ j:Nat,z.st.fm j=true->z2.st.fm j=true
 t:∀ i t,z.T i=some t->∃ t2,z2.T i=some t2/\t2.raw=t.raw/\t2.bk=t.bk
theorem Jw.refl(X Y:Int)(E:Nat->Prop)(z:LZ):Jw X Y E E z z:=⟨fun j h1 h2 h3 h4=>⟨h2,h3,h4,rfl⟩,fun j h=>h,fun i t h=>⟨t,h,rfl,rfl⟩⟩
theorem Jw.trans{X Y:Int}{E1 E2 E3:Nat->Prop}{a b c:LZ}(h:Jw X Y E1 E2 a b)(h2:Jw X Y E2 E3 b c):Jw X Y E1 E3 a c:=by
 refine⟨fun j h1 h3 h4 h5=>?_,fun j hj=>h2.f j (h.f j hj),fun i t ht=>?_⟩
 ·obtain⟨a1,a2,a3,a4⟩:=h.s j h1 h3 h4 h5;obtain⟨b1,b2,b3,b4⟩:=h2.s j h1 a1 a2 a3;exact⟨b1,b2,b3,b4.trans a4⟩
 ·obtain⟨t2,a1,a2,a3⟩:=h.t i t ht;obtain⟨t3,b1,b2,b3⟩:=h2.t i t2 a1;exact⟨t3,b1,b2.trans a2,b3.trans a3⟩
def rest(bk:Int->Option Int)(k:Nat)(j:Nat):Prop:=∃ k':Int,(k:Int)<=k'/\bk k'=some (j:Int)
theorem jO{X Y:Int}(hY:0<=Y){A:Nat->List Int}{z:LZ}(h:Ev X Y A z){i:Nat}(hT:z.T i=none)(n:Int)(raw:List Int)(E:Nat->Prop):Jw X Y E E z (Dg X Y i raw n z):=by
 have t:=N6 hY h.si raw;refine⟨fun j h1 h2 h3 h4=>?_,fun j hj=>?_,fun j u hu=>?_⟩
 ·obtain⟨a,b,c⟩:=t.gr j h2;refine⟨a,?_,h4,c⟩;rintro ⟨i2,hi2,u,k,hu,hk⟩;have hu2:A2 z.T i ⟨(Aj X Y raw z.st).1,n,(Aj X Y raw z.st).2.bk⟩ i2.toNat=some u:=hu;have hi3:i2∈(if nth raw 0=2 then z.q++[(i:Int)]else z.q):=hi2;by_cases hi:i2.toNat=i
  ·rw[hi,Cg]at hu2;obtain rfl:=Option.some.inj hu2;have:=(t.new k _ hk).2.2;rw[h2]at this;cases this
  ·rw[Cb _ _ hi]at hu2;split at hi3
   ·rw[List.mem_append,List.mem_singleton]at hi3;rcases hi3 with h5|rfl
    ·exact h3 ⟨i2,h5,u,k,hu2,hk⟩
    ·exact hi rfl
   ·exact h3 ⟨i2,hi3,u,k,hu2,hk⟩
 ·have:=(t.gr j (h.si.fc j hj)).2.1;show(Aj X Y raw z.st).2.fm j=true
  rw[this];exact hj
 ·refine⟨u,?_,rfl,rfl⟩;show A2 z.T i _ j=_
  rw[Cb _ _ (fun e=>by subst e;rw[hT]at hu;cases hu)];exact hu
theorem rL{X Y:Int}{z:LZ}{i:Nat}{t:TI}(ht:z.T i=some t)(n:Int)(E:Nat->Prop):Jw X Y E E z {z with T:=A2 z.T i {t with en:=n}}:=by
 have hT:∀ j u,A2 z.T i {t with en:=n} j=some u->∃ u0,z.T j=some u0/\u.raw=u0.raw/\u.bk=u0.bk:=by
  intro j u hu;by_cases hj:j=i
  ·subst hj;rw[Cg]at hu;obtain rfl:=Option.some.inj hu;exact⟨t,ht,rfl,rfl⟩
  ·rw[Cb _ _ hj]at hu;exact⟨u,hu,rfl,rfl⟩
 refine⟨fun j h1 h2 h3 h4=>⟨h2,?_,h4,rfl⟩,fun j hj=>hj,fun j u hu=>?_⟩
 ·rintro ⟨i2,hi2,u,k,hu,hk⟩;obtain⟨u0,h5,h6,h7⟩:=hT _ u hu;exact h3 ⟨i2,hi2,u0,k,h5,by rw[<-h7];exact hk⟩
 ·by_cases hj:j=i
  ·subst hj;rw[ht]at hu;obtain rfl:=Option.some.inj hu;exact⟨_,Cg _ _ _,rfl,rfl⟩
  ·exact⟨u,by show A2 z.T i _ j=_;rw[Cb _ _ hj];exact hu,rfl,rfl⟩
theorem Ev.enu{X Y:Int}{A:Nat->List Int}{z:LZ}(h:Ev X Y A z){i:Nat}{t:TI}(ht:z.T i=some t){n:Int}(h0:0<=n)(h1:n<=100):Ev X Y A {z with T:=A2 z.T i {t with en:=n}}:=by
 have hT:∀ j u,A2 z.T i {t with en:=n} j=some u->∃ u0,z.T j=some u0/\u.raw=u0.raw/\u.bk=u0.bk/\(u.en=u0.en\/u.en=n):=by
  intro j u hu;by_cases hj:j=i
  ·subst hj;rw[Cg]at hu;obtain rfl:=Option.some.inj hu;exact⟨t,ht,rfl,rfl,.inr rfl⟩
  ·rw[Cb _ _ hj]at hu;exact⟨u,hu,rfl,rfl,.inl rfl⟩
 refine⟨h.si,fun j u k q hu hk=>?_,fun j u k j' u' k' q hu hk hu' hk'=>?_,fun j u k q hu hk=>?_,h.qn,fun j hj=>?_,fun j u hu=>?_,fun j u hu=>?_⟩
 ·obtain⟨u0,a,b,c,-⟩:=hT j u hu;exact h.blk j u0 k q a (by rw[<-c];exact hk)
 ·obtain⟨u0,a,b,c,-⟩:=hT j u hu;obtain⟨u0',a',b',c',-⟩:=hT j' u' hu';exact h.inj j u0 k j' u0' k' q a (by rw[<-c];exact hk) a' (by rw[<-c'];exact hk')
 ·obtain⟨u0,a,b,c,-⟩:=hT j u hu;rw[b];exact h.keys j u0 k q a (by rw[<-c];exact hk)
 ·obtain⟨a,u,hu,hk⟩:=h.qT j hj;refine⟨a,?_⟩;by_cases hji:j.toNat=i
  ·refine⟨_,by show A2 z.T i _ j.toNat=_;rw[hji,Cg],?_⟩;rw[hji,ht]at hu;obtain rfl:=Option.some.inj hu;exact hk
  ·exact⟨u,by show A2 z.T i _ j.toNat=_;rw[Cb _ _ hji];exact hu,hk⟩
 ·obtain⟨u0,a,b,c,-⟩:=hT j u hu;rw[b];exact h.snd j u0 a
 ·obtain⟨u0,a,b,c,d⟩:=hT j u hu;rcases d with d|d
  ·rw[d];exact h.en j u0 a
  ·rw[d];exact⟨h0,h1⟩
theorem Oe{X Y:Int}(hY:0<=Y){A:Nat->List Int}{z z2:LZ}(h:Ev X Y A z){i:Nat}(he:Cn X Y A i z=some z2)(E:Nat->Prop):Ev X Y A z2/\Jw X Y E E z z2/\(∀ j:Int,(∃ t,z.T j.toNat=some t)->j∉z.q->0<=j->j∉z2.q)/\∀ j:Nat,z.st.cl j=true->z2.st.S j=z.st.S j:=by
 unfold Cn at he;split at he
 ·rename_i t ht
  split at he
  ·cases he
  ·rename_i hc
   obtain rfl:=Option.some.inj he;have:=h.en i t ht;exact⟨h.enu ht (by omega) (by have:=fun e=>hc (.inr e);omega),rL ht _ E,fun _ _ hj _=>hj,fun _ _=>rfl⟩
 ·rename_i ht
  split at he
  ·rename_i hs
   obtain rfl:=Option.some.inj he;refine⟨h.take hY ht hs (by omega) (by omega),jO hY h ht 1 _ E,fun j hj hq h0 hq2=>?_,fun j hj=>((N6 hY h.si (Am (A i)).1).gr j hj).2.2⟩;have hq3:j∈(if nth (Am (A i)).1 0=2 then z.q++[(i:Int)]else z.q):=hq2;split at hq3
   ·rw[List.mem_append,List.mem_singleton]at hq3;rcases hq3 with h5|rfl
    ·exact hq h5
    ·obtain⟨u,hu⟩:=hj;have:z.T i=some u:=hu;rw[ht]at this;cases this
   ·exact hq hq3
  ·cases he
structure dH (X Y:Int) (A:Nat->List Int) (d:Nat) (E E2:Nat->Prop) (z z2:LZ):Prop where
 inv:Ev X Y A z2
 st:Jw X Y E E2 z z2
 q:(d:Int)∉z2.q
theorem mT:Al (zl 128)=List.replicate 32 0:=by decide+kernel
theorem rO(c:List Int):P7 (zl 128) c:=by
 intro i;right
 rw[mT];unfold nth;rw[List.getElem?_replicate];split<;>rfl
theorem Ev.wipe{X Y:Int}{A:Nat->List Int}{z:LZ}(h:Ev X Y A z){p:Nat}(hc:z.st.cl p=true):Ev X Y A (Db p z):=by
 refine⟨⟨h.si.fc,h.si.cd,fun k q hk=>(by cases hk),fun k k' q hk=>(by cases hk),fun j hj=>?_,fun j hj=>?_,fun j hj=>?_⟩,h.blk,h.inj,h.keys,h.qn,h.qT,h.snd,h.en⟩
 ·show Ay z.st.S p (zl 128) j=A j
  rw[Ca _ _ (fun e=>by subst e;rw[show z.st.cl j=false from hj]at hc;cases hc)];exact h.si.un j hj
 ·show(Ay z.st.S p (zl 128) j).length=128/\A4 (Ay z.st.S p (zl 128) j)
  by_cases hjp:j=p
  ·subst hjp;rw[Cx];exact⟨C2 _,F0 _⟩
  ·rw[Ca _ _ hjp];exact h.si.ln j hj
 ·show P7 (Ay z.st.S p (zl 128) j) _
  by_cases hjp:j=p
  ·subst hjp;rw[Cx];exact rO _
  ·rw[Ca _ _ hjp];exact h.si.sub j hj
theorem Uc{X Y:Int}(hY:0<=Y){A:Nat->List Int}{d:Nat}{t:TI}{zn:LZ×(ByteArray->Bool)}(h:Ev X Y A zn.1)(hT:∃ t0,zn.1.T d=some t0/\t0.bk=t.bk)(hq:(d:Int)∉zn.1.q){k:Nat}{p:Int}(hk:t.bk k=some p):
  dH X Y A d (rest t.bk k) (rest t.bk (k+1)) zn.1 (Cy X Y A p.toNat zn).1:=by
 obtain⟨t0,ht0,hb0⟩:=hT;obtain⟨hd,hc⟩:=h.blk d t0 k p ht0 (by rw[hb0];exact hk);have hp:=(B5 hY hd).1;have hmono:∀ j,rest t.bk (k+1) j->rest t.bk k j:=fun j ⟨k',h1,h2⟩=>⟨k',by omega,h2⟩
 have hpk:∀ j:Nat,¬ rest t.bk k j->j≠p.toNat:=fun j hj e=>hj ⟨k,Int.le_refl _,by rw[hk,e,hp]⟩
 have hstay:Jw X Y (rest t.bk k) (rest t.bk (k+1)) zn.1 zn.1:=⟨fun j h1 h2 h3 h4=>⟨h2,h3,fun h5=>h4 (hmono j h5),rfl⟩,fun j h=>h,fun i t h=>⟨t,h,rfl,rfl⟩⟩;have hwipe:dH X Y A d (rest t.bk k) (rest t.bk (k+1)) zn.1 (Db p.toNat zn.1):=by
  refine⟨h.wipe (by rw[hp];exact hc),⟨fun j h1 h2 h3 h4=>⟨h2,h3,fun h5=>h4 (hmono j h5),?_⟩,fun j h=>h,fun i t h=>⟨t,h,rfl,rfl⟩⟩,hq⟩;show Ay zn.1.st.S p.toNat (zl 128) j=_
  exact Ca _ _ (hpk j h4)
 unfold Cy;split
 ·exact⟨h,hstay,hq⟩
 ·split
  ·rename_i h2
   obtain⟨-,-,h3⟩:=h2;generalize (Ax (zn.1.st.S p.toNat)).1.toNat=i at*;generalize (Ax (zn.1.st.S p.toNat)).2.1=nm at*;unfold Cz at h3 ⊢;split at h3
   ·cases h3
   ·rename_i h4
    rw[if_neg h4];cases he:Cn X Y A i zn.1 with
    |none=>rw[he]at h3;cases h3
    |some z2=>
     obtain⟨a,b,c,-⟩:=Oe hY h he (rest t.bk k);exact⟨a,⟨fun j h1 h2 h3 h4=>by
      obtain⟨x1,x2,x3,x4⟩:=b.s j h1 h2 h3 h4;exact⟨x1,x2,fun h5=>h4 (hmono j h5),x4⟩,b.f,b.t⟩,c d ⟨t0,ht0⟩ hq (Int.natCast_nonneg _)⟩
  ·exact hwipe
theorem Rz{X Y:Int}(hY:0<=Y){A:Nat->List Int}{d:Nat}{t:TI}:∀ (m k:Nat) (zn:LZ×(ByteArray->Bool)),Ev X Y A zn.1->(∃ t0,zn.1.T d=some t0/\t0.bk=t.bk)->(d:Int)∉zn.1.q->dH X Y A d (rest t.bk k) (rest t.bk (k+m)) zn.1 (G4 X Y A t.bk m k zn).1
 |0,k,zn,h,hT,hq=>⟨h,Jw.refl _ _ _ _,hq⟩
 |m+1,k,zn,h,hT,hq=>by
  show dH X Y A d _ _ zn.1 (G4 X Y A t.bk m (k+1) _).1
  cases hk:t.bk k with
  |none=>
   have ih:=Rz hY m (k+1) zn h hT hq;have hst:Jw X Y (rest t.bk k) (rest t.bk (k+1)) zn.1 zn.1:=⟨fun j h1 h2 h3 h4=>⟨h2,h3,fun⟨k',h5,h6⟩=>h4 ⟨k',by omega,h6⟩,rfl⟩,fun j h=>h,fun i t h=>⟨t,h,rfl,rfl⟩⟩;exact⟨ih.inv,by rw[show k+(m+1)=k+1+m by omega];exact hst.trans ih.st,ih.q⟩
  |some p=>
   have hs:=Uc hY h hT hq hk;obtain⟨t0,ht0,hb0⟩:=hT;obtain⟨t1,ht1,-,hb1⟩:=hs.st.t d t0 ht0;have ih:=Rz hY m (k+1) (Cy X Y A p.toNat zn) hs.inv ⟨t1,ht1,hb1.trans hb0⟩ hs.q;exact⟨ih.inv,by rw[show k+(m+1)=k+1+m by omega];exact hs.st.trans ih.st,ih.q⟩
def noE(_:Nat):Prop:=False
theorem Ev.pop{X Y:Int}{A:Nat->List Int}{z:LZ}(h:Ev X Y A z){i:Int}{r:List Int}(hq:z.q=i::r):Ev X Y A {z with q:=r}:=
 ⟨h.si,h.blk,h.inj,h.keys,by have:=h.qn;rw[hq]at this;exact(List.nodup_cons.1 this).2,fun j hj=>h.qT j (by rw[hq];exact List.mem_cons_of_mem _ hj),h.snd,h.en⟩
theorem dJ{X Y:Int}(hY:0<=Y){A:Nat->List Int}{z:LZ}(h:Ev X Y A z){i:Int}{r:List Int}(hq:z.q=i::r):
  Ev X Y A (Ct X Y A i.toNat {z with q:=r})/\Jw X Y noE noE z (Ct X Y A i.toNat {z with q:=r}):=by
 obtain⟨h0,t,ht,-⟩:=h.qT i (by rw[hq];exact List.mem_cons_self);have hp:=h.pop hq;have hir:i∉r:=by have:=h.qn;rw[hq]at this;exact(List.nodup_cons.1 this).1
 have hi:(i.toNat:Int)=i:=by omega
 have hd:=Rz hY (t:=t) (Aq (nth t.raw 2)).toNat 0 ({z with q:=r},fun _=>false) hp ⟨t,ht,rfl⟩ (by rw[hi];exact hir);have e:Ct X Y A i.toNat {z with q:=r}=(G4 X Y A t.bk (Aq (nth t.raw 2)).toNat 0 ({z with q:=r},fun _=>false)).1:=by
  unfold Ct;show(match z.T i.toNat with|none=>_|some t=>_)=_
  rw[ht]
 rw[e];refine⟨hd.inv,?_⟩;have s1:Jw X Y noE (rest t.bk 0) z {z with q:=r}:=by
  refine⟨fun j h1 h2 h3 h4=>⟨h2,?_,?_,rfl⟩,fun j h=>h,fun i t h=>⟨t,h,rfl,rfl⟩⟩
  ·rintro ⟨i2,hi2,u,k,hu,hk⟩;exact h3 ⟨i2,by rw[hq];exact List.mem_cons_of_mem _ hi2,u,k,hu,hk⟩
  ·rintro ⟨k',h5,h6⟩;exact h3 ⟨i,by rw[hq];exact List.mem_cons_self,t,k',ht,h6⟩
 have s2:=hd.st;rw[Nat.zero_add]at s2;have s3:=s1.trans s2;refine⟨fun j h1 h2 h3 h4=>?_,s3.f,s3.t⟩;obtain⟨a,b,c,d⟩:=s3.s j h1 h2 h3 h4;exact⟨a,b,fun h=>h,d⟩
theorem bJ{X Y:Int}(hY:0<=Y){A:Nat->List Int}:∀ (f:Nat) (z:LZ),Ev X Y A z->Ev X Y A (Gq X Y A f z)/\Jw X Y noE noE z (Gq X Y A f z)
 |0,z,h=>⟨h,Jw.refl _ _ _ _⟩
 |f+1,z,h=>by
  cases hq:z.q with
  |nil=>rw[Gj _ _ _ _ _ hq];exact⟨h,Jw.refl _ _ _ _⟩
  |cons i r=>
   rw[E0 _ _ _ _ _ _ _ hq];obtain⟨a,b⟩:=dJ hY h hq;obtain⟨c,d⟩:=bJ hY f _ a;exact⟨c,b.trans d⟩
def psT(S:Nat->List Int)(t:TI):List Int:=Dq (Aq (nth t.raw 2)) S t.raw
def tbT(S:Nat->List Int)(t:TI):List Int:=Gh (Aq (nth t.raw 2)) S t.raw
structure PZ (X Y:Int) (z:LZ):Prop where
 sh:∀ i t,z.T i=some t->Ic (Aq (nth t.raw 2)) z.st.S t.raw
 ok:∀ i t,z.T i=some t->OkL X Y (fun _=>false) (psT z.st.S t)
 cl:∀ i t,z.T i=some t->∀ p∈psT z.st.S t,z.st.cl p=true
 dj:∀ i t i' t' p,z.T i=some t->z.T i'=some t'->p∈psT z.st.S t->p∈psT z.st.S t'->i=i'
 un:∀ q,z.st.cl q=true->∃ i t,z.T i=some t/\q∈psT z.st.S t
 tb:∀ i t,z.T i=some t->∀ p∈tbT z.st.S t,z.st.fm p=true/\∀ i' t' k,z.T i'=some t'->t'.bk k≠some p
 bk:∀ i t,z.T i=some t->∀ q,0<=q->q<1068->t.bk q=H9 (Hm (Aq (nth t.raw 2)) z.st.S t.raw q)
theorem PZ.same{X Y:Int}{z z2:LZ}(h:PZ X Y z)(h1:∀ i t2,z2.T i=some t2->∃ t,z.T i=some t/\t2.raw=t.raw/\t2.bk=t.bk)(h2:∀ i t,z.T i=some t->∃ t2,z2.T i=some t2/\t2.raw=t.raw/\t2.bk=t.bk)
  (hcl:z2.st.cl=z.st.cl) (hfm:z2.st.fm=z.st.fm) (hS:∀ i t,z.T i=some t->∀ q∈tbT z.st.S t,z2.st.S q.toNat=z.st.S q.toNat):PZ X Y z2:=by
 have key:∀ i t2,z2.T i=some t2->∃ t,z.T i=some t/\t2.raw=t.raw/\t2.bk=t.bk/\psT z2.st.S t2=psT z.st.S t/\tbT z2.st.S t2=tbT z.st.S t/\(Ic (Aq (nth t2.raw 2)) z2.st.S t2.raw↔Ic (Aq (nth t.raw 2)) z.st.S t.raw)/\∀ q,Hm (Aq (nth t2.raw 2)) z2.st.S t2.raw q=Hm (Aq (nth t.raw 2)) z.st.S t.raw q:=by
  intro i t2 ht2;obtain⟨t,ht,e1,e2⟩:=h1 i t2 ht2;obtain⟨a,b,c,d⟩:=Wv (Aq (nth t.raw 2)) z.st.S z2.st.S t.raw (hS i t ht);refine⟨t,ht,e1,e2,?_,?_,?_,?_⟩
  ·unfold psT;rw[e1];exact a
  ·unfold tbT;rw[e1];exact b
  ·rw[e1];exact c
  ·rw[e1];exact d
 refine⟨fun i t2 ht2=>?_,fun i t2 ht2=>?_,fun i t2 ht2 p hp=>?_,fun i t2 i' t2' p ht2 ht2' hp hp'=>?_,fun q hq=>?_,fun i t2 ht2 p hp=>?_,fun i t2 ht2 q h0 h9=>?_⟩
 ·obtain⟨t,ht,-,-,-,-,e,-⟩:=key i t2 ht2;exact e.2 (h.sh i t ht)
 ·obtain⟨t,ht,-,-,e,-⟩:=key i t2 ht2;rw[e];exact h.ok i t ht
 ·obtain⟨t,ht,-,-,e,-⟩:=key i t2 ht2;rw[e]at hp;rw[hcl];exact h.cl i t ht p hp
 ·obtain⟨t,ht,-,-,e,-⟩:=key i t2 ht2;obtain⟨t',ht',-,-,e',-⟩:=key i' t2' ht2';rw[e]at hp;rw[e']at hp';exact h.dj i t i' t' p ht ht' hp hp'
 ·rw[hcl]at hq;obtain⟨i,t,ht,hp⟩:=h.un q hq;obtain⟨t2,ht2,-,-⟩:=h2 i t ht;obtain⟨t0,ht0,-,-,e,-⟩:=key i t2 ht2;rw[ht]at ht0;cases ht0;exact⟨i,t2,ht2,by rw[e];exact hp⟩
 ·obtain⟨t,ht,-,-,-,e,-⟩:=key i t2 ht2;rw[e]at hp;obtain⟨a,b⟩:=h.tb i t ht p hp;refine⟨by rw[hfm];exact a,fun i' t2' k ht2'=>?_⟩;obtain⟨t',ht',-,e',-⟩:=key i' t2' ht2';rw[e'];exact b i' t' k ht'
 ·obtain⟨t,ht,-,e',-,-,-,e⟩:=key i t2 ht2;rw[e',e];exact h.bk i t ht q h0 h9
theorem Hv(X Y:Int)(raw:List Int)(st:LS):(Aj X Y raw st).1=(Az X Y (Aq (nth raw 2)) raw (Cs st)).1/\(Aj X Y raw st).2=if nth raw 0=2 then Eg (Aq (nth raw 2)) (Az X Y (Aq (nth raw 2)) raw (Cs st)).2 else Bt (Aq (nth raw 2)) (nth raw 2) (Az X Y (Aq (nth raw 2)) raw (Cs st)).2:=by
 unfold Aj Cs;simp only;split<;>exact⟨rfl,rfl⟩
theorem Md(n z:Int)(st:LS):(Bt n z st).cl=st.cl/\(Bt n z st).fm=st.fm/\(Bt n z st).bk=st.bk:=by
 unfold Bt;split
 ·exact⟨rfl,rfl,rfl⟩
 ·split<;>exact⟨rfl,rfl,rfl⟩
theorem rQ{n z:Int}{st:LS}(hv:∀ k p,st.bk k=some p->0<=p)(j:Nat)(hj:∀ k,st.bk k≠some (j:Int)):(Bt n z st).S j=st.S j:=by
 unfold Bt;split
 ·rfl
 ·rename_i p hp
  split
  ·rfl
  ·refine Ca _ _ (fun e=>hj (n-1) ?_);have:=hv _ _ hp;rw[hp,e];congr 1;omega
structure uS (X Y:Int) (st st2:LS) (n:Int) (raw2:List Int):Prop where
 sh:Ic n st2.S raw2
 ok:OkL X Y st.cl (Dq n st2.S raw2)
 cl:st2.cl=Di st.cl (Dq n st2.S raw2)
 tb:∀ q∈Gh n st2.S raw2,st2.fm q=true/\∀ k,st2.bk k≠some q
 bk:∀ q,0<=q->q<1068->st2.bk q=H9 (Hm n st2.S raw2 q)
theorem tV{X Y:Int}(hY:0<=Y){A:Nat->List Int}{st:LS}(h:SI X Y A (Cs st)){raw:List Int}(hr:raw.length=18):uS X Y st (Aj X Y raw st).2 (Aq (nth raw 2)) (Aj X Y raw st).1:=by
 obtain⟨i,d,g⟩:=W9 hY (Aq (nth raw 2)) raw h;obtain⟨a1,a2,a3,a4,a5⟩:=mN hY (Aq (nth raw 2)) hr h (fun _=>rfl);obtain⟨e1,e2⟩:=Hv X Y raw st;rw[e1,e2];change OkL X Y st.cl _ at a2;change _=Di st.cl _ at a3;generalize Az X Y (Aq (nth raw 2)) raw (Cs st)=r at*;have hnb:∀ q∈Gh (Aq (nth raw 2)) r.2.S r.1,∀ k,r.2.bk k≠some q:=fun q hq k hk=>by
  have:=(i.bk k q hk).2.2;rw[a4 q hq]at this;cases this
 split
 ·refine⟨a1,a2,a3,fun q hq=>⟨Nn (a4 q hq),hnb q hq⟩,a5⟩
 ·obtain⟨t1,t2,t3⟩:=Md (Aq (nth raw 2)) (nth raw 2) r.2;have hv:∀ k p,r.2.bk k=some p->0<=p:=fun k p hk=>Int.le_of_lt (Wy hY (i.bk k p hk).1)
  obtain⟨s1,s2,s3,s4⟩:=Wv (Aq (nth raw 2)) r.2.S (Bt (Aq (nth raw 2)) (nth raw 2) r.2).S r.1 (fun q hq=>by
   have hd:=(a2.1 q (Ki _ _ _ q hq)).1;have e:=(B5 hY hd).1;refine rQ hv _ (fun k hk=>?_);rw[e]at hk;exact hnb q hq k hk)
  refine⟨s3.2 a1,by rw[s1];exact a2,by rw[s1,t1];exact a3,fun q hq=>?_,fun q h0 h9=>by rw[t3,s4];exact a5 q h0 h9⟩;rw[s2]at hq;exact⟨by rw[t2];exact a4 q hq,fun k=>by rw[t3];exact hnb q hq k⟩
theorem PZ.take{X Y:Int}(hY:0<=Y){A:Nat->List Int}{z:LZ}(h:PZ X Y z)(hI:Ev X Y A z){i:Nat}(hT:z.T i=none){raw:List Int}(hr:raw.length=18)(n:Int):PZ X Y (Dg X Y i raw n z):=by
 have hf:=tV hY hI.si hr;have hti:=N6 hY hI.si raw;have e2:nth (Aj X Y raw z.st).1 2=nth raw 2:=by
  rw[(Hv X Y raw z.st).1];exact(Fm (X:=X) hY (Aq (nth raw 2)) hr (Cs z.st)).1 2 (by omega)
 have hS:(Dg X Y i raw n z).st=(Aj X Y raw z.st).2:=rfl;have hnew:(Dg X Y i raw n z).T i=some ⟨(Aj X Y raw z.st).1,n,(Aj X Y raw z.st).2.bk⟩:=Cg _ _ _;have hold:∀ {j:Nat} {u:TI},(Dg X Y i raw n z).T j=some u->(j=i/\u=⟨(Aj X Y raw z.st).1,n,(Aj X Y raw z.st).2.bk⟩)\/(j≠i/\z.T j=some u):=by
  intro j u hu;have hu2:A2 z.T i ⟨(Aj X Y raw z.st).1,n,(Aj X Y raw z.st).2.bk⟩ j=some u:=hu;by_cases hj:j=i
  ·subst hj;rw[Cg]at hu2;exact .inl ⟨rfl,(Option.some.inj hu2).symm⟩
  ·rw[Cb _ _ hj]at hu2;exact .inr ⟨hj,hu2⟩
 have hkeep:∀ {j:Nat} {u:TI},z.T j=some u->(Dg X Y i raw n z).T j=some u:=by
  intro j u hu;show A2 z.T i _ j=_
  rw[Cb _ _ (fun e=>by rw[e,hT]at hu;cases hu)];exact hu
 generalize Aj X Y raw z.st=x at*;have hst:∀ j u,z.T j=some u->psT x.2.S u=psT z.st.S u/\tbT x.2.S u=tbT z.st.S u/\(Ic (Aq (nth u.raw 2)) x.2.S u.raw↔Ic (Aq (nth u.raw 2)) z.st.S u.raw)/\∀ q,Hm (Aq (nth u.raw 2)) x.2.S u.raw q=Hm (Aq (nth u.raw 2)) z.st.S u.raw q:=by
  intro j u hu;refine Wv (Aq (nth u.raw 2)) z.st.S x.2.S u.raw (fun q hq=>?_);have hc:=h.cl j u hu q (Ki _ _ _ q hq);have hd:=((h.ok j u hu).1 q (Ki _ _ _ q hq)).1;have e:=(B5 hY hd).1;exact(hti.gr q.toNat (by rw[e];exact hc)).2.2
 have hpn:psT x.2.S ⟨x.1,n,x.2.bk⟩=Dq (Aq (nth raw 2)) x.2.S x.1:=by
  show Dq (Aq (nth x.1 2)) x.2.S x.1=_
  rw[e2]
 have htn:tbT x.2.S ⟨x.1,n,x.2.bk⟩=Gh (Aq (nth raw 2)) x.2.S x.1:=by
  show Gh (Aq (nth x.1 2)) x.2.S x.1=_
  rw[e2]
 have hcln:∀ q,q∈Dq (Aq (nth raw 2)) x.2.S x.1->z.st.cl q=false:=fun q hq=>(hf.ok.1 q hq).2
 refine⟨fun j u hu=>?_,fun j u hu=>?_,fun j u hu p hp=>?_,fun j u j' u' p hu hu' hp hp'=>?_,fun q hq=>?_,fun j u hu p hp=>?_,fun j u hu q h0 h9=>?_⟩
 ·rw[hS];rcases hold hu with ⟨rfl,rfl⟩|⟨-,hu2⟩
  ·show Ic (Aq (nth x.1 2)) x.2.S x.1
   rw[e2];exact hf.sh
  ·exact(hst j u hu2).2.2.1.2 (h.sh j u hu2)
 ·rw[hS];rcases hold hu with ⟨rfl,rfl⟩|⟨-,hu2⟩
  ·rw[hpn];exact hf.ok.mono (fun _ _=>rfl)
  ·rw[(hst j u hu2).1];exact h.ok j u hu2
 ·rw[hS]at hp ⊢;rcases hold hu with ⟨rfl,rfl⟩|⟨-,hu2⟩
  ·rw[hpn]at hp;rw[hf.cl];exact Nj.2 (.inr hp)
  ·rw[(hst j u hu2).1]at hp;rw[hf.cl];exact Nj.2 (.inl (h.cl j u hu2 p hp))
 ·rw[hS]at hp hp';rcases hold hu with ⟨rfl,rfl⟩|⟨-,hu2⟩
  ·rcases hold hu' with ⟨rfl,rfl⟩|⟨-,hu2'⟩
   ·rfl
   ·rw[hpn]at hp;rw[(hst j' u' hu2').1]at hp';have:=h.cl j' u' hu2' p hp';rw[hcln p hp]at this;cases this
  ·rcases hold hu' with ⟨rfl,rfl⟩|⟨-,hu2'⟩
   ·rw[hpn]at hp';rw[(hst j u hu2).1]at hp;have:=h.cl j u hu2 p hp;rw[hcln p hp']at this;cases this
   ·rw[(hst j u hu2).1]at hp;rw[(hst j' u' hu2').1]at hp';exact h.dj j u j' u' p hu2 hu2' hp hp'
 ·rw[hS,hf.cl]at hq;rcases Nj.1 hq with hq|hq
  ·obtain⟨j,u,hu,hp⟩:=h.un q hq;exact⟨j,u,hkeep hu,by rw[hS,(hst j u hu).1];exact hp⟩
  ·exact⟨i,_,hnew,by rw[hS,hpn];exact hq⟩
 ·rw[hS]at hp ⊢;rcases hold hu with ⟨rfl,rfl⟩|⟨-,hu2⟩
  ·rw[htn]at hp;obtain⟨a,b⟩:=hf.tb p hp;refine⟨a,fun j' u' k hu'=>?_⟩;rcases hold hu' with ⟨rfl,rfl⟩|⟨-,hu2'⟩
   ·exact b k
   ·intro hk;have:=(hI.blk j' u' k p hu2' hk).2;rw[hcln p (Ki _ _ _ p hp)]at this;cases this
  ·rw[(hst j u hu2).2.1]at hp;obtain⟨a,b⟩:=h.tb j u hu2 p hp;have hc:=h.cl j u hu2 p (Ki _ _ _ p hp);have hd:=((h.ok j u hu2).1 p (Ki _ _ _ p hp)).1;have e:=(B5 hY hd).1;have hfm:=(hti.gr p.toNat (by rw[e];exact hc)).2.1;rw[e]at hfm;refine⟨by rw[hfm];exact a,fun j' u' k hu'=>?_⟩;rcases hold hu' with ⟨rfl,rfl⟩|⟨-,hu2'⟩
   ·intro hk;have:=(hti.new k p hk).2.2;rw[hc]at this;cases this
   ·exact b j' u' k hu2'
 ·rw[hS];rcases hold hu with ⟨rfl,rfl⟩|⟨-,hu2⟩
  ·show x.2.bk q=H9 (Hm (Aq (nth x.1 2)) x.2.S x.1 q)
   rw[e2];exact hf.bk q h0 h9
  ·rw[(hst j u hu2).2.2.2];exact h.bk j u hu2 q h0 h9
theorem PZ.enu{X Y:Int}{z:LZ}(h:PZ X Y z){i:Nat}{t:TI}(ht:z.T i=some t)(n:Int):PZ X Y {z with T:=A2 z.T i {t with en:=n}}:=by
 refine h.same (fun j t2 h2=>?_) (fun j t2 h2=>?_) rfl rfl (fun _ _ _ _ _=>rfl)
 ·have h3:A2 z.T i {t with en:=n} j=some t2:=h2;by_cases hj:j=i
  ·subst hj;rw[Cg]at h3;cases h3;exact⟨t,ht,rfl,rfl⟩
  ·rw[Cb _ _ hj]at h3;exact⟨t2,h3,rfl,rfl⟩
 ·by_cases hj:j=i
  ·subst hj;rw[ht]at h2;cases h2;exact⟨{t with en:=n},Cg _ _ _,rfl,rfl⟩
  ·exact⟨t2,(Cb _ _ hj).trans h2,rfl,rfl⟩
theorem PZ.wipe{X Y:Int}(hY:0<=Y){z:LZ}(h:PZ X Y z){i:Nat}{t:TI}(ht:z.T i=some t){k p:Int}(hk:t.bk k=some p):PZ X Y (Db p.toNat z):=by
 refine h.same (fun j t2 h2=>⟨t2,h2,rfl,rfl⟩) (fun j t2 h2=>⟨t2,h2,rfl,rfl⟩) rfl rfl (fun j u hu q hq=>?_);have hd:=((h.ok j u hu).1 q (Ki _ _ _ q hq)).1;have e:=(B5 hY hd).1;refine Ca _ _ (fun e2=>?_);have hb:=(h.tb j u hu q hq).2 i t k ht;rw[hk]at hb;apply hb
 congr 1
 have:0<q:=Wy hY hd;omega
theorem PZ.q{X Y:Int}{z:LZ}(h:PZ X Y z)(q:List Int):PZ X Y {z with q:=q}:=⟨h.sh,h.ok,h.cl,h.dj,h.un,h.tb,h.bk⟩
def Qf(A S:Nat->List Int)(raw:List Int)(k p:Int):Prop:=
 if nth raw 0=2 then S p.toNat=A p.toNat\/S p.toNat=zl 128
 else S p.toNat=if k=Aq (nth raw 2)-1/\nth raw 2%128≠0 then C8 (A p.toNat) (nth raw 2%128).toNat else A p.toNat
structure CZ (A:Nat->List Int) (z:LZ):Prop where
 b:∀ i t,z.T i=some t->∀ k p,t.bk k=some p->Qf A z.st.S t.raw k p
 f:∀ i t,z.T i=some t->∀ k p,t.bk k=some p->(z.st.fm p=true↔nth t.raw 0=2)
theorem CZ.same{X Y:Int}{A:Nat->List Int}{z z2:LZ}(h:CZ A z)(h1:∀ i t2,z2.T i=some t2->∃ t,z.T i=some t/\t2.raw=t.raw/\t2.bk=t.bk)(hS:∀ i t k p,z.T i=some t->t.bk k=some p->z2.st.S p.toNat=z.st.S p.toNat)(hF:z2.st.fm=z.st.fm):CZ A z2:=by
 refine⟨fun i t2 ht2 k p hk=>?_,fun i t2 ht2 k p hk=>?_⟩
 ·obtain⟨t,ht,e1,e2⟩:=h1 i t2 ht2;rw[e2]at hk;have:=h.b i t ht k p hk;unfold Qf at this ⊢;rw[e1,hS i t k p ht hk];exact this
 ·obtain⟨t,ht,e1,e2⟩:=h1 i t2 ht2;rw[e2]at hk;rw[hF,e1];exact h.f i t ht k p hk
theorem CZ.enu{A:Nat->List Int}{z:LZ}(h:CZ A z){i:Nat}{t:TI}(ht:z.T i=some t)(n:Int):CZ A {z with T:=A2 z.T i {t with en:=n}}:=by
 refine h.same (X:=0) (Y:=0) (fun j t2 h2=>?_) (fun _ _ _ _ _ _=>rfl) rfl;have h3:A2 z.T i {t with en:=n} j=some t2:=h2;by_cases hj:j=i
 ·subst hj;rw[Cg]at h3;cases h3;exact⟨t,ht,rfl,rfl⟩
 ·rw[Cb _ _ hj]at h3;exact⟨t2,h3,rfl,rfl⟩
theorem CZ.wipe{X Y:Int}(hY:0<=Y){A:Nat->List Int}{z:LZ}(h:CZ A z)(hI:Ev X Y A z){i:Nat}{t:TI}(ht:z.T i=some t)(h2:nth t.raw 0=2){k p:Int}(hk:t.bk k=some p):CZ A (Db p.toNat z):=by
 have hp:=(B5 hY (hI.blk i t k p ht hk).1).1;refine⟨fun j u hu k' p' hk'=>?_,h.f⟩;have hu':z.T j=some u:=hu;have hb:=h.b j u hu' k' p' hk';have hp':=(B5 hY (hI.blk j u k' p' hu' hk').1).1;by_cases e:p'=p
 ·subst e;obtain⟨rfl,-⟩:=hI.inj j u k' i t k p' hu' hk' ht hk;have eu:u=t:=(by rw[ht]at hu';exact(Option.some.inj hu').symm);subst eu;unfold Qf;rw[if_pos h2];right
  exact Cx _ _ _
 ·have hS:(Db p.toNat z).st.S p'.toNat=z.st.S p'.toNat:=Ca _ _ (fun e2=>e (by rw[<-hp, <-hp',e2]));unfold Qf at hb ⊢;rw[hS];exact hb
theorem CZ.q{A:Nat->List Int}{z:LZ}(h:CZ A z)(q:List Int):CZ A {z with q:=q}:=⟨h.b,h.f⟩
theorem CZ.take{X Y:Int}(hY:0<=Y){A:Nat->List Int}{z:LZ}(h:CZ A z)(hI:Ev X Y A z){i:Nat}(hT:z.T i=none){raw:List Int}(hr:raw.length=18)(n:Int):CZ A (Dg X Y i raw n z):=by
 obtain⟨pi,d,g⟩:=W9 hY (Aq (nth raw 2)) raw hI.si;have hti:=N6 hY hI.si raw;obtain⟨e1,e2⟩:=Hv X Y raw z.st;have hkind:=(Fm (X:=X) hY (Aq (nth raw 2)) hr (Cs z.st)).1;rw[<-e1]at hkind;have hkeys:=Ny X Y (Aq (nth raw 2)) raw (Cs z.st) (fun k hk=>by cases hk);refine⟨fun j u hu k p hk=>?_,fun j u hu k p hk=>?_⟩
 case' refine_2=>
  have hu2:A2 z.T i ⟨(Aj X Y raw z.st).1,n,(Aj X Y raw z.st).2.bk⟩ j=some u:=hu;show(Aj X Y raw z.st).2.fm p=true↔nth u.raw 0=2
  by_cases hj:j=i
  ·subst hj;rw[Cg]at hu2;cases hu2;have hk2:(Aj X Y raw z.st).2.bk k=some p:=hk;show _↔nth (Aj X Y raw z.st).1 0=2
   rw[hkind 0 (by omega)];rw[e2]at hk2 ⊢;generalize Az X Y (Aq (nth raw 2)) raw (Cs z.st)=r at*;by_cases h2:nth raw 0=2
   ·rw[if_pos h2]at hk2 ⊢;have hk3:r.2.bk k=some p:=hk2;refine⟨fun _=>h2,fun _=>?_⟩;obtain⟨k1,k2⟩:=hkeys k (by rw[hk3];rfl);show(r.2.fm p||(List.range (Aq (nth raw 2)).toNat).any fun k=>r.2.bk k==some p)=true
    rw[Bool.or_eq_true,List.any_eq_true];refine .inr ⟨k.toNat,List.mem_range.2 (by omega),?_⟩;rw[show((k.toNat:Nat):Int)=k by omega,hk3];simp
   ·rw[if_neg h2]at hk2 ⊢;obtain⟨t1,t2,t3⟩:=Md (Aq (nth raw 2)) (nth raw 2) r.2;have hk3:r.2.bk k=some p:=(by rw[t3]at hk2;exact hk2);rw[t2,(pi.bk k p hk3).2.2];exact⟨fun hh=>(by cases hh),fun hh=>absurd hh h2⟩
  ·rw[Cb _ _ hj]at hu2;obtain⟨a,b⟩:=hI.blk j u k p hu2 hk;have hp:=(B5 hY a).1;have hfm:=(hti.gr p.toNat (by rw[hp];exact b)).2.1;rw[hp]at hfm;have hfm2:(Aj X Y raw z.st).2.fm p=z.st.fm p:=hfm;rw[hfm2];exact h.f j u hu2 k p hk
 have hu2:A2 z.T i ⟨(Aj X Y raw z.st).1,n,(Aj X Y raw z.st).2.bk⟩ j=some u:=hu;show Qf A (Aj X Y raw z.st).2.S u.raw k p
 by_cases hj:j=i
 ·subst hj;rw[Cg]at hu2;cases hu2;have hk2:(Aj X Y raw z.st).2.bk k=some p:=hk;obtain⟨a,b,c⟩:=hti.new k p hk2;have hp:=(B5 hY a).1;show Qf A (Aj X Y raw z.st).2.S (Aj X Y raw z.st).1 k p
  unfold Qf;rw[hkind 0 (by omega),hkind 2 (by omega)];rw[e2]at hk2 ⊢;generalize Az X Y (Aq (nth raw 2)) raw (Cs z.st)=r at*;have hA:z.st.S p.toNat=A p.toNat:=hI.si.un p.toNat (by rw[hp];exact c);by_cases h2:nth raw 0=2
  ·rw[if_pos h2]at hk2 ⊢;rw[if_pos h2];left
   have hk3:r.2.bk k=some p:=hk2;have hf:=(pi.bk k p hk3).2.2;show r.2.S p.toNat=_
   rw[d.same p.toNat (by rw[hp];exact hf)];exact hA
  ·rw[if_neg h2]at hk2 ⊢;rw[if_neg h2];obtain⟨t1,t2,t3⟩:=Md (Aq (nth raw 2)) (nth raw 2) r.2;have hk3:r.2.bk k=some p:=(by rw[t3]at hk2;exact hk2);have hf:=(pi.bk k p hk3).2.2;have hS:r.2.S p.toNat=A p.toNat:=by
    rw[d.same p.toNat (by rw[hp];exact hf)];exact hA
   unfold Bt;cases hb:r.2.bk (Aq (nth raw 2)-1)with
   |none=>
    simp only;rw[if_neg (fun hh=>by rw[hh.1,hb]at hk3;cases hk3),hS]
   |some p0=>
    simp only;have hp0:=(B5 hY (pi.bk _ p0 hb).1).1;by_cases hz:nth raw 2%128=0
    ·rw[if_pos hz,if_neg (fun hh=>hh.2 hz),hS]
    ·rw[if_neg hz];by_cases hl:k=Aq (nth raw 2)-1
     ·rw[if_pos ⟨hl,hz⟩];have ep:p0=p:=(by rw[hl,hb]at hk3;exact Option.some.inj hk3);subst ep;show Ay _ _ _ _=_
      rw[Cx,hS]
     ·rw[if_neg (fun hh=>hl hh.1)];show Ay _ _ _ _=_
      rw[Ca _ _ (fun e=>hl (pi.inj k _ p hk3 (by rw[hb];congr 1;omega))),hS]
 ·rw[Cb _ _ hj]at hu2;have hb:=h.b j u hu2 k p hk;obtain⟨a,b⟩:=hI.blk j u k p hu2 hk;have hp:=(B5 hY a).1;have hS:=(hti.gr p.toNat (by rw[hp];exact b)).2.2;have hS2:(Aj X Y raw z.st).2.S p.toNat=z.st.S p.toNat:=hS;unfold Qf at hb ⊢;rw[hS2];exact hb
def Gp(z:LZ)(c k:Nat)(i:Nat)(t:TI):Nat:=if (i:Int)∈z.q then 0 else if i=c then k else(Aq (nth t.raw 2)).toNat
structure WZ (X Y:Int) (A:Nat->List Int) (L:Nat->List Ent) (c k:Nat) (z:LZ):Prop where
 inv:Ev X Y A z
 pz:PZ X Y z
 cz:CZ A z
 rg:∀ i e,e∈L i->2<=e.1/\e.1<=Y/\∃ t,z.T e.1.toNat=some t
 nd:∀ i,((L i).map Prod.snd).Nodup
 nl:∀ i,L i≠[]->∃ t,z.T i=some t/\nth t.raw 0=2
 ix:∀ i t,z.T i=some t->1<=i/\(i:Int)<=Y
 en:∀ j t,z.T j=some t->t.en=(if j=1 then 1 else 0)+(kJ L Y.toNat j:Int)
 po:∀ j t,z.T j=some t->1<=t.en/\(nth t.raw 0=2->t.en=1)
 rc:∀ P:Nat->Prop,P 1->(∀ i e,P i->e∈L i->P e.1.toNat)->∀ j t,z.T j=some t->P j
 r1:∃ t,z.T 1=some t
 sl:∀ i t,z.T i=some t->nth t.raw 0=2->De z.st.S (bkL t.bk (Gp z c k i t)) []=some (L i)
theorem WZ.blocks{X Y:Int}(hY:0<=Y){A:Nat->List Int}{L:Nat->List Ent}{c k:Nat}{z:LZ}(h:WZ X Y A L c k z){i:Nat}{t:TI}(ht:z.T i=some t){n:Nat}{p:Int}(hp:p∈bkL t.bk n)(h0:p≠0):z.st.cl (p.toNat:Nat)=true/\∃ k':Nat,k'<n/\t.bk k'=some p:=by
 obtain⟨k',h1,h2⟩:=qQ hp h0;obtain⟨hd,hc⟩:=h.inv.blk i t k' p ht h2;rw[(B5 hY hd).1];exact⟨hc,k',h1,h2⟩
theorem WZ.skip{X Y:Int}{A:Nat->List Int}{L:Nat->List Ent}{c k:Nat}{z:LZ}(h:WZ X Y A L c k z)(hs:∀ t,z.T c=some t->nth t.raw 0=2->De z.st.S (bkL t.bk (k+1)) []=De z.st.S (bkL t.bk k) []):WZ X Y A L c (k+1) z:=by
 refine⟨h.inv,h.pz,h.cz,h.rg,h.nd,h.nl,h.ix,h.en,h.po,h.rc,h.r1,fun i t ht hk=>?_⟩;have h1:=h.sl i t ht hk;unfold Gp at h1 ⊢;by_cases hq:(i:Int)∈z.q
 ·rw[if_pos hq]at h1 ⊢;exact h1
 ·rw[if_neg hq]at h1 ⊢;by_cases hc:i=c
  ·subst hc;rw[if_pos rfl]at h1 ⊢;rw[hs t ht hk];exact h1
  ·rw[if_neg hc]at h1 ⊢;exact h1
theorem WZ.wipe{X Y:Int}(hY:0<=Y){A:Nat->List Int}{L:Nat->List Ent}{c k:Nat}{z:LZ}(h:WZ X Y A L c k z){t:TI}(ht:z.T c=some t)(h2:nth t.raw 0=2)(hq:(c:Int)∉z.q){p:Int}(hk:t.bk k=some p):WZ X Y A L c (k+1) (Db p.toNat z):=by
 obtain⟨hd,hc⟩:=h.inv.blk c t k p ht hk;obtain⟨hp,hp0⟩:=B5 hY hd;refine⟨h.inv.wipe (by rw[hp];exact hc),h.pz.wipe hY ht hk,h.cz.wipe hY h.inv ht h2 hk,h.rg,h.nd,h.nl,h.ix,h.en,h.po,h.rc,h.r1,fun i u hu hu2=>?_⟩;have h1:=h.sl i u hu hu2;have hoth:∀ n,(∀ k':Nat,k'<n->u.bk k'=some p->i=c/\k'=k->False)->De (Db p.toNat z).st.S (bkL u.bk n) []=De z.st.S (bkL u.bk n) []:=by
  intro n hn;refine L9 _ _ (fun q hq h0=>Ca _ _ (fun e=>?_));obtain⟨-,k',h3,h4⟩:=h.blocks hY hu hq h0;have hdq:=(h.inv.blk i u k' q hu h4).1;have e2:q=p:=(by rw[<-(B5 hY hdq).1, <-hp,e]);subst e2;obtain⟨a,b⟩:=h.inv.inj i u k' c t k q hu h4 ht hk;exact hn k' h3 h4 ⟨a,by omega⟩
 have e:Gp (Db p.toNat z) c (k+1) i u=if (i:Int)∈z.q then 0 else if i=c then k+1 else(Aq (nth u.raw 2)).toNat:=rfl
 rw[e];unfold Gp at h1;by_cases hqi:(i:Int)∈z.q
 ·rw[if_pos hqi]at h1 ⊢;exact h1
 ·rw[if_neg hqi]at h1 ⊢;by_cases hic:i=c
  ·subst hic;rw[if_pos rfl]at h1 ⊢;have eu:u=t:=by
    have hu':z.T i=some u:=hu;rw[ht]at hu';exact(Option.some.inj hu').symm
   subst eu;have h3:=hoth k (fun k' hk' _ ⟨_,e⟩=>by omega);rw[h1]at h3;rw[Oc,Jn h3,hk];simp only[Option.getD_some];have hS:(Db p.toNat z).st.S p.toNat=zl 128:=Cx _ _ _;rw[hS,V1];simp
  ·rw[if_neg hic]at h1 ⊢;rw[hoth _ (fun k' _ _ ⟨e,_⟩=>hic e)];exact h1
theorem WZ.entry{X Y:Int}(hY:0<=Y){A:Nat->List Int}{L:Nat->List Ent}{c k:Nat}{z z2:LZ}(h:WZ X Y A L c k z){t:TI}(ht:z.T c=some t)(h2:nth t.raw 0=2)(hq:(c:Int)∉z.q){p:Int}(hk:t.bk k=some p)
  {x:Nat} {nm:ByteArray} (hx2:2<=x) (hxY:(x:Int)<=Y) (hr:Ax (z.st.S p.toNat)=((x:Int),nm,0)) (hn:nm∉(L c).map Prod.snd) (he:Cn X Y A x z=some z2):
  WZ X Y A (Xu L c (L c++[((x:Int),nm)])) c (k+1) z2:=by
 obtain⟨i1,i2,i3,i4⟩:=Oe hY h.inv he noE;obtain⟨hd,hcp⟩:=h.inv.blk c t k p ht hk;obtain⟨hp,hp0⟩:=B5 hY hd;have hcY:=h.ix c t ht;have hT:(∀ j u,z.T j=some u->∃ u2,z2.T j=some u2/\u2.raw=u.raw/\u2.bk=u.bk/\u2.en=u.en+(if j=x then 1 else 0))/\(∀ j u2,z2.T j=some u2->(∃ u,z.T j=some u/\u2.raw=u.raw/\u2.bk=u.bk/\u2.en=u.en+(if j=x then 1 else 0))\/(z.T j=none/\j=x/\u2.en=1/\((j:Int)∈z2.q↔nth u2.raw 0=2)))/\(∀ j u,z.T j=some u->((j:Int)∈z2.q↔(j:Int)∈z.q))/\(∃ u2,z2.T x=some u2)/\(PZ X Y z2/\CZ A z2)/\(∀ u,z.T x=some u->nth u.raw 0≠2):=by
  unfold Cn at he;split at he
  ·rename_i u hu
   split at he
   ·cases he
   ·rename_i hno
    obtain rfl:=Option.some.inj he;refine⟨fun j v hv=>?_,fun j v hv=>?_,fun _ _ _=>Iff.rfl,⟨_,Cg _ _ _⟩,⟨h.pz.enu hu _,h.cz.enu hu _⟩,fun v hv=>?_⟩
    ·by_cases hj:j=x
     ·subst hj;rw[hu]at hv;cases hv;exact⟨_,Cg _ _ _,rfl,rfl,by rw[if_pos rfl]⟩
     ·exact⟨v,(Cb _ _ hj).trans hv,rfl,rfl,by rw[if_neg hj];omega⟩
    ·left
     have hv2:A2 z.T x {u with en:=u.en+1} j=some v:=hv;by_cases hj:j=x
     ·subst hj;rw[Cg]at hv2;cases hv2;exact⟨u,hu,rfl,rfl,by rw[if_pos rfl]⟩
     ·rw[Cb _ _ hj]at hv2;exact⟨v,hv2,rfl,rfl,by rw[if_neg hj];omega⟩
    ·rw[hu]at hv;cases hv;exact fun e=>hno (.inl e)
  ·rename_i hu
   split at he
   ·rename_i hso
    obtain rfl:=Option.some.inj he;have hkind:nth (Aj X Y (Am (A x)).1 z.st).1 0=nth (Am (A x)).1 0:=by
     rw[(Hv X Y _ z.st).1];exact(Fm (X:=X) hY _ (Bo _) (Cs z.st)).1 0 (by omega)
    have hnq:∀ j u,z.T j=some u->j≠x:=fun j u hv e=>by rw[e,hu]at hv;cases hv
    refine⟨fun j v hv=>⟨v,(Cb _ _ (hnq j v hv)).trans hv,rfl,rfl,by rw[if_neg (hnq j v hv)];omega⟩,fun j v hv=>?_,fun j v hv=>?_,⟨_,Cg _ _ _⟩,⟨h.pz.take hY h.inv hu (Bo _) 1,h.cz.take hY h.inv hu (Bo _) 1⟩,fun v hv=>by rw[hu]at hv;cases hv⟩
    ·have hv2:A2 z.T x ⟨(Aj X Y (Am (A x)).1 z.st).1,1,(Aj X Y (Am (A x)).1 z.st).2.bk⟩ j=some v:=hv;by_cases hj:j=x
     ·subst hj;rw[Cg]at hv2;cases hv2;refine .inr ⟨hu,rfl,rfl,?_⟩;show((j:Int)∈(if nth (Am (A j)).1 0=2 then z.q++[(j:Int)]else z.q))↔nth (Aj X Y (Am (A j)).1 z.st).1 0=2
      rw[hkind];have hnz:(j:Int)∉z.q:=fun hm=>by
       obtain⟨-,v,hv,-⟩:=h.inv.qT _ hm;rw[Int.toNat_natCast,hu]at hv;cases hv
      split
      ·rename_i h5;simp[h5]
      ·rename_i h5;simp[h5,hnz]
     ·rw[Cb _ _ hj]at hv2;exact .inl ⟨v,hv2,rfl,rfl,by rw[if_neg hj];omega⟩
    ·show((j:Int)∈(if nth (Am (A x)).1 0=2 then z.q++[(x:Int)]else z.q))↔_
     have:=hnq j v hv;split
     ·rw[List.mem_append,List.mem_singleton];constructor
      ·rintro (h5|h5)
       ·exact h5
       ·omega
      ·exact .inl
     ·exact Iff.rfl
   ·cases he
 obtain⟨t1,t2,t3,t4,t5,t6⟩:=hT;have hmem:∀ i e,e∈Xu L c (L c++[((x:Int),nm)]) i->e∈L i\/(i=c/\e=((x:Int),nm)):=by
  intro i e hm;by_cases hi:i=c
  ·subst hi;rw[Kz,List.mem_append,List.mem_singleton]at hm;rcases hm with hm|hm
   ·exact .inl hm
   ·exact .inr ⟨rfl,hm⟩
  ·rw[Jq _ _ hi]at hm;exact .inl hm
 have hcN:c<=Y.toNat:=by omega
 refine⟨i1,t5.1,t5.2,fun i e hm=>?_,fun i=>?_,fun i hm=>?_,fun j u2 hu2=>?_,fun j u2 hu2=>?_,fun j u2 hu2=>?_,fun P hP1 hPL j u2 hu2=>?_,?_,fun i u2 hu2 hk2=>?_⟩
 ·rcases hmem i e hm with hm|⟨-,rfl⟩
  ·obtain⟨a,b,u,hu⟩:=h.rg i e hm;obtain⟨u2,hu2,-⟩:=t1 _ u hu;exact⟨a,b,u2,hu2⟩
  ·exact⟨by show(2:Int)<=x;omega,hxY,by rw[Int.toNat_natCast];exact t4⟩
 ·by_cases hi:i=c
  ·subst hi;rw[Kz,List.map_append,List.nodup_append];refine⟨h.nd i,by simp,fun a ha b hb=>?_⟩;simp at hb;subst hb;intro e;subst e;exact hn ha
  ·rw[Jq _ _ hi];exact h.nd i
 ·by_cases hi:i=c
  ·subst hi;obtain⟨u2,a,b,-⟩:=t1 i t ht;exact⟨u2,a,by rw[b];exact h2⟩
  ·rw[Jq _ _ hi]at hm;obtain⟨u,hu,e⟩:=h.nl i hm;obtain⟨u2,a,b,-⟩:=t1 i u hu;exact⟨u2,a,by rw[b];exact e⟩
 ·rcases t2 j u2 hu2 with ⟨u,hu,-⟩|⟨-,rfl,-⟩
  ·exact h.ix j u hu
  ·exact⟨by omega,hxY⟩
 ·rw[kK L hcN];rcases t2 j u2 hu2 with ⟨u,hu,-,-,e⟩|⟨hno,rfl,e,-⟩
  ·rw[e,h.en j u hu];show _=_+((_+if (x:Int)=(j:Int)then 1 else 0:Nat):Int)
   by_cases hj:j=x
   ·rw[if_pos hj,if_pos (show(x:Int)=(j:Int) by omega)];omega
   ·rw[if_neg hj,if_neg (show ¬ (x:Int)=(j:Int) by omega)];omega
  ·rw[e,U6 (fun i e he hx=>by
    obtain⟨-,-,u,hu⟩:=h.rg i e he;rw[hx,Int.toNat_natCast,hno]at hu;cases hu),if_neg (by omega)]
   show 1=(0:Int)+((0+if (j:Int)=(j:Int)then 1 else 0:Nat):Int)
   rw[if_pos rfl];rfl
 ·rcases t2 j u2 hu2 with ⟨u,hu,e1,-,e⟩|⟨hno,rfl,e,-⟩
  ·obtain⟨a,b⟩:=h.po j u hu;rw[e1,e];by_cases hj:j=x
   ·rw[if_pos hj];refine⟨by omega,fun h5=>?_⟩;subst hj;exact absurd h5 (t6 u hu)
   ·rw[if_neg hj];exact⟨by omega,fun h5=>by rw[b h5];rfl⟩
  ·exact⟨by omega,fun _=>e⟩
 ·have hPold:∀ j u,z.T j=some u->P j:=h.rc P hP1 (fun i e hi he=>by
   refine hPL i e hi ?_;by_cases hic:i=c
   ·subst hic;rw[Kz];exact List.mem_append_left _ he
   ·rw[Jq _ _ hic];exact he)
  rcases t2 j u2 hu2 with ⟨u,hu,-⟩|⟨-,rfl,-⟩
  ·exact hPold j u hu
  ·have:=hPL c ((j:Int),nm) (hPold c t ht) (by rw[Kz];exact List.mem_append_right _ (List.mem_singleton.2 rfl));rw[show((j:Int),nm).1.toNat=j from Int.toNat_natCast j]at this;exact this
 ·obtain⟨u,hu⟩:=h.r1;obtain⟨u2,a,-⟩:=t1 1 u hu;exact⟨u2,a⟩
 ·rcases t2 i u2 hu2 with ⟨u,hu,e1,e2,-⟩|⟨hno,rfl,-,hqm⟩
  ·rw[e1]at hk2;have h1:=h.sl i u hu hk2;have hS:∀ n,De z2.st.S (bkL u.bk n) []=De z.st.S (bkL u.bk n) []:=fun n=>L9 _ _ (fun q hq0 h0=>i4 _ (h.blocks hY hu hq0 h0).1)
   have hdb:Gp z2 c (k+1) i u2=if (i:Int)∈z.q then 0 else if i=c then k+1 else(Aq (nth u.raw 2)).toNat:=by
    unfold Gp;rw[e1];by_cases hqi:(i:Int)∈z.q
    ·rw[if_pos ((t3 i u hu).2 hqi),if_pos hqi]
    ·rw[if_neg (fun h5=>hqi ((t3 i u hu).1 h5)),if_neg hqi]
   rw[hdb,e2];unfold Gp at h1;by_cases hqi:(i:Int)∈z.q
   ·rw[if_pos hqi]at h1 ⊢;rw[hS];by_cases hic:i=c
    ·subst hic;exact absurd hqi hq
    ·rw[Jq _ _ hic];exact h1
   ·rw[if_neg hqi]at h1 ⊢;by_cases hic:i=c
    ·subst hic;rw[if_pos rfl]at h1 ⊢;have eu:u=t:=(by rw[ht]at hu;exact(Option.some.inj hu).symm);subst eu;have h3:=hS k;rw[h1]at h3;rw[Oc,Jn h3,hk,Kz];simp only[Option.getD_some];rw[i4 _ (by rw[hp];exact hcp),hr,if_neg hp0];simp only;rw[if_neg (by simp),if_neg (by omega)]
    ·rw[if_neg hic]at h1 ⊢;rw[hS,Jq _ _ hic];exact h1
  ·have hdb:Gp z2 c (k+1) i u2=0:=by
    unfold Gp;rw[if_pos (hqm.2 hk2)]
   have hL:L i=[]:=Decidable.byContradiction fun h5=>by
    obtain⟨u,hu,-⟩:=h.nl i h5;rw[hno]at hu;cases hu
   have hic:i≠c:=fun e=>by rw[e,ht]at hno;cases hno
   rw[hdb,X3,Jq _ _ hic,hL];rfl
def oU(l:List Ent)(nm:ByteArray->Bool):Prop:=∀ x,nm x=true↔x∈l.map Prod.snd
theorem rG{X Y:Int}(hY:0<=Y){A:Nat->List Int}{L:Nat->List Ent}{c k:Nat}{zn:LZ×(ByteArray->Bool)}(h:WZ X Y A L c k zn.1)(hn:oU (L c) zn.2){t:TI}(hT:zn.1.T c=some t)(h2:nth t.raw 0=2)(hq:(c:Int)∉zn.1.q){p:Int}(hk:t.bk k=some p):
  ∃ L2,WZ X Y A L2 c (k+1) (Cy X Y A p.toNat zn).1/\oU (L2 c) (Cy X Y A p.toNat zn).2:=by
 obtain⟨hd,hcp⟩:=h.inv.blk c t k p hT hk;obtain⟨hp,hp0⟩:=B5 hY hd;have hwipe:∃ L2,WZ X Y A L2 c (k+1) (Db p.toNat zn.1)/\oU (L2 c) zn.2:=⟨L,h.wipe hY hT h2 hq hk,hn⟩;have hsl:=h.sl c t hT h2;unfold Gp at hsl;rw[if_neg hq,if_pos rfl]at hsl;unfold Cy;split
 ·rename_i hz
  refine⟨L,h.skip (fun u hu _=>?_),hn⟩;have eu:u=t:=(by rw[hT]at hu;exact(Option.some.inj hu).symm);subst eu;rw[Oc,Jn hsl,hk,hsl];simp only[Option.getD_some];rw[if_neg hp0,if_neg (by rw[hz.1];simp),if_pos hz.2]
 ·rename_i hz
  split
  ·rename_i h3
   obtain⟨e0,e1,e2⟩:=h3;have hne:(Ax (zn.1.st.S p.toNat)).1≠0:=fun e=>hz ⟨e0,e⟩
   obtain⟨s1,-,-⟩:=Ua e0 hne;obtain⟨x,hx⟩:=Int.eq_ofNat_of_zero_le (show 0<=(Ax (zn.1.st.S p.toNat)).1 by omega);have hr:Ax (zn.1.st.S p.toNat)=((x:Int),(Ax (zn.1.st.S p.toNat)).2.1,0):=(by rw[<-hx, <-e0]);generalize (Ax (zn.1.st.S p.toNat)).2.1=nm at*;rw[hx,Int.toNat_natCast]at e2 ⊢;rw[hx]at e1 s1;unfold Cz at e2 ⊢;split at e2
   ·cases e2
   ·rename_i h4
    rw[if_neg h4];have hx1:x≠1:=fun e=>h4 (.inr e)
    have hnn:nm∉(L c).map Prod.snd:=fun hm=>h4 (.inl ((hn nm).2 hm))
    cases he:Cn X Y A x zn.1 with
    |none=>rw[he]at e2;cases e2
    |some z2=>
     refine⟨Xu L c (L c++[((x:Int),nm)]),h.entry hY hT h2 hq hk (by omega) e1 hr hnn he,fun y=>?_⟩;show Ll zn.2 nm y=true↔_
     rw[Kz,List.map_append,List.mem_append, <-hn y];unfold Ll;simp
  ·exact hwipe
theorem aS{X Y:Int}(hY:0<=Y){A:Nat->List Int}{c:Nat}{t:TI}(h2:nth t.raw 0=2):∀ (m k:Nat) (L:Nat->List Ent) (zn:LZ×(ByteArray->Bool)),WZ X Y A L c k zn.1->oU (L c) zn.2->(∃ t0,zn.1.T c=some t0/\t0.bk=t.bk/\t0.raw=t.raw)->(c:Int)∉zn.1.q->
  ∃ L2,WZ X Y A L2 c (k+m) (G4 X Y A t.bk m k zn).1
 |0,k,L,zn,h,hn,hT,hq=>⟨L,h⟩
 |m+1,k,L,zn,h,hn,hT,hq=>by
  show ∃ L2,WZ X Y A L2 c _ (G4 X Y A t.bk m (k+1) _).1
  rw[show k+(m+1)=k+1+m by omega];obtain⟨t0,ht0,hb0,hr0⟩:=hT;have h20:nth t0.raw 0=2:=(by rw[hr0];exact h2);cases hk:t.bk k with
  |none=>
   refine aS hY h2 m (k+1) L zn (h.skip (fun u hu _=>?_)) hn ⟨t0,ht0,hb0,hr0⟩ hq;have hsl:=h.sl c t0 ht0 h20;unfold Gp at hsl;rw[if_neg hq,if_pos rfl]at hsl;have eu:u=t0:=(by rw[ht0]at hu;exact(Option.some.inj hu).symm);subst eu;rw[Oc,Jn hsl,hb0,hk,hb0.symm,hsl];rfl
  |some p=>
   obtain⟨L2,a,b⟩:=rG hY h hn ht0 h20 hq (by rw[hb0];exact hk);have hs:=Uc hY (t:=t) h.inv ⟨t0,ht0,hb0⟩ hq hk;obtain⟨t1,ht1,hr1,hb1⟩:=hs.st.t c t0 ht0;exact aS hY h2 m (k+1) L2 (Cy X Y A p.toNat zn) a b ⟨t1,ht1,hb1.trans hb0,hr1.trans hr0⟩ hs.q
theorem WZ.pop{X Y:Int}{A:Nat->List Int}{L:Nat->List Ent}{k:Nat}{z:LZ}(h:WZ X Y A L 0 k z){i:Nat}{r:List Int}(hq:z.q=(i:Int)::r):WZ X Y A L i 0 {z with q:=r}:=by
 have hir:(i:Int)∉r:=by have:=h.inv.qn;rw[hq]at this;exact(List.nodup_cons.1 this).1
 refine⟨h.inv.pop hq,h.pz.q r,h.cz.q r,h.rg,h.nd,h.nl,h.ix,h.en,h.po,h.rc,h.r1,fun j t ht h2=>?_⟩;have h1:=h.sl j t ht h2;have e:Gp {z with q:=r} i 0 j t=Gp z 0 k j t:=by
  unfold Gp;rw[hq];show(if (j:Int)∈r then 0 else _)=_
  have hj:=(h.ix j t ht).1;by_cases hji:j=i
  ·subst hji;rw[if_neg hir,if_pos rfl,if_pos (List.mem_cons_self ..)]
  ·by_cases hm:(j:Int)∈r
   ·rw[if_pos hm,if_pos (List.mem_cons_of_mem _ hm)]
   ·rw[if_neg hm,if_neg hji,if_neg (fun h5=>(List.mem_cons.1 h5).elim (fun h6=>hji (by omega)) hm),if_neg (by omega)]
 rw[e];exact h1
theorem WZ.over{X Y:Int}{A:Nat->List Int}{L:Nat->List Ent}{c k:Nat}{z:LZ}(h:WZ X Y A L c k z)(hk:∀ t,z.T c=some t->nth t.raw 0=2->k=(Aq (nth t.raw 2)).toNat):WZ X Y A L 0 0 z:=by
 refine⟨h.inv,h.pz,h.cz,h.rg,h.nd,h.nl,h.ix,h.en,h.po,h.rc,h.r1,fun j t ht h2=>?_⟩;have h1:=h.sl j t ht h2;have hj:=(h.ix j t ht).1;have e:Gp z 0 0 j t=Gp z c k j t:=by
  unfold Gp;by_cases hm:(j:Int)∈z.q
  ·rw[if_pos hm,if_pos hm]
  ·rw[if_neg hm,if_neg hm,if_neg (by omega)];by_cases hjc:j=c
   ·subst hjc;rw[if_pos rfl,hk t ht h2]
   ·rw[if_neg hjc]
 rw[e];exact h1
theorem Yc{X Y:Int}(hY:0<=Y){A:Nat->List Int}{L:Nat->List Ent}{z:LZ}(h:WZ X Y A L 0 0 z){i:Int}{r:List Int}(hq:z.q=i::r):∃ L2,WZ X Y A L2 0 0 (Ct X Y A i.toNat {z with q:=r}):=by
 obtain⟨h0,t,ht,h2⟩:=h.inv.qT i (by rw[hq];exact List.mem_cons_self);obtain⟨c,rfl⟩:=Int.eq_ofNat_of_zero_le h0;have hir:(c:Int)∉r:=by have:=h.inv.qn;rw[hq]at this;exact(List.nodup_cons.1 this).1
 rw[Int.toNat_natCast]at ht ⊢;have hp:=h.pop hq;have hsl:=hp.sl c t ht h2;unfold Gp at hsl;rw[if_neg hir,if_pos rfl,X3]at hsl;have hL:L c=[]:=(Option.some.inj hsl).symm;obtain⟨L2,h3⟩:=aS hY h2 (Aq (nth t.raw 2)).toNat 0 L ({z with q:=r},fun _=>false) hp (fun x=>by rw[hL];simp) ⟨t,ht,rfl,rfl⟩ hir;have hd:=Rz hY (t:=t) (Aq (nth t.raw 2)).toNat 0 ({z with q:=r},fun _=>false) hp.inv ⟨t,ht,rfl⟩ hir;have e:Ct X Y A c {z with q:=r}=(G4 X Y A t.bk (Aq (nth t.raw 2)).toNat 0 ({z with q:=r},fun _=>false)).1:=by
  unfold Ct;show(match z.T c with|none=>_|some t=>_)=_
  rw[ht]
 rw[e];refine⟨L2,h3.over (fun u hu _=>?_)⟩;obtain⟨t2,ht2,hr2,-⟩:=hd.st.t c t ht;rw[ht2]at hu;cases hu;rw[hr2];omega
theorem dY{X Y:Int}(hY:0<=Y){A:Nat->List Int}:∀ (f:Nat) (L:Nat->List Ent) (z:LZ),WZ X Y A L 0 0 z->∃ L2,WZ X Y A L2 0 0 (Gq X Y A f z)
 |0,L,z,h=>⟨L,h⟩
 |f+1,L,z,h=>by
  cases hq:z.q with
  |nil=>rw[Gj _ _ _ _ _ hq];exact⟨L,h⟩
  |cons i r=>
   rw[E0 _ _ _ _ _ _ _ hq];obtain⟨L2,h2⟩:=Yc hY h hq;exact dY hY f L2 _ h2
theorem vY{z:LZ}(h:Ek z<=0):z.q=[]:=by
 have h2:z.q.length+2*Jb z<=0:=h;generalize Jb z=n at h2;exact List.length_eq_zero_iff.1 (by omega)
theorem iH{X Y:Int}(hY9:Y<4096)(A:Nat->List Int)(f:Nat):∀ (z:LZ),Ek z<=f->(Gq X Y A f z).q=[]:=by
 induction f with
 |zero=>intro z h;exact vY h
 |succ f ih=>
  intro z h;cases hq:z.q with
  |nil=>rw[Gj _ _ _ _ _ hq];exact hq
  |cons i r=>
   rw[E0 _ _ _ _ _ _ _ hq];refine ih _ ?_;have h1:=W6 (X:=X) hY9 A i.toNat {z with q:=r};have h2:=Rj hq;generalize Ek (Ct X Y A i.toNat {z with q:=r})=a at*;generalize Ek {z with q:=r}=b at*;generalize Ek z=c at*;omega
noncomputable def Pj(ze:LZ)(i:Nat):List Int:=match ze.T i with|none=>zl 128|some t=>(Dr (t.raw.set 1 t.en)).1
structure Two (X Y:Int) (A A' W:Nat->List Int) (ze:LZ) (allw:Prop):Prop where
 Y0:0<=Y
 ino:∀ i:Nat,1<=i->(i:Int)<=Y->(A' i=A i\/A' i=Pj ze i)/\(allw->A' i=Pj ze i)
 inv:Ev X Y A ze
structure Fin (X Y:Int) (A' W:Nat->List Int) (ze:LZ) (allw:Prop) (E:Nat->Prop) (z:LZ):Prop where
 s:∀ j:Nat,isD X Y j=true->z.st.cl j=true->¬ qZ z j->¬ E j->z.st.S j=W j
 f:∀ j:Nat,z.st.fm j=true->allw->A' j=W j
 t:∀ i t,z.T i=some t->∃ te,ze.T i=some te/\te.raw=t.raw/\te.bk=t.bk
theorem Fin.back{X Y:Int}{A' W:Nat->List Int}{ze:LZ}{allw:Prop}{E E2:Nat->Prop}{z z2:LZ}(h:Fin X Y A' W ze allw E2 z2)(hs:Jw X Y E E2 z z2):Fin X Y A' W ze allw E z:=by
 refine⟨fun j h1 h2 h3 h4=>?_,fun j hj ha=>h.f j (hs.f j hj) ha,fun i t ht=>?_⟩
 ·obtain⟨a,b,c,d⟩:=hs.s j h1 h2 h3 h4;rw[<-d];exact h.s j h1 a b c
 ·obtain⟨t2,a,b,c⟩:=hs.t i t ht;obtain⟨te,d,e,f⟩:=h.t i t2 a;exact⟨te,d,e.trans b,f.trans c⟩
structure RZ (X Y:Int) (A' W:Nat->List Int) (allw:Prop) (z z':LZ):Prop where
 sd:Sd X Y allw W A' z.st.fm (Cs z.st) (Cs z'.st)
 q:z'.q=z.q
 n:∀ i,z.T i=none->z'.T i=none
 t:∀ i t,z.T i=some t->∃ t',z'.T i=some t'/\t'.bk=t.bk/\t'.en=t.en/\(∀ j,j≠1->nth t'.raw j=nth t.raw j)/\t'.raw.length=18
theorem oC{X Y:Int}(hY:0<=Y){A A' W:Nat->List Int}{allw:Prop}{st st':LS}(hi:SI X Y A (Cs st))(hR:Sd X Y allw W A' st.fm (Cs st) (Cs st')){raw raw':List Int}(hr:sV allw (Aj X Y raw st).1 raw raw')
  (h1:∀ j:Nat,(Aj X Y raw st).2.fm j=true->st.fm j=false->(∀ k,(Aj X Y raw st).2.bk k≠some (j:Int))->(Aj X Y raw st).2.S j=W j/\(allw->A' j=W j))
  (h2:nth raw 0≠2->∀ p,(Aj X Y raw st).2.bk (Aq (nth raw 2)-1)=some p->(Aj X Y raw st).2.S p.toNat=W p.toNat):
  (∀ i,i≠1->nth (Aj X Y raw' st').1 i=nth (Aj X Y raw st).1 i)/\(Aj X Y raw' st').1.length=18/\(Aj X Y raw' st').2.bk=(Aj X Y raw st).2.bk/\Sd X Y allw W A' (Aj X Y raw st).2.fm (Cs (Aj X Y raw st).2) (Cs (Aj X Y raw' st').2):=by
 have htk:=N6 hY hi raw;obtain⟨i,d,g⟩:=W9 hY (Aq (nth raw 2)) raw hi;have hf:=Is X Y raw st;have hf':=Is X Y raw' st';have hbk:=O4 X Y raw st;have hbk':=O4 X Y raw' st';rw[hr.size]at hf' hbk';change (Aj X Y raw st).1=(Az X Y (Aq (nth raw 2)) raw (Cs st)).1 at hf;change (Aj X Y raw' st').1=(Az X Y (Aq (nth raw 2)) raw' (Cs st')).1 at hf';change (Aj X Y raw st).2.bk=(Az X Y (Aq (nth raw 2)) raw (Cs st)).2.bk at hbk;change (Aj X Y raw' st').2.bk=(Az X Y (Aq (nth raw 2)) raw' (Cs st')).2.bk at hbk';obtain⟨q0,-,-,-,q4⟩:=Fm (X:=X) hY (Aq (nth raw 2)) hr.len (Cs st);obtain⟨q0',-,-,-,q4'⟩:=Fm (X:=X) hY (Aq (nth raw 2)) hr.len' (Cs st');have hst2:(Aj X Y raw st).2=if nth raw 0=2 then Eg (Aq (nth raw 2)) (Az X Y (Aq (nth raw 2)) raw (Cs st)).2 else Bt (Aq (nth raw 2)) (nth raw 2) (Az X Y (Aq (nth raw 2)) raw (Cs st)).2:=by
  unfold Aj Cs;simp only;split<;>rfl
 have hst2':(Aj X Y raw' st').2=if nth raw 0=2 then Eg (Aq (nth raw 2)) (Az X Y (Aq (nth raw 2)) raw' (Cs st')).2 else Bt (Aq (nth raw 2)) (nth raw 2) (Az X Y (Aq (nth raw 2)) raw' (Cs st')).2:=by
  unfold Aj Cs;simp only[hr.kind,hr.size];split<;>rfl
 rw[hf]at hr;rw[hbk]at h1 h2;have hP:Pro allw W A' st.fm (Az X Y (Aq (nth raw 2)) raw (Cs st)).2:=by
  intro j hj hj0;have hnb:∀ k,(Az X Y (Aq (nth raw 2)) raw (Cs st)).2.bk k≠some (j:Int):=fun k e=>by
   have:=(i.bk k _ e).2.2;rw[hj]at this;cases this
  have hfm:(Aj X Y raw st).2.fm j=true:=by
   rw[hst2];split
   ·exact Nn hj
   ·unfold Bt;split
    ·exact hj
    ·split<;>exact hj
  obtain⟨a,b⟩:=h1 j hfm hj0 hnb;refine⟨?_,b⟩;rw[<-a,hst2];split
  ·rfl
  ·unfold Bt;split
   ·rfl
   ·rename_i p hp
    split
    ·rfl
    ·have hpn:=(B5 hY (i.bk _ p hp).1).1;show _=Ay _ _ _ _
     rw[Ca _ _ (fun e=>hnb _ (by rw[hp,e,hpn]))]
 obtain⟨c1,c2⟩:=mO hY (Aq (nth raw 2)) hR hr hP;refine⟨fun k hk=>?_,by rw[hf'];exact q4',by rw[hbk,hbk',c2.bk],?_⟩
 ·rw[hf,hf'];by_cases h4:4<=k
  ·exact c1 k h4
  ·rw[q0 k (by omega),q0' k (by omega)];have hk3:k=0\/k=2\/k=3:=(by omega);rcases hk3 with rfl|rfl|rfl
   ·exact hr.kind
   ·exact hr.size
   ·exact hr.made
 ·have hT2:=hst2;have hT2':=hst2';have hfc:=htk.si.fc;have hcl2:∀ q,(Aj X Y raw st).2.cl q=(Az X Y (Aq (nth raw 2)) raw (Cs st)).2.cl q:=by
   intro q;rw[hst2];split
   ·rfl
   ·unfold Bt;split
    ·rfl
    ·split<;>rfl
  by_cases hk:nth raw 0=2
  ·rw[if_pos hk]at hT2 hT2';rw[hT2,hT2'];refine⟨c2.cl,?_,rfl,c2.S,c2.un,fun j hj=>?_,fun j hj=>?_⟩
   ·show(Eg _ _).fm=(Eg _ _).fm
    unfold Eg;simp only[c2.fm,c2.bk]
   ·have:=hfc j (by rw[hT2];exact hj);have h9:(Aj X Y raw st).2.cl j=true:=this;rw[hcl2]at h9;exact h9
   ·have:=hfc j (by rw[hT2];exact hj);have h9:(Aj X Y raw st).2.cl j=true:=this;rw[hcl2]at h9;exact h9
  ·rw[if_neg hk]at hT2 hT2';have h2':=h2 hk;rw[hT2]at h2';rw[hT2,hT2'];cases hb:(Az X Y (Aq (nth raw 2)) raw (Cs st)).2.bk (Aq (nth raw 2)-1)with
   |none=>
    have hb':(Az X Y (Aq (nth raw 2)) raw' (Cs st')).2.bk (Aq (nth raw 2)-1)=none:=(by rw[c2.bk];exact hb);unfold Bt;rw[hb,hb'];exact⟨c2.cl,c2.fm,rfl,c2.S,c2.un,fun j hj=>c2.fc j hj,c2.fc⟩
   |some p=>
    have hb':(Az X Y (Aq (nth raw 2)) raw' (Cs st')).2.bk (Aq (nth raw 2)-1)=some p:=(by rw[c2.bk];exact hb);have h3:=h2' p hb;have hpd:=(i.bk _ p hb).1;have hpc:=(i.bk _ p hb).2.1;have hpn:=(B5 hY hpd).1;unfold Bt at h3 ⊢;rw[hb]at h3;rw[hb,hb'];simp only at h3 ⊢;by_cases hz:nth raw 2%128=0
    ·rw[if_pos hz,if_pos hz];exact⟨c2.cl,c2.fm,rfl,c2.S,c2.un,fun j hj=>c2.fc j hj,c2.fc⟩
    ·rw[if_neg hz]at h3;rw[if_neg hz,if_neg hz];have hln:=(i.ln p.toNat (by rw[hpn];exact hpd)).1;have hk128:(nth raw 2%128).toNat<=128:=(by omega);have h3':C8 ((Az X Y (Aq (nth raw 2)) raw (Cs st)).2.S p.toNat) (nth raw 2%128).toNat=W p.toNat:=by
      rw[<-h3];show _=Ay _ _ _ _
      rw[Cx]
     refine⟨c2.cl,c2.fm,rfl,fun j=>?_,fun j hj hcj=>?_,fun j hj=>c2.fc j hj,c2.fc⟩
     ·by_cases hjp:j=p.toNat
      ·subst hjp;left
       show Ay _ _ _ _=Ay _ _ _ _
       rw[Cx,Cx];rcases c2.S p.toNat with e|e
       ·rw[e]
       ·rw[e, <-h3',aE hln hk128]
      ·show Ay _ _ _ _=Ay _ _ _ _\/Ay _ _ _ _=_
       rw[Ca _ _ hjp,Ca _ _ hjp];exact c2.S j
     ·have hne:j≠p.toNat:=fun e=>by
       subst e;have h9:(Az X Y (Aq (nth raw 2)) raw (Cs st)).2.cl p.toNat=false:=hcj;rw[hpn,hpc]at h9;cases h9
      show Ay _ _ _ _=_/\A4 (Ay _ _ _ _)/\(¬ allw->P7 _ (Ay _ _ _ _))
      rw[Ca _ _ hne,Ca _ _ hne];exact c2.un j hj hcj
theorem bT{l o:List Int}(h:B0 l)(h0:nth l 0≠0)(hl:o.length=18)(e0:nth o 0=nth l 0)(e2:nth o 2=nth l 2)(e3:nth o 3=nth l 3)(hs:∀ j,4<=j->nth o j=nth l j\/nth o j=0){n:Int}(hn0:0<=n)(hn1:n<=100):B0 (o.set 1 n):=by
 have hset:∀ j,j≠1->nth (o.set 1 n) j=nth o j:=fun j hj=>by
  unfold nth;rw[List.getElem?_set_ne (Ne.symm hj)]
 have hset1:nth (o.set 1 n) 1=n:=by
  unfold nth;rw[List.getElem?_set_self (by omega)];rfl
 unfold B0 at h ⊢;rw[if_neg h0]at h;rw[if_neg (by rw[hset 0 (by omega),e0];exact h0)];obtain⟨⟨a,-,b,c⟩,d,e⟩:=h;refine⟨⟨by rw[hset 0 (by omega),e0];exact a,by rw[hset1];exact⟨hn0,hn1⟩,by rw[hset 2 (by omega),e2];exact b,by rw[hset 3 (by omega),e3];exact c⟩,fun j h4 h18=>?_,by rw[hset 0 (by omega),e0,hset 2 (by omega),e2];exact e⟩;rw[hset j (by omega)];rcases hs j h4 with h|h
 ·rw[h];exact d j h4 h18
 ·rw[h];omega
theorem Ir{s:List Int}(h:Bw s=true):B0 (Am s).1/\nth (Am s).1 0≠0:=by
 unfold Bw at h;simp only[Bool.and_eq_true,decide_eq_true_eq,Bool.not_eq_true',decide_eq_false_iff_not]at h;exact⟨(dS h.1).1,h.2⟩
theorem C0(o:List Int)(n:Int){j:Nat}(hj:j≠1):nth (o.set 1 n) j=nth o j:=by unfold nth;rw[List.getElem?_set_ne (Ne.symm hj)]
theorem Sj{X Y:Int}{A:Nat->List Int}{ze:LZ}(h:Ev X Y A ze){i:Nat}{t:TI}(ht:ze.T i=some t):Am (Pj ze i)=(t.raw.set 1 t.en,0)/\B0 (t.raw.set 1 t.en)/\nth t.raw 0≠0:=by
 obtain⟨hs,hl,e0,e2,e3,hsb⟩:=h.snd i t ht;obtain⟨n0,n1⟩:=h.en i t ht;obtain⟨m1,m2⟩:=Ir hs;have hm:=bT m1 m2 hl e0 e2 e3 hsb n0 n1;have hlen:(t.raw.set 1 t.en).length=18:=by rw[List.length_set];exact hl
 have hw:Pj ze i=Cp (t.raw.set 1 t.en):=by
  unfold Pj;rw[ht];show(Dr (t.raw.set 1 t.en)).1=_
  rw[Ix hm]
 rw[hw];exact⟨Ih hlen hm,hm,by rw[e0];exact m2⟩
theorem eG{X Y:Int}{A A' W:Nat->List Int}{ze:LZ}{allw:Prop}(h:Two X Y A A' W ze allw){i:Nat}(h1:1<=i)(hi:(i:Int)<=Y)(hs:Bw (A i)=true){t:TI}(ht:ze.T i=some t):
  Bw (A' i)=true/\sV allw t.raw (Am (A i)).1 (Am (A' i)).1:=by
 have hl:=Bo (A i);have hl':=Bo (A' i);obtain⟨a,b⟩:=h.ino i h1 hi;obtain⟨r1,r2,r3⟩:=Sj h.inv ht;obtain⟨-,-,e0,e2,e3,hsb⟩:=h.inv.snd i t ht;by_cases hw:A' i=Pj ze i
 ·rw[hw,r1];refine⟨by unfold Bw;rw[r1];simp only[C0 _ _ (show(0:Nat)≠1 by omega)];simp[r3],hl,by have:=(h.inv.snd i t ht).2.1;simp[this],by rw[C0 _ _ (by omega),e0],by rw[C0 _ _ (by omega),e2],by rw[C0 _ _ (by omega),e3],fun j h4 h18=>?_⟩;rw[C0 _ _ (by omega)];refine⟨?_,fun _=>rfl⟩;rcases hsb j h4 with h|h
  ·exact .inl h
  ·exact .inr ⟨h,h⟩
 ·have ha:A' i=A i:=a.resolve_right hw;rw[ha];exact⟨hs,hl,hl,rfl,rfl,rfl,fun j h4 h18=>⟨.inl rfl,fun hh=>absurd (b hh) hw⟩⟩
theorem aA{X Y:Int}{A A' W:Nat->List Int}{ze:LZ}{allw:Prop}(h:Two X Y A A' W ze allw){i:Nat}(h1:1<=i)(hi:(i:Int)<=Y)(hs:Bw (A i)=false):Bw (A' i)=false:=by
 obtain⟨a,b⟩:=h.ino i h1 hi;rcases a with a|a
 ·rw[a];exact hs
 ·rw[a];unfold Pj;cases ht:ze.T i with
  |some t=>have:=(h.inv.snd i t ht).1;rw[hs]at this;cases this
  |none=>
   simp only;unfold Bw;rw[Yt];decide
theorem Vd{X Y:Int}{A A' W:Nat->List Int}{ze:LZ}{allw:Prop}(h2:Two X Y A A' W ze allw){z z':LZ}(hI:Ev X Y A z)(hR:RZ X Y A' W allw z z'){i:Nat}(h1:1<=i)(hi:(i:Int)<=Y){E:Nat->Prop}(hE:∀ j,E j->z.st.cl j=true):
  (∀ z2,Cn X Y A i z=some z2->Fin X Y A' W ze allw E z2->∃ z2',Cn X Y A' i z'=some z2'/\RZ X Y A' W allw z2 z2')/\(Cn X Y A i z=none->Cn X Y A' i z'=none):=by
 have hY:=h2.Y0;unfold Cn;cases ht:z.T i with
 |some t=>
  obtain⟨t',ht',hb,he,hr,hl⟩:=hR.t i t ht;rw[ht'];simp only;rw[hr 0 (by omega),he];by_cases hc:nth t.raw 0=2\/t.en=100
  ·rw[if_pos hc,if_pos hc];exact⟨fun z2 h=>(by cases h),fun _=>rfl⟩
  ·rw[if_neg hc,if_neg hc];refine⟨fun z2 h hF=>?_,fun h=>by cases h⟩;obtain rfl:=Option.some.inj h;refine⟨_,rfl,hR.sd,hR.q,fun j hj=>?_,fun j u hu=>?_⟩
   ·have hji:j≠i:=fun e=>by
     subst e;have:A2 z.T j _ j=none:=hj;rw[Cg]at this;cases this
    show A2 z'.T i _ j=none
    rw[Cb _ _ hji];have:A2 z.T i _ j=none:=hj;rw[Cb _ _ hji]at this;exact hR.n j this
   ·by_cases hji:j=i
    ·subst hji;have hu2:A2 z.T j _ j=some u:=hu;rw[Cg]at hu2;obtain rfl:=Option.some.inj hu2;exact⟨_,Cg _ _ _,hb,rfl,hr,hl⟩
    ·have hu2:A2 z.T i _ j=some u:=hu;rw[Cb _ _ hji]at hu2;obtain⟨u',a,b⟩:=hR.t j u hu2;exact⟨u',by show A2 z'.T i _ j=_;rw[Cb _ _ hji];exact a,b⟩
 |none=>
  rw[hR.n i ht];simp only;by_cases hs:Bw (A i)=true
  ·rw[if_pos hs];refine⟨fun z2 h hF=>?_,fun h=>by cases h⟩;obtain rfl:=Option.some.inj h;obtain⟨te,hte,her,heb⟩:=hF.t i _ (Cg _ _ _);obtain⟨hs',hraw⟩:=eG h2 h1 hi hs hte;rw[her]at hraw;rw[if_pos hs'];refine⟨_,rfl,?_⟩;have tk:=N6 hY hI.si (Am (A i)).1;have hkind:=hraw.kind;generalize (Am (A i)).1=raw at*;generalize (Am (A' i)).1=raw' at*;have hpend:∀ j:Nat,z.st.cl j=false->(nth raw 0=2->∀ k,(Aj X Y raw z.st).2.bk k≠some (j:Int))->¬ qZ (Dg X Y i raw 1 z) j:=by
    rintro j hc hb ⟨i2,hi2,u,k,hu,hk⟩;have hu2:A2 z.T i ⟨(Aj X Y raw z.st).1,1,(Aj X Y raw z.st).2.bk⟩ i2.toNat=some u:=hu;have hi3:i2∈(if nth raw 0=2 then z.q++[(i:Int)]else z.q):=hi2;by_cases hii:i2.toNat=i
    ·rw[hii,Cg]at hu2;obtain rfl:=Option.some.inj hu2;by_cases hk2:nth raw 0=2
     ·exact hb hk2 k hk
     ·rw[if_neg hk2]at hi3;obtain⟨-,u3,hu3,-⟩:=hI.qT i2 hi3;rw[hii,ht]at hu3;cases hu3
    ·rw[Cb _ _ hii]at hu2;have:=(hI.blk _ u k _ hu2 hk).2;rw[hc]at this;cases this
   obtain⟨c1,c2,c3,c4⟩:=oC hY hI.si hR.sd hraw (fun j hj hj0 hnb=>by
    have hc:z.st.cl j=false:=by
     cases hb:z.st.cl j with
     |false=>rfl
     |true=>have:=(tk.gr j hb).2.1;rw[hj,hj0]at this;cases this
    have hcl:(Aj X Y raw z.st).2.cl j=true:=tk.si.fc j hj;exact⟨hF.s j (tk.si.cd j hcl) hcl (hpend j hc (fun _=>hnb)) (fun hEj=>by have:=hE j hEj;rw[hc]at this;cases this),hF.f j hj⟩) (fun hk2 p hp=>by
    obtain⟨n1,n2,n3⟩:=tk.new _ p hp;have e:=(B5 hY n1).1;exact hF.s p.toNat (by rw[e];exact n1) (by show(Aj X Y raw z.st).2.cl _=true;rw[e];exact n2) (hpend p.toNat (by rw[e];exact n3) (fun h=>absurd h hk2)) (fun hEj=>by have:=hE _ hEj;rw[e,n3]at this;cases this))
   refine⟨c4,?_,fun j hj=>?_,fun j u hu=>?_⟩
   ·show(if nth raw' 0=2 then z'.q++[(i:Int)]else z'.q)=(if nth raw 0=2 then z.q++[(i:Int)]else z.q)
    rw[hkind,hR.q]
   ·have hji:j≠i:=fun e=>by
     subst e;have:A2 z.T j _ j=none:=hj;rw[Cg]at this;cases this
    show A2 z'.T i _ j=none
    rw[Cb _ _ hji];have:A2 z.T i _ j=none:=hj;rw[Cb _ _ hji]at this;exact hR.n j this
   ·by_cases hji:j=i
    ·subst hji;have hu2:A2 z.T j _ j=some u:=hu;rw[Cg]at hu2;obtain rfl:=Option.some.inj hu2;exact⟨_,Cg _ _ _,c3,rfl,c1,c2⟩
    ·have hu2:A2 z.T i _ j=some u:=hu;rw[Cb _ _ hji]at hu2;obtain⟨u',a,b⟩:=hR.t j u hu2;exact⟨u',by show A2 z'.T i _ j=_;rw[Cb _ _ hji];exact a,b⟩
  ·have hs0:Bw (A i)=false:=(by simpa using hs);rw[if_neg hs,if_neg (by rw[aA h2 h1 hi hs0];simp)];exact⟨fun z2 h=>(by cases h),fun _=>rfl⟩
theorem RZ.wipe{X Y:Int}{A' W:Nat->List Int}{allw:Prop}{z z':LZ}(h:RZ X Y A' W allw z z'){p:Nat}(hc:z.st.cl p=true):RZ X Y A' W allw (Db p z) (Db p z'):=by
 refine⟨⟨h.sd.cl,h.sd.fm,rfl,fun j=>?_,fun j hj hcj=>?_,h.sd.f0,h.sd.fc⟩,h.q,h.n,h.t⟩
 ·show Ay _ _ _ _=Ay _ _ _ _\/Ay _ _ _ _=_
  by_cases hjp:j=p
  ·subst hjp;rw[Cx,Cx];exact .inl rfl
  ·rw[Ca _ _ hjp,Ca _ _ hjp];exact h.sd.S j
 ·have hne:j≠p:=fun e=>by subst e;rw[show z.st.cl j=false from hcj]at hc;cases hc
  show Ay _ _ _ _=_/\A4 (Ay _ _ _ _)/\(¬ allw->P7 _ (Ay _ _ _ _))
  rw[Ca _ _ hne,Ca _ _ hne];exact h.sd.un j hj hcj
theorem nQ{X Y:Int}{A A' W:Nat->List Int}{ze:LZ}{allw:Prop}(h2:Two X Y A A' W ze allw){d:Nat}{t:TI}{z z':LZ}{nm:ByteArray->Bool}(hI:Ev X Y A z)(hR:RZ X Y A' W allw z z')(hT:∃ t0,z.T d=some t0/\t0.bk=t.bk)(hq:(d:Int)∉z.q){k:Nat}{p:Int}(hk:t.bk k=some p)
  (hF:Fin X Y A' W ze allw (rest t.bk (k+1)) (Cy X Y A p.toNat (z,nm)).1):
  RZ X Y A' W allw (Cy X Y A p.toNat (z,nm)).1 (Cy X Y A' p.toNat (z',nm)).1/\(Cy X Y A' p.toNat (z',nm)).2=(Cy X Y A p.toNat (z,nm)).2:=by
 have hY:=h2.Y0;have hs:=Uc hY (zn:=(z,nm)) hI hT hq hk;obtain⟨t0,ht0,hb0⟩:=hT;obtain⟨hd,hc⟩:=hI.blk d t0 k p ht0 (by rw[hb0];exact hk);have hp:=(B5 hY hd).1;obtain⟨t1,ht1,-,hb1⟩:=hs.st.t d t0 ht0;have hcp:z.st.cl (p.toNat:Int)=true:=by rw[hp];exact hc
 have hE:∀ j,rest t.bk (k+1) j->z.st.cl j=true:=fun j ⟨k',h5,h6⟩=>(hI.blk d t0 k' j ht0 (by rw[hb0];exact h6)).2
 have hWp:(Cy X Y A p.toNat (z,nm)).1.st.S p.toNat=W p.toNat:=by
  refine hF.s p.toNat (by rw[hp];exact hd) ?_ ?_ ?_
  ·have:=hs.inv.blk d t1 k p ht1 (by rw[hb1,hb0];exact hk);rw[hp];exact this.2
  ·rintro ⟨i2,hi2,u,k2,hu,hk2⟩;have:=(hs.inv.inj _ u k2 d t1 k p hu (by rw[<-hp];exact hk2) ht1 (by rw[hb1,hb0];exact hk)).1;have h0:=(hs.inv.qT i2 hi2).1;exact hs.q (by rw[show(d:Int)=i2 by omega];exact hi2)
  ·rintro ⟨k',h5,h6⟩;have:=(hI.inj d t0 k' d t0 k p ht0 (by rw[hb0,h6,hp]) ht0 (by rw[hb0];exact hk)).2;omega
 by_cases hsame:z'.st.S p.toNat=z.st.S p.toNat
 ·unfold Cy at hF ⊢;simp only at hF ⊢;rw[hsame];by_cases c1:(Ax (z.st.S p.toNat)).2.2=0/\(Ax (z.st.S p.toNat)).1=0
  ·rw[if_pos c1,if_pos c1];exact⟨hR,rfl⟩
  ·rw[if_neg c1]at hF ⊢;rw[if_neg c1];by_cases c2:(Ax (z.st.S p.toNat)).2.2=0/\(Ax (z.st.S p.toNat)).1<=Y
   ·obtain⟨c3,c4⟩:=c2;have hok:=Ua c3 (fun h=>c1 ⟨c3,h⟩);have h1:1<=(Ax (z.st.S p.toNat)).1.toNat:=(by omega);have hi:((Ax (z.st.S p.toNat)).1.toNat:Int)<=Y:=(by omega);obtain⟨e1,e2⟩:=Vd h2 hI hR h1 hi hE;generalize (Ax (z.st.S p.toNat)).1.toNat=i at*;generalize (Ax (z.st.S p.toNat)).2.1=name at*;unfold Cz at hF ⊢;simp only at hF ⊢;by_cases c5:nm name=true\/i=1
    ·simp only[if_pos c5]at hF ⊢;rw[if_neg (by simp),if_neg (by simp)];exact⟨hR.wipe hcp,rfl⟩
    ·simp only[if_neg c5]at hF ⊢;cases he:Cn X Y A i z with
     |none=>
      rw[e2 he];simp only;rw[if_neg (by simp),if_neg (by simp)];exact⟨hR.wipe hcp,rfl⟩
     |some z2=>
      rw[he]at hF;simp only at hF ⊢;rw[if_pos ⟨c3,c4,trivial⟩]at hF;obtain⟨z2',he',hr2⟩:=e1 z2 he hF;rw[he'];simp only;rw[if_pos ⟨c3,c4,trivial⟩,if_pos ⟨c3,c4,trivial⟩];exact⟨hr2,rfl⟩
   ·rw[if_neg (fun h=>c2 ⟨h.1,h.2.1⟩),if_neg (fun h=>c2 ⟨h.1,h.2.1⟩)];exact⟨hR.wipe hcp,rfl⟩
 ·have hW:=(hR.sd.S p.toNat).resolve_left hsame;have hW':z'.st.S p.toNat=W p.toNat:=hW;have hne:(Cy X Y A p.toNat (z,nm)).1.st.S p.toNat≠z.st.S p.toNat:=(by rw[hWp, <-hW'];exact hsame);have hz:Cy X Y A p.toNat (z,nm)=(Db p.toNat z,nm):=by
   unfold Cy at hne ⊢;simp only at hne ⊢;split
   ·rename_i c;rw[if_pos c]at hne;exact absurd rfl hne
   ·rename_i c
    rw[if_neg c]at hne;split
    ·rename_i c'
     rw[if_pos c']at hne;exfalso
     apply hne
     obtain⟨-,-,c3⟩:=c';generalize (Ax (z.st.S p.toNat)).1.toNat=i at*;generalize (Ax (z.st.S p.toNat)).2.1=name at*;unfold Cz at c3 ⊢;simp only at c3 ⊢;split at c3
     ·cases c3
     ·rename_i c4
      rw[if_neg c4];cases he:Cn X Y A i z with
      |none=>rfl
      |some z2=>exact(Oe hY hI he noE).2.2.2 p.toNat hcp
    ·rfl
  rw[hz]at hWp ⊢;have hzl:z'.st.S p.toNat=zl 128:=by
   rw[hW', <-hWp];exact Cx _ _ _
  have hz':Cy X Y A' p.toNat (z',nm)=(z',nm):=by
   unfold Cy;simp only;rw[hzl,V1,if_pos ⟨rfl,rfl⟩]
  rw[hz'];refine⟨⟨⟨hR.sd.cl,hR.sd.fm,rfl,fun j=>?_,fun j hj hcj=>?_,hR.sd.f0,hR.sd.fc⟩,hR.q,hR.n,hR.t⟩,rfl⟩
  ·show z'.st.S j=Ay _ _ _ _\/z'.st.S j=_
   by_cases hjp:j=p.toNat
   ·subst hjp;rw[Cx];exact .inl hzl
   ·rw[Ca _ _ hjp];exact hR.sd.S j
  ·have hne2:j≠p.toNat:=fun e=>by subst e;rw[show z.st.cl _=false from hcj]at hcp;cases hcp
   show z'.st.S j=_/\A4 (Ay _ _ _ _)/\(¬ allw->P7 _ (Ay _ _ _ _))
   rw[Ca _ _ hne2];exact hR.sd.un j hj hcj
theorem R0{X Y:Int}{A A' W:Nat->List Int}{ze:LZ}{allw:Prop}(h2:Two X Y A A' W ze allw){d:Nat}{t:TI}:∀ (m k:Nat) (z z':LZ) (nm:ByteArray->Bool),Ev X Y A z->RZ X Y A' W allw z z'->(∃ t0,z.T d=some t0/\t0.bk=t.bk)->(d:Int)∉z.q->
  Fin X Y A' W ze allw (rest t.bk (k+m)) (G4 X Y A t.bk m k (z,nm)).1->RZ X Y A' W allw (G4 X Y A t.bk m k (z,nm)).1 (G4 X Y A' t.bk m k (z',nm)).1
 |0,k,z,z',nm,hI,hR,hT,hq,hF=>hR
 |m+1,k,z,z',nm,hI,hR,hT,hq,hF=>by
  rw[show k+(m+1)=k+1+m by omega]at hF;change Fin X Y A' W ze allw _ (G4 X Y A t.bk m (k+1) _).1 at hF;show RZ X Y A' W allw (G4 X Y A t.bk m (k+1) _).1 (G4 X Y A' t.bk m (k+1) _).1
  cases hk:t.bk k with
  |none=>
   rw[hk]at hF;exact R0 h2 m (k+1) z z' nm hI hR hT hq hF
  |some p=>
   rw[hk]at hF;simp only at hF ⊢;have hs:=Uc h2.Y0 (zn:=(z,nm)) hI hT hq hk;obtain⟨t0,ht0,hb0⟩:=hT;obtain⟨t1,ht1,-,hb1⟩:=hs.st.t d t0 ht0;have hd:=Rz h2.Y0 (t:=t) m (k+1) (Cy X Y A p.toNat (z,nm)) hs.inv ⟨t1,ht1,hb1.trans hb0⟩ hs.q;obtain⟨a,b⟩:=nQ h2 (nm:=nm) hI hR ⟨t0,ht0,hb0⟩ hq hk (hF.back hd.st);have e':Cy X Y A' p.toNat (z',nm)=((Cy X Y A' p.toNat (z',nm)).1,(Cy X Y A p.toNat (z,nm)).2):=(by rw[<-b]);rw[e'];exact R0 h2 m (k+1) (Cy X Y A p.toNat (z,nm)).1 _ (Cy X Y A p.toNat (z,nm)).2 hs.inv a ⟨t1,ht1,hb1.trans hb0⟩ hs.q hF
theorem Ry{X Y:Int}{A:Nat->List Int}{z:LZ}{i:Nat}{t:TI}(h:z.T i=some t):Ct X Y A i z=(G4 X Y A t.bk (Aq (nth t.raw 2)).toNat 0 (z,fun _=>false)).1:=by
 unfold Ct;rw[h]
theorem fT{X Y:Int}{A A' W:Nat->List Int}{ze:LZ}{allw:Prop}(h2:Two X Y A A' W ze allw){z z':LZ}(hI:Ev X Y A z)(hR:RZ X Y A' W allw z z'){i:Int}{r:List Int}(hq:z.q=i::r)(hF:Fin X Y A' W ze allw noE (Ct X Y A i.toNat {z with q:=r})):
  RZ X Y A' W allw (Ct X Y A i.toNat {z with q:=r}) (Ct X Y A' i.toNat {z' with q:=r}):=by
 obtain⟨h0,t,ht,-⟩:=hI.qT i (by rw[hq];exact List.mem_cons_self);obtain⟨t',ht',hb,he,hr,hl⟩:=hR.t _ t ht;have hir:i∉r:=by have:=hI.qn;rw[hq]at this;exact(List.nodup_cons.1 this).1
 have hi:(i.toNat:Int)=i:=by omega
 have hRp:RZ X Y A' W allw {z with q:=r} {z' with q:=r}:=⟨hR.sd,rfl,hR.n,hR.t⟩;have e:Ct X Y A i.toNat {z with q:=r}=_:=Ry (z:={z with q:=r}) ht;have e':Ct X Y A' i.toNat {z' with q:=r}=_:=Ry (z:={z' with q:=r}) ht';rw[e]at hF ⊢;rw[e',hb,hr 2 (by omega)];refine R0 h2 (d:=i.toNat) (t:=t) _ 0 _ _ _ (hI.pop hq) hRp ⟨t,ht,rfl⟩ (by rw[hi];exact hir) ?_;exact⟨fun j h1 h3 h4 _=>hF.s j h1 h3 h4 (fun h=>h),hF.f,hF.t⟩
theorem Y2{X Y:Int}{A A' W:Nat->List Int}{ze:LZ}{allw:Prop}(h2:Two X Y A A' W ze allw):∀ (f:Nat) (z z':LZ),Ev X Y A z->RZ X Y A' W allw z z'->Fin X Y A' W ze allw noE (Gq X Y A f z)->RZ X Y A' W allw (Gq X Y A f z) (Gq X Y A' f z')
 |0,z,z',hI,hR,hF=>hR
 |f+1,z,z',hI,hR,hF=>by
  cases hq:z.q with
  |nil=>
   rw[Gj _ _ _ _ _ hq,Gj _ _ _ _ _ (by rw[hR.q];exact hq)];exact hR
  |cons i r=>
   rw[E0 _ _ _ _ _ _ _ hq]at hF ⊢;rw[E0 _ _ _ _ _ _ _ (show z'.q=i::r by rw[hR.q];exact hq)];obtain⟨a,b⟩:=dJ h2.Y0 hI hq;exact Y2 h2 f _ _ a (fT h2 hI hR hq (hF.back (bJ h2.Y0 f _ a).2)) hF
theorem Qe{X Y:Int}{A:Nat->List Int}(hA:∀ j:Nat,isD X Y j=true->(A j).length=128/\A4 (A j)):Ev X Y A (Cf A):=
 ⟨⟨fun j hj=>(by cases hj),fun q hq=>(by cases hq),fun k q hk=>(by cases hk),fun k k' q hk=>(by cases hk),fun j hj=>rfl,hA,fun j hj=>(by cases hj)⟩,fun i t k q ht=>(by cases ht),fun i t k i' t' k' q ht=>(by cases ht),fun i t k q ht=>(by cases ht),List.nodup_nil,fun i hi=>(by cases hi),fun i t ht=>(by cases ht),fun i t ht=>(by cases ht)⟩
theorem Jo{X Y:Int}{A:Nat->List Int}(hs:Bw (A 1)=true):Cn X Y A 1 (Cf A)=some (Df X Y A):=by
 unfold Cn Cf;simp only;rw[if_pos hs];rfl
theorem Oo{X Y:Int}(hY:0<=Y){A:Nat->List Int}(hA:∀ j:Nat,isD X Y j=true->(A j).length=128/\A4 (A j))(hs:Bw (A 1)=true):Ev X Y A (Df X Y A)/\Ev X Y A (Bh X Y A)/\Jw X Y noE noE (Df X Y A) (Bh X Y A):=by
 obtain⟨a,-⟩:=Oe hY (Qe (Y:=Y) hA) (Jo hs) noE;obtain⟨b,c⟩:=bJ hY 8192 _ a;exact⟨a,b,c⟩
theorem Gy{Y:Int}(z:LZ){i:Nat}(h1:1<=i)(h2:(i:Int)<=Y):Ck Y z i=Pj z i:=by
 unfold Ck Pj;rw[if_pos ⟨h1,h2⟩]
 all_goals (cases z.T i<;>rfl)
theorem Fw{Y:Int}(z:LZ){i:Nat}(h:¬ (1<=i/\(i:Int)<=Y)):Ck Y z i=z.st.S i:=by
 unfold Ck;rw[if_neg h]
theorem Wx{X Y:Int}{j:Nat}(h:isD X Y j=true):¬ (1<=j/\(j:Int)<=Y):=by
 unfold isD at h;have:=of_decide_eq_true h;omega
theorem jR{X Y:Int}(hY:1<=Y){A A':Nat->List Int}(allw:Prop)(hA:∀ j:Nat,isD X Y j=true->(A j).length=128/\A4 (A j))(hs:Bw (A 1)=true)
  (hAA:∀ j,A' j=A j\/A' j=Ck Y (Bh X Y A) j) (hi:allw->∀ i:Nat,1<=i->(i:Int)<=Y->A' i=Ck Y (Bh X Y A) i) (hf:allw->∀ j:Nat,(Bh X Y A).st.fm j=true->A' j=Ck Y (Bh X Y A) j)
  (hsub:¬ allw->∀ j:Nat,isD X Y j=true->P7 (A' j) (A j)):RZ X Y A' (Ck Y (Bh X Y A)) allw (Bh X Y A) (Bh X Y A'):=by
 obtain⟨i1,i2,i3⟩:=Oo (by omega) hA hs;have h2:Two X Y A A' (Ck Y (Bh X Y A)) (Bh X Y A) allw:=⟨by omega,fun i h1 h2=>⟨by have:=hAA i;rw[Gy _ h1 h2]at this;exact this,fun ha=>by have:=hi ha i h1 h2;rw[Gy _ h1 h2]at this;exact this⟩,i2⟩;have hF:Fin X Y A' (Ck Y (Bh X Y A)) (Bh X Y A) allw noE (Bh X Y A):=⟨fun j h1 _ _ _=>(Fw _ (Wx h1)).symm,fun j hj ha=>hf ha j hj,fun i t ht=>⟨t,ht,rfl,rfl⟩⟩;have hR0:RZ X Y A' (Ck Y (Bh X Y A)) allw (Cf A) (Cf A'):=⟨⟨rfl,rfl,rfl,hAA,fun j hj _=>⟨rfl,(hA j hj).2,fun hn=>hsub hn j hj⟩,fun j hj=>(by cases hj),fun j hj=>(by cases hj)⟩,rfl,fun i h=>rfl,fun i t h=>(by cases h)⟩;obtain⟨e1,-⟩:=Vd h2 (Qe (Y:=Y) hA) hR0 (i:=1) (by omega) (by omega) (E:=noE) (fun j h=>h.elim);obtain⟨z2',a,b⟩:=e1 _ (Jo hs) (hF.back i3);have hs':Bw (A' 1)=true:=by
  cases hb:Bw (A' 1)with
  |true=>rfl
  |false=>
   have:Cn X Y A' 1 (Cf A')=none:=by
    unfold Cn Cf;simp only;rw[if_neg (by rw[hb];simp)]
   rw[this]at a;cases a
 have e:z2'=Df X Y A':=by
  have:=Jo (X:=X) (Y:=Y) hs';rw[a]at this;exact Option.some.inj this
 subst e;exact Y2 h2 8192 _ _ i1 b hF
theorem nO{a b:List Int}(ha:a.length=18)(hb:b.length=18)(h:∀ j,j≠1->nth a j=nth b j)(n:Int):a.set 1 n=b.set 1 n:=by
 apply List.ext_getElem?
 intro j;by_cases hj:j=1
 ·subst hj;rw[List.getElem?_set_self (by omega),List.getElem?_set_self (by omega)]
 ·rw[List.getElem?_set_ne (Ne.symm hj),List.getElem?_set_ne (Ne.symm hj)];by_cases hl:j<18
  ·rw[An (by omega),An (by omega),h j hj]
  ·rw[List.getElem?_eq_none (by omega),List.getElem?_eq_none (by omega)]
theorem oE{X Y:Int}{A A':Nat->List Int}{allw:Prop}{z z':LZ}(hI:Ev X Y A z)(h:RZ X Y A' (Ck Y z) allw z z'):(∀ j,Ck Y z' j=Ck Y z j)/\z'.st.cl=z.st.cl/\z'.st.fm=z.st.fm/\∀ i,(z'.T i).isSome=(z.T i).isSome:=by
 refine⟨fun j=>?_,h.sd.cl,h.sd.fm,fun i=>?_⟩
 ·by_cases hj:1<=j/\(j:Int)<=Y
  ·rw[Gy _ hj.1 hj.2,Gy _ hj.1 hj.2];unfold Pj;cases ht:z.T j with
   |none=>rw[h.n j ht]
   |some t=>
    obtain⟨t',ht',-,he,hr,hl⟩:=h.t j t ht;rw[ht'];simp only;rw[he];rw[nO hl (hI.snd j t ht).2.1 hr]
  ·rw[Fw _ hj,Fw _ hj];rcases h.sd.S j with e|e
   ·exact e
   ·rw[Fw _ hj]at e;exact e
 ·cases ht:z.T i with
  |none=>rw[h.n i ht]
  |some t=>
   obtain⟨t',ht',-⟩:=h.t i t ht;rw[ht'];rfl
end Go.Proofs.YtmnecpnkkapflaaGreat
