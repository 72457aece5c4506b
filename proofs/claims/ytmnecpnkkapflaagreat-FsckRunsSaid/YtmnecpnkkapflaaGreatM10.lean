import Derived.Test.YtmnecpnkkapflaaGreatM04
import Derived.Test.YtmnecpnkkapflaaGreatM08
import Derived.Test.YtmnecpnkkapflaaGreatM09
namespace Go.Proofs.YtmnecpnkkapflaaGreat
set_option maxHeartbeats 16000000
set_option maxRecDepth 1000000
set_option linter.unusedSimpArgs false
set_option linter.unusedVariables false
open Go.RowKit
structure SI (X Y:Int) (A:Nat->List Int) (s:LS):Prop where
 fc:Pb s
 cd:∀ q,s.cl q=true->isD X Y q=true
 bk:∀ k q,s.bk k=some q->isD X Y q=true/\s.cl q=true/\s.fm q=false
 inj:∀ k k' q,s.bk k=some q->s.bk k'=some q->k=k'
 un:∀ j:Nat,s.cl j=false->s.S j=A j
 ln:∀ j:Nat,isD X Y j=true->(s.S j).length=128/\A4 (s.S j)
 sub:∀ j:Nat,s.fm j=true->P7 (s.S j) (A j)
structure Did (s s2:LS):Prop where
 new:∀ k q,s2.bk k=some q->(∃ k',s.bk k'=some q)\/(0<=q/\s.cl q=false)
 same:∀ j:Nat,s2.fm j=false->s2.S j=s.S j
theorem Did.refl(s:LS):Did s s:=⟨fun k q h=> .inl ⟨k,h⟩,fun _ _=>rfl⟩
theorem Gr.not{a b:LS}(hg:Gr a b){q:Int}(h0:0<=q)(h:b.cl q=false):a.cl q=false:=by
 cases hc:a.cl q with
 |false=>rfl
 |true=>
  have e:(q.toNat:Int)=q:=(by omega);have:=(hg q.toNat (by rw[e];exact hc)).1;rw[e,h]at this;cases this
theorem Did.trans{a b c:LS}(h:Did a b)(h2:Did b c)(hg:Gr a b)(hg2:Gr b c)(hb:Pb b):Did a c:=by
 refine⟨fun k q hq=>?_,fun j hj=>?_⟩
 ·rcases h2.new k q hq with ⟨k',h3⟩|⟨h0,h3⟩
  ·exact h.new k' q h3
  ·exact .inr ⟨h0,hg.not h0 h3⟩
 ·have hb2:b.fm j=false:=by
   cases hbj:b.fm j with
   |false=>rfl
   |true=>have:=(hg2 j (hb j hbj)).2.1;rw[hj,hbj]at this;cases this
  rw[h2.same j hj,h.same j hb2]
structure oY (X Y:Int) (A:Nat->List Int) (T:Int->LS->Bool×LS):Prop where
 ok:Xx T
 inv:∀ p s,SI X Y A s->SI X Y A (T p s).2
 did:∀ p s,SI X Y A s->Did s (T p s).2
structure Rr (X Y:Int) (A:Nat->List Int) (F:List Int->LS->List Int×Bool×LS):Prop where
 ok:Wd F
 inv:∀ ps s,SI X Y A s->SI X Y A (F ps s).2.2
 did:∀ ps s,SI X Y A s->Did s (F ps s).2.2
theorem O2{X Y:Int}{A:Nat->List Int}{T:Nat->Int->LS->Bool×LS}(hT:∀ k,oY X Y A (T k))(base step n:Int)(k0:Nat):Rr X Y A (F4 T base step n k0):=by
 refine⟨L7 (fun k=>(hT k).ok) base step n k0,fun ps=>?_,fun ps=>?_⟩
 ·induction ps generalizing k0 with
  |nil=>intro s h;exact h
  |cons p r ih=>
   intro s h;rw[D0];split
   ·exact ih (k0+1) s h
   ·exact ih (k0+1) _ ((hT k0).inv p s h)
 ·induction ps generalizing k0 with
  |nil=>intro s h;exact Did.refl _
  |cons p r ih=>
   intro s h;rw[D0];split
   ·exact ih (k0+1) s h
   ·exact((hT k0).did p s h).trans (ih (k0+1) _ ((hT k0).inv p s h)) ((hT k0).ok.grow p s) ((L7 (fun k=>(hT k).ok) base step n (k0+1)).grow r _) ((hT k0).inv p s h).fc
theorem Wy{X Y q:Int}(hY:0<=Y)(h:isD X Y q=true):0<q:=by
 unfold isD at h;have:=of_decide_eq_true h;omega
theorem SI.claim{X Y:Int}{A:Nat->List Int}{s:LS}(h:SI X Y A s){p:Int}(h1:isD X Y p=true):SI X Y A {s with cl:=A8 s.cl p}:=by
 refine⟨fun j hj=>C9 (h.fc j hj),fun q hq=>?_,fun k q hk=>?_,h.inj,fun j hj=>h.un j ?_,h.ln,h.sub⟩
 ·by_cases hqp:q=p
  ·subst hqp;exact h1
  ·have hq2:A8 s.cl p q=true:=hq;rw[I8 hqp]at hq2;exact h.cd q hq2
 ·obtain⟨a,b,c⟩:=h.bk k q hk;exact⟨a,C9 b,c⟩
 ·cases hb:s.cl j with
  |false=>rfl
  |true=>have:A8 s.cl p j=true:=C9 hb;rw[show A8 s.cl p j=false from hj]at this;cases this
theorem SI.fmn{X Y:Int}{A:Nat->List Int}{s:LS}(hY:0<=Y)(h:SI X Y A s){p:Int}(h1:isD X Y p=true)(h2:s.cl p=false):s.fm p=false:=by
 have e:=(B5 hY h1).1;cases hb:s.fm p with
 |false=>rfl
 |true=>
  have:=h.fc p.toNat (by rw[e];exact hb);rw[e,h2]at this;cases this
theorem Z9{X Y:Int}(hY:0<=Y)(A:Nat->List Int)(base:Int)(k:Nat):oY X Y A (Gc X Y base k):=by
 refine⟨Qa X Y base k,fun p s h=>?_,fun p s h=>?_⟩
 ·unfold Gc;split
  ·rename_i hc
   have hn:=h.claim hc.1;refine⟨hn.fc,hn.cd,fun k' q hk=>?_,fun k1 k2 q hk1 hk2=>?_,hn.un,hn.ln,hn.sub⟩
   ·have hk2:Ec s.bk (base+k) p k'=some q:=hk;unfold Ec at hk2;split at hk2
    ·cases hk2;exact⟨hc.1,E7 _ _,h.fmn hY hc.1 hc.2⟩
    ·exact hn.bk k' q hk2
   ·have a1:Ec s.bk (base+k) p k1=some q:=hk1;have a2:Ec s.bk (base+k) p k2=some q:=hk2;unfold Ec at a1 a2;split at a1
    ·rename_i e1
     split at a2
     ·rename_i e2;rw[e1,e2]
     ·cases a1;have:=(h.bk _ _ a2).2.1;rw[hc.2]at this;cases this
    ·split at a2
     ·cases a2;have:=(h.bk _ _ a1).2.1;rw[hc.2]at this;cases this
     ·exact h.inj _ _ _ a1 a2
  ·exact h
 ·unfold Gc;split
  ·rename_i hc
   refine⟨fun k' q hk=>?_,fun _ _=>rfl⟩;have hk2:Ec s.bk (base+k) p k'=some q:=hk;unfold Ec at hk2;split at hk2
   ·cases hk2;exact .inr ⟨Int.le_of_lt (Wy hY hc.1),hc.2⟩
   ·exact .inl ⟨k',hk2⟩
  ·exact Did.refl _
theorem Kb{X Y:Int}(hY:0<=Y){A:Nat->List Int}{F:List Int->LS->List Int×Bool×LS}(hF:Rr X Y A F):oY X Y A (Du X Y F):=by
 have hok:=Hd hY hF.ok (X:=X);refine⟨hok,fun p s h=>?_,fun p s h=>?_⟩
 ·cases hb:(Du X Y F p s).1 with
  |false=>rw[hok.fail p s hb];exact h
  |true=>
   obtain⟨h1,h2,h3,h4⟩:=Gd hb;rw[h4];obtain⟨hp,-⟩:=B5 hY h1;have h2':s.cl (p.toNat:Int)=false:=(by rw[hp];exact h2);have hs1:=h.claim h1;have hi:=hF.inv (Al (s.S p.toNat)) _ hs1;have hd:=hF.did (Al (s.S p.toNat)) _ hs1;have hg:=hF.ok.grow (Al (s.S p.toNat)) {s with cl:=A8 s.cl p} p.toNat (by rw[hp];exact E7 _ _);have hA:=h.un p.toNat h2';obtain⟨hl,hby⟩:=h.ln p.toNat (by rw[hp];exact h1);have hmay:F8 (F (Al (s.S p.toNat)) {s with cl:=A8 s.cl p}).1:=Nw hby (fun i=>hF.ok.sub _ _ i);have hlen:(F (Al (s.S p.toNat)) {s with cl:=A8 s.cl p}).1.length=32:=(by rw[hF.ok.len];simp);have hback:=Tb _ hlen hmay;have hsub:=fun i=>hF.ok.sub (Al (s.S p.toNat)) {s with cl:=A8 s.cl p} i
   have hbn:∀ k q,(F (Al (s.S p.toNat)) {s with cl:=A8 s.cl p}).2.2.bk k=some q->q≠p:=by
    intro k q hk e;subst e;rcases hd.new k q hk with ⟨k',h5⟩|⟨-,h5⟩
    ·have:=(h.bk k' q h5).2.1;rw[h2]at this;cases this
    ·have h6:A8 s.cl q q=false:=h5;rw[E7]at h6;cases h6
   generalize (F (Al (s.S p.toNat)) {s with cl:=A8 s.cl p})=r at*;refine⟨fun j hj=>?_,hi.cd,fun k q hk=>?_,hi.inj,fun j hj=>?_,fun j hj=>?_,fun j hj=>?_⟩
   ·by_cases hjp:(j:Int)=(p.toNat:Int)
    ·rw[hjp];exact hg.1
    ·have hj2:A8 r.2.2.fm p.toNat j=true:=hj;rw[I8 hjp]at hj2;exact hi.fc j hj2
   ·obtain⟨a,b,c⟩:=hi.bk k q hk;refine⟨a,b,?_⟩;show A8 r.2.2.fm p.toNat q=false
    rw[I8 (by rw[hp];exact hbn k q hk)];exact c
   ·have hne:j≠p.toNat:=fun e=>by
     subst e;rw[show r.2.2.cl p.toNat=false from hj]at hg;cases hg.1
    show Ay _ _ _ _=_
    rw[Ca _ _ hne];exact hi.un j hj
   ·show(Ay _ _ _ _).length=128/\A4 (Ay _ _ _ _)
    by_cases hjp:j=p.toNat
    ·subst hjp;rw[Cx];exact⟨L0 _,Nx _⟩
    ·rw[Ca _ _ hjp];exact hi.ln j hj
   ·show P7 (Ay _ _ _ _) _
    by_cases hjp:j=p.toNat
    ·subst hjp;rw[Cx,J5 hmay];intro i;rw[hback, <-hA];exact hsub i
    ·rw[Ca _ _ hjp];have hj2:A8 r.2.2.fm p.toNat j=true:=hj;rw[I8 (by omega)]at hj2;exact hi.sub j hj2
 ·cases hb:(Du X Y F p s).1 with
  |false=>rw[hok.fail p s hb];exact Did.refl _
  |true=>
   obtain⟨h1,h2,h3,h4⟩:=Gd hb;rw[h4];obtain⟨hp,-⟩:=B5 hY h1;have hs1:=h.claim h1;have hd:=hF.did (Al (s.S p.toNat)) _ hs1;refine⟨fun k q hk=>?_,fun j hj=>?_⟩
   ·rcases hd.new k q hk with h5|⟨h0,h5⟩
    ·exact .inl h5
    ·refine .inr ⟨h0,?_⟩;cases hc:s.cl q with
     |false=>rfl
     |true=>have:A8 s.cl p q=true:=C9 hc;rw[show A8 s.cl p q=false from h5]at this;cases this
   ·have hj2:A8 (F (Al (s.S p.toNat)) {s with cl:=A8 s.cl p}).2.2.fm p.toNat j=false:=hj;have hne:(j:Int)≠(p.toNat:Int):=fun e=>by rw[e,E7]at hj2;cases hj2
    rw[I8 hne]at hj2;show Ay _ _ _ _=_
    rw[Ca _ _ (by omega)];exact hd.same j hj2
def Pz(X Y n base:Int):List Int->LS->List Int×Bool×LS:=F4 (Gc X Y base) base 1 n 0
noncomputable def fN(X Y n:Int):List Int->LS->List Int×Bool×LS:=F4 (fun k=>Du X Y (Pz X Y n (44+32*k))) 44 32 n 0
noncomputable def cM(X Y n:Int):List Int->LS->List Int×Bool×LS:=F4 (fun _=>Du X Y (Pz X Y n 12)) 12 1 n 0
noncomputable def fV(X Y n:Int):List Int->LS->List Int×Bool×LS:=F4 (fun _=>Du X Y (fN X Y n)) 44 1 n 0
theorem Ym{X Y p:Int}{st:LS}(h:(Au X Y p st).1=false):¬ (isD X Y p=true/\st.cl p=false)/\(Au X Y p st).2=st:=by
 unfold Au at h ⊢;split at h
 ·cases h
 ·rename_i hc;rw[if_neg hc];exact⟨hc,rfl⟩
theorem Vg{X Y p:Int}{st:LS}(h:¬ (Au X Y p st).1=false):(isD X Y p=true/\st.cl p=false)/\(Au X Y p st).2={st with cl:=A8 st.cl p}:=by
 unfold Au at h ⊢;split at h
 ·rename_i hc;rw[if_pos hc];exact⟨hc,rfl⟩
 ·exact absurd rfl h
theorem P8{X Y:Int}(F:List Int->LS->List Int×Bool×LS)(p:Int)(st:LS):
  Du X Y F p st=if (Au X Y p st).1=false then(false,(Au X Y p st).2)else C7 F p.toNat (Au X Y p st).2:=by
 by_cases h:(Au X Y p st).1=false
 ·obtain⟨h1,h2⟩:=Ym h;rw[if_pos h,h2];unfold Du;rw[if_neg h1]
 ·obtain⟨h1,h2⟩:=Vg h;rw[if_neg h,h2];unfold Du;rw[if_pos h1]
theorem cF(X Y n base:Int):J9 X Y n base=Pz X Y n base:=by
 funext ps st
 unfold J9 Pz;refine O1 base 1 n (fun k p st=>?_) (fun k p st h=>(Qa X Y base k).fail p st h) ps 0 st;by_cases h:(Au X Y p st).1=false
 ·obtain⟨h1,h2⟩:=Ym h;rw[if_pos h,h2];unfold Gc;rw[if_neg h1]
 ·obtain⟨h1,h2⟩:=Vg h;rw[if_neg h,h2];unfold Gc Cm;rw[if_pos h1]
theorem Fc{X Y:Int}(hY:0<=Y)(A:Nat->List Int)(n base:Int):Rr X Y A (Pz X Y n base):=O2 (fun k=>Z9 hY A base k) base 1 n 0
theorem sZ{X Y:Int}(hY:0<=Y)(n:Int):Pg X Y n=fN X Y n:=by
 funext ps st
 unfold Pg fN;refine O1 44 32 n (fun k p st=>?_) (fun k p st h=>(Hd hY (Fc hY (fun _=>[]) n (44+32*k)).ok).fail p st h) ps 0 st;rw[P8, <-cF];rfl
theorem Rx{X Y:Int}(hY:0<=Y)(A:Nat->List Int)(n:Int):Rr X Y A (fN X Y n):=O2 (fun k=>Kb hY (Fc hY A n (44+32*k))) 44 32 n 0
theorem Kv{X Y:Int}(hY:0<=Y)(A:Nat->List Int)(n:Int):Rr X Y A (cM X Y n):=O2 (fun _=>Kb hY (Fc hY A n 12)) 12 1 n 0
theorem Nl{X Y:Int}(hY:0<=Y)(A:Nat->List Int)(n:Int):Rr X Y A (fV X Y n):=O2 (fun _=>Kb hY (Rx hY A n)) 44 1 n 0
theorem xA{X Y:Int}(hY:0<=Y)(n:Int)(ps:List Int)(st:LS):A0 (Au X Y) (Lt X Y n) 12 1 n 0 ps st=cM X Y n ps st:=by
 unfold cM;refine O1 12 1 n (fun k p st=>?_) (fun k p st h=>(Hd hY (Fc hY (fun _=>[]) n 12).ok).fail p st h) ps 0 st;rw[P8, <-cF];rfl
theorem vD{X Y:Int}(hY:0<=Y)(n:Int)(ps:List Int)(st:LS):A0 (Au X Y) (Kj X Y n) 44 1 n 0 ps st=fV X Y n ps st:=by
 unfold fV;refine O1 44 1 n (fun k p st=>?_) (fun k p st h=>(Hd hY (Rx hY (fun _=>[]) n).ok).fail p st h) ps 0 st;rw[P8, <-sZ hY];rfl
noncomputable def pA(X Y n:Int)(raw:List Int)(st:LS):=Pz X Y n 0 ((raw.drop 4).take 12) st
noncomputable def pB(X Y n:Int)(raw:List Int)(st:LS):=cM X Y n [nth raw 16] (pA X Y n raw st).2.2
noncomputable def pC(X Y n:Int)(raw:List Int)(st:LS):=fV X Y n [nth raw 17] (pB X Y n raw st).2.2
theorem Ow{X Y:Int}(hY:0<=Y)(n:Int)(raw:List Int)(st:LS):Az X Y n raw st=(raw.take 4++((pA X Y n raw st).1++((pB X Y n raw st).1++(pC X Y n raw st).1)),(pC X Y n raw st).2.2):=by
 unfold Az pC pB pA;simp only[xA hY,vD hY,cF]
theorem W9{X Y:Int}(hY:0<=Y){A:Nat->List Int}(n:Int)(raw:List Int){st:LS}(h:SI X Y A st):SI X Y A (Az X Y n raw st).2/\Did st (Az X Y n raw st).2/\Gr st (Az X Y n raw st).2:=by
 rw[Ow hY];have iA:=(Fc hY A n 0).inv ((raw.drop 4).take 12) st h;have dA:=(Fc hY A n 0).did ((raw.drop 4).take 12) st h;have gA:=(Fc (X:=X) hY A n 0).ok.grow ((raw.drop 4).take 12) st;have iB:=(Kv hY A n).inv [nth raw 16] _ iA;have dB:=(Kv hY A n).did [nth raw 16] _ iA;have gB:=(Kv (X:=X) hY A n).ok.grow [nth raw 16] (Pz X Y n 0 ((raw.drop 4).take 12) st).2.2;have iC:=(Nl hY A n).inv [nth raw 17] _ iB;have dC:=(Nl hY A n).did [nth raw 17] _ iB;have gC:=(Nl (X:=X) hY A n).ok.grow [nth raw 17] (cM X Y n [nth raw 16] (Pz X Y n 0 ((raw.drop 4).take 12) st).2.2).2.2;exact⟨iC,(dA.trans dB gA gB iA.fc).trans dC (gA.trans gB) gC iB.fc,(gA.trans gB).trans gC⟩
theorem Ox{X Y:Int}(hY:0<=Y)(n:Int){raw:List Int}(hr:raw.length=18)(st:LS):(pA X Y n raw st).1.length=12/\(pB X Y n raw st).1.length=1/\(pC X Y n raw st).1.length=1:=by
 refine⟨?_,?_,?_⟩
 ·unfold pA;rw[(Fc (X:=X) hY (fun _=>[]) n 0).ok.len];simp[hr]
 ·unfold pB;rw[(Kv (X:=X) hY (fun _=>[]) n).ok.len];rfl
 ·unfold pC;rw[(Nl (X:=X) hY (fun _=>[]) n).ok.len];rfl
theorem Pu{a b:List Int}{i:Nat}(h:i<a.length):nth (a++b) i=nth a i:=by unfold nth;rw[List.getElem?_append_left h]
theorem Iq{a b:List Int}{i:Nat}(h:a.length<=i):nth (a++b) i=nth b (i-a.length):=by unfold nth;rw[List.getElem?_append_right h]
theorem Kn{l:List Int}{i:Nat}(h:l.length<=i):nth l i=0:=by unfold nth;rw[List.getElem?_eq_none h];rfl
theorem Fm{X Y:Int}(hY:0<=Y)(n:Int){raw:List Int}(hr:raw.length=18)(st:LS):
  (∀ i,i<4->nth (Az X Y n raw st).1 i=nth raw i)/\(∀ i,i<12->nth (Az X Y n raw st).1 (4+i)=nth (pA X Y n raw st).1 i)/\nth (Az X Y n raw st).1 16=nth (pB X Y n raw st).1 0/\nth (Az X Y n raw st).1 17=nth (pC X Y n raw st).1 0/\(Az X Y n raw st).1.length=18:=by
 obtain⟨l1,l2,l3⟩:=Ox (X:=X) hY n hr st;have l0:(raw.take 4).length=4:=by simp[hr]
 rw[Ow hY];refine⟨fun i hi=>?_,fun i hi=>?_,?_,?_,?_⟩
 ·show nth (raw.take 4++_) i=_
  rw[Pu (by omega)];unfold nth;rw[List.getElem?_take,if_pos hi]
 ·show nth (raw.take 4++_) (4+i)=_
  rw[Iq (by omega),l0,Nat.add_sub_cancel_left,Pu (by omega)]
 ·show nth (raw.take 4++_) 16=_
  rw[Iq (by omega),l0,Iq (by omega),l1,Pu (by omega)]
 ·show nth (raw.take 4++_) 17=_
  rw[Iq (by omega),l0,Iq (by omega),l1,Iq (by omega),l2]
 ·show(raw.take 4++_).length=18
  simp only[List.length_append];omega
theorem Nt{raw:List Int}(hr:raw.length=18){i:Nat}(hi:i<12):nth ((raw.drop 4).take 12) i=nth raw (4+i):=by
 unfold nth;rw[List.getElem?_take,if_pos hi,List.getElem?_drop]
structure sV (allw:Prop) (out raw raw':List Int):Prop where
 len:raw.length=18
 len':raw'.length=18
 kind:nth raw' 0=nth raw 0
 size:nth raw' 2=nth raw 2
 made:nth raw' 3=nth raw 3
 ptr:∀ i,4<=i->i<18->(nth raw' i=nth raw i\/(nth raw' i=0/\nth out i=0))/\(allw->nth raw' i=nth out i)
theorem Tr(X Y:Int)(allw:Prop)(W A:Nat->List Int)(f0:Int->Bool)(n base:Int):fE X Y allw W A f0 (Pz X Y n base):=
 Mq (fun k=>Qa X Y base k) (fun k=>cV X Y allw W A f0 base k) base 1 n 0
theorem kN{X Y:Int}(hY:0<=Y)(allw:Prop)(W A:Nat->List Int)(f0:Int->Bool)(n:Int):fE X Y allw W A f0 (fN X Y n):=
 Mq (fun k=>Hd hY (Fc hY A n (44+32*k)).ok) (fun k=>N7 hY (Fc hY A n (44+32*k)).ok (Tr X Y allw W A f0 n _)) 44 32 n 0
theorem nP{X Y:Int}(hY:0<=Y)(allw:Prop)(W A:Nat->List Int)(f0:Int->Bool)(n:Int):fE X Y allw W A f0 (cM X Y n):=
 Mq (fun _=>Hd hY (Fc hY A n 12).ok) (fun _=>N7 hY (Fc hY A n 12).ok (Tr X Y allw W A f0 n _)) 12 1 n 0
theorem kP{X Y:Int}(hY:0<=Y)(allw:Prop)(W A:Nat->List Int)(f0:Int->Bool)(n:Int):fE X Y allw W A f0 (fV X Y n):=
 Mq (fun _=>Hd hY (Rx hY A n).ok) (fun _=>N7 hY (Rx hY A n).ok (kN hY allw W A f0 n)) 44 1 n 0
theorem mO{X Y:Int}(hY:0<=Y){allw:Prop}{W A:Nat->List Int}{f0:Int->Bool}(n:Int){raw raw':List Int}{s s':LS}(hR:Sd X Y allw W A f0 s s')(hr:sV allw (Az X Y n raw s).1 raw raw')(hP:Pro allw W A f0 (Az X Y n raw s).2):
  (∀ i,4<=i->nth (Az X Y n raw' s').1 i=nth (Az X Y n raw s).1 i)/\Sd X Y allw W A f0 (Az X Y n raw s).2 (Az X Y n raw' s').2:=by
 obtain⟨-,q1,q2,q3,q4⟩:=Fm (X:=X) hY n hr.len s;obtain⟨-,q1',q2',q3',q4'⟩:=Fm (X:=X) hY n hr.len' s';have hC:(Az X Y n raw s).2=(pC X Y n raw s).2.2:=by rw[Ow hY]
 have hC':(Az X Y n raw' s').2=(pC X Y n raw' s').2.2:=by rw[Ow hY]
 rw[hC]at hP;have gB:=(Kv (X:=X) hY A n).ok.grow [nth raw 16] (pA X Y n raw s).2.2;have gC:=(Nl (X:=X) hY A n).ok.grow [nth raw 17] (pB X Y n raw s).2.2;have fA:Pb (pA X Y n raw s).2.2:=(Fc (X:=X) hY A n 0).ok.fmcl _ _ hR.fc;have fB:Pb (pB X Y n raw s).2.2:=(Kv (X:=X) hY A n).ok.fmcl _ _ fA;have pBr:Pro allw W A f0 (pB X Y n raw s).2.2:=hP.back gC fB;have pAr:Pro allw W A f0 (pA X Y n raw s).2.2:=pBr.back gB fA;obtain⟨a1,a2,a3⟩:=Tr X Y allw W A f0 n 0 ((raw.drop 4).take 12) ((raw'.drop 4).take 12) s s' hR pAr (by simp[hr.len,hr.len']) (fun i=>by
  by_cases hi:i<12
  ·rw[Nt hr.len hi,Nt hr.len' hi,show nth (Pz X Y n 0 ((raw.drop 4).take 12) s).1 i=nth (Az X Y n raw s).1 (4+i)from(q1 i hi).symm];exact hr.ptr (4+i) (by omega) (by omega)
  ·have e1:nth ((raw.drop 4).take 12) i=0:=Kn (by simp;omega);have e2:nth ((raw'.drop 4).take 12) i=0:=Kn (by simp;omega);have e3:nth (Pz X Y n 0 ((raw.drop 4).take 12) s).1 i=0:=Kn (by rw[(Fc (X:=X) hY A n 0).ok.len];simp;omega);rw[e1,e2,e3];exact⟨.inl rfl,fun _=>rfl⟩)
 have hone:∀ {p p' o:Int},(p'=p\/(p'=0/\o=0))/\(allw->p'=o)->∀ {l:List Int},l.length=1->nth l 0=o->∀ i,(nth [p'] i=nth [p] i\/(nth [p'] i=0/\nth l i=0))/\(allw->nth [p'] i=nth l i):=by
  intro p p' o h l hl ho i;cases i with
  |zero=>rw[ho];exact h
  |succ i=>
   rw[Kn (l:=l) (by omega)];exact⟨.inl rfl,fun _=>rfl⟩
 obtain⟨l1,l2,l3⟩:=Ox (X:=X) hY n hr.len s;obtain⟨b1,b2,b3⟩:=nP hY allw W A f0 n [nth raw 16] [nth raw' 16] _ _ a3 pBr rfl (hone (hr.ptr 16 (by omega) (by omega)) l2 q2.symm);obtain⟨c1,c2,c3⟩:=kP hY allw W A f0 n [nth raw 17] [nth raw' 17] _ _ b3 hP rfl (hone (hr.ptr 17 (by omega) (by omega)) l3 q3.symm);refine⟨fun i hi=>?_,by rw[hC,hC'];exact c3⟩;by_cases h18:i<18
 ·by_cases h16:i<16
  ·have e1:=q1 (i-4) (by omega);have e2:=q1' (i-4) (by omega);rw[show 4+(i-4)=i by omega]at e1 e2;rw[e1,e2];exact congrArg (fun l=>nth l (i-4)) a1
  ·by_cases h17:i=16
   ·subst h17;rw[q2,q2'];exact congrArg (fun l=>nth l 0) b1
   ·obtain rfl:i=17:=(by omega);rw[q3,q3'];exact congrArg (fun l=>nth l 0) c1
 ·rw[Kn (by omega),Kn (by omega)]
def Di(s:Int->Bool)(l:List Int):Int->Bool:=fun q=>s q||decide (q∈l)
theorem Rs(s:Int->Bool):Di s []=s:=by funext q;simp[Di]
theorem Qg(s:Int->Bool)(p:Int)(l:List Int):Di s (p::l)=Di (A8 s p) l:=by
 funext q
 simp only[Di,A8,List.mem_cons,Bool.decide_or,Bool.or_assoc]
theorem Ni(s:Int->Bool)(a b:List Int):Di s (a++b)=Di (Di s a) b:=by
 funext q
 simp only[Di,List.mem_append,Bool.decide_or,Bool.or_assoc]
theorem Nj{s:Int->Bool}{l:List Int}{q:Int}:Di s l q=true↔s q=true\/q∈l:=by simp[Di]
theorem Pd{s:Int->Bool}{l:List Int}{q:Int}:Di s l q=false↔s q=false/\q∉l:=by simp[Di]
def OkL(X Y:Int)(s:Int->Bool)(l:List Int):Prop:=(∀ p∈l,isD X Y p=true/\s p=false)/\l.Nodup
theorem qU(X Y:Int)(s:Int->Bool):OkL X Y s []:=⟨fun p h=>(by cases h),List.nodup_nil⟩
theorem Rh{X Y:Int}{s:Int->Bool}{a b:List Int}:OkL X Y s (a++b)↔OkL X Y s a/\OkL X Y (Di s a) b:=by
 unfold OkL;rw[List.nodup_append];constructor
 ·rintro ⟨h1,h2,h3,h4⟩;refine⟨⟨fun p hp=>h1 p (List.mem_append_left _ hp),h2⟩,fun p hp=>⟨(h1 p (List.mem_append_right _ hp)).1,Pd.2 ⟨(h1 p (List.mem_append_right _ hp)).2,fun hm=>h4 p hm p hp rfl⟩⟩,h3⟩
 ·rintro ⟨⟨h1,h2⟩,h3,h4⟩;refine⟨fun p hp=>?_,h2,h4,fun p hp q hq e=>?_⟩
  ·rcases List.mem_append.1 hp with h|h
   ·exact h1 p h
   ·exact⟨(h3 p h).1,(Pd.1 (h3 p h).2).1⟩
  ·subst e;exact(Pd.1 (h3 p hq).2).2 hp
theorem eE{X Y:Int}{s:Int->Bool}{p:Int}:OkL X Y s [p]↔isD X Y p=true/\s p=false:=by
 unfold OkL;simp
theorem Rt(s:Int->Bool)(p:Int):Di s [p]=A8 s p:=by rw[Qg,Rs]
theorem mH{X Y:Int}{s:Int->Bool}{p:Int}{l:List Int}:OkL X Y s (p::l)↔(isD X Y p=true/\s p=false)/\OkL X Y (A8 s p) l:=by
 have:=Rh (X:=X) (Y:=Y) (s:=s) (a:=[p]) (b:=l);rw[eE,Rt]at this;exact this
theorem OkL.mono{X Y:Int}{s s':Int->Bool}{l:List Int}(h:OkL X Y s l)(hs:∀ q,s q=false->s' q=false):OkL X Y s' l:=⟨fun p hp=>⟨(h.1 p hp).1,hs p (h.1 p hp).2⟩,h.2⟩
def Ue(ps:List Int):Bool:=ps.any fun p=>p !=0
structure eY where
 ps:(Nat->List Int)->Int->List Int
 tb:(Nat->List Int)->Int->List Int
 sh:(Nat->List Int)->Int->Prop
 bl:(Nat->List Int)->Int->Int->Int
def dW:eY:=⟨fun _ p=>[p],fun _ _=>[],fun _ _=>True,fun _ p _=>p⟩
structure Dx where
 lo:Nat->Int
 F:Nat->eY
def Dx.ps(R:Dx)(S:Nat->List Int):Nat->List Int->List Int
 |_,[]=>[]
 |k,p::r=>(if p=0 then []else(R.F k).ps S p)++R.ps S (k+1) r
def Dx.tb(R:Dx)(S:Nat->List Int):Nat->List Int->List Int
 |_,[]=>[]
 |k,p::r=>(if p=0 then []else(R.F k).tb S p)++R.tb S (k+1) r
def Dx.sh(R:Dx)(n:Int)(S:Nat->List Int):Nat->List Int->Prop
 |_,[]=>True
 |k,p::r=>(p≠0->R.lo k<n/\(R.F k).sh S p)/\R.sh n S (k+1) r
def Dx.bl(R:Dx)(S:Nat->List Int):Nat->List Int->Int->Int
 |_,[],_=>0
 |k,p::r,q=>if q<R.lo (k+1)then(if p=0 then 0 else(R.F k).bl S p q)else R.bl S (k+1) r q
def jP(n:Int)(R:Dx):eY where
 ps:=fun S p=>p::R.ps S 0 (Al (S p.toNat))
 tb:=fun S p=>p::R.tb S 0 (Al (S p.toNat))
 sh:=fun S p=>R.sh n S 0 (Al (S p.toNat))/\Ue (Al (S p.toNat))=true
 bl:=fun S p q=>R.bl S 0 (Al (S p.toNat)) q
structure Hy (f:eY):Prop where
 st:∀ S S' p,(∀ q∈f.tb S p,S' q.toNat=S q.toNat)->f.ps S' p=f.ps S p/\f.tb S' p=f.tb S p/\(f.sh S' p↔f.sh S p)/\∀ q,f.bl S' p q=f.bl S p q
 tp:∀ S p q,q∈f.tb S p->q∈f.ps S p
theorem lU:Hy dW:=⟨fun _ _ _ _=>⟨rfl,rfl,Iff.rfl,fun _=>rfl⟩,fun _ _ _ h=>by cases h⟩
theorem Dx.st{R:Dx}(hR:∀ k,Hy (R.F k))(n:Int)(S S':Nat->List Int):∀ (ps:List Int) (k:Nat),(∀ q∈R.tb S k ps,S' q.toNat=S q.toNat)->R.ps S' k ps=R.ps S k ps/\R.tb S' k ps=R.tb S k ps/\(R.sh n S' k ps↔R.sh n S k ps)/\∀ q,R.bl S' k ps q=R.bl S k ps q
 |[],_,_=>⟨rfl,rfl,Iff.rfl,fun _=>rfl⟩
 |p::r,k,h=>by
  have h1:=Dx.st hR n S S' r (k+1) (fun q hq=>h q (List.mem_append_right _ hq));by_cases hp:p=0
  ·subst hp;refine⟨?_,?_,?_,fun q=>?_⟩
   ·show _++_=_++_
    rw[if_pos rfl,if_pos rfl,h1.1]
   ·show _++_=_++_
    rw[if_pos rfl,if_pos rfl,h1.2.1]
   ·show(_/\_)↔(_/\_)
    rw[h1.2.2.1];exact and_congr_left fun _=>⟨fun _ h=>absurd rfl h,fun _ h=>absurd rfl h⟩
   ·show(if _ then _ else _)=(if _ then _ else _)
    rw[if_pos rfl,if_pos rfl,h1.2.2.2]
  ·have h2:=(hR k).st S S' p (fun q hq=>h q (List.mem_append_left _ (by rw[if_neg hp];exact hq)));refine⟨?_,?_,?_,fun q=>?_⟩
   ·show _++_=_++_
    rw[if_neg hp,if_neg hp,h1.1,h2.1]
   ·show _++_=_++_
    rw[if_neg hp,if_neg hp,h1.2.1,h2.2.1]
   ·show(_/\_)↔(_/\_)
    rw[h1.2.2.1,h2.2.2.1]
   ·show(if _ then _ else _)=(if _ then _ else _)
    rw[if_neg hp,if_neg hp,h1.2.2.2,h2.2.2.2]
theorem Dx.tp{R:Dx}(hR:∀ k,Hy (R.F k))(S:Nat->List Int):∀ (ps:List Int) (k:Nat) (q:Int),q∈R.tb S k ps->q∈R.ps S k ps
 |[],_,_,h=>by cases h
 |p::r,k,q,h=>by
  rcases List.mem_append.1 h with h|h
  ·refine List.mem_append_left _ ?_;split at h
   ·cases h
   ·rename_i hp;rw[if_neg hp];exact(hR k).tp S p q h
  ·exact List.mem_append_right _ (Dx.tp hR S r (k+1) q h)
theorem Xs(n:Int){R:Dx}(hR:∀ k,Hy (R.F k)):Hy (jP n R):=by
 refine⟨fun S S' p h=>?_,fun S p q h=>?_⟩
 ·have e:S' p.toNat=S p.toNat:=h p (List.mem_cons_self ..);have h1:=Dx.st hR n S S' (Al (S p.toNat)) 0 (fun q hq=>h q (List.mem_cons_of_mem _ hq));refine⟨?_,?_,?_,fun q=>?_⟩
  ·show p::R.ps S' 0 (Al (S' p.toNat))=p::_
   rw[e,h1.1]
  ·show p::R.tb S' 0 (Al (S' p.toNat))=p::_
   rw[e,h1.2.1]
  ·show(R.sh n S' 0 (Al (S' p.toNat))/\_)↔(R.sh n S 0 (Al (S p.toNat))/\_)
   rw[e,h1.2.2.1]
  ·show R.bl S' 0 (Al (S' p.toNat)) q=R.bl S 0 (Al (S p.toNat)) q
   rw[e,h1.2.2.2]
 ·rcases List.mem_cons.1 h with h|h
  ·exact List.mem_cons.2 (.inl h)
  ·exact List.mem_cons.2 (.inr (Dx.tp hR S _ 0 q h))
def H9(p:Int):Option Int:=if p=0 then none else some p
structure sX (X Y:Int) (A:Nat->List Int) (T:Int->LS->Bool×LS) (f:eY) (a b:Int):Prop where
 yes:∀ p s,SI X Y A s->(∀ q,a<=q->s.bk q=none)->(T p s).1=true->
  p≠0/\f.sh (T p s).2.S p/\OkL X Y s.cl (f.ps (T p s).2.S p)/\(T p s).2.cl=Di s.cl (f.ps (T p s).2.S p)/\(∀ q∈f.tb (T p s).2.S p,(T p s).2.fm q=true)/\
  (∀ q,q<a->(T p s).2.bk q=s.bk q)/\(∀ q,b<=q->(T p s).2.bk q=none)/\∀ q,a<=q->q<b->(T p s).2.bk q=H9 (f.bl (T p s).2.S p q)
structure U3 (X Y:Int) (A:Nat->List Int) (F:List Int->LS->List Int×Bool×LS) (R:Dx) (n:Int) (k m:Nat):Prop where
 i:Rr X Y A F
 ok:∀ k,Hy (R.F k)
 all:∀ ps s,k+ps.length<=m->SI X Y A s->(∀ q,R.lo k<=q->s.bk q=none)->
  R.sh n (F ps s).2.2.S k (F ps s).1/\OkL X Y s.cl (R.ps (F ps s).2.2.S k (F ps s).1)/\(F ps s).2.2.cl=Di s.cl (R.ps (F ps s).2.2.S k (F ps s).1)/\(∀ q∈R.tb (F ps s).2.2.S k (F ps s).1,(F ps s).2.2.fm q=true)/\
  (F ps s).2.1=Ue (F ps s).1/\(∀ q,q<R.lo k->(F ps s).2.2.bk q=s.bk q)/\(∀ q,R.lo (k+ps.length)<=q->(F ps s).2.2.bk q=none)/\
  ∀ q,R.lo k<=q->q<R.lo (k+ps.length)->(F ps s).2.2.bk q=H9 (R.bl (F ps s).2.2.S k (F ps s).1 q)
theorem Wp{X Y:Int}(hY:0<=Y){s s2:LS}(hg:Gr s s2)(hc:Pb s){q:Int}(hd:isD X Y q=true)(h:s.fm q=true):s2.fm q=true/\s2.S q.toNat=s.S q.toNat:=by
 have e:=(B5 hY hd).1;obtain⟨h1,h2,h3⟩:=hg q.toNat (hc q.toNat (by rw[e];exact h));rw[e]at h2;exact⟨by rw[h2,h],h3⟩
theorem Rm{X Y:Int}(hY:0<=Y){A:Nat->List Int}{T:Nat->Int->LS->Bool×LS}{R:Dx}{base step n:Int}{m:Nat}(hlo:∀ k,R.lo k<=R.lo (k+1))(hb:∀ k:Nat,k<m->R.lo k=base+step*k)
  (hTi:∀ k,oY X Y A (T k)) (hok:∀ k,Hy (R.F k)) (hT:∀ k,k<m->sX X Y A (T k) (R.F k) (R.lo k) (R.lo (k+1))) (k0:Nat):U3 X Y A (F4 T base step n k0) R n k0 m:=by
 refine⟨O2 hTi base step n k0,hok,fun ps=>?_⟩;induction ps generalizing k0 with
 |nil=>
  intro s hm hi hf;refine⟨trivial,qU _ _ _,(Rs _).symm,fun q h=>(by cases h),rfl,fun q _=>rfl,fun q hq=>hf q hq,fun q h1 h2=>?_⟩;have:R.lo (k0+([]:List Int).length)=R.lo k0:=rfl;omega
 |cons p r ih=>
  intro s hm hi hf;have hkl:k0+(p::r).length=(k0+1)+r.length:=(by simp;omega);rw[hkl]at hm;rw[hkl,D0];have hkm:k0<m:=(by omega);by_cases hc:p=0\/n<=base+step*k0\/(T k0 p s).1=false
  ·rw[if_pos hc];obtain⟨h1,h2,h3,h4,h5,h6,h7,h8⟩:=ih (k0+1) s hm hi (fun q hq=>hf q (Int.le_trans (hlo k0) hq));refine⟨⟨fun h=>absurd rfl h,h1⟩,?_,?_,?_,?_,fun q hq=>h6 q (Int.lt_of_lt_of_le hq (hlo k0)),h7,fun q ha hb=>?_⟩
   ·show OkL X Y s.cl ((if (0:Int)=0 then []else _)++_)
    rw[if_pos rfl];exact h2
   ·show _=Di s.cl ((if (0:Int)=0 then []else _)++_)
    rw[if_pos rfl];exact h3
   ·intro q hq;change q∈((if (0:Int)=0 then []else _)++_)at hq;rw[if_pos rfl]at hq;exact h4 q hq
   ·show _=Ue (0::_)
    unfold Ue;rw[List.any_cons];exact h5
   ·show _=H9 (if q<R.lo (k0+1)then(if (0:Int)=0 then 0 else _)else _)
    by_cases hq:q<R.lo (k0+1)
    ·rw[if_pos hq,if_pos rfl,h6 q hq,hf q ha];rfl
    ·rw[if_neg hq];exact h8 q (by omega) hb
  ·rw[if_neg hc];have hp0:p≠0:=fun h=>hc (.inl h)
   have hn:base+step*k0<n:=(by omega);have ht:(T k0 p s).1=true:=by
    cases hh:(T k0 p s).1 with
    |true=>rfl
    |false=>exact absurd (.inr (.inr hh)) hc
   have hlk:R.lo k0<n:=(by rw[hb k0 hkm];exact hn);obtain⟨-,y1,y2,y3,y4,y5,y6,y7⟩:=(hT k0 hkm).yes p s hi hf ht;have hi1:=(hTi k0).inv p s hi;obtain⟨h1,h2,h3,h4,h5,h6,h7,h8⟩:=ih (k0+1) (T k0 p s).2 hm hi1 y6;have hg:=(L7 (fun k=>(hTi k).ok) base step n (k0+1)).grow r (T k0 p s).2;generalize (T k0 p s).2=s1 at*;generalize F4 T base step n (k0+1) r s1=x at*;have hd:∀ q∈(R.F k0).tb s1.S p,isD X Y q=true:=fun q hq=>(y2.1 q ((hok k0).tp _ _ _ hq)).1
   obtain⟨z1,z2,z3,z4⟩:=(hok k0).st s1.S x.2.2.S p (fun q hq=>(Wp hY hg hi1.fc (hd q hq) (y4 q hq)).2);refine⟨⟨fun _=>⟨hlk,z3.2 y1⟩,h1⟩,?_,?_,?_,?_,fun q hq=>?_,h7,fun q ha hb=>?_⟩
   ·show OkL X Y s.cl ((if p=0 then []else _)++_)
    rw[if_neg hp0,Rh,z1, <-y3];exact⟨y2,h2⟩
   ·show _=Di s.cl ((if p=0 then []else _)++_)
    rw[if_neg hp0,Ni,z1, <-y3];exact h3
   ·intro q hq;change q∈((if p=0 then []else _)++_)at hq;rw[if_neg hp0,List.mem_append,z2]at hq;rcases hq with hq|hq
    ·exact(Wp hY hg hi1.fc (hd q hq) (y4 q hq)).1
    ·exact h4 q hq
   ·show true=Ue (p::_)
    unfold Ue;rw[List.any_cons];have:(p !=0)=true:=(by simpa using hp0);rw[this];rfl
   ·rw[h6 q (Int.lt_of_lt_of_le hq (hlo k0)),y5 q hq]
   ·show _=H9 (if q<R.lo (k0+1)then(if p=0 then 0 else _)else _)
    by_cases hq:q<R.lo (k0+1)
    ·rw[if_pos hq,if_neg hp0,h6 q hq,z4,y7 q ha hq]
    ·rw[if_neg hq];exact h8 q (by omega) hb
theorem oD{X Y:Int}(hY:0<=Y)(A:Nat->List Int)(base:Int)(k:Nat):sX X Y A (Gc X Y base k) dW (base+k) (base+(k+1:Nat)):=by
 refine⟨fun p s hi hf ht=>?_⟩;unfold Gc at ht ⊢;by_cases hc:isD X Y p=true/\s.cl p=false
 ·rw[if_pos hc];have hp:=(B5 hY hc.1).2;refine⟨hp,trivial,eE.2 hc,(Rt _ _).symm,fun q hq=>(by cases hq),fun q hq=>?_,fun q hq=>?_,fun q h1 h2=>?_⟩
  ·show Ec s.bk (base+k) p q=_
   unfold Ec;rw[if_neg (by omega)]
  ·show Ec s.bk (base+k) p q=_
   unfold Ec;rw[if_neg (by omega)];exact hf q (by omega)
  ·show Ec s.bk (base+k) p q=H9 p
   unfold Ec H9;rw[if_pos (by omega),if_neg hp]
 ·rw[if_neg hc]at ht;cases ht
theorem Uj{X Y:Int}(hY:0<=Y){A:Nat->List Int}{F:List Int->LS->List Int×Bool×LS}{R:Dx}{n a b:Int}(hF:U3 X Y A F R n 0 32)(ha:R.lo 0=a)(hb:R.lo 32=b):sX X Y A (Du X Y F) (jP n R) a b:=by
 refine⟨fun p s hi hf ht=>?_⟩;obtain⟨h1,h2,h3,h4⟩:=Gd ht;obtain⟨hp,hp0⟩:=B5 hY h1;have hi1:=hi.claim h1;obtain⟨x1,x2,x3,x4,x5,x6,x7,x8⟩:=hF.all (Al (s.S p.toNat)) {s with cl:=A8 s.cl p} (by simp) hi1 (fun q hq=>hf q (by rw[<-ha];exact hq));have hg:=hF.i.ok.grow (Al (s.S p.toNat)) {s with cl:=A8 s.cl p} p.toNat (by rw[hp];exact E7 _ _);have hl:=(hi.ln p.toNat (by rw[hp];exact h1));have hmay:F8 (F (Al (s.S p.toNat)) {s with cl:=A8 s.cl p}).1:=Nw hl.2 (fun i=>hF.i.ok.sub _ _ i);have hlen:(F (Al (s.S p.toNat)) {s with cl:=A8 s.cl p}).1.length=32:=by rw[hF.i.ok.len];simp
 have hback:=Tb _ hlen hmay;have h32:(Al (s.S p.toNat)).length=32:=by simp
 rw[h32,Nat.zero_add]at x7 x8;rw[h4];generalize (F (Al (s.S p.toNat)) {s with cl:=A8 s.cl p})=r at*;have eS:Ay r.2.2.S p.toNat (D5 r.1).1 p.toNat=(D5 r.1).1:=Cx _ _ _;have e0:(D5 r.1).1=Dh r.1 32:=by rw[J5 hmay]
 have eR:Al ((D5 r.1).1)=r.1:=by rw[e0,hback]
 have hne:∀ q∈R.tb r.2.2.S 0 r.1,q.toNat≠p.toNat:=fun q hq e=>by
  have hd:=(x2.1 q (Dx.tp hF.ok _ _ 0 q hq));have e2:=(B5 hY hd.1).1;have e3:q=p:=(by rw[<-e2, <-hp,e]);subst e3;have:=hd.2;rw[show({s with cl:=A8 s.cl q}:LS).cl q=A8 s.cl q q from rfl,E7]at this;cases this
 obtain⟨z1,z2,z3,z4⟩:=Dx.st hF.ok n r.2.2.S (Ay r.2.2.S p.toNat (D5 r.1).1) r.1 0 (fun q hq=>Ca _ _ (hne q hq));refine⟨hp0,?_,?_,?_,fun q hq=>?_,fun q hq=>?_,fun q hq=>?_,fun q hq1 hq2=>?_⟩
 ·show R.sh n (Ay r.2.2.S p.toNat (D5 r.1).1) 0 (Al (Ay r.2.2.S p.toNat (D5 r.1).1 p.toNat))/\Ue (Al (Ay r.2.2.S p.toNat (D5 r.1).1 p.toNat))=true
  rw[eS,eR];exact⟨z3.2 x1,by rw[<-x5];exact h3⟩
 ·show OkL X Y s.cl (p::R.ps (Ay r.2.2.S p.toNat (D5 r.1).1) 0 (Al (Ay r.2.2.S p.toNat (D5 r.1).1 p.toNat)))
  rw[eS,eR,z1,mH];exact⟨⟨h1,h2⟩,x2⟩
 ·show r.2.2.cl=Di s.cl (p::R.ps (Ay r.2.2.S p.toNat (D5 r.1).1) 0 (Al (Ay r.2.2.S p.toNat (D5 r.1).1 p.toNat)))
  rw[eS,eR,z1,Qg];exact x3
 ·show A8 r.2.2.fm p.toNat q=true
  change q∈p::R.tb (Ay r.2.2.S p.toNat (D5 r.1).1) 0 (Al (Ay r.2.2.S p.toNat (D5 r.1).1 p.toNat))at hq;rw[eS,eR,z2]at hq;rcases List.mem_cons.1 hq with h|h
  ·rw[h,hp];exact E7 _ _
  ·exact C9 (x4 q h)
 ·exact x6 q (by rw[ha];exact hq)
 ·exact x7 q (by rw[hb];exact hq)
 ·show r.2.2.bk q=H9 (R.bl (Ay r.2.2.S p.toNat (D5 r.1).1) 0 (Al (Ay r.2.2.S p.toNat (D5 r.1).1 p.toNat)) q)
  rw[eS,eR,z4];exact x8 q (by rw[ha];exact hq1) (by rw[hb];exact hq2)
def G5(base:Int):Dx:=⟨fun k=>base+k,fun _=>dW⟩
def Og(n:Int):Dx:=⟨fun k=>if k=0 then 12 else 44,fun _=>jP n (G5 12)⟩
def D1(n:Int):Dx:=⟨fun k=>44+32*k,fun k=>jP n (G5 (44+32*k))⟩
def Of(n:Int):Dx:=⟨fun k=>if k=0 then 44 else 1068,fun _=>jP n (D1 n)⟩
theorem Mh(base:Int)(k:Nat):Hy ((G5 base).F k):=lU
theorem Re(n:Int)(k:Nat):Hy ((Og n).F k):=Xs n (Mh 12)
theorem R2(n:Int)(k:Nat):Hy ((D1 n).F k):=Xs n (Mh _)
theorem Wl(n:Int)(k:Nat):Hy ((Of n).F k):=Xs n (R2 n)
theorem cE{X Y:Int}(hY:0<=Y)(A:Nat->List Int)(n base:Int):U3 X Y A (Pz X Y n base) (G5 base) n 0 32:=by
 refine Rm hY (fun k=>?_) (fun k _=>?_) (fun k=>Z9 hY A base k) (Mh base) (fun k _=>oD hY A base k) 0
 ·show base+(k:Int)<=base+((k+1:Nat):Int);omega
 ·show base+(k:Int)=_;omega
theorem sY{X Y:Int}(hY:0<=Y)(A:Nat->List Int)(n:Int):U3 X Y A (fN X Y n) (D1 n) n 0 32:=by
 refine Rm hY (fun k=>?_) (fun k _=>?_) (fun k=>Kb hY (Fc hY A n (44+32*k))) (R2 n) (fun k _=>Uj hY (cE hY A n (44+32*k)) ?_ ?_) 0
 ·show 44+32*(k:Int)<=44+32*((k+1:Nat):Int);omega
 ·rfl
 ·show 44+32*(k:Int)+((0:Nat):Int)=44+32*(k:Int);omega
 ·show 44+32*(k:Int)+((32:Nat):Int)=44+32*((k+1:Nat):Int);omega
theorem tP{X Y:Int}(hY:0<=Y)(A:Nat->List Int)(n:Int):U3 X Y A (cM X Y n) (Og n) n 0 1:=by
 refine Rm hY (fun k=>?_) (fun k hk=>?_) (fun k=>Kb hY (Fc hY A n 12)) (Re n) (fun k hk=>?_) 0
 ·show(if k=0 then(12:Int)else 44)<=(if k+1=0 then(12:Int)else 44)
  rw[if_neg (Nat.succ_ne_zero k)];split<;>omega
 ·obtain rfl:k=0:=(by omega);rfl
 ·obtain rfl:k=0:=(by omega);exact Uj hY (cE hY A n 12) rfl rfl
theorem tB{X Y:Int}(hY:0<=Y)(A:Nat->List Int)(n:Int):U3 X Y A (fV X Y n) (Of n) n 0 1:=by
 refine Rm hY (fun k=>?_) (fun k hk=>?_) (fun k=>Kb hY (Rx hY A n)) (Wl n) (fun k hk=>?_) 0
 ·show(if k=0 then(44:Int)else 1068)<=(if k+1=0 then(44:Int)else 1068)
  rw[if_neg (Nat.succ_ne_zero k)];split<;>omega
 ·obtain rfl:k=0:=(by omega);rfl
 ·obtain rfl:k=0:=(by omega);exact Uj hY (sY hY A n) rfl rfl
theorem jS(S:Nat->List Int)(i:Nat):Ay S i (S i)=S:=by
 funext j
 unfold Ay;split
 ·rename_i h;rw[h]
 ·rfl
def Dq(n:Int)(S:Nat->List Int)(raw:List Int):List Int:=(G5 0).ps S 0 (Ms raw)++((Og n).ps S 0 [nth raw 16]++(Of n).ps S 0 [nth raw 17])
def Gh(n:Int)(S:Nat->List Int)(raw:List Int):List Int:=(G5 0).tb S 0 (Ms raw)++((Og n).tb S 0 [nth raw 16]++(Of n).tb S 0 [nth raw 17])
def Ic(n:Int)(S:Nat->List Int)(raw:List Int):Prop:=(G5 0).sh n S 0 (Ms raw)/\(Og n).sh n S 0 [nth raw 16]/\(Of n).sh n S 0 [nth raw 17]
def Hm(n:Int)(S:Nat->List Int)(raw:List Int)(q:Int):Int:=if q<12 then(G5 0).bl S 0 (Ms raw) q else if q<44 then(Og n).bl S 0 [nth raw 16] q else(Of n).bl S 0 [nth raw 17] q
theorem Wv(n:Int)(S S':Nat->List Int)(raw:List Int)(h:∀ q∈Gh n S raw,S' q.toNat=S q.toNat):Dq n S' raw=Dq n S raw/\Gh n S' raw=Gh n S raw/\(Ic n S' raw↔Ic n S raw)/\∀ q,Hm n S' raw q=Hm n S raw q:=by
 obtain⟨a1,a2,a3,a4⟩:=Dx.st (Mh 0) n S S' (Ms raw) 0 (fun q hq=>h q (List.mem_append_left _ hq));obtain⟨b1,b2,b3,b4⟩:=Dx.st (Re n) n S S' [nth raw 16] 0 (fun q hq=>h q (List.mem_append_right _ (List.mem_append_left _ hq)));obtain⟨c1,c2,c3,c4⟩:=Dx.st (Wl n) n S S' [nth raw 17] 0 (fun q hq=>h q (List.mem_append_right _ (List.mem_append_right _ hq)));refine⟨?_,?_,?_,fun q=>?_⟩
 ·unfold Dq;rw[a1,b1,c1]
 ·unfold Gh;rw[a2,b2,c2]
 ·unfold Ic;rw[a3,b3,c3]
 ·unfold Hm;rw[a4,b4,c4]
theorem Ki(n:Int)(S:Nat->List Int)(raw:List Int)(q:Int)(h:q∈Gh n S raw):q∈Dq n S raw:=by
 unfold Gh at h;unfold Dq;rcases List.mem_append.1 h with h|h
 ·exact List.mem_append_left _ (Dx.tp (Mh 0) S _ 0 q h)
 ·rcases List.mem_append.1 h with h|h
  ·exact List.mem_append_right _ (List.mem_append_left _ (Dx.tp (Re n) S _ 0 q h))
  ·exact List.mem_append_right _ (List.mem_append_right _ (Dx.tp (Wl n) S _ 0 q h))
theorem Dx.grow{X Y:Int}(hY:0<=Y){R:Dx}(hR:∀ k,Hy (R.F k))(n:Int){s s2:LS}(hg:Gr s s2)(hc:Pb s){c:Int->Bool}(ps:List Int)(k:Nat)(ho:OkL X Y c (R.ps s.S k ps))(ht:∀ q∈R.tb s.S k ps,s.fm q=true):
  R.ps s2.S k ps=R.ps s.S k ps/\R.tb s2.S k ps=R.tb s.S k ps/\(R.sh n s2.S k ps↔R.sh n s.S k ps)/\(∀ q,R.bl s2.S k ps q=R.bl s.S k ps q)/\∀ q∈R.tb s2.S k ps,s2.fm q=true:=by
 have hd:∀ q∈R.tb s.S k ps,isD X Y q=true:=fun q hq=>(ho.1 q (Dx.tp hR _ _ _ q hq)).1
 obtain⟨a,b,c,d⟩:=Dx.st hR n s.S s2.S ps k (fun q hq=>(Wp hY hg hc (hd q hq) (ht q hq)).2);refine⟨a,b,c,d,fun q hq=>?_⟩;rw[b]at hq;exact(Wp hY hg hc (hd q hq) (ht q hq)).1
theorem pR{X Y:Int}(hY:0<=Y)(n:Int){raw:List Int}(hr:raw.length=18)(st:LS):Ms (Az X Y n raw st).1=(pA X Y n raw st).1/\[nth (Az X Y n raw st).1 16]=(pB X Y n raw st).1/\[nth (Az X Y n raw st).1 17]=(pC X Y n raw st).1:=by
 obtain⟨-,q1,q2,q3,q4⟩:=Fm (X:=X) hY n hr st;obtain⟨l1,l2,l3⟩:=Ox (X:=X) hY n hr st;have one:∀ {l:List Int},l.length=1->[nth l 0]=l:=by
  intro l hl;match l,hl with
  |[x],_=>rfl
 refine⟨?_,?_,?_⟩
 ·apply List.ext_getElem?
  intro i;unfold Ms;rw[List.getElem?_take];split
  ·rename_i hi
   rw[List.getElem?_drop,An (by omega),q1 i hi,An (by omega)]
  ·rename_i hi
   rw[List.getElem?_eq_none (by omega)]
 ·rw[q2];exact one l2
 ·rw[q3];exact one l3
theorem mN{X Y:Int}(hY:0<=Y){A:Nat->List Int}(n:Int){raw:List Int}(hr:raw.length=18){st:LS}(h:SI X Y A st)(hb:∀ q,st.bk q=none):
  Ic n (Az X Y n raw st).2.S (Az X Y n raw st).1/\OkL X Y st.cl (Dq n (Az X Y n raw st).2.S (Az X Y n raw st).1)/\(Az X Y n raw st).2.cl=Di st.cl (Dq n (Az X Y n raw st).2.S (Az X Y n raw st).1)/\
  (∀ q∈Gh n (Az X Y n raw st).2.S (Az X Y n raw st).1,(Az X Y n raw st).2.fm q=true)/\∀ q,0<=q->q<1068->(Az X Y n raw st).2.bk q=H9 (Hm n (Az X Y n raw st).2.S (Az X Y n raw st).1 q):=by
 obtain⟨e1,e2,e3⟩:=pR (X:=X) hY n hr st;obtain⟨l1,l2,l3⟩:=Ox (X:=X) hY n hr st;unfold Ic Dq Gh Hm;rw[e1,e2,e3,Ow hY];simp only;have hd12:((raw.drop 4).take 12).length=12:=by simp[hr]
 have iA:=(Fc hY A n 0).inv ((raw.drop 4).take 12) st h;have gB:=(Kv (X:=X) hY A n).ok.grow [nth raw 16] (pA X Y n raw st).2.2;have iB:=(Kv hY A n).inv [nth raw 16] (pA X Y n raw st).2.2 iA;have gC:=(Nl (X:=X) hY A n).ok.grow [nth raw 17] (pB X Y n raw st).2.2;obtain⟨a1,a2,a3,a4,a5,a6,a7,a8⟩:=(cE hY A n 0).all ((raw.drop 4).take 12) st (by rw[hd12];decide) h (fun q _=>hb q);change (G5 0).sh n (pA X Y n raw st).2.2.S 0 (pA X Y n raw st).1 at a1;change OkL X Y st.cl ((G5 0).ps (pA X Y n raw st).2.2.S 0 (pA X Y n raw st).1)at a2;change (pA X Y n raw st).2.2.cl=Di st.cl ((G5 0).ps (pA X Y n raw st).2.2.S 0 (pA X Y n raw st).1)at a3;change ∀ q∈(G5 0).tb (pA X Y n raw st).2.2.S 0 (pA X Y n raw st).1,(pA X Y n raw st).2.2.fm q=true at a4;change SI X Y A (pA X Y n raw st).2.2 at iA;rw[hd12]at a7 a8;obtain⟨b1,b2,b3,b4,b5,b6,b7,b8⟩:=(tP hY A n).all [nth raw 16] (pA X Y n raw st).2.2 (Nat.le_refl 1) iA (fun q hq=>a7 q hq);obtain⟨c1,c2,c3,c4,c5,c6,c7,c8⟩:=(tB hY A n).all [nth raw 17] (pB X Y n raw st).2.2 (Nat.le_refl 1) iB (fun q hq=>b7 q hq);change (Og n).sh n (pB X Y n raw st).2.2.S 0 (pB X Y n raw st).1 at b1;change OkL X Y (pA X Y n raw st).2.2.cl ((Og n).ps (pB X Y n raw st).2.2.S 0 (pB X Y n raw st).1)at b2;change (pB X Y n raw st).2.2.cl=Di (pA X Y n raw st).2.2.cl ((Og n).ps (pB X Y n raw st).2.2.S 0 (pB X Y n raw st).1)at b3;change ∀ q∈(Og n).tb (pB X Y n raw st).2.2.S 0 (pB X Y n raw st).1,(pB X Y n raw st).2.2.fm q=true at b4;change SI X Y A (pB X Y n raw st).2.2 at iB;change (Of n).sh n (pC X Y n raw st).2.2.S 0 (pC X Y n raw st).1 at c1;change OkL X Y (pB X Y n raw st).2.2.cl ((Of n).ps (pC X Y n raw st).2.2.S 0 (pC X Y n raw st).1)at c2;change (pC X Y n raw st).2.2.cl=Di (pB X Y n raw st).2.2.cl ((Of n).ps (pC X Y n raw st).2.2.S 0 (pC X Y n raw st).1)at c3;change ∀ q∈(Of n).tb (pC X Y n raw st).2.2.S 0 (pC X Y n raw st).1,(pC X Y n raw st).2.2.fm q=true at c4;change Gr (pA X Y n raw st).2.2 (pB X Y n raw st).2.2 at gB;change Gr (pB X Y n raw st).2.2 (pC X Y n raw st).2.2 at gC;obtain⟨u1,u2,u3,u4,u5⟩:=Dx.grow hY (Mh 0) n (gB.trans gC) iA.fc _ _ a2 a4;obtain⟨v1,v2,v3,v4,v5⟩:=Dx.grow hY (Re n) n gC iB.fc _ _ b2 b4;change ∀ q,q<12->(pB X Y n raw st).2.2.bk q=(pA X Y n raw st).2.2.bk q at b6;change ∀ q,q<44->(pC X Y n raw st).2.2.bk q=(pB X Y n raw st).2.2.bk q at c6;change ∀ q,0<=q->q<12->(pA X Y n raw st).2.2.bk q=H9 ((G5 0).bl (pA X Y n raw st).2.2.S 0 (pA X Y n raw st).1 q)at a8;change ∀ q,12<=q->q<44->(pB X Y n raw st).2.2.bk q=H9 ((Og n).bl (pB X Y n raw st).2.2.S 0 (pB X Y n raw st).1 q)at b8;change ∀ q,44<=q->q<1068->(pC X Y n raw st).2.2.bk q=H9 ((Of n).bl (pC X Y n raw st).2.2.S 0 (pC X Y n raw st).1 q)at c8;refine⟨⟨u3.2 a1,v3.2 b1,c1⟩,?_,?_,fun q hq=>?_,fun q h0 h9=>?_⟩
 ·rw[Rh,Rh,u1,v1, <-a3, <-b3];exact⟨a2,b2,c2⟩
 ·rw[Ni,Ni,u1,v1, <-a3, <-b3];exact c3
 ·rcases List.mem_append.1 hq with hq|hq
  ·exact u5 q hq
  ·rcases List.mem_append.1 hq with hq|hq
   ·exact v5 q hq
   ·exact c4 q hq
 ·by_cases h12:q<12
  ·rw[if_pos h12,c6 q (by omega),b6 q h12,a8 q h0 h12,u4]
  ·rw[if_neg h12];by_cases h44:q<44
   ·rw[if_pos h44,c6 q h44,b8 q (by omega) h44,v4]
   ·rw[if_neg h44];exact c8 q (by omega) h9
theorem Xe(base:Int)(S:Nat->List Int):∀ (ps:List Int) (k:Nat) (q:Int),base+k<=q->(G5 base).bl S k ps q=nth ps (q-base-k).toNat
 |[],k,q,h=>by
  show(0:Int)=_
  unfold nth;simp
 |p::r,k,q,h=>by
  show(if q<base+((k+1:Nat):Int)then(if p=0 then 0 else p)else(G5 base).bl S (k+1) r q)=_
  by_cases hq:q<base+((k+1:Nat):Int)
  ·rw[if_pos hq,show(q-base-k).toNat=0 by omega,J3];split
   ·rename_i e;exact e.symm
   ·rfl
  ·rw[if_neg hq,Xe base S r (k+1) q (by omega),show(q-base-k).toNat=(q-base-((k+1:Nat):Int)).toNat+1 by omega,J4]
theorem Vb(n:Int)(S:Nat->List Int):∀ (ps:List Int) (k:Nat) (q:Int),44+32*(k:Int)<=q->(D1 n).bl S k ps q=J0 S (nth ps (((q-44)/32)-k).toNat) ((q-44)%32).toNat
 |[],k,q,h=>by
  show(0:Int)=_
  unfold J0;rw[if_pos (by unfold nth;simp)]
 |p::r,k,q,h=>by
  show(if q<44+32*((k+1:Nat):Int)then(if p=0 then 0 else(G5 (44+32*(k:Int))).bl S 0 (Al (S p.toNat)) q)else(D1 n).bl S (k+1) r q)=_
  by_cases hq:q<44+32*((k+1:Nat):Int)
  ·rw[if_pos hq,show(((q-44)/32)-k).toNat=0 by omega,J3];unfold J0;split
   ·rfl
   ·rw[Xe _ S _ 0 q (by omega)];congr 1
    omega
  ·rw[if_neg hq,Vb n S r (k+1) q (by omega),show(((q-44)/32)-k).toNat=(((q-44)/32)-((k+1:Nat):Int)).toNat+1 by omega,J4]
theorem Ya{raw:List Int}(hr:raw.length=18){k:Nat}(hk:k<12):nth (Ms raw) k=nth raw (4+k):=by
 unfold Ms nth;rw[List.getElem?_take,if_pos hk,List.getElem?_drop]
theorem Iw(n:Int)(S:Nat->List Int){raw:List Int}(hr:raw.length=18)(k:Nat)(hk:k<1068):Hm n S raw k=D6 S raw k:=by
 unfold Hm D6;by_cases h12:k<12
 ·rw[if_pos (show(k:Int)<12 by omega),if_pos h12,Xe 0 S _ 0 k (by omega),show((k:Int)-0-((0:Nat):Int)).toNat=k by omega,Ya hr h12]
 ·rw[if_neg (show ¬ (k:Int)<12 by omega),if_neg h12];by_cases h44:k<44
  ·rw[if_pos (show(k:Int)<44 by omega),if_pos h44];show(if (k:Int)<44 then(if nth raw 16=0 then 0 else(G5 12).bl S 0 (Al (S (nth raw 16).toNat)) k)else 0)=_
   rw[if_pos (by omega)];unfold J0;split
   ·rfl
   ·rw[Xe 12 S _ 0 k (by omega)];congr 1
    omega
  ·rw[if_neg (show ¬ (k:Int)<44 by omega),if_neg h44];show(if (k:Int)<1068 then(if nth raw 17=0 then 0 else(D1 n).bl S 0 (Al (S (nth raw 17).toNat)) k)else 0)=_
   rw[if_pos (by omega)];by_cases h17:nth raw 17=0
   ·rw[if_pos h17,if_pos h17];unfold J0;rw[if_pos rfl]
   ·rw[if_neg h17,if_neg h17,Vb n S _ 0 k (by omega)];have e1:((((k:Int)-44)/32)-((0:Nat):Int)).toNat=(k-44)/32:=(by omega);have e2:(((k:Int)-44)%32).toNat=(k-44)%32:=(by omega);rw[e1,e2]
def kC(f:eY):Prop:=∀ S p q,f.bl S p q=0\/f.bl S p q∈f.ps S p
theorem Dx.blin{R:Dx}(hR:∀ k,kC (R.F k))(S:Nat->List Int):∀ (ps:List Int) (k:Nat) (q:Int),R.bl S k ps q=0\/R.bl S k ps q∈R.ps S k ps
 |[],_,_=> .inl rfl
 |p::r,k,q=>by
  show(if q<R.lo (k+1)then(if p=0 then 0 else(R.F k).bl S p q)else R.bl S (k+1) r q)=0\/(if q<R.lo (k+1)then(if p=0 then 0 else(R.F k).bl S p q)else R.bl S (k+1) r q)∈(if p=0 then []else(R.F k).ps S p)++R.ps S (k+1) r
  split
  ·split
   ·exact .inl rfl
   ·rcases hR k S p q with h|h
    ·exact .inl h
    ·exact .inr (List.mem_append_left _ h)
  ·rcases Dx.blin hR S r (k+1) q with h|h
   ·exact .inl h
   ·exact .inr (List.mem_append_right _ h)
theorem Pp:kC dW:=fun _ p _=> .inr (List.mem_singleton.2 rfl)
theorem Ui(n:Int){R:Dx}(hR:∀ k,kC (R.F k)):kC (jP n R):=fun S p q=>by
 rcases Dx.blin hR S (Al (S p.toNat)) 0 q with h|h
 ·exact .inl h
 ·exact .inr (List.mem_cons_of_mem _ h)
theorem lP(n:Int)(S:Nat->List Int)(raw:List Int)(q:Int):Hm n S raw q=0\/Hm n S raw q∈Dq n S raw:=by
 unfold Hm Dq;have hd:∀ k,kC ((D1 n).F k):=fun k=>Ui n (fun _=>Pp)
 split
 ·rcases Dx.blin (R:=G5 0) (fun _=>Pp) S (Ms raw) 0 q with h|h
  ·exact .inl h
  ·exact .inr (List.mem_append_left _ h)
 ·split
  ·rcases Dx.blin (R:=Og n) (fun _=>Ui n (fun _=>Pp)) S [nth raw 16] 0 q with h|h
   ·exact .inl h
   ·exact .inr (List.mem_append_right _ (List.mem_append_left _ h))
  ·rcases Dx.blin (R:=Of n) (fun _=>Ui n hd) S [nth raw 17] 0 q with h|h
   ·exact .inl h
   ·exact .inr (List.mem_append_right _ (List.mem_append_right _ h))
theorem Wf{X Y n:Int}{N:Nat}{S:Nat->List Int}{raw:List Int}(hY:0<=Y)(hX:X=N)(hN:0<N)(hr:raw.length=18)(ho:∀ p∈Dq n S raw,isD X Y p=true):Wa N S raw/\∀ k:Nat,k<1068->0<=D6 S raw k/\D6 S raw k<N:=by
 have hd:∀ p∈Dq n S raw,0<=p/\p<N:=fun p hp=>by
  have:=ho p hp;unfold isD at this;have:=of_decide_eq_true this;omega
 have z:∀ p:Int,(p=0\/p∈Dq n S raw)->0<=p/\p<N:=fun p h=>by
  rcases h with rfl|h
  ·omega
  ·exact hd p h
 have h16:nth raw 16=0\/nth raw 16∈Dq n S raw:=by
  by_cases h:nth raw 16=0
  ·exact .inl h
  ·right
   unfold Dq;refine List.mem_append_right _ (List.mem_append_left _ ?_);show _∈(if nth raw 16=0 then []else nth raw 16::_)++[]
   rw[if_neg h];exact List.mem_append_left _ (List.mem_cons_self ..)
 have h17:nth raw 17=0\/nth raw 17∈Dq n S raw:=by
  by_cases h:nth raw 17=0
  ·exact .inl h
  ·right
   unfold Dq;refine List.mem_append_right _ (List.mem_append_right _ ?_);show _∈(if nth raw 17=0 then []else nth raw 17::_)++[]
   rw[if_neg h];exact List.mem_append_left _ (List.mem_cons_self ..)
 have mem:∀ (l:List Int) (k:Nat) (p:Int),p∈l->p≠0->p∈(D1 n).ps S k l:=by
  intro l;induction l with
  |nil=>intro k p h;cases h
  |cons a r ih=>
   intro k p h h0;show p∈(if a=0 then []else a::_)++_
   rcases List.mem_cons.1 h with e|h
   ·subst e;rw[if_neg h0];exact List.mem_append_left _ (List.mem_cons_self ..)
   ·exact List.mem_append_right _ (ih (k+1) p h h0)
 refine⟨⟨hr,z _ h16,z _ h17,fun h p hp=>?_⟩,fun k hk=>?_⟩
 ·refine(z p ?_).2;by_cases hp0:p=0
  ·exact .inl hp0
  ·right
   unfold Dq;refine List.mem_append_right _ (List.mem_append_right _ ?_);show _∈(if nth raw 17=0 then []else nth raw 17::(D1 n).ps S 0 (Al (S (nth raw 17).toNat)))++[]
   rw[if_neg h];exact List.mem_append_left _ (List.mem_cons_of_mem _ (mem _ 0 p hp hp0))
 ·rw[<-Iw n S hr k hk];exact z _ (lP n S raw k)
noncomputable def wI(S:Nat->List Int)(i:Nat):List Int:=if i=0 then zl 18 else(Am (S i)).1
theorem oI(S:Nat->List Int){i:Nat}(h:1<=i):wI S i=(Am (S i)).1:=if_neg (by omega)
theorem Lf.put{w:World}{g M:Nat}{I I':Nat->List Int}{cs:Array Value}(h:hat w g=some (.cells cs 78))(hs:cs.size=M*18)(hx:∀ i,i<M->(I i).length=18/\cs.extract (i*18) (i*18+18)=IV .i64 (I i)){i:Nat}(hi:i<M){raw:List Int}(hr:raw.length=18)(hI:∀ j,j<M->I' j=if j=i then raw else I j):
  Lf (w.setRow g (Ap cs (i*18) (IV .i64 raw))) g M I':=by
 have hz:(IV .i64 raw).size=18:=by simp[hr]
 refine⟨_,Ar _ _ _ _ _ _ h,by rw[Hs _ _ _ (by omega)];exact hs,fun j hj=>?_⟩;obtain⟨hl,he⟩:=hx j hj;rw[hI j hj];by_cases hji:j=i
 ·subst hji;rw[if_pos rfl];refine⟨hr,?_⟩;apply Array.ext_getElem?
  intro k;unfold Ap;rw[Array.getElem?_extract];simp only[List.size_toArray,List.getElem?_toArray];by_cases hk:k<18
  ·have hlen:(cs.toList.take (j*18)++(IV .i64 raw).toList++cs.toList.drop (j*18+(IV .i64 raw).size)).length=cs.size:=(by simp[hr];omega);rw[hlen,if_pos (by omega),List.getElem?_append_left (by simp[hr];omega),List.getElem?_append_right (by simp;omega)];simp only[List.length_take,Array.length_toList,Nat.min_eq_left (show j*18<=cs.size by omega),Nat.add_sub_cancel_left,Array.getElem?_toList]
  ·rw[if_neg (by simp[hr];omega),Bl,List.getElem?_eq_none (by omega)];rfl
 ·rw[if_neg hji];refine⟨hl,?_⟩;rw[<-he];apply Array.ext_getElem?
  intro k;unfold Ap;rw[Array.getElem?_extract,Array.getElem?_extract];simp only[List.size_toArray,List.getElem?_toArray];have hlen:(cs.toList.take (i*18)++(IV .i64 raw).toList++cs.toList.drop (i*18+(IV .i64 raw).size)).length=cs.size:=(by simp[hr];omega);rw[hlen];split
  ·rename_i hk
   rcases Nat.lt_or_ge j i with hlt|hge
   ·rw[List.append_assoc,List.getElem?_append_left (by simp;omega),List.getElem?_take,if_pos (by omega),Array.getElem?_toList]
   ·rw[List.getElem?_append_right (by simp[hr];omega),List.getElem?_drop,Array.getElem?_toList];congr 1
    simp[hr];omega
  ·rfl
section
variable {P:Program} {ops:Array Oper} {N:Nat} {Q:Exit->Act->World->Prop}
theorem O9{id:Nat}{a:Act}{w:World}(hm:P.follows .mixedOrders=true)(N:Nat)(hok:F3 ops N=true)
  (hsz:(Dk (ops.toList.take N)).all (· <a.tmps.size)=true)
  (I:World->Prop) (E:World->World->Prop) (G:Nat->Value->World->Prop) (H:Nat->World->Prop)
  (h0:I w.drew)
  (hE:∀ i v w w',i<N->I w->I w'->E w w'->G i v w->G i v w')
  (hH:∀ i w w',i<N->I w->I w'->E w w'->H i w->H i w')
  (hs:∀ i o,i<N->ops[i]? =some o->∀ a' w',I w'->F5 ops N a a'->
   (∀ j∈Oper.needs o,∀ oj d,ops[j]? =some oj->oj.dst=some d->G j (gt a' d) w')->(∀ j∈Oper.needs o,j<N->H j w')->
   wpOp P ops Q i (fun a'' w''=>∃ v,a''=a'.put o.dst v/\I w''/\E w' w''/\G i v w''/\H i w'') a' w')
  (he:∀ a' w',I w'->F5 ops N a a'->(∀ j oj d,j<N->ops[j]? =some oj->oj.dst=some d->G j (gt a' d) w')->(∀ j,j<N->H j w')->
   wpList P ops Q (ops.toList.drop N) a' w'):
  (Code.region id ops true).wp P Q a w:=by
 obtain⟨hb,ht,hNs,hnd⟩:=Hh hok;refine wp_region_any hm ?_
 have key:∀ (fuel:Nat) (L:Array Bool) (a':Act) (w':World),L.size=ops.size->Ga L<=fuel->(∀ j,N<=j->j<ops.size->L.getD j true=false)->
   I w'->F5 ops N a a'->(∀ j oj d,j<N->L.getD j true=true->ops[j]? =some oj->oj.dst=some d->G j (gt a' d) w')->(∀ j,j<N->L.getD j true=true->H j w')->wpAny P .any ops Q fuel L a' w':=by
  intro fuel;induction fuel with
  |zero=>
   intro L a' w' hL hf htl hI hS hG hHH;have hall:∀ j,j<ops.size->L.getD j true=true:=by
    intro j hj;cases hv:L.getD j true with
    |true=>rfl
    |false=>have:=Ff hv;omega
   have hN:N=ops.size:=by
    by_cases h:N<ops.size
    ·have:=htl N (Nat.le_refl _) h;rw[hall N h]at this;simp at this
    ·omega
   refine He hok 0 N L a' w' (Nat.le_refl _) (by omega) (by omega) hL (fun j hj=>by rw[hall j hj];simp;omega) ?_;exact he a' w' hI hS (fun j oj d hj ho hd=>hG j oj d hj (hall j (by omega)) ho hd) (fun j hj=>hHH j hj (hall j (by omega)))
  |succ fuel ih=>
   intro L a' w' hL hf htl hI hS hG hHH;by_cases hall:∀ j,j<N->L.getD j true=true
   ·refine He hok (fuel+1) N L a' w' (Nat.le_refl _) hNs ?_ hL ?_ (he a' w' hI hS (fun j oj d hj ho hd=>hG j oj d hj (hall j hj) ho hd) (fun j hj=>hHH j hj (hall j hj)))
    ·
     have:∀ (n:Nat) (l:List Bool),(∀ j,n<=j->j<l.length->l[j]? =some false)->l.length-n<=l.countP (· ==false):=by
      intro n;induction n with
      |zero=>
       intro l;induction l with
       |nil=>intro _;simp
       |cons b l ihl=>
        intro h;have h0:=h 0 (Nat.le_refl _) (by simp);simp at h0;subst h0;have:=ihl (fun j _ hj=>by have:=h (j+1) (by omega) (by simp;omega);simpa using this);simp at this ⊢;omega
      |succ n ihn=>
       intro l;cases l with
       |nil=>intro _;simp
       |cons b l=>
        intro h;have:=ihn l (fun j hj hjl=>by have:=h (j+1) (by omega) (by simp;omega);simpa using this);simp[List.countP_cons]at this ⊢;omega
     have h2:=this N L.toList (fun j hj hjl=>by
      have hjs:j<L.size:=(by simpa using hjl);have:=htl j hj (by omega);simp[hjs]at this ⊢;exact this)
     unfold Ga at hf;simp at h2;simp at hf;omega
    ·intro j hj;by_cases hjN:j<N
     ·rw[hall j hjN];simp[hjN]
     ·rw[htl j (by omega) hj];simp[hjN]
   ·refine⟨?_,?_⟩
    ·intro hr;exfalso
     have hex:∃ j,j<N/\L.getD j true=false:=by
      false_or_by_contra
      rename_i hne
      apply hall
      intro j hj;cases hv:L.getD j true with
      |true=>rfl
      |false=>exact(hne ⟨j,hj,hv⟩).elim
     have least:∀ n,(∃ j,j<n/\j<N/\L.getD j true=false)->∃ j,j<N/\L.getD j true=false/\∀ k,k<j->L.getD k true=true:=by
      intro n;induction n with
      |zero=>rintro ⟨j,hj,_⟩;omega
      |succ n ihn=>
       rintro ⟨j,hj,hjN,hv⟩;by_cases hlow:∃ k,k<j/\L.getD k true=false
       ·obtain⟨k,hk,hkv⟩:=hlow;exact ihn ⟨k,by omega,by omega,hkv⟩
       ·refine⟨j,hjN,hv,fun k hk=>?_⟩;cases hkv:L.getD k true with
        |true=>rfl
        |false=>exact(hlow ⟨k,hk,hkv⟩).elim
     obtain⟨j0,hj0,hv0⟩:=hex;obtain⟨j,hjN,hv,hlow⟩:=least (j0+1) ⟨j0,by omega,hj0,hv0⟩;have hlt:j<ops.size:=(by omega);have:j∈Region.ready .any ops L:=by
      refine J6 (o:=ops[j]) (by simp[hlt]) hv ?_;intro k hk;have hkj:=hb j ops[j] (by simp[hlt]) k hk;have h3:=hlow k hkj;have hks:k<L.size:=(by omega);simp[hks]at h3 ⊢;exact h3
     rw[hr]at this;simp at this
    ·intro i hi;obtain⟨o,ho,h1,h2⟩:=Gk hL hi;have hlt:i<ops.size:=(Array.getElem?_eq_some_iff.1 ho).1;have hiN:i<N:=by
      by_cases h:i<N
      ·exact h
      ·exfalso
       apply hall
       intro j hj;have:=h2 j (ht i o ho (by omega) j (by omega));have hjs:j<L.size:=(by omega);simp[hjs]at this ⊢;exact this
     refine wpOp_mono ?_ (hs i o hiN ho a' w' hI hS ?_ ?_)
     ·rintro a'' w'' ⟨v,rfl,hI',hE',hGi,hHi⟩;have hidst:∀ d,o.dst=some d->d∈Dk (ops.toList.take N):=by
       intro d hd;unfold Dk;refine List.mem_filterMap.2 ⟨o,?_,hd⟩;have hv:=(Array.getElem?_eq_some_iff.1 ho).2;rw[List.mem_take_iff_getElem];exact⟨i,by simp;omega,by simpa using hv⟩
      refine ih _ _ _ (by simpa using hL) (by have:=Ff h1;omega) ?_ hI' ?_ ?_ ?_
      ·intro j hj hjs;have:=htl j hj hjs;have hjs':j<L.size:=(by omega);simp[hjs',Array.getElem_setIfInBounds,show i≠j by omega]at this ⊢;exact this
      ·refine⟨by rw[Ka];exact hS.size,by rw[Iu];exact hS.defers,?_⟩;intro t ht';rw[Fv]
       ·exact hS.other t ht'
       ·intro e;exact ht' (hidst t e)
      ·intro j oj d hj hjL hoj hd;by_cases hji:j=i
       ·subst hji;rw[ho]at hoj;have hoe:o=oj:=(by simpa using hoj);subst hoe;rw[hd,Jz _ _ _ (by rw[hS.size];simpa using (List.all_eq_true.1 hsz) d (hidst d hd))];exact hGi
       ·have hjs':j<L.size:=(by omega);have hjL':L.getD j true=true:=by
         simp[hjs',Array.getElem_setIfInBounds,Ne.symm hji]at hjL ⊢;exact hjL
        have hg:=hG j oj d hj hjL' hoj hd;rw[Fv]
        ·exact hE j _ _ _ hj hI hI' hE' hg
        ·intro e;have hne:∀ (l:List Oper),(Dk l).Nodup->∀ (i j:Nat) (oi oj:Oper) (d:Nat),l[i]? =some oi->l[j]? =some oj->oi.dst=some d->oj.dst=some d->i=j:=by
          intro l;induction l with
          |nil=>intro _ i j oi oj d hi;simp at hi
          |cons x l ihl=>
           intro hnd i j oi oj d hi hj hdi hdj;have hnd':(Dk l).Nodup:=by
            unfold Dk at hnd ⊢;rw[List.filterMap_cons]at hnd;split at hnd
            ·exact hnd
            ·exact(List.nodup_cons.1 hnd).2
           have hx:∀ (j:Nat) (oj:Oper),l[j]? =some oj->oj.dst=some d->x.dst≠some d:=by
            intro j oj hj hdj hxd;unfold Dk at hnd;rw[List.filterMap_cons,hxd]at hnd;have:=(List.nodup_cons.1 hnd).1;apply this
            exact List.mem_filterMap.2 ⟨oj,List.mem_of_getElem? hj,hdj⟩
           cases i with
           |zero=>
            simp at hi;subst hi;cases j with
            |zero=>rfl
            |succ j=>simp at hj;exact(hx j oj hj hdj hdi).elim
           |succ i=>
            simp at hi;cases j with
            |zero=>simp at hj;subst hj;exact(hx i oi hi hdi hdj).elim
            |succ j=>simp at hj;rw[ihl hnd' i j oi oj d hi hj hdi hdj]
         have:=hne (ops.toList.take N) hnd i j o oj d (by simp[List.getElem?_take,hiN,ho]) (by simp[List.getElem?_take,hj,hoj]) e hd;exact hji this.symm
      ·intro j hj hjL;by_cases hji:j=i
       ·subst hji;exact hHi
       ·have hjs':j<L.size:=(by omega);have hjL':L.getD j true=true:=by
         simp[hjs',Array.getElem_setIfInBounds,Ne.symm hji]at hjL ⊢;exact hjL
        exact hH j _ _ hj hI hI' hE' (hHH j hj hjL')
     ·intro j hj oj d hoj hd;have hjL:=h2 j hj;have hji:=hb i o ho j hj;have hjs:j<L.size:=(by omega);exact hG j oj d (by omega) (by simp[hjs]at hjL ⊢;exact hjL) hoj hd
     ·intro j hj hjN;have hjL:=h2 j hj;have hjs:j<L.size:=(by omega);exact hHH j hjN (by simp[hjs]at hjL ⊢;exact hjL)
 refine key ops.size (Array.replicate ops.size false) a {w with drawn:=w.drawn+1} (by simp) ?_ ?_ h0 ⟨rfl,rfl,fun _ _=>rfl⟩ ?_ ?_
 ·have:=List.countP_le_length (p:=(· ==false)) (l:=(Array.replicate ops.size false).toList);unfold Ga;simpa using this
 ·intro j _ hj;simp[hj]
 ·intro j oj d hj hjL;simp[show j<ops.size by omega]at hjL
 ·intro j hj hjL;simp[show j<ops.size by omega]at hjL
theorem Xw{id:Nat}{a:Act}{w:World}(hm:P.follows .mixedOrders=true)(N:Nat)(hok:F3 ops N=true)
  (hsz:(Dk (ops.toList.take N)).all (· <a.tmps.size)=true)
  (I:World->Prop) (E:World->World->Prop) (G:Nat->Value->World->Prop) (H:Nat->World->Prop)
  (h0:I w.drew)
  (hE:∀ i v w w',i<N->I w->I w'->E w w'->G i v w->G i v w')
  (hH:∀ i w w',i<N->I w->I w'->E w w'->H i w->H i w')
  (hs:∀ i o,i<N->ops[i]? =some o->∀ a' w',I w'->(∀ t,t∉Dk (ops.toList.take N)->gt a' t=gt a t)->
   (∀ j∈Oper.needs o,∀ oj d,ops[j]? =some oj->oj.dst=some d->G j (gt a' d) w')->(∀ j∈Oper.needs o,j<N->H j w')->
   wpOp P ops Q i (fun a'' w''=>∃ v,a''=a'.put o.dst v/\I w''/\E w' w''/\G i v w''/\H i w'') a' w')
  (he:∀ val w',I w'->(∀ j oj d,j<N->ops[j]? =some oj->oj.dst=some d->G j (val j) w')->(∀ j,j<N->H j w')->
   wpList P ops Q (ops.toList.drop N) (Bi (ops.toList.take N) 0 val a) w'):
  (Code.region id ops true).wp P Q a w:=by
 refine O9 hm N hok hsz I E G H h0 hE hH (fun i o hi ho a' w' hI hS hF hFH=>hs i o hi ho a' w' hI hS.other hF hFH) ?_;intro a' w' hI hS hF hFH;let val:Nat->Value:=fun j=>match ops[j]? with|some oj=>(match oj.dst with|some d=>gt a' d|none=>undef)|none=>undef
 have hval:∀ j oj d,ops[j]? =some oj->oj.dst=some d->val j=gt a' d:=by
  intro j oj d hj hd;simp only[val,hj,hd]
 have hw:=he val w' hI (fun j oj d hj ho hd=>by rw[hval j oj d ho hd];exact hF j oj d hj ho hd) hFH;have hae:a'=Bi (ops.toList.take N) 0 val a:=by
  refine Rc (by rw[Ji];exact hS.size) (by rw[Hg];exact hS.defers) (fun t ht=>?_);rw[Mn (ops.toList.take N) 0 val a a' t (by rw[<-hS.size];exact ht) (fun j oj d hj hd=>by
   rw[Nat.zero_add];refine hval j oj d ?_ hd;rw[List.getElem?_take]at hj;split at hj
   ·simpa using hj
   ·simp at hj)]
  split
  ·rfl
  ·rename_i h;exact hS.other t h
 rw[hae];exact hw
end
theorem cU{a b:ByteArray}(h:a.toList=b.toList):a=b:=by
 rw[Lib.toList_data,Lib.toList_data]at h;cases a;cases b;congr 1
 exact Array.toList_inj.1 h
structure NR (S I:Nat->List Int) (M i:Nat) (l:List Ent) (k:Nat) (rch0 rch:Int->Bool) (mo:Bool):Prop where
 one:rch 1=true
 low:∀ P:Nat->Prop,P 1->sR (fX S I M) P->∀ j:Nat,j<M->rch j=true->P j
 dn:∀ i',1<=i'->i'<i->tA S I M i'
 ok:dE I M (l.take k)
 un:unr M rch<=unr M rch0/\(mo=true->unr M rch<unr M rch0)
 cl:mo=false->rch=rch0/\(∀ i',i'<i->rch (i':Int)=true->∀ e∈fX S I M i',rch e.1=true)/\(rch (i:Int)=true->∀ e∈l.take k,rch e.1=true)
theorem NR.skip{S I:Nat->List Int}{M i:Nat}{rch0 rch:Int->Bool}{mo:Bool}(h:NR S I M i [] 0 rch0 rch mo)(hk:nth (I i) 0≠2):NR S I M (i+1) [] 0 rch0 rch mo:=by
 refine⟨h.one,h.low,fun i' a b=>?_,h.ok,h.un,fun hm=>⟨(h.cl hm).1,fun i' hi' hr e he=>?_,fun _ e he=>(by cases he)⟩⟩
 ·by_cases e:i'=i
  ·subst e;exact fun h2=>absurd h2 hk
  ·exact h.dn i' a (by omega)
 ·by_cases e2:i'=i
  ·subst e2;rw[pU hk]at he;cases he
  ·exact(h.cl hm).2.1 i' (by omega) hr e he
theorem NR.into{S I:Nat->List Int}{M i:Nat}{rch0 rch:Int->Bool}{mo:Bool}(h:NR S I M i [] 0 rch0 rch mo)(l:List Ent):NR S I M i l 0 rch0 rch mo:=
 ⟨h.one,h.low,h.dn,⟨fun e he=>(by cases he),List.nodup_nil⟩,h.un,fun hm=>⟨(h.cl hm).1,(h.cl hm).2.1,fun _ e he=>(by cases he)⟩⟩
theorem NR.over{S I:Nat->List Int}{M i:Nat}{l:List Ent}{rch0 rch:Int->Bool}{mo:Bool}(h:NR S I M i l l.length rch0 rch mo)(h1:1<=i)(h2:i<M)(hk:nth (I i) 0=2)(hs:De S (X5 S (I i)) []=some l):NR S I M (i+1) [] 0 rch0 rch mo:=by
 have hok:=h.ok;rw[List.take_of_length_le (Nat.le_refl _)]at hok;refine⟨h.one,h.low,fun i' a b=>?_,⟨fun e he=>(by cases he),List.nodup_nil⟩,h.un,fun hm=>⟨(h.cl hm).1,fun i' hi' hr e he=>?_,fun _ e he=>(by cases he)⟩⟩
 ·by_cases e:i'=i
  ·subst e;exact fun _=>⟨l,hs,hok⟩
  ·exact h.dn i' a (by omega)
 ·by_cases e2:i'=i
  ·subst e2;rw[Ye h1 h2 hk hs]at he;have:=(h.cl hm).2.2 hr;rw[List.take_of_length_le (Nat.le_refl _)]at this;exact this e he
  ·exact(h.cl hm).2.1 i' (by omega) hr e he
theorem mD{l:List Ent}{k:Nat}{e e0:Ent}(hk:l[k]? =some e0)(h:e∈l.take (k+1)):e∈l.take k\/e=e0:=by
 rw[List.take_add_one,hk]at h;rcases List.mem_append.1 h with h|h
 ·exact .inl h
 ·simp at h;exact .inr h
theorem NR.same{S I:Nat->List Int}{M i:Nat}{l:List Ent}{k:Nat}{rch0 rch:Int->Bool}{mo:Bool}(h:NR S I M i l k rch0 rch mo){x:Nat}{nm:ByteArray}(hk:l[k]? =some ((x:Int),nm))(hok:dE I M (l.take (k+1)))(hr:rch (i:Int)=true->rch (x:Int)=true):NR S I M i l (k+1) rch0 rch mo:=
 ⟨h.one,h.low,h.dn,hok,h.un,fun hm=>⟨(h.cl hm).1,(h.cl hm).2.1,fun hi e he=>by
  rcases mD hk he with he|rfl
  ·exact(h.cl hm).2.2 hi e he
  ·exact hr hi⟩⟩
theorem NR.more{S I:Nat->List Int}{M i:Nat}{l:List Ent}{k:Nat}{rch0 rch:Int->Bool}{mo:Bool}(h:NR S I M i l k rch0 rch mo){x:Nat}{nm:ByteArray}(hk:l[k]? =some ((x:Int),nm))(hok:dE I M (l.take (k+1)))(h1:1<=i)(h2:i<M)(hx:x<M)(hd:nth (I i) 0=2)(hs:De S (X5 S (I i)) []=some l)
  (hi:rch (i:Int)=true) (hn:rch (x:Int)=false):NR S I M i l (k+1) rch0 (A8 rch x) true:=by
 refine⟨by unfold A8;rw[h.one];rfl,fun P hP hC j hj hr=>?_,h.dn,hok,⟨?_,fun _=>?_⟩,fun hm=>(by cases hm)⟩
 ·by_cases e:(j:Int)=(x:Int)
  ·have hPi:=h.low P hP hC i h2 hi;have:=hC i ((x:Int),nm) hPi (by rw[Ye h1 h2 hd hs];exact List.mem_of_getElem? hk);rw[show((x:Int),nm).1.toNat=x from Int.toNat_natCast x]at this;obtain rfl:j=x:=(by omega);exact this
  ·have e2:A8 rch x j=rch j:=(by unfold A8;simp[e]);rw[e2]at hr;exact h.low P hP hC j hj hr
 ·have:=eU hx hn;have:=h.un.1;omega
 ·have:=eU hx hn;have:=h.un.1;omega
noncomputable def wJ(S:Nat->List Int)(k j:Nat):List Int:=if 1<=j/\j<k then(Am (S j)).1 else zl 18
theorem Lf.congr{w:World}{g M:Nat}{I I':Nat->List Int}(h:Lf w g M I)(he:∀ i,i<M->I' i=I i):Lf w g M I':=by
 obtain⟨cs,h1,h2,h3⟩:=h;exact⟨cs,h1,h2,fun i hi=>by rw[he i hi];exact h3 i hi⟩
def Hk(w:World)(v:Value)(N:Nat)(S:Nat->List Int):Prop:=∃ a ci,v= .slice a N ci/\(0<N->∃ gi oi,a=some ⟨gi,oi,none⟩/\G9 w gi oi N S)
theorem Img.zero{w:World}{v:Value}{N:Nat}{S:Nat->List Int}(h:Img w v N S):Hk w v N S:=by
 obtain⟨a,ci,h1,-,-,h4⟩:=h;exact⟨a,ci,h1,h4⟩
theorem Hk.same{w w':World}{v:Value}{N:Nat}{S:Nat->List Int}(h:Hk w v N S)(hf:Fr [] w w'):Hk w' v N S:=by
 obtain⟨a,ci,h1,h4⟩:=h;refine⟨a,ci,h1,fun hN=>?_⟩;obtain⟨gi,oi,h5,h6⟩:=h4 hN;exact⟨gi,oi,h5,h6.same (hf.block _ h6.lt (by simp))⟩
theorem F6{w:World}{g N c k:Nat}{S:Nat->List Int}(h:B8 w g N k S):Hk w (.slice (some ⟨g,0,none⟩) N c) N S:=⟨_,_,rfl,fun _=>⟨g,0,rfl,h.secs⟩⟩
theorem Hk.len{w:World}{v:Value}{N:Nat}{S:Nat->List Int}(h:Hk w v N S):∀ j,j<N->(S j).length=128/\A4 (S j):=fun j hj=>by
 obtain⟨a,ci,-,h4⟩:=h;obtain⟨gi,oi,-,h6⟩:=h4 (by omega);exact h6.len hj
theorem iF{v:Value}{N:Nat}{S:Nat->List Int}{w:World}(h:Hk w v N S):
  Calls Tryz.prog 35 #[v] w fun e w'=>Below w.heap.size w w'/\((B6 N S=0/\dF w w' N N (A1 (S 0)).2.1 S e)\/(B6 N S≠0/\e= .returned (.tuple #[.agg Bd,.int .i64 (B6 N S)]))):=by
 obtain⟨a,ci,rfl,h3⟩:=h;by_cases c1:N<8\/4096<N
 ·have he:B6 N S=120:=(by unfold B6;rw[if_pos c1]);refine(bH a N ci w c1).mono ?_;rintro e w' ⟨rfl,hb⟩;exact⟨hb,.inr ⟨by rw[he];decide,by rw[he]⟩⟩
 ·obtain⟨gi,oi,rfl,hS⟩:=h3 (by omega);by_cases c2:(A1 (S 0)).2.2≠0\/(A1 (S 0)).1≠N
  ·have he:B6 N S=120:=(by unfold B6;rw[if_neg c1,if_pos c2]);refine(bI gi oi N ci S w hS (by omega) (by omega) c2).mono ?_;rintro e w' ⟨rfl,hb⟩;exact⟨hb,.inr ⟨by rw[he];decide,by rw[he]⟩⟩
  ·have e1:(A1 (S 0)).2.2=0:=Decidable.byContradiction fun h4=>c2 (.inl h4)
   have e2:(A1 (S 0)).1=N:=Decidable.byContradiction fun h4=>c2 (.inr h4)
   refine(iG gi oi N ci S w hS (by omega) (by omega) e1 e2).mono ?_;rintro e w' (⟨hr,ho⟩|⟨hr,rfl,hb⟩)
   ·rw[e2]at ho;obtain⟨gw,cw,v1,v2,v3,o1,o2,o3,k0,k1,k2,k3,k4,k5,k6⟩:=id ho;exact⟨k5,.inl ⟨by unfold B6;rw[if_neg c1,if_neg c2,if_pos hr],ho⟩⟩
   ·have he:B6 N S=121:=(by unfold B6;rw[if_neg c1,if_neg c2,if_neg hr]);exact⟨hb,.inr ⟨by rw[he];decide,by rw[he]⟩⟩
def oV(N1 N2:Nat)(S1 S2:Nat->List Int)(w:World)(e:Ending)(w':World):Prop:=∃ b,e= .returned (.bool b)/\(b=true↔N1=N2/\∀ j,j<N1->S1 j=S2 j)/\Fr [] w w'
theorem Qz{v1 v2:Value}{N1 N2:Nat}{S1 S2:Nat->List Int}{w:World}(h1:Hk w v1 N1 S1)(h2:Hk w v2 N2 S2)(hN1:N1<=2000000000000):
  Calls Tryz.prog 16 #[v1,v2] w (oV N1 N2 S1 S2 w):=by
 obtain⟨a1,c1,rfl,H1⟩:=h1;obtain⟨a2,c2,rfl,H2⟩:=h2;have H1:=zA H1;have H2:=zA H2;by_cases hN:N1=N2
 ·subst hN;have d1:((N1:Int) !=(N1:Int))=false:=(by simp);go_enter Tryz.func16,Tryz.ntmps16;go_wp2_with fail;go_loopw [5] (fun v wr=>∃ k:Nat,v= .int .i64 k/\k<=N1/\Hid (Fr [] w wr)/\Hid (∀ j,j<k->S1 j=S2 j)) (fun v wr=>N1-(intOf v).toNat)
  case atStart=>exact⟨0,rfl,Nat.zero_le _,zA (Fr.refl _ _),zA (fun j h=>by omega)⟩
  case round=>
   obtain⟨k,rfl,hk,HF,HE⟩:=hrel;by_cases hkN:k<N1
   ·have hk0:(0:Int)<=(k:Int):=Int.natCast_nonneg _;have hk1:(k:Int)<(N1:Int):=(by omega);obtain⟨g1,o1,rfl,hs1⟩:=H1.out (by omega);obtain⟨g2,o2,rfl,hs2⟩:=H2.out (by omega);have hr1:=hs1.same (HF.out.block _ hs1.lt (by simp));have hr2:=hs2.same (HF.out.block _ hs2.lt (by simp));obtain⟨cs1,t1,f1,hc1,hl1⟩:=hr1.load hkN;obtain⟨cs2,t2,f2,hc2,hl2⟩:=hr2.load hkN;have hn1:=(hr1.len hkN).1;have hn2:=(hr2.len hkN).1;clear hr1 hr2 hs1 hs2;by_cases heq:S1 k=S2 k
    ·have hne:decide (S1 k=S2 k)=true:=decide_eq_true heq;have HE2:Hid (∀ j,j<k+1->S1 j=S2 j):=zA (fun j hj=>by
      by_cases e:j=k
      ·subst e;exact heq
      ·exact HE.out j (by omega))
     clear heq;go_wp2_with fail;go_region
     go_wp2_with fail;go_roundw
     case rel=>exact⟨k+1,by go_num,by omega,zA (Bb HF.out),HE2⟩
     case measure=>(show N1-(k+1)<N1-k);omega
    ·have hne:decide (S1 k=S2 k)=false:=decide_eq_false heq;have HNO:Hid (¬ ∀ j,j<N1->S1 j=S2 j):=zA (fun h=>heq (h k hkN));clear heq;go_wp2_with fail;go_region
     go_wp2_with fail;go_ret;exact⟨false,rfl,⟨fun h=>(by cases h),fun h=>absurd h.2 HNO.out⟩,Bb HF.out⟩
   ·obtain rfl:k=N1:=(by omega);go_wp2_with fail;go_ret;exact⟨true,rfl,⟨fun _=>⟨rfl,HE.out⟩,fun _=>rfl⟩,HF.out⟩
 ·have d1:((N1:Int) !=(N2:Int))=true:=(by simp;omega);have HNO:Hid (¬ (N1=N2/\∀ j,j<N1->S1 j=S2 j)):=zA (fun h=>hN h.1);clear hN;go_enter Tryz.func16,Tryz.ntmps16;go_wp2_with fail;go_ret;exact⟨false,rfl,⟨fun h=>(by cases h),fun h=>absurd h HNO.out⟩,Fr.refl _ _⟩
structure Lg (w:World) (v0 v1 v2 v3:Value) (o1 o2 o3:Option Nat) (N:Nat) (S:Nat->List Int) (xs ys zs:List Int):Prop where
 i:Hk w v0 N S
 q1:Bg w v1 o1 xs
 q2:Bg w v2 o2 ys
 q3:Bg w v3 o3 zs
 n0:N<=5000
 n1:xs.length<=100000
 n2:ys.length<=100000
 n3:zs.length<=100000
theorem Lg.same{w w':World}{v0 v1 v2 v3:Value}{o1 o2 o3:Option Nat}{N:Nat}{S:Nat->List Int}{xs ys zs:List Int}(h:Lg w v0 v1 v2 v3 o1 o2 o3 N S xs ys zs)(hf:Fr [] w w'):Lg w' v0 v1 v2 v3 o1 o2 o3 N S xs ys zs:=
 ⟨h.i.same hf,h.q1.fr hf (fun _ _=>by simp),h.q2.fr hf (fun _ _=>by simp),h.q3.fr hf (fun _ _=>by simp),h.n0,h.n1,h.n2,h.n3⟩
theorem Zi(w:World)(S:Nat->List Int):Lg w (.slice none 0 0) (.slice none 0 0) (.slice none 0 0) (.slice none 0 0) none none none 0 S [] [] []:=
 ⟨⟨none,0,rfl,fun h=>by omega⟩,.inl ⟨rfl,rfl,rfl⟩,.inl ⟨rfl,rfl,rfl⟩,.inl ⟨rfl,rfl,rfl⟩,by omega,by simp,by simp,by simp⟩
def oX(N N':Nat)(S S':Nat->List Int)(xs ys zs xs' ys' zs':List Int)(w:World)(e:Ending)(w':World):Prop:=
 ∃ b,e= .returned (.bool b)/\(b=true↔(N=N'/\∀ j,j<N->S j=S' j)/\xs=xs'/\ys=ys'/\zs=zs')/\Below w.heap.size w w'
theorem Fr.bl{w w':World}(h:Fr [] w w'):Below w.heap.size w w':=h.below (Nat.le_refl _) (by simp)
theorem nL{a0 a1 a2 a3 b0 b1 b2 b3:Value}{o1 o2 o3 p1 p2 p3:Option Nat}{N N':Nat}{S S':Nat->List Int}{xs ys zs xs' ys' zs':List Int}{w:World}(h1:Lg w a0 a1 a2 a3 o1 o2 o3 N S xs ys zs)(h2:Lg w b0 b1 b2 b3 p1 p2 p3 N' S' xs' ys' zs'):
  Calls Tryz.prog 27 #[.agg #[a0,a1,a2,a3],.agg #[b0,b1,b2,b3]] w (oX N N' S S' xs ys zs xs' ys' zs' w):=by
 have hB1:Below w.heap.size w (w.alloc (.cells #[a0,a1,a2,a3] 34)):=(Below.refl _ _).alloc (Nat.le_refl _) _;have hB2:Below w.heap.size w ((w.alloc (.cells #[a0,a1,a2,a3] 34)).alloc (.cells #[b0,b1,b2,b3] 34)):=hB1.alloc hB1.size _;have hga:=(B7 _ (.cells #[b0,b1,b2,b3] 34) (A6 w (.cells #[a0,a1,a2,a3] 34)).1).1;have hgb:=(A6 (w.alloc (.cells #[a0,a1,a2,a3] 34)) (.cells #[b0,b1,b2,b3] 34)).1;have H1:=zA (h1.same (Af hB2 []));have H2:=zA (h2.same (Af hB2 []));have HB2:=zA hB2;obtain⟨x0,n0,c0,e0⟩:∃ a n c,a0= .slice a n c:=by obtain⟨a,c,h,-⟩:=h1.i;exact⟨a,N,c,h⟩
 obtain⟨y0,m0,k0,f0⟩:∃ a n c,b0= .slice a n c:=by obtain⟨a,c,h,-⟩:=h2.i;exact⟨a,N',c,h⟩
 obtain⟨x1,n1,c1,e1⟩:=h1.q1.sl;obtain⟨x2,n2,c2,e2⟩:=h1.q2.sl;obtain⟨x3,n3,c3,e3⟩:=h1.q3.sl;obtain⟨y1,m1,k1,f1⟩:=h2.q1.sl;obtain⟨y2,m2,k2,f2⟩:=h2.q2.sl;obtain⟨y3,m3,k3,f3⟩:=h2.q3.sl;subst e0 f0 e1 e2 e3 f1 f2 f3;clear h1 h2 hB1 hB2;go_enter Tryz.func27,Tryz.ntmps27;go_upto_region 1 with fail;simp only[World.size_alloc]at*;generalize ((w.alloc (.cells #[.slice x0 n0 c0,.slice x1 n1 c1,.slice x2 n2 c2,.slice x3 n3 c3] 34)).alloc (.cells #[.slice y0 m0 k0,.slice y1 m1 k1,.slice y2 m2 k2,.slice y3 m3 k3] 34))=w2 at*;generalize w.heap.size+1=gb at*;have hgal:=Aa hga;have hgbl:=Aa hgb;go_wp2_with fail;refine(Qz H1.out.i H2.out.i (by have:=H1.out.n0;omega)).mono ?_;rintro e w3 ⟨b,rfl,hb,hf⟩;have hga3:=(hf.block _ hgal (by simp)).trans hga;have hgb3:=(hf.block _ hgbl (by simp)).trans hgb;have HB3:=zA (HB2.out.trans (hf.below HB2.out.size (by simp)));have H13:=zA (H1.out.same hf);have H23:=zA (H2.out.same hf);have hgal3:=Aa hga3;have hgbl3:=Aa hgb3;have HBB:=zA hb;clear hf hga hgb hgal hgbl hb;cases b with
 |false=>
  go_wp2_with fail;go_ret;exact⟨false,rfl,⟨fun h=>(by cases h),fun h=>HBB.out.2 h.1⟩,HB3.out⟩
 |true=>
  go_wp2_with fail;refine(Sk H13.out.q1 H23.out.q1 H13.out.n1 H23.out.n1).mono ?_;rintro e w4 ⟨rfl,hf⟩;have hga4:=(hf.block _ hgal3 (by simp)).trans hga3;have hgb4:=(hf.block _ hgbl3 (by simp)).trans hgb3;have HB4:=zA (HB3.out.trans (hf.below HB3.out.size (by simp)));have H14:=zA (H13.out.same hf);have H24:=zA (H23.out.same hf);have hgal4:=Aa hga4;have hgbl4:=Aa hgb4;clear hf hga3 hgb3 hgal3 hgbl3;cases d1:decide (xs=xs')with
  |false=>
   have HD:=zA (of_decide_eq_false d1);clear d1;go_wp2_with fail;go_ret;exact⟨false,rfl,⟨fun h=>(by cases h),fun h=>absurd h.2.1 HD.out⟩,HB4.out⟩
  |true=>
   have HD:=zA (of_decide_eq_true d1);clear d1;go_wp2_with fail;refine(Sk H14.out.q2 H24.out.q2 H14.out.n2 H24.out.n2).mono ?_;rintro e w5 ⟨rfl,hf⟩;have hga5:=(hf.block _ hgal4 (by simp)).trans hga4;have hgb5:=(hf.block _ hgbl4 (by simp)).trans hgb4;have HB5:=zA (HB4.out.trans (hf.below HB4.out.size (by simp)));have H15:=zA (H14.out.same hf);have H25:=zA (H24.out.same hf);have hgal5:=Aa hga5;have hgbl5:=Aa hgb5;clear hf hga4 hgb4 hgal4 hgbl4;cases d2:decide (ys=ys')with
   |false=>
    have HE:=zA (of_decide_eq_false d2);clear d2;go_wp2_with fail;go_ret;exact⟨false,rfl,⟨fun h=>(by cases h),fun h=>absurd h.2.2.1 HE.out⟩,HB5.out⟩
   |true=>
    have HE:=zA (of_decide_eq_true d2);clear d2;go_wp2_with fail;refine(Sk H15.out.q3 H25.out.q3 H15.out.n3 H25.out.n3).mono ?_;rintro e w6 ⟨rfl,hf⟩;have HB6:=zA (HB5.out.trans (hf.below HB5.out.size (by simp)));clear hf hga5 hgb5 hgal5 hgbl5;cases d3:decide (zs=zs')with
    |false=>
     have HG:=zA (of_decide_eq_false d3);clear d3;go_wp2_with fail;go_ret;exact⟨false,rfl,⟨fun h=>(by cases h),fun h=>absurd h.2.2.2 HG.out⟩,HB6.out⟩
    |true=>
     have HG:=zA (of_decide_eq_true d3);clear d3;go_wp2_with fail;go_ret;exact⟨true,rfl,⟨fun _=>⟨HBB.out.1 (by first|rfl|trivial),HD.out,HE.out,HG.out⟩,fun _=>rfl⟩,HB6.out⟩
end Go.Proofs.YtmnecpnkkapflaaGreat
