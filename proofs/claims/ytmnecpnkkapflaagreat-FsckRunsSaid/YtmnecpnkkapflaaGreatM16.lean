import Derived.Test.YtmnecpnkkapflaaGreatM12
import Derived.Test.YtmnecpnkkapflaaGreatM15
namespace Go.Proofs.YtmnecpnkkapflaaGreat
set_option maxHeartbeats 16000000
set_option maxRecDepth 1000000
set_option linter.unusedSimpArgs false
set_option linter.unusedVariables false
open Go.RowKit
structure uN (E:A3) (done:List Int) (o:Option Nat) (z':LZ) (w w':World) (o':Option Nat) (I':Nat->List Int):Prop where
 d:DG E w' o' done z' I'
 i:DI E done z'
 f:Fr (E.ms++o.toList) w w'
 o:o'=o\/∃ g,o'=some g/\w.heap.size<=g
def uO(E:A3)(done:List Int)(o:Option Nat)(z':LZ)(w:World)(e:Ending)(w':World):Prop:=e= .returned (.tuple #[])/\∃ o' I',uN E done o z' w w' o' I'
theorem Fr.step{E:A3}{a b c:World}{o o':Option Nat}(h:Fr (E.ms++o.toList) a b)(ho:o'=o\/∃ g,o'=some g/\a.heap.size<=g)(h2:Fr (E.ms++o'.toList) b c):Fr (E.ms++o.toList) a c:=by
 have h3:Fr (E.ms++o.toList++o'.toList) a c:=(h.mono (fun k hk=>List.mem_append_left _ hk)).trans (h2.mono (fun k hk=>by
  rcases List.mem_append.1 hk with hk|hk
  ·exact List.mem_append_left _ (List.mem_append_left _ hk)
  ·exact List.mem_append_right _ hk))
 refine h3.past (fun k hk=>?_);rcases List.mem_append.1 hk with hk|hk
 ·exact .inl hk
 ·rcases ho with e|⟨g,e,hg⟩
  ·rw[e]at hk;exact .inl (List.mem_append_right _ hk)
  ·rw[e]at hk;simp at hk;subst hk;exact .inr hg
theorem Y7{o o' o'':Option Nat}{s s':Nat}(h:o'=o\/∃ g,o'=some g/\s<=g)(h2:o''=o'\/∃ g,o''=some g/\s'<=g)(hs:s<=s'):o''=o\/∃ g,o''=some g/\s<=g:=by
 rcases h2 with rfl|⟨g,h2,h3⟩
 ·exact h
 ·exact .inr ⟨g,h2,by omega⟩
structure Le (E:A3) (done:List Int) (o:Option Nat) (sv:Value) (L:List Sp) (w w5:World) (z:LZ) (ns:List ByteArray) (ok:Option Nat) (Ik:Nat->List Int) (nv:Value) (wr:World):Prop where
 nm:NmR wr w5.heap.size nv ns
 dg:DG E wr ok done z Ik
 fr:Fr (E.ms++o.toList) w wr
 ok:ok=o\/∃ g,ok=some g/\w.heap.size<=g
 sr:Dm wr w.heap.size sv L
 sz:w5.heap.size<=wr.heap.size
 gi:E.gi<w5.heap.size
section
variable {E:A3} {done:List Int} {o ok:Option Nat} {sv nv:Value} {L:List Sp} {w w5 wr w':World} {z:LZ} {ns:List ByteArray} {Ik:Nat->List Int}
theorem Le.below(h:Le E done o sv L w w5 z ns ok Ik nv wr)(hb:Below wr.heap.size wr w'):Le E done o sv L w w5 z ns ok Ik nv w':=
 ⟨h.nm.below hb,⟨h.dg.g.below hb,h.dg.i⟩,h.fr.trans (Af hb _),h.ok,h.sr.below hb,Nat.le_trans h.sz hb.size,h.gi⟩
theorem Le.wipe(hE:ROk E)(h:Le E done o sv L w w5 z ns ok Ik nv wr){p:Nat}(hp:p<E.N){cs:Array Value}(hcs:hat wr E.gw=some (.cells cs 47)):Le E done o sv L w w5 (Db p z) ns ok Ik nv (wr.setRow E.gw (Ap cs (p*128) (IV .u8 (zl 128)))):=by
 have hf:Fr [E.gw] wr (wr.setRow E.gw (Ap cs (p*128) (IV .u8 (zl 128)))):=Da _ _ _;have hf2:Fr (E.ms++ok.toList) wr (wr.setRow E.gw (Ap cs (p*128) (IV .u8 (zl 128)))):=hf.mono (by simp[A3.ms]);exact⟨h.nm.keep h.dg.g hf2,⟨h.dg.g.store hE hcs hp (by simp) (F0 128),h.dg.i⟩,h.fr.trans (hf.mono (by simp[A3.ms])),h.ok,h.sr.keep h.dg.g hf2,by rw[Xn];exact h.sz,h.gi⟩
theorem Le.name(h:Le E done o sv L w w5 z ns ok Ik nv wr)(hw:w.heap.size<=w5.heap.size){v':Value}{s:ByteArray}(hn:NmR w' w5.heap.size v' (ns++[s]))(hb:Below w5.heap.size wr w')(ht:∀ b cs t f,t≠9->hat wr b=some (.cells cs t f)->hat w' b=some (.cells cs t f)):Le E done o sv L w w5 z (ns++[s]) ok Ik v' w':=by
 obtain⟨v,hl,hq⟩:=h.dg.g.l;refine⟨hn,⟨⟨⟨v,ht _ _ _ _ (by decide) hl,?_⟩,h.dg.g.i.same (hb.block _ h.gi),?_,?_,?_,?_,?_,h.dg.g.no⟩,h.dg.i⟩,⟨hb.os.trans h.fr.os,hb.tape.trans h.fr.tape,hb.output.trans h.fr.output,Nat.le_trans h.fr.size hb.size,fun b hb1 hb2=>(hb.block b (by omega)).trans (h.fr.block b hb1 hb2)⟩,h.ok,?_,Nat.le_trans h.sz hb.size,h.gi⟩
 ·rcases hq with hq|⟨g,off,c,cs,q1,q2,q3,q4⟩
  ·exact .inl hq
  ·exact .inr ⟨g,off,c,cs,q1,q2,ht _ _ _ _ (by decide) q3,q4⟩
 ·obtain⟨cs,h1,h2⟩:=h.dg.g.s;exact⟨cs,ht _ _ _ _ (by decide) h1,h2⟩
 ·obtain⟨cs,h1,h2⟩:=h.dg.g.c;exact⟨cs,ht _ _ _ _ (by decide) h1,h2⟩
 ·obtain⟨cs,h1,h2⟩:=h.dg.g.t;exact⟨cs,ht _ _ _ _ (by decide) h1,h2⟩
 ·obtain⟨cs,h1,h2⟩:=h.dg.g.n;exact⟨cs,ht _ _ _ _ (by decide) h1,h2⟩
 ·obtain⟨cs,h1,h2⟩:=h.dg.g.e;exact⟨cs,ht _ _ _ _ (by decide) h1,h2⟩
 ·obtain⟨h0,h1|⟨g,cap,cur,h1,h2,h3,h4⟩⟩:=h.sr
  ·exact⟨h0,.inl h1⟩
  ·exact⟨h0,.inr ⟨g,cap,cur,h1,h2,ht g cur 167 (0,0) (by decide) h3,h4⟩⟩
theorem Le.more(hE:ROk E)(h:Le E done o sv L w w5 z ns ok Ik nv wr){x:Nat}(hx:x<E.M){tx:TI}(hT:z.T x=some tx):Le E done o sv L w w5 {z with T:=A2 z.T x {tx with en:=tx.en+1}} ns ok Ik nv (wr.setCell ⟨E.ge,x,none⟩ (.int .i64 (tx.en+1))):=by
 have hf:Fr [E.ge] wr (wr.setCell ⟨E.ge,x,none⟩ (.int .i64 (tx.en+1))):=Ai _ _ _ _;have hf2:Fr (E.ms++ok.toList) wr (wr.setCell ⟨E.ge,x,none⟩ (.int .i64 (tx.en+1))):=hf.mono (by simp[A3.ms]);refine⟨h.nm.keep h.dg.g hf2,⟨?_,fun j u hu=>?_⟩,h.fr.trans (hf.mono (by simp[A3.ms])),h.ok,h.sr.keep h.dg.g hf2,Nat.le_trans h.sz hf.size,h.gi⟩
 ·have:=h.dg.g.count hE hx (tx.en+1);show RG E _ ok (done++z.q) z.st.S z.st.cl (tkZ (A2 z.T x {tx with en:=tx.en+1})) Ik (enZ (A2 z.T x {tx with en:=tx.en+1}))
  rw[rR hT,Wj];exact this
 ·have hu2:A2 z.T x {tx with en:=tx.en+1} j=some u:=hu;by_cases hj:j=x
  ·subst hj;rw[Cg]at hu2;rw[<-Option.some.inj hu2];exact h.dg.i j tx hT
  ·rw[Cb _ _ hj]at hu2;exact h.dg.i j u hu2
theorem Le.took(h:Le E done o sv L w w5 z ns ok Ik nv wr){wb wc:World}{x:Nat}(h1:1<=x){raw:List Int}{o':Option Nat}(hT:z.T x=none)(hf:Fr E.ms wr wb)(ht:Tkn E x raw z.st ok (done++z.q) (tkZ z.T) Ik (fun j=>if x=j then(1:Int)else enZ z.T j) wb wc o'):∃ I',Le E done o sv L w w5 (Dg E.X E.Y x raw 1 z) ns o' I' nv wc:=by
 have hf2:Fr (E.ms++ok.toList) wr wc:=(hf.mono (fun k hk=>List.mem_append_left _ hk)).trans (ht.f.mono (fun k hk=>by
  rw[List.mem_cons,List.mem_cons,List.mem_cons,List.mem_cons,List.mem_cons]at hk;rcases hk with e|e|e|e|e|e
  ·subst e;simp[A3.ms]
  ·subst e;simp[A3.ms]
  ·subst e;simp[A3.ms]
  ·subst e;simp[A3.ms]
  ·subst e;simp[A3.ms]
  ·exact List.mem_append_right _ e))
 refine⟨fun j=>if j=x then(Aj E.X E.Y raw z.st).1 else Ik j,h.nm.keep h.dg.g hf2,⟨?_,fun j u hu=>?_⟩,h.fr.step h.ok hf2,Y7 h.ok ht.o (Nat.le_trans h.fr.size hf.size),h.sr.keep h.dg.g hf2,Nat.le_trans h.sz hf2.size,h.gi⟩
 ·have hg:=ht.g;rw[eQ h1 ⟨(Aj E.X E.Y raw z.st).1,1,(Aj E.X E.Y raw z.st).2.bk⟩]at hg;have e:(fun j=>if x=j then(1:Int)else enZ z.T j)=enZ (A2 z.T x ⟨(Aj E.X E.Y raw z.st).1,1,(Aj E.X E.Y raw z.st).2.bk⟩):=(Wj z.T x ⟨(Aj E.X E.Y raw z.st).1,1,(Aj E.X E.Y raw z.st).2.bk⟩).symm;rw[e]at hg;show RG E wc o' (done++(if nth raw 0=2 then z.q++[(x:Int)]else z.q)) _ _ _ _ _
  have e2:(if nth raw 0=2 then(done++z.q)++[(x:Int)]else done++z.q)=done++(if nth raw 0=2 then z.q++[(x:Int)]else z.q):=by
   split
   ·rw[List.append_assoc]
   ·rfl
  rw[<-e2];exact hg
 ·have hu2:A2 z.T x ⟨(Aj E.X E.Y raw z.st).1,1,(Aj E.X E.Y raw z.st).2.bk⟩ j=some u:=hu;by_cases hj:j=x
  ·subst hj;rw[Cg]at hu2;rw[<-Option.some.inj hu2];exact if_pos rfl
  ·rw[Cb _ _ hj]at hu2;show(if j=x then _ else Ik j)=_
   rw[if_neg hj];exact h.dg.i j u hu2
end
theorem aT{X Y:Int}{A:Nat->List Int}{x:Nat}{nm:ByteArray}{zk:LZ×(ByteArray->Bool)}(h:(Cz X Y A x nm zk).1=true):∃ z',Cn X Y A x zk.1=some z'/\(Cz X Y A x nm zk).2=(z',Ll zk.2 nm):=by
 unfold Cz at h ⊢;split at h
 ·cases h
 ·rename_i hc
  rw[if_neg hc];cases he:Cn X Y A x zk.1 with
  |none=>rw[he]at h;cases h
  |some z'=>exact⟨z',rfl,rfl⟩
theorem Yg{X Y:Int}{A:Nat->List Int}{x:Nat}{z z':LZ}{tx:TI}(hT:z.T x=some tx)(h:Cn X Y A x z=some z'):z'={z with T:=A2 z.T x {tx with en:=tx.en+1}}:=by
 unfold Cn at h;rw[hT]at h;simp only at h;split at h
 ·cases h
 ·exact(Option.some.inj h).symm
theorem Yf{X Y:Int}{A:Nat->List Int}{x:Nat}{z z':LZ}(hT:z.T x=none)(h:Cn X Y A x z=some z'):Bw (A x)=true/\z'=Dg X Y x (Am (A x)).1 1 z:=by
 unfold Cn at h;rw[hT]at h;simp only at h;split at h
 ·rename_i hs
  exact⟨hs,(Option.some.inj h).symm⟩
 ·cases h
section
variable {E:A3} {o:Option Nat} {I:Nat->List Int}
theorem mU(hE:ROk E){done:List Int}{z:LZ}{c:Nat}{t:TI}(hD:DI E done z)(hP:PZ E.X E.Y z)(ht:z.T c=some t)(hq:(c:Int)∉z.q)(w:World)(h:DG E w o done z I):
  Calls Tryz.prog 68 #[.pointer (some ⟨E.g,0,none⟩),.int .i64 c] w (uO E done o (Ct E.X E.Y E.A c z) w):=by
 obtain⟨hc1,hcY⟩:=hD.ix c t ht;have hcM:c<E.M:=by have:=hE.M;omega
 have hci:(c:Int)<(E.M:Int):=by omega
 have hc0:(0:Int)<=(c:Int):=Int.natCast_nonneg _;have hY0:0<=E.Y:=by have:=hE.Y1;omega
 have hr18:=(hD.inv.snd c t ht).2.1;have hIc:I c=t.raw:=h.i c t ht;have hA:Wa E.N z.st.S t.raw:=(Wf (X:=E.X) (Y:=E.Y) (n:=Aq (nth t.raw 2)) hY0 hE.X (by have:=hE.N8;omega) hr18 (fun p hp=>((hP.ok c t ht).1 p hp).1)).1;have HA:=zA hA;have HRUN:=zA (fS hE hD.inv hP ht);have HSP:Hid (∀ j,j<1068->t.bk (j:Nat)=H9 (D6 z.st.S t.raw j)):=zA (fun j hj=>by rw[hP.bk c t ht j (Int.natCast_nonneg _) (by omega),Iw _ _ hr18 j hj]);obtain⟨L,hL⟩:∃ L,spF (D6 z.st.S t.raw) 0 1068=L:=⟨_,rfl⟩;rw[hL]at HRUN;have HL:=zA hL;have hLl:L.length<=1068:=by rw[<-hL];exact Il _ _ _
 have HLB:Hid (∀ (k:Nat) (sp:Sp),L[k]? =some sp->∃ j:Nat,t.bk j=some sp.2):=zA (fun k sp hk=>by
  have hm:=List.mem_of_getElem? hk;rw[<-hL]at hm;unfold spF at hm;obtain⟨j,hj,hm⟩:=List.mem_flatMap.1 hm;have hj2:=List.mem_range.1 hj;split at hm
  ·cases hm
  ·rename_i h0
   simp only[Nat.zero_add,List.mem_singleton]at hm;refine⟨j,?_⟩;rw[HSP.out j hj2,hm];unfold H9;rw[Nat.zero_add]at h0;rw[if_neg h0])
 have HG:=zA h.g;have HIT:=zA h.i;have HD:=zA hD;have HT:=zA ht;have HQ:=zA hq;obtain⟨v,hl,-⟩:=h.g.l;have hll:=Aa hl;obtain⟨csn,hcn,-,hldn,-⟩:=h.g.n.load hcM;rw[hIc]at hldn;have hcnl:=Aa hcn;clear hA hL h hD hP ht hq;go_enter Tryz.func68,Tryz.ntmps68;go_upto_region 0 with fail;refine Im (by kernel_rfl) 15 (by decide) rfl (fun W=>Below w.heap.size w W) (fun W W'=>Below W.heap.size W W') (fun i' v W=>match i' with|0=>v=(.pointer (some ⟨E.g,0,none⟩))|1=>v=(Mb E.gw E.N E.cw)|2=>v=(.pointer (some ⟨E.g,0,none⟩))|3=>v=(.pointer (some ⟨E.g,0,none⟩))|4=>v=(.pointer (some ⟨E.g,6,none⟩))|5=>v=(.slice (some ⟨E.gn,0,none⟩) E.M E.cn)|6=>v=(.int .i64 (c:Int))|7=>v=(.pointer (some ⟨E.gn,c*18,none⟩))|8=>v=(.agg (IV .i64 t.raw))|9=>∃ v0,v= .tuple #[v0,.int .i64 0]/\Dm W w.heap.size v0 L|10=>∃ v0,v= .tuple #[v0,.int .i64 0]/\Dm W w.heap.size v0 L|11=>Dm W w.heap.size v L|12=>v=(.int .i64 0)|13=>Dm W w.heap.size v L|_=>v=(.int .i64 0)) ((Below.refl _ _).drew) ?_ ?_ ?_
 ·intro i' v wa wb hi _ _ hE5 hG;have hi':i'=0\/i'=1\/i'=2\/i'=3\/i'=4\/i'=5\/i'=6\/i'=7\/i'=8\/i'=9\/i'=10\/i'=11\/i'=12\/i'=13\/i'=14:=(by omega);rcases hi' with rfl|rfl|rfl|rfl|rfl|rfl|rfl|rfl|rfl|rfl|rfl|rfl|rfl|rfl|rfl<;>try exact hG
  ·obtain⟨v0,h1,h2⟩:=hG;exact⟨v0,h1,h2.below hE5⟩
  ·obtain⟨v0,h1,h2⟩:=hG;exact⟨v0,h1,h2.below hE5⟩
  ·exact Dm.below hG hE5
  ·exact Dm.below hG hE5
 ·intro i' o hi ho a' w' hB hS hF;have hi':i'=0\/i'=1\/i'=2\/i'=3\/i'=4\/i'=5\/i'=6\/i'=7\/i'=8\/i'=9\/i'=10\/i'=11\/i'=12\/i'=13\/i'=14:=(by omega);have hl:=(hop hB hl).1;have hcn:=(hop hB hcn).1;rcases hi' with rfl|rfl|rfl|rfl|rfl|rfl|rfl|rfl|rfl|rfl|rfl|rfl|rfl|rfl|rfl
  all_goals (have ho':=Option.some.inj ho;subst ho')
  ·have q0:a'.tmps[0]?.getD undef=(.pointer (some ⟨E.g,0,none⟩)):=gtx ((hS 0 (by decide)).trans rfl);refine Ae rfl rfl (v:=(.pointer (some ⟨E.g,0,none⟩))) (w1:=w') ?_ ⟨_,rfl,hB,Below.refl _ _,rfl⟩;simp[go_sem,q0]
  ·have q14:a'.tmps[14]?.getD undef=(.pointer (some ⟨E.g,0,none⟩)):=gtx ((hF 0 (by decide) _ 14 rfl rfl).trans rfl);refine Bn (f:=100) (args:= #[.pointer (some ⟨E.g,0,none⟩)]) rfl rfl (by simp[go_sem,q14]) (Jm w' (HG.out.below hB)) ?_;rintro e w'' ⟨rfl,hb'⟩;exact⟨_,rfl,_,rfl,Ad hB hb' hB.size,hb',rfl⟩
  ·have q0:a'.tmps[0]?.getD undef=(.pointer (some ⟨E.g,0,none⟩)):=gtx ((hS 0 (by decide)).trans rfl);refine Ae rfl rfl (v:=(.pointer (some ⟨E.g,0,none⟩))) (w1:=w') ?_ ⟨_,rfl,hB,Below.refl _ _,rfl⟩;simp[go_sem,q0]
  ·have q16:a'.tmps[16]?.getD undef=(.pointer (some ⟨E.g,0,none⟩)):=gtx ((hF 2 (by decide) _ 16 rfl rfl).trans rfl);refine Ae rfl rfl (v:=(.pointer (some ⟨E.g,0,none⟩))) (w1:=w') ?_ ⟨_,rfl,hB,Below.refl _ _,rfl⟩;simp[go_sem,q16]
  ·have q17:a'.tmps[17]?.getD undef=(.pointer (some ⟨E.g,0,none⟩)):=gtx ((hF 3 (by decide) _ 17 rfl rfl).trans rfl);refine Ae rfl rfl (v:=(.pointer (some ⟨E.g,6,none⟩))) (w1:=w') ?_ ⟨_,rfl,hB,Below.refl _ _,rfl⟩;simp[go_sem,q17]
  ·have q18:a'.tmps[18]?.getD undef=(.pointer (some ⟨E.g,6,none⟩)):=gtx ((hF 4 (by decide) _ 18 rfl rfl).trans rfl);refine Ae rfl rfl (v:=(.slice (some ⟨E.gn,0,none⟩) E.M E.cn)) (w1:=w') ?_ ⟨_,rfl,hB,Below.refl _ _,rfl⟩;simp[go_sem,q18,hl]
  ·have q1:a'.tmps[1]?.getD undef=(.int .i64 (c:Int)):=gtx ((hS 1 (by decide)).trans rfl);refine Ae rfl rfl (v:=(.int .i64 (c:Int))) (w1:=w') ?_ ⟨_,rfl,hB,Below.refl _ _,rfl⟩;simp[go_sem,q1]
  ·have q19:a'.tmps[19]?.getD undef=(.slice (some ⟨E.gn,0,none⟩) E.M E.cn):=gtx ((hF 5 (by decide) _ 19 rfl rfl).trans rfl);have q20:a'.tmps[20]?.getD undef=(.int .i64 (c:Int)):=gtx ((hF 6 (by decide) _ 20 rfl rfl).trans rfl);refine Ae rfl rfl (v:=(.pointer (some ⟨E.gn,c*18,none⟩))) (w1:=w') ?_ ⟨_,rfl,hB,Below.refl _ _,rfl⟩;simp[go_sem,q19,q20,hc0,hci,hcM]
  ·have q21:a'.tmps[21]?.getD undef=(.pointer (some ⟨E.gn,c*18,none⟩)):=gtx ((hF 7 (by decide) _ 21 rfl rfl).trans rfl);refine Ae rfl rfl (v:=(.agg (IV .i64 t.raw))) (w1:=w') ?_ ⟨_,rfl,hB,Below.refl _ _,rfl⟩;simp[go_sem,q21,hcn,hldn]
  ·have q15:a'.tmps[15]?.getD undef=(Mb E.gw E.N E.cw):=gtx ((hF 1 (by decide) _ 15 rfl rfl).trans rfl);have q22:a'.tmps[22]?.getD undef=(.agg (IV .i64 t.raw)):=gtx ((hF 8 (by decide) _ 22 rfl rfl).trans rfl);refine Bn (f:=101) (args:= #[Mb E.gw E.N E.cw,.agg (IV .i64 t.raw)]) rfl rfl (by simp[go_sem,q15,q22]) (Tz HA.out w' (HG.out.below hB).s) ?_;rintro e w'' ⟨v0,rfl,hs0,hb'⟩;exact⟨_,rfl,_,rfl,Ad hB hb' hB.size,hb',v0,rfl,by rw[HL.out]at hs0;exact hs0.base hB.size⟩
  ·obtain⟨v0,h1,h2⟩:=hF 9 (by decide) _ 23 rfl rfl;have q23:=gtx h1;refine Ae rfl rfl (v:= .tuple #[v0,.int .i64 0]) (w1:=w') ?_ ⟨_,rfl,hB,Below.refl _ _,v0,rfl,h2⟩;simp[go_sem,q23]
  ·obtain⟨v0,h1,h2⟩:=hF 10 (by decide) _ 13 rfl rfl;have q13:=gtx h1;refine Ae rfl rfl (v:=v0) (w1:=w') ?_ ⟨_,rfl,hB,Below.refl _ _,h2⟩;simp[go_sem,q13]
  ·obtain⟨v0,h1,h2⟩:=hF 10 (by decide) _ 13 rfl rfl;have q13:=gtx h1;refine Ae rfl rfl (v:= .int .i64 0) (w1:=w') ?_ ⟨_,rfl,hB,Below.refl _ _,rfl⟩;simp[go_sem,q13]
  ·have h2:=hF 11 (by decide) _ 24 rfl rfl;obtain⟨a24,c24,e24⟩:=h2.sl;have q24:=gtx e24;rw[e24]at h2;refine Ae rfl rfl (v:= .slice a24 L.length c24) (w1:=w') ?_ ⟨_,rfl,hB,Below.refl _ _,h2⟩;simp[go_sem,q24]
  ·have q25:a'.tmps[25]?.getD undef=(.int .i64 0):=gtx ((hF 12 (by decide) _ 25 rfl rfl).trans rfl);refine Ae rfl rfl (v:=(.int .i64 0)) (w1:=w') ?_ ⟨_,rfl,hB,Below.refl _ _,rfl⟩;simp[go_sem,q25]
 intro val w5 hB5 hF;have y0:=hF 0 _ 14 (by decide) rfl rfl;have y1:=hF 1 _ 15 (by decide) rfl rfl;have y2:=hF 2 _ 16 (by decide) rfl rfl;have y3:=hF 3 _ 17 (by decide) rfl rfl;have y4:=hF 4 _ 18 (by decide) rfl rfl;have y5:=hF 5 _ 19 (by decide) rfl rfl;have y6:=hF 6 _ 20 (by decide) rfl rfl;have y7:=hF 7 _ 21 (by decide) rfl rfl;have y8:=hF 8 _ 22 (by decide) rfl rfl;obtain⟨v23,y9,-⟩:=hF 9 _ 23 (by decide) rfl rfl;obtain⟨v13,y10,-⟩:=hF 10 _ 13 (by decide) rfl rfl;have y12:=hF 12 _ 25 (by decide) rfl rfl;obtain hs5:=hF 13 _ 4 (by decide) rfl rfl;have y14:=hF 14 _ 5 (by decide) rfl rfl;simp only[]at y0 y1 y2 y3 y4 y5 y6 y7 y8 y12 y14;simp only[Bi,List.take,List.drop,List.take_succ_cons,List.drop_succ_cons,y0,y1,y2,y3,y4,y5,y6,y7,y8,y12,y14,y9,y10,Act.put,List.setIfInBounds_toArray,List.set_cons_zero,List.set_cons_succ];clear y0 y1 y2 y3 y4 y5 y6 y7 y8 y12 y14 y9 y10 hF;have HWL:Hid (w.heap.size<=w5.heap.size/\E.gi<w5.heap.size):=zA ⟨hB5.size,Nat.lt_of_lt_of_le (HG.out.lts E.gi (by simp[A3.bs])) hB5.size⟩;obtain⟨av,cv,ev⟩:=hs5.sl;generalize val 13=v4 at*;subst ev;have HB0:Hid (Le E done o (.slice av L.length cv) L w w5 z [] o I (.slice none 0 0) w5):=zA ⟨⟨rfl,.inl ⟨rfl,rfl⟩⟩,⟨HG.out.below hB5,HIT.out⟩,Af hB5 _,.inl rfl,hs5,Nat.le_refl _,HWL.out.2⟩;clear hB5 hs5 hl hll hcn hcnl hldn HG HIT;go_wp2_with fail;go_loopw [6,7] (fun nv kv wr=>∃ (k:Nat) (zk:LZ×(ByteArray->Bool)) (ns:List ByteArray) (ok:Option Nat) (Ik:Nat->List Int),kv= .int .i64 k/\k<=L.length/\ns.length<=k/\Hid (Le E done o (.slice av L.length cv) L w w5 zk.1 ns ok Ik nv wr)/\Hid (∀ x,zk.2 x=true↔x∈ns)/\Hid (DI E done zk.1)/\Hid ((∃ t0,zk.1.T c=some t0/\t0.bk=t.bk)/\(c:Int)∉zk.1.q)/\Hid (Zq E L (z,fun _=>false)=Zq E (L.drop k) zk)) (fun _ v _=>L.length-(intOf v).toNat)
 case atStart=>exact⟨0,(z,fun _=>false),[],o,I,rfl,by omega,by simp,HB0,zA (fun x=>by simp),HD,zA ⟨⟨t,HT.out,rfl⟩,HQ.out⟩,zA rfl⟩
 case round=>
  obtain⟨k,zk,ns,ok,Ik,rfl,hk,hns,HB,HNI,HDI,HTC,HRK⟩:=hrel;have hk0:(0:Int)<=(k:Int):=Int.natCast_nonneg _;by_cases hkL:k<L.length
  ·have hki:(k:Int)<(L.length:Int):=(by omega);obtain⟨⟨ix,p⟩,hsp⟩:=D8 (l:=L) (k:=k) hkL;have hr:=HRK.out;rw[Io hsp,jE]at hr;obtain⟨j,hbj⟩:=HLB.out k (ix,p) hsp;obtain⟨⟨t0,ht0,hb0⟩,hqk⟩:=HTC.out;obtain⟨hdp,hcp⟩:=HDI.out.inv.blk c t0 j p ht0 (by rw[hb0];exact hbj);have hlt:=Ww hE hdp;obtain⟨pn,rfl⟩:=Int.eq_ofNat_of_zero_le hlt.1;have hpN:pn<E.N:=(by omega);have hpi:(pn:Int)<(E.N:Int):=hlt.2;have hpp:(0:Int)<=(pn:Int):=Int.natCast_nonneg _;have hr2:Zq E L (z,fun _=>false)=Zq E (L.drop (k+1)) (Cy E.X E.Y E.A pn zk):=hr;have HR1:=zA hr2;have HCP:Hid (zk.1.st.cl (pn:Nat)=true):=zA hcp;have HSI:=zA (Uc hY0 (t:=t) HDI.out.inv ⟨t0,ht0,hb0⟩ hqk hbj);obtain⟨gs,cg,csS,es,-,hgs,hall⟩:=HB.out.sr.at (fun e=>by rw[e]at hkL;simp at hkL);injection es with ea eb ec
   subst ea;subst ec;have hcS:=hall _ _ (Xo L k ix pn hsp).2;have hgsl:=Aa hgs;clear hr hr2 hcp hall eb hsp hbj ht0 hb0 hdp hlt;obtain⟨vk,hlk,-⟩:=HB.out.dg.g.l;have hlkl:=Aa hlk;obtain⟨csw,hcw,hldw,hlenw,hbyw⟩:=HB.out.dg.g.s.load hpN;have hcwl:=Aa hcw;have HSL:=zA (fun W=>cH (zk.1.st.S pn) hlenw hbyw W)
   have HSLZ:Hid (Cy E.X E.Y E.A pn zk=if (Ax (zk.1.st.S pn)).2.2=0/\(Ax (zk.1.st.S pn)).1=0 then zk
    else if (Ax (zk.1.st.S pn)).2.2=0/\(Ax (zk.1.st.S pn)).1<=E.Y/\(Cz E.X E.Y E.A (Ax (zk.1.st.S pn)).1.toNat (Ax (zk.1.st.S pn)).2.1 zk).1=true then(Cz E.X E.Y E.A (Ax (zk.1.st.S pn)).1.toNat (Ax (zk.1.st.S pn)).2.1 zk).2 else(Db pn zk.1,zk.2)):=zA rfl
   have HOK:Hid ((Ax (zk.1.st.S pn)).2.2=0->(Ax (zk.1.st.S pn)).1≠0->1<=(Ax (zk.1.st.S pn)).1/\(Ax (zk.1.st.S pn)).1<=512):=zA (fun h1 h2=>⟨(Ua h1 h2).1,(Ua h1 h2).2.1⟩);generalize (Ax (zk.1.st.S pn)).1=ino at*;generalize (Ax (zk.1.st.S pn)).2.1=nm at*;generalize (Ax (zk.1.st.S pn)).2.2=er at*;obtain⟨w6,hw6⟩:∃ x,x=wr:=⟨_,rfl⟩;subst hw6;go_wp2_with fail;refine(HSL.out _).mono ?_;rintro e w7 ⟨rfl,hb7⟩;have hgl:=(A6 w7 (.cells #[.int .i64 ino,.string nm] 125)).1;have hB8:Below w6.heap.size w6 (w7.alloc (.cells #[.int .i64 ino,.string nm] 125)):=hb7.alloc hb7.size _;have HB8:=zA (HB.out.below hB8);clear hb7 hB8 hlk hlkl hcw hcwl hldw HSL hgs hgsl hcS HB hbyw hlenw;go_upto_region 7 with fail;generalize w7.alloc (.cells #[.int .i64 ino,.string nm] 125)=w8 at*;generalize w7.heap.size=gl at*;have hgll:=Aa hgl;by_cases he:er=0
   ·have de:(er==0)=true:=(by simpa using he);have dn:(er !=0)=false:=(by simpa using he);by_cases hi:ino=0
    ·have di:(ino==0)=true:=(by simpa using hi);have HSK:Hid (Cy E.X E.Y E.A pn zk=zk):=zA (by rw[HSLZ.out,if_pos ⟨he,hi⟩]);clear he hi;go_wp2_with fail;go_roundw
     case rel=>first|exact⟨k+1,zk,ns,ok,Ik,by go_num,by omega,by omega,HB8,HNI,HDI,HTC,zA (by rw[HR1.out,HSK.out])⟩|((repeat apply Exists.intro);exact⟨⟨k+1,zk,ns,ok,Ik,by go_num,by omega,by omega,HB8,HNI,HDI,HTC,zA (by rw[HR1.out,HSK.out])⟩,rfl⟩)
     case measure=>(show L.length-(k+1)<L.length-k);omega
    ·have di:(ino==0)=false:=(by simpa using hi);obtain⟨o1,o2⟩:=HOK.out he hi;obtain⟨x,rfl⟩:=Int.eq_ofNat_of_zero_le (show 0<=ino by omega);have hx1:1<=x:=(by omega)
     have HSLZ2:Hid (Cy E.X E.Y E.A pn zk=if (x:Int)<=E.Y/\(Cz E.X E.Y E.A x nm zk).1=true then(Cz E.X E.Y E.A x nm zk).2 else(Db pn zk.1,zk.2)):=zA (by
      rw[HSLZ.out,if_neg (fun hh=>hi hh.2),Int.toNat_natCast];simp only[he,true_and])
     have HEB:=zA (pT HDI.out HB8.out.dg.i HNI.out hx1 nm);have HCE:=zA (Xc hE x hx1 nm ns (by omega) w8 HB8.out.dg.g HB8.out.nm);clear he hi o1 o2 HSLZ HOK;cases hent:fW E (tkZ zk.1.T) Ik (enZ zk.1.T) x nm ns with
     |false=>
      rw[hent]at HEB HCE
      have HSK:Hid (Cy E.X E.Y E.A pn zk=(Db pn zk.1,zk.2)):=zA (by
       rw[HSLZ2.out,if_neg (fun hh=>by have:=HEB.out.2 hh;cases this)])
      have HTC2:Hid ((∃ t0,(Db pn zk.1).T c=some t0/\t0.bk=t.bk)/\(c:Int)∉(Db pn zk.1).q):=zA HTC.out;have HDI2:=zA (HDI.out.wipe HCP.out);clear hent;go_wp2_with fail;refine HCE.out.mono ?_;rintro e w9 ⟨rfl,hb9⟩;have HB9:=zA (HB8.out.below hb9);obtain⟨v9,hl9,-⟩:=HB9.out.dg.g.l;have hl9l:=Aa hl9;obtain⟨csw,hcw,hszw,-⟩:=HB9.out.dg.g.s;have hcwl:=Aa hcw;have hst:∀ raw w',Dd raw 128 (pn*128) E.gw (IV .u8 (zl 128)) w' (some (.cells csw 47 (0,0)))= .ok () (w'.setRow E.gw (Ap csw (pn*128) (IV .u8 (zl 128)))):=fun raw w'=>Cj (by omega) (by simp) (by simp)
      have HB10:=zA (HB9.out.wipe hE hpN hcw);clear hb9 HCE;go_wp2_with fail;go_roundw
      case rel=>first|exact⟨k+1,(Db pn zk.1,zk.2),ns,ok,Ik,by go_num,by omega,by omega,HB10,HNI,HDI2,HTC2,zA (by rw[HR1.out,HSK.out])⟩|((repeat apply Exists.intro);exact⟨⟨k+1,(Db pn zk.1,zk.2),ns,ok,Ik,by go_num,by omega,by omega,HB10,HNI,HDI2,HTC2,zA (by rw[HR1.out,HSK.out])⟩,rfl⟩)
      case measure=>(show L.length-(k+1)<L.length-k);omega
     |true=>
      rw[hent]at HEB HCE;obtain⟨hxY,hen⟩:=HEB.out.1 rfl;obtain⟨z',hez,hz2⟩:=aT hen;have HSK:Hid (Cy E.X E.Y E.A pn zk=(z',Ll zk.2 nm)):=zA (by rw[HSLZ2.out,if_pos ⟨hxY,hen⟩,hz2]);have HXY:=zA hxY;have HEZ:=zA hez;have HDI2:=zA (HDI.out.enter hE hx1 hxY hez)
      have HTC2:Hid ((∃ t0,z'.T c=some t0/\t0.bk=t.bk)/\(c:Int)∉z'.q):=zA (by
       obtain⟨⟨t0,ht0,hb0⟩,-⟩:=HTC.out;have hs:=HSI.out;rw[Int.toNat_natCast,HSK.out]at hs;obtain⟨t1,ht1,-,hb1⟩:=hs.st.t c t0 ht0;exact⟨⟨t1,ht1,hb1.trans hb0⟩,hs.q⟩)
      have HNI2:Hid (∀ y,Ll zk.2 nm y=true↔y∈ns++[nm]):=zA (fun y=>by
       unfold Ll;rw[List.mem_append, <-HNI.out y];simp)
      have hxM:x<E.M:=(by have:=hE.M;omega);have hxMi:(x:Int)<(E.M:Int):=(by omega);have hx0:(0:Int)<=(x:Int):=Int.natCast_nonneg _
      have HENB:Hid (0<=enZ zk.1.T x/\enZ zk.1.T x<=100):=zA (by
       unfold enZ;split
       ·rename_i tx htx
        exact HDI.out.inv.en x tx htx
       ·omega)
      clear hent hen hez hz2 hxY HSLZ2 HSI HCP HEB;go_wp2_with fail;refine HCE.out.mono ?_;rintro e w9 ⟨rfl,hb9⟩;have HB9:=zA (HB8.out.below hb9);have hgl9:=(hop hb9 hgl).1;have hgl9l:=Aa hgl9;obtain⟨v',w10,hrun,hn10,hb10,hty⟩:=fF HB9.out.nm (Nat.le_refl w5.heap.size) (Below.refl w5.heap.size w9) HB9.out.sz HB9.out.sz (by omega) nm 165;have HB10:=zA (HB9.out.name HWL.out.1 hn10 hb10 hty);have hgl10:hat w10 gl=some (.cells #[.int .i64 x,.string nm] 125):=hty _ _ _ _ (by decide) hgl9;have hgl10l:=Aa hgl10;obtain⟨an,cn,env⟩:=hn10.sl;obtain⟨nn,hnn⟩:∃ n,(ns++[nm]).length=n:=⟨_,rfl⟩;rw[hnn]at env;clear hnn;subst env;obtain⟨v10,hl10,-⟩:=HB10.out.dg.g.l;have hl10l:=Aa hl10;obtain⟨cse,hce,-,halle⟩:=HB10.out.dg.g.e;have hcex:=halle x hxM;have hcel:=Aa hce;obtain⟨en0,hen0⟩:∃ e,enZ zk.1.T x=e:=⟨_,rfl⟩;rw[hen0]at hcex HENB;have HEN:=zA hen0;obtain⟨he0,he1⟩:=HENB.out;have HGLE:Hid (gl≠E.ge):=zA (fun e=>by
       subst e;rw[hgl10]at hce;injection hce with h8
       injection h8 with h9 h10
       exact absurd h10 (by decide))
      clear hb9 HCE hn10 hb10 hty halle hen0 hgl hgll HB8 HB9 HENB;go_upto_region 11 with (at_builtin;refine Ao _ rfl (.tmp 71) (.tmp 74) 165 rfl _ _ rfl rfl _ _ hrun ?_)
      clear hrun hgl9 hgl9l;have hgl11:hat (w10.setCell ⟨E.ge,x,none⟩ (.int .i64 (en0+1))).drew gl=some (.cells #[.int .i64 x,.string nm] 125):=(Fh w10 ⟨E.ge,x,none⟩ _ gl HGLE.out).trans hgl10;have HF11:Hid (Fr E.ms w10 (w10.setCell ⟨E.ge,x,none⟩ (.int .i64 (en0+1))).drew):=zA (Bb ((Ai w10 E.ge x _).mono (by simp[A3.ms])));have HG11:=zA ((HB10.out.dg.g.count hE hxM (en0+1)).below (Dy (Below.refl _ _)));have HMORE:Hid (∀ tx,zk.1.T x=some tx->Le E done o (.slice (some ⟨gs,0,none⟩) L.length cv) L w w5 {zk.1 with T:=A2 zk.1.T x {tx with en:=tx.en+1}} (ns++[nm]) ok Ik (.slice an nn cn) (w10.setCell ⟨E.ge,x,none⟩ (.int .i64 (en0+1))).drew):=zA (fun tx hT=>by
       have h1:=HB10.out.more hE hxM hT;have h2:tx.en=en0:=(by rw[<-HEN.out];unfold enZ;rw[hT]);rw[h2]at h1;have h3:({tx with en:=tx.en+1}:TI)={tx with en:=en0+1}:=(by rw[h2]);rw[h3];exact h1.below (Dy (Below.refl _ _)))
      go_region
      clear hl10 hl10l hce hcel hcex hgl10 hgl10l;go_upto_region 12 with fail;generalize (w10.setCell ⟨E.ge,x,none⟩ (.int .i64 (en0+1))).drew=w11 at*;have hgl11l:=Aa hgl11;obtain⟨v11,hl11,-⟩:=HG11.out.l;have hl11l:=Aa hl11;obtain⟨cst,hct,-,hallt⟩:=HG11.out.t;have hctx:=hallt x hxM;rw[Ky]at hctx;have hctl:=Aa hct;have HGL:Hid (hat w11.drew gl=some (.cells #[.int .i64 x,.string nm] 125)):=zA hgl11;have HG12:=zA (HG11.out.below (Dy (Below.refl w11.heap.size w11)));have HF12:=zA (Bb HF11.out);clear hallt;cases hT:zk.1.T x with
      |some tx=>
       rw[hT]at hctx;have HB12:=zA ((HMORE.out tx hT).below (Dy (Below.refl w11.heap.size w11)));have HZE:Hid (z'={zk.1 with T:=A2 zk.1.T x {tx with en:=tx.en+1}}):=zA (Yg hT HEZ.out);rw[<-HZE.out]at HB12;simp only[Option.isSome_some]at hctx;clear hT HMORE;go_region
       clear hl11 hl11l hct hctx hctl hgl11 hgl11l;generalize w11.drew=w12 at*;go_wp2_with fail;go_roundw
       case rel=>first|exact⟨k+1,(z',Ll zk.2 nm),ns++[nm],ok,Ik,by go_num,by omega,by simp;omega,HB12,HNI2,HDI2,HTC2,zA (by rw[HR1.out,HSK.out])⟩|((repeat apply Exists.intro);exact⟨⟨k+1,(z',Ll zk.2 nm),ns++[nm],ok,Ik,by go_num,by omega,by simp;omega,HB12,HNI2,HDI2,HTC2,zA (by rw[HR1.out,HSK.out])⟩,rfl⟩)
       case measure=>(show L.length-(k+1)<L.length-k);omega
      |none=>
       rw[hT]at hctx;obtain⟨hso,hze⟩:=Yf hT HEZ.out;have HZE:=zA hze;have HNO:=zA hT;have hen:en0=0:=(by rw[<-HEN.out];unfold enZ;rw[hT]);obtain⟨m1,m2⟩:=Ir hso;have hb3:=((D9 m2).1 m1).1.2.2.1;have HZB:=zA hb3;simp only[Option.isSome_none]at hctx;clear hT HMORE hso hze m1 m2 hb3;go_region
       clear hl11 hl11l hct hctx hctl hgl11 hgl11l;have hgl12:=HGL.out;have hgl12l:=Aa hgl12;generalize w11.drew=w12 at*;have HCS:=zA (N3 hE x hx1 HXY.out w12 HG12.out);have hrl:=Bo (E.A x);have HRE:Hid (Am (E.A x)=Am (E.A x)):=zA rfl;obtain⟨rw0,hrw0⟩:∃ r,(Am (E.A x)).1=r:=⟨_,rfl⟩;rw[hrw0]at HCS hrl HZB HZE;clear hrw0 HRE;go_wp2_with fail;refine HCS.out.mono ?_;rintro e w13 ⟨rfl,hb13⟩;have hgi:=(A6 w13 (.cells (IV .i64 rw0) 78)).1;have hB14:Below w12.heap.size w12 (w13.alloc (.cells (IV .i64 rw0) 78)):=hb13.alloc hb13.size _;have hgl14:=(hop hB14 hgl12).1;have HG14:=zA (HG12.out.below hB14);have HF14:=zA (HF12.out.trans (Af hB14 _));clear hb13 hB14 HCS hgl12 hgl12l;go_upto_region 14 with fail;generalize w13.alloc (.cells (IV .i64 rw0) 78)=w14 at*;generalize w13.heap.size=gi2 at*;have hgl14l:=Aa hgl14;have hgil:=Aa hgi;have HCT:=zA (T0 hE x hx1 hxM hrl HZB.out.1 HZB.out.2 zk.1.st HDI.out.inv.si (HDI.out.len hE) w14 HG14.out);go_wp2_with fail;refine HCT.out.mono ?_;rintro e w15 ⟨rfl,o15,htk⟩;have hen2:(fun j=>if x=j then en0+1 else enZ zk.1.T j)=fun j=>if x=j then(1:Int)else enZ zk.1.T j:=by
        funext j
        split
        ·omega
        ·rfl
       rw[hen2]at htk;obtain⟨I15,hb15⟩:=HB10.out.took hx1 HNO.out HF14.out htk;rw[<-HZE.out]at hb15;have HB15:=zA hb15;clear htk hb15 HCT hen2;go_wp2_with fail;go_roundw
       case rel=>first|exact⟨k+1,(z',Ll zk.2 nm),ns++[nm],o15,I15,by go_num,by omega,by simp;omega,HB15,HNI2,HDI2,HTC2,zA (by rw[HR1.out,HSK.out])⟩|((repeat apply Exists.intro);exact⟨⟨k+1,(z',Ll zk.2 nm),ns++[nm],o15,I15,by go_num,by omega,by simp;omega,HB15,HNI2,HDI2,HTC2,zA (by rw[HR1.out,HSK.out])⟩,rfl⟩)
       case measure=>(show L.length-(k+1)<L.length-k);omega
   ·have de:(er==0)=false:=(by simpa using he);have dn:(er !=0)=true:=(by simpa using he)
    have HSK:Hid (Cy E.X E.Y E.A pn zk=(Db pn zk.1,zk.2)):=zA (by
     rw[HSLZ.out,if_neg (fun hh=>he hh.1),if_neg (fun hh=>he hh.1)])
    have HTC2:Hid ((∃ t0,(Db pn zk.1).T c=some t0/\t0.bk=t.bk)/\(c:Int)∉(Db pn zk.1).q):=zA HTC.out;have HDI2:=zA (HDI.out.wipe HCP.out);obtain⟨v9,hl9,-⟩:=HB8.out.dg.g.l;have hl9l:=Aa hl9;obtain⟨csw,hcw,hszw,-⟩:=HB8.out.dg.g.s;have hcwl:=Aa hcw;have hst:∀ raw w',Dd raw 128 (pn*128) E.gw (IV .u8 (zl 128)) w' (some (.cells csw 47 (0,0)))= .ok () (w'.setRow E.gw (Ap csw (pn*128) (IV .u8 (zl 128)))):=fun raw w'=>Cj (by omega) (by simp) (by simp)
    have HB10:=zA (HB8.out.wipe hE hpN hcw);clear he HSLZ;go_wp2_with fail;go_roundw
    case rel=>first|exact⟨k+1,(Db pn zk.1,zk.2),ns,ok,Ik,by go_num,by omega,by omega,HB10,HNI,HDI2,HTC2,zA (by rw[HR1.out,HSK.out])⟩|((repeat apply Exists.intro);exact⟨⟨k+1,(Db pn zk.1,zk.2),ns,ok,Ik,by go_num,by omega,by omega,HB10,HNI,HDI2,HTC2,zA (by rw[HR1.out,HSK.out])⟩,rfl⟩)
    case measure=>(show L.length-(k+1)<L.length-k);omega
  ·obtain rfl:k=L.length:=(by omega)
   have HEND:Hid (uO E done o (Ct E.X E.Y E.A c z) w (.returned (.tuple #[])) wr):=zA (by
    have hr:=HRK.out;rw[List.drop_length]at hr;refine⟨rfl,ok,Ik,?_⟩;rw[HRUN.out,hr];exact⟨HB.out.dg,HDI.out,HB.out.fr,HB.out.ok⟩)
   go_wp2_with fail;refine bodyPost_end (results_none rfl _ _ _) rfl ?_;exact HEND.out
end
def fU(i:Int)(raw:List Int)(k:Nat):List Pt:=(List.range k).map fun(j:Nat)=>(i,(j:Int),nth raw (4+j))
def Lp(S:Nat->List Int)(p:Int):List Pt:=if p=0 then []else nD p (Al (S p.toNat))
def fQ(S:Nat->List Int)(at':Int)(ps:List Int):Nat->List Pt
 |0=>[]
 |k+1=>fQ S at' ps k++(at',(k:Int),nth ps k)::Lp S (nth ps k)
def pN(S:Nat->List Int)(p:Int):List Pt:=if p=0 then []else fQ S p (Al (S p.toNat)) 32
def dP(S:Nat->List Int)(i:Int)(raw:List Int):List Pt:=fU i raw 12++[(i,12,nth raw 16),(i,13,nth raw 17)]++Lp S (nth raw 16)++pN S (nth raw 17)
def Li(l:List Pt):List Int:=l.map fun x=>x.2.2
theorem Ro(a b:List Pt):Li (a++b)=Li a++Li b:=by unfold Li;rw[List.map_append]
theorem rS(at':Int)(ps:List Int):Li (nD at' ps)=ps:=by
 unfold Li nD;rw[List.map_map];apply List.ext_getElem?
 intro i;simp[List.getElem?_map,List.getElem?_zipIdx];cases ps[i]? <;>simp
theorem Ot(base:Int)(S:Nat->List Int)(q:Int):∀ (ps:List Int) (k:Nat),q∈(G5 base).ps S k ps↔q≠0/\q∈ps
 |[],k=>by
  show q∈[]↔_
  simp
 |p::r,k=>by
  show q∈(if p=0 then []else [p])++(G5 base).ps S (k+1) r↔_
  rw[List.mem_append,Ot base S q r (k+1),List.mem_cons];by_cases hp:p=0
  ·rw[if_pos hp];constructor
   ·rintro (h|h)
    ·cases h
    ·exact⟨h.1,.inr h.2⟩
   ·rintro ⟨h0,h|h⟩
    ·exact absurd (h.trans hp) h0
    ·exact .inr ⟨h0,h⟩
  ·rw[if_neg hp,List.mem_singleton];constructor
   ·rintro (h|h)
    ·exact⟨by rw[h];exact hp,.inl h⟩
    ·exact⟨h.1,.inr h.2⟩
   ·rintro ⟨h0,h|h⟩
    ·exact .inl h
    ·exact .inr ⟨h0,h⟩
theorem Y6(S:Nat->List Int){q:Int}(hq:q≠0)(p:Int):q∈Li (Lp S p)↔p≠0/\q∈Al (S p.toNat):=by
 unfold Lp;split
 ·rename_i h
  constructor
  ·intro hh;cases hh
  ·intro hh;exact absurd h hh.1
 ·rename_i h
  rw[rS];exact⟨fun hh=>⟨h,hh⟩,fun hh=>hh.2⟩
theorem eB(S:Nat->List Int){q:Int}(hq:q≠0)(at':Int)(ps:List Int):∀ k,q∈Li (fQ S at' ps k)↔∃ j,j<k/\(q=nth ps j\/(nth ps j≠0/\q∈Al (S (nth ps j).toNat)))
 |0=>by
  constructor
  ·intro h;cases h
  ·rintro ⟨j,h,-⟩;omega
 |k+1=>by
  show q∈Li (fQ S at' ps k++(at',(k:Int),nth ps k)::Lp S (nth ps k))↔_
  rw[Ro,List.mem_append,eB S hq at' ps k];have e:Li ((at',(k:Int),nth ps k)::Lp S (nth ps k))=nth ps k::Li (Lp S (nth ps k)):=rfl;rw[e,List.mem_cons,Y6 S hq];constructor
  ·rintro (⟨j,h1,h2⟩|h)
   ·exact⟨j,by omega,h2⟩
   ·exact⟨k,by omega,h⟩
  ·rintro ⟨j,h1,h2⟩;by_cases hj:j=k
   ·subst hj;exact .inr h2
   ·exact .inl ⟨j,by omega,h2⟩
theorem Y5(n:Int)(S:Nat->List Int){q:Int}(hq:q≠0):∀ (ps:List Int) (k:Nat),q∈(D1 n).ps S k ps↔∃ p∈ps,p≠0/\(q=p\/q∈Al (S p.toNat))
 |[],k=>by
  show q∈[]↔_
  simp
 |p::r,k=>by
  show q∈(if p=0 then []else p::(G5 (44+32*(k:Int))).ps S 0 (Al (S p.toNat)))++(D1 n).ps S (k+1) r↔_
  rw[List.mem_append,Y5 n S hq r (k+1)];by_cases hp:p=0
  ·rw[if_pos hp];constructor
   ·rintro (h|⟨p',h1,h2⟩)
    ·cases h
    ·exact⟨p',List.mem_cons_of_mem _ h1,h2⟩
   ·rintro ⟨p',h1,h2,h3⟩;rcases List.mem_cons.1 h1 with e|h1
    ·exact absurd (e.trans hp) h2
    ·exact .inr ⟨p',h1,h2,h3⟩
  ·rw[if_neg hp,List.mem_cons,Ot];constructor
   ·rintro ((h|h)|⟨p',h1,h2⟩)
    ·exact⟨p,List.mem_cons_self ..,hp,.inl h⟩
    ·exact⟨p,List.mem_cons_self ..,hp,.inr h.2⟩
    ·exact⟨p',List.mem_cons_of_mem _ h1,h2⟩
   ·rintro ⟨p',h1,h2,h3⟩;rcases List.mem_cons.1 h1 with e|h1
    ·subst e;rcases h3 with h3|h3
     ·exact .inl (.inl h3)
     ·exact .inl (.inr ⟨hq,h3⟩)
    ·exact .inr ⟨p',h1,h2,h3⟩
theorem mB(n:Int)(S:Nat->List Int){raw:List Int}(hr:raw.length=18)(i:Int){q:Int}(hq:q≠0):q∈Li (dP S i raw)↔q∈Dq n S raw:=by
 have hdir:q∈Li (fU i raw 12)↔q∈Ms raw:=by
  have e:Li (fU i raw 12)=Ms raw:=by
   unfold Li fU;rw[List.map_map];apply Km
   ·unfold Ms;simp[hr]
   ·intro k hk;have hk12:k<12:=(by simpa using hk);rw[Ya hr hk12];unfold nth;rw[List.getElem?_map,List.getElem?_range hk12];rfl
  rw[e]
 unfold dP Dq;rw[Ro,Ro,Ro];have e2:Li [(i,12,nth raw 16),(i,13,nth raw 17)]=[nth raw 16,nth raw 17]:=rfl;rw[e2];simp only[List.mem_append];rw[hdir,Y6 S hq,Ot];have hs:q∈(Og n).ps S 0 [nth raw 16]↔nth raw 16≠0/\(q=nth raw 16\/q∈Al (S (nth raw 16).toNat)):=by
  show q∈(if nth raw 16=0 then []else nth raw 16::(G5 12).ps S 0 (Al (S (nth raw 16).toNat)))++[]↔_
  rw[List.append_nil];split
  ·rename_i h
   exact⟨fun hh=>(by cases hh),fun hh=>absurd h hh.1⟩
  ·rename_i h
   rw[List.mem_cons,Ot];constructor
   ·rintro (hh|hh)
    ·exact⟨h,.inl hh⟩
    ·exact⟨h,.inr hh.2⟩
   ·rintro ⟨-,hh|hh⟩
    ·exact .inl hh
    ·exact .inr ⟨hq,hh⟩
 have hd:q∈(Of n).ps S 0 [nth raw 17]↔nth raw 17≠0/\(q=nth raw 17\/∃ p∈Al (S (nth raw 17).toNat),p≠0/\(q=p\/q∈Al (S p.toNat))):=by
  show q∈(if nth raw 17=0 then []else nth raw 17::(D1 n).ps S 0 (Al (S (nth raw 17).toNat)))++[]↔_
  rw[List.append_nil];split
  ·rename_i h
   exact⟨fun hh=>(by cases hh),fun hh=>absurd h hh.1⟩
  ·rename_i h
   rw[List.mem_cons,Y5 n S hq];exact⟨fun hh=>⟨h,hh⟩,fun hh=>hh.2⟩
 have hda:q∈Li (pN S (nth raw 17))↔nth raw 17≠0/\∃ p∈Al (S (nth raw 17).toNat),p≠0/\(q=p\/q∈Al (S p.toNat)):=by
  unfold pN;split
  ·rename_i h
   exact⟨fun hh=>(by cases hh),fun hh=>absurd h hh.1⟩
  ·rename_i h
   rw[eB S hq];constructor
   ·rintro ⟨j,h1,h2⟩;have hm:nth (Al (S (nth raw 17).toNat)) j∈Al (S (nth raw 17).toNat):=List.mem_iff_getElem?.2 ⟨j,An (by simp;omega)⟩;rcases h2 with h2|h2
    ·exact⟨h,_,hm,by rw[<-h2];exact hq,.inl h2⟩
    ·exact⟨h,_,hm,h2.1,.inr h2.2⟩
   ·rintro ⟨-,p,h1,h2,h3⟩;obtain⟨j,hj⟩:=List.mem_iff_getElem?.1 h1;have hj32:=(List.getElem?_eq_some_iff.1 hj).1;have e:nth (Al (S (nth raw 17).toNat)) j=p:=by
     show((Al (S (nth raw 17).toNat))[j]?).getD 0=p
     rw[hj];rfl
    refine⟨j,by simpa using hj32,?_⟩;rw[e];rcases h3 with h3|h3
    ·exact .inl h3
    ·exact .inr ⟨h2,h3⟩
 rw[hs,hd,hda];simp only[List.mem_cons,List.not_mem_nil,or_false];constructor
 ·rintro (((h|h|h)|h)|h)
  ·exact .inl ⟨hq,h⟩
  ·exact .inr (.inl ⟨by rw[<-h];exact hq,.inl h⟩)
  ·exact .inr (.inr ⟨by rw[<-h];exact hq,.inl h⟩)
  ·exact .inr (.inl ⟨h.1,.inr h.2⟩)
  ·exact .inr (.inr ⟨h.1,.inr h.2⟩)
 ·rintro (h|⟨h0,h|h⟩|⟨h0,h|h⟩)
  ·exact .inl (.inl (.inl h.2))
  ·exact .inl (.inl (.inr (.inl h)))
  ·exact .inl (.inr ⟨h0,h⟩)
  ·exact .inl (.inl (.inr (.inr h)))
  ·exact .inr ⟨h0,h⟩
def nz(p:Int):List Int:=if p=0 then []else [p]
def Jp(S:Nat->List Int)(raw:List Int):List Int:=nz (nth raw 16)++if nth raw 17=0 then []else nth raw 17::(Al (S (nth raw 17).toNat)).flatMap nz
theorem Sz(n:Int)(S:Nat->List Int)(raw:List Int)(q:Int):q∈Jp S raw↔q∈Gh n S raw:=by
 have e0:∀ (b:Int) (l:List Int) (k:Nat),(G5 b).tb S k l=[]:=by
  intro b l;induction l with
  |nil=>intro k;rfl
  |cons p r ih=>
   intro k;show(if p=0 then []else([]:List Int))++(G5 b).tb S (k+1) r=[]
   rw[ih];split<;>rfl
 have e1:∀ (l:List Int) (k:Nat),(D1 n).tb S k l=l.flatMap nz:=by
  intro l;induction l with
  |nil=>intro k;rfl
  |cons p r ih=>
   intro k;show(if p=0 then []else p::(G5 (44+32*(k:Int))).tb S 0 (Al (S p.toNat)))++(D1 n).tb S (k+1) r=_
   rw[ih,e0,List.flatMap_cons];rfl
 have e2:(Og n).tb S 0 [nth raw 16]=nz (nth raw 16):=by
  show(if nth raw 16=0 then []else nth raw 16::(G5 12).tb S 0 (Al (S (nth raw 16).toNat)))++[]=_
  rw[e0,List.append_nil];rfl
 have e3:(Of n).tb S 0 [nth raw 17]=if nth raw 17=0 then []else nth raw 17::(Al (S (nth raw 17).toNat)).flatMap nz:=by
  show(if nth raw 17=0 then []else nth raw 17::(D1 n).tb S 0 (Al (S (nth raw 17).toNat)))++[]=_
  rw[e1,List.append_nil]
 unfold Jp Gh;rw[e0,e2,e3,List.nil_append]
theorem mG{ps:List Int}{k:Nat}(h:k<ps.length):(ps.take (k+1)).flatMap nz=(ps.take k).flatMap nz++nz (nth ps k):=by
 rw[List.take_add_one,An h,List.flatMap_append];simp
theorem eD(ps:List Int):(ps.flatMap nz).length<=ps.length:=by
 induction ps with
 |nil=>simp
 |cons p r ih=>
  rw[List.flatMap_cons,List.length_append,List.length_cons];have:(nz p).length<=1:=(by unfold nz;split<;>simp);omega
def Fa(B:Nat)(o:Option Nat):Prop:=∀ g,o=some g->B<=g
theorem Fa.to{B:Nat}{o o':Option Nat}{s:Nat}(h:Fa B o)(hs:B<=s)(ho:o'=o\/∃ g,o'=some g/\s<=g):Fa B o':=by
 rintro g rfl;rcases ho with e|⟨g',e,hg⟩
 ·exact h g e.symm
 ·injection e with e;subst e;omega
theorem Fa.all{B:Nat}{o:Option Nat}(h:Fa B o):∀ k∈o.toList,B<=k:=fun k hk=>h k (by simpa using hk)
theorem Kc{w w0:World}{B:Nat}{v:Value}{o:Option Nat}{xs:List Int}(h:Bg w v o xs)(ho:Fa B o)(hb:Below B w0 w)(hB:B<=w0.heap.size)(hn:xs.length<=100000)(i:Int)(ty:TypeId):
  ∃ v' w',(Builtin.append_ #[32,32] ty #[v,.slice (some ⟨w.heap.size,0,none⟩) 1 1]).run Tryz.prog (w.alloc (.cells #[.int .i64 i] 3))= .ok v' w'/\(∃ o',Bg w' v' o' (xs++[i])/\Fa B o'/\(o'=o\/∃ g,o'=some g/\w.heap.size<=g))/\Below B w0 w'/\Fr o.toList w w':=by
 obtain⟨v',w',o',h1,h2,h3,h4⟩:=Fx (h.fr (Be w (.cells #[.int .i64 i] 3) []) (by simp)) hn i w.heap.size (A6 w _).1 ty;have hsz:(w.alloc (.cells #[.int .i64 i] 3)).heap.size=w.heap.size+1:=World.size_alloc _ _;have hbw:=hb.size;refine⟨v',w',h1,⟨o',h2,ho.to (s:=(w.alloc (.cells #[.int .i64 i] 3)).heap.size) (by omega) h4,?_⟩,?_,(Be w _ _).trans h3⟩
 ·rcases h4 with h4|⟨g,h4,h5⟩
  ·exact .inl h4
  ·exact .inr ⟨g,h4,by omega⟩
 ·exact(As hb (by omega) _).trans (h3.below (by omega) ho.all)
section
variable {gw N cw:Nat} {S:Nat->List Int}
theorem Zp{raw:List Int}(hA:Wa N S raw)(w:World)(h:B8 w gw N 0 S):
  Calls Tryz.prog 103 #[Mb gw N cw,.agg (IV .i64 raw)] w fun e w'=>∃ v o,e= .returned (.tuple #[v,.int .i64 0])/\Bg w' v o (Jp S raw)/\Fa w.heap.size o/\Below w.heap.size w w':=by
 have hB1:Below w.heap.size w (w.alloc (.cells #[.slice (some ⟨gw,0,none⟩) N cw,.int .i64 (-1),.int .i64 0] 160)):=(Below.refl _ _).alloc (Nat.le_refl _) _;have hB2:Below w.heap.size w ((w.alloc (.cells #[.slice (some ⟨gw,0,none⟩) N cw,.int .i64 (-1),.int .i64 0] 160)).alloc (.cells (IV .i64 raw) 78)):=hB1.alloc hB1.size _;have HS2:=zA (h.same (A7 hB2 h.lt2));have hg1:=(B7 _ (.cells (IV .i64 raw) 78) (A6 w (.cells #[.slice (some ⟨gw,0,none⟩) N cw,.int .i64 (-1),.int .i64 0] 160)).1).1;have hg2:=(A6 (w.alloc (.cells #[.slice (some ⟨gw,0,none⟩) N cw,.int .i64 (-1),.int .i64 0] 160)) (.cells (IV .i64 raw) 78)).1;have HB2:=zA hB2;have hz1:(w.alloc (.cells #[.slice (some ⟨gw,0,none⟩) N cw,.int .i64 (-1),.int .i64 0] 160)).heap.size=w.heap.size+1:=World.size_alloc _ _;rw[hz1]at hg2;clear hB1 hB2 h;have hr:raw.length=18:=hA.r;have HA:=zA hA;clear hA;have HTL:Hid (Jp S raw=nz (nth raw 16)++if nth raw 17=0 then []else nth raw 17::(Al (S (nth raw 17).toNat)).flatMap nz):=zA rfl;have HTB:Hid (nth raw 17≠0->Fq S (nth raw 17)=Al (S (nth raw 17).toNat)):=zA (fun h=>if_neg h);obtain⟨res,hres⟩:∃ r,Jp S raw=r:=⟨_,rfl⟩;rw[hres]at HTL ⊢;clear hres;have hc16:(IV .i64 raw)[16]? =some (.int .i64 (nth raw 16)):=by rw[Bl,An (by omega)];rfl
 have hc17:(IV .i64 raw)[17]? =some (.int .i64 (nth raw 17)):=by rw[Bl,An (by omega)];rfl
 go_enter Tryz.func103,Tryz.ntmps103;go_upto_region 1 with fail;try rw[hz1]
 clear hz1;generalize (w.alloc (.cells #[.slice (some ⟨gw,0,none⟩) N cw,.int .i64 (-1),.int .i64 0] 160)).alloc (.cells (IV .i64 raw) 78)=w2 at*;have hl1:=Aa hg1;have hl2:=Aa hg2;generalize hgx:w.heap.size+1=gx at*;have HGX:=zA hgx;clear hgx;go_upto_if 12 with fail;go_cut [6]from 4 (fun v wx=>∃ o,Hid (Bg wx v o (nz (nth raw 16)))/\Hid (Fa w2.heap.size o)/\Hid (Below w2.heap.size w2 wx))
 case first=>
  by_cases h16:nth raw 16=0
  ·have d16:(nth raw 16 !=0)=false:=(by simpa using h16);have HN:Hid (Bg w2 (.slice none 0 0) none (nz (nth raw 16))):=zA (by unfold nz;rw[if_pos h16];exact .inl ⟨rfl,rfl,rfl⟩);clear h16;go_wp2_with fail;go_meet
   case rel=>exact⟨none,HN,zA (fun g hg=>by cases hg),zA (Below.refl _ _)⟩
  ·have d16:(nth raw 16 !=0)=true:=(by simpa using h16);obtain⟨v',w4,hrun,⟨o',hq,ho,-⟩,hb,-⟩:=Kc (w:=w2) (w0:=w2) (B:=w2.heap.size) (v:= .slice none 0 0) (o:=none) (xs:=[]) (.inl ⟨rfl,rfl,rfl⟩) (fun g hg=>by cases hg) (Below.refl _ _) (Nat.le_refl _) (by simp) (nth raw 16) 32;have HN:Hid (Bg w4 v' o' (nz (nth raw 16))):=zA (by unfold nz;rw[if_neg h16];exact hq);have HO:=zA ho;have HB:=zA hb;clear h16 hq ho hb;go_wp2_with (at_builtin;refine Ao _ rfl (.tmp 13) (.tmp 16) 32 rfl _ _ rfl rfl _ _ hrun ?_)
   go_wp2_with fail;go_meet
   case rel=>exact⟨o',HN,HO,HB⟩
 case rest=>
  obtain⟨o,HQ,HO,HB⟩:=hcut;obtain⟨a6,n6,c6,e6⟩:=HQ.out.sl;subst e6;have hg1c:=(hop HB.out hg1).1;have hg2c:=(hop HB.out hg2).1;have hg1cl:=Aa hg1c;have hg2cl:=Aa hg2c;have HEND:Hid (∀ v o W,Bg W v o res->Fa w2.heap.size o->Below w2.heap.size w2 W->∃ v' o',Ending.returned (.tuple #[v,.int .i64 0])= .returned (.tuple #[v',.int .i64 0])/\Bg W v' o' res/\Fa w.heap.size o'/\Below w.heap.size w W):=zA (fun v o W h1 h2 h3=>⟨v,o,rfl,h1,fun g hg=>by have:=h2 g hg;omega,HB2.out.trans (h3.mono (by omega))⟩);by_cases h17:nth raw 17=0
  ·have d17:(nth raw 17==0)=true:=(by simpa using h17);have HR:Hid (res=nz (nth raw 16)):=zA (by rw[HTL.out,if_pos h17,List.append_nil]);clear h17;go_wp2_with fail;go_ret2;exact HEND.out _ o _ (by rw[HR.out];exact HQ.out) HO.out HB.out
  ·have d17:(nth raw 17==0)=false:=(by simpa using h17);have HR:Hid (res=nz (nth raw 16)++(nth raw 17::(Fq S (nth raw 17)).flatMap nz)):=zA (by rw[HTL.out,if_neg h17,HTB.out h17]);obtain⟨v',w4,hrun,⟨o',hq,ho,-⟩,hb,-⟩:=Kc HQ.out HO.out HB.out (Nat.le_refl _) (by unfold nz;split<;>simp) (nth raw 17) 32;have HQ4:=zA hq;have HO4:=zA ho;have HB4:=zA hb;have hg14:=(hop hb hg1).1;have hg24:=(hop hb hg2).1;have hl14:=Aa hg14;have hl24:=Aa hg24;have HC:=zA (Gb (cw:=cw) (nth raw 17) HA.out.p17.1 HA.out.p17.2 w4 (HS2.out.same (A7 hb HS2.out.lt2)));have hql:=Ht S (nth raw 17);generalize Fq S (nth raw 17)=qs at*;clear h17 hq ho hb HQ HO;go_wp2_with (at_builtin;refine Ao _ rfl (.tmp 22) (.tmp 25) 32 rfl _ _ rfl rfl _ _ hrun ?_)
   go_wp2_with fail;refine HC.out.mono ?_;rintro e w8 ⟨rfl,hb8⟩;have hg9:=(A6 w8 (.cells (IV .i64 qs) 119)).1;have hB9:Below w4.heap.size w4 (w8.alloc (.cells (IV .i64 qs) 119)):=hb8.alloc hb8.size _;have HB9:=zA (Ad HB4.out hB9 HB4.out.size);have HQ9:=zA (HQ4.out.fr (Af hB9 []) (by simp));have HG9:Hid (w4.heap.size<=w8.heap.size):=zA hb8.size;clear hB9 hb8 HC;go_upto_region 8 with fail;generalize w8.alloc (.cells (IV .i64 qs) 119)=w9 at*;generalize w8.heap.size=gt at*;have hl9:=Aa hg9;have HOT:Hid (∀ q,o'=some q->q<gt):=zA (fun q hq=>by have:=HQ4.out.lt q hq;have:=HG9.out;omega);go_wp2_with fail;go_loopw [6,9] (fun v kv wr=>∃ (k:Nat) (o2:Option Nat),kv= .int .i64 k/\k<=32/\Hid (Bg wr v o2 (nz (nth raw 16)++(nth raw 17::(qs.take k).flatMap nz)))/\Hid (Fa w2.heap.size o2)/\Hid (Below w2.heap.size w2 wr)/\Hid (hat wr gt=some (.cells (IV .i64 qs) 119))/\Hid (∀ q,o2=some q->q≠gt)) (fun _ kv _=>32-(intOf kv).toNat)
   case atStart=>exact⟨0,o',rfl,by omega,by simpa using HQ9,HO4,HB9,zA hg9,zA (fun q hq=>by have:=HOT.out q hq;omega)⟩
   case round=>
    obtain⟨k,o2,rfl,hk,HQr,HOr,HBr,HT,HNr⟩:=hrel;have hT:=HT.out;have hTl:=Aa hT;have hk0:(0:Int)<=(k:Int):=Int.natCast_nonneg _;obtain⟨ar,nr,cr,er⟩:=HQr.out.sl;subst er;by_cases hk32:k<32
    ·have hk1:(k:Int)<32:=(by omega);have hck:(IV .i64 qs)[k]? =some (.int .i64 (nth qs k)):=(by rw[Bl,An (by omega)];rfl);have HSC:=zA (mG (ps:=qs) (k:=k) (by omega))
     have HLN:Hid ((nz (nth raw 16)++(nth raw 17::(qs.take k).flatMap nz)).length<=100000):=zA (by
      have:=eD (qs.take k);have:(nz (nth raw 16)).length<=1:=(by unfold nz;split<;>simp);have:(qs.take k).length<=32:=(by simp;omega);rw[List.length_append,List.length_cons];omega)
     by_cases hz:nth qs k=0
     ·have d1:(nth qs k !=0)=false:=(by simpa using hz)
      have HQN:Hid (Bg wr (.slice ar nr cr) o2 (nz (nth raw 16)++(nth raw 17::(qs.take (k+1)).flatMap nz))):=zA (by
       have e:nz (nth qs k)=[]:=if_pos hz;rw[HSC.out,e,List.append_nil];exact HQr.out)
      clear hz;go_wp2_with fail;go_roundw
      case rel=>exact⟨k+1,o2,by go_num,by omega,HQN,HOr,HBr,HT,HNr⟩
      case measure=>(show 32-(k+1)<32-k);omega
     ·have d1:(nth qs k !=0)=true:=(by simpa using hz);obtain⟨v',w5,hrun,⟨o',hq,ho,hon⟩,hb,hfr⟩:=Kc HQr.out HOr.out HBr.out (Nat.le_refl _) HLN.out (nth qs k) 32
      have HQN:Hid (Bg w5 v' o' (nz (nth raw 16)++(nth raw 17::(qs.take (k+1)).flatMap nz))):=zA (by
       rw[HSC.out];have e:nz (nth qs k)=[nth qs k]:=if_neg hz;rw[e];simpa using hq)
      have HON:=zA ho;have HBN:=zA hb;have HTN:Hid (hat w5 gt=some (.cells (IV .i64 qs) 119)):=zA ((hfr.block gt hTl (by simpa using fun e=>HNr.out gt e rfl)).trans hT);have HNN:Hid (∀ q,o'=some q->q≠gt):=zA (fun q hq=>by
       rcases hon with e|⟨g,e,hg⟩
       ·exact HNr.out q (e.symm.trans hq)
       ·rw[hq]at e;injection e with e
        omega)
      clear hz hq ho hb hfr hon;go_wp2_with (at_builtin;refine Ao _ rfl (.tmp 45) (.tmp 49) 32 rfl _ _ rfl rfl _ _ hrun ?_)
      go_roundw
      case rel=>exact⟨k+1,o',by go_num,by omega,HQN,HON,HBN,HTN,HNN⟩
      case measure=>(show 32-(k+1)<32-k);omega
    ·obtain rfl:k=32:=(by omega);have HF:=zA (HEND.out (.slice ar nr cr) o2 wr (by rw[HR.out];have:=HQr.out;rw[List.take_of_length_le (by omega)]at this;exact this) HOr.out HBr.out);go_wp2_with fail;go_ret2;exact HF.out
end
theorem Iy(n:Nat)(s:Int->Bool):C6 (n+1) s=C6 n s++if s (n:Int)=true then [(n:Int)]else []:=by
 unfold C6;rw[List.range_succ,List.filter_append,List.map_append];congr 1
 by_cases h:s (n:Int)=true
 ·rw[if_pos h];simp[h]
 ·rw[if_neg h];simp[h]
theorem Yy(n:Nat)(s:Int->Bool):(C6 n s).length<=n:=by
 unfold C6;simp only[List.length_map];exact Nat.le_trans (List.length_filter_le _ _) (by simp)
end Go.Proofs.YtmnecpnkkapflaaGreat
