import Derived.Maps.RangeWalk
import Derived.Deep.Cut
import Derived.Laws.EntriesVeiled
import Derived.Deep.RegionHeld3
import Derived.Test.YtmnecpnkkapflaaGreatM05
namespace Go.Proofs.YtmnecpnkkapflaaGreat
set_option maxHeartbeats 16000000
set_option maxRecDepth 1000000
set_option linter.unusedSimpArgs false
set_option linter.unusedVariables false
open Go.RowKit
@[go_sem] theorem uJ (t:TypeId) (w:World):(Instr.makeMap t none).run Tryz.prog w= .ok (.map (some w.heap.size)) (w.alloc (.map #[] 0)):=rfl
structure LK0 (E:Env) (w:World) (st:LS):Prop where
 look:hat w E.gl=some (.cells (Bz E.X E.Y E.img E.gw E.N E.cw E.bc E.bt E.bf E.qf) 95)
 want:B8 w E.gw E.N E.cw st.S
 claim:SB w E.bc st.cl
 firm:SB w E.bf st.fm
theorem LK0.fr{E:Env}{w w':World}{st:LS}{ex:List Nat}(h:LK0 E w st)(hf:Fr ex w w')(h1:E.gl∉ex)(h2:E.gw∉ex)(h3:E.bc∉ex)(h4:E.bf∉ex):LK0 E w' st:=by
 have hw:=h.want;obtain⟨cs,hw1,-⟩:=hw;exact⟨(hf.block _ (Aa h.look) h1).trans h.look,h.want.same (hf.block _ (Aa hw1) h2),h.claim.same (hf.block _ h.claim.lt h3),h.firm.same (hf.block _ h.firm.lt h4)⟩
structure sS (E:Env):Prop where
 small:E.X<=4096
 pos:0<=E.Y
 size:E.X=E.N
 n1:E.gl≠E.gw
 n2:E.gl≠E.bc
 n3:E.gl≠E.bf
 n4:E.gw≠E.bc
 n5:E.gw≠E.bf
 n6:E.bc≠E.bf
 m1:E.gl≠E.bt
 m2:E.gw≠E.bt
 m3:E.bc≠E.bt
 m4:E.bf≠E.bt
def Bq(E:Env)(bx:Nat):Env:={E with bx:=bx}
theorem fG{E:Env}(h:sS E){G bx:Nat}(hm:E.gl<G/\E.gw<G/\E.bc<G/\E.bf<G)(hb:G<=bx):EOk (Bq E bx):=by
 obtain⟨a1,a2,a3,a4⟩:=hm;exact⟨h.small,h.pos,h.size,h.n1,h.n2,h.n3,h.n4,h.n5,h.n6,by show E.gl≠bx;omega,by show E.gw≠bx;omega,by show E.bc≠bx;omega,by show E.bf≠bx;omega⟩
theorem kE{w:World}{b:Nat}(h:hat w b=some (.map #[] 0)):IB w b (fun _=>none):=by
 obtain⟨D,⟨es,clock,hb,h1⟩,h2⟩:=MI.made w;have hb2:hat (w.alloc (.map #[] 0)) w.heap.size=some (.map #[] 0):=(A6 w _).1;rw[show(w.alloc (.map #[] 0)).heap[w.heap.size]? =some (.map #[] 0)from hb2]at hb;have hb3:=Option.some.inj hb;injection hb3 with e1 e2
 subst e1;subst e2;exact MI.tight (n:=0) ⟨D,⟨#[],0,h,h1⟩,h2⟩ (fun p hp=>by cases hp)
def inC(raw:List Int)(en:Int)(bx:Nat):Array Value:=(raw.map (Value.int .i64)++[Value.int .i64 en,Value.map (some bx)]).toArray
theorem Fj{raw:List Int}(h:raw.length=18)(en:Int)(bx:Nat):(inC raw en bx).size=20:=by simp[inC,h]
theorem Ig{raw:List Int}(h:raw.length=18)(en:Int)(bx:Nat){j:Nat}(hj:j<18):(inC raw en bx)[j]? =some (.int .i64 (nth raw j)):=by
 obtain⟨x,hx⟩:=D8 (l:=raw) (k:=j) (by omega);unfold inC nth;rw[List.getElem?_toArray,List.getElem?_append_left (by simpa using by omega),List.getElem?_map,hx];simp
theorem qH{raw:List Int}(en:Int)(bx:Nat){j:Nat}{p:Int}(hj:raw[j]? =some p):(inC raw en bx)[j]? =some (.int .i64 p):=by
 unfold inC;have hl:j<raw.length:=(List.getElem?_eq_some_iff.1 hj).1;rw[List.getElem?_toArray,List.getElem?_append_left (by simpa using hl),List.getElem?_map,hj];rfl
theorem bB{raw:List Int}(h:raw.length=18)(en:Int)(bx:Nat):(inC raw en bx)[19]? =some (.map (some bx)):=by
 unfold inC;rw[List.getElem?_toArray,List.getElem?_append_right (by simp[h]),List.length_map,h];rfl
theorem Cd{α:Type}{l:List α}{n:Nat}(h:l.length=n+1):∃ a r,l=a::r/\r.length=n:=by
 cases l with
 |nil=>cases h
 |cons a r=>exact⟨a,r,rfl,by simpa using h⟩
theorem Ol{raw:List Int}(h:raw.length=18):∃ a0 a1 a2 a3 a4 a5 a6 a7 a8 a9 b0 b1 b2 b3 b4 b5 b6 b7,raw=[a0,a1,a2,a3,a4,a5,a6,a7,a8,a9,b0,b1,b2,b3,b4,b5,b6,b7]:=by
 obtain⟨a0,raw0,h0,h⟩:=Cd h;obtain⟨a1,raw1,h1,h⟩:=Cd h;obtain⟨a2,raw2,h2,h⟩:=Cd h;obtain⟨a3,raw3,h3,h⟩:=Cd h;obtain⟨a4,raw4,h4,h⟩:=Cd h;obtain⟨a5,raw5,h5,h⟩:=Cd h;obtain⟨a6,raw6,h6,h⟩:=Cd h;obtain⟨a7,raw7,h7,h⟩:=Cd h;obtain⟨a8,raw8,h8,h⟩:=Cd h;obtain⟨a9,raw9,h9,h⟩:=Cd h;obtain⟨b0,raw10,h10,h⟩:=Cd h;obtain⟨b1,raw11,h11,h⟩:=Cd h;obtain⟨b2,raw12,h12,h⟩:=Cd h;obtain⟨b3,raw13,h13,h⟩:=Cd h;obtain⟨b4,raw14,h14,h⟩:=Cd h;obtain⟨b5,raw15,h15,h⟩:=Cd h;obtain⟨b6,raw16,h16,h⟩:=Cd h;obtain⟨b7,raw17,h17,h⟩:=Cd h;have hn:=List.eq_nil_of_length_eq_zero h;exact⟨a0,a1,a2,a3,a4,a5,a6,a7,a8,a9,b0,b1,b2,b3,b4,b5,b6,b7,by rw[h0,h1,h2,h3,h4,h5,h6,h7,h8,h9,h10,h11,h12,h13,h14,h15,h16,h17,hn]⟩
theorem kH{raw:List Int}(h:raw.length=18)(bx:Nat):(Array.foldl (fun cs (x:Value×Nat)=>cs.setIfInBounds x.snd x.fst) #[Value.int .i64 0,Value.int .i64 0,Value.int .i64 0,Value.int .i64 0,Value.int .i64 0,Value.int .i64 0,Value.int .i64 0,Value.int .i64 0,Value.int .i64 0,Value.int .i64 0,Value.int .i64 0,Value.int .i64 0,Value.int .i64 0,Value.int .i64 0,Value.int .i64 0,Value.int .i64 0,Value.int .i64 0,Value.int .i64 0,Value.int .i64 0,Value.map none] (IV .i64 raw).zipIdx 0 18).setIfInBounds 19 (Value.map (some bx))=inC raw 0 bx:=by
 obtain⟨a0,a1,a2,a3,a4,a5,a6,a7,a8,a9,b0,b1,b2,b3,b4,b5,b6,b7,rfl⟩:=Ol h;simp[inC,IV,List.zipIdx,Array.setIfInBounds]
theorem aN{raw:List Int}(h:raw.length=18):(Array.foldl (fun cs (x:Value×Nat)=>cs.setIfInBounds x.snd x.fst) #[Value.int .i64 0,Value.int .i64 0,Value.int .i64 0,Value.int .i64 0,Value.int .i64 0,Value.int .i64 0,Value.int .i64 0,Value.int .i64 0,Value.int .i64 0,Value.int .i64 0,Value.int .i64 0,Value.int .i64 0,Value.int .i64 0,Value.int .i64 0,Value.int .i64 0,Value.int .i64 0,Value.int .i64 0,Value.int .i64 0,Value.int .i64 0,Value.map none] (IV .i64 raw).zipIdx 0 18).size=20:=by
 obtain⟨a0,a1,a2,a3,a4,a5,a6,a7,a8,a9,b0,b1,b2,b3,b4,b5,b6,b7,rfl⟩:=Ol h;simp[IV,List.zipIdx,Array.setIfInBounds]
theorem Za{w:World}{g:Nat}{re:Nat->Option Value}{l:List Int}(h:Gn w g 0 3 1 re l)(hl:l.length=1):∃ x,l=[x]/\hat w g=some (.cells #[.int .i64 x] 3):=by
 have h2:hat w g=some (.cells (IV .i64 l) 3):=Gn.all (by rw[hl];exact h);match l,h2,hl with
 |[x],h2,_=>exact⟨x,rfl,h2⟩
theorem Y9{raw:List Int}(h:raw.length=18){j:Nat}(h4:4<=j)(hj:j<18):nth raw j∈raw.drop 4:=by
 obtain⟨x,hx⟩:=D8 (l:=raw) (k:=j) (by omega);have:nth raw j=x:=by unfold nth;rw[hx];rfl
 rw[this];exact List.mem_of_getElem? (i:=j-4) (by rw[List.getElem?_drop,show 4+(j-4)=j by omega];exact hx)
theorem Zb{w:World}{g:Nat}{p:Int}(h:hat w g=some (.cells #[.int .i64 p] 3)):Gn w g 0 3 1 (fun _=>none) [p]:=
 ⟨_,h,rfl,by simp,fun j q hj=>(by
  cases j with
  |zero=>simp at hj;subst hj;rfl
  |succ j=>simp at hj),fun j hj=>Array.getElem?_eq_none (by simp at hj ⊢;omega)⟩
theorem Zm(E:Env)(T:Hz)(base:Int)(ps:List Int)(st:LS):(Oz E T base ps st).1.length=ps.length:=Ep _ _ _ _ _ _ _ _
theorem Fr.old{ex ex':List Nat}{w w':World}(h:Fr ex w w')(hs:∀ k∈ex,k∈ex'\/w.heap.size<=k):Fr ex' w w':=
 ⟨h.os,h.tape,h.output,h.size,fun b hb hn=>h.block b hb fun hm=>by
  rcases hs b hm with h1|h1
  ·exact hn h1
  ·omega⟩
theorem Pv{raw l:List Int}(h:raw.length=18){j:Nat}(hj:j<4):nth (raw.take 4++l) j=nth raw j:=by
 rw[H8 (by simp[h];omega)];unfold nth;rw[List.getElem?_take,if_pos hj]
theorem gP{cs:Array Value}{raw l:List Int}{bx:Nat}{sg db:Int}(hs:cs.size=20)(hr:raw.length=18)(hl:l.length=12)(h1:∀ j p,l[j]? =some p->cs[4+j]? =some (.int .i64 p))
  (h2:∀ j,j<4\/4+12<=j->cs[j]? =(inC raw 0 bx)[j]?):(cs.setIfInBounds 16 (.int .i64 sg)).setIfInBounds 17 (.int .i64 db)=inC (raw.take 4++(l++([sg]++[db]))) 0 bx:=by
 have hr2:(raw.take 4++(l++([sg]++[db]))).length=18:=by simp[hr,hl]
 have hz:(inC (raw.take 4++(l++([sg]++[db]))) 0 bx).size=20:=Fj hr2 0 bx;have hz1:=Fj hr 0 bx;apply Array.ext_getElem?
 intro j;rw[Array.getElem?_setIfInBounds,Array.getElem?_setIfInBounds];by_cases hj:j<18
 ·rw[Ig hr2 0 bx hj];by_cases h17:j=17
  ·subst h17;rw[if_pos rfl,if_pos (by simp[hs])];rw[Eo (by simp[hr]),Eo (by simp[hr,hl])];simp[hr,hl,nth]
  ·rw[if_neg (by omega)];by_cases h16:j=16
   ·subst h16;rw[if_pos rfl,if_pos (by simp[hs])];rw[Eo (by simp[hr]),Eo (by simp[hr,hl])];simp[hr,hl,nth]
   ·rw[if_neg (by omega)];by_cases h4:j<4
    ·rw[h2 j (.inl h4),Ig hr 0 bx hj,Pv hr h4]
    ·obtain⟨p,hp⟩:=D8 (l:=l) (k:=j-4) (by omega);have:=h1 _ _ hp;rw[show 4+(j-4)=j by omega]at this;rw[this,Eo (by simp[hr];omega),H8 (by simp[hr,hl];omega)];have e:j-(raw.take 4).length=j-4:=(by simp[hr]);rw[e];unfold nth;rw[hp];rfl
 ·rw[if_neg (by omega),if_neg (by omega),h2 j (.inr (by omega))];by_cases hj2:j<20
  ·have:j=18\/j=19:=(by omega);unfold inC;rw[List.getElem?_toArray,List.getElem?_toArray,List.getElem?_append_right (by simp[hr];omega),List.getElem?_append_right (by rw[List.length_map,hr2];omega),List.length_map,List.length_map,hr,hr2]
  ·rw[Array.getElem?_eq_none (by omega),Array.getElem?_eq_none (by omega)]
def Uy(gr:Nat):Value:= .func (.func 50) #[] #[.pointer (some ⟨gr,0,none⟩)]
structure QOk (E:Env) (gr:Nat) (ob:Option Nat):Prop where
 qf:E.qf=Uy gr
 v:gr∉[E.gl,E.gw,E.bc,E.bf,E.bt]
 b:∀ g,ob=some g->g∉[E.gl,E.gw,E.bc,E.bf,E.bt]
structure uU (E:Env) (gr i:Nat) (raw:List Int) (st:LS) (tk:Int->Option Nat) (ob:Option Nat) (xs:List Int) (w w':World) (gx bx:Nat) (ob':Option Nat):Prop where
 gx0:w.heap.size<=gx
 bx0:w.heap.size<=bx
 gbx:gx≠bx
 x:hat w' gx=some (.cells (inC (Aj E.X E.Y raw st).1 0 bx) 102)
 lk:LK (Bq E bx) w' (Aj E.X E.Y raw st).2
 tk:PB w' E.bt (Zf tk i gx)
 q:Mr w' gr ob' (if nth raw 0=2 then xs++[(i:Int)]else xs)
 o:ob'=ob\/∃ g,ob'=some g/\w.heap.size<=g/\g≠gx/\g≠bx
 fr:Fr ([E.bc,E.gw,E.bf,E.bt,gr]++ob.toList) w w'
theorem nZ{E:Env}(hE:sS E)(i:Nat)(raw:List Int)(st:LS)(tk:Int->Option Nat)(w:World)(gr:Nat)(ob:Option Nat)(xs:List Int)(hQ:QOk E gr ob)(hqv:Mr w gr ob xs)(hxn:xs.length<=100000)(h:LK0 E w st)(ht:PB w E.bt tk)(hr:raw.length=18)(hi:i<4096)(hz0:0<=nth raw 2)(hz1:nth raw 2<=136704)(hpt:∀ p∈raw.drop 4,0<=p/\p<=4294967295):
  Calls Tryz.prog 52 #[.pointer (some ⟨E.gl,0,none⟩),.int .i64 i,.agg (IV .i64 raw)] w fun e w'=>e= .returned (.tuple #[])/\∃ gx bx ob',uU E gr i raw st tk ob xs w w' gx bx ob':=by
 have hl:=h.look;unfold Bz at hl;have hlz:=Aa hl;have hbt:=ht.lt;have hbs:=aN hr;have hmine:E.gl<w.heap.size/\E.gw<w.heap.size/\E.bc<w.heap.size/\E.bf<w.heap.size:=by
  have hw:=h.want;obtain⟨cs,hw1,-⟩:=hw;exact⟨Aa h.look,Aa hw1,h.claim.lt,h.firm.lt⟩
 have HT:=zA ht;have H:=zA h;have HQV:=zA hqv;have hgrG:=hqv.lt;have hobG:=hqv.blt;have HQO:=zA hQ;clear ht h hqv hQ;go_enter Tryz.func52,Tryz.ntmps52;go_wp2_with fail;rw[kH hr]
 have hf0:Fr [] w (((((w.alloc (.cells #[.pointer (some ⟨E.gl,0,none⟩)] 89)).alloc (.cells (IV .i64 raw) 78)).alloc (.map #[] 0)).alloc (.cells (inC raw 0 (w.heap.size+1+1)) 102)).alloc (.cells #[.pointer (some ⟨w.heap.size+1+1+1,0,none⟩)] 103)):=
  Af (((((Below.refl w.heap.size w).alloc (Nat.le_refl _) _).alloc (by simp) _).alloc (by simp;omega) _).alloc (by simp;omega) _|>.alloc (by simp;omega) _) []
 have f_l:hat (((((w.alloc (.cells #[.pointer (some ⟨E.gl,0,none⟩)] 89)).alloc (.cells (IV .i64 raw) 78)).alloc (.map #[] 0)).alloc (.cells (inC raw 0 (w.heap.size+1+1)) 102)).alloc (.cells #[.pointer (some ⟨w.heap.size+1+1+1,0,none⟩)] 103)) w.heap.size=some (.cells #[.pointer (some ⟨E.gl,0,none⟩)] 89):=by simp[go_sem]
 have f_b:hat (((((w.alloc (.cells #[.pointer (some ⟨E.gl,0,none⟩)] 89)).alloc (.cells (IV .i64 raw) 78)).alloc (.map #[] 0)).alloc (.cells (inC raw 0 (w.heap.size+1+1)) 102)).alloc (.cells #[.pointer (some ⟨w.heap.size+1+1+1,0,none⟩)] 103)) (w.heap.size+1+1)=some (.map #[] 0):=by simp[go_sem]
 have f_x:hat (((((w.alloc (.cells #[.pointer (some ⟨E.gl,0,none⟩)] 89)).alloc (.cells (IV .i64 raw) 78)).alloc (.map #[] 0)).alloc (.cells (inC raw 0 (w.heap.size+1+1)) 102)).alloc (.cells #[.pointer (some ⟨w.heap.size+1+1+1,0,none⟩)] 103)) (w.heap.size+1+1+1)=some (.cells (inC raw 0 (w.heap.size+1+1)) 102):=by simp[go_sem]
 have f_v:hat (((((w.alloc (.cells #[.pointer (some ⟨E.gl,0,none⟩)] 89)).alloc (.cells (IV .i64 raw) 78)).alloc (.map #[] 0)).alloc (.cells (inC raw 0 (w.heap.size+1+1)) 102)).alloc (.cells #[.pointer (some ⟨w.heap.size+1+1+1,0,none⟩)] 103)) (w.heap.size+1+1+1+1)=some (.cells #[.pointer (some ⟨w.heap.size+1+1+1,0,none⟩)] 103):=by simp[go_sem]
 have hl0:=H.out.fr hf0 (by simp) (by simp) (by simp) (by simp);have ht0:=HT.out.same (hf0.block _ hbt (by simp));have h_l:=hl0.look;unfold Bz at h_l;generalize (((((w.alloc (.cells #[.pointer (some ⟨E.gl,0,none⟩)] 89)).alloc (.cells (IV .i64 raw) 78)).alloc (.map #[] 0)).alloc (.cells (inC raw 0 (w.heap.size+1+1)) 102)).alloc (.cells #[.pointer (some ⟨w.heap.size+1+1+1,0,none⟩)] 103))=w0 at*;generalize hG:w.heap.size=G at*;have HF0:=zA hf0;have HL0:=zA hl0;obtain⟨w1,hr1,hm1,ht1⟩:=(show PB w0.drew E.bt tk from ht0).put (p:=(i:Int)) (G+1+1+1) (by omega);have HM1:=zA hm1;have HT1:=zA ht1;have HT0:=zA ht0;clear hf0 hl0 hm1 ht1 ht0 hbs;go_region
 have hf1:Fr [E.bt] w0 w1:=(Bb (Fr.refl _ w0)).trans (Ge HT1.out);have hl1:=HL0.out.fr hf1 (by simpa using hE.m1) (by simpa using hE.m2) (by simpa using hE.m3) (by simpa using hE.m4);have g_l:=(hf1.block _ (Aa f_l) (by simp;omega)).trans f_l;have g_b:=(hf1.block _ (Aa f_b) (by simp;omega)).trans f_b;have g_x:=(hf1.block _ (Aa f_x) (by simp;omega)).trans f_x;have g_v:=(hf1.block _ (Aa f_v) (by simp;omega)).trans f_v;have HF1:=zA (((HF0.out.mono (ex':=[E.bt]) (by simp)).trans hf1));have HL1:=zA hl1;clear f_l f_b f_x f_v hf1 hl1 h_l hl hlz HF0 HL0 HT0 H HT HT1 hr1;go_wp2_with fail;refine(U7 _ _ (nth raw 2) _ g_x (Ig hr 0 _ (by omega)) hz0 hz1).mono ?_;rintro e w2 ⟨rfl,hb2⟩;have hn0:0<=(nth raw 2+127)/128:=by omega
 have hn1:(nth raw 2+127)/128<=1068:=by omega
 generalize hnn:(nth raw 2+127)/128=n at*;have HN:=zA hnn;clear hnn;have HB2:=zA hb2;have hz2:=hb2.size;have hzv:=Aa g_v;have hEB:=fG hE hmine (bx:=G+1+1) (by omega);have HEB:=zA hEB;clear hEB;clear hb2;go_wp2_with fail;have hf3:Fr [] w1 (((w2.alloc (.cells #[.int .i64 n] 3)).alloc (.cells #[.func (.func 75) #[] #[.pointer (some ⟨G,0,none⟩),.pointer (some ⟨w2.heap.size,0,none⟩),.pointer (some ⟨G+1+1+1+1,0,none⟩)]] 132)).alloc (.cells #[.func (.func 78) #[] #[.pointer (some ⟨G,0,none⟩),.pointer (some ⟨w2.heap.size+1,0,none⟩)]] 131)):=Af (((HB2.out.alloc HB2.out.size _).alloc (by simp;omega) _).alloc (by simp;omega) _) [];have e_n:hat (((w2.alloc (.cells #[.int .i64 n] 3)).alloc (.cells #[.func (.func 75) #[] #[.pointer (some ⟨G,0,none⟩),.pointer (some ⟨w2.heap.size,0,none⟩),.pointer (some ⟨G+1+1+1+1,0,none⟩)]] 132)).alloc (.cells #[.func (.func 78) #[] #[.pointer (some ⟨G,0,none⟩),.pointer (some ⟨w2.heap.size+1,0,none⟩)]] 131)) w2.heap.size=some (.cells #[.int .i64 n] 3):=by simp[go_sem]
 have e_r:hat (((w2.alloc (.cells #[.int .i64 n] 3)).alloc (.cells #[.func (.func 75) #[] #[.pointer (some ⟨G,0,none⟩),.pointer (some ⟨w2.heap.size,0,none⟩),.pointer (some ⟨G+1+1+1+1,0,none⟩)]] 132)).alloc (.cells #[.func (.func 78) #[] #[.pointer (some ⟨G,0,none⟩),.pointer (some ⟨w2.heap.size+1,0,none⟩)]] 131)) (w2.heap.size+1)=some (.cells #[.func (.func 75) #[] #[.pointer (some ⟨G,0,none⟩),.pointer (some ⟨w2.heap.size,0,none⟩),.pointer (some ⟨G+1+1+1+1,0,none⟩)]] 132):=by simp[go_sem]
 have e_b:hat (((w2.alloc (.cells #[.int .i64 n] 3)).alloc (.cells #[.func (.func 75) #[] #[.pointer (some ⟨G,0,none⟩),.pointer (some ⟨w2.heap.size,0,none⟩),.pointer (some ⟨G+1+1+1+1,0,none⟩)]] 132)).alloc (.cells #[.func (.func 78) #[] #[.pointer (some ⟨G,0,none⟩),.pointer (some ⟨w2.heap.size+1,0,none⟩)]] 131)) (w2.heap.size+1+1)=some (.cells #[.func (.func 78) #[] #[.pointer (some ⟨G,0,none⟩),.pointer (some ⟨w2.heap.size+1,0,none⟩)]] 131):=by simp[go_sem]
 have k_l:=(hf3.block _ (Aa g_l) (by simp)).trans g_l;have k_x:=(hf3.block _ (Aa g_x) (by simp)).trans g_x;have k_v:=(hf3.block _ (Aa g_v) (by simp)).trans g_v;have k_b:=(hf3.block _ (Aa g_b) (by simp)).trans g_b;have hl3:=HL1.out.fr hf3 (by simp) (by simp) (by simp) (by simp);have hm3:=HM1.out.same (hf3.block _ HM1.out.lt (by simp));have HF3:=zA (HF1.out.trans (hf3.mono (ex':=[E.bt]) (by simp)));generalize (((w2.alloc (.cells #[.int .i64 n] 3)).alloc (.cells #[.func (.func 75) #[] #[.pointer (some ⟨G,0,none⟩),.pointer (some ⟨w2.heap.size,0,none⟩),.pointer (some ⟨G+1+1+1+1,0,none⟩)]] 132)).alloc (.cells #[.func (.func 78) #[] #[.pointer (some ⟨G,0,none⟩),.pointer (some ⟨w2.heap.size+1,0,none⟩)]] 131))=w3 at*;generalize hW2:w2.heap.size=W2 at*;have hlk:LK (Bq E (G+1+1)) w3 {st with bk:=fun _=>none}:=⟨hl3.look,hl3.want,hl3.claim,hl3.firm,kE k_b⟩;have htv:TV (Bq E (G+1+1)) ⟨G,W2,G+1+1+1+1,G+1+1+1,n⟩ w3:=⟨k_l,e_n,k_v,_,k_x,Fj hr _ _,bB hr _ _⟩;have htc:TC (Bq E (G+1+1)) ⟨G,W2,G+1+1+1+1,G+1+1+1,n⟩ (W2+1) (W2+1+1) w3:=⟨htv,e_r,e_b⟩;have hok:COk (Bq E (G+1+1)) ⟨G,W2,G+1+1+1+1,G+1+1+1,n⟩ (W2+1) (W2+1+1):=by
  obtain⟨a1,a2,a3,a4⟩:=hmine;refine⟨⟨?_,?_,?_,?_,hn0,hn1⟩,?_⟩
  ·simp[En,Bq];omega
  ·simp[En,Bq];omega
  ·simp[En,Bq];omega
  ·simp[En,Bq];omega
  ·intro k hk;simp[En,Bq]at hk;simp[Ef];omega
 have HLK:=zA hlk;have HTC:=zA htc;have HOK:=zA hok;have HTV:=zA htv;clear hl3 hlk htv htc hok k_b k_l e_b g_l g_b g_x g_v hf3 HL1 HF1 HB2
 have hnums:Gn w3 (G+1+1+1) 4 102 20 (fun j=>(inC raw 0 (G+1+1))[j]?) ((raw.drop 4).take 12):=⟨_,k_x,Fj hr _ _,(by rw[Fj hr];simp[hr]),fun j p hj=>(by
  rw[List.getElem?_take]at hj;split at hj
  ·rw[List.getElem?_drop]at hj;exact qH _ _ hj
  ·cases hj),fun j hj=>rfl⟩
 have hdl:((raw.drop 4).take 12).length=12:=by simp[hr]
 have hrow:=eJ HEB.out HOK.out.t (G+1+1+1) 4 12 20 102 (fun j=>(inC raw 0 (G+1+1))[j]?) ((raw.drop 4).take 12) 0 _ w3.drew (HLK.out.fr (Bb (Fr.refl [] w3)) (by simp) (by simp) (by simp) (by simp) (by simp)) (HTV.out.fr (Bb (Fr.refl [] w3)) (by simp) (by simp) (by simp) (by simp)) (hnums.same rfl) (by omega) (by omega) (by omega) (by omega) (fun p hp=>hpt p (List.mem_of_mem_take hp)) HOK.out.t.g (by show G+1+1+1≠G;omega) (by show G+1+1+1≠W2;omega) (by show G+1+1+1≠G+1+1+1+1;omega) (fun _=>by omega);rw[hdl]at hrow;have HROW:=zA hrow;have hzr:=Aa e_r;clear hrow hnums k_x e_n
 go_region_held3 (fun w'=>hat w' (W2+1)=some (.cells #[.func (.func 75) #[] #[.pointer (some ⟨G,0,none⟩),.pointer (some ⟨W2,0,none⟩),.pointer (some ⟨G+1+1+1+1,0,none⟩)]] 132)/\hat w' (G+1+1+1+1)=some (.cells #[.pointer (some ⟨G+1+1+1,0,none⟩)] 103)) (refine⟨?_,?_⟩<;>assumption)
  (first|(refine HROW.out.mono ?_;rintro e w4 ⟨rfl,q1,q2,q3,q4⟩;have r4:hat w4 (W2+1)=some (.cells #[.func (.func 75) #[] #[.pointer (some ⟨G,0,none⟩),.pointer (some ⟨W2,0,none⟩),.pointer (some ⟨G+1+1+1+1,0,none⟩)]] 132):=(q4.block _ hzr (by simp[Bq];omega)).trans e_r;have x4:hat w4 (G+1+1+1+1)=some (.cells #[.pointer (some ⟨G+1+1+1,0,none⟩)] 103):=q2.x))
 obtain⟨csx,hx4,hxs,-,hxn,hxr⟩:=q3;rw[Zm,hdl]at hxr;have hx16:csx[16]? =some (.int .i64 (nth raw 16)):=(hxr 16 (by omega)).trans (Ig hr 0 _ (by omega));have hx17:csx[17]? =some (.int .i64 (nth raw 17)):=(hxr 17 (by omega)).trans (Ig hr 0 _ (by omega));have y16:∀ h:16<csx.size,csx[16]'h=Value.int .i64 (nth raw 16):=fun h=>by
  rw[Array.getElem?_eq_getElem h]at hx16;exact Option.some.inj hx16
 have y17:∀ h:17<csx.size,csx[17]'h=Value.int .i64 (nth raw 17):=fun h=>by
  rw[Array.getElem?_eq_getElem h]at hx17;exact Option.some.inj hx17
 have zx4:=Aa x4;have zg4:=Aa hx4;have zr4:=Aa r4;have HXN:=zA hxn;have HXR:=zA hxr;have HQ1:=zA q1;have HQ2:=zA q2;have HQ4:=zA q4;clear hxn hxr hx16 hx17 q1 q2 q4 HROW;have htc4:TC (Bq E (G+1+1)) ⟨G,W2,G+1+1+1+1,G+1+1+1,n⟩ (W2+1) (W2+1+1) w4:=⟨HQ2.out,r4,(HQ4.out.block _ (Aa HTC.out.b) (by simp[Bq];omega)).trans HTC.out.b⟩;have HTC4:=zA htc4;clear htc4;go_upto_region 7 with fail;go_cut [10,11]from 16 (fun a b wx=>∃ B1 B2:Nat,a= .slice (some ⟨B1,0,none⟩) 1 1/\b= .slice (some ⟨B2,0,none⟩) 1 1/\Hid (B1≠B2/\w4.heap.size<=B1/\w4.heap.size<=B2/\Fr [] w4 wx/\hat wx B1=some (.cells #[.int .i64 (nth raw 16)] 3)/\hat wx B2=some (.cells #[.int .i64 (nth raw 17)] 3)))
 case first=>
  go_region
  ·go_wp2_with fail;go_meet
   case rel=>exact⟨w4.heap.size,w4.heap.size+1,rfl,rfl,zA ⟨by omega,Nat.le_refl _,by omega,Bb (Af (((Below.refl w4.heap.size w4).alloc (Nat.le_refl _) _).alloc (by simp) _) []),by simp[go_sem],by simp[go_sem]⟩⟩
  ·go_wp2_with fail;go_meet
   case rel=>exact⟨w4.heap.size+1,w4.heap.size,rfl,rfl,zA ⟨by omega,by omega,Nat.le_refl _,Bb (Af (((Below.refl w4.heap.size w4).alloc (Nat.le_refl _) _).alloc (by simp) _) []),by simp[go_sem],by simp[go_sem]⟩⟩
 case rest=>
  obtain⟨B1,B2,rfl,rfl,HCUT⟩:=hcut;obtain⟨hBB,hA1,hA2,hf5,e1,e2⟩:=HCUT.out;have hlk5:=HQ1.out.fr hf5 (by simp) (by simp) (by simp) (by simp) (by simp);have htc5:=HTC4.out.fr hf5 (by simp);have hx5:=(hf5.block _ zg4 (by simp)).trans hx4;have hlt4:∀ k∈Ef ⟨G,W2,G+1+1+1+1,G+1+1+1,n⟩ (W2+1) (W2+1+1),k<B1:=fun k hk=>Nat.lt_of_lt_of_le (HTC4.out.lt k hk) hA1
  have hlt5:∀ k∈Ef ⟨G,W2,G+1+1+1+1,G+1+1+1,n⟩ (W2+1) (W2+1+1),k<B2:=fun k hk=>Nat.lt_of_lt_of_le (HTC4.out.lt k hk) hA2
  have zx5:G+1+1+1+1<B1:=Nat.lt_of_lt_of_le zx4 hA1;have zx6:G+1+1+1+1<B2:=Nat.lt_of_lt_of_le zx4 hA2;have zr5:W2+1<B1:=Nat.lt_of_lt_of_le zr4 hA1;have zr6:W2+1<B2:=Nat.lt_of_lt_of_le zr4 hA2;clear HCUT;generalize wc=w5 at*;have hl5:=htc5.v.l;have hn5:=htc5.v.n;go_wp2_with fail;have hga:B1∉En (Bq E (G+1+1)):=(by(obtain⟨a1,a2,a3,a4⟩:=hmine;simp[En,Bq];omega));have hgb:B2∉En (Bq E (G+1+1)):=(by(obtain⟨a1,a2,a3,a4⟩:=hmine;simp[En,Bq];omega));have hta:B1∉Ef ⟨G,W2,G+1+1+1+1,G+1+1+1,n⟩ (W2+1) (W2+1+1):=fun hm=>by have:=hlt4 _ hm;omega
  have htb:B2∉Ef ⟨G,W2,G+1+1+1+1,G+1+1+1,n⟩ (W2+1) (W2+1+1):=fun hm=>by have:=hlt5 _ hm;omega
  have z2:=Aa e2;refine(V0 HEB.out HOK.out (dU (Bq E (G+1+1)) ⟨G,W2,G+1+1+1+1,G+1+1+1,n⟩) 12 1 81 #[.pointer (some ⟨W2+1+1,0,none⟩)] B1 1 1 3 (fun _=>none) [nth raw 16] _ w5 (fun args w=>by go_simp) (fun k p st w _ h1 h2 h3=>gX HEB.out HOK.out k p st w h1 h2 h3) hlk5 htc5 (Zb e1) (by simp) (by simp) (by omega) (by omega) (by omega) (by omega) (fun p hp=>by(rw[List.mem_singleton]at hp;rw[hp];exact hpt _ (Y9 hr (by omega) (by omega)))) (by assumption) (by assumption)).mono ?_;rintro e w6 ⟨rfl,s1,s2,s3,s4⟩;have f2:=(s4.block _ z2 (by(obtain⟨a1,a2,a3,a4⟩:=hmine;simp[Bq];omega))).trans e2;have hl6:=s2.v.l;have hn6:=s2.v.n;have S1:=zA s1;have S2:=zA s2;have S3:=zA s3;have S4:=zA s4;clear s1 s2 s3 s4 hlk5 htc5 hl5 hn5 e1 e2;go_wp2_with fail;refine(V0 HEB.out HOK.out (dV (Bq E (G+1+1)) ⟨G,W2,G+1+1+1+1,G+1+1+1,n⟩) 44 1 82 #[.pointer (some ⟨G,0,none⟩),.pointer (some ⟨W2,0,none⟩),.pointer (some ⟨W2+1+1,0,none⟩)] B2 1 1 3 (fun _=>none) [nth raw 17] _ w6 (fun args w=>by go_simp) (fun k p st w _ h1 h2 h3=>gY HEB.out HOK.out k p st w h1 h2 h3) S1.out S2.out (Zb f2) (by simp) (by simp) (by omega) (by omega) (by omega) (by omega) (fun p hp=>by(rw[List.mem_singleton]at hp;rw[hp];exact hpt _ (Y9 hr (by omega) (by omega)))) (by assumption) (by assumption)).mono ?_;rintro e w7 ⟨rfl,t1,t2,t3,t4⟩;have T1:=zA t1;have T2:=zA t2;have T3:=zA t3;have T4:=zA t4;clear t1 t2 t3 t4;obtain⟨sg,hsg,v1⟩:=Za S3.out (Ep _ _ _ _ _ _ _ _);have v1:=(T4.out.block _ (Aa v1) (by(obtain⟨a1,a2,a3,a4⟩:=hmine;simp[Bq];omega))).trans v1;obtain⟨db,hdb,v2⟩:=Za T3.out (Ep _ _ _ _ _ _ _ _);have hx7:hat w7 (G+1+1+1)=some (.cells csx 102):=by
   have h6:=(S4.out.block _ (Aa hx5) (by(obtain⟨a1,a2,a3,a4⟩:=hmine;simp[Bq];omega))).trans hx5;exact(T4.out.block _ (Aa h6) (by(obtain⟨a1,a2,a3,a4⟩:=hmine;simp[Bq];omega))).trans h6
  have hv7:=T2.out.v.x;have hl7:=T2.out.v.l;have zx7:=Aa hx7;have zv7:=Aa hv7;have zu1:=Aa v1;have zu2:=Aa v2;have HSG:=zA hsg;have HDB:=zA hdb;clear hsg hdb;go_upto_region 10 with fail;go_cut []from 16 (fun wx=>wx=((w7.setCell ⟨G+1+1+1,16,none⟩ (.int .i64 sg)).setCell ⟨G+1+1+1,17,none⟩ (.int .i64 db)).drew)
  case first=>
   go_region
   go_wp2_with fail;go_meet
   case rel=>rfl
  case rest=>
  subst hcut;have c8:hat ((w7.setCell ⟨G+1+1+1,16,none⟩ (.int .i64 sg)).setCell ⟨G+1+1+1,17,none⟩ (.int .i64 db)) (G+1+1+1)=some (.cells ((csx.setIfInBounds 16 (.int .i64 sg)).setIfInBounds 17 (.int .i64 db)) 102):=Ah _ _ _ _ _ _ _ (Ah _ _ _ _ _ _ _ hx7);have f8:Fr [G+1+1+1] w7 ((w7.setCell ⟨G+1+1+1,16,none⟩ (.int .i64 sg)).setCell ⟨G+1+1+1,17,none⟩ (.int .i64 db)).drew:=Bb ((Ai _ _ _ _).trans (Ai _ _ _ _));have c8d:hat ((w7.setCell ⟨G+1+1+1,16,none⟩ (.int .i64 sg)).setCell ⟨G+1+1+1,17,none⟩ (.int .i64 db)).drew (G+1+1+1)=_:=c8;have hlen1:(Oz (Bq E (G+1+1)) ⟨G,W2,G+1+1+1+1,G+1+1+1,n⟩ 0 ((raw.drop 4).take 12) {st with bk:=fun _=>none}).1.length=12:=(by rw[Zm];exact hdl);rw[gP hxs hr hlen1 HXN.out HXR.out]at c8d;have hraw:(Az E.X E.Y n raw {st with bk:=fun _=>none}).1=raw.take 4++((Oz (Bq E (G+1+1)) ⟨G,W2,G+1+1+1+1,G+1+1+1,n⟩ 0 ((raw.drop 4).take 12) {st with bk:=fun _=>none}).1++([sg]++[db])):=by
   rw[<-HSG.out, <-HDB.out];rfl
  rw[<-hraw]at c8d;have hst:LK (Bq E (G+1+1)) w7 (Az E.X E.Y n raw {st with bk:=fun _=>none}).2:=T1.out;have hrl:(Az E.X E.Y n raw {st with bk:=fun _=>none}).1.length=18:=(by rw[hraw];simp[hr,hlen1]);have hr0:nth (Az E.X E.Y n raw {st with bk:=fun _=>none}).1 0=nth raw 0:=(by rw[hraw];exact Pv hr (by omega));have hr2:nth (Az E.X E.Y n raw {st with bk:=fun _=>none}).1 2=nth raw 2:=(by rw[hraw];exact Pv hr (by omega));have hvals:F9 E.X E.Y (Az E.X E.Y n raw {st with bk:=fun _=>none}).2:=Tc _ _ _ _ _ (fun k p hk=>by cases hk);have hkeys:E9 n (Az E.X E.Y n raw {st with bk:=fun _=>none}).2:=Ny _ _ _ _ _ (fun k hk=>by cases hk);have hgx:=HEB.out;have hne8:G+1+1+1∉En (Bq E (G+1+1)):=HOK.out.t.g;have hlk8:=hst.fr f8 (by(intro hm;exact hne8 (by simp[En]at hm ⊢;simp[hm]))) (by(intro hm;exact hne8 (by simp[En]at hm ⊢;simp[hm]))) (by(intro hm;exact hne8 (by simp[En]at hm ⊢;simp[hm]))) (by(intro hm;exact hne8 (by simp[En]at hm ⊢;simp[hm]))) (by(intro hm;exact hne8 (by simp[En]at hm ⊢;simp[hm])));have hfw4:Fr [E.bc,G+1+1,G+1+1+1] w3 w4:=(Bb (Fr.refl _ w3)).trans HQ4.out
  have hfa:Fr [E.bc,G+1+1,G+1+1+1,B1,B2,E.gw,E.bf] w3 ((w7.setCell ⟨G+1+1+1,16,none⟩ (.int .i64 sg)).setCell ⟨G+1+1+1,17,none⟩ (.int .i64 db)).drew:=
   ((((hfw4.mono (by simp+contextual)).trans (hf5.mono (by simp))).trans (S4.out.mono (by simp+contextual [Bq]))).trans (T4.out.mono (by simp+contextual [Bq]))).trans (f8.mono (by simp))
  have hpb8:=hm3.same (hfa.block _ hm3.lt (by(have b1:=hE.m2;have b2:=hE.m3;have b3:=hE.m4;simp;omega)));have hfb:Fr [E.bc,E.gw,E.bf,E.bt] w ((w7.setCell ⟨G+1+1+1,16,none⟩ (.int .i64 sg)).setCell ⟨G+1+1+1,17,none⟩ (.int .i64 db)).drew:=((HF3.out.mono (ex':=[E.bc,G+1+1,G+1+1+1,B1,B2,E.gw,E.bf,E.bt]) (by simp)).trans (hfa.mono (by simp+contextual))).old (by(simp;omega));have hqo:=HQO.out;have hq8:=HQV.out.fr hfb (by(have:=hqo.v;simp at this ⊢;omega)) (fun g hg=>by(have:=hqo.b g hg;simp at this ⊢;omega));have hv8:=(f8.block _ zv7 (by simp)).trans hv7;have hl8:=(f8.block _ (Aa hl7) (by simp;omega)).trans hl7;have hn8:=(f8.block _ (Aa T2.out.v.n) (by simp;omega)).trans T2.out.v.n;generalize ((w7.setCell ⟨G+1+1+1,16,none⟩ (.int .i64 sg)).setCell ⟨G+1+1+1,17,none⟩ (.int .i64 db)).drew=w8 at*;have HTKX:=zA (show Aj E.X E.Y raw st=if nth raw 0=2 then((Az E.X E.Y n raw {st with bk:=fun _=>none}).1,Eg n (Az E.X E.Y n raw {st with bk:=fun _=>none}).2)else((Az E.X E.Y n raw {st with bk:=fun _=>none}).1,Bt n (nth raw 2) (Az E.X E.Y n raw {st with bk:=fun _=>none}).2) by unfold Aj Aq;rw[HN.out]);have HRL:=zA hrl;have HR0:=zA hr0;have HR2:=zA hr2;have HKEYS:=zA hkeys;have HVALS:=zA hvals;have HLK8:=zA hlk8;have HPB8:=zA hpb8;have HFB:=zA hfb;have HQ8:=zA hq8;clear hrl hr0 hr2 hkeys hvals hlk8 hpb8 hfb hq8 hst hraw c8 hfa hfw4 hgx hqo f8 v1 v2 HSG HDB T1 T2 T3 T4 S1 S2 S3 S4;generalize hR:Az E.X E.Y n raw {st with bk:=fun _=>none}=R at*;clear hR;obtain⟨raw2,st2⟩:=R;simp only at c8d;clear HQ1 HQ2 HQ4 HTC HTC4 HLK HTV HXN HXR r4 x4 hx4 y16 y17 e_r k_v hf5 hx5 HF3 hm3 HM1;have k0:(inC raw2 0 (G+1+1))[0]? =some (.int .i64 (nth raw 0)):=(by rw[Ig HRL.out 0 _ (by omega),HR0.out]);have k2:(inC raw2 0 (G+1+1))[2]? =some (.int .i64 (nth raw 2)):=(by rw[Ig HRL.out 0 _ (by omega),HR2.out]);have k19:(inC raw2 0 (G+1+1))[19]? =some (.map (some (G+1+1))):=bB HRL.out 0 _;have HC8:=zA c8d;generalize hc8:inC raw2 0 (G+1+1)=c8 at c8d k0 k2 k19;clear hc8;have j0:∀ h:0<c8.size,c8[0]'h=Value.int .i64 (nth raw 0):=fun h=>by
   rw[Array.getElem?_eq_getElem h]at k0;exact Option.some.inj k0
  have j2:∀ h:2<c8.size,c8[2]'h=Value.int .i64 (nth raw 2):=fun h=>by
   rw[Array.getElem?_eq_getElem h]at k2;exact Option.some.inj k2
  have j19:∀ h:19<c8.size,c8[19]'h=Value.map (some (G+1+1)):=fun h=>by
   rw[Array.getElem?_eq_getElem h]at k19;exact Option.some.inj k19
  have z0:0<c8.size:=(Array.getElem?_eq_some_iff.1 k0).1;have z2:2<c8.size:=(Array.getElem?_eq_some_iff.1 k2).1;have z19:19<c8.size:=(Array.getElem?_eq_some_iff.1 k19).1;clear k0 k2 k19;cases hkd:(nth raw 0==2)
  ·have hk2:¬ nth raw 0=2:=(by simpa using hkd);have hlk1:=(show IB w8.drew (G+1+1) st2.bk from HLK8.out.blocks).1.look (p:=n-1) ⟨by omega,by omega⟩;have hlk2:=HLK8.out.blocks.1.look (p:=n-1) ⟨by omega,by omega⟩;have HTKY:=HTKX.out;rw[if_neg hk2]at HTKY;have hfin:∀ wz stz,Aj E.X E.Y raw st=(raw2,stz)->Fr [E.gw] w8 wz->LK (Bq E (G+1+1)) wz stz->∃ gx bx ob',uU E gr i raw st tk ob xs w wz gx bx ob':=by
    intro wz stz hz hf hl;have hm:=hE.m2;have hv:=HQO.out.v;have hb:=HQO.out.b;refine⟨G+1+1+1,G+1+1,ob,by omega,by omega,by omega,?_,?_,?_,?_,.inl rfl,?_⟩
    ·rw[hz];exact(hf.block _ (Aa HC8.out) (by(have:=hmine;simp;omega))).trans HC8.out
    ·rw[hz];exact hl
    ·exact HPB8.out.same (hf.block _ HPB8.out.lt (by simp;omega))
    ·rw[if_neg hk2];exact HQ8.out.fr hf (by simp at hv ⊢;omega) (fun g hg=>by(have:=hb g hg;simp at this ⊢;omega))
    ·refine(HFB.out.mono ?_).trans (hf.mono ?_)
     ·intro k hk;simp at hk ⊢;omega
     ·intro k hk;simp at hk ⊢;omega
   have HFIN:=zA hfin;clear hfin;cases hb:st2.bk (n-1)with
   |none=>
    rw[show(raw2,st2).2.bk (n-1)=none from hb]at hlk1 hlk2;have HTY:Hid (Aj E.X E.Y raw st=(raw2,st2)):=zA (by rw[HTKY];show(raw2,Bt n (nth raw 2) st2)=_;unfold Bt;rw[hb]);clear HTKY;go_wp2_with fail;go_region
    go_wp2_with fail;refine bodyPost_end (results_none rfl _ _ _) rfl ?_;exact⟨rfl,HFIN.out _ _ HTY.out (Bb (Fr.refl _ _)) (HLK8.out.fr (Bb (Fr.refl [] _)) (by simp) (by simp) (by simp) (by simp) (by simp))⟩
   |some p=>
    rw[show(raw2,st2).2.bk (n-1)=some p from hb]at hlk1 hlk2;have hpd:=J2 HEB.out (HVALS.out _ p hb);obtain⟨at',rfl⟩:=Int.eq_ofNat_of_zero_le hpd.1;by_cases hzr:nth raw 2%128=0
    ·have HTY:Hid (Aj E.X E.Y raw st=(raw2,st2)):=zA (by rw[HTKY];show(raw2,Bt n (nth raw 2) st2)=_;unfold Bt;rw[hb];simp only[hzr,if_true]);clear HTKY;go_wp2_with fail;go_region
     go_wp2_with fail;refine bodyPost_end (results_none rfl _ _ _) rfl ?_;exact⟨rfl,HFIN.out _ _ HTY.out (Bb (Fr.refl _ _)) (HLK8.out.fr (Bb (Fr.refl [] _)) (by simp) (by simp) (by simp) (by simp) (by simp))⟩
    ·have HTY:Hid (Aj E.X E.Y raw st=(raw2,{st2 with S:=Ay st2.S at' (C8 (st2.S at') (nth raw 2%128).toNat)})):=zA (by rw[HTKY];show(raw2,Bt n (nth raw 2) st2)=_;unfold Bt;rw[hb];simp only[hzr,if_false];rfl);clear HTKY;go_wp2_with fail;go_region
     go_upto_region 19 with fail;have hNs:E.N<=4096:=(by(have h1:=hE.small;have h2:=hE.size;omega));have hatN:at'<E.N:=(by(have h3:(at':Int)<E.N:=hpd.2.2;omega));obtain⟨csw,hcsw,hldw,hlenw,hbyw⟩:=HLK8.out.want.load hatN;obtain⟨csw',hcsw',hsw,-⟩:=HLK8.out.want;rw[hcsw]at hcsw';obtain rfl:csw=csw':=(by(have h1:=Option.some.inj hcsw';injection h1));have hwl:(C8 (st2.S at') (nth raw 2%128).toNat).length=128:=O5 hlenw (by omega)
     have hst:∀ raw' w',Dd raw' 128 (at'*128) (Bq E (G+1+1)).gw (IV .u8 (C8 (st2.S at') (nth raw 2%128).toNat)) w' (some (.cells csw 47 (0,0)))= .ok () (w'.setRow E.gw (Ap csw (at'*128) (IV .u8 (C8 (st2.S at') (nth raw 2%128).toNat)))):=fun raw' w'=>
      Cj (by(have h1:E.N*128<=csw.size:=hsw.1);omega) (by simp[hwl]) (by simp)
     have hlkx:=HLK8.out.look;unfold Bz at hlkx;have HBYW:=zA hbyw;have HLENW:=zA hlenw;have hzm:((nth raw 2%128).toNat:Int)=nth raw 2%128:=(by omega);have hzm2:(nth raw 2%128).toNat<128:=(by omega);generalize hzk:(nth raw 2%128).toNat=zk at*;have hat0:(0:Int)<=(at':Int):=Int.natCast_nonneg _;have hat1:(at':Int)<(E.N:Int):=(by omega);have e_n1:E.gl≠E.gw:=hE.n1;clear hlk1 hlk2 hpd hcsw';have HTM:(nth raw 2).tmod 128=(zk:Int):=(by(rw[Int.tmod_eq_emod_of_nonneg hz0];exact hzm.symm));simp only[Bq]at hlkx hcsw hst hldw;refine Ba (by kernel_rfl) 20 (by decide) rfl (fun i=>match i with|0=> .pointer (some ⟨E.gl,0,none⟩)|1=> .pointer (some ⟨E.gl,0,none⟩)|2=> .pointer (some ⟨E.gl,3,none⟩)|3=> .slice (some ⟨E.gw,0,none⟩) E.N E.cw|4=> .int .i64 (at':Int)|5=> .pointer (some ⟨E.gl,0,none⟩)|6=> .pointer (some ⟨E.gl,0,none⟩)|7=> .pointer (some ⟨E.gl,3,none⟩)|8=> .slice (some ⟨E.gw,0,none⟩) E.N E.cw|9=> .int .i64 (at':Int)|10=> .pointer (some ⟨E.gw,at'*128,none⟩)|11=> .agg (IV .u8 (st2.S at'))|12=> .pointer (some ⟨G+1+1+1,0,none⟩)|13=> .pointer (some ⟨G+1+1+1,0,none⟩)|14=> .pointer (some ⟨G+1+1+1,0,none⟩)|15=> .pointer (some ⟨G+1+1+1,2,none⟩)|16=> .int .i64 (nth raw 2)|17=> .int .i64 (zk:Int)|18=> .agg (IV .u8 (C8 (st2.S at') zk))|_=> .pointer (some ⟨E.gw,at'*128,none⟩)) ?_ ?_
     ·intro i o hi ho a' w' hB hS hF;have hi':i=0\/i=1\/i=2\/i=3\/i=4\/i=5\/i=6\/i=7\/i=8\/i=9\/i=10\/i=11\/i=12\/i=13\/i=14\/i=15\/i=16\/i=17\/i=18\/i=19:=(by omega);have f_l:hat w' G=some (.cells #[.pointer (some ⟨E.gl,0,none⟩)] 89):=(hop hB hl8).1;have f_x:hat w' (G+1+1+1+1)=some (.cells #[.pointer (some ⟨G+1+1+1,0,none⟩)] 103):=(hop hB hv8).1;have f_g:hat w' (G+1+1+1)=some (.cells c8 102):=(hop hB c8d).1;have f_w:hat w' E.gw=some (.cells csw 47):=(hop hB hcsw).1;have f_k:hat w' E.gl=some (.cells #[.int .i64 E.X,.int .i64 E.Y,E.img,.slice (some ⟨E.gw,0,none⟩) E.N E.cw,.map (some E.bc),.map (some E.bt),.map (some E.bf),E.qf] 95):=(hop hB hlkx).1;rcases hi' with rfl|rfl|rfl|rfl|rfl|rfl|rfl|rfl|rfl|rfl|rfl|rfl|rfl|rfl|rfl|rfl|rfl|rfl|rfl|rfl
      all_goals (have ho':=Option.some.inj ho;subst ho')
      ·have e3:a'.tmps[3]?.getD undef= .pointer (some ⟨G,0,none⟩):=gtx ((hS 3 (by decide)).trans rfl);refine Ae rfl rfl (v:= .pointer (some ⟨E.gl,0,none⟩)) (w1:=w') ?_ ⟨rfl,hB⟩;simp[go_sem,e3,f_l]
      ·have e119:a'.tmps[119]?.getD undef= .pointer (some ⟨E.gl,0,none⟩):=gtx ((hF 0 (by decide) _ 119 rfl rfl).trans rfl);refine Ae rfl rfl (v:= .pointer (some ⟨E.gl,0,none⟩)) (w1:=w') ?_ ⟨rfl,hB⟩;simp[go_sem,e119]
      ·have e120:a'.tmps[120]?.getD undef= .pointer (some ⟨E.gl,0,none⟩):=gtx ((hF 1 (by decide) _ 120 rfl rfl).trans rfl);refine Ae rfl rfl (v:= .pointer (some ⟨E.gl,3,none⟩)) (w1:=w') ?_ ⟨rfl,hB⟩;simp[go_sem,e120]
      ·have e121:a'.tmps[121]?.getD undef= .pointer (some ⟨E.gl,3,none⟩):=gtx ((hF 2 (by decide) _ 121 rfl rfl).trans rfl);refine Ae rfl rfl (v:= .slice (some ⟨E.gw,0,none⟩) E.N E.cw) (w1:=w') ?_ ⟨rfl,hB⟩;simp[go_sem,e121,f_k]
      ·have e14:a'.tmps[14]?.getD undef= .int .i64 (at':Int):=gtx ((hS 14 (by decide)).trans rfl);refine Ae rfl rfl (v:= .int .i64 (at':Int)) (w1:=w') ?_ ⟨rfl,hB⟩;simp[go_sem,e14]
      ·have e3:a'.tmps[3]?.getD undef= .pointer (some ⟨G,0,none⟩):=gtx ((hS 3 (by decide)).trans rfl);refine Ae rfl rfl (v:= .pointer (some ⟨E.gl,0,none⟩)) (w1:=w') ?_ ⟨rfl,hB⟩;simp[go_sem,e3,f_l]
      ·have e124:a'.tmps[124]?.getD undef= .pointer (some ⟨E.gl,0,none⟩):=gtx ((hF 5 (by decide) _ 124 rfl rfl).trans rfl);refine Ae rfl rfl (v:= .pointer (some ⟨E.gl,0,none⟩)) (w1:=w') ?_ ⟨rfl,hB⟩;simp[go_sem,e124]
      ·have e125:a'.tmps[125]?.getD undef= .pointer (some ⟨E.gl,0,none⟩):=gtx ((hF 6 (by decide) _ 125 rfl rfl).trans rfl);refine Ae rfl rfl (v:= .pointer (some ⟨E.gl,3,none⟩)) (w1:=w') ?_ ⟨rfl,hB⟩;simp[go_sem,e125]
      ·have e126:a'.tmps[126]?.getD undef= .pointer (some ⟨E.gl,3,none⟩):=gtx ((hF 7 (by decide) _ 126 rfl rfl).trans rfl);refine Ae rfl rfl (v:= .slice (some ⟨E.gw,0,none⟩) E.N E.cw) (w1:=w') ?_ ⟨rfl,hB⟩;simp[go_sem,e126,f_k]
      ·have e14:a'.tmps[14]?.getD undef= .int .i64 (at':Int):=gtx ((hS 14 (by decide)).trans rfl);refine Ae rfl rfl (v:= .int .i64 (at':Int)) (w1:=w') ?_ ⟨rfl,hB⟩;simp[go_sem,e14]
      ·have e127:a'.tmps[127]?.getD undef= .slice (some ⟨E.gw,0,none⟩) E.N E.cw:=gtx ((hF 8 (by decide) _ 127 rfl rfl).trans rfl);have e128:a'.tmps[128]?.getD undef= .int .i64 (at':Int):=gtx ((hF 9 (by decide) _ 128 rfl rfl).trans rfl);refine Ae rfl rfl (v:= .pointer (some ⟨E.gw,at'*128,none⟩)) (w1:=w') ?_ ⟨rfl,hB⟩;first|(simp[go_sem,e127,e128];done)|(simp[go_sem,e127,e128,hat0,hat1,hatN,hNs])
      ·have e129:a'.tmps[129]?.getD undef= .pointer (some ⟨E.gw,at'*128,none⟩):=gtx ((hF 10 (by decide) _ 129 rfl rfl).trans rfl);refine Ae rfl rfl (v:= .agg (IV .u8 (st2.S at'))) (w1:=w') ?_ ⟨rfl,hB⟩;simp[go_sem,e129,f_w,hldw]
      ·have e6:a'.tmps[6]?.getD undef= .pointer (some ⟨G+1+1+1+1,0,none⟩):=gtx ((hS 6 (by decide)).trans rfl);refine Ae rfl rfl (v:= .pointer (some ⟨G+1+1+1,0,none⟩)) (w1:=w') ?_ ⟨rfl,hB⟩;simp[go_sem,e6,f_x]
      ·have e131:a'.tmps[131]?.getD undef= .pointer (some ⟨G+1+1+1,0,none⟩):=gtx ((hF 12 (by decide) _ 131 rfl rfl).trans rfl);refine Ae rfl rfl (v:= .pointer (some ⟨G+1+1+1,0,none⟩)) (w1:=w') ?_ ⟨rfl,hB⟩;simp[go_sem,e131]
      ·have e132:a'.tmps[132]?.getD undef= .pointer (some ⟨G+1+1+1,0,none⟩):=gtx ((hF 13 (by decide) _ 132 rfl rfl).trans rfl);refine Ae rfl rfl (v:= .pointer (some ⟨G+1+1+1,0,none⟩)) (w1:=w') ?_ ⟨rfl,hB⟩;simp[go_sem,e132]
      ·have e133:a'.tmps[133]?.getD undef= .pointer (some ⟨G+1+1+1,0,none⟩):=gtx ((hF 14 (by decide) _ 133 rfl rfl).trans rfl);refine Ae rfl rfl (v:= .pointer (some ⟨G+1+1+1,2,none⟩)) (w1:=w') ?_ ⟨rfl,hB⟩;simp[go_sem,e133]
      ·have e134:a'.tmps[134]?.getD undef= .pointer (some ⟨G+1+1+1,2,none⟩):=gtx ((hF 15 (by decide) _ 134 rfl rfl).trans rfl);refine Ae rfl rfl (v:= .int .i64 (nth raw 2)) (w1:=w') ?_ ⟨rfl,hB⟩;simp[go_sem,e134,f_g,z2,j2]
      ·have e135:a'.tmps[135]?.getD undef= .int .i64 (nth raw 2):=gtx ((hF 16 (by decide) _ 135 rfl rfl).trans rfl);refine Ae rfl rfl (v:= .int .i64 (zk:Int)) (w1:=w') ?_ ⟨rfl,hB⟩;first|(simp[go_sem,e135,HTM];done)|(simp[go_sem,e135,HTM, <-hzm];done)|(simp[go_sem,e135];omega)
      ·have e130:a'.tmps[130]?.getD undef= .agg (IV .u8 (st2.S at')):=gtx ((hF 11 (by decide) _ 130 rfl rfl).trans rfl);have e136:a'.tmps[136]?.getD undef= .int .i64 (zk:Int):=gtx ((hF 17 (by decide) _ 136 rfl rfl).trans rfl);refine Bn (f:=85) (args:= #[.agg (IV .u8 (st2.S at')),.int .i64 (zk:Int)]) rfl rfl (by simp[go_sem,e130,e136]) (oJ (st2.S at') HLENW.out zk hzm2 w') ?_;rintro e w'' ⟨rfl,hb'⟩;exact⟨_,rfl,rfl,Ad hB hb' hB.size⟩
      ·have e122:a'.tmps[122]?.getD undef= .slice (some ⟨E.gw,0,none⟩) E.N E.cw:=gtx ((hF 3 (by decide) _ 122 rfl rfl).trans rfl);have e123:a'.tmps[123]?.getD undef= .int .i64 (at':Int):=gtx ((hF 4 (by decide) _ 123 rfl rfl).trans rfl);refine Ae rfl rfl (v:= .pointer (some ⟨E.gw,at'*128,none⟩)) (w1:=w') ?_ ⟨rfl,hB⟩;first|(simp[go_sem,e122,e123];done)|(simp[go_sem,e122,e123,hat0,hat1,hatN,hNs])
     ·intro w9 hb9;have hb9:Below w8.heap.size w8 w9:=⟨hb9.os,hb9.tape,hb9.output,hb9.size,hb9.block⟩;have fw9:=(hop hb9 hcsw).1;have hf9:Fr [] w8 w9:=Af hb9 [];have hlk9:=HLK8.out.fr hf9 (by simp) (by simp) (by simp) (by simp) (by simp);have hw9:=hlk9.want.store fw9 hatN hwl (Qk HBYW.out zk);have hfs:Fr [E.gw] w8 (w9.setRow E.gw (Ap csw (at'*128) (IV .u8 (C8 (st2.S at') zk)))):=(hf9.mono (by simp)).trans (Da _ _ _);have hlkf:LK (Bq E (G+1+1)) (w9.setRow E.gw (Ap csw (at'*128) (IV .u8 (C8 (st2.S at') zk)))) {st2 with S:=Ay st2.S at' (C8 (st2.S at') zk)}:=⟨(Bj _ _ _ _ hE.n1).trans hlk9.look,hw9,hlk9.claim.same (Bj _ _ _ _ hE.n4.symm),hlk9.firm.same (Bj _ _ _ _ hE.n5.symm),hlk9.blocks.same (Bj _ _ _ _ HEB.out.n8.symm)⟩;have HFS:=zA hfs;have HLKF:=zA hlkf;clear hfs hlkf hw9 hlk9 hf9;simp only[Bi,List.take,List.drop,List.take_succ_cons,List.drop_succ_cons];go_wp2_with fail;refine bodyPost_end (results_none rfl _ _ _) rfl ?_;exact⟨rfl,HFIN.out _ _ HTY.out HFS.out HLKF.out⟩
  ·obtain⟨D,hown,hisD,hhas,hatD⟩:=HLK8.out.blocks.1;have HISD:=zA hisD;have HHAS:=zA hhas;have HATD:=zA hatD;have HOWN:=zA hown;clear hisD hhas hatD;go_wp2_with (first|(at_range;refine wpList_range_own _ rfl _ _ rfl 3 3 (Go.Maps.int_keyed Tryz.underlying3) Tryz.underlying100 (plainElem Tryz.prog 3) (G+1+1) 4096 D rfl hown ?_;intro w9 hrg hgr hsz)|fail)
   try go_frame
   have HB9:=zA (show Fr [] w8 w9 from⟨hgr.os,hgr.tape,hgr.output,hgr.size,fun b hb _=>hgr.block b hb (by simp)⟩);have HRG:=zA hrg;have hl9:=(HB9.out.block _ (Aa hl8) (by simp)).trans hl8;have hz98:=Aa hl9;clear hrg hgr hown
   go_loopw [13] (fun _ wr=>∃ (left:Lit->Bool) (cnt:Nat) (fmr:Int->Bool),wr.ranges Tryz.prog 3 (plainElem (H:=Unit) Tryz.prog 3) (G+1+1) w8.heap.size 4096 D left cnt/\Hid (∀ z,left z=true->Go.Maps.has D z=true)/\
     Hid (∀ q,fmr q=true↔st2.fm q=true\/∃ k,st2.bk k=some q/\left (.int .i64 k)=false)/\Hid (LK (Bq E (G+1+1)) wr {st2 with fm:=fmr})/\Hid (Fr [E.bf,w8.heap.size] w9 wr))
    (fun _ wr=>wr.rangeLeft (G+1+1) w8.heap.size)
   case atStart=>
    refine⟨_,_,st2.fm,HRG.out,zA (fun _ h=>h),zA (fun q=>⟨.inl,fun h=>?_⟩),zA (HLK8.out.fr HB9.out (by simp) (by simp) (by simp) (by simp) (by simp)),zA (Fr.refl _ _)⟩;rcases h with h|⟨k,hk,hl⟩
    ·exact h
    ·have hkk:=HKEYS.out k (by show(st2.bk k).isSome=true;rw[hk];rfl);rw[HHAS.out k ⟨by omega,by omega⟩]at hl;rw[show(raw2,st2).2.bk k=st2.bk k from rfl,hk]at hl;cases hl
   case round=>
    obtain⟨left,cnt,fmr,hrg,HL1,HL2,HLK,HFR⟩:=hrel;go_wp2_with (first|(at_next;refine wpList_next_ranges_ii _ rfl _ rfl 3 3 .i64 .i64 (Go.Maps.int_keyed Tryz.underlying3) Tryz.underlying3 Tryz.underlying3 (G+1+1) w8.heap.size 4096 _ _ _ rfl hrg ?_ ?_)|fail)
    ·intro hc0 hl0;have hfm:Eg n st2={st2 with fm:=fmr}:=lF HKEYS.out fmr fun q=>by
      rw[HL2.out q];exact⟨fun h=>h.imp id (fun⟨k,hk,_⟩=>⟨k,hk⟩),fun h=>h.imp id (fun⟨k,hk⟩=>⟨k,hk,hl0 _⟩)⟩
     have hfr8:Fr [E.bf] w8 wr:=((HB9.out.mono (ex':=[E.bf,w8.heap.size]) (by simp)).trans HFR.out).old (by simp);have hlr:=(HFR.out.block _ hz98 (by(have:=hmine;have:=Aa hl8;simp;omega))).trans hl9;have hlkr:=HLK.out.look;unfold Bz at hlkr;rw[show(Bq E (G+1+1)).qf= .func (.func 50) #[] #[.pointer (some ⟨gr,0,none⟩)]from HQO.out.qf]at hlkr;have hqr:=HQ8.out.fr hfr8 (by(have:=HQO.out.v;simp at this ⊢;omega)) (fun g hg=>by(have:=HQO.out.b g hg;simp at this ⊢;omega));have HQR:=zA hqr;have HFM:=zA hfm;have HFR8:=zA hfr8;clear hqr hfm hfr8 hrg hl0 HL1 HL2;go_wp2_with fail;refine(iV gr ob xs i wr HQR.out hxn).mono ?_;rintro e w11 ⟨rfl,ob',hq11,hf11,ho11⟩;have HQ11:=zA hq11;have HF11:=zA hf11;have HO11:=zA ho11;clear hq11 hf11 ho11 hlkr hlr;go_wp2_with fail;refine bodyPost_ret (results_none rfl _ _ _) rfl ?_;have hk2:nth raw 0=2:=(by simpa using hkd);have htx:=HTKX.out;rw[if_pos hk2]at htx;have hex:∀ k,k∈gr::ob.toList->k<G/\k∉[E.gl,E.gw,E.bc,E.bf,E.bt]:=by
      intro k hk;rw[List.mem_cons]at hk;rcases hk with rfl|hk
      ·exact⟨hgrG,HQO.out.v⟩
      ·cases hob:ob with
       |none=>rw[hob]at hk;cases hk
       |some g=>
        rw[hob]at hk;simp at hk;subst hk;exact⟨hobG _ hob,HQO.out.b _ hob⟩
     have hbx:∀ k,G<=k->k∉gr::ob.toList:=fun k hk hm=>by have:=(hex k hm).1;omega
     have hmx:∀ k,k∈[E.gl,E.gw,E.bc,E.bf,E.bt]->k∉gr::ob.toList:=fun k hk hm=>(hex k hm).2 hk
     have hg8:=Aa HC8.out;have hgr8:=(HFR8.out.block _ hg8 (by(have:=hmine;simp;omega))).trans HC8.out;refine⟨rfl,G+1+1+1,G+1+1,ob',?_⟩;refine⟨by omega,by omega,by omega,?_,?_,?_,?_,?_,?_⟩
     ·rw[htx];exact(HF11.out.block _ (Aa hgr8) (hbx _ (by omega))).trans hgr8
     ·rw[htx];show LK _ w11 (Eg n st2)
      rw[HFM.out];exact HLK.out.fr HF11.out (hmx _ (by simp[Bq])) (hmx _ (by simp[Bq])) (hmx _ (by simp[Bq])) (hmx _ (by simp[Bq])) (hbx _ (by simp[Bq];omega))
     ·have hp8:=HPB8.out.same (HFR8.out.block _ HPB8.out.lt (by(have:=hE.m4;simp;omega)));exact hp8.same (HF11.out.block _ hp8.lt (hmx _ (by simp)))
     ·rw[if_pos hk2];exact HQ11.out
     ·rcases HO11.out with h|⟨g,h,hl⟩
      ·exact .inl h
      ·have:=Aa hgr8;exact .inr ⟨g,h,by omega,by omega,by omega⟩
     ·refine((HFB.out.mono ?_).trans (HFR8.out.mono ?_)).trans (HF11.out.mono ?_)
      ·intro k hk;simp at hk ⊢;omega
      ·intro k hk;simp at hk ⊢;omega
      ·intro k hk;rw[List.mem_cons]at hk;rw[List.mem_append];rcases hk with rfl|hk
       ·exact .inl (by simp)
       ·exact .inr hk
    ·intro x c w10 cnt1 hwx hwc hlx hat10 hrg1 hlt hg1 hs1 hen;have hx64:=Mj hwx;have hbk:st2.bk x=some c:=by
      have h1:=HHAS.out x hx64;rw[HL1.out _ hlx]at h1;have h2:=HATD.out x hx64;rw[hat10]at h2;have h1':(st2.bk x).isSome=true:=h1.symm;obtain⟨p,hp⟩:=Option.isSome_iff_exists.1 h1';have h2':DataW.lit (Lit.int .i64 c)= .lit (.int .i64 ((st2.bk x).getD 0)):=h2;rw[hp]at h2' ⊢;injection h2' with h2'
      injection h2' with _ h2'
      rw[h2'];rfl
     have hcd:=J2 HEB.out (HVALS.out x c hbk);have hf10:Fr [w8.heap.size] wr w10:=⟨hg1.os,hg1.tape,hg1.output,hg1.size,fun b hb hn=>hg1.block b hb (by simpa using hn)⟩;have hz8:G<w8.heap.size:=Aa hl8;have hlk10:=HLK.out.fr hf10 (by(have:=hmine;simp[Bq];omega)) (by(have:=hmine;simp[Bq];omega)) (by(have:=hmine;simp[Bq];omega)) (by(have:=hmine;simp[Bq];omega)) (by(have:=Aa c8d;simp[Bq];omega));obtain⟨w11,hr11,hm11,ht11⟩:=hlk10.firm.put (p:=c) ⟨hcd.1,hcd.2.1⟩;have hlr:=(HFR.out.block _ hz98 (by(have:=hmine;have:=Aa hl8;simp;omega))).trans hl9;have hl10:=(hf10.block _ (Aa hlr) (by simp;omega)).trans hlr;have hlkr:=hlk10.look;unfold Bz at hlkr;have HM11:=zA hm11;have HT11:=zA ht11;have HLK10:=zA hlk10;have HF10:=zA hf10;have hne:(Bq E (G+1+1)).bf≠(Bq E (G+1+1)).bx:=HEB.out.n10;have hne2:(Bq E (G+1+1)).bf≠w8.heap.size:=(by(have:=hmine;simp[Bq];omega));have HRG11:=zA (hrg1.kept HT11.out.grown (by intro e;injection e with e;exact hne e.symm) (by intro e;injection e with e;exact hne2 e.symm));have HRG:=zA hrg;have HBK:=zA hbk;clear hm11 ht11 hlk10 hf10 hrg1 hrg hbk hat10 hlr hcd hne2;go_wp2_with fail;go_roundw
     case rel=>
      have hkk:∀ k,((Lit.int .i64 k).sameKey (.int .i64 x)=true↔k=x):=fun k=>by simp[Lit.sameKey]
      have h10:=HLK10.out;have hw10:=h10.want;obtain⟨cs10,hw10,-⟩:=hw10;refine⟨_,cnt1,A8 fmr c,HRG11.out,zA (fun z hz=>HL1.out z (by rw[Bool.and_eq_true]at hz;exact hz.1)),zA (fun q=>?_),zA ⟨(B9 HT11.out HEB.out.n3 (Aa h10.look)).trans h10.look,h10.want.same (B9 HT11.out HEB.out.n5 (Aa hw10)),h10.claim.same (B9 HT11.out HEB.out.n6 h10.claim.lt),HM11.out,h10.blocks.same (B9 HT11.out hne.symm h10.blocks.lt)⟩,zA (HFR.out.trans ?_)⟩
      ·have e1:A8 fmr c q=true↔fmr q=true\/q=c:=(by simp[A8]);rw[e1,HL2.out q];constructor
       ·rintro ((h|⟨k,hk,hl⟩)|rfl)
        ·exact .inl h
        ·exact .inr ⟨k,hk,by rw[hl];rfl⟩
        ·refine .inr ⟨x,HBK.out,?_⟩;rw[(hkk x).2 rfl];simp
       ·rintro (h|⟨k,hk,hl⟩)
        ·exact .inl (.inl h)
        ·rw[Bool.and_eq_false_iff]at hl;rcases hl with hl|hl
         ·exact .inl (.inr ⟨k,hk,hl⟩)
         ·have:k=x:=(hkk k).1 (by simpa using hl);subst this;rw[HBK.out]at hk;exact .inr (Option.some.inj hk).symm
      ·exact(HF10.out.mono (by simp)).trans ((Ge HT11.out).mono (by simp[Bq]))
     case measure=>
      rw[HRG11.out.left_eq,HRG.out.left_eq];exact hlt
structure WE where
 E:Env
 (gr gi oi ci G0:Nat)
 IMG:Nat->List Int
def B4(V:WE)(ob:Option Nat):List Nat:=[V.E.gl,V.E.gw,V.E.bc,V.E.bf,V.E.bt,V.gr]++ob.toList
def Hi(V:WE)(ob:Option Nat)(B:Nat->Option (Nat×Nat))(k:Nat):Prop:=k∉B4 V ob/\∀ i v,B i=some v->v.1≠k/\v.2≠k
structure LW (V:WE) (ob:Option Nat) (B:Nat->Option (Nat×Nat)) (z:LZ) (w:World):Prop where
 e0:sS V.E
 qo:QOk V.E V.gr ob
 img:V.E.img= .slice (some ⟨V.gi,V.oi,none⟩) V.E.N V.ci
 secs:G9 w V.gi V.oi V.E.N V.IMG
 gi0:V.gi<V.G0
 lo:∀ k∈B4 V ob,V.G0<=k
 sz:V.G0<=w.heap.size
 small:V.E.Y<V.E.N
 k:LK0 V.E w z.st
 pb:∃ tk,PB w V.E.bt tk/\∀ i:Nat,tk (i:Int)=(B i).map Prod.fst
 no:∀ i,B i=none->z.T i=none
 yes:∀ i v,B i=some v->∃ t,z.T i=some t/\hat w v.1=some (.cells (inC t.raw t.en v.2) 102)/\IB w v.2 t.bk/\V.G0<=v.1/\V.G0<=v.2/\v.1∉B4 V ob/\v.2∉B4 V ob
 inj:∀ i j v u,B i=some v->B j=some u->i≠j->v.1≠u.1
 q:Mr w V.gr ob z.q
 zi:ZI V.E.X V.E.Y z
structure Ch (V:WE) (but:List Nat) (ob:Option Nat) (B:Nat->Option (Nat×Nat)) (w:World) (ob':Option Nat) (B':Nat->Option (Nat×Nat)) (w':World):Prop where
 os:w'.os=w.os
 tape:w'.tape=w.tape
 output:w'.output=w.output
 size:w.heap.size<=w'.heap.size
 ext:∀ i v,B i=some v->B' i=some v
 apart:∀ k,k<w.heap.size->Hi V ob B k->Hi V ob' B' k
 block:∀ k,k<w.heap.size->Hi V ob B k->k∉but->hat w' k=hat w k
theorem Ch.refl(V:WE)(but:List Nat)(ob:Option Nat)(B:Nat->Option (Nat×Nat))(w:World):Ch V but ob B w ob B w:=⟨rfl,rfl,rfl,Nat.le_refl _,fun _ _ h=>h,fun _ _ h=>h,fun _ _ _ _=>rfl⟩
theorem Ch.trans{V:WE}{but:List Nat}{o1 o2 o3:Option Nat}{B1 B2 B3:Nat->Option (Nat×Nat)}{w1 w2 w3:World}(h:Ch V but o1 B1 w1 o2 B2 w2)(h2:Ch V but o2 B2 w2 o3 B3 w3):Ch V but o1 B1 w1 o3 B3 w3:=
 ⟨h2.os.trans h.os,h2.tape.trans h.tape,h2.output.trans h.output,Nat.le_trans h.size h2.size,fun i v hv=>h2.ext i v (h.ext i v hv),fun k hk ha=>h2.apart k (Nat.lt_of_lt_of_le hk h.size) (h.apart k hk ha),
  fun k hk ha hn=>(h2.block k (Nat.lt_of_lt_of_le hk h.size) (h.apart k hk ha) hn).trans (h.block k hk ha hn)⟩
theorem Ch.but{V:WE}{but but':List Nat}{o1 o2:Option Nat}{B1 B2:Nat->Option (Nat×Nat)}{w1 w2:World}(h:Ch V but o1 B1 w1 o2 B2 w2)(hs:∀ k∈but,k∈but'):Ch V but' o1 B1 w1 o2 B2 w2:=
 ⟨h.os,h.tape,h.output,h.size,h.ext,h.apart,fun k hk ha hn=>h.block k hk ha fun hm=>hn (hs k hm)⟩
theorem Ch.from{V:WE}{but:List Nat}{o1 o2:Option Nat}{B1 B2:Nat->Option (Nat×Nat)}{w0 w1 w2:World}(hf:Fr [] w0 w1)(h:Ch V but o1 B1 w1 o2 B2 w2)(but':List Nat)(hs:∀ k∈but,k∈but'\/w0.heap.size<=k):Ch V but' o1 B1 w0 o2 B2 w2:=
 ⟨h.os.trans hf.os,h.tape.trans hf.tape,h.output.trans hf.output,Nat.le_trans hf.size h.size,h.ext,fun k hk ha=>h.apart k (Nat.lt_of_lt_of_le hk hf.size) ha,
  fun k hk ha hn=>(h.block k (Nat.lt_of_lt_of_le hk hf.size) ha fun hm=>by
   rcases hs k hm with h|h
   ·exact hn h
   ·omega).trans (hf.block k hk (by simp))⟩
theorem Ch.of{V:WE}{but ex:List Nat}{ob:Option Nat}{B:Nat->Option (Nat×Nat)}{w w':World}(h:Fr ex w w')(hs:∀ k∈ex,k∈but\/¬ Hi V ob B k):Ch V but ob B w ob B w':=
 ⟨h.os,h.tape,h.output,h.size,fun _ _ h=>h,fun _ _ h=>h,fun k hk ha hn=>h.block k hk fun hm=>by
  rcases hs k hm with h|h
  ·exact hn h
  ·exact h ha⟩
theorem Hi.low{V:WE}{ob:Option Nat}{B:Nat->Option (Nat×Nat)}{z:LZ}{w:World}(h:LW V ob B z w){k:Nat}(hk:k<V.G0):Hi V ob B k:=
 ⟨fun hm=>by have:=h.lo k hm;omega,fun i v hv=>by
  obtain⟨t,-,-,-,h1,h2,-⟩:=h.yes i v hv;omega⟩
theorem Ch.below{V:WE}{but:List Nat}{o1 o2:Option Nat}{B1 B2:Nat->Option (Nat×Nat)}{z:LZ}{w1 w2:World}(h:Ch V but o1 B1 w1 o2 B2 w2)(hl:LW V o1 B1 z w1)(hb:∀ k∈but,V.G0<=k):Below V.G0 w1 w2:=
 ⟨h.os,h.tape,h.output,h.size,fun k hk=>h.block k (Nat.lt_of_lt_of_le hk hl.sz) (Hi.low hl hk) fun hm=>by have:=hb k hm;omega⟩
theorem IB.map{w:World}{b:Nat}{f:Int->Option Int}(h:IB w b f):∃ es clock,hat w b=some (.map es clock):=by
 obtain⟨⟨D,⟨es,clock,hb,-⟩,-⟩,-⟩:=h;exact⟨es,clock,hb⟩
theorem LW.cross{V:WE}{ob:Option Nat}{B:Nat->Option (Nat×Nat)}{z:LZ}{w:World}(h:LW V ob B z w){i j:Nat}{v u:Nat×Nat}(hi:B i=some v)(hj:B j=some u):v.1≠u.2:=by
 obtain⟨t,-,h1,-⟩:=h.yes i v hi;obtain⟨t',-,-,h2,-⟩:=h.yes j u hj;obtain⟨es,clock,h3⟩:=h2.map;intro e;rw[e,h3]at h1;cases h1
theorem LW.mlt{V:WE}{ob:Option Nat}{B:Nat->Option (Nat×Nat)}{z:LZ}{w:World}(h:LW V ob B z w):∀ k∈B4 V ob,k<w.heap.size:=by
 intro k hk;unfold B4 at hk;have hw:=h.k.want;obtain⟨cs,hw1,-⟩:=hw;obtain⟨tk,hpb,-⟩:=h.pb;simp only[List.cons_append,List.nil_append,List.mem_cons]at hk;rcases hk with rfl|rfl|rfl|rfl|rfl|rfl|hk
 ·exact Aa h.k.look
 ·exact Aa hw1
 ·exact h.k.claim.lt
 ·exact h.k.firm.lt
 ·exact hpb.lt
 ·exact h.q.lt
 ·cases hob:ob with
  |none=>rw[hob]at hk;cases hk
  |some g=>
   rw[hob]at hk;simp at hk;subst hk;exact h.q.blt _ hob
theorem LW.fr{V:WE}{ob:Option Nat}{B:Nat->Option (Nat×Nat)}{z:LZ}{w w':World}{ex:List Nat}(h:LW V ob B z w)(hf:Fr ex w w')(hs:∀ k∈ex,Hi V ob B k/\V.G0<=k):LW V ob B z w':=by
 have hm:∀ k∈B4 V ob,k∉ex:=fun k hk hx=>(hs k hx).1.1 hk
 have hgi:V.gi∉ex:=fun hx=>by have:=(hs _ hx).2;have:=h.gi0;omega
 obtain⟨tk,hpb,htk⟩:=h.pb
 refine⟨h.e0,h.qo,h.img,h.secs.same (hf.block _ h.secs.lt hgi),h.gi0,h.lo,Nat.le_trans h.sz hf.size,h.small,h.k.fr hf (hm _ (by simp[B4])) (hm _ (by simp[B4])) (hm _ (by simp[B4])) (hm _ (by simp[B4])),
  ⟨tk,hpb.same (hf.block _ hpb.lt (hm _ (by simp[B4]))),htk⟩,h.no,fun i v hv=>?_,h.inj,h.q.fr hf (hm _ (by simp[B4])) (fun g hg=>hm _ (by simp[B4,hg])),h.zi⟩
 obtain⟨t,h1,h2,h3,h4⟩:=h.yes i v hv;exact⟨t,h1,(hf.block _ (Aa h2) (fun hx=>((hs _ hx).1.2 i v hv).1 rfl)).trans h2,h3.same (hf.block _ h3.lt (fun hx=>((hs _ hx).1.2 i v hv).2 rfl)),h4⟩
def aC(B:Nat->Option (Nat×Nat))(i:Nat)(v:Nat×Nat):Nat->Option (Nat×Nat):=fun j=>if j=i then some v else B j
theorem tG{raw:List Int}(h:raw.length=18)(en n:Int)(bx:Nat):(inC raw en bx).setIfInBounds 18 (.int .i64 n)=inC raw n bx:=by
 obtain⟨a0,a1,a2,a3,a4,a5,a6,a7,a8,a9,b0,b1,b2,b3,b4,b5,b6,b7,rfl⟩:=Ol h;simp[inC,Array.setIfInBounds]
theorem bA{raw:List Int}(h:raw.length=18)(en:Int)(bx:Nat):(inC raw en bx)[18]? =some (.int .i64 en):=by
 unfold inC;rw[List.getElem?_toArray,List.getElem?_append_right (by simp[h]),List.length_map,h];rfl
theorem LW.en{V:WE}{ob:Option Nat}{B:Nat->Option (Nat×Nat)}{z:LZ}{w:World}(h:LW V ob B z w){i:Nat}{v:Nat×Nat}{t:TI}(hB:B i=some v)(ht:z.T i=some t){n:Int}(h0:0<=n)(h1:n<=100):
  LW V ob B {z with T:=A2 z.T i {t with en:=n}} (w.setCell ⟨v.1,18,none⟩ (.int .i64 n)):=by
 have hf:Fr [v.1] w (w.setCell ⟨v.1,18,none⟩ (.int .i64 n)):=Ai _ _ _ _;obtain⟨t',ht',hg,hb,l1,l2,n1,n2⟩:=h.yes i v hB;rw[ht]at ht';cases ht';have hm:∀ k∈B4 V ob,k∉[v.1]:=fun k hk hx=>by
  rw[List.mem_singleton]at hx;subst hx;exact n1 hk
 have hgi:V.gi∉[v.1]:=fun hx=>by
  rw[List.mem_singleton]at hx;have:=h.gi0;omega
 obtain⟨tk,hpb,htk⟩:=h.pb;have hl:=(h.zi.t i t ht).2.2.1
 refine⟨h.e0,h.qo,h.img,h.secs.same (hf.block _ h.secs.lt hgi),h.gi0,h.lo,Nat.le_trans h.sz hf.size,h.small,h.k.fr hf (hm _ (by simp[B4])) (hm _ (by simp[B4])) (hm _ (by simp[B4])) (hm _ (by simp[B4])),
  ⟨tk,hpb.same (hf.block _ hpb.lt (hm _ (by simp[B4]))),htk⟩,fun j hj=>?_,fun j u hu=>?_,h.inj,h.q.fr hf (hm _ (by simp[B4])) (fun g hg=>hm _ (by simp[B4,hg])),h.zi.en ht h0 h1⟩
 ·show A2 z.T i _ j=none
  unfold A2;rw[if_neg (fun e=>by subst e;rw[hB]at hj;cases hj)];exact h.no j hj
 ·by_cases hji:j=i
  ·subst hji;rw[hB]at hu;cases hu;refine⟨{t with en:=n},by simp[A2],?_,hb.same (hf.block _ hb.lt (fun hx=>?_)),l1,l2,n1,n2⟩
   ·rw[Ah _ _ _ _ _ _ _ hg,tG hl]
   ·rw[List.mem_singleton]at hx;exact h.cross hB hB hx.symm
  ·obtain⟨t',h1,h2,h3,h4⟩:=h.yes j u hu;refine⟨t',by show A2 z.T i _ j=_;unfold A2;rw[if_neg hji];exact h1,(hf.block _ (Aa h2) (fun hx=>?_)).trans h2,h3.same (hf.block _ h3.lt (fun hx=>?_)),h4⟩
   ·rw[List.mem_singleton]at hx;exact h.inj j i u v hu hB hji hx
   ·rw[List.mem_singleton]at hx;exact h.cross hB hu hx.symm
theorem Uk(T:Nat->Option TI)(i:Nat)(t t':TI):A2 (A2 T i t) i t'=A2 T i t':=by
 funext j
 unfold A2;split<;>rfl
theorem eP{V:WE}{ob:Option Nat}{B:Nat->Option (Nat×Nat)}{z:LZ}{w:World}(h:LW V ob B z w)(i:Nat)(raw:List Int)(hr:raw.length=18)(h1:1<=i)(hY:(i:Int)<=V.E.Y)(hB:B i=none)
  (hz0:0<=nth raw 2) (hz1:nth raw 2<=136704) (hpt:∀ p∈raw.drop 4,0<=p/\p<=4294967295):
  Calls Tryz.prog 52 #[.pointer (some ⟨V.E.gl,0,none⟩),.int .i64 i,.agg (IV .i64 raw)] w fun e w'=>e= .returned (.tuple #[])/\∃ ob' B' v,LW V ob' B' (Dg V.E.X V.E.Y i raw 0 z) w'/\Ch V [] ob B w ob' B' w'/\B' i=some v:=by
 obtain⟨tk,hpb,htk⟩:=h.pb;have hN:=h.e0.small;have hX:=h.e0.size;have hsm:=h.small;have hi:i<4096:=by omega
 have hql:z.q.length<=100000:=by
  have:=h.zi.pot;unfold Ek at this;omega
 refine(nZ h.e0 i raw z.st tk w V.gr ob z.q h.qo h.q hql h.k hpb hr hi hz0 hz1 hpt).mono ?_;rintro e w' ⟨rfl,gx,bx,ob',T⟩;refine⟨rfl,ob',aC B i (gx,bx),(gx,bx),?_,?_,by simp[aC]⟩
 ·have hml:=h.mlt;have hex:∀ k,k∈[V.E.bc,V.E.gw,V.E.bf,V.E.bt,V.gr]++ob.toList->k∈B4 V ob:=by
   intro k hk;unfold B4;simp only[List.cons_append,List.nil_append,List.mem_cons]at hk ⊢;rcases hk with h|h|h|h|h|h<;>simp[h]
  have g0:=T.gx0;have b0:=T.bx0;have hsz:=h.sz;have hgi:V.gi∉[V.E.bc,V.E.gw,V.E.bf,V.E.bt,V.gr]++ob.toList:=fun hx=>by have:=h.lo _ (hex _ hx);have:=h.gi0;omega
  have hob':∀ g,ob'=some g->g∈B4 V ob\/(w.heap.size<=g/\g≠gx/\g≠bx):=by
   intro g hg;rcases T.o with ho|⟨g',ho,ha,hb,hc⟩
   ·rw[ho]at hg;exact .inl (by simp[B4,hg])
   ·rw[ho]at hg;cases hg;exact .inr ⟨ha,hb,hc⟩
  have hmm:∀ k,k∈B4 V ob'->k∈B4 V ob\/(w.heap.size<=k/\k≠gx/\k≠bx):=by
   intro k hk;unfold B4 at hk;rw[List.mem_append]at hk;rcases hk with hk|hk
   ·exact .inl (by unfold B4;rw[List.mem_append];exact .inl hk)
   ·cases ho:ob' with
    |none=>rw[ho]at hk;cases hk
    |some g=>
     rw[ho]at hk;simp at hk;subst hk;exact hob' _ ho
  refine⟨h.e0,⟨h.qo.qf,h.qo.v,fun g hg=>?_⟩,h.img,h.secs.same (T.fr.block _ h.secs.lt hgi),h.gi0,fun k hk=>?_,Nat.le_trans h.sz T.fr.size,h.small,⟨T.lk.look,T.lk.want,T.lk.claim,T.lk.firm⟩,⟨Zf tk i gx,T.tk,fun j=>?_⟩,fun j hj=>?_,fun j u hu=>?_,fun j k v u hv hu hne=>?_,T.q,?_⟩
  ·rcases T.o with ho|⟨g',ho,ha,hb,hc⟩
   ·exact h.qo.b g (by rw[<-ho];exact hg)
   ·rw[ho]at hg;cases hg;intro hm;have:g∈B4 V ob:=by
     unfold B4;simp only[List.mem_cons,List.not_mem_nil,or_false]at hm;rcases hm with h|h|h|h|h<;>simp[h]
    have:=hml _ this;omega
  ·rcases hmm k hk with hk|hk
   ·exact h.lo k hk
   ·omega
  ·unfold Zf aC;by_cases hji:j=i
   ·subst hji;simp
   ·rw[if_neg (by omega),if_neg hji];exact htk j
  ·unfold aC at hj;split at hj
   ·cases hj
   ·rename_i hji
    show A2 z.T i _ j=none
    unfold A2;rw[if_neg hji];exact h.no j hj
  ·unfold aC at hu;split at hu
   ·rename_i hji
    subst hji;cases hu;refine⟨⟨(Aj V.E.X V.E.Y raw z.st).1,0,(Aj V.E.X V.E.Y raw z.st).2.bk⟩,?_,T.x,T.lk.blocks,by show V.G0<=gx;omega,by show V.G0<=bx;omega,fun hm=>?_,fun hm=>?_⟩
    ·show A2 z.T j _ j=_
     simp[A2]
    ·rcases hmm _ hm with h3|h3
     ·have:=hml _ h3;simp at this;omega
     ·exact h3.2.1 rfl
    ·rcases hmm _ hm with h3|h3
     ·have:=hml _ h3;simp at this;omega
     ·exact h3.2.2 rfl
   ·rename_i hji
    obtain⟨t,h1,h2,h3,h4,h5,h6,h7⟩:=h.yes j u hu;refine⟨t,?_,(T.fr.block _ (Aa h2) (fun hm=>h6 (hex _ hm))).trans h2,h3.same (T.fr.block _ h3.lt (fun hm=>h7 (hex _ hm))),h4,h5,fun hm=>?_,fun hm=>?_⟩
    ·show A2 z.T i _ j=_
     unfold A2;rw[if_neg hji];exact h1
    ·rcases hmm _ hm with h8|h8
     ·exact h6 h8
     ·have:=Aa h2;omega
    ·rcases hmm _ hm with h8|h8
     ·exact h7 h8
     ·have:=h3.lt;omega
  ·unfold aC at hv hu;split at hv
   ·split at hu
    ·omega
    ·cases hv;obtain⟨t,-,h2,-⟩:=h.yes k u hu;have:=Aa h2;show gx≠u.1
     omega
   ·split at hu
    ·cases hu;obtain⟨t,-,h2,-⟩:=h.yes j v hv;have:=Aa h2;show v.1≠gx
     omega
    ·exact h.inj j k v u hv hu hne
  ·exact h.zi.take h1 hY hi hr hz0 hz1 (by omega) (by omega) (h.no i hB)
 ·have hml:=h.mlt;have g0:=T.gx0;have b0:=T.bx0;refine⟨T.fr.os,T.fr.tape,T.fr.output,T.fr.size,fun j v hv=>?_,fun k hk ha=>⟨fun hm=>?_,fun j v hv=>?_⟩,fun k hk ha _=>T.fr.block k hk fun hm=>ha.1 ?_⟩
  ·unfold aC;rw[if_neg (fun e=>by subst e;rw[hB]at hv;cases hv)];exact hv
  ·unfold B4 at hm;rw[List.mem_append]at hm;rcases hm with hm|hm
   ·exact ha.1 (by unfold B4;rw[List.mem_append];exact .inl hm)
   ·rcases T.o with ho|⟨g',ho,hg,-⟩
    ·rw[ho]at hm;exact ha.1 (by unfold B4;rw[List.mem_append];exact .inr hm)
    ·rw[ho]at hm;simp at hm;omega
  ·unfold aC at hv;split at hv
   ·cases hv;exact⟨by show gx≠k;omega,by show bx≠k;omega⟩
   ·exact ha.2 j v hv
  ·unfold B4;simp only[List.cons_append,List.nil_append,List.mem_cons]at hm ⊢;rcases hm with h|h|h|h|h|h<;>simp[h]
theorem Be(w:World)(o:Obj)(ex:List Nat):Fr ex w (w.alloc o):=Af ((Below.refl w.heap.size w).alloc (Nat.le_refl _) _) _
theorem LW.img4096{V:WE}{ob:Option Nat}{B:Nat->Option (Nat×Nat)}{z:LZ}{w:World}(h:LW V ob B z w):V.E.N<=4096/\(V.E.N:Int)=V.E.X:=by
 have h1:=h.e0.small;have h2:=h.e0.size;omega
theorem LW.ptr{V:WE}{ob:Option Nat}{B:Nat->Option (Nat×Nat)}{z:LZ}{w:World}(h:LW V ob B z w)(i:Nat)(hi:i<=4096):
  (Instr.lookup 92 (.map (some V.E.bt)) (.int .i64 i) false).run Tryz.prog w= .ok (Lz ((B i).map Prod.fst)) w:=by
 obtain⟨tk,hpb,htk⟩:=h.pb;rw[<-htk i];exact hpb.1.look (Gg (Int.natCast_nonneg _) (by omega))
theorem kR{V:WE}{ob:Option Nat}{B:Nat->Option (Nat×Nat)}{z:LZ}{w:World}(h:LW V ob B z w)(i:Nat)(nm:ByteArray)(hn:nm.size<=40)(nb n:Nat)(names:ByteArray->Bool)(hnb:NB w nb n names)(hor:names nm=true\/i=1):
  Calls Tryz.prog 87 #[.pointer (some ⟨V.E.gl,0,none⟩),.agg #[.int .i64 i,.string nm],.map (some nb)] w fun e w'=>e= .returned (.bool false)/\Fr [] w w':=by
 have hlk:=(hnb.same (A9 w (.cells #[.int .i64 i,.string nm] 125) nb hnb.lt)).look hn;clear hnb h;cases hnm:names nm with
 |true=>
  rw[hnm]at hlk;clear hor;go_enter Tryz.func87,Tryz.ntmps87;go_wp2_with fail;go_ret;exact⟨rfl,Be _ _ _⟩
 |false=>
  rw[hnm]at hlk
  have h1:i=1:=by rcases hor with h|h; · rw[hnm]at h;cases h
                  ·exact h
  have hi1:((i:Int)==1)=true:=(by simp[h1]);clear hor h1;go_enter Tryz.func87,Tryz.ntmps87;go_wp2_with fail;go_ret;exact⟨rfl,Be _ _ _⟩
theorem gD{V:WE}{ob:Option Nat}{B:Nat->Option (Nat×Nat)}{z:LZ}{w:World}(h:LW V ob B z w)(i:Nat)(nm:ByteArray)(hn:nm.size<=40)(nb n:Nat)(names:ByteArray->Bool)(hnb:NB w nb n names)(hnn:n<maxLen)(ha:Hi V ob B nb)(hg0:V.G0<=nb)
  (hnm:names nm=false) (hi1:1<i) (hi:i<4096) (v:Nat×Nat) (hB:B i=some v) (t:TI) (hT:z.T i=some t):
  Calls Tryz.prog 87 #[.pointer (some ⟨V.E.gl,0,none⟩),.agg #[.int .i64 i,.string nm],.map (some nb)] w fun e w'=>
   if nth t.raw 0=2\/t.en=100 then e= .returned (.bool false)/\Fr [] w w'
   else e= .returned (.bool true)/\LW V ob B {z with T:=A2 z.T i {t with en:=t.en+1}} w'/\NB w' nb (n+1) (Ll names nm)/\Ch V [nb] ob B w ob B w':=by
 have hf0:Fr [] w (w.alloc (.cells #[.int .i64 i,.string nm] 125)):=Be _ _ _;have hlk:=(hnb.same (A9 w (.cells #[.int .i64 i,.string nm] 125) nb hnb.lt)).look hn;rw[hnm]at hlk;have hw0:=h.fr hf0 (by simp);have hp:=(hw0.fr (Bb (Fr.refl [] _)) (by simp)).ptr i (by omega);rw[hB]at hp;obtain⟨gx,bx⟩:=v;simp only[Option.map_some,Lz]at hp;have hl:=hw0.k.look;unfold Bz at hl;have hsl:hat (w.alloc (.cells #[.int .i64 i,.string nm] 125)) w.heap.size=some (.cells #[.int .i64 i,.string nm] 125):=(A6 w _).1;obtain⟨t',ht',hgx,-⟩:=hw0.yes i _ hB;rw[hT]at ht';obtain rfl:t=t':=by injection ht'
 obtain⟨-,-,hrl,-,-,he0,he1,-⟩:=h.zi.t i t hT;have k0:=Ig hrl t.en bx (show 0<18 by omega);have k18:=bA hrl t.en bx;have hz8:=Fj hrl t.en bx;have hnb0:=(hnb.same (A9 w (.cells #[.int .i64 i,.string nm] 125) nb hnb.lt));have hlts:=Aa hsl;have hnlt:=hnb.lt;have hne:w.heap.size≠nb:=by omega
 simp only at hgx;obtain⟨w2,hr2,hm2,ht2⟩:=(show NB (w.alloc (.cells #[.int .i64 i,.string nm] 125)).drew nb n names from hnb0).put hnn hn;have f2:Fr [nb] (w.alloc (.cells #[.int .i64 i,.string nm] 125)) w2:=(Bb (Fr.refl _ _)).trans (Ge ht2);have hgx2:=(f2.block _ (Aa hgx) (by have:=(ha.2 i _ hB).1;simpa using this)).trans hgx;have hlw2:=hw0.fr f2 (fun k hk=>by rw[List.mem_singleton]at hk;subst hk;exact⟨ha,hg0⟩);have hi2:((i:Int)==1)=false:=by simp;omega
 generalize hc8:inC t.raw t.en bx=c8 at hgx hgx2 k0 k18 hz8;have j0:∀ h:0<c8.size,c8[0]'h=Value.int .i64 (nth t.raw 0):=fun h=>by
  rw[Array.getElem?_eq_getElem h]at k0;exact Option.some.inj k0
 have j18:∀ h:18<c8.size,c8[18]'h=Value.int .i64 t.en:=fun h=>by
  rw[Array.getElem?_eq_getElem h]at k18;exact Option.some.inj k18
 have z0:0<c8.size:=by omega
 have z18:18<c8.size:=by omega
 have H:=zA h;have HM2:=zA hm2;have HLW2:=zA hlw2;have HF0:=zA (show Fr [] w (w.alloc (.cells #[.int .i64 i,.string nm] 125)).drew from Bb hf0);have HF:=zA (hf0.mono (ex':=[nb]) (by simp)|>.trans f2);have HA:=zA ha;have hgxl:=Aa hgx;have hgxl2:=Aa hgx2;clear h hnb hw0 hm2 hlw2 f2 hf0 ha k0 k18 hnb0 ht2;by_cases HK:nth t.raw 0=2\/t.en=100
 ·simp only[if_pos HK];go_enter Tryz.func87,Tryz.ntmps87;go_wp2_with fail;generalize hW0:w.alloc (.cells #[.int .i64 i,.string nm] 125)=W0 at*;clear hW0;go_region
  cases hkd:(nth t.raw 0==2)with
  |true=>
   clear HK;go_wp2_with fail;go_ret;exact⟨rfl,HF0.out⟩
  |false=>
   have hen:(t.en==100)=true:=by
    rcases HK with h|h
    ·rw[h]at hkd;cases hkd
    ·simpa using h
   clear HK he0 he1;go_wp2_with fail;go_ret;exact⟨rfl,HF0.out⟩
 ·simp only[if_neg HK];have hkd:(nth t.raw 0==2)=false:=(by simpa using fun h=>HK (.inl h));have hen:(t.en==100)=false:=(by simpa using fun h=>HK (.inr h));have hen1:t.en+1<=100:=(by have:=fun h=>HK (.inr h);omega);clear HK;go_enter Tryz.func87,Tryz.ntmps87;go_wp2_with fail;generalize hW0:w.alloc (.cells #[.int .i64 i,.string nm] 125)=W0 at*;clear hW0;go_region
  go_wp2_with fail;go_ret;have ha:=HA.out;have hl2:=HLW2.out;have hen2:=hl2.en hB hT (n:=t.en+1) (by omega) hen1;have hnbx:nb≠gx:=fun e=>(ha.2 i _ hB).1 e.symm
  refine⟨rfl,hen2,HM2.out.same ((Ai w2 gx 18 _).block _ HM2.out.lt (by simpa using hnbx)),(Ch.of HF.out (by simp)).trans (Ch.of (Ai w2 gx 18 _) (fun k hk=> .inr fun hx=>?_))⟩;rw[List.mem_singleton]at hk;subst hk;exact(hx.2 i _ hB).1 rfl
theorem Pk{s:List Int}(h:Bw s=true):0<=nth (Am s).1 2/\nth (Am s).1 2<=136704/\∀ p∈(Am s).1.drop 4,0<=p/\p<=4294967295:=by
 unfold Bw at h;simp only[Bool.and_eq_true,decide_eq_true_eq,Bool.not_eq_true',decide_eq_false_iff_not]at h;obtain⟨h1,h2⟩:=h;obtain⟨h3,-⟩:=dS h1;have hl:=Bo s;unfold B0 at h3;rw[if_neg h2]at h3;obtain⟨⟨-,-,h4,-⟩,h5,-⟩:=h3;refine⟨h4.1,h4.2,fun p hp=>?_⟩;obtain⟨j,hj⟩:=List.getElem?_of_mem hp;rw[List.getElem?_drop]at hj;have hlt:=(List.getElem?_eq_some_iff.1 hj).1;have:=h5 (4+j) (by omega) (by omega);have e:nth (Am s).1 (4+j)=p:=by unfold nth;rw[hj];rfl
 rw[e]at this;exact this
theorem Hi.new{V:WE}{ob:Option Nat}{B:Nat->Option (Nat×Nat)}{z:LZ}{w:World}(h:LW V ob B z w){k:Nat}(hk:w.heap.size<=k):Hi V ob B k:=
 ⟨fun hm=>by have:=h.mlt k hm;omega,fun i v hv=>by
  obtain⟨t,-,h1,h2,-⟩:=h.yes i v hv;have:=Aa h1;have:=h2.lt;omega⟩
theorem fZ{V:WE}{ob:Option Nat}{B:Nat->Option (Nat×Nat)}{z:LZ}{w:World}(h:LW V ob B z w)(i:Nat)(nm:ByteArray)(hn:nm.size<=40)(nb n:Nat)(names:ByteArray->Bool)(hnb:NB w nb n names)(hnn:n<maxLen)(ha:Hi V ob B nb)(hg0:V.G0<=nb)
  (hnm:names nm=false) (hi1:1<i) (hY:(i:Int)<=V.E.Y) (hB:B i=none):
  Calls Tryz.prog 87 #[.pointer (some ⟨V.E.gl,0,none⟩),.agg #[.int .i64 i,.string nm],.map (some nb)] w fun e w'=>
   if Bw (V.IMG i)=false then e= .returned (.bool false)/\Fr [] w w'
   else e= .returned (.bool true)/\∃ ob' B',LW V ob' B' (Dg V.E.X V.E.Y i (Am (V.IMG i)).1 1 z) w'/\NB w' nb (n+1) (Ll names nm)/\Ch V [nb] ob B w ob' B' w':=by
 have hsm:=h.small;obtain⟨hN4,hNX⟩:=h.img4096;have hf0:Fr [] w (w.alloc (.cells #[.int .i64 i,.string nm] 125)):=Be _ _ _;have hlk:=(hnb.same (A9 w (.cells #[.int .i64 i,.string nm] 125) nb hnb.lt)).look hn;rw[hnm]at hlk;have hw0:=h.fr hf0 (by simp);have hp:=(hw0.fr (Bb (Fr.refl [] _)) (by simp)).ptr i (by omega);rw[hB]at hp;simp only[Option.map_none,Lz]at hp;have hl:=hw0.k.look;have hsec:=hw0.secs;have HL:=zA hl;rw[h.img]at HL;unfold Bz at hl;have hsl:hat (w.alloc (.cells #[.int .i64 i,.string nm] 125)) w.heap.size=some (.cells #[.int .i64 i,.string nm] 125):=(A6 w _).1;have hnb0:=(hnb.same (A9 w (.cells #[.int .i64 i,.string nm] 125) nb hnb.lt));have hlts:=Aa hsl;have hnlt:=hnb.lt;have hne:w.heap.size≠nb:=by omega
 have hi2:((i:Int)==1)=false:=by simp;omega
 have hsa:=Hi.new h (Nat.le_refl w.heap.size);have hlw0:=hw0;have H:=zA h;have HLW0:=zA hlw0;have HNB0:=zA hnb0;have HSEC:=zA hsec;have HF0:=zA hf0;have HA:=zA ha;have HSA:=zA hsa;have hrl:=Bo (V.IMG i);have HSND:=zA (fun hs:Bw (V.IMG i)=true=>Pk hs);clear h hnb hw0 hf0 ha hnb0 hlw0 hsec hsa;cases hs:Bw (V.IMG i)with
 |false=>
  simp only[if_true];go_enter Tryz.func87,Tryz.ntmps87;go_wp2_with fail;generalize hW0:w.alloc (.cells #[.int .i64 i,.string nm] 125)=W0 at*;clear hW0;go_region
  go_wp2_with fail;refine(P6 V.E.X V.E.Y V.E.qf V.gi V.oi V.E.N V.ci V.IMG V.E.gl V.E.gw V.E.N V.E.cw V.E.bc V.E.bt V.E.bf i W0.drew HL.out (HSEC.out.same rfl) (by omega) hY hsm hN4).mono ?_;rintro e w2 ⟨rfl,hb2⟩;generalize hraw:(Am (V.IMG i)).1=raw at*;have HRAW:=zA hraw;clear hraw;have hf2:Fr [] W0 w2:=(Bb (Fr.refl [] _)).trans (Af hb2 []);have hsl2:=(hf2.block _ (Aa hsl) (by simp)).trans hsl;have hl2:=(hf2.block _ (Aa hl) (by simp)).trans hl;have hsl2l:=Aa hsl2;have hl2l:=Aa hl2;have HF2:=zA hf2;clear hp hlk hb2 hf2;rw[hs];go_wp2_with fail;go_ret;exact⟨rfl,(HF0.out.trans HF2.out).trans (Be _ _ _)⟩
 |true=>
  simp only[reduceCtorEq,if_false];obtain⟨hz0,hz1,hpt⟩:=HSND.out hs;have HPT:=zA hpt;clear HSND hpt;go_enter Tryz.func87,Tryz.ntmps87;go_wp2_with fail;generalize hW0:w.alloc (.cells #[.int .i64 i,.string nm] 125)=W0 at*;clear hW0;go_region
  go_wp2_with fail;refine(P6 V.E.X V.E.Y V.E.qf V.gi V.oi V.E.N V.ci V.IMG V.E.gl V.E.gw V.E.N V.E.cw V.E.bc V.E.bt V.E.bf i W0.drew HL.out (HSEC.out.same rfl) (by omega) hY hsm hN4).mono ?_;rintro e w2 ⟨rfl,hb2⟩;generalize hraw:(Am (V.IMG i)).1=raw at*;have HRAW:=zA hraw;clear hraw;have hf2:Fr [] W0 w2:=(Bb (Fr.refl [] _)).trans (Af hb2 []);have hsl2:=(hf2.block _ (Aa hsl) (by simp)).trans hsl;have hl2:=(hf2.block _ (Aa hl) (by simp)).trans hl;have hsl2l:=Aa hsl2;have hl2l:=Aa hl2;have HF2:=zA hf2;clear hp hlk hb2 hf2;rw[hs];clear hs;have hal:=(B7 w2 (.cells (IV .i64 raw) 78) hsl2).1;have hfa:=Be w2 (.cells (IV .i64 raw) 78) [];have hlw3:=(HLW0.out.fr HF2.out (by simp)).fr hfa (by simp);have HF3:=zA (HF2.out.trans hfa);have HLW3:=zA hlw3;have hl3:=(hfa.block _ (Aa hl2) (by simp)).trans hl2;have hr3:=(A6 w2 (.cells (IV .i64 raw) 78)).1;clear hlw3 hfa hl HL;go_wp2_with fail;generalize hW3:w2.alloc (.cells (IV .i64 raw) 78)=w3 at*;refine(eP HLW3.out i raw hrl (by omega) hY hB hz0 hz1 HPT.out).mono ?_;rintro e w4 ⟨rfl,ob',B',v,hlw4,hmv4,hB4⟩;have hsl4:=(hmv4.block _ (Aa hal) HSA.out (by simp)).trans hal;have hp4:=(hlw4.fr (Bb (Fr.refl [] w4)) (by simp)).ptr i (by omega);rw[hB4]at hp4;obtain⟨gx,bx⟩:=v;simp only[Option.map_some,Lz]at hp4;have hl4:=hlw4.k.look;unfold Bz at hl4;obtain⟨t4,ht4,hgx4,-⟩:=hlw4.yes i _ hB4;simp only at hgx4;obtain⟨-,-,hrl4,-⟩:=hlw4.zi.t i t4 ht4;have he4:t4=⟨(Aj V.E.X V.E.Y raw z.st).1,0,(Aj V.E.X V.E.Y raw z.st).2.bk⟩:=by
   have h5:A2 z.T i ⟨(Aj V.E.X V.E.Y raw z.st).1,0,(Aj V.E.X V.E.Y raw z.st).2.bk⟩ i=some t4:=ht4;unfold A2 at h5;rw[if_pos rfl]at h5;injection h5 with h5
   exact h5.symm
  have hte:t4.en=0:=(by rw[he4]);have k18:=bA hrl4 t4.en bx;have hz8:=Fj hrl4 t4.en bx;rw[hte]at k18 hz8 hgx4;have hnl0:=HNB0.out.lt;have hnb3:=HNB0.out.same (HF3.out.block nb hnl0 (by simp));have hnl3:=hnb3.lt;have hnb4:=hnb3.same (hmv4.block nb hnl3 HA.out (by simp));have ha4:=hmv4.apart nb hnl3 HA.out;obtain⟨w5,hr5,hm5,ht5⟩:=(show NB w4.drew nb n names from hnb4).put hnn hn;have f5:Fr [nb] w4 w5:=(Bb (Fr.refl _ _)).trans (Ge ht5);have hgx5:=(f5.block _ (Aa hgx4) (by have:=(ha4.2 i _ hB4).1;simpa using this)).trans hgx4;have hlw5:=hlw4.fr f5 (fun k hk=>by rw[List.mem_singleton]at hk;subst hk;exact⟨ha4,hg0⟩);generalize hc8:inC t4.raw 0 bx=c8 at hgx4 hgx5 k18 hz8;have j18:∀ h:18<c8.size,c8[18]'h=Value.int .i64 0:=fun h=>by
   rw[Array.getElem?_eq_getElem h]at k18;exact Option.some.inj k18
  have z18:18<c8.size:=(by omega);have hsl5:=(f5.block _ (Aa hsl4) (by simpa using hne)).trans hsl4;have hgxl4:=Aa hgx4;have hgxl5:=Aa hgx5;have hsll4:=Aa hsl4;have hll4:=Aa hl4;have hgn:gx≠nb:=(ha4.2 i _ hB4).1;have HMV:=zA ((Ch.from (HF0.out.trans HF3.out) hmv4 [nb] (by simp)).trans (Ch.of f5 (by simp)));have HLW5:=zA hlw5;have HM5:=zA hm5;have HT4:=zA ht4;have HE4:=zA he4;clear hlw4 hmv4 hlw5 hm5 ht5 f5 hnb3 hnb4 ha4 k18 ht4 he4 hl3 hr3 hal hsl2 hl2 hW3 hsl hsl2l hl2l;go_wp2_with fail;go_region
  go_wp2_with fail;go_ret;have hen:=HLW5.out.en hB4 HT4.out (n:=1) (by omega) (by omega);refine⟨rfl,ob',B',?_,HM5.out.same ((Ai w5 gx 18 _).block _ HM5.out.lt (by simpa using hgn.symm)),HMV.out.trans (Ch.of (Ai w5 gx 18 _) (fun k hk=> .inr fun hx=>?_))⟩
  ·have he:=HE4.out;subst he;have e:({Dg V.E.X V.E.Y i raw 0 z with T:=A2 (Dg V.E.X V.E.Y i raw 0 z).T i {(⟨(Aj V.E.X V.E.Y raw z.st).1,0,(Aj V.E.X V.E.Y raw z.st).2.bk⟩:TI)with en:=1}}:LZ)=Dg V.E.X V.E.Y i raw 1 z:=by
    unfold Dg;simp only[Uk]
   rw[e]at hen;rw[HRAW.out];exact hen
  ·rw[List.mem_singleton]at hk;subst hk;exact(hx.2 i _ hB4).1 rfl
theorem fY{V:WE}{ob:Option Nat}{B:Nat->Option (Nat×Nat)}{zn:LZ×(ByteArray->Bool)}{w:World}(h:LW V ob B zn.1 w)(i:Nat)(nm:ByteArray)(hn:nm.size<=40)(nb n:Nat)(hnb:NB w nb n zn.2)(hnn:n<maxLen)(ha:Hi V ob B nb)(hg0:V.G0<=nb)
  (hi1:1<=i) (hY:(i:Int)<=V.E.Y):
  Calls Tryz.prog 87 #[.pointer (some ⟨V.E.gl,0,none⟩),.agg #[.int .i64 i,.string nm],.map (some nb)] w fun e w'=>
   e= .returned (.bool (Cz V.E.X V.E.Y V.IMG i nm zn).1)/\∃ ob' B' n',n'<=n+1/\LW V ob' B' (Cz V.E.X V.E.Y V.IMG i nm zn).2.1 w'/\NB w' nb n' (Cz V.E.X V.E.Y V.IMG i nm zn).2.2/\Ch V [nb] ob B w ob' B' w':=by
 obtain⟨hN4,hNX⟩:=h.img4096;have hsm:=h.small
 have hstay:∀ w',Fr [] w w'->∃ ob' B' n',n'<=n+1/\LW V ob' B' zn.1 w'/\NB w' nb n' zn.2/\Ch V [nb] ob B w ob' B' w':=fun w' hf=>
  ⟨ob,B,n,by omega,h.fr hf (by simp),hnb.same (hf.block _ hnb.lt (by simp)),Ch.of hf (by simp)⟩
 unfold Cz;by_cases h0:zn.2 nm=true\/i=1
 ·simp only[if_pos h0];refine(kR h i nm hn nb n zn.2 hnb h0).mono ?_;rintro e w' ⟨rfl,hf⟩;exact⟨rfl,hstay w' hf⟩
 ·simp only[if_neg h0];have hnm:zn.2 nm=false:=(by simpa using fun h=>h0 (.inl h));have hi2:1<i:=(by have:¬ i=1:=fun h=>h0 (.inr h);omega);unfold Cn;cases hB:B i with
  |none=>
   have hT:=h.no i hB;rw[hT];simp only;refine(fZ h i nm hn nb n zn.2 hnb hnn ha hg0 hnm hi2 hY hB).mono ?_;intro e w' hh;by_cases hs:Bw (V.IMG i)=false
   ·rw[if_pos hs]at hh;obtain⟨rfl,hf⟩:=hh;rw[if_neg (by rw[hs];decide)];exact⟨rfl,hstay w' hf⟩
   ·rw[if_neg hs]at hh;obtain⟨rfl,ob',B',h1,h2,h3⟩:=hh;rw[if_pos (by simpa using hs)];exact⟨rfl,ob',B',n+1,Nat.le_refl _,h1,h2,h3⟩
  |some v=>
   obtain⟨t,hT,-⟩:=h.yes i v hB;rw[hT];simp only;refine(gD h i nm hn nb n zn.2 hnb hnn ha hg0 hnm hi2 (by omega) v hB t hT).mono ?_;intro e w' hh;by_cases hs:nth t.raw 0=2\/t.en=100
   ·rw[if_pos hs]at hh;obtain⟨rfl,hf⟩:=hh;rw[if_pos hs];exact⟨rfl,hstay w' hf⟩
   ·rw[if_neg hs]at hh;obtain⟨rfl,h1,h2,h3⟩:=hh;rw[if_neg hs];exact⟨rfl,ob,B,n+1,Nat.le_refl _,h1,h2,h3⟩
end Go.Proofs.YtmnecpnkkapflaaGreat
