import Derived.Maps.OwnSet
import Derived.Maps.RangeWalk
import Derived.Deep.AppendSrc
import Derived.Maps.AppendAt
import Derived.ProofKit
import Derived.Carry
import Derived.OpenShut
import Derived.Deep.Slices
import Derived.Deep.RegionHeld3
import Derived.Test.YtmnecpnkkapflaaGreatM01
import Derived.Test.YtmnecpnkkapflaaGreatM03
namespace Go.Proofs.YtmnecpnkkapflaaGreat
set_option maxHeartbeats 16000000
set_option maxRecDepth 1000000
set_option linter.unusedSimpArgs false
set_option linter.unusedVariables false
open Go.RowKit
theorem eH{a b:Int}{k:IntKind}(h:a=b):Ending.returned (.int k a)= .returned (.int k b):=by rw[h]
def El(p:Int):Prop:= -9223372036854775808<=p/\p<=9223372036854775807
theorem sG{p:Int}(h:El p):(Lit.int .i64 p).wf=true:=by
 unfold El at h;simp[Lit.wf,IntKind.min,IntKind.max,IntKind.signed,IntKind.bits];omega
theorem Lu{p:Int}(h:El p):keyOf Tryz.prog 3 (.int .i64 p)=some (.int .i64 p):=Go.Maps.keyOf_int_mk Tryz.underlying3 (sG h)
theorem Ip{p:Int}(h:El p):WideAt.IsKeyLit (.int .i64 p):=(Go.Maps.int_keyed Tryz.underlying3).key (Lu h)
theorem Gi{p q:Int}(h:p≠q):(Lit.int .i64 p)≠ .int .i64 q:=fun e=>h (by injection e)
def MB(w:World)(b n:Nat)(s:Int->Bool):Prop:=
 ∃ D:DataW Unit,w.ownsMap Tryz.prog 3 (plainElem Tryz.prog 4) b n D/\Go.Maps.IsMap D/\(∀ p,El p->Go.Maps.has D (.int .i64 p)=s p)/\∀ p,El p->D.atKey (.int .i64 p) (.lit (.bool false))= .lit (.bool (s p))
theorem MB.lt{w:World}{b n:Nat}{s:Int->Bool}(h:MB w b n s):b<w.heap.size:=by
 obtain⟨D,h1,-⟩:=h;exact h1.lt
theorem MB.same{w w':World}{b n:Nat}{s:Int->Bool}(h:MB w b n s)(he:hat w' b=hat w b):MB w' b n s:=by
 obtain⟨D,⟨es,clock,hb,h1⟩,h2⟩:=h;exact⟨D,⟨es,clock,he.trans hb,h1⟩,h2⟩
theorem MB.made(w:World):MB (w.alloc (.map #[] 0)) w.heap.size 0 (fun _=>false):=
 ⟨.map [],World.ownsMap_made w _ _ _,Go.Maps.isMap_empty,fun _ _=>rfl,fun _ _=>rfl⟩
theorem aI(w:World):(zeroValue 4).run Tryz.prog w= .ok (.bool false) w:=by kernel_rfl
theorem M5{v:Value}{x:Bool}{ps:List MemPlace}(h:plainElem (H:=Unit) Tryz.prog 4 v=some (.lit (.bool x),ps)):v= .bool x:=by
 cases v<;>simp[plainElem,Tryz.underlying4]at h
 rw[h.1]
theorem MB.look{w:World}{b n:Nat}{s:Int->Bool}(h:MB w b n s){p:Int}(hp:El p):(Instr.lookup 91 (.map (some b)) (.int .i64 p) false).run Tryz.prog w= .ok (.bool (s p)) w:=by
 obtain⟨D,h1,-,-,h3⟩:=h;obtain⟨v,ps,hr,hv⟩:=h1.lookup (Go.Maps.int_keyed Tryz.underlying3) Tryz.underlying91 (aI w) (zd:= .lit (.bool false)) (zp:=[]) (by simp[plainElem,Tryz.underlying4]) (Lu hp);rw[h3 p hp]at hv;rw[M5 hv]at hr;exact hr
theorem MB.put{w:World}{b n:Nat}{s:Int->Bool}(h:MB w b n s)(hn:n<maxLen){p:Int}(hp:El p):
  ∃ w',(Instr.mapUpdate 91 (.map (some b)) (.int .i64 p) (.bool true)).run Tryz.prog w= .ok () w'/\MB w' b (n+1) (fun q=>s q||decide (q=p))/\w.mapTurned w' b:=by
 obtain⟨D,h1,h0,h2,h3⟩:=h;obtain⟨w',hr,ho,ht⟩:=h1.store (Go.Maps.int_keyed Tryz.underlying3) Tryz.underlying91 hn (Lu hp) (d:= .lit (.bool true)) (ps:=[]) (val:= .bool true) (by simp[plainElem,Tryz.underlying4]);refine⟨w',hr,⟨_,ho,h0.put _ _,fun q hq=>?_,fun q hq=>?_⟩,ht⟩
 ·by_cases hqp:q=p
  ·subst hqp;rw[Go.Maps.has_put_same h0 (Ip hq)];simp
  ·rw[Go.Maps.has_put_other (Gi hqp),h2 q hq];simp[hqp]
 ·by_cases hqp:q=p
  ·subst hqp;rw[Go.Maps.atKey_put_same h0 (Ip hq)];simp
  ·rw[Go.Maps.atKey_put_other (Gi hqp),h3 q hq];simp[hqp]
theorem MB.del{w:World}{b n:Nat}{s:Int->Bool}(h:MB w b n s){p:Int}(hp:El p)(ty:TypeId):
  ∃ w',(Builtin.delete_ #[91,3] ty #[.map (some b),.int .i64 p]).run Tryz.prog w= .ok (.tuple #[]) w'/\MB w' b n (fun q=>s q&& !decide (q=p))/\w.mapTurned w' b:=by
 obtain⟨D,h1,h0,h2,h3⟩:=h;obtain⟨w',hr,ho,ht⟩:=h1.drop (Go.Maps.int_keyed Tryz.underlying3) Tryz.underlying91 (Lu hp) ty;refine⟨w',hr,⟨_,ho,h0.del _,fun q hq=>?_,fun q hq=>?_⟩,ht⟩
 ·by_cases hqp:q=p
  ·subst hqp;rw[Go.Maps.has_del_same];simp
  ·rw[Go.Maps.has_del_other (Gi hqp),h2 q hq];simp[hqp]
 ·by_cases hqp:q=p
  ·subst hqp;rw[Go.Maps.atKey_del_same];simp
  ·rw[Go.Maps.atKey_del_other (Gi hqp),h3 q hq];simp[hqp]
theorem B9{w w':World}{b k:Nat}(h:w.mapTurned w' b)(hk:k≠b)(hl:k<w.heap.size):hat w' k=hat w k:=h.grown.block k hl (fun e=>hk (by injection e))
section
variable {P:Program} {ops:Array Oper} {Q:Exit->Act->World->Prop}
theorem Av{o:Oper}{a:Act}{j d:Nat}{b:Bool}(ho:o.guard=some (j,b)){oj:Oper}(hj:ops[j]? =some oj)(hd:oj.dst=some d)(h:gt a d= .bool b):Region.wanted o (yielded ops a.tmps)=true:=by
 have h1:a.tmps[d]? =some (.bool b):=by
  unfold gt at h;rw[Array.getD_eq_getD_getElem?]at h;cases hx:a.tmps[d]? with
  |none=>rw[hx]at h;cases h
  |some v=>rw[hx]at h;exact congrArg some h
 have h2:yielded ops a.tmps j=some b:=by
  unfold yielded;rw[hj];simp[hd,h1]
 simp[Region.wanted,ho,h2]
theorem Ac{o:Oper}{a:Act}(ho:o.guard=none):Region.wanted o (yielded ops a.tmps)=true:=by simp[Region.wanted,ho]
theorem Ab{i:Nat}{o:Oper}{K:Act->World->Prop}{a:Act}{w w1:World}{v:Value}(ho:ops[i]? =some o)(hg:Region.wanted o (yielded ops a.tmps)=true)
  (hr:(execOp a.eval o).run P w= .ok (.value v) w1) (hk:K (a.put o.dst v) w1):wpOp P ops Q i K a w:=by
 unfold wpOp;simp only[ho];rw[if_pos hg];refine .inl ?_;unfold Oper.wp;rw[hr];exact hk
theorem Q1{i:Nat}{o:Oper}{K:Act->World->Prop}{a:Act}{w:World}{f:FuncId}{args:Array Value}{R:Ending->World->Prop}(ho:ops[i]? =some o)(hg:Region.wanted o (yielded ops a.tmps)=true)
  (hr:(execOp a.eval o).run P w= .ok (.enter f args) w) (hc:Calls P f args w R) (hk:∀ e w',R e w'->∃ v,e= .returned v/\K (a.put o.dst v) w'):wpOp P ops Q i K a w:=by
 unfold wpOp;simp only[ho];rw[if_pos hg];refine .inl ?_;unfold Oper.wp;rw[hr];refine hc.mono fun e w' hR=>?_
 obtain⟨v,rfl,hK⟩:=hk e w' hR;exact hK
end
def Bz(X Y:Int)(img:Value)(gw N cw:Nat)(bc bt bf:Nat)(qf:Value):Array Value:=
 #[.int .i64 X,.int .i64 Y,img,.slice (some ⟨gw,0,none⟩) N cw,.map (some bc),.map (some bt),.map (some bf),qf]
@[go_sem] theorem vP (raw:Result Value) (w:World) (a b c d e f g h:Value) (t:TypeId) (fr:Nat×Nat):Ea raw 2 0 w (some (.cells #[a,b,c,d,e,f,g,h] t fr))= .ok (.agg #[a,b]) w:=by
 rw[Dp (by simp)];rfl
theorem lJ(X Y p:Int)(img qf:Value)(gl gw N cw bc bt bf n:Nat)(s:Int->Bool)(w:World)(hl:hat w gl=some (.cells (Bz X Y img gw N cw bc bt bf qf) 95))(hc:MB w bc n s)(hn:n<maxLen)(hp:El p)
  (hd:isD X Y p=true) (hs:s p=false):
  Calls Tryz.prog 109 #[.pointer (some ⟨gl,0,none⟩),.int .i64 p] w fun e w'=>e= .returned (.bool true)/\∃ w1,Below w.heap.size w w1/\w1.mapTurned w' bc/\MB w' bc (n+1) (fun q=>s q||decide (q=p)):=by
 go_enter Tryz.func109,Tryz.ntmps109;unfold Bz at hl;have HC:=zA hc;clear hc;go_wp2_with fail;refine(Qr X Y p _).mono ?_;rintro e w1 ⟨rfl,hb⟩;rw[hd];obtain⟨hl1,-⟩:=hop hb hl;have hc1:=HC.out.same (A7 hb HC.out.lt);have hlk:=hc1.look hp;rw[hs]at hlk;obtain⟨w2,hr,hm,ht⟩:=hc1.put hn hp;have HM:=zA hm;have HT:=zA ht;have HB:=zA hb;clear hm ht hb hl hc1 HC;go_wp2_with fail;go_ret;exact⟨rfl,w1,HB.out,HT.out,HM.out⟩
theorem qG(X Y p:Int)(img qf:Value)(gl gw N cw bc bt bf n:Nat)(s:Int->Bool)(w:World)(hl:hat w gl=some (.cells (Bz X Y img gw N cw bc bt bf qf) 95))(hc:MB w bc n s)(hp:El p)
  (hd:isD X Y p=false\/s p=true):
  Calls Tryz.prog 109 #[.pointer (some ⟨gl,0,none⟩),.int .i64 p] w fun e w'=>e= .returned (.bool false)/\Below w.heap.size w w':=by
 go_enter Tryz.func109,Tryz.ntmps109;unfold Bz at hl;have HC:=zA hc;clear hc;go_wp2_with fail;refine(Qr X Y p _).mono ?_;rintro e w1 ⟨rfl,hb⟩;obtain⟨hl1,-⟩:=hop hb hl;have hc1:=HC.out.same (A7 hb HC.out.lt);have hlk:=hc1.look hp;clear hc1 HC hl;cases hd2:isD X Y p with
 |false=>
  clear hd;go_wp2_with fail;go_ret;exact⟨rfl,hb⟩
 |true=>
  rw[hd2]at hd;have hs:s p=true:=(by rcases hd with h|h<;>first|cases h|exact h);rw[hs]at hlk;clear hd hs;go_wp2_with fail;go_ret;exact⟨rfl,hb⟩
theorem U7(x:Nat)(cs:Array Value)(z:Int)(w:World)(hx:hat w x=some (.cells cs 102))(hz:cs[2]? =some (.int .i64 z))(h0:0<=z)(h1:z<=136704):
  Calls Tryz.prog 74 #[.pointer (some ⟨x,0,none⟩)] w fun e w'=>e= .returned (.int .i64 ((z+127)/128))/\Below w.heap.size w w':=by
 go_enter Tryz.func74,Tryz.ntmps74;go_wp2_with fail;go_ret;exact⟨eH (by omega),Below.refl _ _⟩
noncomputable def nT(x y:Int):List Int×Int:=open Classical in if Ew x y then(Cw x y,0)else(zl 128,60)
theorem nU{x y:Int}(h:Ew x y):nT x y=(Cw x y,0):=by unfold nT;rw[if_pos h]
theorem rP{x y:Int}(h:¬ Ew x y):nT x y=(zl 128,60):=by unfold nT;rw[if_neg h]
theorem U2(x y:Int):(Cw x y).length=128:=by simp[Cw];decide
@[go_sem,simp] theorem sQ (x y:Int):(nT x y).1.length=128:=by
 by_cases h:Ew x y
 ·simp only[nU h];exact U2 x y
 ·simp only[rP h,C2]
noncomputable def A1(s:List Int):Int×Int×Int:=open Classical in
 if Ew (Ak s 4 4) (Ak s 8 4)/\Cw (Ak s 4 4) (Ak s 8 4)=s then(Ak s 4 4,Ak s 8 4,0)else(0,0,60)
theorem Vu(s:List Int):Ds s= .tuple #[.agg #[.int .i64 (A1 s).1,.int .i64 (A1 s).2.1],.int .i64 (A1 s).2.2]:=by
 unfold Ds A1;split<;>rfl
theorem Sq(s:List Int)(hs:s.length=128)(hb:A4 s)(w:World):
  Calls Tryz.prog 47 #[.agg (IV .u8 s)] w fun e w'=>e= .returned (.tuple #[.agg #[.int .i64 (A1 s).1,.int .i64 (A1 s).2.1],.int .i64 (A1 s).2.2])/\Below w.heap.size w w':=by
 rw[<-Vu];exact Ss s hs hb w
theorem Tt(s:List Int)(hs:s.length=128)(hb:A4 s)(w:World):
  Calls Tryz.prog 37 #[.agg (IV .u8 s)] w fun e w'=>e= .returned (.tuple #[.agg #[.int .i64 (A1 s).1,.int .i64 (A1 s).2.1],.int .i64 (A1 s).2.2])/\Below w.heap.size w w':=by
 rw[<-Vu];exact Tv s hs hb w
noncomputable def Dr(l:List Int):List Int×Int:=open Classical in if B0 l then(Cp l,0)else(zl 128,61)
theorem Ix{l:List Int}(h:B0 l):Dr l=(Cp l,0):=by unfold Dr;rw[if_pos h]
theorem Rf{l:List Int}(h:¬ B0 l):Dr l=(zl 128,61):=by unfold Dr;rw[if_neg h]
@[go_sem,simp] theorem Je (l:List Int):(Dr l).1.length=128:=by
 by_cases h:B0 l
 ·simp only[Ix h];unfold Cp;exact Em _ _
 ·simp only[Rf h,C2]
theorem lV(l:List Int)(hl:l.length=18)(w:World):
  Calls Tryz.prog 88 #[.agg (IV .i64 l)] w fun e w'=>e= .returned (.tuple #[.agg (IV .u8 (Dr l).1),.int .i64 (Dr l).2])/\Below w.heap.size w w':=by
 by_cases h:B0 l
 ·simp only[Ix h];exact K6 l hl h w
 ·simp only[Rf h];exact K5 l hl h w
theorem mY(l:List Int)(hl:l.length=18)(w:World):
  Calls Tryz.prog 59 #[.agg (IV .i64 l)] w fun e w'=>e= .returned (.tuple #[.agg (IV .u8 (Dr l).1),.int .i64 (Dr l).2])/\Below w.heap.size w w':=by
 by_cases h:B0 l
 ·simp only[Ix h];exact La l hl h w
 ·simp only[Rf h];exact K9 l hl h w
noncomputable def Am(s:List Int):List Int×Int:=open Classical in
 if B0 (Eh (Ak s 8 8) s)/\Cp (Eh (Ak s 8 8) s)=s then(Eh (Ak s 8 8) s,0)else(zl 18,61)
theorem Vs(s:List Int):L1 s= .tuple #[.agg (IV .i64 (Am s).1),.int .i64 (Am s).2]:=by
 unfold L1 Am;split<;>rfl
@[go_sem,simp] theorem Bo (s:List Int):(Am s).1.length=18:=by
 unfold Am;split
 ·exact Kq _ _
 ·simp
theorem bK(s:List Int)(hs:s.length=128)(hb:A4 s)(w:World):
  Calls Tryz.prog 73 #[.agg (IV .u8 s)] w fun e w'=>e= .returned (.tuple #[.agg (IV .i64 (Am s).1),.int .i64 (Am s).2])/\Below w.heap.size w w':=by
 rw[<-Vs];exact Sr s hs hb w
theorem cG(s:List Int)(hs:s.length=128)(hb:A4 s)(w:World):
  Calls Tryz.prog 38 #[.agg (IV .u8 s)] w fun e w'=>e= .returned (.tuple #[.agg (IV .i64 (Am s).1),.int .i64 (Am s).2])/\Below w.heap.size w w':=by
 rw[<-Vs];exact Tu s hs hb w
noncomputable def D5(x:List Int):List Int×Int:=open Classical in if F8 x then(Dh x 32,0)else(zl 128,62)
theorem J5{l:List Int}(h:F8 l):D5 l=(Dh l 32,0):=by unfold D5;rw[if_pos h]
theorem W7{l:List Int}(h:¬ F8 l):D5 l=(zl 128,62):=by unfold D5;rw[if_neg h]
theorem eF(x:List Int):bW x= .tuple #[.agg (IV .u8 (D5 x).1),.int .i64 (D5 x).2]:=by
 by_cases h:F8 x
 ·simp only[Ta h,J5 h]
 ·simp only[W8 h,W7 h]
@[go_sem,simp] theorem L0 (l:List Int):(D5 l).1.length=128:=by
 by_cases h:F8 l
 ·simp only[J5 h];exact Gw _ _
 ·simp only[W7 h,C2]
theorem lY(x:List Int)(hx:x.length=32)(w:World):
  Calls Tryz.prog 111 #[.agg (IV .i64 x)] w fun e w'=>e= .returned (.tuple #[.agg (IV .u8 (D5 x).1),.int .i64 (D5 x).2])/\Below w.heap.size w w':=by
 rw[<-eF];exact Mt x hx w
theorem nH(x:List Int)(hx:x.length=32)(w:World):
  Calls Tryz.prog 116 #[.agg (IV .i64 x)] w fun e w'=>e= .returned (.tuple #[.agg (IV .u8 (D5 x).1),.int .i64 (D5 x).2])/\Below w.heap.size w w':=by
 rw[<-eF];exact Mx x hx w
def Ax(s:List Int):Int×ByteArray×Int:=if Cv (Ak s 0 4) (Mv s)=(s,0)then(Ak s 0 4,Mv s,0)else(0,{data:= #[]},63)
theorem Tg(s:List Int):Dl s= .tuple #[.agg #[.int .i64 (Ax s).1,.string (Ax s).2.1],.int .i64 (Ax s).2.2]:=by
 unfold Dl Ax;split<;>rfl
theorem bL(s:List Int)(hs:s.length=128)(hb:A4 s)(w:World):
  Calls Tryz.prog 86 #[.agg (IV .u8 s)] w fun e w'=>e= .returned (.tuple #[.agg #[.int .i64 (Ax s).1,.string (Ax s).2.1],.int .i64 (Ax s).2.2])/\Below w.heap.size w w':=by
 rw[<-Tg];exact Uw s hs hb w
theorem cH(s:List Int)(hs:s.length=128)(hb:A4 s)(w:World):
  Calls Tryz.prog 95 #[.agg (IV .u8 s)] w fun e w'=>e= .returned (.tuple #[.agg #[.int .i64 (Ax s).1,.string (Ax s).2.1],.int .i64 (Ax s).2.2])/\Below w.heap.size w w':=by
 rw[<-Tg];exact Uz s hs hb w
theorem Dy{B:Nat}{a w:World}(h:Below B a w):Below B a w.drew:=⟨h.os,h.tape,h.output,h.size,h.block⟩
def G9(w:World)(g o N:Nat)(S:Nat->List Int):Prop:=∃ cs t fr,hat w g=some (.cells cs t fr)/\o+N*128<=cs.size/\
 ∀ i,i<N->(S i).length=128/\A4 (S i)/\cs.extract (o+i*128) (o+i*128+128)=IV .u8 (S i)
theorem G9.lt{w:World}{g o N:Nat}{S:Nat->List Int}(h:G9 w g o N S):g<w.heap.size:=by
 obtain⟨cs,t,fr,h1,-⟩:=h;exact Aa h1
theorem G9.same{w w':World}{g o N:Nat}{S:Nat->List Int}(h:G9 w g o N S)(he:hat w' g=hat w g):G9 w' g o N S:=by
 obtain⟨cs,t,fr,h1,h2⟩:=h;exact⟨cs,t,fr,he.trans h1,h2⟩
theorem G9.load{w:World}{g o N:Nat}{S:Nat->List Int}(h:G9 w g o N S){i:Nat}(hi:i<N):
  ∃ cs t fr,hat w g=some (.cells cs t fr)/\∀ raw w',Ea raw 128 (o+i*128) w' (some (.cells cs t fr))= .ok (.agg (IV .u8 (S i))) w':=by
 obtain⟨cs,t,fr,h1,h2,h3⟩:=h;refine⟨cs,t,fr,h1,fun raw w'=>?_⟩;rw[Dp (by omega),(h3 i hi).2.2]
theorem G9.len{w:World}{g o N:Nat}{S:Nat->List Int}(h:G9 w g o N S){i:Nat}(hi:i<N):(S i).length=128/\A4 (S i):=by
 obtain⟨cs,t,fr,h1,h2,h3⟩:=h;exact⟨(h3 i hi).1,(h3 i hi).2.1⟩
noncomputable def Bw(s:List Int):Bool:=decide ((Am s).2=0)&& !decide (nth (Am s).1 0=0)
theorem P6(X Y:Int)(qf:Value)(gi oi N ci:Nat)(S:Nat->List Int)(gl gw NW cw bc bt bf:Nat)(i:Nat)(w:World)(hl:hat w gl=some (.cells (Bz X Y (.slice (some ⟨gi,oi,none⟩) N ci) gw NW cw bc bt bf qf) 95))
  (hS:G9 w gi oi N S) (h1:1<=i) (hY:(i:Int)<=Y) (hN:Y<N) (hN2:N<=4096):
  Calls Tryz.prog 49 #[.pointer (some ⟨gl,0,none⟩),.int .i64 i] w fun e w'=>e= .returned (.tuple #[.agg (IV .i64 (Am (S i)).1),.bool (Bw (S i))])/\Below w.heap.size w w':=by
 unfold Bz at hl;have hi:i<N:=by omega
 obtain⟨cs,t,fr,hcs,hld⟩:=hS.load hi;obtain⟨hlen,hby⟩:=hS.len hi;have hcall:=fun w=>bK (S i) hlen hby w
 have hrl:=Bo (S i);unfold Bw;generalize (Am (S i)).1=l at*;generalize (Am (S i)).2=c at*;have HCALL:=zA hcall;clear hcall;have hgl:=Aa hl;have hgi:=Aa hcs;have d1:decide ((i:Int)<1)=false:=decide_eq_false (by omega);have d2:decide (Y<(i:Int))=false:=decide_eq_false (by omega);have hiN:(i:Int)<(N:Int):=by omega
 clear hS hlen hby;go_enter Tryz.func49,Tryz.ntmps49;go_wp2_with fail;refine(HCALL.out _).mono ?_;rintro e w1 ⟨rfl,hb⟩;have hsz:=hb.size;have hres:hat w1 w.heap.size=some (.cells (IV .i64 (zl 18)) 78):=(A7 hb (A6 w _).2).trans (A6 w _).1;have hlt:w.heap.size<w1.heap.size:=Aa hres;have hb0:Below w.heap.size w w1:=((Below.refl w.heap.size w).alloc (Nat.le_refl _) _).trans (hb.mono (by simp));have HB:=zA hb0;clear hb hsz hb0;cases dc:(c==0)
 ·go_wp2_with fail;go_region
  go_wp2_with fail;refine Aw M8 rfl (cs:=IV .i64 l) rfl (B7 _ _ (Ed hres _).1).1 (by simp[hrl]) rfl ⟨?_,Dy (As (Ag HB.out (Nat.le_refl _) _) (by simp;omega) _)⟩;have hc0:¬ c=0:=(by simpa using dc);simp[hc0]
 ·go_wp2_with fail;go_region
  go_wp2_with fail;refine Aw M8 rfl (cs:=IV .i64 l) rfl (B7 _ _ (Ed hres _).1).1 (by simp[hrl]) rfl ⟨?_,Dy (As (Ag HB.out (Nat.le_refl _) _) (by simp;omega) _)⟩;have hc0:c=0:=(by simpa using dc);by_cases h0:nth l 0=0<;>simp[hc0,h0]
theorem D8{α:Type}{l:List α}{k:Nat}(h:k<l.length):∃ x,l[k]? =some x:=⟨l[k],List.getElem?_eq_getElem h⟩
theorem Io{α:Type}{l:List α}{k:Nat}{x:α}(h:l[k]? =some x):l.drop k=x::l.drop (k+1):=by
 obtain⟨hk,rfl⟩:=List.getElem?_eq_some_iff.1 h;exact List.drop_eq_getElem_cons hk
theorem O0{pre r:List Int}{p:Int}{k:Nat}(h:pre.length=k):(pre++p::r).set k 0=(pre++[0])++r:=by
 subst h;simp
def A0{σ:Type}(At:Int->σ->Bool×σ)(keepP:Nat->Int->σ->Bool×σ)(base step n:Int):Nat->List Int->σ->List Int×Bool×σ
 |_,[],st=>([],false,st)
 |k,p::r,st=>
  if p=0 then(0::(A0 At keepP base step n (k+1) r st).1,(A0 At keepP base step n (k+1) r st).2.1,(A0 At keepP base step n (k+1) r st).2.2)
  else if n<=base+step*k then(0::(A0 At keepP base step n (k+1) r st).1,(A0 At keepP base step n (k+1) r st).2.1,(A0 At keepP base step n (k+1) r st).2.2)
  else if (At p st).1=false then(0::(A0 At keepP base step n (k+1) r (At p st).2).1,(A0 At keepP base step n (k+1) r (At p st).2).2.1,(A0 At keepP base step n (k+1) r (At p st).2).2.2)
  else if (keepP k p (At p st).2).1=false then
   (0::(A0 At keepP base step n (k+1) r (keepP k p (At p st).2).2).1,(A0 At keepP base step n (k+1) r (keepP k p (At p st).2).2).2.1,(A0 At keepP base step n (k+1) r (keepP k p (At p st).2).2).2.2)
  else(p::(A0 At keepP base step n (k+1) r (keepP k p (At p st).2).2).1,true,(A0 At keepP base step n (k+1) r (keepP k p (At p st).2).2).2.2)
theorem E6{σ:Type}(At:Int->σ->Bool×σ)(keepP:Nat->Int->σ->Bool×σ)(base step n:Int)(k:Nat)(p:Int)(r:List Int)(st:σ):A0 At keepP base step n k (p::r) st=
  if p=0 then(0::(A0 At keepP base step n (k+1) r st).1,(A0 At keepP base step n (k+1) r st).2.1,(A0 At keepP base step n (k+1) r st).2.2)
  else if n<=base+step*k then(0::(A0 At keepP base step n (k+1) r st).1,(A0 At keepP base step n (k+1) r st).2.1,(A0 At keepP base step n (k+1) r st).2.2)
  else if (At p st).1=false then(0::(A0 At keepP base step n (k+1) r (At p st).2).1,(A0 At keepP base step n (k+1) r (At p st).2).2.1,(A0 At keepP base step n (k+1) r (At p st).2).2.2)
  else if (keepP k p (At p st).2).1=false then
   (0::(A0 At keepP base step n (k+1) r (keepP k p (At p st).2).2).1,(A0 At keepP base step n (k+1) r (keepP k p (At p st).2).2).2.1,(A0 At keepP base step n (k+1) r (keepP k p (At p st).2).2).2.2)
  else(p::(A0 At keepP base step n (k+1) r (keepP k p (At p st).2).2).1,true,(A0 At keepP base step n (k+1) r (keepP k p (At p st).2).2).2.2):=rfl
theorem Ep{σ:Type}(At:Int->σ->Bool×σ)(keepP:Nat->Int->σ->Bool×σ)(base step n:Int):∀ (r:List Int) (k:Nat) (st:σ),(A0 At keepP base step n k r st).1.length=r.length
 |[],_,_=>rfl
 |p::r,k,st=>by
  unfold A0;split
  ·simp[Ep At keepP base step n r]
  ·split
   ·simp[Ep At keepP base step n r]
   ·split
    ·simp[Ep At keepP base step n r]
    ·split
     ·simp[Ep At keepP base step n r]
     ·simp[Ep At keepP base step n r]
def Gn(w:World)(g o:Nat)(t:TypeId)(sz:Nat)(re:Nat->Option Value)(ps:List Int):Prop:=∃ cs,hat w g=some (.cells cs t (0,0))/\cs.size=sz/\o+ps.length<=cs.size/\(∀ j p,ps[j]? =some p->cs[o+j]? =some (.int .i64 p))/\∀ j,(j<o\/o+ps.length<=j)->cs[j]? =re j
theorem Gn.same{w w':World}{g o sz:Nat}{t:TypeId}{re:Nat->Option Value}{ps:List Int}(h:Gn w g o t sz re ps)(he:hat w' g=hat w g):Gn w' g o t sz re ps:=by
 obtain⟨cs,h1,h2⟩:=h;exact⟨cs,he.trans h1,h2⟩
theorem Gn.cell{w:World}{g o j sz:Nat}{t:TypeId}{re:Nat->Option Value}{ps:List Int}{p:Int}(h:Gn w g o t sz re ps)(hj:ps[j]? =some p):∃ cs,hat w g=some (.cells cs t (0,0))/\cs[o+j]? =some (.int .i64 p):=by
 obtain⟨cs,h1,h2,h3,h4,-⟩:=h;exact⟨cs,h1,h4 j p hj⟩
theorem Gn.lt{w:World}{g o sz:Nat}{t:TypeId}{re:Nat->Option Value}{ps:List Int}(h:Gn w g o t sz re ps):g<w.heap.size:=by
 obtain⟨cs,h1,-⟩:=h;exact Aa h1
theorem Gn.zero{w:World}{g o j sz:Nat}{t:TypeId}{re:Nat->Option Value}{ps:List Int}(h:Gn w g o t sz re ps)(hj:j<ps.length):Gn (w.setCell ⟨g,o+j,none⟩ (.int .i64 0)) g o t sz re (ps.set j 0):=by
 obtain⟨cs,h1,h0,h2,h3,h4⟩:=h;refine⟨cs.setIfInBounds (o+j) (.int .i64 0),Ah _ _ _ _ _ _ _ h1,by simpa using h0,by simpa using h2,fun i p hi=>?_,fun i hi=>?_⟩;rotate_left
 ·rw[List.length_set]at hi;rw[Array.getElem?_setIfInBounds,if_neg (by omega)];exact h4 i hi
 rw[List.getElem?_set]at hi;rw[Array.getElem?_setIfInBounds];by_cases hij:j=i
 ·subst hij;rw[if_pos rfl,if_pos hj]at hi;obtain rfl:=Option.some.inj hi;rw[if_pos rfl,if_pos (by omega)]
 ·rw[if_neg hij]at hi;rw[if_neg (by omega)];exact h3 i p hi
theorem Gn.all{w:World}{g:Nat}{t:TypeId}{re:Nat->Option Value}{ps:List Int}(h:Gn w g 0 t ps.length re ps):hat w g=some (.cells (IV .i64 ps) t):=by
 obtain⟨cs,h1,h0,h2,h3,-⟩:=h;rw[h1];have:cs=IV .i64 ps:=by
  apply Array.ext_getElem?
  intro j;rw[Bl];by_cases hj:j<ps.length
  ·have h4:=h3 j ps[j] (List.getElem?_eq_getElem hj);rw[Nat.zero_add]at h4;rw[h4,List.getElem?_eq_getElem hj];rfl
  ·rw[Array.getElem?_eq_none (by omega),List.getElem?_eq_none (by omega)];rfl
 rw[this]
theorem T9{σ:Type}(At:Int->σ->Bool×σ)(keepP:Nat->Int->σ->Bool×σ)(base step n:Int)(I:World->σ->Prop)(lv:Value)(f:Nat)(caps:Array Value)(gp op cp sz:Nat)(tg:TypeId)(re:Nat->Option Value)(ps:List Int)(st:σ)(w:World)
  (hf:∀ args w,(callFunc f args).run Tryz.prog w= .ok (.enter f args) w) (hI:I w st) (hN:Gn w gp op tg sz re ps) (hc:ps.length<=cp) (hm:ps.length<=32) (h0:0<=base) (h1:base<=2000) (h2:0<=step) (h3:step<=100) (h4:0<=n) (h5:n<=100000) (hp:∀ p∈ps,0<=p/\p<=4294967295)
  (hset:∀ w st j v,op<=j->j<op+ps.length->I w st->I (w.setCell ⟨gp,j,none⟩ v) st)
  (hgood:∀ p st w,0<=p->p<=4294967295->I w st->Calls Tryz.prog 109 #[lv,.int .i64 p] w fun e w'=>e= .returned (.bool (At p st).1)/\I w' (At p st).2/\hat w' gp=hat w gp)
  (hkeep:∀ (k:Nat) p st w,k<ps.length->0<=p->p<=4294967295->(∃ s0,(At p s0).1=true)->I w st->Calls Tryz.prog f (#[.int .i64 k,.int .i64 p]++caps) w fun e w'=>e= .returned (.bool (keepP k p st).1)/\I w' (keepP k p st).2/\hat w' gp=hat w gp):
  Calls Tryz.prog 76 #[lv,.slice (some ⟨gp,op,none⟩) ps.length cp,.int .i64 base,.int .i64 step,.int .i64 n,.func (.func f) #[] caps] w fun e w'=>
   e= .returned (.bool (A0 At keepP base step n 0 ps st).2.1)/\I w' (A0 At keepP base step n 0 ps st).2.2/\Gn w' gp op tg sz re (A0 At keepP base step n 0 ps st).1:=by
 have HI:=zA hI;have HN:=zA hN;have HS:=zA hset;have HG:=zA hgood;have HK:=zA hkeep;have HP:=zA hp;clear hI hN hset hgood hkeep hp;generalize hM:ps.length=M at*;have HM:=zA hM;clear hM;go_enter Tryz.func76,Tryz.ntmps76;go_wp2_with fail
 go_loopw [13,18] (fun lf i wr=>∃ (k:Nat) (pre:List Int) (b:Bool) (st':σ),k<=M/\i= .int .i64 k/\lf= .bool b/\pre.length=k/\I wr st'/\Gn wr gp op tg sz re (pre++ps.drop k)/\
   A0 At keepP base step n 0 ps st=(pre++(A0 At keepP base step n k (ps.drop k) st').1,b||(A0 At keepP base step n k (ps.drop k) st').2.1,(A0 At keepP base step n k (ps.drop k) st').2.2)) (fun _ i _=>M-(intOf i).toNat)
 case atStart=>exact⟨0,[],false,st,Nat.zero_le _,rfl,rfl,rfl,HI.out,by simpa using HN.out,by simp⟩
 case round=>
  obtain⟨k,pre,b,st',hk,rfl,rfl,hpl,hI,hN,he⟩:=hrel;have HI:=zA hI;have HN:=zA hN;have HE:=zA he;have HL:=zA hpl;clear hI hN he hpl;by_cases hkM:k<M
  ·obtain⟨p,hpk⟩:=D8 (l:=ps) (k:=k) (by rw[HM.out];exact hkM);have hdr:=Io hpk;have hpb:=HP.out p (List.mem_of_getElem? hpk);obtain⟨hpb0,hpb1⟩:=hpb;have hE:=HE.out;rw[hdr,E6]at hE;have hcell:=HN.out.cell (j:=k) (p:=p) (by rw[List.getElem?_append_right (by rw[HL.out];exact Nat.le_refl _),HL.out,Nat.sub_self,hdr];rfl);obtain⟨cs,hcs,hck⟩:=hcell;have hki0:(0:Int)<=(k:Int):=Int.natCast_nonneg _;have hki1:(k:Int)<(M:Int):=(by omega);have HD:=zA hdr;clear hdr HE;by_cases hp0:p=0
   ·rw[if_pos hp0]at hE;have HE:=zA hE;have dp:(p==0)=true:=(by simpa using hp0);clear hE;go_wp2_with fail;go_roundw
    case rel=>
     refine⟨k+1,pre++[0],b,st',by omega,by go_num,rfl,by simp[HL.out],HI.out,?_,?_⟩
     ·have h:=HN.out;rw[HD.out,hp0]at h;simpa using h
     ·rw[HE.out];simp
    case measure=>(show M-(k+1)<M-k);omega
   ·rw[if_neg hp0]at hE;have dp:(p==0)=false:=(by simpa using hp0);have hks:0<=step*(k:Int)/\step*(k:Int)<=3200:=⟨Int.mul_nonneg h2 hki0,by have:=Int.mul_le_mul h3 (show(k:Int)<=32 by omega) hki0 (by omega);omega⟩;obtain⟨hks0,hks1⟩:=hks;generalize hSK:step*(k:Int)=SK at*;by_cases hnb:n<=base+SK
    ·rw[if_pos hnb]at hE;have HE:=zA hE;have dn:decide (n<=base+SK)=true:=decide_eq_true hnb;clear hE;have hz:=HN.out.zero (j:=k) (by simp[HL.out,HD.out]);rw[HD.out,O0 HL.out]at hz;have HZ:=zA hz;clear hz;go_wp2_with fail;go_roundw
     case rel=>exact⟨k+1,pre++[0],b,st',by omega,by go_num,rfl,by simp[HL.out],HS.out _ _ _ _ (by omega) (by omega) HI.out,HZ.out,by rw[HE.out];simp⟩
     case measure=>(show M-(k+1)<M-k);omega
    ·rw[if_neg hnb]at hE;have dn:decide (n<=base+SK)=false:=decide_eq_false hnb;have HE:=zA hE;clear hE;go_wp2_with fail;refine(HG.out p st' wr hpb0 hpb1 HI.out).mono ?_;rintro e w2 ⟨rfl,hI2,hg2⟩;have HI2:=zA hI2;have hcs2:=hg2.trans hcs;have hN2:=HN.out.same hg2;have hz:=(hN2.zero (j:=k) (by simp[HL.out,HD.out]));have hd2:=hN2;rw[HD.out,O0 HL.out]at hz;have HZ:=zA hz;have HN2:=zA hN2;clear hI2 hz hd2 hN2 hg2;cases hgb:(At p st').1 with
     |false=>
      have hE:=HE.out;rw[if_pos hgb]at hE;have HE:=zA hE;clear hE hgb;go_wp2_with fail;go_roundw
      case rel=>exact⟨k+1,pre++[0],b,(At p st').2,by omega,by go_num,rfl,by simp[HL.out],HS.out _ _ _ _ (by omega) (by omega) HI2.out,HZ.out,by rw[HE.out];simp⟩
      case measure=>(show M-(k+1)<M-k);omega
     |true=>
      have hE:=HE.out;rw[if_neg (by rw[hgb];decide)]at hE;have HE:=zA hE;have HGB:Hid (∃ s0,(At p s0).1=true):=zA ⟨st',hgb⟩;clear hE hgb;go_wp2_with fail;refine(HK.out k p (At p st').2 w2 hkM hpb0 hpb1 HGB.out HI2.out).mono ?_;rintro e w3 ⟨rfl,hI3,hg3⟩;have HI3:=zA hI3;have hcs3:=hg3.trans hcs2;have hN3:=HN2.out.same hg3;have hz:=(hN3.zero (j:=k) (by simp[HL.out,HD.out]));have hd3:=hN3;rw[HD.out,O0 HL.out]at hz;rw[HD.out]at hd3;have HZ:=zA hz;have HD3:=zA hd3;clear hI3 hz hd3 hN3 hg3 hcs2;cases hkb:(keepP k p (At p st').2).1 with
      |false=>
       have hE:=HE.out;rw[if_pos hkb]at hE;have HE:=zA hE;clear hE hkb;go_wp2_with fail;go_roundw
       case rel=>exact⟨k+1,pre++[0],b,(keepP k p (At p st').2).2,by omega,by go_num,rfl,by simp[HL.out],HS.out _ _ _ _ (by omega) (by omega) HI3.out,HZ.out,by rw[HE.out];simp⟩
       case measure=>(show M-(k+1)<M-k);omega
      |true=>
       have hE:=HE.out;rw[if_neg (by rw[hkb];decide)]at hE;have HE:=zA hE;clear hE hkb;go_wp2_with fail;go_roundw
       case rel=>exact⟨k+1,pre++[p],true,(keepP k p (At p st').2).2,by omega,by go_num,rfl,by simp[HL.out],HI3.out,by simpa using HD3.out,by rw[HE.out];simp⟩
       case measure=>(show M-(k+1)<M-k);omega
  ·obtain rfl:k=M:=(by omega);have hdr:ps.drop k=[]:=List.drop_of_length_le (by rw[HM.out];exact Nat.le_refl _);have hE:=HE.out;have hNN:=HN.out;rw[hdr]at hE hNN;simp[A0]at hE hNN;have HNN:=zA hNN;have HE:=zA hE;clear hE hNN hdr HN;go_wp2_with fail;go_ret;rw[HE.out];exact⟨rfl,HI.out,HNN.out⟩
theorem R7(n:Nat):∀ l:List Nat,l.Pairwise (· ≠ ·)->l.length<=(l.filter fun x=>x !=n).length+1
 |[],_=>by simp
 |x::r,hp=>by
  rw[List.pairwise_cons]at hp;by_cases hx:x=n
  ·subst hx;have hr:r.filter (fun y=>y !=x)=r:=by
    rw[List.filter_eq_self];intro y hy;have:=hp.1 y hy;simpa using fun e=>this e.symm
   rw[List.filter_cons_of_neg (by simp),hr];simp
  ·rw[List.filter_cons_of_pos (by simpa using hx)];have:=R7 n r hp.2;rw[List.length_cons,List.length_cons];omega
theorem R4:∀ (n:Nat) (l:List Nat),l.Pairwise (· ≠ ·)->(∀ x∈l,x<n)->l.length<=n
 |0,l,_,h=>by
  cases l with
  |nil=>simp
  |cons x r=>exact absurd (h x (by simp)) (by omega)
 |n+1,l,hp,h=>by
  have h1:(l.filter fun x=>x !=n).length<=n:=R4 n _ (hp.filter _) (fun x hx=>by
   rw[List.mem_filter]at hx;have:=h x hx.1;have h2:x≠n:=(by simpa using hx.2);omega)
  have:=R7 n l hp;omega
def bF:Lit->Nat
 | .int _ p=>p.toNat
 |_=>0
theorem Vl{α:Type}(l:List α)(f:α->Nat)(R:α->α->Prop)(hp:l.Pairwise R)(hf:∀ a∈l,∀ b∈l,R a b->f a≠f b):(l.map f).Pairwise (· ≠ ·):=by
 induction l with
 |nil=>simp
 |cons x r ih=>
  rw[List.pairwise_cons]at hp;rw[List.map_cons,List.pairwise_cons];refine⟨fun y hy=>?_,ih hp.2 (fun a ha b hb=>hf a (by simp[ha]) b (by simp[hb]))⟩;obtain⟨z,hz,rfl⟩:=List.mem_map.1 hy;exact hf x (by simp) z (by simp[hz]) (hp.1 z hz)
theorem Mj{p:Int}(h:(Lit.int .i64 p).wf=true):El p:=by
 simp[Lit.wf,IntKind.min,IntKind.max,IntKind.signed,IntKind.bits]at h;exact⟨by omega,by omega⟩
theorem Px{w:World}{R:Value->Option (DataW Unit×List MemPlace)}{b n:Nat}{D:DataW Unit}(h:w.ownsMap Tryz.prog 3 R b n D)(hk:∀ p,El p->Go.Maps.has D (.int .i64 p)=true->0<=p/\p<4096):w.ownsMap Tryz.prog 3 R b 4096 D:=by
 have htidy:=h.tidy (Go.Maps.int_keyed Tryz.underlying3);obtain⟨es,clock,hb,F,hs,hD⟩:=h;refine⟨es,clock,hb,F,?_,hD⟩;obtain⟨l,hl,hp⟩:=htidy;have hlen:es.size=l.length:=by
  rw[hl]at hD;injection hD with hD
  have h2:=congrArg List.length hD;rw[length_sorted]at h2;simpa using h2.symm
 have hkey:∀ x∈l,∃ p:Int,x.1= .int .i64 p/\0<=p/\p<4096:=fun x hx=>by
  have hx0:=hx;rw[hl]at hD;injection hD with hD
  rw[hD]at hx;have hx2:=(WideShapes.sorted_perm _).mem_iff.1 hx;obtain⟨v,hv⟩:=Go.Maps.fit_keys F x hx2;have hkl:WideAt.IsKeyLit x.1:=(Go.Maps.int_keyed Tryz.underlying3).key hv;obtain⟨p,-,h1,hw⟩:=Go.Maps.keyOf_int_inv Tryz.underlying3 hv;have hhas:Go.Maps.has D (.int .i64 p)=true:=by
   rw[hl, <-h1];show l.any _=true
   rw[List.any_eq_true];exact⟨x,hx0,WideAt.sameKey_self hkl⟩
  exact⟨p,h1,hk p (Mj hw) hhas⟩
 rw[hlen];have:=R4 4096 (l.map fun x=>bF x.1) (Vl l _ _ hp (fun a ha b hb hab e=>by
  obtain⟨p,h1,h2,h3⟩:=hkey a ha;obtain⟨q,h4,h5,h6⟩:=hkey b hb;rw[h1,h4]at hab e;simp only[bF]at e;exact hab (by rw[show p=q by omega]))) (fun x hx=>by
  obtain⟨z,hz,rfl⟩:=List.mem_map.1 hx;obtain⟨p,h1,h2,h3⟩:=hkey z hz;rw[h1];simp only[bF];omega)
 simpa using this
def SB(w:World)(b:Nat)(s:Int->Bool):Prop:=MB w b 4096 s/\∀ p,s p=true->0<=p/\p<4096
theorem MB.tight{w:World}{b n:Nat}{s:Int->Bool}(h:MB w b n s)(hs:∀ p,s p=true->0<=p/\p<4096):SB w b s:=by
 obtain⟨D,h1,h2,h3,h4⟩:=h;exact⟨⟨D,Px h1 (fun p hp hh=>hs p (by rw[<-h3 p hp];exact hh)),h2,h3,h4⟩,hs⟩
theorem SB.same{w w':World}{b:Nat}{s:Int->Bool}(h:SB w b s)(he:hat w' b=hat w b):SB w' b s:=⟨h.1.same he,h.2⟩
theorem SB.lt{w:World}{b:Nat}{s:Int->Bool}(h:SB w b s):b<w.heap.size:=h.1.lt
def A8(s:Int->Bool)(p:Int):Int->Bool:=fun q=>s q||decide (q=p)
def Q2(s:Int->Bool)(p:Int):Int->Bool:=fun q=>s q&& !decide (q=p)
theorem MB.added{w:World}{b n:Nat}{s:Int->Bool}{p:Int}(h:MB w b n (fun q=>s q||decide (q=p)))(hs:∀ p,s p=true->0<=p/\p<4096)(hp:0<=p/\p<4096):SB w b (A8 s p):=by
 refine MB.tight (s:=A8 s p) h fun q hq=>?_
 have hq2:s q=true\/q=p:=by simpa [A8]using hq
 rcases hq2 with hq|rfl
 ·exact hs q hq
 ·exact hp
theorem Gg{p:Int}(h0:0<=p)(h1:p<=4294967295):El p:=⟨by omega,by omega⟩
theorem SB.put{w:World}{b:Nat}{s:Int->Bool}(h:SB w b s){p:Int}(hp:0<=p/\p<4096):
  ∃ w',(Instr.mapUpdate 91 (.map (some b)) (.int .i64 p) (.bool true)).run Tryz.prog w= .ok () w'/\SB w' b (A8 s p)/\w.mapTurned w' b:=by
 obtain⟨w',h1,h2,h3⟩:=h.1.put (by unfold maxLen;omega) (p:=p) (Gg hp.1 (by omega));exact⟨w',h1,h2.added h.2 hp,h3⟩
theorem SB.del{w:World}{b:Nat}{s:Int->Bool}(h:SB w b s){p:Int}(hp:0<=p/\p<=4294967295)(ty:TypeId):
  ∃ w',(Builtin.delete_ #[91,3] ty #[.map (some b),.int .i64 p]).run Tryz.prog w= .ok (.tuple #[]) w'/\SB w' b (Q2 s p)/\w.mapTurned w' b:=by
 obtain⟨w',h1,h2,h3⟩:=h.1.del (p:=p) (Gg hp.1 hp.2) ty;refine⟨w',h1,MB.tight (s:=Q2 s p) h2 fun q hq=>?_,h3⟩;have hq2:s q=true/\¬ q=p:=by simpa [Q2]using hq
 exact h.2 q hq2.1
def MI(w:World)(b n:Nat)(f:Int->Option Int):Prop:=
 ∃ D:DataW Unit,w.ownsMap Tryz.prog 3 (plainElem Tryz.prog 3) b n D/\Go.Maps.IsMap D/\(∀ p,El p->Go.Maps.has D (.int .i64 p)=(f p).isSome)/\∀ p,El p->D.atKey (.int .i64 p) (.lit (.int .i64 0))= .lit (.int .i64 ((f p).getD 0))
theorem MI.lt{w:World}{b n:Nat}{f:Int->Option Int}(h:MI w b n f):b<w.heap.size:=by
 obtain⟨D,h1,-⟩:=h;exact h1.lt
theorem MI.same{w w':World}{b n:Nat}{f:Int->Option Int}(h:MI w b n f)(he:hat w' b=hat w b):MI w' b n f:=by
 obtain⟨D,⟨es,clock,hb,h1⟩,h2⟩:=h;exact⟨D,⟨es,clock,he.trans hb,h1⟩,h2⟩
theorem MI.made(w:World):MI (w.alloc (.map #[] 0)) w.heap.size 0 (fun _=>none):=
 ⟨.map [],World.ownsMap_made w _ _ _,Go.Maps.isMap_empty,fun _ _=>rfl,fun _ _=>rfl⟩
theorem rW(w:World):(zeroValue 3).run Tryz.prog w= .ok (.int .i64 0) w:=by kernel_rfl
theorem Qs{a:Int}(h:El a):plainElem (H:=Unit) Tryz.prog 3 (.int .i64 a)=some (.lit (.int .i64 a),[]):=plainElem_int Tryz.underlying3 (sG h)
theorem MI.look{w:World}{b n:Nat}{f:Int->Option Int}(h:MI w b n f){p:Int}(hp:El p):
  (Instr.lookup 100 (.map (some b)) (.int .i64 p) true).run Tryz.prog w= .ok (.tuple #[.int .i64 ((f p).getD 0),.bool (f p).isSome]) w:=by
 obtain⟨D,h1,-,h2,h3⟩:=h;obtain⟨v,ps,hr,hv⟩:=h1.look_ok (Go.Maps.int_keyed Tryz.underlying3) Tryz.underlying100 (rW w) (zd:= .lit (.int .i64 0)) (zp:=[]) (Qs ⟨by omega,by omega⟩) (Lu hp);rw[h3 p hp]at hv;obtain⟨a,rfl,ha,-⟩:=plainElem_int_inv Tryz.underlying3 hv;have ha2:(f p).getD 0=a:=by
  have:=congrArg Prod.fst ha;simpa using this
 rw[h2 p hp, <-ha2]at hr;exact hr
def Ec(f:Int->Option Int)(p a:Int):Int->Option Int:=fun q=>if q=p then some a else f q
theorem MI.put{w:World}{b n:Nat}{f:Int->Option Int}(h:MI w b n f)(hn:n<maxLen){p a:Int}(hp:El p)(ha:El a):
  ∃ w',(Instr.mapUpdate 100 (.map (some b)) (.int .i64 p) (.int .i64 a)).run Tryz.prog w= .ok () w'/\MI w' b (n+1) (Ec f p a)/\w.mapTurned w' b:=by
 obtain⟨D,h1,h0,h2,h3⟩:=h;obtain⟨w',hr,ho,ht⟩:=h1.store (Go.Maps.int_keyed Tryz.underlying3) Tryz.underlying100 hn (Lu hp) (d:= .lit (.int .i64 a)) (ps:=[]) (val:= .int .i64 a) (Qs ha);refine⟨w',hr,⟨_,ho,h0.put _ _,fun q hq=>?_,fun q hq=>?_⟩,ht⟩
 ·unfold Ec;by_cases hqp:q=p
  ·subst hqp;rw[Go.Maps.has_put_same h0 (Ip hq)];simp
  ·rw[Go.Maps.has_put_other (Gi hqp),h2 q hq,if_neg hqp]
 ·unfold Ec;by_cases hqp:q=p
  ·subst hqp;rw[Go.Maps.atKey_put_same h0 (Ip hq)];simp
  ·rw[Go.Maps.atKey_put_other (Gi hqp),h3 q hq,if_neg hqp]
def IB(w:World)(b:Nat)(f:Int->Option Int):Prop:=MI w b 4096 f/\∀ p,(f p).isSome=true->0<=p/\p<4096
theorem MI.tight{w:World}{b n:Nat}{f:Int->Option Int}(h:MI w b n f)(hs:∀ p,(f p).isSome=true->0<=p/\p<4096):IB w b f:=by
 obtain⟨D,h1,h2,h3,h4⟩:=h;exact⟨⟨D,Px h1 (fun p hp hh=>hs p (by rw[<-h3 p hp];exact hh)),h2,h3,h4⟩,hs⟩
theorem IB.same{w w':World}{b:Nat}{f:Int->Option Int}(h:IB w b f)(he:hat w' b=hat w b):IB w' b f:=⟨h.1.same he,h.2⟩
theorem IB.lt{w:World}{b:Nat}{f:Int->Option Int}(h:IB w b f):b<w.heap.size:=h.1.lt
theorem IB.put{w:World}{b:Nat}{f:Int->Option Int}(h:IB w b f){p a:Int}(hp:0<=p/\p<4096)(ha:El a):
  ∃ w',(Instr.mapUpdate 100 (.map (some b)) (.int .i64 p) (.int .i64 a)).run Tryz.prog w= .ok () w'/\IB w' b (Ec f p a)/\w.mapTurned w' b:=by
 obtain⟨w',h1,h2,h3⟩:=h.1.put (by unfold maxLen;omega) (p:=p) (Gg hp.1 (by omega)) ha;refine⟨w',h1,h2.tight fun q hq=>?_,h3⟩;unfold Ec at hq;by_cases hqp:q=p
 ·subst hqp;exact hp
 ·rw[if_neg hqp]at hq;exact h.2 q hq
structure Fr (ex:List Nat) (w w':World):Prop where
 os:w'.os=w.os
 tape:w'.tape=w.tape
 output:w'.output=w.output
 size:w.heap.size<=w'.heap.size
 block:∀ b,b<w.heap.size->b∉ex->hat w' b=hat w b
theorem Fr.refl(ex:List Nat)(w:World):Fr ex w w:=⟨rfl,rfl,rfl,Nat.le_refl _,fun _ _ _=>rfl⟩
theorem Fr.trans{ex:List Nat}{a b c:World}(h:Fr ex a b)(h2:Fr ex b c):Fr ex a c:=
 ⟨h2.os.trans h.os,h2.tape.trans h.tape,h2.output.trans h.output,Nat.le_trans h.size h2.size,fun k hk hn=>(h2.block k (Nat.lt_of_lt_of_le hk h.size) hn).trans (h.block k hk hn)⟩
theorem Fr.mono{ex ex':List Nat}{a b:World}(h:Fr ex a b)(hs:∀ k∈ex,k∈ex'):Fr ex' a b:=
 ⟨h.os,h.tape,h.output,h.size,fun k hk hn=>h.block k hk fun hm=>hn (hs k hm)⟩
theorem Af{w w':World}(h:Below w.heap.size w w')(ex:List Nat):Fr ex w w':=⟨h.os,h.tape,h.output,h.size,fun b hb _=>h.block b hb⟩
theorem Ge{w w':World}{b:Nat}(h:w.mapTurned w' b):Fr [b] w w':=
 ⟨h.grown.os,h.grown.tape,h.grown.output,h.grown.size,fun k hk hn=>B9 h (by simpa using hn) hk⟩
theorem Da(w:World)(g:Nat)(cs:Array Value):Fr [g] w (w.setRow g cs):=
 ⟨(Ag (Below.refl 0 w) (Nat.zero_le _) cs).os,(Ag (Below.refl 0 w) (Nat.zero_le _) cs).tape,(Ag (Below.refl 0 w) (Nat.zero_le _) cs).output,(Ag (Below.refl 0 w) (Nat.zero_le _) cs).size,fun k hk hn=>Bj _ _ _ _ (by simpa using hn)⟩
theorem Ai(w:World)(g i:Nat)(v:Value):Fr [g] w (w.setCell ⟨g,i,none⟩ v):=
 ⟨rfl,rfl,rfl,by simp[World.setCell],fun k hk hn=>Fh _ ⟨g,i,none⟩ _ _ (by simpa using hn)⟩
theorem Bb{ex:List Nat}{a w:World}(h:Fr ex a w):Fr ex a w.drew:=⟨h.os,h.tape,h.output,h.size,h.block⟩
theorem Fr.below{ex:List Nat}{w w':World}{B:Nat}(h:Fr ex w w')(hB:B<=w.heap.size)(he:∀ k∈ex,B<=k):Below B w w':=
 ⟨h.os,h.tape,h.output,h.size,fun k hk=>h.block k (Nat.lt_of_lt_of_le hk hB) fun hm=>by have:=he k hm;omega⟩
structure Env where
 (gl gw N bc bt bf bx cw:Nat)
 (X Y:Int)
 (img qf:Value)
def B8(w:World)(g N c:Nat)(S:Nat->List Int):Prop:=∃ cs,hat w g=some (.cells cs 47)/\(N*128<=cs.size/\c*128<=cs.size)/\
 ∀ i,i<N->(S i).length=128/\A4 (S i)/\cs.extract (i*128) (i*128+128)=IV .u8 (S i)
theorem B8.same{w w':World}{g N c:Nat}{S:Nat->List Int}(h:B8 w g N c S)(he:hat w' g=hat w g):B8 w' g N c S:=by
 obtain⟨cs,h1,h2⟩:=h;exact⟨cs,he.trans h1,h2⟩
structure LS where
 S:Nat->List Int
 cl:Int->Bool
 fm:Int->Bool
 bk:Int->Option Int
structure LK (E:Env) (w:World) (st:LS):Prop where
 look:hat w E.gl=some (.cells (Bz E.X E.Y E.img E.gw E.N E.cw E.bc E.bt E.bf E.qf) 95)
 want:B8 w E.gw E.N E.cw st.S
 claim:SB w E.bc st.cl
 firm:SB w E.bf st.fm
 blocks:IB w E.bx st.bk
structure EOk (E:Env):Prop where
 small:E.X<=4096
 pos:0<=E.Y
 size:E.X=E.N
 n1:E.gl≠E.gw
 n2:E.gl≠E.bc
 n3:E.gl≠E.bf
 n4:E.gw≠E.bc
 n5:E.gw≠E.bf
 n6:E.bc≠E.bf
 n7:E.gl≠E.bx
 n8:E.gw≠E.bx
 n9:E.bc≠E.bx
 n10:E.bf≠E.bx
theorem LK.fr{E:Env}{w w':World}{st:LS}{ex:List Nat}(h:LK E w st)(hf:Fr ex w w')(h1:E.gl∉ex)(h2:E.gw∉ex)(h3:E.bc∉ex)(h4:E.bf∉ex)(h5:E.bx∉ex):LK E w' st:=by
 have hw:=h.want;obtain⟨cs,hw1,-⟩:=hw;exact⟨(hf.block _ (Aa h.look) h1).trans h.look,h.want.same (hf.block _ (Aa hw1) h2),h.claim.same (hf.block _ h.claim.lt h3),h.firm.same (hf.block _ h.firm.lt h4),h.blocks.same (hf.block _ h.blocks.lt h5)⟩
def At(E:Env)(p:Int)(st:LS):Bool×LS:=if isD E.X E.Y p=true/\st.cl p=false then(true,{st with cl:=A8 st.cl p})else(false,st)
theorem J2{E:Env}(h:EOk E){p:Int}(hd:isD E.X E.Y p=true):0<=p/\p<4096/\p<E.N:=by
 unfold isD at hd;have:=of_decide_eq_true hd;have h1:=h.small;have h2:=h.pos;have h3:=h.size;omega
theorem Sf{E:Env}(hE:EOk E)(p:Int)(st:LS)(w:World)(h0:0<=p)(h1:p<=4294967295)(h:LK E w st):
  Calls Tryz.prog 109 #[.pointer (some ⟨E.gl,0,none⟩),.int .i64 p] w fun e w'=>e= .returned (.bool (At E p st).1)/\LK E w' (At E p st).2/\Fr [E.bc] w w':=by
 unfold At;by_cases hg:isD E.X E.Y p=true/\st.cl p=false
 ·rw[if_pos hg];have hr:=J2 hE hg.1;refine(lJ E.X E.Y p E.img E.qf E.gl E.gw E.N E.cw E.bc E.bt E.bf 4096 st.cl w h.look h.claim.1 (by unfold maxLen;omega) (Gg h0 h1) hg.1 hg.2).mono ?_;rintro e w' ⟨rfl,w1,hb,ht,hm⟩;have hf:Fr [E.bc] w w':=(Af hb _).trans (Ge ht);have hlk:=h.fr (Af hb []) (by simp) (by simp) (by simp) (by simp) (by simp);have hw1:=hlk.want;obtain⟨cs,hw1,-⟩:=hw1;exact⟨rfl,⟨(B9 ht hE.n2 (Aa hlk.look)).trans hlk.look,hlk.want.same (B9 ht hE.n4 (Aa hw1)),hm.added h.claim.2 ⟨hr.1,hr.2.1⟩,hlk.firm.same (B9 ht hE.n6.symm hlk.firm.lt),hlk.blocks.same (B9 ht hE.n9.symm hlk.blocks.lt)⟩,hf⟩
 ·rw[if_neg hg];refine(qG E.X E.Y p E.img E.qf E.gl E.gw E.N E.cw E.bc E.bt E.bf 4096 st.cl w h.look h.claim.1 (Gg h0 h1) ?_).mono ?_
  ·cases hd:isD E.X E.Y p with
   |false=>exact .inl rfl
   |true=>
    cases hc:st.cl p with
    |true=>exact .inr rfl
    |false=>exact absurd ⟨hd,hc⟩ hg
  ·rintro e w' ⟨rfl,hb⟩;exact⟨rfl,h.fr (Af hb []) (by simp) (by simp) (by simp) (by simp) (by simp),Af hb _⟩
def Bg(w:World)(v:Value)(ob:Option Nat)(xs:List Int):Prop:=
 (v= .slice none 0 0/\ob=none/\xs=[])\/
 ∃ g off c cs,v= .slice (some ⟨g,off,none⟩) xs.length c/\ob=some g/\hat w g=some (.cells cs 3)/\xs.length<=c/\off+c<=cs.size/\∀ j p,xs[j]? =some p->cs[off+j]? =some (.int .i64 p)
theorem Bg.lt{w:World}{v:Value}{ob:Option Nat}{xs:List Int}(h:Bg w v ob xs):∀ g,ob=some g->g<w.heap.size:=by
 rintro g rfl;rcases h with ⟨-,h,-⟩|⟨g',off,c,cs,-,h,h2,-⟩
 ·cases h
 ·cases h;exact Aa h2
theorem Bg.fr{w w':World}{v:Value}{ob:Option Nat}{xs:List Int}{ex:List Nat}(h:Bg w v ob xs)(hf:Fr ex w w')(hn:∀ g,ob=some g->g∉ex):Bg w' v ob xs:=by
 rcases h with h|⟨g,off,c,cs,h1,h2,h3,h4⟩
 ·exact .inl h
 ·exact .inr ⟨g,off,c,cs,h1,h2,(hf.block _ (Aa h3) (hn g h2)).trans h3,h4⟩
theorem C4(g off j:Nat):(⟨g,off,none⟩:Addr).add j=⟨g,off+j,none⟩:=by unfold Addr.add;split<;>simp_all
theorem Fx{w:World}{v:Value}{ob:Option Nat}{xs:List Int}(h:Bg w v ob xs)(hn:xs.length<=100000)(i:Int)(b:Nat)(hb:hat w b=some (.cells #[.int .i64 i] 3))(ty:TypeId):
  ∃ v' w' ob',(Builtin.append_ #[32,32] ty #[v,.slice (some ⟨b,0,none⟩) 1 1]).run Tryz.prog w= .ok v' w'/\Bg w' v' ob' (xs++[i])/\Fr ob.toList w w'/\(ob'=ob\/∃ g,ob'=some g/\w.heap.size<=g):=by
 have ht:Tryz.prog.underlying 32=some (.slice 3):=Tryz.underlying32;have h0:(Tryz.prog.info? 3).map (fun i=>(i.size,i.bytes))=some (1,8):=by kernel_rfl
 have h00:(Tryz.prog.info? 3).bind (·.zero)=some (.int .i64 0):=by kernel_rfl
 obtain⟨inf,hi,hz,hsz,hby⟩:∃ inf,Tryz.prog.info? 3=some inf/\inf.zero=some (.int .i64 0)/\inf.size=1/\inf.bytes=8:=by
  cases hq:Tryz.prog.info? 3 with
  |none=>rw[hq]at h0;cases h0
  |some inf=>
   rw[hq]at h0 h00;simp at h0 h00;exact⟨inf,rfl,h00,h0.1,h0.2⟩
 have hs:∀ W:World,hat W b=some (.cells #[.int .i64 i] 3)->Src Tryz.prog inf.size 32 (.slice (some ⟨b,0,none⟩) 1 1) 1 [.int .i64 i] W:=fun W hW=>
  Src.ofSlice W ht ⟨b,0,none⟩ 1 1 [.int .i64 i] (by rw[hsz];rfl) (fun j u hj=>by
   rw[C4,Bs hW];simpa using hj) (fun u hu=>by simp at hu;subst hu;rfl)
 by_cases hroom:∃ g off c cs,v= .slice (some ⟨g,off,none⟩) xs.length c/\ob=some g/\hat w g=some (.cells cs 3)/\xs.length+1<=c/\off+c<=cs.size/\∀ j p,xs[j]? =some p->cs[off+j]? =some (.int .i64 p)
 ·obtain⟨g,off,c,cs,rfl,rfl,hg,hc,hcs,hx⟩:=hroom
  have hr:=run_append_room_src (P:=Tryz.prog) w 32 32 ty 3 inf ht hi g off xs.length c _ 1 [.int .i64 i] (hs w hb) hc
   (fun j hj=>by
    rw[hsz,Bs hg];simp at hj;subst hj;rw[Array.getElem?_eq_getElem (by omega)];rfl)
   (fun j hj=>Kg hg _)
  rw[hsz,Nat.mul_one]at hr;refine⟨_,_,some g,hr,.inr ⟨g,off,c,cs.setIfInBounds (off+xs.length) (.int .i64 i),by simp,rfl,?_,by simpa using hc,by simpa using hcs,fun j p hj=>?_⟩,?_,.inl rfl⟩
  ·exact Ah _ _ _ _ _ _ _ hg
  ·rw[Array.getElem?_setIfInBounds];by_cases hjl:j=xs.length
   ·subst hjl;rw[if_pos rfl,if_pos (by omega)];simpa using hj
   ·rw[if_neg (by omega)];have:j<xs.length:=by
     have:=(List.getElem?_eq_some_iff.1 hj).1;simp at this;omega
    rw[List.getElem?_append_left this]at hj;exact hx j p hj
  ·exact(Ai w g (off+xs.length) (.int .i64 i)).mono (by simp)
 ·obtain⟨base,cp,hv,hcp,hold⟩:∃ base cp,v= .slice base xs.length cp/\cp<xs.length+1/\(Builtin.firstCells inf.size xs.length (.slice base xs.length cp)).run Tryz.prog w.drew= .ok (xs.map (Value.int .i64)).toArray w.drew:=by
   rcases h with ⟨rfl,rfl,rfl⟩|⟨g,off,c,cs,rfl,rfl,hg,hc,hcs,hx⟩
   ·exact⟨none,0,rfl,by simp,run_firstCells_none w.drew _ 0 0 0⟩
   ·refine⟨some ⟨g,off,none⟩,c,rfl,?_,?_⟩
    ·refine Nat.lt_of_not_le fun hle=>hroom ⟨g,off,c,cs,rfl,rfl,hg,by omega,hcs,hx⟩
    ·refine run_firstCells_some w.drew _ xs.length ⟨g,off,none⟩ xs.length c (xs.map (Value.int .i64)) (by rw[hsz];simp) fun j u hj=>?_
     rw[C4];show w.cell? _=_
     rw[Bs hg];rw[List.getElem?_map]at hj;cases hxj:xs[j]? with
     |none=>rw[hxj]at hj;cases hj
     |some p=>rw[hxj]at hj;rw[hx j p hxj, <-hj];rfl
  subst hv;have hr:=run_append_grow_src (P:=Tryz.prog) w 32 32 ty 3 inf (.int .i64 0) ht hi hz base xs.length cp _ hold _ 1 [.int .i64 i] (hs w hb) hcp (by omega) (growslice_fits hcp (by rw[hby];omega));have hge:=grownCap_ge w (xs.length+1) cp 3;refine⟨_,_,some w.heap.size,hr,.inr ⟨w.heap.size,0,grownCap w (xs.length+1) cp 3,_,by rw[List.length_append];rfl,rfl,Bc w.drew _ _ rfl,by simpa using hge,?_,fun j p hj=>?_⟩,?_,.inr ⟨_,rfl,Nat.le_refl _⟩⟩
  ·have hz2:(Value.int .i64 0).cells.size=1:=rfl;rw[Array.size_append,size_zeroCells,hz2];simp;omega
  ·have hjl:j<xs.length+1:=by
    have:=(List.getElem?_eq_some_iff.1 hj).1;simpa using this
   rw[Nat.zero_add,Array.getElem?_append_left (by simpa using hjl)];have he:(xs.map (Value.int .i64)++[Value.int .i64 i])=(xs++[i]).map (Value.int .i64):=(by simp);rw[he,List.getElem?_toArray,List.getElem?_map,hj];rfl
  ·exact Af (show Below w.heap.size w (w.drew.alloc _)from Below.alloc (show Below w.heap.size w w.drew from⟨rfl,rfl,rfl,Nat.le_refl _,fun _ _=>rfl⟩) (Nat.le_refl _) _) _
def Mr(w:World)(gr:Nat)(ob:Option Nat)(xs:List Int):Prop:=∃ v,hat w gr=some (.cells #[v] 32)/\Bg w v ob xs/\ob≠some gr
theorem Mr.fr{w w':World}{gr:Nat}{ob:Option Nat}{xs:List Int}{ex:List Nat}(h:Mr w gr ob xs)(hf:Fr ex w w')(h1:gr∉ex)(h2:∀ g,ob=some g->g∉ex):Mr w' gr ob xs:=by
 obtain⟨v,hv,hq,hn⟩:=h;exact⟨v,(hf.block _ (Aa hv) h1).trans hv,hq.fr hf h2,hn⟩
theorem Mr.lt{w:World}{gr:Nat}{ob:Option Nat}{xs:List Int}(h:Mr w gr ob xs):gr<w.heap.size:=by
 obtain⟨v,hv,-⟩:=h;exact Aa hv
theorem Mr.blt{w:World}{gr:Nat}{ob:Option Nat}{xs:List Int}(h:Mr w gr ob xs):∀ g,ob=some g->g<w.heap.size:=by
 obtain⟨v,hv,hq,-⟩:=h;exact hq.lt
theorem Bg.one{w:World}{v:Value}{ob:Option Nat}{xs:List Int}(h:Bg w v ob xs):v.oneCell'=true:=by
 rcases h with ⟨rfl,-⟩|⟨g,off,c,cs,rfl,-⟩<;>rfl
theorem Bg.slice{w:World}{v:Value}{ob:Option Nat}{xs:List Int}(h:Bg w v ob xs):∃ a c,v= .slice a xs.length c:=by
 rcases h with ⟨rfl,-,rfl⟩|⟨g,off,c,cs,rfl,-⟩
 ·exact⟨none,0,rfl⟩
 ·exact⟨_,_,rfl⟩
theorem Ao{P:Program}(w:World){ops:Array Oper}{rest:List Oper}{o:Oper}{a:Act}{Q:Exit->Act->World->Prop}(hgd:o.guard=none)(s x:Operand)(t:TypeId)
  (ho:o.op= .call {callee:= .builtin .append,args:= #[s,x],argTypes:= #[t,t]}) (v u:Value) (hs:a.eval s=v) (hx:a.eval x=u) (v':Value) (w':World)
  (hr:(Builtin.append_ #[t,t] o.type #[v,u]).run P w= .ok v' w') (h:wpList P ops Q rest (a.put o.dst v') w'):wpList P ops Q (o::rest) a w:=by
 refine wpList_plain hgd fun K hK=>?_
 unfold Oper.wp;simp[execOp,ho,resolve,invoke,builtin,hs,hx,hr,Result.andThen];exact hK _ _ h
theorem iV(gr:Nat)(ob:Option Nat)(xs:List Int)(i:Int)(w:World)(h:Mr w gr ob xs)(hn:xs.length<=100000):
  Calls Tryz.prog 50 #[.int .i64 i,.pointer (some ⟨gr,0,none⟩)] w fun e w'=>e= .returned (.tuple #[])/\∃ ob',Mr w' gr ob' (xs++[i])/\Fr (gr::ob.toList) w w'/\(ob'=ob\/∃ g,ob'=some g/\w.heap.size<=g):=by
 obtain⟨v,hv,hq,hne⟩:=h;have hgr:=Aa hv;have hfa:Fr [] w (w.alloc (.cells #[.int .i64 i] 3)):=Af ((Below.refl _ w).alloc (Nat.le_refl _) _) _;obtain⟨v',w',ob',hr,hq',hf',ho'⟩:=Fx (hq.fr hfa (by simp)) hn i w.heap.size (A6 w _).1 32;have hv1:hat (w.alloc (.cells #[.int .i64 i] 3)) gr=some (.cells #[v] 32):=(B7 w _ hv).1;have hgo:gr∉ob.toList:=by
  intro hm;cases ob with
  |none=>simp at hm
  |some g=>simp at hm;exact hne (by rw[hm])
 have hv2:hat w' gr=some (.cells #[v] 32):=(hf'.block gr (by simp;omega) hgo).trans hv1;obtain⟨a',c',hsl⟩:=hq'.slice;have HQ:=zA hq';have HF:=zA hf';have HO:=zA ho';have HSL:=zA hsl;rw[hsl]at hr;have hz:=hfa.size;clear hq' hf' ho' hq hfa hsl;go_enter Tryz.func50,Tryz.ntmps50;go_wp2_with (at_builtin;refine Ao _ rfl (.tmp 3) (.tmp 5) 32 rfl _ _ rfl rfl _ _ hr ?_)
 refine bodyPost_end (results_none rfl _ _ _) rfl ?_;have h2:Fr [gr] w' (w'.setCell ⟨gr,0,none⟩ (.slice a' (xs.length+1) c')):=Ai _ _ _ _;have hlen:(xs++[i]).length=xs.length+1:=by simp
 have hsl:=HSL.out;rw[hlen]at hsl;have hob':∀ g,ob'=some g->g≠gr:=by
  intro g hg e;subst e;rcases HO.out with h|⟨g',h,hl⟩
  ·exact hne (by rw[<-h,hg])
  ·rw[hg]at h;cases h;simp at hl;omega
 have hQ:=HQ.out;rw[hsl]at hQ;refine⟨rfl,ob',⟨_,Ah _ _ _ _ _ _ _ hv2,hQ.fr h2 (fun g hg=>by simpa using hob' g hg),fun e=>hob' gr e rfl⟩,?_,?_⟩
 ·exact((Af ((Below.refl w.heap.size w).alloc (Nat.le_refl _) _) _).trans (HF.out.mono (fun k hk=>List.mem_cons_of_mem _ hk))).trans (h2.mono (by simp))
 ·rcases HO.out with h|⟨g',h,hl⟩
  ·exact .inl h
  ·exact .inr ⟨g',h,Nat.le_trans hz hl⟩
theorem iR(gr:Nat)(ob:Option Nat)(w:World)(h:Mr w gr ob []):
  Calls Tryz.prog 51 #[.pointer (some ⟨gr,0,none⟩)] w fun e w'=>e= .returned (.tuple #[.int .i64 0,.bool false])/\w'=w:=by
 obtain⟨v,hv,hq,hne⟩:=h;obtain⟨a,c,rfl⟩:=hq.slice;clear hq;go_enter Tryz.func51,Tryz.ntmps51;go_wp2_with fail;go_ret2;exact⟨rfl,rfl⟩
theorem Vp(gr:Nat)(ob:Option Nat)(x:Int)(xs:List Int)(w:World)(h:Mr w gr ob (x::xs)):
  Calls Tryz.prog 51 #[.pointer (some ⟨gr,0,none⟩)] w fun e w'=>e= .returned (.tuple #[.int .i64 x,.bool true])/\Mr w' gr ob xs/\Fr [gr] w w':=by
 obtain⟨v,hv,hq,hne⟩:=h;rcases hq with ⟨-,-,h⟩|⟨g,off,c,cs,rfl,hob,hg,hc,hcs,hx⟩
 ·cases h
 have h0:=hx 0 x rfl;rw[Nat.add_zero]at h0;have hgg:g≠gr:=fun e=>hne (by rw[hob,e])
 have HX:=zA hx;have HNE:=zA hne;have HOB:=zA hob;simp only[List.length_cons]at hv hc;clear hx hne hob;have hl0:((xs.length:Int)+1==0)=false:=by simp;omega
 by_cases hc1:c=1
 ·subst hc1;obtain rfl:xs=[]:=List.eq_nil_of_length_eq_zero (by omega);simp only[List.length_nil,Nat.zero_add]at hv hl0;clear hc;go_enter Tryz.func51,Tryz.ntmps51;go_wp2_with fail;go_ret2;have h2:Fr [gr] w (w.setCell ⟨gr,0,none⟩ (.slice (some ⟨g,off,none⟩) 0 0)):=Ai _ _ _ _;refine⟨rfl,⟨_,Ah _ _ _ _ _ _ _ hv,.inr ⟨g,off,0,cs,rfl,HOB.out,(h2.block _ (Aa hg) (by simpa using hgg)).trans hg,by simp,by omega,fun j p hj=>by simp at hj⟩,HNE.out⟩,h2⟩
 ·go_enter Tryz.func51,Tryz.ntmps51;go_wp2_with fail;go_ret2;have h2:Fr [gr] w (w.setCell ⟨gr,0,none⟩ (.slice (some ⟨g,off+1,none⟩) xs.length (c-1))):=Ai _ _ _ _;refine⟨rfl,⟨_,Ah _ _ _ _ _ _ _ hv,.inr ⟨g,off+1,c-1,cs,rfl,HOB.out,(h2.block _ (Aa hg) (by simpa using hgg)).trans hg,by omega,by omega,fun j p hj=>?_⟩,HNE.out⟩,h2⟩;have:=HX.out (j+1) p (by simpa using hj);rw[show off+1+j=off+(j+1) by omega];exact this
open Go.ChangeShapes Go.WideShapes Go.ChangeAt Go.RowKit
theorem Nd{H:Type}{enc:TypeId×Value->H}{P:Program}(hl:laidOutB P=true){W W':World}(hb:Below W.heap.size W W'):
  ∀ {ts:List TypeId} {vs:List Value} {ds:List (DataW H)} {ps:List MemPlace},(ts.all fun t=>P.readableRec t&&decide (t<P.types.size))=true->DataW.TrodAll enc P W 0 (fun _=>true) true ts vs ds ps->(∀ x∈ps,x.block<W.heap.size)->
   DataW.TrodAll enc P W' 0 (fun b=>decide (b<W.heap.size)) true ts vs ds ps
 |[],[],[],_,_,h,_=>h
 |[],[],_::_,_,_,h,_=>h.elim
 |[],_::_,[],_,_,h,_=>h.elim
 |[],_::_,_::_,_,_,h,_=>h.elim
 |_::_,[],[],_,_,h,_=>h.elim
 |_::_,[],_::_,_,_,h,_=>h.elim
 |_::_,_::_,[],_,_,h,_=>h.elim
 |t::ts,v::vs,d::ds,ps,hr,⟨p,q,h1,h2,e⟩,hs=>by
  simp only[List.all_cons,Bool.and_eq_true,decide_eq_true_eq]at hr;exact⟨p,q,Below.trod hl hr.1.1 hr.1.2 h1 hb (fun x hx=>hs x (by rw[e];exact List.mem_append_left _ hx)),Nd hl hb hr.2 h2 (fun x hx=>hs x (by rw[e];exact List.mem_append_right _ hx)),e⟩
theorem mL{H:Type}{enc:TypeId×Value->H}{P:Program}{f:Func}{s:ChangeSpec}{W W':World}{args:Array Value}{ds:List (DataW H)}{before:List MemPlace}{T:TypeId}(hl:laidOutB P=true)
  (hW:DataW.Whole enc P f.params.toList s.vars false W args.toList ds [] before) (hvars:s.vars=[]) (hres:(s.fn H ds).results=[.lit (.bool true)]) (hargs:(s.fn H ds).args=ds) (hvs:(s.fn H ds).vars=[])
  (hr:(f.params.toList.all fun t=>P.readableRec t&&decide (t<P.types.size))=true) (hrt:f.resultTypes= #[T]) (hT:P.underlying T=some .bool) (hb:Below W.heap.size W W'):
  s.post enc P f false true false false W args (.bool true) W':=by
 have hW':=hW;have hlt:∀ x∈before,x.block<W.heap.size:=fun x hx=>by simpa using hW'.lt x hx
 obtain⟨p,q,hA,hV,rfl,-,-⟩:=hW;rw[hvars]at hV;have hq:q=[]:=(trodVars_none hV).2;subst hq;refine⟨ds,[],_,[],p,[],hW',?_,?_,?_,hb.frame _,fun h=>by cases h⟩
 ·rw[List.append_nil,hres,hrt];exact trodAll_mk1 (shut_bool hT true)
 ·rw[List.append_nil,hargs];exact Nd hl hb hr hA (fun x hx=>hlt x (by simp[hx]))
 ·rw[List.append_nil,hvs,hvars];rfl
def Img(w:World)(v:Value)(N:Nat)(S:Nat->List Int):Prop:=
 ∃ a ci,v= .slice a N ci/\N<=ci/\ci<=maxLen/\(0<N->∃ gi oi,a=some ⟨gi,oi,none⟩/\G9 w gi oi N S)
theorem Img.same{w w':World}{v:Value}{N:Nat}{S:Nat->List Int}(h:Img w v N S)(hf:Fr [] w w'):Img w' v N S:=by
 obtain⟨a,ci,h1,h2,h3,h4⟩:=h;refine⟨a,ci,h1,h2,h3,fun hN=>?_⟩;obtain⟨gi,oi,h5,h6⟩:=h4 hN;exact⟨gi,oi,h5,h6.same (hf.block _ h6.lt (by simp))⟩
theorem Lq{w:World}{a:Addr}{v:Value}(h:w.cell? a=some v):∃ g o cs t fr,a=⟨g,o,none⟩/\hat w g=some (.cells cs t fr)/\cs[o]? =some v:=by
 obtain⟨b,off,spot⟩:=a;have hs:spot=none:=by simpa using World.cell?_spot h
 subst hs;cases hh:w.heap[b]? with
 |none=>unfold World.cell? at h;simp[hh]at h
 |some o=>
  cases o with
  |cells cs t fr=>exact⟨b,off,cs,t,fr,rfl,hh,by rw[<-Bs (w:=w) hh];exact h⟩
  |_=>unfold World.cell? at h;simp[hh]at h
theorem Tryz.cellsU8:Tryz.prog.cellsOf 5=1:=by kernel_rfl
theorem No(s t:List Int):∀ (n a:Nat),(∀ j,a<=j->j<a+n->nth s j=nth t j)->Ak s a n=Ak t a n
 |0,_,_=>rfl
 |n+1,a,h=>by
  simp only[Ak];rw[h a (by omega) (by omega),No s t n (a+1) (fun j h1 h2=>h j (by omega) (by omega))]
theorem Qn(s:List Int):∀ (n a:Nat) (v:Int),(∀ j,j<n->nth s (a+j)=v/2^(8*j)%256)->Ak s a n=v%256^n
 |0,_,v,_=>by simp[Ak,Int.emod_one]
 |n+1,a,v,h=>by
  have h0:=h 0 (by omega);have ih:=Qn s n (a+1) (v/256) (fun j hj=>by
   have:=h (j+1) (by omega);rw[show a+1+j=a+(j+1) by omega,this];rw[Int.ediv_ediv_of_nonneg (by omega:(0:Int)<=256)];congr 2
   rw[show 8*(j+1)=8+8*j by omega,Int.pow_add];rfl)
  simp only[Ak];rw[ih];simp only[Nat.add_zero,Nat.mul_zero,Int.pow_zero,Int.ediv_one]at h0;rw[h0,show(256:Int)^(n+1)=256*256^n by rw[Int.pow_succ];omega,Int.mul_comm 256 ((v/256)%256^n)];rw[Int.emod_def v (256*256^n),Int.emod_def (v/256) (256^n),Int.emod_def v 256, <-Int.ediv_ediv_of_nonneg (by omega:(0:Int)<=256)];rw[Int.sub_mul,Int.mul_comm (v/256) 256,Int.mul_assoc 256,Int.mul_comm 256 (256^n*_)];omega
theorem Jy(s:List Int)(a n:Nat)(v:Int)(h:a+n<=s.length)(h0:0<=v)(hv:v<256^n):Ak (setB s a n v) a n=v:=by
 rw[Qn _ n a v (fun j hj=>by rw[Eb _ _ _ _ h,if_pos (by omega),show a+j-a=j by omega])];exact Int.emod_eq_of_lt h0 hv
theorem Hf(s:List Int)(a n b m:Nat)(v:Int)(h:b+m<=s.length)(hd:a+n<=b\/b+m<=a):Ak (setB s b m v) a n=Ak s a n:=
 No _ _ _ _ fun j h1 h2=>by rw[Eb _ _ _ _ h,if_neg (by omega)]
theorem Kd{s:List Int}(h:∀ j,j<s.length->0<=nth s j/\nth s j<256):A4 s:=by
 intro x hx;obtain⟨i,hi,rfl⟩:=List.getElem_of_mem hx;rw[Fl hi];exact h i hi
theorem A4.setB{s:List Int}(hb:A4 s)(a n:Nat)(v:Int)(h:a+n<=s.length):A4 (setB s a n v):=by
 refine Kd fun j _=>?_
 rw[Eb _ _ _ _ h];split
 ·omega
 ·exact hb.at j
theorem A4.putL{s bs:List Int}(hb:A4 s)(hs:A4 bs)(a:Nat)(h:a+bs.length<=s.length):A4 (putL s a bs):=by
 refine Kd fun j _=>?_
 rw[S9 _ _ _ _ h];split
 ·exact hs.at _
 ·exact hb.at j
theorem F0(n:Nat):A4 (zl n):=by
 refine Kd fun j _=>?_
 rw[Mf];omega
theorem Sw:(putL (zl 128) 0 F2).length=128:=by rw[Hp _ _ _ (by rw[C2];decide)];exact C2 _
theorem nV(x y:Int)(h0:0<=x)(h1:x<4294967296):Ak (Cw x y) 4 4=x:=by
 unfold Cw;rw[Hf _ _ _ _ _ _ (by rw[Eu,Sw];decide) (by omega)];exact Jy _ _ _ _ (by rw[Sw];decide) h0 h1
theorem nW(x y:Int)(h0:0<=y)(h1:y<4294967296):Ak (Cw x y) 8 4=y:=by
 unfold Cw;exact Jy _ _ _ _ (by rw[Eu,Sw];decide) h0 h1
theorem Wm:∀ j,j<18->∀ k,k<18->j≠k->fAt j+fWd j<=fAt k\/fAt k+fWd k<=fAt j:=by decide
theorem Mz(l:List Int):∀ n,n<=18->A4 (Ez l n)
 |0,_=>F0 _
 |n+1,h=>by
  rw[C5];exact A4.setB (Mz l n (by omega)) _ _ _ (by rw[Em];exact R1 n (by omega))
theorem Qp(l:List Int)(hf:∀ j,j<18->0<=nth l (Ci j)/\nth l (Ci j)<256^fWd j):∀ n,n<=18->∀ j,j<n->Ak (Ez l n) (fAt j) (fWd j)=nth l (Ci j)
 |0,_,j,hj=>by omega
 |n+1,h,j,hj=>by
  rw[C5];by_cases hjn:j=n
  ·subst hjn;exact Jy _ _ _ _ (by rw[Em];exact R1 j (by omega)) (hf j (by omega)).1 (hf j (by omega)).2
  ·rw[Hf _ _ _ _ _ _ (by rw[Em];exact R1 n (by omega)) (Wm j (by omega) n (by omega) hjn)];exact Qp l hf n (by omega) j (by omega)
theorem tJ{l:List Int}(h:l.length=18):l=[nth l 0,nth l 1,nth l 2,nth l 3,nth l 4,nth l 5,nth l 6,nth l 7,nth l 8,nth l 9,nth l 10,nth l 11,nth l 12,nth l 13,nth l 14,nth l 15,nth l 16,nth l 17]:=by
 refine Km (by simp[h]) fun i hi=>?_
 rw[h]at hi;have:i=0\/i=1\/i=2\/i=3\/i=4\/i=5\/i=6\/i=7\/i=8\/i=9\/i=10\/i=11\/i=12\/i=13\/i=14\/i=15\/i=16\/i=17:=by omega
 rcases this with rfl|rfl|rfl|rfl|rfl|rfl|rfl|rfl|rfl|rfl|rfl|rfl|rfl|rfl|rfl|rfl|rfl|rfl<;>rfl
theorem Ys(l:List Int)(hl:l.length=18)(hf:∀ j,j<18->0<=nth l (Ci j)/\nth l (Ci j)<256^fWd j):Eh (Ak (Cp l) 8 8) (Cp l)=l:=by
 have g:=Qp l hf 18 (by omega);have g0:=g 0 (by omega);have g1:=g 1 (by omega);have g2:=g 2 (by omega);have g3:=g 3 (by omega);have g4:=g 4 (by omega);have g5:=g 5 (by omega);have g6:=g 6 (by omega);have g7:=g 7 (by omega);have g8:=g 8 (by omega);have g9:=g 9 (by omega);have g10:=g 10 (by omega);have g11:=g 11 (by omega);have g12:=g 12 (by omega);have g13:=g 13 (by omega);have g14:=g 14 (by omega);have g15:=g 15 (by omega);have g16:=g 16 (by omega);have g17:=g 17 (by omega);clear g;change Ak (Cp l) _ _=_ at g0 g1 g2 g3 g4 g5 g6 g7 g8 g9 g10 g11 g12 g13 g14 g15 g16 g17;generalize Cp l=s at*;simp only[fAt,fWd,Ci]at*;conv=>rhs;rw[tJ hl]
 simp only[Eh,List.range,List.range.loop,List.map_cons,List.map_nil,List.cons_append,List.nil_append];simp only[Nat.mul_zero,Nat.add_zero,g0,g1,g2,g3,g4,g5,g6,g7,g8,g9,g10,g11,g12,g13,g14,g15,g16,g17]
theorem M6(x:List Int):∀ n,n<=32->A4 (Dh x n)
 |0,_=>F0 _
 |n+1,h=>by
  rw[Gx];exact A4.setB (M6 x n (by omega)) _ _ _ (by rw[Gw];omega)
theorem Qt(x:List Int)(hf:F8 x):∀ n,n<=32->∀ j,j<n->Ak (Dh x n) (4*j) 4=nth x j
 |0,_,j,hj=>by omega
 |n+1,h,j,hj=>by
  rw[Gx];by_cases hjn:j=n
  ·subst hjn;have:=hf j (by omega);have p4:(256:Int)^4=4294967296:=(by decide);exact Jy _ _ _ _ (by rw[Gw];omega) this.1 (by rw[p4];omega)
  ·rw[Hf _ _ _ _ _ _ (by rw[Gw];omega) (by omega)];exact Qt x hf n (by omega) j (by omega)
theorem Tb(x:List Int)(hx:x.length=32)(hf:F8 x):Al (Dh x 32)=x:=by
 refine Km (by simp[hx]) fun i hi=>?_
 simp at hi;rw[Vt _ _ hi,Qt x hf 32 (by omega) i hi]
theorem lI{s:List Int}(hb:A4 s)(a:Nat):0<=Ak s a 4/\Ak s a 4<=4294967295:=by
 have h0:=hb.at a;have h1:=hb.at (a+1);have h2:=hb.at (a+2);have h3:=hb.at (a+3);have e:Ak s a 4=nth s a+256*(nth s (a+1)+256*(nth s (a+2)+256*nth s (a+3))):=by
  simp only[Ak,Int.mul_zero,Int.add_zero]
 rw[e];omega
theorem Xp{x y:Int}(h:Ew x y):A1 (Cw x y)=(x,y,0):=by
 obtain⟨⟨h1,h2⟩,⟨h3,h4⟩,h5⟩:=id h;unfold A1;rw[nV x y (by omega) (by omega),nW x y (by omega) (by omega),if_pos ⟨h,rfl⟩]
theorem Xq{s:List Int}(h:(A1 s).2.2=0):Ew (A1 s).1 (A1 s).2.1/\Cw (A1 s).1 (A1 s).2.1=s:=by
 unfold A1 at*;split at h
 ·rename_i hc;rw[if_pos hc];exact hc
 ·cases h
theorem qE(n a:Nat):∀ m,Ak (zl n) a m=0
 |0=>rfl
 |m+1=>by
  simp only[Ak,Mf];have:=No (zl n) (zl n) m (a+1) (fun _ _ _=>rfl);have h:∀ m a,Ak (zl n) a m=0:=by
   intro m;induction m with
   |zero=>intro a;rfl
   |succ m ih=>intro a;simp only[Ak,Mf,ih];omega
  rw[h];omega
theorem lQ{l:List Int}(h:B0 l)(j:Nat)(hj:j<18):0<=nth l (Ci j)/\nth l (Ci j)<256^fWd j:=by
 obtain⟨h1,h2,h3⟩:=Ls l h j hj;refine⟨h1,?_⟩;by_cases h8:fWd j<8
 ·have:=h3 h8;rwa [Int.pow_mul]at this
 ·have:fWd j=8:=(by have:=Oh j;omega);rw[this];have p8:(256:Int)^8=18446744073709551616:=(by decide);rw[p8];omega
theorem Ih{l:List Int}(hl:l.length=18)(h:B0 l):Am (Cp l)=(l,0):=by
 have e:=Ys l hl (lQ h);unfold Am;rw[e,if_pos ⟨h,rfl⟩]
theorem Wu(l:List Int):A4 (Cp l):=Mz l 18 (by omega)
theorem dS{s:List Int}(h:(Am s).2=0):B0 (Am s).1/\Cp (Am s).1=s:=by
 unfold Am at*;split at h
 ·rename_i hc;rw[if_pos hc];exact hc
 ·cases h
theorem Yt:Am (zl 128)=(zl 18,0):=by
 have hm:B0 (zl 18):=by unfold B0;rw[if_pos (Mf _ _)]
 have e:Cp (zl 18)=zl 128:=by decide+kernel
 have:=Ih (C2 18) hm;rwa [e]at this
theorem L8{s:ByteArray}(h:s.size<=40):(putL (zl 128) 5 (nmL s)).length=128:=by
 rw[Hp _ _ _ (by rw[C2,Iz];omega)];exact C2 _
theorem jI(x:Int)(s:ByteArray)(h:s.size<=40)(h0:0<=x)(h1:x<4294967296):Ak (Cu x s) 0 4=x:=by
 unfold Cu;rw[Hf _ _ _ _ _ _ (by rw[Eu,L8 h];omega) (by omega)];exact Jy _ _ _ _ (by rw[L8 h];omega) h0 h1
theorem jH(x:Int)(s:ByteArray)(h:s.size<=40):nth (Cu x s) 4=s.size:=by
 unfold Cu;rw[Eb _ _ _ _ (by rw[Eu,L8 h];omega),if_pos (by omega)];simp only[Nat.sub_self,Nat.mul_zero,Int.pow_zero,Int.ediv_one];omega
theorem Zz(x:Int)(s:ByteArray)(h:s.size<=40)(i:Nat)(hi:i<s.size):nth (Cu x s) (5+i)=nth (nmL s) i:=by
 unfold Cu
 rw[Eb _ _ _ _ (by rw[Eu,L8 h];omega),if_neg (by omega),Eb _ _ _ _ (by rw[L8 h];omega),if_neg (by omega),
  S9 _ _ _ _ (by rw[C2,Iz];omega),if_pos (by rw[Iz];omega),show 5+i-5=i by omega]
theorem cN(x:Int)(s:ByteArray)(h:s.size<=40):Mv (Cu x s)=s:=by
 unfold Mv;rw[jH x s h,if_pos (by omega)];have e:I2 (Cu x s) ((s.size:Int)).toNat=s.data.toList:=by
  apply List.ext_getElem
  ·rw[Kp,F1];omega
  ·intro i h1 h2;have hi:i<s.size:=(by rw[F1]at h2;exact h2);have hr:∀ (t:List Int) (n:Nat) (h1:i<(I2 t n).length),(I2 t n)[i]=UInt8.ofNat (nth t (5+i)).toNat:=fun t n h1=>by simp[I2]
   rw[hr,Zz x s h i hi];have hn:nth (nmL s) i=((s.data.toList[i]'h2).toNat:Int):=by
    unfold nth nmL;rw[List.getElem?_map,List.getElem?_eq_getElem h2];rfl
   rw[hn,Int.toNat_natCast,UInt8.ofNat_toNat]
 rw[e]
theorem Z0{x:Int}{s:ByteArray}(h:(Cv x s).2=0):(x=0/\s.toList=[])\/Fd x s:=by
 unfold Cv at h;by_cases h1:x=0/\s.toList=[]
 ·exact .inl h1
 ·rw[if_neg h1]at h;by_cases h2:Fd x s
  ·exact .inr h2
  ·rw[if_neg h2]at h;cases h
theorem kQ{s:ByteArray}(h:s.toList=[]):s={data:= #[]}:=by
 rw[Lib.toList_data]at h;obtain⟨⟨l⟩⟩:=s;obtain rfl:l=[]:=h;rfl
theorem iX:Mv (zl 128)={data:= #[]}:=by decide+kernel
theorem Ud{x:Int}{s:ByteArray}(h:(Cv x s).2=0):Ax (Cv x s).1=(x,s,0):=by
 rcases Z0 h with ⟨rfl,he⟩|hm
 ·obtain rfl:=kQ he;have e:Cv 0 {data:= #[]}=(zl 128,0):=(by unfold Cv;rw[if_pos ⟨rfl,he⟩]);simp only[e];unfold Ax;rw[qE,iX,if_pos e]
 ·have hz:¬ (x=0/\s.toList=[]):=fun hc=>by have:=hm.1.1;omega
  have e:Cv x s=(Cu x s,0):=(by unfold Cv;rw[if_neg hz,if_pos hm]);simp only[e];unfold Ax;have h40:=hm.size.2;have h1:=hm.1.1;have h2:=hm.1.2;rw[jI x s h40 (by omega) (by omega),cN x s h40,if_pos e]
theorem V1:Ax (zl 128)=(0,{data:= #[]},0):=by
 have he:Cv 0 {data:= #[]}=(zl 128,0):=by unfold Cv;rw[if_pos ⟨rfl,by decide+kernel⟩]
 have:=Ud (x:=0) (s:={data:= #[]}) (by rw[he]);rwa [he]at this
def Ay(S:Nat->List Int)(i:Nat)(s:List Int):Nat->List Int:=fun j=>if j=i then s else S j
noncomputable def C7(siftF:List Int->LS->List Int×Bool×LS)(at':Nat)(st:LS):Bool×LS:=
 if (siftF (Al (st.S at')) st).2.1=false then(false,{(siftF (Al (st.S at')) st).2.2 with cl:=Q2 (siftF (Al (st.S at')) st).2.2.cl at'})
 else(true,{(siftF (Al (st.S at')) st).2.2 with S:=Ay (siftF (Al (st.S at')) st).2.2.S at' (D5 (siftF (Al (st.S at')) st).1).1,fm:=A8 (siftF (Al (st.S at')) st).2.2.fm at'})
theorem B8.load{w:World}{g N c:Nat}{S:Nat->List Int}(h:B8 w g N c S){i:Nat}(hi:i<N):
  ∃ cs,hat w g=some (.cells cs 47)/\(∀ raw w',Ea raw 128 (i*128) w' (some (.cells cs 47))= .ok (.agg (IV .u8 (S i))) w')/\(S i).length=128/\A4 (S i):=by
 obtain⟨cs,h1,h2,h3⟩:=h;refine⟨cs,h1,fun raw w'=>?_,(h3 i hi).1,(h3 i hi).2.1⟩;rw[Dp (by omega),(h3 i hi).2.2]
theorem Ma(old:Array Value)(off:Nat)(cs:Array Value):(Ap old off cs).toList=old.toList.take off++(cs.toList++old.toList.drop (off+cs.size)):=by
 unfold Ap;simp
theorem jM{cs new:Array Value}{m i:Nat}(hi:i*m+m<=cs.size)(hn:new.size=m):(Ap cs (i*m) new).extract (i*m) (i*m+m)=new:=by
 apply Array.ext'
 rw[Array.toList_extract,List.extract_eq_take_drop,Ma];have hlen:(cs.toList.take (i*m)).length=i*m:=by simp;omega
 rw[Nat.add_sub_cancel_left,List.drop_left' hlen,List.take_left' (by simpa using hn)]
theorem cQ{cs new:Array Value}{m i j:Nat}(hi:i*m+m<=cs.size)(hn:new.size=m)(hji:j*m+m<=i*m\/i*m+m<=j*m):(Ap cs (i*m) new).extract (j*m) (j*m+m)=cs.extract (j*m) (j*m+m):=by
 apply Array.ext'
 rw[Array.toList_extract,Array.toList_extract,List.extract_eq_take_drop,List.extract_eq_take_drop,Ma];have hlen:(cs.toList.take (i*m)).length=i*m:=by simp;omega
 apply List.ext_getElem?
 intro k;rw[List.getElem?_take,List.getElem?_take];split
 ·rename_i hk
  rw[List.getElem?_drop,List.getElem?_drop];rcases hji with h4|h4
  ·rw[List.getElem?_append_left (by rw[hlen];omega),List.getElem?_take,if_pos (by omega)]
  ·rw[List.getElem?_append_right (by rw[hlen];omega),hlen,List.getElem?_append_right (by rw[Array.length_toList,hn];omega),Array.length_toList,List.getElem?_drop,hn];congr 1
   omega
 ·rfl
theorem B8.store{w:World}{g N c:Nat}{S:Nat->List Int}(h:B8 w g N c S){cs:Array Value}(hcs:hat w g=some (.cells cs 47)){i:Nat}(hi:i<N){s:List Int}(hl:s.length=128)(hb:A4 s):
  B8 (w.setRow g (Ap cs (i*128) (IV .u8 s))) g N c (Ay S i s):=by
 obtain⟨cs',h1,h2,h3⟩:=h;rw[hcs]at h1;obtain rfl:cs=cs':=by
  have:=Option.some.inj h1;injection this
 have hsz:(IV .u8 s).size=128:=by rw[Rb,hl]
 have hi2:i*128+128<=N*128:=by omega
 refine⟨Ap cs (i*128) (IV .u8 s),Ar _ _ _ _ _ _ hcs,(by rw[Hs _ _ _ (by rw[hsz];omega)];exact h2),fun j hj=>?_⟩;unfold Ay;by_cases hji:j=i
 ·subst hji;rw[if_pos rfl];exact⟨hl,hb,jM (by omega) hsz⟩
 ·rw[if_neg hji];refine⟨(h3 j hj).1,(h3 j hj).2.1,(cQ (by omega) hsz (by omega)).trans (h3 j hj).2.2⟩
theorem Jk{s:List Int}(hb:A4 s):∀ p∈Al s,0<=p/\p<=4294967295:=by
 intro p hp;unfold Al at hp;rw[List.mem_map]at hp;obtain⟨i,hi,he⟩:=hp;rw[<-he];exact lI hb (4*i)
theorem Nx(l:List Int):A4 (D5 l).1:=by
 by_cases h:F8 l
 ·simp only[J5 h];exact M6 l 32 (by omega)
 ·simp only[W7 h];exact F0 128
theorem Fr.drop_new{ex:List Nat}{w a b:World}{g:Nat}(h:Fr [] w a)(h2:Fr (g::ex) a b)(hg:w.heap.size<=g):Fr ex w b:=
 ⟨h2.os.trans h.os,h2.tape.trans h.tape,h2.output.trans h.output,Nat.le_trans h.size h2.size,fun k hk hn=>(h2.block k (Nat.lt_of_lt_of_le hk h.size) (by simp only[List.mem_cons,not_or];exact⟨by omega,hn⟩)).trans (h.block k hk (by simp))⟩
theorem V5{E:Env}(hE:EOk E)(siftF:List Int->LS->List Int×Bool×LS)(f:Nat)(caps:Array Value)(at':Nat)(st:LS)(w:World)(J:World->Prop)(ex:List Nat)(hJ:J w)(hJf:∀ w w',J w->Fr [] w w'->J w')
  (hf:∀ args w,(callFunc f args).run Tryz.prog w= .ok (.enter f args) w) (ha:at'<E.N) (hN:E.N<=4096) (h:LK E w st)
  (hsift:∀ (ps:List Int) (gt:Nat) (st:LS) (W:World),ps.length=32->(∀ p∈ps,0<=p/\p<=4294967295)->LK E W st->J W->Gn W gt 0 119 32 (fun _=>none) ps->gt∉[E.gl,E.gw,E.bc,E.bf,E.bx]->w.heap.size<=gt->
   Calls Tryz.prog f (#[.slice (some ⟨gt,0,none⟩) 32 32]++caps) W fun e w'=>e= .returned (.bool (siftF ps st).2.1)/\LK E w' (siftF ps st).2.2/\hat w' gt=some (.cells (IV .i64 (siftF ps st).1) 119)/\(siftF ps st).1.length=32/\Fr (gt::ex) W w'):
  Calls Tryz.prog 79 #[.pointer (some ⟨E.gl,0,none⟩),.int .i64 at',.func (.func f) #[] caps] w fun e w'=>e= .returned (.bool (C7 siftF at' st).1)/\LK E w' (C7 siftF at' st).2/\Fr ([E.bc,E.gw,E.bf]++ex) w w':=by
 have hl:=h.look;unfold Bz at hl;obtain⟨cs,hcs,hld,hlen,hby⟩:=h.want.load ha;have HBY:=zA hby;have HS:=zA hsift;have HH:=zA h;clear hby hsift;have ha0:(0:Int)<=(at':Int):=Int.natCast_nonneg _;have ha1:(at':Int)<(E.N:Int):=by omega
 go_enter Tryz.func79,Tryz.ntmps79;go_wp2_with fail;refine(Oq (st.S at') hlen HBY.out _).mono ?_;rintro e w1 ⟨rfl,hb⟩;go_wp2_with fail;have hb2:=As hb hb.size (.cells (IV .i64 (Al (st.S at'))) 119);have hlk2:=HH.out.fr (Af hb2 []) (by simp) (by simp) (by simp) (by simp) (by simp);have hg2:=A6 w1 (.cells (IV .i64 (Al (st.S at'))) 119);have hz1:=hb.size;have hn2:Gn (w1.alloc (.cells (IV .i64 (Al (st.S at'))) 119)) w1.heap.size 0 119 32 (fun _=>none) (Al (st.S at')):=⟨_,hg2.1,by simp,by simp,fun j p hj=>(by rw[Nat.zero_add,Bl,hj];rfl),fun j hj=>Array.getElem?_eq_none (by simp at hj ⊢;omega)⟩;have hgn:w1.heap.size∉[E.gl,E.gw,E.bc,E.bf,E.bx]:=by
  have a1:=Aa HH.out.look;have a2:=Aa hcs;have a3:=HH.out.claim.lt;have a4:=HH.out.firm.lt;have a5:=HH.out.blocks.lt;simp only[List.mem_cons,List.mem_nil_iff,or_false];omega
 have HB2:=zA hb2;have HGN:=zA hgn;refine(HS.out (Al (st.S at')) w1.heap.size st _ (by simp) (Jk HBY.out) hlk2 (hJf _ _ hJ (Af hb2 [])) hn2 hgn hz1).mono ?_;rintro e w3 ⟨rfl,hlk3,hg3,hl3,hf3⟩;clear hb2 hlk2 hg2 hn2 hgn hl hcs hld hlen HS hb;generalize hR:siftF (Al (st.S at')) st=R at*;have HR:=zA hR;clear hR;obtain⟨ps,left,st3⟩:=R;simp only at hlk3 hg3 hl3;have HL3:=zA hlk3;have HF3:=zA hf3;have hl:=hlk3.look;unfold Bz at hl;cases left with
 |false=>
  obtain⟨w4,hr,hm,ht⟩:=hlk3.claim.del (p:=(at':Int)) ⟨ha0,by omega⟩ 0;have HM4:=zA hm;have HT4:=zA ht;clear hm ht hlk3 hf3 hg3 hl3;go_wp2_with fail;go_ret;have hfr:Fr ([E.bc,E.gw,E.bf]++ex) w w4:=((Fr.drop_new (Af HB2.out []) HF3.out hz1).mono (by simp+contextual)).trans ((Ge HT4.out).mono (by simp));have h3:=HL3.out;have hw3:=h3.want;obtain⟨cs3,hw3,-⟩:=hw3;unfold C7;rw[HR.out];exact⟨rfl,⟨(B9 HT4.out hE.n2 (Aa h3.look)).trans h3.look,h3.want.same (B9 HT4.out hE.n4 (Aa hw3)),HM4.out,h3.firm.same (B9 HT4.out hE.n6.symm h3.firm.lt),h3.blocks.same (B9 HT4.out hE.n9.symm h3.blocks.lt)⟩,hfr⟩
 |true=>
  have hcl:=hlk3.want;obtain⟨cs3,hcs3,hs3,hs3b⟩:=hcl
  have hst:∀ raw w',Dd raw 128 (at'*128) E.gw (IV .u8 (D5 ps).1) w' (some (.cells cs3 47 (0,0)))= .ok () (w'.setRow E.gw (Ap cs3 (at'*128) (IV .u8 (D5 ps).1))):=fun raw w'=>
   Cj (by omega) (by simp) (by simp)
  have HPL:=zA hl3;clear hs3b hf3;have hgt:w1.heap.size≠E.gw:=fun e=>HGN.out (by rw[e];simp)
  have hgt0:w1.heap.size<w3.heap.size:=Aa hg3;have hgl0:E.gl<w3.heap.size:=Aa hl;generalize w1.heap.size=gt at*;have hn1:=hE.n1;go_wp2_with fail;go_region_with ((refine(lY ps HPL.out _).mono ?_;rintro e w5 ⟨rfl,hb5⟩;have hb5:Below w3.heap.size w3 w5:=⟨hb5.os,hb5.tape,hb5.output,hb5.size,hb5.block⟩;have fl5:=(hop hb5 hl).1;have fg5:=(hop hb5 hg3).1;have fw5:=(hop hb5 hcs3).1))
  all_goals
   have hf5:Fr [] w3 w5:=Af hb5 [];have hlk5:=HL3.out.fr hf5 (by simp) (by simp) (by simp) (by simp) (by simp);have hw6:=hlk5.want.store fw5 ha (L0 ps) (Nx ps);have hl6:hat (w5.setRow E.gw (Ap cs3 (at'*128) (IV .u8 (D5 ps).1))) E.gl=_:=(Bj _ _ _ _ hE.n1).trans fl5;have hc6:=hlk5.claim.same (Bj w5 E.gw E.bc (Ap cs3 (at'*128) (IV .u8 (D5 ps).1)) hE.n4.symm);have hb6:=hlk5.blocks.same (Bj w5 E.gw E.bx (Ap cs3 (at'*128) (IV .u8 (D5 ps).1)) hE.n8.symm);have hm6:=hlk5.firm.same (Bj w5 E.gw E.bf (Ap cs3 (at'*128) (IV .u8 (D5 ps).1)) hE.n5.symm);have hf6:Fr ([E.bc,E.gw,E.bf]++ex) w3 (w5.setRow E.gw (Ap cs3 (at'*128) (IV .u8 (D5 ps).1))):=(hf5.mono (by simp)).trans ((Da _ _ _).mono (by simp));generalize w5.setRow E.gw (Ap cs3 (at'*128) (IV .u8 (D5 ps).1))=w6 at*;obtain⟨w7,hr7,hm7,ht7⟩:=hm6.put (p:=(at':Int)) ⟨ha0,by omega⟩;have HW6:=zA hw6;have HC6:=zA hc6;have HX6:=zA hb6;have HF6:=zA hf6;have HM7:=zA hm7;have HT7:=zA ht7;have hl6s:=Aa hl6;clear hw6 hc6 hb6 hm6 hf6 hm7 ht7 hlk5 hf5 hlk3;go_wp2_with fail;go_ret;unfold C7;rw[HR.out];have hfr:Fr ([E.bc,E.gw,E.bf]++ex) w w7:=(((Fr.drop_new (Af HB2.out []) HF3.out hz1).mono (by simp+contextual)).trans HF6.out).trans ((Ge HT7.out).mono (by simp));have hw6:=HW6.out;obtain⟨cs6,hw6,-⟩:=hw6;exact⟨rfl,⟨(B9 HT7.out hE.n3 hl6s).trans hl6,HW6.out.same (B9 HT7.out hE.n5 (Aa hw6)),HC6.out.same (B9 HT7.out hE.n6 HC6.out.lt),HM7.out,HX6.out.same (B9 HT7.out hE.n10.symm HX6.out.lt)⟩,hfr⟩
theorem Fi(w:World)(g i:Nat)(v:Value)(n:Nat)(h:n≠g):hat (w.setCell ⟨g,i,none⟩ v) n=hat w n:=Fh _ ⟨g,i,none⟩ v n h
structure Hz where
 (lv nv xv gx:Nat)
 n:Int
structure TV (E:Env) (T:Hz) (w:World):Prop where
 l:hat w T.lv=some (.cells #[.pointer (some ⟨E.gl,0,none⟩)] 89)
 n:hat w T.nv=some (.cells #[.int .i64 T.n] 3)
 x:hat w T.xv=some (.cells #[.pointer (some ⟨T.gx,0,none⟩)] 103)
 g:∃ cs,hat w T.gx=some (.cells cs 102)/\cs.size=20/\cs[19]? =some (.map (some E.bx))
theorem TV.fr{E:Env}{T:Hz}{w w':World}{ex:List Nat}(h:TV E T w)(hf:Fr ex w w')(h1:T.lv∉ex)(h2:T.nv∉ex)(h3:T.xv∉ex)(h4:T.gx∉ex):TV E T w':=by
 obtain⟨cs,hg,hg2⟩:=h.g;exact⟨(hf.block _ (Aa h.l) h1).trans h.l,(hf.block _ (Aa h.n) h2).trans h.n,(hf.block _ (Aa h.x) h3).trans h.x,cs,(hf.block _ (Aa hg) h4).trans hg,hg2⟩
theorem TV.cell{E:Env}{T:Hz}{w:World}(h:TV E T w)(g j:Nat)(v:Value)(h1:g≠T.lv)(h2:g≠T.nv)(h3:g≠T.xv)(h4:g=T.gx->j<=18):TV E T (w.setCell ⟨g,j,none⟩ v):=by
 obtain⟨cs,hg,hg2,hg3⟩:=h.g;refine⟨(Fi w g j v _ h1.symm).trans h.l,(Fi w g j v _ h2.symm).trans h.n,(Fi w g j v _ h3.symm).trans h.x,?_⟩;by_cases hgx:g=T.gx
 ·have hj:=h4 hgx;subst hgx;refine⟨cs.setIfInBounds j v,Ah _ _ _ _ _ _ _ hg,by simpa using hg2,?_⟩;rw[Array.getElem?_setIfInBounds,if_neg (by omega)];exact hg3
 ·exact⟨cs,(Fi w g j v _ (fun e=>hgx e.symm)).trans hg,hg2,hg3⟩
def En(E:Env):List Nat:=[E.gl,E.gw,E.bc,E.bf,E.bx]
structure TOk (E:Env) (T:Hz):Prop where
 l:T.lv∉En E
 n:T.nv∉En E
 x:T.xv∉En E
 g:T.gx∉En E
 n0:0<=T.n
 n1:T.n<=1068
def Cm(base:Int)(k:Nat)(p:Int)(st:LS):Bool×LS:=(true,{st with bk:=Ec st.bk (base+k) p})
def Oz(E:Env)(T:Hz)(base:Int)(ps:List Int)(st:LS):List Int×Bool×LS:=A0 (At E) (Cm base) base 1 T.n 0 ps st
theorem Yv{E:Env}(hE:EOk E){T:Hz}(hT:TOk E T)(fv:Nat)(base:Int)(k:Nat)(p:Int)(st:LS)(w:World)(h:LK E w st)(hv:TV E T w)(hf:hat w fv=some (.cells #[.int .i64 base] 3))
  (h0:0<=base) (h1:base<=1068) (hk:k<32) (hp0:0<=p) (hp1:p<=4294967295):
  Calls Tryz.prog 77 #[.int .i64 k,.int .i64 p,.pointer (some ⟨T.xv,0,none⟩),.pointer (some ⟨fv,0,none⟩)] w fun e w'=>
   e= .returned (.bool (Cm base k p st).1)/\LK E w' (Cm base k p st).2/\Fr [E.bx] w w':=by
 obtain⟨cs,hg,hgs,hg19⟩:=hv.g;have h19:∀ h:19<cs.size,cs[19]'h=Value.map (some E.bx):=fun h=>by
  rw[Array.getElem?_eq_getElem h]at hg19;exact Option.some.inj hg19
 have hx:=hv.x;have HL:=zA h;obtain⟨w1,hr,hm,ht⟩:=(show IB w.drew E.bx st.bk from h.blocks).put (p:=base+k) (a:=p) (by omega) (Gg hp0 hp1);have HM:=zA hm;have HT:=zA ht;have hk0:(0:Int)<=(k:Int):=Int.natCast_nonneg _;have hk1:(k:Int)<32:=by omega
 clear hm ht h;go_enter Tryz.func77,Tryz.ntmps77;go_wp2_with fail;go_region
 go_wp2_with fail;go_ret;have hl:LK E w.drew st:=HL.out.fr (Bb (Fr.refl [] w)) (by simp) (by simp) (by simp) (by simp) (by simp);have hw:=hl.want;obtain⟨csw,hw,-⟩:=hw;exact⟨rfl,⟨(B9 HT.out hE.n7 (Aa hl.look)).trans hl.look,hl.want.same (B9 HT.out hE.n8 (Aa hw)),hl.claim.same (B9 HT.out hE.n9 hl.claim.lt),hl.firm.same (B9 HT.out hE.n10 hl.firm.lt),HM.out⟩,(Bb (Fr.refl _ w)).trans (Ge HT.out)⟩
theorem eJ{E:Env}(hE:EOk E){T:Hz}(hT:TOk E T)(gp op cp sz:Nat)(tg:TypeId)(re:Nat->Option Value)(ps:List Int)(base:Int)(st:LS)(w:World)(h:LK E w st)(hv:TV E T w)(hN:Gn w gp op tg sz re ps)
  (hc:ps.length<=cp) (hm:ps.length<=32) (h0:0<=base) (h1:base<=1068) (hp:∀ p∈ps,0<=p/\p<=4294967295)
  (hg:gp∉En E) (hl:gp≠T.lv) (hn:gp≠T.nv) (hx:gp≠T.xv) (hgx:gp=T.gx->op+ps.length<=19):
  Calls Tryz.prog 75 #[.slice (some ⟨gp,op,none⟩) ps.length cp,.int .i64 base,.pointer (some ⟨T.lv,0,none⟩),.pointer (some ⟨T.nv,0,none⟩),.pointer (some ⟨T.xv,0,none⟩)] w fun e w'=>
   e= .returned (.bool (Oz E T base ps st).2.1)/\LK E w' (Oz E T base ps st).2.2/\TV E T w'/\Gn w' gp op tg sz re (Oz E T base ps st).1/\Fr [E.bc,E.bx,gp] w w':=by
 have HL:=zA h;have HV:=zA hv;have HN:=zA hN;have HP:=zA hp;have hv1:=hv.l;have hv2:=hv.n;have hv3:=hv.x;have z1:=Aa hv1;have z2:=Aa hv2;have z3:=Aa hv3;clear h hv hN hp;go_enter Tryz.func75,Tryz.ntmps75;go_wp2_with fail;have hf0:Fr [] w (w.alloc (.cells #[.int .i64 base] 3)):=Af ((Below.refl w.heap.size w).alloc (Nat.le_refl _) _) [];have hN1:=HN.out;obtain⟨csg,hg1,hg2⟩:=hN1;have hgl:=Aa hg1;have hfv:=A6 w (.cells #[.int .i64 base] 3);have hgf:gp≠w.heap.size:=by omega
 have hbcf:E.bc≠w.heap.size:=by have:=HL.out.claim.lt;omega
 have hbxf:E.bx≠w.heap.size:=by have:=HL.out.blocks.lt;omega
 have hl0:=HL.out.fr hf0 (by simp) (by simp) (by simp) (by simp) (by simp);have hv0:=HV.out.fr hf0 (by simp) (by simp) (by simp) (by simp);have hn0:=HN.out.same (hf0.block gp hgl (by simp));generalize hfv':w.heap.size=fv at*;generalize w.alloc (.cells #[.int .i64 base] 3)=w0 at*;have hg0:gp<w0.heap.size:=by have:=hf0.size;omega
 obtain⟨hm1,hm2,hm3,hm4,hm5⟩:gp≠E.gl/\gp≠E.gw/\gp≠E.bc/\gp≠E.bf/\gp≠E.bx:=by simpa [En]using hg
 obtain⟨-,-,tl2,-,tl3⟩:T.lv≠E.gl/\T.lv≠E.gw/\T.lv≠E.bc/\T.lv≠E.bf/\T.lv≠E.bx:=by simpa [En]using hT.l
 obtain⟨-,-,tn2,-,tn3⟩:T.nv≠E.gl/\T.nv≠E.gw/\T.nv≠E.bc/\T.nv≠E.bf/\T.nv≠E.bx:=by simpa [En]using hT.n
 obtain⟨-,-,tx2,-,tx3⟩:T.xv≠E.gl/\T.xv≠E.gw/\T.xv≠E.bc/\T.xv≠E.bf/\T.xv≠E.bx:=by simpa [En]using hT.x
 obtain⟨-,-,tg2,-,tg3⟩:T.gx≠E.gl/\T.gx≠E.gw/\T.gx≠E.bc/\T.gx≠E.bf/\T.gx≠E.bx:=by simpa [En]using hT.g
 refine(T9 (At E) (Cm base) base 1 T.n (fun w' st'=>LK E w' st'/\TV E T w'/\hat w' fv=some (.cells #[.int .i64 base] 3)/\Fr [E.bc,E.bx,gp] w0 w') _ 77 #[.pointer (some ⟨T.xv,0,none⟩),.pointer (some ⟨fv,0,none⟩)] gp op cp sz tg re ps st w0 ?hf ⟨hl0,hv0,hfv.1,Fr.refl _ _⟩ hn0 hc hm h0 (by omega) (by omega) (by omega) hT.n0 (by have:=hT.n1;omega) HP.out ?hset ?hgood ?hkeep).mono ?post
 case hf=>
  intro args w;go_simp
 case hset=>
  rintro w1 st1 j v hj1 hj2 ⟨h1,h2,h3,h4⟩;have hfr:=Ai w1 gp j v
  exact⟨h1.fr hfr (by simpa using hm1.symm) (by simpa using hm2.symm) (by simpa using hm3.symm) (by simpa using hm4.symm) (by simpa using hm5.symm),
   h2.cell gp j v hl hn hx (fun e=>by have:=hgx e;omega),(Fi w1 gp j v _ hgf.symm).trans h3,h4.trans (hfr.mono (by simp))⟩
 case hgood=>
  rintro p st1 w1 hp0 hp1 ⟨h1,h2,h3,h4⟩;refine(Sf hE p st1 w1 hp0 hp1 h1).mono ?_;rintro e w2 ⟨rfl,h5,h6⟩;exact⟨rfl,⟨h5,h2.fr h6 (by simpa using tl2) (by simpa using tn2) (by simpa using tx2) (by simpa using tg2),(h6.block fv (Aa h3) (by simpa using hbcf.symm)).trans h3,h4.trans (h6.mono (by simp))⟩,h6.block gp (Nat.lt_of_lt_of_le hg0 h4.size) (by simpa using hm3)⟩
 case hkeep=>
  rintro k p st1 w1 hk hp0 hp1-⟨h1,h2,h3,h4⟩;refine(Yv hE hT fv base k p st1 w1 h1 h2 h3 h0 (by omega) (by omega) hp0 hp1).mono ?_;rintro e w2 ⟨rfl,h5,h6⟩;exact⟨rfl,⟨h5,h2.fr h6 (by simpa using tl3) (by simpa using tn3) (by simpa using tx3) (by simpa using tg3),(h6.block fv (Aa h3) (by simpa using hbxf.symm)).trans h3,h4.trans (h6.mono (by simp))⟩,h6.block gp (Nat.lt_of_lt_of_le hg0 h4.size) (by simpa using hm5)⟩
 case post=>
  rintro e w1 ⟨rfl,⟨h1,h2,h3,h4⟩,h5⟩;have HF:=zA ((hf0.mono (by simp)).trans h4);have H1:=zA h1;have H2:=zA h2;have H5:=zA h5;clear h1 h2 h3 h4 h5 hl0 hv0 hn0 hfv hv1 hv2 hv3;go_wp2_with fail;go_ret;exact⟨rfl,H1.out,H2.out,H5.out,HF.out⟩
end Go.Proofs.YtmnecpnkkapflaaGreat
