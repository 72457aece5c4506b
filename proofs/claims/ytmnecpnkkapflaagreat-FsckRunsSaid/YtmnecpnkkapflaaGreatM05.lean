import Derived.Lib.SliceRun
import Derived.StringKeys
import Derived.Test.YtmnecpnkkapflaaGreatM04
namespace Go.Proofs.YtmnecpnkkapflaaGreat
set_option maxHeartbeats 16000000
set_option maxRecDepth 1000000
set_option linter.unusedSimpArgs false
set_option linter.unusedVariables false
open Go.RowKit
structure TC (E:Env) (T:Hz) (rv bv:Nat) (w:World):Prop where
 v:TV E T w
 r:hat w rv=some (.cells #[.func (.func 75) #[] #[.pointer (some ⟨T.lv,0,none⟩),.pointer (some ⟨T.nv,0,none⟩),.pointer (some ⟨T.xv,0,none⟩)]] 132)
 b:hat w bv=some (.cells #[.func (.func 78) #[] #[.pointer (some ⟨T.lv,0,none⟩),.pointer (some ⟨rv,0,none⟩)]] 131)
def Ef(T:Hz)(rv bv:Nat):List Nat:=[T.lv,T.nv,T.xv,T.gx,rv,bv]
theorem TC.fr{E:Env}{T:Hz}{rv bv:Nat}{w w':World}{ex:List Nat}(h:TC E T rv bv w)(hf:Fr ex w w')(hd:∀ k∈ex,k∉Ef T rv bv):TC E T rv bv w':=by
 have m:∀ k,k∈Ef T rv bv->k∉ex:=fun k hk he=>hd k he hk
 exact⟨h.v.fr hf (m _ (by simp[Ef])) (m _ (by simp[Ef])) (m _ (by simp[Ef])) (m _ (by simp[Ef])),(hf.block _ (Aa h.r) (m _ (by simp[Ef]))).trans h.r,(hf.block _ (Aa h.b) (m _ (by simp[Ef]))).trans h.b⟩
theorem TC.lt{E:Env}{T:Hz}{rv bv:Nat}{w:World}(h:TC E T rv bv w):∀ k∈Ef T rv bv,k<w.heap.size:=by
 obtain⟨cs,hg,-⟩:=h.v.g;intro k hk;simp only[Ef,List.mem_cons,List.mem_nil_iff,or_false]at hk;rcases hk with rfl|rfl|rfl|rfl|rfl|rfl
 ·exact Aa h.v.l
 ·exact Aa h.v.n
 ·exact Aa h.v.x
 ·exact Aa hg
 ·exact Aa h.r
 ·exact Aa h.b
structure COk (E:Env) (T:Hz) (rv bv:Nat):Prop where
 t:TOk E T
 apart:∀ k∈En E,k∉Ef T rv bv
theorem nG{E:Env}(hE:EOk E){T:Hz}{rv bv:Nat}(hT:COk E T rv bv)(fv gt:Nat)(base:Int)(ps:List Int)(st:LS)(w:World)(h:LK E w st)(hv:TC E T rv bv w)(hf:hat w fv=some (.cells #[.int .i64 base] 3))
  (hN:Gn w gt 0 119 32 (fun _=>none) ps) (hl:ps.length=32) (hp:∀ p∈ps,0<=p/\p<=4294967295) (h0:0<=base) (h1:base<=1068) (hg:gt∉En E) (hgt:gt∉Ef T rv bv):
  Calls Tryz.prog 80 #[.slice (some ⟨gt,0,none⟩) 32 32,.pointer (some ⟨rv,0,none⟩),.pointer (some ⟨fv,0,none⟩)] w fun e w'=>
   e= .returned (.bool (Oz E T base ps st).2.1)/\LK E w' (Oz E T base ps st).2.2/\hat w' gt=some (.cells (IV .i64 (Oz E T base ps st).1) 119)/\(Oz E T base ps st).1.length=32/\Fr [gt,E.bc,E.bx] w w':=by
 have hr:=hv.r;have HL:=zA h;have HV:=zA hv;have HN:=zA hN;have HP:=zA hp;clear h hv hN hp;simp only[Ef,List.mem_cons,List.mem_nil_iff,or_false,not_or]at hgt;go_enter Tryz.func80,Tryz.ntmps80;go_wp2_with fail;have hc:=eJ hE hT.t gt 0 32 32 119 (fun _=>none) ps base st w HL.out HV.out.v HN.out (by omega) (by omega) h0 h1 HP.out hg hgt.1 hgt.2.1 hgt.2.2.1 (fun e=>absurd e hgt.2.2.2.1);rw[hl]at hc;refine hc.mono ?_;rintro e w1 ⟨rfl,h2,h3,h4,h5⟩;have hlen:(Oz E T base ps st).1.length=32:=(Ep _ _ _ _ _ _ _ _).trans hl;have h6:hat w1 gt=some (.cells (IV .i64 (Oz E T base ps st).1) 119):=Gn.all (by rw[hlen];exact h4);have H2:=zA h2;have H5:=zA h5;have H6:=zA h6;have HLEN:=zA hlen;clear h2 h3 h4 h5 h6 hlen hc;go_wp2_with fail;go_ret;exact⟨rfl,H2.out,H6.out,HLEN.out,H5.out.mono (by simp)⟩
noncomputable def Ru(E:Env)(T:Hz)(base p:Int)(st:LS):Bool×LS:=C7 (Oz E T base) p.toNat st
theorem U5{E:Env}(hE:EOk E){T:Hz}{rv bv:Nat}(hT:COk E T rv bv)(base p:Int)(st:LS)(w:World)(h:LK E w st)(hv:TC E T rv bv w)
  (h0:0<=base) (h1:base<=1068) (hp:isD E.X E.Y p=true):
  Calls Tryz.prog 78 #[.int .i64 p,.int .i64 base,.pointer (some ⟨T.lv,0,none⟩),.pointer (some ⟨rv,0,none⟩)] w fun e w'=>
   e= .returned (.bool (Ru E T base p st).1)/\LK E w' (Ru E T base p st).2/\Fr [E.bc,E.gw,E.bf,E.bx] w w':=by
 have hr:=J2 hE hp;have hl:=hv.v.l;have hlz:=Aa hl;have HL:=zA h;have HV:=zA hv;clear h hv;have hpn:p=(p.toNat:Int):=by omega
 unfold Ru;generalize p.toNat=at' at*;subst hpn;go_enter Tryz.func78,Tryz.ntmps78;go_wp2_with fail;have hf0:Fr [] w (w.alloc (.cells #[.int .i64 base] 3)):=Af ((Below.refl w.heap.size w).alloc (Nat.le_refl _) _) [];have hfv:=A6 w (.cells #[.int .i64 base] 3);have hlt:=HV.out.lt;have hv0:=HV.out.fr hf0 (by simp);have hl0:=HL.out.fr hf0 (by simp) (by simp) (by simp) (by simp) (by simp);have hf2:=hf0.size;generalize hfv':w.heap.size=fv at*;generalize w.alloc (.cells #[.int .i64 base] 3)=w0 at*;have hcl:=HL.out.claim.lt;have hfr:=HL.out.firm.lt;have hbl:=HL.out.blocks.lt;refine(V5 hE (Oz E T base) 80 #[.pointer (some ⟨rv,0,none⟩),.pointer (some ⟨fv,0,none⟩)] at' st w0 (fun W=>TC E T rv bv W/\hat W fv=some (.cells #[.int .i64 base] 3)) [E.bc,E.bx] ⟨hv0,hfv.1⟩ ?hJ ?hf (by omega) (by have:=hE.small;have:=hE.size;omega) hl0 ?hs).mono ?post
 case hJ=>
  rintro W W' ⟨h2,h3⟩ hfr;exact⟨h2.fr hfr (by simp),(hfr.block fv (Aa h3) (by simp)).trans h3⟩
 case hf=>
  intro args w;go_simp
 case hs=>
  rintro ps gt st1 W hps hpb h2 ⟨h3,h4⟩ h5 h6 h7;refine(nG hE hT fv gt base ps st1 W h2 h3 h4 h5 hps hpb h0 h1 h6 ?_).mono fun e w' h=>h
  intro hm;have:=hlt gt hm;have:=hfv.2;omega
 case post=>
  rintro e w1 ⟨rfl,h2,h3⟩;have H2:=zA h2;have H3:=zA ((hf0.mono (by simp)).trans (h3.mono (ex':=[E.bc,E.gw,E.bf,E.bx]) (by simp)));clear h2 h3 hl0 hv0 hfv hl;go_wp2_with fail;go_ret;exact⟨rfl,H2.out,H3.out⟩
theorem Vf{E:Env}{p:Int}(h:∃ s0,(At E p s0).1=true):isD E.X E.Y p=true:=by
 obtain⟨s0,h⟩:=h;unfold At at h;split at h
 ·rename_i h2;exact h2.1
 ·cases h
noncomputable def dU(E:Env)(T:Hz)(_k:Nat)(p:Int)(st:LS):Bool×LS:=Ru E T 12 p st
noncomputable def Yu(E:Env)(T:Hz)(k:Nat)(p:Int)(st:LS):Bool×LS:=Ru E T (44+32*k) p st
noncomputable def X8(E:Env)(T:Hz)(ps:List Int)(st:LS):List Int×Bool×LS:=A0 (At E) (Yu E T) 44 32 T.n 0 ps st
noncomputable def dV(E:Env)(T:Hz)(_k:Nat)(p:Int)(st:LS):Bool×LS:=C7 (X8 E T) p.toNat st
theorem gX{E:Env}(hE:EOk E){T:Hz}{rv bv:Nat}(hT:COk E T rv bv)(k:Nat)(p:Int)(st:LS)(w:World)(h:LK E w st)(hv:TC E T rv bv w)(hp:isD E.X E.Y p=true):
  Calls Tryz.prog 81 #[.int .i64 k,.int .i64 p,.pointer (some ⟨bv,0,none⟩)] w fun e w'=>
   e= .returned (.bool (dU E T k p st).1)/\LK E w' (dU E T k p st).2/\Fr [E.bc,E.gw,E.bf,E.bx] w w':=by
 have hb:=hv.b;have HL:=zA h;have HV:=zA hv;clear h hv;unfold dU;go_enter Tryz.func81,Tryz.ntmps81;go_wp2_with fail;refine(U5 hE hT 12 p st w HL.out HV.out (by omega) (by omega) hp).mono ?_;rintro e w1 ⟨rfl,h2,h3⟩;have H2:=zA h2;have H3:=zA h3;clear h2 h3;go_wp2_with fail;go_ret;exact⟨rfl,H2.out,H3.out⟩
theorem gZ{E:Env}(hE:EOk E){T:Hz}{rv bv:Nat}(hT:COk E T rv bv)(k:Nat)(hk:k<32)(p:Int)(st:LS)(w:World)(h:LK E w st)(hv:TC E T rv bv w)(hp:isD E.X E.Y p=true):
  Calls Tryz.prog 84 #[.int .i64 k,.int .i64 p,.pointer (some ⟨bv,0,none⟩)] w fun e w'=>
   e= .returned (.bool (Yu E T k p st).1)/\LK E w' (Yu E T k p st).2/\Fr [E.bc,E.gw,E.bf,E.bx] w w':=by
 have hb:=hv.b;have HL:=zA h;have HV:=zA hv;have hk0:(0:Int)<=(k:Int):=Int.natCast_nonneg _;have hk1:(k:Int)<32:=by omega
 clear h hv;unfold Yu;go_enter Tryz.func84,Tryz.ntmps84;go_wp2_with fail;refine(U5 hE hT (44+32*k) p st w HL.out HV.out (by omega) (by omega) hp).mono ?_;rintro e w1 ⟨rfl,h2,h3⟩;have H2:=zA h2;have H3:=zA h3;clear h2 h3;go_wp2_with fail;go_ret;exact⟨rfl,H2.out,H3.out⟩
theorem pO{E:Env}(hE:EOk E){T:Hz}{rv bv:Nat}(hT:COk E T rv bv)(gt:Nat)(ps:List Int)(st:LS)(w:World)(h:LK E w st)(hv:TC E T rv bv w)
  (hN:Gn w gt 0 119 32 (fun _=>none) ps) (hl:ps.length=32) (hp:∀ p∈ps,0<=p/\p<=4294967295) (hg:gt∉En E) (hgt:gt∉Ef T rv bv):
  Calls Tryz.prog 83 #[.slice (some ⟨gt,0,none⟩) 32 32,.pointer (some ⟨T.lv,0,none⟩),.pointer (some ⟨T.nv,0,none⟩),.pointer (some ⟨bv,0,none⟩)] w fun e w'=>
   e= .returned (.bool (X8 E T ps st).2.1)/\LK E w' (X8 E T ps st).2.2/\hat w' gt=some (.cells (IV .i64 (X8 E T ps st).1) 119)/\(X8 E T ps st).1.length=32/\Fr [gt,E.bc,E.gw,E.bf,E.bx] w w':=by
 have hv1:=hv.v.l;have hv2:=hv.v.n;have HL:=zA h;have HV:=zA hv;have HN:=zA hN;have HP:=zA hp;clear h hv hN hp;have hgn:∀ k∈Ef T rv bv,k≠gt:=fun k hk e=>hgt (e▸hk)
 have hgm:∀ k∈En E,k≠gt:=fun k hk e=>hg (e▸hk)
 go_enter Tryz.func83,Tryz.ntmps83;go_wp2_with fail
 have hcall:=T9 (At E) (Yu E T) 44 32 T.n (fun w' st'=>LK E w' st'/\TC E T rv bv w'/\Fr [gt,E.bc,E.gw,E.bf,E.bx] w w') (.pointer (some ⟨E.gl,0,none⟩)) 84 #[.pointer (some ⟨bv,0,none⟩)] gt 0 32 32 119 (fun _=>none) ps st w (fun args w=>by go_simp) ⟨HL.out,HV.out,Fr.refl _ _⟩ HN.out (by omega) (by omega) (by omega) (by omega) (by omega) (by omega) hT.t.n0 (by have:=hT.t.n1;omega) HP.out
  (by
   rintro w1 st1 j v hj1 hj2 ⟨h1,h2,h3⟩;have hfr:=Ai w1 gt j v;refine⟨h1.fr hfr ?_ ?_ ?_ ?_ ?_,h2.fr hfr (by simpa using hgt),h3.trans (hfr.mono (by simp))⟩<;>simpa using hgm _ (by simp[En]))
  (by
   rintro p st1 w1 hp0 hp1 ⟨h1,h2,h3⟩;refine(Sf hE p st1 w1 hp0 hp1 h1).mono ?_;rintro e w2 ⟨rfl,h5,h6⟩;exact⟨rfl,⟨h5,h2.fr h6 (by simpa using hT.apart E.bc (by simp[En])),h3.trans (h6.mono (by simp))⟩,h6.block gt (Nat.lt_of_lt_of_le HN.out.lt h3.size) (by simpa using (hgm E.bc (by simp[En])).symm)⟩)
  (by
   rintro k p st1 w1 hk hp0 hp1 hgd ⟨h1,h2,h3⟩;refine(gZ hE hT k (by omega) p st1 w1 h1 h2 (Vf hgd)).mono ?_;rintro e w2 ⟨rfl,h5,h6⟩;refine⟨rfl,⟨h5,h2.fr h6 ?_,h3.trans (h6.mono (by simp+contextual))⟩,h6.block gt (Nat.lt_of_lt_of_le HN.out.lt h3.size) ?_⟩
   ·intro q hq;exact hT.apart q (by simp only[List.mem_cons,List.mem_nil_iff,or_false]at hq;rcases hq with rfl|rfl|rfl|rfl<;>simp[En])
   ·intro hm;exact hg (by simp only[List.mem_cons,List.mem_nil_iff,or_false]at hm;rcases hm with e|e|e|e<;>simp[En,e]))
 rw[hl]at hcall;refine hcall.mono ?_;rintro e w1 ⟨rfl,⟨h2,h3,h4⟩,h5⟩;have hlen:(X8 E T ps st).1.length=32:=(Ep _ _ _ _ _ _ _ _).trans hl;have h6:hat w1 gt=some (.cells (IV .i64 (X8 E T ps st).1) 119):=Gn.all (by rw[hlen];exact h5);have H2:=zA h2;have H4:=zA h4;have H6:=zA h6;have HLEN:=zA hlen;clear h2 h3 h4 h5 h6 hlen hcall;go_wp2_with fail;go_ret;exact⟨rfl,H2.out,H6.out,HLEN.out,H4.out⟩
theorem gY{E:Env}(hE:EOk E){T:Hz}{rv bv:Nat}(hT:COk E T rv bv)(k:Nat)(p:Int)(st:LS)(w:World)(h:LK E w st)(hv:TC E T rv bv w)(hp:isD E.X E.Y p=true):
  Calls Tryz.prog 82 #[.int .i64 k,.int .i64 p,.pointer (some ⟨T.lv,0,none⟩),.pointer (some ⟨T.nv,0,none⟩),.pointer (some ⟨bv,0,none⟩)] w fun e w'=>
   e= .returned (.bool (dV E T k p st).1)/\LK E w' (dV E T k p st).2/\Fr [E.bc,E.gw,E.bf,E.bx] w w':=by
 have hr:=J2 hE hp;have hl:=hv.v.l;have HL:=zA h;have HV:=zA hv;clear h hv;have hpn:p=(p.toNat:Int):=by omega
 unfold dV;generalize p.toNat=at' at*;subst hpn;have hlt:=HV.out.lt;go_enter Tryz.func82,Tryz.ntmps82;go_wp2_with fail;refine(V5 hE (X8 E T) 83 #[.pointer (some ⟨T.lv,0,none⟩),.pointer (some ⟨T.nv,0,none⟩),.pointer (some ⟨bv,0,none⟩)] at' st w (fun W=>TC E T rv bv W) [E.bc,E.gw,E.bf,E.bx] HV.out ?hJ ?hf (by omega) (by have:=hE.small;have:=hE.size;omega) HL.out ?hs).mono ?post
 case hJ=>
  rintro W W' h2 hfr;exact h2.fr hfr (by simp)
 case hf=>
  intro args w;go_simp
 case hs=>
  rintro ps gt st1 W hps hpb h2 h3 h5 h6 h7;refine(pO hE hT gt ps st1 W h2 h3 h5 hps hpb h6 ?_).mono fun e w' h=>h
  intro hm;have:=hlt gt hm;omega
 case post=>
  rintro e w1 ⟨rfl,h2,h3⟩;have H2:=zA h2;have H3:=zA (h3.mono (ex':=[E.bc,E.gw,E.bf,E.bx]) (by simp));clear h2 h3 hl;go_wp2_with fail;go_ret;exact⟨rfl,H2.out,H3.out⟩
theorem V0{E:Env}(hE:EOk E){T:Hz}{rv bv:Nat}(hT:COk E T rv bv)(keepP:Nat->Int->LS->Bool×LS)(base step:Int)(f:Nat)(caps:Array Value)(gp cp sz:Nat)(tg:TypeId)(re:Nat->Option Value)(ps:List Int)(st:LS)(w:World)
  (hf:∀ args w,(callFunc f args).run Tryz.prog w= .ok (.enter f args) w)
  (hk:∀ (k:Nat) p st w,k<ps.length->LK E w st->TC E T rv bv w->isD E.X E.Y p=true->Calls Tryz.prog f (#[.int .i64 k,.int .i64 p]++caps) w fun e w'=>e= .returned (.bool (keepP k p st).1)/\LK E w' (keepP k p st).2/\Fr [E.bc,E.gw,E.bf,E.bx] w w')
  (h:LK E w st) (hv:TC E T rv bv w) (hN:Gn w gp 0 tg sz re ps) (hc:ps.length<=cp) (hm:ps.length<=32) (h0:0<=base) (h1:base<=2000) (h2:0<=step) (h3:step<=100) (hp:∀ p∈ps,0<=p/\p<=4294967295)
  (hg:gp∉En E) (hgt:gp∉Ef T rv bv):
  Calls Tryz.prog 76 #[.pointer (some ⟨E.gl,0,none⟩),.slice (some ⟨gp,0,none⟩) ps.length cp,.int .i64 base,.int .i64 step,.int .i64 T.n,.func (.func f) #[] caps] w fun e w'=>
   e= .returned (.bool (A0 (At E) keepP base step T.n 0 ps st).2.1)/\LK E w' (A0 (At E) keepP base step T.n 0 ps st).2.2/\TC E T rv bv w'/\Gn w' gp 0 tg sz re (A0 (At E) keepP base step T.n 0 ps st).1/\Fr [gp,E.bc,E.gw,E.bf,E.bx] w w':=by
 have hgm:∀ k∈En E,k≠gp:=fun k hk e=>hg (e▸hk)
 refine(T9 (At E) keepP base step T.n (fun w' st'=>LK E w' st'/\TC E T rv bv w'/\Fr [gp,E.bc,E.gw,E.bf,E.bx] w w') (.pointer (some ⟨E.gl,0,none⟩)) f caps gp 0 cp sz tg re ps st w hf ⟨h,hv,Fr.refl _ _⟩ hN hc hm h0 h1 h2 h3 hT.t.n0 (by have:=hT.t.n1;omega) hp ?_ ?_ ?_).mono ?_
 ·rintro w1 st1 j v hj1 hj2 ⟨h1,h2,h3⟩;have hfr:=Ai w1 gp j v;refine⟨h1.fr hfr ?_ ?_ ?_ ?_ ?_,h2.fr hfr (by simpa using hgt),h3.trans (hfr.mono (by simp))⟩<;>simpa using hgm _ (by simp[En])
 ·rintro p st1 w1 hp0 hp1 ⟨h1,h2,h3⟩;refine(Sf hE p st1 w1 hp0 hp1 h1).mono ?_;rintro e w2 ⟨rfl,h5,h6⟩;exact⟨rfl,⟨h5,h2.fr h6 (by simpa using hT.apart E.bc (by simp[En])),h3.trans (h6.mono (by simp))⟩,h6.block gp (Nat.lt_of_lt_of_le hN.lt h3.size) (by simpa using (hgm E.bc (by simp[En])).symm)⟩
 ·rintro k p st1 w1 hk1 hp0 hp1 hgd ⟨h1,h2,h3⟩;refine(hk k p st1 w1 hk1 h1 h2 (Vf hgd)).mono ?_;rintro e w2 ⟨rfl,h5,h6⟩;refine⟨rfl,⟨h5,h2.fr h6 ?_,h3.trans (h6.mono (by simp+contextual))⟩,h6.block gp (Nat.lt_of_lt_of_le hN.lt h3.size) ?_⟩
  ·intro q hq;exact hT.apart q (by simp only[List.mem_cons,List.mem_nil_iff,or_false]at hq;rcases hq with rfl|rfl|rfl|rfl<;>simp[En])
  ·intro hm;exact hg (by simp only[List.mem_cons,List.mem_nil_iff,or_false]at hm;rcases hm with e|e|e|e<;>simp[En,e])
 ·rintro e w1 ⟨rfl,⟨h2,h3,h4⟩,h5⟩;exact⟨rfl,h2,h3,h5,h4⟩
def C8(s:List Int)(k:Nat):List Int:=s.take k++zl (128-k)
@[simp] theorem O5 {s:List Int} (h:s.length=128) {k:Nat} (hk:k<=128):(C8 s k).length=128:=by
 simp[C8,h];omega
theorem Qk{s:List Int}(h:A4 s)(k:Nat):A4 (C8 s k):=by
 intro x hx;unfold C8 at hx;rw[List.mem_append]at hx;rcases hx with hx|hx
 ·exact h x (List.mem_of_mem_take hx)
 ·unfold zl at hx;rw[List.mem_replicate]at hx;omega
theorem Xi{w:World}{g:Nat}{s:List Int}{t:TypeId}(hg:hat w g=some (.cells (IV .u8 s) t))(hs:s.length=128)(k:Nat)(hk:k<128)(ty:TypeId):
  (Builtin.clear_ #[42] ty #[.slice (some ⟨g,k,none⟩) (128-k) (128-k)]).run Tryz.prog w= .ok (.tuple #[]) (w.setRow g (IV .u8 (C8 s k))):=by
 have hv:∀ w,(zeroValue 5).run Tryz.prog w= .ok (.int .u8 0) w:=fun w=>by kernel_rfl
 have hz:(Value.int .u8 0).cells= #[.int .u8 0]:=rfl;have ht:Tryz.prog.underlying 42=some (.slice 5):=Tryz.underlying42;obtain⟨n,hn⟩:∃ n,128-k=n+1:=⟨127-k,by omega⟩;have hzc:(Builtin.zeroCells (Value.int .u8 0).cells (128-k)).toList=List.replicate (128-k) (.int .u8 0):=by
  rw[hz];simp[Builtin.zeroCells];apply List.ext_getElem
  ·simp
  ·intro i h1 h2;simp[Nat.mod_one]
 have hst:=G3 (P:=Tryz.prog) g k t (List.replicate (128-k) (.int .u8 0)) 0 (IV .u8 s) w hg (by simp[hs];omega) (fun v hv'=>by rw[List.eq_of_mem_replicate hv'];rfl);have he:((IV .u8 s).toList.take (k+0)++List.replicate (128-k) (Value.int .u8 0)++(IV .u8 s).toList.drop (k+0+(List.replicate (128-k) (Value.int .u8 0)).length)).toArray=IV .u8 (C8 s k):=by
  have hd:(IV .u8 s).toList.drop (k+0+(List.replicate (128-k) (Value.int .u8 0)).length)=[]:=List.drop_of_length_le (by simp[hs];omega);rw[hd];unfold IV C8 zl;simp[List.map_take]
 rw[he]at hst;rw[hn]at hzc hst ⊢;simp only[Builtin.clear_,Sem.run_bind,run_underlying ht,Result.andThen_ok,hv];simp[hzc,hst,hv]
theorem oJ(s:List Int)(hs:s.length=128)(k:Nat)(hk:k<128)(w:World):
  Calls Tryz.prog 85 #[.agg (IV .u8 s),.int .i64 k] w fun e w'=>e= .returned (.agg (IV .u8 (C8 s k)))/\Below w.heap.size w w':=by
 have hk0:(0:Int)<=(k:Int):=Int.natCast_nonneg _;have hk1:(k:Int)<128:=by omega
 have d1:decide ((k:Int)<128)=true:=decide_eq_true hk1;have h1:hat ((w.alloc (.cells (IV .u8 s) 47)).alloc (.cells (IV .u8 (zl 128)) 47)) w.heap.size=some (.cells (IV .u8 s) 47):=by simp[go_sem]
 have h2:hat ((w.alloc (.cells (IV .u8 s) 47)).alloc (.cells (IV .u8 (zl 128)) 47)) (w.heap.size+1)=some (.cells (IV .u8 (zl 128)) 47):=by simp[go_sem]
 have hb:Below w.heap.size w ((w.alloc (.cells (IV .u8 s) 47)).alloc (.cells (IV .u8 (zl 128)) 47)):=((Below.refl w.heap.size w).alloc (Nat.le_refl _) _).alloc (by simp) _;have hr:=Xi h1 hs k hk 0;have hw:(C8 s k).length=128:=O5 hs (by omega);have h3:=Ar _ _ (IV .u8 (C8 s k)) _ _ _ h1;have h4:=(Bj _ w.heap.size (w.heap.size+1) (IV .u8 (C8 s k)) (by omega)).trans h2;have hb2:=Ag hb (Nat.le_refl _) (IV .u8 (C8 s k));have HB:=zA hb2;generalize hW:(w.alloc (.cells (IV .u8 s) 47)).alloc (.cells (IV .u8 (zl 128)) 47)=w1 at*;generalize hW2:w1.setRow w.heap.size (IV .u8 (C8 s k))=w2 at*;clear hb hb2;go_enter Tryz.func85,Tryz.ntmps85;go_wp2_with fail;exact Qu Cq rfl (cs:=IV .u8 (C8 s k)) rfl (Ed h4 _).1 (by simp[hw]) rfl ⟨rfl,Ag HB.out (by omega) _⟩
def Jh:Value->Option (DataW Unit×List MemPlace)
 | .pointer none=>some (.nil,[])
 | .pointer (some ⟨b,0,none⟩)=>some (.lit (.int .i64 b),[])
 |_=>none
def Lz:Option Nat->Value
 |none=> .pointer none
 |some b=> .pointer (some ⟨b,0,none⟩)
def bU:Option Nat->DataW Unit
 |none=> .nil
 |some b=> .lit (.int .i64 b)
theorem bV(g:Option Nat):Jh (Lz g)=some (bU g,[]):=by cases g<;>rfl
theorem Ze{v:Value}{g:Option Nat}{ps:List MemPlace}(h:Jh v=some (bU g,ps)):v=Lz g:=by
 unfold Jh at h;split at h
 ·cases g with
  |none=>rfl
  |some b=>simp[bU]at h
 ·cases g with
  |none=>simp[bU]at h
  |some b=>
   simp[bU]at h;obtain⟨h,-⟩:=h;have:=h;rename_i b'
   have:b'=b:=(by omega);subst this;rfl
 ·cases h
def MP(w:World)(b n:Nat)(f:Int->Option Nat):Prop:=
 ∃ D:DataW Unit,w.ownsMap Tryz.prog 3 Jh b n D/\Go.Maps.IsMap D/\(∀ p,El p->Go.Maps.has D (.int .i64 p)=(f p).isSome)/\∀ p,El p->D.atKey (.int .i64 p) .nil=bU (f p)
theorem MP.lt{w:World}{b n:Nat}{f:Int->Option Nat}(h:MP w b n f):b<w.heap.size:=by
 obtain⟨D,h1,-⟩:=h;exact h1.lt
theorem MP.same{w w':World}{b n:Nat}{f:Int->Option Nat}(h:MP w b n f)(he:hat w' b=hat w b):MP w' b n f:=by
 obtain⟨D,⟨es,clock,hb,h1⟩,h2⟩:=h;exact⟨D,⟨es,clock,he.trans hb,h1⟩,h2⟩
theorem MP.made(w:World):MP (w.alloc (.map #[] 0)) w.heap.size 0 (fun _=>none):=
 ⟨.map [],World.ownsMap_made w _ _ _,Go.Maps.isMap_empty,fun _ _=>rfl,fun _ _=>rfl⟩
theorem rX(w:World):(zeroValue 103).run Tryz.prog w= .ok (.pointer none) w:=by kernel_rfl
theorem MP.look{w:World}{b n:Nat}{f:Int->Option Nat}(h:MP w b n f){p:Int}(hp:El p):
  (Instr.lookup 92 (.map (some b)) (.int .i64 p) false).run Tryz.prog w= .ok (Lz (f p)) w:=by
 obtain⟨D,h1,-,h2,h3⟩:=h;obtain⟨v,ps,hr,hv⟩:=h1.lookup (Go.Maps.int_keyed Tryz.underlying3) Tryz.underlying92 (rX w) (zd:= .nil) (zp:=[]) rfl (Lu hp);rw[h3 p hp]at hv;rw[Ze hv]at hr;exact hr
def Zf(f:Int->Option Nat)(p:Int)(g:Nat):Int->Option Nat:=fun q=>if q=p then some g else f q
theorem MP.put{w:World}{b n:Nat}{f:Int->Option Nat}(h:MP w b n f)(hn:n<maxLen){p:Int}(g:Nat)(hp:El p):
  ∃ w',(Instr.mapUpdate 92 (.map (some b)) (.int .i64 p) (.pointer (some ⟨g,0,none⟩))).run Tryz.prog w= .ok () w'/\MP w' b (n+1) (Zf f p g)/\w.mapTurned w' b:=by
 obtain⟨D,h1,h0,h2,h3⟩:=h;obtain⟨w',hr,ho,ht⟩:=h1.store (Go.Maps.int_keyed Tryz.underlying3) Tryz.underlying92 hn (Lu hp) (d:=bU (some g)) (ps:=[]) (val:= .pointer (some ⟨g,0,none⟩)) (bV (some g));refine⟨w',hr,⟨_,ho,h0.put _ _,fun q hq=>?_,fun q hq=>?_⟩,ht⟩
 ·unfold Zf;by_cases hqp:q=p
  ·subst hqp;rw[Go.Maps.has_put_same h0 (Ip hq)];simp
  ·rw[Go.Maps.has_put_other (Gi hqp),h2 q hq,if_neg hqp]
 ·unfold Zf;by_cases hqp:q=p
  ·subst hqp;rw[Go.Maps.atKey_put_same h0 (Ip hq)];simp
  ·rw[Go.Maps.atKey_put_other (Gi hqp),h3 q hq,if_neg hqp]
def PB(w:World)(b:Nat)(f:Int->Option Nat):Prop:=MP w b 4096 f/\∀ p,(f p).isSome=true->0<=p/\p<4096
theorem MP.tight{w:World}{b n:Nat}{f:Int->Option Nat}(h:MP w b n f)(hs:∀ p,(f p).isSome=true->0<=p/\p<4096):PB w b f:=by
 obtain⟨D,h1,h2,h3,h4⟩:=h;exact⟨⟨D,Px h1 (fun p hp hh=>hs p (by rw[<-h3 p hp];exact hh)),h2,h3,h4⟩,hs⟩
theorem PB.same{w w':World}{b:Nat}{f:Int->Option Nat}(h:PB w b f)(he:hat w' b=hat w b):PB w' b f:=⟨h.1.same he,h.2⟩
theorem PB.lt{w:World}{b:Nat}{f:Int->Option Nat}(h:PB w b f):b<w.heap.size:=h.1.lt
theorem PB.put{w:World}{b:Nat}{f:Int->Option Nat}(h:PB w b f){p:Int}(g:Nat)(hp:0<=p/\p<4096):
  ∃ w',(Instr.mapUpdate 92 (.map (some b)) (.int .i64 p) (.pointer (some ⟨g,0,none⟩))).run Tryz.prog w= .ok () w'/\PB w' b (Zf f p g)/\w.mapTurned w' b:=by
 obtain⟨w',h1,h2,h3⟩:=h.1.put (by unfold maxLen;omega) (p:=p) g (Gg hp.1 (by omega));refine⟨w',h1,h2.tight fun q hq=>?_,h3⟩;unfold Zf at hq;by_cases hqp:q=p
 ·subst hqp;exact hp
 ·rw[if_neg hqp]at hq;exact h.2 q hq
def Au(X Y:Int)(p:Int)(st:LS):Bool×LS:=if isD X Y p=true/\st.cl p=false then(true,{st with cl:=A8 st.cl p})else(false,st)
def J9(X Y n base:Int)(ps:List Int)(st:LS):List Int×Bool×LS:=A0 (Au X Y) (Cm base) base 1 n 0 ps st
noncomputable def Wh(X Y n base p:Int)(st:LS):Bool×LS:=C7 (J9 X Y n base) p.toNat st
noncomputable def Lt(X Y n:Int)(_k:Nat)(p:Int)(st:LS):Bool×LS:=Wh X Y n 12 p st
noncomputable def Ee(X Y n:Int)(k:Nat)(p:Int)(st:LS):Bool×LS:=Wh X Y n (44+32*k) p st
noncomputable def Pg(X Y n:Int)(ps:List Int)(st:LS):List Int×Bool×LS:=A0 (Au X Y) (Ee X Y n) 44 32 n 0 ps st
noncomputable def Kj(X Y n:Int)(_k:Nat)(p:Int)(st:LS):Bool×LS:=C7 (Pg X Y n) p.toNat st
noncomputable def Az(X Y n:Int)(raw:List Int)(st:LS):List Int×LS:=
 let a:=J9 X Y n 0 ((raw.drop 4).take 12) st
 let b:=A0 (Au X Y) (Lt X Y n) 12 1 n 0 [nth raw 16] a.2.2
 let c:=A0 (Au X Y) (Kj X Y n) 44 1 n 0 [nth raw 17] b.2.2
 (raw.take 4++(a.1++(b.1++c.1)),c.2.2)
def Eg(n:Int)(st:LS):LS:={st with fm:=fun q=>st.fm q||(List.range n.toNat).any fun k=>st.bk k==some q}
noncomputable def Bt(n z:Int)(st:LS):LS:=
 match st.bk (n-1)with
 |none=>st
 |some p=>if z%128=0 then st else {st with S:=Ay st.S p.toNat (C8 (st.S p.toNat) (z%128).toNat)}
def Aq(z:Int):Int:=(z+127)/128
noncomputable def Aj(X Y:Int)(raw:List Int)(st:LS):List Int×LS:=
 let r:=Az X Y (Aq (nth raw 2)) raw {st with bk:=fun _=>none}
 if nth raw 0=2 then(r.1,Eg (Aq (nth raw 2)) r.2)else(r.1,Bt (Aq (nth raw 2)) (nth raw 2) r.2)
theorem Dw{σ:Type}(At:Int->σ->Bool×σ)(keepP:Nat->Int->σ->Bool×σ)(base step n:Int)(I:σ->Prop)
  (hg:∀ p st,I st->I (At p st).2) (hk:∀ (k:Nat) p st s0,base+step*k<n->(At p s0).1=true->I st->I (keepP k p st).2):∀ (r:List Int) (k:Nat) (st:σ),I st->I (A0 At keepP base step n k r st).2.2
 |[],_,_,h=>h
 |p::r,k,st,h=>by
  rw[E6];split
  ·exact Dw At keepP base step n I hg hk r _ _ h
  ·split
   ·exact Dw At keepP base step n I hg hk r _ _ h
   ·split
    ·exact Dw At keepP base step n I hg hk r _ _ (hg p st h)
    ·rename_i h1 h2
     have h3:(At p st).1=true:=(by cases hh:(At p st).1<;>simp_all);split
     ·exact Dw At keepP base step n I hg hk r _ _ (hk k p _ st (by omega) h3 (hg p st h))
     ·exact Dw At keepP base step n I hg hk r _ _ (hk k p _ st (by omega) h3 (hg p st h))
def E9(n:Int)(st:LS):Prop:=∀ k,(st.bk k).isSome=true->0<=k/\k<n
theorem Gf{I:LS->Prop}{X Y:Int}(h:∀ st (f:Int->Bool),I st->I {st with cl:=f})(p:Int)(st:LS)(hi:I st):I (Au X Y p st).2:=by
 unfold Au;split
 ·exact h _ _ hi
 ·exact hi
theorem Kx{I:LS->Prop}(siftF:List Int->LS->List Int×Bool×LS)(at':Nat)(h1:∀ st (f:Int->Bool),I st->I {st with cl:=f})(h2:∀ st (S:Nat->List Int) (f:Int->Bool),I st->I {st with S:=S,fm:=f})
  (hs:∀ ps st,I st->I (siftF ps st).2.2) (st:LS) (hi:I st):I (C7 siftF at' st).2:=by
 unfold C7;split
 ·exact h1 _ _ (hs _ _ hi)
 ·exact h2 _ _ _ (hs _ _ hi)
theorem lT{n:Int}{st:LS}(h:E9 n st){k p:Int}(h0:0<=k)(h1:k<n):E9 n {st with bk:=Ec st.bk k p}:=by
 intro q hq;simp only[Ec]at hq;split at hq
 ·rename_i e;subst e;exact⟨h0,h1⟩
 ·exact h q hq
theorem Vx(X Y n base:Int)(hb:0<=base)(ps:List Int)(st:LS)(h:E9 n st):E9 n (J9 X Y n base ps st).2.2:=by
 unfold J9;refine Dw _ _ _ _ _ (E9 n) (fun p st h=>Gf (fun _ _ h=>h) p st h) (fun k p st _ hk _ h=>?_) ps 0 st h;exact lT h (by omega) (by omega)
theorem Qh(X Y n base p:Int)(hb:0<=base)(st:LS)(h:E9 n st):E9 n (Wh X Y n base p st).2:=
 Kx _ _ (fun _ _ h=>h) (fun _ _ _ h=>h) (fun ps st h=>Vx X Y n base hb ps st h) st h
theorem fO(X Y n:Int)(ps:List Int)(st:LS)(h:E9 n st):E9 n (Pg X Y n ps st).2.2:=by
 unfold Pg;exact Dw _ _ _ _ _ (E9 n) (fun p st h=>Gf (fun _ _ h=>h) p st h) (fun k p st _ hk _ h=>Qh X Y n _ p (by omega) st h) ps 0 st h
theorem Ny(X Y n:Int)(raw:List Int)(st:LS)(h:E9 n st):E9 n (Az X Y n raw st).2:=by
 unfold Az;refine Dw _ _ _ _ _ (E9 n) (fun p st h=>Gf (fun _ _ h=>h) p st h) (fun k p st _ hk _ h=>Kx _ _ (fun _ _ h=>h) (fun _ _ _ h=>h) (fun ps st h=>fO X Y n ps st h) st h) _ 0 _ ?_;refine Dw _ _ _ _ _ (E9 n) (fun p st h=>Gf (fun _ _ h=>h) p st h) (fun k p st _ hk _ h=>Qh X Y n _ p (by omega) st h) _ 0 _ ?_;exact Vx X Y n 0 (by omega) _ st h
def F9(X Y:Int)(st:LS):Prop:=∀ k p,st.bk k=some p->isD X Y p=true
theorem Mi{X Y p:Int}{st:LS}(h:(Au X Y p st).1=true):isD X Y p=true:=by
 unfold Au at h;split at h
 ·rename_i h2;exact h2.1
 ·cases h
theorem oH{X Y:Int}{st:LS}(h:F9 X Y st){k p:Int}(hp:isD X Y p=true):F9 X Y {st with bk:=Ec st.bk k p}:=by
 intro q r hq;simp only[Ec]at hq;split at hq
 ·cases hq;exact hp
 ·exact h q r hq
theorem Vy(X Y n base:Int)(ps:List Int)(st:LS)(h:F9 X Y st):F9 X Y (J9 X Y n base ps st).2.2:=by
 unfold J9;exact Dw _ _ _ _ _ (F9 X Y) (fun p st h=>Gf (fun _ _ h=>h) p st h) (fun k p st _ hk hg h=>oH h (Mi hg)) ps 0 st h
theorem Qi(X Y n base p:Int)(st:LS)(h:F9 X Y st):F9 X Y (Wh X Y n base p st).2:=
 Kx _ _ (fun _ _ h=>h) (fun _ _ _ h=>h) (fun ps st h=>Vy X Y n base ps st h) st h
theorem fP(X Y n:Int)(ps:List Int)(st:LS)(h:F9 X Y st):F9 X Y (Pg X Y n ps st).2.2:=by
 unfold Pg;exact Dw _ _ _ _ _ (F9 X Y) (fun p st h=>Gf (fun _ _ h=>h) p st h) (fun k p st _ hk _ h=>Qi X Y n _ p st h) ps 0 st h
theorem Tc(X Y n:Int)(raw:List Int)(st:LS)(h:F9 X Y st):F9 X Y (Az X Y n raw st).2:=by
 unfold Az;refine Dw _ _ _ _ _ (F9 X Y) (fun p st h=>Gf (fun _ _ h=>h) p st h) (fun k p st _ hk _ h=>Kx _ _ (fun _ _ h=>h) (fun _ _ _ h=>h) (fun ps st h=>fP X Y n ps st h) st h) _ 0 _ ?_;refine Dw _ _ _ _ _ (F9 X Y) (fun p st h=>Gf (fun _ _ h=>h) p st h) (fun k p st _ hk _ h=>Qi X Y n _ p st h) _ 0 _ ?_;exact Vy X Y n 0 _ st h
theorem lF{n:Int}{st:LS}(hk:E9 n st)(fm':Int->Bool)(h:∀ q,fm' q=true↔st.fm q=true\/∃ k,st.bk k=some q):Eg n st={st with fm:=fm'}:=by
 unfold Eg;congr 1
 funext q
 apply Bool.eq_iff_iff.2
 rw[h q,Bool.or_eq_true,List.any_eq_true];constructor
 ·rintro (h|⟨k,-,h⟩)
  ·exact .inl h
  ·exact .inr ⟨k,by simpa using h⟩
 ·rintro (h|⟨k,h⟩)
  ·exact .inl h
  ·have h0:=hk k (by rw[h];rfl);refine .inr ⟨k.toNat,List.mem_range.2 (by omega),?_⟩;rw[show((k.toNat:Nat):Int)=k by omega,h];simp
theorem bG{s:ByteArray}(h:s.size<=40):keyOf Tryz.prog 9 (.string s)=some (.string s.data.toList):=WideMaps.keyOf_string_mk Tryz.underlying9 (by unfold maxLen;omega)
theorem hU{s:ByteArray}(h:s.size<=40):WideAt.IsKeyLit (.string s.data.toList):=(Go.Maps.string_keyed Tryz.underlying9).key (bG h)
theorem iD{s t:ByteArray}(h:s≠t):(Lit.string s.data.toList)≠ .string t.data.toList:=fun e=>h (by
 injection e with e
 cases s;cases t;simp only at e;congr 1
 exact Array.ext' e)
def NB(w:World)(b n:Nat)(s:ByteArray->Bool):Prop:=
 ∃ D:DataW Unit,w.ownsMap Tryz.prog 9 (plainElem Tryz.prog 4) b n D/\Go.Maps.IsMap D/\∀ p:ByteArray,p.size<=40->D.atKey (.string p.data.toList) (.lit (.bool false))= .lit (.bool (s p))
theorem NB.lt{w:World}{b n:Nat}{s:ByteArray->Bool}(h:NB w b n s):b<w.heap.size:=by
 obtain⟨D,h1,-⟩:=h;exact h1.lt
theorem NB.same{w w':World}{b n:Nat}{s:ByteArray->Bool}(h:NB w b n s)(he:hat w' b=hat w b):NB w' b n s:=by
 obtain⟨D,⟨es,clock,hb,h1⟩,h2⟩:=h;exact⟨D,⟨es,clock,he.trans hb,h1⟩,h2⟩
theorem NB.made(w:World):NB (w.alloc (.map #[] 0)) w.heap.size 0 (fun _=>false):=
 ⟨.map [],World.ownsMap_made w _ _ _,Go.Maps.isMap_empty,fun _ _=>rfl⟩
theorem NB.of{w:World}{b:Nat}(h:hat w b=some (.map #[] 0)):NB w b 0 (fun _=>false):=by
 obtain⟨D,⟨es,clock,hb,h1⟩,h2⟩:=NB.made w;have hb2:hat (w.alloc (.map #[] 0)) w.heap.size=some (.map #[] 0):=(A6 w _).1;rw[show(w.alloc (.map #[] 0)).heap[w.heap.size]? =some (.map #[] 0)from hb2]at hb;have hb3:=Option.some.inj hb;injection hb3 with e1 e2
 subst e1;subst e2;exact⟨D,⟨#[],0,h,h1⟩,h2⟩
theorem NB.look{w:World}{b n:Nat}{s:ByteArray->Bool}(h:NB w b n s){p:ByteArray}(hp:p.size<=40):(Instr.lookup 136 (.map (some b)) (.string p) false).run Tryz.prog w= .ok (.bool (s p)) w:=by
 obtain⟨D,h1,-,h3⟩:=h;obtain⟨v,ps,hr,hv⟩:=h1.lookup (Go.Maps.string_keyed Tryz.underlying9) Tryz.underlying136 (aI w) (zd:= .lit (.bool false)) (zp:=[]) (by simp[plainElem,Tryz.underlying4]) (bG hp);rw[h3 p hp]at hv;rw[M5 hv]at hr;exact hr
def Ll(s:ByteArray->Bool)(p:ByteArray):ByteArray->Bool:=fun q=>s q||decide (q=p)
theorem NB.put{w:World}{b n:Nat}{s:ByteArray->Bool}(h:NB w b n s)(hn:n<maxLen){p:ByteArray}(hp:p.size<=40):
  ∃ w',(Instr.mapUpdate 136 (.map (some b)) (.string p) (.bool true)).run Tryz.prog w= .ok () w'/\NB w' b (n+1) (Ll s p)/\w.mapTurned w' b:=by
 obtain⟨D,h1,h0,h3⟩:=h;obtain⟨w',hr,ho,ht⟩:=h1.store (Go.Maps.string_keyed Tryz.underlying9) Tryz.underlying136 hn (bG hp) (d:= .lit (.bool true)) (ps:=[]) (val:= .bool true) (by simp[plainElem,Tryz.underlying4]);refine⟨w',hr,⟨_,ho,h0.put _ _,fun q hq=>?_⟩,ht⟩;unfold Ll;by_cases hqp:q=p
 ·subst hqp;rw[Go.Maps.atKey_put_same h0 (hU hq)];simp
 ·rw[Go.Maps.atKey_put_other (iD hqp),h3 q hq];simp[hqp]
structure TI where
 raw:List Int
 en:Int
 bk:Int->Option Int
structure LZ where
 st:LS
 T:Nat->Option TI
 q:List Int
def A2(T:Nat->Option TI)(i:Nat)(t:TI):Nat->Option TI:=fun j=>if j=i then some t else T j
noncomputable def Dg(X Y:Int)(i:Nat)(raw:List Int)(n:Int)(z:LZ):LZ:=
 {st:=(Aj X Y raw z.st).2,T:=A2 z.T i ⟨(Aj X Y raw z.st).1,n,(Aj X Y raw z.st).2.bk⟩,q:=if nth raw 0=2 then z.q++[(i:Int)]else z.q}
noncomputable def Cn(X Y:Int)(IMG:Nat->List Int)(i:Nat)(z:LZ):Option LZ:=
 match z.T i with
 |some t=>if nth t.raw 0=2\/t.en=100 then none else some {z with T:=A2 z.T i {t with en:=t.en+1}}
 |none=>if Bw (IMG i)=true then some (Dg X Y i (Am (IMG i)).1 1 z)else none
def Db(p:Nat)(z:LZ):LZ:={z with st:={z.st with S:=Ay z.st.S p (zl 128)}}
noncomputable def Cz(X Y:Int)(IMG:Nat->List Int)(i:Nat)(nm:ByteArray)(zn:LZ×(ByteArray->Bool)):Bool×LZ×(ByteArray->Bool):=
 if zn.2 nm=true\/i=1 then(false,zn)else
  match Cn X Y IMG i zn.1 with
  |some z'=>(true,z',Ll zn.2 nm)
  |none=>(false,zn)
noncomputable def Cy(X Y:Int)(IMG:Nat->List Int)(p:Nat)(zn:LZ×(ByteArray->Bool)):LZ×(ByteArray->Bool):=
 if (Ax (zn.1.st.S p)).2.2=0/\(Ax (zn.1.st.S p)).1=0 then zn
 else if (Ax (zn.1.st.S p)).2.2=0/\(Ax (zn.1.st.S p)).1<=Y/\(Cz X Y IMG (Ax (zn.1.st.S p)).1.toNat (Ax (zn.1.st.S p)).2.1 zn).1=true then
  (Cz X Y IMG (Ax (zn.1.st.S p)).1.toNat (Ax (zn.1.st.S p)).2.1 zn).2
 else(Db p zn.1,zn.2)
noncomputable def G4(X Y:Int)(IMG:Nat->List Int)(bk:Int->Option Int):Nat->Nat->LZ×(ByteArray->Bool)->LZ×(ByteArray->Bool)
 |0,_,zn=>zn
 |m+1,k,zn=>G4 X Y IMG bk m (k+1) (match bk k with|none=>zn|some p=>Cy X Y IMG p.toNat zn)
noncomputable def Ct(X Y:Int)(IMG:Nat->List Int)(i:Nat)(z:LZ):LZ:=
 match z.T i with
 |none=>z
 |some t=>(G4 X Y IMG t.bk (Aq (nth t.raw 2)).toNat 0 (z,fun _=>false)).1
noncomputable def Gq(X Y:Int)(IMG:Nat->List Int):Nat->LZ->LZ
 |0,z=>z
 |f+1,z=>match z.q with
  |[]=>z
  |i::r=>Gq X Y IMG f (Ct X Y IMG i.toNat {z with q:=r})
noncomputable def Df(X Y:Int)(IMG:Nat->List Int):LZ:=Dg X Y 1 (Am (IMG 1)).1 1 ⟨⟨IMG,fun _=>false,fun _=>false,fun _=>none⟩,fun _=>none,[]⟩
noncomputable def Bh(X Y:Int)(IMG:Nat->List Int):LZ:=Gq X Y IMG 8192 (Df X Y IMG)
def Qm(n:Nat)(T:Nat->Option TI):Nat:=((List.range n).filter fun i=>(T i).isNone).length
def Jb(z:LZ):Nat:=Qm 4096 z.T
def Ek(z:LZ):Nat:=z.q.length+2*Jb z
theorem aZ{T:Nat->Option TI}{n i:Nat}{t:TI}(hi:i<n)(h:T i=none):Qm n (A2 T i t)<Qm n T:=by
 unfold Qm;have e:(List.range n).filter (fun j=>(A2 T i t j).isNone)=((List.range n).filter fun j=>(T j).isNone).filter fun j=>j !=i:=by
  rw[List.filter_filter];apply List.filter_congr
  intro j _;unfold A2;by_cases hj:j=i
  ·subst hj;simp
  ·simp[hj]
 rw[e];rw[List.length_filter_lt_length_iff_exists];exact⟨i,List.mem_filter.2 ⟨List.mem_range.2 hi,by simp[h]⟩,by simp⟩
theorem aY{T:Nat->Option TI}{n i:Nat}{t t':TI}(h:T i=some t):Qm n (A2 T i t')=Qm n T:=by
 unfold Qm;congr 1
 apply List.filter_congr
 intro j _;unfold A2;by_cases hj:j=i
 ·subst hj;simp[h]
 ·simp[hj]
theorem gK{z z':LZ}{i:Nat}{t:TI}(hi:i<4096)(h:z.T i=none)(hz:z'.T=A2 z.T i t):Jb z'<Jb z:=by
 unfold Jb;rw[hz];exact aZ hi h
theorem Ph{z z':LZ}{i:Nat}{t t':TI}(h:z.T i=some t)(hz:z'.T=A2 z.T i t'):Jb z'=Jb z:=by
 unfold Jb;rw[hz];exact aY h
theorem Zd(X Y:Int){i:Nat}(raw:List Int)(n:Int){z:LZ}(hi:i<4096)(h:z.T i=none):Ek (Dg X Y i raw n z)<Ek z:=by
 have:=gK (z':=Dg X Y i raw n z) hi h rfl;have h2:(Dg X Y i raw n z).q.length<=z.q.length+1:=by
  unfold Dg;show(if nth raw 0=2 then z.q++[(i:Int)]else z.q).length<=_
  split<;>simp
 unfold Ek;omega
theorem iT{X Y:Int}{IMG:Nat->List Int}{i:Nat}{z z':LZ}(hi:i<4096)(h:Cn X Y IMG i z=some z'):Ek z'<=Ek z:=by
 unfold Cn at h;split at h
 ·rename_i t ht
  split at h
  ·cases h
  ·cases h;unfold Ek;rw[Ph (z':={z with T:=A2 z.T i {t with en:=t.en+1}}) ht rfl];exact Nat.le_refl _
 ·rename_i ht
  split at h
  ·cases h;exact Nat.le_of_lt (Zd X Y _ _ hi ht)
  ·cases h
theorem bS{X Y:Int}{IMG:Nat->List Int}{i:Nat}(nm:ByteArray)(zn:LZ×(ByteArray->Bool))(hi:i<4096):Ek (Cz X Y IMG i nm zn).2.1<=Ek zn.1:=by
 unfold Cz;split
 ·exact Nat.le_refl _
 ·split
  ·rename_i h;exact iT hi h
  ·exact Nat.le_refl _
def K3(z z':LZ):Prop:=∀ i t,z.T i=some t->∃ t',z'.T i=some t'/\t'.bk=t.bk
theorem K3.refl(z:LZ):K3 z z:=fun i t h=>⟨t,h,rfl⟩
theorem K3.trans{a b c:LZ}(h:K3 a b)(h2:K3 b c):K3 a c:=fun i t ht=>by
 obtain⟨t',ht',e⟩:=h i t ht;obtain⟨t2,ht2,e2⟩:=h2 i t' ht';exact⟨t2,ht2,e2.trans e⟩
theorem Yw{X Y:Int}{IMG:Nat->List Int}{i:Nat}{z z':LZ}(h:Cn X Y IMG i z=some z'):K3 z z':=by
 unfold Cn at h;split at h
 ·rename_i t ht
  split at h
  ·cases h
  ·cases h;intro j u hu;by_cases hj:j=i
   ·subst hj;rw[ht]at hu;cases hu;exact⟨{t with en:=t.en+1},by show A2 z.T j _ j=_;unfold A2;rw[if_pos rfl],rfl⟩
   ·exact⟨u,by show A2 z.T i _ j=_;unfold A2;rw[if_neg hj];exact hu,rfl⟩
 ·rename_i ht
  split at h
  ·cases h;intro j u hu;exact⟨u,by show A2 z.T i _ j=_;unfold A2;rw[if_neg (fun e=>by subst e;rw[ht]at hu;cases hu)];exact hu,rfl⟩
  ·cases h
theorem Wz(X Y:Int)(IMG:Nat->List Int)(i:Nat)(nm:ByteArray)(zn:LZ×(ByteArray->Bool)):K3 zn.1 (Cz X Y IMG i nm zn).2.1:=by
 unfold Cz;split
 ·exact K3.refl _
 ·split
  ·rename_i h;exact Yw h
  ·exact K3.refl _
structure ZI (X Y:Int) (z:LZ):Prop where
 t:∀ i t,z.T i=some t->1<=i/\(i:Int)<=Y/\t.raw.length=18/\0<=nth t.raw 2/\nth t.raw 2<=136704/\0<=t.en/\t.en<=100/\∀ k p,t.bk k=some p->isD X Y p=true
 q:∀ i∈z.q,0<=i/\∃ t,z.T i.toNat=some t
 pot:Ek z<=8192
theorem Vr(X Y n:Int)(raw:List Int)(st:LS)(h:raw.length=18):(Az X Y n raw st).1.length=18/\∀ j,j<4->nth (Az X Y n raw st).1 j=nth raw j:=by
 unfold Az;refine⟨?_,fun j hj=>?_⟩
 ·simp only[List.length_append,Ep,J9];simp[h]
 ·show nth (raw.take 4++_) j=_
  rw[H8 (by simp[h];omega)];unfold nth;rw[List.getElem?_take,if_pos hj]
theorem Is(X Y:Int)(raw:List Int)(st:LS):(Aj X Y raw st).1=(Az X Y (Aq (nth raw 2)) raw {st with bk:=fun _=>none}).1:=by
 unfold Aj;simp only;split<;>rfl
theorem nX(n z:Int)(st:LS):(Bt n z st).bk=st.bk:=by
 unfold Bt;split
 ·rfl
 ·split<;>rfl
theorem O4(X Y:Int)(raw:List Int)(st:LS):(Aj X Y raw st).2.bk=(Az X Y (Aq (nth raw 2)) raw {st with bk:=fun _=>none}).2.bk:=by
 unfold Aj;simp only;split
 ·rfl
 ·exact nX _ _ _
theorem cS(X Y:Int)(raw:List Int)(st:LS)(k p:Int)(h:(Aj X Y raw st).2.bk k=some p):isD X Y p=true:=by
 rw[O4]at h;exact Tc X Y _ raw _ (fun k p hk=>by cases hk) k p h
theorem ZI.take{X Y:Int}{z:LZ}(h:ZI X Y z){i:Nat}{raw:List Int}{n:Int}(h1:1<=i)(hY:(i:Int)<=Y)(hi:i<4096)(hr:raw.length=18)(hz0:0<=nth raw 2)(hz1:nth raw 2<=136704)(hn0:0<=n)(hn1:n<=100)(hT:z.T i=none):ZI X Y (Dg X Y i raw n z):=by
 obtain⟨hl,hs⟩:=Vr X Y (Aq (nth raw 2)) raw {z.st with bk:=fun _=>none} hr;refine⟨fun j t ht=>?_,fun j hj=>?_,Nat.le_trans (Nat.le_of_lt (Zd X Y raw n hi hT)) h.pot⟩
 ·have ht2:A2 z.T i ⟨(Aj X Y raw z.st).1,n,(Aj X Y raw z.st).2.bk⟩ j=some t:=ht;unfold A2 at ht2;split at ht2
  ·rename_i e
   subst e;cases ht2;refine⟨h1,hY,?_,?_,?_,hn0,hn1,fun k p hk=>cS X Y raw z.st k p hk⟩
   ·show(Aj X Y raw z.st).1.length=18
    rw[Is];exact hl
   ·show 0<=nth (Aj X Y raw z.st).1 2
    rw[Is,hs 2 (by omega)];exact hz0
   ·show nth (Aj X Y raw z.st).1 2<=_
    rw[Is,hs 2 (by omega)];exact hz1
  ·exact h.t j t ht2
 ·have hj2:j∈(if nth raw 0=2 then z.q++[(i:Int)]else z.q):=hj;have hold:j∈z.q->0<=j/\∃ t,(Dg X Y i raw n z).T j.toNat=some t:=fun hm=>by
   obtain⟨h0,t,ht⟩:=h.q j hm;refine⟨h0,t,?_⟩;show A2 z.T i _ j.toNat=_
   unfold A2;rw[if_neg (fun e=>by rw[e,hT]at ht;cases ht)];exact ht
  split at hj2
  ·rw[List.mem_append]at hj2;rcases hj2 with hm|hm
   ·exact hold hm
   ·rw[List.mem_singleton]at hm;subst hm;refine⟨Int.natCast_nonneg _,⟨(Aj X Y raw z.st).1,n,(Aj X Y raw z.st).2.bk⟩,?_⟩;show A2 z.T i _ i=_
    unfold A2;rw[if_pos rfl]
  ·exact hold hj2
theorem ZI.en{X Y:Int}{z:LZ}(h:ZI X Y z){i:Nat}{t:TI}(ht:z.T i=some t){n:Int}(h0:0<=n)(h1:n<=100):ZI X Y {z with T:=A2 z.T i {t with en:=n}}:=by
 refine⟨fun j t' ht'=>?_,fun j hj=>?_,?_⟩
 ·have ht2:A2 z.T i {t with en:=n} j=some t':=ht';unfold A2 at ht2;split at ht2
  ·rename_i e
   subst e;cases ht2;obtain⟨a1,a2,a3,a4,a5,a6,a7,a8⟩:=h.t j t ht;exact⟨a1,a2,a3,a4,a5,h0,h1,a8⟩
  ·exact h.t j t' ht2
 ·obtain⟨h0,t',ht'⟩:=h.q j hj;refine⟨h0,?_⟩;show ∃ t'',A2 z.T i _ j.toNat=some t''
  unfold A2;split
  ·exact⟨_,rfl⟩
  ·exact⟨t',ht'⟩
 ·have:=Ph (z':={z with T:=A2 z.T i {t with en:=n}}) ht rfl;have hp:=h.pot;unfold Ek at*;rw[this];exact hp
theorem ZI.wipe{X Y:Int}{z:LZ}(h:ZI X Y z)(p:Nat):ZI X Y (Db p z):=⟨h.t,h.q,h.pot⟩
end Go.Proofs.YtmnecpnkkapflaaGreat
