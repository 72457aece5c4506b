import Derived.Lib.ConvBytes
import Derived.Laws.IdiomStrings
import Derived.Lib.BufferRead
import Derived.Test.YtmnecpnkkapflaaGreatM02
namespace Go.Proofs.YtmnecpnkkapflaaGreat
set_option maxHeartbeats 16000000
set_option maxRecDepth 1000000
set_option linter.unusedSimpArgs false
set_option linter.unusedVariables false
open Go.RowKit
theorem Eb(s:List Int)(a n:Nat)(v:Int)(h:a+n<=s.length)(j:Nat):nth (setB s a n v) j=if a<=j/\j<a+n then v/2^(8*(j-a))%256 else nth s j:=by
 induction n with
 |zero=>simp only[setB];rw[if_neg (by omega)]
 |succ n ih=>
  simp only[setB];rw[W4 (by simp;omega),ih (by omega)];by_cases hj:j=a+n
  ·subst hj;rw[if_pos rfl,if_pos ⟨by omega,by omega⟩,show a+n-a=n by omega]
  ·rw[if_neg hj];by_cases h2:a<=j/\j<a+n
   ·rw[if_pos h2,if_pos ⟨by omega,by omega⟩]
   ·rw[if_neg h2,if_neg (by omega)]
theorem jG(s:List Int)(a n b m:Nat)(v u:Int)(h1:a+n<=s.length)(h2:b+m<=s.length)(hd:a+n<=b\/b+m<=a):setB (setB s a n v) b m u=setB (setB s b m u) a n v:=by
 refine Km (by simp) (fun j _=>?_);rw[Eb _ _ _ _ (by simpa using h2),Eb _ _ _ _ h1,Eb _ _ _ _ (by simpa using h1),Eb _ _ _ _ h2];by_cases hb:b<=j/\j<b+m
 ·rw[if_pos hb,if_neg (by omega),if_pos hb]
 ·rw[if_neg hb,if_neg hb]
def Js(l:List Int)(s:List Int)(n:Nat):List Int:=(List.range n).foldl (fun s j=>setB s (16+4*j) 4 (nth l (4+j))) s
theorem Jx(l s:List Int)(n:Nat):Js l s (n+1)=setB (Js l s n) (16+4*n) 4 (nth l (4+n)):=by
 unfold Js;rw[List.range_succ,List.foldl_append];rfl
@[go_sem,simp] theorem sD (l s:List Int) (n:Nat):(Js l s n).length=s.length:=by
 induction n with
 |zero=>rfl
 |succ n ih=>rw[Jx,Eu,ih]
theorem Vc(l s:List Int)(hs:s.length=128)(b m:Nat)(v:Int)(hb:64<=b)(hm:b+m<=128)(n:Nat)(hn:n<=12):Js l (setB s b m v) n=setB (Js l s n) b m v:=by
 induction n with
 |zero=>rfl
 |succ n ih=>
  rw[Jx,Jx,ih (by omega),jG _ _ _ _ _ _ _ (by simp;omega) (by simp;omega) (by omega)]
theorem Yr(l:List Int)(n:Nat):Ez l (6+n)=Js l (Ez l 6) n:=by
 induction n with
 |zero=>rw[Nat.add_zero];unfold Js;rw[List.range_zero,List.foldl_nil]
 |succ n ih=>
  rw[show 6+(n+1)=(n+6)+1 by omega,C5,Jx, <-ih,show 6+n=n+6 by omega];simp only[fAt,fWd,Ci]
def Dt(l:List Int):List Int:=setB (setB (setB (setB (zl 128) 0 1 (nth l 0)) 1 1 (nth l 1)) 4 4 (nth l 2)) 8 8 (nth l 3)
@[go_sem,simp] theorem lM (l:List Int):(Dt l).length=128:=by simp[Dt]
theorem bC(l:List Int):Cp l=setB (setB (Js l (Dt l) 12) 64 4 (nth l 16)) 68 4 (nth l 17):=by
 unfold Cp;rw[show(18:Nat)=6+12 from rfl,Yr];have e:Ez l 6=setB (setB (Dt l) 64 4 (nth l 16)) 68 4 (nth l 17):=by
  unfold Dt;rw[C5,C5,C5,C5,C5,C5];simp only[fAt,fWd,Ci];rfl
 rw[e,Vc _ _ (by simp) _ _ _ (by omega) (by omega) _ (by omega),Vc _ _ (by simp) _ _ _ (by omega) (by omega) _ (by omega)]
theorem K9(l:List Int)(hl:l.length=18)(h:¬ B0 l)(w:World):
  Calls Tryz.prog 59 #[.agg (IV .i64 l)] w fun e w'=>e= .returned (.tuple #[.agg (IV .u8 (zl 128)),.int .i64 61])/\Below w.heap.size w w':=by
 have H:=zA h;clear h;go_enter Tryz.func59,Tryz.ntmps59;go_wp2_with fail;refine(M7 l hl false (by simp;exact H.out) _).mono ?_;rintro e w1 ⟨rfl,hb1⟩;have hb:=Ad (((Below.refl w.heap.size w).alloc (Nat.le_refl _) _).alloc (by simp) _) hb1 (by simp;omega);obtain⟨f1,z1⟩:=hop hb1 (k:=w.heap.size+1) (o:= .cells (IV .u8 (zl 128)) 47) (by simp[go_sem]);clear hb1;go_wp2_with fail;exact Aw Cq rfl (cs:=IV .u8 (zl 128)) rfl (Ar _ _ _ _ _ _ f1) (by simp) rfl ⟨rfl,Ag hb (by omega) _⟩
theorem tE(l:List Int)(h:B0 l):(∀ i,i<18->0<=nth l i/\nth l i<=1099511627776):=by
 have hc:∀ i,i<18->∃ j,j<18/\Ci j=i:=by decide
 intro i hi;obtain⟨j,hj,rfl⟩:=hc i hi;have:=Ls l h j hj;exact⟨this.1,this.2.1⟩
theorem La(l:List Int)(hl:l.length=18)(h:B0 l)(w:World):
  Calls Tryz.prog 59 #[.agg (IV .i64 l)] w fun e w'=>e= .returned (.tuple #[.agg (IV .u8 (Cp l)),.int .i64 0])/\Below w.heap.size w w':=by
 have HFIT:=zA (tE l h);have H:=zA h;clear h;go_enter Tryz.func59,Tryz.ntmps59;go_wp2_with fail;refine(M7 l hl true (by simp;exact H.out) _).mono ?_;rintro e w1 ⟨rfl,hb1⟩;have hb:=Ad (((Below.refl w.heap.size w).alloc (Nat.le_refl _) _).alloc (by simp) _) hb1 (by simp;omega);obtain⟨f0,z0⟩:=hop hb1 (k:=w.heap.size) (o:= .cells (IV .i64 l) 78) (by simp[go_sem]);obtain⟨f1,z1⟩:=hop hb1 (k:=w.heap.size+1) (o:= .cells (IV .u8 (zl 128)) 47) (by simp[go_sem]);clear hb1;go_wp2_with fail;have hb:=As hb (by omega) (.cells (IV .u8 (zl 128)) 47);have hg1:=z1;obtain⟨f0,z0⟩:=B7 w1 (.cells (IV .u8 (zl 128)) 47) f0;obtain⟨f1,z1⟩:=B7 w1 (.cells (IV .u8 (zl 128)) 47) f1;obtain⟨f4,z4⟩:=A6 w1 (.cells (IV .u8 (zl 128)) 47);generalize w1.alloc (.cells (IV .u8 (zl 128)) 47)=wa at*;generalize w1.heap.size=g4 at*;refine(H7 (zl 128) (by simp) 0 1 (nth l 0) _ (by omega) (by omega) (HFIT.out 0 (by omega)).1 (Int.le_trans (HFIT.out 0 (by omega)).2 (by omega))).mono ?_;rintro e wn0 ⟨rfl,hbn⟩;have hb:=Ad hb hbn hb.size;obtain⟨f0,z0⟩:=hop hbn f0;obtain⟨f1,z1⟩:=hop hbn f1;obtain⟨f4,z4⟩:=hop hbn f4;clear hbn;have hb:=Ag hb (g:=g4) (by omega) (IV .u8 (setB (zl 128) 0 1 (nth l 0)));obtain⟨f0,z0⟩:=Gm f0 g4 (IV .u8 (setB (zl 128) 0 1 (nth l 0))) (by omega);obtain⟨f1,z1⟩:=Gm f1 g4 (IV .u8 (setB (zl 128) 0 1 (nth l 0))) (by omega);have f4o:=f4;obtain⟨f4,z4⟩:=Ed f4 (IV .u8 (setB (zl 128) 0 1 (nth l 0)));go_wp2_with fail;clear f4o;generalize wn0.setRow g4 (IV .u8 (setB (zl 128) 0 1 (nth l 0)))=wm0 at*;refine(H7 (setB (zl 128) 0 1 (nth l 0)) (by simp) 1 1 (nth l 1) _ (by omega) (by omega) (HFIT.out 1 (by omega)).1 (Int.le_trans (HFIT.out 1 (by omega)).2 (by omega))).mono ?_;rintro e wn1 ⟨rfl,hbn⟩;have hb:=Ad hb hbn hb.size;obtain⟨f0,z0⟩:=hop hbn f0;obtain⟨f1,z1⟩:=hop hbn f1;obtain⟨f4,z4⟩:=hop hbn f4;clear hbn;have hb:=Ag hb (g:=g4) (by omega) (IV .u8 (setB (setB (zl 128) 0 1 (nth l 0)) 1 1 (nth l 1)));obtain⟨f0,z0⟩:=Gm f0 g4 (IV .u8 (setB (setB (zl 128) 0 1 (nth l 0)) 1 1 (nth l 1))) (by omega);obtain⟨f1,z1⟩:=Gm f1 g4 (IV .u8 (setB (setB (zl 128) 0 1 (nth l 0)) 1 1 (nth l 1))) (by omega);have f4o:=f4;obtain⟨f4,z4⟩:=Ed f4 (IV .u8 (setB (setB (zl 128) 0 1 (nth l 0)) 1 1 (nth l 1)));go_wp2_with fail;clear f4o;generalize wn1.setRow g4 (IV .u8 (setB (setB (zl 128) 0 1 (nth l 0)) 1 1 (nth l 1)))=wm1 at*;refine(H7 (setB (setB (zl 128) 0 1 (nth l 0)) 1 1 (nth l 1)) (by simp) 4 4 (nth l 2) _ (by omega) (by omega) (HFIT.out 2 (by omega)).1 (Int.le_trans (HFIT.out 2 (by omega)).2 (by omega))).mono ?_;rintro e wn2 ⟨rfl,hbn⟩;have hb:=Ad hb hbn hb.size;obtain⟨f0,z0⟩:=hop hbn f0;obtain⟨f1,z1⟩:=hop hbn f1;obtain⟨f4,z4⟩:=hop hbn f4;clear hbn;have hb:=Ag hb (g:=g4) (by omega) (IV .u8 (setB (setB (setB (zl 128) 0 1 (nth l 0)) 1 1 (nth l 1)) 4 4 (nth l 2)));obtain⟨f0,z0⟩:=Gm f0 g4 (IV .u8 (setB (setB (setB (zl 128) 0 1 (nth l 0)) 1 1 (nth l 1)) 4 4 (nth l 2))) (by omega);obtain⟨f1,z1⟩:=Gm f1 g4 (IV .u8 (setB (setB (setB (zl 128) 0 1 (nth l 0)) 1 1 (nth l 1)) 4 4 (nth l 2))) (by omega);have f4o:=f4;obtain⟨f4,z4⟩:=Ed f4 (IV .u8 (setB (setB (setB (zl 128) 0 1 (nth l 0)) 1 1 (nth l 1)) 4 4 (nth l 2)));go_wp2_with fail;clear f4o;generalize wn2.setRow g4 (IV .u8 (setB (setB (setB (zl 128) 0 1 (nth l 0)) 1 1 (nth l 1)) 4 4 (nth l 2)))=wm2 at*;refine(H7 (setB (setB (setB (zl 128) 0 1 (nth l 0)) 1 1 (nth l 1)) 4 4 (nth l 2)) (by simp) 8 8 (nth l 3) _ (by omega) (by omega) (HFIT.out 3 (by omega)).1 (Int.le_trans (HFIT.out 3 (by omega)).2 (by omega))).mono ?_;rintro e wn3 ⟨rfl,hbn⟩;have hb:=Ad hb hbn hb.size;obtain⟨f0,z0⟩:=hop hbn f0;obtain⟨f1,z1⟩:=hop hbn f1;obtain⟨f4,z4⟩:=hop hbn f4;clear hbn;have hb:=Ag hb (g:=g4) (by omega) (IV .u8 (setB (setB (setB (setB (zl 128) 0 1 (nth l 0)) 1 1 (nth l 1)) 4 4 (nth l 2)) 8 8 (nth l 3)));obtain⟨f0,z0⟩:=Gm f0 g4 (IV .u8 (setB (setB (setB (setB (zl 128) 0 1 (nth l 0)) 1 1 (nth l 1)) 4 4 (nth l 2)) 8 8 (nth l 3))) (by omega);obtain⟨f1,z1⟩:=Gm f1 g4 (IV .u8 (setB (setB (setB (setB (zl 128) 0 1 (nth l 0)) 1 1 (nth l 1)) 4 4 (nth l 2)) 8 8 (nth l 3))) (by omega);have f4o:=f4;obtain⟨f4,z4⟩:=Ed f4 (IV .u8 (setB (setB (setB (setB (zl 128) 0 1 (nth l 0)) 1 1 (nth l 1)) 4 4 (nth l 2)) 8 8 (nth l 3)));go_wp2_with fail;clear f4o;generalize wn3.setRow g4 (IV .u8 (setB (setB (setB (setB (zl 128) 0 1 (nth l 0)) 1 1 (nth l 1)) 4 4 (nth l 2)) 8 8 (nth l 3)))=wm3 at*;have eh:(setB (setB (setB (setB (zl 128) 0 1 (nth l 0)) 1 1 (nth l 1)) 4 4 (nth l 2)) 8 8 (nth l 3))=Dt l:=rfl;rw[eh]at f4;clear eh
 go_loopw [5] (fun i wr=>∃ k:Nat,k<=12/\i= .int .i64 k/\hat wr w.heap.size=some (.cells (IV .i64 l) 78)/\hat wr (w.heap.size+1)=some (.cells (IV .u8 (zl 128)) 47)/\hat wr g4=some (.cells (IV .u8 (Js l (Dt l) k)) 47)
   /\Below w.heap.size w wr) (fun i _=>12-(intOf i).toNat)
 case atStart=>exact⟨0,by omega,rfl,f0,f1,f4,hb⟩
 case round=>
  clear f0 f1 f4 hb z0 z1 z4;obtain⟨k,hk,rfl,f0,f1,f4,hb⟩:=hrel;have z0:=Aa f0;have z1:=Aa f1;have z4:=Aa f4;by_cases hkw:k<12
  ·have hk12:4+k<18:=(by omega);have HK1:=zA (Jx l (Dt l) k);go_wp2_with fail
   refine Ba (by kernel_rfl) 9 (by decide) rfl (fun i=>match i with
    |0=> .agg (IV .u8 (Js l (Dt l) k))|1=> .int .i64 k|2=> .int .i64 (4*k)|3=> .int .i64 (16+4*k)|4=> .int .i64 k
    |5=> .pointer (some ⟨w.heap.size,4,none⟩)|6=> .pointer (some ⟨w.heap.size,4+k,none⟩)|7=> .int .i64 (nth l (4+k))|_=> .agg (IV .u8 (Js l (Dt l) (k+1)))) ?_ ?_
   ·intro i o hi ho a' w' hB hS hF;have hi':i=0\/i=1\/i=2\/i=3\/i=4\/i=5\/i=6\/i=7\/i=8:=(by omega);have f4:=(hop hB f4).1;have f0:=(hop hB f0).1;have e1:=gtx ((hS 1 (by decide)).trans rfl:gt a' 1= .pointer (some ⟨w.heap.size,0,none⟩));rcases hi' with rfl|rfl|rfl|rfl|rfl|rfl|rfl|rfl|rfl
    all_goals (have ho':=Option.some.inj ho;subst ho')
    ·exact Bp 47 128 Cq (.tmp 4) rfl rfl rfl g4 _ ((hS 4 (by decide)).trans rfl) f4 (by simp) ⟨rfl,hB⟩
    ·exact E8 (.tmp 5) rfl rfl rfl _ ((hS 5 (by decide)).trans rfl) ⟨rfl,hB⟩
    ·have e0:=gtx (hF 1 (by decide) _ 31 rfl rfl);refine Ae rfl rfl (v:= .int .i64 (4*k)) (w1:=w') ?_ ⟨rfl,hB⟩;simp[go_sem,e0];exact IntWalk.i64_in _ ⟨by omega,by omega⟩
    ·have e0:=gtx (hF 2 (by decide) _ 32 rfl rfl);refine Ae rfl rfl (v:= .int .i64 (16+4*k)) (w1:=w') ?_ ⟨rfl,hB⟩;simp[go_sem,e0];exact IntWalk.i64_in _ ⟨by omega,by omega⟩
    ·exact E8 (.tmp 5) rfl rfl rfl _ ((hS 5 (by decide)).trans rfl) ⟨rfl,hB⟩
    ·refine Ae rfl rfl (v:= .pointer (some ⟨w.heap.size,4,none⟩)) (w1:=w') ?_ ⟨rfl,hB⟩;simp[go_sem,e1]
    ·have e0:=gtx (hF 5 (by decide) _ 35 rfl rfl);have e2:=gtx (hF 4 (by decide) _ 34 rfl rfl);refine Ae rfl rfl (v:= .pointer (some ⟨w.heap.size,4+k,none⟩)) (w1:=w') ?_ ⟨rfl,hB⟩;simp[go_sem,e0,e2];intro hc;omega
    ·exact Bu 3 K4 (.tmp 36) rfl rfl rfl w.heap.size (4+k) _ _ (hF 6 (by decide) _ 36 rfl rfl) f0 (Lj _ _ _ (by omega)) ⟨rfl,hB⟩
    ·have e0:=gtx (hF 0 (by decide) _ 30 rfl rfl);have e2:=gtx (hF 3 (by decide) _ 33 rfl rfl);have e3:=gtx (hF 7 (by decide) _ 37 rfl rfl)
     refine Bn (f:=92) (args:= #[.agg (IV .u8 (Js l (Dt l) k)),.int .i64 ((16+4*k:Nat):Int),.int .i64 4,.int .i64 (nth l (4+k))]) rfl rfl (by simp[go_sem,e0,e2,e3])
      (H7 _ (by simp) (16+4*k) 4 (nth l (4+k)) w' (by omega) (by omega) (HFIT.out _ hk12).1 (Int.le_trans (HFIT.out _ hk12).2 (by omega))) ?_
     rintro e w'' ⟨rfl,hb'⟩;exact⟨_,rfl,(by rw[HK1.out];rfl),Ad hB hb' hB.size⟩
   ·intro w' hB;obtain⟨f0,z0⟩:=hop hB f0;obtain⟨f1,z1⟩:=hop hB f1;obtain⟨f4,z4⟩:=hop hB f4;have hb:=Ad hb hB hb.size;clear hB;simp only[Bi,List.take,List.drop,List.take_succ_cons,List.drop_succ_cons,Act.put,List.setIfInBounds_toArray,List.set_cons_zero,List.set_cons_succ];go_wp2_with fail;go_roundw
    case rel=>exact⟨k+1,by omega,by go_num,(Gm f0 _ _ (by omega)).1,(Gm f1 _ _ (by omega)).1,(Ed f4 _).1,Ag hb (by omega) _⟩
    case measure=>(show 12-(k+1)<12-k);omega
  ·obtain rfl:k=12:=(by omega);have HR:=zA (bC l);go_wp2_with fail;refine(H7 (Js l (Dt l) 12) (by simp) 64 4 (nth l 16) _ (by omega) (by omega) (HFIT.out 16 (by omega)).1 (Int.le_trans (HFIT.out 16 (by omega)).2 (by omega))).mono ?_;rintro e wz0 ⟨rfl,hbn⟩;have hb:=Ad hb hbn hb.size;obtain⟨f0,z0⟩:=hop hbn f0;obtain⟨f1,z1⟩:=hop hbn f1;obtain⟨f4,z4⟩:=hop hbn f4;clear hbn;have hb:=Ag hb (g:=g4) (by omega) (IV .u8 (setB (Js l (Dt l) 12) 64 4 (nth l 16)));obtain⟨f0,z0⟩:=Gm f0 g4 (IV .u8 (setB (Js l (Dt l) 12) 64 4 (nth l 16))) (by omega);obtain⟨f1,z1⟩:=Gm f1 g4 (IV .u8 (setB (Js l (Dt l) 12) 64 4 (nth l 16))) (by omega);have f4o:=f4;obtain⟨f4,z4⟩:=Ed f4 (IV .u8 (setB (Js l (Dt l) 12) 64 4 (nth l 16)));go_wp2_with fail;clear f4o;generalize wz0.setRow g4 (IV .u8 (setB (Js l (Dt l) 12) 64 4 (nth l 16)))=wy0 at*;refine(H7 (setB (Js l (Dt l) 12) 64 4 (nth l 16)) (by simp) 68 4 (nth l 17) _ (by omega) (by omega) (HFIT.out 17 (by omega)).1 (Int.le_trans (HFIT.out 17 (by omega)).2 (by omega))).mono ?_;rintro e wz1 ⟨rfl,hbn⟩;have hb:=Ad hb hbn hb.size;obtain⟨f0,z0⟩:=hop hbn f0;obtain⟨f1,z1⟩:=hop hbn f1;obtain⟨f4,z4⟩:=hop hbn f4;clear hbn;go_wp2_with fail;exact Aw Cq rfl (cs:=IV .u8 (setB (setB (Js l (Dt l) 12) 64 4 (nth l 16)) 68 4 (nth l 17))) rfl (Ar _ _ _ _ _ _ f1) (by simp) rfl ⟨by rw[HR.out];rfl,Ag hb (by omega) _⟩
def Eh(m:Int)(s:List Int):List Int:=[Ak s 0 1,Ak s 1 1,Ak s 4 4,m]++((List.range 12).map fun j=>Ak s (16+4*j) 4)++[Ak s 64 4,Ak s 68 4]
theorem Kq(m:Int)(s:List Int):(Eh m s).length=18:=by simp[Eh]
theorem Te(m:Int)(s:List Int):nth (Eh m s) 3=m:=rfl
open Classical in
noncomputable def L1(s:List Int):Value:=
 if B0 (Eh (Ak s 8 8) s)/\Cp (Eh (Ak s 8 8) s)=s then .tuple #[.agg (IV .i64 (Eh (Ak s 8 8) s)),.int .i64 0]
 else .tuple #[.agg (IV .i64 (zl 18)),.int .i64 61]
theorem Qo{l:List Int}(h:B0 l):0<=nth l 3/\nth l 3<=1099511627776:=by
 by_cases h0:nth l 0=0
 ·rw[(Jd h0).1 h,Mf];omega
 ·exact((D9 h0).1 h).1.2.2.2
theorem Td{m:Int}{s:List Int}(hm:m=Ak s 8 8\/m= -1/\1099511627776<Ak s 8 8)(h1:B0 (Eh m s))(h2:Cp (Eh m s)=s):
  L1 s= .tuple #[.agg (IV .i64 (Eh m s)),.int .i64 0]:=by
 rcases hm with rfl|⟨rfl,-⟩
 ·unfold L1;rw[if_pos ⟨h1,h2⟩]
 ·have:=Qo h1;rw[Te]at this;omega
theorem Mo{m:Int}{s:List Int}(hm:m=Ak s 8 8\/m= -1/\1099511627776<Ak s 8 8)(h:¬ (B0 (Eh m s)/\Cp (Eh m s)=s)):
  L1 s= .tuple #[.agg (IV .i64 (zl 18)),.int .i64 61]:=by
 unfold L1;rw[if_neg];rcases hm with rfl|⟨-,h2⟩
 ·exact h
 ·rintro ⟨h1,-⟩;have:=Qo h1;rw[Te]at this;omega
theorem gM(s:List Int):Ej s 8 8=Ak s 8 8\/Ej s 8 8= -1/\1099511627776<Ak s 8 8:=by
 unfold Ej;split
 ·exact .inr ⟨rfl,by omega⟩
 ·exact .inl rfl
theorem Se{s:List Int}(hb:A4 s)(a n:Nat)(hn:n<=7):Ej s a n=Ak s a n:=by
 unfold Ej;have h1:=Fu hb n a;have h2:=vW n hn;rw[if_neg (by omega)]
def rdN(s:List Int)(n:Nat):List Int:=(List.range n).foldl (fun x j=>x.set (Ci j) (Ej s (fAt j) (fWd j))) (zl 18)
theorem Zh(s:List Int)(n:Nat):rdN s (n+1)=(rdN s n).set (Ci n) (Ej s (fAt n) (fWd n)):=by
 unfold rdN;rw[List.range_succ,List.foldl_append];rfl
@[go_sem,simp] theorem tM (s:List Int) (n:Nat):(rdN s n).length=18:=by
 induction n with
 |zero=>rfl
 |succ n ih=>rw[Zh,List.length_set,ih]
theorem qL:(List.range 18).map (fun j=>(Ci j,fAt j,fWd j))=[(0,0,1),(1,1,1),(2,4,4),(3,8,8),(16,64,4),(17,68,4),(4,16,4),(5,20,4),(6,24,4),(7,28,4),(8,32,4),(9,36,4),(10,40,4),(11,44,4),(12,48,4),(13,52,4),(14,56,4),(15,60,4)]:=by decide
theorem rB{s:List Int}(hb:A4 s):rdN s 18=Eh (Ej s 8 8) s:=by
 have e:rdN s 18=[Ej s 0 1,Ej s 1 1,Ej s 4 4,Ej s 8 8,Ej s 16 4,Ej s 20 4,Ej s 24 4,Ej s 28 4,Ej s 32 4,Ej s 36 4,Ej s 40 4,Ej s 44 4,Ej s 48 4,Ej s 52 4,Ej s 56 4,Ej s 60 4,Ej s 64 4,Ej s 68 4]:=by
  have e:rdN s 18=((List.range 18).map (fun j=>(Ci j,fAt j,fWd j))).foldl (fun x (p:Nat×Nat×Nat)=>x.set p.1 (Ej s p.2.1 p.2.2)) (zl 18):=by
   unfold rdN;rw[List.foldl_map]
  rw[e,qL];simp only[List.foldl_cons,List.foldl_nil,zl,List.replicate,List.set_cons_zero,List.set_cons_succ]
 rw[e];simp only[Se hb _ 1 (by omega),Se hb _ 4 (by omega)];rfl
theorem Sr(s:List Int)(hs:s.length=128)(hb:A4 s)(w:World):
  Calls Tryz.prog 73 #[.agg (IV .u8 s)] w fun e w'=>e= .returned (L1 s)/\Below w.heap.size w w':=by
 have HBY:=zA hb;clear hb;go_enter Tryz.func73,Tryz.ntmps73;go_wp2_with fail;have hb:=(((Below.refl w.heap.size w).alloc (Nat.le_refl _) (.cells (IV .u8 s) 47)).alloc (by simp) (.cells (IV .i64 (zl 18)) 78)).alloc (by simp;omega) (.cells (IV .i64 (zl 18)) 78);obtain⟨f1,z1⟩:=A6 w (.cells (IV .u8 s) 47);obtain⟨f1,z1⟩:=B7 _ (.cells (IV .i64 (zl 18)) 78) f1;obtain⟨f1,z1⟩:=B7 _ (.cells (IV .i64 (zl 18)) 78) f1;have f2:hat (((w.alloc (.cells (IV .u8 s) 47)).alloc (.cells (IV .i64 (zl 18)) 78)).alloc (.cells (IV .i64 (zl 18)) 78)) (w.heap.size+1)=some (.cells (IV .i64 (zl 18)) 78):=by simp[go_sem]
 have f4:hat (((w.alloc (.cells (IV .u8 s) 47)).alloc (.cells (IV .i64 (zl 18)) 78)).alloc (.cells (IV .i64 (zl 18)) 78)) (w.heap.size+1+1)=some (.cells (IV .i64 (zl 18)) 78):=by simp[go_sem]
 refine(R5 _).mono ?_;rintro e w2 ⟨gf,cap,c,cur,rfl,hb2,hgf,ff,hcur,hc⟩;have hb:=Ad hb hb2 hb.size;obtain⟨f1,z1⟩:=hop hb2 f1;obtain⟨f2,z2⟩:=hop hb2 f2;obtain⟨f4,z4⟩:=hop hb2 f4;have zf:=Aa ff;have hgf4:w.heap.size+1+1<gf:=by simp only[World.size_alloc]at hgf;omega
 clear hb2 hgf;have hcs:54<=cur.size:=by
  have:=congrArg List.length hcur;rw[Ie]at this;simp at this;omega
 have hrow:∀ k,k<18->cur.extract (k*3) (k*3+3)= #[.int .i64 (fAt k),.int .i64 (fWd k),fFn c k]:=by
  intro k hk;have e:=Yk c 18 k hk;rw[<-hcur]at e;apply Array.ext'
  have e2:(cur.toList.drop (k*3)).take 3=Wq c k:=by
   rw[<-e,List.drop_take,List.take_take,show min 3 (54-k*3)=3 by omega]
  simp only[Array.toList_extract,List.extract_eq_take_drop,show k*3+3-k*3=3 by omega,e2];rfl
 have HROW:=zA hrow;have HC:=zA hc;clear hrow hc hcur;go_wp2_with fail
 go_loopw [11] (fun i wr=>∃ k:Nat,k<=18/\i= .int .i64 k/\hat wr w.heap.size=some (.cells (IV .u8 s) 47)/\hat wr (w.heap.size+1)=some (.cells (IV .i64 (zl 18)) 78)/\hat wr (w.heap.size+1+1)=some (.cells (IV .i64 (rdN s k)) 78)
   /\hat wr gf=some (.cells cur 178)/\(∀ j,j<12->hat wr (c j)=some (.cells #[.int .i64 j] 3))/\Below w.heap.size w wr) (fun i _=>18-(intOf i).toNat)
 case atStart=>exact⟨0,by omega,rfl,f1,f2,f4,ff,HC.out,hb⟩
 case round=>
  clear f1 f2 f4 ff HC hb z1 z2 z4 zf;obtain⟨k,hk,rfl,f1,f2,f4,ff,hc,hb⟩:=hrel;have HC:=zA hc;clear hc;by_cases hkw:k<18
  ·have hrk:=HROW.out k hkw;have hk3:k*3+3<=cur.size:=(by omega);have z1:=Aa f1;have z2:=Aa f2;have z4:=Aa f4;have hfc:=Yh k hkw;have HK1:=zA (Zh s k);go_wp2_with fail;have hbn:=As hb (by omega) (.cells #[.int .i64 (fAt k),.int .i64 (fWd k),fFn c k] 178);obtain⟨f1,z1⟩:=B7 wr (.cells #[.int .i64 (fAt k),.int .i64 (fWd k),fFn c k] 178) f1;obtain⟨f2,z2⟩:=B7 wr (.cells #[.int .i64 (fAt k),.int .i64 (fWd k),fFn c k] 178) f2;obtain⟨f4,z4⟩:=B7 wr (.cells #[.int .i64 (fAt k),.int .i64 (fWd k),fFn c k] 178) f4;obtain⟨ff,zf⟩:=B7 wr (.cells #[.int .i64 (fAt k),.int .i64 (fWd k),fFn c k] 178) ff;obtain⟨f6,z6⟩:=A6 wr (.cells #[.int .i64 (fAt k),.int .i64 (fWd k),fFn c k] 178);have HC2:=zA (fun j hj=>(B7 wr (.cells #[.int .i64 (fAt k),.int .i64 (fWd k),fFn c k] 178) (HC.out j hj)).1);clear hb HC;generalize wr.alloc (.cells #[.int .i64 (fAt k),.int .i64 (fWd k),fFn c k] 178)=w3 at*;generalize wr.heap.size=g6 at*
   refine Ba (by kernel_rfl) 10 (by decide) rfl (fun i=>match i with
    |0=> .pointer (some ⟨g6,2,none⟩)|1=>fFn c k|2=> .pointer (some ⟨w.heap.size+1+1,Ci k,none⟩)|3=> .agg (IV .u8 s)|4=> .pointer (some ⟨g6,0,none⟩)|5=> .int .i64 (fAt k)
    |6=> .pointer (some ⟨g6,1,none⟩)|7=> .int .i64 (fWd k)|8=> .int .i64 (Ej s (fAt k) (fWd k))|_=> .pointer (some ⟨w.heap.size+1+1,Ci k,none⟩)) ?_ ?_
   ·intro i o hi ho a' w' hB hS hF;have hi':i=0\/i=1\/i=2\/i=3\/i=4\/i=5\/i=6\/i=7\/i=8\/i=9:=(by omega);have e6:=gtx ((hS 6 (by decide)).trans rfl:gt a' 6= .pointer (some ⟨g6,0,none⟩));have f6:=(hop hB f6).1;have f1:=(hop hB f1).1;rcases hi' with rfl|rfl|rfl|rfl|rfl|rfl|rfl|rfl|rfl|rfl
    all_goals (have ho':=Option.some.inj ho;subst ho')
    ·refine Ae rfl rfl (v:= .pointer (some ⟨g6,2,none⟩)) (w1:=w') ?_ ⟨rfl,hB⟩;simp[go_sem,e6]
    ·exact Bu 176 sC (.tmp 15) rfl rfl rfl g6 2 _ _ (hF 0 (by decide) _ 15 rfl rfl) f6 rfl ⟨rfl,hB⟩
    ·have e0:=hF 1 (by decide) _ 16 rfl rfl;have e1:=((hS 4 (by decide)).trans rfl:gt a' 4= .pointer (some ⟨w.heap.size+1+1,0,none⟩));obtain⟨f,args,hr,hcall⟩:=Yi c k hkw (w.heap.size+1+1) w' (fun j hj=>(hop hB (HC2.out j hj)).1);refine Bn rfl rfl (hr _ 16 4 _ _ _ _ _ e0 e1) hcall ?_;rintro e w'' ⟨rfl,hb'⟩;exact⟨_,rfl,rfl,Ad hB hb' hB.size⟩
    ·exact Bp 47 128 Cq (.tmp 1) rfl rfl rfl w.heap.size _ ((hS 1 (by decide)).trans rfl) f1 (by simp[hs]) ⟨rfl,hB⟩
    ·refine Ae rfl rfl (v:= .pointer (some ⟨g6,0,none⟩)) (w1:=w') ?_ ⟨rfl,hB⟩;simp[go_sem,e6]
    ·exact Bu 3 K4 (.tmp 19) rfl rfl rfl g6 0 _ _ (hF 4 (by decide) _ 19 rfl rfl) f6 rfl ⟨rfl,hB⟩
    ·refine Ae rfl rfl (v:= .pointer (some ⟨g6,1,none⟩)) (w1:=w') ?_ ⟨rfl,hB⟩;simp[go_sem,e6]
    ·exact Bu 3 K4 (.tmp 21) rfl rfl rfl g6 1 _ _ (hF 6 (by decide) _ 21 rfl rfl) f6 rfl ⟨rfl,hB⟩
    ·have e0:=gtx (hF 3 (by decide) _ 18 rfl rfl);have e1:=gtx (hF 5 (by decide) _ 20 rfl rfl);have e2:=gtx (hF 7 (by decide) _ 22 rfl rfl)
     refine Bn (f:=71) (args:= #[.agg (IV .u8 s),.int .i64 (fAt k),.int .i64 (fWd k)]) rfl rfl (by simp[go_sem,e0,e1,e2])
      (Sl s hs HBY.out (fAt k) (fWd k) w' (Oh k).1 (Oh k).2 (R1 k hkw)) ?_
     rintro e w'' ⟨rfl,hb'⟩;exact⟨_,rfl,rfl,Ad hB hb' hB.size⟩
    ·have e0:=gtx (hF 2 (by decide) _ 17 rfl rfl);refine Ae rfl rfl (v:= .pointer (some ⟨w.heap.size+1+1,Ci k,none⟩)) (w1:=w') ?_ ⟨rfl,hB⟩;simp[go_sem,e0]
   ·intro w' hB;obtain⟨f1,z1⟩:=hop hB f1;obtain⟨f2,z2⟩:=hop hB f2;obtain⟨f4,z4⟩:=hop hB f4;obtain⟨ff,zf⟩:=hop hB ff;have HC3:=zA (fun j hj=>(hop hB (HC2.out j hj)).1);have hb:=Ad hbn hB hbn.size;clear hB HC2 f6 hbn;simp only[Bi,List.take,List.drop,List.take_succ_cons,List.drop_succ_cons,Act.put,List.setIfInBounds_toArray,List.set_cons_zero,List.set_cons_succ];go_wp2_with fail;go_roundw
    case rel=>
     refine⟨k+1,by omega,by go_num,(Ib f1 _ _ _ (by omega)).1,(Ib f2 _ _ _ (by omega)).1,by rw[HK1.out];exact(lN f4 _ _).1,(Ib ff _ _ _ (by omega)).1,fun j hj=>?_,hb.setCell (by simp;omega) _⟩;have:=HC3.out j hj;refine(Ib this _ _ _ ?_).1;intro e;rw[e,f4]at this;simp at this
    case measure=>(show 18-(k+1)<18-k);omega
  ·obtain rfl:k=18:=(by omega);have ea:=rB HBY.out;rw[ea]at f4;clear ea;have hml:=Kq (Ej s 8 8) s;have HM:=zA (gM s);have z1:=Aa f1;have z2:=Aa f2;have z4:=Aa f4;have hbw:=hb;by_cases hm:B0 (Eh (Ej s 8 8) s)
   ·go_wp2_with fail;refine(K6 _ hml hm _).mono ?_;rintro e w3 ⟨rfl,hb3⟩;have hbw:=Ad hbw hb3 hbw.size;obtain⟨f1,z1⟩:=hop hb3 f1;obtain⟨f2,z2⟩:=hop hb3 f2;obtain⟨f4,z4⟩:=hop hb3 f4;have hsl:(Cp (Eh (Ej s 8 8) s)).length=128:=Em _ _;clear hb3;by_cases he:Cp (Eh (Ej s 8 8) s)=s
    ·have HD:=zA (Td HM.out hm he);have he':decide (Cp (Eh (Ej s 8 8) s)=s)=true:=(by simpa using he);clear he hm;go_wp2_with fail;exact Aw M8 rfl (cs:=IV .i64 (Eh (Ej s 8 8) s)) rfl (B7 _ _ (Ed f2 _).1).1 (by simp[hml]) rfl ⟨by rw[HD.out];rfl,As (Ag hbw (by omega) _) (by simp;omega) _⟩
    ·have HD:=zA (Mo HM.out (fun h=>he h.2));clear hm;go_wp2_with fail;exact Aw M8 rfl (cs:=IV .i64 (zl 18)) rfl (B7 _ _ (Ed f2 _).1).1 (by simp) rfl ⟨by rw[HD.out];rfl,As (Ag hbw (by omega) _) (by simp;omega) _⟩
   ·have HD:=zA (Mo HM.out (fun h=>hm h.1));have HMM:=zA hm;clear hm;go_wp2_with fail;refine(K5 _ hml HMM.out _).mono ?_;rintro e w3 ⟨rfl,hb3⟩;have hbw:=Ad hbw hb3 hbw.size;obtain⟨f1,z1⟩:=hop hb3 f1;obtain⟨f2,z2⟩:=hop hb3 f2;obtain⟨f4,z4⟩:=hop hb3 f4;clear hb3;go_wp2_with fail;exact Aw M8 rfl (cs:=IV .i64 (zl 18)) rfl (B7 _ _ (Ed f2 _).1).1 (by simp) rfl ⟨by rw[HD.out];rfl,As (Ag hbw (by omega) _) (by simp;omega) _⟩
def Jv(s:List Int):Int:=if nth s 15=0 then Ak s 8 8 else-1
theorem jF{s:List Int}(hb:A4 s):Jv s=Ak s 8 8\/Jv s= -1/\1099511627776<Ak s 8 8:=by
 unfold Jv;split
 ·exact .inl rfl
 ·rename_i h
  refine .inr ⟨rfl,?_⟩;have h1:=Ve s 7 8;have h2:=Dv hb 7 8;have h3:=hb.at 15;have h4:(256:Int)^7=72057594037927936:=(by decide);rw[h4]at h1;show _<Ak s 8 (7+1)
  rw[h1];show 1099511627776<Ak s 8 7+72057594037927936*nth s 15
  omega
theorem wZ(s:List Int)(hs:s.length=128)(hb:A4 s)(w:World):
  Calls Tryz.prog 57 #[.agg (IV .u8 s),.int .i64 8,.int .i64 8] w fun e w'=>e= .returned (.int .i64 (Jv s))/\Below w.heap.size w w':=by
 unfold Jv;split
 ·rename_i h;exact F7 s hs hb 8 8 w (by omega) (by omega) (fun _=>h)
 ·rename_i h;exact nM s hs hb 8 w (by omega) h
def Lm(m:Int)(s:List Int):List Int:=(((((((zl 18).set 0 (Ak s 0 1)).set 1 (Ak s 1 1)).set 2 (Ak s 4 4)).set 3 m).set 16 (Ak s 64 4)).set 17 (Ak s 68 4))
theorem Wg(m:Int)(s:List Int):(Lm m s).length=18:=rfl
def Ql(m:Int)(s:List Int)(n:Nat):List Int:=(List.range n).foldl (fun x j=>x.set (4+j) (Ak s (16+4*j) 4)) (Lm m s)
theorem R6(m:Int)(s:List Int)(n:Nat):Ql m s (n+1)=(Ql m s n).set (4+n) (Ak s (16+4*n) 4):=by
 unfold Ql;rw[List.range_succ,List.foldl_append];rfl
@[go_sem,simp] theorem qC (m:Int) (s:List Int) (n:Nat):(Ql m s n).length=18:=by
 induction n with
 |zero=>rfl
 |succ n ih=>rw[R6,List.length_set,ih]
theorem gG(m:Int)(s:List Int):Ql m s 12=Eh m s:=by
 have e:Ql m s 12=((List.range 12).map (fun j=>(4+j,16+4*j))).foldl (fun x (p:Nat×Nat)=>x.set p.1 (Ak s p.2 4)) (Lm m s):=by
  unfold Ql;rw[List.foldl_map]
 have t:(List.range 12).map (fun j=>(4+j,16+4*j))=[(4,16),(5,20),(6,24),(7,28),(8,32),(9,36),(10,40),(11,44),(12,48),(13,52),(14,56),(15,60)]:=by decide
 rw[e,t];simp only[List.foldl_cons,List.foldl_nil,Lm,zl,List.replicate,List.set_cons_zero,List.set_cons_succ];rfl
theorem Tu(s:List Int)(hs:s.length=128)(hb:A4 s)(w:World):
  Calls Tryz.prog 38 #[.agg (IV .u8 s)] w fun e w'=>e= .returned (L1 s)/\Below w.heap.size w w':=by
 have HBY:=zA hb;clear hb;go_enter Tryz.func38,Tryz.ntmps38;go_wp2_with fail;have hbw:=((Below.refl w.heap.size w).alloc (Nat.le_refl _) (.cells (IV .u8 s) 47)).alloc (by simp) (.cells (IV .i64 (zl 18)) 78);have f1:hat ((w.alloc (.cells (IV .u8 s) 47)).alloc (.cells (IV .i64 (zl 18)) 78)) w.heap.size=some (.cells (IV .u8 s) 47):=by simp[go_sem]
 have f2:hat ((w.alloc (.cells (IV .u8 s) 47)).alloc (.cells (IV .i64 (zl 18)) 78)) (w.heap.size+1)=some (.cells (IV .i64 (zl 18)) 78):=by simp[go_sem]
 have hz1:=Aa f2;generalize (w.alloc (.cells (IV .u8 s) 47)).alloc (.cells (IV .i64 (zl 18)) 78)=w1 at*
 refine Hw (by kernel_rfl) 14 (by decide) rfl (fun w'=>Below w1.heap.size w1 w') (fun w w'=>Below w.heap.size w w')
  (fun i v w'=>match i with
   |0=>v= .agg (IV .u8 s)
   |1=>v= .int .i64 (Ak s 0 1)
   |2=>v= .agg (IV .u8 s)
   |3=>v= .int .i64 (Ak s 1 1)
   |4=>v= .agg (IV .u8 s)
   |5=>v= .int .i64 (Ak s 4 4)
   |6=>v= .agg (IV .u8 s)
   |7=>v= .int .i64 (Jv s)
   |8=>v= .agg (IV .u8 s)
   |9=>v= .int .i64 (Ak s 64 4)
   |10=>v= .agg (IV .u8 s)
   |11=>v= .int .i64 (Ak s 68 4)
   |12=>v= .agg (IV .i64 (Lm (Jv s) s))
   |_=>∃ g,v= .pointer (some ⟨g,0,none⟩)/\w1.heap.size<=g/\hat w' g=some (.cells (IV .i64 (zl 18)) 78)) ((Below.refl _ _).drew) ?_ ?_ ?_
 ·intro i v wa wb hi _ _ hE hG;have hi':i=0\/i=1\/i=2\/i=3\/i=4\/i=5\/i=6\/i=7\/i=8\/i=9\/i=10\/i=11\/i=12\/i=13:=(by omega);rcases hi' with rfl|rfl|rfl|rfl|rfl|rfl|rfl|rfl|rfl|rfl|rfl|rfl|rfl|rfl<;>try exact hG
  obtain⟨g,h1,h2,h3⟩:=hG;exact⟨g,h1,h2,(hop hE h3).1⟩
 ·intro i o hi ho a' w' hB hS hF;have hi':i=0\/i=1\/i=2\/i=3\/i=4\/i=5\/i=6\/i=7\/i=8\/i=9\/i=10\/i=11\/i=12\/i=13:=(by omega);have f1:=(hop hB f1).1;rcases hi' with rfl|rfl|rfl|rfl|rfl|rfl|rfl|rfl|rfl|rfl|rfl|rfl|rfl|rfl
  all_goals (have ho':=Option.some.inj ho;subst ho')
  ·exact Bp 47 128 Cq (.tmp 1) rfl rfl rfl w.heap.size _ ((hS 1 (by decide)).trans rfl) f1 (by simp[hs]) ⟨_,rfl,hB,Below.refl _ _,rfl⟩
  ·have e0:=gtx (hF 0 (by decide) _ 8 rfl rfl);refine Bn (f:=57) (args:= #[.agg (IV .u8 s),.int .i64 0,.int .i64 1]) rfl rfl (by simp[go_sem,e0]) (F7 s hs HBY.out 0 1 w' (by omega) (by omega) (by omega)) ?_;rintro e w'' ⟨rfl,hb'⟩;exact⟨_,rfl,_,rfl,Ad hB hb' hB.size,hb',rfl⟩
  ·exact Bp 47 128 Cq (.tmp 1) rfl rfl rfl w.heap.size _ ((hS 1 (by decide)).trans rfl) f1 (by simp[hs]) ⟨_,rfl,hB,Below.refl _ _,rfl⟩
  ·have e0:=gtx (hF 2 (by decide) _ 10 rfl rfl);refine Bn (f:=57) (args:= #[.agg (IV .u8 s),.int .i64 1,.int .i64 1]) rfl rfl (by simp[go_sem,e0]) (F7 s hs HBY.out 1 1 w' (by omega) (by omega) (by omega)) ?_;rintro e w'' ⟨rfl,hb'⟩;exact⟨_,rfl,_,rfl,Ad hB hb' hB.size,hb',rfl⟩
  ·exact Bp 47 128 Cq (.tmp 1) rfl rfl rfl w.heap.size _ ((hS 1 (by decide)).trans rfl) f1 (by simp[hs]) ⟨_,rfl,hB,Below.refl _ _,rfl⟩
  ·have e0:=gtx (hF 4 (by decide) _ 12 rfl rfl);refine Bn (f:=57) (args:= #[.agg (IV .u8 s),.int .i64 4,.int .i64 4]) rfl rfl (by simp[go_sem,e0]) (F7 s hs HBY.out 4 4 w' (by omega) (by omega) (by omega)) ?_;rintro e w'' ⟨rfl,hb'⟩;exact⟨_,rfl,_,rfl,Ad hB hb' hB.size,hb',rfl⟩
  ·exact Bp 47 128 Cq (.tmp 1) rfl rfl rfl w.heap.size _ ((hS 1 (by decide)).trans rfl) f1 (by simp[hs]) ⟨_,rfl,hB,Below.refl _ _,rfl⟩
  ·have e0:=gtx (hF 6 (by decide) _ 14 rfl rfl);refine Bn (f:=57) (args:= #[.agg (IV .u8 s),.int .i64 8,.int .i64 8]) rfl rfl (by simp[go_sem,e0]) (wZ s hs HBY.out w') ?_;rintro e w'' ⟨rfl,hb'⟩;exact⟨_,rfl,_,rfl,Ad hB hb' hB.size,hb',rfl⟩
  ·exact Bp 47 128 Cq (.tmp 1) rfl rfl rfl w.heap.size _ ((hS 1 (by decide)).trans rfl) f1 (by simp[hs]) ⟨_,rfl,hB,Below.refl _ _,rfl⟩
  ·have e0:=gtx (hF 8 (by decide) _ 16 rfl rfl);refine Bn (f:=57) (args:= #[.agg (IV .u8 s),.int .i64 64,.int .i64 4]) rfl rfl (by simp[go_sem,e0]) (F7 s hs HBY.out 64 4 w' (by omega) (by omega) (by omega)) ?_;rintro e w'' ⟨rfl,hb'⟩;exact⟨_,rfl,_,rfl,Ad hB hb' hB.size,hb',rfl⟩
  ·exact Bp 47 128 Cq (.tmp 1) rfl rfl rfl w.heap.size _ ((hS 1 (by decide)).trans rfl) f1 (by simp[hs]) ⟨_,rfl,hB,Below.refl _ _,rfl⟩
  ·have e0:=gtx (hF 10 (by decide) _ 18 rfl rfl);refine Bn (f:=57) (args:= #[.agg (IV .u8 s),.int .i64 68,.int .i64 4]) rfl rfl (by simp[go_sem,e0]) (F7 s hs HBY.out 68 4 w' (by omega) (by omega) (by omega)) ?_;rintro e w'' ⟨rfl,hb'⟩;exact⟨_,rfl,_,rfl,Ad hB hb' hB.size,hb',rfl⟩
  ·have e1:=gtx (hF 1 (by decide) _ 9 rfl rfl);have e3:=gtx (hF 3 (by decide) _ 11 rfl rfl);have e5:=gtx (hF 5 (by decide) _ 13 rfl rfl);have e7:=gtx (hF 7 (by decide) _ 15 rfl rfl);have e9:=gtx (hF 9 (by decide) _ 17 rfl rfl);have e11:=gtx (hF 11 (by decide) _ 19 rfl rfl);refine Ae rfl rfl (v:= .agg (IV .i64 (Lm (Jv s) s))) (w1:=w') ?_ ⟨_,rfl,hB,Below.refl _ _,rfl⟩;simp[go_sem,e1,e3,e5,e7,e9,e11,Lm,uP .i64 (zl 18) 17 rfl]
  ·refine Ae rfl rfl (v:= .pointer (some ⟨w'.heap.size,0,none⟩)) (w1:=w'.alloc (.cells (IV .i64 (zl 18)) 78)) ?_ ⟨_,rfl,As hB hB.size _,(Below.refl _ _).alloc (Nat.le_refl _) _,w'.heap.size,rfl,hB.size,(A6 _ _).1⟩;simp[go_sem]
 ·intro val w2 hB hF;have e0:=hF 0 _ 8 (by decide) rfl rfl;have e1:=hF 1 _ 9 (by decide) rfl rfl;have e2:=hF 2 _ 10 (by decide) rfl rfl;have e3:=hF 3 _ 11 (by decide) rfl rfl;have e4:=hF 4 _ 12 (by decide) rfl rfl;have e5:=hF 5 _ 13 (by decide) rfl rfl;have e6:=hF 6 _ 14 (by decide) rfl rfl;have e7:=hF 7 _ 15 (by decide) rfl rfl;have e8:=hF 8 _ 16 (by decide) rfl rfl;have e9:=hF 9 _ 17 (by decide) rfl rfl;have e10:=hF 10 _ 18 (by decide) rfl rfl;have e11:=hF 11 _ 19 (by decide) rfl rfl;have e12:=hF 12 _ 20 (by decide) rfl rfl;obtain⟨g,e13,hg,f4⟩:=hF 13 _ 4 (by decide) rfl rfl;simp only[]at e0 e1 e2 e3 e4 e5 e6 e7 e8 e9 e10 e11 e12;obtain⟨f1,z1⟩:=hop hB f1;obtain⟨f2,z2⟩:=hop hB f2;have hb:=Ad hbw hB hbw.size;have hg1:w.heap.size+1<g:=(by omega);have hbl:=Wg (Jv s) s;clear hF hB hbw;simp only[Bi,List.take,List.drop,List.take_succ_cons,List.drop_succ_cons,e0,e1,e2,e3,e4,e5,e6,e7,e8,e9,e10,e11,e12,e13,Act.put,List.setIfInBounds_toArray,List.set_cons_zero,List.set_cons_succ];clear e0 e1 e2 e3 e4 e5 e6 e7 e8 e9 e10 e11 e12 e13;go_wp2_with fail;obtain⟨f1,z1⟩:=Gm f1 g (IV .i64 (Lm (Jv s) s)) (by omega);obtain⟨f2,z2⟩:=Gm f2 g (IV .i64 (Lm (Jv s) s)) (by omega);obtain⟨f4,z4⟩:=Ed f4 (IV .i64 (Lm (Jv s) s));have hb:=Ag hb (g:=g) (by omega) (IV .i64 (Lm (Jv s) s))
  go_loopw [5] (fun i wr=>∃ k:Nat,k<=12/\i= .int .i64 k/\hat wr w.heap.size=some (.cells (IV .u8 s) 47)/\hat wr (w.heap.size+1)=some (.cells (IV .i64 (zl 18)) 78)/\hat wr g=some (.cells (IV .i64 (Ql (Jv s) s k)) 78)
   /\Below w.heap.size w wr) (fun i _=>12-(intOf i).toNat)
  case atStart=>exact⟨0,by omega,rfl,f1,f2,f4,hb⟩
  case round=>
   clear f1 f2 f4 hb z1 z2 z4;obtain⟨k,hk,rfl,f1,f2,f4,hb⟩:=hrel;have z1:=Aa f1;have z2:=Aa f2;have z4:=Aa f4;by_cases hkw:k<12
   ·have hk18:4+k<18:=(by omega);have HK1:=zA (R6 (Jv s) s k);have HC:=zA (fun(wx:World)=>F7 s hs HBY.out (16+4*k) 4 wx (by omega) (by omega) (by omega));go_wp2_with fail;refine(HC.out _).mono ?_;rintro e w3 ⟨rfl,hb3⟩;have hb:=Ad hb hb3 hb.size;obtain⟨f1,z1⟩:=hop hb3 f1;obtain⟨f2,z2⟩:=hop hb3 f2;obtain⟨f4,z4⟩:=hop hb3 f4;clear hb3;go_wp2_with fail;go_roundw
    case rel=>exact⟨k+1,by omega,by go_num,(Ib f1 _ _ _ (by omega)).1,(Ib f2 _ _ _ (by omega)).1,by rw[HK1.out];exact(lN f4 _ _).1,hb.setCell (by simp;omega) _⟩
    case measure=>(show 12-(k+1)<12-k);omega
   ·obtain rfl:k=12:=(by omega);rw[gG]at f4;have hml:=Kq (Jv s) s;have HM:=zA (jF HBY.out);have z1:=Aa f1;have z2:=Aa f2;have z4:=Aa f4;have hbw:=hb;by_cases hm:B0 (Eh (Jv s) s)
    ·go_wp2_with fail;refine(La _ hml hm _).mono ?_;rintro e w3 ⟨rfl,hb3⟩;have hbw:=Ad hbw hb3 hbw.size;obtain⟨f1,z1⟩:=hop hb3 f1;obtain⟨f2,z2⟩:=hop hb3 f2;obtain⟨f4,z4⟩:=hop hb3 f4;have hsl:(Cp (Eh (Jv s) s)).length=128:=Em _ _;clear hb3;by_cases he:Cp (Eh (Jv s) s)=s
     ·have HD:=zA (Td HM.out hm he);have he':decide (Cp (Eh (Jv s) s)=s)=true:=(by simpa using he);clear he hm;go_wp2_with fail;exact Aw M8 rfl (cs:=IV .i64 (Eh (Jv s) s)) rfl (B7 _ _ (Ed f2 _).1).1 (by simp[hml]) rfl ⟨by rw[HD.out];rfl,As (Ag hbw (by omega) _) (by simp;omega) _⟩
     ·have HD:=zA (Mo HM.out (fun h=>he h.2));clear hm;go_wp2_with fail;exact Aw M8 rfl (cs:=IV .i64 (zl 18)) rfl (B7 _ _ (Ed f2 _).1).1 (by simp) rfl ⟨by rw[HD.out];rfl,As (Ag hbw (by omega) _) (by simp;omega) _⟩
    ·have HD:=zA (Mo HM.out (fun h=>hm h.1));have HMM:=zA hm;clear hm;go_wp2_with fail;refine(K9 _ hml HMM.out _).mono ?_;rintro e w3 ⟨rfl,hb3⟩;have hbw:=Ad hbw hb3 hbw.size;obtain⟨f1,z1⟩:=hop hb3 f1;obtain⟨f2,z2⟩:=hop hb3 f2;obtain⟨f4,z4⟩:=hop hb3 f4;clear hb3;go_wp2_with fail;exact Aw M8 rfl (cs:=IV .i64 (zl 18)) rfl (B7 _ _ (Ed f2 _).1).1 (by simp) rfl ⟨by rw[HD.out];rfl,As (Ag hbw (by omega) _) (by simp;omega) _⟩
def F8(x:List Int):Prop:=∀ j,j<32->0<=nth x j/\nth x j<=4294967295
def Dh(x:List Int)(n:Nat):List Int:=(List.range n).foldl (fun s j=>setB s (4*j) 4 (nth x j)) (zl 128)
theorem Gx(x:List Int)(n:Nat):Dh x (n+1)=setB (Dh x n) (4*n) 4 (nth x n):=by
 unfold Dh;rw[List.range_succ,List.foldl_append];rfl
@[go_sem,simp] theorem Gw (x:List Int) (n:Nat):(Dh x n).length=128:=by
 induction n with
 |zero=>rfl
 |succ n ih=>rw[Gx,Eu,ih]
open Classical in
noncomputable def bW(x:List Int):Value:=
 if F8 x then .tuple #[.agg (IV .u8 (Dh x 32)),.int .i64 0]else .tuple #[.agg (IV .u8 (zl 128)),.int .i64 62]
theorem Ta{x:List Int}(h:F8 x):bW x= .tuple #[.agg (IV .u8 (Dh x 32)),.int .i64 0]:=by unfold bW;rw[if_pos h]
theorem W8{x:List Int}(h:¬ F8 x):bW x= .tuple #[.agg (IV .u8 (zl 128)),.int .i64 62]:=by unfold bW;rw[if_neg h]
def Al(s:List Int):List Int:=(List.range 32).map fun i=>Ak s (4*i) 4
@[go_sem,simp] theorem rC (s:List Int):(Al s).length=32:=by simp[Al]
def I3(s:List Int)(n:Nat):List Int:=(List.range n).foldl (fun x j=>x.set j (Ak s (4*j) 4)) (zl 32)
theorem Jj(s:List Int)(n:Nat):I3 s (n+1)=(I3 s n).set n (Ak s (4*n) 4):=by
 unfold I3;rw[List.range_succ,List.foldl_append];rfl
@[go_sem,simp] theorem oT (s:List Int) (n:Nat):(I3 s n).length=32:=by
 induction n with
 |zero=>rfl
 |succ n ih=>rw[Jj,List.length_set,ih]
theorem bX(s:List Int)(n j:Nat)(hn:n<=32):nth (I3 s n) j=if j<n then Ak s (4*j) 4 else 0:=by
 induction n with
 |zero=>simp[I3,Mf]
 |succ n ih=>
  rw[Jj,W4 (by simp;omega),ih (by omega)];by_cases h:j=n
  ·subst h;simp
  ·rw[if_neg h];by_cases h2:j<n
   ·rw[if_pos h2,if_pos (by omega)]
   ·rw[if_neg h2,if_neg (by omega)]
theorem Vt(s:List Int)(j:Nat)(hj:j<32):nth (Al s) j=Ak s (4*j) 4:=by
 simp[Al,nth,hj]
theorem Tf(s:List Int):I3 s 32=Al s:=by
 refine Km (by simp) (fun j hj=>?_);simp at hj;rw[bX _ _ _ (by omega),if_pos hj,Vt _ _ hj]
theorem Mt(x:List Int)(hx:x.length=32)(w:World):
  Calls Tryz.prog 111 #[.agg (IV .i64 x)] w fun e w'=>e= .returned (bW x)/\Below w.heap.size w w':=by
 go_enter Tryz.func111,Tryz.ntmps111;go_wp2_with fail;have hb:=(((Below.refl w.heap.size w).alloc (Nat.le_refl _) (.cells (IV .i64 x) 119)).alloc (by simp) (.cells (IV .u8 (zl 128)) 47)).alloc (by simp;omega) (.cells (IV .u8 (zl 128)) 47);have f1:hat (((w.alloc (.cells (IV .i64 x) 119)).alloc (.cells (IV .u8 (zl 128)) 47)).alloc (.cells (IV .u8 (zl 128)) 47)) w.heap.size=some (.cells (IV .i64 x) 119):=by simp[go_sem]
 have f2:hat (((w.alloc (.cells (IV .i64 x) 119)).alloc (.cells (IV .u8 (zl 128)) 47)).alloc (.cells (IV .u8 (zl 128)) 47)) (w.heap.size+1)=some (.cells (IV .u8 (zl 128)) 47):=by simp[go_sem]
 have f4:hat (((w.alloc (.cells (IV .i64 x) 119)).alloc (.cells (IV .u8 (zl 128)) 47)).alloc (.cells (IV .u8 (zl 128)) 47)) (w.heap.size+1+1)=some (.cells (IV .u8 (zl 128)) 47):=by simp[go_sem]
 go_loopw [8] (fun i wr=>∃ k:Nat,k<=32/\i= .int .i64 k/\(∀ j,j<k->0<=nth x j/\nth x j<=4294967295)/\hat wr w.heap.size=some (.cells (IV .i64 x) 119)/\hat wr (w.heap.size+1)=some (.cells (IV .u8 (zl 128)) 47)
   /\hat wr (w.heap.size+1+1)=some (.cells (IV .u8 (Dh x k)) 47)/\Below w.heap.size w wr) (fun i _=>32-(intOf i).toNat)
 case atStart=>exact⟨0,by omega,rfl,fun j hj=>by omega,f1,f2,f4,hb⟩
 case round=>
  clear f1 f2 f4 hb;obtain⟨k,hk,rfl,hok,f1,f2,f4,hb⟩:=hrel;have HOK:=zA hok;clear hok;have z1:=Aa f1;have z2:=Aa f2;have z4:=Aa f4;by_cases hkw:k<32
  ·by_cases hp:0<=nth x k/\nth x k<=4294967295
   ·have HP:=zA hp;have HK1:=zA (Gx x k);obtain⟨p0,p1⟩:=hp;go_wp2_with fail;refine(Ce _ _ _ _ HP.out).mono ?_;rintro e w' ⟨rfl,rfl⟩;go_wp2_with fail;refine(Py (Dh x k) (by simp) (4*k) 4 (nth x k) _ (by omega) (by omega) (by omega) p0 (by omega) (fun _=>by omega)).mono ?_;rintro e w3 ⟨rfl,hb3⟩;have hb:=Ad hb hb3 hb.size;obtain⟨f1,z1⟩:=hop hb3 f1;obtain⟨f2,z2⟩:=hop hb3 f2;obtain⟨f4,z4⟩:=hop hb3 f4;clear hb3;go_wp2_with fail;go_roundw
    case rel=>exact⟨k+1,by omega,by go_num,fun j hj=>(by by_cases h:j=k;(subst h;exact HP.out);exact HOK.out j (by omega)),(Gm f1 _ _ (by omega)).1,(Gm f2 _ _ (by omega)).1,by rw[HK1.out];exact(Ed f4 _).1,Ag hb (by omega) _⟩
    case measure=>(show 32-(k+1)<32-k);omega
   ·have HP:=zA hp;have HV:=zA (W8 (x:=x) (fun h=>hp (h k hkw)));clear hp;go_wp2_with fail;refine(E4 _ _ _ _ HP.out).mono ?_;rintro e w' ⟨rfl,rfl⟩;go_wp2_with fail;exact Aw Cq rfl (cs:=IV .u8 (zl 128)) rfl (Ar _ _ _ _ _ _ f2) (by simp) rfl ⟨by rw[HV.out];rfl,Ag hb (by omega) _⟩
  ·obtain rfl:k=32:=(by omega);have HV:=zA (Ta (x:=x) HOK.out);go_wp2_with fail;exact Aw Cq rfl (cs:=IV .u8 (Dh x 32)) rfl (Ar _ _ _ _ _ _ f2) (by simp) rfl ⟨by rw[HV.out];rfl,Ag hb (by omega) _⟩
theorem Mx(x:List Int)(hx:x.length=32)(w:World):
  Calls Tryz.prog 116 #[.agg (IV .i64 x)] w fun e w'=>e= .returned (bW x)/\Below w.heap.size w w':=by
 go_enter Tryz.func116,Tryz.ntmps116;go_wp2_with fail;have hb:=(((Below.refl w.heap.size w).alloc (Nat.le_refl _) (.cells (IV .i64 x) 119)).alloc (by simp) (.cells (IV .u8 (zl 128)) 47)).alloc (by simp;omega) (.cells (IV .u8 (zl 128)) 47);have f1:hat (((w.alloc (.cells (IV .i64 x) 119)).alloc (.cells (IV .u8 (zl 128)) 47)).alloc (.cells (IV .u8 (zl 128)) 47)) w.heap.size=some (.cells (IV .i64 x) 119):=by simp[go_sem]
 have f2:hat (((w.alloc (.cells (IV .i64 x) 119)).alloc (.cells (IV .u8 (zl 128)) 47)).alloc (.cells (IV .u8 (zl 128)) 47)) (w.heap.size+1)=some (.cells (IV .u8 (zl 128)) 47):=by simp[go_sem]
 have f4:hat (((w.alloc (.cells (IV .i64 x) 119)).alloc (.cells (IV .u8 (zl 128)) 47)).alloc (.cells (IV .u8 (zl 128)) 47)) (w.heap.size+1+1)=some (.cells (IV .u8 (zl 128)) 47):=by simp[go_sem]
 go_loopw [5] (fun i wr=>∃ k:Nat,k<=32/\i= .int .i64 k/\(∀ j,j<k->0<=nth x j/\nth x j<=4294967295)/\hat wr w.heap.size=some (.cells (IV .i64 x) 119)/\hat wr (w.heap.size+1)=some (.cells (IV .u8 (zl 128)) 47)
   /\hat wr (w.heap.size+1+1)=some (.cells (IV .u8 (Dh x k)) 47)/\Below w.heap.size w wr) (fun i _=>32-(intOf i).toNat)
 case atStart=>exact⟨0,by omega,rfl,fun j hj=>by omega,f1,f2,f4,hb⟩
 case round=>
  clear f1 f2 f4 hb;obtain⟨k,hk,rfl,hok,f1,f2,f4,hb⟩:=hrel;have HOK:=zA hok;clear hok;have z1:=Aa f1;have z2:=Aa f2;have z4:=Aa f4;by_cases hkw:k<32
  ·by_cases hp:0<=nth x k/\nth x k<=4294967295
   ·have HP:=zA hp;have HK1:=zA (Gx x k);obtain⟨p0,p1⟩:=hp;go_wp2_with fail;refine(A5 _ _ _ _ HP.out).mono ?_;rintro e w' ⟨rfl,rfl⟩;go_wp2_with fail
    refine Ba (by kernel_rfl) 7 (by decide) rfl (fun i=>match i with
     |0=> .agg (IV .u8 (Dh x k))|1=> .int .i64 k|2=> .int .i64 (4*k)|3=> .int .i64 k|4=> .pointer (some ⟨w.heap.size,k,none⟩)|5=> .int .i64 (nth x k)|_=> .agg (IV .u8 (Dh x (k+1)))) ?_ ?_
    ·intro i o hi ho a' w' hB hS hF;have hi':i=0\/i=1\/i=2\/i=3\/i=4\/i=5\/i=6:=(by omega);have f4:=(hop hB f4).1;have f1:=(hop hB f1).1;have e1:=gtx ((hS 1 (by decide)).trans rfl:gt a' 1= .pointer (some ⟨w.heap.size,0,none⟩));rcases hi' with rfl|rfl|rfl|rfl|rfl|rfl|rfl
     all_goals (have ho':=Option.some.inj ho;subst ho')
     ·exact Bp 47 128 Cq (.tmp 4) rfl rfl rfl (w.heap.size+1+1) _ ((hS 4 (by decide)).trans rfl) f4 (by simp) ⟨rfl,hB⟩
     ·exact E8 (.tmp 5) rfl rfl rfl _ ((hS 5 (by decide)).trans rfl) ⟨rfl,hB⟩
     ·have e0:=gtx (hF 1 (by decide) _ 17 rfl rfl);refine Ae rfl rfl (v:= .int .i64 (4*k)) (w1:=w') ?_ ⟨rfl,hB⟩;simp[go_sem,e0];exact IntWalk.i64_in _ ⟨by omega,by omega⟩
     ·exact E8 (.tmp 5) rfl rfl rfl _ ((hS 5 (by decide)).trans rfl) ⟨rfl,hB⟩
     ·have e0:=gtx (hF 3 (by decide) _ 19 rfl rfl);refine Ae rfl rfl (v:= .pointer (some ⟨w.heap.size,k,none⟩)) (w1:=w') ?_ ⟨rfl,hB⟩;simp[go_sem,e0,e1];intro hc;omega
     ·exact Bu 3 K4 (.tmp 20) rfl rfl rfl w.heap.size k _ _ (hF 4 (by decide) _ 20 rfl rfl) f1 (Lj _ _ _ (by omega)) ⟨rfl,hB⟩
     ·have e0:=gtx (hF 0 (by decide) _ 16 rfl rfl);have e2:=gtx (hF 2 (by decide) _ 18 rfl rfl);have e3:=gtx (hF 5 (by decide) _ 21 rfl rfl)
      refine Bn (f:=92) (args:= #[.agg (IV .u8 (Dh x k)),.int .i64 ((4*k:Nat):Int),.int .i64 4,.int .i64 (nth x k)]) rfl rfl (by simp[go_sem,e0,e2,e3])
       (H7 _ (by simp) (4*k) 4 (nth x k) w' (by omega) (by omega) p0 (by omega)) ?_
      rintro e w'' ⟨rfl,hb'⟩;exact⟨_,rfl,(by rw[HK1.out];rfl),Ad hB hb' hB.size⟩
    ·intro w' hB;obtain⟨f1,z1⟩:=hop hB f1;obtain⟨f2,z2⟩:=hop hB f2;obtain⟨f4,z4⟩:=hop hB f4;have hb:=Ad hb hB hb.size;clear hB;simp only[Bi,List.take,List.drop,List.take_succ_cons,List.drop_succ_cons,Act.put,List.setIfInBounds_toArray,List.set_cons_zero,List.set_cons_succ];go_wp2_with fail;go_roundw
     case rel=>exact⟨k+1,by omega,by go_num,fun j hj=>(by by_cases h:j=k;(subst h;exact HP.out);exact HOK.out j (by omega)),(Gm f1 _ _ (by omega)).1,(Gm f2 _ _ (by omega)).1,(Ed f4 _).1,Ag hb (by omega) _⟩
     case measure=>(show 32-(k+1)<32-k);omega
   ·have HP:=zA hp;have HV:=zA (W8 (x:=x) (fun h=>hp (h k hkw)));clear hp;go_wp2_with fail;refine(C1 _ _ _ _ HP.out).mono ?_;rintro e w' ⟨rfl,rfl⟩;go_wp2_with fail;exact Aw Cq rfl (cs:=IV .u8 (zl 128)) rfl (Ar _ _ _ _ _ _ f2) (by simp) rfl ⟨by rw[HV.out];rfl,Ag hb (by omega) _⟩
  ·obtain rfl:k=32:=(by omega);have HV:=zA (Ta (x:=x) HOK.out);go_wp2_with fail;exact Aw Cq rfl (cs:=IV .u8 (Dh x 32)) rfl (Ar _ _ _ _ _ _ f2) (by simp) rfl ⟨by rw[HV.out];rfl,Ag hb (by omega) _⟩
theorem Oq(s:List Int)(hs:s.length=128)(hb:A4 s)(w:World):
  Calls Tryz.prog 110 #[.agg (IV .u8 s)] w fun e w'=>e= .returned (.agg (IV .i64 (Al s)))/\Below w.heap.size w w':=by
 have HBY:=zA hb;clear hb;go_enter Tryz.func110,Tryz.ntmps110;go_wp2_with fail;have hb:=(((Below.refl w.heap.size w).alloc (Nat.le_refl _) (.cells (IV .u8 s) 47)).alloc (by simp) (.cells (IV .i64 (zl 32)) 119)).alloc (by simp;omega) (.cells (IV .i64 (zl 32)) 119);have f1:hat (((w.alloc (.cells (IV .u8 s) 47)).alloc (.cells (IV .i64 (zl 32)) 119)).alloc (.cells (IV .i64 (zl 32)) 119)) w.heap.size=some (.cells (IV .u8 s) 47):=by simp[go_sem]
 have f2:hat (((w.alloc (.cells (IV .u8 s) 47)).alloc (.cells (IV .i64 (zl 32)) 119)).alloc (.cells (IV .i64 (zl 32)) 119)) (w.heap.size+1)=some (.cells (IV .i64 (zl 32)) 119):=by simp[go_sem]
 have f4:hat (((w.alloc (.cells (IV .u8 s) 47)).alloc (.cells (IV .i64 (zl 32)) 119)).alloc (.cells (IV .i64 (zl 32)) 119)) (w.heap.size+1+1)=some (.cells (IV .i64 (zl 32)) 119):=by simp[go_sem]
 go_loopw [5] (fun i wr=>∃ k:Nat,k<=32/\i= .int .i64 k/\hat wr w.heap.size=some (.cells (IV .u8 s) 47)/\hat wr (w.heap.size+1)=some (.cells (IV .i64 (zl 32)) 119)
   /\hat wr (w.heap.size+1+1)=some (.cells (IV .i64 (I3 s k)) 119)/\Below w.heap.size w wr) (fun i _=>32-(intOf i).toNat)
 case atStart=>exact⟨0,by omega,rfl,f1,f2,f4,hb⟩
 case round=>
  clear f1 f2 f4 hb;obtain⟨k,hk,rfl,f1,f2,f4,hb⟩:=hrel;have z1:=Aa f1;have z2:=Aa f2;have z4:=Aa f4;by_cases hkw:k<32
  ·have HK1:=zA (Jj s k);have HC:=zA (fun(wx:World)=>dX s hs HBY.out (4*k) wx (by omega));go_wp2_with fail;refine(HC.out _).mono ?_;rintro e w3 ⟨rfl,hb3⟩;have hb:=Ad hb hb3 hb.size;obtain⟨f1,z1⟩:=hop hb3 f1;obtain⟨f2,z2⟩:=hop hb3 f2;obtain⟨f4,z4⟩:=hop hb3 f4;clear hb3;go_wp2_with fail;go_roundw
   case rel=>exact⟨k+1,by omega,by go_num,(Ib f1 _ _ _ (by omega)).1,(Ib f2 _ _ _ (by omega)).1,by rw[HK1.out];exact(lN f4 _ _).1,hb.setCell (by simp;omega) _⟩
   case measure=>(show 32-(k+1)<32-k);omega
  ·obtain rfl:k=32:=(by omega);go_wp2_with fail;exact Qu Xd rfl (cs:=IV .i64 (I3 s 32)) rfl (Ar _ _ _ _ _ _ f2) (by simp) rfl ⟨by rw[Tf],Ag hb (by omega) _⟩
theorem Gz(s:List Int)(hs:s.length=128)(hb:A4 s)(w:World):
  Calls Tryz.prog 63 #[.agg (IV .u8 s)] w fun e w'=>e= .returned (.agg (IV .i64 (Al s)))/\Below w.heap.size w w':=by
 have HBY:=zA hb;clear hb;go_enter Tryz.func63,Tryz.ntmps63;go_wp2_with fail;have hb:=(((Below.refl w.heap.size w).alloc (Nat.le_refl _) (.cells (IV .u8 s) 47)).alloc (by simp) (.cells (IV .i64 (zl 32)) 119)).alloc (by simp;omega) (.cells (IV .i64 (zl 32)) 119);have f1:hat (((w.alloc (.cells (IV .u8 s) 47)).alloc (.cells (IV .i64 (zl 32)) 119)).alloc (.cells (IV .i64 (zl 32)) 119)) w.heap.size=some (.cells (IV .u8 s) 47):=by simp[go_sem]
 have f2:hat (((w.alloc (.cells (IV .u8 s) 47)).alloc (.cells (IV .i64 (zl 32)) 119)).alloc (.cells (IV .i64 (zl 32)) 119)) (w.heap.size+1)=some (.cells (IV .i64 (zl 32)) 119):=by simp[go_sem]
 have f4:hat (((w.alloc (.cells (IV .u8 s) 47)).alloc (.cells (IV .i64 (zl 32)) 119)).alloc (.cells (IV .i64 (zl 32)) 119)) (w.heap.size+1+1)=some (.cells (IV .i64 (zl 32)) 119):=by simp[go_sem]
 go_loopw [4] (fun i wr=>∃ k:Nat,k<=32/\i= .int .i64 k/\hat wr w.heap.size=some (.cells (IV .u8 s) 47)/\hat wr (w.heap.size+1)=some (.cells (IV .i64 (zl 32)) 119)
   /\hat wr (w.heap.size+1+1)=some (.cells (IV .i64 (I3 s k)) 119)/\Below w.heap.size w wr) (fun i _=>32-(intOf i).toNat)
 case atStart=>exact⟨0,by omega,rfl,f1,f2,f4,hb⟩
 case round=>
  clear f1 f2 f4 hb;obtain⟨k,hk,rfl,f1,f2,f4,hb⟩:=hrel;have z1:=Aa f1;have z2:=Aa f2;have z4:=Aa f4;by_cases hkw:k<32
  ·have HK1:=zA (Jj s k);have HC:=zA (fun(wx:World)=>F7 s hs HBY.out (4*k) 4 wx (by omega) (by omega) (by omega));go_wp2_with fail;refine(HC.out _).mono ?_;rintro e w3 ⟨rfl,hb3⟩;have hb:=Ad hb hb3 hb.size;obtain⟨f1,z1⟩:=hop hb3 f1;obtain⟨f2,z2⟩:=hop hb3 f2;obtain⟨f4,z4⟩:=hop hb3 f4;clear hb3;go_wp2_with fail;go_roundw
   case rel=>exact⟨k+1,by omega,by go_num,(Ib f1 _ _ _ (by omega)).1,(Ib f2 _ _ _ (by omega)).1,by rw[HK1.out];exact(lN f4 _ _).1,hb.setCell (by simp;omega) _⟩
   case measure=>(show 32-(k+1)<32-k);omega
  ·obtain rfl:k=32:=(by omega);go_wp2_with fail;exact Qu Xd rfl (cs:=IV .i64 (I3 s 32)) rfl (Ar _ _ _ _ _ _ f2) (by simp) rfl ⟨by rw[Tf],Ag hb (by omega) _⟩
def nmL(s:ByteArray):List Int:=s.data.toList.map fun b=>(b.toNat:Int)
@[go_sem,simp] theorem Iz (s:ByteArray):(nmL s).length=s.size:=by simp[nmL]
theorem qS(s:ByteArray)(j:Nat)(h:j<s.size):nth (nmL s) j=((s[j]'h).toNat:Int):=by
 unfold nth nmL;rw[List.getElem?_map,Lib.data_getElem? s j h];rfl
def Cu(x:Int)(s:ByteArray):List Int:=setB (setB (putL (zl 128) 5 (nmL s)) 0 4 x) 4 1 s.size
def Fd(x:Int)(s:ByteArray):Prop:=(1<=x/\x<=512)/\Oa s.data.toList
instance (x:Int) (s:ByteArray):Decidable (Fd x s):=by unfold Fd;infer_instance
theorem Fd.size{x:Int}{s:ByteArray}(h:Fd x s):1<=s.size/\s.size<=40:=by
 have h1:=h.2.1;have h2:=h.2.2.1;rw[F1]at*;omega
theorem X1{B:Nat}{a w:World}(h:Below B a w)(hB:B<=w.heap.size)(e:TypeId)(s:ByteArray):Below B a (Lib.bytesWorld w e s):=by
 refine h.trans ⟨rfl,rfl,rfl,by rw[Lib.bytesWorld_size];omega,fun k hk=>Lib.bytesWorld_at_old w e s k (by omega)⟩
def Cv(x:Int)(s:ByteArray):List Int×Int:=
 if x=0/\s.toList=[]then(zl 128,0)else if Fd x s then(Cu x s,0)else(zl 128,63)
def Gl(x:Int)(s:ByteArray):Value:= .tuple #[.agg (IV .u8 (Cv x s).1),.int .i64 (Cv x s).2]
theorem Uo(w:World)(e:TypeId)(s:ByteArray):Lib.bytesCells w e s=IV .u8 (nmL s++List.replicate (grownCap w s.size 0 e-s.size) 0):=by
 apply Array.ext'
 simp[Lib.bytesCells,IV,nmL]
theorem gN(w:World)(e:TypeId)(s:ByteArray):∃ fr,hat (Lib.bytesWorld w e s) w.heap.size=some (.cells (IV .u8 (nmL s++List.replicate (grownCap w s.size 0 e-s.size) 0)) e fr):=
 ⟨_,by rw[<-Uo];exact Lib.bytesWorld_at_new w e s⟩
theorem My(w:World)(e:TypeId)(s:ByteArray){k:Nat}{o:Obj}(h:hat w k=some o):hat (Lib.bytesWorld w e s) k=some o/\k<(Lib.bytesWorld w e s).heap.size:=
 ⟨(Lib.bytesWorld_at_old w e s k (Aa h)).trans h,by rw[Lib.bytesWorld_size];have:=Aa h;omega⟩
theorem Pr(s:ByteArray)(w:World)(hs:s.toList=[]):
  Calls Tryz.prog 112 #[.agg #[.int .i64 0,.string s]] w fun e w'=>e= .returned (.tuple #[.agg (IV .u8 (zl 128)),.int .i64 0])/\Below w.heap.size w w':=by
 go_enter Tryz.func112,Tryz.ntmps112;go_wp2_with fail;refine Aw Cq rfl (cs:=IV .u8 (zl 128)) rfl (Bc _ _ _ (by simp)) (by simp) rfl ⟨rfl,?_⟩;exact((Below.refl _ _).alloc (Nat.le_refl _) _).alloc (by simp) _
theorem Su(x:Int)(s:ByteArray)(w:World)(hz:x=0->¬ s.toList=[])(h:¬ Fd x s):
  Calls Tryz.prog 112 #[.agg #[.int .i64 x,.string s]] w fun e w'=>e= .returned (.tuple #[.agg (IV .u8 (zl 128)),.int .i64 63])/\Below w.heap.size w w':=by
 have H:=zA h;clear h;by_cases hx:x=0
 ·subst hx;have hs:=hz rfl;clear hz;go_enter Tryz.func112,Tryz.ntmps112;go_wp2_with fail;refine(E4 _ _ _ _ (by omega)).mono ?_;rintro e w' ⟨rfl,rfl⟩;go_wp2_with fail;refine Aw Cq rfl (cs:=IV .u8 (zl 128)) rfl (Bc _ _ _ (by simp)) (by simp) rfl ⟨rfl,?_⟩;exact((Below.refl _ _).alloc (Nat.le_refl _) _).alloc (by simp) _
 ·clear hz;go_enter Tryz.func112,Tryz.ntmps112;go_wp2_with fail;refine(Jf _ _ _ _).mono ?_;rintro e w' ⟨rfl,rfl⟩;cases h1:decide (1<=x/\x<=512)
  ·go_wp2_with fail;refine Aw Cq rfl (cs:=IV .u8 (zl 128)) rfl (Bc _ _ _ (by simp)) (by simp) rfl ⟨rfl,?_⟩;exact((Below.refl _ _).alloc (Nat.le_refl _) _).alloc (by simp) _
  ·go_wp2_with fail;refine(Om _ _).mono ?_;rintro e w1 ⟨rfl,hb1⟩;rw[decide_eq_false (fun h=>H.out ⟨of_decide_eq_true h1,h⟩)];have hb:=Ad (((Below.refl w.heap.size w).alloc (Nat.le_refl _) _).alloc (by simp) _) hb1 (by simp;omega);obtain⟨f1,z1⟩:=hop hb1 (k:=w.heap.size+1) (o:= .cells (IV .u8 (zl 128)) 47) (by simp[go_sem]);clear hb1;go_wp2_with fail;refine Aw Cq rfl (cs:=IV .u8 (zl 128)) rfl (Ar _ _ _ _ _ _ f1) (by simp) rfl ⟨rfl,?_⟩;exact Ag hb (by omega) _
theorem Sv(x:Int)(s:ByteArray)(w:World)(h:Fd x s):
  Calls Tryz.prog 112 #[.agg #[.int .i64 x,.string s]] w fun e w'=>e= .returned (.tuple #[.agg (IV .u8 (Cu x s)),.int .i64 0])/\Below w.heap.size w w':=by
 have hcv:=fun w=>Lib.run_convert_string_bytes (P:=Tryz.prog) w 9 42 5 s Tryz.underlying9 Tryz.underlying42 Tryz.underlying5
 obtain⟨s1,s40⟩:=h.size;have H:=zA h;obtain⟨⟨x1,x2⟩,hn⟩:=h;have hx:¬ x=0:=by omega
 clear hn;go_enter Tryz.func112,Tryz.ntmps112;go_wp2_with fail;refine(Ce _ _ _ _ (by omega)).mono ?_;rintro e w' ⟨rfl,rfl⟩;go_wp2_with fail;refine(Om _ _).mono ?_;rintro e w1 ⟨rfl,hb1⟩;rw[decide_eq_true H.out.2];have hb:=Ad (((Below.refl w.heap.size w).alloc (Nat.le_refl _) _).alloc (by simp) _) hb1 (by simp;omega);obtain⟨f0,z0⟩:=hop hb1 (k:=w.heap.size) (o:= .cells #[.int .i64 x,.string s] 125) (by simp[go_sem]);obtain⟨f1,z1⟩:=hop hb1 (k:=w.heap.size+1) (o:= .cells (IV .u8 (zl 128)) 47) (by simp[go_sem]);clear hb1;go_wp2_with fail;obtain⟨fr,fb⟩:=gN w1 5 s
 have hsp:=V4 (zl 128) (nmL s) (by simp) 5 w1.heap.size (grownCap w1 s.size 0 5) 5 fr (nmL s++List.replicate (grownCap w1 s.size 0 5-s.size) 0) (Lib.bytesWorld w1 5 s) fb
  (fun j hj=>by rw[List.getElem?_append_left hj]) (by simp;omega) (by simp;omega)
 rw[Iz]at hsp;refine hsp.mono ?_;rintro e w2 ⟨rfl,hb2⟩;clear hsp fb;have hb:=Ad (X1 hb (by omega) 5 s) hb2 (by rw[Lib.bytesWorld_size];omega);obtain⟨f0,z0⟩:=hop hb2 (My w1 5 s f0).1;obtain⟨f1,z1⟩:=hop hb2 (My w1 5 s f1).1;clear hb2;have hpl:(putL (zl 128) 5 (nmL s)).length=128:=by rw[Hp _ _ _ (by simp;omega)];simp
 go_wp2_with fail;have hb:=As hb (by omega) (.cells (IV .u8 (putL (zl 128) 5 (nmL s))) 47);obtain⟨f0,z0⟩:=B7 w2 (.cells (IV .u8 (putL (zl 128) 5 (nmL s))) 47) f0;obtain⟨f1,z1⟩:=B7 w2 (.cells (IV .u8 (putL (zl 128) 5 (nmL s))) 47) f1;obtain⟨f4,z4⟩:=A6 w2 (.cells (IV .u8 (putL (zl 128) 5 (nmL s))) 47);generalize w2.alloc (.cells (IV .u8 (putL (zl 128) 5 (nmL s))) 47)=w3 at*;generalize w2.heap.size=g4 at*
 refine Ba (by kernel_rfl) 8 (by decide) rfl (fun i=>match i with
  |0=> .agg (IV .u8 (putL (zl 128) 5 (nmL s)))|1=> .pointer (some ⟨w.heap.size,0,none⟩)|2=> .int .i64 x|3=> .agg (IV .u8 (setB (putL (zl 128) 5 (nmL s)) 0 4 x))
  |4=> .pointer (some ⟨w.heap.size,1,none⟩)|5=> .string s|6=> .int .i64 s.size|_=> .agg (IV .u8 (Cu x s))) ?_ ?_
 ·intro i o hi ho a' w' hB hS hF;have hi':i=0\/i=1\/i=2\/i=3\/i=4\/i=5\/i=6\/i=7:=(by omega);rcases hi' with rfl|rfl|rfl|rfl|rfl|rfl|rfl|rfl
  all_goals (have ho':=Option.some.inj ho;subst ho')
  ·exact Bp 47 128 Cq (.tmp 4) rfl rfl rfl g4 _ ((hS 4 (by decide)).trans rfl) ((A7 hB z4).trans f4) (by simp[hpl]) ⟨rfl,hB⟩
  ·have e1:gt a' 1= .pointer (some ⟨w.heap.size,0,none⟩):=(hS 1 (by decide)).trans rfl;unfold gt at e1;refine Ae rfl rfl (v:= .pointer (some ⟨w.heap.size,0,none⟩)) (w1:=w') ?_ ⟨rfl,hB⟩;simp[go_sem,e1]
  ·have e:=hF 1 (by decide) _ 30 rfl rfl;exact Bu 3 K4 (.tmp 30) rfl rfl rfl w.heap.size 0 _ _ e ((A7 hB (Aa f0)).trans f0) rfl ⟨rfl,hB⟩
  ·have e0:=hF 0 (by decide) _ 29 rfl rfl;have e2:=hF 2 (by decide) _ 31 rfl rfl;unfold gt at e0 e2;refine Bn (f:=107) (args:= #[.agg (IV .u8 (putL (zl 128) 5 (nmL s))),.int .i64 0,.int .i64 4,.int .i64 x]) rfl rfl (by simp[go_sem,e0,e2]) (Py _ hpl 0 4 x w' (by omega) (by omega) (by omega) (by omega) (by omega) (by omega)) ?_;rintro e w'' ⟨rfl,hb'⟩;exact⟨_,rfl,rfl,Ad hB hb' hB.size⟩
  ·have e1:gt a' 1= .pointer (some ⟨w.heap.size,0,none⟩):=(hS 1 (by decide)).trans rfl;unfold gt at e1;refine Ae rfl rfl (v:= .pointer (some ⟨w.heap.size,1,none⟩)) (w1:=w') ?_ ⟨rfl,hB⟩;simp[go_sem,e1]
  ·have e:=hF 4 (by decide) _ 33 rfl rfl;exact Bu 9 cells (.tmp 33) rfl rfl rfl w.heap.size 1 _ _ e ((A7 hB (Aa f0)).trans f0) rfl ⟨rfl,hB⟩
  ·have e:=hF 5 (by decide) _ 34 rfl rfl;unfold gt at e;refine Ae rfl rfl (v:= .int .i64 s.size) (w1:=w') ?_ ⟨rfl,hB⟩;simp[go_sem,e]
  ·have e0:=hF 3 (by decide) _ 32 rfl rfl;have e2:=hF 6 (by decide) _ 35 rfl rfl;unfold gt at e0 e2;refine Bn (f:=107) (args:= #[.agg (IV .u8 (setB (putL (zl 128) 5 (nmL s)) 0 4 x)),.int .i64 4,.int .i64 1,.int .i64 s.size]) rfl rfl (by simp[go_sem,e0,e2]) (Py _ (by simp[hpl]) 4 1 s.size w' (by omega) (by omega) (by omega) (by omega) (by omega) (by omega)) ?_;rintro e w'' ⟨rfl,hb'⟩;exact⟨_,rfl,rfl,Ad hB hb' hB.size⟩
 ·intro w' hB;obtain⟨f1,z1⟩:=hop hB f1;have hb:=Ad hb hB (by omega);have hsl:(Cu x s).length=128:=(by simp[Cu,hpl]);clear hB f0 f4 hpl;simp only[Bi,List.take,List.drop,List.take_succ_cons,List.drop_succ_cons];go_wp2_with fail;refine Aw Cq rfl (cs:=IV .u8 (Cu x s)) rfl (Ar _ _ _ _ _ _ f1) (by simp[hsl]) rfl ⟨rfl,?_⟩;exact Ag hb (by omega) _
def N0(x:Int)(s:ByteArray):Nat->List Int
 |0=>setB (setB (zl 128) 0 4 x) 4 1 s.size
 |k+1=>(N0 x s k).set (5+k) (nth (nmL s) k)
@[go_sem,simp] theorem sO (x:Int) (s:ByteArray) (k:Nat):(N0 x s k).length=128:=by
 induction k with
 |zero=>simp[N0]
 |succ k ih=>simp[N0,ih]
theorem S9(s bs:List Int)(a j:Nat)(h:a+bs.length<=s.length):nth (putL s a bs) j=if a<=j/\j<a+bs.length then nth bs (j-a)else nth s j:=by
 unfold nth putL;rw[List.getElem?_append,List.getElem?_append,List.length_take,List.getElem?_take,List.getElem?_drop,Nat.min_eq_left (by omega)];by_cases h1:j<a
 ·rw[if_pos h1,if_pos h1,if_neg (by omega)]
 ·rw[if_neg h1];by_cases h2:j-a<bs.length
  ·rw[if_pos h2,if_pos (by omega)]
  ·rw[if_neg h2,if_neg (by omega),show a+bs.length+(j-a-bs.length)=j by omega]
theorem nJ(x:Int)(s:ByteArray)(k j:Nat)(hk:k<=40):nth (N0 x s k) j=if 5<=j/\j<5+k then nth (nmL s) (j-5)else nth (setB (setB (zl 128) 0 4 x) 4 1 s.size) j:=by
 induction k with
 |zero=>simp only[N0];rw[if_neg (by omega)]
 |succ k ih=>
  simp only[N0];rw[W4 (by simp;omega),ih (by omega)];by_cases h:j=5+k
  ·rw[if_pos h,if_pos (by omega),h,show 5+k-5=k by omega]
  ·rw[if_neg h];by_cases h2:5<=j/\j<5+k
   ·rw[if_pos h2,if_pos (by omega)]
   ·rw[if_neg h2,if_neg (by omega)]
theorem nI(x:Int)(s:ByteArray)(hs:s.size<=40):N0 x s s.size=Cu x s:=by
 have hpl:(putL (zl 128) 5 (nmL s)).length=128:=by rw[Hp _ _ _ (by simp;omega)];simp
 refine Km (by simp[Cu,hpl]) (fun j hj=>?_);rw[nJ x s _ j hs,Eb (setB (zl 128) 0 4 x) 4 1 _ (by simp),Eb (zl 128) 0 4 x (by simp)];unfold Cu;rw[Eb (setB (putL (zl 128) 5 (nmL s)) 0 4 x) 4 1 _ (by simp[hpl]),Eb (putL (zl 128) 5 (nmL s)) 0 4 x (by simp[hpl]),S9 _ _ _ _ (by simp;omega),Iz];by_cases h1:4<=j/\j<4+1
 ·rw[if_neg (by omega),if_pos h1,if_pos h1]
 ·rw[if_neg h1,if_neg h1];by_cases h2:0<=j/\j<0+4
  ·rw[if_neg (by omega),if_pos h2,if_pos h2]
  ·rw[if_neg h2,if_neg h2]
theorem P0(s:ByteArray)(w:World)(hs:s.toList=[]):
  Calls Tryz.prog 115 #[.agg #[.int .i64 0,.string s]] w fun e w'=>e= .returned (.tuple #[.agg (IV .u8 (zl 128)),.int .i64 0])/\Below w.heap.size w w':=by
 go_enter Tryz.func115,Tryz.ntmps115;go_wp2_with fail;refine Aw Cq rfl (cs:=IV .u8 (zl 128)) rfl (by simp[go_sem]) (by simp) rfl ⟨rfl,?_⟩;exact(((Below.refl _ _).alloc (Nat.le_refl _) _).alloc (by simp) _).alloc (by simp;omega) _
theorem Tx(x:Int)(s:ByteArray)(w:World)(hz:x=0->¬ s.toList=[])(h:¬ Fd x s)(hss:s.size<4611686018427387904):
  Calls Tryz.prog 115 #[.agg #[.int .i64 x,.string s]] w fun e w'=>e= .returned (.tuple #[.agg (IV .u8 (zl 128)),.int .i64 63])/\Below w.heap.size w w':=by
 have H:=zA h;clear h;by_cases hx:x=0
 ·subst hx;have hs:=hz rfl;have hs1:s.toList.isEmpty=false:=by
   cases h:s.toList with
   |nil=>exact absurd h hs
   |cons _ _=>rfl
  have hs2:(s.toList==[])=false:=beq_eq_false_iff_ne.2 hs;clear hz;go_enter Tryz.func115,Tryz.ntmps115;go_wp2_with fail;refine(Hq _ _ _ _).mono ?_;rintro e w' ⟨rfl,rfl⟩;go_wp2_with fail;refine Aw Cq rfl (cs:=IV .u8 (zl 128)) rfl (by simp[go_sem]) (by simp) rfl ⟨rfl,?_⟩;exact(((Below.refl _ _).alloc (Nat.le_refl _) _).alloc (by simp) _).alloc (by simp;omega) _
 ·clear hz;go_enter Tryz.func115,Tryz.ntmps115;go_wp2_with fail;refine(Hq _ _ _ _).mono ?_;rintro e w' ⟨rfl,rfl⟩;cases h1:decide (1<=x/\x<=512)
  ·go_wp2_with fail;refine Aw Cq rfl (cs:=IV .u8 (zl 128)) rfl (by simp[go_sem]) (by simp) rfl ⟨rfl,?_⟩;exact(((Below.refl _ _).alloc (Nat.le_refl _) _).alloc (by simp) _).alloc (by simp;omega) _
  ·go_wp2_with fail;refine(Qv _ _ hss).mono ?_;rintro e w1 ⟨rfl,hw⟩;rw[hw,decide_eq_false (fun h=>H.out ⟨of_decide_eq_true h1,h⟩)];go_wp2_with fail;refine Aw Cq rfl (cs:=IV .u8 (zl 128)) rfl (by simp[go_sem]) (by simp) rfl ⟨rfl,?_⟩;exact(((Below.refl _ _).alloc (Nat.le_refl _) _).alloc (by simp) _).alloc (by simp;omega) _
theorem Ty(x:Int)(s:ByteArray)(w:World)(h:Fd x s):
  Calls Tryz.prog 115 #[.agg #[.int .i64 x,.string s]] w fun e w'=>e= .returned (.tuple #[.agg (IV .u8 (Cu x s)),.int .i64 0])/\Below w.heap.size w w':=by
 obtain⟨s1,s40⟩:=h.size;have H:=zA h;obtain⟨⟨x1,x2⟩,hn⟩:=h;have hx:¬ x=0:=by omega
 clear hn;go_enter Tryz.func115,Tryz.ntmps115;go_wp2_with fail;refine(A5 _ _ _ _ (by omega)).mono ?_;rintro e w' ⟨rfl,rfl⟩;go_wp2_with fail;refine(Qv _ _ (by omega)).mono ?_;rintro e w1 ⟨rfl,hw⟩;rw[hw,decide_eq_true H.out.2];have hb:=(((Below.refl w.heap.size w).alloc (Nat.le_refl _) (.cells #[.int .i64 x,.string s] 125)).alloc (by simp) (.cells (IV .u8 (zl 128)) 47)).alloc (by simp;omega) (.cells (IV .u8 (zl 128)) 47);have f0:hat (((w.alloc (.cells #[.int .i64 x,.string s] 125)).alloc (.cells (IV .u8 (zl 128)) 47)).alloc (.cells (IV .u8 (zl 128)) 47)) w.heap.size=some (.cells #[.int .i64 x,.string s] 125):=by simp[go_sem]
 have f1:hat (((w.alloc (.cells #[.int .i64 x,.string s] 125)).alloc (.cells (IV .u8 (zl 128)) 47)).alloc (.cells (IV .u8 (zl 128)) 47)) (w.heap.size+1)=some (.cells (IV .u8 (zl 128)) 47):=by simp[go_sem]
 have f4:hat (((w.alloc (.cells #[.int .i64 x,.string s] 125)).alloc (.cells (IV .u8 (zl 128)) 47)).alloc (.cells (IV .u8 (zl 128)) 47)) (w.heap.size+1+1)=some (.cells (IV .u8 (zl 128)) 47):=by simp[go_sem]
 go_wp2_with fail;refine(H7 (zl 128) (by simp) 0 4 x _ (by omega) (by omega) (by omega) (by omega)).mono ?_;rintro e w3 ⟨rfl,hb3⟩;have hb:=Ad hb hb3 hb.size;obtain⟨f0,z0⟩:=hop hb3 f0;obtain⟨f1,z1⟩:=hop hb3 f1;obtain⟨f4,z4⟩:=hop hb3 f4;clear hb3;go_wp2_with fail;obtain⟨f0,z0⟩:=Gm f0 (w.heap.size+1+1) (IV .u8 (setB (zl 128) 0 4 x)) (by omega);obtain⟨f1,z1⟩:=Gm f1 (w.heap.size+1+1) (IV .u8 (setB (zl 128) 0 4 x)) (by omega);obtain⟨f4,z4⟩:=Ed f4 (IV .u8 (setB (zl 128) 0 4 x));have hb:=Ag hb (g:=w.heap.size+1+1) (by omega) (IV .u8 (setB (zl 128) 0 4 x));generalize w3.setRow (w.heap.size+1+1) (IV .u8 (setB (zl 128) 0 4 x))=w4 at*;refine(H7 (setB (zl 128) 0 4 x) (by simp) 4 1 s.size _ (by omega) (by omega) (by omega) (by omega)).mono ?_;rintro e w5 ⟨rfl,hb3⟩;have hb:=Ad hb hb3 hb.size;obtain⟨f0,z0⟩:=hop hb3 f0;obtain⟨f1,z1⟩:=hop hb3 f1;obtain⟨f4,z4⟩:=hop hb3 f4;clear hb3;have HA:=zA (nI x s s40);go_wp2_with fail;obtain⟨f0,z0⟩:=Gm f0 (w.heap.size+1+1) (IV .u8 (N0 x s 0)) (by omega);obtain⟨f1,z1⟩:=Gm f1 (w.heap.size+1+1) (IV .u8 (N0 x s 0)) (by omega);obtain⟨f4,z4⟩:=Ed f4 (IV .u8 (N0 x s 0));have hb:=Ag hb (g:=w.heap.size+1+1) (by omega) (IV .u8 (N0 x s 0))
 go_loopw [5] (fun i wr=>∃ k:Nat,k<=s.size/\i= .int .i64 k/\hat wr w.heap.size=some (.cells #[.int .i64 x,.string s] 125)/\hat wr (w.heap.size+1)=some (.cells (IV .u8 (zl 128)) 47)
   /\hat wr (w.heap.size+1+1)=some (.cells (IV .u8 (N0 x s k)) 47)/\Below w.heap.size w wr) (fun i _=>s.size-(intOf i).toNat)
 case atStart=>exact⟨0,by omega,rfl,f0,f1,f4,hb⟩
 case round=>
  clear f0 f1 f4 hb;obtain⟨k,hk,rfl,f0,f1,f4,hb⟩:=hrel;have z0:=Aa f0;have z1:=Aa f1;have z4:=Aa f4;by_cases hkw:k<s.size
  ·have HN:=zA (qS s k hkw);obtain⟨y,hy⟩:∃ y:UInt8,s[k]'hkw=y:=⟨_,rfl⟩;have gi:∀ w,(Instr.index 9 (.string s) (.int .i64 k)).run Tryz.prog w= .ok (.int .u8 y.toNat) w:=fun w=>by
    rw[run_index_string w 9 s .i64 k Tryz.underlying9,dif_pos ⟨by omega,by omega⟩];show Result.ok (Value.int .u8 (s[k]'hkw).toNat) w=_
    rw[hy]
   rw[hy]at HN;clear hy;have h5:5+k<128:=(by omega);have h5':(5:Int)+k<128:=(by omega);go_wp2_with fail;go_roundw
   case rel=>
    refine⟨k+1,by omega,by go_num,(Ib f0 _ _ _ (by omega)).1,(Ib f1 _ _ _ (by omega)).1,?_,hb.setCell (by simp;omega) _⟩;simp only[N0];rw[HN.out];exact(lN f4 _ _).1
   case measure=>(show s.size-(k+1)<s.size-k);omega
  ·obtain rfl:k=s.size:=(by omega);go_wp2_with fail;exact Aw Cq rfl (cs:=IV .u8 (N0 x s s.size)) rfl (Ar _ _ _ _ _ _ f1) (by simp) rfl ⟨by rw[HA.out];rfl,Ag hb (by omega) _⟩
theorem Ub(x:Int)(s:ByteArray)(h:s.size<=40):(Cu x s).length=128:=by
 have hpl:(putL (zl 128) 5 (nmL s)).length=128:=by rw[Hp _ _ _ (by simp;omega)];simp
 simp[Cu,hpl]
@[go_sem,simp] theorem Ij (x:Int) (s:ByteArray):(Cv x s).1.length=128:=by
 unfold Cv;split
 ·simp
 ·split
  ·rename_i h;exact Ub x s h.size.2
  ·simp
theorem K8(x:Int)(s:ByteArray)(w:World):
  Calls Tryz.prog 112 #[.agg #[.int .i64 x,.string s]] w fun e w'=>e= .returned (Gl x s)/\Below w.heap.size w w':=by
 by_cases hz:x=0/\s.toList=[]
 ·obtain⟨rfl,hs⟩:=hz;have e:Cv 0 s=(zl 128,0):=(by unfold Cv;rw[if_pos ⟨rfl,hs⟩]);unfold Gl;rw[e];exact Pr s w hs
 ·by_cases h:Fd x s
  ·have e:Cv x s=(Cu x s,0):=(by unfold Cv;rw[if_neg hz,if_pos h]);unfold Gl;rw[e];exact Sv x s w h
  ·have e:Cv x s=(zl 128,63):=(by unfold Cv;rw[if_neg hz,if_neg h]);unfold Gl;rw[e];exact Su x s w (fun h1 h2=>hz ⟨h1,h2⟩) h
theorem Lb(x:Int)(s:ByteArray)(w:World)(hss:s.size<4611686018427387904):
  Calls Tryz.prog 115 #[.agg #[.int .i64 x,.string s]] w fun e w'=>e= .returned (Gl x s)/\Below w.heap.size w w':=by
 by_cases hz:x=0/\s.toList=[]
 ·obtain⟨rfl,hs⟩:=hz;have e:Cv 0 s=(zl 128,0):=(by unfold Cv;rw[if_pos ⟨rfl,hs⟩]);unfold Gl;rw[e];exact P0 s w hs
 ·by_cases h:Fd x s
  ·have e:Cv x s=(Cu x s,0):=(by unfold Cv;rw[if_neg hz,if_pos h]);unfold Gl;rw[e];exact Ty x s w h
  ·have e:Cv x s=(zl 128,63):=(by unfold Cv;rw[if_neg hz,if_neg h]);unfold Gl;rw[e];exact Tx x s w (fun h1 h2=>hz ⟨h1,h2⟩) h hss
def I2(s:List Int)(n:Nat):List UInt8:=(List.range n).map fun i=>UInt8.ofNat (nth s (5+i)).toNat
@[simp] theorem Kp (s:List Int) (n:Nat):(I2 s n).length=n:=by simp[I2]
def Mv(s:List Int):ByteArray:=if nth s 4<=40 then⟨(I2 s (nth s 4).toNat).toArray⟩else⟨#[]⟩
def Dl(s:List Int):Value:=
 if Cv (Ak s 0 4) (Mv s)=(s,0)then .tuple #[.agg #[.int .i64 (Ak s 0 4),.string (Mv s)],.int .i64 0]
 else .tuple #[.agg #[.int .i64 0,.string {data:= #[]}],.int .i64 63]
theorem eT{x:Int}(h0:0<=x)(h1:x<256):((UInt8.ofNat x.toNat).toNat:Int)=x:=by
 simp;omega
theorem Uw(s:List Int)(hs:s.length=128)(hb:A4 s)(w:World):
  Calls Tryz.prog 86 #[.agg (IV .u8 s)] w fun e w'=>e= .returned (Dl s)/\Below w.heap.size w w':=by
 have HBY:=zA hb;obtain⟨n0,n1⟩:=hb.at 4;have g41:Ej s 4 1=nth s 4:=by
  have h:=Fu hb 1 4;have e:Ak s 4 1=nth s 4:=(by simp[Ak]);rw[Ej,if_neg (by omega),e]
 have G41:=zA g41;have hx0:=Dv hb 4 0;have hx1:Ak s 0 4<4294967296:=Fu hb 4 0;clear hb g41;go_enter Tryz.func86,Tryz.ntmps86;have hbw:=((Below.refl w.heap.size w).alloc (Nat.le_refl _) (.cells (IV .u8 s) 47)).alloc (by simp) (.cells #[.int .i64 0,.string {data:= #[]}] 125);have f1:hat ((w.alloc (.cells (IV .u8 s) 47)).alloc (.cells #[.int .i64 0,.string {data:= #[]}] 125)) w.heap.size=some (.cells (IV .u8 s) 47):=by simp[go_sem]
 have f2:hat ((w.alloc (.cells (IV .u8 s) 47)).alloc (.cells #[.int .i64 0,.string {data:= #[]}] 125)) (w.heap.size+1)=some (.cells #[.int .i64 0,.string {data:= #[]}] 125):=by simp[go_sem]
 go_wp2_with fail;refine(dX s hs HBY.out 0 _ (by omega)).mono ?_;rintro e w3 ⟨rfl,hb3⟩;have hbw:=Ad hbw hb3 hbw.size;obtain⟨f1,z1⟩:=hop hb3 f1;obtain⟨f2,z2⟩:=hop hb3 f2;clear hb3;go_wp2_with fail;have hbw:=As hbw (by omega) (.cells #[.int .i64 (Ak s 0 4),.string {data:= #[]}] 125);obtain⟨f1,z1⟩:=B7 w3 (.cells #[.int .i64 (Ak s 0 4),.string {data:= #[]}] 125) f1;obtain⟨f2,z2⟩:=B7 w3 (.cells #[.int .i64 (Ak s 0 4),.string {data:= #[]}] 125) f2;obtain⟨f4,z4⟩:=A6 w3 (.cells #[.int .i64 (Ak s 0 4),.string {data:= #[]}] 125);generalize w3.alloc (.cells #[.int .i64 (Ak s 0 4),.string {data:= #[]}] 125)=w4 at*;have hg4:w.heap.size+1<w3.heap.size:=by omega
 generalize w3.heap.size=g4 at*;refine(Sl s hs HBY.out 4 1 _ (by omega) (by omega) (by omega)).mono ?_;rintro e w5 ⟨rfl,hb3⟩;rw[G41.out];have hbw:=Ad hbw hb3 hbw.size;obtain⟨f1,z1⟩:=hop hb3 f1;obtain⟨f2,z2⟩:=hop hb3 f2;obtain⟨f4,z4⟩:=hop hb3 f4;clear hb3;obtain⟨n,hn⟩:∃ n:Nat,nth s 4=n:=⟨(nth s 4).toNat,by omega⟩;have HNN:=zA hn;rw[hn]at n0 n1 ⊢;clear hn;by_cases h40:n<=40
 ·have h40':(n:Int)<=40:=(by omega);have h128:5+(n:Int)<=128:=(by omega);have hsl:∀ w',(Instr.sliceAt 47 (.pointer (some ⟨w.heap.size,0,none⟩)) (some (.int .i64 5)) (some (.int .i64 (5+(n:Int)))) none).run Tryz.prog w'= .ok (.slice (some ⟨w.heap.size,5,none⟩) n 123) w':=fun w'=>by
   rw[eM w.heap.size 0 5 (5+n) (by omega) (by omega) (by omega) h128 w'];rw[show((5:Int)+(n:Int)).toNat-(5:Int).toNat=n by omega];rfl
  have hcv:(convert 42 9 (.slice (some ⟨w.heap.size,5,none⟩) n 123)).run Tryz.prog w5= .ok (.string ⟨(I2 s n).toArray⟩) w5:=by
   have h:=run_convert_bytes_back (P:=Tryz.prog) w5 42 9 5 ⟨w.heap.size,5,none⟩ 123 (I2 s n) Tryz.underlying42 Tryz.underlying5 Tryz.underlying9 (fun j hj=>by
    have hadd:(⟨w.heap.size,5,none⟩:Addr).add j=⟨w.heap.size,5+j,none⟩:=(by unfold Addr.add;split<;>simp_all);have hj':j<n:=(by simpa using hj);obtain⟨b0,b1⟩:=HBY.out.at (5+j);rw[hadd,Bs f1,Lj _ _ _ (by omega)];simp only[I2,List.getElem_map,List.getElem_range];rw[eT b0 b1])
   rw[Kp]at h;exact h
  generalize hnm:(⟨(I2 s n).toArray⟩:ByteArray)=nm at*;go_wp2_with fail;obtain⟨f1,z1⟩:=Ib f1 g4 1 (.string nm) (by omega);obtain⟨f2,z2⟩:=Ib f2 g4 1 (.string nm) (by omega);have f4:hat (w5.setCell ⟨g4,1,none⟩ (.string nm)) g4=some (.cells #[.int .i64 (Ak s 0 4),.string nm] 125):=(by rw[Ah _ _ _ _ _ _ _ f4];rfl);have hbw:Below w.heap.size w (w5.setCell ⟨g4,1,none⟩ (.string nm)):=hbw.setCell (by simp;omega) _;generalize w5.setCell ⟨g4,1,none⟩ (.string nm)=w7 at*;refine(K8 (Ak s 0 4) nm _).mono ?_;rintro e w6 ⟨rfl,hb3⟩;have hbw:=Ad hbw hb3 hbw.size;obtain⟨f1,z1⟩:=hop hb3 f1;obtain⟨f2,z2⟩:=hop hb3 f2;obtain⟨f4,z4⟩:=hop hb3 f4;clear hb3;have HNM:=zA (show Mv s=nm from by unfold Mv;rw[HNN.out,if_pos h40',Int.toNat_natCast];exact hnm);by_cases he:Cv (Ak s 0 4) nm=(s,0)
  ·have hd:Dl s= .tuple #[.agg #[.int .i64 (Ak s 0 4),.string nm],.int .i64 0]:=(by unfold Dl;rw[HNM.out,if_pos he]);have HD:=zA hd;rw[show Gl (Ak s 0 4) nm= .tuple #[.agg (IV .u8 s),.int .i64 0]from by unfold Gl;rw[he]];clear he hd;go_wp2_with fail;exact Aw Ia rfl (cs:= #[.int .i64 (Ak s 0 4),.string nm]) rfl (B7 _ _ (Ed f2 #[.int .i64 (Ak s 0 4),.string nm]).1).1 rfl rfl ⟨by rw[HD.out];rfl,As (Ag hbw (by omega) _) (by simp;omega) _⟩
  ·have hd:Dl s= .tuple #[.agg #[.int .i64 0,.string {data:= #[]}],.int .i64 63]:=(by unfold Dl;rw[HNM.out,if_neg he]);have HD:=zA hd;have hrl:(Cv (Ak s 0 4) nm).1.length=128:=Ij _ _;unfold Gl;clear hd HNM;generalize Cv (Ak s 0 4) nm=rr at*;obtain⟨r1,r2⟩:=rr;simp only[]at hrl ⊢;by_cases h2:r2=0
   ·subst h2;have hne:¬ r1=s:=fun h=>he (by rw[h])
    clear he;go_wp2_with fail;exact Aw Ia rfl (cs:= #[.int .i64 0,.string {data:= #[]}]) rfl (B7 _ _ (Ed f2 #[.int .i64 0,.string {data:= #[]}]).1).1 rfl rfl ⟨by rw[HD.out];rfl,As (Ag hbw (by omega) _) (by simp;omega) _⟩
   ·have h2':(r2==0)=false:=beq_eq_false_iff_ne.2 h2;clear he;go_wp2_with fail;exact Aw Ia rfl (cs:= #[.int .i64 0,.string {data:= #[]}]) rfl (B7 _ _ (Ed f2 #[.int .i64 0,.string {data:= #[]}]).1).1 rfl rfl ⟨by rw[HD.out];rfl,As (Ag hbw (by omega) _) (by simp;omega) _⟩
 ·have h40':decide ((n:Int)<=40)=false:=(by simp;omega);go_wp2_with fail;refine(K8 (Ak s 0 4) {data:= #[]} _).mono ?_;rintro e w6 ⟨rfl,hb3⟩;have hbw:=Ad hbw hb3 hbw.size;obtain⟨f1,z1⟩:=hop hb3 f1;obtain⟨f2,z2⟩:=hop hb3 f2;obtain⟨f4,z4⟩:=hop hb3 f4;clear hb3;have HNM:=zA (show Mv s={data:= #[]}from by unfold Mv;rw[HNN.out,if_neg (by omega)]);by_cases he:Cv (Ak s 0 4) {data:= #[]}=(s,0)
  ·have hd:Dl s= .tuple #[.agg #[.int .i64 (Ak s 0 4),.string {data:= #[]}],.int .i64 0]:=(by unfold Dl;rw[HNM.out,if_pos he]);have HD:=zA hd;rw[show Gl (Ak s 0 4) {data:= #[]}= .tuple #[.agg (IV .u8 s),.int .i64 0]from by unfold Gl;rw[he]];clear he hd;go_wp2_with fail;exact Aw Ia rfl (cs:= #[.int .i64 (Ak s 0 4),.string {data:= #[]}]) rfl (B7 _ _ (Ed f2 #[.int .i64 (Ak s 0 4),.string {data:= #[]}]).1).1 rfl rfl ⟨by rw[HD.out];rfl,As (Ag hbw (by omega) _) (by simp;omega) _⟩
  ·have hd:Dl s= .tuple #[.agg #[.int .i64 0,.string {data:= #[]}],.int .i64 63]:=(by unfold Dl;rw[HNM.out,if_neg he]);have HD:=zA hd;have hrl:(Cv (Ak s 0 4) {data:= #[]}).1.length=128:=Ij _ _;unfold Gl;clear hd HNM;generalize Cv (Ak s 0 4) {data:= #[]}=rr at*;obtain⟨r1,r2⟩:=rr;simp only[]at hrl ⊢;by_cases h2:r2=0
   ·subst h2;have hne:¬ r1=s:=fun h=>he (by rw[h])
    clear he;go_wp2_with fail;exact Aw Ia rfl (cs:= #[.int .i64 0,.string {data:= #[]}]) rfl (B7 _ _ (Ed f2 #[.int .i64 0,.string {data:= #[]}]).1).1 rfl rfl ⟨by rw[HD.out];rfl,As (Ag hbw (by omega) _) (by simp;omega) _⟩
   ·have h2':(r2==0)=false:=beq_eq_false_iff_ne.2 h2;clear he;go_wp2_with fail;exact Aw Ia rfl (cs:= #[.int .i64 0,.string {data:= #[]}]) rfl (B7 _ _ (Ed f2 #[.int .i64 0,.string {data:= #[]}]).1).1 rfl rfl ⟨by rw[HD.out];rfl,As (Ag hbw (by omega) _) (by simp;omega) _⟩
theorem Tryz.info5:(Tryz.prog.info? 5).map (fun i=>(i.zero,i.size,i.bytes))=some (some (.int .u8 0),1,1):=by kernel_rfl
def Zg(s:List Int)(k:Nat):List Value:=(List.range k).map fun j=> .int .u8 (nth s (5+j))
@[simp] theorem sM (s:List Int) (k:Nat):(Zg s k).length=k:=by simp[Zg]
theorem iW(s:List Int)(k:Nat):Zg s (k+1)=Zg s k++[.int .u8 (nth s (5+k))]:=by
 unfold Zg;rw[List.range_succ,List.map_append];rfl
theorem Hb{w:World}{base:Nat}{e:TypeId}{size:Nat}{v:Value}{n:Nat}{xs:List Value}(h:w.ownsRow base e size v n xs){k:Nat}(hk:k<base):v.ownBlock≠some k:=by
 obtain⟨-,h⟩:=h;rcases h with ⟨rfl,-⟩|⟨g,cap,cur,rfl,h1,-⟩
 ·intro h;cases h
 ·intro h;have:g=k:=(by simpa [Value.ownBlock]using h);omega
theorem Uz(s:List Int)(hs:s.length=128)(hb:A4 s)(w:World):
  Calls Tryz.prog 95 #[.agg (IV .u8 s)] w fun e w'=>e= .returned (Dl s)/\Below w.heap.size w w':=by
 have HBY:=zA hb;obtain⟨n0,n1⟩:=hb.at 4;have g41:Ak s 4 1=nth s 4:=by simp[Ak]
 have G41:=zA g41;have hx0:=Dv hb 4 0;have hx1:Ak s 0 4<4294967296:=Fu hb 4 0;clear hb g41;go_enter Tryz.func95,Tryz.ntmps95;have hbw:=((Below.refl w.heap.size w).alloc (Nat.le_refl _) (.cells (IV .u8 s) 47)).alloc (by simp) (.cells #[.int .i64 0,.string {data:= #[]}] 125);have f1:hat ((w.alloc (.cells (IV .u8 s) 47)).alloc (.cells #[.int .i64 0,.string {data:= #[]}] 125)) w.heap.size=some (.cells (IV .u8 s) 47):=by simp[go_sem]
 have f2:hat ((w.alloc (.cells (IV .u8 s) 47)).alloc (.cells #[.int .i64 0,.string {data:= #[]}] 125)) (w.heap.size+1)=some (.cells #[.int .i64 0,.string {data:= #[]}] 125):=by simp[go_sem]
 go_wp2_with fail;refine(F7 s hs HBY.out 0 4 _ (by omega) (by omega) (by omega)).mono ?_;rintro e w3 ⟨rfl,hb3⟩;have hbw:=Ad hbw hb3 hbw.size;obtain⟨f1,z1⟩:=hop hb3 f1;obtain⟨f2,z2⟩:=hop hb3 f2;clear hb3;go_wp2_with fail;have hbw:=As hbw (by omega) (.cells #[.int .i64 (Ak s 0 4),.string {data:= #[]}] 125);obtain⟨f1,z1⟩:=B7 w3 (.cells #[.int .i64 (Ak s 0 4),.string {data:= #[]}] 125) f1;obtain⟨f2,z2⟩:=B7 w3 (.cells #[.int .i64 (Ak s 0 4),.string {data:= #[]}] 125) f2;obtain⟨f4,z4⟩:=A6 w3 (.cells #[.int .i64 (Ak s 0 4),.string {data:= #[]}] 125);generalize w3.alloc (.cells #[.int .i64 (Ak s 0 4),.string {data:= #[]}] 125)=w4 at*;have hg4:w.heap.size+1<w3.heap.size:=by omega
 generalize w3.heap.size=g4 at*;refine(F7 s hs HBY.out 4 1 _ (by omega) (by omega) (by omega)).mono ?_;rintro e w5 ⟨rfl,hb3⟩;rw[G41.out];have hbw:=Ad hbw hb3 hbw.size;obtain⟨f1,z1⟩:=hop hb3 f1;obtain⟨f2,z2⟩:=hop hb3 f2;obtain⟨f4,z4⟩:=hop hb3 f4;clear hb3;obtain⟨n,hn⟩:∃ n:Nat,nth s 4=n:=⟨(nth s 4).toNat,by omega⟩;have HNN:=zA hn;rw[hn]at n0 n1 ⊢;clear hn;by_cases h40:n<=40
 ·have h40':(n:Int)<=40:=(by omega);obtain⟨i0,hi,hz0,hz1,hz2⟩:=info_parts Tryz.info5;go_wp2_with fail
  go_loopw [6,7] (fun v i wr=>∃ k:Nat,k<=n/\i= .int .i64 k/\wr.ownsRow w5.heap.size 5 1 v k (Zg s k)/\w5.heap.size<=wr.heap.size/\hat wr w.heap.size=some (.cells (IV .u8 s) 47)
   /\hat wr (w.heap.size+1)=some (.cells #[.int .i64 0,.string {data:= #[]}] 125)/\hat wr g4=some (.cells #[.int .i64 (Ak s 0 4),.string {data:= #[]}] 125)/\Below w.heap.size w wr) (fun _ i _=>n-(intOf i).toNat)
  case atStart=>exact⟨0,by omega,rfl,⟨by simp,.inl ⟨rfl,rfl⟩⟩,Nat.le_refl _,f1,f2,f4,hbw⟩
  case round=>
   have y1:=z1;have y2:=z2;have y4:=z4;clear f1 f2 f4 hbw z1 z2 z4;obtain⟨k,hk,rfl,hown,hsz,f1,f2,f4,hbw⟩:=hrel;have z1:=Aa f1;have z2:=Aa f2;have z4:=Aa f4;have HO:=zA hown;clear hown;by_cases hkn:k<n
   ·have hk5:5+k<128:=(by omega);have hk5':5+(k:Int)<128:=(by omega);have hkn':(k:Int)<n:=(by omega);go_wp2_with (at_builtin;refine wpList_append_own _ rfl (.tmp 22) (.tmp 27) 42 rfl w5.heap.size 5 i0 _ 1 1 Tryz.underlying42 hi hz0 hz1 hz2 rfl (by decide) u6 k (Zg s k) rfl (HO.out.alloc _) ⟨wr.heap.size,0,none⟩ 1 1 [.int .u8 (nth s (5+k))] rfl rfl ?c1 ?c2 ?c3 ?c4 ?c5 (fun v' w1 hown' hgrow _=>?_))
    case c1=>
     intro j u hj;have hj3:j<1:=by
      have:=(List.getElem?_eq_some_iff.1 hj).1;simpa using this
     have hadd:(⟨wr.heap.size,0,none⟩:Addr).add j=⟨wr.heap.size,j,none⟩:=(by unfold Addr.add;split<;>simp_all);rw[hadd,Bs (Bc _ _ _ rfl)];simpa using hj
    case c2=>
     intro u hu;simp at hu;subst hu;rfl
    case c3=>unfold maxLen;omega
    case c4=>omega
    case c5=>simp only[World.size_alloc];omega
    go_roundw
    case rel=>
     have hh:∀ {b:Nat} {o:Obj},b<w5.heap.size->hat wr b=some o->hat w1 b=some o:=fun {b o} hb h=>by
      show w1.heap[b]? =_
      rw[hgrow.block _ (by simp only[World.size_alloc];have:=Aa h;omega) (Ne.symm (Hb HO.out hb))];show hat _ _=_
      rw[A9 _ _ _ (Aa h),h]
     refine⟨k+1,by omega,by go_num,by rw[iW];exact hown',?_,hh y1 f1,hh y2 f2,hh y4 f4,?_⟩
     ·have h1:=hgrow.size;simp only[World.size_alloc]at h1;omega
     ·exact(hbw.alloc (by omega) _).grown hgrow (by simp only[World.size_alloc];omega) (fun k hk=>by
       have h1:¬ k<w5.heap.size:=fun h=>Hb HO.out h hk
       omega)
    case measure=>(show n-(k+1)<n-k);omega
   ·obtain rfl:k=n:=(by omega);have hcv:∃ nm:ByteArray,(⟨(I2 s k).toArray⟩:ByteArray)=nm/\nm.size<4611686018427387904/\(convert 42 9 u6).run Tryz.prog wr= .ok (.string nm) wr:=by
     obtain⟨-,h⟩:=HO.out;refine⟨_,rfl,?_,?_⟩
     ·show(I2 s k).toArray.size<_
      simp;omega
     ·rcases h with ⟨rfl,rfl⟩|⟨g,cap,cur,rfl,h1,h2,h3,h4,h5,h6⟩
      ·exact Lib.run_convert_nil_bytes wr 42 9 5 0 Tryz.underlying42 Tryz.underlying5 Tryz.underlying9
      ·have h:=run_convert_bytes_back (P:=Tryz.prog) wr 42 9 5 ⟨g,0,none⟩ cap (I2 s k) Tryz.underlying42 Tryz.underlying5 Tryz.underlying9 (fun j hj=>by
        have hadd:(⟨g,0,none⟩:Addr).add j=⟨g,j,none⟩:=(by unfold Addr.add;split<;>simp_all);have hj':j<k:=(by simpa using hj);obtain⟨b0,b1⟩:=HBY.out.at (5+j);rw[hadd,Bs h2];have e:(cur.toList.take (k*1))[j]? =some (.int .u8 (nth s (5+j))):=(by rw[h6];simp[Zg,hj']);rw[List.getElem?_take,if_pos (by omega)]at e;simp only[I2,List.getElem_map,List.getElem_range];rw[eT b0 b1];simpa using e)
       rw[Kp]at h;exact h
    obtain⟨nm,hnm,hnz,hcv⟩:=hcv;go_wp2_with fail;obtain⟨f1,z1⟩:=Ib f1 g4 1 (.string nm) (by omega);obtain⟨f2,z2⟩:=Ib f2 g4 1 (.string nm) (by omega);have f4:hat (wr.setCell ⟨g4,1,none⟩ (.string nm)) g4=some (.cells #[.int .i64 (Ak s 0 4),.string nm] 125):=(by rw[Ah _ _ _ _ _ _ _ f4];rfl);have hbw:Below w.heap.size w (wr.setCell ⟨g4,1,none⟩ (.string nm)):=hbw.setCell (by simp;omega) _;generalize wr.setCell ⟨g4,1,none⟩ (.string nm)=w7 at*;refine(Lb (Ak s 0 4) nm _ hnz).mono ?_;rintro e w6 ⟨rfl,hb3⟩;have hbw:=Ad hbw hb3 hbw.size;obtain⟨f1,z1⟩:=hop hb3 f1;obtain⟨f2,z2⟩:=hop hb3 f2;obtain⟨f4,z4⟩:=hop hb3 f4;clear hb3;have HNM:=zA (show Mv s=nm from by unfold Mv;rw[HNN.out,if_pos h40',Int.toNat_natCast];exact hnm);by_cases he:Cv (Ak s 0 4) nm=(s,0)
    ·have hd:Dl s= .tuple #[.agg #[.int .i64 (Ak s 0 4),.string nm],.int .i64 0]:=(by unfold Dl;rw[HNM.out,if_pos he]);have HD:=zA hd;rw[show Gl (Ak s 0 4) nm= .tuple #[.agg (IV .u8 s),.int .i64 0]from by unfold Gl;rw[he]];clear he hd;go_wp2_with fail;exact Aw Ia rfl (cs:= #[.int .i64 (Ak s 0 4),.string nm]) rfl (B7 _ _ (Ed f2 #[.int .i64 (Ak s 0 4),.string nm]).1).1 rfl rfl ⟨by rw[HD.out];rfl,As (Ag hbw (by omega) _) (by simp;omega) _⟩
    ·have hd:Dl s= .tuple #[.agg #[.int .i64 0,.string {data:= #[]}],.int .i64 63]:=(by unfold Dl;rw[HNM.out,if_neg he]);have HD:=zA hd;have hrl:(Cv (Ak s 0 4) nm).1.length=128:=Ij _ _;unfold Gl;clear hd HNM;generalize Cv (Ak s 0 4) nm=rr at*;obtain⟨r1,r2⟩:=rr;simp only[]at hrl ⊢;by_cases h2:r2=0
     ·subst h2;have hne:¬ r1=s:=fun h=>he (by rw[h])
      clear he;go_wp2_with fail;exact Aw Ia rfl (cs:= #[.int .i64 0,.string {data:= #[]}]) rfl (B7 _ _ (Ed f2 #[.int .i64 0,.string {data:= #[]}]).1).1 rfl rfl ⟨by rw[HD.out];rfl,As (Ag hbw (by omega) _) (by simp;omega) _⟩
     ·have h2':(r2==0)=false:=beq_eq_false_iff_ne.2 h2;clear he;go_wp2_with fail;exact Aw Ia rfl (cs:= #[.int .i64 0,.string {data:= #[]}]) rfl (B7 _ _ (Ed f2 #[.int .i64 0,.string {data:= #[]}]).1).1 rfl rfl ⟨by rw[HD.out];rfl,As (Ag hbw (by omega) _) (by simp;omega) _⟩
 ·have h40':decide ((n:Int)<=40)=false:=(by simp;omega);go_wp2_with fail;refine(Lb (Ak s 0 4) {data:= #[]} _ (by decide)).mono ?_;rintro e w6 ⟨rfl,hb3⟩;have hbw:=Ad hbw hb3 hbw.size;obtain⟨f1,z1⟩:=hop hb3 f1;obtain⟨f2,z2⟩:=hop hb3 f2;obtain⟨f4,z4⟩:=hop hb3 f4;clear hb3;have HNM:=zA (show Mv s={data:= #[]}from by unfold Mv;rw[HNN.out,if_neg (by omega)]);by_cases he:Cv (Ak s 0 4) {data:= #[]}=(s,0)
  ·have hd:Dl s= .tuple #[.agg #[.int .i64 (Ak s 0 4),.string {data:= #[]}],.int .i64 0]:=(by unfold Dl;rw[HNM.out,if_pos he]);have HD:=zA hd;rw[show Gl (Ak s 0 4) {data:= #[]}= .tuple #[.agg (IV .u8 s),.int .i64 0]from by unfold Gl;rw[he]];clear he hd;go_wp2_with fail;exact Aw Ia rfl (cs:= #[.int .i64 (Ak s 0 4),.string {data:= #[]}]) rfl (B7 _ _ (Ed f2 #[.int .i64 (Ak s 0 4),.string {data:= #[]}]).1).1 rfl rfl ⟨by rw[HD.out];rfl,As (Ag hbw (by omega) _) (by simp;omega) _⟩
  ·have hd:Dl s= .tuple #[.agg #[.int .i64 0,.string {data:= #[]}],.int .i64 63]:=(by unfold Dl;rw[HNM.out,if_neg he]);have HD:=zA hd;have hrl:(Cv (Ak s 0 4) {data:= #[]}).1.length=128:=Ij _ _;unfold Gl;clear hd HNM;generalize Cv (Ak s 0 4) {data:= #[]}=rr at*;obtain⟨r1,r2⟩:=rr;simp only[]at hrl ⊢;by_cases h2:r2=0
   ·subst h2;have hne:¬ r1=s:=fun h=>he (by rw[h])
    clear he;go_wp2_with fail;exact Aw Ia rfl (cs:= #[.int .i64 0,.string {data:= #[]}]) rfl (B7 _ _ (Ed f2 #[.int .i64 0,.string {data:= #[]}]).1).1 rfl rfl ⟨by rw[HD.out];rfl,As (Ag hbw (by omega) _) (by simp;omega) _⟩
   ·have h2':(r2==0)=false:=beq_eq_false_iff_ne.2 h2;clear he;go_wp2_with fail;exact Aw Ia rfl (cs:= #[.int .i64 0,.string {data:= #[]}]) rfl (B7 _ _ (Ed f2 #[.int .i64 0,.string {data:= #[]}]).1).1 rfl rfl ⟨by rw[HD.out];rfl,As (Ag hbw (by omega) _) (by simp;omega) _⟩
def isD(x y n:Int):Bool:=decide (y<n/\n<x)
theorem Qr(x y n:Int)(w:World):
  Calls Tryz.prog 130 #[.agg #[.int .i64 x,.int .i64 y],.int .i64 n] w fun e w'=>e= .returned (.bool (isD x y n))/\Below w.heap.size w w':=by
 cases h1:decide (y<n)
 all_goals cases h2:decide (n<x)
 all_goals
  go_enter Tryz.func130,Tryz.ntmps130;go_wp2_with fail;go_ret;refine⟨Dj ?_,(Below.refl _ _).alloc (Nat.le_refl _) _⟩;simp at h1 h2 ⊢;simp[isD,h1,h2];try omega
theorem L4(x y n:Int)(w:World):
  Calls Tryz.prog 94 #[.agg #[.int .i64 x,.int .i64 y],.int .i64 n] w fun e w'=>e= .returned (.bool (isD x y n))/\Below w.heap.size w w':=by
 cases h1:decide (y<n)
 all_goals cases h2:decide (n<x)
 all_goals
  go_enter Tryz.func94,Tryz.ntmps94;go_wp2_with fail;go_ret;refine⟨Dj ?_,(Below.refl _ _).alloc (Nat.le_refl _) _⟩;simp at h1 h2 ⊢;simp[isD,h1,h2];try omega
end Go.Proofs.YtmnecpnkkapflaaGreat
