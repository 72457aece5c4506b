import Derived.Lib.SlBytesConst
import Derived.Test.YtmnecpnkkapflaaGreatM01
namespace Go.Proofs.YtmnecpnkkapflaaGreat
set_option maxHeartbeats 16000000
set_option maxRecDepth 1000000
set_option linter.unusedSimpArgs false
set_option linter.unusedVariables false
open Go.RowKit
def F2:List Int:=[66,82,75,87]
def Cw(x y:Int):List Int:=setB (setB (putL (zl 128) 0 F2) 4 4 x) 8 4 y
theorem Uh(x y:Int)(w:World)(h:Ew x y):
  Calls Tryz.prog 72 #[.agg #[.int .i64 x,.int .i64 y]] w fun e w'=>e= .returned (.tuple #[.agg (IV .u8 (Cw x y)),.int .i64 0])/\Below w.heap.size w w':=by
 have kc:=fun(w:World) (C:Array Value) (n c:Nat)=>Lib.run_convert_bytes_const (P:=Tryz.prog) w 42 5 C n c Tryz.underlying42 Tryz.underlying5
 obtain⟨⟨q1,q2⟩,⟨q3,q4⟩,q5⟩:=id h;have hpl:(putL (zl 128) 0 F2).length=128:=by decide
 go_enter Tryz.func72,Tryz.ntmps72;go_wp2_with fail;refine(Xr _ _ _ h).mono ?_;rintro e w1 ⟨rfl,hb1⟩;have hb:=Ad (((Below.refl w.heap.size w).alloc (Nat.le_refl _) _).alloc (by simp) _) hb1 (by simp;omega);obtain⟨f0,z0⟩:=hop hb1 (k:=w.heap.size) (o:= .cells #[.int .i64 x,.int .i64 y] 68) (by simp[go_sem]);obtain⟨f1,z1⟩:=hop hb1 (k:=w.heap.size+1) (o:= .cells (IV .u8 (zl 128)) 47) (by simp[go_sem]);clear hb1;go_wp2_with fail;refine(V4 (zl 128) F2 (by simp) 0 w1.heap.size 4 5 (4,5) F2 _ (Bc _ _ _ rfl) (fun _ _=>rfl) (by decide) (by decide)).mono ?_;rintro e w2 ⟨rfl,hb2⟩;have hb:=Ad (As hb (by omega) _) hb2 (by simp;omega);obtain⟨f0,z0⟩:=hop hb2 (B7 _ _ f0).1;obtain⟨f1,z1⟩:=hop hb2 (B7 _ _ f1).1;clear hb2;go_wp2_with fail;have hb:=As hb (by omega) (.cells (IV .u8 (putL (zl 128) 0 F2)) 47);obtain⟨f0,z0⟩:=B7 w2 (.cells (IV .u8 (putL (zl 128) 0 F2)) 47) f0;obtain⟨f1,z1⟩:=B7 w2 (.cells (IV .u8 (putL (zl 128) 0 F2)) 47) f1;obtain⟨f4,z4⟩:=A6 w2 (.cells (IV .u8 (putL (zl 128) 0 F2)) 47);generalize w2.alloc (.cells (IV .u8 (putL (zl 128) 0 F2)) 47)=w3 at*;generalize w2.heap.size=g4 at*
 refine Ba (by kernel_rfl) 7 (by decide) rfl (fun i=>match i with
  |0=> .agg (IV .u8 (putL (zl 128) 0 F2))|1=> .pointer (some ⟨w.heap.size,0,none⟩)|2=> .int .i64 x|3=> .agg (IV .u8 (setB (putL (zl 128) 0 F2) 4 4 x))
  |4=> .pointer (some ⟨w.heap.size,1,none⟩)|5=> .int .i64 y|_=> .agg (IV .u8 (Cw x y))) ?_ ?_
 ·intro i o hi ho a' w' hB hS hF;have hi':i=0\/i=1\/i=2\/i=3\/i=4\/i=5\/i=6:=(by omega);rcases hi' with rfl|rfl|rfl|rfl|rfl|rfl|rfl
  all_goals (have ho':=Option.some.inj ho;subst ho')
  ·exact Bp 47 128 Cq (.tmp 4) rfl rfl rfl g4 _ ((hS 4 (by decide)).trans rfl) ((A7 hB z4).trans f4) (by simp[hpl]) ⟨rfl,hB⟩
  ·have e1:gt a' 1= .pointer (some ⟨w.heap.size,0,none⟩):=(hS 1 (by decide)).trans rfl;unfold gt at e1;refine Ae rfl rfl (v:= .pointer (some ⟨w.heap.size,0,none⟩)) (w1:=w') ?_ ⟨rfl,hB⟩;simp[go_sem,e1]
  ·have e:=hF 1 (by decide) _ 18 rfl rfl;exact Bu 3 K4 (.tmp 18) rfl rfl rfl w.heap.size 0 _ _ e ((A7 hB (Aa f0)).trans f0) rfl ⟨rfl,hB⟩
  ·have e0:=hF 0 (by decide) _ 17 rfl rfl;have e2:=hF 2 (by decide) _ 19 rfl rfl;unfold gt at e0 e2;refine Bn (f:=107) (args:= #[.agg (IV .u8 (putL (zl 128) 0 F2)),.int .i64 4,.int .i64 4,.int .i64 x]) rfl rfl (by simp[go_sem,e0,e2]) (Py _ hpl 4 4 x w' (by omega) (by omega) (by omega) (by omega) (by omega) (by omega)) ?_;rintro e w'' ⟨rfl,hb'⟩;exact⟨_,rfl,rfl,Ad hB hb' hB.size⟩
  ·have e1:gt a' 1= .pointer (some ⟨w.heap.size,0,none⟩):=(hS 1 (by decide)).trans rfl;unfold gt at e1;refine Ae rfl rfl (v:= .pointer (some ⟨w.heap.size,1,none⟩)) (w1:=w') ?_ ⟨rfl,hB⟩;simp[go_sem,e1]
  ·have e:=hF 4 (by decide) _ 21 rfl rfl;exact Bu 3 K4 (.tmp 21) rfl rfl rfl w.heap.size 1 _ _ e ((A7 hB (Aa f0)).trans f0) rfl ⟨rfl,hB⟩
  ·have e0:=hF 3 (by decide) _ 20 rfl rfl;have e2:=hF 5 (by decide) _ 22 rfl rfl;unfold gt at e0 e2;refine Bn (f:=107) (args:= #[.agg (IV .u8 (setB (putL (zl 128) 0 F2) 4 4 x)),.int .i64 8,.int .i64 4,.int .i64 y]) rfl rfl (by simp[go_sem,e0,e2]) (Py _ (by simp[hpl]) 8 4 y w' (by omega) (by omega) (by omega) (by omega) (by omega) (by omega)) ?_;rintro e w'' ⟨rfl,hb'⟩;exact⟨_,rfl,rfl,Ad hB hb' hB.size⟩
 ·intro w' hB;obtain⟨f1,z1⟩:=hop hB f1;have hb:=Ad hb hB (by omega);have hsl:(Cw x y).length=128:=(by simp[Cw,hpl]);clear hB f0 f4 hpl;simp only[Bi,List.take,List.drop,List.take_succ_cons,List.drop_succ_cons];go_wp2_with fail;refine Aw Cq rfl (cs:=IV .u8 (Cw x y)) rfl (Ar _ _ _ _ _ _ f1) (by simp[hsl]) rfl ⟨rfl,?_⟩;exact Ag hb (by omega) _
theorem Ug(x y:Int)(w:World)(h:¬ Ew x y)(hx:x<=9223372036854775807)(hy:y<=9223372036854775807)(hx': -9223372036854775808<=x)(hy': -9223372036854775808<=y):
  Calls Tryz.prog 72 #[.agg #[.int .i64 x,.int .i64 y]] w fun e w'=>e= .returned (.tuple #[.agg (IV .u8 (zl 128)),.int .i64 60])/\Below w.heap.size w w':=by
 have H:=zA h;have HX:=zA (And.intro hx (And.intro hy (And.intro hx' hy')));clear h hx hy hx' hy';go_enter Tryz.func72,Tryz.ntmps72;go_wp2_with fail;refine(Z8 _ _ _ H.out HX.out.1 HX.out.2.1 HX.out.2.2.1 HX.out.2.2.2).mono ?_;rintro e w1 ⟨rfl,hb1⟩;have hb:=Ad (((Below.refl w.heap.size w).alloc (Nat.le_refl _) _).alloc (by simp) _) hb1 (by simp;omega);obtain⟨f1,z1⟩:=hop hb1 (k:=w.heap.size+1) (o:= .cells (IV .u8 (zl 128)) 47) (by simp[go_sem]);clear hb1;go_wp2_with fail;refine Aw Cq rfl (cs:=IV .u8 (zl 128)) rfl (Ar _ _ _ _ _ _ f1) (by simp) rfl ⟨rfl,?_⟩;exact Ag hb (by omega) _
theorem H7(s:List Int)(hs:s.length=128)(a wd:Nat)(v:Int)(w:World)(h8:wd<=8)(hw:a+wd<=128)(hv:0<=v)(hv2:v<=4611686018427387904):
  Calls Tryz.prog 92 #[.agg (IV .u8 s),.int .i64 a,.int .i64 wd,.int .i64 v] w fun e w'=>e= .returned (.agg (IV .u8 (setB s a wd v)))/\Below w.heap.size w w':=by
 have H:=zA hv2;clear hv2;go_enter Tryz.func92,Tryz.ntmps92;go_wp2_with fail;go_loopw [9,10] (fun x i wr=>∃ k:Nat,k<=wd/\i= .int .i64 k/\x= .int .i64 (v/2^(8*k))/\wr=(w.alloc (.cells (IV .u8 (setB s a k v)) 47)).alloc (.cells (IV .u8 (zl 128)) 47)) (fun _ i _=>wd-(intOf i).toNat)
 case atStart=>exact⟨0,Nat.zero_le _,rfl,by simp,rfl⟩
 case round=>
  obtain⟨k,hk,rfl,rfl,rfl⟩:=hrel;by_cases hkw:k<wd
  ·have hak:a+k<128:=(by omega);have hp:0<(2:Int)^(8*k):=Int.pow_pos (by omega);have hq0:0<=v/2^(8*k):=Int.ediv_nonneg hv (by omega);have hq1:v/2^(8*k)<=4611686018427387904:=Int.le_trans (Int.ediv_le_self _ hv) H.out;have hstep:v/2^(8*(k+1))=v/2^(8*k)/256:=by
    rw[Int.ediv_ediv_of_nonneg (by omega),show 8*(k+1)=8*k+8 by omega,Int.pow_add];rfl
   have HS:=zA hstep;clear hstep hp;go_wp2_with fail;go_roundw
   case rel=>exact⟨k+1,by omega,by go_num,by rw[HS.out],rfl⟩
   case measure=>(show wd-(k+1)<wd-k);omega
  ·obtain rfl:k=wd:=(by omega);go_wp2_with fail;refine Qu Cq rfl (cs:=IV .u8 (setB s a k v)) rfl (Bc _ _ _ (by simp)) (by simp[hs]) rfl ⟨rfl,?_⟩;exact((Below.refl _ _).alloc (Nat.le_refl _) _).alloc (by simp) _
theorem Ve(s:List Int)(n:Nat):∀ a,Ak s a (n+1)=Ak s a n+256^n*nth s (a+n):=by
 induction n with
 |zero=>intro a;simp[Ak]
 |succ n ih=>
  intro a;have h1:Ak s a (n+1+1)=nth s a+256*Ak s (a+1) (n+1):=rfl;have h2:Ak s a (n+1)=nth s a+256*Ak s (a+1) n:=rfl;rw[h1,h2,ih (a+1),Int.pow_succ,show a+1+n=a+(n+1) by omega];generalize nth s (a+(n+1))=z;generalize Ak s (a+1) n=y;rw[Int.mul_add, <-Int.mul_assoc,Int.mul_comm 256 ((256:Int)^n)];omega
theorem nN{s:List Int}(hb:A4 s)(a wd k:Nat)(h8:wd<=8)(hk:k<wd)(hz:wd=8->nth s (a+7)=0):Ak s (a+wd-k) k<281474976710656:=by
 have p6:(256:Int)^6=281474976710656:=by decide
 have pk:∀ k,k<=6->(256:Int)^k<=256^6:=by decide
 by_cases h:k<=6
 ·have h1:=Fu hb k (a+wd-k);have h2:=pk k h;omega
 ·have hk7:k=7:=(by omega);have hw:wd=8:=(by omega);subst hk7;subst hw;have h1:=Fu hb 6 (a+8-7);have h2:=Ve s 6 (a+8-7);rw[show a+8-7+6=a+7 by omega,hz rfl]at h2;show Ak s (a+8-7) (6+1)<_
  rw[h2, <-p6];simpa using h1
theorem F7(s:List Int)(hs:s.length=128)(hb:A4 s)(a wd:Nat)(w:World)(h8:wd<=8)(hw:a+wd<=128)(hz:wd=8->nth s (a+7)=0):
  Calls Tryz.prog 57 #[.agg (IV .u8 s),.int .i64 a,.int .i64 wd] w fun e w'=>e= .returned (.int .i64 (Ak s a wd))/\Below w.heap.size w w':=by
 have HZ:=zA hz;clear hz;go_enter Tryz.func57,Tryz.ntmps57;go_wp2_with fail;go_loop [7,8] (fun n i=>∃ k:Nat,k<=wd/\i= .int .i64 ((wd:Int)-1-k)/\n= .int .i64 (Ak s (a+wd-k) k)) (fun _ i=>(intOf i+1).toNat)
 case atStart=>exact⟨0,Nat.zero_le _,by go_num,rfl⟩
 case round=>
  obtain⟨k,hk,rfl,rfl⟩:=hrel;by_cases hkw:k<wd
  ·have hak:a+wd-1-k<128:=(by omega);have hak':a+(wd-1-k)<128:=(by omega);have hx:=hb.at (a+(wd-1-k));obtain⟨hx0,hx1⟩:=hx;have hn0:=Dv hb k (a+wd-k);have hn1:=nN hb a wd k h8 hkw HZ.out;have hstep:Ak s (a+wd-(k+1)) (k+1)=Ak s (a+wd-k) k*256+nth s (a+(wd-1-k)):=by
    simp only[Ak];rw[show a+wd-(k+1)=a+(wd-1-k) by omega,show a+(wd-1-k)+1=a+wd-k by omega];omega
   have HS:=zA hstep;clear hstep;by_cases h7:(wd:Int)-1-k=7
   ·obtain rfl:k=0:=(by omega);obtain rfl:wd=8:=(by omega);have hz7:=HZ.out rfl;have g0:Ak s (a+8) 0=0:=rfl;clear h7;go_wp2_with fail;go_round
    case rel=>exact⟨1,by omega,rfl,by rw[HS.out];simp[g0,hz7]⟩
    case measure=>decide
   ·have d7:(((wd:Int)-1-k)==7)=false:=(by simpa using h7);clear h7;go_wp2_with fail;go_round
    case rel=>exact⟨k+1,by omega,by go_num,by rw[HS.out]⟩
    case measure=>(show((wd:Int)-1-k-1+1).toNat<((wd:Int)-1-k+1).toNat);omega
  ·obtain rfl:k=wd:=(by omega);have e1:a+k-k=a:=(by omega);rw[e1];go_wp2_with fail;go_ret;exact⟨rfl,(Below.refl _ _).alloc (Nat.le_refl _) _⟩
theorem nM(s:List Int)(hs:s.length=128)(hb:A4 s)(a:Nat)(w:World)(hw:a+8<=128)(hz:nth s (a+7)≠0):
  Calls Tryz.prog 57 #[.agg (IV .u8 s),.int .i64 a,.int .i64 8] w fun e w'=>e= .returned (.int .i64 (-1))/\Below w.heap.size w w':=by
 have hz1:(nth s (a+7) !=0)=true:=by simpa using hz
 have hak:a+7<128:=by omega
 clear hz;go_enter Tryz.func57,Tryz.ntmps57;go_wp2_with fail;refine wp_loop_rounds 1 ?_;rw[rounds_succ];go_wp2_with fail;go_ret;exact⟨rfl,(Below.refl _ _).alloc (Nat.le_refl _) _⟩
theorem Q8(x y:Int)(w:World)(h:Ew x y):
  Calls Tryz.prog 58 #[.agg #[.int .i64 x,.int .i64 y]] w fun e w'=>e= .returned (.tuple #[.agg (IV .u8 (Cw x y)),.int .i64 0])/\Below w.heap.size w w':=by
 obtain⟨h1,h2,q5⟩:=id h;have H1:=zA h1;have H2:=zA h2;obtain⟨q1,q2⟩:=h1;obtain⟨q3,q4⟩:=h2;clear h;go_enter Tryz.func58,Tryz.ntmps58;go_wp2_with fail;refine(A5 _ _ _ _ H1.out).mono ?_;rintro e w' ⟨rfl,rfl⟩;go_wp2_with fail;refine(A5 _ _ _ _ H2.out).mono ?_;rintro e w' ⟨rfl,rfl⟩;go_wp2_with fail;have hms:(((((zl 128).set 0 66).set 1 82).set 2 75).set 3 87)=putL (zl 128) 0 F2:=by decide
 have hpl:(putL (zl 128) 0 F2).length=128:=by decide
 rw[hms];refine(H7 (putL (zl 128) 0 F2) hpl 4 4 x _ (by omega) (by omega) (by omega) (by omega)).mono ?_;rintro e w1 ⟨rfl,hb1⟩;have hb:=Ad ((((Below.refl w.heap.size w).alloc (Nat.le_refl _) _).alloc (by simp) _).alloc (by simp;omega) _) hb1 (by simp;omega);obtain⟨f0,z0⟩:=hop hb1 (k:=w.heap.size) (o:= .cells #[.int .i64 x,.int .i64 y] 68) (by simp[go_sem]);obtain⟨f1,z1⟩:=hop hb1 (k:=w.heap.size+1) (o:= .cells (IV .u8 (zl 128)) 47) (by simp[go_sem]);obtain⟨f2,z2⟩:=hop hb1 (k:=w.heap.size+1+1) (o:= .cells (IV .u8 (putL (zl 128) 0 F2)) 47) (by simp[go_sem]);have hl2:(setB (putL (zl 128) 0 F2) 4 4 x).length=128:=by simp[hpl]
 clear hb1 hms;go_wp2_with fail;refine(H7 _ hl2 8 4 y _ (by omega) (by omega) (by omega) (by omega)).mono ?_;rintro e w2 ⟨rfl,hb2⟩;have hb:=Ad (Ag hb (g:=w.heap.size+1+1) (by omega) (IV .u8 (setB (putL (zl 128) 0 F2) 4 4 x))) hb2 (by simp;omega);obtain⟨f1,z1⟩:=hop hb2 (k:=w.heap.size+1) (o:= .cells (IV .u8 (zl 128)) 47) (by simp[go_sem,f1]);have hsl:(Cw x y).length=128:=by simp[Cw,hpl]
 clear hb2;rw[show setB (setB (putL (zl 128) 0 F2) 4 4 x) 8 4 y=Cw x y from rfl];go_wp2_with fail;refine Aw Cq rfl (cs:=IV .u8 (Cw x y)) rfl (Ar _ _ _ _ _ _ f1) (by simp[hsl]) rfl ⟨rfl,?_⟩;exact Ag hb (by omega) _
theorem Q7(x y:Int)(w:World)(h:¬ Ew x y)(hx:x<=9223372036854775807)(hy:y<=9223372036854775807)(hx': -9223372036854775808<=x)(hy': -9223372036854775808<=y):
  Calls Tryz.prog 58 #[.agg #[.int .i64 x,.int .i64 y]] w fun e w'=>e= .returned (.tuple #[.agg (IV .u8 (zl 128)),.int .i64 60])/\Below w.heap.size w w':=by
 have hB:=((Below.refl w.heap.size w).alloc (Nat.le_refl _) (.cells #[.int .i64 x,.int .i64 y] 68)).alloc (by simp) (.cells (IV .u8 (zl 128)) 47);by_cases h1:8<=x/\x<=4096
 ·by_cases h2:1<=y/\y<=512
  ·have h3:x<y+2:=by
    false_or_by_contra
    exact h ⟨h1,h2,by omega⟩
   have H1:=zA h1;have H2:=zA h2;have HB:=zA hB;clear h hB;obtain⟨a1,a2⟩:=h1;obtain⟨b1,b2⟩:=h2;go_enter Tryz.func58,Tryz.ntmps58;go_wp2_with fail;refine(A5 _ _ _ _ H1.out).mono ?_;rintro e w' ⟨rfl,rfl⟩;go_wp2_with fail;refine(A5 _ _ _ _ H2.out).mono ?_;rintro e w' ⟨rfl,rfl⟩;go_wp2_with fail;exact Aw Cq rfl (cs:=IV .u8 (zl 128)) rfl (Bc _ _ _ (by simp)) (by simp) rfl ⟨rfl,HB.out⟩
  ·have H1:=zA h1;have H2:=zA h2;have HB:=zA hB;clear h h1 h2 hB;go_enter Tryz.func58,Tryz.ntmps58;go_wp2_with fail;refine(A5 _ _ _ _ H1.out).mono ?_;rintro e w' ⟨rfl,rfl⟩;go_wp2_with fail;refine(C1 _ _ _ _ H2.out).mono ?_;rintro e w' ⟨rfl,rfl⟩;go_wp2_with fail;exact Aw Cq rfl (cs:=IV .u8 (zl 128)) rfl (Bc _ _ _ (by simp)) (by simp) rfl ⟨rfl,HB.out⟩
 ·have H1:=zA h1;have HB:=zA hB;clear h h1 hB;go_enter Tryz.func58,Tryz.ntmps58;go_wp2_with fail;refine(C1 _ _ _ _ H1.out).mono ?_;rintro e w' ⟨rfl,rfl⟩;go_wp2_with fail;exact Aw Cq rfl (cs:=IV .u8 (zl 128)) rfl (Bc _ _ _ (by simp)) (by simp) rfl ⟨rfl,HB.out⟩
open Classical in
noncomputable def Ds(s:List Int):Value:=
 if Ew (Ak s 4 4) (Ak s 8 4)/\Cw (Ak s 4 4) (Ak s 8 4)=s then .tuple #[.agg #[.int .i64 (Ak s 4 4),.int .i64 (Ak s 8 4)],.int .i64 0]
 else .tuple #[.agg #[.int .i64 0,.int .i64 0],.int .i64 60]
theorem dX(s:List Int)(hs:s.length=128)(hb:A4 s)(a:Nat)(w:World)(hw:a+4<=128):
  Calls Tryz.prog 71 #[.agg (IV .u8 s),.int .i64 a,.int .i64 4] w fun e w'=>e= .returned (.int .i64 (Ak s a 4))/\Below w.heap.size w w':=
 (Sl s hs hb a 4 w (by omega) (by omega) hw).mono fun e w' ⟨he,hB⟩=>⟨by
  have:=Fu hb 4 a;rw[he,Ej,if_neg (by omega)],hB⟩
theorem Ss(s:List Int)(hs:s.length=128)(hb:A4 s)(w:World):
  Calls Tryz.prog 47 #[.agg (IV .u8 s)] w fun e w'=>e= .returned (Ds s)/\Below w.heap.size w w':=by
 have hx0:=Dv hb 4 4;have hy0:=Dv hb 4 8;have hx1:Ak s 4 4<4294967296:=Fu hb 4 4;have hy1:Ak s 8 4<4294967296:=Fu hb 4 8;go_enter Tryz.func47,Tryz.ntmps47;go_wp2_with fail;have hbw:=((Below.refl w.heap.size w).alloc (Nat.le_refl _) (.cells (IV .u8 s) 47)).alloc (by simp) (.cells #[.int .i64 0,.int .i64 0] 68);have f1:hat ((w.alloc (.cells (IV .u8 s) 47)).alloc (.cells #[.int .i64 0,.int .i64 0] 68)) w.heap.size=some (.cells (IV .u8 s) 47):=by simp[go_sem]
 have f2:hat ((w.alloc (.cells (IV .u8 s) 47)).alloc (.cells #[.int .i64 0,.int .i64 0] 68)) (w.heap.size+1)=some (.cells #[.int .i64 0,.int .i64 0] 68):=by simp[go_sem]
 have hz1:=Aa f2;generalize (w.alloc (.cells (IV .u8 s) 47)).alloc (.cells #[.int .i64 0,.int .i64 0] 68)=w1 at*
 refine Hw (by kernel_rfl) 6 (by decide) rfl (fun w'=>Below w1.heap.size w1 w') (fun w w'=>Below w.heap.size w w')
  (fun i v w'=>match i with
   |0=>v= .agg (IV .u8 s)|1=>v= .int .i64 (Ak s 4 4)|2=>v= .agg (IV .u8 s)|3=>v= .int .i64 (Ak s 8 4)
   |4=>v= .agg #[.int .i64 (Ak s 4 4),.int .i64 (Ak s 8 4)]
   |_=>∃ g,v= .pointer (some ⟨g,0,none⟩)/\w1.heap.size<=g/\hat w' g=some (.cells #[.int .i64 0,.int .i64 0] 68)) ((Below.refl _ _).drew) ?_ ?_ ?_
 ·intro i v wa wb hi _ _ hE hG;have hi':i=0\/i=1\/i=2\/i=3\/i=4\/i=5:=(by omega);rcases hi' with rfl|rfl|rfl|rfl|rfl|rfl<;>try exact hG
  obtain⟨g,h1,h2,h3⟩:=hG;exact⟨g,h1,h2,(hop hE h3).1⟩
 ·intro i o hi ho a' w' hB hS hF;have hi':i=0\/i=1\/i=2\/i=3\/i=4\/i=5:=(by omega);rcases hi' with rfl|rfl|rfl|rfl|rfl|rfl
  all_goals (have ho':=Option.some.inj ho;subst ho')
  ·exact Bp 47 128 Cq (.tmp 1) rfl rfl rfl w.heap.size _ ((hS 1 (by decide)).trans rfl) (hop hB f1).1 (by simp[hs]) ⟨_,rfl,hB,Below.refl _ _,rfl⟩
  ·have e0:=hF 0 (by decide) _ 7 rfl rfl;have e0:=gtx e0;refine Bn (f:=71) (args:= #[.agg (IV .u8 s),.int .i64 4,.int .i64 4]) rfl rfl (by simp[go_sem,e0]) (dX s hs hb 4 w' (by omega)) ?_;rintro e w'' ⟨rfl,hb'⟩;exact⟨_,rfl,_,rfl,Ad hB hb' hB.size,hb',rfl⟩
  ·exact Bp 47 128 Cq (.tmp 1) rfl rfl rfl w.heap.size _ ((hS 1 (by decide)).trans rfl) (hop hB f1).1 (by simp[hs]) ⟨_,rfl,hB,Below.refl _ _,rfl⟩
  ·have e0:=hF 2 (by decide) _ 9 rfl rfl;have e0:=gtx e0;refine Bn (f:=71) (args:= #[.agg (IV .u8 s),.int .i64 8,.int .i64 4]) rfl rfl (by simp[go_sem,e0]) (dX s hs hb 8 w' (by omega)) ?_;rintro e w'' ⟨rfl,hb'⟩;exact⟨_,rfl,_,rfl,Ad hB hb' hB.size,hb',rfl⟩
  ·have e0:=hF 1 (by decide) _ 8 rfl rfl;have e1:=hF 3 (by decide) _ 10 rfl rfl;have e0:=gtx e0;have e1:=gtx e1;refine Ae rfl rfl (v:= .agg #[.int .i64 (Ak s 4 4),.int .i64 (Ak s 8 4)]) (w1:=w') ?_ ⟨_,rfl,hB,Below.refl _ _,rfl⟩;simp[go_sem,e0,e1]
  ·refine Ae rfl rfl (v:= .pointer (some ⟨w'.heap.size,0,none⟩)) (w1:=w'.alloc (.cells #[.int .i64 0,.int .i64 0] 68)) ?_ ⟨_,rfl,As hB hB.size _,(Below.refl _ _).alloc (Nat.le_refl _) _,w'.heap.size,rfl,hB.size,(A6 _ _).1⟩;simp[go_sem]
 ·intro val w2 hB hF;have e0:=hF 0 _ 7 (by decide) rfl rfl;have e1:=hF 1 _ 8 (by decide) rfl rfl;have e2:=hF 2 _ 9 (by decide) rfl rfl;have e3:=hF 3 _ 10 (by decide) rfl rfl;have e4:=hF 4 _ 11 (by decide) rfl rfl;obtain⟨g,e5,hg,f3⟩:=hF 5 _ 4 (by decide) rfl rfl;simp only[]at e0 e1 e2 e3 e4;obtain⟨f1,z1⟩:=hop hB f1;obtain⟨f2,z2⟩:=hop hB f2;have hbw:=Ad hbw hB hbw.size;have hg1:w.heap.size+1<g:=(by omega);clear hF hB;simp only[Bi,List.take,List.drop,List.take_succ_cons,List.drop_succ_cons,e0,e1,e2,e3,e4,e5];clear e0 e1 e2 e3 e4 e5;have hsw:=(Ed f3 #[.int .i64 (Ak s 4 4),.int .i64 (Ak s 8 4)]);obtain⟨f1,z1⟩:=Gm f1 g #[.int .i64 (Ak s 4 4),.int .i64 (Ak s 8 4)] (by omega);obtain⟨f2,z2⟩:=Gm f2 g #[.int .i64 (Ak s 4 4),.int .i64 (Ak s 8 4)] (by omega);have hbw:=Ag hbw (g:=g) (by omega) #[.int .i64 (Ak s 4 4),.int .i64 (Ak s 8 4)];obtain⟨f3,z3⟩:=hsw;by_cases hm:Ew (Ak s 4 4) (Ak s 8 4)
  ·go_wp2_with fail;refine(Uh (Ak s 4 4) (Ak s 8 4) _ hm).mono ?_;rintro e w3 ⟨rfl,hb3⟩;have hbw:=Ad hbw hb3 hbw.size;obtain⟨f1,z1⟩:=hop hb3 f1;obtain⟨f2,z2⟩:=hop hb3 f2;obtain⟨f3,z3⟩:=hop hb3 f3;have hsl:(Cw (Ak s 4 4) (Ak s 8 4)).length=128:=(by simp[Cw];decide);clear hb3;by_cases he:Cw (Ak s 4 4) (Ak s 8 4)=s
   ·have hd:Ds s= .tuple #[.agg #[.int .i64 (Ak s 4 4),.int .i64 (Ak s 8 4)],.int .i64 0]:=(by unfold Ds;rw[if_pos ⟨hm,he⟩]);have HD:=zA hd;have he':decide (Cw (Ak s 4 4) (Ak s 8 4)=s)=true:=(by simpa using he);have HE:=zA he;clear he hm hd;go_wp2_with fail;exact Aw Qx rfl (cs:= #[.int .i64 (Ak s 4 4),.int .i64 (Ak s 8 4)]) rfl (B7 _ _ (Ed f2 #[.int .i64 (Ak s 4 4),.int .i64 (Ak s 8 4)]).1).1 rfl rfl ⟨by rw[HD.out];rfl,As (Ag hbw (by omega) _) (by simp;omega) _⟩
   ·have hd:Ds s= .tuple #[.agg #[.int .i64 0,.int .i64 0],.int .i64 60]:=(by unfold Ds;rw[if_neg (fun h=>he h.2)]);have HD:=zA hd;clear hm hd;go_wp2_with fail;exact Aw Qx rfl (cs:= #[.int .i64 0,.int .i64 0]) rfl (B7 _ _ (Ed f2 #[.int .i64 0,.int .i64 0]).1).1 rfl rfl ⟨by rw[HD.out];rfl,As (Ag hbw (by omega) _) (by simp;omega) _⟩
  ·have hd:Ds s= .tuple #[.agg #[.int .i64 0,.int .i64 0],.int .i64 60]:=(by unfold Ds;rw[if_neg (fun h=>hm h.1)]);have HD:=zA hd;clear hd;have HM:=zA hm;clear hm;go_wp2_with fail;refine(Ug (Ak s 4 4) (Ak s 8 4) _ HM.out (by omega) (by omega) (by omega) (by omega)).mono ?_;rintro e w3 ⟨rfl,hb3⟩;have hbw:=Ad hbw hb3 hbw.size;obtain⟨f1,z1⟩:=hop hb3 f1;obtain⟨f2,z2⟩:=hop hb3 f2;obtain⟨f3,z3⟩:=hop hb3 f3;clear hb3;go_wp2_with fail;exact Aw Qx rfl (cs:= #[.int .i64 0,.int .i64 0]) rfl (B7 _ _ (Ed f2 #[.int .i64 0,.int .i64 0]).1).1 rfl rfl ⟨by rw[HD.out];rfl,As (Ag hbw (by omega) _) (by simp;omega) _⟩
theorem Tv(s:List Int)(hs:s.length=128)(hb:A4 s)(w:World):
  Calls Tryz.prog 37 #[.agg (IV .u8 s)] w fun e w'=>e= .returned (Ds s)/\Below w.heap.size w w':=by
 have hx0:=Dv hb 4 4;have hy0:=Dv hb 4 8;have hx1:Ak s 4 4<4294967296:=Fu hb 4 4;have hy1:Ak s 8 4<4294967296:=Fu hb 4 8;go_enter Tryz.func37,Tryz.ntmps37;go_wp2_with fail;have hbw:=((Below.refl w.heap.size w).alloc (Nat.le_refl _) (.cells (IV .u8 s) 47)).alloc (by simp) (.cells #[.int .i64 0,.int .i64 0] 68);have f1:hat ((w.alloc (.cells (IV .u8 s) 47)).alloc (.cells #[.int .i64 0,.int .i64 0] 68)) w.heap.size=some (.cells (IV .u8 s) 47):=by simp[go_sem]
 have f2:hat ((w.alloc (.cells (IV .u8 s) 47)).alloc (.cells #[.int .i64 0,.int .i64 0] 68)) (w.heap.size+1)=some (.cells #[.int .i64 0,.int .i64 0] 68):=by simp[go_sem]
 have hz1:=Aa f2;generalize (w.alloc (.cells (IV .u8 s) 47)).alloc (.cells #[.int .i64 0,.int .i64 0] 68)=w1 at*
 refine Hw (by kernel_rfl) 6 (by decide) rfl (fun w'=>Below w1.heap.size w1 w') (fun w w'=>Below w.heap.size w w')
  (fun i v w'=>match i with
   |0=>v= .agg (IV .u8 s)|1=>v= .int .i64 (Ak s 4 4)|2=>v= .agg (IV .u8 s)|3=>v= .int .i64 (Ak s 8 4)
   |4=>v= .agg #[.int .i64 (Ak s 4 4),.int .i64 (Ak s 8 4)]
   |_=>∃ g,v= .pointer (some ⟨g,0,none⟩)/\w1.heap.size<=g/\hat w' g=some (.cells #[.int .i64 0,.int .i64 0] 68)) ((Below.refl _ _).drew) ?_ ?_ ?_
 ·intro i v wa wb hi _ _ hE hG;have hi':i=0\/i=1\/i=2\/i=3\/i=4\/i=5:=(by omega);rcases hi' with rfl|rfl|rfl|rfl|rfl|rfl<;>try exact hG
  obtain⟨g,h1,h2,h3⟩:=hG;exact⟨g,h1,h2,(hop hE h3).1⟩
 ·intro i o hi ho a' w' hB hS hF;have hi':i=0\/i=1\/i=2\/i=3\/i=4\/i=5:=(by omega);rcases hi' with rfl|rfl|rfl|rfl|rfl|rfl
  all_goals (have ho':=Option.some.inj ho;subst ho')
  ·exact Bp 47 128 Cq (.tmp 1) rfl rfl rfl w.heap.size _ ((hS 1 (by decide)).trans rfl) (hop hB f1).1 (by simp[hs]) ⟨_,rfl,hB,Below.refl _ _,rfl⟩
  ·have e0:=hF 0 (by decide) _ 7 rfl rfl;have e0:=gtx e0;refine Bn (f:=57) (args:= #[.agg (IV .u8 s),.int .i64 4,.int .i64 4]) rfl rfl (by simp[go_sem,e0]) (F7 s hs hb 4 4 w' (by omega) (by omega) (by omega)) ?_;rintro e w'' ⟨rfl,hb'⟩;exact⟨_,rfl,_,rfl,Ad hB hb' hB.size,hb',rfl⟩
  ·exact Bp 47 128 Cq (.tmp 1) rfl rfl rfl w.heap.size _ ((hS 1 (by decide)).trans rfl) (hop hB f1).1 (by simp[hs]) ⟨_,rfl,hB,Below.refl _ _,rfl⟩
  ·have e0:=hF 2 (by decide) _ 9 rfl rfl;have e0:=gtx e0;refine Bn (f:=57) (args:= #[.agg (IV .u8 s),.int .i64 8,.int .i64 4]) rfl rfl (by simp[go_sem,e0]) (F7 s hs hb 8 4 w' (by omega) (by omega) (by omega)) ?_;rintro e w'' ⟨rfl,hb'⟩;exact⟨_,rfl,_,rfl,Ad hB hb' hB.size,hb',rfl⟩
  ·have e0:=hF 1 (by decide) _ 8 rfl rfl;have e1:=hF 3 (by decide) _ 10 rfl rfl;have e0:=gtx e0;have e1:=gtx e1;refine Ae rfl rfl (v:= .agg #[.int .i64 (Ak s 4 4),.int .i64 (Ak s 8 4)]) (w1:=w') ?_ ⟨_,rfl,hB,Below.refl _ _,rfl⟩;simp[go_sem,e0,e1]
  ·refine Ae rfl rfl (v:= .pointer (some ⟨w'.heap.size,0,none⟩)) (w1:=w'.alloc (.cells #[.int .i64 0,.int .i64 0] 68)) ?_ ⟨_,rfl,As hB hB.size _,(Below.refl _ _).alloc (Nat.le_refl _) _,w'.heap.size,rfl,hB.size,(A6 _ _).1⟩;simp[go_sem]
 ·intro val w2 hB hF;have e0:=hF 0 _ 7 (by decide) rfl rfl;have e1:=hF 1 _ 8 (by decide) rfl rfl;have e2:=hF 2 _ 9 (by decide) rfl rfl;have e3:=hF 3 _ 10 (by decide) rfl rfl;have e4:=hF 4 _ 11 (by decide) rfl rfl;obtain⟨g,e5,hg,f3⟩:=hF 5 _ 4 (by decide) rfl rfl;simp only[]at e0 e1 e2 e3 e4;obtain⟨f1,z1⟩:=hop hB f1;obtain⟨f2,z2⟩:=hop hB f2;have hbw:=Ad hbw hB hbw.size;have hg1:w.heap.size+1<g:=(by omega);clear hF hB;simp only[Bi,List.take,List.drop,List.take_succ_cons,List.drop_succ_cons,e0,e1,e2,e3,e4,e5];clear e0 e1 e2 e3 e4 e5;have hsw:=(Ed f3 #[.int .i64 (Ak s 4 4),.int .i64 (Ak s 8 4)]);obtain⟨f1,z1⟩:=Gm f1 g #[.int .i64 (Ak s 4 4),.int .i64 (Ak s 8 4)] (by omega);obtain⟨f2,z2⟩:=Gm f2 g #[.int .i64 (Ak s 4 4),.int .i64 (Ak s 8 4)] (by omega);have hbw:=Ag hbw (g:=g) (by omega) #[.int .i64 (Ak s 4 4),.int .i64 (Ak s 8 4)];obtain⟨f3,z3⟩:=hsw;by_cases hm:Ew (Ak s 4 4) (Ak s 8 4)
  ·go_wp2_with fail;refine(Q8 (Ak s 4 4) (Ak s 8 4) _ hm).mono ?_;rintro e w3 ⟨rfl,hb3⟩;have hbw:=Ad hbw hb3 hbw.size;obtain⟨f1,z1⟩:=hop hb3 f1;obtain⟨f2,z2⟩:=hop hb3 f2;obtain⟨f3,z3⟩:=hop hb3 f3;have hsl:(Cw (Ak s 4 4) (Ak s 8 4)).length=128:=(by simp[Cw];decide);clear hb3;by_cases he:Cw (Ak s 4 4) (Ak s 8 4)=s
   ·have hd:Ds s= .tuple #[.agg #[.int .i64 (Ak s 4 4),.int .i64 (Ak s 8 4)],.int .i64 0]:=(by unfold Ds;rw[if_pos ⟨hm,he⟩]);have HD:=zA hd;have he':decide (Cw (Ak s 4 4) (Ak s 8 4)=s)=true:=(by simpa using he);have HE:=zA he;clear he hm hd;go_wp2_with fail;exact Aw Qx rfl (cs:= #[.int .i64 (Ak s 4 4),.int .i64 (Ak s 8 4)]) rfl (B7 _ _ (Ed f2 #[.int .i64 (Ak s 4 4),.int .i64 (Ak s 8 4)]).1).1 rfl rfl ⟨by rw[HD.out];rfl,As (Ag hbw (by omega) _) (by simp;omega) _⟩
   ·have hd:Ds s= .tuple #[.agg #[.int .i64 0,.int .i64 0],.int .i64 60]:=(by unfold Ds;rw[if_neg (fun h=>he h.2)]);have HD:=zA hd;clear hm hd;go_wp2_with fail;exact Aw Qx rfl (cs:= #[.int .i64 0,.int .i64 0]) rfl (B7 _ _ (Ed f2 #[.int .i64 0,.int .i64 0]).1).1 rfl rfl ⟨by rw[HD.out];rfl,As (Ag hbw (by omega) _) (by simp;omega) _⟩
  ·have hd:Ds s= .tuple #[.agg #[.int .i64 0,.int .i64 0],.int .i64 60]:=(by unfold Ds;rw[if_neg (fun h=>hm h.1)]);have HD:=zA hd;clear hd;have HM:=zA hm;clear hm;go_wp2_with fail;refine(Q7 (Ak s 4 4) (Ak s 8 4) _ HM.out (by omega) (by omega) (by omega) (by omega)).mono ?_;rintro e w3 ⟨rfl,hb3⟩;have hbw:=Ad hbw hb3 hbw.size;obtain⟨f1,z1⟩:=hop hb3 f1;obtain⟨f2,z2⟩:=hop hb3 f2;obtain⟨f3,z3⟩:=hop hb3 f3;clear hb3;go_wp2_with fail;exact Aw Qx rfl (cs:= #[.int .i64 0,.int .i64 0]) rfl (B7 _ _ (Ed f2 #[.int .i64 0,.int .i64 0]).1).1 rfl rfl ⟨by rw[HD.out];rfl,As (Ag hbw (by omega) _) (by simp;omega) _⟩
theorem Yn:∀ {l:List UInt8},decide (0<=Lib.indexAny l [0,47])=false->∀ b∈l,b≠0/\b≠47
 |[],_,b,hb=>by simp at hb
 |a::l,h,b,hb=>by
  have hge:=Lib.indexAny_ge [0,47] l;have h':=of_decide_eq_false h;unfold Lib.indexAny at h';split at h'
  ·exact absurd (Int.le_refl 0) h'
  ·rename_i hc
   have ha:a≠0/\a≠47:=by
    constructor<;>(intro h0;subst h0;exact hc (by decide))
   have ht:decide (0<=Lib.indexAny l [0,47])=false:=by
    refine decide_eq_false (fun h0=>?_);split at h'
    ·rename_i h1;have:=beq_iff_eq.1 h1;omega
    ·omega
   rcases List.mem_cons.1 hb with rfl|hb
   ·exact ha
   ·exact Yn ht b hb
theorem Yo:∀ {l:List UInt8},decide (0<=Lib.indexAny l [0,47])=true->¬ ∀ b∈l,b≠0/\b≠47
 |[],h,_=>absurd h (by decide)
 |a::l,h,hall=>by
  have h':=of_decide_eq_true h;unfold Lib.indexAny at h';split at h'
  ·rename_i hc
   have ha:=hall a (List.mem_cons_self ..);simp at hc;rcases hc with rfl|rfl
   ·exact ha.1 rfl
   ·exact ha.2 rfl
  ·split at h'
   ·exact absurd h' (by decide)
   ·rename_i h1
    have hge:=Lib.indexAny_ge [0,47] l;refine Yo (l:=l) (decide_eq_true ?_) (fun b hb=>hall b (List.mem_cons_of_mem _ hb));have:Lib.indexAny l [0,47]≠ -1:=fun h=>h1 (beq_iff_eq.2 h)
    omega
theorem F1(s:ByteArray):s.data.toList.length=s.size:=(Lib.size_eq s).symm
theorem eqb{s:ByteArray}{l:List UInt8}{b:Bool}(h:(s.toList==l)=b):(s.data.toList==l)=b:=by rw[<-Lib.toList_data];exact h
theorem Om(s:ByteArray)(w:World):
  Calls Tryz.prog 131 #[.string s] w fun e w'=>e= .returned (.bool (decide (Oa s.data.toList)))/\Below w.heap.size w w':=by
 go_enter Tryz.func131,Tryz.ntmps131;go_wp2_with fail;refine(Jf _ _ _ _).mono ?_;rintro e w' ⟨rfl,rfl⟩;by_cases h1:1<=(s.size:Int)/\(s.size:Int)<=40
 ·rw[decide_eq_true h1];go_wp2_with fail;refine(Zt _ _ (by omega)).mono ?_;rintro e w' ⟨rfl,hb⟩;cases h2:decide (0<=Lib.indexAny s.data.toList [0,47])
  ·cases h3:s.toList==[46]
   ·cases h4:s.toList==[46,46]
    ·go_wp2_with fail;go_ret;refine⟨Dj ((decide_eq_true ?_).symm),hb⟩;exact⟨by rw[F1];omega,by rw[F1];omega,Yn h2,beq_eq_false_iff_ne.1 (eqb h3),beq_eq_false_iff_ne.1 (eqb h4)⟩
    ·go_wp2_with fail;go_ret;refine⟨Dj ((decide_eq_false ?_).symm),hb⟩;exact fun h=>h.2.2.2.2 (beq_iff_eq.1 (eqb h4))
   ·go_wp2_with fail;go_ret;refine⟨Dj ((decide_eq_false ?_).symm),hb⟩;exact fun h=>h.2.2.2.1 (beq_iff_eq.1 (eqb h3))
  ·go_wp2_with fail;go_ret;refine⟨Dj ((decide_eq_false ?_).symm),hb⟩;exact fun h=>Yo h2 h.2.2.1
 ·rw[decide_eq_false h1];go_wp2_with fail;go_ret;refine⟨Dj ((decide_eq_false ?_).symm),Below.refl _ _⟩;exact fun h=>h1 (by have:=h.1;have:=h.2.1;rw[F1]at*;omega)
theorem Qv(s:ByteArray)(w:World)(hs:s.size<4611686018427387904):
  Calls Tryz.prog 134 #[.string s] w fun e w'=>e= .returned (.bool (decide (Oa s.data.toList)))/\w'=w:=by
 go_enter Tryz.func134,Tryz.ntmps134;go_wp2_with fail;go_loopw [3] (fun i wr=>∃ k:Nat,k<=s.size/\i= .int .i64 k/\wr=w/\(∀ j,j<k->∀ b,s.data.toList[j]? =some b->b≠0/\b≠47)) (fun i _=>s.size-(intOf i).toNat)
 case atStart=>exact⟨0,Nat.zero_le _,rfl,rfl,fun j hj=>by omega⟩
 case round=>
  obtain⟨k,hk,rfl,rfl,hno⟩:=hrel;have HN:=zA hno;clear hno;by_cases hkw:k<s.size
  ·obtain⟨x,hx⟩:∃ x:UInt8,s[k]'hkw=x:=⟨_,rfl⟩;have Hx:=zA (show s.data.toList[k]? =some x by rw[<-hx];exact Lib.data_getElem? s k hkw);have gi:∀ w,(Instr.index 9 (.string s) (.int .i64 k)).run Tryz.prog w= .ok (.int .u8 x.toNat) w:=fun w=>by
    rw[run_index_string w 9 s .i64 k Tryz.underlying9,dif_pos ⟨by omega,by omega⟩];show Result.ok (Value.int .u8 (s[k]'hkw).toNat) w=_
    rw[hx]
   clear hx;by_cases x0:x=0
   ·subst x0;go_wp2_with fail;go_ret;refine⟨Dj ((decide_eq_false ?_).symm),rfl⟩;exact fun h=>(h.2.2.1 _ (List.mem_of_getElem? Hx.out)).1 rfl
   by_cases x1:x=47
   ·subst x1;go_wp2_with fail;go_ret;refine⟨Dj ((decide_eq_false ?_).symm),rfl⟩;exact fun h=>(h.2.2.1 _ (List.mem_of_getElem? Hx.out)).2 rfl
   have d0:((x.toNat:Int)==0)=false:=by
    refine beq_eq_false_iff_ne.2 (fun h=>x0 ?_);exact UInt8.toNat_inj.1 (by show x.toNat=0;omega)
   have d1:((x.toNat:Int)==47)=false:=by
    refine beq_eq_false_iff_ne.2 (fun h=>x1 ?_);exact UInt8.toNat_inj.1 (by show x.toNat=47;omega)
   go_wp2_with fail;go_roundw
   case rel=>
    refine⟨k+1,hkw,by go_num,by trivial,fun j hj b hb=>?_⟩;by_cases hjk:j=k
    ·subst hjk;rw[Hx.out]at hb;obtain rfl:=Option.some.inj hb;exact⟨x0,x1⟩
    ·exact HN.out j (by omega) b hb
   case measure=>
    show s.size-(k+1)<s.size-k
    omega
  ·obtain rfl:k=s.size:=(by omega);have hall:∀ b∈s.data.toList,b≠0/\b≠47:=by
    intro b hb;obtain⟨j,hj⟩:=List.getElem?_of_mem hb;refine HN.out j ?_ b hj;have:=(List.getElem?_eq_some_iff.1 hj).1;rw[F1]at this;exact this
   have HA:=zA hall;clear hall;go_wp2_with fail;refine(Hq _ _ _ _).mono ?_;rintro e w' ⟨rfl,rfl⟩;by_cases h1:1<=(s.size:Int)/\(s.size:Int)<=40
   ·rw[decide_eq_true h1];cases h3:s.toList==[46]
    ·cases h4:s.toList==[46,46]
     ·go_wp2_with fail;go_ret;refine⟨Dj ((decide_eq_true ?_).symm),rfl⟩;exact⟨by rw[F1];omega,by rw[F1];omega,HA.out,beq_eq_false_iff_ne.1 (eqb h3),beq_eq_false_iff_ne.1 (eqb h4)⟩
     ·go_wp2_with fail;go_ret;refine⟨Dj ((decide_eq_false ?_).symm),rfl⟩;exact fun h=>h.2.2.2.2 (beq_iff_eq.1 (eqb h4))
    ·go_wp2_with fail;go_ret;refine⟨Dj ((decide_eq_false ?_).symm),rfl⟩;exact fun h=>h.2.2.2.1 (beq_iff_eq.1 (eqb h3))
   ·rw[decide_eq_false h1];go_wp2_with fail;go_ret;refine⟨Dj ((decide_eq_false ?_).symm),rfl⟩;exact fun h=>h1 (by have:=h.1;have:=h.2.1;rw[F1]at*;omega)
def fAt:Nat->Nat
 |0=>0|1=>1|2=>4|3=>8|4=>64|5=>68|j+6=>16+4*j
def fWd:Nat->Nat
 |0=>1|1=>1|2=>4|3=>8|4=>4|5=>4|_+6=>4
def Ci:Nat->Nat
 |0=>0|1=>1|2=>2|3=>3|4=>16|5=>17|j+6=>4+j
def fFn(c:Nat->Nat):Nat->Value
 |0=> .func (.func 123) #[] #[]|1=> .func (.func 124) #[] #[]|2=> .func (.func 125) #[] #[]
 |3=> .func (.func 126) #[] #[]|4=> .func (.func 127) #[] #[]|5=> .func (.func 128) #[] #[]
 |j+6=> .func (.func 129) #[] #[.pointer (some ⟨c j,0,none⟩)]
def Wq(c:Nat->Nat)(j:Nat):List Value:=[.int .i64 (fAt j),.int .i64 (fWd j),fFn c j]
def Iv(c:Nat->Nat)(n:Nat):List Value:=(List.range n).flatMap (Wq c)
theorem Ie(c:Nat->Nat)(n:Nat):(Iv c n).length=n*3:=by
 induction n with
 |zero=>rfl
 |succ n ih=>unfold Iv at ih ⊢;rw[List.range_succ,List.flatMap_append,List.length_append,ih];simp[Wq];omega
theorem Kf(c:Nat->Nat)(n:Nat):Iv c (n+1)=Iv c n++Wq c n:=by
 unfold Iv;rw[List.range_succ,List.flatMap_append];simp
theorem Yl(c c':Nat->Nat)(n:Nat)(h:∀ j,j+6<n->c j=c' j):Iv c n=Iv c' n:=by
 induction n with
 |zero=>rfl
 |succ n ih=>
  rw[Kf,Kf,ih (fun j hj=>h j (by omega))];congr 1
  unfold Wq;match n with
  |0|1|2|3|4|5=>rfl
  |j+6=>simp only[fFn];rw[h j (by omega)]
theorem Tryz.info178:(Tryz.prog.info? 178).map (fun i=>(i.zero,i.size,i.bytes))=some (some (.agg #[.int .i64 0,.int .i64 0,.nilFunc]),3,24):=by kernel_rfl
theorem R5(w:World):
  Calls Tryz.prog 108 #[] w fun e w'=>∃ g cap c cur,e= .returned (.slice (some ⟨g,0,none⟩) 18 cap)/\Below w.heap.size w w'/\w.heap.size<=g/\hat w' g=some (.cells cur 178)/\cur.toList.take 54=Iv c 18/\
   ∀ j,j<12->hat w' (c j)=some (.cells #[.int .i64 j] 3):=by
 obtain⟨i0,hi,hz0,hz1,hz2⟩:=info_parts Tryz.info178;go_enter Tryz.func108,Tryz.ntmps108;go_wp2_with fail;go_loopw [1,10] (fun v i wr=>∃ (k:Nat) (c:Nat->Nat),k<=12/\i= .int .i64 k/\wr.ownsRow w.heap.size 178 3 v (6+k) (Iv c (6+k))/\(∀ j,j<k->hat wr (c j)=some (.cells #[.int .i64 j] 3))/\Below w.heap.size w wr) (fun _ i _=>12-(intOf i).toNat)
 case atStart=>
  refine⟨0,fun _=>0,Nat.zero_le _,rfl,⟨Ie _ _,.inr ⟨w.heap.size,6,_,rfl,Nat.le_refl _,heap_alloc_new w _,Nat.le_refl _,by decide,rfl,rfl⟩⟩,fun j hj=>by omega,(Below.refl _ _).alloc (Nat.le_refl _) _⟩
 case round=>
  obtain⟨k,c,hk,rfl,hown,hc,hb⟩:=hrel;by_cases hkw:k<12
  ·have hwr:w.heap.size<=wr.heap.size:=hb.size;let c':Nat->Nat:=fun j=>if j=k then wr.heap.size else c j
   have hc'k:c' k=wr.heap.size:=if_pos rfl;have hc'j:∀ j,j<k->c' j=c j:=fun j hj=>if_neg (by omega)
   have hfr:Iv c (6+k)=Iv c' (6+k):=Yl _ _ _ (fun j hj=>(hc'j j (by omega)).symm);have hrow:Wq c' (6+k)=[.int .i64 (16+4*(k:Int)),.int .i64 4,.func (.func 129) #[] #[.pointer (some ⟨wr.heap.size,0,none⟩)]]:=by
    rw[Nat.add_comm 6 k];simp only[Wq,fAt,fWd,fFn,hc'k];simp
   have HR:=zA hrow;have HF:=zA hfr;have HC:=zA hc;have HB:=zA hb;have HJ:=zA hc'j;have HK:=zA hc'k;have HO:=zA hown;clear_value c'
   clear hrow hfr hc hb hc'j hc'k hown;go_wp2_with (at_builtin;refine wpList_append_own _ rfl (.tmp 13) (.tmp 19) 174 rfl w.heap.size 178 i0 _ 3 24 Tryz.underlying174 hi hz0 hz1 hz2 rfl (by decide) u1 (6+k) (Iv c (6+k)) rfl ((HO.out.alloc _).alloc _) ⟨wr.heap.size+1,0,none⟩ 1 1 [.int .i64 (16+4*(k:Int)),.int .i64 4,.func (.func 129) #[] #[.pointer (some ⟨wr.heap.size,0,none⟩)]] rfl rfl ?c1 ?c2 ?c3 ?c4 ?c5 (fun v' w1 hown' hgrow _=>?_))
   case c1=>
    intro j u hj;have hj3:j<3:=by
     have:=(List.getElem?_eq_some_iff.1 hj).1;simpa using this
    have hadd:(⟨wr.heap.size+1,0,none⟩:Addr).add j=⟨wr.heap.size+1,j,none⟩:=(by unfold Addr.add;split<;>simp_all);rw[hadd,Bs (Bc _ _ _ (by simp))];simpa using hj
   case c2=>
    intro u hu;simp at hu;rcases hu with rfl|rfl|rfl<;>rfl
   case c3=>unfold maxLen;omega
   case c4=>omega
   case c5=>simp only[World.size_alloc];omega
   go_roundw
   case rel=>
    have hg:∃ g,u1.ownBlock=some g/\g<wr.heap.size/\w.heap.size<=g/\∃ cur,hat wr g=some (.cells cur 178):=by
     obtain⟨-,h⟩:=HO.out;rcases h with ⟨-,h⟩|⟨g,cap,cur,rfl,h1,h2,-⟩
     ·omega
     ·exact⟨g,rfl,Aa h2,h1,cur,h2⟩
    obtain⟨g,hg1,hg2,hg3,cur,hg4⟩:=hg;refine⟨k+1,c',by omega,by go_num,?_,?_,?_⟩
    ·have e:Iv c' (6+(k+1))=Iv c (6+k)++[.int .i64 (16+4*(k:Int)),.int .i64 4,.func (.func 129) #[] #[.pointer (some ⟨wr.heap.size,0,none⟩)]]:=by
      rw[show 6+(k+1)=6+k+1 by omega,Kf,HF.out,HR.out]
     rw[e];exact hown'
    ·intro j hj;by_cases hjk:j=k
     ·subst hjk;rw[HK.out];show w1.heap[_]? =_
      rw[hgrow.block _ (by simp only[World.size_alloc];omega) (by rw[hg1];simp;omega)];show hat _ _=_
      rw[A9 _ _ _ (by simp),Bc _ _ _ rfl]
     ·rw[HJ.out j (by omega)];have h1:=HC.out j (by omega);have h2:=Aa h1;show w1.heap[_]? =_
      rw[hgrow.block _ (by simp only[World.size_alloc];omega) ?_]
      ·show hat _ _=_
       rw[A9 _ _ _ (by simp only[World.size_alloc];omega),A9 _ _ _ h2,h1]
      ·rw[hg1];intro e;have e':c j=g:=(by simpa using e);rw[e',hg4]at h1;simp at h1
    ·exact(((HB.out.alloc (by omega) _).alloc (by simp only[World.size_alloc];omega) _)).grown hgrow (by simp only[World.size_alloc];omega) (fun k hk=>by rw[hg1]at hk;simp at hk;omega)
   case measure=>(show 12-(k+1)<12-k);omega
  ·obtain rfl:k=12:=(by omega);have HC:=zA hc;have HB:=zA hb;obtain⟨hl,h⟩:=hown;rcases h with ⟨-,h⟩|⟨g,cap,cur,rfl,h1,h2,h3,h4,h5,h6⟩
   ·omega
   ·have H2:=zA h2;have H6:=zA h6;clear hc hb h2 h6 h5 hl;go_wp2_with fail;go_ret;exact⟨g,cap,c,cur,rfl,HB.out,h1,H2.out,H6.out,HC.out⟩
theorem vG(a b:List Int)(ha:a.length=12)(hb:b.length=12)(w:World)(d:Nat):
  (Op.equalIn (d+2) 76 (.agg (IV .i64 a)) (.agg (IV .i64 b))).run Tryz.prog w= .ok (decide (a=b)) w:=
 Hc Tryz.underlying76 Tryz.underlying3 (by kernel_rfl) d .i64 a b ha hb w
theorem vN(l:List Int)(i:Nat)(h:i<l.length)(w:World):(part 3 (IV .i64 l) i).run Tryz.prog w= .ok (.int .i64 (nth l i)) w:=Ii Tryz.underlying3 .i64 l i h w
theorem vC(l:List Int)(i:Nat)(w:World):(part 76 (IV .i64 l) i).run Tryz.prog w= .ok (.agg (IV .i64 ((l.drop i).take 12))) w:=by
 have hagg:(isAgg 76).run Tryz.prog w= .ok true w:=by kernel_rfl
 have hsz:(sizeOf 76).run Tryz.prog w= .ok 12 w:=by kernel_rfl
 simp only[part,Sem.run_bind,hagg,Result.andThen_ok,if_true,hsz,Sem.run_pure,aK];rw[show i+12-i=12 by omega]
theorem qM(a b:List Int)(ha:a.length=18)(hb:b.length=18):
  a=b↔nth a 0=nth b 0/\nth a 1=nth b 1/\nth a 2=nth b 2/\nth a 3=nth b 3/\(a.drop 4).take 12=(b.drop 4).take 12/\nth a 16=nth b 16/\nth a 17=nth b 17:=by
 constructor
 ·rintro rfl;simp
 ·rintro ⟨h0,h1,h2,h3,h4,h5,h6⟩;refine Km (by omega) (fun i hi=>?_);have hi':i=0\/i=1\/i=2\/i=3\/(4<=i/\i<16)\/i=16\/i=17:=(by omega);rcases hi' with rfl|rfl|rfl|rfl|hi'|rfl|rfl<;>try assumption
  have e:=congrArg (fun l=>nth l (i-4)) h4;simp only[nth,List.getElem?_take,List.getElem?_drop,show i-4<12 by omega,if_true,show 4+(i-4)=i by omega]at e;exact e
theorem xO(a b:List Int)(ha:a.length=18)(hb:b.length=18)(w:World):
  (Op.equalIn 10000 78 (.agg (IV .i64 a)) (.agg (IV .i64 b))).run Tryz.prog w= .ok (decide (a=b)) w:=by
 have hf:(Tryz.prog.fieldsOf 78).toList.map (fun f=>(f.name,f.type,f.offset))=[("Kind",3,0),("Links",3,1),("Size",3,2),("Made",3,3),("Direct",76,4),("Single",3,16),("Double",3,17)]:=by kernel_rfl
 rw[run_equalIn_struct w 9999 78 (IV .i64 a) (IV .i64 b) (by kernel_rfl) (by kernel_rfl)];generalize (Tryz.prog.fieldsOf 78).toList=fs at hf;simp only[List.map_eq_cons_iff,List.map_eq_nil_iff,Prod.mk.injEq]at hf;obtain⟨f0,l0,rfl,⟨n0,t0,o0⟩,f1,l1,rfl,⟨n1,t1,o1⟩,f2,l2,rfl,⟨n2,t2,o2⟩,f3,l3,rfl,⟨n3,t3,o3⟩,f4,l4,rfl,⟨n4,t4,o4⟩,f5,l5,rfl,⟨n5,t5,o5⟩,f6,l6,rfl,⟨n6,t6,o6⟩,rfl⟩:=hf;have he:=fun(d:Nat) (x y:Int)=>run_equalIn_int (P:=Tryz.prog) w d 3 .i64 .i64 x y Tryz.underlying3
 have ed:=fun(x y:List Int) (hx:x.length=12) (hy:y.length=12)=>vG x y hx hy w 9997
 simp[Op.eqFields,n0,n1,n2,n3,n4,n5,n6,t0,t1,t2,t3,t4,t5,t6,o0,o1,o2,o3,o4,o5,o6,Sem.run_bind,vN,vC,ha,hb,he,ed];have hx:=qM a b ha hb;by_cases h:a=b
 ·subst h;simp
 ·have h':=fun h2=>h (hx.2 h2)
  repeat' split
  all_goals first
   |(simp[h];done)
   |(exfalso;exact h' ⟨by assumption,by assumption,by assumption,by assumption,by assumption,by assumption,by assumption⟩)
theorem vI(op:BinOp)(x y:Operand)(xs ys:Array Value)(w:World):(eqGuard op 78 x y (.agg xs) (.agg ys)).run Tryz.prog w= .ok () w:=run_eqGuard_agg w op 78 x y xs ys (by kernel_rfl)
attribute [go_sem ↓ high] xO
attribute [go_sem] vI
def B0(l:List Int):Prop:=
 if nth l 0=0 then l=zl 18 else
  ((1<=nth l 0/\nth l 0<=2)/\(0<=nth l 1/\nth l 1<=100)/\(0<=nth l 2/\nth l 2<=136704)/\(0<=nth l 3/\nth l 3<=1099511627776))/\
  (∀ j,4<=j->j<18->0<=nth l j/\nth l j<=4294967295)/\(nth l 0=1\/nth l 2%128=0)
theorem Jd{l:List Int}(h:nth l 0=0):B0 l↔l=zl 18:=by unfold B0;rw[if_pos h]
theorem D9{l:List Int}(h:nth l 0≠0):B0 l↔((1<=nth l 0/\nth l 0<=2)/\(0<=nth l 1/\nth l 1<=100)/\(0<=nth l 2/\nth l 2<=136704)/\(0<=nth l 3/\nth l 3<=1099511627776))/\
  (∀ j,4<=j->j<18->0<=nth l j/\nth l j<=4294967295)/\(nth l 0=1\/nth l 2%128=0):=by unfold B0;rw[if_neg h]
theorem Co{b:Bool}{p:Prop}(h:b=true↔p)(hp:¬ p):b=false:=by
 cases b with
 |false=>rfl
 |true=>exact(hp (h.1 rfl)).elim
theorem Mg{b:Bool}{p:Prop}(h:b=true↔p)(hp:p):b=true:=h.2 hp
theorem Sn(l:List Int)(hl:l.length=18)(h0:nth l 0=0)(w:World):
  Calls Tryz.prog 113 #[.agg (IV .i64 l)] w fun e w'=>e= .returned (.bool (decide (l=zl 18)))/\Below w.heap.size w w':=by
 have d0:(nth l 0==0)=true:=by simpa using h0
 clear h0;go_enter Tryz.func113,Tryz.ntmps113;go_wp2_with fail;go_ret;exact⟨rfl,(Below.refl _ _).alloc (Nat.le_refl _) _⟩
theorem Us(l:List Int)(hl:l.length=18)(h0:nth l 0≠0)(h1:¬ (1<=nth l 0/\nth l 0<=2))(w:World):
  Calls Tryz.prog 113 #[.agg (IV .i64 l)] w fun e w'=>e= .returned (.bool false)/\Below w.heap.size w w':=by
 have d0:(nth l 0==0)=false:=by simpa using h0
 have H1:=zA h1;clear h0 h1;go_enter Tryz.func113,Tryz.ntmps113;go_wp2_with fail;refine(E4 _ _ _ _ H1.out).mono ?_;rintro e w' ⟨rfl,rfl⟩;go_wp2_with fail;go_ret;exact⟨rfl,(Below.refl _ _).alloc (Nat.le_refl _) _⟩
theorem Ut(l:List Int)(hl:l.length=18)(h0:nth l 0≠0)(h1:1<=nth l 0/\nth l 0<=2)(h2:¬ (0<=nth l 1/\nth l 1<=100))(w:World):
  Calls Tryz.prog 113 #[.agg (IV .i64 l)] w fun e w'=>e= .returned (.bool false)/\Below w.heap.size w w':=by
 have d0:(nth l 0==0)=false:=by simpa using h0
 have H1:=zA h1;have H2:=zA h2;clear h0 h1 h2;go_enter Tryz.func113,Tryz.ntmps113;go_wp2_with fail;refine(Ce _ _ _ _ H1.out).mono ?_;rintro e w' ⟨rfl,rfl⟩;go_wp2_with fail;refine(E4 _ _ _ _ H2.out).mono ?_;rintro e w' ⟨rfl,rfl⟩;go_wp2_with fail;go_ret;exact⟨rfl,(Below.refl _ _).alloc (Nat.le_refl _) _⟩
theorem Uu(l:List Int)(hl:l.length=18)(h0:nth l 0≠0)(h1:1<=nth l 0/\nth l 0<=2)(h2:0<=nth l 1/\nth l 1<=100)(h3:¬ (0<=nth l 2/\nth l 2<=136704))(w:World):
  Calls Tryz.prog 113 #[.agg (IV .i64 l)] w fun e w'=>e= .returned (.bool false)/\Below w.heap.size w w':=by
 have d0:(nth l 0==0)=false:=by simpa using h0
 have H1:=zA h1;have H2:=zA h2;have H3:=zA h3;clear h0 h1 h2 h3;go_enter Tryz.func113,Tryz.ntmps113;go_wp2_with fail;refine(Ce _ _ _ _ H1.out).mono ?_;rintro e w' ⟨rfl,rfl⟩;go_wp2_with fail;refine(Ce _ _ _ _ H2.out).mono ?_;rintro e w' ⟨rfl,rfl⟩;go_wp2_with fail;refine(E4 _ _ _ _ H3.out).mono ?_;rintro e w' ⟨rfl,rfl⟩;go_wp2_with fail;go_ret;exact⟨rfl,(Below.refl _ _).alloc (Nat.le_refl _) _⟩
theorem Uv(l:List Int)(hl:l.length=18)(h0:nth l 0≠0)(h1:1<=nth l 0/\nth l 0<=2)(h2:0<=nth l 1/\nth l 1<=100)(h3:0<=nth l 2/\nth l 2<=136704)(h4:¬ (0<=nth l 3/\nth l 3<=1099511627776))(w:World):
  Calls Tryz.prog 113 #[.agg (IV .i64 l)] w fun e w'=>e= .returned (.bool false)/\Below w.heap.size w w':=by
 have d0:(nth l 0==0)=false:=by simpa using h0
 have H1:=zA h1;have H2:=zA h2;have H3:=zA h3;have H4:=zA h4;clear h0 h1 h2 h3 h4;go_enter Tryz.func113,Tryz.ntmps113;go_wp2_with fail;refine(Ce _ _ _ _ H1.out).mono ?_;rintro e w' ⟨rfl,rfl⟩;go_wp2_with fail;refine(Ce _ _ _ _ H2.out).mono ?_;rintro e w' ⟨rfl,rfl⟩;go_wp2_with fail;refine(Ce _ _ _ _ H3.out).mono ?_;rintro e w' ⟨rfl,rfl⟩;go_wp2_with fail;refine(E4 _ _ _ _ H4.out).mono ?_;rintro e w' ⟨rfl,rfl⟩;go_wp2_with fail;go_ret;exact⟨rfl,(Below.refl _ _).alloc (Nat.le_refl _) _⟩
theorem Tryz.infoi:(Tryz.prog.info? 3).map (fun i=>(i.zero,i.size,i.bytes))=some (some (.int .i64 0),1,8):=by kernel_rfl
def Lh(l:List Int):List Int:=nth l 16::nth l 17::(l.drop 4).take 12
theorem Sm(l:List Int)(hl:l.length=18)(h0:nth l 0≠0)(h1:1<=nth l 0/\nth l 0<=2)(h2:0<=nth l 1/\nth l 1<=100)(h3:0<=nth l 2/\nth l 2<=136704)(h4:0<=nth l 3/\nth l 3<=1099511627776)(b:Bool)(hb:b=true↔(∀ j,j<14->0<=nth (Lh l) j/\nth (Lh l) j<=4294967295)/\(nth l 0=1\/nth l 2%128=0))(w:World):
  Calls Tryz.prog 113 #[.agg (IV .i64 l)] w fun e w'=>e= .returned (.bool b)/\Below w.heap.size w w':=by
 obtain⟨ii,hii,hz0,hz1,hz2⟩:=info_parts Tryz.infoi;have d0:(nth l 0==0)=false:=by simpa using h0
 have H0:=zA h0;have H1:=zA h1;have H2:=zA h2;have H3:=zA h3;have H4:=zA h4;have HBB:=zA hb;clear h0 hb h1 h2 h3 h4;go_enter Tryz.func113,Tryz.ntmps113;go_wp2_with fail;refine(Ce _ _ _ _ H1.out).mono ?_;rintro e w' ⟨rfl,rfl⟩;go_wp2_with fail;refine(Ce _ _ _ _ H2.out).mono ?_;rintro e w' ⟨rfl,rfl⟩;go_wp2_with fail;refine(Ce _ _ _ _ H3.out).mono ?_;rintro e w' ⟨rfl,rfl⟩;go_wp2_with fail;refine(Ce _ _ _ _ H4.out).mono ?_;rintro e w' ⟨rfl,rfl⟩;go_wp2_with fail;have hbw:=(Below.refl w.heap.size w).alloc (Nat.le_refl _) (.cells (IV .i64 l) 78);obtain⟨f1,z1⟩:=A6 w (.cells (IV .i64 l) 78);generalize w.alloc (.cells (IV .i64 l) 78)=w1 at*
 refine Hw (by kernel_rfl) 10 (by decide) rfl (fun w'=>Below w1.heap.size w1 w') (fun w w'=>Below w.heap.size w w')
  (fun i v w'=>match i with
   |0=>v= .pointer (some ⟨w.heap.size,16,none⟩)|1=>v= .int .i64 (nth l 16)|2=>v= .pointer (some ⟨w.heap.size,17,none⟩)|3=>v= .int .i64 (nth l 17)
   |4=>∃ g,v= .slice (some ⟨g,0,none⟩) 2 2/\hat w' g=some (.cells (IV .i64 [nth l 16,nth l 17]) 3)
   |5=>v= .pointer (some ⟨w.heap.size,4,none⟩)|6=>v= .slice (some ⟨w.heap.size,4,none⟩) 12 12
   |7=>∃ g cap cur,v= .slice (some ⟨g,0,none⟩) 14 cap/\hat w' g=some (.cells cur 3)/\cur.toList.take 14=(Lh l).map (Value.int .i64)
   |8=>v= .int .i64 14|_=>v= .int .i64 0) ((Below.refl _ _).drew) ?_ ?_ ?_
 ·intro i v wa wb hi _ _ hE hG;have hi':i=0\/i=1\/i=2\/i=3\/i=4\/i=5\/i=6\/i=7\/i=8\/i=9:=(by omega);rcases hi' with rfl|rfl|rfl|rfl|rfl|rfl|rfl|rfl|rfl|rfl<;>try exact hG
  ·obtain⟨g,h1,h2⟩:=hG;exact⟨g,h1,(hop hE h2).1⟩
  ·obtain⟨g,cap,cur,h1,h2,h3⟩:=hG;exact⟨g,cap,cur,h1,(hop hE h2).1,h3⟩
 ·intro i o hi ho a' w' hB hS hF;have hi':i=0\/i=1\/i=2\/i=3\/i=4\/i=5\/i=6\/i=7\/i=8\/i=9:=(by omega);have e1:=gtx ((hS 1 (by decide)).trans rfl:gt a' 1= .pointer (some ⟨w.heap.size,0,none⟩));have f1:=(hop hB f1).1;rcases hi' with rfl|rfl|rfl|rfl|rfl|rfl|rfl|rfl|rfl|rfl
  all_goals (have ho':=Option.some.inj ho;subst ho')
  ·refine Ae rfl rfl (v:= .pointer (some ⟨w.heap.size,16,none⟩)) (w1:=w') ?_ ⟨_,rfl,hB,Below.refl _ _,rfl⟩;simp[go_sem,e1]
  ·exact Bu 3 K4 (.tmp 33) rfl rfl rfl w.heap.size 16 _ _ (hF 0 (by decide) _ 33 rfl rfl) f1 (Lj _ _ _ (by omega)) ⟨_,rfl,hB,Below.refl _ _,rfl⟩
  ·refine Ae rfl rfl (v:= .pointer (some ⟨w.heap.size,17,none⟩)) (w1:=w') ?_ ⟨_,rfl,hB,Below.refl _ _,rfl⟩;simp[go_sem,e1]
  ·exact Bu 3 K4 (.tmp 35) rfl rfl rfl w.heap.size 17 _ _ (hF 2 (by decide) _ 35 rfl rfl) f1 (Lj _ _ _ (by omega)) ⟨_,rfl,hB,Below.refl _ _,rfl⟩
  ·have e2:=gtx (hF 1 (by decide) _ 34 rfl rfl);have e3:=gtx (hF 3 (by decide) _ 36 rfl rfl);refine Ae rfl rfl (v:= .slice (some ⟨w'.heap.size,0,none⟩) 2 2) (w1:=w'.alloc (.cells (IV .i64 [nth l 16,nth l 17]) 3)) ?_ ⟨_,rfl,As hB hB.size _,(Below.refl _ _).alloc (Nat.le_refl _) _,_,rfl,(A6 _ _).1⟩;simp[go_sem,e2,e3,IV]
  ·refine Ae rfl rfl (v:= .pointer (some ⟨w.heap.size,4,none⟩)) (w1:=w') ?_ ⟨_,rfl,hB,Below.refl _ _,rfl⟩;simp[go_sem,e1]
  ·have e2:=gtx (hF 5 (by decide) _ 38 rfl rfl);have hsl:=Q9 (P:=Tryz.prog) Tryz.underlying76 (by kernel_rfl) w.heap.size 4 (by omega) w';refine Ae rfl rfl (v:= .slice (some ⟨w.heap.size,4,none⟩) 12 12) (w1:=w') ?_ ⟨_,rfl,hB,Below.refl _ _,rfl⟩;simp[go_sem,e2,hsl]
  ·obtain⟨g,e2,hg⟩:=hF 4 (by decide) _ 37 rfl rfl;have e3:=hF 6 (by decide) _ 39 rfl rfl
   refine O6 rfl rfl (.tmp 37) (.tmp 39) 32 rfl 3 ii _ 1 8 Tryz.underlying32 hii hz0 hz1 hz2 rfl (by decide) ⟨g,0,none⟩ 2 2 ([nth l 16,nth l 17].map (Value.int .i64)) e2 rfl ?_
    ⟨w.heap.size,4,none⟩ 12 12 (((l.drop 4).take 12).map (Value.int .i64)) e3 (by simp;omega) ?_ (by decide) (by decide) (by decide) ?_
   ·intro j u hj;have hadd:(⟨g,0,none⟩:Addr).add j=⟨g,j,none⟩:=(by unfold Addr.add;split<;>simp_all);rw[hadd,Bs hg];simpa [IV]using hj
   ·intro j u hj;have hadd:(⟨w.heap.size,4,none⟩:Addr).add j=⟨w.heap.size,4+j,none⟩:=(by unfold Addr.add;split<;>simp_all);rw[hadd,Bs f1,Bl];have hj12:j<12:=by
     have:=(List.getElem?_eq_some_iff.1 hj).1;simp at this;omega
    rw[List.getElem?_map,List.getElem?_take,if_pos hj12,List.getElem?_drop]at hj;exact hj
   ·intro v' w2 hown hgr;have hbg:=X2 hgr;refine⟨_,rfl,Ad hB hbg hB.size,hbg,?_⟩;obtain⟨-,hv|⟨g2,cap,cur,rfl,q1,q2,q3,q4,q5,q6⟩⟩:=hown
    ·exact(by simp at hv)
    ·exact⟨g2,cap,cur,rfl,q2,by simpa [Lh]using q6⟩
  ·obtain⟨g,cap,cur,e2,hg,hcur⟩:=hF 7 (by decide) _ 40 rfl rfl;have e2:=gtx e2;refine Ae rfl rfl (v:= .int .i64 14) (w1:=w') ?_ ⟨_,rfl,hB,Below.refl _ _,rfl⟩;simp[go_sem,e2]
  ·exact E8 (.const (.int .i64 0)) rfl rfl rfl _ rfl ⟨_,rfl,hB,Below.refl _ _,rfl⟩
 ·intro val w2 hB hF;have e0:=hF 0 _ 33 (by decide) rfl rfl;have e1:=hF 1 _ 34 (by decide) rfl rfl;have e2:=hF 2 _ 35 (by decide) rfl rfl;have e3:=hF 3 _ 36 (by decide) rfl rfl;obtain⟨g4,e4,-⟩:=hF 4 _ 37 (by decide) rfl rfl;have e5:=hF 5 _ 38 (by decide) rfl rfl;have e6:=hF 6 _ 39 (by decide) rfl rfl;obtain⟨g,cap,cur,e7,hg,hcur⟩:=hF 7 _ 40 (by decide) rfl rfl;have e8:=hF 8 _ 41 (by decide) rfl rfl;have e9:=hF 9 _ 42 (by decide) rfl rfl;simp only[]at e0 e1 e2 e3 e5 e6 e8 e9;obtain⟨f1,z1⟩:=hop hB f1;have hbw:=Ad hbw hB (by omega);clear hF hB;simp only[Bi,List.take,List.drop,List.take_succ_cons,List.drop_succ_cons,e0,e1,e2,e3,e4,e5,e6,e7,e8,e9,Act.put,List.setIfInBounds_toArray,List.set_cons_zero,List.set_cons_succ];clear e0 e1 e2 e3 e4 e5 e6 e7 e8 e9;have hpl:(Lh l).length=14:=(by simp[Lh,hl]);have hcell:∀ k,k<14->cur[k]? =some (.int .i64 (nth (Lh l) k)):=by
   intro k hk;have e:=congrArg (fun m=>m[k]?) hcur;simp only[List.getElem?_take,if_pos hk,Array.getElem?_toList,List.getElem?_map,An (show k<(Lh l).length by omega),Option.map_some]at e;exact e
  have HCELL:=zA hcell;clear hcell hcur;go_wp2_with fail;go_loop [42] (fun i=>∃ k:Nat,k<=14/\i= .int .i64 k/\∀ j,j<k->0<=nth (Lh l) j/\nth (Lh l) j<=4294967295) (fun i=>14-(intOf i).toNat)
  case atStart=>exact⟨0,by omega,rfl,fun j hj=>by omega⟩
  case round=>
   obtain⟨k,hk,rfl,hok⟩:=hrel;have HOK:=zA hok;clear hok;by_cases hkw:k<14
   ·have hck:=HCELL.out k hkw;by_cases hp:0<=nth (Lh l) k/\nth (Lh l) k<=4294967295
    ·have HP:=zA hp;clear hp;go_wp2_with fail;refine(Ce _ _ _ _ HP.out).mono ?_;rintro e w' ⟨rfl,rfl⟩;go_wp2_with fail;go_round
     case rel=>
      refine⟨k+1,by omega,by go_num,fun j hj=>?_⟩;by_cases hjk:j=k
      ·subst hjk;exact HP.out
      ·exact HOK.out j (by omega)
     case measure=>(show 14-(k+1)<14-k);omega
    ·have HP:=zA hp;clear hp;have hbf:b=false:=Co HBB.out (fun h=>HP.out (h.1 k hkw));have HBF:=zA hbf;clear hbf;go_wp2_with fail;refine(E4 _ _ _ _ HP.out).mono ?_;rintro e w' ⟨rfl,rfl⟩;go_wp2_with fail;go_ret;exact⟨by rw[HBF.out];rfl,hbw⟩
   ·obtain rfl:k=14:=(by omega);by_cases hk1:nth l 0=1
    ·have hbt:b=true:=Mg HBB.out ⟨HOK.out,.inl hk1⟩;have d1:(nth l 0==1)=true:=(by simpa using hk1);have HBT:=zA hbt;clear hbt hk1;go_wp2_with fail;go_ret;exact⟨by rw[HBT.out];rfl,hbw⟩
    ·have hz:0<=nth l 2:=H3.out.1;have hz2:nth l 2<=136704:=H3.out.2;have d1:(nth l 0==1)=false:=(by simpa using hk1);by_cases hs:nth l 2%128=0
     ·have hbt:b=true:=Mg HBB.out ⟨HOK.out,.inr hs⟩;have d2:(nth l 2%128==0)=true:=(by simpa using hs);have HBT:=zA hbt;clear hbt hk1 hs;go_wp2_with fail;go_ret;exact⟨by rw[HBT.out];rfl,hbw⟩
     ·have hbt:b=false:=Co HBB.out (fun h=>h.2.elim hk1 hs);have d2:(nth l 2%128==0)=false:=(by simpa using hs);have HBT:=zA hbt;clear hbt hk1 hs;go_wp2_with fail;go_ret;exact⟨by rw[HBT.out];rfl,hbw⟩
theorem rA(l:List Int)(hl:l.length=18):(∀ j,j<14->0<=nth (Lh l) j/\nth (Lh l) j<=4294967295)↔(∀ j,4<=j->j<18->0<=nth l j/\nth l j<=4294967295):=by
 have e0:nth (Lh l) 0=nth l 16:=rfl;have e1:nth (Lh l) 1=nth l 17:=rfl;have e2:∀ j,j<12->nth (Lh l) (j+2)=nth l (j+4):=by
  intro j hj;simp only[Lh,nth,List.getElem?_cons_succ,List.getElem?_take,if_pos hj,List.getElem?_drop,Nat.add_comm 4 j]
 constructor
 ·intro h j h1 h2;by_cases h16:j=16
  ·subst h16;rw[<-e0];exact h 0 (by omega)
  ·by_cases h17:j=17
   ·subst h17;rw[<-e1];exact h 1 (by omega)
   ·have:=h (j-4+2) (by omega);rw[e2 (j-4) (by omega),show j-4+4=j by omega]at this;exact this
 ·intro h j hj;match j with
  |0=>rw[e0];exact h 16 (by omega) (by omega)
  |1=>rw[e1];exact h 17 (by omega) (by omega)
  |j+2=>rw[e2 j (by omega)];exact h (j+4) (by omega) (by omega)
theorem M0(l:List Int)(hl:l.length=18)(b:Bool)(hb:b=true↔B0 l)(w:World):
  Calls Tryz.prog 113 #[.agg (IV .i64 l)] w fun e w'=>e= .returned (.bool b)/\Below w.heap.size w w':=by
 by_cases h0:nth l 0=0
 ·rw[Jd h0]at hb;refine(Sn l hl h0 w).mono fun e w' ⟨he,hw⟩=>⟨?_,hw⟩
  rw[he];congr 2
  rw[Bool.eq_iff_iff,hb];simp
 ·rw[D9 h0]at hb;by_cases h1:1<=nth l 0/\nth l 0<=2
  ·by_cases h2:0<=nth l 1/\nth l 1<=100
   ·by_cases h3:0<=nth l 2/\nth l 2<=136704
    ·by_cases h4:0<=nth l 3/\nth l 3<=1099511627776
     ·refine Sm l hl h0 h1 h2 h3 h4 b ?_ w;rw[hb,rA l hl];exact⟨fun h=>h.2,fun h=>⟨⟨h1,h2,h3,h4⟩,h⟩⟩
     ·rw[Co hb (fun h=>h4 h.1.2.2.2)];exact Uv l hl h0 h1 h2 h3 h4 w
    ·rw[Co hb (fun h=>h3 h.1.2.2.1)];exact Uu l hl h0 h1 h2 h3 w
   ·rw[Co hb (fun h=>h2 h.1.2.1)];exact Ut l hl h0 h1 h2 w
  ·rw[Co hb (fun h=>h1 h.1.1)];exact Us l hl h0 h1 w
theorem xR(x:Nat)(w:World):Calls Tryz.prog 123 #[.pointer (some ⟨x,0,none⟩)] w fun e w'=>e= .returned (.pointer (some ⟨x,0,none⟩))/\Below w.heap.size w w':=by
 go_enter Tryz.func123,Tryz.ntmps123;go_wp2_with fail;go_ret;exact⟨rfl,Below.refl _ _⟩
theorem xS(x:Nat)(w:World):Calls Tryz.prog 124 #[.pointer (some ⟨x,0,none⟩)] w fun e w'=>e= .returned (.pointer (some ⟨x,1,none⟩))/\Below w.heap.size w w':=by
 go_enter Tryz.func124,Tryz.ntmps124;go_wp2_with fail;go_ret;exact⟨rfl,Below.refl _ _⟩
theorem xU(x:Nat)(w:World):Calls Tryz.prog 125 #[.pointer (some ⟨x,0,none⟩)] w fun e w'=>e= .returned (.pointer (some ⟨x,2,none⟩))/\Below w.heap.size w w':=by
 go_enter Tryz.func125,Tryz.ntmps125;go_wp2_with fail;go_ret;exact⟨rfl,Below.refl _ _⟩
theorem xV(x:Nat)(w:World):Calls Tryz.prog 126 #[.pointer (some ⟨x,0,none⟩)] w fun e w'=>e= .returned (.pointer (some ⟨x,3,none⟩))/\Below w.heap.size w w':=by
 go_enter Tryz.func126,Tryz.ntmps126;go_wp2_with fail;go_ret;exact⟨rfl,Below.refl _ _⟩
theorem xW(x:Nat)(w:World):Calls Tryz.prog 127 #[.pointer (some ⟨x,0,none⟩)] w fun e w'=>e= .returned (.pointer (some ⟨x,16,none⟩))/\Below w.heap.size w w':=by
 go_enter Tryz.func127,Tryz.ntmps127;go_wp2_with fail;go_ret;exact⟨rfl,Below.refl _ _⟩
theorem xX(x:Nat)(w:World):Calls Tryz.prog 128 #[.pointer (some ⟨x,0,none⟩)] w fun e w'=>e= .returned (.pointer (some ⟨x,17,none⟩))/\Below w.heap.size w w':=by
 go_enter Tryz.func128,Tryz.ntmps128;go_wp2_with fail;go_ret;exact⟨rfl,Below.refl _ _⟩
theorem xY(x c:Nat)(i:Nat)(hi:i<12)(w:World)(hc:hat w c=some (.cells #[.int .i64 i] 3)):
  Calls Tryz.prog 129 #[.pointer (some ⟨x,0,none⟩),.pointer (some ⟨c,0,none⟩)] w fun e w'=>e= .returned (.pointer (some ⟨x,4+i,none⟩))/\Below w.heap.size w w':=by
 have hi':(i:Int)<12:=by omega
 go_enter Tryz.func129,Tryz.ntmps129;go_wp2_with fail;go_quiet (fail)
 go_wp2_with fail;go_ret;exact⟨rfl,Qj (Below.refl _ _) _⟩
theorem Yi(c:Nat->Nat)(j:Nat)(hj:j<18)(x:Nat)(w:World)(hc:∀ j,j<12->hat w (c j)=some (.cells #[.int .i64 j] 3)):
  ∃ f args,(∀ (ρ:Operand->Value) (t u:Tmp) (ats:Array TypeId) (ty:TypeId) (pos:String) (after:Array Edge) (d:Option Tmp),ρ (.tmp t)=fFn c j->ρ (.tmp u)= .pointer (some ⟨x,0,none⟩)->
   (execOp ρ {dst:=d,op:= .call {callee:= .value (.tmp t),args:= #[.tmp u],argTypes:=ats},type:=ty,pos:=pos,after:=after,guard:=none}).run Tryz.prog w= .ok (.enter f args) w)/\
   Calls Tryz.prog f args w fun e w'=>e= .returned (.pointer (some ⟨x,Ci j,none⟩))/\Below w.heap.size w w':=by
 match j,hj with
 |0,_=>exact⟨123,#[.pointer (some ⟨x,0,none⟩)],fun ρ t u ats ty pos after d h1 h2=>by simp only[fFn]at h1;simp[go_sem,h1,h2],xR x w⟩
 |1,_=>exact⟨124,#[.pointer (some ⟨x,0,none⟩)],fun ρ t u ats ty pos after d h1 h2=>by simp only[fFn]at h1;simp[go_sem,h1,h2],xS x w⟩
 |2,_=>exact⟨125,#[.pointer (some ⟨x,0,none⟩)],fun ρ t u ats ty pos after d h1 h2=>by simp only[fFn]at h1;simp[go_sem,h1,h2],xU x w⟩
 |3,_=>exact⟨126,#[.pointer (some ⟨x,0,none⟩)],fun ρ t u ats ty pos after d h1 h2=>by simp only[fFn]at h1;simp[go_sem,h1,h2],xV x w⟩
 |4,_=>exact⟨127,#[.pointer (some ⟨x,0,none⟩)],fun ρ t u ats ty pos after d h1 h2=>by simp only[fFn]at h1;simp[go_sem,h1,h2],xW x w⟩
 |5,_=>exact⟨128,#[.pointer (some ⟨x,0,none⟩)],fun ρ t u ats ty pos after d h1 h2=>by simp only[fFn]at h1;simp[go_sem,h1,h2],xX x w⟩
 |j+6,hj=>exact⟨129,#[.pointer (some ⟨x,0,none⟩),.pointer (some ⟨c j,0,none⟩)],fun ρ t u ats ty pos after d h1 h2=>by simp only[fFn]at h1;simp[go_sem,h1,h2],xY x (c j) j (by omega) w (hc j (by omega))⟩
def qK(l:List Int)(s:List Int)(j:Nat):List Int:=setB s (fAt j) (fWd j) (nth l (Ci j))
def Ez(l:List Int)(n:Nat):List Int:=(List.range n).foldl (qK l) (zl 128)
def Cp(l:List Int):List Int:=Ez l 18
theorem C5(l:List Int)(n:Nat):Ez l (n+1)=setB (Ez l n) (fAt n) (fWd n) (nth l (Ci n)):=by
 unfold Ez;rw[List.range_succ,List.foldl_append];rfl
@[go_sem,simp] theorem Em (l:List Int) (n:Nat):(Ez l n).length=128:=by
 induction n with
 |zero=>rfl
 |succ n ih=>rw[C5,Eu,ih]
theorem Oh:∀ j,1<=fWd j/\fWd j<=8
 |0=>by decide|1=>by decide|2=>by decide|3=>by decide|4=>by decide|5=>by decide|_+6=>by simp[fWd]
theorem R1(j:Nat)(hj:j<18):fAt j+fWd j<=128:=by
 have:∀ j,j<18->fAt j+fWd j<=128:=by decide
 exact this j hj
theorem Yh(j:Nat)(hj:j<18):Ci j<18:=by
 have:∀ j,j<18->Ci j<18:=by decide
 exact this j hj
theorem Ls(l:List Int)(h:B0 l)(j:Nat)(hj:j<18):0<=nth l (Ci j)/\nth l (Ci j)<=1099511627776/\(fWd j<8->nth l (Ci j)<2^(8*fWd j)):=by
 by_cases h0:nth l 0=0
 ·rw[(Jd h0).1 h,Mf];refine⟨by omega,by omega,fun _=>?_⟩;exact Int.pow_pos (by omega)
 ·obtain⟨⟨h1,h2,h3,h4⟩,h5,-⟩:=(D9 h0).1 h;match j,hj with
  |0,_=>exact⟨by simp only[Ci];omega,by simp only[Ci];omega,fun _=>by simp only[Ci,fWd];omega⟩
  |1,_=>exact⟨by simp only[Ci];omega,by simp only[Ci];omega,fun _=>by simp only[Ci,fWd];omega⟩
  |2,_=>exact⟨by simp only[Ci];omega,by simp only[Ci];omega,fun _=>by simp only[Ci,fWd];omega⟩
  |3,_=>exact⟨by simp only[Ci];omega,by simp only[Ci];omega,fun h=>by simp only[fWd]at h;omega⟩
  |4,_=>have:=h5 16 (by omega) (by omega);exact⟨by simp only[Ci];omega,by simp only[Ci];omega,fun _=>by simp only[Ci,fWd];omega⟩
  |5,_=>have:=h5 17 (by omega) (by omega);exact⟨by simp only[Ci];omega,by simp only[Ci];omega,fun _=>by simp only[Ci,fWd];omega⟩
  |j+6,hj=>have:=h5 (4+j) (by omega) (by omega);exact⟨by simp only[Ci];omega,by simp only[Ci];omega,fun _=>by simp only[Ci,fWd];omega⟩
@[go_sem] theorem xH (c:Nat->Nat):∀ k,(fFn c k).oneCell'=true
 |0=>rfl|1=>rfl|2=>rfl|3=>rfl|4=>rfl|5=>rfl|_+6=>rfl
theorem Yk(c:Nat->Nat)(n k:Nat)(hk:k<n):((Iv c n).drop (k*3)).take 3=Wq c k:=by
 induction n with
 |zero=>omega
 |succ n ih=>
  rw[Kf];have hl:=Ie c n;by_cases h:k=n
  ·subst h;rw[List.drop_append_of_le_length (by omega),List.drop_of_length_le (by omega)];rfl
  ·have h3:k*3+3<=n*3:=(by omega);rw[List.drop_append_of_le_length (by omega),List.take_append_of_le_length (by simp;omega)];exact ih (by omega)
theorem K5(l:List Int)(hl:l.length=18)(h:¬ B0 l)(w:World):
  Calls Tryz.prog 88 #[.agg (IV .i64 l)] w fun e w'=>e= .returned (.tuple #[.agg (IV .u8 (zl 128)),.int .i64 61])/\Below w.heap.size w w':=by
 have H:=zA h;clear h;go_enter Tryz.func88,Tryz.ntmps88;go_wp2_with fail;refine(M0 l hl false (by simp;exact H.out) _).mono ?_;rintro e w1 ⟨rfl,hb1⟩;have hb:=Ad (((Below.refl w.heap.size w).alloc (Nat.le_refl _) _).alloc (by simp) _) hb1 (by simp;omega);obtain⟨f1,z1⟩:=hop hb1 (k:=w.heap.size+1) (o:= .cells (IV .u8 (zl 128)) 47) (by simp[go_sem]);clear hb1;go_wp2_with fail;exact Aw Cq rfl (cs:=IV .u8 (zl 128)) rfl (Ar _ _ _ _ _ _ f1) (by simp) rfl ⟨rfl,Ag hb (by omega) _⟩
theorem K6(l:List Int)(hl:l.length=18)(h:B0 l)(w:World):
  Calls Tryz.prog 88 #[.agg (IV .i64 l)] w fun e w'=>e= .returned (.tuple #[.agg (IV .u8 (Cp l)),.int .i64 0])/\Below w.heap.size w w':=by
 have H:=zA h;clear h;go_enter Tryz.func88,Tryz.ntmps88;go_wp2_with fail;refine(M0 l hl true (by simp;exact H.out) _).mono ?_;rintro e w1 ⟨rfl,hb1⟩;have hb:=Ad (((Below.refl w.heap.size w).alloc (Nat.le_refl _) _).alloc (by simp) _) hb1 (by simp;omega);obtain⟨f0,z0⟩:=hop hb1 (k:=w.heap.size) (o:= .cells (IV .i64 l) 78) (by simp[go_sem]);obtain⟨f1,z1⟩:=hop hb1 (k:=w.heap.size+1) (o:= .cells (IV .u8 (zl 128)) 47) (by simp[go_sem]);clear hb1;go_wp2_with fail;have hb:=As hb (by omega) (.cells (IV .u8 (zl 128)) 47);obtain⟨f0,z0⟩:=B7 w1 (.cells (IV .u8 (zl 128)) 47) f0;obtain⟨f1,z1⟩:=B7 w1 (.cells (IV .u8 (zl 128)) 47) f1;obtain⟨f4,z4⟩:=A6 w1 (.cells (IV .u8 (zl 128)) 47);refine(R5 _).mono ?_;rintro e w2 ⟨gf,cap,c,cur,rfl,hb2,hgf,ff,hcur,hc⟩;have hb:=Ad hb hb2 (by omega);obtain⟨f0,z0⟩:=hop hb2 f0;obtain⟨f1,z1⟩:=hop hb2 f1;obtain⟨f4,z4⟩:=hop hb2 f4;have zf:=Aa ff;have hg4:w.heap.size+1<w1.heap.size:=by omega
 have hgf4:w1.heap.size<gf:=by simp only[World.size_alloc]at hgf;omega
 clear hb2 hgf;generalize w1.heap.size=g4 at*;have hcs:54<=cur.size:=by
  have:=congrArg List.length hcur;rw[Ie]at this;simp at this;omega
 have hrow:∀ k,k<18->cur.extract (k*3) (k*3+3)= #[.int .i64 (fAt k),.int .i64 (fWd k),fFn c k]:=by
  intro k hk;have e:=Yk c 18 k hk;rw[<-hcur]at e;apply Array.ext'
  have e2:(cur.toList.drop (k*3)).take 3=Wq c k:=by
   rw[<-e,List.drop_take,List.take_take,show min 3 (54-k*3)=3 by omega]
  simp only[Array.toList_extract,List.extract_eq_take_drop,show k*3+3-k*3=3 by omega,e2];rfl
 have HROW:=zA hrow;have HC:=zA hc;clear hrow hc hcur;go_wp2_with fail
 go_loopw [13] (fun i wr=>∃ k:Nat,k<=18/\i= .int .i64 k/\hat wr w.heap.size=some (.cells (IV .i64 l) 78)/\hat wr (w.heap.size+1)=some (.cells (IV .u8 (zl 128)) 47)/\hat wr g4=some (.cells (IV .u8 (Ez l k)) 47)
   /\hat wr gf=some (.cells cur 178)/\(∀ j,j<12->hat wr (c j)=some (.cells #[.int .i64 j] 3))/\Below w.heap.size w wr) (fun i _=>18-(intOf i).toNat)
 case atStart=>exact⟨0,by omega,rfl,f0,f1,f4,ff,HC.out,hb⟩
 case round=>
  clear f0 f1 f4 ff HC hb z0 z1 z4 zf;obtain⟨k,hk,rfl,f0,f1,f4,ff,hc,hb⟩:=hrel;have HC:=zA hc;clear hc;by_cases hkw:k<18
  ·have hrk:=HROW.out k hkw;have hk3:k*3+3<=cur.size:=(by omega);have z0:=Aa f0;have z1:=Aa f1;have z4:=Aa f4;have hv:=Ls l H.out k hkw;have hfc:=Yh k hkw;have HV:=zA hv;clear hv;have HK1:=zA (C5 l k);go_wp2_with fail;have hbn:=As hb (by omega) (.cells #[.int .i64 (fAt k),.int .i64 (fWd k),fFn c k] 178);obtain⟨f0,z0⟩:=B7 wr (.cells #[.int .i64 (fAt k),.int .i64 (fWd k),fFn c k] 178) f0;obtain⟨f1,z1⟩:=B7 wr (.cells #[.int .i64 (fAt k),.int .i64 (fWd k),fFn c k] 178) f1;obtain⟨f4,z4⟩:=B7 wr (.cells #[.int .i64 (fAt k),.int .i64 (fWd k),fFn c k] 178) f4;obtain⟨ff,zf⟩:=B7 wr (.cells #[.int .i64 (fAt k),.int .i64 (fWd k),fFn c k] 178) ff;obtain⟨f6,z6⟩:=A6 wr (.cells #[.int .i64 (fAt k),.int .i64 (fWd k),fFn c k] 178);have HC2:=zA (fun j hj=>(B7 wr (.cells #[.int .i64 (fAt k),.int .i64 (fWd k),fFn c k] 178) (HC.out j hj)).1);clear hb HC;generalize wr.alloc (.cells #[.int .i64 (fAt k),.int .i64 (fWd k),fFn c k] 178)=w3 at*;generalize wr.heap.size=g6 at*
   refine Ba (by kernel_rfl) 11 (by decide) rfl (fun i=>match i with
    |0=> .agg (IV .u8 (Ez l k))|1=> .pointer (some ⟨g6,0,none⟩)|2=> .int .i64 (fAt k)|3=> .pointer (some ⟨g6,1,none⟩)|4=> .int .i64 (fWd k)
    |5=> .pointer (some ⟨g6,2,none⟩)|6=>fFn c k|7=> .pointer (some ⟨w.heap.size,Ci k,none⟩)|8=> .pointer (some ⟨w.heap.size,Ci k,none⟩)
    |9=> .int .i64 (nth l (Ci k))|_=> .agg (IV .u8 (Ez l (k+1)))) ?_ ?_
   ·intro i o hi ho a' w' hB hS hF;have hi':i=0\/i=1\/i=2\/i=3\/i=4\/i=5\/i=6\/i=7\/i=8\/i=9\/i=10:=(by omega);have e6:=gtx ((hS 6 (by decide)).trans rfl:gt a' 6= .pointer (some ⟨g6,0,none⟩));have f6:=(hop hB f6).1;have f4:=(hop hB f4).1;have f0:=(hop hB f0).1;rcases hi' with rfl|rfl|rfl|rfl|rfl|rfl|rfl|rfl|rfl|rfl|rfl
    all_goals (have ho':=Option.some.inj ho;subst ho')
    ·exact Bp 47 128 Cq (.tmp 4) rfl rfl rfl g4 _ ((hS 4 (by decide)).trans rfl) f4 (by simp) ⟨rfl,hB⟩
    ·refine Ae rfl rfl (v:= .pointer (some ⟨g6,0,none⟩)) (w1:=w') ?_ ⟨rfl,hB⟩;simp[go_sem,e6]
    ·exact Bu 3 K4 (.tmp 18) rfl rfl rfl g6 0 _ _ (hF 1 (by decide) _ 18 rfl rfl) f6 rfl ⟨rfl,hB⟩
    ·refine Ae rfl rfl (v:= .pointer (some ⟨g6,1,none⟩)) (w1:=w') ?_ ⟨rfl,hB⟩;simp[go_sem,e6]
    ·exact Bu 3 K4 (.tmp 20) rfl rfl rfl g6 1 _ _ (hF 3 (by decide) _ 20 rfl rfl) f6 rfl ⟨rfl,hB⟩
    ·refine Ae rfl rfl (v:= .pointer (some ⟨g6,2,none⟩)) (w1:=w') ?_ ⟨rfl,hB⟩;simp[go_sem,e6]
    ·exact Bu 176 sC (.tmp 22) rfl rfl rfl g6 2 _ _ (hF 5 (by decide) _ 22 rfl rfl) f6 rfl ⟨rfl,hB⟩
    ·have e0:=hF 6 (by decide) _ 23 rfl rfl;have e1:=((hS 1 (by decide)).trans rfl:gt a' 1= .pointer (some ⟨w.heap.size,0,none⟩));obtain⟨f,args,hr,hcall⟩:=Yi c k hkw w.heap.size w' (fun j hj=>(hop hB (HC2.out j hj)).1);refine Bn rfl rfl (hr _ 23 1 _ _ _ _ _ e0 e1) hcall ?_;rintro e w'' ⟨rfl,hb'⟩;exact⟨_,rfl,rfl,Ad hB hb' hB.size⟩
    ·have e0:=gtx (hF 7 (by decide) _ 24 rfl rfl);refine Ae rfl rfl (v:= .pointer (some ⟨w.heap.size,Ci k,none⟩)) (w1:=w') ?_ ⟨rfl,hB⟩;simp[go_sem,e0]
    ·exact Bu 3 K4 (.tmp 25) rfl rfl rfl w.heap.size (Ci k) _ _ (hF 8 (by decide) _ 25 rfl rfl) f0 (Lj _ _ _ (by omega)) ⟨rfl,hB⟩
    ·have e0:=gtx (hF 0 (by decide) _ 17 rfl rfl);have e1:=gtx (hF 2 (by decide) _ 19 rfl rfl);have e2:=gtx (hF 4 (by decide) _ 21 rfl rfl);have e3:=gtx (hF 9 (by decide) _ 26 rfl rfl)
     refine Bn (f:=107) (args:= #[.agg (IV .u8 (Ez l k)),.int .i64 (fAt k),.int .i64 (fWd k),.int .i64 (nth l (Ci k))]) rfl rfl (by simp[go_sem,e0,e1,e2,e3])
      (Py _ (by simp) (fAt k) (fWd k) (nth l (Ci k)) w' (Oh k).1 (Oh k).2 (R1 k hkw) HV.out.1 (by have:=HV.out.2.1;omega) HV.out.2.2) ?_
     rintro e w'' ⟨rfl,hb'⟩;exact⟨_,rfl,(by rw[HK1.out];rfl),Ad hB hb' hB.size⟩
   ·intro w' hB;obtain⟨f0,z0⟩:=hop hB f0;obtain⟨f1,z1⟩:=hop hB f1;obtain⟨f4,z4⟩:=hop hB f4;obtain⟨ff,zf⟩:=hop hB ff;have HC3:=zA (fun j hj=>(hop hB (HC2.out j hj)).1);have hb:=Ad hbn hB hbn.size;clear hB HC2 f6 hbn;simp only[Bi,List.take,List.drop,List.take_succ_cons,List.drop_succ_cons,Act.put,List.setIfInBounds_toArray,List.set_cons_zero,List.set_cons_succ];go_wp2_with fail;go_roundw
    case rel=>
     refine⟨k+1,by omega,by go_num,(Gm f0 _ _ (by omega)).1,(Gm f1 _ _ (by omega)).1,(Ed f4 _).1,(Gm ff _ _ (by omega)).1,fun j hj=>?_,Ag hb (by omega) _⟩;have:=HC3.out j hj;refine(Gm this _ _ ?_).1;intro e;rw[e,f4]at this;simp at this
    case measure=>(show 18-(k+1)<18-k);omega
  ·obtain rfl:k=18:=(by omega);go_wp2_with fail;exact Aw Cq rfl (cs:=IV .u8 (Ez l 18)) rfl (Ar _ _ _ _ _ _ f1) (by simp) rfl ⟨rfl,Ag hb (by omega) _⟩
theorem Tp(l:List Int)(hl:l.length=18)(h0:nth l 0=0)(w:World):
  Calls Tryz.prog 93 #[.agg (IV .i64 l)] w fun e w'=>e= .returned (.bool (decide (l=zl 18)))/\Below w.heap.size w w':=by
 have d0:(nth l 0==0)=true:=by simpa using h0
 clear h0;go_enter Tryz.func93,Tryz.ntmps93;go_wp2_with fail;go_ret;exact⟨rfl,(Below.refl _ _).alloc (Nat.le_refl _) _⟩
theorem Ti(l:List Int)(hl:l.length=18)(h0:nth l 0≠0)(h1:¬ (1<=nth l 0/\nth l 0<=2))(w:World):
  Calls Tryz.prog 93 #[.agg (IV .i64 l)] w fun e w'=>e= .returned (.bool false)/\Below w.heap.size w w':=by
 have d0:(nth l 0==0)=false:=by simpa using h0
 have d1:(nth l 0 !=1)=true:=by simp;omega
 have d2:(nth l 0 !=2)=true:=by simp;omega
 clear h0 h1;go_enter Tryz.func93,Tryz.ntmps93;go_wp2_with fail;go_ret;exact⟨rfl,(Below.refl _ _).alloc (Nat.le_refl _) _⟩
theorem Tj(l:List Int)(hl:l.length=18)(hk:nth l 0=1)(h1:¬ (0<=nth l 1/\nth l 1<=100))(w:World):
  Calls Tryz.prog 93 #[.agg (IV .i64 l)] w fun e w'=>e= .returned (.bool false)/\Below w.heap.size w w':=by
 have d1:(nth l 0 !=1)=false:=by simp[hk]
 have d0:(nth l 0==0)=false:=by simp[hk]
 have H1:=zA h1;clear hk h1;go_enter Tryz.func93,Tryz.ntmps93;go_wp2_with fail;refine(C1 _ _ _ _ H1.out).mono ?_;rintro e w' ⟨rfl,rfl⟩;go_wp2_with fail;go_ret;exact⟨rfl,(Below.refl _ _).alloc (Nat.le_refl _) _⟩
theorem Tk(l:List Int)(hl:l.length=18)(hk:nth l 0=1)(h1:0<=nth l 1/\nth l 1<=100)(h2:¬ (0<=nth l 2/\nth l 2<=136704))(w:World):
  Calls Tryz.prog 93 #[.agg (IV .i64 l)] w fun e w'=>e= .returned (.bool false)/\Below w.heap.size w w':=by
 have d1:(nth l 0 !=1)=false:=by simp[hk]
 have d0:(nth l 0==0)=false:=by simp[hk]
 have H1:=zA h1;have H2:=zA h2;clear hk h1 h2;go_enter Tryz.func93,Tryz.ntmps93;go_wp2_with fail;refine(A5 _ _ _ _ H1.out).mono ?_;rintro e w' ⟨rfl,rfl⟩;go_wp2_with fail;refine(C1 _ _ _ _ H2.out).mono ?_;rintro e w' ⟨rfl,rfl⟩;go_wp2_with fail;go_ret;exact⟨rfl,(Below.refl _ _).alloc (Nat.le_refl _) _⟩
theorem Tl(l:List Int)(hl:l.length=18)(hk:nth l 0=1)(h1:0<=nth l 1/\nth l 1<=100)(h2:0<=nth l 2/\nth l 2<=136704)(h3:¬ (0<=nth l 3/\nth l 3<=1099511627776))(w:World):
  Calls Tryz.prog 93 #[.agg (IV .i64 l)] w fun e w'=>e= .returned (.bool false)/\Below w.heap.size w w':=by
 have d1:(nth l 0 !=1)=false:=by simp[hk]
 have d0:(nth l 0==0)=false:=by simp[hk]
 have H1:=zA h1;have H2:=zA h2;have H3:=zA h3;clear hk h1 h2 h3;go_enter Tryz.func93,Tryz.ntmps93;go_wp2_with fail;refine(A5 _ _ _ _ H1.out).mono ?_;rintro e w' ⟨rfl,rfl⟩;go_wp2_with fail;refine(A5 _ _ _ _ H2.out).mono ?_;rintro e w' ⟨rfl,rfl⟩;go_wp2_with fail;refine(C1 _ _ _ _ H3.out).mono ?_;rintro e w' ⟨rfl,rfl⟩;go_wp2_with fail;go_ret;exact⟨rfl,(Below.refl _ _).alloc (Nat.le_refl _) _⟩
theorem Tm(l:List Int)(hl:l.length=18)(hk:nth l 0=2)(h1:¬ (0<=nth l 1/\nth l 1<=100))(w:World):
  Calls Tryz.prog 93 #[.agg (IV .i64 l)] w fun e w'=>e= .returned (.bool false)/\Below w.heap.size w w':=by
 have d1:(nth l 0 !=1)=true:=by simp[hk]
 have d2:(nth l 0 !=2)=false:=by simp[hk]
 have d0:(nth l 0==0)=false:=by simp[hk]
 have H1:=zA h1;clear hk h1;go_enter Tryz.func93,Tryz.ntmps93;go_wp2_with fail;refine(C1 _ _ _ _ H1.out).mono ?_;rintro e w' ⟨rfl,rfl⟩;go_wp2_with fail;go_ret;exact⟨rfl,(Below.refl _ _).alloc (Nat.le_refl _) _⟩
theorem Tn(l:List Int)(hl:l.length=18)(hk:nth l 0=2)(h1:0<=nth l 1/\nth l 1<=100)(h2:¬ (0<=nth l 2/\nth l 2<=136704))(w:World):
  Calls Tryz.prog 93 #[.agg (IV .i64 l)] w fun e w'=>e= .returned (.bool false)/\Below w.heap.size w w':=by
 have d1:(nth l 0 !=1)=true:=by simp[hk]
 have d2:(nth l 0 !=2)=false:=by simp[hk]
 have d0:(nth l 0==0)=false:=by simp[hk]
 have H1:=zA h1;have H2:=zA h2;clear hk h1 h2;go_enter Tryz.func93,Tryz.ntmps93;go_wp2_with fail;refine(A5 _ _ _ _ H1.out).mono ?_;rintro e w' ⟨rfl,rfl⟩;go_wp2_with fail;refine(C1 _ _ _ _ H2.out).mono ?_;rintro e w' ⟨rfl,rfl⟩;go_wp2_with fail;go_ret;exact⟨rfl,(Below.refl _ _).alloc (Nat.le_refl _) _⟩
theorem To(l:List Int)(hl:l.length=18)(hk:nth l 0=2)(h1:0<=nth l 1/\nth l 1<=100)(h2:0<=nth l 2/\nth l 2<=136704)(h3:¬ (0<=nth l 3/\nth l 3<=1099511627776))(w:World):
  Calls Tryz.prog 93 #[.agg (IV .i64 l)] w fun e w'=>e= .returned (.bool false)/\Below w.heap.size w w':=by
 have d1:(nth l 0 !=1)=true:=by simp[hk]
 have d2:(nth l 0 !=2)=false:=by simp[hk]
 have d0:(nth l 0==0)=false:=by simp[hk]
 have H1:=zA h1;have H2:=zA h2;have H3:=zA h3;clear hk h1 h2 h3;go_enter Tryz.func93,Tryz.ntmps93;go_wp2_with fail;refine(A5 _ _ _ _ H1.out).mono ?_;rintro e w' ⟨rfl,rfl⟩;go_wp2_with fail;refine(A5 _ _ _ _ H2.out).mono ?_;rintro e w' ⟨rfl,rfl⟩;go_wp2_with fail;refine(C1 _ _ _ _ H3.out).mono ?_;rintro e w' ⟨rfl,rfl⟩;go_wp2_with fail;go_ret;exact⟨rfl,(Below.refl _ _).alloc (Nat.le_refl _) _⟩
theorem Q5(l:List Int)(hl:l.length=18)(hk:nth l 0=1)(h1:0<=nth l 1/\nth l 1<=100)(h2:0<=nth l 2/\nth l 2<=136704)(h3:0<=nth l 3/\nth l 3<=1099511627776)(b:Bool)(hb:b=true↔(∀ j,4<=j->j<18->0<=nth l j/\nth l j<=4294967295))(w:World):
  Calls Tryz.prog 93 #[.agg (IV .i64 l)] w fun e w'=>e= .returned (.bool b)/\Below w.heap.size w w':=by
 have d1:(nth l 0 !=1)=false:=by simp[hk]
 have d0:(nth l 0==0)=false:=by simp[hk]
 have d3:(nth l 0==2)=false:=by simp[hk]
 have H1:=zA h1;have H2:=zA h2;have H3:=zA h3;have HB:=zA hb;have hz:0<=nth l 2:=h2.1;clear hk hb h1 h2 h3;have hbw:=(Below.refl w.heap.size w).alloc (Nat.le_refl _) (.cells (IV .i64 l) 78);have HBW:=zA hbw;clear hbw;go_enter Tryz.func93,Tryz.ntmps93;go_wp2_with fail;refine(A5 _ _ _ _ H1.out).mono ?_;rintro e w' ⟨rfl,rfl⟩;go_wp2_with fail;refine(A5 _ _ _ _ H2.out).mono ?_;rintro e w' ⟨rfl,rfl⟩;go_wp2_with fail;refine(A5 _ _ _ _ H3.out).mono ?_;rintro e w' ⟨rfl,rfl⟩;go_wp2_with fail;go_loop [3] (fun i=>∃ k:Nat,k<=12/\i= .int .i64 k/\∀ j,4<=j->j<4+k->0<=nth l j/\nth l j<=4294967295) (fun i=>12-(intOf i).toNat)
 case atStart=>exact⟨0,by omega,rfl,fun j _ hj=>by omega⟩
 case round=>
  obtain⟨k,hk,rfl,hok⟩:=hrel;have HOK:=zA hok;clear hok;by_cases hkw:k<12
  ·have hkl:4+k<18:=(by omega);by_cases hp:0<=nth l (4+k)/\nth l (4+k)<=4294967295
   ·have HP:=zA hp;clear hp;go_wp2_with fail;refine(A5 _ _ _ _ HP.out).mono ?_;rintro e w' ⟨rfl,rfl⟩;go_wp2_with fail;go_round
    case rel=>
     refine⟨k+1,by omega,by go_num,fun j h1 hj=>?_⟩;by_cases hjk:j=4+k
     ·subst hjk;exact HP.out
     ·exact HOK.out j h1 (by omega)
    case measure=>(show 12-(k+1)<12-k);omega
   ·have HP:=zA hp;clear hp;have hbf:b=false:=Co HB.out (fun h=>HP.out (h (4+k) (by omega) (by omega)));have HBF:=zA hbf;clear hbf;go_wp2_with fail;refine(C1 _ _ _ _ HP.out).mono ?_;rintro e w' ⟨rfl,rfl⟩;go_wp2_with fail;go_ret;exact⟨by rw[HBF.out];rfl,HBW.out⟩
  ·obtain rfl:k=12:=(by omega);by_cases h16:0<=nth l 16/\nth l 16<=4294967295
   ·have H16:=zA h16;clear h16;by_cases h17:0<=nth l 17/\nth l 17<=4294967295
    ·have H17:=zA h17;clear h17;have hall:∀ j,4<=j->j<18->0<=nth l j/\nth l j<=4294967295:=by
      intro j h1 h2;by_cases e16:j=16
      ·subst e16;exact H16.out
      ·by_cases e17:j=17
       ·subst e17;exact H17.out
       ·exact HOK.out j h1 (by omega)
     have hbf:b=true:=Mg HB.out hall;have HBF:=zA hbf;clear hbf hall;go_wp2_with fail;refine(A5 _ _ _ _ H16.out).mono ?_;rintro e w' ⟨rfl,rfl⟩;go_wp2_with fail;refine(A5 _ _ _ _ H17.out).mono ?_;rintro e w' ⟨rfl,rfl⟩;go_wp2_with fail;go_ret;exact⟨by rw[HBF.out];rfl,HBW.out⟩
    ·have H17:=zA h17;clear h17;have hbf:b=false:=Co HB.out (fun h=>H17.out (h 17 (by omega) (by omega)));have HBF:=zA hbf;clear hbf;go_wp2_with fail;refine(A5 _ _ _ _ H16.out).mono ?_;rintro e w' ⟨rfl,rfl⟩;go_wp2_with fail;refine(C1 _ _ _ _ H17.out).mono ?_;rintro e w' ⟨rfl,rfl⟩;go_wp2_with fail;go_ret;exact⟨by rw[HBF.out];rfl,HBW.out⟩
   ·have H16:=zA h16;clear h16;have hbf:b=false:=Co HB.out (fun h=>H16.out (h 16 (by omega) (by omega)));have HBF:=zA hbf;clear hbf;go_wp2_with fail;refine(C1 _ _ _ _ H16.out).mono ?_;rintro e w' ⟨rfl,rfl⟩;go_wp2_with fail;go_ret;exact⟨by rw[HBF.out];rfl,HBW.out⟩
theorem Q6(l:List Int)(hl:l.length=18)(hk:nth l 0=2)(h1:0<=nth l 1/\nth l 1<=100)(h2:0<=nth l 2/\nth l 2<=136704)(h3:0<=nth l 3/\nth l 3<=1099511627776)(b:Bool)(hb:b=true↔(∀ j,4<=j->j<18->0<=nth l j/\nth l j<=4294967295)/\nth l 2%128=0)(w:World):
  Calls Tryz.prog 93 #[.agg (IV .i64 l)] w fun e w'=>e= .returned (.bool b)/\Below w.heap.size w w':=by
 have d1:(nth l 0 !=1)=true:=by simp[hk]
 have d2:(nth l 0 !=2)=false:=by simp[hk]
 have d0:(nth l 0==0)=false:=by simp[hk]
 have d3:(nth l 0==2)=true:=by simp[hk]
 have H1:=zA h1;have H2:=zA h2;have H3:=zA h3;have HB:=zA hb;have hz:0<=nth l 2:=h2.1;clear hk hb h1 h2 h3;have hbw:=(Below.refl w.heap.size w).alloc (Nat.le_refl _) (.cells (IV .i64 l) 78);have HBW:=zA hbw;clear hbw;by_cases hm:nth l 2%128=0
 rotate_left
 ·have dm:(nth l 2%128 !=0)=true:=(by simp[hm]);have hbf:b=false:=Co HB.out (fun h=>hm h.2);have HBF:=zA hbf;clear hbf hm;go_enter Tryz.func93,Tryz.ntmps93;go_wp2_with fail;refine(A5 _ _ _ _ H1.out).mono ?_;rintro e w' ⟨rfl,rfl⟩;go_wp2_with fail;refine(A5 _ _ _ _ H2.out).mono ?_;rintro e w' ⟨rfl,rfl⟩;go_wp2_with fail;refine(A5 _ _ _ _ H3.out).mono ?_;rintro e w' ⟨rfl,rfl⟩;go_wp2_with fail;go_ret;exact⟨by rw[HBF.out];rfl,HBW.out⟩
 have dm:(nth l 2%128 !=0)=false:=by simp[hm]
 have HM:=zA hm;clear hm;go_enter Tryz.func93,Tryz.ntmps93;go_wp2_with fail;refine(A5 _ _ _ _ H1.out).mono ?_;rintro e w' ⟨rfl,rfl⟩;go_wp2_with fail;refine(A5 _ _ _ _ H2.out).mono ?_;rintro e w' ⟨rfl,rfl⟩;go_wp2_with fail;refine(A5 _ _ _ _ H3.out).mono ?_;rintro e w' ⟨rfl,rfl⟩;go_wp2_with fail;go_loop [3] (fun i=>∃ k:Nat,k<=12/\i= .int .i64 k/\∀ j,4<=j->j<4+k->0<=nth l j/\nth l j<=4294967295) (fun i=>12-(intOf i).toNat)
 case atStart=>exact⟨0,by omega,rfl,fun j _ hj=>by omega⟩
 case round=>
  obtain⟨k,hk,rfl,hok⟩:=hrel;have HOK:=zA hok;clear hok;by_cases hkw:k<12
  ·have hkl:4+k<18:=(by omega);by_cases hp:0<=nth l (4+k)/\nth l (4+k)<=4294967295
   ·have HP:=zA hp;clear hp;go_wp2_with fail;refine(A5 _ _ _ _ HP.out).mono ?_;rintro e w' ⟨rfl,rfl⟩;go_wp2_with fail;go_round
    case rel=>
     refine⟨k+1,by omega,by go_num,fun j h1 hj=>?_⟩;by_cases hjk:j=4+k
     ·subst hjk;exact HP.out
     ·exact HOK.out j h1 (by omega)
    case measure=>(show 12-(k+1)<12-k);omega
   ·have HP:=zA hp;clear hp;have hbf:b=false:=Co HB.out (fun h=>HP.out (h.1 (4+k) (by omega) (by omega)));have HBF:=zA hbf;clear hbf;go_wp2_with fail;refine(C1 _ _ _ _ HP.out).mono ?_;rintro e w' ⟨rfl,rfl⟩;go_wp2_with fail;go_ret;exact⟨by rw[HBF.out];rfl,HBW.out⟩
  ·obtain rfl:k=12:=(by omega);by_cases h16:0<=nth l 16/\nth l 16<=4294967295
   ·have H16:=zA h16;clear h16;by_cases h17:0<=nth l 17/\nth l 17<=4294967295
    ·have H17:=zA h17;clear h17;have hall:∀ j,4<=j->j<18->0<=nth l j/\nth l j<=4294967295:=by
      intro j h1 h2;by_cases e16:j=16
      ·subst e16;exact H16.out
      ·by_cases e17:j=17
       ·subst e17;exact H17.out
       ·exact HOK.out j h1 (by omega)
     have hbf:b=true:=Mg HB.out ⟨hall,HM.out⟩;have HBF:=zA hbf;clear hbf hall;go_wp2_with fail;refine(A5 _ _ _ _ H16.out).mono ?_;rintro e w' ⟨rfl,rfl⟩;go_wp2_with fail;refine(A5 _ _ _ _ H17.out).mono ?_;rintro e w' ⟨rfl,rfl⟩;go_wp2_with fail;go_ret;exact⟨by rw[HBF.out];rfl,HBW.out⟩
    ·have H17:=zA h17;clear h17;have hbf:b=false:=Co HB.out (fun h=>H17.out (h.1 17 (by omega) (by omega)));have HBF:=zA hbf;clear hbf;go_wp2_with fail;refine(A5 _ _ _ _ H16.out).mono ?_;rintro e w' ⟨rfl,rfl⟩;go_wp2_with fail;refine(C1 _ _ _ _ H17.out).mono ?_;rintro e w' ⟨rfl,rfl⟩;go_wp2_with fail;go_ret;exact⟨by rw[HBF.out];rfl,HBW.out⟩
   ·have H16:=zA h16;clear h16;have hbf:b=false:=Co HB.out (fun h=>H16.out (h.1 16 (by omega) (by omega)));have HBF:=zA hbf;clear hbf;go_wp2_with fail;refine(C1 _ _ _ _ H16.out).mono ?_;rintro e w' ⟨rfl,rfl⟩;go_wp2_with fail;go_ret;exact⟨by rw[HBF.out];rfl,HBW.out⟩
theorem M7(l:List Int)(hl:l.length=18)(b:Bool)(hb:b=true↔B0 l)(w:World):
  Calls Tryz.prog 93 #[.agg (IV .i64 l)] w fun e w'=>e= .returned (.bool b)/\Below w.heap.size w w':=by
 by_cases h0:nth l 0=0
 ·rw[Jd h0]at hb;refine(Tp l hl h0 w).mono fun e w' ⟨he,hw⟩=>⟨?_,hw⟩
  rw[he];congr 2
  rw[Bool.eq_iff_iff,hb];simp
 ·rw[D9 h0]at hb;by_cases h1:1<=nth l 0/\nth l 0<=2
  ·have hk:nth l 0=1\/nth l 0=2:=(by omega);by_cases h2:0<=nth l 1/\nth l 1<=100
   ·by_cases h3:0<=nth l 2/\nth l 2<=136704
    ·by_cases h4:0<=nth l 3/\nth l 3<=1099511627776
     ·rcases hk with hk|hk
      ·refine Q5 l hl hk h2 h3 h4 b ?_ w;rw[hb];exact⟨fun h=>h.2.1,fun h=>⟨⟨h1,h2,h3,h4⟩,h,.inl hk⟩⟩
      ·refine Q6 l hl hk h2 h3 h4 b ?_ w;rw[hb];exact⟨fun h=>⟨h.2.1,h.2.2.elim (fun h=>by omega) id⟩,fun h=>⟨⟨h1,h2,h3,h4⟩,h.1,.inr h.2⟩⟩
     ·rw[Co hb (fun h=>h4 h.1.2.2.2)];rcases hk with hk|hk
      ·exact Tl l hl hk h2 h3 h4 w
      ·exact To l hl hk h2 h3 h4 w
    ·rw[Co hb (fun h=>h3 h.1.2.2.1)];rcases hk with hk|hk
     ·exact Tk l hl hk h2 h3 w
     ·exact Tn l hl hk h2 h3 w
   ·rw[Co hb (fun h=>h2 h.1.2.1)];rcases hk with hk|hk
    ·exact Tj l hl hk h2 w
    ·exact Tm l hl hk h2 w
  ·rw[Co hb (fun h=>h1 h.1.1)];exact Ti l hl h0 h1 w
end Go.Proofs.YtmnecpnkkapflaaGreat
