import Derived.Deep.CutBlock
import Derived.Deep.CutRange
import Derived.Test.YtmnecpnkkapflaaGreatM04
import Derived.Test.YtmnecpnkkapflaaGreatM09
import Derived.Test.YtmnecpnkkapflaaGreatM12
import Derived.Test.YtmnecpnkkapflaaGreatM15
import Derived.Test.YtmnecpnkkapflaaGreatM19
namespace Go.Proofs.YtmnecpnkkapflaaGreat
set_option maxHeartbeats 16000000
set_option maxRecDepth 1000000
set_option linter.unusedSimpArgs false
set_option linter.unusedVariables false
open Go.RowKit
section
variable {OS:List Nat} {w0 w1 w w':World} {M L:Nat} {R:Nat->RP} {vl vn vg v:Value} {ol on og ot:Option Nat} {S X:Nat->Nat->Value} {y z:Nat->Value} {p r:Nat->Option Nat} {k:Nat}
theorem sI:(26:TypeId)≠3:=by decide
theorem Vo:(26:TypeId)≠47:=by decide
theorem vV:(26:TypeId)≠34:=by decide
theorem sJ:(26:TypeId)≠32:=by decide
structure SpW (OS:List Nat) (w0 w1 w:World) (M L:Nat) (R:Nat->RP) (vl vn vg:Value) (ol on og:Option Nat) (y:Nat->Value) (p:Nat->Option Nat) (k:Nat) (v:Value) (ot:Option Nat) (z:Nat->Value) (r:Nat->Option Nat):Prop where
 sp:SpL OS w0 w M R vl ol Er Gt
 eL:L=M*3
 num:Bx 32 1 w vn on L (nv R)
 g:Bx 32 1 w vg og L y
 gx:∀ j,j<L->Bx 3 1 w (y j) (p j) (nl R j+9) (Gt j)
 t:Bx 26 1 w v ot k z
 tl:∀ b,ot=some b->w0.heap.size<=b
 lo:∀ i,i<M->∀ b,(R i).o0=some b->b<w1.heap.size
 tx:∀ i,i<k->∃ B,w1.heap.size<=B/\Ex 47 128 w (R i).v0 (R i).o0 (z i) (r i) (R i).N 9 (Er i) B
 z:w1.heap.size<=w.heap.size
 z0:w0.heap.size<=w1.heap.size
theorem SpW.grown(h:SpW OS w0 w1 w M L R vl vn vg ol on og y p k v ot z r){B:Nat}{x:Value}{o:Option Nat}(hk:k<M)(hf:Fr (R k).o0.toList w w')(hx:Ex 47 128 w' (R k).v0 (R k).o0 x o (R k).N 9 (Er k) B):
  SpL OS w0 w' M R vl ol Er Gt/\Bx 32 1 w' vn on L (nv R)/\Bx 32 1 w' vg og L y/\(∀ j,j<L->Bx 3 1 w' (y j) (p j) (nl R j+9) (Gt j))/\Bx 26 1 w' v ot k z/\∀ i,i<k->∃ B,w1.heap.size<=B/\Ex 47 128 w' (R i).v0 (R i).o0 (z i) (r i) (R i).N 9 (Er i) B:=by
 have hs:=h.sp.s k hk;refine⟨h.sp.turnS' hk hf hx.l rfl,h.num.fr hf (fun b hb hm=>h.num.ne hs S6 hb (by simpa using hm) rfl),h.g.fr hf (fun b hb hm=>h.g.ne hs S6 hb (by simpa using hm) rfl),fun j hj=>(h.gx j hj).fr hf (fun b hb hm=>hs.ne (h.gx j hj) mE (by simpa using hm) hb rfl),h.t.fr hf (fun b hb hm=>h.t.ne hs Vo hb (by simpa using hm) rfl),fun i hi=>?_⟩;obtain⟨B',hB',hxj⟩:=h.tx i hi;refine⟨B',hB',hxj.fr hf (fun b hb hm=>h.sp.ds i k (by omega) hk (by omega) b hb (by simpa using hm)) (fun b hb hm=>?_)⟩;have hm':(R k).o0=some b:=by simpa using hm
 rcases hxj.ob hb with q|q
 ·exact h.sp.ds i k (by omega) hk (by omega) b q hm'
 ·have:=h.lo k hk b hm';omega
theorem SpW.next(h:SpW OS w0 w1 w M L R vl vn vg ol on og y p k v ot z r){w2:World}{B:Nat}{x v':Value}{o ot':Option Nat}(hk:k<M)(hf:Fr (R k).o0.toList w w')(hx:Ex 47 128 w' (R k).v0 (R k).o0 x o (R k).N 9 (Er k) B)(hB:w1.heap.size<=B)
  (hg:Bx 26 1 w2 v' ot' (k+1) (fun i=>if i<k then z i else x)) (hf2:Fr ot.toList w' w2) (ho:ot'=ot\/∃ g,ot'=some g/\w'.heap.size<=g):SpW OS w0 w1 w2 M L R vl vn vg ol on og y p (k+1) v' ot' (fun i=>if i<k then z i else x) (fun i=>if i<k then r i else o):=by
 obtain⟨g1,g2,g3,g4,g5,g6⟩:=h.grown hk hf hx;have hz':=Nat.le_trans h.z hf.size;have hgt:∀ b∈ot.toList,w0.heap.size<=b/\ot=some b:=fun b hb=>by
  have hb':ot=some b:=(by simpa using hb);exact⟨h.tl b hb',hb'⟩
 refine⟨g1.off hf2 (fun b hb=>(hgt b hb).1) (fun b hb hm=>?_) (fun b hb i hi hm=>?_) (fun b hb j hj hm=>?_),h.eL,g2.fr hf2 (fun b hb hm=>?_),g3.fr hf2 (fun b hb hm=>?_),fun j hj=>(g4 j hj).fr hf2 (fun b hb hm=>?_),hg,fun b hb=>?_,h.lo,fun j hj=>?_,Nat.le_trans hz' hf2.size,h.z0⟩
 ·exact g5.ne g1.l vV (hgt b hb).2 hm rfl
 ·exact g5.ne (g1.s i hi) Vo (hgt b hb).2 hm rfl
 ·exact g5.ne (g1.q j hj) sI (hgt b hb).2 hm rfl
 ·exact g5.ne g2 sJ (hgt b hm).2 hb rfl
 ·exact g5.ne g3 sJ (hgt b hm).2 hb rfl
 ·exact g5.ne (g4 j hj) sI (hgt b hm).2 hb rfl
 ·rcases ho with ho|⟨q,ho,hq⟩
  ·exact h.tl b (ho.symm.trans hb)
  ·rw[hb]at ho;cases ho;have:=h.z0;omega
 ·by_cases hjk:j<k
  ·obtain⟨B',hB',hxj⟩:=g6 j hjk;refine⟨B',hB',?_⟩;rw[if_pos hjk,if_pos hjk];exact hxj.fr hf2 (fun b hb hm=>g5.ne hxj.l Vo (hgt b hm).2 hb rfl) (fun b hb hm=>g5.ne hxj.x Vo (hgt b hm).2 hb rfl)
  ·obtain rfl:j=k:=(by omega);refine⟨B,hB,?_⟩;rw[if_neg hjk,if_neg hjk];exact hx.fr hf2 (fun b hb hm=>g5.ne hx.l Vo (hgt b hm).2 hb rfl) (fun b hb hm=>g5.ne hx.x Vo (hgt b hm).2 hb rfl)
end
section
variable {OS:List Nat} {w0 w1 w w':World} {M L:Nat} {R:Nat->RP} {gl fl cl:Nat} {ol:Option Nat} {gn fn cn:Nat} {on:Option Nat} {gg fg cg:Nat} {og:Option Nat} {y:Nat->Value} {p:Nat->Option Nat} {z:Nat->Value} {r:Nat->Option Nat}
theorem sp7(w:World)(h:SpW OS w0 w w M L R (.slice (some ⟨gl,fl,none⟩) M cl) (.slice (some ⟨gn,fn,none⟩) L cn) (.slice (some ⟨gg,fg,none⟩) L cg) ol on og y p 0 (.slice none 0 0) none z r)(hM:M<=24)(hM0:0<M)(u1 u2 u4 u5 u6 u7 u10 u11 u12 u13 u14 u15 u16 u17 u18 u19 u20 u21 u22 u23 u24 u25 u26 u27 u28 u29 u30 u31 u32 u33 u34 u35 u36 u37 u38 u39 u40 u41 u42 u43 u44 u45 u46 u47 u48 u49 u50 u51 u52 u53 u54 u55 u56 u57 u58 u59 u60 u61 u62 u63 u64 u65 u66 u67 u68 u69 u70 u71 u72 u73 u74 u75 u76 u77 u78 u79 u80 u81 u82 u83 u84 u85 u86 u87 u88 u89 u90 u91 u92 u93 u94 u95 u96 u97 u98 u99 u100 u101 u102 u103 u104 u105 u106 u107 u108 u109 u110 u111 u112 u113 u114 u115 u116 u117 u118 u119 u120 u121 u122 u123 u124 u125 u126 u127 u128 u129 u130 u131 u132 u133 u134 u135 u136 u137 u138 u139 u140 u141 u142 u143 u144 u145 u146 u147 u148 u149 u150 u151 u152 u153 u154 u155 u156 u157 u158 u159 u160 u161 u162 u163 u164 u165 u166 u167 u168 u169 u170 u171 u172 u173 u174 u175 u176 u177 u178 u179 u180 u181 u182 u183 u184 u185 u186 u187 u188 u189 u190 u191 u192 u193 u194 u195 u196 u197 u198 u199 u200 u201 u202 u203 u204 u205 u206 u207 u208 u209 u210 u211 u212 u213 u214 u215 u216 u217 u218 u219 u220 u221 u222 u223 u224 u225 u226 u227 u228 u229 u230 u231 u232 u233 u234:Value):
  Code.wp Tryz.prog (U1 7) (bodyPost Tryz.prog Tryz.f31 (spP OS w0)) ⟨#[.slice (some ⟨gl,fl,none⟩) M cl,u1,u2,.slice (some ⟨gn,fn,none⟩) L cn,u4,u5,u6,u7,.slice (some ⟨gg,fg,none⟩) L cg,.slice none 0 0,u10,u11,u12,u13,u14,u15,u16,u17,u18,u19,u20,u21,u22,u23,u24,u25,u26,u27,u28,u29,u30,u31,u32,u33,u34,u35,u36,u37,u38,u39,u40,u41,u42,u43,u44,u45,u46,u47,u48,u49,u50,u51,u52,u53,u54,u55,u56,u57,u58,u59,u60,u61,u62,u63,u64,u65,u66,u67,u68,u69,u70,u71,u72,u73,u74,u75,u76,u77,u78,u79,u80,u81,u82,u83,u84,u85,u86,u87,u88,u89,u90,u91,u92,u93,u94,u95,u96,u97,u98,u99,u100,u101,u102,u103,u104,u105,u106,u107,u108,u109,u110,u111,u112,u113,u114,u115,u116,u117,u118,u119,u120,u121,u122,u123,u124,u125,u126,u127,u128,u129,u130,u131,u132,u133,u134,u135,u136,u137,u138,u139,u140,u141,u142,u143,u144,u145,u146,u147,u148,u149,u150,u151,u152,u153,u154,u155,u156,u157,u158,u159,u160,u161,u162,u163,u164,u165,u166,u167,u168,u169,u170,u171,u172,u173,u174,u175,u176,u177,u178,u179,u180,u181,u182,u183,u184,u185,u186,u187,u188,u189,u190,u191,u192,u193,u194,u195,u196,u197,u198,u199,u200,u201,u202,u203,u204,u205,u206,u207,u208,u209,u210,u211,u212,u213,u214,u215,u216,u217,u218,u219,u220,u221,u222,u223,u224,u225,u226,u227,u228,u229,u230,u231,u232,u233,u234],[]⟩ w:=by
 conv=>arg 2;whnf
 have H:=zA h;clear h;go_upto_block 12 with fail
 go_cut [9]from 13 (fun v9 wx=>∃ ot z r,Hid (SpW OS w0 w wx M L R (.slice (some ⟨gl,fl,none⟩) M cl) (.slice (some ⟨gn,fn,none⟩) L cn) (.slice (some ⟨gg,fg,none⟩) L cg) ol on og y p M v9 ot z r))
 case first=>
  go_wp2_with fail;go_loopw [9,13] (fun v9 v wr=>∃ (i:Nat) (ot:Option Nat) (z:Nat->Value) (r:Nat->Option Nat),v= .int .i64 i/\i<=M/\Hid (SpW OS w0 w wr M L R (.slice (some ⟨gl,fl,none⟩) M cl) (.slice (some ⟨gn,fn,none⟩) L cn) (.slice (some ⟨gg,fg,none⟩) L cg) ol on og y p i v9 ot z r)) (fun _ v _=>M-(intOf v).toNat)
  case atStart=>exact⟨0,none,z,r,rfl,by omega,H⟩
  case round=>
   obtain⟨i,ot,z,r,rfl,hi,H⟩:=hrel;have hi0:(0:Int)<=(i:Int):=Int.natCast_nonneg _;by_cases hlt:i<M
   ·have hi1:(i:Int)<(M:Int):=(by omega);have hi24:(i:Int)<24:=(by omega);obtain⟨cs3,hcs3,hc3,-⟩:=H.out.sp.l.repc hlt;obtain⟨a4,c4,hz4⟩:=(H.out.sp.s i hlt).slice;have HX:Hid (Ex 47 128 wr (R i).v0 (R i).o0 (R i).v0 (R i).o0 (R i).N 0 (Er i) wr.heap.size):=zA (Ex.zero (H.out.sp.s i hlt) (H.out.sp.s i hlt).lt);rw[hz4]at hc3;rw[hz4]at HX;have HZ:=zA hz4;have l3:=Aa hcs3;clear hz4;go_wp2_with fail;clear hcs3 hc3 l3;obtain⟨w7,rfl⟩:∃ x,x=wr:=⟨_,rfl⟩;go_loopw [14,15] (fun x v wx=>∃ (q:Nat) (o:Option Nat),v= .int .i64 q/\q<=9/\(∃ a m c,x= .slice a m c)/\Hid (Ex 47 128 wx (.slice a4 (R i).N c4) (R i).o0 x o (R i).N q (Er i) w7.heap.size)/\Hid (Fr (R i).o0.toList w7 wx)) (fun _ v _=>9-(intOf v).toNat)
    case atStart=>exact⟨0,_,rfl,by omega,⟨_,_,_,rfl⟩,HX,zA (Fr.refl _ _)⟩
    case round=>
     obtain⟨q,o,rfl,hq,⟨xa,xm,xc,rfl⟩,HX,HF⟩:=hrel;by_cases hq9:q<9
     ·obtain⟨a,m,cc,w2,o',hr,hx2,hf2,ho2⟩:=uD HX.out (by omega) HF.out.size (H.out.sp.n0 i hlt) (by omega) 26;have HBS:Hid ((Instr.buildSlice 26 1 #[(0,.agg (IV .u8 ((zl 128).set 0 (1+(i:Int)))))]).run Tryz.prog wr= .ok (.slice (some ⟨wr.heap.size,0,none⟩) 1 1) (wr.alloc (.cells (IV .u8 [G6 (1+i)].flatten) 47))):=zA (pI [G6 (1+i)] (by simp[Fk]) (by simp) (by simp) wr);have HX2:=zA hx2;have HF2:Hid (Fr (R i).o0.toList w7 w2):=zA (((HF.out.mono (ex':=(R i).o0.toList++o.toList) (fun g hg=>List.mem_append_left _ hg)).trans (hf2.mono (fun g hg=>List.mem_append_right _ hg))).past (fun g hg=>by
       rcases List.mem_append.1 hg with hg|hg
       ·exact .inl hg
       ·rcases HX.out.ob (g:=g) (by simpa using hg)with hq|hq
        ·exact .inl (by simpa using hq)
        ·exact .inr hq))
      have HR1:=zA hr;clear hr hx2 hf2 ho2;go_upto_region 35 with fail;iterate 14 (first|go_values|go_skip|go_guarded|go_step|go_upon|go_back)
      refine V8 47 (.tmp 129) rfl _ rfl _ (Rv _ _) ?_;iterate 2 (first|go_values|go_skip|go_guarded|go_step|go_upon|go_back)
      refine uA 26 (.tmp 130) rfl _ rfl _ _ HBS.out ?_;iterate 1 (first|go_values|go_skip|go_guarded|go_step|go_upon|go_back)
      at_builtin;refine Ao _ rfl (.tmp 126) (.tmp 131) 26 rfl _ _ rfl rfl _ _ HR1.out ?_;go_wp2_with fail;go_roundw
      case rel=>exact⟨q+1,o',by go_num,by omega,⟨_,_,_,rfl⟩,HX2,HF2⟩
      case measure=>(show 9-(q+1)<9-q);omega
     ·obtain rfl:q=9:=(by omega);obtain⟨inf,e1,e2,e3,e4⟩:=qJ;have hXX:=HX.out;rw[<-HZ.out]at hXX;obtain⟨a,c,w2,ot',hr,hg2,hf2,ho2⟩:=Vn (ST:=88) (T:=26) Tryz.underlying88 e1 e2 e3 e4 (H.out.grown hlt HF.out hXX).2.2.2.2.1 [.slice xa xm xc] (by simp[Jt]) (by simp;omega) 88;clear hXX e1 e2 e3 e4
      have HN:Hid (SpW OS w0 w w2 M L R (.slice (some ⟨gl,fl,none⟩) M cl) (.slice (some ⟨gn,fn,none⟩) L cn) (.slice (some ⟨gg,fg,none⟩) L cg) ol on og y p (i+1) (.slice a (i+1) c) ot' (fun j=>if j<i then z j else .slice xa xm xc) (fun j=>if j<i then r j else o)):=zA (by
       have hXX:=HX.out;rw[<-HZ.out]at hXX;refine H.out.next hlt HF.out hXX H.out.z (hg2.congr fun j hj=>?_) hf2 ho2
       by_cases hji:j<i
       ·rw[if_pos hji,if_pos hji]
       ·rw[if_neg hji,if_neg hji];have:j-i=0:=(by simp at hj;omega);rw[this];rfl)
      have HR1:=zA hr;clear hr hg2 hf2 ho2;go_upto_region 36 with fail;iterate 10 (first|go_values|go_skip|go_guarded|go_step|go_upon|go_back)
      at_builtin;refine Ao _ rfl (.tmp 133) (.tmp 135) 88 rfl _ _ rfl rfl _ _ HR1.out ?_;go_wp2_with fail;go_roundw
      case rel=>exact⟨i+1,ot',_,_,by go_num,by omega,HN⟩
      case measure=>(show M-(i+1)<M-i);omega
   ·obtain rfl:i=M:=(by omega);go_wp2_with fail;go_meet
    case rel=>exact⟨ot,z,r,H⟩
 case rest=>
  obtain⟨ot,z,r,H⟩:=hcut;obtain⟨gt,ft,ct,hv⟩:∃ gt ft ct,u9= .slice (some ⟨gt,ft,none⟩) M ct:=by
   rcases H.out.t with ⟨-,-,h⟩|⟨g,off,c,cs,e,-⟩
   ·omega
   ·exact⟨g,off,c,e⟩
  subst hv;exact(show ∀ a w,Code.wp _ (U1 8) _ a w->_ from by assumption) _ _ (sp8 wc ⟨H.out.sp,H.out.eL,H.out.num,H.out.g,H.out.gx,H.out.t,fun i hi=>by
   obtain⟨B,-,hx⟩:=H.out.tx i hi;exact hx.x⟩ hM _ _ _ _ _ _ _ _ _ _ _ _ _ _ _ _ _ _ _ _ _ _ _ _ _ _ _ _ _ _ _ _ _ _ _ _ _ _ _ _ _ _ _ _ _ _ _ _ _ _ _ _ _ _ _ _ _ _ _ _ _ _ _ _ _ _ _ _ _ _ _ _ _ _ _ _ _ _ _ _ _ _ _ _ _ _ _ _ _ _ _ _ _ _ _ _ _ _ _ _ _ _ _ _ _ _ _ _ _ _ _ _ _ _ _ _ _ _ _ _ _ _ _ _ _ _ _ _ _ _ _ _ _ _ _ _ _ _ _ _ _ _ _ _ _ _ _ _ _ _ _ _ _ _ _ _ _ _ _ _ _ _ _ _ _ _ _ _ _ _ _ _ _ _ _ _ _ _ _ _ _ _ _ _ _ _ _ _ _ _ _ _ _ _ _ _ _ _ _ _ _ _ _ _ _ _ _ _ _ _ _ _ _ _ _ _ _ _ _ _ _ _ _ _ _ _ _ _ _ _ _)
theorem sp4(w:World)(hsp:SpL OS w0 w M R (.slice (some ⟨gl,fl,none⟩) M cl) ol Er Gt)(eL:L=M*3)(hnum:Bx 32 1 w (.slice (some ⟨gn,fn,none⟩) L cn) on L (nv R))(hM:M<=24)(hM0:0<M)(u1 u2 u4 u5 u6 u7 u8 u9 u10 u11 u12 u13 u14 u15 u16 u17 u18 u19 u20 u21 u22 u23 u24 u25 u26 u27 u28 u29 u30 u31 u32 u33 u34 u35 u36 u37 u38 u39 u40 u41 u42 u43 u44 u45 u46 u47 u48 u49 u50 u51 u52 u53 u54 u55 u56 u57 u58 u59 u60 u61 u62 u63 u64 u65 u66 u67 u68 u69 u70 u71 u72 u73 u74 u75 u76 u77 u78 u79 u80 u81 u82 u83 u84 u85 u86 u87 u88 u89 u90 u91 u92 u93 u94 u95 u96 u97 u98 u99 u100 u101 u102 u103 u104 u105 u106 u107 u108 u109 u110 u111 u112 u113 u114 u115 u116 u117 u118 u119 u120 u121 u122 u123 u124 u125 u126 u127 u128 u129 u130 u131 u132 u133 u134 u135 u136 u137 u138 u139 u140 u141 u142 u143 u144 u145 u146 u147 u148 u149 u150 u151 u152 u153 u154 u155 u156 u157 u158 u159 u160 u161 u162 u163 u164 u165 u166 u167 u168 u169 u170 u171 u172 u173 u174 u175 u176 u177 u178 u179 u180 u181 u182 u183 u184 u185 u186 u187 u188 u189 u190 u191 u192 u193 u194 u195 u196 u197 u198 u199 u200 u201 u202 u203 u204 u205 u206 u207 u208 u209 u210 u211 u212 u213 u214 u215 u216 u217 u218 u219 u220 u221 u222 u223 u224 u225 u226 u227 u228 u229 u230 u231 u232 u233 u234:Value):
  Code.wp Tryz.prog (U1 4) (bodyPost Tryz.prog Tryz.f31 (spP OS w0)) ⟨#[.slice (some ⟨gl,fl,none⟩) M cl,u1,u2,.slice (some ⟨gn,fn,none⟩) L cn,u4,u5,u6,u7,u8,u9,u10,u11,u12,u13,u14,u15,u16,u17,u18,u19,u20,u21,u22,u23,u24,u25,u26,u27,u28,u29,u30,u31,u32,u33,u34,u35,u36,u37,u38,u39,u40,u41,u42,u43,u44,u45,u46,u47,u48,u49,u50,u51,u52,u53,u54,u55,u56,u57,u58,u59,u60,u61,u62,u63,u64,u65,u66,u67,u68,u69,u70,u71,u72,u73,u74,u75,u76,u77,u78,u79,u80,u81,u82,u83,u84,u85,u86,u87,u88,u89,u90,u91,u92,u93,u94,u95,u96,u97,u98,u99,u100,u101,u102,u103,u104,u105,u106,u107,u108,u109,u110,u111,u112,u113,u114,u115,u116,u117,u118,u119,u120,u121,u122,u123,u124,u125,u126,u127,u128,u129,u130,u131,u132,u133,u134,u135,u136,u137,u138,u139,u140,u141,u142,u143,u144,u145,u146,u147,u148,u149,u150,u151,u152,u153,u154,u155,u156,u157,u158,u159,u160,u161,u162,u163,u164,u165,u166,u167,u168,u169,u170,u171,u172,u173,u174,u175,u176,u177,u178,u179,u180,u181,u182,u183,u184,u185,u186,u187,u188,u189,u190,u191,u192,u193,u194,u195,u196,u197,u198,u199,u200,u201,u202,u203,u204,u205,u206,u207,u208,u209,u210,u211,u212,u213,u214,u215,u216,u217,u218,u219,u220,u221,u222,u223,u224,u225,u226,u227,u228,u229,u230,u231,u232,u233,u234],[]⟩ w:=by
 conv=>arg 2;whnf
 have hL:L<=100:=by omega
 have hL0:0<L:=by omega
 have H:Hid (SpG OS w0 w w M L R (.slice (some ⟨gl,fl,none⟩) M cl) (.slice (some ⟨gn,fn,none⟩) L cn) ol on 0 (.slice none 0 0) none (fun _=>undef) (fun _=>none)):=zA
  ⟨hsp,eL,hnum,.inl ⟨rfl,rfl,rfl⟩,fun b hb=>(by cases hb),hnum.lt,hsp.l.lt,fun j hj=>(hsp.q j hj).lt,fun j hj=>absurd hj (Nat.not_lt_zero j),Nat.le_refl _,hsp.f.size⟩
 have HL3:=zA eL;clear hsp eL hnum;go_upto_block 8 with fail
 go_cut [8]from 10 (fun v8 wx=>∃ og y p,Hid (SpG OS w0 w wx M L R (.slice (some ⟨gl,fl,none⟩) M cl) (.slice (some ⟨gn,fn,none⟩) L cn) ol on L v8 og y p))
 case first=>
  go_wp2_with fail;go_loopw [8,10] (fun v8 v wr=>∃ (j:Nat) (og:Option Nat) (y:Nat->Value) (p:Nat->Option Nat),v= .int .i64 j/\j<=L/\Hid (SpG OS w0 w wr M L R (.slice (some ⟨gl,fl,none⟩) M cl) (.slice (some ⟨gn,fn,none⟩) L cn) ol on j v8 og y p)) (fun _ v _=>L-(intOf v).toNat)
  case atStart=>exact⟨0,none,_,_,rfl,by omega,H⟩
  case round=>
   obtain⟨j,og,y,p,rfl,hj,H⟩:=hrel;have hj0:(0:Int)<=(j:Int):=Int.natCast_nonneg _;by_cases hlt:j<L
   ·have hj1:(j:Int)<(L:Int):=(by omega);have hj3:(j:Int)<100:=(by omega);have hlt3:j<M*3:=(by have:=HL3.out;omega);obtain⟨gq,oq,cq,cs3,hv,-,hcs3,hc3⟩:=H.out.num.cellQ hlt;injection hv with hv1 hv2 hv3
    injection hv1 with hv1
    injection hv1 with hv4 hv5
    subst hv4 hv5 hv3;clear hv2;obtain⟨a4,c4,hz4⟩:=(H.out.sp.q j hlt3).slice;have HX:Hid (Ex 3 1 wr (nv R j) (no R j) (nv R j) (no R j) (nl R j) 0 (Gt j) wr.heap.size):=zA (Ex.zero (H.out.sp.q j hlt3) (H.out.sp.q j hlt3).lt);rw[hz4]at hc3;rw[hz4]at HX;have HZ:=zA hz4;have l3:=Aa hcs3;clear hz4;go_wp2_with fail;clear hcs3 hc3 l3;obtain⟨w7,rfl⟩:∃ x,x=wr:=⟨_,rfl⟩;go_loopw [11,12] (fun x v wx=>∃ (q:Nat) (o:Option Nat),v= .int .i64 q/\q<=9/\(∃ a m c,x= .slice a m c)/\Hid (Ex 3 1 wx (.slice a4 (nl R j) c4) (no R j) x o (nl R j) q (Gt j) w7.heap.size)/\Hid (Fr (no R j).toList w7 wx)) (fun _ v _=>9-(intOf v).toNat)
    case atStart=>exact⟨0,_,rfl,by omega,⟨_,_,_,rfl⟩,HX,zA (Fr.refl _ _)⟩
    case round=>
     obtain⟨q,o,rfl,hq,⟨xa,xm,xc,rfl⟩,HX,HF⟩:=hrel;by_cases hq9:q<9
     ·obtain⟨a,m,cc,w2,o',hr,hx2,hf2,ho2⟩:=uC HX.out HF.out.size (H.out.sp.n1 j hlt3) (by omega) 32;have HX2:Hid (Ex 3 1 w2 (.slice a4 (nl R j) c4) (no R j) (.slice a m cc) o' (nl R j) (q+1) (Gt j) w7.heap.size):=zA hx2;have HF2:Hid (Fr (no R j).toList w7 w2):=zA (((HF.out.mono (ex':=(no R j).toList++o.toList) (fun g hg=>List.mem_append_left _ hg)).trans (hf2.mono (fun g hg=>List.mem_append_right _ hg))).past (fun g hg=>by
       rcases List.mem_append.1 hg with hg|hg
       ·exact .inl hg
       ·rcases HX.out.ob (g:=g) (by simpa using hg)with hq|hq
        ·exact .inl (by simpa using hq)
        ·exact .inr hq))
      have HR1:=zA hr;clear hr hx2 hf2 ho2;go_upto_region 26 with fail;iterate 13 (first|go_values|go_skip|go_guarded|go_step|go_upon|go_back)
      at_builtin;refine Ao _ rfl (.tmp 102) (.tmp 105) 32 rfl _ _ rfl rfl _ _ HR1.out ?_;go_wp2_with fail;go_roundw
      case rel=>exact⟨q+1,o',by go_num,by omega,⟨_,_,_,rfl⟩,HX2,HF2⟩
      case measure=>(show 9-(q+1)<9-q);omega
     ·obtain rfl:q=9:=(by omega);obtain⟨inf,e1,e2,e3,e4⟩:=dR;have hXX:=HX.out;rw[<-HZ.out]at hXX;obtain⟨a,c,w2,og',hr,hg2,hf2,ho2⟩:=Vn (ST:=87) (T:=32) Tryz.underlying87 e1 e2 e3 e4 (H.out.grown hlt HF.out hXX).2.2.1 [.slice xa xm xc] (by simp[Jt]) (by simp;omega) 87;clear hXX e1 e2 e3 e4
      have HN:Hid (SpG OS w0 w w2 M L R (.slice (some ⟨gl,fl,none⟩) M cl) (.slice (some ⟨gn,fn,none⟩) L cn) ol on (j+1) (.slice a (j+1) c) og' (fun i=>if i<j then y i else .slice xa xm xc) (fun i=>if i<j then p i else o)):=zA (by
       have hXX:=HX.out;rw[<-HZ.out]at hXX;refine H.out.next hlt HF.out hXX H.out.z (hg2.congr fun i hi=>?_) hf2 ho2
       by_cases hji:i<j
       ·rw[if_pos hji,if_pos hji]
       ·rw[if_neg hji,if_neg hji];have:i-j=0:=(by simp at hi;omega);rw[this];rfl)
      have HR1:=zA hr;clear hr hg2 hf2 ho2;go_upto_region 27 with fail;iterate 10 (first|go_values|go_skip|go_guarded|go_step|go_upon|go_back)
      at_builtin;refine Ao _ rfl (.tmp 107) (.tmp 109) 87 rfl _ _ rfl rfl _ _ HR1.out ?_;go_wp2_with fail;go_roundw
      case rel=>exact⟨j+1,og',_,_,by go_num,by omega,HN⟩
      case measure=>(show L-(j+1)<L-j);omega
   ·obtain rfl:j=L:=(by omega);go_wp2_with fail;go_meet
    case rel=>exact⟨og,y,p,H⟩
 case rest=>
  obtain⟨og,y,p,H⟩:=hcut;obtain⟨gg,fg,cg,hv⟩:∃ gg fg cg,u8= .slice (some ⟨gg,fg,none⟩) L cg:=by
   rcases H.out.g with ⟨-,-,h⟩|⟨g,off,c,cs,e,-⟩
   ·omega
   ·exact⟨g,off,c,e⟩
  subst hv;exact(show ∀ a w,Code.wp _ (U1 7) _ a w->_ from by assumption) _ _ (sp7 (z:=fun _=>undef) (r:=fun _=>none) wc ⟨H.out.sp,H.out.eL,H.out.num,H.out.g,fun j hj=>by
   obtain⟨B,-,hx⟩:=H.out.gx j hj;exact hx.x,.inl ⟨rfl,rfl,rfl⟩,fun b hb=>(by cases hb),fun i hi=>(H.out.sp.s i hi).lt,fun i hi=>absurd hi (Nat.not_lt_zero i),Nat.le_refl _,Nat.le_trans H.out.z0 H.out.z⟩ hM hM0 _ _ _ _ _ _ _ _ _ _ _ _ _ _ _ _ _ _ _ _ _ _ _ _ _ _ _ _ _ _ _ _ _ _ _ _ _ _ _ _ _ _ _ _ _ _ _ _ _ _ _ _ _ _ _ _ _ _ _ _ _ _ _ _ _ _ _ _ _ _ _ _ _ _ _ _ _ _ _ _ _ _ _ _ _ _ _ _ _ _ _ _ _ _ _ _ _ _ _ _ _ _ _ _ _ _ _ _ _ _ _ _ _ _ _ _ _ _ _ _ _ _ _ _ _ _ _ _ _ _ _ _ _ _ _ _ _ _ _ _ _ _ _ _ _ _ _ _ _ _ _ _ _ _ _ _ _ _ _ _ _ _ _ _ _ _ _ _ _ _ _ _ _ _ _ _ _ _ _ _ _ _ _ _ _ _ _ _ _ _ _ _ _ _ _ _ _ _ _ _ _ _ _ _ _ _ _ _ _ _ _ _ _ _ _ _ _ _ _ _ _ _ _ _ _ _ _ _ _ _ _)
end
section
variable {OS:List Nat} {w0 w1 w w':World} {M L:Nat} {R:Nat->RP} {gl fl cl:Nat} {ol:Option Nat} {gn fn cn:Nat} {on:Option Nat} {X0 S0:Nat->Nat->Value}
def Ns(k:Nat)(X0:Nat->Nat->Value):Nat->Nat->Value:=fun j=>if j<k then Gt j else X0 j
def Mu(k:Nat)(S0:Nat->Nat->Value):Nat->Nat->Value:=fun j=>if j<k then Er j else S0 j
theorem iO(X0:Nat->Nat->Value):Ns 0 X0=X0:=by funext j;unfold Ns;rw[if_neg (Nat.not_lt_zero j)]
theorem iQ(X0:Nat->Nat->Value):Mu 0 X0=X0:=by funext j;unfold Mu;rw[if_neg (Nat.not_lt_zero j)]
theorem V7(S:Nat->Nat->Value)(i:Nat):G7 S i (S i)=S:=by
 funext j;unfold G7;split
 ·rename_i h;rw[h]
 ·rfl
theorem aD(S:Nat->Nat->Value)(i:Nat)(f g:Nat->Value):G7 (G7 S i f) i g=G7 S i g:=by
 funext j;unfold G7;split
 ·rfl
 ·rfl
theorem Xv(S:Nat->Nat->Value)(i:Nat)(f:Nat->Value):G7 S i f i=f:=by unfold G7;rw[if_pos rfl]
theorem iN(j:Nat)(X0:Nat->Nat->Value):G7 (Ns j X0) j (Gt j)=Ns (j+1) X0:=by
 funext i;unfold G7 Ns
 by_cases h:i=j
 ·subst h;rw[if_pos rfl,if_pos (Nat.lt_succ_self i)]
 ·rw[if_neg h];by_cases h2:i<j
  ·rw[if_pos h2,if_pos (by omega)]
  ·rw[if_neg h2,if_neg (by omega)]
theorem iP(j:Nat)(X0:Nat->Nat->Value):G7 (Mu j X0) j (Er j)=Mu (j+1) X0:=by
 funext i;unfold G7 Mu
 by_cases h:i=j
 ·subst h;rw[if_pos rfl,if_pos (Nat.lt_succ_self i)]
 ·rw[if_neg h];by_cases h2:i<j
  ·rw[if_pos h2,if_pos (by omega)]
  ·rw[if_neg h2,if_neg (by omega)]
def M4(j k:Nat)(X0:Nat->Nat->Value):Nat->Value:=fun q=>if q<k then Gt j q else X0 j q
def Ov(j k:Nat)(S0:Nat->Nat->Value):Nat->Value:=fun q=>if q/128<k then Er j q else S0 j q
theorem sp3(w:World)(hsp:SpL OS w0 w M R (.slice (some ⟨gl,fl,none⟩) M cl) ol Er X0)(eL:L=M*3)(hnum:Bx 32 1 w (.slice (some ⟨gn,fn,none⟩) L cn) on L (nv R))(hM:M<=24)(hM0:0<M)(u1 u2 u4 u5 u6 u7 u8 u9 u10 u11 u12 u13 u14 u15 u16 u17 u18 u19 u20 u21 u22 u23 u24 u25 u26 u27 u28 u29 u30 u31 u32 u33 u34 u35 u36 u37 u38 u39 u40 u41 u42 u43 u44 u45 u46 u47 u48 u49 u50 u51 u52 u53 u54 u55 u56 u57 u58 u59 u60 u61 u62 u63 u64 u65 u66 u67 u68 u69 u70 u71 u72 u73 u74 u75 u76 u77 u78 u79 u80 u81 u82 u83 u84 u85 u86 u87 u88 u89 u90 u91 u92 u93 u94 u95 u96 u97 u98 u99 u100 u101 u102 u103 u104 u105 u106 u107 u108 u109 u110 u111 u112 u113 u114 u115 u116 u117 u118 u119 u120 u121 u122 u123 u124 u125 u126 u127 u128 u129 u130 u131 u132 u133 u134 u135 u136 u137 u138 u139 u140 u141 u142 u143 u144 u145 u146 u147 u148 u149 u150 u151 u152 u153 u154 u155 u156 u157 u158 u159 u160 u161 u162 u163 u164 u165 u166 u167 u168 u169 u170 u171 u172 u173 u174 u175 u176 u177 u178 u179 u180 u181 u182 u183 u184 u185 u186 u187 u188 u189 u190 u191 u192 u193 u194 u195 u196 u197 u198 u199 u200 u201 u202 u203 u204 u205 u206 u207 u208 u209 u210 u211 u212 u213 u214 u215 u216 u217 u218 u219 u220 u221 u222 u223 u224 u225 u226 u227 u228 u229 u230 u231 u232 u233 u234:Value):
  Code.wp Tryz.prog (U1 3) (bodyPost Tryz.prog Tryz.f31 (spP OS w0)) ⟨#[.slice (some ⟨gl,fl,none⟩) M cl,u1,u2,.slice (some ⟨gn,fn,none⟩) L cn,u4,u5,u6,u7,u8,u9,u10,u11,u12,u13,u14,u15,u16,u17,u18,u19,u20,u21,u22,u23,u24,u25,u26,u27,u28,u29,u30,u31,u32,u33,u34,u35,u36,u37,u38,u39,u40,u41,u42,u43,u44,u45,u46,u47,u48,u49,u50,u51,u52,u53,u54,u55,u56,u57,u58,u59,u60,u61,u62,u63,u64,u65,u66,u67,u68,u69,u70,u71,u72,u73,u74,u75,u76,u77,u78,u79,u80,u81,u82,u83,u84,u85,u86,u87,u88,u89,u90,u91,u92,u93,u94,u95,u96,u97,u98,u99,u100,u101,u102,u103,u104,u105,u106,u107,u108,u109,u110,u111,u112,u113,u114,u115,u116,u117,u118,u119,u120,u121,u122,u123,u124,u125,u126,u127,u128,u129,u130,u131,u132,u133,u134,u135,u136,u137,u138,u139,u140,u141,u142,u143,u144,u145,u146,u147,u148,u149,u150,u151,u152,u153,u154,u155,u156,u157,u158,u159,u160,u161,u162,u163,u164,u165,u166,u167,u168,u169,u170,u171,u172,u173,u174,u175,u176,u177,u178,u179,u180,u181,u182,u183,u184,u185,u186,u187,u188,u189,u190,u191,u192,u193,u194,u195,u196,u197,u198,u199,u200,u201,u202,u203,u204,u205,u206,u207,u208,u209,u210,u211,u212,u213,u214,u215,u216,u217,u218,u219,u220,u221,u222,u223,u224,u225,u226,u227,u228,u229,u230,u231,u232,u233,u234],[]⟩ w:=by
 conv=>arg 2;whnf
 have hL:L<=100:=by omega
 have H:=zA (show SpL OS w0 w M R (.slice (some ⟨gl,fl,none⟩) M cl) ol Er (Ns 0 X0) by rw[iO];exact hsp);have HNU:=zA hnum;have HL3:=zA eL;clear hsp eL hnum;go_upto_block 4 with fail
 go_cut []from 6 (fun wx=>Hid (SpL OS w0 wx M R (.slice (some ⟨gl,fl,none⟩) M cl) ol Er (Ns L X0))/\Hid (Bx 32 1 wx (.slice (some ⟨gn,fn,none⟩) L cn) on L (nv R)))
 case first=>
  go_wp2_with fail;go_loopw [6] (fun v wr=>∃ j:Nat,v= .int .i64 j/\j<=L/\Hid (SpL OS w0 wr M R (.slice (some ⟨gl,fl,none⟩) M cl) ol Er (Ns j X0))/\Hid (Bx 32 1 wr (.slice (some ⟨gn,fn,none⟩) L cn) on L (nv R))) (fun v _=>L-(intOf v).toNat)
  case atStart=>exact⟨0,rfl,by omega,H,HNU⟩
  case round=>
   obtain⟨j,rfl,hj,H,HNU⟩:=hrel;have hj0:(0:Int)<=(j:Int):=Int.natCast_nonneg _;by_cases hlt:j<L
   ·have hj1:(j:Int)<(L:Int):=(by omega);have hj3:(j:Int)<100:=(by omega);have hlt3:j<M*3:=(by have:=HL3.out;omega);have hpz:M4 j 0 X0=Ns j X0 j:=by
     funext q;unfold M4 Ns;rw[if_neg (Nat.not_lt_zero q),if_neg (Nat.lt_irrefl j)]
    have H0:Hid (SpL OS w0 wr M R (.slice (some ⟨gl,fl,none⟩) M cl) ol Er (G7 (Ns j X0) j (M4 j 0 X0))):=zA (by rw[hpz,V7];exact H.out);clear hpz;go_wp2_with fail;obtain⟨w7,rfl⟩:∃ x,x=wr:=⟨_,rfl⟩;go_loopw [7] (fun v wx=>∃ k:Nat,v= .int .i64 k/\k<=nl R j/\Hid (SpL OS w0 wx M R (.slice (some ⟨gl,fl,none⟩) M cl) ol Er (G7 (Ns j X0) j (M4 j k X0)))/\Hid (Bx 32 1 wx (.slice (some ⟨gn,fn,none⟩) L cn) on L (nv R))) (fun v _=>nl R j-(intOf v).toNat)
    case atStart=>exact⟨0,rfl,by omega,H0,HNU⟩
    case round=>
     obtain⟨k,rfl,hk,HK,HNK⟩:=hrel;have hk0:(0:Int)<=(k:Int):=Int.natCast_nonneg _;obtain⟨gq,oq,cq,cs3,hv,-,hcs3,hc3⟩:=HNK.out.cellQ hlt;injection hv with hv1 hv2 hv3
     injection hv1 with hv1
     injection hv1 with hv4 hv5
     subst hv4 hv5 hv3;clear hv2;have l3:=Aa hcs3;by_cases hkn:k<nl R j
     ·have hN9:=HK.out.n1 j hlt3;have hk9:(k:Int)<5000:=(by omega);have hk2:(k:Int)<(nl R j:Int):=(by omega);clear hN9;obtain⟨g4,f4,c4,cs4,hz4,ho4,hcs4,hc4,hput⟩:=(HK.out.q j hlt3).putQ hkn (-100-(j:Int))
      have HS:Hid (SpL OS w0 (wr.setCell ⟨g4,f4+k,none⟩ (.int .i64 (-100-(j:Int)))) M R (.slice (some ⟨gl,fl,none⟩) M cl) ol Er (G7 (Ns j X0) j (M4 j (k+1) X0))):=zA (by
       have h1:=HK.out.turnQ hlt3 ho4 (Ai wr g4 (f4+k) (.int .i64 (-100-(j:Int)))) hput;rw[Xv,aD]at h1;have e:(fun q=>if q=k then Value.int .i64 (-100-(j:Int))else M4 j k X0 q)=M4 j (k+1) X0:=by
        funext q;unfold M4
        by_cases hq:q=k
        ·subst hq;rw[if_pos rfl,if_pos (Nat.lt_succ_self q)];rfl
        ·rw[if_neg hq];by_cases hq2:q<k
         ·rw[if_pos hq2,if_pos (by omega)]
         ·rw[if_neg hq2,if_neg (by omega)]
       rw[e]at h1;exact h1)
      have HN4:Hid (Bx 32 1 (wr.setCell ⟨g4,f4+k,none⟩ (.int .i64 (-100-(j:Int)))) (.slice (some ⟨gn,fn,none⟩) L cn) on L (nv R)):=zA (HNK.out.fr (Ai wr g4 (f4+k) (.int .i64 (-100-(j:Int)))) (fun b hb hm=>HNK.out.ne (HK.out.q j hlt3) Kl hb ho4 (List.mem_singleton.1 hm).symm));rw[hz4]at hc3;have HZ:=zA hz4;obtain⟨x4,hx4⟩:∃ x,M4 j k X0 k=x:=⟨_,rfl⟩;rw[Xv,hx4]at hc4;have l4:=Aa hcs4;clear hz4 hput hx4;go_wp2_with fail;go_roundw
      case rel=>exact⟨k+1,by go_num,by omega,HS,HN4⟩
      case measure=>(show nl R j-(k+1)<nl R j-k);omega
     ·obtain⟨a4,c4,hz4⟩:=(HK.out.q j hlt3).slice;rw[hz4]at hc3;have HZ:=zA hz4;clear hz4;obtain rfl:k=nl R j:=(by omega);have HS:Hid (SpL OS w0 wr M R (.slice (some ⟨gl,fl,none⟩) M cl) ol Er (Ns (j+1) X0)):=zA (HK.out.congr (fun _ _ _ _=>rfl) (fun i hi q hq=>by
       rw[<-iN];unfold G7;by_cases hij:i=j
       ·subst hij;rw[if_pos rfl,if_pos rfl];unfold M4;rw[if_pos (by omega)]
       ·rw[if_neg hij,if_neg hij]))
      go_wp2_with fail;go_roundw
      case rel=>exact⟨j+1,by go_num,by omega,HS,HNK⟩
      case measure=>(show L-(j+1)<L-j);omega
   ·obtain rfl:j=L:=(by omega);go_wp2_with fail;go_meet
    case rel=>exact⟨H,HNU⟩
 case rest=>
  obtain⟨H,HNU⟩:=hcut;exact(show ∀ a w,Code.wp _ (U1 4) _ a w->_ from by assumption) _ _ (sp4 wc (H.out.congr (fun _ _ _ _=>rfl) (fun j hj q _=>by
   unfold Ns;rw[if_pos (by have:=HL3.out;omega)])) HL3.out HNU.out hM hM0 _ _ _ _ _ _ _ _ _ _ _ _ _ _ _ _ _ _ _ _ _ _ _ _ _ _ _ _ _ _ _ _ _ _ _ _ _ _ _ _ _ _ _ _ _ _ _ _ _ _ _ _ _ _ _ _ _ _ _ _ _ _ _ _ _ _ _ _ _ _ _ _ _ _ _ _ _ _ _ _ _ _ _ _ _ _ _ _ _ _ _ _ _ _ _ _ _ _ _ _ _ _ _ _ _ _ _ _ _ _ _ _ _ _ _ _ _ _ _ _ _ _ _ _ _ _ _ _ _ _ _ _ _ _ _ _ _ _ _ _ _ _ _ _ _ _ _ _ _ _ _ _ _ _ _ _ _ _ _ _ _ _ _ _ _ _ _ _ _ _ _ _ _ _ _ _ _ _ _ _ _ _ _ _ _ _ _ _ _ _ _ _ _ _ _ _ _ _ _ _ _ _ _ _ _ _ _ _ _ _ _ _ _ _ _ _ _ _ _ _ _ _ _ _ _ _ _ _ _ _ _ _ _)
end
theorem bN{ST T:TypeId}(ht:Tryz.prog.underlying ST=some (.slice T)){inf:TypeInfo}(hi:Tryz.prog.info? T=some inf)(hz:inf.zero=some (.slice none 0 0))(his:inf.size=1)(hib:inf.bytes=24){w:World}{v:Value}{ob:Option Nat}{k b:Nat}{f:Nat->Value}(h:Bx T 1 w v ob k f)(xs:List Value)(hb:hat w b=some (.cells xs.toArray T))(h1:∀ x∈xs,x.oneCell'=true)(hk:k+xs.length<=1000)(ty:TypeId):
  ∃ a c w2 ob',(Builtin.append_ #[ST,ST] ty #[v,.slice (some ⟨b,0,none⟩) xs.length xs.length]).run Tryz.prog w= .ok (.slice a (k+xs.length) c) w2/\
   Bx T 1 w2 (.slice a (k+xs.length) c) ob' (k+xs.length) (fun i=>if i<k then f i else xs.getD (i-k) undef)/\Fr ob.toList w w2/\(ob'=ob\/∃ g,ob'=some g/\w.heap.size<=g):=by
 have hb':Bx T 1 w (.slice (some ⟨b,0,none⟩) xs.length xs.length) (some b) xs.length (fun q=>xs.getD q undef):= .inr ⟨b,0,xs.length,xs.toArray,rfl,rfl,hb,by simp,by simp,fun q hq=>by
  have hq':q<xs.length:=(by omega);simp[List.getD,List.getElem?_eq_getElem hq']⟩
 obtain⟨news,hs,hnw⟩:=hb'.src (P:=Tryz.prog) ht (fun q hq=>by
  have hq':q<xs.length:=(by omega);simp only[List.getD,List.getElem?_eq_getElem hq',Option.getD_some];exact h1 _ (List.getElem_mem _))
 obtain⟨v',w2,om',hr,hg,hgr⟩:=G2 (P:=Tryz.prog) (ST:=ST) (sz:=1) ht hi hz rfl his hib h hs hnw (by omega) (by omega) ty;obtain⟨a,c,rfl⟩:=hg.slice;refine⟨a,c,w2,om',hr,hg.congr fun q hq=>?_,hgr.fr,hgr.ob⟩;unfold Up;rw[Nat.mul_one]
def osR(M:Nat)(R:Nat->RP):List Nat:=(List.range M).flatMap fun i=>(R i).os
theorem eC{M:Nat}{R:Nat->RP}{g:Nat}:g∈osR M R↔∃ i,i<M/\g∈(R i).os:=by
 unfold osR;simp[List.mem_flatMap]
theorem nv0(R:Nat->RP)(i:Nat):nv R (i*3)=(R i).v1/\nv R (i*3+1)=(R i).v2/\nv R (i*3+2)=(R i).v3:=by
 have e0:i*3/3=i/\i*3%3=0:=by omega
 have e1:(i*3+1)/3=i/\(i*3+1)%3=1:=by omega
 have e2:(i*3+2)/3=i/\(i*3+2)%3=2:=by omega
 unfold nv;rw[e0.1,e0.2,e1.1,e1.2,e2.1,e2.2];exact⟨rfl,rfl,rfl⟩
theorem cR{w:World}{M:Nat}{R:Nat->RP}{gl fl cl:Nat}{ol:Option Nat}(hl:Bx 34 4 w (.slice (some ⟨gl,fl,none⟩) M cl) ol M (I6 R))(hR:Wc w M R)(hM:M<=24)(hM0:0<M):
  Calls Tryz.prog 31 #[.slice (some ⟨gl,fl,none⟩) M cl] w (spP (osR M R) w):=by
 have hS:=SpL.start hl hR (OS:=osR M R) (fun i hi g hg=>eC.2 ⟨i,hi,hg⟩);have HRR:=zA hR;generalize hS0:(fun i=>Fy (R i).S)=S0 at hS;generalize (fun(j q:Nat)=>Value.int .i64 (nth (nx R j) q))=X0 at hS;have H:=zA (show SpL (osR M R) w w M R (.slice (some ⟨gl,fl,none⟩) M cl) ol (Mu 0 S0) X0 by rw[iQ];exact hS);clear hS hl hR hS0;go_enter Tryz.func31,Tryz.ntmps31;go_upto_block 0 with fail
 go_cut [3]from 4 (fun v3 wx=>∃ on,Hid (SpL (osR M R) w wx M R (.slice (some ⟨gl,fl,none⟩) M cl) ol (Mu M S0) X0)/\Hid (Bx 32 1 wx v3 on (M*3) (nv R)))
 case first=>
  go_wp2_with fail;go_loopw [3,4] (fun v3 v wr=>∃ (i:Nat) (on:Option Nat),v= .int .i64 i/\i<=M/\Hid (SpL (osR M R) w wr M R (.slice (some ⟨gl,fl,none⟩) M cl) ol (Mu i S0) X0)/\Hid (Bx 32 1 wr v3 on (i*3) (nv R))/\Hid (∀ b,on=some b->w.heap.size<=b)) (fun _ v _=>M-(intOf v).toNat)
  case atStart=>exact⟨0,none,rfl,by omega,H,zA (.inl ⟨rfl,rfl,by omega⟩),zA (fun b hb=>by cases hb)⟩
  case round=>
   obtain⟨i,on,rfl,hi,H,HNU,HON⟩:=hrel;have hi0:(0:Int)<=(i:Int):=Int.natCast_nonneg _;by_cases hlt:i<M
   ·have hi1:(i:Int)<(M:Int):=(by omega);have hi24:(i:Int)<24:=(by omega);obtain⟨cs3,hcs3,c0,c1,c2,c3⟩:=H.out.l.repc hlt;obtain⟨a0,k0,e0⟩:=(H.out.s i hlt).slice;obtain⟨a1,m1,k1,e1⟩:∃ a m k,(R i).v1= .slice a m k:=by
     obtain⟨a,k,e⟩:=(HRR.out.rep i hlt).r1.slice;exact⟨a,_,k,e⟩
    obtain⟨a2,m2,k2,e2⟩:∃ a m k,(R i).v2= .slice a m k:=by
     obtain⟨a,k,e⟩:=(HRR.out.rep i hlt).r2.slice;exact⟨a,_,k,e⟩
    obtain⟨a3,m3,k3,e3⟩:∃ a m k,(R i).v3= .slice a m k:=by
     obtain⟨a,k,e⟩:=(HRR.out.rep i hlt).r3.slice;exact⟨a,_,k,e⟩
    obtain⟨vq,hvq⟩:∃ x,u3=x:=⟨_,rfl⟩;rw[e0]at c0;rw[e1]at c1;rw[e2]at c2;rw[e3]at c3;have HEE:=zA (show _/\_/\_/\_ from⟨e0,e1,e2,e3⟩);clear e0 e1 e2 e3 hvq;have hl3:=Aa hcs3;go_upto_region 5 with fail;refine Im (by kernel_rfl) 17 (by decide) rfl (fun W=>Below wr.heap.size wr W) (fun W W'=>Below W.heap.size W W') (fun i' v W=>match i' with|0=>v=u3|1=>v=(.slice (some ⟨gl,fl,none⟩) M cl)|2=>v=(.int .i64 (i:Int))|3=>v=(.pointer (some ⟨gl,fl+i*4,none⟩))|4=>v=(.pointer (some ⟨gl,fl+i*4+1,none⟩))|5=>v=(.slice a1 m1 k1)|6=>v=(.slice (some ⟨gl,fl,none⟩) M cl)|7=>v=(.int .i64 (i:Int))|8=>v=(.pointer (some ⟨gl,fl+i*4,none⟩))|9=>v=(.pointer (some ⟨gl,fl+i*4+2,none⟩))|10=>v=(.slice a2 m2 k2)|11=>v=(.slice (some ⟨gl,fl,none⟩) M cl)|12=>v=(.int .i64 (i:Int))|13=>v=(.pointer (some ⟨gl,fl+i*4,none⟩))|14=>v=(.pointer (some ⟨gl,fl+i*4+3,none⟩))|15=>v=(.slice a3 m3 k3)|_=>∃ g,v= .slice (some ⟨g,0,none⟩) 3 3/\hat W g=some (.cells #[.slice a1 m1 k1,.slice a2 m2 k2,.slice a3 m3 k3] 32)) ((Below.refl _ _).drew) ?_ ?_ ?_
    ·intro i' v wa wb hi9 _ _ hE5 hG;have hi':i'=0\/i'=1\/i'=2\/i'=3\/i'=4\/i'=5\/i'=6\/i'=7\/i'=8\/i'=9\/i'=10\/i'=11\/i'=12\/i'=13\/i'=14\/i'=15\/i'=16:=(by omega);rcases hi' with rfl|rfl|rfl|rfl|rfl|rfl|rfl|rfl|rfl|rfl|rfl|rfl|rfl|rfl|rfl|rfl|rfl<;>try exact hG
     obtain⟨g,h1,h2⟩:=hG;exact⟨g,h1,(hop hE5 h2).1⟩
    ·intro i' o hi9 ho a' w' hB hS hF;have hi':i'=0\/i'=1\/i'=2\/i'=3\/i'=4\/i'=5\/i'=6\/i'=7\/i'=8\/i'=9\/i'=10\/i'=11\/i'=12\/i'=13\/i'=14\/i'=15\/i'=16:=(by omega);have hc:=(hop hB hcs3).1;have hcl:=Aa hc;rcases hi' with rfl|rfl|rfl|rfl|rfl|rfl|rfl|rfl|rfl|rfl|rfl|rfl|rfl|rfl|rfl|rfl|rfl
     all_goals (have ho':=Option.some.inj ho;subst ho')
     ·have q3:a'.tmps[3]?.getD undef=u3:=gtx ((hS 3 (by decide)).trans rfl);refine Ae rfl rfl (v:=u3) (w1:=w') ?_ ⟨_,rfl,hB,Below.refl _ _,rfl⟩;simp[go_sem,q3]
     ·have q0:a'.tmps[0]?.getD undef=(.slice (some ⟨gl,fl,none⟩) M cl):=gtx ((hS 0 (by decide)).trans rfl);refine Ae rfl rfl (v:=(.slice (some ⟨gl,fl,none⟩) M cl)) (w1:=w') ?_ ⟨_,rfl,hB,Below.refl _ _,rfl⟩;simp[go_sem,q0]
     ·have q4:a'.tmps[4]?.getD undef=(.int .i64 (i:Int)):=gtx ((hS 4 (by decide)).trans rfl);refine Ae rfl rfl (v:=(.int .i64 (i:Int))) (w1:=w') ?_ ⟨_,rfl,hB,Below.refl _ _,rfl⟩;simp[go_sem,q4]
     ·have q27:a'.tmps[27]?.getD undef=(.slice (some ⟨gl,fl,none⟩) M cl):=gtx ((hF 1 (by decide) _ 27 rfl rfl).trans rfl);have q28:a'.tmps[28]?.getD undef=(.int .i64 (i:Int)):=gtx ((hF 2 (by decide) _ 28 rfl rfl).trans rfl);refine Ae rfl rfl (v:=(.pointer (some ⟨gl,fl+i*4,none⟩))) (w1:=w') ?_ ⟨_,rfl,hB,Below.refl _ _,rfl⟩;simp[go_sem,q27,q28,hi0,hi1]
     ·have q29:a'.tmps[29]?.getD undef=(.pointer (some ⟨gl,fl+i*4,none⟩)):=gtx ((hF 3 (by decide) _ 29 rfl rfl).trans rfl);refine Ae rfl rfl (v:=(.pointer (some ⟨gl,fl+i*4+1,none⟩))) (w1:=w') ?_ ⟨_,rfl,hB,Below.refl _ _,rfl⟩;simp[go_sem,q29]
     ·have q30:a'.tmps[30]?.getD undef=(.pointer (some ⟨gl,fl+i*4+1,none⟩)):=gtx ((hF 4 (by decide) _ 30 rfl rfl).trans rfl);refine Ae rfl rfl (v:=(.slice a1 m1 k1)) (w1:=w') ?_ ⟨_,rfl,hB,Below.refl _ _,rfl⟩;simp[go_sem,q30,hc,c1]
     ·have q0:a'.tmps[0]?.getD undef=(.slice (some ⟨gl,fl,none⟩) M cl):=gtx ((hS 0 (by decide)).trans rfl);refine Ae rfl rfl (v:=(.slice (some ⟨gl,fl,none⟩) M cl)) (w1:=w') ?_ ⟨_,rfl,hB,Below.refl _ _,rfl⟩;simp[go_sem,q0]
     ·have q4:a'.tmps[4]?.getD undef=(.int .i64 (i:Int)):=gtx ((hS 4 (by decide)).trans rfl);refine Ae rfl rfl (v:=(.int .i64 (i:Int))) (w1:=w') ?_ ⟨_,rfl,hB,Below.refl _ _,rfl⟩;simp[go_sem,q4]
     ·have q32:a'.tmps[32]?.getD undef=(.slice (some ⟨gl,fl,none⟩) M cl):=gtx ((hF 6 (by decide) _ 32 rfl rfl).trans rfl);have q33:a'.tmps[33]?.getD undef=(.int .i64 (i:Int)):=gtx ((hF 7 (by decide) _ 33 rfl rfl).trans rfl);refine Ae rfl rfl (v:=(.pointer (some ⟨gl,fl+i*4,none⟩))) (w1:=w') ?_ ⟨_,rfl,hB,Below.refl _ _,rfl⟩;simp[go_sem,q32,q33,hi0,hi1]
     ·have q34:a'.tmps[34]?.getD undef=(.pointer (some ⟨gl,fl+i*4,none⟩)):=gtx ((hF 8 (by decide) _ 34 rfl rfl).trans rfl);refine Ae rfl rfl (v:=(.pointer (some ⟨gl,fl+i*4+2,none⟩))) (w1:=w') ?_ ⟨_,rfl,hB,Below.refl _ _,rfl⟩;simp[go_sem,q34]
     ·have q35:a'.tmps[35]?.getD undef=(.pointer (some ⟨gl,fl+i*4+2,none⟩)):=gtx ((hF 9 (by decide) _ 35 rfl rfl).trans rfl);refine Ae rfl rfl (v:=(.slice a2 m2 k2)) (w1:=w') ?_ ⟨_,rfl,hB,Below.refl _ _,rfl⟩;simp[go_sem,q35,hc,c2]
     ·have q0:a'.tmps[0]?.getD undef=(.slice (some ⟨gl,fl,none⟩) M cl):=gtx ((hS 0 (by decide)).trans rfl);refine Ae rfl rfl (v:=(.slice (some ⟨gl,fl,none⟩) M cl)) (w1:=w') ?_ ⟨_,rfl,hB,Below.refl _ _,rfl⟩;simp[go_sem,q0]
     ·have q4:a'.tmps[4]?.getD undef=(.int .i64 (i:Int)):=gtx ((hS 4 (by decide)).trans rfl);refine Ae rfl rfl (v:=(.int .i64 (i:Int))) (w1:=w') ?_ ⟨_,rfl,hB,Below.refl _ _,rfl⟩;simp[go_sem,q4]
     ·have q37:a'.tmps[37]?.getD undef=(.slice (some ⟨gl,fl,none⟩) M cl):=gtx ((hF 11 (by decide) _ 37 rfl rfl).trans rfl);have q38:a'.tmps[38]?.getD undef=(.int .i64 (i:Int)):=gtx ((hF 12 (by decide) _ 38 rfl rfl).trans rfl);refine Ae rfl rfl (v:=(.pointer (some ⟨gl,fl+i*4,none⟩))) (w1:=w') ?_ ⟨_,rfl,hB,Below.refl _ _,rfl⟩;simp[go_sem,q37,q38,hi0,hi1]
     ·have q39:a'.tmps[39]?.getD undef=(.pointer (some ⟨gl,fl+i*4,none⟩)):=gtx ((hF 13 (by decide) _ 39 rfl rfl).trans rfl);refine Ae rfl rfl (v:=(.pointer (some ⟨gl,fl+i*4+3,none⟩))) (w1:=w') ?_ ⟨_,rfl,hB,Below.refl _ _,rfl⟩;simp[go_sem,q39]
     ·have q40:a'.tmps[40]?.getD undef=(.pointer (some ⟨gl,fl+i*4+3,none⟩)):=gtx ((hF 14 (by decide) _ 40 rfl rfl).trans rfl);refine Ae rfl rfl (v:=(.slice a3 m3 k3)) (w1:=w') ?_ ⟨_,rfl,hB,Below.refl _ _,rfl⟩;simp[go_sem,q40,hc,c3]
     ·have q31:a'.tmps[31]?.getD undef=(.slice a1 m1 k1):=gtx ((hF 5 (by decide) _ 31 rfl rfl).trans rfl);have q36:a'.tmps[36]?.getD undef=(.slice a2 m2 k2):=gtx ((hF 10 (by decide) _ 36 rfl rfl).trans rfl);have q41:a'.tmps[41]?.getD undef=(.slice a3 m3 k3):=gtx ((hF 15 (by decide) _ 41 rfl rfl).trans rfl);refine Ae rfl rfl (v:= .slice (some ⟨w'.heap.size,0,none⟩) 3 3) (w1:=w'.alloc (.cells #[.slice a1 m1 k1,.slice a2 m2 k2,.slice a3 m3 k3] 32)) ?_ ⟨_,rfl,As hB hB.size _,(Below.refl _ _).alloc (Nat.le_refl _) _,_,rfl,(A6 w' _).1⟩;simp[go_sem,q31,q36,q41]
    intro val w5 hB5 hF;have y0:=hF 0 _ 26 (by decide) rfl rfl;have y1:=hF 1 _ 27 (by decide) rfl rfl;have y2:=hF 2 _ 28 (by decide) rfl rfl;have y3:=hF 3 _ 29 (by decide) rfl rfl;have y4:=hF 4 _ 30 (by decide) rfl rfl;have y5:=hF 5 _ 31 (by decide) rfl rfl;have y6:=hF 6 _ 32 (by decide) rfl rfl;have y7:=hF 7 _ 33 (by decide) rfl rfl;have y8:=hF 8 _ 34 (by decide) rfl rfl;have y9:=hF 9 _ 35 (by decide) rfl rfl;have y10:=hF 10 _ 36 (by decide) rfl rfl;have y11:=hF 11 _ 37 (by decide) rfl rfl;have y12:=hF 12 _ 38 (by decide) rfl rfl;have y13:=hF 13 _ 39 (by decide) rfl rfl;have y14:=hF 14 _ 40 (by decide) rfl rfl;have y15:=hF 15 _ 41 (by decide) rfl rfl;have y16:=hF 16 _ 42 (by decide) rfl rfl;obtain⟨g9,y16,hg9⟩:=y16;simp only[]at y0 y1 y2 y3 y4 y5 y6 y7 y8 y9 y10 y11 y12 y13 y14 y15;simp only[Bi,List.take,List.drop,List.take_succ_cons,List.drop_succ_cons,y0,y1,y2,y3,y4,y5,y6,y7,y8,y9,y10,y11,y12,y13,y14,y15,y16,Act.put,List.setIfInBounds_toArray,List.set_cons_zero,List.set_cons_succ];clear y0 y1 y2 y3 y4 y5 y6 y7 y8 y9 y10 y11 y12 y13 y14 y15 y16 hF;have HB5:=zA hB5;have HG9:=zA hg9;clear hg9;have H5:=zA (H.out.same (Af hB5 []));have HNU5:=zA (HNU.out.fr (Af hB5 []) (by simp));obtain⟨inf,i1,i2,i3,i4⟩:=dR;obtain⟨a,c,w6,on',hr,hg2,hf2,ho2⟩:=bN (ST:=87) (T:=32) Tryz.underlying87 i1 i2 i3 i4 HNU5.out [.slice a1 m1 k1,.slice a2 m2 k2,.slice a3 m3 k3] HG9.out (by simp[Jt]) (by simp;omega) 87;have hgt:∀ b∈on.toList,w.heap.size<=b/\on=some b:=fun b hb=>by
     have hb':on=some b:=(by simpa using hb);exact⟨HON.out b hb',hb'⟩
    have H6:Hid (SpL (osR M R) w w6 M R (.slice (some ⟨gl,fl,none⟩) M cl) ol (Mu i S0) X0):=zA (H5.out.off hf2 (fun b hb=>(hgt b hb).1) (fun b hb hm=>HNU5.out.ne H5.out.l tK (hgt b hb).2 hm rfl) (fun b hb j hj hm=>HNU5.out.ne (H5.out.s j hj) S6 (hgt b hb).2 hm rfl) (fun b hb j hj hm=>HNU5.out.ne (H5.out.q j hj) Kl (hgt b hb).2 hm rfl));have HNU6:Hid (Bx 32 1 w6 (.slice a (i*3+3) c) on' (i*3+3) (nv R)):=zA (hg2.congr fun q hq=>by
     obtain⟨n0,n1,n2⟩:=nv0 R i;by_cases hqi:q<i*3
     ·rw[if_pos hqi]
     ·rw[if_neg hqi];have hq3:q=i*3\/q=i*3+1\/q=i*3+2:=(by simp at hq;omega);rcases hq3 with rfl|rfl|rfl
      ·rw[n0,HEE.out.2.1,Nat.sub_self];rfl
      ·rw[n1,HEE.out.2.2.1,Nat.add_sub_cancel_left];rfl
      ·rw[n2,HEE.out.2.2.2,Nat.add_sub_cancel_left];rfl)
    have HON6:Hid (∀ b,on'=some b->w.heap.size<=b):=zA (fun b hb=>by
     rcases ho2 with ho2|⟨q,ho2,hq⟩
     ·exact HON.out b (ho2.symm.trans hb)
     ·rw[hb]at ho2;cases ho2;exact Nat.le_trans H5.out.f.size hq)
    have hr':(Builtin.append_ #[87,87] 87 #[u3,.slice (some ⟨g9,0,none⟩) 3 3]).run Tryz.prog w5= .ok (.slice a (i*3+3) c) w6:=hr;have HR1:=zA hr';clear hr hr' hg2 hf2 ho2 hgt hB5;at_builtin;refine Ao _ rfl (.tmp 26) (.tmp 42) 87 rfl _ _ rfl rfl _ _ HR1.out ?_;clear hcs3 c0 c1 c2 c3 hl3;have hpz:Ov i 0 S0=Mu i S0 i:=by
     funext q;unfold Ov Mu;rw[if_neg (Nat.not_lt_zero _),if_neg (Nat.lt_irrefl i)]
    have H0:Hid (SpL (osR M R) w w6 M R (.slice (some ⟨gl,fl,none⟩) M cl) ol (G7 (Mu i S0) i (Ov i 0 S0)) X0):=zA (by rw[hpz,V7];exact H6.out);clear hpz;obtain⟨w7,rfl⟩:∃ x,x=wr:=⟨_,rfl⟩;go_wp2_with fail;go_loopw [5] (fun v wx=>∃ k:Nat,v= .int .i64 k/\k<=(R i).N/\Hid (SpL (osR M R) w wx M R (.slice (some ⟨gl,fl,none⟩) M cl) ol (G7 (Mu i S0) i (Ov i k S0)) X0)/\Hid (Bx 32 1 wx (.slice a (i*3+3) c) on' (i*3+3) (nv R))) (fun v _=>(R i).N-(intOf v).toNat)
    case atStart=>exact⟨0,rfl,by omega,H0,HNU6⟩
    case round=>
     obtain⟨k,rfl,hk,HK,HNK⟩:=hrel;have hk0:(0:Int)<=(k:Int):=Int.natCast_nonneg _;obtain⟨cs3,hcs3,c0,-⟩:=HK.out.l.repc hlt;have l3:=Aa hcs3;by_cases hkn:k<(R i).N
     ·have hN9:=HK.out.n0 i hlt;have hk9:(k:Int)<5000:=(by omega);have hk2:(k:Int)<((R i).N:Int):=(by omega);clear hN9;obtain⟨g4,f4,c4,cs4,hz4,ho4,hcs4,hsz4,hput⟩:=(HK.out.s i hlt).putS hkn (Fk (1+i))
      have HS:Hid (SpL (osR M R) w (wr.setRow g4 (Ap cs4 (f4+k*128) (IV .u8 (G6 (1+i))))) M R (.slice (some ⟨gl,fl,none⟩) M cl) ol (G7 (Mu i S0) i (Ov i (k+1) S0)) X0):=zA (by
       have h1:=HK.out.turnS hlt ho4 (Da wr g4 (Ap cs4 (f4+k*128) (IV .u8 (G6 (1+i))))) hput;rw[Xv,aD]at h1;have e:(fun q=>if q/128=k then Fy (fun _=>G6 (1+i)) q else Ov i k S0 q)=Ov i (k+1) S0:=by
        funext q;unfold Ov
        by_cases hq:q/128=k
        ·rw[if_pos hq,if_pos (by omega)];rfl
        ·rw[if_neg hq];by_cases hq2:q/128<k
         ·rw[if_pos hq2,if_pos (by omega)]
         ·rw[if_neg hq2,if_neg (by omega)]
       rw[e]at h1;exact h1)
      have HN4:Hid (Bx 32 1 (wr.setRow g4 (Ap cs4 (f4+k*128) (IV .u8 (G6 (1+i))))) (.slice a (i*3+3) c) on' (i*3+3) (nv R)):=zA (HNK.out.fr (Da wr g4 (Ap cs4 (f4+k*128) (IV .u8 (G6 (1+i))))) (fun b hb hm=>HNK.out.ne (HK.out.s i hlt) S6 hb ho4 (List.mem_singleton.1 hm).symm));rw[hz4]at c0;have HZ:=zA hz4;have hst:∀ raw w',Dd raw 128 (f4+k*128) g4 (IV .u8 ((zl 128).set 0 (1+(i:Int)))) w' (some (.cells cs4 47 (0,0)))= .ok () (w'.setRow g4 (Ap cs4 (f4+k*128) (IV .u8 (G6 (1+i))))):=fun raw w'=>Cj (by omega) (by simp) (by simp)
      have l4:=Aa hcs4;clear hz4 hput hsz4;go_upto_region 9 with fail;iterate 29 (first|go_values|go_skip|go_guarded|go_step|go_upon|go_back)
      refine V8 47 (.tmp 62) rfl _ rfl _ (Rv _ _) ?_;go_wp2_with fail;go_roundw
      case rel=>exact⟨k+1,by go_num,by omega,HS,HN4⟩
      case measure=>(show(R i).N-(k+1)<(R i).N-k);omega
     ·obtain⟨a4,c4,hz4⟩:=(HK.out.s i hlt).slice;rw[hz4]at c0;have HZ:=zA hz4;clear hz4;obtain rfl:k=(R i).N:=(by omega);have HS:Hid (SpL (osR M R) w wr M R (.slice (some ⟨gl,fl,none⟩) M cl) ol (Mu (i+1) S0) X0):=zA (HK.out.congr (fun j hj q hq=>by
       rw[<-iP];unfold G7;by_cases hij:j=i
       ·subst hij;rw[if_pos rfl,if_pos rfl];unfold Ov;rw[if_pos (by omega)]
       ·rw[if_neg hij,if_neg hij]) (fun _ _ _ _=>rfl))
      have HNR:Hid (Bx 32 1 wr (.slice a (i*3+3) c) on' ((i+1)*3) (nv R)):=zA (by
       have e:(i+1)*3=i*3+3:=(by omega);rw[e];exact HNK.out)
      go_wp2_with fail;go_roundw
      case rel=>exact⟨i+1,on',by go_num,by omega,HS,HNR,HON6⟩
      case measure=>(show M-(i+1)<M-i);omega
   ·obtain rfl:i=M:=(by omega);go_wp2_with fail;go_meet
    case rel=>exact⟨on,H,HNU⟩
 case rest=>
  obtain⟨on,H,HNU⟩:=hcut;obtain⟨gn,fn,cn,hv⟩:∃ gn fn cn,u3= .slice (some ⟨gn,fn,none⟩) (M*3) cn:=by
   rcases HNU.out with ⟨-,-,h⟩|⟨g,off,c,cs,e,-⟩
   ·omega
   ·exact⟨g,off,c,e⟩
  subst hv;exact(show ∀ a w,Code.wp _ (U1 3) _ a w->_ from by assumption) _ _ (sp3 wc (H.out.congr (fun i hi q _=>by
   unfold Mu;rw[if_pos hi]) (fun _ _ _ _=>rfl)) rfl HNU.out hM hM0 _ _ _ _ _ _ _ _ _ _ _ _ _ _ _ _ _ _ _ _ _ _ _ _ _ _ _ _ _ _ _ _ _ _ _ _ _ _ _ _ _ _ _ _ _ _ _ _ _ _ _ _ _ _ _ _ _ _ _ _ _ _ _ _ _ _ _ _ _ _ _ _ _ _ _ _ _ _ _ _ _ _ _ _ _ _ _ _ _ _ _ _ _ _ _ _ _ _ _ _ _ _ _ _ _ _ _ _ _ _ _ _ _ _ _ _ _ _ _ _ _ _ _ _ _ _ _ _ _ _ _ _ _ _ _ _ _ _ _ _ _ _ _ _ _ _ _ _ _ _ _ _ _ _ _ _ _ _ _ _ _ _ _ _ _ _ _ _ _ _ _ _ _ _ _ _ _ _ _ _ _ _ _ _ _ _ _ _ _ _ _ _ _ _ _ _ _ _ _ _ _ _ _ _ _ _ _ _ _ _ _ _ _ _ _ _ _ _ _ _ _ _ _ _ _ _ _ _ _ _ _ _ _)
theorem X7(S W:Nat->List Int)(A B:List Int):Ft (Ft S W A) W B=Ft S W (A++B):=by
 funext j
 unfold Ft;by_cases hb:(j:Int)∈B
 ·rw[if_pos hb,if_pos (List.mem_append_right _ hb)]
 ·rw[if_neg hb];by_cases ha:(j:Int)∈A
  ·rw[if_pos ha,if_pos (List.mem_append_left _ ha)]
  ·rw[if_neg ha,if_neg (fun h=>(List.mem_append.1 h).elim ha hb)]
structure kD (N:Nat) (S:Nat->List Int) (dk:DS):Prop where
 o:dk.off=false
 a:dk.armed=false
 l:dk.left=0
 c:0<=dk.cnt/\dk.cnt<=(Cc N S).length
 b:B6 N S≠0->dk.S=S/\dk.cnt=0
 g:B6 N S=0->∃ j:Nat,j<=(Cc N S).length/\dk.S=Ft S (C3 N S) ((Cc N S).take j)/\dk.cnt=j
theorem kD.step{N:Nat}{S:Nat->List Int}{dk:DS}(hS:∀ j,j<N->(S j).length=128/\A4 (S j))(h:kD N S dk)(n:Nat):
  ((E5 N (Nk n dk)).1=B6 N S\/(E5 N (Nk n dk)).1=22)/\kD N S (Oy (E5 N (Nk n dk)).2):=by
 by_cases he:B6 N S=0
 ·obtain⟨j,hj,gS,gc⟩:=h.g he;obtain⟨c1,c2,c3,-,-⟩:=kM hS he j;have hr:E5 N (Nk n dk)=wrD (C3 N S) ((Cc N S).drop j) (Nk n dk):=by
   unfold E5;rw[if_neg (by show ¬ false=true;decide),if_neg (fun hh=>hh (by show B6 N dk.S=0;rw[gS];exact c1))];show wrD (C3 N dk.S) (Cc N dk.S) (Nk n dk)=_
   rw[gS,c2,c3]
  rw[hr,aG _ n (Nk n dk) (fun x hx=>iE (N:=N) (S:=S) x (List.mem_of_mem_drop hx)) rfl rfl rfl];by_cases hn:((Cc N S).drop j).length<=n
  ·rw[if_pos hn];refine⟨.inl he.symm,rfl,rfl,rfl,?_,fun hh=>absurd he hh,fun _=>⟨(Cc N S).length,Nat.le_refl _,?_,?_⟩⟩
   ·show 0<=dk.cnt+(((Cc N S).drop j).length:Int)/\dk.cnt+(((Cc N S).drop j).length:Int)<=_
    rw[gc,List.length_drop];omega
   ·show Ft dk.S (C3 N S) ((Cc N S).drop j)=_
    rw[gS,X7,List.take_append_drop,List.take_length]
   ·show dk.cnt+(((Cc N S).drop j).length:Int)=_
    rw[gc,List.length_drop];omega
  ·rw[if_neg hn];rw[List.length_drop]at hn;refine⟨.inr rfl,rfl,rfl,rfl,?_,fun hh=>absurd he hh,fun _=>⟨j+n,by omega,?_,?_⟩⟩
   ·show 0<=dk.cnt+(n:Int)/\dk.cnt+(n:Int)<=_
    rw[gc];omega
   ·show Ft dk.S (C3 N S) (((Cc N S).drop j).take n)=_
    rw[gS,X7, <-List.take_add]
   ·show dk.cnt+(n:Int)=_
    rw[gc];omega
 ·obtain⟨b1,b2⟩:=h.b he;have hr:=rF (N:=N) (d:=Nk n dk) rfl (by show B6 N dk.S≠0;rw[b1];exact he);rw[hr];exact⟨.inl (by show B6 N dk.S=_;rw[b1]),rfl,rfl,rfl,h.c,fun _=>⟨b1,b2⟩,fun hh=>absurd hh he⟩
def Wb(w:World)(v:Value)(l:List Int):Prop:=∃ a c,v= .slice a l.length c/\l.length<=9223372036854775807/\(∀ x∈l,I64 x)/\
 (0<l.length->∃ g o cs t fr,a=some ⟨g,o,none⟩/\hat w g=some (.cells cs t fr)/\o+l.length<=cs.size/\∀ k x,l[k]? =some x->cs[o+k]? =some (.int .i64 x))
theorem Wb.fr{w w':World}{v:Value}{l:List Int}(h:Wb w v l)(hf:Fr [] w w'):Wb w' v l:=by
 obtain⟨a,c,h1,h2,h3,h4⟩:=h;refine⟨a,c,h1,h2,h3,fun h0=>?_⟩;obtain⟨g,o,cs,t,fr,e1,e2,e3,e4⟩:=h4 h0;exact⟨g,o,cs,t,fr,e1,(hf.block _ (Aa e2) (by simp)).trans e2,e3,e4⟩
theorem Wb.cell{w:World}{a:Option Addr}{c:Nat}{l:List Int}(h:Wb w (.slice a l.length c) l){k:Nat}(hk:k<l.length):∃ g o cs t fr x,a=some ⟨g,o,none⟩/\hat w g=some (.cells cs t fr)/\cs[o+k]? =some (.int .i64 x)/\I64 x:=by
 obtain⟨a',c',h1,h2,h3,h4⟩:=h;injection h1 with e1 e2 e3
 subst e1;obtain⟨g,o,cs,t,fr,f1,f2,f3,f4⟩:=h4 (by omega);exact⟨g,o,cs,t,fr,l[k],f1,f2,f4 k _ (List.getElem?_eq_getElem hk),h3 _ (List.getElem_mem hk)⟩
structure Nm (b1 gd gs gr gt go gu gp gv B:Nat):Prop where
 d:b1<=gd/\b1<=gs
 dr:gd<gr/\gd<gt/\gs<gr/\gs<gt
 ro:gr<go/\gr<gu/\gt<go/\gt<gu
 op:go<gp/\go<gv/\gu<gp/\gu<gv
 b:gp<B/\gv<B
structure D4 (w:World) (gd gs gr gt go gu gp gv N K:Nat) (d r o p:DS):Prop where
 d:DK w gd gs N d
 r:RK w gr gt N r
 o:DK w go gu K o
 p:RK w gp gv K p
section
variable {w w':World} {b1 gd gs gr gt go gu gp gv B N K:Nat} {d r o p d':DS}
theorem D4.same(h:D4 w gd gs gr gt go gu gp gv N K d r o p)(hf:Fr [] w w'):D4 w' gd gs gr gt go gu gp gv N K d r o p:=
 ⟨h.d.fr hf (by simp) (by simp),h.r.fr hf (by simp) (by simp),h.o.fr hf (by simp) (by simp),h.p.fr hf (by simp) (by simp)⟩
theorem D4.td(h:D4 w gd gs gr gt go gu gp gv N K d r o p)(n:Nm b1 gd gs gr gt go gu gp gv B)(hf:Fr [gd,gs] w w')(hd:DK w' gd gs N d'):D4 w' gd gs gr gt go gu gp gv N K d' r o p:=by
 obtain⟨n0,n1,n2,n3,n4⟩:=n;exact⟨hd,h.r.fr hf (by simp;omega) (by simp;omega),h.o.fr hf (by simp;omega) (by simp;omega),h.p.fr hf (by simp;omega) (by simp;omega)⟩
theorem D4.tr(h:D4 w gd gs gr gt go gu gp gv N K d r o p)(n:Nm b1 gd gs gr gt go gu gp gv B)(hf:Fr [gr,gt] w w')(hd:RK w' gr gt N d'):D4 w' gd gs gr gt go gu gp gv N K d d' o p:=by
 obtain⟨n0,n1,n2,n3,n4⟩:=n;exact⟨h.d.fr hf (by simp;omega) (by simp;omega),hd,h.o.fr hf (by simp;omega) (by simp;omega),h.p.fr hf (by simp;omega) (by simp;omega)⟩
theorem D4.to'(h:D4 w gd gs gr gt go gu gp gv N K d r o p)(n:Nm b1 gd gs gr gt go gu gp gv B)(hf:Fr [go,gu] w w')(hd:DK w' go gu K d'):D4 w' gd gs gr gt go gu gp gv N K d r d' p:=by
 obtain⟨n0,n1,n2,n3,n4⟩:=n;exact⟨h.d.fr hf (by simp;omega) (by simp;omega),h.r.fr hf (by simp;omega) (by simp;omega),hd,h.p.fr hf (by simp;omega) (by simp;omega)⟩
theorem D4.tp(h:D4 w gd gs gr gt go gu gp gv N K d r o p)(n:Nm b1 gd gs gr gt go gu gp gv B)(hf:Fr [gp,gv] w w')(hd:RK w' gp gv K d'):D4 w' gd gs gr gt go gu gp gv N K d r o d':=by
 obtain⟨n0,n1,n2,n3,n4⟩:=n;exact⟨h.d.fr hf (by simp;omega) (by simp;omega),h.r.fr hf (by simp;omega) (by simp;omega),h.o.fr hf (by simp;omega) (by simp;omega),hd⟩
theorem D4.off(h:D4 w gd gs gr gt go gu gp gv N K d r o p)(n:Nm b1 gd gs gr gt go gu gp gv B){ex:List Nat}(hf:Fr ex w w')(hx:∀ g∈ex,B<=g):D4 w' gd gs gr gt go gu gp gv N K d r o p:=by
 obtain⟨n0,n1,n2,n3,n4⟩:=n;have k:∀ x,x<B->x∉ex:=fun x h1 h2=>by have:=hx x h2;omega
 exact⟨h.d.fr hf (k _ (by omega)) (k _ (by omega)),h.r.fr hf (k _ (by omega)) (k _ (by omega)),h.o.fr hf (k _ (by omega)) (k _ (by omega)),h.p.fr hf (k _ (by omega)) (k _ (by omega))⟩
def g8(gd gs gr gt go gu gp gv:Nat):List Nat:=[gd,gs,gr,gt,go,gu,gp,gv]
theorem Nm.lt8(n:Nm b1 gd gs gr gt go gu gp gv B):∀ g∈g8 gd gs gr gt go gu gp gv,g<B/\b1<=g:=by
 obtain⟨n0,n1,n2,n3,n4⟩:=n;intro g hg;unfold g8 at hg;simp only[List.mem_cons,List.not_mem_nil,or_false]at hg;rcases hg with rfl|rfl|rfl|rfl|rfl|rfl|rfl|rfl<;>omega
theorem Sx{g:Nat}(h:g∈[gd,gs]):g∈g8 gd gs gr gt go gu gp gv:=by
 unfold g8;simp at h ⊢;omega
theorem Lv{g:Nat}(h:g∈[gr,gt]):g∈g8 gd gs gr gt go gu gp gv:=by
 unfold g8;simp at h ⊢;omega
theorem dZ{g:Nat}(h:g∈[go,gu]):g∈g8 gd gs gr gt go gu gp gv:=by
 unfold g8;simp at h ⊢;omega
theorem eA{g:Nat}(h:g∈[gp,gv]):g∈g8 gd gs gr gt go gu gp gv:=by
 unfold g8;simp at h ⊢;omega
structure FL (B:Nat) (w:World) (k:Nat) (v:Value) (ol:Option Nat) (R:Nat->RP):Prop where
 l:Bx 34 4 w v ol k (I6 R)
 rs:Wc w k R
 lo:∀ i,i<k->∀ g∈(R i).os,B<=g
 lb:∀ g,ol=some g->B<=g
theorem FL.fr{v:Value}{ol:Option Nat}{R:Nat->RP}{k:Nat}(h:FL B w k v ol R){ex:List Nat}(hf:Fr ex w w')(hx:∀ g∈ex,g<B):FL B w' k v ol R:=
 ⟨h.l.fr hf (fun g hg hm=>by have:=h.lb g hg;have:=hx g hm;omega),h.rs.fr hf (fun i hi g hg hm=>by have:=h.lo i hi g hg;have:=hx g hm;omega),h.lo,h.lb⟩
def Xt(k:Nat)(R:Nat->RP)(A C:RP):Nat->RP:=fun i=>if i<k then R i else if i=k then A else C
theorem FL.next{v:Value}{ol:Option Nat}{R:Nat->RP}{k:Nat}{A C:RP}(h:FL B w k v ol R)(hk:k<=100)(hB:B<=w.heap.size)(hA:Hl w A)(hC:Hl w C)(a0:∀ i,i<k->∀ g∈(R i).os,∀ q∈A.os,g<q)(c0:∀ i,i<k->∀ g∈(R i).os,∀ q∈C.os,g<q)(ac:∀ g∈A.os,∀ q∈C.os,g<q)(aB:∀ g∈A.os,B<=g)(cB:∀ g∈C.os,B<=g)(ty:TypeId):
  ∃ a c w2 ol',(Builtin.append_ #[54,54] ty #[v,.slice (some ⟨w.heap.size,0,none⟩) 2 2]).run Tryz.prog (w.alloc (.cells ([#[A.v0,A.v1,A.v2,A.v3],#[C.v0,C.v1,C.v2,C.v3]].flatMap Array.toList).toArray 34))= .ok (.slice a (k+2) c) w2/\
   FL B w2 (k+2) (.slice a (k+2) c) ol' (Xt k R A C)/\∃ ex,Fr ex w w2/\∀ g∈ex,B<=g:=by
 obtain⟨inf,z,hi,hz,hzs,his,hib⟩:=Yq;have hf1:=Do w (.cells ([#[A.v0,A.v1,A.v2,A.v3],#[C.v0,C.v1,C.v2,C.v3]].flatMap Array.toList).toArray 34) [];have hcell:∀ q,q<2*4->(([#[A.v0,A.v1,A.v2,A.v3],#[C.v0,C.v1,C.v2,C.v3]]:List (Array Value)).flatMap Array.toList).toArray[q]? =some (I6 (Xt 0 R A C) q):=fun q hq=>by
  rcases q with _|_|_|_|_|_|_|_|q
  all_goals first|rfl|omega
 have hb:Bx 34 4 (w.alloc (.cells ([#[A.v0,A.v1,A.v2,A.v3],#[C.v0,C.v1,C.v2,C.v3]].flatMap Array.toList).toArray 34)) (.slice (some ⟨w.heap.size,0,none⟩) 2 2) (some w.heap.size) 2 (I6 (Xt 0 R A C)):=Bx.reps (A6 w _).1 (by simp) hcell;obtain⟨p0,q0,p1,q1,p2,q2,p3,q3,e0,e1,e2,e3⟩:=hA.parts;obtain⟨s0,t0,s1,t1,s2,t2,s3,t3,f0,f1,f2,f3⟩:=hC.parts;obtain⟨news,hs,hnw⟩:=hb.src (P:=Tryz.prog) Tryz.underlying54 (fun q hq=>by
  rcases q with _|_|_|_|_|_|_|_|q
  ·show A.v0.oneCell'=true;rw[e0];rfl
  ·show A.v1.oneCell'=true;rw[e1];rfl
  ·show A.v2.oneCell'=true;rw[e2];rfl
  ·show A.v3.oneCell'=true;rw[e3];rfl
  ·show C.v0.oneCell'=true;rw[f0];rfl
  ·show C.v1.oneCell'=true;rw[f1];rfl
  ·show C.v2.oneCell'=true;rw[f2];rfl
  ·show C.v3.oneCell'=true;rw[f3];rfl
  ·omega)
 obtain⟨v',w2,ol',hr,hg,hgr⟩:=G2 (P:=Tryz.prog) (ST:=54) Tryz.underlying54 hi hz hzs his hib (h.l.fr hf1 (by simp)) hs hnw (by omega) (by omega) ty;obtain⟨a,c,rfl⟩:=hg.slice;have hfr:=hgr.fr;have hap:∀ (Z:RP),Hl w Z->Hl w2 Z:=fun Z hZ=>by
  have h2:=hZ.fr hf1 (by simp);refine h2.fr hfr (fun g hg hm=>?_);have hm':ol=some g:=(by simpa using hm);have hs1:(34:TypeId)≠47:=(by decide);have hs2:(34:TypeId)≠3:=(by decide);have hl:=h.l.fr hf1 (by simp);rcases RP.mem_os.1 hg with e|e|e|e
  ·exact hl.ne h2.r0.g hs1 hm' e rfl
  ·exact hl.ne h2.r1.g.1 hs2 hm' e rfl
  ·exact hl.ne h2.r2.g.1 hs2 hm' e rfl
  ·exact hl.ne h2.r3.g.1 hs2 hm' e rfl
 have hcase:∀ i,i<k+2->(i<k/\Xt k R A C i=R i)\/(i=k/\Xt k R A C i=A)\/(i=k+1/\Xt k R A C i=C):=fun i hi=>by
  unfold Xt;by_cases h1:i<k
  ·exact .inl ⟨h1,if_pos h1⟩
  ·by_cases h2:i=k
   ·exact .inr (.inl ⟨h2,by rw[if_neg h1,if_pos h2]⟩)
   ·exact .inr (.inr ⟨by omega,by rw[if_neg h1,if_neg h2]⟩)
 refine⟨a,c,w2,ol',hr,⟨hg.congr fun q hq=>?_,⟨fun i hi=>?_,fun i j hi hj hij g hg hm=>?_⟩,fun i hi g hg=>?_,fun g hg=>?_⟩,ol.toList,(hf1.mono (by simp)).trans hfr,fun g hg=>h.lb g (by simpa using hg)⟩
 ·unfold Up;by_cases hq4:q<k*4
  ·rw[if_pos hq4];have e1:q/4<k:=(by omega);simp only[I6,Xt,if_pos e1]
  ·rw[if_neg hq4];have e1:¬ q/4<k:=(by omega);have e2:(q-k*4)%4=q%4:=(by omega);have e3:(q-k*4)/4=q/4-k:=(by omega);have e5:¬ q/4-k<0:=(by omega);have e6:(q/4-k=0)=(q/4=k):=(by apply propext;omega);simp only[I6,Xt,if_neg e1,e2,e3,if_neg e5,e6]
 ·rcases hcase i hi with ⟨h1,e⟩|⟨h1,e⟩|⟨h1,e⟩<;>rw[e]
  ·exact hap _ (h.rs.rep i h1)
  ·exact hap _ hA
  ·exact hap _ hC
 ·rcases hcase i hi with ⟨h1,e⟩|⟨h1,e⟩|⟨h1,e⟩<;>rcases hcase j hj with ⟨h2,f⟩|⟨h2,f⟩|⟨h2,f⟩<;>rw[e]at hg<;>rw[f]at hm
  ·exact h.rs.dis i j h1 h2 hij g hg hm
  ·exact Nat.lt_irrefl _ (a0 i h1 g hg g hm)
  ·exact Nat.lt_irrefl _ (c0 i h1 g hg g hm)
  ·exact Nat.lt_irrefl _ (a0 j h2 g hm g hg)
  ·omega
  ·exact Nat.lt_irrefl _ (ac g hg g hm)
  ·exact Nat.lt_irrefl _ (c0 j h2 g hm g hg)
  ·exact Nat.lt_irrefl _ (ac g hm g hg)
  ·omega
 ·rcases hcase i hi with ⟨h1,e⟩|⟨h1,e⟩|⟨h1,e⟩<;>rw[e]at hg
  ·exact h.lo i h1 g hg
  ·exact aB g hg
  ·exact cB g hg
 ·rcases hgr.ob with e|⟨q,e,hq⟩
  ·exact h.lb g (e.symm.trans hg)
  ·rw[hg]at e;cases e;exact Nat.le_trans hB (Nat.le_trans hf1.size hq)
end
structure Rd (w:World) (gd gs gr gt go gu gp gv N K:Nat) (d r o p:DS) (B k:Nat) (v:Value) (ol:Option Nat) (R:Nat->RP) (gA gS gT gV:Nat) (A C:RP) (b0 b1 b2 b3:Value) (q1 q2 q3:Option Nat) (M:Nat) (W:Nat->List Int) (xs ys zs:List Int) (e0 e1 e2 e3:Value) (r1 r2 r3:Option Nat) (M2:Nat) (W2:Nat->List Int) (xs2 ys2 zs2:List Int):Prop where
 D:D4 w gd gs gr gt go gu gp gv N K d r o p
 L:FL B w k v ol R
 a:hat w gA=some (.cells #[A.v0,A.v1,A.v2,A.v3] 34)
 s:hat w gS=some (.cells #[b0,b1,b2,b3] 34)
 t:hat w gT=some (.cells #[C.v0,C.v1,C.v2,C.v3] 34)
 v:hat w gV=some (.cells #[e0,e1,e2,e3] 34)
 A:Hl w A
 C:Hl w C
 b:Lg w b0 b1 b2 b3 q1 q2 q3 M W xs ys zs
 e:Lg w e0 e1 e2 e3 r1 r2 r3 M2 W2 xs2 ys2 zs2
theorem Rd.same{w w':World}{gd gs gr gt go gu gp gv N K:Nat}{d r o p:DS}{B k:Nat}{v:Value}{ol:Option Nat}{R:Nat->RP}{gA gS gT gV:Nat}{A C:RP}{b0 b1 b2 b3:Value}{q1 q2 q3:Option Nat}{M:Nat}{W:Nat->List Int}{xs ys zs:List Int}{e0 e1 e2 e3:Value}{r1 r2 r3:Option Nat}{M2:Nat}{W2:Nat->List Int}{xs2 ys2 zs2:List Int}
  (h:Rd w gd gs gr gt go gu gp gv N K d r o p B k v ol R gA gS gT gV A C b0 b1 b2 b3 q1 q2 q3 M W xs ys zs e0 e1 e2 e3 r1 r2 r3 M2 W2 xs2 ys2 zs2) (hf:Fr [] w w'):Rd w' gd gs gr gt go gu gp gv N K d r o p B k v ol R gA gS gT gV A C b0 b1 b2 b3 q1 q2 q3 M W xs ys zs e0 e1 e2 e3 r1 r2 r3 M2 W2 xs2 ys2 zs2:=
 ⟨h.D.same hf,h.L.fr hf (by simp),(hf.block _ (Aa h.a) (by simp)).trans h.a,(hf.block _ (Aa h.s) (by simp)).trans h.s,(hf.block _ (Aa h.t) (by simp)).trans h.t,(hf.block _ (Aa h.v) (by simp)).trans h.v,h.A.fr hf (by simp),h.C.fr hf (by simp),h.b.same hf,h.e.same hf⟩
theorem L5{a0 a1 a2 a3 b0 b1 b2 b3:Value}{o1 o2 o3 p1 p2 p3:Option Nat}{N N':Nat}{S S':Nat->List Int}{xs ys zs xs' ys' zs':List Int}{w:World}(h1:Lg w a0 a1 a2 a3 o1 o2 o3 N S xs ys zs)(h2:Lg w b0 b1 b2 b3 p1 p2 p3 N' S' xs' ys' zs')(he:(N=N'/\∀ j,j<N->S j=S' j)/\xs=xs'/\ys=ys'/\zs=zs'):
  Calls Tryz.prog 27 #[.agg #[a0,a1,a2,a3],.agg #[b0,b1,b2,b3]] w fun e w'=>e= .returned (.bool true)/\Fr [] w w':=by
 refine(nL h1 h2).mono ?_;rintro e w' ⟨b,rfl,hb,hbl⟩;exact⟨by rw[hb.2 he],Af hbl []⟩
theorem Wr{v u x:Value}{sec sec2:Int}{sp sp2:List We}{l:List Int}{w:World}(h:Pic w v sec sp)(h2:Pic w u sec2 sp2)(hl:Wb w x l)(hl8:l.length<=17592186043904):Calls Tryz.prog 8 #[v,u,x] w fun e w'=>e= .returned (.bool true)/\Below w.heap.size w w':=by
 have H:=zA h;have H2:=zA h2;have HL:=zA hl;obtain⟨-,a,c,rfl,-⟩:=h;obtain⟨-,a2,c2,rfl,-⟩:=h2;obtain⟨al,cl,rfl,hll,-⟩:=hl;have hf0:=(Do w (.cells #[.int .i64 sec,.slice a sp.length c] 25) []).trans (Do _ (.cells #[.int .i64 sec2,.slice a2 sp2.length c2] 25) []);have hg0:=(B7 _ (.cells #[.int .i64 sec2,.slice a2 sp2.length c2] 25) (A6 w (.cells #[.int .i64 sec,.slice a sp.length c] 25)).1).1;have hg1:=(A6 (w.alloc (.cells #[.int .i64 sec,.slice a sp.length c] 25)) (.cells #[.int .i64 sec2,.slice a2 sp2.length c2] 25)).1;have HF0:=zA hf0;clear hf0;go_enter Tryz.func8,Tryz.ntmps8;go_upto_region 1 with fail;simp only[World.size_alloc]at*;generalize (w.alloc (.cells #[.int .i64 sec,.slice a sp.length c] 25)).alloc (.cells #[.int .i64 sec2,.slice a2 sp2.length c2] 25)=w0 at*;have hgl0:=Aa hg0;have hgl1:=Aa hg1;go_wp2_with fail;refine(Pi (H.out.fr HF0.out)).mono ?_;rintro e w1 ⟨gi,rfl,hws,hb,hgi⟩;have hg1':=(hop hb hg1).1;have HF1:=zA (HF0.out.trans (Af hb []));have HW:=zA hws;have hP:=Nv sec;generalize Nu sec=N at*;generalize iS sec sp=S at*;clear hws hb hg0 hg1 hgl0 hgl1 hgi;have hgl1:=Aa hg1';go_wp2_with fail;refine(Pi (H2.out.fr HF1.out)).mono ?_;rintro e w2 ⟨gj,rfl,hws,hb,hgi⟩;have HF2:=zA (HF1.out.trans (Af hb []));have HW1:=zA (HW.out.same (A7 hb HW.out.lt));have HV:=zA hws;have hP2:=Nv sec2;generalize Nu sec2=K at*;generalize iS sec2 sp2=S2 at*;clear hws hb hg1' hgl1 hgi HW;go_wp2_with fail;refine(Sb (F6 HW1.out) hP.1 (by omega)).mono ?_;rintro e w3 ⟨gd,gs,rfl,hdk,hb,hd1,hd2⟩;have HF3:=zA (HF2.out.trans (Af hb []));have HW3:=zA (HW1.out.same (A7 hb HW1.out.lt));have HV3:=zA (HV.out.same (A7 hb HV.out.lt));have HD3:=zA hdk;have HG1:=zA (show w2.heap.size<=gd/\w2.heap.size<=gs/\gd<w3.heap.size/\gs<w3.heap.size from⟨hd1,hd2,Aa hdk.hd,hdk.hs.lt⟩);clear hdk hb hd1 hd2 HW1 HV;go_wp2_with fail;refine(Vv (F6 HW3.out) (fun j hj=>HW3.out.secs.len hj) hP.1 (by omega)).mono ?_;rintro e w4 ⟨gr,gt,rfl,hdk,hb,hd1,hd2⟩;have HF4:=zA (HF3.out.trans (Af hb []));have HV4:=zA (HV3.out.same (A7 hb HV3.out.lt));have HD4:=zA (HD3.out.fr (Af hb []) (by simp) (by simp));have HR4:=zA hdk;have HG2:=zA (show w3.heap.size<=gr/\w3.heap.size<=gt/\gr<w4.heap.size/\gt<w4.heap.size from⟨hd1,hd2,Aa hdk.hd,hdk.hs.lt⟩);clear hdk hb hd1 hd2 HW3 HV3 HD3;go_wp2_with fail;refine(Sb (F6 HV4.out) hP2.1 (by omega)).mono ?_;rintro e w5 ⟨go,gu,rfl,hdk,hb,hd1,hd2⟩;have HF5:=zA (HF4.out.trans (Af hb []));have HV5:=zA (HV4.out.same (A7 hb HV4.out.lt));have HD5:=zA (HD4.out.fr (Af hb []) (by simp) (by simp));have HR5:=zA (HR4.out.fr (Af hb []) (by simp) (by simp));have HO5:=zA hdk;have HG3:=zA (show w4.heap.size<=go/\w4.heap.size<=gu/\go<w5.heap.size/\gu<w5.heap.size from⟨hd1,hd2,Aa hdk.hd,hdk.hs.lt⟩);clear hdk hb hd1 hd2 HV4 HD4 HR4;go_wp2_with fail;refine(Vv (F6 HV5.out) (fun j hj=>HV5.out.secs.len hj) hP2.1 (by omega)).mono ?_;rintro e w6 ⟨gp,gv,rfl,hdk,hb,hd1,hd2⟩;have HF6:=zA (HF5.out.trans (Af hb []));have HD6:=zA (show D4 w6 gd gs gr gt go gu gp gv N K (Kh S) (Kh S) (Kh S2) (Kh S2)from⟨HD5.out.fr (Af hb []) (by simp) (by simp),HR5.out.fr (Af hb []) (by simp) (by simp),HO5.out.fr (Af hb []) (by simp) (by simp),hdk⟩);have HG4:=zA (show w5.heap.size<=gp/\w5.heap.size<=gv/\gp<w6.heap.size/\gv<w6.heap.size from⟨hd1,hd2,Aa hdk.hd,hdk.hs.lt⟩);clear hdk hb hd1 hd2 HV5 HD5 HR5 HO5;go_wp2_with fail;refine(W1 _).mono ?_;rintro e w7 ⟨rfl,hb⟩;have HF7:=zA (HF6.out.trans (Af hb []));have HD7:=zA (HD6.out.same (Af hb []))
 have HNM:Hid (Nm w.heap.size gd gs gr gt go gu gp gv w7.heap.size):=zA (by
  have h1:=HG1.out;have h2:=HG2.out;have h3:=HG3.out;have h4:=HG4.out;have h5:=hb.size;have h6:=HF2.out.size;exact⟨by omega,by omega,by omega,by omega,by omega⟩)
 clear hb HD6 HF1 HF2 HF3 HF4 HF5 HF6 HG1 HG2 HG3 HG4 HF0;go_upto_block 0 with fail
 have HI0:Hid (FL w7.heap.size w7 (0*2) (.slice none 0 0) none (fun _=>Y8)):=zA ⟨.inl ⟨rfl,rfl,rfl⟩,⟨fun i hi=>by omega,fun i j hi=>by omega⟩,fun i hi=>by omega,fun g hg=>by cases hg⟩;have HS0:Hid (DSm (Kh S) (((0:Nat):Int)*5000)/\DSm (Kh S2) (((0:Nat):Int)*5000)):=zA ⟨⟨Int.le_refl _,Int.le_refl _,Int.le_refl _,by show(0:Int)<=_;omega⟩,⟨Int.le_refl _,Int.le_refl _,Int.le_refl _,by show(0:Int)<=_;omega⟩⟩;go_cut [17]from 18 (fun v17 wx=>∃ (k:Nat) (ol:Option Nat) (R:Nat->RP) (d O:DS),2<=k/\k<=12/\Hid (d.off=false/\O.off=false/\O.armed=false)/\Hid (DSm d ((k:Int)*5000)/\DSm O ((k:Int)*5000))/\Hid (D4 wx gd gs gr gt go gu gp gv N K d d O O)/\Hid (FL w7.heap.size wx (k*2) v17 ol R)/\Hid (Fr (g8 gd gs gr gt go gu gp gv) w7 wx))
 case first=>
  go_wp2_with fail;go_loopw [17,18] (fun v17 v wr=>∃ (k:Nat) (ol:Option Nat) (R:Nat->RP) (d O:DS),v= .int .i64 k/\k<=l.length+2/\k<=12/\Hid (d.off=false/\O.off=false/\O.armed=false)/\Hid (DSm d ((k:Int)*5000)/\DSm O ((k:Int)*5000))/\Hid (D4 wr gd gs gr gt go gu gp gv N K d d O O)/\Hid (FL w7.heap.size wr (k*2) v17 ol R)/\Hid (Fr (g8 gd gs gr gt go gu gp gv) w7 wr)) (fun _ v _=>12-(intOf v).toNat)
  case atStart=>exact⟨0,none,_,Kh S,Kh S2,rfl,by omega,by omega,zA ⟨rfl,rfl,rfl⟩,HS0,HD7,HI0,zA (Fr.refl _ _)⟩
  case round=>
   obtain⟨k,ol,R,d,O,rfl,hk,hk12,HOF,HSM,HD,HFL,HF⟩:=hrel;have hk0:(0:Int)<=(k:Int):=Int.natCast_nonneg _;by_cases hc:k<l.length+2/\k<12
   ·have hk1:(k:Int)<(l.length:Int)+2:=(by omega);have hk2:decide ((k:Int)<12)=true:=decide_eq_true (by omega);have hk3:k<12:=hc.2;have hk4:(k:Int)<12:=(by omega);have HFw:Hid (Fr [] w wr):=zA ((HF7.out.mono (ex':=g8 gd gs gr gt go gu gp gv) (by simp)).trans HF.out|>.past (fun g hg=> .inr (HNM.out.lt8 g hg).2));go_upto_if 96 with fail;clear hc hk2;go_cut []from 82 to 187 (fun wx=>∃ d':DS,Hid (d'.off=false)/\Hid (DSm d' ((k:Int)*5000))/\Hid (D4 wx gd gs gr gt go gu gp gv N K d' d' O O)/\Hid (FL w7.heap.size wx (k*2) u17 ol R)/\Hid (Fr (g8 gd gs gr gt go gu gp gv) w7 wx))
    case first=>
     by_cases hka:k<l.length
     ·have hka1:(k:Int)<(l.length:Int):=(by omega);obtain⟨gl,ol',csl,tl,frl,x,eal,hgl,hxl,hx⟩:=(HL.out.fr HFw.out).cell hka;subst eal;have hll2:=Aa hgl;have HX:=zA hx;clear hx;go_wp2_with fail;refine(Ri x 12 HX.out.1 HX.out.2 (by omega) (by omega) wr).mono ?_;rintro e w8 ⟨rfl,rfl⟩;have hp6:=Ly x (n:=12) (by omega);generalize Fz x 12=n at*;clear hgl hxl hll2;go_wp2_with fail;refine(pD HD.out.d (n:=n) (by omega)).mono ?_;rintro e w9 ⟨-,hx2⟩;obtain⟨rfl,hdk,hf⟩:=hx2 HOF.out.1;have HD9:=zA (HD.out.td HNM.out (hf.mono (by simp)) hdk);have HL9:=zA (HFL.out.fr hf (fun g hg=>by have:=(HNM.out.lt8 g (Sx (by simp at hg;simp[hg]))).1;omega));have HF9:=zA (HF.out.trans (hf.mono (fun g hg=>Sx (by simp at hg;simp[hg]))));clear hx2 hdk hf;go_wp2_with fail;refine(mS HD9.out.r (n:=n) (by omega)).mono ?_;rintro e wA ⟨-,hx2⟩;obtain⟨rfl,hdk,hf⟩:=hx2 HOF.out.1;have HDA:=zA (HD9.out.tr HNM.out (hf.mono (by simp)) hdk);have HLA:=zA (HL9.out.fr hf (fun g hg=>by have:=(HNM.out.lt8 g (Lv (by simp at hg;simp[hg]))).1;omega));have HFA:=zA (HF9.out.trans (hf.mono (fun g hg=>Lv (by simp at hg;simp[hg]))));clear hx2 hdk hf;go_wp2_with fail;go_meet
      case rel=>exact⟨Nk n d,zA rfl,zA (HSM.out.1.arm (by omega)),HDA,HLA,HFA⟩
     ·have hka1:¬ (k:Int)<(l.length:Int):=(by omega);go_wp2_with fail;go_meet
      case rel=>exact⟨d,zA HOF.out.1,zA HSM.out.1,HD,HFL,HF⟩
    case rest=>
     obtain⟨d',HO',HS',HD',HL',HF'⟩:=hcut;go_wp2_with fail;refine(Rk HD'.out.d (HS'.out.ok (by omega)).1 (HS'.out.ok (by omega)).2 (by omega)).mono ?_;rintro e wq ⟨A,hA⟩;obtain⟨a0,k0,a1,k1,a2',k2,a3,k3,hv,hgA,hA1,heA⟩:=hA.r.laid;obtain rfl:=hA.e;have hfA:=Do wq (.cells #[.slice a0 A.N k0,.slice a1 A.xs.length k1,.slice a2' A.ys.length k2,.slice a3 A.zs.length k3] 34) [];have HDA:=zA ((HD'.out.td HNM.out hA.f hA.k).same hfA);have HLA:=zA ((HL'.out.fr hA.f (fun g hg=>(HNM.out.lt8 g (Sx hg)).1)).fr hfA (by simp));have HFA:=zA ((HF'.out.trans (hA.f.mono (fun g hg=>Sx hg))).trans (hfA.mono (by simp)));have HAY:=zA (And.intro hA.y hA.n);have HAO:=zA hA.o;have HA1:=zA hA1;have HAE:=zA heA;have HAL:=zA hA1.lt;have HLO:Hid (∀ i,i<k*2->∀ g∈(R i).os,g<wc.heap.size):=zA (fun i hi=>(HL'.out.rs.rep i hi).lt);have HZA:=zA hA.f.size;have HGA:=zA hgA;obtain⟨E,hE⟩:∃ E,(E5 N d').1=E:=⟨_,rfl⟩;have HEE:=zA hE;rw[hv,hE];clear hA hv hgA hA1 heA hfA hE;go_upto_region 18 with fail;generalize wq.alloc (.cells #[.slice a0 A.N k0,.slice a1 A.xs.length k1,.slice a2' A.ys.length k2,.slice a3 A.zs.length k3] 34)=wA at*;generalize wq.heap.size=gA at*;go_wp2_with fail;refine(Tw HDA.out.r (HS'.out.ok (by omega)).1 (HS'.out.ok (by omega)).2 (by omega)).mono ?_;rintro e wr2 ⟨b0,b1,b2,b3,q1,q2,q3,M,W,xs,ys,zs,rfl,hRV,hR0,hR1,hrk,hfr,hKP⟩;obtain⟨x0,y0,rfl,-⟩:=id hRV.i;obtain⟨x1,y1,rfl⟩:=id hRV.q1.slice;obtain⟨x2,y2,rfl⟩:=id hRV.q2.slice;obtain⟨x3,y3,rfl⟩:=id hRV.q3.slice;have hfS:=Do wr2 (.cells #[.slice x0 M y0,.slice x1 xs.length y1,.slice x2 ys.length y2,.slice x3 zs.length y3] 34) [];have HGS:=zA (A6 wr2 (.cells #[.slice x0 M y0,.slice x1 xs.length y1,.slice x2 ys.length y2,.slice x3 zs.length y3] 34)).1;have HDS:=zA ((HDA.out.tr HNM.out hfr hrk).same hfS);have HLS:=zA ((HLA.out.fr hfr (fun g hg=>(HNM.out.lt8 g (Lv hg)).1)).fr hfS (by simp));have HFS:=zA ((HFA.out.trans (hfr.mono (fun g hg=>Lv hg))).trans (hfS.mono (by simp)));have hwB:w7.heap.size<=wc.heap.size:=HF'.out.size;have hfAS:=(hfr.trans (hfS.mono (ex':=[gr,gt]) (by simp)));have HAS:=zA (HA1.out.fr hfAS (fun g hg hm=>by
      have h1:=HAO.out g hg;have h2:=(HNM.out.lt8 g (Lv (gd:=gd) (gs:=gs) (go:=go) (gu:=gu) (gp:=gp) (gv:=gv) hm)).1;omega))
     have HGAS:=zA ((hfAS.block gA (Aa HGA.out) (fun hm=>by
      have h2:=(HNM.out.lt8 gA (Lv (gd:=gd) (gs:=gs) (go:=go) (gu:=gu) (gp:=gp) (gv:=gv) hm)).1;have h3:=HZA.out;omega)).trans HGA.out)
     have HKP:=zA hKP;have HFSA:=zA hfS;have HR01:=zA (And.intro hR0 hR1);have HZS:=zA hfr.size;have hsim:=Rl (N:=N) (Sim.refl d');have HSIM:=zA hsim.2;rw[hsim.1,HEE.out];clear hRV hR0 hR1 hrk hfr hfS hfAS hsim hKP;go_upto_region 19 with fail;generalize wr2.alloc (.cells #[.slice x0 M y0,.slice x1 xs.length y1,.slice x2 ys.length y2,.slice x3 zs.length y3] 34)=wS at*;generalize wr2.heap.size=gS at*;go_wp2_with fail;refine(Rk HDS.out.o (HSM.out.2.ok (by omega)).1 (HSM.out.2.ok (by omega)).2 (by omega)).mono ?_;rintro e wt ⟨C,hC⟩;obtain⟨s0,m0,s1,m1,s2,m2,s3,m3,hv,hgC,hC1,heC⟩:=hC.r.laid;obtain rfl:=hC.e;have hfC:=Do wt (.cells #[.slice s0 C.N m0,.slice s1 C.xs.length m1,.slice s2 C.ys.length m2,.slice s3 C.zs.length m3] 34) [];have hfSC:=hC.f.trans (hfC.mono (ex':=[go,gu]) (by simp));have HDC:=zA ((HDS.out.to' HNM.out hC.f hC.k).same hfC);have HLC:=zA ((HLS.out.fr hC.f (fun g hg=>(HNM.out.lt8 g (dZ hg)).1)).fr hfC (by simp));have HFC:=zA ((HFS.out.trans (hC.f.mono (fun g hg=>dZ hg))).trans (hfC.mono (by simp)));have HCY:=zA (And.intro hC.y hC.n);have HCO:=zA hC.o;have HC1:=zA hC1;have HCE:=zA heC;have HZC:=zA hC.f.size;have HGC:=zA hgC;have hnB:∀ b,w7.heap.size<=b->b∉[go,gu]:=fun b hb hm=>by
      have h2:=(HNM.out.lt8 b (dZ (gd:=gd) (gs:=gs) (gr:=gr) (gt:=gt) (gp:=gp) (gv:=gv) hm)).1;omega
     have HAC:=zA (HAS.out.fr hfSC (fun g hg=>hnB g (by have h1:=HAO.out g hg;omega)));have HGAC:=zA ((hfSC.block gA (Aa HGAS.out) (hnB gA (by have:=HZA.out;omega))).trans HGAS.out);have hgSB:w7.heap.size<=gS:=by
      have h1:=HZA.out;have h2:=HZS.out;have h3:=Aa HGA.out;omega
     have HGSC:=zA ((hfSC.block gS (Aa HGS.out) (hnB gS hgSB)).trans HGS.out);have hfW:Fr (g8 gd gs gr gt go gu gp gv) wr2 _:=(HFSA.out.mono (ex':=g8 gd gs gr gt go gu gp gv) (by simp)).trans (hfSC.mono (fun g hg=>dZ hg));have HFW:=zA hfW;have HSA:Hid ((A.N=M/\∀ j,j<A.N->A.S j=W j)/\A.xs=xs/\A.ys=ys/\A.zs=zs):=zA (Ks (N:=N) (Sim.refl d') HAY.out.1 HAY.out.2 HR01.out.1 HR01.out.2);have hgAl:w7.heap.size<=gA/\gA<wA.heap.size:=⟨by have:=HZA.out;omega,Aa HGA.out⟩;have hgCl:w7.heap.size<=wt.heap.size:=by
      have h1:=HZS.out;have h2:=HZC.out;have h3:=Aa HGS.out;omega
     obtain⟨E2,hE2⟩:∃ E2,(E5 K O).1=E2:=⟨_,rfl⟩;have HEE2:=zA hE2;rw[hv,hE2];clear hC hv hgC hC1 heC hfC hfSC hE2 hfW;go_upto_region 20 with fail;generalize wt.alloc (.cells #[.slice s0 C.N m0,.slice s1 C.xs.length m1,.slice s2 C.ys.length m2,.slice s3 C.zs.length m3] 34)=wC at*;generalize wt.heap.size=gC at*;go_wp2_with fail;refine(Tw HDC.out.p (HSM.out.2.ok (by omega)).1 (HSM.out.2.ok (by omega)).2 (by omega)).mono ?_;rintro e wr3 ⟨f0,f1,f2,f3,r1,r2,r3,M2,W2,xs2,ys2,zs2,rfl,hRV,hR0,hR1,hrk,hfr,-⟩;obtain⟨z0,n0,rfl,-⟩:=id hRV.i;obtain⟨z1,n1,rfl⟩:=id hRV.q1.slice;obtain⟨z2,n2,rfl⟩:=id hRV.q2.slice;obtain⟨z3,n3,rfl⟩:=id hRV.q3.slice;have hfV:=Do wr3 (.cells #[.slice z0 M2 n0,.slice z1 xs2.length n1,.slice z2 ys2.length n2,.slice z3 zs2.length n3] 34) [];have hfrV:=hfr.trans (hfV.mono (ex':=[gp,gv]) (by simp));have hfWV:=HFW.out.trans (hfrV.mono (fun g hg=>eA hg));have hn8:∀ b,w7.heap.size<=b->b∉[gp,gv]:=fun b hb hm=>by
      have h2:=(HNM.out.lt8 b (eA (gd:=gd) (gs:=gs) (gr:=gr) (gt:=gt) (go:=go) (gu:=gu) hm)).1;omega
     have hsim:=Rl (N:=K) (Sim.refl O);have HSIM2:=zA hsim.2;have HSC:Hid ((C.N=M2/\∀ j,j<C.N->C.S j=W2 j)/\C.xs=xs2/\C.ys=ys2/\C.zs=zs2):=zA (Ks (N:=K) (Sim.refl O) HCY.out.1 HCY.out.2 hR0 hR1)
     have HRD:Hid (Rd (wr3.alloc (.cells #[.slice z0 M2 n0,.slice z1 xs2.length n1,.slice z2 ys2.length n2,.slice z3 zs2.length n3] 34)) gd gs gr gt go gu gp gv N K (E5 N d').2 (G1 N d').2 (E5 K O).2 (G1 K O).2 w7.heap.size (k*2) u17 ol R gA gS gC wr3.heap.size A C (.slice x0 M y0) (.slice x1 xs.length y1) (.slice x2 ys.length y2) (.slice x3 zs.length y3) q1 q2 q3 M W xs ys zs (.slice z0 M2 n0) (.slice z1 xs2.length n1) (.slice z2 ys2.length n2) (.slice z3 zs2.length n3) r1 r2 r3 M2 W2 xs2 ys2 zs2):=zA ⟨(HDC.out.tp HNM.out hfr hrk).same hfV,(HLC.out.fr hfr (fun g hg=>(HNM.out.lt8 g (eA hg)).1)).fr hfV (by simp),
      by rw[HAE.out.1,HAE.out.2.1,HAE.out.2.2.1,HAE.out.2.2.2];exact(hfrV.block gA (Aa HGAC.out) (hn8 gA hgAl.1)).trans HGAC.out,
      (hfrV.block gS (Aa HGSC.out) (hn8 gS hgSB)).trans HGSC.out,
      by rw[HCE.out.1,HCE.out.2.1,HCE.out.2.2.1,HCE.out.2.2.2];exact(hfrV.block gC (Aa HGC.out) (hn8 gC hgCl)).trans HGC.out,
      (A6 wr3 _).1,HAC.out.fr hfrV (fun g hg=>hn8 g (by have h1:=HAO.out g hg;omega)),HC1.out.fr hfrV (fun g hg=>hn8 g (by have h1:=HCO.out g hg;have:=Aa HGS.out;have:=HZS.out;omega)),
      HKP.out _ _ (fun g hg=>by have:=(HNM.out.lt8 g hg).1;omega) hfWV,hRV.same hfV⟩
     have HFD:=zA ((HFC.out.trans (hfr.mono (fun g hg=>eA hg))).trans (hfV.mono (by simp)))
     have HORD:Hid ((∀ i,i<k*2->∀ g∈(R i).os,∀ q∈A.os,g<q)/\(∀ i,i<k*2->∀ g∈(R i).os,∀ q∈C.os,g<q)/\(∀ g∈A.os,∀ q∈C.os,g<q)/\(∀ g∈A.os,w7.heap.size<=g)/\(∀ g∈C.os,w7.heap.size<=g)):=zA (by
      have h1:=HAO.out;have h2:=HCO.out;have h3:=HLO.out;have h4:=HZA.out;have h5:=HZS.out;have h6:=Aa HGS.out;have h7:=HAL.out;refine⟨fun i hi g hg q hq=>?_,fun i hi g hg q hq=>?_,fun g hg q hq=>?_,fun g hg=>?_,fun g hg=>?_⟩
      ·have:=h3 i hi g hg;have:=h1 q hq;omega
      ·have:=h3 i hi g hg;have:=h2 q hq;omega
      ·have:=h7 g hg;have:=h2 q hq;omega
      ·have:=h1 g hg;omega
      ·have:=h2 g hg;omega)
     rw[hsim.1,HEE2.out];clear hRV hR0 hR1 hrk hfr hfV hfrV hfWV hn8 hsim HKP HFSA HFW HAC HC1 HGAC HGSC HGC HAO HCO HLO HZA HZS HZC HAL HAE HCE HAY HR01 HCY HDA HLA HFA HA1 HGA HDS HLS HFS HAS HGAS HGS HDC HLC HFC hgAl hgSB hgCl hnB;go_upto_region 21 with fail;generalize wr3.alloc (.cells #[.slice z0 M2 n0,.slice z1 xs2.length n1,.slice z2 ys2.length n2,.slice z3 zs2.length n3] 34)=wD at*;generalize wr3.heap.size=gV at*;have hga:=HRD.out.a;have hgs:=HRD.out.s;go_wp2_with fail;refine(L5 HRD.out.A.repV HRD.out.b HSA.out).mono ?_;rintro e wE ⟨rfl,hf⟩;have HRE:=zA (HRD.out.same hf);have HFE:=zA (HFD.out.trans (hf.mono (by simp)));clear hf hga hgs HRD HFD;have hga:=HRE.out.t;have hgs:=HRE.out.v;go_wp2_with fail;refine(L5 HRE.out.C.repV HRE.out.e HSC.out).mono ?_;rintro e wF ⟨rfl,hf⟩;have HRF:=zA (HRE.out.same hf);have HFF:=zA (HFE.out.trans (hf.mono (by simp)));clear hf hga hgs HRE HFE;go_wp2_with fail;refine(N9 HRF.out.D.d).mono ?_;rintro e wG ⟨rfl,rfl⟩;go_wp2_with fail;refine(Qy HRF.out.D.r).mono ?_;rintro e wG ⟨rfl,rfl⟩;rw[HSIM.out.c];go_wp2_with fail;refine(N9 HRF.out.D.o).mono ?_;rintro e wG ⟨rfl,rfl⟩;go_wp2_with fail;refine(Qy HRF.out.D.p).mono ?_;rintro e wG ⟨rfl,rfl⟩;rw[HSIM2.out.c];go_wp2_with fail;refine(J1 HRF.out.D.d (by omega)).mono ?_;rintro e wG ⟨gx,rfl,hws,hb,-⟩;have HRG:=zA (HRF.out.same (Af hb []));have HFG:=zA (HFF.out.trans (Af hb _));have HIM:=zA hws;clear hb hws HRF HFF;go_wp2_with fail;refine(Ku HRG.out.D.r (by omega)).mono ?_;rintro e wH ⟨vi,oi,rfl,hws,hb,-⟩;have HRH:=zA (HRG.out.same (Af hb []));have HFH:=zA (HFG.out.trans (Af hb _));have HIN:=zA (HIM.out.same (A7 hb HIM.out.lt));have HIR:=zA hws;clear hb hws HRG HFG HIM;go_wp2_with fail;refine(T8 (F6 HIN.out) HIR.out.img (by omega) (fun j hj=>by rw[HSIM.out.s])).mono ?_;rintro e wI ⟨rfl,hf⟩;have HRI:=zA (HRH.out.same hf);have HFI:=zA (HFH.out.trans (hf.mono (by simp)));clear hf HRH HFH HIN HIR;go_wp2_with fail;refine(J1 HRI.out.D.o (by omega)).mono ?_;rintro e wJ ⟨gy,rfl,hws,hb,-⟩;have HRJ:=zA (HRI.out.same (Af hb []));have HFJ:=zA (HFI.out.trans (Af hb _));have HIM:=zA hws;clear hb hws HRI HFI;go_wp2_with fail;refine(Ku HRJ.out.D.p (by omega)).mono ?_;rintro e wK ⟨vj,oj,rfl,hws,hb,-⟩;have HRK:=zA (HRJ.out.same (Af hb []));have HFK:=zA (HFJ.out.trans (Af hb _));have HIN:=zA (HIM.out.same (A7 hb HIM.out.lt));have HIR:=zA hws;clear hb hws HRJ HFJ HIM;go_wp2_with fail;refine(T8 (F6 HIN.out) HIR.out.img (by omega) (fun j hj=>by rw[HSIM2.out.s])).mono ?_;rintro e wL ⟨rfl,hf⟩;have HRL:=zA (HRK.out.same hf);have HFL':=zA (HFK.out.trans (hf.mono (by simp)));clear hf HRK HFK HIN HIR;have hga:=HRL.out.a;have hgs:=HRL.out.t;have hBw:w7.heap.size<=wL.heap.size:=HFL'.out.size;obtain⟨na,nc,wN,ol2,hr,hfl,ex,hfr,hex⟩:=HRL.out.L.next (by omega) hBw HRL.out.A HRL.out.C HORD.out.1 HORD.out.2.1 HORD.out.2.2.1 HORD.out.2.2.2.1 HORD.out.2.2.2.2 54
     have HDN:=zA (HRL.out.D.off HNM.out hfr hex);have HLN:=zA hfl;have HFN:Hid (Fr (g8 gd gs gr gt go gu gp gv) w7 wN):=zA (((HFL'.out.mono (ex':=g8 gd gs gr gt go gu gp gv++ex) (fun g hg=>List.mem_append_left _ hg)).trans (hfr.mono (fun g hg=>List.mem_append_right _ hg))).past (fun g hg=>by
      rcases List.mem_append.1 hg with hg|hg
      ·exact .inl hg
      ·exact .inr (hex g hg)))
     have HR1:=zA hr;have HBS:=zA (pH [#[A.v0,A.v1,A.v2,A.v3],#[C.v0,C.v1,C.v2,C.v3]] (by simp) (by simp) (by simp) wL);clear hr hfl hfr hex hBw;go_upto_region 23 with fail;iterate 11 (first|go_values|go_skip|go_guarded|go_step|go_upon|go_back)
     refine uB 54 (.tmp 180) (.tmp 181) rfl _ _ rfl rfl _ _ HBS.out ?_;iterate 1 (first|go_values|go_skip|go_guarded|go_step|go_upon|go_back)
     at_builtin;refine Ao _ rfl (.tmp 179) (.tmp 182) 54 rfl _ _ rfl rfl _ _ HR1.out ?_;clear HBS HR1 hga hgs HRL HFL';go_wp2_with fail;refine(Zj HDN.out.d).mono ?_;rintro e wO ⟨rfl,hdk,hf⟩;have HDO:=zA (HDN.out.td HNM.out (hf.mono (by simp)) hdk);have HLO:=zA (HLN.out.fr hf (fun g hg=>by have:=(HNM.out.lt8 g (Sx (by simp at hg;simp[hg]))).1;omega));have HFO:=zA (HFN.out.trans (hf.mono (fun g hg=>Sx (by simp at hg;simp[hg]))));clear hf hdk HDN HLN HFN;go_wp2_with fail;refine(Xg HDO.out.r).mono ?_;rintro e wP ⟨rfl,hdk,hf⟩;have HDP:=HDO.out.tr HNM.out (hf.mono (by simp)) hdk;have HLP:=zA (HLO.out.fr hf (fun g hg=>by have:=(HNM.out.lt8 g (Lv (by simp at hg;simp[hg]))).1;omega));have HFP:=zA (HFO.out.trans (hf.mono (fun g hg=>Lv (by simp at hg;simp[hg]))));rw[mX HSIM.out,HSIM2.out.e (Zr (N:=K) HOF.out.2.1 HOF.out.2.2).1]at HDP;have HDQ:=zA HDP;clear hf hdk HDO HLO HFO HDP;go_wp2_with fail;go_roundw
     case rel=>exact⟨k+1,ol2,_,Oy (E5 N d').2,(E5 K O).2,by go_num,by omega,by omega,zA ⟨rfl,Zr (N:=K) HOF.out.2.1 HOF.out.2.2⟩,zA ⟨(Vz (N:=N) HS'.out).rest.mono (by push_cast;omega),(Vz (N:=K) HSM.out.2).mono (by push_cast;omega)⟩,HDQ,by rw[show(k+1)*2=k*2+2 by omega];exact HLP,HFP⟩
     case measure=>(show 12-(k+1)<12-k);omega
   ·by_cases hc2:k<l.length+2
    ·have hk1:(k:Int)<(l.length:Int)+2:=(by omega);have hk2:decide ((k:Int)<12)=false:=decide_eq_false (by omega);have hk3:¬ (k:Int)<12:=(by omega);go_wp2_with fail;go_meet
     case rel=>exact⟨k,ol,R,d,O,by omega,hk12,HOF,HSM,HD,HFL,HF⟩
    ·have hk1:¬ (k:Int)<(l.length:Int)+2:=(by omega);go_wp2_with fail;go_meet
     case rel=>exact⟨k,ol,R,d,O,by omega,hk12,HOF,HSM,HD,HFL,HF⟩
 case rest=>
  obtain⟨k,ol,R,d,O,hk2,hk12,HOF,HSM,HD,HFL,HF⟩:=hcut;obtain⟨gl,fl,cl,rfl⟩:∃ gl fl cl,u17= .slice (some ⟨gl,fl,none⟩) (k*2:Nat) cl:=by
   rcases HFL.out.l with ⟨-,-,h0⟩|⟨g,off,c,cs,e1,-⟩
   ·omega
   ·exact⟨g,off,c,e1⟩
  go_wp2_with fail;refine(cR HFL.out.l HFL.out.rs (by omega) (by omega)).mono ?_;rintro e wa ⟨rfl,hf⟩;have hos:∀ g∈osR (k*2) R,w7.heap.size<=g:=fun g hg=>by
   obtain⟨i,hi,hg⟩:=eC.1 hg;exact HFL.out.lo i hi g hg
  have HDa:=zA (HD.out.off HNM.out hf hos);have HFa:Hid (Fr (g8 gd gs gr gt go gu gp gv) w7 wa):=zA (((HF.out.mono (ex':=g8 gd gs gr gt go gu gp gv++osR (k*2) R) (fun g hg=>List.mem_append_left _ hg)).trans (hf.mono (fun g hg=>List.mem_append_right _ hg))).past (fun g hg=>by
   rcases List.mem_append.1 hg with hg|hg
   ·exact .inl hg
   ·exact .inr (hos g hg)))
  clear hf hos HD HF HFL;go_wp2_with fail;refine(Rk HDa.out.d (HSM.out.1.ok (by omega)).1 (HSM.out.1.ok (by omega)).2 (by omega)).mono ?_;rintro e wq ⟨A,hA⟩;obtain⟨a0,k0,a1,k1,a2',k2,a3,k3,hv,hgA,hA1,heA⟩:=hA.r.laid;obtain rfl:=hA.e;have hfA:=Do wq (.cells #[.slice a0 A.N k0,.slice a1 A.xs.length k1,.slice a2' A.ys.length k2,.slice a3 A.zs.length k3] 34) [];have HDA:=zA ((HDa.out.td HNM.out hA.f hA.k).same hfA);have HFA:=zA ((HFa.out.trans (hA.f.mono (fun g hg=>Sx hg))).trans (hfA.mono (by simp)));have HAY:=zA (And.intro hA.y hA.n);have HAO:=zA hA.o;have HA1:=zA hA1;have HAE:=zA heA;have HZA:=zA hA.f.size;have HGA:=zA hgA;obtain⟨E,hE⟩:∃ E,(E5 N d).1=E:=⟨_,rfl⟩;have HEE:=zA hE;rw[hv,hE];clear hA hv hgA hA1 heA hfA hE;go_upto_region 29 with fail;generalize wq.alloc (.cells #[.slice a0 A.N k0,.slice a1 A.xs.length k1,.slice a2' A.ys.length k2,.slice a3 A.zs.length k3] 34)=wA at*;generalize wq.heap.size=gA at*;go_wp2_with fail;refine(Tw HDA.out.r (HSM.out.1.ok (by omega)).1 (HSM.out.1.ok (by omega)).2 (by omega)).mono ?_;rintro e wr2 ⟨b0,b1,b2,b3,q1,q2,q3,M,W,xs,ys,zs,rfl,hRV,hR0,hR1,hrk,hfr,-⟩;obtain⟨x0,y0,rfl,-⟩:=id hRV.i;obtain⟨x1,y1,rfl⟩:=id hRV.q1.slice;obtain⟨x2,y2,rfl⟩:=id hRV.q2.slice;obtain⟨x3,y3,rfl⟩:=id hRV.q3.slice;have hfS:=Do wr2 (.cells #[.slice x0 M y0,.slice x1 xs.length y1,.slice x2 ys.length y2,.slice x3 zs.length y3] 34) [];have HGS:=zA (A6 wr2 (.cells #[.slice x0 M y0,.slice x1 xs.length y1,.slice x2 ys.length y2,.slice x3 zs.length y3] 34)).1;have HDS:=zA ((HDA.out.tr HNM.out hfr hrk).same hfS);have HFS:=zA ((HFA.out.trans (hfr.mono (fun g hg=>Lv hg))).trans (hfS.mono (by simp)));have hwB:w7.heap.size<=wa.heap.size:=HFa.out.size;have hfAS:=(hfr.trans (hfS.mono (ex':=[gr,gt]) (by simp)));have HAS:=zA (HA1.out.fr hfAS (fun g hg hm=>by
   have h1:=HAO.out g hg;have h2:=(HNM.out.lt8 g (Lv (gd:=gd) (gs:=gs) (go:=go) (gu:=gu) (gp:=gp) (gv:=gv) hm)).1;omega))
  have hgas:=(hfAS.block gA (Aa HGA.out) (fun hm=>by
   have h2:=(HNM.out.lt8 gA (Lv (gd:=gd) (gs:=gs) (go:=go) (gu:=gu) (gp:=gp) (gv:=gv) hm)).1;have h3:=HZA.out;omega)).trans HGA.out
  rw[<-HAE.out.1, <-HAE.out.2.1, <-HAE.out.2.2.1, <-HAE.out.2.2.2]at hgas;have HGAS:=zA hgas;have HRS:=zA (hRV.same hfS);have HSA:Hid ((A.N=M/\∀ j,j<A.N->A.S j=W j)/\A.xs=xs/\A.ys=ys/\A.zs=zs):=zA (Ks (N:=N) (Sim.refl d) HAY.out.1 HAY.out.2 hR0 hR1);have hsim:=Rl (N:=N) (Sim.refl d);have HSIM:=zA hsim.2;rw[hsim.1,HEE.out];clear hRV hR0 hR1 hrk hfr hfS hfAS hsim hgas HGA HDA HFA HA1 HAO HZA HAE HAY hwB;go_upto_region 30 with fail;generalize wr2.alloc (.cells #[.slice x0 M y0,.slice x1 xs.length y1,.slice x2 ys.length y2,.slice x3 zs.length y3] 34)=wS at*;generalize wr2.heap.size=gS at*;have hga:=HGAS.out;have hgs:=HGS.out;go_wp2_with fail;refine(L5 HAS.out.repV HRS.out HSA.out).mono ?_;rintro e wE ⟨rfl,hf⟩;have HDE:=zA (HDS.out.same hf);have HFE:=zA (HFS.out.trans (hf.mono (by simp)));clear hf hga hgs HDS HFS HGAS HGS HAS HRS;go_wp2_with fail;refine(J1 HDE.out.d (by omega)).mono ?_;rintro e wG ⟨gx,rfl,hws,hb,-⟩;have HDG:=zA (HDE.out.same (Af hb []));have HFG:=zA (HFE.out.trans (Af hb _));have HIM:=zA hws;clear hb hws HDE HFE;go_wp2_with fail;refine(Ku HDG.out.r (by omega)).mono ?_;rintro e wH ⟨vi,oi,rfl,hws,hb,-⟩;have HFH:=zA (HFG.out.trans (Af hb _));have HIN:=zA (HIM.out.same (A7 hb HIM.out.lt));have HIR:=zA hws;clear hb hws HDG HFG HIM;go_wp2_with fail;refine(T8 (F6 HIN.out) HIR.out.img (by omega) (fun j hj=>by rw[HSIM.out.s])).mono ?_;rintro e wI ⟨rfl,hf⟩;have HFI:=zA ((HF7.out.mono (ex':=g8 gd gs gr gt go gu gp gv) (by simp)).trans (HFH.out.trans (hf.mono (by simp))));clear hf HFH HIN HIR;go_wp2_with fail;go_ret;exact⟨rfl,HFI.out.below (Nat.le_refl _) (fun g hg=>(HNM.out.lt8 g hg).2)⟩
end Go.Proofs.YtmnecpnkkapflaaGreat
