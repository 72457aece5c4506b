import Derived.WalkKit
import Derived.WalkSpells
import Derived.WalkLawsBesides
import Derived.Deep.QuietTactic
import Derived.BigQuiet
import Derived.Lib.Hide
import Derived.Laws.CopyOwn
import Derived.Test.YtmnecpnkkapflaaGreatRows
import Derived.Test.YtmnecpnkkapflaaGreatSh2
import Derived.Laws.RangeAny
import Derived.Laws.Runes
import Derived.WalkMore
import Derived.Deep.LoopGhost
namespace Go.Proofs.YtmnecpnkkapflaaGreat
set_option maxHeartbeats 16000000
set_option maxRecDepth 1000000
set_option linter.unusedSimpArgs false
set_option linter.unusedVariables false
theorem zA{p:Prop}(h:p):Go.RowKit.Hid p:=Lib.hid h
open Go.RowKit
def IV(k:IntKind)(l:List Int):Array Value:=(l.map (Value.int k)).toArray
@[simp] theorem Rb (k:IntKind) (l:List Int):(IV k l).size=l.length:=by simp[IV]
theorem Bl(k:IntKind)(l:List Int)(i:Nat):(IV k l)[i]? =(l[i]?).map (Value.int k):=by simp[IV]
def nth(l:List Int)(i:Nat):Int:=l[i]?.getD 0
theorem Fl{l:List Int}{i:Nat}(h:i<l.length):l[i]=nth l i:=by
 unfold nth;rw[List.getElem?_eq_getElem h];rfl
theorem An{l:List Int}{i:Nat}(h:i<l.length):l[i]? =some (nth l i):=by
 rw[List.getElem?_eq_getElem h,Fl h]
theorem Km{l m:List Int}(h:l.length=m.length)(he:∀ i,i<l.length->nth l i=nth m i):l=m:=by
 apply List.ext_getElem h
 intro i h1 h2;rw[Fl h1,Fl h2];exact he i h1
theorem W4{l:List Int}{i j:Nat}{v:Int}(h:i<l.length):nth (l.set i v) j=if j=i then v else nth l j:=by
 unfold nth;rw[List.getElem?_set];by_cases hij:i=j
 ·subst hij;simp[h]
 ·simp[hij,Ne.symm hij]
theorem bO{l:List Int}{i:Nat}(h:l.length<=i):nth l i=0:=by
 unfold nth;rw[List.getElem?_eq_none h];rfl
theorem H8{l m:List Int}{i:Nat}(h:i<l.length):nth (l++m) i=nth l i:=by
 unfold nth;rw[List.getElem?_append_left h]
theorem Eo{l m:List Int}{i:Nat}(h:l.length<=i):nth (l++m) i=nth m (i-l.length):=by
 unfold nth;rw[List.getElem?_append_right h]
@[go_sem,simp] theorem Lj (k:IntKind) (l:List Int) (i:Nat) (h:i<l.length):(IV k l)[i]? =some (.int k (nth l i)):=by
 rw[Bl,List.getElem?_eq_getElem h,Fl h];rfl
@[go_sem,simp] theorem sU (k:IntKind) (l:List Int) (i:Nat) (h:i<(IV k l).size):(IV k l)[i]= .int k (nth l i):=by
 have h':i<l.length:=by simpa using h
 have:=Lj k l i h';rw[Array.getElem?_eq_getElem h]at this;simpa using this
@[go_sem,simp] theorem Ng (k:IntKind) (l:List Int) (i:Nat) (v:Int):(IV k l).setIfInBounds i (.int k v)=IV k (l.set i v):=by
 unfold IV;apply Array.ext'
 simp
theorem uP(k:IntKind)(l:List Int)(n:Nat)(h:l.length=n+1):IV k l≠ #[]:=by
 intro e;have:=congrArg Array.size e;simp[h]at this
def Ko(cs:Array Value):Bool:=cs.all (·.oneCell')
@[go_sem,simp] theorem xJ (k:IntKind) (l:List Int):Ko (IV k l)=true:=by
 simp[Ko,IV,Value.oneCell']
def zl(n:Nat):List Int:=List.replicate n 0
@[go_sem,simp] theorem C2 (n:Nat):(zl n).length=n:=by simp[zl]
theorem Mf(n i:Nat):nth (zl n) i=0:=by
 unfold nth zl;rw[List.getElem?_replicate];split<;>rfl
@[go_sem] theorem sH (l:List Int) (i:Nat) (v:Int):(l.set i v).length=l.length:=by simp
@[go_sem] theorem mI (l:List Value):Ko l.toArray=l.all (fun v=>v.oneCell'):=by simp[Ko]
@[go_sem] theorem sK (k:IntKind) (n:Int):(Value.int k n).oneCell'=true:=rfl
@[go_sem] theorem qV (b:Bool):(Value.bool b).oneCell'=true:=rfl
@[go_sem] theorem mJ (b:ByteArray):(Value.string b).oneCell'=true:=rfl
@[go_sem] theorem kA (a:Option Addr):(Value.pointer a).oneCell'=true:=rfl
@[go_sem] theorem Jt (a:Option Addr) (n m:Nat):(Value.slice a n m).oneCell'=true:=rfl
@[go_sem] theorem qW (f:Fn) (a b:Array Value):(Value.func f a b).oneCell'=true:=rfl
theorem aK(k:IntKind)(l:List Int)(a b:Nat):(IV k l).extract a b=IV k ((l.drop a).take (b-a)):=by
 unfold IV;apply Array.ext'
 simp[List.extract_eq_take_drop,List.map_drop,List.map_take]
def hat(w:World)(g:Nat):Option Obj:=w.heap[g]?
def Ld(_n:Nat)(ty:TypeId)(a:Addr):Sem Value:=loadVar ty a
def Ea(raw:Result Value)(n off:Nat)(w:World):Option Obj->Result Value
 |some (.cells cs _ _)=>if off+n<=cs.size then .ok (.agg (cs.extract off (off+n))) w else raw
 |_=>raw
theorem Ha{raw:Result Value}{n:Nat}{w:World}{cs:Array Value}{t:TypeId}{fr:Nat×Nat}(h:cs.size=n):
  Ea raw n 0 w (some (.cells cs t fr))= .ok (.agg cs) w:=by
 subst h;simp[Ea]
theorem Dp{raw:Result Value}{n off:Nat}{w:World}{cs:Array Value}{t:TypeId}{fr:Nat×Nat}(h:off+n<=cs.size):
  Ea raw n off w (some (.cells cs t fr))= .ok (.agg (cs.extract off (off+n))) w:=by
 simp[Ea,h]
def Xa(P:Program)(ty:TypeId)(a:Addr)(w:World):Result Value:=(loadVar ty a).run P w
def Xb(P:Program)(ty:TypeId)(a:Addr)(v:Value)(w:World):Result Unit:=(storeVar ty a v).run P w
@[go_sem] theorem uG {raw:Result Value} {n k:Nat} {w:World} {cs:Array Value} {t:TypeId} {fr:Nat×Nat} (h:k*n+n<=cs.size):
  Ea raw n (k*n) w (some (.cells cs t fr))= .ok (.agg (cs.extract (k*n) (k*n+n))) w:=Dp h
section
variable {P:Program}
theorem N4{n:Nat}{ty:TypeId}{d:TypeDesc}(hu:P.underlying ty=some d)(hd:(match d with| .struct _| .array _ _=>true|_=>false)=true)
  (hi:(P.info? ty).map (·.size)=some n) (g off:Nat) (w:World):
  (Ld n ty ⟨g,off,none⟩).run P w=Ea (Xa P ty ⟨g,off,none⟩ w) n off w (hat w g):=by
 unfold Xa hat;unfold Ea Ld;split
 ·rename_i cs t fr hg
  split
  ·rename_i hle
   have hl:(loadCells ⟨g,off,none⟩ (cs.extract off (off+n)).toList.length).run P w= .ok (cs.extract off (off+n)).toList.toArray w:=
    run_loadCells_list (P:=P) w ⟨g,off,none⟩ (cs.extract off (off+n)).toList (fun j v hv=>by
     have hadd:(⟨g,off,none⟩:Addr).add j=⟨g,off+j,none⟩:=(by unfold Addr.add;split<;>simp_all);rw[hadd,cell_of_row w g (off+j) cs t fr hg];rw[Array.getElem?_toList,Array.getElem?_extract]at hv;split at hv<;>simp_all)
   cases hq:P.info? ty with
   |none=>simp[hq]at hi
   |some i=>
    have hs:i.size=n:=(by simpa [hq]using hi);have hagg:(isAgg ty).run P w= .ok true w:=by
     unfold isAgg;rw[Sem.run_bind,run_underlying hu w];cases d<;>simp_all
    have hlen:(cs.extract off (off+n)).size=n:=(by simp;omega);simp only[Array.length_toList,Array.toArray_toList,hlen]at hl;simp[loadVar,Sem.run_bind,hagg,sizeOf,typeInfo,hq,hs,hl]
  ·rfl
 ·rfl
def St(_n:Nat)(ty:TypeId)(a:Addr)(v:Value):Sem Unit:=storeVar ty a v
def Ap(old:Array Value)(off:Nat)(cs:Array Value):Array Value:=(old.toList.take off++cs.toList++old.toList.drop (off+cs.size)).toArray
@[simp] theorem Hs (old:Array Value) (off:Nat) (cs:Array Value) (h:off+cs.size<=old.size):(Ap old off cs).size=old.size:=by
 simp[Ap];omega
theorem Z5(old:Array Value)(cs:Array Value)(h:cs.size=old.size):Ap old 0 cs=cs:=by
 apply Array.ext';simp[Ap];omega
def Dd(raw:Result Unit)(n off g:Nat)(cs:Array Value)(w:World):Option Obj->Result Unit
 |some (.cells old _ (0,0))=>if off+n<=old.size/\cs.size=n/\Ko cs=true then .ok () (w.setRow g (Ap old off cs))else raw
 |_=>raw
theorem Fp{raw:Result Unit}{n g:Nat}{cs old:Array Value}{w:World}{t:TypeId}(h:old.size=n)(h1:cs.size=n)(h2:Ko cs=true):
  Dd raw n 0 g cs w (some (.cells old t (0,0)))= .ok () (w.setRow g cs):=by
 show(if 0+n<=old.size/\cs.size=n/\Ko cs=true then Result.ok () (w.setRow g (Ap old 0 cs))else raw)=_
 rw[if_pos ⟨by omega,h1,h2⟩,Z5 old cs (by omega)]
theorem Cj{raw:Result Unit}{n off g:Nat}{cs old:Array Value}{w:World}{t:TypeId}(h:off+n<=old.size)(h1:cs.size=n)(h2:Ko cs=true):
  Dd raw n off g cs w (some (.cells old t (0,0)))= .ok () (w.setRow g (Ap old off cs)):=by
 show(if off+n<=old.size/\cs.size=n/\Ko cs=true then Result.ok () (w.setRow g (Ap old off cs))else raw)=_
 rw[if_pos ⟨h,h1,h2⟩]
theorem G3(g off:Nat)(t:TypeId):∀ (vs:List Value) (i:Nat) (cur:Array Value) (w:World),w.heap[g]? =some (.cells cur t (0,0))->off+i+vs.length<=cur.size->(∀ v∈vs,v.oneCell'=true)->
  (storeCells ⟨g,off,none⟩ vs i).run P w= .ok () (w.setRow g (cur.toList.take (off+i)++vs++cur.toList.drop (off+i+vs.length)).toArray)
 |[],i,cur,w,hg,hl,_=>by
  have hlt:g<w.heap.size:=(Array.getElem?_eq_some_iff.1 hg).1;have hv:w.heap[g]= .cells cur t (0,0):=(Array.getElem?_eq_some_iff.1 hg).2;simp only[storeCells,List.append_nil,List.length_nil,Nat.add_zero,List.take_append_drop,Array.toArray_toList];show Result.ok () w=_
  congr 1
  unfold World.setRow;cases w with
  |mk heap tape drawn os output=>
   congr 1
   apply Array.ext
   ·simp
   ·intro k h1 h2;simp only[Array.getElem_modify];split
    ·rename_i hk;subst hk;simp at hv;simp[hv]
    ·rfl
 |v::rest,i,cur,w,hg,hl,h1=>by
  have hi:off+i<cur.size:=(by simp at hl;omega);have hadd:(⟨g,off,none⟩:Addr).add i=⟨g,off+i,none⟩:=(by unfold Addr.add;split<;>simp_all);have hcell:w.cell? ⟨g,off+i,none⟩=some cur[off+i]:=(by simp[World.cell?,hg,hi]);have hfro:w.frozen? ⟨g,off+i,none⟩=false:=(by simp[World.frozen?,hg]);have hst:(store ((⟨g,off,none⟩:Addr).add i) v).run P w= .ok () (w.setRow g (cur.setIfInBounds (off+i) v)):=by
   rw[hadd,run_store P w _ v _ (h1 v (by simp)),hcell];simp[hfro,setCell_eq_setRow w g (off+i) cur t (0,0) v hg]
  have ih:=G3 g off t rest (i+1) (cur.setIfInBounds (off+i) v) (w.setRow g (cur.setIfInBounds (off+i) v)) (setRow_heap w g cur _ t _ hg) (by simp at hl ⊢;omega) (fun x hx=>h1 x (by simp[hx]));simp only[storeCells,Sem.run_bind,hst,Result.andThen_ok,ih,setRow_setRow];congr 3
  apply List.ext_getElem?
  intro k;simp only[Array.toList_setIfInBounds,List.getElem?_append,List.length_append,List.length_take,List.length_set,Array.length_toList,List.length_cons,List.getElem?_take,List.getElem?_drop,List.getElem?_set];simp only[List.length_cons]at hl;have e1:min (off+(i+1)) cur.size=off+i+1:=(by omega);have e2:min (off+i) cur.size=off+i:=(by omega);rw[e1,e2];by_cases hk:k<off+i
  ·simp[hk,show k<off+i+1 by omega,show off+i≠k by omega,show k<off+i+1+rest.length by omega,show k<off+i+(rest.length+1) by omega,show k<off+(i+1) by omega]
  ·by_cases hk2:k=off+i
   ·subst hk2;simp[show off+i<cur.size by omega,show off+i<off+i+1+rest.length by omega,show off+i<off+(i+1) by omega]
   ·by_cases hk3:k<off+i+1+rest.length
    ·simp[hk,hk3,show ¬ k<off+i+1 by omega,show k<off+i+(rest.length+1) by omega,show k-(off+i)=(k-(off+i+1))+1 by omega]
    ·simp[hk3,show ¬ k<off+i+(rest.length+1) by omega];rw[if_neg (by omega)];congr 1;omega
theorem N5{n:Nat}{ty:TypeId}(hi:(P.info? ty).map (·.size)=some n)(g off:Nat)(cs:Array Value)(w:World):
  (St n ty ⟨g,off,none⟩ (.agg cs)).run P w=Dd (Xb P ty ⟨g,off,none⟩ (.agg cs) w) n off g cs w (hat w g):=by
 unfold Xb hat;unfold Dd St;split
 ·rename_i old t hg
  split
  ·rename_i h
   obtain⟨h1,h2,h3⟩:=h;have:=G3 (P:=P) g off t cs.toList 0 old w hg (by simp;omega) (fun v hv=>(Array.all_eq_true_iff_forall_mem.1 h3) v (by simpa using hv));cases hq:P.info? ty with
   |none=>simp[hq]at hi
   |some i=>
    have hs:cs.size=i.size:=(by simp[hq]at hi;omega);simp only[storeVar,sizeOf,typeInfo,Sem.run_bind,run_program,Result.andThen_ok,hq,Sem.run_pure,Value.cells,hs,ne_eq,not_true_eq_false,if_false,this,Nat.add_zero];simp[Ap,hs]
  ·rfl
 ·rfl
end
@[go_sem] theorem Bc (w:World) (o:Obj) (n:Nat) (h:n=w.heap.size):hat (w.alloc o) n=some o:=by subst h;exact heap_alloc_new w o
@[go_sem] theorem A9 (w:World) (o:Obj) (n:Nat) (h:n<w.heap.size):hat (w.alloc o) n=hat w n:=Below.heap_alloc w o n h
@[go_sem] theorem Sg (w:World) (n:Nat):hat w.drew n=hat w n:=rfl
theorem Bj(w:World)(g n:Nat)(cs:Array Value)(h:n≠g):hat (w.setRow g cs) n=hat w n:=setRow_other w g n cs h
theorem Fh(w:World)(a:Addr)(v:Value)(n:Nat)(h:n≠a.block):hat (w.setCell a v) n=hat w n:=Below.heap_setCell w a v n h
@[go_sem] theorem uF (w:World) (m n:Nat):hat (w.drewN m) n=hat w n:=rfl
@[go_sem] theorem tQ (w:World) (m:Nat):(w.drewN m).heap.size=w.heap.size:=rfl
theorem Qj{B:Nat}{a w:World}(h:Below B a w)(n:Nat):Below B a (w.drewN n):=⟨h.os,h.tape,h.output,h.size,h.block⟩
@[go_sem] theorem oS (w:World) (g n:Nat) (cs:Array Value) (h:n<g):hat (w.setRow g cs) n=hat w n:=setRow_other w g n cs (Nat.ne_of_lt h)
@[go_sem] theorem oR (w:World) (g n:Nat) (cs:Array Value) (h:g<n):hat (w.setRow g cs) n=hat w n:=setRow_other w g n cs (Nat.ne_of_gt h)
@[go_sem] theorem lL (w:World) (g i:Nat) (v:Value) (n:Nat) (h:n<g):hat (w.setCell ⟨g,i,none⟩ v) n=hat w n:=Below.heap_setCell w _ v n (Nat.ne_of_lt h)
@[go_sem] theorem lK (w:World) (g i:Nat) (v:Value) (n:Nat) (h:g<n):hat (w.setCell ⟨g,i,none⟩ v) n=hat w n:=Below.heap_setCell w _ v n (Nat.ne_of_gt h)
theorem Ar(w:World)(g:Nat)(cs old:Array Value)(t:TypeId)(fr:Nat×Nat)(h:hat w g=some (.cells old t fr)):hat (w.setRow g cs) g=some (.cells cs t fr):=setRow_heap w g old cs t fr h
theorem Ah(w:World)(g i:Nat)(v:Value)(old:Array Value)(t:TypeId)(fr:Nat×Nat)(h:hat w g=some (.cells old t fr)):hat (w.setCell ⟨g,i,none⟩ v) g=some (.cells (old.setIfInBounds i v) t fr):=by
 rw[setCell_eq_setRow w g i old t fr v h];exact setRow_heap w g old _ t fr h
theorem Bs{w:World}{g:Nat}{cs:Array Value}{t:TypeId}{fr:Nat×Nat}(h:hat w g=some (.cells cs t fr))(i:Nat):w.cell? ⟨g,i,none⟩=cs[i]? :=cell_of_row w g i cs t fr h
theorem Kg{w:World}{g:Nat}{cs:Array Value}{t:TypeId}(h:hat w g=some (.cells cs t))(i:Nat):w.frozen? ⟨g,i,none⟩=false:=frozen_of_row w g i cs t h
theorem Aa{w:World}{g:Nat}{o:Obj}(h:hat w g=some o):g<w.heap.size:=(Array.getElem?_eq_some_iff.1 h).1
theorem A7{B:Nat}{w w':World}(h:Below B w w'){k:Nat}(hk:k<B):hat w' k=hat w k:=h.block k hk
@[go_sem] theorem kB (w:World) (c cs:Array Value) (t:TypeId) (fr:Nat×Nat) (n:Nat) (h:n=w.heap.size):
  (w.alloc (.cells c t fr)).setRow n cs=w.alloc (.cells cs t fr):=by
 subst h;unfold World.setRow World.alloc;congr 1
 apply Array.ext_getElem?
 intro k;simp only[Array.getElem?_modify,Array.getElem?_push];by_cases hk:k=w.heap.size
 ·simp[hk]
 ·simp[hk,Ne.symm hk]
@[go_sem] theorem eK (w:World) (o:Obj) (cs:Array Value) (n:Nat) (h:n<w.heap.size):
  (w.alloc o).setRow n cs=(w.setRow n cs).alloc o:=by
 unfold World.setRow World.alloc;congr 1
 apply Array.ext_getElem?
 intro k;simp only[Array.getElem?_modify,Array.getElem?_push,Array.size_modify];by_cases hk:k=w.heap.size
 ·subst hk;simp[Nat.ne_of_lt h]
 ·simp[hk]
@[go_sem] theorem sP (w:World) (g:Nat) (cs:Array Value):w.drew.setRow g cs=(w.setRow g cs).drew:=rfl
@[go_sem] theorem Xn (w:World) (g:Nat) (cs:Array Value):(w.setRow g cs).heap.size=w.heap.size:=by simp
attribute [go_sem] Ha Fp
theorem Ag{B:Nat}{a w:World}(h:Below B a w){g:Nat}(hp:B<=g)(cs:Array Value):Below B a (w.setRow g cs):=
 h.trans ⟨rfl,rfl,rfl,by simp,fun k hk=>setRow_other _ _ _ _ (by omega)⟩
def nF(cs:Array Value):Option Obj->Option Obj
 |some (.cells _ t fr)=>some (.cells cs t fr)
 |o=>o
def dI(i:Nat)(v:Value):Option Obj->Option Obj
 |some (.cells c t fr)=>some (.cells (c.setIfInBounds i v) t fr)
 |o=>o
@[go_sem] theorem rE (cs c:Array Value) (t:TypeId) (fr:Nat×Nat):nF cs (some (.cells c t fr))=some (.cells cs t fr):=rfl
@[go_sem] theorem oQ (i:Nat) (v:Value) (c:Array Value) (t:TypeId) (fr:Nat×Nat):dI i v (some (.cells c t fr))=some (.cells (c.setIfInBounds i v) t fr):=rfl
@[go_sem] theorem jZ (w:World) (g:Nat) (cs:Array Value):hat (w.setRow g cs) g=nF cs (hat w g):=by
 unfold hat World.setRow;simp only[Array.getElem?_modify,if_true];cases w.heap[g]? with
 |none=>rfl
 |some o=>cases o<;>rfl
@[go_sem] theorem gO (w:World) (g i:Nat) (v:Value):hat (w.setCell ⟨g,i,none⟩ v) g=dI i v (hat w g):=by
 unfold hat World.setCell;simp only[Array.getElem?_modify,if_true];cases w.heap[g]? with
 |none=>rfl
 |some o=>cases o<;>rfl
def aO(i:Nat):Option Obj->Option Value
 |some (.cells c _ _)=>c[i]?
 |_=>none
def Sc(i:Nat):Option Obj->Bool
 |some (.cells _ _ (lo,hi))=>lo<=i&&i<hi
 |_=>false
@[go_sem] theorem pK (i:Nat) (c:Array Value) (t:TypeId) (fr:Nat×Nat):aO i (some (.cells c t fr))=c[i]? :=rfl
@[go_sem] theorem lH (i:Nat) (c:Array Value) (t:TypeId):Sc i (some (.cells c t (0,0)))=false:=by
 show(decide (0<=i)&&decide (i<0))=false
 simp
@[go_sem ↓] theorem pJ (w:World) (g i:Nat):w.cell? ⟨g,i,none⟩=aO i (hat w g):=by
 unfold World.cell? hat aO;cases w.heap[g]? with
 |none=>rfl
 |some o=>cases o<;>rfl
@[go_sem ↓] theorem lG (w:World) (g i:Nat):w.frozen? ⟨g,i,none⟩=Sc i (hat w g):=by
 unfold World.frozen? hat Sc;cases w.heap[g]? with
 |none=>rfl
 |some o=>cases o<;>rfl
theorem hop{w w':World}(h:Below w.heap.size w w'){k:Nat}{o:Obj}(hk:hat w k=some o):hat w' k=some o/\k<w'.heap.size:=by
 have hl:=Aa hk;exact⟨(A7 h hl).trans hk,Nat.lt_of_lt_of_le hl h.size⟩
theorem B7(w:World)(n:Obj){k:Nat}{o:Obj}(hk:hat w k=some o):hat (w.alloc n) k=some o/\k<(w.alloc n).heap.size:=by
 have hl:=Aa hk;exact⟨(A9 _ _ _ hl).trans hk,by simp only[World.size_alloc];omega⟩
theorem A6(w:World)(n:Obj):hat (w.alloc n) w.heap.size=some n/\w.heap.size<(w.alloc n).heap.size:=⟨Bc _ _ _ rfl,by simp only[World.size_alloc];omega⟩
theorem Ed{w:World}{g:Nat}{old:Array Value}{t:TypeId}{fr:Nat×Nat}(h:hat w g=some (.cells old t fr))(cs:Array Value):hat (w.setRow g cs) g=some (.cells cs t fr)/\g<(w.setRow g cs).heap.size:=
 ⟨Ar _ _ _ _ _ _ h,by simpa using Aa h⟩
theorem Gm{w:World}{k:Nat}{o:Obj}(h:hat w k=some o)(g:Nat)(cs:Array Value)(hne:k≠g):hat (w.setRow g cs) k=some o/\k<(w.setRow g cs).heap.size:=
 ⟨(Bj _ _ _ _ hne).trans h,by simpa using Aa h⟩
theorem lN{w:World}{g:Nat}{k:IntKind}{l:List Int}{t:TypeId}{fr:Nat×Nat}(h:hat w g=some (.cells (IV k l) t fr))(i:Nat)(v:Int):hat (w.setCell ⟨g,i,none⟩ (.int k v)) g=some (.cells (IV k (l.set i v)) t fr)/\g<(w.setCell ⟨g,i,none⟩ (.int k v)).heap.size:=
 ⟨by rw[Ah _ _ _ _ _ _ _ h,Ng],by simpa using Aa h⟩
theorem Ib{w:World}{k:Nat}{o:Obj}(h:hat w k=some o)(g i:Nat)(v:Value)(hne:k≠g):hat (w.setCell ⟨g,i,none⟩ v) k=some o/\k<(w.setCell ⟨g,i,none⟩ v).heap.size:=
 ⟨(Fh _ _ _ _ hne).trans h,by simpa using Aa h⟩
theorem Ad{B:Nat}{w w1 w2:World}(h:Below B w w1)(h2:Below w1.heap.size w1 w2)(hB:B<=w1.heap.size):Below B w w2:=h.trans (h2.mono hB)
theorem As{B:Nat}{w w1:World}(h:Below B w w1)(hB:B<=w1.heap.size)(o:Obj):Below B w (w1.alloc o):=h.alloc hB o
def putL(s:List Int)(a:Nat)(bs:List Int):List Int:=s.take a++(bs++s.drop (a+bs.length))
@[simp] theorem Hp (s:List Int) (a:Nat) (bs:List Int) (h:a+bs.length<=s.length):(putL s a bs).length=s.length:=by simp[putL];omega
theorem Ul{P:Program}{w:World}{ops:Array Oper}{rest:List Oper}{o:Oper}{a:Act}{Q:Exit->Act->World->Prop}(hgd:o.guard=none)(d s:Operand)(dT sT:TypeId)
  (ho:o.op= .call {callee:= .builtin .copy,args:= #[d,s],argTypes:= #[dT,sT]}) (elem:TypeId) (hu:P.underlying dT=some (.slice elem)) (hsz:(P.info? elem).map (·.size)=some 1)
  (g off dLen dCap g2 o2 sLen sCap:Nat) (hd:a.eval d= .slice (some ⟨g,off,none⟩) dLen dCap) (hs:a.eval s= .slice (some ⟨g2,o2,none⟩) sLen sCap)
  (k:IntKind) (cur src bs:List Int) (t t2:TypeId) (fr2:Nat×Nat) (hg:hat w g=some (.cells (IV k cur) t)) (hg2:hat w g2=some (.cells (IV k src) t2 fr2))
  (hn:bs.length=Nat.min sLen dLen) (hbs:∀ j,j<bs.length->src[o2+j]? =bs[j]?) (hfit:off+bs.length<=cur.length)
  (h:wpList P ops Q rest (a.put o.dst (.int .i64 bs.length)) (w.setRow g (IV k (putL cur off bs)))):wpList P ops Q (o::rest) a w:=by
 refine wpList_copy_own hgd d s dT sT ho elem hu hsz g off dLen dCap ⟨g2,o2,none⟩ sLen sCap hd hs (IV k cur) t hg (bs.map (Value.int k)) (by simpa using hn) ?_ (by simpa using hfit) ?_ ?_
 ·intro j v hj;have hadd:(⟨g2,o2,none⟩:Addr).add j=⟨g2,o2+j,none⟩:=(by unfold Addr.add;split<;>simp_all);rw[hadd,Bs hg2,Bl];have hjl:j<bs.length:=by
   have:=(List.getElem?_eq_some_iff.1 hj).1;simpa using this
  rw[hbs j hjl];simpa using hj
 ·intro v hv;simp at hv;obtain⟨x,-,rfl⟩:=hv;rfl
 ·have e:(IV k (putL cur off bs))=((IV k cur).toList.take off++(bs.map (Value.int k)++(IV k cur).toList.drop (off+(bs.map (Value.int k)).length))).toArray:=by
   simp[IV,putL,List.map_take,List.map_drop]
  rw[<-e];simpa [goInt]using h
section
variable {P:Program}
theorem T7{T n e:Nat}(hu:P.underlying T=some (.array n e))(he:(P.info? e).map (·.size)=some 1)(g off:Nat)(x:Int)(h0:0<=x)(h1:x<n)(w:World):
  (Instr.sliceAt T (.pointer (some ⟨g,off,none⟩)) (some (.int .i64 x)) none none).run P w= .ok (.slice (some ⟨g,off+x.toNat,none⟩) (n-x.toNat) (n-x.toNat)) w:=by
 cases hq:P.info? e with
 |none=>simp[hq]at he
 |some i=>
  have hs:i.size=1:=(by simpa [hq]using he);have hne:¬ n=x.toNat:=(by omega);have hadd:(⟨g,off,none⟩:Addr).add (x.toNat*1)=⟨g,off+x.toNat,none⟩:=(by unfold Addr.add;split<;>simp_all);simp[Instr.sliceAt,run_underlying hu,Instr.sureAddr,Instr.sliceBounds,Instr.sliceBound,asIntOf,h0,show x<=n by omega,sizeOf,typeInfo,hq,hs,hne];simpa using hadd
theorem P5{T n e:Nat}(hu:P.underlying T=some (.array n e))(he:(P.info? e).map (·.size)=some 1)(g off:Nat)(x y:Int)(h0:0<=x)(h1:x<n)(h2:x<=y)(h3:y<=n)(w:World):
  (Instr.sliceAt T (.pointer (some ⟨g,off,none⟩)) (some (.int .i64 x)) (some (.int .i64 y)) none).run P w= .ok (.slice (some ⟨g,off+x.toNat,none⟩) (y.toNat-x.toNat) (n-x.toNat)) w:=by
 obtain⟨l,rfl⟩:=Int.eq_ofNat_of_zero_le h0;obtain⟨m,rfl⟩:=Int.eq_ofNat_of_zero_le (show 0<=y by omega);cases hq:P.info? e with
 |none=>simp[hq]at he
 |some i=>
  have hs:i.size=1:=(by simpa [hq]using he);have hne:¬ n=l:=(by omega);have hadd:(⟨g,off,none⟩:Addr).add (l*1)=⟨g,off+l,none⟩:=(by unfold Addr.add;split<;>simp_all);simp[Instr.sliceAt,run_underlying hu,Instr.sureAddr,Instr.sliceBounds,Instr.sliceBound,asIntOf,show l<=m by omega,show m<=n by omega,sizeOf,typeInfo,hq,hs,hne];simpa using hadd
theorem T6{T n e:Nat}(hu:P.underlying T=some (.array n e))(he:(P.info? e).map (·.size)=some 1)(g off:Nat)(y:Int)(hn:0<n)(h2:0<=y)(h3:y<=n)(w:World):
  (Instr.sliceAt T (.pointer (some ⟨g,off,none⟩)) none (some (.int .i64 y)) none).run P w= .ok (.slice (some ⟨g,off,none⟩) y.toNat n) w:=by
 cases hq:P.info? e with
 |none=>simp[hq]at he
 |some i=>
  have hs:i.size=1:=(by simpa [hq]using he);have hne:¬ n=0:=(by omega);have hadd:(⟨g,off,none⟩:Addr).add 0=⟨g,off,none⟩:=(by unfold Addr.add;split<;>simp_all);simp[Instr.sliceAt,run_underlying hu,Instr.sureAddr,Instr.sliceBounds,Instr.sliceBound,asIntOf,h2,h3,sizeOf,typeInfo,hq,hs,hne,hadd]
theorem Q9{T n e:Nat}(hu:P.underlying T=some (.array n e))(he:(P.info? e).map (·.size)=some 1)(g off:Nat)(hn:0<n)(w:World):
  (Instr.sliceAt T (.pointer (some ⟨g,off,none⟩)) none none none).run P w= .ok (.slice (some ⟨g,off,none⟩) n n) w:=by
 cases hq:P.info? e with
 |none=>simp[hq]at he
 |some i=>
  have hs:i.size=1:=(by simpa [hq]using he);have hne:¬ n=0:=(by omega);have hadd:(⟨g,off,none⟩:Addr).add 0=⟨g,off,none⟩:=(by unfold Addr.add;split<;>simp_all);simp[Instr.sliceAt,run_underlying hu,Instr.sureAddr,Instr.sliceBounds,Instr.sliceBound,asIntOf,sizeOf,typeInfo,hq,hs,hne,hadd]
end
structure Lk (P:Program) (ty:TypeId) (n:Nat):Prop where
 load:∀ (w:World) (g:Nat) (cs:Array Value) (t:TypeId) (fr:Nat×Nat),hat w g=some (.cells cs t fr)->cs.size=n->(loadVar ty ⟨g,0,none⟩).run P w= .ok (.agg cs) w
theorem Ts{P:Program}{n:Nat}{ty:TypeId}{d:TypeDesc}(hu:P.underlying ty=some d)(hd:(match d with| .struct _| .array _ _=>true|_=>false)=true)
  (hi:(P.info? ty).map (·.size)=some n):Lk P ty n:=
 ⟨fun w g cs t fr h hs=>run_loadVar_row w g t ty cs fr d h hu hd (by rw[hi,hs])⟩
structure Rp (P:Program) (ty:TypeId):Prop where
 load:∀ (w:World) (a:Addr) (v:Value),w.cell? a=some v->(loadVar ty a).run P w= .ok v w
theorem aP{P:Program}{ty:TypeId}{d:TypeDesc}(hu:P.underlying ty=some d)(hd:(match d with| .struct _| .array _ _=>true|_=>false)=false):Rp P ty:=by
 refine⟨fun w a v h=>?_⟩;have hagg:(isAgg ty).run P w= .ok false w:=by
  unfold isAgg;rw[Sem.run_bind,run_underlying hu w];cases d<;>simp_all
 simp[loadVar,Sem.run_bind,hagg,run_load,h]
section
variable {P:Program} {fn:Func} {R:Ending->World->Prop} {a:Act} {w:World}
theorem Qu{p:Tmp}{ty n:Nat}(hT:Lk P ty n)(h:fn.results= #[.cell p ty]){g:Nat}{cs:Array Value}
  (hp:a.tmps.getD p undef= .pointer (some ⟨g,0,none⟩)) (hh:hat w g=some (.cells cs ty)) (hs:cs.size=n) (hd:a.defers=[])
  (hR:R (.returned (.agg cs)) w):bodyPost P fn R .ret a w:=by
 have hp':a.tmps[p]?.getD undef= .pointer (some ⟨g,0,none⟩):=by simpa using hp
 refine⟨hd,_,?_,hR⟩;simp[results,h,hp',asAddr,hT.load w g cs ty (0,0) hh hs]
theorem Aw{p u:Tmp}{ty n:Nat}(hT:Lk P ty n)(h:fn.results= #[.cell p ty,.tmp u]){g:Nat}{cs:Array Value}
  (hp:a.tmps.getD p undef= .pointer (some ⟨g,0,none⟩)) (hh:hat w g=some (.cells cs ty)) (hs:cs.size=n) (hd:a.defers=[])
  (hR:R (.returned (.tuple #[.agg cs,a.tmps.getD u undef])) w):bodyPost P fn R .ret a w:=by
 have hp':a.tmps[p]?.getD undef= .pointer (some ⟨g,0,none⟩):=by simpa using hp
 refine⟨hd,_,?_,hR⟩;simp[results,h,hp',asAddr,Result.andThen,hT.load w g cs ty (0,0) hh hs]
end
theorem yA(a:Addr):loadVar 47 a=Ld 128 47 a:=rfl
theorem yT(a:Addr)(v:Value):storeVar 47 a v=St 128 47 a v:=rfl
theorem yI(g off:Nat)(w:World):(Ld 128 47 ⟨g,off,none⟩).run Tryz.prog w=Ea (Xa Tryz.prog 47 ⟨g,off,none⟩ w) 128 off w (hat w g):=N4 Tryz.underlying47 rfl (by kernel_rfl) g off w
theorem yM(g off:Nat)(cs:Array Value)(w:World):(St 128 47 ⟨g,off,none⟩ (.agg cs)).run Tryz.prog w=Dd (Xb Tryz.prog 47 ⟨g,off,none⟩ (.agg cs) w) 128 off g cs w (hat w g):=N5 (by kernel_rfl) g off cs w
theorem Cq:Lk Tryz.prog 47 128:=Ts Tryz.underlying47 rfl (by kernel_rfl)
attribute [go_sem ↓] yA yT
attribute [go_sem] yI yM
def uV:Sem Value:=zeroValue 47
theorem yX:zeroValue 47=uV:=rfl
theorem yQ(w:World):(uV).run Tryz.prog w= .ok (.agg (IV .u8 (zl 128))) w:=by kernel_rfl
attribute [go_sem ↓] yX
attribute [go_sem] yQ
def uK:Sem Value:=Instr.build 47 #[]
theorem xK:Instr.build 47 #[]=uK:=rfl
theorem yF(w:World):(uK).run Tryz.prog w= .ok (.agg (IV .u8 (zl 128))) w:=by kernel_rfl
attribute [go_sem ↓] xK
attribute [go_sem] yF
theorem vR(a:Addr):loadVar 125 a=Ld 2 125 a:=rfl
theorem xE(a:Addr)(v:Value):storeVar 125 a v=St 2 125 a v:=rfl
theorem wR(g off:Nat)(w:World):(Ld 2 125 ⟨g,off,none⟩).run Tryz.prog w=Ea (Xa Tryz.prog 125 ⟨g,off,none⟩ w) 2 off w (hat w g):=N4 Tryz.underlying125 rfl (by kernel_rfl) g off w
theorem wV(g off:Nat)(cs:Array Value)(w:World):(St 2 125 ⟨g,off,none⟩ (.agg cs)).run Tryz.prog w=Dd (Xb Tryz.prog 125 ⟨g,off,none⟩ (.agg cs) w) 2 off g cs w (hat w g):=N5 (by kernel_rfl) g off cs w
theorem Ia:Lk Tryz.prog 125 2:=Ts Tryz.underlying125 rfl (by kernel_rfl)
attribute [go_sem ↓] vR xE
attribute [go_sem] wR wV
theorem yB(a:Addr):loadVar 68 a=Ld 2 68 a:=rfl
theorem yU(a:Addr)(v:Value):storeVar 68 a v=St 2 68 a v:=rfl
theorem yJ(g off:Nat)(w:World):(Ld 2 68 ⟨g,off,none⟩).run Tryz.prog w=Ea (Xa Tryz.prog 68 ⟨g,off,none⟩ w) 2 off w (hat w g):=N4 Tryz.underlying68 rfl (by kernel_rfl) g off w
theorem yN(g off:Nat)(cs:Array Value)(w:World):(St 2 68 ⟨g,off,none⟩ (.agg cs)).run Tryz.prog w=Dd (Xb Tryz.prog 68 ⟨g,off,none⟩ (.agg cs) w) 2 off g cs w (hat w g):=N5 (by kernel_rfl) g off cs w
theorem Qx:Lk Tryz.prog 68 2:=Ts Tryz.underlying68 rfl (by kernel_rfl)
attribute [go_sem ↓] yB yU
attribute [go_sem] yJ yN
theorem yD(a:Addr):loadVar 78 a=Ld 18 78 a:=rfl
theorem yW(a:Addr)(v:Value):storeVar 78 a v=St 18 78 a v:=rfl
theorem yL(g off:Nat)(w:World):(Ld 18 78 ⟨g,off,none⟩).run Tryz.prog w=Ea (Xa Tryz.prog 78 ⟨g,off,none⟩ w) 18 off w (hat w g):=N4 Tryz.underlying78 rfl (by kernel_rfl) g off w
theorem yP(g off:Nat)(cs:Array Value)(w:World):(St 18 78 ⟨g,off,none⟩ (.agg cs)).run Tryz.prog w=Dd (Xb Tryz.prog 78 ⟨g,off,none⟩ (.agg cs) w) 18 off g cs w (hat w g):=N5 (by kernel_rfl) g off cs w
theorem M8:Lk Tryz.prog 78 18:=Ts Tryz.underlying78 rfl (by kernel_rfl)
attribute [go_sem ↓] yD yW
attribute [go_sem] yL yP
def uX:Sem Value:=zeroValue 78
theorem yZ:zeroValue 78=uX:=rfl
theorem yS(w:World):(uX).run Tryz.prog w= .ok (.agg (IV .i64 (zl 18))) w:=by kernel_rfl
attribute [go_sem ↓] yZ
attribute [go_sem] yS
def uM:Sem Value:=Instr.build 78 #[]
theorem xM:Instr.build 78 #[]=uM:=rfl
theorem yH(w:World):(uM).run Tryz.prog w= .ok (.agg (IV .i64 (zl 18))) w:=by kernel_rfl
attribute [go_sem ↓] xM
attribute [go_sem] yH
theorem vQ(a:Addr):loadVar 119 a=Ld 32 119 a:=rfl
theorem xD(a:Addr)(v:Value):storeVar 119 a v=St 32 119 a v:=rfl
theorem wQ(g off:Nat)(w:World):(Ld 32 119 ⟨g,off,none⟩).run Tryz.prog w=Ea (Xa Tryz.prog 119 ⟨g,off,none⟩ w) 32 off w (hat w g):=N4 Tryz.underlying119 rfl (by kernel_rfl) g off w
theorem wU(g off:Nat)(cs:Array Value)(w:World):(St 32 119 ⟨g,off,none⟩ (.agg cs)).run Tryz.prog w=Dd (Xb Tryz.prog 119 ⟨g,off,none⟩ (.agg cs) w) 32 off g cs w (hat w g):=N5 (by kernel_rfl) g off cs w
theorem Xd:Lk Tryz.prog 119 32:=Ts Tryz.underlying119 rfl (by kernel_rfl)
attribute [go_sem ↓] vQ xD
attribute [go_sem] wQ wU
def sB:Sem Value:=zeroValue 119
theorem xG:zeroValue 119=sB:=rfl
theorem wY(w:World):(sB).run Tryz.prog w= .ok (.agg (IV .i64 (zl 32))) w:=by kernel_rfl
attribute [go_sem ↓] xG
attribute [go_sem] wY
def sA:Sem Value:=Instr.build 119 #[]
theorem uY:Instr.build 119 #[]=sA:=rfl
theorem vZ(w:World):(sA).run Tryz.prog w= .ok (.agg (IV .i64 (zl 32))) w:=by kernel_rfl
attribute [go_sem ↓] uY
attribute [go_sem] vZ
theorem yC(a:Addr):loadVar 76 a=Ld 12 76 a:=rfl
theorem yV(a:Addr)(v:Value):storeVar 76 a v=St 12 76 a v:=rfl
theorem yK(g off:Nat)(w:World):(Ld 12 76 ⟨g,off,none⟩).run Tryz.prog w=Ea (Xa Tryz.prog 76 ⟨g,off,none⟩ w) 12 off w (hat w g):=N4 Tryz.underlying76 rfl (by kernel_rfl) g off w
theorem yO(g off:Nat)(cs:Array Value)(w:World):(St 12 76 ⟨g,off,none⟩ (.agg cs)).run Tryz.prog w=Dd (Xb Tryz.prog 76 ⟨g,off,none⟩ (.agg cs) w) 12 off g cs w (hat w g):=N5 (by kernel_rfl) g off cs w
attribute [go_sem ↓] yC yV
attribute [go_sem] yK yO
def uW:Sem Value:=zeroValue 76
theorem yY:zeroValue 76=uW:=rfl
theorem yR(w:World):(uW).run Tryz.prog w= .ok (.agg (IV .i64 (zl 12))) w:=by kernel_rfl
attribute [go_sem ↓] yY
attribute [go_sem] yR
def uL:Sem Value:=Instr.build 76 #[]
theorem xL:Instr.build 76 #[]=uL:=rfl
theorem yG(w:World):(uL).run Tryz.prog w= .ok (.agg (IV .i64 (zl 12))) w:=by kernel_rfl
attribute [go_sem ↓] xL
attribute [go_sem] yG
theorem vS(a:Addr):loadVar 178 a=Ld 3 178 a:=rfl
theorem xF(a:Addr)(v:Value):storeVar 178 a v=St 3 178 a v:=rfl
theorem wT(g off:Nat)(w:World):(Ld 3 178 ⟨g,off,none⟩).run Tryz.prog w=Ea (Xa Tryz.prog 178 ⟨g,off,none⟩ w) 3 off w (hat w g):=N4 Tryz.underlying178 rfl (by kernel_rfl) g off w
theorem wW(g off:Nat)(cs:Array Value)(w:World):(St 3 178 ⟨g,off,none⟩ (.agg cs)).run Tryz.prog w=Dd (Xb Tryz.prog 178 ⟨g,off,none⟩ (.agg cs) w) 3 off g cs w (hat w g):=N5 (by kernel_rfl) g off cs w
attribute [go_sem ↓] vS xF
attribute [go_sem] wT wW
theorem sC:Rp Tryz.prog 176:=aP Tryz.underlying176 rfl
theorem K4:Rp Tryz.prog 3:=aP Tryz.underlying3 rfl
theorem cells:Rp Tryz.prog 9:=aP Tryz.underlying9 rfl
theorem xC(g off:Nat)(x:Int)(h0:0<=x)(h1:x<128)(w:World):
  (Instr.sliceAt 47 (.pointer (some ⟨g,off,none⟩)) (some (.int .i64 x)) none none).run Tryz.prog w= .ok (.slice (some ⟨g,off+x.toNat,none⟩) (128-x.toNat) (128-x.toNat)) w:=
 T7 Tryz.underlying47 (by kernel_rfl) g off x h0 h1 w
theorem eM(g off:Nat)(x y:Int)(h0:0<=x)(h1:x<128)(h2:x<=y)(h3:y<=128)(w:World):
  (Instr.sliceAt 47 (.pointer (some ⟨g,off,none⟩)) (some (.int .i64 x)) (some (.int .i64 y)) none).run Tryz.prog w= .ok (.slice (some ⟨g,off+x.toNat,none⟩) (y.toNat-x.toNat) (128-x.toNat)) w:=
 P5 Tryz.underlying47 (by kernel_rfl) g off x y h0 h1 h2 h3 w
theorem xB(g off:Nat)(y:Int)(h2:0<=y)(h3:y<=128)(w:World):
  (Instr.sliceAt 47 (.pointer (some ⟨g,off,none⟩)) none (some (.int .i64 y)) none).run Tryz.prog w= .ok (.slice (some ⟨g,off,none⟩) y.toNat 128) w:=
 T6 Tryz.underlying47 (by kernel_rfl) g off y (by omega) h2 h3 w
attribute [go_sem] xC eM xB
def gt(a:Act)(t:Nat):Value:=a.tmps.getD t undef
theorem gtx{a:Act}{t:Nat}{v:Value}(h:gt a t=v):a.tmps[t]?.getD undef=v:=by simpa [gt]using h
theorem Fv(a:Act)(d:Option Tmp)(v:Value)(t:Nat)(h:d≠some t):gt (a.put d v) t=gt a t:=by
 cases d with
 |none=>rfl
 |some d=>
  have hn:d≠t:=fun e=>h (by rw[e])
  simp[gt,Act.put,Array.getElem?_setIfInBounds_ne hn]
theorem Jz(a:Act)(d:Tmp)(v:Value)(h:d<a.tmps.size):gt (a.put (some d) v) d=v:=by
 simp[gt,Act.put,h]
theorem Ka(a:Act)(d:Option Tmp)(v:Value):(a.put d v).tmps.size=a.tmps.size:=by
 cases d<;>simp[Act.put]
theorem Iu(a:Act)(d:Option Tmp)(v:Value):(a.put d v).defers=a.defers:=by
 cases d<;>rfl
def Dk(l:List Oper):List Nat:=l.filterMap (·.dst)
def Oper.needs(o:Oper):List Nat:=(o.after.toList.filter (Region.binds .any ·)).map (·.on)
def F3(ops:Array Oper)(N:Nat):Bool:=
 (ops.toList.zipIdx.all fun(o,i)=>(Oper.needs o).all (· <i)&&(i<N||(List.range i).all fun j=>(Oper.needs o).contains j))&&
 N<=ops.size&&
 ((Dk (ops.toList.take N)).Nodup:Bool)
theorem Gk{ops:Array Oper}{L:Array Bool}{i:Nat}(hL:L.size=ops.size)(h:i∈Region.ready .any ops L):
  ∃ o,ops[i]? =some o/\L.getD i true=false/\∀ j∈Oper.needs o,L.getD j false=true:=by
 unfold Region.ready at h;simp only[List.mem_filter,List.mem_range,Bool.and_eq_true,Bool.not_eq_true']at h;obtain⟨hi,h1,h2⟩:=h;refine⟨ops[i],by simp[hi],h1,?_⟩;intro j hj;simp only[Array.getElem?_eq_getElem hi,Option.map_some,Option.getD_some,Array.all_eq_true_iff_forall_mem]at h2;unfold Oper.needs at hj;simp only[List.mem_map,List.mem_filter,Array.mem_toList_iff]at hj;obtain⟨e,⟨he,hb⟩,rfl⟩:=hj;have:=h2 e he;simpa [hb]using this
theorem J6{ops:Array Oper}{L:Array Bool}{i:Nat}{o:Oper}(hi:ops[i]? =some o)(h1:L.getD i true=false)(h2:∀ j∈Oper.needs o,L.getD j false=true):
  i∈Region.ready .any ops L:=by
 unfold Region.ready;have hlt:i<ops.size:=(Array.getElem?_eq_some_iff.1 hi).1;simp only[List.mem_filter,List.mem_range,Bool.and_eq_true,Bool.not_eq_true',hi,Option.map_some,Option.getD_some,Array.all_eq_true_iff_forall_mem];refine⟨hlt,h1,fun e he=>?_⟩;by_cases hb:Region.binds .any e=true
 ·have:=h2 e.on (by unfold Oper.needs;simp only[List.mem_map,List.mem_filter,Array.mem_toList_iff];exact⟨e,⟨he,hb⟩,rfl⟩);simp[this]
 ·simp[hb]
section
variable {P:Program} {ops:Array Oper} {N:Nat} {Q:Exit->Act->World->Prop}
theorem Hh(h:F3 ops N=true):(∀ i o,ops[i]? =some o->∀ j∈Oper.needs o,j<i)/\(∀ i o,ops[i]? =some o->N<=i->∀ j,j<i->j∈Oper.needs o)/\N<=ops.size/\(Dk (ops.toList.take N)).Nodup:=by
 unfold F3 at h;simp only[Bool.and_eq_true,List.all_eq_true,decide_eq_true_eq]at h;obtain⟨⟨h1,h2⟩,h3⟩:=h;have key:∀ i o,ops[i]? =some o->(∀ x∈Oper.needs o,x<i)/\(i<N\/∀ j<i,j∈Oper.needs o):=by
  intro i o hi;have:=h1 (o,i) (by simp[List.mem_zipIdx_iff_getElem?,hi]);simpa using this
 refine⟨fun i o hi=>(key i o hi).1,fun i o hi hN j hj=>?_,h2,h3⟩;rcases (key i o hi).2 with h|h
 ·omega
 ·exact h j hj
theorem He(hok:F3 ops N=true):∀ (fuel k:Nat) (L:Array Bool) (a:Act) (w:World),N<=k->k<=ops.size->ops.size-k<=fuel->L.size=ops.size->
  (∀ j,j<ops.size->L.getD j true=decide (j<k))->wpList P ops Q (ops.toList.drop k) a w->wpAny P .any ops Q fuel L a w:=by
 obtain⟨hb,ht,-,-⟩:=Hh hok;intro fuel;induction fuel with
 |zero=>
  intro k L a w hN hk hf hL hLk h;have:k=ops.size:=(by omega);subst this;refine⟨?_,by rw[List.drop_of_length_le (by simp)]at h;exact h⟩;apply List.eq_nil_iff_forall_not_mem.2
  intro i hi;obtain⟨o,ho,h1,-⟩:=Gk hL hi;have hlt:i<ops.size:=(Array.getElem?_eq_some_iff.1 ho).1;rw[hLk i hlt]at h1;simp at h1;omega
 |succ fuel ih=>
  intro k L a w hN hk hf hL hLk h;refine⟨?_,?_⟩
  ·intro hr;by_cases hks:k=ops.size
   ·subst hks;rw[List.drop_of_length_le (by simp)]at h;exact h
   ·exfalso
    have hlt:k<ops.size:=(by omega);have:k∈Region.ready .any ops L:=by
     refine J6 (o:=ops[k]) (by simp[hlt]) (by rw[hLk k hlt];simp) ?_;intro j hj;have hjk:=hb k ops[k] (by simp[hlt]) j hj;have:=hLk j (by omega);have hjs:j<L.size:=(by omega);simp[hjs]at this ⊢;rw[this];simpa using hjk
    rw[hr]at this;simp at this
  ·intro i hi;obtain⟨o,ho,h1,h2⟩:=Gk hL hi;have hlt:i<ops.size:=(Array.getElem?_eq_some_iff.1 ho).1;have hik:i=k:=by
    rw[hLk i hlt]at h1;simp at h1;by_cases hgt:k<i
    ·exfalso
     have:=h2 k (ht i o ho (by omega) k hgt);have h3:=hLk k (by omega);have hks:k<L.size:=(by omega);simp[hks]at this h3;rw[this]at h3;simp at h3
    ·omega
   subst hik;have hd:ops.toList.drop i=o::ops.toList.drop (i+1):=by
    rw[List.drop_eq_getElem_cons (by simpa using hlt)];congr 1
    have:=(Array.getElem?_eq_some_iff.1 ho).2;simpa using this
   rw[hd]at h;have hnext:∀ a w,wpList P ops Q (ops.toList.drop (i+1)) a w->wpAny P .any ops Q fuel (L.setIfInBounds i true) a w:=by
    intro a w h;refine ih (i+1) _ a w (by omega) (by omega) (by omega) (by simpa using hL) ?_ h;intro j hj;have:=hLk j hj;have hjs:j<L.size:=(by omega);by_cases hji:j=i
    ·subst hji;simp[hjs]
    ·simp[hjs,Array.getElem_setIfInBounds,Ne.symm hji]at this ⊢;rw[this];simp;omega
   unfold wpOp;simp only[ho];unfold wpList at h;split
   ·rename_i hw
    rw[if_pos hw]at h;exact h.imp (Oper.wp_mono hnext) id
   ·rename_i hw
    rw[if_neg hw]at h;exact hnext _ _ h
def Ga(L:Array Bool):Nat:=L.toList.countP (· ==false)
theorem Ff{L:Array Bool}{i:Nat}(h:L.getD i true=false):Ga (L.setIfInBounds i true)+1=Ga L:=by
 have hi:i<L.size:=by
  by_cases hi:i<L.size
  ·exact hi
  ·simp[hi]at h
 have hv:L.toList[i]'(by simpa using hi)=false:=by simpa [hi]using h
 unfold Ga;rw[Array.toList_setIfInBounds];have h2:=List.take_append_drop i L.toList;have h3:L.toList.drop i=false::L.toList.drop (i+1):=by
  rw[List.drop_eq_getElem_cons (by simpa using hi),hv]
 have h4:L.toList.set i true=L.toList.take i++true::L.toList.drop (i+1):=by
  rw[List.set_eq_take_append_cons_drop,if_pos (by simpa using hi)]
 rw[h4];conv=>rhs;rw[<-h2,h3]
 simp[List.countP_append,List.countP_cons];omega
structure F5 (ops:Array Oper) (N:Nat) (a a':Act):Prop where
 size:a'.tmps.size=a.tmps.size
 defers:a'.defers=a.defers
 other:∀ t,t∉Dk (ops.toList.take N)->gt a' t=gt a t
theorem Ra{id:Nat}{a:Act}{w:World}(hm:P.follows .mixedOrders=true)(N:Nat)(hok:F3 ops N=true)
  (hsz:(Dk (ops.toList.take N)).all (· <a.tmps.size)=true)
  (I:World->Prop) (E:World->World->Prop) (G:Nat->Value->World->Prop)
  (h0:I w.drew)
  (hE:∀ i v w w',i<N->I w->I w'->E w w'->G i v w->G i v w')
  (hs:∀ i o,i<N->ops[i]? =some o->∀ a' w',I w'->F5 ops N a a'->
   (∀ j∈Oper.needs o,∀ oj d,ops[j]? =some oj->oj.dst=some d->G j (gt a' d) w')->
   wpOp P ops Q i (fun a'' w''=>∃ v,a''=a'.put o.dst v/\I w''/\E w' w''/\G i v w'') a' w')
  (he:∀ a' w',I w'->F5 ops N a a'->(∀ j oj d,j<N->ops[j]? =some oj->oj.dst=some d->G j (gt a' d) w')->
   wpList P ops Q (ops.toList.drop N) a' w'):
  (Code.region id ops true).wp P Q a w:=by
 obtain⟨hb,ht,hNs,hnd⟩:=Hh hok;refine wp_region_any hm ?_
 have key:∀ (fuel:Nat) (L:Array Bool) (a':Act) (w':World),L.size=ops.size->Ga L<=fuel->(∀ j,N<=j->j<ops.size->L.getD j true=false)->
   I w'->F5 ops N a a'->(∀ j oj d,j<N->L.getD j true=true->ops[j]? =some oj->oj.dst=some d->G j (gt a' d) w')->wpAny P .any ops Q fuel L a' w':=by
  intro fuel;induction fuel with
  |zero=>
   intro L a' w' hL hf htl hI hS hG;have hall:∀ j,j<ops.size->L.getD j true=true:=by
    intro j hj;cases hv:L.getD j true with
    |true=>rfl
    |false=>have:=Ff hv;omega
   have hN:N=ops.size:=by
    by_cases h:N<ops.size
    ·have:=htl N (Nat.le_refl _) h;rw[hall N h]at this;simp at this
    ·omega
   refine He hok 0 N L a' w' (Nat.le_refl _) (by omega) (by omega) hL (fun j hj=>by rw[hall j hj];simp;omega) ?_;exact he a' w' hI hS (fun j oj d hj ho hd=>hG j oj d hj (hall j (by omega)) ho hd)
  |succ fuel ih=>
   intro L a' w' hL hf htl hI hS hG;by_cases hall:∀ j,j<N->L.getD j true=true
   ·refine He hok (fuel+1) N L a' w' (Nat.le_refl _) hNs ?_ hL ?_ (he a' w' hI hS (fun j oj d hj ho hd=>hG j oj d hj (hall j hj) ho hd))
    ·
     have:∀ (n:Nat) (l:List Bool),(∀ j,n<=j->j<l.length->l[j]? =some false)->l.length-n<=l.countP (· ==false):=by
      intro n;induction n with
      |zero=>
       intro l;induction l with
       |nil=>intro _;simp
       |cons b l ihl=>
        intro h;have h0:=h 0 (Nat.le_refl _) (by simp);simp at h0;subst h0;have:=ihl (fun j _ hj=>by have:=h (j+1) (by omega) (by simp;omega);simpa using this);simp at this ⊢;omega
      |succ n ihn=>
       intro l;cases l with
       |nil=>intro _;simp
       |cons b l=>
        intro h;have:=ihn l (fun j hj hjl=>by have:=h (j+1) (by omega) (by simp;omega);simpa using this);simp[List.countP_cons]at this ⊢;omega
     have h2:=this N L.toList (fun j hj hjl=>by
      have hjs:j<L.size:=(by simpa using hjl);have:=htl j hj (by omega);simp[hjs]at this ⊢;exact this)
     unfold Ga at hf;simp at h2;simp at hf;omega
    ·intro j hj;by_cases hjN:j<N
     ·rw[hall j hjN];simp[hjN]
     ·rw[htl j (by omega) hj];simp[hjN]
   ·refine⟨?_,?_⟩
    ·intro hr;exfalso
     have hex:∃ j,j<N/\L.getD j true=false:=by
      false_or_by_contra
      rename_i hne
      apply hall
      intro j hj;cases hv:L.getD j true with
      |true=>rfl
      |false=>exact(hne ⟨j,hj,hv⟩).elim
     have least:∀ n,(∃ j,j<n/\j<N/\L.getD j true=false)->∃ j,j<N/\L.getD j true=false/\∀ k,k<j->L.getD k true=true:=by
      intro n;induction n with
      |zero=>rintro ⟨j,hj,_⟩;omega
      |succ n ihn=>
       rintro ⟨j,hj,hjN,hv⟩;by_cases hlow:∃ k,k<j/\L.getD k true=false
       ·obtain⟨k,hk,hkv⟩:=hlow;exact ihn ⟨k,by omega,by omega,hkv⟩
       ·refine⟨j,hjN,hv,fun k hk=>?_⟩;cases hkv:L.getD k true with
        |true=>rfl
        |false=>exact(hlow ⟨k,hk,hkv⟩).elim
     obtain⟨j0,hj0,hv0⟩:=hex;obtain⟨j,hjN,hv,hlow⟩:=least (j0+1) ⟨j0,by omega,hj0,hv0⟩;have hlt:j<ops.size:=(by omega);have:j∈Region.ready .any ops L:=by
      refine J6 (o:=ops[j]) (by simp[hlt]) hv ?_;intro k hk;have hkj:=hb j ops[j] (by simp[hlt]) k hk;have h3:=hlow k hkj;have hks:k<L.size:=(by omega);simp[hks]at h3 ⊢;exact h3
     rw[hr]at this;simp at this
    ·intro i hi;obtain⟨o,ho,h1,h2⟩:=Gk hL hi;have hlt:i<ops.size:=(Array.getElem?_eq_some_iff.1 ho).1;have hiN:i<N:=by
      by_cases h:i<N
      ·exact h
      ·exfalso
       apply hall
       intro j hj;have:=h2 j (ht i o ho (by omega) j (by omega));have hjs:j<L.size:=(by omega);simp[hjs]at this ⊢;exact this
     refine wpOp_mono ?_ (hs i o hiN ho a' w' hI hS ?_)
     ·rintro a'' w'' ⟨v,rfl,hI',hE',hGi⟩;have hidst:∀ d,o.dst=some d->d∈Dk (ops.toList.take N):=by
       intro d hd;unfold Dk;refine List.mem_filterMap.2 ⟨o,?_,hd⟩;have hv:=(Array.getElem?_eq_some_iff.1 ho).2;rw[List.mem_take_iff_getElem];exact⟨i,by simp;omega,by simpa using hv⟩
      refine ih _ _ _ (by simpa using hL) (by have:=Ff h1;omega) ?_ hI' ?_ ?_
      ·intro j hj hjs;have:=htl j hj hjs;have hjs':j<L.size:=(by omega);simp[hjs',Array.getElem_setIfInBounds,show i≠j by omega]at this ⊢;exact this
      ·refine⟨by rw[Ka];exact hS.size,by rw[Iu];exact hS.defers,?_⟩;intro t ht';rw[Fv]
       ·exact hS.other t ht'
       ·intro e;exact ht' (hidst t e)
      ·intro j oj d hj hjL hoj hd;by_cases hji:j=i
       ·subst hji;rw[ho]at hoj;have hoe:o=oj:=(by simpa using hoj);subst hoe;rw[hd,Jz _ _ _ (by rw[hS.size];simpa using (List.all_eq_true.1 hsz) d (hidst d hd))];exact hGi
       ·have hjs':j<L.size:=(by omega);have hjL':L.getD j true=true:=by
         simp[hjs',Array.getElem_setIfInBounds,Ne.symm hji]at hjL ⊢;exact hjL
        have hg:=hG j oj d hj hjL' hoj hd;rw[Fv]
        ·exact hE j _ _ _ hj hI hI' hE' hg
        ·intro e;have hne:∀ (l:List Oper),(Dk l).Nodup->∀ (i j:Nat) (oi oj:Oper) (d:Nat),l[i]? =some oi->l[j]? =some oj->oi.dst=some d->oj.dst=some d->i=j:=by
          intro l;induction l with
          |nil=>intro _ i j oi oj d hi;simp at hi
          |cons x l ihl=>
           intro hnd i j oi oj d hi hj hdi hdj;have hnd':(Dk l).Nodup:=by
            unfold Dk at hnd ⊢;rw[List.filterMap_cons]at hnd;split at hnd
            ·exact hnd
            ·exact(List.nodup_cons.1 hnd).2
           have hx:∀ (j:Nat) (oj:Oper),l[j]? =some oj->oj.dst=some d->x.dst≠some d:=by
            intro j oj hj hdj hxd;unfold Dk at hnd;rw[List.filterMap_cons,hxd]at hnd;have:=(List.nodup_cons.1 hnd).1;apply this
            exact List.mem_filterMap.2 ⟨oj,List.mem_of_getElem? hj,hdj⟩
           cases i with
           |zero=>
            simp at hi;subst hi;cases j with
            |zero=>rfl
            |succ j=>simp at hj;exact(hx j oj hj hdj hdi).elim
           |succ i=>
            simp at hi;cases j with
            |zero=>simp at hj;subst hj;exact(hx i oi hi hdi hdj).elim
            |succ j=>simp at hj;rw[ihl hnd' i j oi oj d hi hj hdi hdj]
         have:=hne (ops.toList.take N) hnd i j o oj d (by simp[List.getElem?_take,hiN,ho]) (by simp[List.getElem?_take,hj,hoj]) e hd;exact hji this.symm
     ·intro j hj oj d hoj hd;have hjL:=h2 j hj;have hji:=hb i o ho j hj;have hjs:j<L.size:=(by omega);exact hG j oj d (by omega) (by simp[hjs]at hjL ⊢;exact hjL) hoj hd
 refine key ops.size (Array.replicate ops.size false) a {w with drawn:=w.drawn+1} (by simp) ?_ ?_ h0 ⟨rfl,rfl,fun _ _=>rfl⟩ ?_
 ·have:=List.countP_le_length (p:=(· ==false)) (l:=(Array.replicate ops.size false).toList);unfold Ga;simpa using this
 ·intro j _ hj;simp[hj]
 ·intro j oj d hj hjL;simp[show j<ops.size by omega]at hjL
def Bi:List Oper->Nat->(Nat->Value)->Act->Act
 |[],_,_,a=>a
 |o::l,i,val,a=>Bi l (i+1) val (a.put o.dst (val i))
theorem Ji(l:List Oper):∀ (i:Nat) (val:Nat->Value) (a:Act),(Bi l i val a).tmps.size=a.tmps.size:=by
 induction l with
 |nil=>intro i val a;rfl
 |cons o l ih=>intro i val a;rw[Bi,ih,Ka]
theorem Hg(l:List Oper):∀ (i:Nat) (val:Nat->Value) (a:Act),(Bi l i val a).defers=a.defers:=by
 induction l with
 |nil=>intro i val a;rfl
 |cons o l ih=>intro i val a;rw[Bi,ih,Iu]
theorem Mn(l:List Oper):∀ (i:Nat) (val:Nat->Value) (a a':Act) (t:Nat),t<a.tmps.size->(∀ j oj d,l[j]? =some oj->oj.dst=some d->val (i+j)=gt a' d)->
  gt (Bi l i val a) t=if t∈Dk l then gt a' t else gt a t:=by
 induction l with
 |nil=>intro i val a a' t _ _;simp[Bi,Dk]
 |cons o l ih=>
  intro i val a a' t ht h;rw[Bi,ih (i+1) val _ a' t (by rw[Ka];exact ht) (fun j oj d hj hd=>by have:=h (j+1) oj d (by simpa using hj) hd;rw[<-this];congr 1;omega)];by_cases hin:t∈Dk l
  ·have:t∈Dk (o::l):=by
    unfold Dk at hin ⊢;rw[List.filterMap_cons];split
    ·exact hin
    ·exact List.mem_cons_of_mem _ hin
   rw[if_pos hin,if_pos this]
  ·rw[if_neg hin];by_cases hd:o.dst=some t
   ·have:t∈Dk (o::l):=by
     unfold Dk;rw[List.filterMap_cons,hd];exact List.mem_cons_self
    rw[if_pos this,hd,Jz _ _ _ ht];have:=h 0 o t (by simp) hd;simpa using this
   ·have:t∉Dk (o::l):=by
     unfold Dk at hin ⊢;rw[List.filterMap_cons];split
     ·exact hin
     ·rename_i d hdd
      rw[List.mem_cons];rintro (rfl|h)
      ·exact hd hdd
      ·exact hin h
    rw[if_neg this,Fv _ _ _ _ hd]
theorem Rc{a b:Act}(h1:a.tmps.size=b.tmps.size)(h2:a.defers=b.defers)(h3:∀ t,t<a.tmps.size->gt a t=gt b t):a=b:=by
 cases a with
 |mk at_ ad=>
  cases b with
  |mk bt bd=>
   simp only at h1 h2;subst h2;congr 1
   apply Array.ext h1
   intro i hi hi2;have:=h3 i hi;simp[gt,hi,hi2]at this;exact this
theorem Hw{id:Nat}{a:Act}{w:World}(hm:P.follows .mixedOrders=true)(N:Nat)(hok:F3 ops N=true)
  (hsz:(Dk (ops.toList.take N)).all (· <a.tmps.size)=true)
  (I:World->Prop) (E:World->World->Prop) (G:Nat->Value->World->Prop)
  (h0:I w.drew)
  (hE:∀ i v w w',i<N->I w->I w'->E w w'->G i v w->G i v w')
  (hs:∀ i o,i<N->ops[i]? =some o->∀ a' w',I w'->(∀ t,t∉Dk (ops.toList.take N)->gt a' t=gt a t)->
   (∀ j∈Oper.needs o,∀ oj d,ops[j]? =some oj->oj.dst=some d->G j (gt a' d) w')->
   wpOp P ops Q i (fun a'' w''=>∃ v,a''=a'.put o.dst v/\I w''/\E w' w''/\G i v w'') a' w')
  (he:∀ val w',I w'->(∀ j oj d,j<N->ops[j]? =some oj->oj.dst=some d->G j (val j) w')->
   wpList P ops Q (ops.toList.drop N) (Bi (ops.toList.take N) 0 val a) w'):
  (Code.region id ops true).wp P Q a w:=by
 refine Ra hm N hok hsz I E G h0 hE (fun i o hi ho a' w' hI hS hF=>hs i o hi ho a' w' hI hS.other hF) ?_;intro a' w' hI hS hF;let val:Nat->Value:=fun j=>match ops[j]? with|some oj=>(match oj.dst with|some d=>gt a' d|none=>undef)|none=>undef
 have hval:∀ j oj d,ops[j]? =some oj->oj.dst=some d->val j=gt a' d:=by
  intro j oj d hj hd;simp only[val,hj,hd]
 have hw:=he val w' hI (fun j oj d hj ho hd=>by rw[hval j oj d ho hd];exact hF j oj d hj ho hd);have hae:a'=Bi (ops.toList.take N) 0 val a:=by
  refine Rc (by rw[Ji];exact hS.size) (by rw[Hg];exact hS.defers) (fun t ht=>?_);rw[Mn (ops.toList.take N) 0 val a a' t (by rw[<-hS.size];exact ht) (fun j oj d hj hd=>by
   rw[Nat.zero_add];refine hval j oj d ?_ hd;rw[List.getElem?_take]at hj;split at hj
   ·simpa using hj
   ·simp at hj)]
  split
  ·rfl
  ·rename_i h;exact hS.other t h
 rw[hae];exact hw
theorem Ba{id:Nat}{a:Act}{w:World}(hm:P.follows .mixedOrders=true)(N:Nat)(hok:F3 ops N=true)
  (hsz:(Dk (ops.toList.take N)).all (· <a.tmps.size)=true) (vals:Nat->Value)
  (hs:∀ i o,i<N->ops[i]? =some o->∀ a' w',Below w.heap.size w w'->(∀ t,t∉Dk (ops.toList.take N)->gt a' t=gt a t)->
   (∀ j∈Oper.needs o,∀ oj d,ops[j]? =some oj->oj.dst=some d->gt a' d=vals j)->
   wpOp P ops Q i (fun a'' w''=>a''=a'.put o.dst (vals i)/\Below w.heap.size w w'') a' w')
  (he:∀ w',Below w.heap.size w w'->wpList P ops Q (ops.toList.drop N) (Bi (ops.toList.take N) 0 vals a) w'):
  (Code.region id ops true).wp P Q a w:=by
 refine Hw hm N hok hsz (fun w'=>Below w.heap.size w w') (fun _ _=>True) (fun i v _=>v=vals i) ((Below.refl _ _).drew) (fun _ _ _ _ _ _ _ _ h=>h) ?_ ?_
 ·intro i o hi ho a' w' hI hS hF;refine wpOp_mono ?_ (hs i o hi ho a' w' hI hS hF);rintro a'' w'' ⟨h1,h2⟩;exact⟨_,h1,h2,trivial,rfl⟩
 ·intro val w' hI hF;have:Bi (ops.toList.take N) 0 val a=Bi (ops.toList.take N) 0 vals a:=by
   have key:∀ (l:List Oper) (i:Nat) (a:Act),(∀ j oj d,l[j]? =some oj->oj.dst=some d->val (i+j)=vals (i+j))->Bi l i val a=Bi l i vals a:=by
    intro l;induction l with
    |nil=>intro i a _;rfl
    |cons o l ih=>
     intro i a h;have h0:a.put o.dst (val i)=a.put o.dst (vals i):=by
      cases hd:o.dst with
      |none=>rfl
      |some d=>have:=h 0 o d (by simp) hd;simp at this;rw[this]
     rw[Bi,Bi,h0];exact ih (i+1) _ (fun j oj d hj hd=>by have:=h (j+1) oj d (by simpa using hj) hd;rw[show i+1+j=i+(j+1) by omega];exact this)
   refine key _ 0 a (fun j oj d hj hd=>?_);rw[Nat.zero_add];rw[List.getElem?_take]at hj;split at hj
   ·rename_i hjN
    exact hF j oj d hjN (by simpa using hj) hd
   ·simp at hj
  rw[this];exact he w' hI
theorem Ae{i:Nat}{o:Oper}{K:Act->World->Prop}{a:Act}{w w1:World}{v:Value}(ho:ops[i]? =some o)(hg:o.guard=none)
  (hr:(execOp a.eval o).run P w= .ok (.value v) w1) (hk:K (a.put o.dst v) w1):wpOp P ops Q i K a w:=by
 unfold wpOp;simp only[ho];rw[if_pos (by simp[Region.wanted,hg])];refine .inl ?_;unfold Oper.wp;rw[hr];exact hk
theorem Bn{i:Nat}{o:Oper}{K:Act->World->Prop}{a:Act}{w:World}{f:FuncId}{args:Array Value}{R:Ending->World->Prop}(ho:ops[i]? =some o)(hg:o.guard=none)
  (hr:(execOp a.eval o).run P w= .ok (.enter f args) w) (hc:Calls P f args w R) (hk:∀ e w',R e w'->∃ v,e= .returned v/\K (a.put o.dst v) w'):wpOp P ops Q i K a w:=by
 unfold wpOp;simp only[ho];rw[if_pos (by simp[Region.wanted,hg])];refine .inl ?_;unfold Oper.wp;rw[hr];refine hc.mono fun e w' hR=>?_
 obtain⟨v,rfl,hK⟩:=hk e w' hR;exact hK
theorem Bp{i:Nat}{o:Oper}{K:Act->World->Prop}{a:Act}{w:World}(ty n:Nat)(hT:Lk P ty n)(x:Operand)(ho:ops[i]? =some o)(hg:o.guard=none)(hop:o.op= .load ty x)
  (g:Nat) (cs:Array Value) {t:TypeId} {fr:Nat×Nat} (hx:a.eval x= .pointer (some ⟨g,0,none⟩)) (hh:hat w g=some (.cells cs t fr)) (hs:cs.size=n) (hk:K (a.put o.dst (.agg cs)) w):wpOp P ops Q i K a w:=by
 refine Ae ho hg ?_ hk;unfold execOp;simp only[hop,hx,Instr.loadAt,Instr.sureAddr,Sem.run_bind,Sem.run_pure,Result.andThen_ok,hT.load w g cs t fr hh hs]
theorem Bu{i:Nat}{o:Oper}{K:Act->World->Prop}{a:Act}{w:World}(ty:TypeId)(hT:Rp P ty)(x:Operand)(ho:ops[i]? =some o)(hg:o.guard=none)(hop:o.op= .load ty x)
  (g off:Nat) (cs:Array Value) (v:Value) {t:TypeId} {fr:Nat×Nat} (hx:a.eval x= .pointer (some ⟨g,off,none⟩)) (hh:hat w g=some (.cells cs t fr)) (hv:cs[off]? =some v) (hk:K (a.put o.dst v) w):wpOp P ops Q i K a w:=by
 refine Ae ho hg ?_ hk;unfold execOp;simp only[hop,hx,Instr.loadAt,Instr.sureAddr,Sem.run_bind,Sem.run_pure,Result.andThen_ok,hT.load w ⟨g,off,none⟩ v ((Bs hh off).trans hv)]
theorem E8{i:Nat}{o:Oper}{K:Act->World->Prop}{a:Act}{w:World}(x:Operand)(ho:ops[i]? =some o)(hg:o.guard=none)(hop:o.op= .move x)
  (v:Value) (hx:a.eval x=v) (hk:K (a.put o.dst v) w):wpOp P ops Q i K a w:=by
 refine Ae ho hg ?_ hk;unfold execOp;simp only[hop,hx];rfl
theorem O6{i0:Nat}{o:Oper}{K:Act->World->Prop}{a:Act}{w:World}(ho:ops[i0]? =some o)(hg:o.guard=none)(s x:Operand)(t:TypeId)
  (hop:o.op=Op.call {callee:=Callee.builtin Builtin.append,args:= #[s,x],argTypes:= #[t,t]})
  (e:TypeId) (i:TypeInfo) (z:Value) (size bytes:Nat) (h1:P.underlying t=some (.slice e)) (h2:P.info? e=some i) (h3:i.zero=some z) (h4:i.size=size) (h5:i.bytes=bytes) (h6:z.cells.size=size) (h7:0<size)
  (b:Addr) (n cap:Nat) (olds:List Value) (hs:a.eval s= .slice (some b) n cap) (hlo:olds.length=n*size) (holds:∀ j u,olds[j]? =some u->w.cell? (b.add j)=some u)
  (ad:Addr) (m c:Nat) (news:List Value) (hx:a.eval x= .slice (some ad) m c) (hn:news.length=m*size) (hc:∀ j u,news[j]? =some u->w.cell? (ad.add j)=some u)
  (hfull:cap<n+m) (b1:n+m<=maxLen) (b2:(n+m)*bytes<=140737488355328)
  (hK:∀ v' w',w'.ownsRow w.heap.size e size v' (n+m) (olds++news)->w.grownBy w' none->K (a.put o.dst v') w'):wpOp P ops Q i0 K a w:=by
 obtain⟨v',w',hrun,r1,r2⟩:=run_append_arg_grows (P:=P) w t o.type e i z size bytes h1 h2 h3 h4 h5 h6 h7 b n cap olds hlo holds ad m c news hn hc hfull b1 b2;refine Ae ho hg (v:=v') (w1:=w') ?_ (hK v' w' r1 r2);simp[execOp,hop,resolve,invoke,builtin,hs,hx,hrun,Result.andThen]
theorem X2{w w':World}(h:w.grownBy w' none):Below w.heap.size w w':=(Below.refl _ _).grown h (Nat.le_refl _) (fun k hk=>by simp at hk)
end
theorem Dj{a b:Bool}(h:a=b):Ending.returned (.bool a)= .returned (.bool b):=by rw[h]
theorem Jf(n lo hi:Int)(w:World):
  Calls Tryz.prog 121 #[.int .i64 n,.int .i64 lo,.int .i64 hi] w fun e w'=>e= .returned (.bool (decide (lo<=n/\n<=hi)))/\w=w':=by
 go_enter Tryz.func121,Tryz.ntmps121;go_wp2
 all_goals
  go_ret;exact⟨Dj (by simp[*]<;>omega),rfl⟩
theorem Mc(a n:Int)(w:World)(ha:0<=a)(hn:0<=n)(h:a+n<=128):
  Calls Tryz.prog 120 #[.int .i64 a,.int .i64 n] w fun e w'=>e= .returned (.bool true)/\w=w':=by
 go_enter Tryz.func120,Tryz.ntmps120;go_wp2
 all_goals
  go_ret;exact⟨Dj (by simp;omega),rfl⟩
def setB(s:List Int)(a:Nat):Nat->Int->List Int
 |0,_=>s
 |n+1,v=>(setB s a n v).set (a+n) (v/2^(8*n)%256)
@[go_sem,simp] theorem Eu (s:List Int) (a n:Nat) (v:Int):(setB s a n v).length=s.length:=by
 induction n with
 |zero=>rfl
 |succ n ih=>simp[setB,ih]
theorem tO(s:List Int)(hs:s.length=128)(a wd:Nat)(v:Int)(w:World)(h1:1<=wd)(h8:wd<=8)(hw:a+wd<=128)(hv:0<=v)(hv2:v<=4611686018427387904)
  (hv3:wd<8->v<2^(8*wd)):
  Calls Tryz.prog 122 #[.agg (IV .u8 s),.int .i64 a,.int .i64 wd,.int .i64 v] w fun e w'=>e= .returned (.tuple #[.agg (IV .u8 (setB s a wd v)),.int .i64 0])/\Below w.heap.size w w':=by
 have d1:decide (v<0)=false:=by simp;omega
 have d2:decide (4611686018427387904<v)=false:=by simp;omega
 have d3:wd<8->v/2^(8*wd)=0:=fun h=>by
  exact Int.ediv_eq_zero_of_lt hv (by simpa using hv3 h)
 have D3:=zA d3;clear hv2 d3 hv3;go_enter Tryz.func122,Tryz.ntmps122;go_wp2_with fail;refine(Mc _ _ _ (by omega) (by omega) (by omega)).mono ?_;rintro e w' ⟨rfl,rfl⟩;have d5:decide ((wd:Int)<1)=false:=by simp;omega
 have d6:decide (8<(wd:Int))=false:=by simp;omega
 by_cases hlt:wd<8
 all_goals
  first
   |(have d4:decide (0<v/2^(8*wd))=false:=by(rw[D3.out hlt];rfl))
   |skip
  go_wp2_with fail;go_loopw [43] (fun i wr=>∃ k:Nat,k<=wd/\i= .int .i64 k/\wr=(w.alloc (.cells (IV .u8 (setB s a k v)) 47)).alloc (.cells (IV .u8 (zl 128)) 47)) (fun i _=>wd-(intOf i).toNat)
  case atStart=>exact⟨0,Nat.zero_le _,rfl,rfl⟩
  case round=>
   obtain⟨k,hk,rfl,rfl⟩:=hrel;by_cases hkw:k<wd
   ·have hak:a+k<128:=(by omega);go_wp2_with fail;go_roundw
    case rel=>exact⟨k+1,by omega,by go_num,rfl⟩
    case measure=>(show wd-(k+1)<wd-k);omega
   ·obtain rfl:k=wd:=(by omega);go_wp2_with fail;refine Aw Cq rfl (cs:=IV .u8 (setB s a k v)) rfl (Bc _ _ _ (by simp)) (by simp[hs]) rfl ⟨rfl,?_⟩;exact((Below.refl _ _).alloc (Nat.le_refl _) _).alloc (by simp) _
def Ak(s:List Int)(a:Nat):Nat->Int
 |0=>0
 |n+1=>nth s a+256*Ak s (a+1) n
def A4(s:List Int):Prop:=∀ x∈s,0<=x/\x<256
theorem A4.at{s:List Int}(h:A4 s)(i:Nat):0<=nth s i/\nth s i<256:=by
 unfold nth;cases hs:s[i]? with
 |none=>simp
 |some x=>exact h x (List.mem_of_getElem? hs)
theorem Dv{s:List Int}(h:A4 s)(n:Nat):∀ a,0<=Ak s a n:=by
 induction n with
 |zero=>intro a;exact Int.le_refl _
 |succ n ih=>intro a;have:=ih (a+1);have:=h.at a;simp only[Ak];omega
theorem Fu{s:List Int}(h:A4 s)(n:Nat):∀ a,Ak s a n<256^n:=by
 induction n with
 |zero=>intro a;simp[Ak]
 |succ n ih=>intro a;have:=ih (a+1);have:=h.at a;have e:(256:Int)^(n+1)=256*256^n:=by rw[Int.pow_succ];omega
             simp only[Ak];omega
theorem vW:∀ k,k<=7->(256:Int)^k<=256^7:=by decide
theorem yE:∀ k,k<=8->(256:Int)^k<=256^8:=by decide
theorem qX(v b:Int)(h0:0<=v)(h1:v<72057594037927936)(h2:0<=b)(h3:b<256):
  bits BinOp.or IntKind.u64 (IntKind.u64.wrap (v*256)) b=b+256*v:=by
 rw[IntWalk.u64_in _ ⟨by omega,by omega⟩];obtain⟨n,rfl⟩:=Int.eq_ofNat_of_zero_le h0;obtain⟨m,rfl⟩:=Int.eq_ofNat_of_zero_le h2;have e:((n:Int)*256)=((n*256:Nat):Int):=by omega
 rw[e,u64_or_nat _ _ (by omega) (by omega),nat_join 8 (n*256) m (by omega) (by omega)];omega
theorem gL{s:List Int}(h:A4 s)(a wd k:Nat)(hk:k<wd)(h8:wd<=8)(hl:a+wd-1-k<s.length):
  bits BinOp.or IntKind.u64 (IntKind.u64.wrap (Ak s (a+wd-k) k*256)) (nth s (a+wd-1-k))=Ak s (a+wd-(k+1)) (k+1):=by
 have hx:=h.at (a+wd-1-k);have h0:=Dv h k (a+wd-k);have h1:=Fu h k (a+wd-k);have h2:(256:Int)^k<=256^7:=vW k (by omega);rw[qX _ _ h0 (by omega) hx.1 hx.2];simp only[Ak];rw[show a+wd-(k+1)=a+wd-1-k by omega,show a+wd-1-k+1=a+wd-k by omega]
def xZ(s:List Int)(a wd:Nat):Bool->Value
 |true=> .tuple #[.int .i64 0,.int .i64 11]
 |false=> .tuple #[.int .i64 (Ak s a wd),.int .i64 0]
theorem dQ(s:List Int)(hs:s.length=128)(hb:A4 s)(a wd:Nat)(w:World)(h1:1<=wd)(h8:wd<=8)(hw:a+wd<=128)(big:Bool)(hbig:big=decide (4611686018427387904<Ak s a wd)):
  Calls Tryz.prog 104 #[.agg (IV .u8 s),.int .i64 a,.int .i64 wd] w fun e w'=>e= .returned (xZ s a wd big)/\Below w.heap.size w w':=by
 have d5:decide ((wd:Int)<1)=false:=by simp;omega
 have d6:decide (8<(wd:Int))=false:=by simp;omega
 have d7:decide (4611686018427387904<Ak s a wd)=big:=hbig.symm;clear hbig;have D7:=zA d7;clear d7;go_enter Tryz.func104,Tryz.ntmps104;go_wp2_with fail;refine(Mc _ _ _ (by omega) (by omega) (by omega)).mono ?_;rintro e w' ⟨rfl,rfl⟩;go_wp2_with fail;go_loop [8,23] (fun v i=>∃ k:Nat,k<=wd/\i= .int .i64 k/\v= .int .u64 (Ak s (a+wd-k) k)) (fun _ i=>wd-(intOf i).toNat)
 case atStart=>exact⟨0,Nat.zero_le _,rfl,rfl⟩
 case round=>
  obtain⟨k,hk,rfl,rfl⟩:=hrel;by_cases hkw:k<wd
  ·have hak:a+wd-1-k<128:=(by omega);obtain⟨hx0,hx1⟩:=hb.at (a+wd-1-k);go_wp2_with fail;go_round
   case rel=>exact⟨k+1,by omega,by go_num,by rw[<-gL hb a wd k hkw h8 (by omega)]⟩
   case measure=>(show wd-(k+1)<wd-k);omega
  ·obtain rfl:k=wd:=(by omega);have e1:a+k-k=a:=(by omega);rw[e1];cases big
   all_goals
    have d7:=D7.out;have h0:=Dv hb k a;have hlt:Ak s a k<18446744073709551616:=by
     have:=Fu hb k a;have h2:(256:Int)^k<=256^8:=yE k h8;omega
    first
     |(have hle:Ak s a k<=4611686018427387904:=by simpa using d7)
     |skip
    go_wp2_with fail;refine bodyPost_ret (results_tmp2 rfl _ _ _) rfl ?_;exact⟨rfl,(Below.refl _ _).alloc (Nat.le_refl _) _⟩
theorem qF(s:List Int)(hs:s.length=128)(hb:A4 s)(a wd:Nat)(w:World)(h1:1<=wd)(h8:wd<=8)(hw:a+wd<=128)(hbig:4611686018427387904<Ak s a wd):
  Calls Tryz.prog 104 #[.agg (IV .u8 s),.int .i64 a,.int .i64 wd] w fun e w'=>e= .returned (.tuple #[.int .i64 0,.int .i64 11])/\Below w.heap.size w w':=
 dQ s hs hb a wd w h1 h8 hw true (by simp[hbig])
theorem tF(s:List Int)(hs:s.length=128)(hb:A4 s)(a wd:Nat)(w:World)(h1:1<=wd)(h8:wd<=8)(hw:a+wd<=128)(hbig:¬ 4611686018427387904<Ak s a wd):
  Calls Tryz.prog 104 #[.agg (IV .u8 s),.int .i64 a,.int .i64 wd] w fun e w'=>e= .returned (.tuple #[.int .i64 (Ak s a wd),.int .i64 0])/\Below w.heap.size w w':=
 dQ s hs hb a wd w h1 h8 hw false (by simp;omega)
def Ej(s:List Int)(a n:Nat):Int:=if 4611686018427387904<Ak s a n then-1 else Ak s a n
theorem Sl(s:List Int)(hs:s.length=128)(hb:A4 s)(a wd:Nat)(w:World)(h1:1<=wd)(h8:wd<=8)(hw:a+wd<=128):
  Calls Tryz.prog 71 #[.agg (IV .u8 s),.int .i64 a,.int .i64 wd] w fun e w'=>e= .returned (.int .i64 (Ej s a wd))/\Below w.heap.size w w':=by
 by_cases hbig:4611686018427387904<Ak s a wd
 ·have hL:Ej s a wd= -1:=(by unfold Ej;rw[if_pos hbig]);rw[hL];have H:=zA hbig;clear hbig hL;go_enter Tryz.func71,Tryz.ntmps71;go_wp2_with fail;refine(qF s hs hb a wd _ h1 h8 hw H.out).mono ?_;rintro e w1 ⟨rfl,hb1⟩;go_wp2_with fail;go_ret;exact⟨rfl,((Below.refl _ _).alloc (Nat.le_refl _) _).trans (hb1.mono (by simp))⟩
 ·have hL:Ej s a wd=Ak s a wd:=(by unfold Ej;rw[if_neg hbig]);rw[hL];have H:=zA hbig;clear hbig hL;go_enter Tryz.func71,Tryz.ntmps71;go_wp2_with fail;refine(tF s hs hb a wd _ h1 h8 hw (Int.not_lt.2 H.out)).mono ?_;rintro e w1 ⟨rfl,hb1⟩;go_wp2_with fail;go_ret;exact⟨rfl,((Below.refl _ _).alloc (Nat.le_refl _) _).trans (hb1.mono (by simp))⟩
theorem Py(s:List Int)(hs:s.length=128)(a wd:Nat)(v:Int)(w:World)(h1:1<=wd)(h8:wd<=8)(hw:a+wd<=128)(hv:0<=v)(hv2:v<=4611686018427387904)
  (hv3:wd<8->v<2^(8*wd)):
  Calls Tryz.prog 107 #[.agg (IV .u8 s),.int .i64 a,.int .i64 wd,.int .i64 v] w fun e w'=>e= .returned (.agg (IV .u8 (setB s a wd v)))/\Below w.heap.size w w':=by
 have H:=zA hv2;have H3:=zA hv3;clear hv2 hv3;go_enter Tryz.func107,Tryz.ntmps107;go_wp2_with fail;refine(tO s hs a wd v _ h1 h8 hw hv H.out H3.out).mono ?_;rintro e w1 ⟨rfl,hb⟩;have f0:=A7 hb (k:=w.heap.size) (by simp only[World.size_alloc];omega);have f1:=A7 hb (k:=w.heap.size+1) (by simp only[World.size_alloc];omega);have z0:w.heap.size<w1.heap.size:=by have:=hb.size;simp only[World.size_alloc]at this;omega
 have z1:w.heap.size+1<w1.heap.size:=by have:=hb.size;simp only[World.size_alloc]at this;omega
 simp[go_sem]at f0 f1;go_wp2_with fail;refine Qu Cq rfl (cs:=IV .u8 (setB s a wd v)) rfl ((A9 _ _ _ (by simpa using z1)).trans (Ar _ _ _ _ _ _ f1)) (by simp[hs]) rfl ⟨rfl,?_⟩;exact(Ag ((((Below.refl _ _).alloc (Nat.le_refl _) _).alloc (by simp) _).trans (hb.mono (by simp only[World.size_alloc];omega))) (by omega) _).alloc (by simp;omega) _
theorem Zv(r:Int)(w:World)(h:128<=r)(hne:r≠65533)(hv:Lib.validRune r=false):
  Calls Tryz.prog 155 #[.string {data:= #[0,47]},.int .i32 r] w fun e w'=>e= .returned (.int .i64 (-1))/\Below w.heap.size w w':=by
 have d2:decide (r<128)=false:=by simp;omega
 have d1:decide (0<=r)=true:=by simp;omega
 have d3:(r==65533)=false:=by simp;omega
 go_enter Tryz.func155,Tryz.ntmps155;go_wp2_with fail;refine(Tryz.utf8_ValidRune _ _).mono ?_;rintro e w' ⟨rfl,hw⟩;rw[hw,hv];go_wp2_with fail;go_ret;exact⟨rfl,Below.refl _ _⟩
theorem Zw(w:World):
  Calls Tryz.prog 155 #[.string {data:= #[0,47]},.int .i32 65533] w fun e w'=>e= .returned (.int .i64 (-1))/\Below w.heap.size w w':=by
 go_enter Tryz.func155,Tryz.ntmps155;have n0:=fun ty=>run_next_ascii (P:=Tryz.prog) w {data:= #[0,47]} 0 ty (by decide) (by decide)
 have n1:=fun ty=>run_next_ascii (P:=Tryz.prog) w {data:= #[0,47]} 1 ty (by decide) (by decide)
 have n2:=fun ty=>run_next_end (P:=Tryz.prog) w {data:= #[0,47]} 2 ty (by decide)
 go_wp2_with fail;go_loopg [5,6] 2 (fun g _ _ wx=>∃ i:Nat,i+g=2/\wx=w.iter {data:= #[0,47]} i)
 case atStart=>exact⟨0,by omega,rfl⟩
 case round=>
  obtain⟨i,hig,rfl⟩:=hrel;obtain rfl|rfl|rfl:i=0\/i=1\/i=2:=by omega
  ·obtain rfl:gk=2:=(by omega);go_wp2_with fail;go_roundg 1
   case measure=>omega
   case rel=>exact⟨1,by omega,rfl⟩
  ·obtain rfl:gk=1:=(by omega);go_wp2_with fail;go_roundg 0
   case measure=>omega
   case rel=>exact⟨2,by omega,rfl⟩
  ·go_wp2_with fail;go_ret;exact⟨rfl,(Below.refl _ _).alloc (Nat.le_refl _) _⟩
theorem U0(r:Int)(w:World)(h:128<=r)(h2:r<=2147483647)(hne:r≠65533)(hv:Lib.validRune r=true):
  Calls Tryz.prog 155 #[.string {data:= #[0,47]},.int .i32 r] w fun e w'=>e= .returned (.int .i64 (-1))/\Below w.heap.size w w':=by
 have d2:decide (r<128)=false:=by simp;omega
 have d1:decide (0<=r)=true:=by simp;omega
 have d3:(r==65533)=false:=by simp;omega
 have hcv:=fun w=>run_convert_int_string (P:=Tryz.prog) w 21 9 .i32 r (by rw[Tryz.underlying21];rfl) Tryz.underlying9
 obtain⟨e2,e4,eh⟩:=encode_facts r (by rw[validRune_eq];exact hv) h;generalize Utf8.encode r=rs at*;have eL:=eh (by omega);obtain⟨c,hc⟩:∃ c:UInt8,rs[rs.size-1]'(by omega)=c:=⟨_,rfl⟩;rw[hc]at eL;have hz:rs.size=2\/rs.size=3\/rs.size=4:=by omega
 go_enter Tryz.func155,Tryz.ntmps155;go_wp2_with fail;refine(Tryz.utf8_ValidRune _ _).mono ?_;rintro e w' ⟨rfl,hw⟩;rw[hw,hv];rcases hz with hz|hz|hz
 ·have gz:((rs.size:Int))=2:=(by omega);have gx:rs[1]'(by omega)=c:=(by have:=hc;simp only[hz]at this;exact this);clear hc eh hv e2 e4;have cn:((47:Int) !=(c.toNat:Int))=true:=(by simp;omega);have gi:∀ w,(Instr.index 9 (.string rs) (.int .i64 1)).run Tryz.prog w= .ok (.int .u8 c.toNat) w:=fun w=>by
   rw[run_index_string w 9 rs .i64 1 Tryz.underlying9,dif_pos ⟨by omega,by omega⟩];show Result.ok (Value.int .u8 (rs[1]'(by omega)).toNat) w=_
   rw[gx]
  have gj:∀ w,(Instr.index 9 (.string {data:= #[0,47]}) (.int .i64 1)).run Tryz.prog w= .ok (.int .u8 47) w:=fun w=>by
   rw[run_index_string w 9 _ .i64 1 Tryz.underlying9];rfl
  have hsl:∀ w,(Instr.slice 9 (.string {data:= #[0,47]}) (some (.int .i64 2)) none none).run Tryz.prog w= .ok (.string {data:= #[]}) w:=fun w=>by
   rw[run_slice_string_from_if w 9 _ .i64 2 Tryz.underlying9];rfl
  go_wp2_with fail;go_step3
  go_wp2_with fail;go_loopw [9,10] (fun a b wr=>a= .int .i64 1/\b= .int .i64 0/\wr=w) (fun _ _ _=>1)
  case atStart=>exact⟨rfl,rfl,rfl⟩
  case round=>
   obtain⟨rfl,rfl,rfl⟩:=hrel;go_wp2_with fail;go_step3
   go_wp2_with fail;go_quiet (fail)
   go_wp2_with fail;go_quiet (exact(Tryz.strings_IndexByte _ _ _).mono (fun e w' h=>⟨h.1,_,h.2⟩))
   have ib:Lib.indexByte (({data:= #[]}:ByteArray).data.toList) ((c.toNat:Int)).toNat.toUInt8= -1:=rfl;go_wp2_with fail;rw[Exit.noGoto_ret];go_ret;exact⟨rfl,Qj (Below.refl _ _) _⟩
 ·have gz:((rs.size:Int))=3:=(by omega);go_wp2_with fail;go_step3
  go_wp2_with fail;go_loopw [9,10] (fun a b wr=>a= .int .i64 2/\b= .int .i64 0/\wr=w) (fun _ _ _=>1)
  case atStart=>exact⟨rfl,rfl,rfl⟩
  case round=>
   obtain⟨rfl,rfl,rfl⟩:=hrel;go_wp2_with fail;rw[Exit.noGoto_ret];go_ret;exact⟨rfl,Below.refl _ _⟩
 ·have gz:((rs.size:Int))=4:=(by omega);go_wp2_with fail;go_step3
  go_wp2_with fail;go_loopw [9,10] (fun a b wr=>a= .int .i64 3/\b= .int .i64 0/\wr=w) (fun _ _ _=>1)
  case atStart=>exact⟨rfl,rfl,rfl⟩
  case round=>
   obtain⟨rfl,rfl,rfl⟩:=hrel;go_wp2_with fail;rw[Exit.noGoto_ret];go_ret;exact⟨rfl,Below.refl _ _⟩
theorem X9(s:ByteArray)(pos:Nat)(h:pos<s.size)(ha:128<=(s[pos]'h).toNat):
  ∀ j,j<(Utf8.decode s pos).2->pos+j<s.size/\128<=(s.get! (pos+j)).toNat:=by
 have hn:¬ (s[pos]'h).toNat<128:=by omega
 have g0:=get_at s pos h;have c0:pos+0<s.size/\128<=(s.get! (pos+0)).toNat:=⟨by omega,by rw[g0];exact ha⟩;intro j hj;simp only[Utf8.decode,g0,hn,if_false]at hj;repeat' split at hj
 all_goals
  simp only[Bool.and_eq_true,decide_eq_true_eq,beq_iff_eq]at*;by_cases j0:j=0
  ·rw[j0];exact c0
  by_cases j1:j=1
  ·subst j1;omega
  by_cases j2:j=2
  ·subst j2;omega
  by_cases j3:j=3
  ·subst j3;omega
  omega
def Pn(w:World)(b:Nat)(s:ByteArray)(p:Nat):World:={w with heap:=w.heap.setIfInBounds b (.stringIter s p)}
theorem Xl{P:Program}(w:World)(b:Nat)(s:ByteArray)(pos:Nat)(ty:TypeId)(h:hat w b=some (.stringIter s pos))(hp:pos<s.size):
  (Instr.next (.pointer (some ⟨b,0,none⟩)) true ty).run P w= .ok (.tuple #[.bool true,.int .i64 pos,.int .i32 (Utf8.decode s pos).1]) (Pn w b s (pos+(Utf8.decode s pos).2)):=by
 have h':w.heap[b]? =some (.stringIter s pos):=h;simp only[Instr.next,getObj,setObj,Sem.run_bind,Sem.run,h',Result.andThen,hp,if_true];simp[goInt,Pn]
theorem P1{P:Program}(w:World)(b:Nat)(s:ByteArray)(pos:Nat)(ty:TypeId)(h:hat w b=some (.stringIter s pos))(hp:¬ pos<s.size):
  (Instr.next (.pointer (some ⟨b,0,none⟩)) true ty).run P w= .ok (.tuple #[.bool false]) w:=by
 have h':w.heap[b]? =some (.stringIter s pos):=h;simp[Instr.next,getObj,Sem.run,h',hp]
theorem Sh(w:World)(b:Nat)(s:ByteArray)(p:Nat)(h:b<w.heap.size):hat (Pn w b s p) b=some (.stringIter s p):=by
 show(w.heap.setIfInBounds b _)[b]? =_
 simp[h]
theorem Ob{B:Nat}{a w:World}(h:Below B a w){b:Nat}(hB:B<=b)(s:ByteArray)(p:Nat):Below B a (Pn w b s p):=
 ⟨h.os,h.tape,h.output,by show a.heap.size<=(w.heap.setIfInBounds b _).size;rw[Array.size_setIfInBounds];exact h.size,
  fun k hk=>by
   show(w.heap.setIfInBounds b _)[k]? =_
   rw[Array.getElem?_setIfInBounds_ne (by omega)];exact h.block k hk⟩
theorem Zy(w:World)(b:Nat)(s:ByteArray)(p:Nat):(Pn w b s p).heap.size=w.heap.size:=by
 show(w.heap.setIfInBounds b _).size=_
 rw[Array.size_setIfInBounds]
theorem Zu(r:Int)(w:World)(h:128<=r)(h2:r<=2147483647):
  Calls Tryz.prog 155 #[.string {data:= #[0,47]},.int .i32 r] w fun e w'=>e= .returned (.int .i64 (-1))/\Below w.heap.size w w':=by
 by_cases hne:r=65533
 ·subst hne;exact Zw w
 ·cases hv:Lib.validRune r
  ·exact Zv r w h hne hv
  ·exact U0 r w h h2 hne hv
theorem Xm(s:ByteArray)(w:World)(h8:s.size<=8):
  Calls Tryz.prog 148 #[.string s,.string {data:= #[0,47]}] w fun e w'=>e= .returned (.int .i64 (Lib.indexAny s.data.toList [0,47]))/\Below w.heap.size w w':=by
 have h8z:decide ((8:Int)<(s.size:Int))=false:=decide_eq_false (by omega);go_enter Tryz.func148,Tryz.ntmps148;go_wp2_with fail;refine(Tryz.strings_shouldUseASCIISet _ _).mono ?_;rintro e w' ⟨rfl,hw⟩;rw[hw,h8z];go_wp2_with fail;have f0:hat (w.iter s 0) w.heap.size=some (.stringIter s 0):=World.iter_heap w s 0;have hb:Below w.heap.size w (w.iter s 0):=(Below.refl _ _).alloc (Nat.le_refl _) _;go_loopg [9,10] s.size (fun g _ _ wx=>∃ i:Nat,i+g=s.size/\hat wx w.heap.size=some (.stringIter s i)/\Below w.heap.size w wx/\Lib.NoAny s.data.toList [0,47] i)
 case atStart=>exact⟨0,by omega,f0,hb,Lib.NoAny.zero _ _⟩
 case round=>
  clear f0 hb;obtain⟨i,hig,f0,hb,hno⟩:=hrel;have HN:=zA hno;clear hno;have z0:=Aa f0;cases gk with
  |zero=>
   obtain rfl:i=s.size:=(by omega);have hnx:=fun ty=>P1 (P:=Tryz.prog) _ w.heap.size s s.size ty f0 (by omega)
   go_wp2_with fail;go_ret;exact⟨by rw[Lib.indexAny_none (by rw[<-Lib.size_eq];exact HN.out)];rfl,hb⟩
  |succ g=>
   have hi:i<s.size:=(by omega);have hnx:=fun ty=>Xl (P:=Tryz.prog) _ w.heap.size s i ty f0 hi
   by_cases h128:(s[i]'hi).toNat<128
   ·have hd:=decode_ascii s i hi h128;rw[hd]at hnx;obtain⟨x,hx⟩:∃ x:UInt8,s[i]'hi=x:=⟨_,rfl⟩;have hxl:s.data.toList[i]? =some x:=(by rw[<-hx];exact Lib.data_getElem? s i hi);rw[hx]at h128 hnx;have Hx:=zA hxl;have f1:=Sh wr w.heap.size s (i+1) z0;have hb:=Ob hb (Nat.le_refl _) s (i+1);have hcon:=Lib.contains_iff_indexByte [0,47] x;have hback:((x.toNat:Int)).toNat.toUInt8=x:=(by simp);clear hxl hx hd;cases hin:([0,47]:List UInt8).contains x
    ·rw[hin]at hcon;have hlt:decide ((0:Int)<=Lib.indexByte [0,47] x)=false:=hcon.symm;clear hcon;go_wp2_with fail;refine(Tryz.strings_IndexRune_ascii _ _ _ (by omega) (by omega)).mono ?_;rintro e w' ⟨rfl,hw⟩;rw[hw,hback];go_wp2_with fail;go_roundg g
     case measure=>omega
     case rel=>exact⟨i+1,by omega,f1,hb,HN.out.succ Hx.out hin⟩
    ·rw[hin]at hcon;have hge:decide ((0:Int)<=Lib.indexByte [0,47] x)=true:=hcon.symm;clear hcon;go_wp2_with fail;refine(Tryz.strings_IndexRune_ascii _ _ _ (by omega) (by omega)).mono ?_;rintro e w' ⟨rfl,hw⟩;rw[hw,hback];go_wp2_with fail;go_ret;exact⟨by rw[Lib.indexAny_hit HN.out Hx.out hin];rfl,hb⟩
   ·have hd1:=decode_high s i hi (by omega);have hd2:=decode_le s i;have hd3:=zA (X9 s i hi (by omega));generalize Utf8.decode s i=dd at*;obtain⟨r,k⟩:=dd;simp only[]at hd1 hd2 hd3 hnx;have f1:=Sh wr w.heap.size s (i+k) z0;have hb:=Ob hb (Nat.le_refl _) s (i+k);have zi:=Zy wr w.heap.size s (i+k);generalize Pn wr w.heap.size s (i+k)=w2 at*;go_wp2_with fail;refine(Zu _ _ (by omega) (by omega)).mono ?_;rintro e w3 ⟨rfl,hb3⟩;have hb:=Ad hb hb3 hb.size;obtain⟨f1,z1⟩:=hop hb3 f1;go_wp2_with fail;go_roundg (s.size-(i+k))
    case measure=>omega
    case rel=>
     have hik:i+k<=s.size:=by
      have:=hd3.out (k-1) (by omega);omega
     refine⟨i+k,by omega,f1,hb,?_⟩;intro j b hj hb;by_cases hji:j<i
     ·exact HN.out j b hji hb
     ·obtain⟨q1,q2⟩:=hd3.out (j-i) (by omega);rw[show i+(j-i)=j by omega]at q1 q2;rw[show s.get! j=s[j]'q1 from get_at s j q1]at q2;rw[Lib.data_getElem? s j q1]at hb;obtain rfl:=Option.some.inj hb;generalize s[j]=b at q2;show(b==0||(b==47||false))=false
      have h0:b≠0:=fun h=>by subst h;exact absurd q2 (by decide)
      have h47:b≠47:=fun h=>by subst h;exact absurd q2 (by decide)
      simp[h0,h47]
def Oa(l:List UInt8):Prop:=1<=l.length/\l.length<=40/\(∀ b∈l,b≠0/\b≠47)/\l≠[46]/\l≠[46,46]
instance (l:List UInt8):Decidable (Oa l):=by unfold Oa;infer_instance
theorem cL(s:ByteArray)(w:World)(hs:s.size<4294967281):
  Calls Tryz.prog 148 #[.string s,.string {data:= #[0,47]}] w fun e w'=>e= .returned (.int .i64 (Lib.indexAny s.data.toList [0,47]))/\Below w.heap.size w w':=by
 by_cases h8:s.size<=8
 ·exact Xm s w h8
 ·refine(Tryz.strings_IndexAny_long (fun w=>by kernel_rfl) s {data:= #[0,47]} w (by decide) (by omega) hs (by decide) ?_).mono ?_
  ·intro j b hj;match j,hj with
   |0,hj=>cases hj;decide
   |1,hj=>cases hj;decide
  ·rintro e w' ⟨rfl,rfl⟩;exact⟨rfl,((Below.refl _ _).alloc (Nat.le_refl _) _).alloc (by simp) _⟩
theorem Zt(s:ByteArray)(w:World)(hs:s.size<4294967281):
  Calls Tryz.prog 136 #[.string s,.string {data:= #[0,47]}] w fun e w'=>e= .returned (.bool (decide (0<=Lib.indexAny s.data.toList [0,47])))/\Below w.heap.size w w':=by
 go_enter Tryz.func136,Tryz.ntmps136;go_wp2_with fail;refine(cL _ _ hs).mono ?_;rintro e w' ⟨rfl,hb⟩;go_wp2_with fail;go_ret;exact⟨rfl,hb⟩
theorem V4(s bs:List Int)(hs:s.length=128)(a g cap:Nat)(t:TypeId)(fr:Nat×Nat)(src:List Int)(w:World)(hg:hat w g=some (.cells (IV .u8 src) t fr))(hsrc:∀ j,j<bs.length->src[j]? =bs[j]?)
  (h0:0<bs.length) (ha:a+bs.length<=128):
  Calls Tryz.prog 106 #[.agg (IV .u8 s),.int .i64 a,.slice (some ⟨g,0,none⟩) bs.length cap] w fun e w'=>e= .returned (.tuple #[.agg (IV .u8 (putL s a bs)),.int .i64 0])/\Below w.heap.size w w':=by
 have hgl:=Aa hg;go_enter Tryz.func106,Tryz.ntmps106;go_wp2_with fail;refine(Mc _ _ _ (by omega) (by omega) (by omega)).mono ?_;rintro e w' ⟨rfl,rfl⟩;have hgw:hat ((w.alloc (.cells (IV .u8 s) 47)).alloc (.cells (IV .u8 (zl 128)) 47)) g=some (.cells (IV .u8 src) t fr):=by
  rw[A9 _ _ _ (by simp only[World.size_alloc];omega),A9 _ _ _ hgl,hg]
 have hsw:hat ((w.alloc (.cells (IV .u8 s) 47)).alloc (.cells (IV .u8 (zl 128)) 47)) w.heap.size=some (.cells (IV .u8 s) 47):=by
  rw[A9 _ _ _ (by simp only[World.size_alloc];omega),Bc _ _ _ rfl]
 have ha2:(a:Int)<128:=by omega
 clear hg;go_wp2_with (refine Ul rfl (.tmp 15) (.tmp 16) 42 42 rfl 5 Tryz.underlying42 (by kernel_rfl) w.heap.size a (128-a) (128-a) g 0 bs.length cap rfl rfl .u8 s src bs 47 t fr hsw hgw ?_ ?_ ?_ ?_)
 ·simp only[Nat.min_def];split<;>omega
 ·intro j hj;rw[Nat.zero_add];exact hsrc j hj
 ·omega
 ·refine Aw Cq rfl (cs:=IV .u8 (putL s a bs)) rfl (Bc _ _ _ (by simp)) (by simp[hs,ha]) rfl ⟨rfl,?_⟩;exact((Below.refl _ _).alloc (Nat.le_refl _) _).alloc (by simp) _
theorem Hq(n lo hi:Int)(w:World):
  Calls Tryz.prog 91 #[.int .i64 n,.int .i64 lo,.int .i64 hi] w fun e w'=>e= .returned (.bool (decide (lo<=n/\n<=hi)))/\w=w':=by
 go_enter Tryz.func91,Tryz.ntmps91;go_wp2
 all_goals
  go_ret;exact⟨Dj (by simp[*]<;>omega),rfl⟩
theorem Ce(n lo hi:Int)(w:World)(h:lo<=n/\n<=hi):
  Calls Tryz.prog 121 #[.int .i64 n,.int .i64 lo,.int .i64 hi] w fun e w'=>e= .returned (.bool true)/\w=w':=
 (Jf n lo hi w).mono fun e w' ⟨he,hw⟩=>⟨by rw[he];simp[h],hw⟩
theorem E4(n lo hi:Int)(w:World)(h:¬ (lo<=n/\n<=hi)):
  Calls Tryz.prog 121 #[.int .i64 n,.int .i64 lo,.int .i64 hi] w fun e w'=>e= .returned (.bool false)/\w=w':=
 (Jf n lo hi w).mono fun e w' ⟨he,hw⟩=>⟨by rw[he];simp only[decide_eq_false h],hw⟩
theorem A5(n lo hi:Int)(w:World)(h:lo<=n/\n<=hi):
  Calls Tryz.prog 91 #[.int .i64 n,.int .i64 lo,.int .i64 hi] w fun e w'=>e= .returned (.bool true)/\w=w':=
 (Hq n lo hi w).mono fun e w' ⟨he,hw⟩=>⟨by rw[he];simp[h],hw⟩
theorem C1(n lo hi:Int)(w:World)(h:¬ (lo<=n/\n<=hi)):
  Calls Tryz.prog 91 #[.int .i64 n,.int .i64 lo,.int .i64 hi] w fun e w'=>e= .returned (.bool false)/\w=w':=
 (Hq n lo hi w).mono fun e w' ⟨he,hw⟩=>⟨by rw[he];simp only[decide_eq_false h],hw⟩
def Ew(x y:Int):Prop:=(8<=x/\x<=4096)/\(1<=y/\y<=512)/\y+2<=x
theorem Xr(x y:Int)(w:World)(h:Ew x y):
  Calls Tryz.prog 105 #[.agg #[.int .i64 x,.int .i64 y]] w fun e w'=>e= .returned (.bool true)/\Below w.heap.size w w':=by
 obtain⟨h1,h2,h3⟩:=h;have H1:=zA h1;have H2:=zA h2;obtain⟨a1,a2⟩:=h1;obtain⟨b1,b2⟩:=h2;go_enter Tryz.func105,Tryz.ntmps105;go_wp2_with fail;refine(Ce _ _ _ _ H1.out).mono ?_;rintro e w' ⟨rfl,rfl⟩;go_wp2_with fail;refine(Ce _ _ _ _ H2.out).mono ?_;rintro e w' ⟨rfl,rfl⟩;go_wp2_with fail;go_ret;exact⟨rfl,(Below.refl _ _).alloc (Nat.le_refl _) _⟩
theorem Z8(x y:Int)(w:World)(h:¬ Ew x y)(hx:x<=9223372036854775807)(hy:y<=9223372036854775807)(hx': -9223372036854775808<=x)(hy': -9223372036854775808<=y):
  Calls Tryz.prog 105 #[.agg #[.int .i64 x,.int .i64 y]] w fun e w'=>e= .returned (.bool false)/\Below w.heap.size w w':=by
 by_cases h1:8<=x/\x<=4096
 ·by_cases h2:1<=y/\y<=512
  ·have h3:x<y+2:=by
    false_or_by_contra
    exact h ⟨h1,h2,by omega⟩
   have H1:=zA h1;have H2:=zA h2;clear h;obtain⟨a1,a2⟩:=h1;obtain⟨b1,b2⟩:=h2;go_enter Tryz.func105,Tryz.ntmps105;go_wp2_with fail;refine(Ce _ _ _ _ H1.out).mono ?_;rintro e w' ⟨rfl,rfl⟩;go_wp2_with fail;refine(Ce _ _ _ _ H2.out).mono ?_;rintro e w' ⟨rfl,rfl⟩;go_wp2_with fail;go_ret;exact⟨Dj (by simp;omega),(Below.refl _ _).alloc (Nat.le_refl _) _⟩
  ·have H1:=zA h1;have H2:=zA h2;clear h h1 h2;go_enter Tryz.func105,Tryz.ntmps105;go_wp2_with fail;refine(Ce _ _ _ _ H1.out).mono ?_;rintro e w' ⟨rfl,rfl⟩;go_wp2_with fail;refine(E4 _ _ _ _ H2.out).mono ?_;rintro e w' ⟨rfl,rfl⟩;go_wp2_with fail;go_ret;exact⟨rfl,(Below.refl _ _).alloc (Nat.le_refl _) _⟩
 ·have H1:=zA h1;clear h h1;go_enter Tryz.func105,Tryz.ntmps105;go_wp2_with fail;refine(E4 _ _ _ _ H1.out).mono ?_;rintro e w' ⟨rfl,rfl⟩;go_wp2_with fail;go_ret;exact⟨rfl,(Below.refl _ _).alloc (Nat.le_refl _) _⟩
section
variable {P:Program}
theorem Ii{e:TypeId}{k':IntKind}(hu:P.underlying e=some (.int k'))(k:IntKind)(l:List Int)(i:Nat)(h:i<l.length)(w:World):
  (part e (IV k l) i).run P w= .ok (.int k (nth l i)) w:=by
 have hagg:(isAgg e).run P w= .ok false w:=by
  unfold isAgg;rw[Sem.run_bind,run_underlying hu w];rfl
 simp[part,Sem.run_bind,hagg,h]
theorem Xj(a b:List Int)(w:World)(f:Nat->Option Bool×Unit->Sem (ForInStep (Option Bool×Unit)))(n:Nat)(ha:a.length=n)(hb:b.length=n)
  (hf:∀ i,i<n->(f i (none,())).run P w= .ok (if nth a i=nth b i then .yield (none,())else .done (some false,())) w):
  ∀ (m j:Nat),j+m=n->(forIn (List.range' j m 1) (none,()) f).run P w= .ok (if a.drop j=b.drop j then(none,())else(some false,())) w:=by
 intro m;induction m with
 |zero=>
  intro j hj;have h1:a.drop j=[]:=List.drop_of_length_le (by omega);have h2:b.drop j=[]:=List.drop_of_length_le (by omega);simp[h1,h2]
 |succ m ih=>
  intro j hj;have h1:a.drop j=nth a j::a.drop (j+1):=by
   rw[List.drop_eq_getElem_cons (by omega),Fl]
  have h2:b.drop j=nth b j::b.drop (j+1):=by
   rw[List.drop_eq_getElem_cons (by omega),Fl]
  rw[List.range'_succ,List.forIn_cons];simp only[Sem.run_bind,hf j (by omega),Result.andThen_ok];rw[h1,h2];by_cases hx:nth a j=nth b j
  ·rw[if_pos hx];simp only[hx,List.cons.injEq,true_and];exact ih (j+1) (by omega)
  ·rw[if_neg hx];simp only[hx,List.cons.injEq,false_and,if_false,Sem.run_pure]
theorem Hc{T n e:Nat}{k':IntKind}(hu:P.underlying T=some (.array n e))(he:P.underlying e=some (.int k'))(hi:(P.info? e).map (·.size)=some 1)(d:Nat)(k:IntKind)(a b:List Int)
  (ha:a.length=n) (hb:b.length=n) (w:World):(Op.equalIn (d+2) T (.agg (IV k a)) (.agg (IV k b))).run P w= .ok (decide (a=b)) w:=by
 cases hq:P.info? e with
 |none=>simp[hq]at hi
 |some i=>
  have hs:i.size=1:=(by simpa [hq]using hi);have hsz:(sizeOf e).run P w= .ok 1 w:=(by simp[sizeOf,typeInfo,hq,hs]);unfold Op.equalIn;simp only[Sem.run_bind,run_underlying hu,Result.andThen_ok,hsz,Nat.mul_one];rw[Std.Legacy.Range.forIn_eq_forIn_range'];simp only[Std.Legacy.Range.size,Nat.sub_zero,Nat.add_sub_cancel,Nat.div_one];rw[Xj a b w _ n ha hb ?_ n 0 (by omega)]
  ·simp only[Result.andThen_ok,List.drop_zero];by_cases hab:a=b
   ·simp[hab]
   ·simp[hab]
  ·intro j hj;simp only[Sem.run_bind,Ii he k a j (by omega) w,Ii he k b j (by omega) w,Result.andThen_ok,run_equalIn_int w d e k k' _ _ he];by_cases hx:nth a j=nth b j
   ·simp[hx]
   ·simp[hx]
end
section
variable {P:Program}
theorem Xk{T n e:Nat}{k':IntKind}(hu:P.underlying T=some (.array n e))(he:P.underlying e=some (.int k'))(hi:(P.info? e).map (·.size)=some 1)(k:IntKind)(l:List Int)(hl:l.length=n)(i:Int)(h0:0<=i)(h1:i<n)(w:World):
  (Instr.index T (.agg (IV k l)) (.int .i64 i)).run P w= .ok (.int k (nth l i.toNat)) w:=by
 cases hq:P.info? e with
 |none=>simp[hq]at hi
 |some ii=>
  have hs:ii.size=1:=(by simpa [hq]using hi);have hsz:(sizeOf e).run P w= .ok 1 w:=(by simp[sizeOf,typeInfo,hq,hs]);have hp:=Ii he k l i.toNat (by omega) w;simp[Instr.index,asIntOf,run_underlying hu,h0,h1,hsz,hp,Sem.run_bind]
end
theorem vO(l:List Int)(hl:l.length=32)(i:Int)(h0:0<=i)(h1:i<32)(w:World):
  (Instr.index 119 (.agg (IV .i64 l)) (.int .i64 i)).run Tryz.prog w= .ok (.int .i64 (nth l i.toNat)) w:=
 Xk Tryz.underlying119 Tryz.underlying3 (by kernel_rfl) .i64 l hl i h0 h1 w
theorem vF(a b:List Int)(ha:a.length=32)(hb:b.length=32)(w:World):
  (Op.equalIn 10000 119 (.agg (IV .i64 a)) (.agg (IV .i64 b))).run Tryz.prog w= .ok (decide (a=b)) w:=
 Hc Tryz.underlying119 Tryz.underlying3 (by kernel_rfl) 9998 .i64 a b ha hb w
theorem tC(op:BinOp)(x y:Operand)(xs ys:Array Value)(w:World):(eqGuard op 119 x y (.agg xs) (.agg ys)).run Tryz.prog w= .ok () w:=run_eqGuard_agg w op 119 x y xs ys (by kernel_rfl)
attribute [go_sem ↓ high] vF
attribute [go_sem] tC vO
theorem xN(a b:List Int)(ha:a.length=128)(hb:b.length=128)(w:World):
  (Op.equalIn 10000 47 (.agg (IV .u8 a)) (.agg (IV .u8 b))).run Tryz.prog w= .ok (decide (a=b)) w:=
 Hc Tryz.underlying47 Tryz.underlying5 (by kernel_rfl) 9998 .u8 a b ha hb w
theorem vH(op:BinOp)(x y:Operand)(xs ys:Array Value)(w:World):(eqGuard op 47 x y (.agg xs) (.agg ys)).run Tryz.prog w= .ok () w:=run_eqGuard_agg w op 47 x y xs ys (by kernel_rfl)
attribute [go_sem ↓ high] xN
attribute [go_sem] vH
end Go.Proofs.YtmnecpnkkapflaaGreat
