/- Walks and plain facts for the law on type variables, for all values and types that the heap holds (texts Eb Ec Ed). -/
import Derived.Laws.CopyRow
import Derived.Test.YtfpahmeploondaaGreatDoorR03
import Derived.Test.YtfpahmeploondaaGreatDoorR38
set_option linter.unusedVariables false
set_option linter.unusedSimpArgs false
set_option maxHeartbeats 64000000
open Option renaming none -> G0, some -> G5
open Bool renaming true -> G6, false -> G7
open Array renaming getElem?_setIfInBounds_ne -> JC, getElem?_eq_some_iff -> I6
open List renaming getElem?_eq_some_iff -> I2
open Nat renaming lt_of_lt_of_le -> Ig, le_trans -> G9, le_refl -> G8, beq -> Ib
open Bool renaming and_eq_true -> Ik, rec -> Hj
open Go.Sem renaming run_bind -> It
open Go renaming MapEntry -> IJ
namespace Go.Ev
variable {α β γ:Type}
structure RB where
 r:Nat
 o:Nat
 k:Nat
abbrev Rho:=Nat->Option RB
def Le(p q:Rho):Prop:=∀i x,p i=G5 x->q i=G5 x
theorem Le.refl(p:Rho):Le p p:=fun _ _ h=>h
theorem Le.trans {p q s:Rho}(h:Le p q)(k:Le q s):Le p s:=fun i x e=>k i x (h i x e)
mutual
inductive VR (p:Rho):Value->Value->Prop
 |bad (v:Value):VR p v bad
 |bool (b:Bool):VR p (.bool b) (.bool b)
 |int (k:IntKind) (n:Int):VR p (.int k n) (.int k n)
 |float (k:FloatKind) (n:Nat):VR p (.float k n) (.float k n)
 |complex (k:FloatKind) (m n:Nat):VR p (.complex k m n) (.complex k m n)
 |string (s:ByteArray):VR p (.string s) (.string s)
 |ptr0:VR p (.pointer G0) (.pointer G0)
 |ptr {i off:Nat} {x:RB} (h:p i=G5 x):VR p (.pointer (G5 ⟨x.r,x.o+off,G0⟩)) (.pointer (G5 ⟨i,off,G0⟩))
 |sl0 (n c:Nat):VR p (.slice G0 n c) (.slice G0 n c)
 |sl {i off n c:Nat} {x:RB} (h:p i=G5 x):VR p (.slice (G5 ⟨x.r,x.o+off,G0⟩) n c) (.slice (G5 ⟨i,off,G0⟩) n c)
 |slo {i off n c s:Nat} {x:RB} (h:p i=G5 x):VR p (.slice (G5 ⟨x.r,x.o+off,G0⟩) n (c+x.k)) (.slice (G5 ⟨i,off,G5 s⟩) n c)
 |map0:VR p (.map G0) (.map G0)
 |map {i:Nat} {x:RB} (h:p i=G5 x):VR p (.map (G5 x.r)) (.map (G5 i))
 |func (f:Fn) {a b c d:List Value} (h:VRs p a b) (k:VRs p c d):VR p (.func f ⟨a⟩ ⟨c⟩) (.func f ⟨b⟩ ⟨d⟩)
 |nilFunc:VR p .nilFunc .nilFunc
 |iface (t:TypeId) {v u:Value} (h:VR p v u):VR p (.iface t v) (.iface t u)
 |nilIface:VR p .nilIface .nilIface
 |agg {a b:List Value} (h:VRs p a b):VR p (.agg ⟨a⟩) (.agg ⟨b⟩)
 |tuple {a b:List Value} (h:VRs p a b):VR p (.tuple ⟨a⟩) (.tuple ⟨b⟩)
inductive VRs (p:Rho):List Value->List Value->Prop
 |nil:VRs p [] []
 |cons {v u:Value} {a b:List Value} (h:VR p v u) (k:VRs p a b):VRs p (v::a) (u::b)
end
theorem VR.mono {p q:Rho}(l:Le p q){v u:Value}(h:VR p v u):VR q v u:=by
 induction h using VR.rec (motive_2:=fun a b _=>VRs q a b)with
 |bad v=>exact .bad v
 |bool b=>exact .bool b
 |int k n=>exact .int k n
 |float k n=>exact .float k n
 |complex k m n=>exact .complex k m n
 |string s=>exact .string s
 |ptr0=>exact .ptr0
 |ptr h=>exact .ptr (l _ _ h)
 |sl0 n c=>exact .sl0 n c
 |sl h=>exact .sl (l _ _ h)
 |slo h=>exact .slo (l _ _ h)
 |map0=>exact .map0
 |map h=>exact .map (l _ _ h)
 |func f _ _ ih1 ih2=>exact .func f ih1 ih2
 |nilFunc=>exact .nilFunc
 |iface t _ ih=>exact .iface t ih
 |nilIface=>exact .nilIface
 |agg _ ih=>exact .agg ih
 |tuple _ ih=>exact .tuple ih
 |nil=>exact .nil
 |cons _ _ ih1 ih2=>exact .cons ih1 ih2
section
variable {p q:Rho}
theorem VRs.mono(l:Le p q){a b:List Value}(h:VRs p a b):VRs q a b:=by
 induction b generalizing a with
 |nil=>cases h;exact .nil
 |cons u b ih=>cases h with|cons h k=>exact .cons (h.mono l) (ih k)
theorem VRs.length {a b:List Value}(h:VRs p a b):a.length=b.length:=by
 induction b generalizing a with
 |nil=>cases h;rfl
 |cons u b ih=>cases h with|cons h k=>simp[ih k]
theorem VRs.app {a b c d:List Value}(h:VRs p a b)(k:VRs p c d):VRs p (a++c) (b++d):=by
 induction b generalizing a with
 |nil=>cases h;exact k
 |cons u b ih=>cases h with|cons h k2=>exact .cons h (ih k2)
theorem VRs.take {a b:List Value}(h:VRs p a b)(n:Nat):VRs p (a.take n) (b.take n):=by
 induction n generalizing a b with
 |zero=>simp;exact .nil
 | succ n ih => cases h with
   |nil=>simp;exact .nil
   |cons h k=>simp;exact .cons h (ih k)
theorem VRs.drop {a b:List Value}(h:VRs p a b)(n:Nat):VRs p (a.drop n) (b.drop n):=by
 induction n generalizing a b with
 |zero=>simpa using h
 | succ n ih => cases h with
   |nil=>simp;exact .nil
   |cons h k=>simpa using ih k
theorem VRs.at {a b:List Value}(h:VRs p a b){n:Nat}{u:Value}(e:b[n]? =G5 u):∃v,a[n]? =G5 v/\VR p v u:=by
 induction n generalizing a b with
 | zero => cases h with
   |nil=>simp at e
   |cons h k=>simp at e;subst e;exact⟨_,rfl,h⟩
 | succ n ih => cases h with
   |nil=>simp at e
   |cons h k=>exact ih k (by simpa using e)
theorem VRs.none {a b:List Value}(h:VRs p a b){n:Nat}(e:b[n]? =G0):a[n]? =none:=by
 rw[List.getElem?_eq_none_iff]at e ⊢;rw[h.length];exact e
theorem VRs.join {a b:List Value}(h:VRs p a b):∀n,VRs p (List.replicate n a).flatten (List.replicate n b).flatten
 |0=>.nil
 |n+1=>by simp only[List.replicate_succ,List.flatten_cons];exact h.app (h.join n)
noncomputable def ja(l:List Value):Bool:=l.all eR
theorem flat_agg(l:List Value):eR (.agg ⟨l⟩)=ja l:=by
 induction l with
 |nil=>rfl
 | cons v l ih =>
   show(Hj (motive:=fun _=>Bool) G7 (eR (.agg ⟨l⟩)) (eR v))=(eR v&&ja l)
   cases eR v with
   |false=>rfl
   |true=>exact ih
theorem oH(l:List Value):eR (.tuple ⟨l⟩)=ja l:=flat_agg l
theorem qe(f:Fn)(a b:List Value):eR (.func f ⟨a⟩ ⟨b⟩)=(ja a&&ja b):=by
 show(Hj (motive:=fun _=>Bool) G7 (eR (.agg ⟨b⟩)) (eR (.agg ⟨a⟩)))=_;rw[flat_agg,flat_agg];cases ja a<;>rfl
theorem VR.same {v u:Value}(h:VR p v u):eR u=G6->v=u:=by
 induction h using VR.rec (motive_2:=fun a b _=>ja b=G6->a=b)with
 |bad v=>intro e;cases e
 |bool b=>intro _;rfl
 |int k n=>intro _;rfl
 |float k n=>intro _;rfl
 |complex k m n=>intro _;rfl
 |string s=>intro _;rfl
 |ptr0=>intro _;rfl
 |ptr h=>intro e;cases e
 |sl0 n c=>intro _;rfl
 |sl h=>intro e;cases e
 |slo h=>intro e;cases e
 |map0=>intro _;rfl
 |map h=>intro e;cases e
 | func f _ _ ih1 ih2 =>
   intro e;rw[qe,Ik]at e;rw[ih1 e.1,ih2 e.2]
 |nilFunc=>intro _;rfl
 |iface t _ ih=>intro e;rw[ih e]
 |nilIface=>intro _;rfl
 |agg _ ih=>intro e;rw[flat_agg]at e;rw[ih e]
 |tuple _ ih=>intro e;rw[oH]at e;rw[ih e]
 |nil=>rfl
 | cons _ _ ih1 ih2 =>
   rename_i v u a b _ _ e;have e':(eR u&&ja b)=true:=e;rw[Ik]at e';rw[ih1 e'.1,ih2 e'.2]
theorem VR.of_flat:∀(u:Value),eR u=G6->VR p u u:=by
 intro u;refine Value.rec (motive_1:=fun u=>eR u=G6->VR p u u) (motive_2:=fun a=>ja a.toList=G6->VRs p a.toList a.toList) (motive_3:=fun l=>ja l=G6->VRs p l l)
  (fun b _=>.bool b) (fun k n _=>.int k n) (fun k n _=>.float k n) (fun k m n _=>.complex k m n) (fun s _=>.string s) (fun a h=>?_) (fun a n c h=>?_) (fun m h=>?_) (fun _ h=>by cases h)
  (fun f a b i1 i2 h=>?_) (fun _=>.nilFunc) (fun t v i h=>.iface t (i h)) (fun _=>.nilIface) (fun a i h=>?_) (fun a i h=>?_) (fun l i h=>i h) (fun _=>.nil) (fun v l i1 i2 h=>?_) u
 ·cases a with
  |none=>exact .ptr0
  |some a=>cases h
 ·cases a with
  |none=>exact .sl0 n c
  |some a=>cases h
 ·cases m with
  |none=>exact .map0
  |some m=>cases h
 ·obtain⟨a⟩:=a;obtain⟨b⟩:=b;rw[qe,Ik]at h;exact .func f (i1 h.1) (i2 h.2)
 ·obtain⟨a⟩:=a;rw[flat_agg]at h;exact .agg (i h)
 ·obtain⟨a⟩:=a;rw[oH]at h;exact .tuple (i h)
 ·have e:(eR v&&ja l)=true:=h;rw[Ik]at e;exact .cons (i1 e.1) (i2 e.2)
theorem VR.cst(v:Value):VR p v (cst v):=by
 unfold Ev.cst;cases h:eR v with
 |false=>exact .bad v
 |true=>exact .of_flat v h
noncomputable def xh(f k:Nat):List Bool:=Nat.rec (motive:=fun _=>Nat->List Bool) (fun _=>[]) (fun _ ih k=>Hj ((Ib (Nat.mod k 2) 1)::ih (Nat.div k 2)) [] (Ib k 0)) f k
def valP:List Bool->Nat
 |[]=>0
 |b::r=>2*valP r+(if b then 1 else 0)
theorem lS:∀f k,k<=f->valP (xh f k)=k
 | 0, k, h => by
   have:k=0:=by omega
   subst this;rfl
 | f + 1, k, h => by
   have e:xh (f+1) k=Hj (motive:=fun _=>List Bool) ((Ib (Nat.mod k 2) 1)::xh f (Nat.div k 2)) [] (Ib k 0):=rfl;rw[e];cases hk:Ib k 0 with
   |true=>rw[Nat.beq_eq]at hk;subst hk;rfl
   | false =>
     have h0:k≠0:=fun h0=>by subst h0;cases hk
     show valP ((Ib (k%2) 1)::xh f (k/2))=k;rw[valP,lS f (k/2) (by omega)];have h2:Ib (k%2) 1=decide (k%2=1):=by
      rw[Bool.eq_iff_iff,Nat.beq_eq];simp
     rw[h2];by_cases h3:k%2=1
     ·simp[h3];omega
     ·simp[h3];omega
theorem A4 {i j:Nat}(h:yM i=yM j):i=j:=by
 rw[<-lS i i (G8 _),<-lS j j (G8 _)];exact congrArg valP h
theorem gX(d:α)(q:List Bool):(T.nil:T α).getP d q=d:=by cases q<;>rfl
theorem tK(d a:α):∀(p q:List Bool) (t:T α),(t.setP d a p).getP d q=if p=q then a else t.getP d q
 |[],[],t=>by cases t<;>rfl
 |[],c::q,t=>by cases t<;>cases c<;>simp<;>(first|rfl|exact gX d q)
 |b::p,[],t=>by cases t<;>cases b<;>rfl
 | b :: p, c :: q, t => by
   have ih:=tK d a p q;cases t with
   | nil =>
     have hn:=ih .nil;cases b<;>cases c
     ·show(T.setP d a p .nil).getP d q=_;rw[hn,gX];simp;rfl
     ·show(T.nil:T α).getP d q=_;rw[gX];simp;rfl
     ·show(T.nil:T α).getP d q=_;rw[gX];simp;rfl
     ·show(T.setP d a p .nil).getP d q=_;rw[hn,gX];simp;rfl
   | node l v r =>
     cases b<;>cases c
     ·show(T.setP d a p r).getP d q=_;rw[ih];simp;rfl
     ·show l.getP d q=_;simp;rfl
     ·show r.getP d q=_;simp;rfl
     ·show(T.setP d a p l).getP d q=_;rw[ih];simp;rfl
theorem T.get_set(d a:α)(t:T α)(i j:Nat):(t.set d i a).get d j=if i=j then a else t.get d j:=by
 unfold T.get T.set;rw[tK];by_cases h:i=j
 ·subst h;simp
 ·have h2:yM i≠yM j:=fun e=>h (A4 e)
  simp[h,h2]
theorem T.get_nil(d:α)(k:Nat):(T.nil:T α).get d k=d:=gX d _
end
end Go.Ev
namespace Go.Ev
variable {α β γ:Type} {p q:Rho}
structure ER(p:Rho)(e f:IJ):Prop where
 key:VR p e.key f.key
 val:VR p e.val f.val
 born:e.born=f.born
inductive ERs (p:Rho):List IJ->List IJ->Prop
 |nil:ERs p [] []
 |cons {e f:IJ} {a b:List IJ} (h:ER p e f) (k:ERs p a b):ERs p (e::a) (f::b)
theorem ER.mono(l:Le p q){e f:IJ}(h:ER p e f):ER q e f:=⟨h.key.mono l,h.val.mono l,h.born⟩
theorem ERs.mono(l:Le p q){a b:List IJ}(h:ERs p a b):ERs q a b:=by
 induction h with
 |nil=>exact .nil
 |cons h _ ih=>exact .cons (h.mono l) ih
theorem ERs.length {a b:List IJ}(h:ERs p a b):a.length=b.length:=by
 induction h with
 |nil=>rfl
 |cons _ _ ih=>simp[ih]
theorem ERs.snoc {a b:List IJ}{e f:IJ}(h:ERs p a b)(k:ER p e f):ERs p (a++[e]) (b++[f]):=by
 induction h with
 |nil=>exact .cons k .nil
 |cons h _ ih=>exact .cons h ih
def BR(p:Rho)(x:RB):Blk->Obj->Prop
 | .cells vs e es fz,o=>∃pre l post f,o=.cells ⟨pre++(l++post)⟩ e f/\pre.length=x.o/\VRs p l vs/\post.length=x.k*es/\(fz=G7->f=(0,0))/\x.o=0
 | .map es c,o=>∃l,o=.map ⟨l⟩ c/\ERs p l es
 | .iter m,o=>∃m' s t,o=.mapIter m' s #[] t/\VR p (.map m') (.map m)/\x.o=0
theorem BR.mono(l:Le p q){x:RB}{b:Blk}{o:Obj}(h:BR p x b o):BR q x b o:=by
 cases b with
 |cells vs e es fz=>obtain⟨a,c,d,f,e1,e2,e3,e4,e5⟩:=h;exact⟨a,c,d,f,e1,e2,e3.mono l,e4,e5⟩
 |map es c=>obtain⟨a,e1,e2⟩:=h;exact⟨a,e1,e2.mono l⟩
 |iter m=>obtain⟨a,b,c,e1,e2,e3⟩:=h;exact⟨a,b,c,e1,e2.mono l,e3⟩
structure HR(p:Rho)(h:H)(hp:Array Obj):Prop where
 fresh:∀i,h.n<=i->p i=G0
 live:∀i b,h.get i=G5 b->∃x o,p i=G5 x/\hp[x.r]? =G5 o/\BR p x b o
 inj:∀i j b c x y,h.get i=G5 b->h.get j=G5 c->p i=G5 x->p j=G5 y->x.r=y.r->i=j
def Off(p:Rho)(h:H)(b:Nat):Prop:=∀i c x,h.get i=G5 c->p i=G5 x->x.r≠b
structure Ext(p:Rho)(h:H)(w:World)(q:Rho)(g:H)(v:World):Prop where
 le:Le p q
 os:v.os=w.os
 tape:v.tape=w.tape
 output:v.output=w.output
 size:w.heap.size<=v.heap.size
 old:∀b,b<w.heap.size->Off p h b->v.heap[b]? =w.heap[b]?
 off:∀b,b<w.heap.size->Off p h b->Off q g b
 n:h.n<=g.n
 keep:∀i,i<h.n->q i=p i
theorem Ext.refl(p:Rho)(h:H)(w:World):Ext p h w p h w:=⟨Le.refl p,rfl,rfl,rfl,G8 _,fun _ _ _=>rfl,fun _ _ k=>k,G8 _,fun _ _=>rfl⟩
theorem Ext.trans {p q s:Rho}{h g f:H}{w v u:World}(a:Ext p h w q g v)(b:Ext q g v s f u):Ext p h w s f u:=
 ⟨a.le.trans b.le, b.os.trans a.os, b.tape.trans a.tape, b.output.trans a.output, G9 a.size b.size,
   fun i hi k=>(b.old i (Ig hi a.size) (a.off i hi k)).trans (a.old i hi k),fun i hi k=>b.off i (Ig hi a.size) (a.off i hi k),G9 a.n b.n,fun i hi=>(b.keep i (Ig hi a.n)).trans (a.keep i hi)⟩
theorem H.get_put(h:H)(i j:Nat)(b:Blk):(h.put i b).get j=if i=j then G5 b else h.get j:=T.get_set _ _ _ _ _
theorem H.get_del(h:H)(i j:Nat):(h.del i).get j=if i=j then G0 else h.get j:=T.get_set _ _ _ _ _
theorem H.get_new(h:H)(j:Nat)(b:Blk):(h.new b).get j=if h.n=j then G5 b else h.get j:=T.get_set _ _ _ _ _
theorem H.n_del(h:H)(i:Nat):(h.del i).n=h.n:=rfl
theorem H.n_new(h:H)(b:Blk):(h.new b).n=h.n+1:=rfl
def Rho.set(p:Rho)(i:Nat)(x:RB):Rho:=fun j=>if j=i then G5 x else p j
theorem j7 {i:Nat}(x:RB)(h:p i=G0):Le p (p.set i x):=by
 intro j y e;unfold Rho.set;split
 ·rename_i k;subst k;rw[h]at e;cases e
 ·exact e
theorem tL {p:Rho}{n:Nat}(x:RB)(i:Nat)(h:i<n):p.set n x i=p i:=if_neg (by omega)
theorem eS(p:Rho)(i:Nat)(x:RB):p.set i x i=G5 x:=by simp[Rho.set]
theorem HR.lt {h:H}{hp:Array Obj}(H':HR p h hp){i:Nat}{b:Blk}(e:h.get i=G5 b):i<h.n:=by
 obtain⟨x,o,e1,_⟩:=H'.live i b e;exact Decidable.byContradiction fun k=>by rw[H'.fresh i (by omega)]at e1;cases e1
theorem HR.new {h:H}{hp:Array Obj}(H':HR p h hp){b:Blk}{o:Obj}{k:Nat}(hb:BR (p.set h.n ⟨hp.size,0,k⟩) ⟨hp.size,0,k⟩ b o):HR (p.set h.n ⟨hp.size,0,k⟩) (h.new b) (hp.push o):=by
 have hn:=H'.fresh h.n (G8 _);have hle:=j7 ⟨hp.size,0,k⟩ hn;have hlt:∀i c x,h.get i=G5 c->p i=G5 x->x.r<hp.size:=fun i c x e e1=>by
  obtain⟨y,o,e2,e3,_⟩:=H'.live i c e;rw[e1]at e2;cases e2;exact(I6.1 e3).1
 have hset:∀i c x,h.get i=G5 c->(p.set h.n ⟨hp.size,0,k⟩) i=G5 x->p i=G5 x:=fun i c x e e1=>by
  unfold Rho.set at e1;split at e1
  ·rename_i k;exact absurd (H'.lt e) (by omega)
  ·exact e1
 refine⟨fun i hi=>?_,fun i c e=>?_,fun i j c d x y e f e1 f1 hr=>?_⟩
 ·rw[H.n_new]at hi;unfold Rho.set;rw[if_neg (by omega)];exact H'.fresh i (by omega)
 ·rw[H.get_new]at e;split at e
  ·rename_i k;subst k;cases e;exact⟨_,o,eS _ _ _,by simp,hb⟩
  ·obtain⟨x,o',e1,e2,e3⟩:=H'.live i c e;exact⟨x,o',hle _ _ e1,by rw[Array.getElem?_push_lt (hlt i c x e e1)];rw[<-e2];simp[hlt i c x e e1],e3.mono hle⟩
 ·rw[H.get_new]at e f;split at e
  ·rename_i k1;subst k1;rw[eS]at e1;cases e1;split at f
   ·assumption
   ·have:=hlt j d y f (hset j d y f f1);simp at hr;omega
  ·split at f
   ·rename_i k1;subst k1;rw[eS]at f1;cases f1;have:=hlt i c x e (hset i c x e e1);simp at hr;omega
   ·exact H'.inj i j c d x y e f (hset i c x e e1) (hset j d y f f1) hr
theorem HR.put {h:H}{hp:Array Obj}(H':HR p h hp){i:Nat}{b0 b:Blk}{x:RB}{o:Obj}(hi:h.get i=G5 b0)(hx:p i=G5 x)(hb:BR p x b o):HR p (h.put i b) (hp.setIfInBounds x.r o):=by
 refine⟨H'.fresh,fun j c e=>?_,fun j l c d y z e f e1 f1 hr=>?_⟩
 ·rw[H.get_put]at e;split at e
  ·rename_i k;subst k;cases e;obtain⟨y,o',e1,e2,_⟩:=H'.live i b0 hi;rw[hx]at e1;cases e1;have hlt:=(I6.1 e2).1;exact⟨x,o,hx,by simp[hlt],hb⟩
  ·rename_i hne;obtain⟨y,o',e1,e2,e3⟩:=H'.live j c e;have hr:x.r≠y.r:=fun hr=>hne (H'.inj i j b0 c x y hi e hx e1 hr)
   exact⟨y,o',e1,by rw[JC hr];exact e2,e3⟩
 ·have key:∀j c,(h.put i b).get j=G5 c->∃c',h.get j=G5 c':=fun j c e=>by
   rw[H.get_put]at e;split at e
   ·rename_i k;subst k;exact⟨_,hi⟩
   ·exact⟨_,e⟩
  obtain⟨c',e'⟩:=key j c e;obtain⟨d',f'⟩:=key l d f;exact H'.inj j l c' d' y z e' f' e1 f1 hr
theorem HR.del {h:H}{hp:Array Obj}(H':HR p h hp)(i:Nat):HR p (h.del i) hp:=by
 have key:∀j c,(h.del i).get j=G5 c->h.get j=G5 c:=fun j c e=>by
  rw[H.get_del]at e;split at e
  ·cases e
  ·exact e
 exact⟨H'.fresh,fun j c e=>H'.live j c (key j c e),fun j l c d y z e f=>H'.inj j l c d y z (key j c e) (key l d f)⟩
theorem HR.move {h:H}{hp:Array Obj}(H':HR p h hp){i:Nat}{b0 b:Blk}{x y:RB}{o:Obj}(hi:h.get i=G5 b0)(hx:p i=G5 x)(hr:y.r=x.r)(hb:BR (p.set h.n y) y b o):
 HR (p.set h.n y) ((h.del i).new b) (hp.setIfInBounds x.r o):=by
 have hn:=H'.fresh h.n (G8 _);have hle:=j7 y hn;obtain⟨x',o',e1',e2',_⟩:=H'.live i b0 hi;rw[hx]at e1';cases e1';have hlt:=(I6.1 e2').1;have hget:∀j c,((h.del i).new b).get j=G5 c->(j=h.n/\c=b)\/(j≠h.n/\j≠i/\h.get j=G5 c):=fun j c e=>by
  rw[H.get_new]at e;split at e
  ·rename_i k;cases e;exact .inl ⟨k.symm,rfl⟩
  ·rename_i k;rw[H.get_del]at e;split at e
   ·cases e
   ·rename_i k2;exact .inr ⟨fun e=>k e.symm,fun e=>k2 e.symm,e⟩
 have hset:∀j z,j≠h.n->(p.set h.n y) j=G5 z->p j=G5 z:=fun j z k e=>by unfold Rho.set at e;rwa[if_neg k]at e
 refine⟨fun j hj=>?_,fun j c e=>?_,fun j l c d z z' e f e1 f1 hz=>?_⟩
 ·rw[H.n_new,H.n_del]at hj;unfold Rho.set;rw[if_neg (by omega)];exact H'.fresh j (by omega)
 ·rcases hget j c e with⟨rfl,rfl⟩|⟨k1,k2,e⟩
  ·exact⟨y,o,eS _ _ _,by rw[hr];simp[hlt],hb⟩
  ·obtain⟨z,o2,e1,e2,e3⟩:=H'.live j c e;have hne:x.r≠z.r:=fun hz=>k2 (H'.inj j i c b0 z x e hi e1 hx hz.symm)
   exact⟨z,o2,hle _ _ e1,by rw[JC hne];exact e2,e3.mono hle⟩
 ·rcases hget j c e with⟨rfl,rfl⟩|⟨k1,k2,e2⟩<;>rcases hget l d f with⟨rfl,rfl⟩|⟨m1,m2,f2⟩
  ·rfl
  ·rw[eS]at e1;cases e1;exact absurd (H'.inj l i d b0 z' x f2 hi (hset l z' m1 f1) hx (by rw[<-hz,hr])) m2
  ·rw[eS]at f1;cases f1;exact absurd (H'.inj j i c b0 z x e2 hi (hset j z k1 e1) hx (by rw[hz,hr])) k2
  ·exact H'.inj j l c d z z' e2 f2 (hset j z k1 e1) (hset l z' m1 f1) hz
end Go.Ev
namespace Go.Ev
variable {α β γ:Type} {p q:Rho}
theorem R.b_ok {x:R β}{f:β->R γ}{y:γ}(h:R.b x f=.ok y):∃a,x=.ok a/\f a=.ok y:=by
 cases x with
 |error e=>cases h
 |ok a=>exact⟨a,rfl,h⟩
theorem bF {o:Option β}{x:β}(h:GG o=.ok x):o=G5 x:=by
 cases o with
 |none=>cases h
 |some a=>cases h;rfl
theorem aT {b:Bool}{x:R β}{y:β}(h:bp b x=.ok y):b=G6/\x=.ok y:=by
 cases b with
 |false=>cases h
 |true=>exact⟨rfl,h⟩
theorem A5 {x:R VH}{f:Value->H->R γ}{y:γ}(h:vh x f=.ok y):∃v g,x=.ok (.mk v g)/\f v g=.ok y:=by
 cases x with
 |error e=>cases h
 |ok a=>cases a with|mk v g=>exact⟨v,g,rfl,h⟩
theorem gx {h:H}{x:R Value}{v:Value}{g:H}(e:same h x=.ok (.mk v g)):x=.ok v/\g=h:=by
 obtain⟨u,e1,e2⟩:=R.b_ok e;cases e2;exact⟨e1,rfl⟩
theorem bP {v u:Value}{h g:H}(e:ret v h=.ok (.mk u g)):v=u/\h=g:=by cases e;exact⟨rfl,rfl⟩
theorem lT {v:Value}{b:Bool}(h:iG v=.ok b):v=.bool b:=by cases v<;>cases h;rfl
theorem gY {v:Value}{x:IK}(h:kW v=.ok x):v=.int x.k x.n:=by cases v<;>cases h;rfl
theorem ft {v:Value}{a:Addr}(h:kX v=.ok a):v=.pointer (G5 a):=by
 cases v with
 |pointer b=>rw[bF (show GG b=.ok a from h)]
 |_=>cases h
theorem fM {v:Value}{s:SL}(h:fJ v=G5 s):v=.slice s.a s.len s.cap:=by cases v<;>cases h;rfl
theorem oI {v:Value}{m:Option Nat}(h:kY v=G5 m):v=.map m:=by cases v<;>cases h;rfl
theorem A6 {v:Value}{s:ByteArray}(h:xd v=G5 s):v=.string s:=by cases v<;>cases h;rfl
theorem Dg {v:Value}{x:FV}(h:FW v=.ok x):v=.func x.fn x.first x.cap:=by cases v<;>cases h;rfl
theorem jx(v:Value):eX v=v.cells.toList:=by cases v<;>rfl
theorem Dh {b:Blk}{r:Row}(h:E4 b=G5 r):b=.cells r.vs r.e r.es r.fz:=by cases b<;>cases h;rfl
theorem gb {h:H}{i:Nat}{r:Row}(e:h.row i=.ok r):h.get i=G5 (.cells r.vs r.e r.es r.fz):=by
 have e:=bF e;cases hb:h.get i with
 |none=>rw[hb]at e;cases e
 |some b=>rw[hb]at e;rw[Dh (show E4 b=G5 r from e)]
theorem Di {b:Blk}{r:lQ}(h:E5 b=G5 r):b=.map r.es r.c:=by cases b<;>cases h;rfl
theorem lg {h:H}{i:Nat}{r:lQ}(e:h.mapR i=.ok r):h.get i=G5 (.map r.es r.c):=by
 have e:=bF e;cases hb:h.get i with
 |none=>rw[hb]at e;cases e
 |some b=>rw[hb]at e;rw[Di (show E5 b=G5 r from e)]
theorem ry:∀(n:Nat) (l:List Value),take n l=l.take n
 |0,l=>by simp;rfl
 |n+1,[]=>rfl
 |n+1,x::r=>by rw[List.take_succ_cons,<-ry n r];rfl
theorem mP:∀(n:Nat) (l:List Value),drop n l=l.drop n
 |0,l=>by simp;rfl
 |n+1,[]=>rfl
 |n+1,x::r=>by rw[List.drop_succ_cons,<-mP n r];rfl
theorem lU(x y:List Value):app x y=x++y:=by
 induction x with
 |nil=>rfl
 |cons a x ih=>rw[List.cons_append,<-ih];rfl
theorem gc(x:List Value):len x=x.length:=by
 induction x with
 |nil=>rfl
 |cons a x ih=>rw[List.length_cons,<-ih];rfl
theorem vD {l:List Value}{n:Nat}{v:Value}(h:nth l n=.ok v):l[n]? =G5 v:=by
 unfold nth at h;rw[mP]at h;have e:l[n]? =(l.drop n)[0]? :=by simp
 rw[e];cases hd:l.drop n with
 |nil=>rw[hd]at h;cases h
 |cons x r=>rw[hd]at h;cases h;rfl
theorem lV {vs l:List Value}{off n:Nat}(h:cut vs off n=.ok l):off+n<=vs.length/\l=(vs.drop off).take n:=by
 obtain⟨e1,e2⟩:=aT h;rw[gc]at e1;have e1:off+n<=vs.length:=Nat.le_of_ble_eq_true e1;cases e2;exact⟨e1,by rw[ry,mP]⟩
theorem qf(vs new:List Value)(off:Nat):splice vs new off=vs.take off++(new++vs.drop (off+new.length)):=by
 unfold splice;rw[lU,lU,ry,mP,gc];rfl
theorem mQ {a:Addr}{f:Nat->Nat->R γ}{y:γ}(h:cell a f=.ok y):∃i off,a=⟨i,off,G0⟩/\f i off=.ok y:=by
 obtain⟨i,off,sp⟩:=a;cases sp with
 |some s=>cases h
 |none=>exact⟨i,off,rfl,h⟩
theorem Dj {v u:Value}(h:VR p v u)(e:AE u=G6):v.oneCell'=true:=by
 cases h<;>first|rfl|cases e
theorem xi {a b:List Value}(h:VRs p a b)(e:ou b=G6):∀v∈a,v.oneCell'=true:=by
 induction b generalizing a with
 |nil=>cases h;simp
 | cons u b ih =>
   cases h with|cons h k=>
   have e':(Hj (motive:=fun _=>Bool) G7 (ou b) (AE u))=true:=e;cases hu:AE u with
   |false=>rw[hu]at e';cases e'
   | true =>
     rw[hu]at e';intro v hv;rcases List.mem_cons.1 hv with rfl|hv
     ·exact Dj h hu
     ·exact ih k e' v hv
variable {P:Program}
theorem HR.row {h:H}{hp:Array Obj}(H':HR p h hp){i:Nat}{r:Row}(e:h.row i=.ok r):∃x pre l post f,p i=G5 x/\hp[x.r]? =G5 (.cells ⟨pre++(l++post)⟩ r.e f)/\pre.length=x.o/\VRs p l r.vs/\post.length=x.k*r.es/\(r.fz=G7->f=(0,0))/\x.o=0:=by
 obtain⟨x,o,e1,e2,e3⟩:=H'.live i _ (gb e);obtain⟨pre,l,post,f,rfl,e4⟩:=e3;exact⟨x,pre,l,post,f,e1,e2,e4⟩
theorem cell_at {w:World}{b o off:Nat}{pre l post:List Value}{e:TypeId}{f:Nat×Nat}(h:w.heap[b]? =G5 (.cells ⟨pre++(l++post)⟩ e f))(ho:pre.length=o){v:Value}(hv:l[off]? =G5 v):w.cell? ⟨b,o+off,G0⟩=G5 v:=by
 subst ho;have hlt:off<l.length:=(I2.1 hv).1;simp only[World.cell?,h,Option.isSome_none,Bool.false_eq_true,if_false,List.getElem?_toArray];rw[List.getElem?_append_right (by omega),Nat.add_sub_cancel_left,List.getElem?_append_left hlt,hv]
theorem rz(b o j:Nat):(⟨b,o,G0⟩:Addr).add j=⟨b,o+j,G0⟩:=by
 unfold Addr.add;split<;>simp_all
theorem A8 {t:TypeId}{b:Bool}(h:GJ P t=G5 b)(w:World):(Go.isAgg t).run P w=.ok b w:=by
 unfold GJ at h;cases hd:P.underlying t with
 |none=>rw[hd]at h;cases h
 | some d =>
   rw[hd]at h;cases h;unfold Go.isAgg;rw[It,run_underlying hd];cases d<;>rfl
theorem oJ {h:H}{w:World}(H':HR p h w.heap){t:TypeId}{v u r:Value}(hv:VR p v u)(e:gU P h t u=.ok r):
 ∃s,(Instr.loadAt t v).run P w=.ok s w/\VR p s r:=by
 obtain⟨a,e1,e⟩:=R.b_ok e;obtain⟨i,off,rfl,e⟩:=mQ e;obtain⟨rw',e2,e⟩:=R.b_ok e;obtain⟨bg,hg,e⟩:=R.b_ok e;rw[ft e1]at hv;cases hv with|ptr hx=>
 rename_i x;obtain⟨x',pre,l,post,f,e3,e4,e5,e6,_,_⟩:=H'.row e2;rw[hx]at e3;cases e3;have ha:=A8 (P:=P) (bF hg) w;have hs:Instr.sureAddr (.pointer (G5 ⟨x.r,x.o+off,G0⟩))=pure ⟨x.r,x.o+off,G0⟩:=rfl;unfold Instr.loadAt loadVar;rw[hs];simp only[It,Sem.run_pure,Result.andThen_ok,ha];cases bg with
 | false =>
   obtain⟨s,e7,e8⟩:=e6.at (vD (show nth rw'.vs off=.ok r from e));refine⟨s,?_,e8⟩;have hc:=cell_at (w:=w) e4 e5 e7;simp[hc]
 | true =>
   have e:R.b (GG (GH P t)) (fun n=>R.b (cut rw'.vs off n) fun l=>.ok (.agg l.toArray))=.ok r:=e;obtain⟨n,e7,e⟩:=R.b_ok e;obtain⟨l',e8,e⟩:=R.b_ok e;cases e;obtain⟨e9,rfl⟩:=lV e8;have hk:=(e6.drop off).take n;refine⟨.agg ⟨(l.drop off).take n⟩,?_,.agg hk⟩;have hlen:((l.drop off).take n).length=n:=by rw[List.length_take,List.length_drop,e6.length];omega
   have hl:=run_loadCells_list (P:=P) w ⟨x.r,x.o+off,G0⟩ ((l.drop off).take n) (fun j u hj=>by
    rw[rz,Nat.add_assoc];refine cell_at (w:=w) e4 e5 ?_;have hjn:j<n:=by have:=(I2.1 hj).1;omega
    rw[List.getElem?_take_of_lt hjn,List.getElem?_drop]at hj;exact hj)
   rw[hlen]at hl;have hi:=bF e7;unfold GH at hi;cases hq:P.info? t with
   |none=>rw[hq]at hi;cases hi
   | some inf =>
     rw[hq]at hi;have hi:inf.size=n:=by cases hi;rfl
     simp[sizeOf,typeInfo,hq,hi,hl]
end Go.Ev
