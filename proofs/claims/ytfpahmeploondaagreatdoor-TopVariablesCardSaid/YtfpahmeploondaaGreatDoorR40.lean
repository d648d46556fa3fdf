/- Walks and plain facts for the law on type variables, for all values and types that the heap holds (texts Ee Ef Eg Eh Ei). -/
import Derived.Great.BuildSlice
import Derived.Laws.MakeOwn
import Derived.Test.YtfpahmeploondaaGreatDoorR03
import Derived.Test.YtfpahmeploondaaGreatDoorR39
set_option linter.unusedVariables false
set_option linter.unusedSimpArgs false
set_option maxHeartbeats 64000000
open Option renaming none -> G0, some -> G5
open Bool renaming true -> G6, false -> G7
open Array renaming getElem?_setIfInBounds_ne -> JC
open List renaming getElem?_append_right -> JJ, getElem?_append_left -> JL
open Go renaming run_underlying -> IM, undef -> If, Program -> Ia, Operand -> Ie
open Nat renaming add_zero -> Im, le_refl -> G8
open Go.Sem renaming run_bind -> It
open Go.Next renaming value -> IU
open Bool renaming rec -> Hj
namespace Go.Ev
variable {α β γ:Type} {p q:Rho} {P:Ia}
theorem qg {w:World}{g:Nat}{cur c:Array Value}{e:TypeId}{f:Nat×Nat}(h:w.heap[g]? =G5 (.cells cur e f)):w.setRow g c={w with heap:=w.heap.setIfInBounds g (.cells c e f)}:=by
 unfold World.setRow;congr 1;apply Array.ext_getElem?;intro i;rw[Array.getElem?_modify];by_cases hi:g=i
 ·subst hi;have hlt:=(Array.getElem?_eq_some_iff.1 h).1;rw[if_pos rfl,h];simp[hlt]
 ·rw[if_neg hi,JC hi]
theorem Ext.set {h:H}{w:World}(H':HR p h w.heap){i:Nat}{b0:Blk}{x:RB}{o:Obj}(hi:h.get i=G5 b0)(hx:p i=G5 x)(b:Blk):Ext p h w p (h.put i b) {w with heap:=w.heap.setIfInBounds x.r o}:=by
 refine⟨Le.refl p,rfl,rfl,rfl,by simp,fun j _ k=>?_,fun j _ k l c y e e1=>?_,G8 _,fun _ _=>rfl⟩
 ·exact JC (k i b0 x hi hx)
 ·rw[H.get_put]at e;split at e
  ·rename_i k2;subst k2;rw[hx]at e1;cases e1;exact k i b0 x hi hx
  ·exact k l c y e e1
theorem Ext.push {h:H}{w:World}(H':HR p h w.heap)(b:Blk)(o:Obj)(k:Nat)(n:Nat):Ext p h w (p.set h.n ⟨w.heap.size,0,k⟩) (h.new b) {w with heap:=w.heap.push o,drawn:=n}:=by
 refine⟨j7 _ (H'.fresh _ (G8 _)),rfl,rfl,rfl,by simp,fun j hj _=>?_,fun j hj k2 l c y e e1=>?_,Nat.le_succ _,tL _⟩
 ·exact Array.getElem?_push_lt hj|>.trans (by simp[hj])
 ·rw[H.get_new]at e;split at e
  ·rename_i k3;subst k3;rw[eS]at e1;cases e1;show w.heap.size≠j;omega
  ·unfold Rho.set at e1;split at e1
   ·rename_i k4;subst k4;exact absurd (H'.lt e) (by omega)
   ·exact k2 l c y e e1
theorem VR.cells {v u:Value}(h:VR p v u)(e:ou (eX u)=G6):VRs p v.cells.toList (eX u):=by
 cases h with
 |bad v=>cases e
 |agg h=>exact h
 |tuple h=>cases e
 |bool b=>exact .cons (.bool b) .nil
 |int k n=>exact .cons (.int k n) .nil
 |float k n=>exact .cons (.float k n) .nil
 |complex k m n=>exact .cons (.complex k m n) .nil
 |string s=>exact .cons (.string s) .nil
 |ptr0=>exact .cons .ptr0 .nil
 |ptr h=>exact .cons (.ptr h) .nil
 |sl0 n c=>exact .cons (.sl0 n c) .nil
 |sl h=>exact .cons (.sl h) .nil
 |slo h=>exact .cons (.slo h) .nil
 |map0=>exact .cons .map0 .nil
 |map h=>exact .cons (.map h) .nil
 |func f h k=>exact .cons (.func f h k) .nil
 |nilFunc=>exact .cons .nilFunc .nil
 |iface t h=>exact .cons (.iface t h) .nil
 |nilIface=>exact .cons .nilIface .nil
theorem VRs.splice {a b c d:List Value}(h:VRs p a b)(k:VRs p c d)(off:Nat):VRs p (a.take off++(c++a.drop (off+c.length))) (b.take off++(d++b.drop (off+d.length))):=by
 rw[k.length];exact(h.take off).app (k.app (h.drop _))
theorem vE {pre l post c:List Value}{off:Nat}(h:off+c.length<=l.length):
 (pre++(l++post)).take (pre.length+off)++c++(pre++(l++post)).drop (pre.length+off+c.length)=pre++((l.take off++(c++l.drop (off+c.length)))++post):=by
 rw[List.take_append,List.drop_append];rw[List.take_of_length_le (show pre.length<=pre.length+off by omega),List.drop_eq_nil_of_le (show pre.length<=pre.length+off+c.length by omega)];rw[show pre.length+off-pre.length=off by omega,show pre.length+off+c.length-pre.length=off+c.length by omega];rw[List.take_append_of_le_length (by omega),List.drop_append_of_le_length h];simp
theorem qh {h:H}{w:World}(H':HR p h w.heap){i off:Nat}{r:Row}(e2:h.row i=.ok r){x:RB}(hx:p i=G5 x){c d:List Value}(k:VRs p c d)(ho:ou d=G6)(hf:r.fz=G7)(hl:off+d.length<=r.vs.length):
 ∃w',(storeCells ⟨x.r,x.o+off,G0⟩ c).run P w=.ok () w'/\Ext p h w p (h.put i (.cells (splice r.vs d off) r.e r.es G7)) w'/\HR p (h.put i (.cells (splice r.vs d off) r.e r.es G7)) w'.heap:=by
 obtain⟨x',pre,l,post,f,e3,e4,e5,e6,e7,e8,hoff⟩:=H'.row e2;rw[hx]at e3;cases e3;have e8:=e8 hf;subst e8;have hc:=k.length;have hlen:=e6.length;have hst:=run_storeCells_at P x.r (x.o+off) r.e c 0 ⟨pre++(l++post)⟩ w e4 (by simp;omega) (xi k ho);have hs:(pre++(l++post)).take (x.o+off)++c++(pre++(l++post)).drop (x.o+off+c.length)=pre++((l.take off++(c++l.drop (off+c.length)))++post):=by
  rw[<-e5];exact vE (by omega)
 simp only[Im]at hst;rw[hs,qg e4]at hst;refine⟨_,hst,Ext.set H' (gb e2) hx _,HR.put H' (gb e2) hx ?_⟩;refine⟨pre,_,post,(0,0),rfl,e5,?_,e7,fun _=>rfl,hoff⟩;rw[qf];exact e6.splice k off
theorem tM {h g:H}{w:World}(H':HR p h w.heap){t:TypeId}{v1 u1 v2 u2 r:Value}(h1:VR p v1 u1)(h2:VR p v2 u2)(e:AF P h t u1 u2=.ok (.mk r g)):
 r=undef/\∃w',(Instr.storeAt t v1 v2).run P w=.ok () w'/\Ext p h w p g w'/\HR p g w'.heap:=by
 obtain⟨a,e1,e⟩:=R.b_ok e;obtain⟨i,off,rfl,e⟩:=mQ e;obtain⟨r',e2,e⟩:=R.b_ok e;obtain⟨n,e3,e⟩:=R.b_ok e;obtain⟨e4,e⟩:=aT e;obtain⟨e5,e⟩:=aT e;obtain⟨e6,e⟩:=aT e;rw[ft e1]at h1;cases h1 with|ptr hx=>
 rename_i x;have e4:n=(eX u2).length:=by rw[<-gc];exact Nat.eq_of_beq_eq_true e4
 have e5:off+n<=r'.vs.length:=by rw[<-gc];exact Nat.le_of_ble_eq_true e5
 cases hf:r'.fz with
 |true=>rw[hf]at e;cases e
 | false =>
   rw[hf]at e;obtain⟨rfl,rfl⟩:=bP e;refine⟨rfl,?_⟩;have hk:=h2.cells e6;obtain⟨w',e7,e8,e9⟩:=qh (P:=P) H' e2 hx hk e6 hf (off:=off) (by omega);refine⟨w',?_,e8,e9⟩;have hi:=bF e3;unfold GH at hi;cases hq:P.info? t with
   |none=>rw[hq]at hi;cases hi
   | some inf =>
     rw[hq]at hi;have hi:inf.size=n:=by cases hi;rfl
     have hsz:v2.cells.size=inf.size:=by rw[hi,e4,<-hk.length];simp
     have hs:Instr.sureAddr (.pointer (G5 ⟨x.r,x.o+off,G0⟩))=pure ⟨x.r,x.o+off,G0⟩:=rfl;unfold Instr.storeAt storeVar;rw[hs];simp[sizeOf,typeInfo,hq,hsz,e7]
theorem lW {h:H}{w:World}(H':HR p h w.heap)(e:TypeId){c d post:List Value}(k:VRs p c d){es kk:Nat}(hp:post.length=kk*es)(n:Nat):
 Ext p h w (p.set h.n ⟨w.heap.size,0,kk⟩) (h.new (.cells d e es G7)) {w with heap:=w.heap.push (.cells ⟨c++post⟩ e (0,0)),drawn:=n}/\HR (p.set h.n ⟨w.heap.size,0,kk⟩) (h.new (.cells d e es G7)) (w.heap.push (.cells ⟨c++post⟩ e (0,0))):=
 ⟨Ext.push H' _ _ _ _,HR.new H' ⟨[],c,post,(0,0),rfl,rfl,k.mono (j7 _ (H'.fresh _ (G8 _))),hp,fun _=>rfl,rfl⟩⟩
end Go.Ev
namespace Go.Ev
set_option linter.unusedSectionVars false
variable {α β γ:Type} {p q:Rho} {P:Ia}
def Fin(p:Rho)(h:H)(w:World)(s:Result Next)(u:Value)(g:H):Prop:=
 ∃q w' v,(s=.ok (.value v) w'\/s=.ok .skip w'/\v=If)/\Ext p h w q g w'/\HR q g w'.heap/\VR q v u
structure AR(p:Rho)(a:Act)(b:A):Prop where
 tmp:∀t,VR p (a.tmps.getD t If) (b.get If t)
theorem AR.eval {a:Act}{b:A}(h:AR p a b)(o:Ie):VR p (a.eval o) (b.ev o):=by
 cases o with
 |tmp t=>exact h.tmp t
 |const v=>exact .cst v
 |global g=>exact .bad _
 |func f=>exact .func _ .nil .nil
theorem bK {s:Sem Value}{h:H}{w:World}{v u:Value}(H':HR p h w.heap)(e:s.run P w=.ok v w)(hv:VR p v u):Fin p h w ((do pure (IU (<-s)):Sem Next).run P w) u h:=
 ⟨p,w,v,.inl (by simp[e]),Ext.refl p h w,H',hv⟩
theorem mR {s:Sem Value}{h g:H}{w w':World}{v u:Value}(e:s.run P w=.ok v w')(he:Ext p h w q g w')(H':HR q g w'.heap)(hv:VR q v u):Fin p h w ((do pure (IU (<-s)):Sem Next).run P w) u g:=
 ⟨q,w',v,.inl (by simp[e]),he,H',hv⟩
section
variable {call:bU} {a:Act} {b:A} {h g:H} {w:World} {o:Oper} {u:Value} (A':AR p a b) (H':HR p h w.heap)
include A' H'
theorem tN {x:Ie}(e:AP x P call b h o=.ok (.mk u g)):Fin p h w ((pure (.value (a.eval x)):Sem Next).run P w) u g:=by
 obtain⟨rfl,rfl⟩:=bP e;exact⟨p,w,_,.inl rfl,Ext.refl p h w,H',A'.eval x⟩
theorem A9 {c x y:Ie}(e:tE c x y P call b h o=.ok (.mk u g)):Fin p h w ((do pure (.value (if<-asBool (a.eval c)then a.eval x else a.eval y)):Sem Next).run P w) u g:=by
 obtain⟨t,e1,e⟩:=R.b_ok e;obtain⟨rfl,rfl⟩:=bP e;have hc:=A'.eval c;rw[lT e1]at hc;rw[hc.same rfl];refine⟨p,w,if t then a.eval x else a.eval y,.inl ?_,Ext.refl p h w,H',?_⟩
 ·cases t<;>rfl
 ·cases t
  ·exact A'.eval y
  ·exact A'.eval x
theorem Ba {t:TypeId}{x:Ie}(e:tF t x P call b h o=.ok (.mk u g)):Fin p h w ((do pure (IU (<-Instr.loadAt t (a.eval x))):Sem Next).run P w) u g:=by
 obtain⟨e1,rfl⟩:=gx e;obtain⟨s,e2,e3⟩:=oJ H' (A'.eval x) e1;exact bK H' e2 e3
theorem yP {t:TypeId}{x y:Ie}(e:oB t x y P call b h o=.ok (.mk u g)):Fin p h w ((do Instr.storeAt t (a.eval x) (a.eval y);pure .skip:Sem Next).run P w) u g:=by
 obtain⟨rfl,w',e1,e2,e3⟩:=tM (P:=P) H' (A'.eval x) (A'.eval y) e;exact⟨p,w',If,.inr ⟨by simp[e1],rfl⟩,e2,e3,.tuple .nil⟩
omit A' H' in
theorem xj {e:TypeId}{z:List Value}(h:rp (GI P e)=.ok z):∃i v,P.info? e=G5 i/\i.zero=G5 v/\z=v.cells.toList/\(∀p,VRs p z z)/\ou z=G6/\eR v=true:=by
 obtain⟨v,e1,h⟩:=R.b_ok h;obtain⟨e2,h⟩:=aT h;obtain⟨e3,h⟩:=aT h;cases h;have e1:=bF e1;unfold GI at e1;cases hi:P.info? e with
 |none=>rw[hi]at e1;cases e1
 | some i =>
   rw[hi]at e1;refine⟨i,v,rfl,e1,jx v,fun p=>?_,e3,e2⟩;have:=(VR.of_flat (p:=p) v e2).cells e3;rwa[<-jx]at this
omit A' in
theorem qi {s:Sem Value}{e:TypeId}{c d:List Value}(k:VRs p c d)(es:s.run P w=.ok (.pointer (G5 ⟨w.heap.size,0,G0⟩)) {w with heap:=w.heap.push (.cells c.toArray e)}):
 Fin p h w ((do pure (IU (<-s)):Sem Next).run P w) (.pointer (G5 ⟨h.n,0,G0⟩)) (h.new (.cells d e 0 G7)):=by
 obtain⟨e1,e2⟩:=lW H' e k (post:=[]) (kk:=0) (es:=0) rfl w.drawn;rw[List.append_nil]at e1 e2;exact mR es e1 e2 (VR.ptr (off:=0) (eS p h.n ⟨w.heap.size,0,0⟩))
theorem yQ {e:TypeId}(k:AQ e P call b h o=.ok (.mk u g)):Fin p h w ((do pure (IU (<-Instr.alloc e G6 (.tuple #[]))):Sem Next).run P w) u g:=by
 obtain⟨z,e1,k⟩:=R.b_ok k;obtain⟨rfl,rfl⟩:=bP k;obtain⟨i,v,h1,h2,rfl,h3,-,-⟩:=xj e1;refine qi H' (h3 p) ?_;simp[Instr.alloc,zeroValue,typeInfo,h1,h2,newVar,newRow]
theorem Dk {e:TypeId}{x:Ie}(k:AT e x P call b h o=.ok (.mk u g)):Fin p h w ((do pure (IU (<-Instr.box e (a.eval x))):Sem Next).run P w) u g:=by
 obtain⟨e1,k⟩:=aT k;obtain⟨rfl,rfl⟩:=bP k;refine qi H' ((A'.eval x).cells e1) ?_;simp[Instr.box,newVar,newRow]
omit A' in
theorem xk {bl:Blk}{ob:Obj}(hb:BR (p.set h.n ⟨w.heap.size,0,0⟩) ⟨w.heap.size,0,0⟩ bl ob):Ext p h w (p.set h.n ⟨w.heap.size,0,0⟩) (h.new bl) {w with heap:=w.heap.push ob}/\HR (p.set h.n ⟨w.heap.size,0,0⟩) (h.new bl) (w.heap.push ob):=
 ⟨Ext.push H' _ _ _ w.drawn,HR.new H' hb⟩
theorem tO {t:TypeId}(k:tG P call b h o=.ok (.mk u g)):Fin p h w ((do pure (IU (<-Instr.makeMap t G0)):Sem Next).run P w) u g:=by
 obtain⟨rfl,rfl⟩:=bP k;obtain⟨e1,e2⟩:=xk H' (bl:=.map [] 0) (ob:=.map #[] 0) ⟨[],rfl,.nil⟩;exact mR (by simp[Instr.makeMap]) e1 e2 (.map (eS p h.n ⟨w.heap.size,0,0⟩))
theorem rA {x:Ie}(e:gW x P call b h o=.ok (.mk u g)):∃i,a.eval x=.pointer (G5 i)/\Fin p h w (.ok (.value (a.eval x)) w) u g:=by
 obtain⟨ad,e1,e⟩:=R.b_ok e;obtain⟨rfl,rfl⟩:=bP e;have hx:=A'.eval x;rw[ft e1]at hx;generalize a.eval x=v at*
 cases hx with|ptr hp=>exact⟨_,rfl,p,w,_,.inl rfl,Ext.refl p h w,H',.ptr hp⟩
theorem Dl {x:Ie}(e:unT .not x P call b h o=.ok (.mk u g)):Fin p h w ((do pure (IU (<-Op.unary .not (a.eval x))):Sem Next).run P w) u g:=by
 obtain⟨t,e1,e⟩:=R.b_ok e;obtain⟨rfl,rfl⟩:=bP e;have hx:=A'.eval x;rw[lT e1]at hx;rw[hx.same rfl];refine bK H' (s:=Op.unary .not (.bool t)) rfl ?_;cases t<;>exact .bool _
end
end Go.Ev
namespace Go.Ev
set_option linter.unusedSectionVars false
variable {α β γ:Type} {p q:Rho} {P:Ia}
theorem jy {t e:TypeId}(h:GK P t=G5 e):P.underlying t=G5 (.slice e):=by
 unfold GK at h;split at h
 ·cases h;assumption
 ·cases h
theorem mS {t:TypeId}{n:Nat}(h:GH P t=G5 n):∃i,P.info? t=G5 i/\i.size=n:=by
 unfold GH at h;cases hi:P.info? t with
 |none=>rw[hi]at h;cases h
 |some i=>rw[hi]at h;cases h;exact⟨i,rfl,rfl⟩
theorem Bb {t:TypeId}{n:Nat}(h:GL P t=G5 n):∃e i,P.underlying t=G5 (.slice e)/\P.info? e=G5 i/\i.size=n:=by
 unfold GL at h;cases he:GK P t with
 |none=>rw[he]at h;cases h
 | some e =>
   rw[he]at h;obtain⟨i,h1,h2⟩:=mS (show GH P e=G5 n from h);exact⟨e,i,jy he,h1,h2⟩
theorem mT {n:Int}{k:Nat}(h:Db n=.ok k):n=(k:Int):=by cases n<;>cases h;rfl
theorem jb {v:Value}{k:Nat}(h:fB v=.ok k):∃i,v=.int i (k:Int):=by
 obtain⟨x,e1,h⟩:=R.b_ok h;exact⟨x.k,by rw[gY e1,mT h]⟩
theorem gy(x:RB)(off k:Nat):(⟨x.r,x.o+off,G0⟩:Addr).add k=⟨x.r,x.o+(off+k),G0⟩:=by rw[rz,Nat.add_assoc]
section
variable {call:bU} {a:Act} {b:A} {h g:H} {w:World} {o:Oper} {u:Value} (A':AR p a b) (H':HR p h w.heap)
include A' H'
theorem pq {t:TypeId}{x:Ie}{f:Nat}(e:ga t x f P call b h o=.ok (.mk u g)):Fin p h w ((do pure (IU (<-Instr.fieldAt t (a.eval x) f)):Sem Next).run P w) u g:=by
 obtain⟨off,e1,e⟩:=R.b_ok e;obtain⟨ad,e2,e⟩:=R.b_ok e;obtain⟨e3,rfl⟩:=gx e;obtain⟨i,o1,sp⟩:=ad;cases sp with
 |some s=>cases e3
 | none =>
   cases e3;have hx:=A'.eval x;rw[ft e2]at hx;generalize a.eval x=v at*
   cases hx with|ptr hp=>
   rename_i rb;have e1:=bF e1;unfold GT at e1;split at e1
   ·rename_i fs hu;cases hf:fs.toList[f]?with
    |none=>rw[hf]at e1;cases e1
    | some fd =>
      rw[hf]at e1;have e1:rv P fd=G5 off:=e1;unfold rv at e1;split at e1
      ·rename_i n hs;cases e1;obtain⟨inf,hi1,hi2⟩:=mS hs;have hf':fs[f]? =G5 fd:=by simpa using hf
       refine bK H' (v:=.pointer (G5 ⟨rb.r,rb.o+(o1+fd.offset),G0⟩)) ?_ (.ptr hp);have hz:inf.size≠0:=by omega
       simp[Instr.fieldAt,IM hu,hf',Instr.sureAddr,fieldPlace,sizeOf,typeInfo,hi1,hz,gy]
      ·cases e1
   ·cases e1
theorem pr {t:TypeId}{x ix:Ie}{s:SL}(hs:fJ (b.ev x)=G5 s)(e:(R.b (GG (GL P t)) fun es=>R.b (fB (b.ev ix)) fun k=>same h (Fe es k s))=.ok (.mk u g)):
 Fin p h w ((do pure (IU (<-Instr.indexAt t (a.eval x) (a.eval ix))):Sem Next).run P w) u g:=by
 obtain⟨es,e1,e⟩:=R.b_ok e;obtain⟨k,e2,e⟩:=R.b_ok e;obtain⟨e9,rfl⟩:=gx e;clear e;obtain⟨e3,e⟩:=aT e9;obtain⟨ad,e4,e⟩:=R.b_ok e;have e4:=bF e4;obtain⟨el,inf,hu,hi,hsz⟩:=Bb (bF e1);obtain⟨ik,e5⟩:=jb e2;have hx:=A'.eval x;rw[fM hs,e4]at hx;have hix:=A'.eval ix;rw[e5]at hix;rw[hix.same rfl];have hlt:k<s.len:=by
  have:Nat.ble (k+1) s.len=true:=e3;exact Nat.le_of_ble_eq_true this
 obtain⟨i,off,sp⟩:=ad;cases e;generalize a.eval x=v at*
 have key:∀(rb:RB) c,p i=G5 rb->v=.slice (G5 ⟨rb.r,rb.o+off,G0⟩) s.len c->Fin p g w ((do pure (IU (<-Instr.indexAt t v (.int ik (k:Int)))):Sem Next).run P w) (.pointer (G5 ⟨i,Nat.add off (Nat.mul k es),G0⟩)) g:=by
  rintro rb c hp rfl;refine bK H' (v:=.pointer (G5 ⟨rb.r,rb.o+(off+k*es),G0⟩)) ?_ (.ptr hp);have h0:(0:Int)<=k/\(k:Int)<(s.len:Int):=⟨by omega,by omega⟩
  simp[Instr.indexAt,asIntOf,IM hu,sizeOf,typeInfo,hi,hsz,hlt,gy]
 cases hx with
 |sl hp=>exact key _ _ hp rfl
 |slo hp=>exact key _ _ hp rfl
theorem rC {t:TypeId}{x ix:Ie}(e:vB P t h (b.ev x) (b.ev ix)=.ok (.mk u g)):Fin p h w ((do pure (IU (<-Instr.indexAt t (a.eval x) (a.eval ix))):Sem Next).run P w) u g:=by
 obtain⟨q,e1,e⟩:=R.b_ok e;obtain⟨ad,e2,e⟩:=R.b_ok e;obtain⟨k,e3,e⟩:=R.b_ok e;obtain⟨e4,e⟩:=aT e;obtain⟨e5,rfl⟩:=gx e;obtain⟨i,o1,sp⟩:=ad;cases sp with
 |some s=>cases e5
 | none =>
   cases e5;have hx:=A'.eval x;rw[ft e2]at hx;have hix:=A'.eval ix;obtain⟨ik,e6⟩:=jb e3;rw[e6]at hix;rw[hix.same rfl];generalize a.eval x=v at*
   cases hx with|ptr hp=>
   rename_i rb;have e1:=bF e1;unfold GQ at e1;split at e1
   ·rename_i n el hu;cases hz:GH P el with
    |none=>rw[hz]at e1;cases e1
    | some z =>
      rw[hz]at e1;cases e1;obtain⟨inf,hi1,hi2⟩:=mS hz;have hlt:k<n:=by
       have:Nat.ble (k+1) n=true:=e4;exact Nat.le_of_ble_eq_true this
      refine bK H' (v:=.pointer (G5 ⟨rb.r,rb.o+(o1+k*z),G0⟩)) ?_ (.ptr hp);simp[Instr.indexAt,asIntOf,IM hu,Instr.sureAddr,sizeOf,typeInfo,hi1,hi2,hlt,gy]
   ·cases e1
theorem tP {x:Ie}{i:Nat}(e:i9 x i P call b h o=.ok (.mk u g)):Fin p h w ((do pure (IU (<-Instr.extract (a.eval x) i)):Sem Next).run P w) u g:=by
 obtain⟨l,e1,e⟩:=R.b_ok e;obtain⟨e2,rfl⟩:=gx e;have e2:=vD e2;have hx:=A'.eval x;cases hb:b.ev x with
 | tuple vs =>
   rw[hb]at e1 hx;cases e1;generalize a.eval x=v at*
   cases hx with|tuple hl=>
   obtain⟨s,e3,e4⟩:=hl.at e2;exact bK H' (by simp[Instr.extract,e3]) e4
 |_=>rw[hb]at e1;cases e1
theorem rD:∀l:List Ie,VRs p (l.map a.eval) (evl b l)
 |[]=>.nil
 |x::r=>.cons (A'.eval x) (rD r)
theorem rE {f:Fn}{x y:Array Ie}(e:gV f x y P call b h o=.ok (.mk u g)):Fin p h w ((do pure (IU (<-Instr.makeFunc f (x.map a.eval) (y.map a.eval))):Sem Next).run P w) u g:=by
 obtain⟨rfl,rfl⟩:=bP e;refine bK H' (v:=.func f (x.map a.eval) (y.map a.eval)) rfl ?_;have h1:=rD A' H' x.toList;have h2:=rD A' H' y.toList;have e1:x.map a.eval=⟨x.toList.map a.eval⟩:=by apply Array.ext';simp
 have e2:y.map a.eval=⟨y.toList.map a.eval⟩:=by apply Array.ext';simp
 rw[e1,e2];exact .func f h1 h2
theorem tQ:∀{l:List Ie},oC b l=G6->∀x∈l,a.eval x=b.ev x
 |[],_,x,hx=>by simp at hx
 | y :: r, e, x, hx => by
   have e':(Hj (motive:=fun _=>Bool) G7 (oC b r) (eR (b.ev y)))=true:=e;cases hy:eR (b.ev y)with
   |false=>rw[hy]at e';cases e'
   | true =>
     rw[hy]at e';rcases List.mem_cons.1 hx with rfl|hx
     ·exact(A'.eval x).same hy
     ·exact tQ e' x hx
theorem ef(hs:∀cs c,o.op≠ .select cs c)(e:bM P call b h o=.ok (.mk u g)):Fin p h w ((execOp a.eval o).run P w) u g:=by
 obtain⟨e1,e⟩:=aT e;obtain⟨e2,e⟩:=aT e;obtain⟨e3,e⟩:=aT e;obtain⟨v,e4,e⟩:=R.b_ok e;obtain⟨e5,e⟩:=aT e;obtain⟨rfl,rfl⟩:=bP e;have hc:execOp a.eval o=execOp b.ev o:=execOp_congr o hs fun x hx=>tQ A' H' e3 x (by simpa using hx)
 have hb:=(Lex.Cl (P:=P) (Nat.eq_of_beq_eq_true e1) e2).1;unfold AG at e4;cases hr:(execOp b.ev o).run P w0 with
 |halt x y=>rw[hr]at e4;cases e4
 | ok n y =>
   rw[hr]at e4;cases n with
   | value v' =>
     cases e4;rw[hc,(hb _ _ _ hr).2 w];exact⟨p,w,v,.inl rfl,Ext.refl p h w,H',.of_flat v e5⟩
   |_=>cases e4
end
end Go.Ev
namespace Go.Ev
set_option linter.unusedSectionVars false
variable {α β γ:Type} {p q:Rho} {P:Ia}
theorem mU {j k:IntKind}(h:oF j k=G6):j=k:=by cases j<;>cases k<;>first|rfl|cases h
theorem Dm {op:BinOp}{f:Int->Int->Bool}(hf:AZ op=G5 f)(t:TypeId)(x y:Ie)(k:IntKind)(m n:Int)(w:World):
 ((do eqGuard op t x y (.int k m) (.int k n);binOp op t (.int k m) (.int k n)):Sem Value).run P w=.ok (.bool (f m n)) w:=by
 cases op<;>cases hf<;>simp[eqGuard,binOp,Op.intCmp]
 ·rw[Bool.eq_iff_iff];simp
 ·by_cases e:m=n<;>simp[e]
theorem vF(op:BinOp)(t:TypeId)(x y:Ie)(a c:Option Addr)(l1 c1 l2 c2:Nat)(w:World):(eqGuard op t x y (.slice a l1 c1) (.slice c l2 c2)).run P w=.ok () w:=by
 unfold eqGuard;cases op<;>simp
theorem vG {t e:TypeId}(hu:P.underlying t=G5 (.slice e))(d:Nat)(a:Option Addr)(l1 c1 l2 c2:Nat)(w:World):(Op.equalIn (d+1) t (.slice a l1 c1) (.slice G0 l2 c2)).run P w=.ok a.isNone w:=by
 cases a<;>simp[Op.equalIn,IM hu]
theorem Bc {t e:TypeId}(hu:P.underlying t=G5 (.slice e))(a:Option Addr)(l1 c1 l2 c2:Nat)(w:World):(Op.equal t (.slice a l1 c1) (.slice G0 l2 c2)).run P w=.ok a.isNone w:=
 vG hu 9999 a l1 c1 l2 c2 w
section
variable {call:bU} {a:Act} {b:A} {h g:H} {w:World} {o:Oper} {u:Value} (A':AR p a b) (H':HR p h w.heap)
include A' H'
theorem VR.sl_ok {v:Value}{ad:Option Addr}{n c:Nat}(h:VR p v (.slice ad n c)):∃ad' c',v=.slice ad' n c'/\ad'.isNone=ad.isNone:=by
 cases h with
 |sl0=>exact⟨_,_,rfl,rfl⟩
 |sl=>exact⟨_,_,rfl,rfl⟩
 |slo=>exact⟨_,_,rfl,rfl⟩
theorem qj {neg:Bool}{t:TypeId}{x y:Ie}{yt:TypeId}{op:BinOp}(hop:op=if neg then .neq else .eql)(hs:∀cs c,o.op≠ .select cs c)(ho:execOp a.eval o=(do pure (IU (<-(do eqGuard op t x y (a.eval x) (a.eval y);binOp op t (a.eval x) (a.eval y):Sem Value)))))
 (e:oE neg t x y P call b h o=.ok (.mk u g)):Fin p h w ((execOp a.eval o).run P w) u g:=by
 unfold oE at e;cases hx:fJ (b.ev x)with
 |none=>rw[hx]at e;exact ef A' H' hs e
 | some s =>
   rw[hx]at e;have e:(R.b (GG (fJ (b.ev y))) fun r=>bp (fK r.a) (R.b (GG (GK P t)) fun _=>ret (.bool (Hj (fK s.a) (Hj G6 G7 (fK s.a)) neg)) h))=.ok (.mk u g):=e;obtain⟨r,e1,e⟩:=R.b_ok e;obtain⟨e2,e⟩:=aT e;obtain⟨el,e3,e⟩:=R.b_ok e;obtain⟨rfl,rfl⟩:=bP e;have hu:=jy (bF e3);have vx:=A'.eval x;have vy:=A'.eval y;rw[fM hx]at vx;rw[fM (bF e1)]at vy;obtain⟨a1,c1,h1,n1⟩:=VR.sl_ok A' H' vx;obtain⟨a2,c2,h2,n2⟩:=VR.sl_ok A' H' vy;have hn:a2=none:=by
    cases hra:r.a with
    |some z=>rw[hra]at e2;cases e2
    | none => rw [hra] at n2; cases a2 with
      |none=>rfl
      |some z=>cases n2
   subst hn;rw[ho,h1,h2];have hiso:fK s.a=s.a.isNone:=by cases s.a<;>rfl
   have heq:=Bc hu a1 s.len c1 r.len c2 w;refine bK H' (v:=.bool (Hj (fK s.a) (Hj G6 G7 (fK s.a)) neg)) ?_ (.bool _);rw[It,vF];subst hop;cases neg
   ·simp[binOp,heq,hiso,n1]
   ·simp[binOp,heq,hiso,n1];cases s.a<;>rfl
theorem Dn {op:BinOp}{f:Int->Int->Bool}{t yt:TypeId}{x y:Ie}(hf:AZ op=G5 f)(hs:∀cs c,o.op≠ .select cs c)(ho:execOp a.eval o=(do pure (IU (<-(do eqGuard op t x y (a.eval x) (a.eval y);binOp op t (a.eval x) (a.eval y):Sem Value)))))
 (e:yN op f t x y P call b h o=.ok (.mk u g)):Fin p h w ((execOp a.eval o).run P w) u g:=by
 unfold yN at e;cases hx:kW (b.ev x)with
 | error z =>
   rw[hx]at e;have e:eqT op t x y P call b h o=.ok (.mk u g):=e;cases op with
   |eql=>exact qj (yt:=yt) (neg:=G7) A' H' rfl hs ho e
   |neq=>exact qj (yt:=yt) (neg:=G6) A' H' rfl hs ho e
   |_=>exact ef (call:=call) A' H' hs e
 | ok m =>
   rw[hx]at e;have e:(R.b (kW (b.ev y)) fun n=>bp (oF m.k n.k) (ret (.bool (f m.n n.n)) h))=.ok (.mk u g):=e;obtain⟨n,e1,e⟩:=R.b_ok e;obtain⟨e2,e⟩:=aT e;obtain⟨rfl,rfl⟩:=bP e;have vx:=A'.eval x;have vy:=A'.eval y;rw[gY hx]at vx;rw[gY e1,<-mU e2]at vy;rw[ho,vx.same rfl,vy.same rfl];exact bK H' (Dm hf t x y m.k m.n n.n w) (.bool _)
theorem tR {l c:List Value}(k:VRs p l c){t:TypeId}{bg:Bool}{off:Nat}{r:Value}(hb:GJ P t=G5 bg)(e:isAgg bg (GG (GH P t)) c off=.ok r):∃s,(part t ⟨l⟩ off).run P w=.ok s w/\VR p s r:=by
 have ha:=A8 (P:=P) hb w;unfold part;rw[It,ha];cases bg with
 | false =>
   obtain⟨s,e7,e8⟩:=k.at (vD (show nth c off=.ok r from e));exact⟨s,by simp[e7],e8⟩
 | true =>
   have e:R.b (GG (GH P t)) (fun n=>R.b (cut c off n) fun l=>.ok (.agg l.toArray))=.ok r:=e;obtain⟨n,e7,e⟩:=R.b_ok e;obtain⟨l',e8,e⟩:=R.b_ok e;cases e;obtain⟨e9,rfl⟩:=lV e8;obtain⟨i,h1,h2⟩:=mS (bF e7);refine⟨.agg ⟨(l.drop off).take n⟩,?_,.agg ((k.drop off).take n)⟩;have hx:(⟨l⟩:Array Value).extract off (off+n)=⟨(l.drop off).take n⟩:=by
    apply Array.ext';simp[List.take_drop,Nat.add_comm,List.extract_eq_take_drop]
   simp[sizeOf,typeInfo,h1,h2,hx]
theorem yR {t:TypeId}{x:Ie}{f:Nat}(e:oD t x f P call b h o=.ok (.mk u g)):Fin p h w ((do pure (IU (<-Instr.field t (a.eval x) f)):Sem Next).run P w) u g:=by
 obtain⟨l,e1,e⟩:=R.b_ok e;obtain⟨fd,e2,e⟩:=R.b_ok e;obtain⟨bg,e3,e⟩:=R.b_ok e;obtain⟨e9,rfl⟩:=gx e;have hx:=A'.eval x;cases hb:b.ev x with
 | agg vs =>
   rw[hb]at e1 hx;cases e1;generalize a.eval x=v at*
   cases hx with|agg hl=>
   obtain⟨s,e4,e5⟩:=tR A' H' hl (bF e3) e9;have e2:=bF e2;unfold GO at e2;split at e2
   ·rename_i fs hu;have hf':fs[f]? =G5 fd:=by simpa using e2
    exact bK H' (by simp[Instr.field,IM hu,hf',asAgg,e4]) e5
   ·cases e2
 |_=>rw[hb]at e1;cases e1
end
end Go.Ev
namespace Go.Ev
set_option linter.unusedSectionVars false
variable {α β γ:Type} {p q:Rho} {P:Ia}
theorem Do(off:Nat)(l:List Value)(cs:Array Value)(h:off+l.length<=cs.size):((l.zipIdx 0).foldl (fun cs (x:Value×Nat)=>cs.setIfInBounds (off+x.2) x.1) cs).toList=cs.toList.take off++(l++cs.toList.drop (off+l.length)):=by
 obtain⟨h1,h2⟩:=Go.Great.foldl_set off l 0 cs;apply List.ext_getElem?;intro k;have h3:=h2 k;rw[Array.getElem?_toList,h3];simp only[Im];by_cases hk:k<off
 ·rw[if_neg (by omega),JL (by simp;omega),List.getElem?_take_of_lt hk];simp
 ·rw[JJ (by simp;omega)];have e:k-(List.take off cs.toList).length=k-off:=by simp;omega
  rw[e];by_cases hk2:k<off+l.length
  ·rw[if_pos ⟨by omega,hk2,by omega⟩,JL (by omega)]
  ·rw[if_neg (by omega),JJ (by omega),List.getElem?_drop];rw[show off+l.length+(k-off-l.length)=k by omega];simp
inductive PR (p:Rho):List (Nat×Value)->List (Nat×Value)->Prop
 |nil:PR p [] []
 |cons (i:Nat) {v u:Value} {a b:List (Nat×Value)} (h:VR p v u) (k:PR p a b):PR p ((i,v)::a) ((i,u)::b)
theorem j8 {place place':Nat->Option (Nat×Nat)}(hp:∀i x,place' i=G5 x->place i=G5 x):∀{a b:List (Nat×Value)} {c d r:List Value},PR p a b->VRs p c d->xe place' b d=.ok r->∃c',Instr.fill place c.toArray a=G5 c'.toArray/\VRs p c' r:=by
 intro a b
 induction b generalizing a with
 | nil =>
   intro c d r h k e;cases h;cases e;exact⟨c,rfl,k⟩
 | cons x b ih =>
   intro c d r h k e;cases h with|cons i hv hr=>
   rename_i v u a;have e:D5 place' (i,u) (xe place' b) d=.ok r:=e;obtain⟨⟨off,sz⟩,e1,e⟩:=R.b_ok e;obtain⟨e2,e⟩:=aT e;obtain⟨e3,e⟩:=aT e;obtain⟨e4,e⟩:=aT e;have e2:(eX u).length=sz:=by rw[<-gc];exact Nat.eq_of_beq_eq_true e2
   have e3:off+sz<=d.length:=by rw[<-gc];exact Nat.le_of_ble_eq_true e3
   have hc:=hv.cells e4;have hcl:=hc.length;have hkl:=k.length;have hk:VRs p (c.take off++(v.cells.toList++c.drop (off+v.cells.toList.length))) (splice d (eX u) off):=by rw[qf];exact k.splice hc off
   obtain⟨c',h1,h2⟩:=ih hr hk e;refine⟨c',?_,h2⟩;have hpl:=hp _ _ (bF e1);have hsz:v.cells.size=sz:=by rw[<-e2,<-hcl];simp
   have hn: ¬(v.cells.size≠sz\/off+v.cells.size>c.toArray.size):=by simp;omega
   have hf:=Do off v.cells.toList c.toArray (by simp;omega);unfold Instr.fill;simp only[hpl];rw[if_neg (by simpa using hn)];have hfe:Array.foldl (fun cs (x:Value×Nat)=>cs.setIfInBounds (off+x.2) x.1) c.toArray v.cells.zipIdx=(c.take off++(v.cells.toList++c.drop (off+v.cells.toList.length))).toArray:=by
    apply Array.ext';rw[<-Array.foldl_toList,Array.toList_zipIdx,hf]
   have hfe':Array.foldl (fun cs x=>match x with|(c,j)=>cs.setIfInBounds (off+j) c) c.toArray v.cells.zipIdx=(c.take off++(v.cells.toList++c.drop (off+v.cells.toList.length))).toArray:=hfe;rw[hfe'];exact h1
theorem rF(z:List Value):∀n,rep n z=(List.replicate n z).flatten
 |0=>rfl
 | n + 1 => by
   have e:rep (n+1) z=app z (rep n z):=rfl;rw[e,lU,rF z n,List.replicate_succ,List.flatten_cons]
theorem xl(z:Array Value):∀n,madeCells z (n*z.size)=(List.replicate n z.toList).flatten.toArray:=by
 intro n;apply Array.ext_getElem?;intro k;unfold madeCells;by_cases hk:k<n*z.size
 ·have hz:0<z.size:=by rcases Nat.eq_zero_or_pos z.size with h|h;(rw[h]at hk;simp at hk);exact h
  rw[Array.getElem?_map,Array.getElem?_range,if_pos hk];have hm:k%z.size<z.size:=Nat.mod_lt _ hz;have hd:k/z.size<n:=Nat.div_lt_of_lt_mul (by rw[Nat.mul_comm];exact hk);have key:∀(n k:Nat),k<n*z.size->(List.replicate n z.toList).flatten[k]? =z.toList[k%z.size]? :=by
   intro n
   induction n with
   |zero=>intro k h;simp at h
   | succ n ih =>
     intro k h;rw[List.replicate_succ,List.flatten_cons];by_cases hk:k<z.size
     ·rw[JL (by simpa using hk),Nat.mod_eq_of_lt hk]
     ·rw[JJ (by simp;omega)];have e:k-z.toList.length=k-z.size:=by simp
      rw[e,ih (k-z.size) (by rw[Nat.add_mul]at h;omega)];congr 1;rw[Nat.mod_eq_sub_mod (by omega:z.size<=k)]
  simp only[List.getElem?_toArray,key n k hk,Option.map_some,Array.getElem?_toList];rw[Array.getElem?_eq_getElem hm];simp[getElem!_pos,hm]
 ·rw[Array.getElem?_eq_none (by simp;omega),List.getElem?_toArray,List.getElem?_eq_none];simp;omega
theorem Bd {e:TypeId}{t:EI}(h:tyA P e=.ok t):∃i v,P.info? e=G5 i/\i.zero=G5 v/\i.size=t.s/\t.z=v.cells.toList/\t.z.length=t.s/\i.bytes<=1048576/\(∀p,VRs p t.z t.z):=by
 obtain⟨i,e1,h⟩:=R.b_ok h;obtain⟨z,e2,h⟩:=R.b_ok h;obtain⟨e3,h⟩:=aT h;obtain⟨e4,h⟩:=aT h;cases h;have e1:=bF e1;obtain⟨v,f1,e2⟩:=R.b_ok e2;obtain⟨f2,e2⟩:=aT e2;obtain⟨f3,e2⟩:=aT e2;cases e2;refine⟨i,v,e1,bF f1,rfl,jx v,?_,Nat.le_of_ble_eq_true e4,fun p=>?_⟩
 ·rw[<-gc];exact Nat.eq_of_beq_eq_true e3
 ·have:=(VR.of_flat (p:=p) v f2).cells f3;rwa[<-jx]at this
section
variable {call:bU} {a:Act} {b:A} {h g:H} {w:World} {o:Oper} {u:Value} (A':AR p a b) (H':HR p h w.heap)
include A' H'
theorem vH:∀l:List (Nat×Ie),PR p (l.map fun x=>(x.1,a.eval x.2)) (evs b l)
 |[]=>.nil
 |x::r=>.cons x.1 (A'.eval x.2) (vH r)
theorem yS {t:TypeId}{parts:Array (Nat×Ie)}(e:oA t parts P call b h o=.ok (.mk u g)):Fin p h w ((do pure (IU (<-Instr.build t (parts.map fun(i,x)=>(i,a.eval x)))):Sem Next).run P w) u g:=by
 obtain⟨z,e1,e⟩:=R.b_ok e;obtain⟨pl,e2,e⟩:=R.b_ok e;obtain⟨r,e3,e⟩:=R.b_ok e;obtain⟨rfl,rfl⟩:=bP e;obtain⟨i,v,h1,h2,rfl,h3,-,-⟩:=xj e1;have hps:(parts.map fun(i,x)=>(i,a.eval x)).toList=parts.toList.map fun x=>(x.1,a.eval x.2):=by simp
 have hpr:=vH A' H' parts.toList;have e2:=bF e2;unfold AK at e2;have key:∃c',P.built t (parts.map fun(i,x)=>(i,a.eval x)).toList=G5 c'.toArray/\VRs p c' r:=by
  rw[hps];unfold Program.built;split at e2
  ·rename_i fs hu;cases hm:fs.toList.mapM (AJ P)with
   |none=>rw[hm]at e2;cases e2
   | some l =>
     rw[hm]at e2;cases e2;have hm':fs.toList.mapM (fun f=>(P.info? f.type).map fun i=>(f.offset,i.size))=G5 l:=hm;simp only[h1,hu,h2,hm'];obtain⟨c',k1,k2⟩:=j8 (place:=(l.toArray[·]?)) (fun i x h=>by simpa using h) hpr (h3 p) e3;exact⟨c',by simpa using k1,k2⟩
  ·rename_i n el hu;cases hi:P.info? el with
   |none=>rw[hi]at e2;cases e2
   | some ie =>
     rw[hi]at e2;cases e2;simp only[h1,hu,h2,hi];obtain⟨c',k1,k2⟩:=j8 (place:=fun i=>G5 (i*ie.size,ie.size)) (fun i x h=>h) hpr (h3 p) e3;exact⟨c',by simpa using k1,k2⟩
  ·cases e2
 obtain⟨c',k1,k2⟩:=key;exact bK H' (run_build w t _ _ k1) (.agg k2)
theorem xm {s:Sem Value}{e:TypeId}{c d:List Value}{n m:Nat}(k:VRs p c d)(es:s.run P w=.ok (.slice (G5 ⟨w.heap.size,0,G0⟩) n m) {w with heap:=w.heap.push (.cells c.toArray e)}):
 Fin p h w ((do pure (IU (<-s)):Sem Next).run P w) (.slice (G5 ⟨h.n,0,G0⟩) n m) (h.new (.cells d e 0 G7)):=by
 obtain⟨e1,e2⟩:=lW H' e k (post:=[]) (kk:=0) (es:=0) rfl w.drawn;rw[List.append_nil]at e1 e2;exact mR es e1 e2 (VR.sl (off:=0) (eS p h.n ⟨w.heap.size,0,0⟩))
theorem oK {t:TypeId}{n:Nat}{parts:Array (Nat×Ie)}(e:fq t n parts P call b h o=.ok (.mk u g)):Fin p h w ((do pure (IU (<-Instr.buildSlice t n (parts.map fun(i,x)=>(i,a.eval x)))):Sem Next).run P w) u g:=by
 obtain⟨el,e1,e⟩:=R.b_ok e;obtain⟨ti,e2,e⟩:=R.b_ok e;obtain⟨e3,e⟩:=aT e;obtain⟨r,e4,e⟩:=R.b_ok e;obtain⟨rfl,rfl⟩:=bP e;obtain⟨i,v,h1,h2,h3,h4,h5,h6,h7⟩:=Bd e2;have hps:(parts.map fun(i,x)=>(i,a.eval x)).toList=parts.toList.map fun x=>(x.1,a.eval x.2):=by simp
 have hz:v.cells.size=i.size:=by rw[h3,<-h5,h4];simp
 rw[rF]at e4;obtain⟨c',k1,k2⟩:=j8 (place:=fun j=>G5 (j*i.size,i.size)) (fun j x h=>by rw[h3];exact h) (vH A' H' parts.toList) ((h7 p).join n) e4;refine xm A' H' (c:=c') k2 ?_;have hm:=xl v.cells n;rw[<-h4,hz]at hm;rw[<-hm]at k1;unfold madeCells at k1;rw[<-hps]at k1;have hsm: ¬n*i.size>2^24:=by
  have hle:n*ti.s<=16777216:=by rw[Nat.ble_eq]at e3;exact e3
  rw[h3];omega
 have hu:=jy (bF e1);by_cases h0:n*i.size=0
 ·have hr0:∀f:Nat->Value,Array.map f (Array.range 0)= #[]:=fun f=>by simp
  rw[h0,hr0,hps]at k1;simp[Instr.buildSlice,IM hu,sizeOf,typeInfo,h1,h0,hr0,k1,newRow]
 ·have hfin:=run_buildSlice (P:=P) w t el n (parts.map fun(i,x)=>(i,a.eval x)) c'.toArray i v hu h1 h2 hsm h0 k1;exact hfin
end
end Go.Ev
