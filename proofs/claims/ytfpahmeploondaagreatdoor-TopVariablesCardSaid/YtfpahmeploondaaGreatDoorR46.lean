/- Walks and plain facts for the law on type variables, for all values and types that the heap holds (texts Fi Fj). -/
import Derived.Test.YtfpahmeploondaaGreatDoorR03
import Derived.Test.YtfpahmeploondaaGreatDoorR45
set_option linter.unusedVariables false
set_option linter.unusedSimpArgs false
set_option maxHeartbeats 64000000
open Option renaming none -> G0, some -> G5
open Bool renaming true -> G6, false -> G7
open Bool renaming and_eq_true -> Ik, rec -> Hj
open Option renaming rec -> Iv
open List renaming rec -> Iy
open Nat renaming beq -> Ib
namespace Go.Ev
set_option linter.unusedVariables false
set_option linter.unusedSectionVars false
noncomputable section
def DA(al:Nat->Nat)(a:Addr):Addr:=Addr.rec (motive:=fun _=>Addr) (fun i off sp=>⟨al i,off,sp⟩) a
def jg(al:Nat->Nat)(v:Value):Value:=Value.rec (motive_1:=fun _=>Value) (motive_2:=fun _=>Array Value) (motive_3:=fun _=>List Value)
 (fun b=>.bool b) (fun k n=>.int k n) (fun k n=>.float k n) (fun k m n=>.complex k m n) (fun s=>.string s)
 (fun a=>.pointer (Iv (motive:=fun _=>Option Addr) G0 (fun a=>G5 (DA al a)) a)) (fun a n c=>.slice (Iv (motive:=fun _=>Option Addr) G0 (fun a=>G5 (DA al a)) a) n c) (fun m=>.map (Iv (motive:=fun _=>Option Nat) G0 (fun m=>G5 (al m)) m))
 (fun c=>.chan c) (fun f _ _ x y=>.func f x y) .nilFunc (fun t _ x=>.iface t x) .nilIface (fun _ x=>.agg x) (fun _ x=>.tuple x) (fun _ x=>x.toArray) [] (fun _ _ x y=>x::y) v
def mc(al:Nat->Nat)(l:List Value):List Value:=Iy (motive:=fun _=>List Value) [] (fun v _ ih=>jg al v::ih) l
def vls(a:List Value):List Value->Bool:=Iy (motive:=fun _=>List Value->Bool) (fun b=>Iy (motive:=fun _=>Bool) G6 (fun _ _ _=>G7) b) (fun x _ ih b=>Iy (motive:=fun _=>Bool) G7 (fun y r _=>Hj G7 (ih r) (veq x y)) b) a
def eqB(x y:Bool):Bool:=Hj (Hj G6 G7 y) y x
def BM(x y:Row):Bool:=Hj G7 (Hj G7 (Hj G7 (eqB x.fz y.fz) (Ib x.es y.es)) (Ib x.e y.e)) (vls x.vs y.vs)
def qt(h:H)(i:Nat)(y:Row):Bool:=Except.rec (motive:=fun _=>Bool) (fun _=>G7) (fun x=>BM x y) (h.row i)
structure NR where
 i:Nat
 r:Row
def kb(h:H)(l:List NR):Bool:=Iy (motive:=fun _=>Bool) G6 (fun x _ ih=>Hj G7 ih (qt h x.i x.r)) l
structure ME where
 f:FuncId
 args:List Value
 rows:List NR
 n0:Nat
 u:Value
 new:List Row
def kf(r:Row):Blk:=.cells r.vs r.e r.es r.fz
def ut(l:List NR):T (Option Blk):=Iy (motive:=fun _=>T (Option Blk)) .nil (fun x _ ih=>ih.set G0 x.i (G5 (kf x.r))) l
def ME.heap(e:ME):H:=⟨ut e.rows,e.n0⟩
def alp(n0:Nat)(s:List Nat)(i:Nat):Nat:=Hj (s.getD (Nat.sub i n0) 1000000000) i (Nat.blt i n0)
def bet(n0 n:Nat)(i:Nat):Nat:=Hj (Nat.add n (Nat.sub i n0)) i (Nat.blt i n0)
def rW(al:Nat->Nat)(r:Row):Row:=⟨mc al r.vs,r.e,r.es,r.fz⟩
def news(al:Nat->Nat)(l:List Row)(h:H):H:=Iy (motive:=fun _=>H->H) (fun h=>h) (fun r _ ih h=>ih (h.new (kf (rW al r)))) l h
def kg(n:Nat)(l:List Value):Bool:=l.all (below n)
def ME.stat(e:ME):Bool:=kg e.n0 e.args&&e.rows.all fun x=>Nat.blt x.i e.n0&&kg e.n0 x.r.vs
def ME.hit(e:ME)(f:FuncId)(args:List Value)(h:H):Bool:=Hj G7 (Hj G7 (Hj G7 (kb h e.rows) (Nat.ble e.n0 h.n)) (vls args e.args)) (Ib f e.f)
def ME.use(e:ME)(h:H):R VH:=.ok (.mk (jg (bet e.n0 h.n) e.u) (news (bet e.n0 h.n) e.new h))
def iN(l:List ME)(rest:Orc):Orc:=fun P f args h=>Iy (motive:=fun _=>Option (R VH)) (rest P f args h) (fun e _ ih=>Hj ih (G5 (e.use h)) (e.hit f args h)) l
def rX(g:H)(al:Nat->Nat)(s:List Nat)(l:List Row):Bool:=Iy (motive:=fun _=>List Nat->Bool) (fun s=>Iy (motive:=fun _=>Bool) G6 (fun _ _ _=>G7) s) (fun r _ ih s=>Iy (motive:=fun _=>Bool) G7 (fun i t _=>Hj G7 (ih t) (qt g i (rW al r))) s) l s
def ups(n:Nat)(s:List Nat):Bool:=Iy (motive:=fun _=>Nat->Bool) (fun _=>G6) (fun i _ ih n=>Hj G7 (ih (Nat.succ i)) (Nat.ble n i)) s n
def ME.ran(e:ME)(s:List Nat)(r:R VH):Bool:=Except.rec (motive:=fun _=>Bool) (fun _=>G7) (fun y=>VH.rec (motive:=fun _=>Bool) (fun v g=>Hj G7 (Hj G7 (Hj G7 (Hj G7 (ups e.n0 s) (Nat.ble g.n 1000000000)) (kb g e.rows)) (rX g (alp e.n0 s) s e.new)) (veq v (jg (alp e.n0 s) e.u))) y) r
end
variable {p q:Rho} {P:Program}
theorem eT {a b:Bool}(h:(Hj G7 b a:Bool)=G6):a=G6/\b=true:=by cases a<;>cases b<;>first|exact⟨rfl,rfl⟩|cases h
theorem vW:∀{a b:List Value},vls a b=G6->a=b
 |[],[],_=>rfl
 |[],_::_,h=>by cases h
 |_::_,[],h=>by cases h
 | x :: a, y :: b, h => by
   obtain⟨h1,h2⟩:=eT (show(Hj G7 (vls a b) (veq x y):Bool)=G6 from h);rw[vN _ _ h1,vW h2]
theorem Fq {x y:Row}(h:BM x y=G6):x=y:=by
 unfold BM at h;obtain⟨h1,h⟩:=eT h;obtain⟨h2,h⟩:=eT h;obtain⟨h3,h4⟩:=eT h;obtain⟨a,b,c,d⟩:=x;obtain⟨a',b',c',d'⟩:=y;rw[Nat.beq_eq]at h2 h3;have h1:=vW h1;have hd:d=d':=by
  cases d<;>cases d'<;>first|rfl|cases h4
 rw[show a=a' from h1,show b=b' from h2,show c=c' from h3,hd]
theorem BN {h:H}{i:Nat}{y:Row}(e:qt h i y=G6):h.get i=G5 (kf y):=by
 unfold qt at e;cases hr:h.row i with
 |error _=>rw[hr]at e;cases e
 |ok x=>rw[hr]at e;rw[gb hr,<-Fq e];rfl
theorem rY {h:H}:∀{l:List NR},kb h l=G6->∀x∈l,h.get x.i=G5 (kf x.r)
 |[],_,x,hx=>by cases hx
 | y :: l, e, x, hx => by
   obtain⟨h1,h2⟩:=eT (show(Hj G7 (kb h l) (qt h y.i y.r):Bool)=G6 from e);rcases List.mem_cons.1 hx with rfl|hx
   ·exact BN h1
   ·exact rY h2 x hx
theorem xD:∀(l:List NR) (i:Nat) (b:Blk),(ut l).get G0 i=G5 b->∃x∈l,x.i=i/\b=kf x.r
 |[],i,b,h=>by rw[show ut []=.nil from rfl,T.get_nil]at h;cases h
 | y :: l, i, b, h => by
   rw[show ut (y::l)=(ut l).set G0 y.i (G5 (kf y.r))from rfl,T.get_set]at h;split at h
   ·rename_i e;cases h;exact⟨y,by simp,e,rfl⟩
   ·obtain⟨x,h1,h2⟩:=xD l i b h;exact⟨x,by simp[h1],h2⟩
def Gk(v:Value):List Value:=match v with| .agg a=>a.toList|_=>[]
theorem mV(al:Nat->Nat)(l:List Value):Gk (jg al (.agg ⟨l⟩))=mc al l:=by
 induction l with
 |nil=>rfl
 | cons v l ih =>
   show jg al v::Gk (jg al (.agg ⟨l⟩))=jg al v::mc al l;rw[ih]
theorem uu(al:Nat->Nat)(l:List Value):jg al (.agg ⟨l⟩)=.agg (mc al l).toArray:=by
 rw[<-mV];rfl
theorem BO {al be:Nat->Nat}(K:∀i x,q (al i)=G5 x->p (be i)=G5 x):∀(u v:Value),VR q v (jg al u)->VR p v (jg be u):=by
 have addr:∀(a:Addr) {v:Value},VR q v (.pointer (G5 (DA al a)))->VR p v (.pointer (G5 (DA be a))):=fun a v h=>by
  obtain⟨i,off,sp⟩:=a;cases h with
  |ptr h=>exact .ptr (K _ _ h)
 intro u;refine Value.rec (motive_1:=fun u=>∀v,VR q v (jg al u)->VR p v (jg be u)) (motive_2:=fun a=>∀l,VRs q l (mc al a.toList)->VRs p l (mc be a.toList)) (motive_3:=fun a=>∀l,VRs q l (mc al a)->VRs p l (mc be a))
  ?_ ?_ ?_ ?_ ?_ ?_ ?_ ?_ ?_ ?_ ?_ ?_ ?_ ?_ ?_ ?_ ?_ ?_ u
 ·intro b v h;cases h with|bool=>exact .bool b
 ·intro k n v h;cases h with|int=>exact .int k n
 ·intro k n v h;cases h with|float=>exact .float k n
 ·intro k m n v h;cases h with|complex=>exact .complex k m n
 ·intro s v h;cases h with|string=>exact .string s
 ·intro a v h;cases a with
  |none=>cases h with|ptr0=>exact .ptr0
  |some a=>exact addr a h
 ·intro a n c v h;cases a with
  |none=>cases h with|sl0=>exact .sl0 _ _
  | some a =>
    obtain⟨i,off,sp⟩:=a;cases h with
    |sl h=>exact .sl (K _ _ h)
    |slo h=>exact .slo (K _ _ h)
 ·intro m v h;cases m with
  |none=>cases h with|map0=>exact .map0
  |some m=>cases h with|map h=>exact .map (K _ _ h)
 ·intro c v h;cases c with
  |none=>exact .bad v
  |some c=>cases h
 ·intro f a b i1 i2 v h;obtain⟨a⟩:=a;obtain⟨b⟩:=b;have e:∀al:Nat->Nat,jg al (.func f ⟨a⟩ ⟨b⟩)=.func f (mc al a).toArray (mc al b).toArray:=fun al=>by
   rw[<-mV,<-mV];rfl
  rw[e]at h;rw[e];cases h with
  |func f h k=>exact .func f (i1 _ h) (i2 _ k)
 ·intro v h;cases h with|nilFunc=>exact .nilFunc
 ·intro t x i v h;cases h with|iface t h=>exact .iface t (i _ h)
 ·intro v h;cases h with|nilIface=>exact .nilIface
 ·intro a i v h;obtain⟨a⟩:=a;rw[uu]at h;rw[uu];cases h with|agg h=>exact .agg (i _ h)
 ·intro a i v h;obtain⟨a⟩:=a;have e:∀al:Nat->Nat,jg al (.tuple ⟨a⟩)=.tuple (mc al a).toArray:=fun al=>by
   rw[<-mV];rfl
  rw[e]at h;rw[e];cases h with|tuple h=>exact .tuple (i _ h)
 ·intro l i;exact i
 ·intro l h;cases h;exact .nil
 ·intro x a i1 i2 l h;cases h with|cons h k=>exact .cons (i1 _ h) (i2 _ k)
theorem DB {al be:Nat->Nat}(K:∀i x,q (al i)=G5 x->p (be i)=G5 x){l:List Value}:∀{a:List Value},VRs q l (mc al a)->VRs p l (mc be a):=by
 intro a
 induction a generalizing l with
 |nil=>intro h;cases h;exact .nil
 |cons u a ih=>intro h;cases h with|cons h k=>exact .cons (BO K u _ h) (ih k)
theorem BP {k:Nat}{l:List Value}:∀{a:List Value},VRs p l a->kg k a=G6->VRs (p.cut k) l a:=by
 intro a
 induction a generalizing l with
 |nil=>intro h _;cases h;exact .nil
 | cons u a ih =>
   intro h e;unfold kg at e;rw[List.all_cons,Ik]at e;cases h with|cons h k=>exact .cons (oS h e.1) (ih k e.2)
end Go.Ev
namespace Go.Ev
set_option linter.unusedSectionVars false
variable {p q:Rho} {P:Program}
theorem vX(al:Nat->Nat):∀(l:List Row) (h:H),(news al l h).n=h.n+l.length
 |[],_=>rfl
 | r :: l, h => by
   show(news al l (h.new (kf (rW al r)))).n=_;rw[vX al l,H.n_new,List.length_cons];omega
theorem hZ(al:Nat->Nat):∀(l:List Row) (h:H) (m:Nat) (b:Blk),(news al l h).get m=G5 b->(h.get m=G5 b/\(m<h.n\/h.n+l.length<=m))\/∃(j:Nat) (r:Row),m=h.n+j/\l[j]? =G5 r/\b=kf (rW al r)
 |[],h,m,b,e=>.inl ⟨e,by show m<h.n\/h.n<=m;omega⟩
 | r :: l, h, m, b, e => by
   rcases hZ al l (h.new (kf (rW al r))) m b e with⟨e,h2⟩|⟨j,r',h1,h2,h3⟩
   ·rw[H.n_new]at h2;rw[H.get_new]at e;split at e
    ·rename_i k;cases e;exact .inr ⟨0,r,k.symm,rfl,rfl⟩
    ·exact .inl ⟨e,by rw[List.length_cons];omega⟩
   ·rw[H.n_new]at h1;exact .inr ⟨j+1,r',by omega,by simpa using h2,h3⟩
theorem qu {g:H}{al:Nat->Nat}:∀{l:List Row} {s:List Nat},rX g al s l=G6->s.length=l.length/\∀(j:Nat) (r:Row),l[j]? =G5 r->∃i,s[j]? =G5 i/\g.get i=G5 (kf (rW al r))
 |[],[],_=>⟨rfl,fun j r h=>by simp at h⟩
 |[],_::_,e=>by cases e
 |_::_,[],e=>by cases e
 | r :: l, i :: s, e => by
   obtain⟨h1,h2⟩:=eT (show(Hj G7 (rX g al s l) (qt g i (rW al r)):Bool)=G6 from e);obtain⟨h3,h4⟩:=qu h2;refine⟨by simp[h3],fun j r' hj=>?_⟩;cases j with
   |zero=>simp at hj;subst hj;exact⟨i,rfl,BN h1⟩
   |succ j=>simpa using h4 j r' (by simpa using hj)
theorem BQ:∀{s:List Nat} {n:Nat},ups n s=G6->(∀(j i:Nat),s[j]? =G5 i->n<=i)/\∀(j k i:Nat),s[j]? =G5 i->s[k]? =G5 i->j=k
 |[],n,_=>⟨fun j i h=>by simp at h,fun j k i h=>by simp at h⟩
 | x :: s, n, e => by
   obtain⟨h1,h2⟩:=eT (show(Hj G7 (ups (Nat.succ x) s) (Nat.ble n x):Bool)=G6 from e);have h1:=dK h1;obtain⟨h3,h4⟩:=BQ h2;refine⟨fun j i h=>?_,fun j k i hj hk=>?_⟩
   ·cases j with
    |zero=>simp at h;omega
    |succ j=>have:=h3 j i (by simpa using h);omega
   ·cases j with
    | zero =>
      cases k with
      |zero=>rfl
      |succ k=>simp at hj;have:=h3 k i (by simpa using hk);omega
    | succ j =>
      cases k with
      |zero=>simp at hk;have:=h3 j i (by simpa using hj);omega
      |succ k=>rw[h4 j k i (by simpa using hj) (by simpa using hk)]
theorem uv {k:Nat}{x:RB}{r:Row}{o:Obj}(h:BR p x (kf r) o)(e:kg k r.vs=G6):BR (p.cut k) x (kf r) o:=by
 obtain⟨a,c,d,f,e1,e2,e3,e4⟩:=h;exact⟨a,c,d,f,e1,e2,BP e3 e,e4⟩
theorem BS {a b:Nat}(h:Nat.blt a b=G6):a<b:=gK h
theorem zt {p':Rho}{k:Nat}(h:∀i,i<k->p' i=q i):Le (q.cut k) p':=fun i x e=>by
 by_cases hi:i<k
 ·rw[b9 hi]at e;rw[h i hi];exact e
 ·rw[fA (by omega)]at e;cases e
section
variable {e:ME} {s:List Nat} {h g:H} {w w':World} {u':Value} (hs:e.stat=G6) (hr:e.ran s (.ok (.mk u' g))=G6) (hrows:kb h e.rows=G6) (hn:e.n0<=h.n) (H':HR p h w.heap)
include hs hrows hn H'
theorem BU {m:Nat}{b:Blk}(k:e.heap.get m=G5 b):h.get m=G5 b/\m<e.n0/\∃r,b=kf r/\kg e.n0 r.vs=G6/\∃x∈e.rows,x.i=m/\x.r=r:=by
 obtain⟨x,h1,h2,h3⟩:=xD e.rows m b k;unfold ME.stat at hs;rw[Ik,List.all_eq_true]at hs;have:=hs.2 x h1;rw[Ik]at this;have hx:=rY hrows x h1;rw[h2,<-h3]at hx;exact⟨hx,by rw[<-h2];exact BS this.1,x.r,h3,this.2,x,h1,h2,rfl⟩
theorem DC:HR (p.cut e.n0) e.heap w.heap:=by
 have K:=fun {m b}=>BU hs hrows hn H' (m:=m) (b:=b)
 refine⟨fun m hm=>fA hm,fun m b k=>?_,fun x y bx bz u v ex ey eu ev hr=>?_⟩
 ·obtain⟨k1,k2,r,rfl,k4,_⟩:=K k;obtain⟨x,o,e1,e2,e3⟩:=H'.live m _ k1;exact⟨x,o,by rw[b9 k2];exact e1,e2,uv e3 k4⟩
 ·obtain⟨k1,k2,_⟩:=K ex;obtain⟨l1,l2,_⟩:=K ey;rw[b9 k2]at eu;rw[b9 l2]at ev;exact H'.inj x y bx bz u v k1 l1 eu ev hr
include hr
theorem xE {q:Rho}{v:Value}(E:Ext (p.cut e.n0) e.heap w q g w')(H1:HR q g w'.heap)(V1:VR q v u'):
 ∃p',Ext p h w p' (news (bet e.n0 h.n) e.new h) w'/\HR p' (news (bet e.n0 h.n) e.new h) w'.heap/\VR p' v (jg (bet e.n0 h.n) e.u):=by
 have K:=fun {m b}=>BU hs hrows hn H' (m:=m) (b:=b)
 obtain⟨h1,hr⟩:=eT (show(Hj G7 (Hj G7 (Hj G7 (Hj G7 (ups e.n0 s) (Nat.ble g.n 1000000000)) (kb g e.rows)) (rX g (alp e.n0 s) s e.new)) (veq u' (jg (alp e.n0 s) e.u)):Bool)=G6 from hr);obtain⟨h2,hr⟩:=eT hr;obtain⟨h3,hr⟩:=eT hr;obtain⟨h4,h5⟩:=eT hr;have h1:=vN _ _ h1;subst h1;obtain⟨n1,n2⟩:=qu h2;have h4:=dK h4;obtain⟨u1,u2⟩:=BQ h5;have hen:e.heap.n=e.n0:=rfl;let p':Rho:=fun i=>if i<h.n then p i else q (s.getD (i-h.n) 1000000000)
 have lo:∀i,i<h.n->p' i=p i:=fun i hi=>if_pos hi
 have hi:∀i,h.n<=i->p' i=q (s.getD (i-h.n) 1000000000):=fun i hi=>if_neg (by omega)
 have qlo:∀i,i<e.n0->q i=p i:=fun i hi=>(E.keep i hi).trans (b9 hi)
 have ren:∀i x,q (alp e.n0 s i)=G5 x->p' (bet e.n0 h.n i)=G5 x:=fun i x k=>by
  unfold alp at k;unfold bet;cases hb:Nat.blt i e.n0 with
  | true =>
    rw[hb]at k;have hlt:=BS hb;show p' i=G5 x;rw[lo i (by omega),<-qlo i hlt];exact k
  | false =>
    rw[hb]at k;show p' (h.n+(i-e.n0))=G5 x;rw[hi _ (by omega),Nat.add_sub_cancel_left];exact k
 have lep:Le p p':=fun i x k=>by
  have:i<h.n:=Decidable.byContradiction fun k2=>by rw[H'.fresh i (by omega)]at k;cases k
  rw[lo i this];exact k
 have new:∀(j:Nat) (r:Row),e.new[j]? =G5 r->∃i y o,s[j]? =G5 i/\g.get i=G5 (kf (rW (alp e.n0 s) r))/\e.n0<=i/\q i=G5 y/\p' (h.n+j)=G5 y/\w'.heap[y.r]? =G5 o/\BR q y (kf (rW (alp e.n0 s) r)) o:=fun j r hj=>by
  obtain⟨i,k1,k2⟩:=n2 j r hj;obtain⟨y,o,k3,k4,k5⟩:=H1.live i _ k2;refine⟨i,y,o,k1,k2,u1 j i k1,k3,?_,k4,k5⟩;rw[hi _ (by omega),Nat.add_sub_cancel_left];have:s.getD j 1000000000=i:=by simp[List.getD,k1]
  rw[this];exact k3
 have out:∀m b x,h.get m=G5 b->p m=G5 x->e.heap.get m=G0->Off (p.cut e.n0) e.heap x.r:=fun m b x k1 k2 k3 i c y k4 k5=>by
  obtain⟨l1,l2,_⟩:=K k4;rw[b9 l2]at k5;intro k6;have:=H'.inj i m c b y x l1 k1 k5 k2 k6;subst this;rw[k4]at k3;cases k3
 have old:∀m b,h.get m=G5 b->∃x o,p m=G5 x/\w'.heap[x.r]? =G5 o/\BR p' x b o/\∀(j:Nat) (r:Row) y,e.new[j]? =G5 r->p' (h.n+j)=G5 y->x.r≠y.r:=fun m b k=>by
  obtain⟨x,o,e1,e2,e3⟩:=H'.live m b k;cases hm:e.heap.get m with
  | none =>
    have hoff:=out m b x k e1 hm;have hlt:=(Array.getElem?_eq_some_iff.1 e2).1;refine⟨x,o,e1,(E.old _ hlt hoff).trans e2,e3.mono lep,fun j r y hj hy=>?_⟩;obtain⟨i,z,_,_,k2,_,k4,k5,_⟩:=new j r hj;rw[k5]at hy;cases hy;exact fun k6=>E.off _ hlt hoff i _ _ k2 k4 k6.symm
  | some b' =>
    obtain⟨l1,l2,r,l3,l4,y,l5,l6,l7⟩:=K hm;rw[k]at l1;cases l1;subst l3;have hg:=rY h3 y l5;rw[l6,l7]at hg;obtain⟨z,o',f1,f2,f3⟩:=H1.live m _ hg;have f1':=f1;rw[qlo m l2,e1]at f1;cases f1;refine⟨x,o',e1,f2,(uv f3 l4).mono (zt fun i hi=>by rw[lo i (by omega),qlo i hi]),fun j r' y' hj hy=>?_⟩;obtain⟨i,z,_,k1,k2,k3,k4,k5,_⟩:=new j r' hj;rw[k5]at hy;cases hy;intro k6;have:=H1.inj m i _ _ _ _ hg k2 f1' k4 k6;omega
 refine⟨p',⟨lep,E.os,E.tape,E.output,E.size,fun b hb ho=>E.old b hb ?_,fun b hb ho m c x hm hx=>?_,by rw[vX];omega,fun i hi=>lo i hi⟩,⟨fun i hi'=>?_,fun m b hm=>?_,fun m m' b b' x y hm hm' hx hy hr=>?_⟩,BO ren e.u v V1⟩
 ·intro i c x k1 k2;obtain⟨l1,l2,_⟩:=K k1;rw[b9 l2]at k2;exact ho i c x l1 k2
 ·have hoff:Off (p.cut e.n0) e.heap b:=fun i c x k1 k2=>by
   obtain⟨l1,l2,_⟩:=K k1;rw[b9 l2]at k2;exact ho i c x l1 k2
  rcases hZ _ _ _ _ _ hm with⟨k1,_⟩|⟨j,r,rfl,k2,rfl⟩
  ·have:=H'.lt k1;rw[lo m this]at hx;exact ho m c x k1 hx
  ·obtain⟨i,y,_,_,k3,_,k4,k5,_⟩:=new j r k2;rw[k5]at hx;cases hx;exact E.off b hb hoff i _ _ k3 k4
 ·rw[vX]at hi';rw[hi i (by omega)];have:s.getD (i-h.n) 1000000000=1000000000:=by
   simp[List.getD,List.getElem?_eq_none (show s.length<=i-h.n by omega)]
  rw[this];exact H1.fresh _ h4
 ·rcases hZ _ _ _ _ _ hm with⟨k1,_⟩|⟨j,r,rfl,k2,rfl⟩
  ·obtain⟨x,o,l1,l2,l3,_⟩:=old m b k1;exact⟨x,o,lep _ _ l1,l2,l3⟩
  ·obtain⟨i,y,o,_,_,_,_,k5,k6,k7⟩:=new j r k2;refine⟨y,o,k5,k6,?_⟩;obtain⟨a,c,d,f,e1,e2,e3,e4⟩:=k7;exact⟨a,c,d,f,e1,e2,DB ren e3,e4⟩
 ·rcases hZ _ _ _ _ _ hm with⟨k1,_⟩|⟨j,r,rfl,k2,rfl⟩
  ·rcases hZ _ _ _ _ _ hm' with⟨l1,_⟩|⟨j',r',rfl,l2,rfl⟩
   ·rw[lo m (H'.lt k1)]at hx;rw[lo m' (H'.lt l1)]at hy;exact H'.inj m m' b b' x y k1 l1 hx hy hr
   ·obtain⟨x',o,f1,_,_,f4⟩:=old m b k1;rw[lep _ _ f1]at hx;cases hx;exact absurd hr (f4 j' r' y l2 hy)
  ·rcases hZ _ _ _ _ _ hm' with⟨l1,_⟩|⟨j',r',rfl,l2,rfl⟩
   ·obtain⟨x',o,f1,_,_,f4⟩:=old m' b' l1;rw[lep _ _ f1]at hy;cases hy;exact absurd hr.symm (f4 j r x k2 hx)
   ·obtain⟨i,y1,_,a1,a2,_,a4,a5,_⟩:=new j r k2;obtain⟨i',y2,_,b1,b2,_,b4,b5,_⟩:=new j' r' l2;rw[a5]at hx;cases hx;rw[b5]at hy;cases hy;have:=H1.inj i i' _ _ x y a2 b2 a4 b4 hr;subst this;rw[u2 j j' i a1 b1]
end
def gi(P:Program)(e:ME):Prop:=e.stat=G6/\∃(s:List Nat) (r:R VH),e.ran s r=G6/\∀u g,r=.ok (.mk u g)->∀p w vs,HR p e.heap w.heap->VRs p vs e.args->OpR P p e.heap w ((callFunc e.f vs.toArray).run P w) u g
theorem Fs {e:ME}(he:gi P e){f:FuncId}{us:List Value}{h:H}(hit:e.hit f us h=G6){w:World}{vs:List Value}(H':HR p h w.heap)(V':VRs p vs us):
 OpR P p h w ((callFunc f vs.toArray).run P w) (jg (bet e.n0 h.n) e.u) (news (bet e.n0 h.n) e.new h):=by
 obtain⟨hs,s,r,hr,hc⟩:=he;obtain⟨t1,hit⟩:=eT (show(Hj G7 (Hj G7 (Hj G7 (kb h e.rows) (Nat.ble e.n0 h.n)) (vls us e.args)) (Ib f e.f):Bool)=G6 from hit);obtain⟨t2,hit⟩:=eT hit;obtain⟨t3,t4⟩:=eT hit;have t1:f=e.f:=by rw[Nat.beq_eq]at t1;exact t1
 have t2:=vW t2;subst t1;subst t2;have t3:=dK t3;cases r with
 |error _=>cases hr
 | ok y =>
   obtain⟨u',g⟩:=y;have ha:kg e.n0 e.args=true:=by
    unfold ME.stat at hs;rw[Ik]at hs;exact hs.1
   rcases hc u' g rfl (p.cut e.n0) w vs (DC hs t4 t3 H') (BP V' ha)with⟨q,w',v,k1,k2,k3,k4⟩|⟨f',args,k1,k2⟩
   ·obtain⟨p',l1,l2,l3⟩:=xE hs hr t4 t3 H' k2 k3 k4;exact .inl ⟨p',w',v,k1,l1,l2,l3⟩
   ·refine .inr ⟨f',args,k1,k2.mono fun en w' ⟨q,v,m1,m2,m3,m4⟩=>?_⟩;obtain⟨p',l1,l2,l3⟩:=xE hs hr t4 t3 H' m2 m3 m4;exact⟨p',v,m1,l1,l2,l3⟩
theorem rZ {rest:Orc}(O:qs P rest):∀{l:List ME},(∀e∈l,gi P e)->qs P (iN l rest)
 |[],_=>O
 | e :: l, hl => fun f us h u g k p w vs H' V' => by
   have k:(Hj (iN l rest P f us h) (G5 (e.use h)) (e.hit f us h):Option (R VH))=G5 (.ok (.mk u g)):=k;cases hb:e.hit f us h with
   |false=>rw[hb]at k;exact rZ O (fun e he=>hl e (by simp[he])) f us h u g k p w vs H' V'
   | true =>
     rw[hb]at k;have k:G5 (e.use h)=G5 (.ok (.mk u g)):=k;cases k;exact Fs (hl e (by simp)) hb H' V'
theorem Gl {orc:Orc}(hm:P.follows .mixedOrders=G6)(hn:uq P)(O:qs P orc){e:ME}(big n:Nat)(s:List Nat)(hs:e.stat=G6)(hr:e.ran s (dN P orc big n e.f e.args e.heap)=G6):gi P e:=
 ⟨hs,s,_,hr,fun u g k p w vs H' V'=>ll hm hn O n e.f e.args e.heap u g k p w vs H' V'⟩
end Go.Ev
