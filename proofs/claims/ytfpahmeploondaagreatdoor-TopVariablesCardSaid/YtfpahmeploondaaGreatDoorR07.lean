/- Walks and plain facts for the law on type variables, for all values and types that the heap holds (texts K2 M6 V2 M9 K3 K4 K5 K7 K8 V5). -/
import Derived.Test.YtfpahmeploondaaGreatDoorR03
import Derived.Test.YtfpahmeploondaaGreatDoorR05
import Derived.Test.YtfpahmeploondaaGreatDoorR06
set_option linter.unusedVariables false
set_option linter.unusedSimpArgs false
set_option maxHeartbeats 64000000
open Option renaming none -> G0, some -> G5
open Bool renaming true -> G6, false -> G7
open Go.Value renaming slice -> GU, string -> GW, int -> GX
open Go.IntKind renaming i64 -> GZ
open List renaming getElem_cons_zero -> JK, mem_iff_getElem -> IZ, length_append -> Ii, all_eq_true -> Ij, getElem_mem -> Ip, length_drop -> I4, mem_cons -> Ix, mem_map -> IW
open Bool renaming and_eq_false_iff -> Jo, eq_false_iff -> IA, and_eq_true -> Ik, or_eq_true -> IE
open Int renaming toNat_natCast -> JF
open Nat renaming le_refl -> G8
namespace Go.Proofs.YtfpahmeploondaaGreatDoor
open Go.RowKit
set_option maxRecDepth 100000
def IR(x:Int)(w:World)(e:Ending)(w':World):Prop:=e=.returned (GX GZ x)/\Below w.heap.size w w'
theorem kG {α:Type}{f:α->α->Int}:∀{a b:List α} {k:Nat} (h1:k<a.length) (h2:k<b.length),(∀j (h1:j<a.length) (h2:j<b.length),j<k->f a[j] b[j]=0)->f a[k] b[k]≠0->ec f a b=f a[k] b[k]
 |[],_,k,h1,_,_,_=>by simp at h1
 |_::_,[],k,_,h2,_,_=>by simp at h2
 |x::r,y::s,0,_,_,_,h=>by simp only[JK]at h ⊢;simp[ec,nz,h]
 | x :: r, y :: s, k + 1, h1, h2, hz, h => by
   have h0:=hz 0 (by simp) (by simp) (by omega);simp only[JK]at h0;simp only[List.getElem_cons_succ]at h ⊢;rw[ec,nz,if_pos h0];exact kG (by simpa using h1) (by simpa using h2) (fun j g1 g2 hj=>by have:=hz (j+1) (by simpa using g1) (by simpa using g2) (by omega);simpa using this) h
theorem iW {α:Type}{f:α->α->Int}:∀{a b:List α},(∀j (h1:j<a.length) (h2:j<b.length),f a[j] b[j]=0)->ec f a b=0
 |[],_,_=>by simp[ec]
 |_::_,[],_=>by simp[ec]
 | x :: r, y :: s, hz => by
   have h0:=hz 0 (by simp) (by simp);simp only[JK]at h0;rw[ec,nz,if_pos h0];exact iW fun j g1 g2=>by have:=hz (j+1) (by simpa using g1) (by simpa using g2);simpa using this
theorem zJ {T:Ty}{V:VV}{n:TN}(h1:∀j (h:j<n.fields.length),(n.fields[j].opt||V.keys.any fun k=>decide (k=n.fields[j].key))=G6)
 (h2:∀j (h:j<V.keys.length) (h2:j<V.kids.length),mem T V.kids[j] (atN n V.keys[j])=G6):mapA (mem T) V n=true:=by
 unfold mapA;rw[Ik,Ij,Ij];refine⟨fun f hf=>?_,fun p hp=>?_⟩
 ·obtain⟨j,hj,rfl⟩:=IZ.1 hf;exact h1 j hj
 ·obtain⟨j,hj,rfl⟩:=IZ.1 hp;rw[List.getElem_zip];rw[List.length_zip]at hj;exact h2 j (by omega) (by omega)
theorem uS {T:Ty}{V:VV}{n:TN}{j:Nat}(h:j<n.fields.length)(h1:(n.fields[j].opt||V.keys.any fun k=>decide (k=n.fields[j].key))=G7):mapA (mem T) V n=false:=by
 unfold mapA;rw[Jo];left;rw[IA];intro h2;rw[Ij]at h2;rw[h2 _ (Ip h)]at h1;cases h1
theorem uT {T:Ty}{V:VV}{n:TN}{j:Nat}(h:j<V.keys.length)(h2:j<V.kids.length)(h1:mem T V.kids[j] (atN n V.keys[j])=G7):mapA (mem T) V n=false:=by
 unfold mapA;rw[Jo];right;rw[IA];intro h3;rw[Ij]at h3;have hj:j<(V.keys.zip V.kids).length:=by rw[List.length_zip];omega
 have:=h3 _ (Ip hj);rw[List.getElem_zip]at this;rw[this]at h1;cases h1
inductive BW (T:Ty):Nat->Nat->Prop
 |one {i k:Nat}:i<T.len->(T.node (i:Nat)).bool=G6->(k:Int)∈(T.node (i:Nat)).kids->BW T i k
 |step {i j k:Nat}:BW T i j->j<T.len->(T.node (j:Nat)).bool=G6->(k:Int)∈(T.node (j:Nat)).kids->BW T i k
theorem BW.rk {T:Ty}{rk:Nat->Nat}(h:RkT T rk){i k:Nat}(w:BW T i k):rk k<rk i:=by
 induction w with
 |one hi hb hk=>exact h _ hi hb _ hk
 |step _ hj hb hk ih=>have:=h _ hj hb _ hk;simp only[JF]at this;omega
theorem BW.cyc {T:Ty}{i:Nat}(w:BW T i i): ¬Ctr T:=fun⟨rk,h⟩=>by have:=w.rk h;omega
def iX(T:Ty):Prop:=∀i,i<T.len->(T.node (i:Nat)).bool=G6->∀k∈(T.node (i:Nat)).kids,T.has k=G6
theorem gt {T:Ty}{k:Int}(h:T.has k=G6):∃m:Nat,k=(m:Int)/\m<T.len:=by
 obtain⟨h0,h1⟩:=has_iff.1 h;exact⟨k.toNat,by omega,by omega⟩
structure DfI(T:Ty)(f:Nat->Int)(O:List Nat):Prop where
 range:∀i,i<T.len->f i=0\/f i=1\/f i=2
 opn:∀i,i<T.len->f i=1->i∈O
 all:∀i∈O,i<T.len/\f i=1
 rk:∃rk:Nat->Nat,∀i,i<T.len->f i=2->∀k:Nat,(k:Int)∈(T.node (i:Nat)).kids->(T.node (k:Nat)).bool=G6->f k=2/\rk k<rk i
theorem DfI.start(T:Ty):DfI T (fun _=>0) []:=⟨fun _ _=>.inl rfl,fun _ _ h=>by simp at h,fun _ h=>by simp at h,fun _=>0,fun _ _ h=>by simp at h⟩
theorem DfI.push {T:Ty}{f:Nat->Int}{O:List Nat}(h:DfI T f O){i:Nat}(hi:i<T.len)(h0:f i=0):DfI T (fun m=>if m=i then 1 else f m) (i::O):=by
 refine⟨fun m hm=>?_,fun m hm h1=>?_,fun m hm=>?_,?_⟩
 ·by_cases e:m=i
  ·simp[e]
  ·simp[e,h.range m hm]
 ·by_cases e:m=i
  ·simp[e]
  ·exact List.mem_cons_of_mem _ (h.opn m hm (by simpa[e]using h1))
 ·rcases Ix.1 hm with rfl|hm
  ·exact⟨hi,by simp⟩
  ·obtain⟨h1,h2⟩:=h.all m hm;refine⟨h1,?_⟩;by_cases e:m=i
   ·simp[e]
   ·simp[e,h2]
 ·obtain⟨rk,hr⟩:=h.rk;refine⟨rk,fun m hm h2 k hk hb=>?_⟩;by_cases e:m=i
  ·simp[e]at h2
  ·obtain⟨g1,g2⟩:=hr m hm (by simpa[e]using h2) k hk hb;refine⟨?_,g2⟩;by_cases e2:k=i
   ·subst e2;omega
   ·simp[e2,g1]
theorem DfI.pop {T:Ty}{f:Nat->Int}{O:List Nat}{i:Nat}(h:DfI T f (i::O))(hO:i∉O)(hk:∀k:Nat,(k:Int)∈(T.node (i:Nat)).kids->(T.node (k:Nat)).bool=G6->f k=2):
 DfI T (fun m=>if m=i then 2 else f m) O:=by
 obtain⟨hi,h1⟩:=h.all i (by simp);refine⟨fun m hm=>?_,fun m hm h2=>?_,fun m hm=>?_,?_⟩
 ·by_cases e:m=i
  ·simp[e]
  ·simp[e,h.range m hm]
 ·by_cases e:m=i
  ·simp[e]at h2
  ·rcases Ix.1 (h.opn m hm (by simpa[e]using h2))with g|g
   ·exact absurd g e
   ·exact g
 ·obtain⟨g1,g2⟩:=h.all m (List.mem_cons_of_mem _ hm);refine⟨g1,?_⟩;have e:m≠i:=fun e=>hO (e▸hm)
  simp[e,g2]
 ·obtain⟨rk,hr⟩:=h.rk;refine⟨fun m=>if m=i then((T.node (i:Nat)).kids.map fun k=>rk k.toNat).foldl max 0+1 else rk m,fun m hm h2 k hk2 hb=>?_⟩;by_cases e:m=i
  ·subst e;have g:=hk k hk2 hb;have e2:k≠m:=fun e=>by subst e;omega
   refine⟨by simp[e2,g],?_⟩;have:=(iq ((T.node (m:Nat)).kids.map fun k=>rk k.toNat) 0).2 (rk k) (IW.2 ⟨_,hk2,by simp⟩);simp only[e2,if_false,if_true];omega
  ·obtain⟨g1,g2⟩:=hr m hm (by simpa[e]using h2) k hk2 hb;have e2:k≠i:=fun e=>by subst e;omega
   exact⟨by simp[e2,g1],by simp[e,e2,g2]⟩
theorem DfI.done {T:Ty}{f:Nat->Int}(h:DfI T f [])(hk:iX T)(ha:∀i,i<T.len->(T.node (i:Nat)).bool=G6->f i=2):Ctr T:=by
 obtain⟨rk,hr⟩:=h.rk;refine⟨fun m=>if(T.node (m:Nat)).bool then rk m+1 else 0,fun i hi hb k hk2=>?_⟩;obtain⟨m,rfl,hm⟩:=gt (hk i hi hb k hk2);simp only[JF,hb,if_true];cases hbm:(T.node (m:Nat)).bool
 ·simp
 ·have:=(hr i hi (ha i hi hb) m hk2 hbm).2;simp;omega
def mn(n:Nat)(f:Nat->Int):Nat:=(List.range n).countP fun i=>decide (f i=0)
theorem zK {n:Nat}{f g:Nat->Int}(h:∀i,i<n->g i=0->f i=0){i:Nat}(hi:i<n)(h1:f i=0)(h2:g i≠0):mn n g<mn n f:=by
 unfold mn
 induction n with
 |zero=>omega
 | succ n ih =>
   rw[List.range_succ,List.countP_append,List.countP_append];simp only[List.countP_cons,List.countP_nil,Nat.zero_add,decide_eq_true_eq];have key:∀m,(∀i,i<m->g i=0->f i=0)->(List.range m).countP (fun i=>decide (g i=0))<=(List.range m).countP (fun i=>decide (f i=0)):=fun m hm=>by
    refine List.countP_mono_left fun x hx h3=>?_
    have:=hm x (List.mem_range.1 hx) (by simpa using h3);simpa using this
   by_cases e:i=n
   ·subst e;have:=key i fun m hm=>h m (by omega)
    rw[if_neg h2,if_pos h1];omega
   ·have:=ih (fun m hm=>h m (by omega)) (by omega);by_cases g0:g n=0
    ·rw[if_pos g0,if_pos (h n (by omega) g0)];omega
    ·rw[if_neg g0];omega
structure RoI(T:Ty)(g:Nat->Bool):Prop where
 rk:∃rk:Nat->Nat,∀i,i<T.len->g i=G6->(T.node (i:Nat)).bool=G6->∀k:Nat,(k:Int)∈(T.node (i:Nat)).kids->g k=G6/\rk k<rk i
def okR(T:Ty)(g:Nat->Bool)(i:Nat):Bool:= !(T.node (i:Nat)).bool||(T.node (i:Nat)).kids.all fun k=>g k.toNat
def iY(T:Ty)(g:Nat->Bool)(i:Nat):Nat->Bool:=fun m=>if m=i then g i||okR T g i else g m
def dS(T:Ty)(g:Nat->Bool)(k:Nat):Nat->Bool:=(List.range k).foldl (iY T) g
theorem fk(T:Ty)(g:Nat->Bool)(k:Nat):dS T g (k+1)=iY T (dS T g k) k:=by unfold dS;rw[List.range_succ,List.foldl_append];rfl
def itR(T:Ty):Nat->Nat->Bool
 |0=>fun _=>G7
 |r+1=>dS T (itR T r) T.len
theorem iu {T:Ty}{g:Nat->Bool}{i m:Nat}(h:g m=G6):iY T g i m=true:=by
 unfold iY;by_cases e:m=i
 ·subst e;simp[h]
 ·simp[e,h]
theorem gu {T:Ty}{g:Nat->Bool}{m:Nat}(h:g m=G6):∀k,dS T g k m=G6
 |0=>by unfold dS;simpa using h
 |k+1=>by rw[fk];exact iu (gu h k)
theorem RoI.start(T:Ty):RoI T fun _=>false:=⟨fun _=>0,fun _ _ h=>by simp at h⟩
theorem RoI.step {T:Ty}(hk:iX T){g:Nat->Bool}(h:RoI T g){i:Nat}(hi:i<T.len):RoI T (iY T g i):=by
 obtain⟨rk,hr⟩:=h.rk;by_cases hg:g i=G6
 ·have e:iY T g i=g:=by
   funext m;unfold iY;by_cases e:m=i
   ·subst e;simp[hg]
   ·simp[e]
  rw[e];exact h
 ·refine⟨fun m=>if m=i then((T.node (i:Nat)).kids.map fun k=>rk k.toNat).foldl max 0+1 else rk m,fun m hm h2 hb k hk2=>?_⟩;by_cases e:m=i
  ·subst e;have hok:okR T g m=true:=by
    unfold iY at h2;simpa[hg]using h2
   have g1:g k=true:=by
    unfold okR at hok;rw[hb,Bool.not_true,Bool.false_or,Ij]at hok;simpa using hok _ hk2
   have e2:k≠m:=fun e=>by subst e;exact hg g1
   refine⟨iu g1,?_⟩;have:=(iq ((T.node (m:Nat)).kids.map fun k=>rk k.toNat) 0).2 (rk k) (IW.2 ⟨_,hk2,by simp⟩);simp only[e2,if_false,if_true];omega
  ·have h3:g m=true:=by unfold iY at h2;simpa[e]using h2
   obtain⟨g1,g2⟩:=hr m hm h3 hb k hk2;have e2:k≠i:=fun e=>by subst e;exact hg g1
   exact⟨iu g1,by simp[e,e2,g2]⟩
theorem RoI.round {T:Ty}(hk:iX T){g:Nat->Bool}(h:RoI T g):∀k,k<=T.len->RoI T (dS T g k)
 |0,_=>by unfold dS;simpa using h
 |k+1,hl=>by rw[fk];exact(RoI.round hk h k (by omega)).step hk (by omega)
theorem RoI.it {T:Ty}(hk:iX T):∀r,RoI T (itR T r)
 |0=>RoI.start T
 |r+1=>(RoI.it hk r).round hk _ (G8 _)
theorem RoI.ctr {T:Ty}{g:Nat->Bool}(h:RoI T g)(hk:iX T)(ha:∀i,i<T.len->g i=G6):Ctr T:=by
 obtain⟨rk,hr⟩:=h.rk;refine⟨rk,fun i hi hb k hk2=>?_⟩;obtain⟨m,rfl,hm⟩:=gt (hk i hi hb k hk2);exact(hr i hi (ha i hi) hb m hk2).2
def gv(n:Nat)(g:Nat->Bool):Nat:=(List.range n).countP g
theorem zL(n:Nat)(g:Nat->Bool):gv n g<=n:=by have:=List.countP_le_length (p:=g) (l:=List.range n);simpa[gv]using this
theorem sL {g h:Nat->Bool}:∀{n:Nat},(∀i,i<n->g i=G6->h i=G6)->(∃i,i<n/\g i=G7/\h i=G6)->gv n g<gv n h
 |0,_,⟨i,hi,_⟩=>by omega
 | n + 1, hs, ⟨i, hi, h1, h2⟩ => by
   have s:∀q:Nat->Bool,gv (n+1) q=gv n q+if q n then 1 else 0:=fun q=>by
    simp[gv,List.range_succ,List.countP_append,List.countP_cons]
   rw[s,s];by_cases e:i=n
   ·subst e;have:gv i g<=gv i h:=List.countP_mono_left fun x hx=>hs x (by have:=List.mem_range.1 hx;omega)
    simp[h1,h2];omega
   ·have:=sL (n:=n) (fun x hx=>hs x (by omega)) ⟨i,by omega,h1,h2⟩;have h3:=hs n (by omega);cases hg:g n
    ·simp;omega
    ·simp[h3 hg];omega
theorem uU {T:Ty}(hk:iX T)(hc:Ctr T){g:Nat->Bool}(hn:∃i,i<T.len/\g i=G7):gv T.len g<gv T.len (dS T g T.len):=by
 obtain⟨rk,hr⟩:=hc;refine sL (fun i _ h=>gu h _) ?_;have key:∀m i,rk i<=m->i<T.len->g i=G7->∃j,j<T.len/\g j=G7/\∀k∈(T.node (j:Nat)).kids,(T.node (j:Nat)).bool=G6->g k.toNat=true:=by
  intro m
  induction m with
  | zero =>
    intro i hm hi hg;refine⟨i,hi,hg,fun k hk2 hb=>?_⟩;have:=hr i hi hb k hk2;omega
  | succ m ih =>
    intro i hm hi hg;by_cases ha:∀k∈(T.node (i:Nat)).kids,(T.node (i:Nat)).bool=G6->g k.toNat=G6
    ·exact⟨i,hi,hg,ha⟩
    ·obtain⟨k,h1⟩:=Classical.not_forall.1 ha;obtain⟨hk2,h2⟩:=Classical.not_imp.1 h1;obtain⟨hb,h3⟩:=Classical.not_imp.1 h2;obtain⟨q,rfl,hq⟩:=gt (hk i hi hb k hk2);have:=hr i hi hb _ hk2;simp only[JF]at h3 this;exact ih q (by omega) hq (by cases h:g q<;>simp_all)
 obtain⟨i,hi,hg⟩:=hn;obtain⟨j,hj,h1,h2⟩:=key _ i (G8 _) hi hg;refine⟨j,hj,h1,?_⟩;have h3:dS T g (j+1) j=true:=by
  rw[fk];unfold iY okR;rw[if_pos rfl];cases hb:(T.node (j:Nat)).bool
  ·simp
  ·simp only[Bool.not_true,Bool.false_or,IE,Ij];exact .inr fun k hk2=>gu (h2 k hk2 hb) _
 have h4:∀d,dS T g (j+1+d) j=true:=by
  intro d
  induction d with
  |zero=>exact h3
  |succ d ih=>rw[<-Nat.add_assoc,fk];exact iu ih
 have:=h4 (T.len-(j+1));rwa[show j+1+(T.len-(j+1))=T.len by omega]at this
theorem uV {T:Ty}(hk:iX T):(∀i,i<T.len->itR T T.len i=G6)<->Ctr T:=by
 refine⟨fun h=>(RoI.it hk _).ctr hk h,fun hc=>?_⟩;have key:∀r,(∀i,i<T.len->itR T r i=G6)\/r<=gv T.len (itR T r):=by
  intro r
  induction r with
  |zero=>exact .inr (Nat.zero_le _)
  | succ r ih =>
    by_cases ha:∀i,i<T.len->itR T r i=G6
    ·exact .inl fun i hi=>gu (ha i hi) _
    ·obtain⟨i,h1⟩:=Classical.not_forall.1 ha;obtain⟨hi,h2⟩:=Classical.not_imp.1 h1;have h3:=uU hk hc (g:=itR T r) ⟨i,hi,by cases h:itR T r i<;>simp_all⟩;rcases ih with h|h
     ·exact absurd h ha
     ·exact .inr (by show r+1<=gv T.len (dS T (itR T r) T.len);omega)
 rcases key T.len with h|h
 ·exact h
 ·intro i hi;have h2:=zL T.len (itR T T.len);have h3:gv T.len (itR T T.len)=(List.range T.len).length:=by rw[List.length_range];omega
  have:=List.countP_eq_length.1 h3 i (List.mem_range.2 hi);simpa using this
open Go.RowKit Go.Ident
theorem lD {V x:VV}(h:V.valid=G6)(hx:x∈V.kids):x.valid=true:=by
 rw[fT,Ik,Ik,Ij]at h;exact h.2.1 x hx
theorem lE {V:VV}{e:EE}(h:V.valid=G6)(he:e∈V.ents):(∀x∈e.args,x.valid=G6)/\(e.fails=G7->e.res.valid=G6):=by
 rw[fT,Ik,Ik,Ij,Ij]at h;have h2:=h.2.2 e he;rw[jR,Ik,Ij,IE]at h2;exact⟨h2.1,fun hf=>by rcases h2.2 with g|g<;>simp_all⟩
theorem jU {V:VV}(h:V.valid=G6):bT V=true:=by rw[fT,Ik]at h;exact h.1
theorem ye {V:VV}(h:V.valid=G6)(hk:V.kind=8):V.keys.length=V.kids.length:=by
 have h1:=jU h;unfold bT at h1;simp[hk]at h1;exact h1.2.1
theorem yf {V:VV}(h:V.valid=G6):∀k∈V.keys,k.kind=0\/k.kind=1:=by
 intro k hkm;have h1:=jU h;unfold bT at h1;by_cases hk:V.kind=8
 ·simp[hk]at h1;have h2:=h1.2.2.2 k hkm;unfold dq at h2;split at h2
  ·rename_i h0;exact .inl h0
  ·split at h2
   ·rename_i h0;exact .inr h0
   ·cases h2
 ·simp[hk]at h1;have:V.keys=[]:=h1.1.2.1.2;rw[this]at hkm;cases hkm
theorem uW {n:TN}(h:bj n=G6):1<=n.kind/\n.kind<=19:=by
 unfold bj at h
 (repeat' split at h)<;>first|omega|(simp at h;omega)
structure NodeT(T:Ty)(n:TN):Prop where
 plain:bR n=G6
 kind:bj n=G6
 edges:∀k∈bq n,T.has k=G6
theorem nodeT_iff {T:Ty}{n:TN}:bB T n=G6<->NodeT T n:=by
 unfold bB;rw[Ik,Ik,Ij];exact⟨fun⟨⟨a,b⟩,c⟩=>⟨a,b,c⟩,fun⟨a,b,c⟩=>⟨⟨a,b⟩,c⟩⟩
theorem NodeT.kids {T:Ty}{n:TN}(h:NodeT T n):∀k∈n.kids,T.has k=true:=fun k hk=>h.edges k (by unfold bq;simp[hk])
theorem NodeT.at {T:Ty}{n:TN}(h:NodeT T n)(hk:n.kind=13)(k:KK):T.has (atN n k)=true:=by
 unfold atN;cases hf:n.fields.find? fun f=>decide (f.key=k)with
 | some f =>
   refine h.edges _ ?_;have:=List.mem_of_find?_eq_some hf;unfold bq;simp only[List.mem_append,IW];exact .inr (.inl ⟨f,this,rfl⟩)
 | none =>
   simp only;split
   ·exact h.edges _ (by unfold bq;simp[hk])
   ·exact h.edges _ (by unfold bq;simp[hk])
theorem WfT.node {T:Ty}(h:WfT T){i:Nat}(hi:i<T.nodes.length):NodeT T (T.node (i:Nat)):=nodeT_iff.1 (h.nodes _ (by rw[T.node_at hi];exact Ip hi))
theorem jV {a b:Int}(h:a≠0):nz a b=a:=by unfold nz;rw[if_neg h]
theorem lF {a b:Int}(h:a=0):nz a b=b:=by unfold nz;rw[if_pos h]
theorem fU(w:World):VS w 1 zeroV [GX GZ 0,GX GZ 0,GW ⟨#[]⟩,GU G0 0 0,GU G0 0 0,GU G0 0 0,GU G0 0 0]:=
 ⟨G0,0,G0,0,G0,0,G0,0,rfl,Rw.nil _ _ _ _ _,Rw.nil _ _ _ _ _,Rw.nil _ _ _ _ _,Rw.nil _ _ _ _ _⟩
theorem Cy(x:Int):(x==0)=decide (x=0):=by rw[Bool.eq_iff_iff];simp
theorem asc_iff {α:Type}{f:α->α->Int}:∀{l:List α},bV f l=G6<->∀j (h:j+1<l.length),f (l[j]'(by omega)) l[j+1]<0
 |[]=>by simp[bV]
 |[x]=>by simp[bV]
 | x :: y :: r => by
   rw[bV,Ik,decide_eq_true_eq,asc_iff (l:=y::r)];constructor
   ·rintro⟨h1,h2⟩ j hj;cases j with
    |zero=>exact h1
    |succ j=>exact h2 j (by simpa using hj)
   ·intro h;exact⟨h 0 (by simp),fun j hj=>h (j+1) (by simpa using hj)⟩
theorem gH {α:Type}{p:α->Bool}{L:List α}{k:Nat}(h:k<L.length):(L.take (k+1)).all p=((L.take k).all p&&p L[k]):=by
 rw[List.take_succ_eq_append_getElem h,List.all_append];simp
theorem iZ {α:Type}{p:α->Bool}{L:List α}{k:Nat}(h:k<L.length)(hp:p L[k]=G7):L.all p=false:=by
 rw[IA];intro h2;rw[Ij]at h2;rw[h2 _ (Ip h)]at hp;cases hp
def jH(l:List ByteArray):Bool:=bV bD l&&l.all fun s=>dG s.data.toList
theorem aV {P:Program}{fn:Func}{p u:Tmp}{ty:TypeId}(h:fn.results= #[.cell p ty,.tmp u])(tmps:Array Value)(w:World)(g:Nat)(t:TypeId)(cs:Array Value)(fr:Nat×Nat)(d:TypeDesc)
 (hp:tmps.getD p undef=.pointer (G5 ⟨g,0,G0⟩)) (hg:w.heap[g]? =G5 (.cells cs t fr))
 (hu:P.underlying ty=G5 d) (hd:(match d with| .struct _| .array _ _=>G6|_=>G7)=G6) (hi:(P.info? ty).map (·.size)=G5 cs.size):
 (results fn tmps).run P w=.ok (.tuple #[.agg cs,tmps.getD u undef]) w:=by
 have hp':tmps[p]?.getD undef=.pointer (G5 ⟨g,0,G0⟩):=by simpa using hp
 simp[results,h,hp',asAddr,run_loadVar_row w g t ty cs fr d hg hu hd hi]
theorem aR {B:Nat}{w a:World}{g:Nat}{cs:Array Value}(h:Below B w a)(hB:B<=g):Below B w (a.setRow g cs):=
 ⟨h.os, h.tape, h.output, by rw [size_setRow]; exact h.size, fun k hk => by
   rw[<-h.block k hk];simp only[World.setRow,Array.getElem?_modify];rw[if_neg (by omega)]⟩
theorem yg(s:ByteArray):(s.toList !=[])= !decide (s.size=0):=by
 have h:s.toList=s.data.toList:=ByteArray.toList_eq s;rw[h];have:s.size=s.data.toList.length:=by show s.data.size=_;simp
 rw[this];cases s.data.toList<;>simp
theorem cP(s:ByteArray):s.toList.isEmpty=decide (s.size=0):=by
 have h:=yg s;generalize decide (s.size=0)=d at*
 cases hl:s.toList with
 |nil=>rw[hl]at h;cases d<;>simp_all
 |cons x r=>rw[hl]at h;cases d<;>simp_all
end Go.Proofs.YtfpahmeploondaaGreatDoor
namespace Go.Proofs.YtfpahmeploondaaGreatDoor
open Go.RowKit Go.Ident
set_option maxRecDepth 100000
def pen(l:List ByteArray):Nat:=if l.length<=100000 then 0 else 1000000000
@[simp] theorem jm:pen []=0:=rfl
theorem pen_le {l:List ByteArray}(h:l.length<=100000):pen l=0:=if_pos h
mutual
def VV.nodes:VV->Nat
 | .mk _ _ _ kids _ ents ls=>1+(nodesVs kids+nodesEs ents)+pen ls
def EE.nodes:EE->Nat
 | .mk args f res=>nodesVs args+(if f then 0 else res.nodes)
def nodesVs:List VV->Nat
 |[]=>0
 |x::r=>x.nodes+nodesVs r
def nodesEs:List EE->Nat
 |[]=>0
 |x::r=>x.nodes+nodesEs r
end
theorem cS:∀l,nodesVs l=(l.map VV.nodes).sum
 |[]=>by rw[nodesVs];rfl
 |x::r=>by rw[nodesVs,cS r];simp
theorem jW:∀l,nodesEs l=(l.map EE.nodes).sum
 |[]=>by rw[nodesEs];rfl
 |x::r=>by rw[nodesEs,jW r];simp
def EE.parts(e:EE):List VV:=e.args++(if e.fails then[]else[e.res])
def VV.parts(v:VV):List VV:=v.kids++v.ents.flatMap EE.parts
theorem eD(e:EE):e.nodes=(e.parts.map VV.nodes).sum:=by
 cases e with|mk a f r=>
 rw[EE.nodes,cS];show _=(((a++(if f then[]else[r])).map VV.nodes).sum)
 cases f<;>simp
theorem jX:∀l:List EE,(l.map EE.nodes).sum=((l.flatMap EE.parts).map VV.nodes).sum
 |[]=>rfl
 |e::r=>by simp[jX r,eD e]
theorem i5(v:VV):v.nodes=1+(v.parts.map VV.nodes).sum+pen v.labels:=by
 cases v with|mk k n t kids keys ents labels=>
 rw[VV.nodes,cS,jW,jX];show _=1+((kids++ents.flatMap EE.parts).map VV.nodes).sum+pen labels;simp
theorem lG(v:VV):0<v.nodes:=by rw[i5];omega
theorem qI:∀l:List VV,l.length<=(l.map VV.nodes).sum
 |[]=>by simp
 |x::r=>by have:=qI r;have:=lG x;simp;omega
theorem wD:∀{l:List VV} {x:VV},x∈l->x.nodes<=(l.map VV.nodes).sum
 | y :: r, x, h => by
   rcases Ix.1 h with rfl|h
   ·simp
   ·have:=wD h;simp;omega
theorem yh(v:VV):v.parts.length<v.nodes:=by have:=qI v.parts;rw[i5];omega
theorem nK {v x:VV}(h:x∈v.parts):x.nodes<v.nodes:=by have:=wD h;rw[i5 v];omega
def Ch {α:Type}(sz:Nat)(P:α->List Value->Prop)(L:List α)(cs:List Value):Prop:=
 cs.length=L.length*sz/\∀i (h:i<L.length),P L[i] ((cs.drop (i*sz)).take sz)
theorem Ch.nil {α:Type}{sz:Nat}{P:α->List Value->Prop}:Ch sz P [] []:=⟨by simp,fun i h=>by simp at h⟩
theorem Ch.single {α:Type}{sz:Nat}{P:α->List Value->Prop}{x:α}{cs:List Value}(hl:cs.length=sz)(h:P x cs):Ch sz P [x] cs:=by
 refine⟨by simp[hl],fun i hi=>?_⟩;obtain rfl:i=0:=by simpa using hi
 rw[Nat.zero_mul,List.drop_zero,List.take_of_length_le (by omega)];exact h
theorem Ch.append {α:Type}{sz:Nat}{P:α->List Value->Prop}{L M:List α}{cs ds:List Value}(h:Ch sz P L cs)(k:Ch sz P M ds):Ch sz P (L++M) (cs++ds):=by
 refine⟨by rw[Ii,Ii,h.1,k.1,Nat.add_mul],fun i hi=>?_⟩;by_cases hL:i<L.length
 ·rw[List.getElem_append_left hL];have h1:(i+1)*sz<=cs.length:=by rw[h.1];exact Nat.mul_le_mul_right _ hL
  rw[Nat.add_mul,Nat.one_mul]at h1;rw[List.drop_append_of_le_length (by omega),List.take_append_of_le_length (by rw[I4];omega)];exact h.2 i hL
 ·have hi2:i-L.length<M.length:=by rw[Ii]at hi;omega
  rw[List.getElem_append_right (by omega)];have h1:i*sz=cs.length+(i-L.length)*sz:=by rw[h.1,<-Nat.add_mul];congr 1;omega
  rw[h1,List.drop_append];have h2:cs.drop (cs.length+(i-L.length)*sz)=[]:=List.drop_eq_nil_of_le (by omega);rw[h2,List.nil_append,Nat.add_sub_cancel_left];exact k.2 _ hi2
theorem Ch.mono {α:Type}{sz:Nat}{P P':α->List Value->Prop}{L:List α}{cs:List Value}(h:Ch sz P L cs)(hP:∀x cs,x∈L->P x cs->P' x cs):Ch sz P' L cs:=
 ⟨h.1,fun i hi=>hP _ _ (Ip hi) (h.2 i hi)⟩
theorem Ch.cells {α:Type}{sz:Nat}{P:α->List Value->Prop}{L:List α}{cs:List Value}(h:Ch sz P L cs){R:Value->Prop}(hR:∀x cs,P x cs->∀u∈cs,R u):∀u∈cs,R u:=by
 intro u hu;obtain⟨j,hj,rfl⟩:=IZ.1 hu;have hl:=h.1;have hsz:0<sz:=by
  rcases Nat.eq_zero_or_pos sz with rfl|h
  ·simp at hl;subst hl;simp at hj
  ·exact h
 have hi:j/sz<L.length:=by rw[Nat.div_lt_iff_lt_mul hsz];omega
 refine hR _ _ (h.2 _ hi) _ ?_;have hm:j/sz*sz+j%sz=j:=by rw[Nat.mul_comm];exact Nat.div_add_mod j sz
 have hlt:=Nat.mod_lt j hsz;rw[IZ];refine⟨j%sz,by rw[List.length_take,I4];omega,?_⟩;simp[hm]
theorem Rw.ch {α:Type}{w:World}{p:Option Addr}{c sz:Nat}{l:List α}{P:α->List Value->Prop}(h:Rw w p c sz l P):∃cs,RC w sz p l.length cs/\Ch sz P l cs:=by
 obtain⟨_,cs,h2,h3⟩:=h;exact⟨cs,h2,h2.1,h3⟩
theorem Rw.of_ch {α:Type}{w:World}{p:Option Addr}{c sz:Nat}{l:List α}{P:α->List Value->Prop}{cs:List Value}(h:RC w sz p l.length cs)(k:Ch sz P l cs)(hc:l.length<=c)(hm:l.length<=9223372036854775807):Rw w p c sz l P:=
 ⟨⟨hc,hm⟩,cs,h,k.2⟩
theorem eo {w:World}{B n cap size:Nat}{e:TypeId}{p:Option Addr}{xs:List Value}(h:w.ownsRow B e size (GU p n cap) n xs):n<=cap:=by
 rcases h.2 with⟨e1,h0⟩|⟨g,cap',cur,e1,_,_,h3,_⟩
 ·omega
 ·cases e1;exact h3
theorem bu {α:Type}{w:World}{B size:Nat}{e:TypeId}{v:Value}{xs:List Value}{l:List α}{P:α->List Value->Prop}(h:w.ownsRow B e size v l.length xs)(k:Ch size P l xs)(hm:l.length<=9223372036854775807):∃p c,v=GU p l.length c/\Rw w p c size l P:=by
 obtain⟨p,cap,rfl⟩:=aB h;exact⟨p,cap,rfl,Rw.of_ch (RC.of_own h) k (eo h) hm⟩
theorem VS.one {w:World}{d:Nat}{V:VV}{cs:List Value}(h:VS w d V cs):∀u∈cs,u.oneCell'=true:=by
 cases d with
 |zero=>exact h.elim
 |succ d=>obtain⟨p1,c1,p2,c2,p3,c3,p4,c4,rfl,_⟩:=h;intro u hu;simp at hu;rcases hu with rfl|rfl|rfl|rfl|rfl|rfl|rfl<;>rfl
theorem ES.one {w:World}{d:Nat}{e:EE}{cs:List Value}(h:ES w d e cs):∀u∈cs,u.oneCell'=true:=by
 obtain⟨pa,ca,rs,rfl,h1,h2⟩:=h;intro u hu;rcases Ix.1 hu with rfl|hu
 ·rfl
 rcases Ix.1 hu with rfl|hu
 ·rfl
 exact h2.one u hu
theorem cg:(Tryz.prog.info? 33).map (fun i=>(i.zero,i.size,i.bytes))=G5 (G5 (.agg #[GX GZ 0,GX GZ 0,GW ⟨#[]⟩,GU G0 0 0,GU G0 0 0,GU G0 0 0,GU G0 0 0]),7,128):=by kernel_rfl
theorem cG:(Tryz.prog.info? 68).map (fun i=>(i.zero,i.size,i.bytes))=G5 (G5 (.agg #[GU G0 0 0,.bool G7,GX GZ 0,GX GZ 0,GW ⟨#[]⟩,GU G0 0 0,GU G0 0 0,GU G0 0 0,GU G0 0 0]),9,160):=by kernel_rfl
end Go.Proofs.YtfpahmeploondaaGreatDoor
