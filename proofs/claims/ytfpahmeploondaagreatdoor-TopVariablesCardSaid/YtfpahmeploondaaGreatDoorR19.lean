/- Walks and plain facts for the law on type variables, for all values and types that the heap holds (texts Pb Ta). -/
import Derived.Laws.OwnMore
import Derived.Test.YtfpahmeploondaaGreatDoorR03
import Derived.Test.YtfpahmeploondaaGreatDoorR16
import Derived.Test.YtfpahmeploondaaGreatDoorR18
set_option linter.unusedVariables false
set_option linter.unusedSimpArgs false
set_option maxHeartbeats 64000000
open Option renaming none -> G0, some -> G5
open Bool renaming true -> G6, false -> G7
open Go.Value renaming slice -> GU, string -> GW, int -> GX
open Go.Obj renaming cells -> GY
open Go.IntKind renaming i64 -> GZ
open List renaming getElem?_append_right -> JJ, getElem?_append_left -> JL, getElem?_take_of_lt -> JH, getElem?_drop -> JB, all_eq_true -> Ij, getElem_mem -> Ip, length_take -> IN, any_eq_true -> Jw, mem_append -> Ir, length_map -> Jc, map_cons -> IY, mem_map -> IW
open Int renaming toNat_natCast -> JF
open Bool renaming and_eq_true -> Ik, eq_iff_iff -> IQ, true_and -> Jd
open Nat renaming le_refl -> G8
namespace Go.Proofs.YtfpahmeploondaaGreatDoor
open Go.Ident
def shF(d:Int)(f:FF):FF:=⟨f.key,f.node+d,f.opt⟩
def shN(d:Int)(n:TN):TN:=⟨n.kind,n.lo,n.hi,n.text,n.kids.map (· +d),n.fields.map (shF d),if n.kind=13 then n.rest0+d else n.rest0,if n.kind=13 then n.rest1+d else n.rest1⟩
theorem tf(n:TN):shN 0 n=n:=by
 obtain⟨a,b,c,t,ks,fs,r0,r1⟩:=n;have h1:ks.map (· +(0:Int))=ks:=by simp
 have h2:fs.map (shF 0)=fs:=by
  have:(shF 0)=id:=by funext f;obtain⟨k,m,o⟩:=f;simp[shF]
  rw[this,List.map_id]
 simp[shN,h1,h2]
theorem wO {s s':VV->Int->Bool}{g:VV->VV}{d:Int}:∀{l:List VV} {ks:List Int},(∀x∈l,∀k∈ks,s x (k+d)=s' (g x) k)->fi s l (ks.map (· +d))=fi s' (l.map g) ks:=by
 intro l ks h;unfold fi;rw[Jc,Jc];congr 1
 induction l generalizing ks with
 |nil=>simp
 | cons x r ih =>
   cases ks with
   |nil=>simp
   | cons k ks =>
     simp only[IY,List.zip_cons_cons,List.all_cons];rw[h x (by simp) k (by simp),ih fun y hy k hk=>h y (by simp[hy]) k (by simp[hk])]
theorem Eo {n:TN}{d:Int}(h13:n.kind=13)(k:KK):atN (shN d n) k=atN n k+d/\atN n k∈bq n:=by
 have key:∀fs:List FF,(fs.map (shF d)).find? (fun f=>decide (f.key=k))=(fs.find? fun f=>decide (f.key=k)).map (shF d):=by
  intro fs
  induction fs with
  |nil=>rfl
  | cons f r ih =>
    rw[IY,List.find?_cons,List.find?_cons];have:decide ((shF d f).key=k)=decide (f.key=k):=rfl;rw[this];cases decide (f.key=k)with
    |true=>rfl
    |false=>exact ih
 unfold atN;have e1:(shN d n).fields=n.fields.map (shF d):=rfl;have e2:(shN d n).rest0=n.rest0+d:=by simp[shN,h13]
 have e3:(shN d n).rest1=n.rest1+d:=by simp[shN,h13]
 rw[e1,e2,e3,key];cases hf:n.fields.find? (fun f=>decide (f.key=k))with
 | some f =>
   show f.node+d=f.node+d/\f.node∈bq n;refine⟨rfl,?_⟩;have:=List.mem_of_find?_eq_some hf;unfold bq;exact Ir.2 (.inr (Ir.2 (.inl (IW.2 ⟨f,this,rfl⟩))))
 | none =>
   have m:∀z,z=n.rest0\/z=n.rest1->z∈bq n:=fun z hz=>by
    unfold bq;rw[if_pos h13];exact Ir.2 (.inr (Ir.2 (.inr (by simpa using hz))))
   by_cases hk:k.kind=0
   ·exact⟨by simp[hk],by simp only[hk,if_true];exact m _ (.inl rfl)⟩
   ·exact⟨by simp[hk],by simp only[hk,if_false];exact m _ (.inr rfl)⟩
theorem wP {P Q:KK×VV->Bool}{g:VV->VV}:∀{ks:List KK} {l:List VV},(∀k x,x∈l->P (k,x)=Q (k,g x))->(ks.zip l).all P=(ks.zip (l.map g)).all Q
 |[],l,_=>by simp
 |k::ks,[],_=>by simp
 | k :: ks, x :: l, h => by
   simp only[IY,List.zip_cons_cons,List.all_cons];rw[h k x (by simp),wP fun k y hy=>h k y (by simp[hy])]
theorem fX {n:TN}{k:Int}(h:k∈n.kids):k∈bq n:=Ir.2 (.inl h)
theorem wQ {ks:List Int}{i:Nat}{d:Int}(h:i<ks.length):(ks.map (· +d)).getD i 0=ks.getD i 0+d/\ks.getD i 0∈ks:=by
 simp only[List.getD_eq_getElem?_getD,List.getElem?_map,List.getElem?_eq_getElem h,Option.map_some,Option.getD_some];exact⟨trivial,Ip h⟩
theorem CC {s s':VV->Int->Bool}{g:VV->VV}{d:Int}{ks:List Int}{e e':EE}(h1:e'.args=e.args.map g)(h2:e'.fails=e.fails)(h3:e.fails=G7->e'.res=g e.res)(hl:0<ks.length)
 (ha:∀x∈e.args,∀k∈ks,s x (k+d)=s' (g x) k) (hr:∀k∈ks,s e.res (k+d)=s' (g e.res) k):gR s (ks.map (· +d)) e=gR s' ks e':=by
 unfold gR;rw[Jc,<-List.map_take,wO fun x hx k hk=>ha x hx k (List.mem_of_mem_take hk),<-h1,h2];obtain⟨g1,g2⟩:=wQ (ks:=ks) (d:=d) (show ks.length-1<ks.length by omega);rw[g1,hr _ g2];cases hf:e.fails with
 |true=>simp
 |false=>rw[h3 hf]
theorem wR {s s':VV->Int->Bool}{v v':VV}{same same':Int->Bool}{n:TN}{d:Int}{g:VV->VV}{ge:EE->EE}(e1:v'.kind=v.kind)(e2:v'.num=v.num)(e3:v'.text=v.text)(e4:v'.keys=v.keys)(e5:v'.kids=v.kids.map g)
 (e6:∀P:EE->Bool,v'.ents.all P=v.ents.all fun e=>P (ge e)) (e7:∀e∈v.ents,(ge e).args=e.args.map g/\(ge e).fails=e.fails/\(e.fails=G7->(ge e).res=g e.res))
 (e8:n.kind=19->(v'.labels.any fun t=>decide (t=n.text))=v.labels.any fun t=>decide (t=n.text))
 (hs:∀x,x.ht<v.ht->∀k∈bq n,s x (k+d)=s' (g x) k) (hm:n.bool=G6->∀k∈n.kids,same (k+d)=same' k) (hk:bj n=G6):ed s v same (shN d n)=ed s' v' same' n:=by
 have a2:fi s v.kids (n.kids.map (· +d))=fi s' v'.kids n.kids:=by
  rw[e5];exact wO fun x hx k hk=>hs x (fS hx) k (fX hk)
 have am:n.kind=13->mapA s v (shN d n)=mapA s' v' n:=fun h13=>by
  unfold mapA;have f1:((shN d n).fields.all fun f=>f.opt||v.keys.any fun k=>decide (k=f.key))=n.fields.all fun f=>f.opt||v'.keys.any fun k=>decide (k=f.key):=by
   show((n.fields.map (shF d)).all fun f=>f.opt||v.keys.any fun k=>decide (k=f.key))=_;rw[List.all_map,e4];rfl
  rw[f1,e4,e5];congr 1;refine wP fun k x hx=>?_
  obtain⟨g1,g2⟩:=Eo (d:=d) h13 k;show s x (atN (shN d n) k)=s' (g x) (atN n k);rw[g1,hs x (fS hx) _ g2]
 have af:n.kind=14->iT s v (shN d n)=iT s' v' n:=fun h14=>by
  have hl:0<n.kids.length:=by
   unfold bj at hk;simp[h14]at hk;omega
  unfold iT;have f1:(shN d n).kids=n.kids.map (· +d):=rfl;rw[f1,Jc,e2,e6];congr 1;rw[IQ,Ij,Ij];have ke:∀e∈v.ents,gR s (n.kids.map (· +d)) e=gR s' n.kids (ge e):=fun e he=>by
   obtain⟨k1,k2,k3⟩:=e7 e he;have h2:=ip he;exact CC k1 k2 k3 hl (fun x hx k hk=>hs x (by have:=gF hx;omega) k (fX hk)) (fun k hk=>hs _ (by have:=gG e;omega) k (fX hk))
  exact⟨fun h e he=>by rw[<-ke e he];exact h e he,fun h e he=>by rw[ke e he];exact h e he⟩
 have kk:(shN d n).kind=n.kind:=rfl;unfold ed;rw[kk];by_cases c2:n.kind=2
 ·simp[c2]
 rw[if_neg c2,if_neg c2];by_cases c3:n.kind=3
 ·rw[if_pos c3,if_pos c3,e1,e2];rfl
 rw[if_neg c3,if_neg c3];by_cases c4:n.kind=4
 ·rw[if_pos c4,if_pos c4,e1,e3];rfl
 rw[if_neg c4,if_neg c4];by_cases c6:n.kind=6
 ·rw[if_pos c6,if_pos c6,e1,e3];rfl
 rw[if_neg c6,if_neg c6];by_cases c5:n.kind=5\/n.kind=7\/n.kind=8\/n.kind=9\/n.kind=11\/n.kind=15
 ·rw[if_pos c5,if_pos c5,e1]
 rw[if_neg c5,if_neg c5];by_cases c10:n.kind=10
 ·rw[if_pos c10,if_pos c10,e1,<-a2];rfl
 rw[if_neg c10,if_neg c10];by_cases c12:n.kind=12
 ·rw[if_pos c12,if_pos c12,e1,<-a2];rfl
 rw[if_neg c12,if_neg c12];by_cases c13:n.kind=13
 ·rw[if_pos c13,if_pos c13,e1,am c13]
 rw[if_neg c13,if_neg c13];by_cases c14:n.kind=14
 ·rw[if_pos c14,if_pos c14,e1,af c14]
 rw[if_neg c14,if_neg c14];by_cases c16:n.kind=16
 ·rw[if_pos c16,if_pos c16];show(n.kids.map (· +d)).any same=_;rw[List.any_map,IQ,Jw,Jw];have:=hm (by simp[TN.bool,c16]);exact⟨fun⟨x,hx,g⟩=>⟨x,hx,by rw[<-this x hx];exact g⟩,fun⟨x,hx,g⟩=>⟨x,hx,by show same (x+d)=G6;rw[this x hx];exact g⟩⟩
 rw[if_neg c16,if_neg c16];by_cases c17:n.kind=17
 ·rw[if_pos c17,if_pos c17];show(n.kids.map (· +d)).all same=_;rw[List.all_map,IQ,Ij,Ij];have:=hm (by simp[TN.bool,c17]);exact⟨fun g x hx=>by rw[<-this x hx];exact g x hx,fun g x hx=>by show same (x+d)=G6;rw[this x hx];exact g x hx⟩
 rw[if_neg c17,if_neg c17];by_cases c18:n.kind=18
 ·rw[if_pos c18,if_pos c18];have hl:0<n.kids.length:=by
   unfold bj at hk;simp[c18]at hk;omega
  obtain⟨g1,g2⟩:=wQ (d:=d) hl;show(!same ((n.kids.map (· +d)).getD 0 0))=_;rw[g1,hm (by simp[TN.bool,c18]) _ g2]
 rw[if_neg c18,if_neg c18];by_cases c19:n.kind=19
 ·rw[if_pos c19,if_pos c19,e8 c19];rfl
 rw[if_neg c19,if_neg c19]
def isA(n:TN):Bool:=decide (n.kind=19)&&decide (n.text=nA)
def sbN(r:Int)(n:TN):TN:=if isA n then⟨16,0,0,aQ,[r],[],0,0⟩else n
def sbT(T U:Ty):Ty:=⟨T.nodes.map (sbN (U.root+(T.len:Int)))++(if T.nodes.any isA then U.nodes.map (shN (T.len:Int))else[]),T.root⟩
section
variable {T U:Ty}
theorem CD:T.len<=(sbT T U).len:=by simp[Ty.len,sbT]
theorem vg {i:Nat}(h:i<T.len):(sbT T U).node (i:Nat)=sbN (U.root+(T.len:Int)) (T.node (i:Nat)):=by
 have h':i<T.nodes.length:=h;unfold Ty.node;simp[sbT,JL,h']
theorem lM(ha:T.nodes.any isA=G6):(sbT T U).len=T.len+U.len/\∀i,i<U.len->(sbT T U).node ((T.len+i:Nat):Int)=shN (T.len:Int) (U.node (i:Nat)):=by
 refine⟨by simp[Ty.len,sbT,ha],fun i hi=>?_⟩;have h':i<U.nodes.length:=hi;have e1:(sbT T U).nodes[T.nodes.length+i]? =G5 (shN (T.len:Int) U.nodes[i]):=by
  simp[sbT,ha,JJ,h']
 have e2:(sbT T U).node ((T.len+i:Nat):Int)=((sbT T U).nodes[T.nodes.length+i]?).getD sD:=by
  unfold Ty.node;rw[List.getD_eq_getElem?_getD,JF];rfl
 rw[e2,e1,U.node_at hi];rfl
theorem iD {T:Ty}(h:WfT T){i:Nat}(hi:i<T.len):bR (T.node (i:Nat))=G6/\bj (T.node (i:Nat))=G6/\∀k∈bq (T.node (i:Nat)),0<=k/\k<(T.len:Int):=by
 have h1:=h.nodes (T.node (i:Nat)) (by rw[T.node_at hi];exact Ip hi);unfold bB at h1;simp only[Ik,Ij]at h1;exact⟨h1.1.1,h1.1.2,fun k hk=>has_iff.1 (h1.2 k hk)⟩
theorem Ep {d:Int}{n:TN}:bR (shN d n)=bR n/\bj (shN d n)=bj n/\(shN d n).bool=n.bool/\∀k∈bq (shN d n),∃j∈bq n,k=j+d:=by
 refine⟨?_,?_,rfl,fun k hk=>?_⟩
 ·unfold bR;by_cases h:n.kind=13
  ·simp[shN,h]
  ·simp[shN,h]
 ·have hf:bW (n.fields.map (shF d))=bW n.fields:=by
   unfold bW;rw[List.map_map,List.all_map];rfl
  have hl:(shN d n).kids.length=n.kids.length:=Jc ..;unfold bj;rw[show(shN d n).fields=n.fields.map (shF d)from rfl,hf,hl];rfl
 ·unfold bq at hk ⊢;rcases Ir.1 hk with hk|hk
  ·obtain⟨j,hj,rfl⟩:=IW.1 (show k∈n.kids.map (· +d)from hk);exact⟨j,Ir.2 (.inl hj),rfl⟩
  ·rcases Ir.1 hk with hk|hk
   ·obtain⟨f,hf,rfl⟩:=IW.1 hk;obtain⟨f',hf',rfl⟩:=IW.1 (show f∈n.fields.map (shF d)from hf);exact⟨f'.node,Ir.2 (.inr (Ir.2 (.inl (IW.2 ⟨f',hf',rfl⟩)))),rfl⟩
   ·have hk:k∈(if n.kind=13 then[(shN d n).rest0,(shN d n).rest1]else[]):=hk;by_cases h:n.kind=13
    ·rw[if_pos h]at hk;simp[shN,h]at hk;rcases hk with rfl|rfl
     ·exact⟨n.rest0,Ir.2 (.inr (Ir.2 (.inr (by simp[h])))),rfl⟩
     ·exact⟨n.rest1,Ir.2 (.inr (Ir.2 (.inr (by simp[h])))),rfl⟩
    ·rw[if_neg h]at hk;cases hk
theorem mN {i:Nat}(hi:i<T.len)(h:isA (T.node (i:Nat))=G6):T.nodes.any isA=true:=by
 rw[T.node_at hi]at h;exact Jw.2 ⟨_,Ip hi,h⟩
theorem lN {r:Int}{n:TN}(h:isA n=G6):sbN r n=⟨16,0,0,aQ,[r],[],0,0⟩:=if_pos h
theorem od {r:Int}{n:TN}(h:isA n=G7):sbN r n=n:=by unfold sbN;rw[h];simp
theorem zX(hU:WfT U)(h:T.nodes.any isA=G6):∃m:Nat,U.root=(m:Int)/\m<U.len/\U.root+(T.len:Int)=((T.len+m:Nat):Int):=by
 obtain⟨h0,h1⟩:=has_iff.1 hU.root;exact⟨U.root.toNat,by omega,by omega,by omega⟩
theorem vi(hT:WfT T)(hU:WfT U):WfT (sbT T U):=by
 have hlen:T.len<=(sbT T U).len:=CD;have up:∀i,i<(sbT T U).len->i<T.len\/(T.nodes.any isA=G6/\∃j,j<U.len/\i=T.len+j):=fun i hi=>by
  by_cases h:i<T.len
  ·exact .inl h
  ·cases ha:T.nodes.any isA with
   |true=>rw[(lM ha).1]at hi;exact .inr ⟨rfl,i-T.len,by omega,by omega⟩
   | false => have : (sbT T U).len = T.len := by simp [Ty.len, sbT, ha]
              omega
 refine⟨?_,fun n hn=>?_,?_⟩
 ·obtain⟨h0,h1⟩:=has_iff.1 hT.root;exact has_iff.2 ⟨h0,by show T.root<_;omega⟩
 ·obtain⟨i,hi,rfl⟩:=List.mem_iff_getElem.1 hn;rw[<-(sbT T U).node_at hi];rcases up i hi with h|⟨ha,j,hj,rfl⟩
  ·rw[vg h];obtain⟨w1,w2,w3⟩:=iD hT h;cases hA:isA (T.node (i:Nat))with
   | true =>
     obtain⟨m,m1,m2,m3⟩:=zX hU (mN h hA);rw[lN hA,m3];have:(sbT T U).has ((T.len+m:Nat):Int)=true:=has_iff.2 ⟨by omega,by rw[(lM (mN h hA)).1];omega⟩;have p1:∀r:Int,bR ⟨16,0,0,aQ,[r],[],0,0⟩=true:=fun r=>by simp[bR,nH,aQ,ByteArray.size]
     have p2:∀r:Int,bj ⟨16,0,0,aQ,[r],[],0,0⟩=true:=fun r=>by simp[bj]
     have p3:∀r:Int,bq ⟨16,0,0,aQ,[r],[],0,0⟩=[r]:=fun r=>by simp[bq]
     unfold bB;rw[p1,p2,p3,Jd,Jd,List.all_cons,List.all_nil,Bool.and_true];exact this
   | false =>
     rw[od hA];unfold bB;rw[w1,w2,Jd,Jd,Ij];intro k hk;obtain⟨a,b⟩:=w3 k hk;exact has_iff.2 ⟨a,by omega⟩
  ·rw[(lM ha).2 j hj];obtain⟨w1,w2,w3⟩:=iD hU hj;obtain⟨s1,s2,_,s4⟩:=Ep (d:=(T.len:Int)) (n:=U.node (j:Nat));unfold bB;rw[s1,s2,w1,w2,Jd,Jd,Ij];intro k hk;obtain⟨j',hj',rfl⟩:=s4 k hk;obtain⟨a,b⟩:=w3 j' hj';exact has_iff.2 ⟨by omega,by rw[(lM ha).1];omega⟩
 ·obtain⟨rT,hrT⟩:=hT.ctr;obtain⟨rU,hrU,hb⟩:=fuelT_gt hU.ctr;refine⟨fun i=>if i<T.len then kD U+rT i else rU (i-T.len),fun i hi hbool k hk=>?_⟩;rcases up i hi with h|⟨ha,j,hj,rfl⟩
  ·rw[vg h]at hbool hk;cases hA:isA (T.node (i:Nat))with
   | true =>
     obtain⟨m,m1,m2,m3⟩:=zX hU (mN h hA);rw[lN hA]at hk;have hk:k=U.root+(T.len:Int):=by simpa using hk
     subst hk;rw[m3];have:=hb m m2;simp only[JF,h,if_true];rw[if_neg (by omega),show T.len+m-T.len=m by omega];omega
   | false =>
     rw[od hA]at hbool hk;obtain⟨a,b⟩:=(iD hT h).2.2 k (fX hk);have:=hrT i h hbool k hk;simp only[h,if_true];rw[if_pos (by omega)];omega
  ·rw[(lM ha).2 j hj]at hbool hk;obtain⟨x,hx,rfl⟩:=IW.1 (show k∈(U.node (j:Nat)).kids.map (· +(T.len:Int))from hk);obtain⟨a,b⟩:=(iD hU hj).2.2 x (fX hx);have:=hrU j hj hbool x hx;have e1:(x+(T.len:Int)).toNat=T.len+x.toNat:=by omega
   simp only[e1];rw[if_neg (by omega),if_neg (by omega),show T.len+x.toNat-T.len=x.toNat by omega,show T.len+j-T.len=j by omega];exact this
theorem Er(hT:WfT T)(hU:WfT U)(ha:T.nodes.any isA=G6):∀d (v:VV),v.ht<=d->∀k:Int,0<=k->k<(U.len:Int)->mem (sbT T U) v (k+(T.len:Int))=mem U v k:=by
 have hX:=vi hT hU;intro d
 induction d with
 |zero=>intro v h;have:=fx v;omega
 | succ d ih =>
   intro v hd;obtain⟨rk,hr⟩:=hU.ctr;have key:∀m (k:Int),rk k.toNat<m->0<=k->k<(U.len:Int)->mem (sbT T U) v (k+(T.len:Int))=mem U v k:=by
    intro m
    induction m with
    |zero=>intro k h;omega
    | succ m ihm =>
      intro k hk h0 h1;have hkn:k.toNat<U.len:=by omega
      obtain⟨_,w2,w3⟩:=iD hU hkn;have e1:(sbT T U).node (k+(T.len:Int))=shN (T.len:Int) (U.node (k.toNat:Nat)):=by
       rw[<-(lM ha).2 k.toNat hkn];congr 1;omega
      have e2:U.node k=U.node (k.toNat:Nat):=by congr 1;omega
      rw[nJ hX.m,nJ hU.m v k,e1,e2];refine wR (g:=id) (ge:=id) rfl rfl rfl rfl (by simp) (fun P=>rfl) (fun e _=>⟨by simp,rfl,fun _=>rfl⟩) (fun _=>rfl) (fun x hx j hj=>?_) (fun hb j hj=>?_) w2
      ·obtain⟨a,b⟩:=w3 j hj;exact ih x (by omega) j a b
      ·obtain⟨a,b⟩:=w3 j (fX hj);have:=hr _ hkn hb j hj;exact ihm j (by omega) a b
   intro k h0 h1;exact key (rk k.toNat+1) k (by omega) h0 h1
theorem Es(hT:WfT T)(hU:WfT U):∀d (v:VV),v.ht<=d->∀k:Int,0<=k->k<(T.len:Int)->mem (sbT T U) v k=mem T (rlV (fun x=>mem U x U.root) v) k:=by
 have hX:=vi hT hU;intro d
 induction d with
 |zero=>intro v h;have:=fx v;omega
 | succ d ih =>
   intro v hd;obtain⟨rk,hr⟩:=hT.ctr;have key:∀m (k:Int),rk k.toNat<m->0<=k->k<(T.len:Int)->mem (sbT T U) v k=mem T (rlV (fun x=>mem U x U.root) v) k:=by
    intro m
    induction m with
    |zero=>intro k h;omega
    | succ m ihm =>
      intro k hk h0 h1;have hkn:k.toNat<T.len:=by omega
      obtain⟨_,w2,w3⟩:=iD hT hkn;have e1:(sbT T U).node k=sbN (U.root+(T.len:Int)) (T.node (k.toNat:Nat)):=by
       rw[<-vg hkn];congr 1;omega
      have e2:T.node k=T.node (k.toNat:Nat):=by congr 1;omega
      rw[nJ hX.m,nJ hT.m _ k,e1,e2];cases hA:isA (T.node (k.toNat:Nat))with
      | true =>
        have ha:=mN hkn hA;obtain⟨r0,r1⟩:=has_iff.1 hU.root;have hA':=hA;unfold isA at hA';rw[Ik,decide_eq_true_eq,decide_eq_true_eq]at hA';rw[lN hA];have l1:∀(s:VV->Int->Bool) (same:Int->Bool),ed s v same ⟨16,0,0,aQ,[U.root+(T.len:Int)],[],0,0⟩=same (U.root+(T.len:Int)):=fun s same=>by simp[ed]
        have l2:∀(s:VV->Int->Bool) (w:VV) (same:Int->Bool),ed s w same (T.node (k.toNat:Nat))=w.labels.any fun t=>decide (t=nA):=fun s w same=>by
         unfold ed;rw[hA'.1,hA'.2];rfl
        rw[l1,l2,Er hT hU ha v.ht v (G8 _) U.root r0 r1,j4,IQ,Jw];constructor
        ·intro h;exact⟨nA,mem_rlL.2 (.inr ⟨h,rfl⟩),by simp⟩
        ·rintro⟨t,ht,h⟩;rw[decide_eq_true_eq]at h;rcases mem_rlL.1 ht with⟨_,h2⟩|⟨h2,_⟩
         ·exact absurd h h2
         ·exact h2
      | false =>
        rw[od hA];have:=wR (s:=mem (sbT T U)) (s':=mem T) (v:=v) (v':=rlV (fun x=>mem U x U.root) v) (same:=mem (sbT T U) v) (same':=mem T (rlV (fun x=>mem U x U.root) v)) (n:=T.node (k.toNat:Nat)) (d:=0) (g:=rlV fun x=>mem U x U.root) (ge:=rlE fun x=>mem U x U.root)
         (nY v) (wM v) (td v) (te v) (nZ v) (fun P=>?_) (fun e _=>⟨kM e,jo e,fun hf=>by rw[mM,hf];simp⟩) (fun h19=>?_) (fun x hx j hj=>?_) (fun hb j hj=>?_) w2
        ·rw[tf]at this;exact this
        ·rw[n9,IQ,Ij,Ij];exact⟨fun h e he=>h _ (mem_entsE.2 (IW.2 ⟨e,he,rfl⟩)),fun h e he=>by obtain⟨e',he',rfl⟩:=IW.1 (mem_entsE.1 he);exact h e' he'⟩
        ·have hne:(T.node (k.toNat:Nat)).text≠nA:=fun h=>by
          unfold isA at hA;rw[h19,h]at hA;simp at hA
         rw[j4,IQ,Jw,Jw];constructor
         ·rintro⟨t,ht,h⟩;rw[decide_eq_true_eq]at h;rcases mem_rlL.1 ht with⟨h2,_⟩|⟨_,h2⟩
          ·exact⟨t,h2,by simpa using h⟩
          ·exact absurd (h.symm.trans h2) hne
         ·rintro⟨t,ht,h⟩;rw[decide_eq_true_eq]at h;exact⟨t,mem_rlL.2 (.inl ⟨ht,h▸hne⟩),by simpa using h⟩
        ·obtain⟨a,b⟩:=w3 j hj;rw[Int.add_zero];exact ih x (by omega) j a b
        ·obtain⟨a,b⟩:=w3 j (fX hj);have:=hr _ hkn hb j hj;rw[Int.add_zero];exact ihm j (by omega) a b
   intro k h0 h1;exact key (rk k.toNat+1) k (by omega) h0 h1
end
end Go.Proofs.YtfpahmeploondaaGreatDoor
namespace Go.Proofs.YtfpahmeploondaaGreatDoor
open Go.RowKit Go.Ident
set_option maxRecDepth 100000
theorem tg(p:Option Addr)(l c:Nat)(w:World):(binOp .eql 58 (GU p l c) (GU G0 0 0)).run Tryz.prog w=.ok (.bool p.isNone) w:=by
 cases p<;>simp[binOp,Op.equal,Op.equalIn,run_underlying (show Tryz.prog.underlying 58=G5 (.slice 105)by kernel_rfl)]<;>rfl
theorem vj(p:Option Addr)(n c:Nat)(cs:List Value)(w:World)(hr:RC w 4 p n cs)(h1:∀u∈cs,u.oneCell'=G6)(hn:n<=1048576):
 Calls Tryz.prog 71 #[GU p n c] w fun e w'=>∃v',e=.returned v'/\w'.ownsRow w.heap.size 105 4 v' n cs/\Below w.heap.size w w':=by
 cases p with
 | none =>
   have hn0:n=0:=by
    rcases Nat.eq_zero_or_pos n with h|h
    ·exact h
    ·obtain⟨_,_,e,_⟩:=hr.2 h;cases e
   subst hn0;have hcs:cs=[]:=List.length_eq_zero_iff.1 (by have:=hr.1;omega);subst hcs;have he:=tg G0 0 c;rw[show(G0:Option Addr).isNone=G6 from rfl]at he;clear hr h1;go_enter Tryz.func71,Tryz.ntmps71;go_wp2;go_ret;exact⟨_,rfl,World.ownsRow_nil _ _ _ _,Below.refl _ _⟩
 | some ad =>
   have hal:=(Below.refl w.heap.size w).alloc (G8 _) (GY #[] 105);have hown:(w.alloc (GY #[] 105)).ownsRow w.heap.size 105 4 (GU (G5 ⟨w.heap.size,0,G0⟩) 0 0) 0 []:=
    ⟨rfl,.inr ⟨w.heap.size,0,#[],rfl,G8 _,heap_alloc_new _ _,G8 _,by decide,rfl,rfl⟩⟩
   have Hr:=zH (hr.below hal);have Hal:=zH hal;have Hown:=zH hown;have H1:=zH h1;have hsz:=hal.size;clear hr hal hown h1;have he:=tg (G5 ad) n c;rw[show(G5 ad).isNone=G7 from rfl]at he;have hl0:(0:Nat)+n<=67108864:=by omega
   go_enter Tryz.func71,Tryz.ntmps71;go_wp2_with(first
    |(at_builtin;go_loud(refine aC rfl (.tmp 5) (.tmp 6) 58 rfl 105 (by kernel_rfl) kL rfl (by decide) (by decide) w.heap.size _ (G5 ad) 0 n c [] cs hsz (GU (G5 ⟨w.heap.size,0,G0⟩) 0 0) rfl rfl Hown.o Hr.o H1.o hl0 ?_);intro v' w' ho hf;have Ho:=zH ho;have Hbe:=zH (hf.below hsz (by simp) (fun g hg=>by simp[Value.ownBlock]at hg;omega));clear ho hf))
   go_ret;exact⟨_,rfl,by have:=Ho.o;rwa[Nat.zero_add,List.nil_append]at this,Hal.o.trans Hbe.o⟩
def upI(d:Int)(i:Nat)(l:List Int):List Int:=(l.take i).map (· +d)++l.drop i
theorem zY(d:Int)(l:List Int):upI d 0 l=l:=by simp[upI]
theorem CE(d:Int)(l:List Int):upI d l.length l=l.map (· +d):=by simp[upI]
theorem Et {d:Int}{i:Nat}{l:List Int}(h:i<l.length):(ic (upI d i l))[i]? =G5 (GX GZ l[i]):=by
 unfold ic upI;rw[List.getElem?_map,JJ (by simp;omega)];simp[Nat.min_eq_left (Nat.le_of_lt h),h]
theorem CF {d:Int}{i:Nat}{l:List Int}(h:i<l.length):(ic (upI d i l)).set i (GX GZ (l[i]+d))=ic (upI d (i+1) l):=by
 unfold ic upI;apply List.ext_getElem?;intro j;rw[List.getElem?_set];have hl:((l.take i).map (· +d)).length=i:=by simp;omega
 have hl2:((l.take (i+1)).map (· +d)).length=i+1:=by simp;omega
 by_cases hj:i=j
 ·subst hj;rw[if_pos rfl,if_pos (by simp;omega),List.getElem?_map,JL (by omega)];simp[h]
 ·rw[if_neg hj,List.getElem?_map,List.getElem?_map];congr 1;rcases Nat.lt_or_ge j i with h1|h1
  ·rw[JL (by omega),JL (by omega),List.getElem?_map,List.getElem?_map,JH h1,JH (by omega)]
  ·rw[JJ (by omega),JJ (by omega),hl,hl2,JB,JB];congr 1;omega
def fc(l:List FF):List Value:=l.flatMap fun f=>[GX GZ f.key.kind,GW f.key.text,GX GZ f.node,.bool f.opt]
theorem qU(l:List FF):(fc l).length=l.length*4:=by
 unfold fc
 induction l with
 |nil=>rfl
 |cons f l ih=>rw[List.flatMap_cons,List.length_append,ih,List.length_cons];simp;omega
theorem Eu(l:List FF):∀u∈fc l,u.oneCell'=true:=by
 intro u hu;unfold fc at hu;obtain⟨f,_,hf⟩:=List.mem_flatMap.1 hu;simp at hf;rcases hf with rfl|rfl|rfl|rfl<;>rfl
theorem qV(a b:List FF):fc (a++b)=fc a++fc b:=by simp[fc]
theorem vn {l:List FF}{i:Nat}(h:i<l.length):((fc l).drop (i*4)).take 4=[GX GZ l[i].key.kind,GW l[i].key.text,GX GZ l[i].node,.bool l[i].opt]:=by
 have e:l=l.take i++(l[i]::l.drop (i+1)):=by rw[List.getElem_cons_drop];exact(List.take_append_drop i l).symm
 have h1:fc l=fc (l.take i)++([GX GZ l[i].key.kind,GW l[i].key.text,GX GZ l[i].node,.bool l[i].opt]++fc (l.drop (i+1))):=by
  have h2:=congrArg fc e;rw[qV]at h2;exact h2
 rw[h1,List.drop_append_of_le_length (by rw[qU,IN];omega),List.drop_eq_nil_of_le (by rw[qU,IN];omega)];rfl
theorem FM {w:World}{p:Option Addr}{c:Nat}{l:List FF}(h:Rw w p c 4 l FC):RC w 4 p l.length (fc l):=by
 obtain⟨_,cs,h2,h3⟩:=h;have:cs=fc l:=by
  apply List.ext_getElem?;intro k;have hl:=h2.1;by_cases hk:k<l.length*4
  ·have hi:k/4<l.length:=by omega
   have e1:=h3 (k/4) hi;unfold FC at e1;have e2:=vn hi;have a1:cs[k]? =((cs.drop (k/4*4)).take 4)[k%4]? :=by
    rw[JH (Nat.mod_lt _ (by decide)),JB];congr 1;omega
   have a2:(fc l)[k]? =(((fc l).drop (k/4*4)).take 4)[k%4]? :=by
    rw[JH (Nat.mod_lt _ (by decide)),JB];congr 1;omega
   rw[a1,a2,e1,e2]
  ·rw[List.getElem?_eq_none (by omega),List.getElem?_eq_none (by rw[qU];omega)]
 rw[<-this];exact h2
theorem Ew {w:World}{B:Nat}{p:Option Addr}{c:Nat}{l:List FF}(h:w.ownsRow B 105 4 (GU p l.length c) l.length (fc l))(hl:l.length<=1048576):Rw w p c 4 l FC:=
 ⟨⟨eo h,by omega⟩,fc l,RC.of_own h,fun i hi=>by unfold FC;exact vn hi⟩
def upF(d:Int)(i:Nat)(l:List FF):List FF:=(l.take i).map (shF d)++l.drop i
theorem wS(d:Int)(i:Nat)(l:List FF):(upF d i l).length=l.length:=by simp[upF];omega
theorem zZ(d:Int)(l:List FF):upF d 0 l=l:=by simp[upF]
theorem CG(d:Int)(l:List FF):upF d l.length l=l.map (shF d):=by simp[upF]
theorem CH {d:Int}{i:Nat}{l:List FF}(h:i<l.length):(upF d i l)[i]'(by rw[wS];exact h)=l[i]:=by
 simp[upF,List.getElem_append_right,Nat.min_eq_left (Nat.le_of_lt h)]
theorem FN {l:List FF}{i:Nat}(h:i<l.length):(fc l)[i*4+2]? =G5 (GX GZ l[i].node):=by
 have:=vn h;have h2:((fc l).drop (i*4)).take 4=_:=this;have h3:=congrArg (fun x=>x[2]?) h2;simp only[JH (show 2<4 by decide),JB]at h3;simpa using h3
theorem Ex {d:Int}{i:Nat}{l:List FF}(h:i<l.length):(fc (upF d i l))[i*4+2]? =G5 (GX GZ l[i].node):=by
 rw[FN (by rw[wS];exact h),CH h]
theorem CI {d:Int}{i:Nat}{l:List FF}(h:i<l.length):(fc (upF d i l)).set (i*4+2) (GX GZ (l[i].node+d))=fc (upF d (i+1) l):=by
 have e1:l.drop i=l[i]::l.drop (i+1):=(List.getElem_cons_drop ..).symm;have e2:l.take (i+1)=l.take i++[l[i]]:=by rw[List.take_succ_eq_append_getElem h]
 have hl:(fc ((l.take i).map (shF d))).length=i*4:=by rw[qU];simp;omega
 unfold upF;rw[e1,e2,List.map_append,qV,qV,qV];rw[List.set_append_right _ _ (by omega),hl,show i*4+2-i*4=2 by omega,List.append_assoc];rfl
end Go.Proofs.YtfpahmeploondaaGreatDoor
