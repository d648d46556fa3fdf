/- Walks and plain facts for the law on type variables, for all values and types that the heap holds (texts W7 X3 Pa). -/
import Derived.Test.YtfpahmeploondaaGreatDoorR03
import Derived.Test.YtfpahmeploondaaGreatDoorR09
import Derived.Test.YtfpahmeploondaaGreatDoorR17
set_option linter.unusedVariables false
set_option linter.unusedSimpArgs false
set_option maxHeartbeats 64000000
open Option renaming some -> G5
open Bool renaming true -> G6, false -> G7
open Go.Value renaming slice -> GU, string -> GW, int -> GX
open Go.Obj renaming cells -> GY
open Go.IntKind renaming i64 -> GZ
open Nat renaming lt_succ_iff_lt_or_eq -> IP, le_refl -> G8
open List renaming getElem_cons_zero -> JK, mem_iff_getElem -> IZ, all_eq_true -> Ij, getElem_mem -> Ip, length_map -> Jc, mem_cons -> Ix, mem_map -> IW
open Bool renaming eq_false_iff -> IA, and_eq_true -> Ik, or_eq_true -> IE
open Go renaming heap_alloc_new -> HG
namespace Go.Proofs.YtfpahmeploondaaGreatDoor
open Go.RowKit Go.Ident
set_option maxRecDepth 100000
theorem zT(n:TN)(hk:n.kind=13)(w:World)(cs:List Value)(h:NC w n cs):Calls Tryz.prog 47 #[.agg cs.toArray] w (ER (bj n) w):=by
 have Hr:=zH (show bj n=bW n.fields by unfold bj;simp[hk]);obtain⟨p1,c1,p2,c2,rfl,-,hF⟩:=h;rw[hk];clear hk;go_enter Tryz.func47,Tryz.ntmps47;go_upto_region 1 with fail
 have hA:=HG w (GY #[GX GZ 13,GX GZ n.lo,GX GZ n.hi,GW n.text,GU p1 n.kids.length c1,GU p2 n.fields.length c2,GX GZ n.rest0,GX GZ n.rest1] 61);have hb:Below w.heap.size w (w.alloc (GY #[GX GZ 13,GX GZ n.lo,GX GZ n.hi,GW n.text,GU p1 n.kids.length c1,GU p2 n.fields.length c2,GX GZ n.rest0,GX GZ n.rest1] 61)):=(Below.refl _ _).alloc (G8 _) _;generalize w.alloc (GY #[GX GZ 13,GX GZ n.lo,GX GZ n.hi,GW n.text,GU p1 n.kids.length c1,GU p2 n.fields.length c2,GX GZ n.rest0,GX GZ n.rest1] 61)=w2 at*
 have Hb:=zH hb;obtain⟨⟨f0,f1,f2,f3⟩,f4,f5,f6,f7⟩:=aY hA;have Hat:=zH (mD n.fields w2 p2 c2 (hF.below hb fun _ _ _ h=>h));clear hA hb hF;generalize bW n.fields=c at*
 go_wp2_with(go_at_call 86;refine Hat.o.mono ?_;rintro e w3 ⟨rfl,hb3⟩;have Hb3:=zH (Hb.o.step hb3);clear hb3);go_ret;rw[Hr.o];exact⟨rfl,Hb3.o⟩
theorem CA(n:TN)(hk:n.kind≠1/\n.kind≠2/\n.kind≠5/\n.kind≠7/\n.kind≠8/\n.kind≠9/\n.kind≠11/\n.kind≠15/\n.kind≠3/\n.kind≠4/\n.kind≠6/\n.kind≠19/\n.kind≠10/\n.kind≠12/\n.kind≠13/\n.kind≠14/\n.kind≠16/\n.kind≠17/\n.kind≠18)(w:World)(cs:List Value)(h:NC w n cs):Calls Tryz.prog 47 #[.agg cs.toArray] w (ER (bj n) w):=by
 have Hr:=zH (show bj n=G7 by
  unfold bj;obtain⟨k1,k2,k5,k7,k8,k9,k11,k15,k3,k4,k6,k19,k10,k12,k13,k14,k16,k17,k18⟩:=hk;simp only[k3,k4,k6,k19,k10,k12,k13,k14,k16,k17,k18,if_false,or_self];simp only[Bool.and_eq_false_iff,decide_eq_false_iff_not];omega)
 obtain⟨p1,c1,p2,c2,rfl,-,-⟩:=h;obtain⟨k1,k2,k5,k7,k8,k9,k11,k15,k3,k4,k6,k19,k10,k12,k13,k14,k16,k17,k18⟩:=hk;replace k1:(n.kind==1)=false:=by rw[IA];intro g;exact k1 (by simpa using g)
 replace k2:(n.kind==2)=false:=by rw[IA];intro g;exact k2 (by simpa using g)
 replace k5:(n.kind==5)=false:=by rw[IA];intro g;exact k5 (by simpa using g)
 replace k7:(n.kind==7)=false:=by rw[IA];intro g;exact k7 (by simpa using g)
 replace k8:(n.kind==8)=false:=by rw[IA];intro g;exact k8 (by simpa using g)
 replace k9:(n.kind==9)=false:=by rw[IA];intro g;exact k9 (by simpa using g)
 replace k11:(n.kind==11)=false:=by rw[IA];intro g;exact k11 (by simpa using g)
 replace k15:(n.kind==15)=false:=by rw[IA];intro g;exact k15 (by simpa using g)
 replace k3:(n.kind==3)=false:=by rw[IA];intro g;exact k3 (by simpa using g)
 replace k4:(n.kind==4)=false:=by rw[IA];intro g;exact k4 (by simpa using g)
 replace k6:(n.kind==6)=false:=by rw[IA];intro g;exact k6 (by simpa using g)
 replace k19:(n.kind==19)=false:=by rw[IA];intro g;exact k19 (by simpa using g)
 replace k10:(n.kind==10)=false:=by rw[IA];intro g;exact k10 (by simpa using g)
 replace k12:(n.kind==12)=false:=by rw[IA];intro g;exact k12 (by simpa using g)
 replace k13:(n.kind==13)=false:=by rw[IA];intro g;exact k13 (by simpa using g)
 replace k14:(n.kind==14)=false:=by rw[IA];intro g;exact k14 (by simpa using g)
 replace k16:(n.kind==16)=false:=by rw[IA];intro g;exact k16 (by simpa using g)
 replace k17:(n.kind==17)=false:=by rw[IA];intro g;exact k17 (by simpa using g)
 replace k18:(n.kind==18)=false:=by rw[IA];intro g;exact k18 (by simpa using g)
 go_enter Tryz.func47,Tryz.ntmps47;go_upto_region 1 with fail
 have hA:=HG w (GY #[GX GZ n.kind,GX GZ n.lo,GX GZ n.hi,GW n.text,GU p1 n.kids.length c1,GU p2 n.fields.length c2,GX GZ n.rest0,GX GZ n.rest1] 61);have hb:Below w.heap.size w (w.alloc (GY #[GX GZ n.kind,GX GZ n.lo,GX GZ n.hi,GW n.text,GU p1 n.kids.length c1,GU p2 n.fields.length c2,GX GZ n.rest0,GX GZ n.rest1] 61)):=(Below.refl _ _).alloc (G8 _) _;generalize w.alloc (GY #[GX GZ n.kind,GX GZ n.lo,GX GZ n.hi,GW n.text,GU p1 n.kids.length c1,GU p2 n.fields.length c2,GX GZ n.rest0,GX GZ n.rest1] 61)=w2 at*
 have Hb:=zH hb;obtain⟨⟨f0,f1,f2,f3⟩,f4,f5,f6,f7⟩:=aY hA;clear hA hb;go_wp2;go_ret;rw[Hr.o];exact⟨rfl,Hb.o⟩
theorem po(n:TN)(w:World)(cs:List Value)(h:NC w n cs):Calls Tryz.prog 47 #[.agg cs.toArray] w (ER (bj n) w):=by
 by_cases h13:n.kind=13
 ·exact zT n h13 w cs h
 by_cases hq:(n.kind=1\/n.kind=2\/n.kind=5\/n.kind=7\/n.kind=8\/n.kind=9\/n.kind=11\/n.kind=15)\/(n.kind=3)\/(n.kind=4)\/(n.kind=6)\/(n.kind=19)\/(n.kind=10)\/(n.kind=12)\/(n.kind=14)\/(n.kind=16\/n.kind=17)\/(n.kind=18)
 ·exact Em n hq w cs h
 exact CA n (by omega) w cs h
def WR(T:Ty)(w:World)(e:Ending)(w':World):Prop:=∃c:Int,e=.returned (GX GZ c)/\(c=0<->WfT T)/\Below w.heap.size w w'
theorem nV {T:Ty}{n:TN}(h:bB T n=G6):∀k∈n.kids,T.has k=true:=by
 unfold bB at h;rw[Ik,Ij]at h;intro k hk;exact h.2 k (List.mem_append_left _ hk)
theorem wI {T:Ty}(h:∀i (hi:i<T.nodes.length),bB T T.nodes[i]=G6):iX T:=fun i hi _ k hk=>by
 rw[T.node_at hi]at hk;exact nV (h i hi) k hk
theorem DY {T:Ty}(hr:T.has T.root=G6)(h:∀i (hi:i<T.nodes.length),bB T T.nodes[i]=G6):WfT T<->Ctr T:=
 ⟨fun g=>g.ctr,fun g=>⟨hr,fun n hn=>by obtain⟨i,hi,rfl⟩:=IZ.1 hn;exact h i hi,g⟩⟩
theorem zU {T:Ty}{i:Nat}(hi:i<T.nodes.length)(h:bB T T.nodes[i]=G7): ¬WfT T:=fun g=>by
 have:=g.nodes _ (Ip hi);rw[h]at this;cases this
structure SzT(T:Ty):Prop where
 len:T.len<=100000
 kids:∀n∈T.nodes,n.kids.length<=1048576/\n.fields.length<=1048576
open Classical in
theorem nW(T:Ty)(w:World)(t:Value)(ht:TS w t T)(hs:SzT T):Calls Tryz.prog 25 #[t] w (WR T w):=by
 have HS:=zH hs;have HT:=zH ht;obtain⟨pt,ct,rfl,hrow,-⟩:=ht;have HR:=zH hrow;have hL:=hrow.big;clear hs hrow;go_enter Tryz.func25,Tryz.ntmps25;go_upto_region 1 with fail
 have hA:=HG w (GY #[GU pt T.nodes.length ct,GX GZ T.root] 27);have hb:Below w.heap.size w (w.alloc (GY #[GU pt T.nodes.length ct,GX GZ T.root] 27)):=(Below.refl _ _).alloc (G8 _) _;generalize w.alloc (GY #[GU pt T.nodes.length ct,GX GZ T.root] 27)=w1 at*
 obtain⟨t0,t1⟩:=aM hA;have hlA:=ai hA;have HA:=zH hA;have Hb:=zH hb;clear hA hb;by_cases r0:T.root<0
 ·have d0:decide (T.root<0)=true:=by simp[r0]
  have Hno:=zH (show¬WfT T from fun g=>by have:=(has_iff.1 g.root).1;omega);clear r0;go_wp2;go_ret;exact⟨1,rfl,⟨fun h=>absurd h (by decide),fun h=>absurd h Hno.o⟩,Hb.o⟩
 have d0:decide (T.root<0)=false:=by simp;omega
 by_cases r1:T.root<(T.nodes.length:Int);rotate_left
 ·have d1:decide ((T.nodes.length:Int)<=T.root)=true:=by simp;omega
  have Hno:=zH (show¬WfT T from fun g=>by have:=(has_iff.1 g.root).2;unfold Ty.len at this;omega);clear r0 r1;go_wp2;go_ret;exact⟨1,rfl,⟨fun h=>absurd h (by decide),fun h=>absurd h Hno.o⟩,Hb.o⟩
 have d1:decide ((T.nodes.length:Int)<=T.root)=false:=by simp;omega
 have Hroot:=zH (show T.has T.root=G6 from has_iff.2 ⟨by omega,r1⟩);clear r0 r1;go_wp2;clear d0 d1;go_loopw[21] (fun i wr=>∃k:Nat,i=GX GZ k/\k<=T.nodes.length/\(∀j (h:j<T.nodes.length),j<k->bB T T.nodes[j]=G6)/\Below w1.heap.size w1 wr) (fun i _=>T.nodes.length-(intOf i).toNat)
 case atStart=>exact⟨0,rfl,by omega,fun j _ h=>by omega,Below.refl _ _⟩
 case round=>
  obtain⟨k,rfl,hk,hall,hbr⟩:=hrel;have Hall:=zH hall;have Hbr:=zH hbr;have Hbw:=zH (Hb.o.step hbr);clear hall hbr t0 t1;by_cases hlt:k<T.nodes.length
  ·obtain⟨a,o,cs,rfl,hab,-,hrng,hN⟩:=HR.o.all hlt;have HN:=zH hN;obtain⟨p1,c1,p2,c2,rfl,-,-⟩:=hN;have hr:=hrng wr Hbw.o;have z0:=hr 0 _ rfl;have z1:=hr 1 _ rfl;have z2:=hr 2 _ rfl;have z3:=hr 3 _ rfl;have z4:=hr 4 _ rfl;have z5:=hr 5 _ rfl;have z6:=hr 6 _ rfl;have z7:=hr 7 _ rfl;rw[Nat.add_zero]at z0;have Hno:=zH (zU hlt);have Hnx:=zH (show bB T T.nodes[k]=G6->∀j (h:j<T.nodes.length),j<k+1->bB T T.nodes[j]=G6 from fun g j h hj=>by
    rcases IP.1 hj with g2|rfl
    ·exact Hall.o j h g2
    ·exact g)
   have hsz:=HS.o.kids _ (Ip hlt);clear hr hrng Hall;generalize T.nodes[k]=n at*
   obtain⟨wo',hwo⟩:∃wo':World,wo'=wr:=⟨_,rfl⟩
   subst hwo;go_upto_region 6 with fail
   have hnew:=HG wo' (GY #[GX GZ n.kind,GX GZ n.lo,GX GZ n.hi,GW n.text,GU p1 n.kids.length c1,GU p2 n.fields.length c2,GX GZ n.rest0,GX GZ n.rest1] 61);have ho:Below wo'.heap.size wo' (wo'.alloc (GY #[GX GZ n.kind,GX GZ n.lo,GX GZ n.hi,GW n.text,GU p1 n.kids.length c1,GU p2 n.fields.length c2,GX GZ n.rest0,GX GZ n.rest1] 61)):=(Below.refl _ _).alloc (G8 _) _;generalize wo'.alloc (GY #[GX GZ n.kind,GX GZ n.lo,GX GZ n.hi,GW n.text,GU p1 n.kids.length c1,GU p2 n.fields.length c2,GX GZ n.rest0,GX GZ n.rest1] 61)=w5 at*
   have Hbr5:=zH (Hbr.o.step ho);obtain⟨⟨f0,f1,f2,f3⟩,f4,f5,f6,f7⟩:=aY hnew;have hlN:=ai hnew;have Hnew:=zH hnew;have Hpl:=zH (fun(w6:World) (h6:Below w5.heap.size w5 w6)=>pn n w6 _ (HN.o.below (Hb.o.step (Hbr5.o.step h6))));have Hvk:=zH (fun(w6:World) (h6:Below w5.heap.size w5 w6)=>po n w6 _ (HN.o.below (Hb.o.step (Hbr5.o.step h6))));have Hsz:=zH hsz;have Hed:=zH (fun(w6:World) (h6:Below w5.heap.size w5 w6)=>yn n w6 _ (HN.o.below (Hb.o.step (Hbr5.o.step h6))) hsz);clear z0 z1 z2 z3 z4 z5 z6 z7 hnew ho hsz;cases hp:bR n with
   | false =>
     rw[hp]at Hpl;have Hno2:=zH (Hno.o (by unfold bB;rw[hp];simp));clear hp;go_wp2_with(go_at_call 46;refine(Hpl.o w5 (Below.refl _ _)).mono ?_;rintro e w6 ⟨rfl,hb6⟩;have Hb6:=zH (Hbr5.o.step hb6);clear hb6);go_ret;exact⟨1,rfl,⟨fun h=>absurd h (by decide),fun h=>absurd h Hno2.o⟩,Hb.o.step Hb6.o⟩
   |true=>
   rw[hp]at Hpl;have Hp:=zH hp;clear hp;cases hq:bj n with
   | false =>
     rw[hq]at Hvk;have Hno2:=zH (Hno.o (by unfold bB;rw[hq];simp));clear hq;go_wp2_with(first
      |(go_at_call 46;refine(Hpl.o w5 (Below.refl _ _)).mono ?_;rintro e w6 ⟨rfl,hb6⟩;have Hb6:=zH hb6;have hA6:=((hb6.block _ hlN).trans Hnew.o);clear f0 f1 f2 f3 f4 f5 f6 f7 hb6;obtain⟨⟨f0,f1,f2,f3⟩,f4,f5,f6,f7⟩:=aY hA6;clear hA6)
      |(go_at_call 47;refine(Hvk.o w6 Hb6.o).mono ?_;rintro e w7 ⟨rfl,hb7⟩;have Hb7:=zH (Hbr5.o.step (Hb6.o.step hb7));clear hb7))
     go_ret;exact⟨1,rfl,⟨fun h=>absurd h (by decide),fun h=>absurd h Hno2.o⟩,Hb.o.step Hb7.o⟩
   |true=>
   rw[hq]at Hvk;have Hq:=zH hq;clear hq;go_wp2_with(first
    |(go_at_call 46;refine(Hpl.o w5 (Below.refl _ _)).mono ?_;rintro e w6 ⟨rfl,hb6⟩;have Hb6:=zH hb6;have hA6:=((hb6.block _ hlN).trans Hnew.o);clear f0 f1 f2 f3 f4 f5 f6 f7 hb6;obtain⟨⟨f0,f1,f2,f3⟩,f4,f5,f6,f7⟩:=aY hA6;clear hA6)
    |(go_at_call 47;refine(Hvk.o w6 Hb6.o).mono ?_;rintro e w7 ⟨rfl,hb7⟩;have Hb7:=zH (Hb6.o.step hb7);have hA7:=(Hb7.o.block _ hlN).trans Hnew.o;clear f0 f1 f2 f3 f4 f5 f6 f7 hb7;obtain⟨⟨f0,f1,f2,f3⟩,f4,f5,f6,f7⟩:=aY hA7;clear hA7)
    |(go_at_call 48;refine(Hed.o w7 Hb7.o).mono ?_;rintro e w8 ⟨v8,rfl,hi8,hb8⟩;obtain⟨p8,c8,rfl,-,-⟩:=(id hi8);have Hi8:=zH hi8;have Hb8:=zH (Hbr5.o.step (Hb7.o.step hb8));have hA8:=(Hb8.o.block _ hlA).trans HA.o;clear f0 f1 f2 f3 f4 f5 f6 f7 hb8 hi8;obtain⟨t0,t1⟩:=aM hA8;clear hA8))
   have hE:(bq n).length<=9223372036854775807:=by
    have:=Hsz.o;unfold bq;simp only[List.length_append,Jc];split<;>simp<;>omega
   have Hnt:=zH (show(∀e∈bq n,T.has e=G6)->bB T n=G6 from fun h=>by
    unfold bB;rw[Hp.o,Hq.o];simpa[Ij]using h)
   have Hnf:=zH (show∀e∈bq n,T.has e=G7->bB T n=G7 from fun e he h=>by
    rw[IA];intro g;unfold bB at g;rw[Ik,Ij]at g;rw[g.2 e he]at h;cases h)
   generalize bq n=E at*
   go_loopw[36] (fun i w9=>∃m:Nat,i=GX GZ m/\m<=E.length/\(∀j (h:j<E.length),j<m->T.has E[j]=G6)/\Below w8.heap.size w8 w9) (fun i _=>E.length-(intOf i).toNat)
   case atStart=>exact⟨0,rfl,by omega,fun j _ h=>by omega,Below.refl _ _⟩
   case round=>
    obtain⟨m,rfl,hm,hall9,hb9⟩:=hrel;have Hall9:=zH hall9;have Hb9:=zH hb9;have Hbt9:=zH (Hb8.o.step hb9);clear hall9 hb9 t0 t1;by_cases hlm:m<E.length
    ·obtain⟨-,a9,o9,rfl,-,y0⟩:=(Hi8.o.below Hb9.o).at hlm;obtain⟨t0,t1⟩:=aM ((Hbt9.o.block _ hlA).trans HA.o);have hmem:=Ip hlm;have Hnx9:=zH (show T.has E[m]=G6->∀j (h:j<E.length),j<m+1->T.has E[j]=G6 from fun g j h hj=>by
      rcases IP.1 hj with g2|rfl
      ·exact Hall9.o j h g2
      ·exact g)
     have Hno9:=zH (show T.has E[m]=G7->¬WfT T from fun h=>Hno.o (Hnf.o _ hmem h));clear hmem;generalize E[m]=x at*
     by_cases x0:x<0
     ·have d0:decide (x<0)=true:=by simp[x0]
      have Hno2:=zH (Hno9.o (by rw[IA];intro g;have:=(has_iff.1 g).1;omega));clear x0;go_wp2;go_ret;exact⟨1,rfl,⟨fun h=>absurd h (by decide),fun h=>absurd h Hno2.o⟩,Hb.o.step Hbt9.o⟩
     have d0:decide (x<0)=false:=by simp;omega
     by_cases x1:x<(T.nodes.length:Int)
     ·have d1:decide ((T.nodes.length:Int)<=x)=false:=by simp;omega
      have Hnx3:=zH (Hnx9.o (has_iff.2 ⟨by omega,x1⟩));clear x0 x1;go_wp2;exact⟨⟨m+1,by go_num,by omega,Hnx3.o,Hb9.o⟩,by simp[intOf];omega⟩
     ·have d1:decide ((T.nodes.length:Int)<=x)=true:=by simp;omega
      have Hno2:=zH (Hno9.o (by rw[IA];intro g;have:=(has_iff.1 g).2;unfold Ty.len at this;omega));clear x0 x1;go_wp2;go_ret;exact⟨1,rfl,⟨fun h=>absurd h (by decide),fun h=>absurd h Hno2.o⟩,Hb.o.step Hbt9.o⟩
    ·obtain rfl:m=E.length:=by omega
     have Hnx2:=zH (Hnx.o (Hnt.o fun e he=>by obtain⟨j,hj,rfl⟩:=IZ.1 he;exact Hall9.o j hj hj));go_wp2;exact⟨⟨k+1,by go_num,by omega,Hnx2.o,Hbt9.o⟩,by simp[intOf];omega⟩
  ·obtain rfl:k=T.nodes.length:=by omega
   have Hwf:=zH (DY Hroot.o fun i hi=>Hall.o i hi hi);have HK:=zH (wI fun i hi=>Hall.o i hi hi);obtain⟨t0,t1⟩:=aM ((Hbr.o.block _ hlA).trans HA.o);have Hc:=zH (mC T wr _ (HT.o.below Hbw.o) HK.o HS.o.len);by_cases hc:Ctr T
   ·have hd:decide (Ctr T)=true:=decide_eq_true hc;have Hy:=zH (Hwf.o.2 hc);rw[hd]at Hc;clear hd hc;go_wp2_with(go_at_call 49;refine Hc.o.mono ?_;rintro e w6 ⟨rfl,hb6⟩;have Hb6:=zH (Hbw.o.step hb6);clear hb6);go_ret;exact⟨0,rfl,⟨fun _=>Hy.o,fun _=>rfl⟩,Hb6.o⟩
   ·have hd:decide (Ctr T)=false:=decide_eq_false hc;have Hy:=zH (show¬WfT T from fun g=>hc (Hwf.o.1 g));rw[hd]at Hc;clear hd hc;go_wp2_with(go_at_call 49;refine Hc.o.mono ?_;rintro e w6 ⟨rfl,hb6⟩;have Hb6:=zH (Hbw.o.step hb6);clear hb6);go_ret;exact⟨3,rfl,⟨fun h=>absurd h (by decide),fun h=>absurd h Hy.o⟩,Hb6.o⟩
end Go.Proofs.YtfpahmeploondaaGreatDoor
namespace Go.Proofs.YtfpahmeploondaaGreatDoor
open Go.Ident
def fI(x:ByteArray):List ByteArray->List ByteArray
 |[]=>[x]
 |y::r=>if bD y x<0 then y::fI x r else if bD y x=0 then y::r else x::y::r
def fW(l:List ByteArray):List ByteArray:=l.foldl (fun out x=>fI x out) []
theorem sY {x z:ByteArray}:∀{l:List ByteArray},z∈fI x l<->z=x\/z∈l
 |[]=>by simp[fI]
 | y :: r => by
   unfold fI;by_cases h1:bD y x<0
   ·rw[if_pos h1,Ix,sY (l:=r),Ix];exact⟨fun h=>by rcases h with h|h|h<;>simp[h],fun h=>by rcases h with h|h|h<;>simp[h]⟩
   ·rw[if_neg h1];by_cases h2:bD y x=0
    ·rw[if_pos h2,ir h2];simp
    ·rw[if_neg h2];simp
theorem ascS_cons {x:ByteArray}:∀{l:List ByteArray},bV bD (x::l)=G6<->(∀y,l.head?=G5 y->bD x y<0)/\bV bD l=G6
 |[]=>by simp[bV]
 |y::r=>by simp[bV]
theorem yp {x:ByteArray}{l:List ByteArray}{z:ByteArray}(h:(fI x l).head?=G5 z):z=x\/l.head?=G5 z:=by
 cases l with
 |nil=>left;simpa[fI]using h.symm
 | cons y r =>
   unfold fI at h;by_cases h1:bD y x<0
   ·rw[if_pos h1]at h;right;simpa using h
   ·rw[if_neg h1]at h;by_cases h2:bD y x=0
    ·rw[if_pos h2]at h;right;simpa using h
    ·rw[if_neg h2]at h;left;simpa using h.symm
theorem sZ {x:ByteArray}:∀{l:List ByteArray},bV bD l=G6->bV bD (fI x l)=G6
 |[],_=>by simp[fI,bV]
 | y :: r, h => by
   obtain⟨g1,g2⟩:=ascS_cons.1 h;unfold fI;by_cases h1:bD y x<0
   ·rw[if_pos h1,ascS_cons];refine⟨fun z hz=>?_,sZ g2⟩;rcases yp hz with rfl|hz
    ·exact h1
    ·exact g1 z hz
   ·rw[if_neg h1];by_cases h2:bD y x=0
    ·rw[if_pos h2];exact h
    ·rw[if_neg h2,ascS_cons];refine⟨fun z hz=>?_,h⟩;have:z=y:=by simpa using hz.symm
     subst this;have:=ordS_lo.sym x z trivial trivial;omega
theorem nX:∀(l out:List ByteArray),bV bD out=G6->bV bD (l.foldl (fun out x=>fI x out) out)=G6/\∀z,z∈l.foldl (fun out x=>fI x out) out<->z∈l\/z∈out
 |[],out,h=>⟨h,fun z=>by simp⟩
 | x :: r, out, h => by
   obtain⟨h1,h2⟩:=nX r (fI x out) (sZ h);refine⟨h1,fun z=>?_⟩;rw[List.foldl_cons,h2 z,sY,Ix];exact⟨fun h=>by rcases h with h|h|h<;>simp[h],fun h=>by rcases h with(h|h)|h<;>simp[h]⟩
theorem yq(l:List ByteArray):bV bD (fW l)=true:=(nX l [] (by simp[bV])).1
theorem yr {l:List ByteArray}{z:ByteArray}:z∈fW l<->z∈l:=by rw[fW,(nX l [] (by simp[bV])).2];simp
theorem qR {x:ByteArray}:∀{k:Nat} {l:List ByteArray},(∀m (h:m<l.length),m<k->bD l[m] x<0)->k<=l.length->(∀h:k<l.length,0<bD l[k] x)->fI x l=l.take k++[x]++l.drop k
 |0,[],_,_,_=>rfl
 | 0, y :: r, _, _, h => by
   have:=h (by simp);simp only[JK]at this;unfold fI;rw[if_neg (by omega),if_neg (by omega)];rfl
 |k+1,[],_,h,_=>by simp at h
 | k + 1, y :: r, h1, h2, h3 => by
   have:=h1 0 (by simp) (by omega);simp only[JK]at this;unfold fI;rw[if_pos this,qR (k:=k) (l:=r) (fun m hm hk=>h1 (m+1) (by simp;omega) (by omega)) (by simpa using h2) (fun h=>h3 (by simp;omega))];simp
theorem wJ {x:ByteArray}:∀{k:Nat} {l:List ByteArray},(∀m (h:m<l.length),m<k->bD l[m] x<0)->(∃h:k<l.length,bD l[k] x=0)->fI x l=l
 |0,[],_,⟨h,_⟩=>by simp at h
 | 0, y :: r, _, ⟨_, h⟩ => by
   simp only[JK]at h;unfold fI;rw[if_neg (by omega),if_pos h]
 |k+1,[],_,⟨h,_⟩=>by simp at h
 | k + 1, y :: r, h1, ⟨h2, h3⟩ => by
   have:=h1 0 (by simp) (by omega);simp only[JK]at this;unfold fI;rw[if_pos this,wJ (k:=k) (l:=r) (fun m hm hk=>h1 (m+1) (by simp;omega) (by omega)) ⟨by simpa using h2,h3⟩]
def nA:ByteArray:=⟨#[65]⟩
def noA(l:List ByteArray):List ByteArray:=l.filter fun s=> !decide (s=nA)
def rlL(c:Bool)(l:List ByteArray):List ByteArray:=if c then fW (noA l++[nA])else noA l
mutual
def rlV(b:VV->Bool):VV->VV
 | .mk k n t kids keys ents labels=>.mk k n t (rlVs b kids) keys (dt (rlEs b ents)) (rlL (b (.mk k n t kids keys ents labels)) labels)
def rlE(b:VV->Bool):EE->EE
 | .mk args f res=>.mk (rlVs b args) f (if f then zeroV else rlV b res)
def rlVs(b:VV->Bool):List VV->List VV
 |[]=>[]
 |x::r=>rlV b x::rlVs b r
def rlEs(b:VV->Bool):List EE->List EE
 |[]=>[]
 |x::r=>rlE b x::rlEs b r
end
section
variable {b:VV->Bool}
theorem qS:∀l,rlVs b l=l.map (rlV b)
 |[]=>by rw[rlVs];rfl
 |x::r=>by rw[rlVs,qS r];rfl
theorem wK:∀l,rlEs b l=l.map (rlE b)
 |[]=>by rw[rlEs];rfl
 |x::r=>by rw[rlEs,wK r];rfl
theorem iC(v:VV):rlV b v=.mk v.kind v.num v.text (v.kids.map (rlV b)) v.keys (dt (v.ents.map (rlE b))) (rlL (b v) v.labels):=by
 cases v with|mk k n t kids keys ents labels=>rw[rlV,qS,wK];rfl
theorem qT(e:EE):rlE b e=.mk (e.args.map (rlV b)) e.fails (if e.fails then zeroV else rlV b e.res):=by
 cases e with|mk a f r=>rw[rlE,qS];rfl
theorem nY(v:VV):(rlV b v).kind=v.kind:=by rw[iC];rfl
theorem wM(v:VV):(rlV b v).num=v.num:=by rw[iC];rfl
theorem td(v:VV):(rlV b v).text=v.text:=by rw[iC];rfl
theorem nZ(v:VV):(rlV b v).kids=v.kids.map (rlV b):=by rw[iC];rfl
theorem te(v:VV):(rlV b v).keys=v.keys:=by rw[iC];rfl
theorem n9(v:VV):(rlV b v).ents=dt (v.ents.map (rlE b)):=by rw[iC];rfl
theorem j4(v:VV):(rlV b v).labels=rlL (b v) v.labels:=by rw[iC];rfl
theorem kM(e:EE):(rlE b e).args=e.args.map (rlV b):=by rw[qT];rfl
theorem jo(e:EE):(rlE b e).fails=e.fails:=by rw[qT];rfl
theorem mM(e:EE):(rlE b e).res=if e.fails then zeroV else rlV b e.res:=by rw[qT];rfl
theorem oc {q:ByteArray->Bool}:∀{l:List ByteArray},bV bD l=G6->bV bD (l.filter q)=G6/\∀x,(∀y,l.head?=G5 y->bD x y<0)->∀y,(l.filter q).head?=G5 y->bD x y<0
 |[],_=>⟨rfl,fun x _ y h=>by simp at h⟩
 | z :: r, h => by
   obtain⟨g1,g2⟩:=ascS_cons.1 h;obtain⟨h1,h2⟩:=oc (q:=q) g2;rw[List.filter_cons];split
   ·refine⟨ascS_cons.2 ⟨h2 z g1,h1⟩,fun x hx y hy=>?_⟩;exact hx y (by simpa using hy)
   ·refine⟨h1,fun x hx y hy=>?_⟩;refine h2 x (fun y' hy'=>?_) y hy;have a1:=hx z rfl;have a2:=g1 y' hy';have a3:=ordS_lo.tr x z y' trivial trivial trivial;have a4:=ordS_lo.sym x y' trivial trivial;have a5:bD x y'≠0:=fun h0=>by
     have:=ir h0;subst this;have:=ordS_lo.sym x z trivial trivial;omega
    omega
theorem wN {l:List ByteArray}{s:ByteArray}:s∈noA l<->s∈l/\s≠nA:=by simp[noA]
theorem CB {c:Bool}{l:List ByteArray}(h:bV bD l=G6):bV bD (rlL c l)=true:=by
 unfold rlL;cases c with
 |true=>exact yq _
 |false=>exact(oc h).1
theorem mem_rlL {c:Bool}{l:List ByteArray}{s:ByteArray}:s∈rlL c l<->(s∈l/\s≠nA)\/(c=G6/\s=nA):=by
 unfold rlL;cases c with
 |true=>rw[if_pos rfl,yr,List.mem_append,wN,List.mem_singleton];simp
 |false=>rw[if_neg (by simp),wN];simp
theorem En:dG nA.data.toList=true:=by decide
theorem zV {v:VV}(h:bT v=G6):bT (rlV b v)=true:=by
 unfold bT at h ⊢;simp only[Ik]at h ⊢;obtain⟨⟨⟨h1,h2⟩,⟨⟨⟨⟨h3,h4⟩,h5⟩,h6⟩,h7⟩⟩,h8⟩:=h;rw[nY,wM,td,nZ,te,n9,j4,sQ];refine⟨⟨⟨h1,CB h2.1,?_⟩,⟨⟨⟨⟨h3,h4⟩,by simpa using h5⟩,h6⟩,by simpa using h7⟩⟩,?_⟩
 ·rw[Ij]at h2 ⊢;intro s hs;rcases mem_rlL.1 hs with⟨h,_⟩|⟨_,rfl⟩
  ·exact h2.2 s h
  ·exact En
 have hk2:iS (v.kids.map (rlV b))=iS v.kids:=by
  unfold iS;rw[List.getElem?_map];cases v.kids[1]?with
  |none=>rfl
  |some t=>simp[nY]
 rw[hk2];simp only[Jc];by_cases h9:v.kind=9
 ·simp only[h9]at h8 ⊢;simp only[show(9:Int)≠2 by decide,show(9:Int)≠3 by decide,show(9:Int)≠4 by decide,show(9:Int)≠6 by decide,show(9:Int)≠7 by decide,show(9:Int)≠8 by decide,if_false,if_true,Ik,Ij]at h8 ⊢;refine⟨h8.1,yl _,fun e he=>?_⟩;obtain⟨e',he',rfl⟩:=IW.1 (mem_entsE.1 he);have:=h8.2.2 e' he';unfold bQ at this ⊢;rw[kM,jo,mM,Jc];simp only[Ik,IE]at this ⊢;refine⟨this.1,?_⟩;cases hf:e'.fails with
  |false=>left;rfl
  |true=>right;rw[if_pos rfl,decide_eq_true_eq];exact cmpV_lo.self trivial
 ·simp only[h9,if_false]at h8 ⊢;exact h8
theorem zW:∀d (v:VV),v.ht<=d->v.valid=G6->(rlV b v).valid=true:=by
 intro d
 induction d with
 |zero=>intro v h;have:=fx v;omega
 | succ d ih =>
   intro v hd hv;rw[fT]at hv ⊢;simp only[Ik,Ij]at hv ⊢;refine⟨zV hv.1,?_,?_⟩
   ·rw[nZ];intro x hx;obtain⟨y,hy,rfl⟩:=IW.1 hx;exact ih y (by have:=fS hy;omega) (hv.2.1 y hy)
   ·rw[n9];intro e he;obtain⟨e',he',rfl⟩:=IW.1 (mem_entsE.1 he);have h1:=hv.2.2 e' he';have h2:=ip he';rw[jR]at h1 ⊢;rw[kM,jo,mM];simp only[Ik,Ij,IE]at h1 ⊢;refine⟨fun x hx=>?_,?_⟩
    ·obtain⟨y,hy,rfl⟩:=IW.1 hx;exact ih y (by have:=gF hy;omega) (h1.1 y hy)
    ·cases hf:e'.fails with
     |true=>left;rfl
     | false =>
       right;rw[if_neg (by simp)];rcases h1.2 with g|g
       ·rw[hf]at g;cases g
       ·exact ih _ (by have:=gG e';omega) g
end
end Go.Proofs.YtfpahmeploondaaGreatDoor
