/- Walks and plain facts for the law on type variables, for all values and types that the heap holds (texts Q3 Q4). -/
import Derived.Test.YtfpahmeploondaaGreatDoorR03
import Derived.Test.YtfpahmeploondaaGreatDoorR26
set_option linter.unusedVariables false
set_option linter.unusedSimpArgs false
set_option maxHeartbeats 64000000
open Option renaming none -> G0, some -> G5
open Bool renaming true -> G6, false -> G7
open Go.Value renaming slice -> GU, string -> GW, int -> GX
open Go.Obj renaming cells -> GY
open Go.IntKind renaming i64 -> GZ
open List renaming take_succ_eq_append_getElem -> Jj, getElem_mem -> Ip, take_length -> Jf, any_eq_true -> Jw
open Nat renaming lt_succ_iff_lt_or_eq -> IP, add_zero -> Im
namespace Go.Proofs.YtfpahmeploondaaGreatDoor
open Go.RowKit
set_option maxRecDepth 100000
theorem Am(T:Ty)(V:VV)(n:TN)(w:World)(cn:List Value)(v t:Value)(hv:VW w v V)(ht:TS w t T)(hn:NC w n cn)
 (hkk:V.keys.length=V.kids.length) (hkd:∀k∈V.keys,k.kind=0\/k.kind=1) (hc:∀j (h:j<V.keys.length) (h2:j<V.kids.length),gl T V.kids[j] (atN n V.keys[j])):
 Calls Tryz.prog 75 #[v,t,.agg cn.toArray] w (ER (mapA (mem T) V n) w):=by
 have HT:=zH ht;have HC:=zH hc;have HN:=zH hn;have Hkk:=zH hkk;have Hkd:=zH hkd;have HV:=zH hv;obtain⟨d,v1,b1,v2,b2,v3,b3,v4,b4,rfl,-,hkids,hkeys,-,-⟩:=hv.ex;obtain⟨p1,c1,p2,c2,rfl,-,hfs⟩:=hn;obtain⟨pt,ct,rfl,-⟩:=ht;have hm:=hfs.big;have hL:V.keys.length<=9223372036854775807:=by obtain⟨_,_,_,h⟩:=hkeys;exact h.big
 have Hkids:=zH hkids;have Hkeys:=zH hkeys;have Hfs:=zH hfs;clear hc hv hkk hkd hkids hkeys hfs;go_enter Tryz.func75,Tryz.ntmps75;go_upto_region 1 with fail
 obtain⟨w3,e9,hA,hB,hC,hb⟩:=uR w (GY #[GX GZ V.kind,GX GZ V.num,GW V.text,GU v1 V.kids.length b1,GU v2 V.keys.length b2,GU v3 V.ents.length b3,GU v4 V.labels.length b4] 33) (GY #[GU pt T.nodes.length ct,GX GZ T.root] 27) (GY #[GX GZ n.kind,GX GZ n.lo,GX GZ n.hi,GW n.text,GU p1 n.kids.length c1,GU p2 n.fields.length c2,GX GZ n.rest0,GX GZ n.rest1] 61);rw[e9];have hlA:=ai hA;have hlB:=ai hB;have hlC:=ai hC;have HbA:=zH hA;have HbB:=zH hB;have HbC:=zH hC;have Hb:=zH hb;clear e9 hA hB hC hb;go_wp2;go_loopw[7] (fun i wr=>∃k:Nat,i=GX GZ k/\k<=n.fields.length/\(∀j (h:j<n.fields.length),j<k->(n.fields[j].opt||V.keys.any fun q=>decide (q=n.fields[j].key))=G6)/\Below w3.heap.size w3 wr) (fun i _=>n.fields.length-(intOf i).toNat)
 case atStart=>exact⟨0,rfl,by omega,fun j _ h=>by omega,Below.refl _ _⟩
 case round=>
  obtain⟨k,rfl,hk,hall,hbr⟩:=hrel;have Hall:=zH hall;have Hbr:=zH hbr;have Hbw:=zH (Hb.o.step hbr);obtain⟨⟨d0,d1,d2,d3⟩,d4,d5,d6,d7⟩:=aY ((hbr.block _ hlC).trans HbC.o);obtain⟨⟨b0,b1',b2',b3'⟩,b4',b5',b6'⟩:=aN ((hbr.block _ hlA).trans HbA.o);clear hall hbr;by_cases hlt:k<n.fields.length
  ·obtain⟨a,o,cs,rfl,hab,-,hrng,rfl⟩:=Hfs.o.all hlt;have hr:=hrng wr Hbw.o;have z0:=hr 0 _ rfl;have z1:=hr 1 _ rfl;have z2:=hr 2 _ rfl;have z3:=hr 3 _ rfl;rw[Im]at z0;have Hnx:=zH (show(n.fields[k].opt||V.keys.any fun q=>decide (q=n.fields[k].key))=G6->∀j (h:j<n.fields.length),j<k+1->(n.fields[j].opt||V.keys.any fun q=>decide (q=n.fields[j].key))=G6 from fun h j hj hjk=>by
    rcases IP.1 hjk with g|rfl
    ·exact Hall.o j hj g
    ·exact h)
   have Hno:=zH (uS (T:=T) (V:=V) hlt);generalize n.fields[k]=f at*
   clear hr hrng;have Hkey:=zH (CY V f.key wr.drew _ (HV.o.below Hbw.o.drew));cases hopt:f.opt with
   | true =>
     have Hnx2:=zH (Hnx.o (by rw[hopt];rfl));rw[hopt]at z3;clear hopt;go_wp2_with(first
      |(with_reducible refine rg ?_)
      |(with_reducible refine fo ?_))
     exact⟨⟨k+1,by go_num,by omega,Hnx2.o,Hbr.o.drew⟩,by simp[intOf];omega⟩
   | false =>
     rw[hopt]at z3;cases hany:V.keys.any fun q=>decide (q=f.key)with
     | true =>
       have Hnx2:=zH (Hnx.o (by rw[hany];simp));have Hany:=zH hany;clear hopt hany;go_wp2_with(first
        |(with_reducible refine rg ?_)
        |(with_reducible refine fo ?_)
        |(go_at_call 101;refine Hkey.o.mono ?_;rintro e w7 ⟨i,rfl,hi,-,hb7⟩;have di:decide (i<0)=false:=(by rw[Hany.o]at hi;simp at hi ⊢;omega);have Hb7:=zH (Hbr.o.drew.step hb7);clear hb7 hi))
       exact⟨⟨k+1,by go_num,by omega,Hnx2.o,Hb7.o⟩,by simp[intOf];omega⟩
     | false =>
       have Hf:=zH (Hno.o (by rw[hany,hopt];rfl));have Hany:=zH hany;clear hopt hany;go_wp2_with(first
        |(with_reducible refine rg ?_)
        |(with_reducible refine fo ?_)
        |(go_at_call 101;refine Hkey.o.mono ?_;rintro e w7 ⟨i,rfl,hi,-,hb7⟩;have di:decide (i<0)=true:=(by rw[Hany.o]at hi;simp at hi ⊢;omega);have Hb7:=zH (Hbw.o.drew.step hb7);clear hb7 hi))
       go_ret;rw[Hf.o];exact⟨rfl,Hb7.o⟩
  ·obtain rfl:k=n.fields.length:=by omega
   have Hall1:=zH (show∀j (h:j<n.fields.length),(n.fields[j].opt||V.keys.any fun q=>decide (q=n.fields[j].key))=G6 from fun j h=>Hall.o j h h);clear Hall;obtain⟨wp,hwp⟩:∃wp:World,wp=wr:=⟨_,rfl⟩
   subst hwp;go_wp2;go_loopw[8] (fun i wr=>∃k:Nat,i=GX GZ k/\k<=V.keys.length/\(∀j (h:j<V.keys.length) (h2:j<V.kids.length),j<k->mem T V.kids[j] (atN n V.keys[j])=G6)/\Below w3.heap.size w3 wr) (fun i _=>V.keys.length-(intOf i).toNat)
   case atStart=>exact⟨0,rfl,by omega,fun j _ _ h=>by omega,Hbr.o⟩
   case round=>
    obtain⟨k,rfl,hk,hall,hbr⟩:=hrel;have Hall:=zH hall;have Hbr:=zH hbr;have Hbw:=zH (Hb.o.step hbr);clear d0 d1 d2 d3 d4 d5 d6 d7 b0 b1' b2' b3' b4' b5' b6';obtain⟨⟨d0,d1,d2,d3⟩,d4,d5,d6,d7⟩:=aY ((hbr.block _ hlC).trans HbC.o);obtain⟨⟨b0,b1',b2',b3'⟩,b4',b5',b6'⟩:=aN ((hbr.block _ hlA).trans HbA.o);clear hall hbr;by_cases hlt:k<V.keys.length
    ·have hlk:k<V.kids.length:=by have:=Hkk.o;omega
     obtain⟨p',c',e9,hrk⟩:=Hkeys.o;injection e9 with e91 _ e93
     subst e91 e93;have Hrk:=zH (show∀w',Below w.heap.size w w'->∃a o,v2=G5 ⟨a,o,G0⟩/\a<w'.heap.size/\w'.cell? ⟨a,o+k*2,G0⟩=G5 (GX GZ V.keys[k].kind)/\w'.cell? ⟨a,o+k*2+1,G0⟩=G5 (GW V.keys[k].text)from fun w' hb=>(hrk.below hb fun _ _ _ h=>h).key hlt);obtain⟨a,o,rfl,hab,z0,z1⟩:=Hrk.o wr Hbw.o;obtain⟨dk,p',c',e9,hrv⟩:=Hkids.o;injection e9 with e91 _ e93
     subst e91 e93;obtain⟨a2,o2,cs,rfl,hab2,-,hrng,hP⟩:=hrv.all hlk;obtain⟨q1,e1,q2,e2,q3,e3,q4,e4,rfl⟩:=hP.seven;have HP:=zH hP;have Hrng:=zH hrng;have Hcall:=zH (HC.o k hlt hlk);have Hkind:=zH (Hkd.o _ (Ip hlt));have Hnx:=zH (show mem T V.kids[k] (atN n V.keys[k])=G6->∀j (h:j<V.keys.length) (h2:j<V.kids.length),j<k+1->mem T V.kids[j] (atN n V.keys[j])=G6 from fun g j h h2 hjk=>by
      rcases IP.1 hjk with g2|rfl
      ·exact Hall.o j h h2 g2
      ·exact g)
     have Hno:=zH (uT (T:=T) (n:=n) hlt hlk);generalize V.keys[k]=ky at*
     generalize V.kids[k]=X at*
     clear hrk hrv hP hrng;have Hfi:=zH (yG n ky wr.drew _ (HN.o.below Hbw.o.drew));go_upto_region 10 with(first
      |(with_reducible refine rg ?_)
      |(with_reducible refine fo ?_)
      |(go_at_call 102;refine Hfi.o.mono ?_;rintro e w8 ⟨i,rfl,hi,hb8⟩;have Hi:=zH hi;have Hbr8:=zH (Hbr.o.drew.step hb8);have Hbw8:=zH (Hbw.o.drew.step hb8);clear hi hb8))
     clear d0 d1 d2 d3 d4 d5 d6 d7 b0 b1' b2' b3' b4' b5' b6' z0 z1;obtain⟨⟨d0,d1,d2,d3⟩,d4,d5,d6,d7⟩:=aY ((Hbr8.o.block _ hlC).trans HbC.o);obtain⟨⟨b0,b1',b2',b3'⟩,b4',b5',b6'⟩:=aN ((Hbr8.o.block _ hlA).trans HbA.o);obtain⟨t0,t1⟩:=aM ((Hbr8.o.block _ hlB).trans HbB.o);obtain⟨a',o',e9,-,y0,y1⟩:=Hrk.o w8 Hbw8.o;injection e9 with e9
     injection e9 with e91 e92
     subst e91 e92;rcases Hkind.o with hkd|hkd
     ·rw[hkd]at y0;rcases Hi.o with⟨rfl,hnone⟩|⟨j,rfl,hj,hat⟩
      ·have hat:atN n ky=n.rest0:=by rw[pF hnone,if_pos hkd]
       clear hkd hnone;have Hcl:=zH (show gl T X n.rest0 by have h:=Hcall.o;rw[hat]at h;exact h);have hr:=Hrng.o w8 Hbw8.o;have r0:=hr 0 _ rfl;have r1:=hr 1 _ rfl;have r2:=hr 2 _ rfl;have r3:=hr 3 _ rfl;have r4:=hr 4 _ rfl;have r5:=hr 5 _ rfl;have r6:=hr 6 _ rfl;rw[Im]at r0;cases hmv:mem T X n.rest0 with
       | true =>
         have Hnx2:=zH (Hnx.o (by rw[hat];exact hmv));have Hmv:=zH hmv;clear hmv hat hr;go_wp2_with(first
          |(with_reducible refine rg ?_)
          |(with_reducible refine fo ?_)
          |(go_at_call 40;refine(Hcl.o w8.drew _ _ ⟨dk,_,rfl,HP.o.below Hbw8.o.drew⟩ (HT.o.below Hbw8.o.drew)).mono ?_;rintro e w9 ⟨rfl,hb9⟩;rw[Hmv.o];have Hbr9:=zH (Hbr8.o.drew.step hb9);clear hb9))
         exact⟨⟨k+1,by go_num,by omega,Hnx2.o,Hbr9.o⟩,by simp[intOf];omega⟩
       | false =>
         have Hf:=zH (Hno.o (by rw[hat];exact hmv));have Hmv:=zH hmv;clear hmv hat hr;go_wp2_with(first
          |(with_reducible refine rg ?_)
          |(with_reducible refine fo ?_)
          |(go_at_call 40;refine(Hcl.o w8.drew _ _ ⟨dk,_,rfl,HP.o.below Hbw8.o.drew⟩ (HT.o.below Hbw8.o.drew)).mono ?_;rintro e w9 ⟨rfl,hb9⟩;rw[Hmv.o];have Hbw9:=zH (Hbw8.o.drew.step hb9);clear hb9))
         go_ret;rw[Hf.o];exact⟨rfl,Hbw9.o⟩
      ·obtain⟨af,of,cs,rfl,hafb,-,hfr,rfl⟩:=(Hfs.o.below Hbw8.o fun _ _ _ h=>h).at hj;have g2:=hfr 2 _ rfl;generalize n.fields[j]=fj at*
       clear hkd hfr;have Hcl:=zH (show gl T X fj.node by have h:=Hcall.o;rw[hat]at h;exact h);have hr:=Hrng.o w8 Hbw8.o;have r0:=hr 0 _ rfl;have r1:=hr 1 _ rfl;have r2:=hr 2 _ rfl;have r3:=hr 3 _ rfl;have r4:=hr 4 _ rfl;have r5:=hr 5 _ rfl;have r6:=hr 6 _ rfl;rw[Im]at r0;cases hmv:mem T X fj.node with
       | true =>
         have Hnx2:=zH (Hnx.o (by rw[hat];exact hmv));have Hmv:=zH hmv;clear hmv hat hr;go_wp2_with(first
          |(with_reducible refine rg ?_)
          |(with_reducible refine fo ?_)
          |(go_at_call 40;refine(Hcl.o w8.drew _ _ ⟨dk,_,rfl,HP.o.below Hbw8.o.drew⟩ (HT.o.below Hbw8.o.drew)).mono ?_;rintro e w9 ⟨rfl,hb9⟩;rw[Hmv.o];have Hbr9:=zH (Hbr8.o.drew.step hb9);clear hb9))
         exact⟨⟨k+1,by go_num,by omega,Hnx2.o,Hbr9.o⟩,by simp[intOf];omega⟩
       | false =>
         have Hf:=zH (Hno.o (by rw[hat];exact hmv));have Hmv:=zH hmv;clear hmv hat hr;go_wp2_with(first
          |(with_reducible refine rg ?_)
          |(with_reducible refine fo ?_)
          |(go_at_call 40;refine(Hcl.o w8.drew _ _ ⟨dk,_,rfl,HP.o.below Hbw8.o.drew⟩ (HT.o.below Hbw8.o.drew)).mono ?_;rintro e w9 ⟨rfl,hb9⟩;rw[Hmv.o];have Hbw9:=zH (Hbw8.o.drew.step hb9);clear hb9))
         go_ret;rw[Hf.o];exact⟨rfl,Hbw9.o⟩
     ·rw[hkd]at y0;rcases Hi.o with⟨rfl,hnone⟩|⟨j,rfl,hj,hat⟩
      ·have hat:atN n ky=n.rest1:=by rw[pF hnone,if_neg (by rw[hkd];decide)]
       clear hkd hnone;have Hcl:=zH (show gl T X n.rest1 by have h:=Hcall.o;rw[hat]at h;exact h);have hr:=Hrng.o w8 Hbw8.o;have r0:=hr 0 _ rfl;have r1:=hr 1 _ rfl;have r2:=hr 2 _ rfl;have r3:=hr 3 _ rfl;have r4:=hr 4 _ rfl;have r5:=hr 5 _ rfl;have r6:=hr 6 _ rfl;rw[Im]at r0;cases hmv:mem T X n.rest1 with
       | true =>
         have Hnx2:=zH (Hnx.o (by rw[hat];exact hmv));have Hmv:=zH hmv;clear hmv hat hr;go_wp2_with(first
          |(with_reducible refine rg ?_)
          |(with_reducible refine fo ?_)
          |(go_at_call 40;refine(Hcl.o w8.drew _ _ ⟨dk,_,rfl,HP.o.below Hbw8.o.drew⟩ (HT.o.below Hbw8.o.drew)).mono ?_;rintro e w9 ⟨rfl,hb9⟩;rw[Hmv.o];have Hbr9:=zH (Hbr8.o.drew.step hb9);clear hb9))
         exact⟨⟨k+1,by go_num,by omega,Hnx2.o,Hbr9.o⟩,by simp[intOf];omega⟩
       | false =>
         have Hf:=zH (Hno.o (by rw[hat];exact hmv));have Hmv:=zH hmv;clear hmv hat hr;go_wp2_with(first
          |(with_reducible refine rg ?_)
          |(with_reducible refine fo ?_)
          |(go_at_call 40;refine(Hcl.o w8.drew _ _ ⟨dk,_,rfl,HP.o.below Hbw8.o.drew⟩ (HT.o.below Hbw8.o.drew)).mono ?_;rintro e w9 ⟨rfl,hb9⟩;rw[Hmv.o];have Hbw9:=zH (Hbw8.o.drew.step hb9);clear hb9))
         go_ret;rw[Hf.o];exact⟨rfl,Hbw9.o⟩
      ·obtain⟨af,of,cs,rfl,hafb,-,hfr,rfl⟩:=(Hfs.o.below Hbw8.o fun _ _ _ h=>h).at hj;have g2:=hfr 2 _ rfl;generalize n.fields[j]=fj at*
       clear hkd hfr;have Hcl:=zH (show gl T X fj.node by have h:=Hcall.o;rw[hat]at h;exact h);have hr:=Hrng.o w8 Hbw8.o;have r0:=hr 0 _ rfl;have r1:=hr 1 _ rfl;have r2:=hr 2 _ rfl;have r3:=hr 3 _ rfl;have r4:=hr 4 _ rfl;have r5:=hr 5 _ rfl;have r6:=hr 6 _ rfl;rw[Im]at r0;cases hmv:mem T X fj.node with
       | true =>
         have Hnx2:=zH (Hnx.o (by rw[hat];exact hmv));have Hmv:=zH hmv;clear hmv hat hr;go_wp2_with(first
          |(with_reducible refine rg ?_)
          |(with_reducible refine fo ?_)
          |(go_at_call 40;refine(Hcl.o w8.drew _ _ ⟨dk,_,rfl,HP.o.below Hbw8.o.drew⟩ (HT.o.below Hbw8.o.drew)).mono ?_;rintro e w9 ⟨rfl,hb9⟩;rw[Hmv.o];have Hbr9:=zH (Hbr8.o.drew.step hb9);clear hb9))
         exact⟨⟨k+1,by go_num,by omega,Hnx2.o,Hbr9.o⟩,by simp[intOf];omega⟩
       | false =>
         have Hf:=zH (Hno.o (by rw[hat];exact hmv));have Hmv:=zH hmv;clear hmv hat hr;go_wp2_with(first
          |(with_reducible refine rg ?_)
          |(with_reducible refine fo ?_)
          |(go_at_call 40;refine(Hcl.o w8.drew _ _ ⟨dk,_,rfl,HP.o.below Hbw8.o.drew⟩ (HT.o.below Hbw8.o.drew)).mono ?_;rintro e w9 ⟨rfl,hb9⟩;rw[Hmv.o];have Hbw9:=zH (Hbw8.o.drew.step hb9);clear hb9))
         go_ret;rw[Hf.o];exact⟨rfl,Hbw9.o⟩
    ·obtain rfl:k=V.keys.length:=by omega
     have Hyes:=zH (zJ Hall1.o fun j h h2=>Hall.o j h h2 h);go_wp2;go_ret;rw[Hyes.o];exact⟨rfl,Hbw.o⟩
def FT(T:Ty)(V:VV)(n:TN):Prop:=
 (n.kind=1\/n.kind=2)\/n.kind=3\/(n.kind=4\/n.kind=6)\/(n.kind=5\/n.kind=7\/n.kind=8\/n.kind=9\/n.kind=11\/n.kind=15)\/
 ((n.kind=10\/n.kind=12)/\n.kids.length<=1000/\∀x∈V.kids,∀k∈n.kids,gl T x k)\/
 (n.kind=13/\(V.kind=8->V.keys.length=V.kids.length)/\(∀k∈V.keys,k.kind=0\/k.kind=1)/\∀j (h:j<V.keys.length) (h2:j<V.kids.length),gl T V.kids[j] (atN n V.keys[j]))\/
 (n.kind=14/\1<=n.kids.length/\n.kids.length<=1000/\∀e∈V.ents,(∀x∈e.args,∀k∈n.kids,gl T x k)/\(e.fails=G7->∀k∈n.kids,gl T e.res k))\/
 ((n.kind=16\/n.kind=17)/\∀x∈n.kids,gl T V x)\/
 (n.kind=18/\0<n.kids.length/\gl T V (n.kids.getD 0 0))\/n.kind=19
theorem An(T:Ty)(hw:WfT T)(V:VV)(i:Nat)(hi:i<T.nodes.length)(n:TN)(hn:n=T.node (i:Nat))(hq:FT T V n):gl T V (i:Nat):=by
 intro w v t hv ht;have Hn:=zH (show mem T V (i:Nat)=ed (mem T) V (mem T V) n by rw[hn];exact nJ hw.m _ _);have Hv:=zH hv;have Ht:=zH ht;obtain⟨d,v1,b1,v2,b2,v3,b3,v4,b4,rfl,hvs,hkids,hkeys,hents,hlabs⟩:=hv.ex;obtain⟨pt,ct,rfl,hnodes,hsz⟩:=ht;have hlen:=hnodes.big;have hszk:n.kids.length<=9223372036854775807:=hsz _ (by rw[hn,T.node_at hi];exact Ip hi);obtain⟨a,o,cs,rfl,hab,-,hrng,hNC⟩:=hnodes.all hi;rw[<-T.node_at hi,<-hn]at hNC;have HN:=zH hNC;obtain⟨p1,c1,p2,c2,rfl,hks,hfs⟩:=hNC;have Hks:=zH hks;have Hfs:=zH hfs;have Hvs:=zH hvs;have Hkids:=zH hkids;have Hkeys:=zH hkeys;have Hents:=zH hents;have Hlabs:=zH hlabs;have hszl:V.labels.length<=9223372036854775807:=by obtain⟨_,_,_,h⟩:=hlabs;exact h.big
 have hszy:V.keys.length<=9223372036854775807:=by obtain⟨_,_,_,h⟩:=hkeys;exact h.big
 have hsze:V.ents.length<=9223372036854775807:=by obtain⟨_,_,_,_,h⟩:=hents;exact h.big
 have hszf:=hfs.big;have Hq:=zH hq;clear hn hq hnodes hsz hks hfs hv hvs hkids hkeys hents hlabs;obtain⟨w2,e9,hA,hB,hb⟩:=bE w (GY #[GX GZ V.kind,GX GZ V.num,GW V.text,GU v1 V.kids.length b1,GU v2 V.keys.length b2,GU v3 V.ents.length b3,GU v4 V.labels.length b4] 33) (GY #[GU (G5 ⟨a,o,G0⟩) T.nodes.length ct,GX GZ T.root] 27);have hr:=hrng w2 hb;have z0:=hr 0 _ rfl;have z1:=hr 1 _ rfl;have z2:=hr 2 _ rfl;have z3:=hr 3 _ rfl;have z4:=hr 4 _ rfl;have z5:=hr 5 _ rfl;have z6:=hr 6 _ rfl;have z7:=hr 7 _ rfl;rw[Im]at z0;obtain⟨x0,x1⟩:=aM hB;clear hrng hr;go_enter Tryz.func40,Tryz.ntmps40;go_upto_region 1 with fail
 clear e9;go_upto_region 2 with fail
 have hnew:=heap_alloc_new w2 (GY #[GX GZ n.kind,GX GZ n.lo,GX GZ n.hi,GW n.text,GU p1 n.kids.length c1,GU p2 n.fields.length c2,GX GZ n.rest0,GX GZ n.rest1] 61);have ho:Below w2.heap.size w2 (w2.alloc (GY #[GX GZ n.kind,GX GZ n.lo,GX GZ n.hi,GW n.text,GU p1 n.kids.length c1,GU p2 n.fields.length c2,GX GZ n.rest0,GX GZ n.rest1] 61)):=(Below.refl _ _).alloc (Nat.le_refl _) _;generalize w2.alloc (GY #[GX GZ n.kind,GX GZ n.lo,GX GZ n.hi,GW n.text,GU p1 n.kids.length c1,GU p2 n.fields.length c2,GX GZ n.rest0,GX GZ n.rest1] 61)=w3 at*
 have Hb3:=zH (hb.step ho);have gA:=(ho.block _ (ai hA)).trans hA;have gB:=(ho.block _ (ai hB)).trans hB;clear z0 z1 z2 z3 z4 z5 z6 z7 x0 x1 ho hb hA hB;generalize w2.heap.size=bn at*
 obtain⟨⟨a0,a1,a2,a3⟩,a4,a5,a6⟩:=aN gA;obtain⟨t0,t1⟩:=aM gB;obtain⟨⟨n0,n1,n2,n3⟩,n4,n5,n6,n7⟩:=aY hnew;have LN:=zH (show bn<w3.drew.heap.size from ai hnew);have GN:=zH hnew;clear hnew;rcases Hq.o with hk|hkind|hk|hk|⟨hk,hm,hc⟩|⟨hkind,hkk,hkd,hc⟩|⟨hkind,h1,hm,hc⟩|⟨hk,hc⟩|⟨hkind,h0,hc⟩|hkind
 ·obtain⟨b,hb⟩:∃b:Bool,(b=G7/\n.kind=1\/b=G6/\n.kind=2):=hk.elim (fun h=>⟨_,.inl ⟨rfl,h⟩⟩) fun h=>⟨_,.inr ⟨rfl,h⟩⟩
  rcases hb with⟨rfl,hkind⟩|⟨rfl,hkind⟩
  ·have Hmem:=zH (show mem T V (i:Nat)=G7 by rw[Hn.o];unfold ed;simp[hkind]);rw[hkind]at n0 HN;clear hkind;go_wp2;go_ret;rw[Hmem.o];exact⟨rfl,Hb3.o⟩
  ·have Hmem:=zH (show mem T V (i:Nat)=G6 by rw[Hn.o];unfold ed;simp[hkind]);rw[hkind]at n0 HN;clear hkind;go_wp2;go_ret;rw[Hmem.o];exact⟨rfl,Hb3.o⟩
 ·have Hmem:=zH (show mem T V (i:Nat)=(decide (V.kind=1)&&(decide (n.lo<=V.num)&&decide (V.num<=n.hi)))by rw[Hn.o];unfold ed;simp[hkind]);rw[hkind]at n0 HN;clear hkind;by_cases hk:V.kind=1
  ·have d0:(V.kind==1)=true:=by simp[hk]
   by_cases h1:n.lo<=V.num
   ·have d1:decide (n.lo<=V.num)=true:=by simp[h1]
    have HE:=zH (show(decide (V.kind=1)&&(decide (n.lo<=V.num)&&decide (V.num<=n.hi)))=decide (V.num<=n.hi)by simp[hk,h1]);clear hk h1;go_wp2;go_ret;rw[Hmem.o,HE.o];exact⟨rfl,Hb3.o⟩
   ·have d1:decide (n.lo<=V.num)=false:=by simp;omega
    have HE:=zH (show(decide (V.kind=1)&&(decide (n.lo<=V.num)&&decide (V.num<=n.hi)))=G7 by simp[h1]);clear hk h1;go_wp2;go_ret;rw[Hmem.o,HE.o];exact⟨rfl,Hb3.o⟩
  ·have d0:(V.kind==1)=false:=by simp[hk]
   have HE:=zH (show(decide (V.kind=1)&&(decide (n.lo<=V.num)&&decide (V.num<=n.hi)))=G7 by simp[hk]);clear hk;go_wp2;go_ret;rw[Hmem.o,HE.o];exact⟨rfl,Hb3.o⟩
 ·obtain⟨u,hu⟩:∃u:Int,(n.kind=4/\u=2)\/(n.kind=6/\u=3):=by
   rcases hk with h|h
   ·exact⟨2,by simp[h]⟩
   ·exact⟨3,by simp[h]⟩
  have Hmem:=zH (show mem T V (i:Nat)=(decide (V.kind=u)&&decide (V.text=n.text))by rw[Hn.o];unfold ed;rcases hu with⟨hkind,rfl⟩|⟨hkind,rfl⟩<;>simp[hkind]);by_cases hk:V.kind=u
  ·have d0:(V.kind==u)=true:=by simp[hk]
   have HE:=zH (show(decide (V.kind=u)&&decide (V.text=n.text))=(V.text.toList==n.text.toList)by rw[iU];simp[hk]);clear hk;rcases hu with⟨hkind,rfl⟩|⟨hkind,rfl⟩
   all_goals
    rw[hkind]at n0;clear hkind;go_wp2;go_ret;rw[Hmem.o,HE.o];exact⟨rfl,Hb3.o⟩
  ·have d0:(V.kind==u)=false:=by simp[hk]
   have HE:=zH (show(decide (V.kind=u)&&decide (V.text=n.text))=G7 by simp[hk]);clear hk;rcases hu with⟨hkind,rfl⟩|⟨hkind,rfl⟩
   all_goals
    rw[hkind]at n0;clear hkind;go_wp2;go_ret;rw[Hmem.o,HE.o];exact⟨rfl,Hb3.o⟩
 ·obtain⟨u,hu⟩:∃u:Int,(n.kind=5/\u=2)\/(n.kind=7/\u=3)\/(n.kind=8/\u=4)\/(n.kind=9/\u=5)\/(n.kind=11/\u=6)\/(n.kind=15/\u=9):=by
   rcases hk with h|h|h|h|h|h
   ·exact⟨2,by simp[h]⟩
   ·exact⟨3,by simp[h]⟩
   ·exact⟨4,by simp[h]⟩
   ·exact⟨5,by simp[h]⟩
   ·exact⟨6,by simp[h]⟩
   ·exact⟨9,by simp[h]⟩
  have Hmem:=zH (show mem T V (i:Nat)=decide (V.kind=u)by rw[Hn.o];unfold ed;rcases hu with⟨hkind,rfl⟩|⟨hkind,rfl⟩|⟨hkind,rfl⟩|⟨hkind,rfl⟩|⟨hkind,rfl⟩|⟨hkind,rfl⟩<;>simp[hkind,wt]);have HE:=zH (show decide (V.kind=u)=(V.kind==u)by rw[Bool.eq_iff_iff];simp);rcases hu with⟨hkind,rfl⟩|⟨hkind,rfl⟩|⟨hkind,rfl⟩|⟨hkind,rfl⟩|⟨hkind,rfl⟩|⟨hkind,rfl⟩
  all_goals
   rw[hkind]at n0;clear hkind;go_wp2;go_ret;rw[Hmem.o,HE.o];exact⟨rfl,Hb3.o⟩
 ·have Hall:=zH (mz T V.kids n.kids w3 _ _ _ (Hkids.o.below Hb3.o) (Ht.o.below Hb3.o) (Hks.o.below Hb3.o) hm hc);clear hc;obtain⟨u,hu⟩:∃u:Int,(n.kind=10/\u=6)\/(n.kind=12/\u=7):=by
   rcases hk with h|h
   ·exact⟨6,by simp[h]⟩
   ·exact⟨7,by simp[h]⟩
  have Hmem:=zH (show mem T V (i:Nat)=(decide (V.kind=u)&&fi (mem T) V.kids n.kids)by rw[Hn.o];unfold ed;rcases hu with⟨hkind,rfl⟩|⟨hkind,rfl⟩<;>simp[hkind]);by_cases hk:V.kind=u
  ·have d0:(V.kind==u)=true:=by simp[hk]
   have HE:=zH (show(decide (V.kind=u)&&fi (mem T) V.kids n.kids)=fi (mem T) V.kids n.kids by simp[hk]);clear hk;rcases hu with⟨hkind,rfl⟩|⟨hkind,rfl⟩
   all_goals
    rw[hkind]at n0;clear hkind;go_wp2_with(go_at_call 74;refine Hall.o.mono ?_;rintro e w6 ⟨rfl,hb6⟩;have Hb6:=zH (Hb3.o.step hb6);clear hb6);go_ret;rw[Hmem.o,HE.o];exact⟨rfl,Hb6.o⟩
  ·have d0:(V.kind==u)=false:=by simp[hk]
   have HE:=zH (show(decide (V.kind=u)&&fi (mem T) V.kids n.kids)=G7 by simp[hk]);clear hk;rcases hu with⟨hkind,rfl⟩|⟨hkind,rfl⟩
   all_goals
    rw[hkind]at n0;clear hkind;go_wp2;go_ret;rw[Hmem.o,HE.o];exact⟨rfl,Hb3.o⟩
 ·have Hkk:=zH hkk;clear hkk;have Hmem:=zH (show mem T V (i:Nat)=(decide (V.kind=8)&&mapA (mem T) V n)by rw[Hn.o];unfold ed;simp[hkind]);rw[hkind]at n0 HN;clear hkind;have Hmap:=zH (fun hkk=>Am T V n w3 _ _ _ (Hv.o.below Hb3.o) (Ht.o.below Hb3.o) (HN.o.below Hb3.o) hkk hkd hc);clear hc hkd;by_cases hk:V.kind=8
  ·have d0:(V.kind==8)=true:=by simp[hk]
   have HE:=zH (show(decide (V.kind=8)&&mapA (mem T) V n)=mapA (mem T) V n by simp[hk]);have Hkk8:=zH (Hkk.o hk);clear hk;have Hmap2:=zH (Hmap.o Hkk8.o);go_wp2_with(go_at_call 75;refine Hmap2.o.mono ?_;rintro e w6 ⟨rfl,hb6⟩;have Hb6:=zH (Hb3.o.step hb6);clear hb6);go_ret;rw[Hmem.o,HE.o];exact⟨rfl,Hb6.o⟩
  ·have d0:(V.kind==8)=false:=by simp[hk]
   have HE:=zH (show(decide (V.kind=8)&&mapA (mem T) V n)=G7 by simp[hk]);clear hk;go_wp2;go_ret;rw[Hmem.o,HE.o];exact⟨rfl,Hb3.o⟩
 ·have Hmem:=zH (show mem T V (i:Nat)=(decide (V.kind=9)&&iT (mem T) V n)by rw[Hn.o];unfold ed;simp[hkind]);rw[hkind]at n0 HN;clear hkind;have Hfun:=zH (pp T V n w3 _ _ _ (Hv.o.below Hb3.o) (Ht.o.below Hb3.o) (HN.o.below Hb3.o) h1 hm hc);clear hc h1;by_cases hk:V.kind=9
  ·have d0:(V.kind==9)=true:=by simp[hk]
   have HE:=zH (show(decide (V.kind=9)&&iT (mem T) V n)=iT (mem T) V n by simp[hk]);clear hk;go_wp2_with(go_at_call 76;refine Hfun.o.mono ?_;rintro e w6 ⟨rfl,hb6⟩;have Hb6:=zH (Hb3.o.step hb6);clear hb6);go_ret;rw[Hmem.o,HE.o];exact⟨rfl,Hb6.o⟩
  ·have d0:(V.kind==9)=false:=by simp[hk]
   have HE:=zH (show(decide (V.kind=9)&&iT (mem T) V n)=G7 by simp[hk]);clear hk;go_wp2;go_ret;rw[Hmem.o,HE.o];exact⟨rfl,Hb3.o⟩
 ·rcases hk with hkind|hkind
  ·have Hmem:=zH (show mem T V (i:Nat)=(n.kids.any (mem T V))by rw[Hn.o];unfold ed;simp[hkind]);rw[hkind]at n0;clear hkind;have Hc:=zH hc;have HV3:=zH (Hv.o.below Hb3.o);have HT3:=zH (Ht.o.below Hb3.o);have HK3:=zH (Hks.o.below Hb3.o);have GA:=zH gA;have GB:=zH gB;clear hc a0 a1 a2 a3 a4 a5 a6 t0 t1 n1 n2 n3 n5 n6 n7 gA gB;go_wp2;go_loopw[8] (fun i wr=>∃k:Nat,i=GX GZ k/\k<=n.kids.length/\(n.kids.take k).any (mem T V)=G7/\Below w3.heap.size w3 wr) (fun i _=>n.kids.length-(intOf i).toNat)
   case atStart=>exact⟨0,rfl,by omega,by simp,Below.refl _ _⟩
   case round=>
    obtain⟨k,rfl,hk,ha,hb⟩:=hrel;have Ha:=zH ha;have Hb:=zH hb;have Hbw:=zH (Hb3.o.step hb);obtain⟨⟨a0,a1,a2,a3⟩,a4,a5,a6⟩:=aN ((hb.block _ (ai GA.o)).trans GA.o);obtain⟨t0,t1⟩:=aM ((hb.block _ (ai GB.o)).trans GB.o);clear n0 n4;obtain⟨⟨n0,n1,n2,n3⟩,n4,n5,n6,n7⟩:=aY ((hb.block _ (ai GN.o)).trans GN.o);clear ha hb;by_cases hlt:k<n.kids.length
    ·obtain⟨-,ak,ok,rfl,hak,zk⟩:=(HK3.o.below Hb.o).at hlt;have hst:(n.kids.take (k+1)).any (mem T V)=mem T V n.kids[k]:=by
      rw[Jj hlt,List.any_append,Ha.o];simp
     have Hno:=zH (show mem T V n.kids[k]=G6->n.kids.any (mem T V)=G6 from fun h=>by
      exact Jw.2 ⟨_,Ip hlt,h⟩)
     have Hcall:=zH (Hc.o _ (Ip hlt) wr.drew _ _ (HV3.o.below Hb.o.drew) (HT3.o.below Hb.o.drew));have Hst:=zH hst;clear hst;generalize n.kids[k]=kx at*
     cases hmv:mem T V kx with
     | true =>
       have Hf:=zH (Hno.o hmv);have Hmv:=zH hmv;clear hmv;go_wp2_with(first
        |(with_reducible refine rg ?_)
        |(with_reducible refine fo ?_)
        |(go_at_call 40;refine Hcall.o.mono ?_;rintro e w6 ⟨rfl,hb6⟩;rw[Hmv.o];have Hb6:=zH (Hbw.o.drew.step hb6);clear hb6))
       go_ret;rw[Hmem.o,Hf.o];exact⟨rfl,Hb6.o⟩
     | false =>
       have Hmv:=zH hmv;have Hst2:=zH (Hst.o.trans hmv);clear hmv;go_wp2_with(first
        |(with_reducible refine rg ?_)
        |(with_reducible refine fo ?_)
        |(go_at_call 40;refine Hcall.o.mono ?_;rintro e w6 ⟨rfl,hb6⟩;rw[Hmv.o];have Hb6:=zH (Hb.o.drew.step hb6);clear hb6))
       exact⟨⟨k+1,by go_num,by omega,Hst2.o,Hb6.o⟩,by simp[intOf];omega⟩
    ·obtain rfl:k=n.kids.length:=by omega
     have Hf:=zH (show n.kids.any (mem T V)=G7 by have:=Ha.o;rwa[Jf]at this);go_wp2;go_ret;rw[Hmem.o,Hf.o];exact⟨rfl,Hbw.o⟩
  ·have Hmem:=zH (show mem T V (i:Nat)=(n.kids.all (mem T V))by rw[Hn.o];unfold ed;simp[hkind]);rw[hkind]at n0;clear hkind;have Hc:=zH hc;have HV3:=zH (Hv.o.below Hb3.o);have HT3:=zH (Ht.o.below Hb3.o);have HK3:=zH (Hks.o.below Hb3.o);have GA:=zH gA;have GB:=zH gB;clear hc a0 a1 a2 a3 a4 a5 a6 t0 t1 n1 n2 n3 n5 n6 n7 gA gB;go_wp2;go_loopw[9] (fun i wr=>∃k:Nat,i=GX GZ k/\k<=n.kids.length/\(n.kids.take k).all (mem T V)=G6/\Below w3.heap.size w3 wr) (fun i _=>n.kids.length-(intOf i).toNat)
   case atStart=>exact⟨0,rfl,by omega,by simp,Below.refl _ _⟩
   case round=>
    obtain⟨k,rfl,hk,ha,hb⟩:=hrel;have Ha:=zH ha;have Hb:=zH hb;have Hbw:=zH (Hb3.o.step hb);obtain⟨⟨a0,a1,a2,a3⟩,a4,a5,a6⟩:=aN ((hb.block _ (ai GA.o)).trans GA.o);obtain⟨t0,t1⟩:=aM ((hb.block _ (ai GB.o)).trans GB.o);clear n0 n4;obtain⟨⟨n0,n1,n2,n3⟩,n4,n5,n6,n7⟩:=aY ((hb.block _ (ai GN.o)).trans GN.o);clear ha hb;by_cases hlt:k<n.kids.length
    ·obtain⟨-,ak,ok,rfl,hak,zk⟩:=(HK3.o.below Hb.o).at hlt;have hst:(n.kids.take (k+1)).all (mem T V)=mem T V n.kids[k]:=by
      rw[Jj hlt,List.all_append,Ha.o];simp
     have Hno:=zH (show mem T V n.kids[k]=G7->n.kids.all (mem T V)=G7 from fun h=>by
      rw[Bool.eq_false_iff];intro h2;rw[List.all_eq_true]at h2;rw[h2 _ (Ip hlt)]at h;cases h)
     have Hcall:=zH (Hc.o _ (Ip hlt) wr.drew _ _ (HV3.o.below Hb.o.drew) (HT3.o.below Hb.o.drew));have Hst:=zH hst;clear hst;generalize n.kids[k]=kx at*
     cases hmv:mem T V kx with
     | false =>
       have Hf:=zH (Hno.o hmv);have Hmv:=zH hmv;clear hmv;go_wp2_with(first
        |(with_reducible refine rg ?_)
        |(with_reducible refine fo ?_)
        |(go_at_call 40;refine Hcall.o.mono ?_;rintro e w6 ⟨rfl,hb6⟩;rw[Hmv.o];have Hb6:=zH (Hbw.o.drew.step hb6);clear hb6))
       go_ret;rw[Hmem.o,Hf.o];exact⟨rfl,Hb6.o⟩
     | true =>
       have Hmv:=zH hmv;have Hst2:=zH (Hst.o.trans hmv);clear hmv;go_wp2_with(first
        |(with_reducible refine rg ?_)
        |(with_reducible refine fo ?_)
        |(go_at_call 40;refine Hcall.o.mono ?_;rintro e w6 ⟨rfl,hb6⟩;rw[Hmv.o];have Hb6:=zH (Hb.o.drew.step hb6);clear hb6))
       exact⟨⟨k+1,by go_num,by omega,Hst2.o,Hb6.o⟩,by simp[intOf];omega⟩
    ·obtain rfl:k=n.kids.length:=by omega
     have Hf:=zH (show n.kids.all (mem T V)=G6 by have:=Ha.o;rwa[Jf]at this);go_wp2;go_ret;rw[Hmem.o,Hf.o];exact⟨rfl,Hbw.o⟩
 ·have Hmem:=zH (show mem T V (i:Nat)=(!mem T V (n.kids.getD 0 0))by rw[Hn.o];unfold ed;simp[hkind]);rw[hkind]at n0 HN;clear hkind;obtain⟨-,ak,ok,rfl,hak,zk⟩:=(Hks.o.below Hb3.o).at h0;have hg:n.kids.getD 0 0=n.kids[0]:=by rw[List.getD_eq_getElem?_getD,List.getElem?_eq_getElem h0];rfl
  rw[<-hg]at zk;rw[Im]at zk;have Hc:=zH hc;clear hc hg;generalize n.kids.getD 0 0=k0 at*
  go_wp2_with(first
   |(with_reducible refine rg ?_)
   |(with_reducible refine fo ?_)
   |(go_at_call 40;refine(Hc.o w3.drew _ _ (Hv.o.below Hb3.o.drew) (Ht.o.below Hb3.o.drew)).mono ?_;rintro e w6 ⟨rfl,hb6⟩;have Hb6:=zH (Hb3.o.drew.step hb6);clear hb6))
  go_ret;rw[Hmem.o];exact⟨rfl,Hb6.o⟩
 ·have Hmem:=zH (show mem T V (i:Nat)=(V.labels.any fun s=>decide (s=n.text))by rw[Hn.o];unfold ed;simp[hkind]);rw[hkind]at n0 HN;clear hkind;have HL3:=zH (Hlabs.o.below Hb3.o);have GA:=zH gA;clear a0 a1 a2 a3 a4 a5 t0 t1 n1 n2 n4 n5 n6 n7 gA gB;go_wp2;go_loopw[10] (fun i wr=>∃k:Nat,i=GX GZ k/\k<=V.labels.length/\(V.labels.take k).any (fun s=>decide (s=n.text))=G7/\Below w3.heap.size w3 wr) (fun i _=>V.labels.length-(intOf i).toNat)
  case atStart=>exact⟨0,rfl,by omega,by simp,Below.refl _ _⟩
  case round=>
   obtain⟨k,rfl,hk,ha,hb⟩:=hrel;have Ha:=zH ha;have Hb:=zH hb;have Hbw:=zH (Hb3.o.step hb);clear a6 n0 n3;obtain⟨⟨a0,a1,a2,a3⟩,a4,a5,a6⟩:=aN ((hb.block _ (ai GA.o)).trans GA.o);obtain⟨⟨n0,n1,n2,n3⟩,n4,n5,n6,n7⟩:=aY ((hb.block _ (ai GN.o)).trans GN.o);clear ha hb;by_cases hlt:k<V.labels.length
   ·obtain⟨p',c',e9,hrk⟩:=HL3.o.below Hb.o;injection e9 with e91 _ e93
    subst e91 e93;obtain⟨ak,ok,rfl,hak,zk⟩:=hrk.str hlt;have hst:=jG (p:=fun s=>decide (s=n.text)) hlt;rw[Ha.o,Bool.false_or]at hst;have hse:=iU V.labels[k] n.text;have Hno:=zH (show V.labels[k]=n.text->V.labels.any (fun s=>decide (s=n.text))=G6 from fun h=>Jw.2 ⟨_,Ip hlt,by simp[h]⟩);have Hst:=zH hst;clear hst hrk;generalize V.labels[k]=x at*
    by_cases hx:x=n.text
    ·have Hf:=zH (Hno.o hx);rw[decide_eq_true hx]at hse;clear hx;go_wp2_with(first
      |(with_reducible refine rg ?_)
      |(with_reducible refine fo ?_))
     go_ret;rw[Hmem.o,Hf.o];exact⟨rfl,Hbw.o.drew⟩
    ·have Hst2:=zH (Hst.o.trans (decide_eq_false hx));rw[decide_eq_false hx]at hse;clear hx;go_wp2_with(first
      |(with_reducible refine rg ?_)
      |(with_reducible refine fo ?_))
     exact⟨⟨k+1,by go_num,by omega,Hst2.o,Hb.o.drew⟩,by simp[intOf];omega⟩
   ·obtain rfl:k=V.labels.length:=by omega
    have Hf:=zH (show V.labels.any (fun s=>decide (s=n.text))=G7 by have:=Ha.o;rwa[Jf]at this);go_wp2;go_ret;rw[Hmem.o,Hf.o];exact⟨rfl,Hbw.o⟩
end Go.Proofs.YtfpahmeploondaaGreatDoor
