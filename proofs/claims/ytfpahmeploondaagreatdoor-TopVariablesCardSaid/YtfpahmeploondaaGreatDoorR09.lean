/- Walks and plain facts for the law on type variables, for all values and types that the heap holds (texts L3 W1 S1 S2 V4). -/
import Derived.Test.YtfpahmeploondaaGreatDoorR03
import Derived.Test.YtfpahmeploondaaGreatDoorR05
import Derived.Test.YtfpahmeploondaaGreatDoorR06
import Derived.Test.YtfpahmeploondaaGreatDoorR08
set_option linter.unusedVariables false
set_option linter.unusedSimpArgs false
set_option maxHeartbeats 64000000
open Option renaming none -> G0, some -> G5
open Bool renaming true -> G6, false -> G7
open Go.Value renaming slice -> GU, string -> GW, int -> GX
open Go.Obj renaming cells -> GY
open Go.IntKind renaming i64 -> GZ
open Bool renaming eq_false_iff -> IA, eq_iff_iff -> IQ, true_and -> Jd
open List renaming getElem_mem -> Ip, take_length -> Jf, mem_cons -> Ix
open Go renaming heap_alloc_new -> HG
open Nat renaming add_zero -> Im, le_refl -> G8
namespace Go.Proofs.YtfpahmeploondaaGreatDoor
open Go.RowKit Go.Ident
set_option maxRecDepth 100000
theorem iw(a b:VV)(w:World)(u v:Value)(hu:VW w u a)(hv:VW w v b):Calls Tryz.prog 41 #[u,v] w (ER (decide (bH a b=0)) w):=by
 have Hu:=zH hu;have Hv:=zH hv;obtain⟨_,q1,q2,q3,q4,q5,q6,q7,q8,rfl,-,-,-,-,-⟩:=hu.ex;obtain⟨_,r1,r2,r3,r4,r5,r6,r7,r8,rfl,-,-,-,-,-⟩:=hv.ex;clear hu hv;rw[<-Cy];go_enter Tryz.func41,Tryz.ntmps41;go_upto_region 1 with fail
 obtain⟨w2,e9,hA,hB,hb⟩:=bE w (GY #[GX GZ a.kind,GX GZ a.num,GW a.text,GU q1 a.kids.length q2,GU q3 a.keys.length q4,GU q5 a.ents.length q6,GU q7 a.labels.length q8] 33) (GY #[GX GZ b.kind,GX GZ b.num,GW b.text,GU r1 b.kids.length r2,GU r3 b.keys.length r4,GU r5 b.ents.length r6,GU r7 b.labels.length r8] 33);rw[e9];have Hb:=zH hb;obtain⟨⟨f0,f1,f2,f3⟩,f4,f5,f6⟩:=aN hA;obtain⟨⟨g0,g1,g2,g3⟩,g4,g5,g6⟩:=aN hB;have Hc:=zH (fF a b w2 _ _ (Hu.o.below hb) (Hv.o.below hb));have Hc2:=zH (fF a b w2.drew _ _ (Hu.o.below hb.drew) (Hv.o.below hb.drew));clear e9 hA hB hb;generalize bH a b=c at*
 go_wp2_with(first
  |(with_reducible refine rg ?_)
   |(with_reducible refine fo ?_)
  |(go_at_call 77;refine Hc2.o.mono ?_;rintro e w6 ⟨rfl,q⟩;have Hb6:=zH (Hb.o.drew.step q);clear q)
  |(go_at_call 77;refine Hc.o.mono ?_;rintro e w6 ⟨rfl,q⟩;have Hb6:=zH (Hb.o.step q);clear q))
 go_ret;exact⟨rfl,Hb6.o⟩
theorem sM(hnode:∀(a:VV) (w:World) (u:Value),VW w u a->Calls Tryz.prog 66 #[u] w (ER (bT a) w))(a:VV):∀(w:World) (u:Value),VW w u a->Calls Tryz.prog 34 #[u] w (ER a.valid w):=by
 induction hht:a.ht using Nat.strongRecOn generalizing a with
 |ind t ih=>
 intro w u hu;have Hih:=zH (show∀x:VV,x.ht<a.ht->∀(w:World) (u:Value),VW w u x->Calls Tryz.prog 34 #[u] w (ER x.valid w)from fun x hx w u hu=>ih x.ht (by omega) x rfl w u hu);clear ih hht;have Hu:=zH hu;obtain⟨_,q1,q2,q3,q4,q5,q6,q7,q8,rfl,-,hk,-,he,-⟩:=hu.ex;have hLk:a.kids.length<=9223372036854775807:=by obtain⟨_,_,_,_,h⟩:=hk;exact h.big
 have hLe:a.ents.length<=9223372036854775807:=by obtain⟨_,_,_,_,h⟩:=he;exact h.big
 have HK:=zH hk;have HE:=zH he;have Hvp:=zH (fT a);clear hu hk he;go_enter Tryz.func34,Tryz.ntmps34;go_upto_region 1 with fail
 have hA:=HG w (GY #[GX GZ a.kind,GX GZ a.num,GW a.text,GU q1 a.kids.length q2,GU q3 a.keys.length q4,GU q5 a.ents.length q6,GU q7 a.labels.length q8] 33);have hb:Below w.heap.size w (w.alloc (GY #[GX GZ a.kind,GX GZ a.num,GW a.text,GU q1 a.kids.length q2,GU q3 a.keys.length q4,GU q5 a.ents.length q6,GU q7 a.labels.length q8] 33)):=(Below.refl _ _).alloc (G8 _) _;generalize w.alloc (GY #[GX GZ a.kind,GX GZ a.num,GW a.text,GU q1 a.kids.length q2,GU q3 a.keys.length q4,GU q5 a.ents.length q6,GU q7 a.labels.length q8] 33)=w2 at*
 have Hb:=zH hb;obtain⟨⟨f0,f1,f2,f3⟩,f4,f5,f6⟩:=aN hA;have HA:=zH hA;have hlA:=ai hA;have Hnd:=zH (hnode a w2 _ (Hu.o.below hb));clear hA hb hnode;cases hnd:bT a with
 | false =>
   rw[hnd]at Hnd;have Hr:=zH (show a.valid=G7 by rw[Hvp.o,hnd];rfl);clear hnd;go_wp2_with(go_at_call 66;refine Hnd.o.mono ?_;rintro e w3 ⟨rfl,q⟩;have Hb3:=zH (Hb.o.step q);clear q);go_ret;rw[Hr.o];exact⟨rfl,Hb3.o⟩
 | true =>
   rw[hnd]at Hnd;have Hr:=zH (show a.valid=(a.kids.all VV.valid&&a.ents.all EE.validIn)by rw[Hvp.o,hnd];rfl);clear hnd;go_wp2_with(go_at_call 66;refine Hnd.o.mono ?_;rintro e w3 ⟨rfl,q⟩;have Hb3:=zH (Hb.o.step q);have Hq3:=zH q;clear q);clear f0 f1 f2 f3 f4 f5 f6;go_loopw[3] (fun i wr=>∃k:Nat,i=GX GZ k/\k<=a.kids.length/\(a.kids.take k).all VV.valid=G6/\Below w3.heap.size w3 wr) (fun i _=>a.kids.length-(intOf i).toNat)
   case atStart=>exact⟨0,rfl,by omega,by simp,Below.refl _ _⟩
   case round=>
    obtain⟨k,rfl,hk,hall,hb⟩:=hrel;have Hall:=zH hall;have Hbr:=zH hb;have Hbw:=zH (Hb3.o.step hb);have Hbq:=zH (Hq3.o.step hb);clear hall hb;obtain⟨⟨f0,f1,f2,f3⟩,f4,f5,f6⟩:=aN ((Hbq.o.block _ hlA).trans HA.o);by_cases hlt:k<a.kids.length
    ·obtain⟨d',p',c',e9,hr⟩:=HK.o.below Hbw.o;injection e9 with e1 _ e3
     subst e1 e3;obtain⟨ak,ok,cs,rfl,hab,-,hrg,hVS⟩:=hr.at hlt;have HVS:=zH hVS;obtain⟨r1,r2,r3,r4,r5,r6,r7,r8,rfl⟩:=hVS.seven;have z0:=hrg 0 _ rfl;have z1:=hrg 1 _ rfl;have z2:=hrg 2 _ rfl;have z3:=hrg 3 _ rfl;have z4:=hrg 4 _ rfl;have z5:=hrg 5 _ rfl;have z6:=hrg 6 _ rfl;rw[Im]at z0;clear hr hrg hVS;have hst:=gH (p:=VV.valid) hlt;rw[Hall.o,Jd]at hst;have Hst:=zH hst;have Hno:=zH (iZ (p:=VV.valid) hlt);have Hv:=zH (Hih.o _ (fS (Ip hlt)) wr _ ⟨_,_,rfl,HVS.o⟩);clear hst;generalize a.kids[k]=x at*
     cases hv:x.valid with
     | true =>
       rw[hv]at Hv;have Hst2:=zH (Hst.o.trans hv);clear hv;go_wp2_with(go_at_call 34;refine Hv.o.mono ?_;rintro e w6 ⟨rfl,q⟩;have Hb6:=zH (Hbr.o.step q);clear q);exact⟨⟨k+1,by go_num,by omega,Hst2.o,Hb6.o⟩,by simp[intOf];omega⟩
     | false =>
       rw[hv]at Hv;have Hf:=zH (Hno.o hv);clear hv;go_wp2_with(go_at_call 34;refine Hv.o.mono ?_;rintro e w6 ⟨rfl,q⟩;have Hb6:=zH (Hbw.o.step q);clear q);go_ret;rw[Hr.o,Hf.o];exact⟨rfl,Hb6.o⟩
    ·obtain rfl:k=a.kids.length:=by omega
     have Hr2:=zH (show a.valid=a.ents.all EE.validIn by rw[Hr.o];have:=Hall.o;rw[Jf]at this;rw[this];rfl);obtain⟨wq,hwq⟩:∃wq:World,wq=wr:=⟨_,rfl⟩
     subst hwq;go_wp2;clear f0 f1 f2 f3 f4 f5 f6;have Hbwq:=zH Hbw.o;have Hbqq:=zH Hbq.o;clear Hbw Hbq Hbr;go_loopw[4] (fun i wr=>∃k:Nat,i=GX GZ k/\k<=a.ents.length/\(a.ents.take k).all EE.validIn=G6/\Below wq.heap.size wq wr) (fun i _=>a.ents.length-(intOf i).toNat)
     case atStart=>exact⟨0,rfl,by omega,by simp,Below.refl _ _⟩
     case round=>
      obtain⟨k,rfl,hk,hall,hb⟩:=hrel;have Hall:=zH hall;have Hbr:=zH hb;have Hbw:=zH (Hbwq.o.step hb);have Hbq:=zH (Hbqq.o.step hb);clear hall hb;obtain⟨⟨f0,f1,f2,f3⟩,f4,f5,f6⟩:=aN ((Hbq.o.block _ hlA).trans HA.o);by_cases hlt:k<a.ents.length
      ·obtain⟨d',p',c',e9,hr⟩:=HE.o.below Hbw.o;injection e9 with e1 _ e3
       subst e1 e3;obtain⟨ak,ok,cs,rfl,hab,-,hrg,hES⟩:=hr.at hlt;obtain⟨r9,ra,rs,e9,hargs,hres⟩:=hES;obtain⟨r1,r2,r3,r4,r5,r6,r7,r8,rfl⟩:=hres.seven;subst e9;have z0:=hrg 0 _ rfl;have z1:=hrg 1 _ rfl;have z2:=hrg 2 _ rfl;have z3:=hrg 3 _ rfl;have z4:=hrg 4 _ rfl;have z5:=hrg 5 _ rfl;have z6:=hrg 6 _ rfl;have z7:=hrg 7 _ rfl;have z8:=hrg 8 _ rfl;rw[Im]at z0;have hst:=gH (p:=EE.validIn) hlt;rw[Hall.o,Jd]at hst;have Hst:=zH hst;have Hno:=zH (iZ (p:=EE.validIn) hlt);have Hhe:=zH (ip (Ip hlt));have Hargs:=zH hargs;have Hres:=zH hres;have hLa:=hargs.big;clear hr hrg hst hargs hres;generalize a.ents[k]=x at*
       have Hin:=zH (jR x);obtain⟨wo,hwo⟩:∃wo:World,wo=wr:=⟨_,rfl⟩
       subst hwo;go_upto_region 12 with fail
       have hnew:=HG wo (GY #[GU r9 x.args.length ra,.bool x.fails,GX GZ x.res.kind,GX GZ x.res.num,GW x.res.text,GU r1 x.res.kids.length r2,GU r3 x.res.keys.length r4,GU r5 x.res.ents.length r6,GU r7 x.res.labels.length r8] 68);have ho:Below wo.heap.size wo (wo.alloc (GY #[GU r9 x.args.length ra,.bool x.fails,GX GZ x.res.kind,GX GZ x.res.num,GW x.res.text,GU r1 x.res.kids.length r2,GU r3 x.res.keys.length r4,GU r5 x.res.ents.length r6,GU r7 x.res.labels.length r8] 68)):=(Below.refl _ _).alloc (G8 _) _;generalize wo.alloc (GY #[GU r9 x.args.length ra,.bool x.fails,GX GZ x.res.kind,GX GZ x.res.num,GW x.res.text,GU r1 x.res.kids.length r2,GU r3 x.res.keys.length r4,GU r5 x.res.ents.length r6,GU r7 x.res.labels.length r8] 68)=w5 at*
       have Hb5:=zH (Hbr.o.step ho);have Hbw5:=zH (Hbw.o.step ho);have Hbo:=zH ho;have hl5:=ai hnew;have Hnew:=zH hnew;clear f0 f1 f2 f3 f4 f5 f6;clear z0 z1 z2 z3 z4 z5 z6 z7 z8 hnew ho;go_wp2;go_loopw[6] (fun i wr=>∃j:Nat,i=GX GZ j/\j<=x.args.length/\(x.args.take j).all VV.valid=G6/\Below w5.heap.size w5 wr) (fun i _=>x.args.length-(intOf i).toNat)
       case atStart=>exact⟨0,rfl,by omega,by simp,Below.refl _ _⟩
       case round=>
        obtain⟨j,rfl,hj,hall,hb⟩:=hrel;have Hall2:=zH hall;have Hc:=zH (Hb5.o.step hb);have Hcw:=zH (Hbw5.o.step hb);have Hco:=zH (Hbo.o.step hb);have Hc5:=zH hb;clear hall hb;obtain⟨⟨g0,g1,g2,g3⟩,⟨g4,g5,g6,g7⟩,g8⟩:=cB ((Hc5.o.block _ hl5).trans Hnew.o);by_cases hlt2:j<x.args.length
        ·obtain⟨aj,oj,cs,rfl,hab2,-,hrg,hVS⟩:=Hargs.o.all hlt2;have hrg:=hrg wr Hco.o;have HVS:=zH (hVS.below Hco.o);obtain⟨s1,s2,s3,s4,s5,s6,s7,s8,rfl⟩:=hVS.seven;have z0:=hrg 0 _ rfl;have z1:=hrg 1 _ rfl;have z2:=hrg 2 _ rfl;have z3:=hrg 3 _ rfl;have z4:=hrg 4 _ rfl;have z5:=hrg 5 _ rfl;have z6:=hrg 6 _ rfl;rw[Im]at z0;clear hrg hVS;have hst:=gH (p:=VV.valid) hlt2;rw[Hall2.o,Jd]at hst;have Hst3:=zH hst;have Hno3:=zH (iZ (p:=VV.valid) hlt2);have Hv:=zH (Hih.o _ (Nat.lt_of_le_of_lt (gF (Ip hlt2)) Hhe.o) wr _ ⟨_,_,rfl,HVS.o⟩);clear hst;generalize x.args[j]=y at*
         cases hv:y.valid with
         | true =>
           rw[hv]at Hv;have Hst4:=zH (Hst3.o.trans hv);clear hv;go_wp2_with(go_at_call 34;refine Hv.o.mono ?_;rintro e w6 ⟨rfl,q⟩;have Hb6:=zH (Hc5.o.step q);clear q);exact⟨⟨j+1,by go_num,by omega,Hst4.o,Hb6.o⟩,by simp[intOf];omega⟩
         | false =>
           rw[hv]at Hv;have Hf:=zH (Hno.o (by rw[Hin.o,Hno3.o hv];rfl));clear hv;go_wp2_with(go_at_call 34;refine Hv.o.mono ?_;rintro e w6 ⟨rfl,q⟩;have Hb6:=zH (Hcw.o.step q);clear q);go_ret;rw[Hr2.o,Hf.o];exact⟨rfl,Hb6.o⟩
        ·obtain rfl:j=x.args.length:=by omega
         have Hin2:=zH (show x.validIn=(x.fails||x.res.valid)by rw[Hin.o];have:=Hall2.o;rw[Jf]at this;rw[this];rfl);cases hfl:x.fails with
         | true =>
           rw[hfl]at g1;have Hst2:=zH (Hst.o.trans (by rw[Hin2.o,hfl,Bool.true_or]));clear hfl;go_wp2;exact⟨⟨k+1,by go_num,by omega,Hst2.o,Hc.o⟩,by simp[intOf];omega⟩
         | false =>
           rw[hfl]at g1;have Hin3:=zH (show x.validIn=x.res.valid by rw[Hin2.o,hfl,Bool.false_or]);clear hfl;have Hv:=zH (Hih.o _ (Nat.lt_of_le_of_lt (gG x) Hhe.o) wr _ ⟨_,_,rfl,Hres.o.below Hco.o⟩);cases hv:x.res.valid with
           | true =>
             rw[hv]at Hv;have Hst2:=zH (Hst.o.trans (Hin3.o.trans hv));clear hv;go_wp2_with(go_at_call 34;refine Hv.o.mono ?_;rintro e w6 ⟨rfl,q⟩;have Hb6:=zH (Hc.o.step q);clear q);exact⟨⟨k+1,by go_num,by omega,Hst2.o,Hb6.o⟩,by simp[intOf];omega⟩
           | false =>
             rw[hv]at Hv;have Hf:=zH (Hno.o (Hin3.o.trans hv));clear hv;go_wp2_with(go_at_call 34;refine Hv.o.mono ?_;rintro e w6 ⟨rfl,q⟩;have Hb6:=zH (Hcw.o.step q);clear q);go_ret;rw[Hr2.o,Hf.o];exact⟨rfl,Hb6.o⟩
      ·obtain rfl:k=a.ents.length:=by omega
       have Hy:=zH (show a.ents.all EE.validIn=G6 by have:=Hall.o;rwa[Jf]at this);go_wp2;go_ret;rw[Hr2.o,Hy.o];exact⟨rfl,Hbw.o⟩
def nN(k:Int):Bool:=decide (k=16)||decide (k=17)||decide (k=18)
theorem pG(n:TN):n.bool=nN n.kind:=rfl
theorem pm(k:Int)(w:World):Calls Tryz.prog 88 #[GX GZ k] w (ER (nN k) w):=by
 by_cases h1:k=16
 ·subst h1;go_enter Tryz.func88,Tryz.ntmps88;go_wp2;go_ret;exact⟨rfl,Below.refl _ _⟩
 have d1:(k==16)=false:=by simp[h1]
 by_cases h2:k=17
 ·subst h2;go_enter Tryz.func88,Tryz.ntmps88;go_wp2;go_ret;exact⟨rfl,Below.refl _ _⟩
 have d2:(k==17)=false:=by simp[h2]
 have Hr:=zH (show nN k=(k==18)by unfold nN;simp[h1,h2];rw[IQ];simp);clear h1 h2;go_enter Tryz.func88,Tryz.ntmps88;go_wp2;go_ret;rw[Hr.o];exact⟨rfl,Below.refl _ _⟩
theorem sN(n:TN)(w:World)(cs:List Value)(h:NC w n cs):Calls Tryz.prog 73 #[.agg cs.toArray] w (ER n.bool w):=by
 rw[pG];obtain⟨p1,c1,p2,c2,rfl,-,-⟩:=h;have Hr:=zH (show∀k:Int,k≠16->k≠17->nN k=(k==18)from fun k h1 h2=>by unfold nN;simp[h1,h2];rw[IQ];simp);generalize n.kind=k at*
 go_enter Tryz.func73,Tryz.ntmps73;go_upto_region 1 with fail
 have hA:=HG w (GY #[GX GZ k,GX GZ n.lo,GX GZ n.hi,GW n.text,GU p1 n.kids.length c1,GU p2 n.fields.length c2,GX GZ n.rest0,GX GZ n.rest1] 61);have hb:Below w.heap.size w (w.alloc (GY #[GX GZ k,GX GZ n.lo,GX GZ n.hi,GW n.text,GU p1 n.kids.length c1,GU p2 n.fields.length c2,GX GZ n.rest0,GX GZ n.rest1] 61)):=(Below.refl _ _).alloc (G8 _) _;generalize w.alloc (GY #[GX GZ k,GX GZ n.lo,GX GZ n.hi,GW n.text,GU p1 n.kids.length c1,GU p2 n.fields.length c2,GX GZ n.rest0,GX GZ n.rest1] 61)=w2 at*
 have Hb:=zH hb;obtain⟨⟨f0,f1,f2,f3⟩,f4,f5,f6,f7⟩:=aY hA;clear hA hb;by_cases h1:k=16
 ·subst h1;go_wp2;go_ret;exact⟨rfl,Hb.o⟩
 have d1:(k==16)=false:=by simp[h1]
 by_cases h2:k=17
 ·subst h2;go_wp2;go_ret;exact⟨rfl,Hb.o⟩
 have d2:(k==17)=false:=by simp[h2]
 have Hr2:=zH (Hr.o k h1 h2);clear h1 h2;go_wp2;go_ret;rw[Hr2.o];exact⟨rfl,Hb.o⟩
open Go.RowKit
def NR(S:SD)(n:Int)(w:World)(e:Ending)(w':World):Prop:=∃x:Int,e=.returned (GX GZ x)/\SR S w w'/\0<=x/\(1<=n->x<n)/\(n<1->x=0)
theorem SR.of_upd {S:SD}{o:Obj}{w w':World}(h:SRC S w)(hu:Upd S.b o w w'){i:Nat}(ho:o=GY #[GU S.p S.L.length S.c,GX GZ ((i:Nat):Int)] 51)(hi:i<=S.L.length):SR S w w':=
 ⟨eM hu,h,⟨i,hi,by rw[hu.blk,ho]⟩,h.row.below (by rw[bf];exact eM hu),h.len⟩
theorem aU(S:SD)(n:Int)(w:World)(hS:SRC S w)(hn:n<=9223372036854775807):Calls Tryz.prog 14 #[.pointer (G5 ⟨S.b,0,G0⟩),GX GZ n] w (NR S n w):=by
 have HS:=zH hS;have hL:=hS.len;obtain⟨⟨i,hi,hb⟩,hI,-⟩:=hS;have HB:=zH hb;obtain⟨s0,s1⟩:=aM hb;by_cases h1:n<1
 ·have d1:decide (n<1)=true:=by simp[h1]
  clear hb hI;go_enter Tryz.func14,Tryz.ntmps14;go_wp2_with(first
   |(with_reducible refine rg ?_)
   |(with_reducible refine fo ?_))
  go_ret;exact⟨0,rfl,SR.of_upd HS.o (Upd.refl HB.o).drew rfl hi,by omega,fun h=>by omega,fun _=>rfl⟩
 have d1:decide (n<1)=false:=by simp;omega
 by_cases h2:i<S.L.length;rotate_left
 ·have d2:decide (S.L.length<=i)=true:=by simp;omega
  clear hb hI;go_enter Tryz.func14,Tryz.ntmps14;go_wp2_with(first
   |(with_reducible refine rg ?_)
   |(with_reducible refine fo ?_))
  go_ret;exact⟨0,rfl,SR.of_upd HS.o (Upd.refl HB.o).drew rfl hi,by omega,fun h=>by omega,fun _=>rfl⟩
 have d2:decide (S.L.length<=i)=false:=by simp;omega
 have d3:decide (i<S.L.length)=true:=by simp;omega
 have hi2:(i:Int)<(S.L.length:Int):=by omega
 have d4:(n==0)=false:=by rw[IA];intro g;rw[beq_iff_eq]at g;omega
 have d5:n≠0:=by omega
 have d6:(n== -1)=false:=by rw[IA];intro g;rw[beq_iff_eq]at g;omega
 obtain⟨-,a,o,hp,hab,zk⟩:=hI.at h2;have hp:S.p=G5 ⟨a,o,G0⟩:=hp;have zk:=aF zk;have hf:w.frozen? ⟨S.b,1,G0⟩=false:=by simp[World.frozen?,HB.o]
 have hm1:=Int.tmod_lt_of_pos S.L[i] (show 0<n by omega);have hm2:=Int.lt_tmod_of_pos S.L[i] (show 0<n by omega);generalize S.L[i]=x at*
 clear hb hI;go_enter Tryz.func14,Tryz.ntmps14;go_upto_region 4 with(first
  |(with_reducible refine rg ?_)
  |(with_reducible refine fo ?_))
 generalize x.tmod n=r at*
 have HU:=zH (show Upd S.b (GY #[GU S.p S.L.length S.c,GX GZ ((i+1:Nat):Int)] 51) w (w.drew.drew.setCell ⟨S.b,1,G0⟩ (GX GZ ((i:Int)+1)))from Upd.cast (((Upd.refl HB.o).drew.drew).set (i:=1) (v:=GX GZ ((i:Int)+1))) (by simp));have HR:=zH (fun w' (hu:Upd S.b (GY #[GU S.p S.L.length S.c,GX GZ ((i+1:Nat):Int)] 51) w w')=>SR.of_upd HS.o hu rfl (by omega));by_cases hr:r<0
 ·have e1:decide (r<0)=true:=by simp[hr]
  go_wp2;go_ret;exact⟨r+n,by first|rfl|(congr 2;go_num),HR.o _ HU.o,by omega,fun _=>by omega,fun h=>by omega⟩
 ·have e1:decide (r<0)=false:=by simp;omega
  go_wp2;go_ret;exact⟨r,rfl,HR.o _ HU.o,by omega,fun _=>by omega,fun h=>by omega⟩
theorem cx {w:World}{b m:Nat}{arr:Array Value}{e:TypeId}{fr:Nat×Nat}{v:Value}(h:w.heap[b]? =G5 (.cells arr e fr))(hv:arr[m]? =G5 v):w.cell? ⟨b,m,G0⟩=G5 v:=by simp[World.cell?,h,hv]
theorem SR.row {S:SD}{w w3:World}(h:SR S w w3){bx:Nat}(hb:w.heap.size<=bx)(hn:bx≠S.b)(cs:Array Value):SR S w (w3.setRow bx cs):=
 h.own (aR (Below.refl _ _) hb) (setRow_other _ _ _ _ (Ne.symm hn))
def GR(P:ByteArray->Prop)(S:SD)(w:World)(e:Ending)(w':World):Prop:=∃s,e=.returned (GW s)/\SR S w w'/\P s
theorem fG(S:SD)(w:World)(hS:SRC S w):Calls Tryz.prog 52 #[.pointer (G5 ⟨S.b,0,G0⟩)] w (GR (fun s=>eb s.data.toList=G6) S w):=by
 have HS:=zH hS;have Hb:=zH (show w.heap.size≠S.b by have:=hS.lt;omega);have Ha:=zH (SR.alloc hS (GY #[GW ⟨#[97]⟩,GW ⟨#[98]⟩,GW ⟨#[111,107]⟩,GW ⟨#[101,114,114,111,114]⟩] 9));have Hn:=zH (HG w (GY #[GW ⟨#[97]⟩,GW ⟨#[98]⟩,GW ⟨#[111,107]⟩,GW ⟨#[101,114,114,111,114]⟩] 9));clear hS;go_enter Tryz.func52,Tryz.ntmps52;go_wp2_with(go_at_call 14;refine(aU S 4 _ Ha.o.src (by omega)).mono ?_;rintro e w6 ⟨x,rfl,hs,h0,h1,-⟩;have h1:=h1 (by decide);have zn:=(hs.block (k:=w.heap.size) (by simp) Hb.o).trans Hn.o;have Hs:=zH (Ha.o.trans hs);have q0:=cx zn (m:=0) rfl;have q1:=cx zn (m:=1) rfl;have q2:=cx zn (m:=2) rfl;have q3:=cx zn (m:=3) rfl;clear zn hs;rcases(show x=0\/x=1\/x=2\/x=3 by omega)with rfl|rfl|rfl|rfl)
 all_goals
  go_ret;exact⟨_,rfl,Hs.o,by decide+kernel⟩
theorem kH(S:SD)(w:World)(hS:SRC S w):Calls Tryz.prog 53 #[.pointer (G5 ⟨S.b,0,G0⟩)] w (GR (fun s=>s.size<=64) S w):=by
 have HS:=zH hS;have Hb:=zH (show w.heap.size≠S.b by have:=hS.lt;omega);have Ha:=zH (SR.alloc hS (GY #[GW ⟨#[]⟩,GW ⟨#[115]⟩,GW ⟨#[120,32,121]⟩,GW ⟨#[97]⟩] 9));have Hn:=zH (HG w (GY #[GW ⟨#[]⟩,GW ⟨#[115]⟩,GW ⟨#[120,32,121]⟩,GW ⟨#[97]⟩] 9));clear hS;go_enter Tryz.func53,Tryz.ntmps53;go_wp2_with(go_at_call 14;refine(aU S 4 _ Ha.o.src (by omega)).mono ?_;rintro e w6 ⟨x,rfl,hs,h0,h1,-⟩;have h1:=h1 (by decide);have zn:=(hs.block (k:=w.heap.size) (by simp) Hb.o).trans Hn.o;have Hs:=zH (Ha.o.trans hs);have q0:=cx zn (m:=0) rfl;have q1:=cx zn (m:=1) rfl;have q2:=cx zn (m:=2) rfl;have q3:=cx zn (m:=3) rfl;clear zn hs;rcases(show x=0\/x=1\/x=2\/x=3 by omega)with rfl|rfl|rfl|rfl)
 all_goals
  go_ret;exact⟨_,rfl,Hs.o,by decide+kernel⟩
theorem lH(S:SD)(w:World)(hS:SRC S w):Calls Tryz.prog 54 #[.pointer (G5 ⟨S.b,0,G0⟩)] w (GR (fun s=>dG s.data.toList=G6) S w):=by
 have HS:=zH hS;have Hb:=zH (show w.heap.size≠S.b by have:=hS.lt;omega);have Ha:=zH (SR.alloc hS (GY #[GW ⟨#[65]⟩,GW ⟨#[66]⟩,GW ⟨#[67]⟩] 9));have Hn:=zH (HG w (GY #[GW ⟨#[65]⟩,GW ⟨#[66]⟩,GW ⟨#[67]⟩] 9));clear hS;go_enter Tryz.func54,Tryz.ntmps54;go_wp2_with(go_at_call 14;refine(aU S 3 _ Ha.o.src (by omega)).mono ?_;rintro e w6 ⟨x,rfl,hs,h0,h1,-⟩;have h1:=h1 (by decide);have zn:=(hs.block (k:=w.heap.size) (by simp) Hb.o).trans Hn.o;have Hs:=zH (Ha.o.trans hs);have q0:=cx zn (m:=0) rfl;have q1:=cx zn (m:=1) rfl;have q2:=cx zn (m:=2) rfl;clear zn hs;rcases(show x=0\/x=1\/x=2 by omega)with rfl|rfl|rfl)
 all_goals
  go_ret;exact⟨_,rfl,Hs.o,by decide+kernel⟩
theorem uY(S:SD)(w:World)(hS:SRC S w):Calls Tryz.prog 67 #[.pointer (G5 ⟨S.b,0,G0⟩)] w (fun e w'=>∃x:Int,e=.returned (GX GZ x)/\SR S w w'):=by
 have HS:=zH hS;have Hb:=zH (show w.heap.size≠S.b by have:=hS.lt;omega);have Ha:=zH (SR.alloc hS (GY #[GX GZ 0,GX GZ 1,GX GZ (-1),GX GZ 2,GX GZ 3,GX GZ (-2),GX GZ 7,GX GZ (-9223372036854775808),GX GZ 9223372036854775807,GX GZ 10] 2));have Hn:=zH (HG w (GY #[GX GZ 0,GX GZ 1,GX GZ (-1),GX GZ 2,GX GZ 3,GX GZ (-2),GX GZ 7,GX GZ (-9223372036854775808),GX GZ 9223372036854775807,GX GZ 10] 2));clear hS;go_enter Tryz.func67,Tryz.ntmps67;go_wp2_with(go_at_call 14;refine(aU S 10 _ Ha.o.src (by omega)).mono ?_;rintro e w6 ⟨x,rfl,hs,h0,h1,-⟩;have h1:=h1 (by decide);have zn:=(hs.block (k:=w.heap.size) (by simp) Hb.o).trans Hn.o;have Hs:=zH (Ha.o.trans hs);have q0:=cx zn (m:=0) rfl;have q1:=cx zn (m:=1) rfl;have q2:=cx zn (m:=2) rfl;have q3:=cx zn (m:=3) rfl;have q4:=cx zn (m:=4) rfl;have q5:=cx zn (m:=5) rfl;have q6:=cx zn (m:=6) rfl;have q7:=cx zn (m:=7) rfl;have q8:=cx zn (m:=8) rfl;have q9:=cx zn (m:=9) rfl;clear zn hs;rcases(show x=0\/x=1\/x=2\/x=3\/x=4\/x=5\/x=6\/x=7\/x=8\/x=9 by omega)with rfl|rfl|rfl|rfl|rfl|rfl|rfl|rfl|rfl|rfl)
 all_goals
  go_ret;exact⟨_,rfl,Hs.o⟩
theorem zQ(S:SD)(w:World)(hS:SRC S w):Calls Tryz.prog 131 #[.pointer (G5 ⟨S.b,0,G0⟩)] w (fun e w'=>∃k:KK,e=.returned (.agg #[GX GZ k.kind,GW k.text])/\SR S w w'):=by
 have HS:=zH hS;have Hb:=zH (show w.heap.size≠S.b by have:=hS.lt;omega);have Ha:=zH (SR.alloc hS (GY #[GX GZ 0,GW ⟨#[]⟩] 103));have Hn:=zH (HG w (GY #[GX GZ 0,GW ⟨#[]⟩] 103));have hlt:w.heap.size<(w.alloc (GY #[GX GZ 0,GW ⟨#[]⟩] 103)).heap.size:=by simp
 go_enter Tryz.func131,Tryz.ntmps131;go_upto_region 1 with fail
 generalize w.alloc (GY #[GX GZ 0,GW ⟨#[]⟩] 103)=w1 at*
 go_upto_region 2 with(go_at_call 14;refine(aU S 2 w1 Ha.o.src (by omega)).mono ?_;rintro e w2 ⟨x,rfl,hs,h0,h1,-⟩;have h1:=h1 (by decide);have H2:=zH (Ha.o.trans hs);have Z2:=zH ((hs.block hlt Hb.o).trans Hn.o);clear hs;rcases(show x=0\/x=1 by omega)with rfl|rfl)
 ·go_wp2_with(first
   |(go_at_call 52;refine(fG S w2 H2.o.src).mono ?_;rintro e w3 ⟨s,rfl,hs,-⟩;have H3:=zH (H2.o.trans hs);have Z3:=zH ((hs.block (ai Z2.o) Hb.o).trans Z2.o);clear hs)
   |(with_reducible refine sR rfl 103 (.tmp 2) (.tmp 8) rfl rfl rfl Z3.o ?_))
  refine rB rfl w.heap.size 103 rfl (sH Z3.o) rfl rfl rfl ?_;exact⟨⟨0,s⟩,rfl,H3.o.row (G8 _) Hb.o _⟩
 ·go_wp2_with(first
   |(go_at_call 53;refine(kH S w2 H2.o.src).mono ?_;rintro e w3 ⟨s,rfl,hs,-⟩;have H3:=zH (H2.o.trans hs);have Z3:=zH ((hs.block (ai Z2.o) Hb.o).trans Z2.o);clear hs)
   |(with_reducible refine sR rfl 103 (.tmp 2) (.tmp 11) rfl rfl rfl Z3.o ?_))
  refine rB rfl w.heap.size 103 rfl (sH Z3.o) rfl rfl rfl ?_;exact⟨⟨1,s⟩,rfl,H3.o.row (G8 _) Hb.o _⟩
open Go.Ident
def ee(x:EE):List EE->List EE
 |[]=>[x]
 |y::r=>if cmpE y x<0 then y::ee x r else if cmpE y x=0 then y::r else x::y::r
def dt(l:List EE):List EE:=l.foldl (fun out x=>ee x out) []
theorem sO {x z:EE}:∀{l:List EE},z∈ee x l<->z=x\/z∈l
 |[]=>by simp[ee]
 | y :: r => by
   unfold ee;by_cases h1:cmpE y x<0
   ·rw[if_pos h1,Ix,sO (l:=r),Ix];exact⟨fun h=>by rcases h with h|h|h<;>simp[h],fun h=>by rcases h with h|h|h<;>simp[h]⟩
   ·rw[if_neg h1];by_cases h2:cmpE y x=0
    ·rw[if_pos h2,zI h2];simp
    ·rw[if_neg h2];simp
theorem asc_cons {f:EE->EE->Int}{x:EE}:∀{l:List EE},bV f (x::l)=G6<->(∀y,l.head?=G5 y->f x y<0)/\bV f l=G6
 |[]=>by simp[bV]
 |y::r=>by simp[bV]
theorem yj {x:EE}{l:List EE}{z:EE}(h:(ee x l).head?=G5 z):z=x\/l.head?=G5 z:=by
 cases l with
 |nil=>left;simpa[ee]using h.symm
 | cons y r =>
   unfold ee at h;by_cases h1:cmpE y x<0
   ·rw[if_pos h1]at h;right;simpa using h
   ·rw[if_neg h1]at h;by_cases h2:cmpE y x=0
    ·rw[if_pos h2]at h;right;simpa using h
    ·rw[if_neg h2]at h;left;simpa using h.symm
theorem sP {x:EE}:∀{l:List EE},bV cmpE l=G6->bV cmpE (ee x l)=G6
 |[],_=>by simp[ee,bV]
 | y :: r, h => by
   obtain⟨g1,g2⟩:=asc_cons.1 h;unfold ee;by_cases h1:cmpE y x<0
   ·rw[if_pos h1,asc_cons];refine⟨fun z hz=>?_,sP g2⟩;rcases yj hz with rfl|hz
    ·exact h1
    ·exact g1 z hz
   ·rw[if_neg h1];by_cases h2:cmpE y x=0
    ·rw[if_pos h2];exact h
    ·rw[if_neg h2,asc_cons];refine⟨fun z hz=>?_,h⟩;have:z=y:=by simpa using hz.symm
     subst this;have:=cmpE_lo.sym x z trivial trivial;omega
theorem nO:∀(l out:List EE),bV cmpE out=G6->bV cmpE (l.foldl (fun out x=>ee x out) out)=G6/\∀z,z∈l.foldl (fun out x=>ee x out) out<->z∈l\/z∈out
 |[],out,h=>⟨h,fun z=>by simp⟩
 | x :: r, out, h => by
   obtain⟨h1,h2⟩:=nO r (ee x out) (sP h);refine⟨h1,fun z=>?_⟩;rw[List.foldl_cons,h2 z,sO,Ix];exact⟨fun h=>by rcases h with h|h|h<;>simp[h],fun h=>by rcases h with(h|h)|h<;>simp[h]⟩
theorem yl(l:List EE):bV cmpE (dt l)=true:=(nO l [] (by simp[bV])).1
theorem mem_entsE {l:List EE}{z:EE}:z∈dt l<->z∈l:=by rw[dt,(nO l [] (by simp[bV])).2];simp
theorem sQ {l:List EE}:(dt l).isEmpty=l.isEmpty:=by
 rw[IQ,List.isEmpty_iff,List.isEmpty_iff];constructor
 ·intro h;cases l with
  |nil=>rfl
  |cons x r=>have:=(mem_entsE (l:=x::r) (z:=x)).2 (by simp);rw[h]at this;simp at this
 ·intro h;subst h;rfl
end Go.Proofs.YtfpahmeploondaaGreatDoor
