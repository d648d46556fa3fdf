/- Walks and plain facts for the law on type variables, for all values and types that the heap holds (texts X9 Q1 Q2). -/
import Derived.Test.YtfpahmeploondaaGreatDoorR03
import Derived.Test.YtfpahmeploondaaGreatDoorR07
import Derived.Test.YtfpahmeploondaaGreatDoorR23
set_option linter.unusedVariables false
set_option linter.unusedSimpArgs false
set_option maxHeartbeats 64000000
open Option renaming none -> G0, some -> G5
open Bool renaming true -> G6, false -> G7
open Go.Value renaming slice -> GU, string -> GW, int -> GX
open Go.Obj renaming cells -> GY
open Go.IntKind renaming i64 -> GZ
open Nat renaming lt_succ_iff_lt_or_eq -> IP, lt_of_lt_of_le -> Ig, add_zero -> Im, le_refl -> G8
open List renaming mem_iff_getElem -> IZ, all_eq_true -> Ij, getElem_mem -> Ip, take_length -> Jf
open Bool renaming eq_false_iff -> IA
open Go renaming heap_alloc_new -> HG
namespace Go.Proofs.YtfpahmeploondaaGreatDoor
open Go.RowKit Go.Ident
set_option maxRecDepth 100000
structure DX(w:World)(T:Ty)(bd bt:Nat)(g:Nat->Bool):Prop where
 a:MB w bd T.nodes.length g
 t:BT (wo bd w) bt T
theorem DX.turn {w w':World}{T:Ty}{bd bt:Nat}{g g':Nat->Bool}(h:DX w T bd bt g)(hb:Below w.heap.size (wo bd w) (wo bd w'))(ha:MB w' bd T.nodes.length g'):DX w' T bd bt g':=
 ⟨ha,h.t.below (by rw[bf];exact hb)⟩
theorem DX.below {w w':World}{T:Ty}{bd bt:Nat}{g:Nat->Bool}(h:DX w T bd bt g)(hb:Below w.heap.size w w'):DX w' T bd bt g:=h.turn (dc hb) (h.a.below hb)
theorem DX.node {w:World}{T:Ty}{bd bt:Nat}{g:Nat->Bool}(h:DX w T bd bt g){i:Nat}(hi:i<T.nodes.length):
 ∃ p c a o p1 c1 p2 c2, p = G5 ⟨a, o, G0⟩ ∧ w.heap[bt]? = G5 (GY #[GU p T.nodes.length c, GX GZ T.root] 27) ∧
   w.rangeAt a (o+i*8) [GX GZ T.nodes[i].kind,GX GZ T.nodes[i].lo,GX GZ T.nodes[i].hi,GW T.nodes[i].text,GU p1 T.nodes[i].kids.length c1,GU p2 T.nodes[i].fields.length c2,GX GZ T.nodes[i].rest0,GX GZ T.nodes[i].rest1]/\
   NC (wo bd w) T.nodes[i] [GX GZ T.nodes[i].kind,GX GZ T.nodes[i].lo,GX GZ T.nodes[i].hi,GW T.nodes[i].text,GU p1 T.nodes[i].kids.length c1,GU p2 T.nodes[i].fields.length c2,GX GZ T.nodes[i].rest0,GX GZ T.nodes[i].rest1]/\
   IS (wo bd w) (GU p1 T.nodes[i].kids.length c1) T.nodes[i].kids/\T.nodes[i].kids.length<=9223372036854775807:=by
 obtain⟨s0,s1,h1,p,c,e,h2,h3⟩:=h.t;obtain⟨hn,h4⟩:=wG h1 (by simp);injection e with e
 simp at e;obtain⟨rfl,rfl⟩:=e;obtain⟨a,o,cs,hp,-,-,hr,hN⟩:=h2.at hi;have hN':=hN;obtain⟨p1,c1,p2,c2,rfl,h5,-⟩:=hN;exact⟨p,c,a,o,p1,c1,p2,c2,hp,h4,fun j v hv=>aF (hr j v hv),hN',h5,h3 _ (Ip hi)⟩
theorem Aj {T:Ty}{g:Nat->Bool}{i:Nat}(hi:i<T.nodes.length):okR T g i=(!T.nodes[i].bool||T.nodes[i].kids.all fun k=>g k.toNat):=by unfold okR;rw[T.node_at hi]
theorem jq {T:Ty}{g:Nat->Bool}{i:Nat}{x:Bool}(h:(g i||okR T g i)=x):iY T g i=fun m=>if m=i then x else g m:=by
 subst h;rfl
theorem rf {L:List Int}{g:Nat->Bool}{m:Nat}(h:m<L.length):(L.take (m+1)).all (fun k=>g k.toNat)=((L.take m).all (fun k=>g k.toNat)&&g L[m].toNat):=by
 rw[List.take_succ_eq_append_getElem h,List.all_append];simp
open Classical in
theorem Ak(T:Ty)(w:World)(t:Value)(ht:TS w t T)(hs:SzT T)
 (hnode:∀n∈T.nodes,∀(w':World) (cs:List Value),TS w' t T->NC w' n cs->Calls Tryz.prog 72 #[t,.agg cs.toArray] w' (ER (bB T n) w')):Calls Tryz.prog 38 #[t] w (WR T w):=by
 have HS:=zH hs;have HT:=zH ht;have HN:=zH hnode;obtain⟨pt,ct,rfl,hrow,-⟩:=ht;have HR:=zH hrow;have hL:=hrow.big;have hlen:T.nodes.length<=100000:=hs.len;obtain⟨ib,hi,hz,hz1,hz2⟩:=info_parts yi;have Hi:=zH hi;have Hz:=zH hz;have Hz1:=zH hz1;have Hz2:=zH hz2;clear hs hrow hnode hi hz hz1 hz2;go_enter Tryz.func38,Tryz.ntmps38;go_upto_region 1 with fail
 have hA:=HG w (GY #[GU pt T.nodes.length ct,GX GZ T.root] 27);have hb:Below w.heap.size w (w.alloc (GY #[GU pt T.nodes.length ct,GX GZ T.root] 27)):=(Below.refl _ _).alloc (G8 _) _;generalize w.alloc (GY #[GU pt T.nodes.length ct,GX GZ T.root] 27)=w1 at*
 obtain⟨t0,t1⟩:=aM hA;have hlA:=ai hA;have HA:=zH hA;have Hb:=zH hb;have Hix:=zH (eE T T.root w1 _ (HT.o.below hb));clear hA hb;cases hr:T.has T.root with
 | false =>
   have Hno:=zH (show¬WfT T from fun g=>by have:=g.root;rw[hr]at this;cases this);rw[hr]at Hix;clear hr;go_wp2_with(go_at_call 39;refine Hix.o.mono ?_;rintro e w6 ⟨rfl,hb6⟩;have Hb6:=zH (Hb.o.step hb6);clear hb6);go_ret;exact⟨1,rfl,⟨fun h=>absurd h (by decide),fun h=>absurd h Hno.o⟩,Hb6.o⟩
 |true=>
 have Hroot:=zH hr;rw[hr]at Hix;clear hr;go_wp2_with(go_at_call 39;refine Hix.o.mono ?_;rintro e w6 ⟨rfl,hb6⟩;have Hb6:=zH hb6;have tA:=(hb6.block _ hlA).trans HA.o;clear hb6 t0 t1;obtain⟨t0,t1⟩:=aM tA;clear tA);go_loopw[3] (fun i wr=>∃k:Nat,i=GX GZ k/\k<=T.nodes.length/\(∀j (h:j<T.nodes.length),j<k->bB T T.nodes[j]=G6)/\Below w1.heap.size w1 wr) (fun i _=>T.nodes.length-(intOf i).toNat)
 case atStart=>exact⟨0,rfl,by omega,fun j _ h=>by omega,Hb6.o⟩
 case round=>
  obtain⟨k,rfl,hk,hall,hbr⟩:=hrel;have Hall:=zH hall;have Hbr:=zH hbr;have Hbw:=zH (Hb.o.step hbr);clear hall hbr t0 t1;obtain⟨t0,t1⟩:=aM ((Hbr.o.block _ hlA).trans HA.o);by_cases hlt:k<T.nodes.length
  ·have d9:decide (k<T.nodes.length)=true:=by simp;omega
   obtain⟨a,o,cs,rfl,hab,-,hrng,hN⟩:=HR.o.all hlt;have Hcall:=zH (HN.o _ (Ip hlt) wr.drew cs (HT.o.below Hbw.o.drew) (hN.below Hbw.o.drew));obtain⟨p1,c1,p2,c2,rfl,-,-⟩:=hN;have hr:=hrng wr Hbw.o;have z0:=hr 0 _ rfl;have z1:=hr 1 _ rfl;have z2:=hr 2 _ rfl;have z3:=hr 3 _ rfl;have z4:=hr 4 _ rfl;have z5:=hr 5 _ rfl;have z6:=hr 6 _ rfl;have z7:=hr 7 _ rfl;rw[Im]at z0;have Hno:=zH (zU hlt);have Hnx:=zH (show bB T T.nodes[k]=G6->∀j (h:j<T.nodes.length),j<k+1->bB T T.nodes[j]=G6 from fun g j h hj=>by
    rcases IP.1 hj with g2|rfl
    ·exact Hall.o j h g2
    ·exact g)
   clear hr hrng Hall;generalize T.nodes[k]=n at*
   cases hn:bB T n with
   | false =>
     have Hno2:=zH (Hno.o hn);rw[hn]at Hcall;clear hn;go_wp2_with(first
      |(with_reducible refine rg ?_)
      |(with_reducible refine fo ?_)
      |(go_at_call 72;refine Hcall.o.mono ?_;rintro e w6 ⟨rfl,hb6⟩;have Hb6:=zH (Hbw.o.drew.step hb6);clear hb6))
     go_ret;exact⟨1,rfl,⟨fun h=>absurd h (by decide),fun h=>absurd h Hno2.o⟩,Hb6.o⟩
   | true =>
     have Hnx2:=zH (Hnx.o hn);rw[hn]at Hcall;clear hn;go_wp2_with(first
      |(with_reducible refine rg ?_)
      |(with_reducible refine fo ?_)
      |(go_at_call 72;refine Hcall.o.mono ?_;rintro e w6 ⟨rfl,hb6⟩;have Hb6:=zH (Hbr.o.drew.step hb6);clear hb6))
     exact⟨⟨k+1,by go_num,by omega,Hnx2.o,Hb6.o⟩,by simp[intOf];omega⟩
  ·have d9:decide (k<T.nodes.length)=false:=by simp;omega
   have Hwf:=zH (DY Hroot.o fun i hi=>Hall.o i hi (by omega));have HK:=zH (wI fun i hi=>Hall.o i hi (by omega));clear Hall hlt;have hA2:=(Below.refl wr.heap.size wr).alloc (G8 _) (.cells (madeCells #[.bool G7] T.nodes.length) 4);have T2:=MB.made wr T.nodes.length;have HB1:=zH (show BT (wr.alloc (.cells (madeCells #[.bool G7] T.nodes.length) 4)) w.heap.size T from⟨_,_,(hA2.block _ (Ig hlA Hbr.o.size)).trans ((Hbr.o.block _ hlA).trans HA.o),HT.o.below (Hbw.o.step hA2)⟩);have Hsz:=zH Hbw.o.size;have HA2:=zH hA2;have HT2:=zH T2;clear hA2 T2;go_upto_region 9 with(at_make;refine wpList_make_row wr rfl (.tmp 32) (.tmp 32) 127 rfl 4 ib (.bool G7) (by kernel_rfl) Hi.o Hz.o Hz1.o rfl .i64 .i64 T.nodes.length rfl rfl (by rw[Hz2.o];omega) (by omega) ?_;generalize wr.alloc (.cells (madeCells #[.bool G7] T.nodes.length) 4)=w4 at*)
   have HD:=zH (show DX w4 T wr.heap.size w.heap.size (itR T 0)from⟨HT2.o,by
    obtain⟨s0,s1,h1,h2⟩:=HB1.o;have hw:=HA2.o;have hlt:w.heap.size<wr.heap.size:=Ig hlA Hbr.o.size;have hwo:Below wr.heap.size w4 (wo wr.heap.size w4):=zO (G8 _);refine⟨s0,s1,(hwo.block _ hlt).trans h1,?_⟩;have h3:TS (wo wr.heap.size w4) (.agg #[GU pt T.nodes.length ct,GX GZ T.root]) T:=(HT.o.below Hbw.o).below (hw.trans hwo);obtain⟨g0,g1⟩:=aM ((hw.block _ hlt).trans ((Hbr.o.block _ hlA).trans HA.o));rw[(hw.block _ hlt).trans ((Hbr.o.block _ hlA).trans HA.o)]at h1;simp at h1;obtain⟨rfl,rfl⟩:=h1;exact h3⟩)
   have Hend:=zH (fun(wz:World) (hb:Below w4.heap.size (wo wr.heap.size w4) (wo wr.heap.size wz))=>(show Below w.heap.size w wz from(Hbw.o.step HA2.o).trans (zN hb Hsz.o (Nat.le_trans Hsz.o HA2.o.size))));clear HB1 HT2 t0 t1;generalize wr.heap.size=bd at*
   go_wp2;go_loopw[5] (fun i wr=>∃r:Nat,i=GX GZ r/\r<=T.nodes.length/\DX wr T bd w.heap.size (itR T r)/\Below w4.heap.size (wo bd w4) (wo bd wr)) (fun i _=>T.nodes.length-(intOf i).toNat)
   case atStart=>exact⟨0,rfl,by omega,HD.o,Below.refl _ _⟩
   case round=>
    obtain⟨r,rfl,hr,hd,hb5⟩:=hrel;have HD5:=zH hd;have Hb5:=zH hb5;clear hd hb5;obtain⟨s0,s1,tb,p,c,e,-,-⟩:=HD5.o.t;have tb:=(wG tb (by simp)).2;injection e with e
    simp at e;obtain⟨rfl,rfl⟩:=e;obtain⟨t0,t1⟩:=aM tb;clear tb;by_cases hlr:r<T.nodes.length
    ·have d9:decide (r<T.nodes.length)=true:=by simp;omega
     obtain⟨wq5,hwq⟩:∃wq5:World,wq5=wr:=⟨_,rfl⟩
     subst hwq;go_wp2;go_loopw[6] (fun i wr=>∃k:Nat,i=GX GZ k/\k<=T.nodes.length/\DX wr T bd w.heap.size (dS T (itR T r) k)/\Below w4.heap.size (wo bd w4) (wo bd wr)) (fun i _=>T.nodes.length-(intOf i).toNat)
     case atStart=>exact⟨0,rfl,by omega,by unfold dS;exact HD5.o,Hb5.o⟩
     case round=>
      obtain⟨k,rfl,hk,hd,hb6⟩:=hrel;have HD6:=zH hd;have Hb6:=zH hb6;clear hd hb6 t0 t1;obtain⟨s0,s1,tb,p,c,e,-,-⟩:=HD6.o.t;have tb:=(wG tb (by simp)).2;injection e with e
      simp at e;obtain⟨rfl,rfl⟩:=e;obtain⟨t0,t1⟩:=aM tb;clear tb;by_cases hlk:k<T.nodes.length
      ·have d9:decide (k<T.nodes.length)=true:=by simp;omega
       have Hsucc:=zH (fk T (itR T r) k);have Hok:=zH (Aj (g:=dS T (itR T r) k) hlk);obtain⟨wq6,hwq⟩:∃wq6:World,wq6=wr:=⟨_,rfl⟩
       subst hwq;generalize dS T (itR T r) k=g at*
       go_wp2;go_loopw[8,7] (fun i b wr=>∃m:Nat,i=GX GZ m/\m<=T.nodes[k].kids.length/\(T.nodes[k].bool=G7->m=0)/\b=.bool ((T.nodes[k].kids.take m).all fun x=>g x.toNat)/\DX wr T bd w.heap.size g/\Below w4.heap.size (wo bd w4) (wo bd wr)) (fun i _ _=>T.nodes[k].kids.length-(intOf i).toNat)
       case atStart=>exact⟨0,rfl,by omega,fun _=>rfl,by simp,HD6.o,Hb6.o⟩
       case round=>
        obtain⟨m,rfl,hm,hm0,rfl,hd,hb7⟩:=hrel;have HD7:=zH hd;have Hb7:=zH hb7;have Hm0:=zH hm0;clear hd hb7 hm0 t0 t1;obtain⟨p',c',a,o,p1,c1,p2,c2,ep,tb,hr,hN,hkids,hkl⟩:=HD7.o.node hlk;subst ep;obtain⟨t0,t1⟩:=aM tb;have z0:=hr 0 _ rfl;have z1:=hr 1 _ rfl;have z2:=hr 2 _ rfl;have z3:=hr 3 _ rfl;have z4:=hr 4 _ rfl;have z5:=hr 5 _ rfl;have z6:=hr 6 _ rfl;have z7:=hr 7 _ rfl;rw[Im]at z0;have Hbo:=zH (sN T.nodes[k] wr _ (hN.sub (zM bd wr)));have Hkids:=zH hkids;have HKk:=zH (fun(hb:T.nodes[k].bool=G6) x hx=>HK.o k hlk (by rw[T.node_at hlk];exact hb) x (by rw[T.node_at hlk];exact hx));have hki:(k:Int)<(T.nodes.length:Int):=by omega
        clear tb hr hN hkids;generalize T.nodes[k]=n at*
        cases hbn:n.bool with
        | false =>
          obtain rfl:=Hm0.o hbn;rw[hbn]at Hbo;have Hok2:=zH (show okR T g k=G6 by rw[Hok.o,hbn];rfl);clear hbn;cases hgk:g k with
          | false =>
            have Hst:=zH (jq (T:=T) (g:=g) (i:=k) (x:=G6) (by rw[Hok2.o];simp));go_wp2_with(go_at_call 73;refine Hbo.o.mono ?_;rintro e w6 ⟨rfl,hb6⟩;have HD8:=zH (HD7.o.below hb6);have Hb8:=zH (show Below w4.heap.size (wo bd w4) (wo bd w6)from Hb7.o.trans ((dc hb6).mono (by have:=Hb7.o.size;rwa[bf,bf]at this)));clear hb6 z0 z1 z2 z3 z4 z5 z6 z7 t0 t1;have g0:=HD8.o.a.cell hlk;rw[hgk]at g0;have g1:=HD8.o.a.free k;have Hset:=zH (HD8.o.a.set hlk G6));obtain⟨hM,o9,hU⟩:=Hset.o;exact⟨⟨k+1,by go_num,by omega,by rw[Hsucc.o,Hst.o];exact HD8.o.turn (eM hU) hM,Hb8.o.trans ((eM hU).mono (by have:=Hb8.o.size;rwa[bf,bf]at this))⟩,by simp[intOf];omega⟩
          | true =>
            have Hst:=zH (jq (T:=T) (g:=g) (i:=k) (x:=G6) (by rw[Hok2.o];simp));go_wp2_with(go_at_call 73;refine Hbo.o.mono ?_;rintro e w6 ⟨rfl,hb6⟩;have HD8:=zH (HD7.o.below hb6);have Hb8:=zH (show Below w4.heap.size (wo bd w4) (wo bd w6)from Hb7.o.trans ((dc hb6).mono (by have:=Hb7.o.size;rwa[bf,bf]at this)));clear hb6 z0 z1 z2 z3 z4 z5 z6 z7 t0 t1;have g0:=HD8.o.a.cell hlk;rw[hgk]at g0;have g1:=HD8.o.a.free k;have Hset:=zH (HD8.o.a.set hlk G6));obtain⟨hM,o9,hU⟩:=Hset.o;exact⟨⟨k+1,by go_num,by omega,by rw[Hsucc.o,Hst.o];exact HD8.o.turn (eM hU) hM,Hb8.o.trans ((eM hU).mono (by have:=Hb8.o.size;rwa[bf,bf]at this))⟩,by simp[intOf];omega⟩
        | true =>
          rw[hbn]at Hbo;have HKk2:=zH (HKk.o hbn);have Hok2:=zH (show okR T g k=n.kids.all fun x=>g x.toNat by rw[Hok.o,hbn];simp);clear Hm0 HKk;by_cases hlm:m<n.kids.length
          ·have d8:decide (m<n.kids.length)=true:=by simp;omega
           have Hts:=zH (rf (g:=g) hlm);obtain⟨-,ak,ok,rfl,-,zk⟩:=Hkids.o.at hlm;have zk:=aF zk;obtain⟨q,hq,hql⟩:=gt (HKk2.o _ (Ip hlm));have hql:q<T.nodes.length:=hql;rw[hq]at zk Hts;rw[Int.toNat_natCast]at Hts;have hqi:(q:Int)<(T.nodes.length:Int):=by omega
           generalize hA:((n.kids.take m).all fun x=>g x.toNat)=A at*
           cases A with
           | true =>
             go_wp2_with(go_at_call 73;refine Hbo.o.mono ?_;rintro e w6 ⟨rfl,hb6⟩;have HD8:=zH (HD7.o.below hb6);have Hb8:=zH (show Below w4.heap.size (wo bd w4) (wo bd w6)from Hb7.o.trans ((dc hb6).mono (by have:=Hb7.o.size;rwa[bf,bf]at this)));have t0':=ae hb6 t0;have z4':=ae hb6 z4;have zk':=ae hb6 zk;clear hb6 z0 z1 z2 z3 z4 z5 z6 z7 t0 t1 zk;have g0:=HD8.o.a.cell hql);exact⟨⟨m+1,by go_num,by omega,(fun h=>by cases h),by rw[Hts.o];simp,HD8.o,Hb8.o⟩,by simp[intOf];omega⟩
           | false =>
             go_wp2_with(go_at_call 73;refine Hbo.o.mono ?_;rintro e w6 ⟨rfl,hb6⟩;have HD8:=zH (HD7.o.below hb6);have Hb8:=zH (show Below w4.heap.size (wo bd w4) (wo bd w6)from Hb7.o.trans ((dc hb6).mono (by have:=Hb7.o.size;rwa[bf,bf]at this)));have t0':=ae hb6 t0;have z4':=ae hb6 z4;clear hb6 z0 z1 z2 z3 z4 z5 z6 z7 t0 t1 zk);exact⟨⟨m+1,by go_num,by omega,(fun h=>by cases h),by rw[Hts.o];simp,HD8.o,Hb8.o⟩,by simp[intOf];omega⟩
          ·obtain rfl:m=n.kids.length:=by omega
           have d8:decide (n.kids.length<n.kids.length)=false:=by simp
           have hta:((n.kids.take n.kids.length).all fun x=>g x.toNat)=n.kids.all fun x=>g x.toNat:=by rw[Jf]
           rw[hta]at*
           generalize hA:(n.kids.all fun x=>g x.toNat)=A at*
           cases hgk:g k with
           | false =>
             have Hst:=zH (jq (T:=T) (g:=g) (i:=k) (x:=A) (by rw[Hok2.o,hgk];simp));go_wp2_with(go_at_call 73;refine Hbo.o.mono ?_;rintro e w6 ⟨rfl,hb6⟩;have HD8:=zH (HD7.o.below hb6);have Hb8:=zH (show Below w4.heap.size (wo bd w4) (wo bd w6)from Hb7.o.trans ((dc hb6).mono (by have:=Hb7.o.size;rwa[bf,bf]at this)));have t0':=ae hb6 t0;have z4':=ae hb6 z4;clear hb6 z0 z1 z2 z3 z4 z5 z6 z7 t0 t1;have g0:=HD8.o.a.cell hlk;rw[hgk]at g0;have g1:=HD8.o.a.free k;have Hset:=zH (HD8.o.a.set hlk A));obtain⟨hM,o9,hU⟩:=Hset.o;exact⟨⟨k+1,by go_num,by omega,by rw[Hsucc.o,Hst.o];exact HD8.o.turn (eM hU) hM,Hb8.o.trans ((eM hU).mono (by have:=Hb8.o.size;rwa[bf,bf]at this))⟩,by simp[intOf];omega⟩
           | true =>
             have Hst:=zH (jq (T:=T) (g:=g) (i:=k) (x:=G6) (by rw[hgk];simp));go_wp2_with(go_at_call 73;refine Hbo.o.mono ?_;rintro e w6 ⟨rfl,hb6⟩;have HD8:=zH (HD7.o.below hb6);have Hb8:=zH (show Below w4.heap.size (wo bd w4) (wo bd w6)from Hb7.o.trans ((dc hb6).mono (by have:=Hb7.o.size;rwa[bf,bf]at this)));have t0':=ae hb6 t0;have z4':=ae hb6 z4;clear hb6 z0 z1 z2 z3 z4 z5 z6 z7 t0 t1;have g0:=HD8.o.a.cell hlk;rw[hgk]at g0;have g1:=HD8.o.a.free k;have Hset:=zH (HD8.o.a.set hlk G6));obtain⟨hM,o9,hU⟩:=Hset.o;exact⟨⟨k+1,by go_num,by omega,by rw[Hsucc.o,Hst.o];exact HD8.o.turn (eM hU) hM,Hb8.o.trans ((eM hU).mono (by have:=Hb8.o.size;rwa[bf,bf]at this))⟩,by simp[intOf];omega⟩
      ·obtain rfl:k=T.nodes.length:=by omega
       have d9:decide (T.nodes.length<T.nodes.length)=false:=by simp
       go_wp2;exact⟨⟨r+1,by go_num,by omega,HD6.o,Hb6.o⟩,by simp[intOf];omega⟩
    ·obtain rfl:r=T.nodes.length:=by omega
     have d9:decide (T.nodes.length<T.nodes.length)=false:=by simp
     have Hall:=zH (uV (T:=T) HK.o);obtain⟨wq5,hwq⟩:∃wq5:World,wq5=wr:=⟨_,rfl⟩
     subst hwq;have hTl:T.len=T.nodes.length:=rfl;rw[hTl]at Hall;generalize itR T T.nodes.length=g at*
     go_wp2;go_loopw[9] (fun i wr=>∃k:Nat,i=GX GZ k/\k<=T.nodes.length/\(∀j,j<k->g j=G6)/\wr=wq5) (fun i _=>T.nodes.length-(intOf i).toNat)
     case atStart=>exact⟨0,rfl,by omega,fun j h=>by omega,rfl⟩
     case round=>
      obtain⟨k,rfl,hk,hall9,rfl⟩:=hrel;have Hall9:=zH hall9;clear hall9;by_cases hlk:k<T.nodes.length
      ·have d9:decide (k<T.nodes.length)=true:=by simp;omega
       have g0:=HD5.o.a.cell hlk;cases hgk:g k with
       | false =>
         have Hno:=zH (show¬WfT T from fun h=>by
          have:=Hall.o.2 (Hwf.o.1 h) k hlk;rw[hgk]at this;cases this)
         rw[hgk]at g0;clear hgk;go_wp2;go_ret;exact⟨3,rfl,⟨fun h=>absurd h (by decide),fun h=>absurd h Hno.o⟩,Hend.o _ Hb5.o⟩
       | true =>
         rw[hgk]at g0;have Hnx:=zH (show∀j,j<k+1->g j=G6 from fun j hj=>by
          rcases IP.1 hj with g2|rfl
          ·exact Hall9.o j g2
          ·exact hgk)
         clear hgk;go_wp2;exact⟨⟨k+1,by go_num,by omega,Hnx.o,by trivial⟩,by simp[intOf];omega⟩
      ·obtain rfl:k=T.nodes.length:=by omega
       have d9:decide (T.nodes.length<T.nodes.length)=false:=by simp
       have Hy:=zH (Hwf.o.2 (Hall.o.1 fun i hi=>Hall9.o i hi));go_wp2;go_ret;exact⟨0,rfl,⟨fun _=>Hy.o,fun _=>rfl⟩,Hend.o _ Hb5.o⟩
open Go.RowKit
def gl(T:Ty)(V:VV)(k:Int):Prop:=∀(w:World) (v t:Value),VW w v V->TS w t T->Calls Tryz.prog 40 #[v,t,GX GZ k] w (ER (mem T V k) w)
theorem CW {T:Ty}{l:List VV}{ks:List Int}{k:Nat}(h:k<l.length)(h2:k<ks.length)(hm:mem T l[k] ks[k]=G7):fi (mem T) l ks=false:=by
 unfold fi;rw[Bool.and_eq_false_iff];right;rw[IA];intro h3;rw[Ij]at h3;have hj:k<(l.zip ks).length:=by rw[List.length_zip];omega
 have:=h3 _ (Ip hj);rw[List.getElem_zip]at this;rw[this]at hm;cases hm
theorem Al {T:Ty}{l:List VV}{ks:List Int}(hl:l.length=ks.length)(h:∀j (h:j<l.length) (h2:j<ks.length),mem T l[j] ks[j]=G6):fi (mem T) l ks=true:=by
 unfold fi;rw[Bool.and_eq_true,decide_eq_true_eq,Ij];refine⟨hl,fun p hp=>?_⟩;obtain⟨j,hj,rfl⟩:=IZ.1 hp;rw[List.getElem_zip];rw[List.length_zip]at hj;exact h j (by omega) (by omega)
theorem mz(T:Ty)(l:List VV)(ks:List Int)(w:World)(vl t vk:Value)(hl:KS w vl l)(ht:TS w t T)(hk:IS w vk ks)(hm:ks.length<=1000)
 (hc:∀x∈l,∀k∈ks,gl T x k):Calls Tryz.prog 74 #[vl,t,vk] w (ER (fi (mem T) l ks) w):=by
 have HT:=zH ht;have HK:=zH hk;have Hc:=zH hc;obtain⟨d,pl,cl,rfl,hrl⟩:=hl;have Hrl:=zH hrl;obtain⟨pt,ct,rfl,-⟩:=ht;obtain⟨pk,ck,rfl,-,-⟩:=hk;clear hrl hc;go_enter Tryz.func74,Tryz.ntmps74;by_cases hlen:l.length=ks.length
 ·have d0:((l.length:Int)!=(ks.length:Int))=false:=by simp[hlen]
  go_upto_region 3 with fail
  have Hb2:=zH ((Below.refl w.heap.size w).alloc (G8 _) (GY #[GU pt T.nodes.length ct,GX GZ T.root] 27));have Hbx:=zH (HG w (GY #[GU pt T.nodes.length ct,GX GZ T.root] 27));have Hlen:=zH hlen;clear hlen d0;generalize w.alloc (GY #[GU pt T.nodes.length ct,GX GZ T.root] 27)=w2 at*
  have Hrl2:=zH (show Rw w2 pl cl 7 l (VS w2 d)from Hrl.o.below Hb2.o fun _ _ _ h=>h.below Hb2.o);have HK2:=zH (HK.o.below Hb2.o);have HT2:=zH (HT.o.below Hb2.o);have hbt:=ai Hbx.o;go_wp2;go_loopw[7] (fun i wr=>∃k:Nat,i=GX GZ k/\k<=l.length/\(∀j (h:j<l.length) (h2:j<ks.length),j<k->mem T l[j] ks[j]=G6)/\Below w2.heap.size w2 wr) (fun i _=>l.length-(intOf i).toNat)
  case atStart=>exact⟨0,rfl,by omega,fun j _ _ h=>by omega,Below.refl _ _⟩
  case round=>
   obtain⟨k,rfl,hk,ha,hb⟩:=hrel;have Ha:=zH ha;have Hb:=zH hb;clear ha hb;by_cases hll:k<l.length
   ·have hlt:k<ks.length:=by have:=Hlen.o;omega
    obtain⟨a,o,cs,rfl,hab,hcs,hrng,hP⟩:=Hrl2.o.all hll;obtain⟨q1,e1,q2,e2,q3,e3,q4,e4,rfl⟩:=hP.seven;have hr:=hrng wr Hb.o;have z0:=hr 0 _ rfl;have z1:=hr 1 _ rfl;have z2:=hr 2 _ rfl;have z3:=hr 3 _ rfl;have z4:=hr 4 _ rfl;have z5:=hr 5 _ rfl;have z6:=hr 6 _ rfl;obtain⟨-,ak,ok,rfl,hak,zk⟩:=(HK2.o.below Hb.o).at hlt;have Hnx:=zH (show mem T l[k] ks[k]=G6->∀j (h:j<l.length) (h2:j<ks.length),j<k+1->mem T l[j] ks[j]=G6 from fun g j h h2 hjk=>by
     rcases IP.1 hjk with g2|rfl
     ·exact Ha.o j h h2 g2
     ·exact g)
    have Hno:=zH (CW (T:=T) hll hlt);have Hcall:=zH (Hc.o _ (Ip hll) _ (Ip hlt));have HP:=zH (hP.below Hb.o);rw[Im]at z0;clear hr hrng hP hcs;generalize l[k]=X at*
    generalize ks[k]=kx at*
    obtain⟨x0,x1⟩:=aM ((Hb.o.block _ hbt).trans Hbx.o);have Hvw:=zH (show VW wr.drew (.agg #[GX GZ X.kind,GX GZ X.num,GW X.text,GU q1 X.kids.length e1,GU q2 X.keys.length e2,GU q3 X.ents.length e3,GU q4 X.labels.length e4]) X from⟨d,_,rfl,HP.o.below (Below.refl _ _).drew⟩);have Htw:=zH (HT2.o.below Hb.o.drew);cases hmv:mem T X kx with
    | true =>
      have Hmv:=zH hmv;have Hnx2:=zH (Hnx.o hmv);clear hmv;go_wp2_with(first
       |(with_reducible refine rg ?_)
       |(with_reducible refine fo ?_)
       |(go_at_call 40;refine(Hcall.o wr.drew _ _ Hvw.o Htw.o).mono ?_;rintro e w6 ⟨rfl,hb6⟩;rw[Hmv.o];have Hb6:=zH (Hb.o.drew.step hb6);clear hb6))
      exact⟨⟨k+1,by go_num,by omega,Hnx2.o,Hb6.o⟩,by simp[intOf];omega⟩
    | false =>
      have Hmv:=zH hmv;have Hf:=zH (Hno.o hmv);clear hmv;go_wp2_with(first
       |(with_reducible refine rg ?_)
       |(with_reducible refine fo ?_)
       |(go_at_call 40;refine(Hcall.o wr.drew _ _ Hvw.o Htw.o).mono ?_;rintro e w6 ⟨rfl,hb6⟩;rw[Hmv.o];have Hb6:=zH (Hb.o.drew.step hb6);clear hb6))
      go_ret;rw[Hf.o];exact⟨rfl,Hb2.o.trans (Hb6.o.mono (Nat.le_of_lt hbt))⟩
   ·obtain rfl:k=l.length:=by omega
    have Hyes:=zH (Al (T:=T) Hlen.o fun j h h2=>Ha.o j h h2 h);go_wp2;go_ret;rw[Hyes.o];exact⟨rfl,Hb2.o.trans (Hb.o.mono (Nat.le_of_lt hbt))⟩
 ·have d0:((l.length:Int)!=(ks.length:Int))=true:=by simp;omega
  have Hno:=zH (show fi (mem T) l ks=G7 by unfold fi;simp[hlen]);have Hb2:=zH ((Below.refl w.heap.size w).alloc (G8 _) (GY #[GU pt T.nodes.length ct,GX GZ T.root] 27));clear hlen;go_wp2;go_ret;rw[Hno.o];exact⟨rfl,Hb2.o⟩
theorem CY(V:VV)(s:KK)(w:World)(v:Value)(hv:VW w v V):Calls Tryz.prog 101 #[v,.agg #[GX GZ s.kind,GW s.text]] w (XI (fun x=>decide (x=s)) V.keys w):=by
 obtain⟨d,v1,b1,v2,b2,v3,b3,v4,b4,rfl,-,-,hkeys,-,-⟩:=hv.ex;have hL:V.keys.length<=9223372036854775807:=by obtain⟨_,_,_,h⟩:=hkeys;exact h.big
 have H:=zH hkeys;clear hkeys hv;go_enter Tryz.func101,Tryz.ntmps101;go_upto_region 1 with fail
 obtain⟨w2,e9,hA,hB,hb⟩:=bE w (GY #[GX GZ V.kind,GX GZ V.num,GW V.text,GU v1 V.kids.length b1,GU v2 V.keys.length b2,GU v3 V.ents.length b3,GU v4 V.labels.length b4] 33) (GY #[GX GZ s.kind,GW s.text] 103);rw[e9];have HA:=zH hA;have HB:=zH hB;have Hb:=zH hb;clear e9 hA hB hb;go_wp2;go_loopw[5] (fun i wr=>∃k:Nat,i=GX GZ k/\k<=V.keys.length/\(V.keys.take k).any (fun x=>decide (x=s))=G7/\Below w2.heap.size w2 wr) (fun i _=>V.keys.length-(intOf i).toNat)
 case atStart=>exact⟨0,rfl,by omega,by simp,Below.refl _ _⟩
 case round=>
  obtain⟨k,rfl,hk,ha,hbr⟩:=hrel;have Ha:=zH ha;have Hbr:=zH hbr;have Hbw:=zH (Hb.o.step hbr);obtain⟨⟨-,-,-,-⟩,a4,-,-⟩:=aN ((hbr.block _ (ai HA.o)).trans HA.o);obtain⟨x0,x1⟩:=aM ((hbr.block _ (ai HB.o)).trans HB.o);clear ha hbr;by_cases hlt:k<V.keys.length
  ·obtain⟨p',c',e9,hr⟩:=H.o.below Hbw.o;injection e9 with e1 _ e3
   subst e1 e3;obtain⟨a,o,rfl,hab,z0,z1⟩:=hr.key hlt;have hst:=jG (p:=fun x=>decide (x=s)) hlt;have hany:(V.keys.take (k+1)).any (fun x=>decide (x=s))=G6->V.keys.any (fun x=>decide (x=s))=true:=sI;rw[Ha.o,Bool.false_or]at hst;have hse:=fun w=>iV w V.keys[k] s
   by_cases hx:V.keys[k]=s
   ·have Hx:=zH (show∃j:Nat,((k:Nat):Int)=(j:Int)/\∃h:j<V.keys.length,decide (V.keys[j]=s)=G6 from⟨k,rfl,hlt,by simp[hx]⟩);have Hst:=zH (hany (by rw[hst];simp[hx]));simp only[decide_eq_true hx]at hse;generalize V.keys[k]=x at*
    clear hst hany hx hr;go_wp2_with(first
     |(with_reducible refine rg ?_)
     |(with_reducible refine fo ?_))
    go_ret;exact⟨_,rfl,by rw[Hst.o];simp,fun _=>Hx.o,Hbw.o.drew⟩
   ·have hst2:(V.keys.take (k+1)).any (fun x=>decide (x=s))=false:=by rw[hst];simp[hx]
    have Hst:=zH hst2;simp only[decide_eq_false hx]at hse;generalize V.keys[k]=x at*
    clear hst hst2 hany hx hr;go_wp2_with(first
     |(with_reducible refine rg ?_)
     |(with_reducible refine fo ?_))
    exact⟨⟨k+1,by go_num,by omega,Hst.o,Hbr.o.drew⟩,by simp[intOf];omega⟩
  ·obtain rfl:k=V.keys.length:=by omega
   have Ha':=zH (show V.keys.any (fun x=>decide (x=s))=G7 by have:=Ha.o;rwa[Jf]at this);go_wp2;go_ret;exact⟨-1,rfl,by rw[Ha'.o];rfl,fun h=>absurd h (by decide),Hbw.o⟩
def FI(n:TN)(k:KK)(w:World)(e:Ending)(w':World):Prop:=∃i:Int,e=.returned (GX GZ i)/\
 ((i= -1/\∀j (h:j<n.fields.length),n.fields[j].key≠k)\/∃j:Nat,i=(j:Int)/\∃h:j<n.fields.length,atN n k=n.fields[j].node)/\Below w.heap.size w w'
theorem yG(n:TN)(k:KK)(w:World)(cn:List Value)(hn:NC w n cn):Calls Tryz.prog 102 #[.agg cn.toArray,.agg #[GX GZ k.kind,GW k.text]] w (FI n k w):=by
 obtain⟨p1,c1,p2,c2,rfl,-,hf⟩:=hn;have hL:=hf.big;have Hf:=zH hf;clear hf;go_enter Tryz.func102,Tryz.ntmps102;go_upto_region 1 with fail
 obtain⟨w2,e9,hA,hB,hb⟩:=bE w (GY #[GX GZ n.kind,GX GZ n.lo,GX GZ n.hi,GW n.text,GU p1 n.kids.length c1,GU p2 n.fields.length c2,GX GZ n.rest0,GX GZ n.rest1] 61) (GY #[GX GZ k.kind,GW k.text] 103);rw[e9];have HA:=zH hA;have HB:=zH hB;have Hb:=zH hb;clear e9 hA hB hb;go_wp2;go_loopw[5] (fun i wr=>∃m:Nat,i=GX GZ m/\m<=n.fields.length/\(∀j (h:j<n.fields.length),j<m->n.fields[j].key≠k)/\Below w2.heap.size w2 wr) (fun i _=>n.fields.length-(intOf i).toNat)
 case atStart=>exact⟨0,rfl,by omega,fun j _ h=>by omega,Below.refl _ _⟩
 case round=>
  obtain⟨m,rfl,hm,hno,hbr⟩:=hrel;have Hno:=zH hno;have Hbr:=zH hbr;have Hbw:=zH (Hb.o.step hbr);obtain⟨x0,x1⟩:=aM ((hbr.block _ (ai HB.o)).trans HB.o);obtain⟨-,-,a5,-,-⟩:=aY ((hbr.block _ (ai HA.o)).trans HA.o);clear hno hbr;by_cases hlt:m<n.fields.length
  ·obtain⟨a,o,cs,rfl,hab,-,hrng,rfl⟩:=Hf.o.all hlt;have hr:=hrng wr Hbw.o;have z0:=hr 0 _ rfl;have z1:=hr 1 _ rfl;rw[Im]at z0;have hse:=fun w=>iV w n.fields[m].key k
   have Hfound:=zH (show n.fields[m].key=k->∃j:Nat,((m:Nat):Int)=(j:Int)/\∃h:j<n.fields.length,atN n k=n.fields[j].node from fun h=>⟨m,rfl,hlt,yd hlt Hno.o h⟩);have Hmiss:=zH (show n.fields[m].key≠k->∀j (h:j<n.fields.length),j<m+1->n.fields[j].key≠k from fun h j hj hjm=>by
    rcases IP.1 hjm with g|rfl
    ·exact Hno.o j hj g
    ·exact h)
   clear hrng hr;generalize n.fields[m]=f at*
   by_cases hx:f.key=k
   ·have Hans:=zH (Hfound.o hx);simp only[decide_eq_true hx]at hse;clear hx;go_wp2_with(first
     |(with_reducible refine rg ?_)
     |(with_reducible refine fo ?_))
    go_ret;exact⟨_,rfl,.inr Hans.o,Hbw.o.drew⟩
   ·have Hmiss2:=zH (Hmiss.o hx);simp only[decide_eq_false hx]at hse;clear hx;go_wp2_with(first
     |(with_reducible refine rg ?_)
     |(with_reducible refine fo ?_))
    exact⟨⟨m+1,by go_num,by omega,Hmiss2.o,Hbr.o.drew⟩,by simp[intOf];omega⟩
  ·obtain rfl:m=n.fields.length:=by omega
   go_wp2;go_ret;exact⟨-1,rfl,.inl ⟨rfl,fun j hj=>Hno.o j hj hj⟩,Hbw.o⟩
theorem pp(T:Ty)(V:VV)(n:TN)(w:World)(cn:List Value)(v t:Value)(hv:VW w v V)(ht:TS w t T)(hn:NC w n cn)(h1:1<=n.kids.length)(hm:n.kids.length<=1000)
 (hc:∀e∈V.ents,(∀x∈e.args,∀k∈n.kids,gl T x k)/\(e.fails=G7->∀k∈n.kids,gl T e.res k)):
 Calls Tryz.prog 76 #[v,t,.agg cn.toArray] w (ER (iT (mem T) V n) w):=by
 have HT:=zH ht;have HC:=zH hc;obtain⟨d,v1,b1,v2,b2,v3,b3,v4,b4,rfl,-,-,-,hents,-⟩:=hv.ex;obtain⟨p1,c1,p2,c2,rfl,hk,-⟩:=hn;obtain⟨pt,ct,rfl,-⟩:=ht;obtain⟨de,pe,ce,e9,hre⟩:=hents;injection e9 with e91 _ e93
 subst e91 e93;have hL:=hre.big;have HE:=zH hre;have HK:=zH hk;obtain⟨m,hmk⟩:∃m,n.kids.length=m+1:=⟨n.kids.length-1,by omega⟩
 have hcap:m<=c1:=by
  obtain⟨p',c',e9,h9,_⟩:=hk;injection e9 with _ _ e9
  omega
 have Hmk:=zH hmk;have Hkt:=zH (show∀w',Below w.heap.size w w'->IS w' (GU p1 m c1) (n.kids.take m)from fun w' hb=>(hk.below hb).take (by omega));have hlk:m<n.kids.length:=by omega
 have Hkm:=zH (show∀w',Below w.heap.size w w'->∃a o,p1=G5 ⟨a,o,G0⟩/\w'.cell? ⟨a,o+m,G0⟩=G5 (GX GZ n.kids[m])from fun w' hb=>by
  obtain⟨-,a,o,e1,_,e2⟩:=(hk.below hb).at hlk;exact⟨a,o,e1,e2⟩)
 have Hmem:=zH (Ip hlk);have Hent:=zH (show∀e:EE,gR (mem T) n.kids e=(!fi (mem T) e.args (n.kids.take m)||(!e.fails&&mem T e.res n.kids[m]))from fun e=>by
  unfold gR;rw[show n.kids.length-1=m by omega,List.getD_eq_getElem?_getD,List.getElem?_eq_getElem hlk];rfl)
 rw[hmk]at hm ⊢;generalize n.kids[m]=km at*
 clear hre hc hv h1 hmk hlk hk;go_enter Tryz.func76,Tryz.ntmps76;go_upto_region 1 with fail
 obtain⟨w3,e9,hA,hB,hC,hb⟩:=uR w (GY #[GX GZ V.kind,GX GZ V.num,GW V.text,GU v1 V.kids.length b1,GU v2 V.keys.length b2,GU v3 V.ents.length b3,GU v4 V.labels.length b4] 33) (GY #[GU pt T.nodes.length ct,GX GZ T.root] 27) (GY #[GX GZ n.kind,GX GZ n.lo,GX GZ n.hi,GW n.text,GU p1 (m+1) c1,GU p2 n.fields.length c2,GX GZ n.rest0,GX GZ n.rest1] 61);rw[e9];obtain⟨⟨x0,x1,x2,x3⟩,x4,x5,x6⟩:=aN hA;obtain⟨-,y4,-,-,-⟩:=aY hC;have hlA:=ai hA;have hlB:=ai hB;have hlC:=ai hC;have HbA:=zH hA;have HbB:=zH hB;have HbC:=zH hC;have Hb:=zH hb;clear e9 hA hB hC hb x0 x2 x3 x4 x6;by_cases hnum:V.num=(m:Int)
 ·have d0:(V.num !=(m:Int))=false:=by simp[hnum]
  have hfun:iT (mem T) V n=V.ents.all (gR (mem T) n.kids):=by
   unfold iT;have h9:decide (V.num=(n.kids.length:Int)-1)=true:=by rw[decide_eq_true_eq,Hmk.o,hnum];omega
   rw[h9,Bool.true_and]
  have Hfun:=zH hfun;clear hfun hnum;go_wp2;go_loopw[8] (fun i wr=>∃k:Nat,i=GX GZ k/\k<=V.ents.length/\(∀j (h:j<V.ents.length),j<k->gR (mem T) n.kids V.ents[j]=G6)/\Below w3.heap.size w3 wr) (fun i _=>V.ents.length-(intOf i).toNat)
  case atStart=>exact⟨0,rfl,by omega,fun j _ h=>by omega,Below.refl _ _⟩
  case round=>
   obtain⟨k,rfl,hk,hall,hbr⟩:=hrel;have Hall:=zH hall;have Hbr:=zH hbr;have Hbw:=zH (Hb.o.step hbr);obtain⟨-,-,y5,-⟩:=aN ((hbr.block _ hlA).trans HbA.o);clear hall hbr;by_cases hlt:k<V.ents.length
   ·obtain⟨a,o,cs,rfl,hab,-,hrng,hES⟩:=HE.o.all hlt;have HES:=zH hES;obtain⟨qa,ea,rs,e1,hra,hrv⟩:=id hES;obtain⟨q1,e1',q2,e2,q3,e3,q4,e4,rfl⟩:=hrv.seven;subst e1;have Hra:=zH hra;have Hrv:=zH hrv;have hr:=hrng wr Hbw.o;have z0:=hr 0 _ rfl;have z1:=hr 1 _ rfl;have z2:=hr 2 _ rfl;have z3:=hr 3 _ rfl;have z4:=hr 4 _ rfl;have z5:=hr 5 _ rfl;have z6:=hr 6 _ rfl;have z7:=hr 7 _ rfl;have z8:=hr 8 _ rfl;rw[Im]at z0;have Hcall:=zH (HC.o _ (Ip hlt));have Hnx:=zH (show gR (mem T) n.kids V.ents[k]=G6->∀j (h:j<V.ents.length),j<k+1->gR (mem T) n.kids V.ents[j]=G6 from fun h j hj hjk=>by
     rcases IP.1 hjk with g|rfl
     ·exact Hall.o j hj g
     ·exact h)
    have Hno:=zH (show gR (mem T) n.kids V.ents[k]=G7->V.ents.all (gR (mem T) n.kids)=G7 from fun h=>by
     rw[IA];intro h2;rw[Ij]at h2;rw[h2 _ (Ip hlt)]at h;cases h)
    generalize V.ents[k]=en at*
    clear hES hr hrng hra hrv;go_upto_region 8 with fail
    have hnew:=HG wr (GY #[GU qa en.args.length ea,.bool en.fails,GX GZ en.res.kind,GX GZ en.res.num,GW en.res.text,GU q1 en.res.kids.length e1',GU q2 en.res.keys.length e2,GU q3 en.res.ents.length e3,GU q4 en.res.labels.length e4] 68);have ho:Below wr.heap.size wr (wr.alloc (GY #[GU qa en.args.length ea,.bool en.fails,GX GZ en.res.kind,GX GZ en.res.num,GW en.res.text,GU q1 en.res.kids.length e1',GU q2 en.res.keys.length e2,GU q3 en.res.ents.length e3,GU q4 en.res.labels.length e4] 68)):=(Below.refl _ _).alloc (G8 _) _;generalize wr.alloc (GY #[GU qa en.args.length ea,.bool en.fails,GX GZ en.res.kind,GX GZ en.res.num,GW en.res.text,GU q1 en.res.kids.length e1',GU q2 en.res.keys.length e2,GU q3 en.res.ents.length e3,GU q4 en.res.labels.length e4] 68)=w5 at*
    have Hbr5:=zH (Hbr.o.step ho);have Hbw5:=zH (Hb.o.step Hbr5.o);generalize wr.heap.size=bn at*
    obtain⟨⟨a0,a1,a2,a3⟩,⟨a4,a5,a6,a7⟩,a8⟩:=cB hnew;obtain⟨b0,b1⟩:=aM ((Hbr5.o.block _ hlB).trans HbB.o);obtain⟨⟨d0,d1,d2,d3⟩,d4,d5,d6,d7⟩:=aY ((Hbr5.o.block _ hlC).trans HbC.o);have Hall2:=zH (mz T en.args (n.kids.take m) w5.drew (GU qa en.args.length ea) (.agg #[GU pt T.nodes.length ct,GX GZ T.root]) (GU p1 m c1) ⟨de,qa,ea,rfl,Hra.o.below Hbw5.o.drew fun _ _ _ h=>h.below Hbw5.o.drew⟩ (HT.o.below Hbw5.o.drew) (Hkt.o _ Hbw5.o.drew) (by rw[List.length_take];omega) fun x hx k hk=>Hcall.o.1 x hx k (List.mem_of_mem_take hk));have Hen:=zH (Hent.o en);clear z0 z1 z2 z3 z4 z5 z6 z7 z8 ho y5;cases hal:fi (mem T) en.args (n.kids.take m)with
    | false =>
      have Hnx2:=zH (Hnx.o (by rw[Hen.o,hal];rfl));rw[hal]at Hall2;clear hal hnew;go_wp2_with(first
       |(with_reducible refine rg ?_)
       |(with_reducible refine fo ?_)
       |(go_at_call 74;refine Hall2.o.mono ?_;rintro e w6 ⟨rfl,hb6⟩;have Hbr6:=zH (Hbr5.o.drew.step hb6);have Hb6:=zH (Hbw5.o.drew.step hb6);clear hb6))
      exact⟨⟨k+1,by go_num,by omega,Hnx2.o,Hbr6.o⟩,by simp[intOf];omega⟩
    | true =>
      rw[hal]at Hall2;cases hf:en.fails with
      | true =>
        have Hf:=zH (Hno.o (by rw[Hen.o,hal,hf];rfl));rw[hf]at hnew a1;clear hal hf;go_wp2_with(first
        |(with_reducible refine rg ?_)
        |(with_reducible refine fo ?_)
        |(go_at_call 74;refine Hall2.o.mono ?_;rintro e w6 ⟨rfl,hb6⟩;have Hbr6:=zH (Hbr5.o.drew.step hb6);have Hb6:=zH (Hbw5.o.drew.step hb6);obtain⟨⟨f0,f1,f2,f3⟩,⟨f4,f5,f6,f7⟩,f8⟩:=cB ((hb6.block _ (ai hnew)).trans hnew);obtain⟨g0,g1⟩:=aM ((Hbr6.o.block _ hlB).trans HbB.o);obtain⟨-,h4,-,-,-⟩:=aY ((Hbr6.o.block _ hlC).trans HbC.o);clear hb6))
        go_ret;rw[Hfun.o,Hf.o];exact⟨rfl,Hb6.o⟩
      | false =>
        have Hcr:=zH (Hcall.o.2 hf _ Hmem.o);have hen:gR (mem T) n.kids en=mem T en.res km:=by rw[Hen.o,hal,hf];rfl
        rw[hf]at hnew a1;cases hmv:mem T en.res km with
        | true =>
          have Hnx2:=zH (Hnx.o (hen.trans hmv));have Hmv:=zH hmv;clear hal hf hen hmv;go_wp2_with(first
           |(with_reducible refine rg ?_)
           |(with_reducible refine fo ?_)
           |(go_at_call 74;refine Hall2.o.mono ?_;rintro e w6 ⟨rfl,hb6⟩;have Hbr6:=zH (Hbr5.o.drew.step hb6);have Hb6:=zH (Hbw5.o.drew.step hb6);obtain⟨⟨f0,f1,f2,f3⟩,⟨f4,f5,f6,f7⟩,f8⟩:=cB ((hb6.block _ (ai hnew)).trans hnew);obtain⟨g0,g1⟩:=aM ((Hbr6.o.block _ hlB).trans HbB.o);obtain⟨-,h4,-,-,-⟩:=aY ((Hbr6.o.block _ hlC).trans HbC.o);obtain⟨ak,ok,hpk,zk⟩:=Hkm.o w6 Hb6.o;subst hpk;clear hb6)
            |(go_at_call 40;refine(Hcr.o w6 _ _ ⟨de,_,rfl,Hrv.o.below Hb6.o⟩ (HT.o.below Hb6.o)).mono ?_;rintro e w7 ⟨rfl,hb7⟩;rw[Hmv.o];have Hbr7:=zH (Hbr6.o.step hb7);clear hb7))
          exact⟨⟨k+1,by go_num,by omega,Hnx2.o,Hbr7.o⟩,by simp[intOf];omega⟩
        | false =>
          have Hf:=zH (Hno.o (hen.trans hmv));have Hmv:=zH hmv;clear hal hf hen hmv;go_wp2_with(first
           |(with_reducible refine rg ?_)
           |(with_reducible refine fo ?_)
           |(go_at_call 74;refine Hall2.o.mono ?_;rintro e w6 ⟨rfl,hb6⟩;have Hbr6:=zH (Hbr5.o.drew.step hb6);have Hb6:=zH (Hbw5.o.drew.step hb6);obtain⟨⟨f0,f1,f2,f3⟩,⟨f4,f5,f6,f7⟩,f8⟩:=cB ((hb6.block _ (ai hnew)).trans hnew);obtain⟨g0,g1⟩:=aM ((Hbr6.o.block _ hlB).trans HbB.o);obtain⟨-,h4,-,-,-⟩:=aY ((Hbr6.o.block _ hlC).trans HbC.o);obtain⟨ak,ok,hpk,zk⟩:=Hkm.o w6 Hb6.o;subst hpk;clear hb6)
            |(go_at_call 40;refine(Hcr.o w6 _ _ ⟨de,_,rfl,Hrv.o.below Hb6.o⟩ (HT.o.below Hb6.o)).mono ?_;rintro e w7 ⟨rfl,hb7⟩;rw[Hmv.o];have Hb7:=zH (Hb6.o.step hb7);clear hb7))
          go_ret;rw[Hfun.o,Hf.o];exact⟨rfl,Hb7.o⟩
   ·obtain rfl:k=V.ents.length:=by omega
    have Hyes:=zH (show iT (mem T) V n=G6 by
     rw[Hfun.o,Ij];intro x hx;obtain⟨j,hj,rfl⟩:=IZ.1 hx;exact Hall.o j hj hj)
    go_wp2;go_ret;rw[Hyes.o];exact⟨rfl,Hbw.o⟩
 ·have d0:(V.num !=(m:Int))=true:=by simp[hnum]
  have Hno:=zH (show iT (mem T) V n=G7 by
   unfold iT;have h9:decide (V.num=(n.kids.length:Int)-1)=false:=by rw[decide_eq_false_iff_not,Hmk.o];omega
   rw[h9,Bool.false_and])
  clear hnum;go_wp2;go_ret;rw[Hno.o];exact⟨rfl,Hb.o⟩
end Go.Proofs.YtfpahmeploondaaGreatDoor
