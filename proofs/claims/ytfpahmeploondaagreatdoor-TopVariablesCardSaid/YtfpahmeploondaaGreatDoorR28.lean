/- Walks and plain facts for the law on type variables, for all values and types that the heap holds (texts Q6 Y5 A5). -/
import Derived.Test.YtfpahmeploondaaGreatDoorR03
import Derived.Test.YtfpahmeploondaaGreatDoorR07
import Derived.Test.YtfpahmeploondaaGreatDoorR21
import Derived.Test.YtfpahmeploondaaGreatDoorR24
import Derived.Test.YtfpahmeploondaaGreatDoorR25
import Derived.Test.YtfpahmeploondaaGreatDoorR26
import Derived.Test.YtfpahmeploondaaGreatDoorR27
set_option linter.unusedVariables false
set_option linter.unusedSimpArgs false
set_option maxHeartbeats 64000000
open Option renaming none -> G0, some -> G5
open Bool renaming true -> G6, false -> G7
open Go.Value renaming slice -> GU, string -> GW, int -> GX
open Go.Obj renaming cells -> GY
open Go.IntKind renaming i64 -> GZ
open List renaming getElem_mem -> Ip
open Nat renaming le_refl -> G8
namespace Go.Proofs.YtfpahmeploondaaGreatDoor
open Go.RowKit Go.Ident
set_option maxRecDepth 100000
theorem CZ(T:Ty)(hw:WfT T):∀d (V:VV),V.ht<=d->V.valid=G6->∀k,T.has k=G6->gl T V k:=by
 intro d
 induction d with
 |zero=>intro V h;have:=fx V;omega
 | succ d ih =>
   intro V hd hv;obtain⟨rk,hr⟩:=hw.ctr;have hsub:∀x∈V.kids,∀k,T.has k=G6->gl T x k:=fun x hx k hk=>ih x (by have:=fS hx;omega) (lD hv hx) k hk
   have hent:∀e∈V.ents,(∀x∈e.args,∀k,T.has k=G6->gl T x k)/\(e.fails=G7->∀k,T.has k=G6->gl T e.res k):=fun e he=>by
    have h1:=ip he;obtain⟨h2,h3⟩:=lE hv he;exact⟨fun x hx k hk=>ih x (by have:=gF hx;omega) (h2 x hx) k hk,fun hf k hk=>ih e.res (by have:=gG e;omega) (h3 hf) k hk⟩
   have key:∀m i,i<T.nodes.length->rk i<m->gl T V (i:Nat):=by
    intro m
    induction m with
    |zero=>intro i _ h;omega
    | succ m ihm =>
      intro i hi hm;have hN:=hw.node hi;have hK:=hN.kind;obtain⟨k1,k2⟩:=uW hK;have hsame:(T.node (i:Nat)).bool=G6->∀x∈(T.node (i:Nat)).kids,gl T V x:=fun hb x hx=>by
       obtain⟨j,rfl,hj⟩:=gt (hN.kids x hx);have:=hr i hi hb _ hx;simp only[Int.toNat_natCast]at this;exact ihm j hj (by omega)
      generalize hn:T.node (i:Nat)=n at*
      have e1:n.kind=10\/n.kind=12->n.kids.length<=1000:=fun h=>by unfold bj at hK;rcases h with h|h<;>(simp[h]at hK;omega)
      have e2:n.kind=14->1<=n.kids.length/\n.kids.length<=1000:=fun h=>by unfold bj at hK;simp[h]at hK;omega
      have e3:n.kind=18->0<n.kids.length:=fun h=>by unfold bj at hK;simp[h]at hK;omega
      refine An T hw V i hi n hn.symm ?_;unfold FT;rcases(show(n.kind=1\/n.kind=2)\/n.kind=3\/(n.kind=4\/n.kind=6)\/(n.kind=5\/n.kind=7\/n.kind=8\/n.kind=9\/n.kind=11\/n.kind=15)\/(n.kind=10\/n.kind=12)\/n.kind=13\/n.kind=14\/(n.kind=16\/n.kind=17)\/n.kind=18\/n.kind=19 by omega)with h|h|h|h|h|h|h|h|h|h
      ·exact .inl h
      ·exact .inr (.inl h)
      ·exact .inr (.inr (.inl h))
      ·exact .inr (.inr (.inr (.inl h)))
      ·exact .inr (.inr (.inr (.inr (.inl ⟨h,e1 h,fun x hx k hk=>hsub x hx k (hN.kids k hk)⟩))))
      ·exact .inr (.inr (.inr (.inr (.inr (.inl ⟨h,ye hv,yf hv,fun j hj hj2=>hsub _ (Ip hj2) _ (hN.at h _)⟩)))))
      ·exact .inr (.inr (.inr (.inr (.inr (.inr (.inl ⟨h,(e2 h).1,(e2 h).2,fun e he=>⟨fun x hx k hk=>(hent e he).1 x hx k (hN.kids k hk),fun hf k hk=>(hent e he).2 hf k (hN.kids k hk)⟩⟩))))))
      ·exact .inr (.inr (.inr (.inr (.inr (.inr (.inr (.inl ⟨h,hsame (by rcases h with h|h<;>simp[TN.bool,h])⟩)))))))
      ·refine .inr (.inr (.inr (.inr (.inr (.inr (.inr (.inr (.inl ⟨h,e3 h,hsame (by simp[TN.bool,h]) _ ?_⟩))))))));have h1:=e3 h;rw[List.getD_eq_getElem?_getD,List.getElem?_eq_getElem h1];exact Ip h1
      ·exact .inr (.inr (.inr (.inr (.inr (.inr (.inr (.inr (.inr h))))))))
   intro k hk;obtain⟨j,rfl,hj⟩:=gt hk;exact key (rk j+1) j hj (by omega)
theorem C1 {T:Ty}(hw:WfT T){V:VV}(hv:V.valid=G6){k:Int}(hk:T.has k=G6):gl T V k:=CZ T hw V.ht V (G8 _) hv k hk
theorem kT(a:VV)(w:World)(u:Value)(hu:VW w u a):Calls Tryz.prog 34 #[u] w (ER a.valid w):=sM EN a w u hu
theorem TS.kids {w:World}{t:Value}{T:Ty}(h:TS w t T):∀n∈T.nodes,n.kids.length<=9223372036854775807:=by obtain⟨p,c,e,h,h2⟩:=h;exact h2
theorem kU(T:Ty)(w:World)(t:Value)(ht:TS w t T)(hs:SzT T):Calls Tryz.prog 38 #[t] w (WR T w):=
 Ak T w t ht hs fun n hn w' cs ht' hN=>tq T n w' t cs ht' hN (ht'.kids n hn)
open Classical in
noncomputable def mof(T:Ty)(V:VV)(k:Int):Bool:=V.valid&&(decide (WfT T)&&(T.has k&&mem T V k))
open Classical in
theorem mof_nwf {T:Ty}{V:VV}{k:Int}(h: ¬WfT T):mof T V k=false:=by unfold mof;rw[decide_eq_false h];simp
open Classical in
theorem Ao {T:Ty}{V:VV}{k:Int}(hv:V.valid=G6)(h:WfT T):mof T V k=(T.has k&&mem T V k):=by unfold mof;rw[hv,decide_eq_true h];simp
theorem mE(T:Ty)(V:VV)(k:Int)(w:World)(v t:Value)(hv:VW w v V)(ht:TS w t T)(hs:SzT T):Calls Tryz.prog 19 #[v,t,GX GZ k] w (ER (mof T V k) w):=by
 have HV:=zH hv;have HT:=zH ht;obtain⟨d,v1,b1,v2,b2,v3,b3,v4,b4,rfl,-,-,-,-,-⟩:=hv.ex;obtain⟨pt,ct,rfl,-⟩:=ht;clear hv;go_enter Tryz.func19,Tryz.ntmps19;go_upto_region 1 with fail
 obtain⟨w2,e9,hA,hB,hb⟩:=bE w (GY #[GX GZ V.kind,GX GZ V.num,GW V.text,GU v1 V.kids.length b1,GU v2 V.keys.length b2,GU v3 V.ents.length b3,GU v4 V.labels.length b4] 33) (GY #[GU pt T.nodes.length ct,GX GZ T.root] 27);rw[e9];obtain⟨⟨f0,f1,f2,f3⟩,f4,f5,f6⟩:=aN hA;obtain⟨t0,t1⟩:=aM hB;have Hb:=zH hb;clear e9 hA hB;have Hval:=zH (kT V w2 _ (HV.o.below hb));have Hwf:=zH (fun(w6:World) (h:Below w2.heap.size w2 w6)=>kU T w6 _ (HT.o.below (hb.step h)) hs);have Hix:=zH (fun(w6:World) (h:Below w.heap.size w w6)=>eE T k w6 _ (HT.o.below h));clear hb;cases hval:V.valid with
 | false =>
   have Hr:=zH (show mof T V k=G7 by unfold mof;rw[hval];rfl);rw[hval]at Hval;clear hval;go_wp2_with(go_at_call 34;refine Hval.o.mono ?_;rintro e w6 ⟨rfl,hb6⟩;have Hb6:=zH (Hb.o.step hb6);clear hb6);go_ret;rw[Hr.o];exact⟨rfl,Hb6.o⟩
 |true=>
 have Hvv:=zH hval;rw[hval]at Hval;clear hval;by_cases hw:WfT T;rotate_left
 ·have Hr:=zH (show mof T V k=G7 from mof_nwf hw);have Hw:=zH hw;clear hw;go_wp2_with(first
   |(go_at_call 34;refine Hval.o.mono ?_;rintro e w6 ⟨rfl,hb6⟩;have Hb6:=zH hb6;have t0':=ae hb6 t0;have t1':=ae hb6 t1;clear t0 t1;have t0:=t0';have t1:=t1';clear t0' t1';have g0:=ae hb6 f0;have g1:=ae hb6 f1;have g2:=ae hb6 f2;have g3:=ae hb6 f3;have g4:=ae hb6 f4;have g5:=ae hb6 f5;have g6:=ae hb6 f6;clear f0 f1 f2 f3 f4 f5 f6;have f0:=g0;have f1:=g1;have f2:=g2;have f3:=g3;have f4:=g4;have f5:=g5;have f6:=g6;clear g0 g1 g2 g3 g4 g5 g6;clear hb6)
   |(go_at_call 38;refine(Hwf.o w6 Hb6.o).mono ?_;rintro e w7 ⟨c,rfl,hc,hb7⟩;have hc0:(c==0)=false:=(by simp;exact fun h=>Hw.o (hc.1 h));have Hb7:=zH (Hb.o.step (Hb6.o.step hb7));clear hb7 hc))
  go_ret;rw[Hr.o];exact⟨rfl,Hb7.o⟩
 have Hw:=zH hw;have Hr:=zH (show mof T V k=(T.has k&&mem T V k)from Ao Hvv.o hw);clear hw;cases hk:T.has k with
 | false =>
   have Hr2:=zH (show mof T V k=G7 by rw[Hr.o,hk];rfl);rw[hk]at Hix;clear hk;go_wp2_with(first
    |(go_at_call 34;refine Hval.o.mono ?_;rintro e w6 ⟨rfl,hb6⟩;have Hb6:=zH hb6;have t0':=ae hb6 t0;have t1':=ae hb6 t1;clear t0 t1;have t0:=t0';have t1:=t1';clear t0' t1';have g0:=ae hb6 f0;have g1:=ae hb6 f1;have g2:=ae hb6 f2;have g3:=ae hb6 f3;have g4:=ae hb6 f4;have g5:=ae hb6 f5;have g6:=ae hb6 f6;clear f0 f1 f2 f3 f4 f5 f6;have f0:=g0;have f1:=g1;have f2:=g2;have f3:=g3;have f4:=g4;have f5:=g5;have f6:=g6;clear g0 g1 g2 g3 g4 g5 g6;clear hb6)
    |(go_at_call 38;refine(Hwf.o w6 Hb6.o).mono ?_;rintro e w7 ⟨c,rfl,hc,hb7⟩;obtain rfl:=hc.2 Hw.o;have Hb7:=zH (Hb.o.step (Hb6.o.step hb7));have t0':=ae hb7 t0;have t1':=ae hb7 t1;clear t0 t1;have t0:=t0';have t1:=t1';clear t0' t1';have g0:=ae hb7 f0;have g1:=ae hb7 f1;have g2:=ae hb7 f2;have g3:=ae hb7 f3;have g4:=ae hb7 f4;have g5:=ae hb7 f5;have g6:=ae hb7 f6;clear f0 f1 f2 f3 f4 f5 f6;have f0:=g0;have f1:=g1;have f2:=g2;have f3:=g3;have f4:=g4;have f5:=g5;have f6:=g6;clear g0 g1 g2 g3 g4 g5 g6;clear hb7 hc)
    |(go_at_call 39;refine(Hix.o w7 Hb7.o).mono ?_;rintro e w8 ⟨rfl,hb8⟩;have Hb8:=zH (Hb7.o.step hb8);clear hb8))
   go_ret;rw[Hr2.o];exact⟨rfl,Hb8.o⟩
 | true =>
   have Hr2:=zH (show mof T V k=mem T V k by rw[Hr.o,hk];rfl);have Hhas:=zH (C1 Hw.o Hvv.o hk);rw[hk]at Hix;clear hk;go_wp2_with(first
    |(go_at_call 34;refine Hval.o.mono ?_;rintro e w6 ⟨rfl,hb6⟩;have Hb6:=zH hb6;have t0':=ae hb6 t0;have t1':=ae hb6 t1;clear t0 t1;have t0:=t0';have t1:=t1';clear t0' t1';have g0:=ae hb6 f0;have g1:=ae hb6 f1;have g2:=ae hb6 f2;have g3:=ae hb6 f3;have g4:=ae hb6 f4;have g5:=ae hb6 f5;have g6:=ae hb6 f6;clear f0 f1 f2 f3 f4 f5 f6;have f0:=g0;have f1:=g1;have f2:=g2;have f3:=g3;have f4:=g4;have f5:=g5;have f6:=g6;clear g0 g1 g2 g3 g4 g5 g6;clear hb6)
    |(go_at_call 38;refine(Hwf.o w6 Hb6.o).mono ?_;rintro e w7 ⟨c,rfl,hc,hb7⟩;obtain rfl:=hc.2 Hw.o;have Hb7:=zH (Hb.o.step (Hb6.o.step hb7));have t0':=ae hb7 t0;have t1':=ae hb7 t1;clear t0 t1;have t0:=t0';have t1:=t1';clear t0' t1';have g0:=ae hb7 f0;have g1:=ae hb7 f1;have g2:=ae hb7 f2;have g3:=ae hb7 f3;have g4:=ae hb7 f4;have g5:=ae hb7 f5;have g6:=ae hb7 f6;clear f0 f1 f2 f3 f4 f5 f6;have f0:=g0;have f1:=g1;have f2:=g2;have f3:=g3;have f4:=g4;have f5:=g5;have f6:=g6;clear g0 g1 g2 g3 g4 g5 g6;clear hb7 hc)
    |(go_at_call 39;refine(Hix.o w7 Hb7.o).mono ?_;rintro e w8 ⟨rfl,hb8⟩;have Hb8:=zH (Hb7.o.step hb8);have t0':=ae hb8 t0;have t1':=ae hb8 t1;clear t0 t1;have t0:=t0';have t1:=t1';clear t0' t1';have g0:=ae hb8 f0;have g1:=ae hb8 f1;have g2:=ae hb8 f2;have g3:=ae hb8 f3;have g4:=ae hb8 f4;have g5:=ae hb8 f5;have g6:=ae hb8 f6;clear f0 f1 f2 f3 f4 f5 f6;have f0:=g0;have f1:=g1;have f2:=g2;have f3:=g3;have f4:=g4;have f5:=g5;have f6:=g6;clear g0 g1 g2 g3 g4 g5 g6;clear hb8)
    |(go_at_call 40;refine(Hhas.o w8 _ _ (HV.o.below Hb8.o) (HT.o.below Hb8.o)).mono ?_;rintro e w9 ⟨rfl,hb9⟩;have Hb9:=zH (Hb8.o.step hb9);clear hb9))
   go_ret;rw[Hr2.o];exact⟨rfl,Hb9.o⟩
theorem gJ(T:Ty)(V:VV)(w:World)(v t:Value)(hv:VW w v V)(ht:TS w t T)(hs:SzT T):Calls Tryz.prog 8 #[v,t] w (ER (mof T V T.root) w):=by
 have HV:=zH hv;have HT:=zH ht;obtain⟨d,v1,b1,v2,b2,v3,b3,v4,b4,rfl,-,-,-,-,-⟩:=hv.ex;obtain⟨pt,ct,rfl,-⟩:=ht;clear hv;go_enter Tryz.func8,Tryz.ntmps8;go_upto_region 1 with fail
 obtain⟨w2,e9,hA,hB,hb⟩:=bE w (GY #[GX GZ V.kind,GX GZ V.num,GW V.text,GU v1 V.kids.length b1,GU v2 V.keys.length b2,GU v3 V.ents.length b3,GU v4 V.labels.length b4] 33) (GY #[GU pt T.nodes.length ct,GX GZ T.root] 27);rw[e9];obtain⟨⟨f0,f1,f2,f3⟩,f4,f5,f6⟩:=aN hA;obtain⟨t0,t1⟩:=aM hB;have Hb:=zH hb;clear e9 hA hB;have Hc:=zH (mE T V T.root w2 _ _ (HV.o.below hb) (HT.o.below hb) hs);clear hb;go_wp2_with(go_at_call 19;refine Hc.o.mono ?_;rintro e w6 ⟨rfl,hb6⟩;have Hb6:=zH (Hb.o.step hb6);clear hb6);go_ret;exact⟨rfl,Hb6.o⟩
def TB(S:SD)(T:Ty)(tv:Value)(w:World):Prop:=TS (wo S.b w) tv T
theorem TB.sr {S:SD}{T:Ty}{tv:Value}{w w':World}(h:TB S T tv w)(k:SR S w w'):TB S T tv w':=h.below k.bel
theorem TB.ts {S:SD}{T:Ty}{tv:Value}{w:World}(h:TB S T tv w):TS w tv T:=h.sub (zM _ _)
def NB(T:Ty)(tv:Value)(N Lb:Nat)(S:SD)(k h:Int):Prop:=∀w,SRC S w->TB S T tv w->Calls Tryz.prog 33 #[.pointer (G5 ⟨S.b,0,G0⟩),tv,GX GZ k,GX GZ h] w (GV (fun V=>V.nodes<=N/\V.labels.length<=Lb) S w)
def NV(T:Ty)(tv:Value)(N:Nat)(S:SD)(k h:Int):Prop:=∀w,SRC S w->TB S T tv w->Calls Tryz.prog 15 #[.pointer (G5 ⟨S.b,0,G0⟩),tv,GX GZ k,GX GZ h] w (GV (fun V=>V.valid=G6/\V.nodes<=N) S w)
theorem lO(T:Ty)(tv:Value)(N Lb:Nat)(S:SD)(k h:Int)(hN:1<=N)(hn:NB T tv N Lb S k h):NV T tv N S k h:=by
 intro w hS hT;have HT:=zH hT;have HB:=zH hn;obtain⟨pT,cT,rfl,-,-⟩:=id hT;have hltS:=hS.lt;obtain⟨w2,e9,hA,hC,hb⟩:=bE w (GY #[GU pT T.nodes.length cT,GX GZ T.root] 27) (GY #[GX GZ 0,GX GZ 0,GW ⟨#[]⟩,GU G0 0 0,GU G0 0 0,GU G0 0 0,GU G0 0 0] 33);have hs2:w2.heap.size=w.heap.size+2:=by rw[<-e9];simp
 have H2:=zH ((SR.refl hS).app hb);have HA:=zH hA;have HC:=zH hC;have hlA:=ai hA;have hlC:=ai hC;have Hb:=zH (show w.heap.size+1≠S.b by omega);have HEx:=zH (show lo (w.heap.size+2) (w.heap.size+1)=G6 by simp[lo]);have HEl:=zH (show∀k,k<w.heap.size->lo (w.heap.size+2) k=G6 from fun k hk=>by simp[lo];omega);have HT2:=zH (hT.sr H2.o);obtain⟨g0,g1⟩:=aM hA;have Hs2:=zH hs2;clear hA hC hb hS hT hn hs2;go_enter Tryz.func15,Tryz.ntmps15;go_upto_region 1 with fail
 try rw[e9]
 clear e9;go_upto_region 2 with(go_at_call 33;refine(HB.o w2 H2.o.src HT2.o).mono ?_;rintro e w3 ⟨v3,X,rfl,hx,hq,hs⟩;obtain⟨d,cs,rfl,hx⟩:=hx;obtain⟨x1,x2,x3,x4,x5,x6,x7,x8,rfl⟩:=hx.seven;have HX:=zH (show VS (we (lo (w.heap.size+2)) w3) d X _ by rw[Hs2.o]at hx;exact hx);have Hq:=zH hq.1;have H3:=zH (H2.o.trans hs);have C3:=zH ((hs.block hlC Hb.o).trans HC.o);have Hl3:=zH (show w.heap.size+2<=w3.heap.size by rw[<-Hs2.o];exact hs.size);clear hx hq hs)
 have hV4:=heap_alloc_new w3 (GY #[GX GZ X.kind,GX GZ X.num,GW X.text,GU x1 X.kids.length x2,GU x3 X.keys.length x4,GU x5 X.ents.length x6,GU x7 X.labels.length x8] 33);have hb4:Below w3.heap.size w3 (w3.alloc (GY #[GX GZ X.kind,GX GZ X.num,GW X.text,GU x1 X.kids.length x2,GU x3 X.keys.length x4,GU x5 X.ents.length x6,GU x7 X.labels.length x8] 33)):=(Below.refl _ _).alloc (G8 _) _;generalize w3.alloc (GY #[GX GZ X.kind,GX GZ X.num,GW X.text,GU x1 X.kids.length x2,GU x3 X.keys.length x4,GU x5 X.ents.length x6,GU x7 X.labels.length x8] 33)=w4 at*
 have HX4:=zH (HX.o.below (by rw[ap];exact aS hb4));have H4:=zH (H3.o.step hb4);have C4:=zH ((hb4.block _ (ai C3.o)).trans C3.o);have HV4:=zH hV4;obtain⟨⟨f0,f1,f2,f3⟩,f4,f5,f6⟩:=aN hV4;have hl4:=ai hV4;clear hb4 hV4;have Hval:=zH (kT X w4 _ (show VW w4 (.agg #[GX GZ X.kind,GX GZ X.num,GW X.text,GU x1 X.kids.length x2,GU x3 X.keys.length x4,GU x5 X.ents.length x6,GU x7 X.labels.length x8]) X from⟨d,_,rfl,HX4.o.sub (db _ _)⟩));cases hv:X.valid with
 | true =>
   rw[hv]at Hval;go_upto_region 4 with(go_at_call 34;refine Hval.o.mono ?_;rintro e w5 ⟨rfl,hb5⟩;have Hb5:=zH hb5;have H5:=zH (H4.o.step hb5);have C5:=zH ((hb5.block _ (ai C4.o)).trans C4.o);have hV5:=(hb5.block _ hl4).trans HV4.o;clear f0 f1 f2 f3 f4 f5 f6;obtain⟨⟨f0,f1,f2,f3⟩,f4,f5,f6⟩:=aN hV5;clear hV5 hb5)
   go_wp2_with(with_reducible refine sR rfl 33 (.tmp 8) (.tmp 20) rfl rfl rfl C5.o ?_);refine rB rfl (w.heap.size+1) 33 rfl (sH C5.o) rfl rfl rfl ?_;exact⟨_,X,rfl,bZ (show VW (we (lo (w.heap.size+2)) w5) _ X from⟨d,_,rfl,HX4.o.below (by rw[ap];exact aS Hb5.o)⟩) HEx.o HEl.o _,⟨hv,Hq.o⟩,H5.o.row (by omega) Hb.o _⟩
 | false =>
   rw[hv]at Hval;go_wp2_with(first
    |(go_at_call 34;refine Hval.o.mono ?_;rintro e w5 ⟨rfl,hb5⟩;have H5:=zH (H4.o.step hb5);have C5:=zH ((hb5.block _ (ai C4.o)).trans C4.o);clear hb5)
    |(go_at_call 35;refine(dH S w5 H5.o.src).mono ?_;rintro e w6 ⟨v6,Y,rfl,hx,hq,hs⟩;obtain⟨dv,cs,rfl,hx⟩:=hx;obtain⟨y1,y2,y3,y4,y5,y6,y7,y8,rfl⟩:=hx.seven;have HY:=zH (hx.sub (bL w6 (show w.heap.size+2<=w5.heap.size from ai C5.o)));have Hqy:=zH hq;have H6:=zH (H5.o.trans hs);have C6:=zH ((hs.block (ai C5.o) Hb.o).trans C5.o);clear hx hq hs)
    |(with_reducible refine sR rfl 33 (.tmp 8) (.tmp 19) rfl rfl rfl C6.o ?_))
   refine rB rfl (w.heap.size+1) 33 rfl (sH C6.o) rfl rfl rfl ?_;exact⟨_,Y,rfl,bZ (show VW (we (lo (w.heap.size+2)) w6) _ Y from⟨dv,_,rfl,HY.o⟩) HEx.o HEl.o _,⟨Hqy.o.1,Nat.le_trans Hqy.o.2.1 hN⟩,H6.o.row (by omega) Hb.o _⟩
end Go.Proofs.YtfpahmeploondaaGreatDoor
