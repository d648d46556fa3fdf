/- Walks and plain facts for the law on type variables, for all values and types that the heap holds (texts A8 A9). -/
import Derived.Test.YtfpahmeploondaaGreatDoorR03
import Derived.Test.YtfpahmeploondaaGreatDoorR30
set_option linter.unusedVariables false
set_option linter.unusedSimpArgs false
set_option maxHeartbeats 64000000
open Option renaming none -> G0, some -> G5
open Bool renaming true -> G6
open Go.Value renaming slice -> GU, string -> GW, int -> GX
open Go.Obj renaming cells -> GY
open Go.IntKind renaming i64 -> GZ
open Nat renaming add_zero -> Im
open Go.LexK renaming an -> JP, aq -> JQ
namespace Go.Proofs.YtfpahmeploondaaGreatDoor
open Go.RowKit Go.Ident
set_option maxRecDepth 100000
theorem jr(T:Ty)(tv:Value)(S:SD)(kn:Nat)(h:Int)(n:TN)(h1:1<=h)(hh:h<=1000)(hkn:kn<T.nodes.length)(hnode:T.nodes[kn]=n)(hkd:n.kind=4\/n.kind=5\/n.kind=6\/n.kind=7\/n.kind=8\/n.kind=9)(w:World)(hS:SRC S w)(hT:TB S T tv w):Calls Tryz.prog 33 #[.pointer (G5 ⟨S.b,0,G0⟩),tv,GX GZ (kn:Int),GX GZ h] w (GV (fun V=>V.nodes<=1/\V.labels=[]) S w):=by
 have hltS:=hS.lt;obtain⟨pT,cT,rfl,hR,-⟩:=id hT;obtain⟨a,o,cs,rfl,hal,-,hrange,hNC⟩:=hR.all hkn;rw[hnode]at hNC;obtain⟨kd,lo_,hi_,tx,ks,fs,r0,r1⟩:=n;obtain⟨p1,c1,p2,c2,rfl,hI,hF⟩:=hNC;simp only at hI hF hrange;simp only at hkd;have Hkd:=zH hkd;clear hkd;obtain⟨w2,e9,hA,hC,hb⟩:=bE w (GY #[GU (G5 ⟨a,o,G0⟩) T.nodes.length cT,GX GZ T.root] 27) (GY #[GX GZ 0,GX GZ 0,GW ⟨#[]⟩,GU G0 0 0,GU G0 0 0,GU G0 0 0,GU G0 0 0] 33);have hs2:w2.heap.size=w.heap.size+2:=by rw[<-e9];simp
 obtain⟨w4,e8,hB4,hV4,hb4⟩:=bE w2 (GY #[GX GZ kd,GX GZ lo_,GX GZ hi_,GW tx,GU p1 ks.length c1,GU p2 fs.length c2,GX GZ r0,GX GZ r1] 61) (GY #[GX GZ 0,GX GZ 0,GW ⟨#[]⟩,GU G0 0 0,GU G0 0 0,GU G0 0 0,GU G0 0 0] 33);have hs4:w4.heap.size=w2.heap.size+2:=by rw[<-e8];simp
 have E8:=zH e8;clear e8;have H2:=zH ((SR.refl hS).app hb);have H4:=zH (H2.o.step hb4);have hrg:=hrange _ H2.o.bel;have a0:=aF (hrg 0 _ rfl);have a1:=aF (hrg 1 _ rfl);have a2:=aF (hrg 2 _ rfl);have a3:=aF (hrg 3 _ rfl);have a4:=aF (hrg 4 _ rfl);have a5:=aF (hrg 5 _ rfl);have a6:=aF (hrg 6 _ rfl);have a7:=aF (hrg 7 _ rfl);simp only[Im]at a0;have HT:=zH (hT.sr H4.o);have HT0:=zH hT;have HI0:=zH hI;have HI:=zH (show IS (wo S.b w4) (GU p1 ks.length c1) ks from hI.below H4.o.bel);have HF:=zH (show Rw (wo S.b w4) p2 c2 4 fs FC from hF.below H4.o.bel fun _ _ _ h=>h);have hNC:NC (wo S.b w4) ⟨kd,lo_,hi_,tx,ks,fs,r0,r1⟩ [GX GZ kd,GX GZ lo_,GX GZ hi_,GW tx,GU p1 ks.length c1,GU p2 fs.length c2,GX GZ r0,GX GZ r1]:=⟨p1,c1,p2,c2,rfl,HI.o,HF.o⟩
 have HNC:=zH hNC;rw[hs2]at hB4 hV4;have HB4:=zH hB4;have HV4:=zH hV4;have HA4:=zH ((hb4.block w.heap.size (by omega)).trans hA);have HO4:=zH ((hb4.block (w.heap.size+1) (by omega)).trans hC);obtain⟨g0,g1⟩:=aM hA;have Hs4:=zH (show w4.heap.size=(w.heap.size+4)by omega);have Hb:=zH (show(w.heap.size+1)≠S.b by omega);have HEx:=zH (show lo (w.heap.size+4) (w.heap.size+1)=G6 by simp[lo]);have HEl:=zH (show∀k,k<w.heap.size->lo (w.heap.size+4) k=G6 from fun k hk=>by simp[lo];omega);have dk:decide (T.nodes.length<=kn)=false:=by simp;omega
 have dk2:decide (kn<T.nodes.length)=true:=by simp[hkn]
 have dk3:decide ((kn:Int)<0)=false:=by simp
 have dh:decide (h<=0)=false:=by simp;omega
 clear hB4 hV4 hA hC hb hb4 hR hrange hrg hI hF hNC hS hT hnode;go_enter Tryz.func33,Tryz.ntmps33;go_upto_region 1 with fail
 try rw[e9]
 go_upto_region 5 with fail
 (try have e8:=E8.o)
 try rw[hs2]
 try rw[e8]
 try rw[hs2]
 clear e9 e8 E8 g0 g1 a0 a1 a2 a3 a4 a5 a6 a7 dk dk3 dh hs2 hs4;obtain⟨⟨n0,n1,n2,n3⟩,n4,n5,n6,n7⟩:=aY HB4.o;rcases Hkd.o with rfl|rfl|rfl|rfl|rfl|rfl
 ·go_wp2_with(first
   |(go_at_call 58;refine(iy tx w4).mono ?_;rintro e w5 ⟨rfl,hb⟩;have H5:=zH (H4.o.step hb);have Z5:=zH ((hb.block _ (ai HO4.o)).trans HO4.o);clear hb)
   |(with_reducible refine sR rfl 33 (.tmp 8) (.tmp 62) rfl rfl rfl Z5.o ?_))
  refine rB rfl (w.heap.size+1) 33 rfl (sH Z5.o) rfl rfl rfl ?_;exact⟨_,_,rfl,vw0 _ _ _ _,⟨(by show VV.nodes _<=_;simp[VV.nodes,nodesVs,nodesEs]),rfl⟩,H5.o.row (by omega) Hb.o _⟩
 ·go_wp2_with(first
   |(go_at_call 53;refine(kH S w4 H4.o.src).mono ?_;rintro e w5 ⟨s,rfl,hs,hp⟩;have H5:=zH (H4.o.trans hs);have Z5:=zH ((hs.block (ai HO4.o) Hb.o).trans HO4.o);clear hs)
   |(go_at_call 58;refine(iy s w5).mono ?_;rintro e w6 ⟨rfl,hb⟩;have H6:=zH (H5.o.step hb);have Z6:=zH ((hb.block _ (ai Z5.o)).trans Z5.o);clear hb)
   |(with_reducible refine sR rfl 33 (.tmp 8) (.tmp 67) rfl rfl rfl Z6.o ?_))
  refine rB rfl (w.heap.size+1) 33 rfl (sH Z6.o) rfl rfl rfl ?_;exact⟨_,_,rfl,vw0 _ _ _ _,⟨(by show VV.nodes _<=_;simp[VV.nodes,nodesVs,nodesEs]),rfl⟩,H6.o.row (by omega) Hb.o _⟩
 ·go_wp2_with(first
   |(go_at_call 59;refine(jZ tx w4).mono ?_;rintro e w5 ⟨rfl,hb⟩;have H5:=zH (H4.o.step hb);have Z5:=zH ((hb.block _ (ai HO4.o)).trans HO4.o);clear hb)
   |(with_reducible refine sR rfl 33 (.tmp 8) (.tmp 72) rfl rfl rfl Z5.o ?_))
  refine rB rfl (w.heap.size+1) 33 rfl (sH Z5.o) rfl rfl rfl ?_;exact⟨_,_,rfl,vw0 _ _ _ _,⟨(by show VV.nodes _<=_;simp[VV.nodes,nodesVs,nodesEs]),rfl⟩,H5.o.row (by omega) Hb.o _⟩
 ·go_wp2_with(first
   |(go_at_call 52;refine(fG S w4 H4.o.src).mono ?_;rintro e w5 ⟨s,rfl,hs,hp⟩;have H5:=zH (H4.o.trans hs);have Z5:=zH ((hs.block (ai HO4.o) Hb.o).trans HO4.o);clear hs)
   |(go_at_call 59;refine(jZ s w5).mono ?_;rintro e w6 ⟨rfl,hb⟩;have H6:=zH (H5.o.step hb);have Z6:=zH ((hb.block _ (ai Z5.o)).trans Z5.o);clear hb)
   |(with_reducible refine sR rfl 33 (.tmp 8) (.tmp 77) rfl rfl rfl Z6.o ?_))
  refine rB rfl (w.heap.size+1) 33 rfl (sH Z6.o) rfl rfl rfl ?_;exact⟨_,_,rfl,vw0 _ _ _ _,⟨(by show VV.nodes _<=_;simp[VV.nodes,nodesVs,nodesEs]),rfl⟩,H6.o.row (by omega) Hb.o _⟩
 ·go_wp2_with(first
   |(go_at_call 14;refine(aU S 2 w4 H4.o.src (by omega)).mono ?_;rintro e w5 ⟨y,rfl,hs,h0,h1,-⟩;have H5:=zH (H4.o.trans hs);have Z5:=zH ((hs.block (ai HO4.o) Hb.o).trans HO4.o);clear hs)
   |(go_at_call 60;refine(pJ y w5).mono ?_;rintro e w6 ⟨rfl,hb⟩;have H6:=zH (H5.o.step hb);have Z6:=zH ((hb.block _ (ai Z5.o)).trans Z5.o);clear hb)
   |(with_reducible refine sR rfl 33 (.tmp 8) (.tmp 82) rfl rfl rfl Z6.o ?_))
  refine rB rfl (w.heap.size+1) 33 rfl (sH Z6.o) rfl rfl rfl ?_;exact⟨_,_,rfl,vw0 _ _ _ _,⟨(by show VV.nodes _<=_;simp[VV.nodes,nodesVs,nodesEs]),rfl⟩,H6.o.row (by omega) Hb.o _⟩
 ·go_wp2_with(first
   |(go_at_call 61;refine(dP w4).mono ?_;rintro e w5 ⟨rfl,hb⟩;have H5:=zH (H4.o.step hb);have Z5:=zH ((hb.block _ (ai HO4.o)).trans HO4.o);clear hb)
   |(with_reducible refine sR rfl 33 (.tmp 8) (.tmp 85) rfl rfl rfl Z5.o ?_))
  refine rB rfl (w.heap.size+1) 33 rfl (sH Z5.o) rfl rfl rfl ?_;exact⟨_,_,rfl,vw0 _ _ _ _,⟨(by show VV.nodes _<=_;simp[VV.nodes,nodesVs,nodesEs]),rfl⟩,H5.o.row (by omega) Hb.o _⟩
theorem vt(S:SD)(w:World)(hS:SRC S w):Calls Tryz.prog 65 #[.pointer (G5 ⟨S.b,0,G0⟩),GX GZ 2] w (GV (fun V=>V.nodes<=100/\V.labels.length<=1000) S w):=
 mw S 2 (10*10^1) (nT S 2 (10^1) (by decide) (by decide) (fun _=>yo S 1 1 (by decide) (by decide)) (fun g=>absurd g (by decide))) w hS
def EU(k:Int):Bool:=decide (k=3)||decide (k=4)||decide (k=5)||decide (k=6)||decide (k=7)||decide (k=8)||decide (k=9)||decide (k=10)||decide (k=12)||decide (k=13)||decide (k=14)||decide (k=16)||decide (k=17)||decide (k=19)
theorem C2(T:Ty)(tv:Value)(S:SD)(kn:Nat)(h:Int)(n:TN)(h1:1<=h)(hh:h<=1000)(hkn:kn<T.nodes.length)(hnode:T.nodes[kn]=n)(hkd: ¬EU n.kind=G6)(w:World)(hS:SRC S w)(hT:TB S T tv w):Calls Tryz.prog 33 #[.pointer (G5 ⟨S.b,0,G0⟩),tv,GX GZ (kn:Int),GX GZ h] w (GV (fun V=>V.nodes<=100/\V.labels.length<=1000) S w):=by
 have hltS:=hS.lt;obtain⟨pT,cT,rfl,hR,-⟩:=id hT;obtain⟨a,o,cs,rfl,hal,-,hrange,hNC⟩:=hR.all hkn;rw[hnode]at hNC;obtain⟨kd,lo_,hi_,tx,ks,fs,r0,r1⟩:=n;obtain⟨p1,c1,p2,c2,rfl,hI,hF⟩:=hNC;simp only at hI hF hrange;simp only at hkd;have d3:(kd==3)=false:=by rw[beq_eq_false_iff_ne];intro e;exact hkd (by rw[e];decide)
 have d4:(kd==4)=false:=by rw[beq_eq_false_iff_ne];intro e;exact hkd (by rw[e];decide)
 have d5:(kd==5)=false:=by rw[beq_eq_false_iff_ne];intro e;exact hkd (by rw[e];decide)
 have d6:(kd==6)=false:=by rw[beq_eq_false_iff_ne];intro e;exact hkd (by rw[e];decide)
 have d7:(kd==7)=false:=by rw[beq_eq_false_iff_ne];intro e;exact hkd (by rw[e];decide)
 have d8:(kd==8)=false:=by rw[beq_eq_false_iff_ne];intro e;exact hkd (by rw[e];decide)
 have d9:(kd==9)=false:=by rw[beq_eq_false_iff_ne];intro e;exact hkd (by rw[e];decide)
 have d10:(kd==10)=false:=by rw[beq_eq_false_iff_ne];intro e;exact hkd (by rw[e];decide)
 have d12:(kd==12)=false:=by rw[beq_eq_false_iff_ne];intro e;exact hkd (by rw[e];decide)
 have d13:(kd==13)=false:=by rw[beq_eq_false_iff_ne];intro e;exact hkd (by rw[e];decide)
 have d14:(kd==14)=false:=by rw[beq_eq_false_iff_ne];intro e;exact hkd (by rw[e];decide)
 have d16:(kd==16)=false:=by rw[beq_eq_false_iff_ne];intro e;exact hkd (by rw[e];decide)
 have d17:(kd==17)=false:=by rw[beq_eq_false_iff_ne];intro e;exact hkd (by rw[e];decide)
 have d19:(kd==19)=false:=by rw[beq_eq_false_iff_ne];intro e;exact hkd (by rw[e];decide)
 obtain⟨w2,e9,hA,hC,hb⟩:=bE w (GY #[GU (G5 ⟨a,o,G0⟩) T.nodes.length cT,GX GZ T.root] 27) (GY #[GX GZ 0,GX GZ 0,GW ⟨#[]⟩,GU G0 0 0,GU G0 0 0,GU G0 0 0,GU G0 0 0] 33);have hs2:w2.heap.size=w.heap.size+2:=by rw[<-e9];simp
 obtain⟨w4,e8,hB4,hV4,hb4⟩:=bE w2 (GY #[GX GZ kd,GX GZ lo_,GX GZ hi_,GW tx,GU p1 ks.length c1,GU p2 fs.length c2,GX GZ r0,GX GZ r1] 61) (GY #[GX GZ 0,GX GZ 0,GW ⟨#[]⟩,GU G0 0 0,GU G0 0 0,GU G0 0 0,GU G0 0 0] 33);have hs4:w4.heap.size=w2.heap.size+2:=by rw[<-e8];simp
 have E8:=zH e8;clear e8;have H2:=zH ((SR.refl hS).app hb);have H4:=zH (H2.o.step hb4);have hrg:=hrange _ H2.o.bel;have a0:=aF (hrg 0 _ rfl);have a1:=aF (hrg 1 _ rfl);have a2:=aF (hrg 2 _ rfl);have a3:=aF (hrg 3 _ rfl);have a4:=aF (hrg 4 _ rfl);have a5:=aF (hrg 5 _ rfl);have a6:=aF (hrg 6 _ rfl);have a7:=aF (hrg 7 _ rfl);simp only[Im]at a0;have HT:=zH (hT.sr H4.o);have HT0:=zH hT;have HI0:=zH hI;have HI:=zH (show IS (wo S.b w4) (GU p1 ks.length c1) ks from hI.below H4.o.bel);have HF:=zH (show Rw (wo S.b w4) p2 c2 4 fs FC from hF.below H4.o.bel fun _ _ _ h=>h);have hNC:NC (wo S.b w4) ⟨kd,lo_,hi_,tx,ks,fs,r0,r1⟩ [GX GZ kd,GX GZ lo_,GX GZ hi_,GW tx,GU p1 ks.length c1,GU p2 fs.length c2,GX GZ r0,GX GZ r1]:=⟨p1,c1,p2,c2,rfl,HI.o,HF.o⟩
 have HNC:=zH hNC;rw[hs2]at hB4 hV4;have HB4:=zH hB4;have HV4:=zH hV4;have HA4:=zH ((hb4.block w.heap.size (by omega)).trans hA);have HO4:=zH ((hb4.block (w.heap.size+1) (by omega)).trans hC);obtain⟨g0,g1⟩:=aM hA;have Hs4:=zH (show w4.heap.size=(w.heap.size+4)by omega);have Hb:=zH (show(w.heap.size+1)≠S.b by omega);have HEx:=zH (show lo (w.heap.size+4) (w.heap.size+1)=G6 by simp[lo]);have HEl:=zH (show∀k,k<w.heap.size->lo (w.heap.size+4) k=G6 from fun k hk=>by simp[lo];omega);have dk:decide (T.nodes.length<=kn)=false:=by simp;omega
 have dk2:decide (kn<T.nodes.length)=true:=by simp[hkn]
 have dk3:decide ((kn:Int)<0)=false:=by simp
 have dh:decide (h<=0)=false:=by simp;omega
 clear hB4 hV4 hA hC hb hb4 hR hrange hrg hI hF hNC hS hT hnode;go_enter Tryz.func33,Tryz.ntmps33;go_upto_region 1 with fail
 try rw[e9]
 go_upto_region 5 with fail
 (try have e8:=E8.o)
 try rw[hs2]
 try rw[e8]
 try rw[hs2]
 clear e9 e8 E8 g0 g1 a0 a1 a2 a3 a4 a5 a6 a7 dk dk3 dh hs2 hs4;obtain⟨⟨n0,n1,n2,n3⟩,n4,n5,n6,n7⟩:=aY HB4.o;go_wp2_with(first
  |(go_at_call 65;refine(vt S w4 H4.o.src).mono ?_;rintro e w5 ⟨v5,X,rfl,hx,hq,hs⟩;obtain⟨dv,cs,rfl,hx⟩:=hx;obtain⟨x1,x2,x3,x4,x5,x6,x7,x8,rfl⟩:=hx.seven;have HX:=zH (show VW (we (lo (w.heap.size+4)) w5) _ X from(by rw[Hs4.o]at hx;exact⟨dv,_,rfl,hx⟩));have Hq:=zH hq;have H5:=zH (H4.o.trans hs);have Z5:=zH ((hs.block (ai HO4.o) Hb.o).trans HO4.o);clear hx hq hs)
  |(with_reducible refine sR rfl 33 (.tmp 8) (.tmp 216) rfl rfl rfl Z5.o ?_))
 refine rB rfl (w.heap.size+1) 33 rfl (sH Z5.o) rfl rfl rfl ?_;exact⟨_,X,rfl,bZ HX.o HEx.o HEl.o _,Hq.o,H5.o.row (by omega) Hb.o _⟩
theorem js(T:Ty)(tv:Value)(S:SD)(k h:Int)(hc:h<=0\/k<0\/(T.nodes.length:Int)<=k)(w:World)(hS:SRC S w)(hT:TB S T tv w):Calls Tryz.prog 33 #[.pointer (G5 ⟨S.b,0,G0⟩),tv,GX GZ k,GX GZ h] w (GV (fun V=>V.nodes<=1/\V.labels=[]) S w):=by
 have hltS:=hS.lt;obtain⟨pT,cT,rfl,-,-⟩:=id hT;obtain⟨w2,e9,hA,hC,hb⟩:=bE w (GY #[GU pT T.nodes.length cT,GX GZ T.root] 27) (GY #[GX GZ 0,GX GZ 0,GW ⟨#[]⟩,GU G0 0 0,GU G0 0 0,GU G0 0 0,GU G0 0 0] 33);have hs2:w2.heap.size=w.heap.size+2:=by rw[<-e9];simp
 have H2:=zH ((SR.refl hS).app hb);have HC:=zH hC;have Hb:=zH (show(w.heap.size+1)≠S.b by omega);have HEx:=zH (show lo (w.heap.size+2) (w.heap.size+1)=G6 by simp[lo]);have HEl:=zH (show∀k,k<w.heap.size->lo (w.heap.size+2) k=G6 from fun k hk=>by simp[lo];omega);have Hs2:=zH hs2;obtain⟨g0,g1⟩:=aM hA;clear hA hC hb hS hT hs2;go_enter Tryz.func33,Tryz.ntmps33;go_upto_region 1 with fail
 try rw[e9]
 clear e9;have key:∀(P:Prop),(h<=0->P)->(¬h<=0->k<0->P)->(¬h<=0->¬k<0->(T.nodes.length:Int)<=k->P)->P:=fun P p1 p2 p3=>by
  by_cases c1:h<=0
  ·exact p1 c1
  ·by_cases c2:k<0
   ·exact p2 c1 c2
   ·exact p3 c1 c2 (by omega)
 refine key _ (fun c1=>?_) (fun c1 c2=>?_) (fun c1 c2 c3=>?_)
 ·have d1:decide (h<=0)=true:=by simp[c1]
  go_wp2_with(first
   |(go_at_call 35;refine(dH S w2 H2.o.src).mono ?_;rintro e w5 ⟨v5,X,rfl,hx,hq,hs⟩;obtain⟨dv,cs,rfl,hx⟩:=hx;obtain⟨x1,x2,x3,x4,x5,x6,x7,x8,rfl⟩:=hx.seven;have HX:=zH (show VW (we (lo (w.heap.size+2)) w5) _ X from(by rw[Hs2.o]at hx;exact⟨dv,_,rfl,hx⟩));have Hq:=zH hq.2;have H5:=zH (H2.o.trans hs);have Z5:=zH ((hs.block (ai HC.o) Hb.o).trans HC.o);clear hx hq hs)
   |(with_reducible refine sR rfl 33 (.tmp 8) (.tmp 27) rfl rfl rfl Z5.o ?_))
  refine rB rfl (w.heap.size+1) 33 rfl (sH Z5.o) rfl rfl rfl ?_;exact⟨_,X,rfl,bZ HX.o HEx.o HEl.o _,Hq.o,H5.o.row (by omega) Hb.o _⟩
 ·have d1:decide (h<=0)=false:=by simp;omega
  have d2:decide (k<0)=true:=by simp[c2]
  go_wp2_with(first
   |(go_at_call 35;refine(dH S w2 H2.o.src).mono ?_;rintro e w5 ⟨v5,X,rfl,hx,hq,hs⟩;obtain⟨dv,cs,rfl,hx⟩:=hx;obtain⟨x1,x2,x3,x4,x5,x6,x7,x8,rfl⟩:=hx.seven;have HX:=zH (show VW (we (lo (w.heap.size+2)) w5) _ X from(by rw[Hs2.o]at hx;exact⟨dv,_,rfl,hx⟩));have Hq:=zH hq.2;have H5:=zH (H2.o.trans hs);have Z5:=zH ((hs.block (ai HC.o) Hb.o).trans HC.o);clear hx hq hs)
   |(with_reducible refine sR rfl 33 (.tmp 8) (.tmp 27) rfl rfl rfl Z5.o ?_))
  refine rB rfl (w.heap.size+1) 33 rfl (sH Z5.o) rfl rfl rfl ?_;exact⟨_,X,rfl,bZ HX.o HEx.o HEl.o _,Hq.o,H5.o.row (by omega) Hb.o _⟩
 ·have d1:decide (h<=0)=false:=by simp;omega
  have d2:decide (k<0)=false:=by simp;omega
  have d3:decide ((T.nodes.length:Int)<=k)=true:=by simp[c3]
  go_wp2_with(first
   |(go_at_call 35;refine(dH S w2 H2.o.src).mono ?_;rintro e w5 ⟨v5,X,rfl,hx,hq,hs⟩;obtain⟨dv,cs,rfl,hx⟩:=hx;obtain⟨x1,x2,x3,x4,x5,x6,x7,x8,rfl⟩:=hx.seven;have HX:=zH (show VW (we (lo (w.heap.size+2)) w5) _ X from(by rw[Hs2.o]at hx;exact⟨dv,_,rfl,hx⟩));have Hq:=zH hq.2;have H5:=zH (H2.o.trans hs);have Z5:=zH ((hs.block (ai HC.o) Hb.o).trans HC.o);clear hx hq hs)
   |(with_reducible refine sR rfl 33 (.tmp 8) (.tmp 27) rfl rfl rfl Z5.o ?_))
  refine rB rfl (w.heap.size+1) 33 rfl (sH Z5.o) rfl rfl rfl ?_;exact⟨_,X,rfl,bZ HX.o HEx.o HEl.o _,Hq.o,H5.o.row (by omega) Hb.o _⟩
theorem Aq(T:Ty)(tv:Value)(S:SD)(kn:Nat)(h:Int)(n:TN)(h1:1<=h)(hh:h<=1000)(hkn:kn<T.nodes.length)(hnode:T.nodes[kn]=n)(hkd:n.kind=13)(N:Nat)(hN:1<=N)(hfl:n.fields.length<=3)(hv:∀k,NV T tv N S k (h-1))(w:World)(hS:SRC S w)(hT:TB S T tv w):Calls Tryz.prog 33 #[.pointer (G5 ⟨S.b,0,G0⟩),tv,GX GZ (kn:Int),GX GZ h] w (GV (fun V=>V.nodes<=1+4*N/\V.labels=[]) S w):=by
 have hltS:=hS.lt;obtain⟨pT,cT,rfl,hR,-⟩:=id hT;obtain⟨a,o,cs,rfl,hal,-,hrange,hNC⟩:=hR.all hkn;rw[hnode]at hNC;obtain⟨kd,lo_,hi_,tx,ks,fs,r0,r1⟩:=n;obtain⟨p1,c1,p2,c2,rfl,hI,hF⟩:=hNC;simp only at hI hF hrange;obtain rfl:kd=13:=hkd;obtain⟨w2,e9,hA,hC,hb⟩:=bE w (GY #[GU (G5 ⟨a,o,G0⟩) T.nodes.length cT,GX GZ T.root] 27) (GY #[GX GZ 0,GX GZ 0,GW ⟨#[]⟩,GU G0 0 0,GU G0 0 0,GU G0 0 0,GU G0 0 0] 33);have hs2:w2.heap.size=w.heap.size+2:=by rw[<-e9];simp
 obtain⟨w4,e8,hB4,hV4,hb4⟩:=bE w2 (GY #[GX GZ 13,GX GZ lo_,GX GZ hi_,GW tx,GU p1 ks.length c1,GU p2 fs.length c2,GX GZ r0,GX GZ r1] 61) (GY #[GX GZ 0,GX GZ 0,GW ⟨#[]⟩,GU G0 0 0,GU G0 0 0,GU G0 0 0,GU G0 0 0] 33);have hs4:w4.heap.size=w2.heap.size+2:=by rw[<-e8];simp
 have E8:=zH e8;clear e8;have H2:=zH ((SR.refl hS).app hb);have H4:=zH (H2.o.step hb4);have hrg:=hrange _ H2.o.bel;have a0:=aF (hrg 0 _ rfl);have a1:=aF (hrg 1 _ rfl);have a2:=aF (hrg 2 _ rfl);have a3:=aF (hrg 3 _ rfl);have a4:=aF (hrg 4 _ rfl);have a5:=aF (hrg 5 _ rfl);have a6:=aF (hrg 6 _ rfl);have a7:=aF (hrg 7 _ rfl);simp only[Im]at a0;have HT:=zH (hT.sr H4.o);have HI:=zH (show IS (wo S.b w4) (GU p1 ks.length c1) ks from hI.below H4.o.bel);have HF:=zH (show Rw (wo S.b w4) p2 c2 4 fs FC from hF.below H4.o.bel fun _ _ _ h=>h);have hNC:NC (wo S.b w4) ⟨13,lo_,hi_,tx,ks,fs,r0,r1⟩ [GX GZ 13,GX GZ lo_,GX GZ hi_,GW tx,GU p1 ks.length c1,GU p2 fs.length c2,GX GZ r0,GX GZ r1]:=⟨p1,c1,p2,c2,rfl,HI.o,HF.o⟩
 have HNC:=zH hNC;rw[hs2]at hB4 hV4;have HB4:=zH hB4;have HV4:=zH hV4;have HA4:=zH ((hb4.block w.heap.size (by omega)).trans hA);have HO4:=zH ((hb4.block (w.heap.size+1) (by omega)).trans hC);obtain⟨g0,g1⟩:=aM hA;have Hs4:=zH (show w4.heap.size=(w.heap.size+4)by omega);have Hb:=zH (show(w.heap.size+1)≠S.b by omega);have HEx:=zH (show lo (w.heap.size+4) (w.heap.size+1)=G6 by simp[lo]);have HEl:=zH (show∀k,k<w.heap.size->lo (w.heap.size+4) k=G6 from fun k hk=>by simp[lo];omega);have dk:decide (T.nodes.length<=kn)=false:=by simp;omega
 have dk2:decide (kn<T.nodes.length)=true:=by simp[hkn]
 have dk3:decide ((kn:Int)<0)=false:=by simp
 have dh:decide (h<=0)=false:=by simp;omega
 clear hB4 hV4 hA hC hb hb4 hR hrange hrg hI hF hNC hS hT hnode;go_enter Tryz.func33,Tryz.ntmps33;go_upto_region 1 with fail
 try rw[e9]
 go_upto_region 5 with fail
 (try have e8:=E8.o)
 try rw[hs2]
 try rw[e8]
 try rw[hs2]
 clear e9 e8 E8 g0 g1 a0 a1 a2 a3 a4 a5 a6 a7 dk dk3 dh hs2 hs4;obtain⟨⟨n0,n1,n2,n3⟩,n4,n5,n6,n7⟩:=aY HB4.o;have Hv:=zH hv;clear hv;obtain⟨t0,t1⟩:=aM HA4.o;have hwo:(w.heap.size+4)<=w4.heap.size:=by have:=Hs4.o;omega
 go_wp2_with(first
  |(go_at_call 62;refine(rh T _ N S h _ _ hN h1 hh hfl Hv.o w4 H4.o.src HT.o HNC.o).mono ?_;rintro e w5 ⟨v5,X,rfl,hx,hq,hs⟩;obtain⟨dv,cs,rfl,hx⟩:=hx;obtain⟨x1,x2,x3,x4,x5,x6,x7,x8,rfl⟩:=hx.seven;have HX:=zH (show VW (we (lo (w.heap.size+4)) w5) _ X from⟨dv,_,rfl,hx.sub (bL w5 (show(w.heap.size+4)<=w4.heap.size from hwo))⟩);have Hq:=zH hq;have H5:=zH (H4.o.trans hs);have Z5:=zH ((hs.block (ai HO4.o) Hb.o).trans HO4.o);clear hx hq hs)
  |(with_reducible refine sR rfl 33 (.tmp 8) (.tmp 133) rfl rfl rfl Z5.o ?_))
 refine rB rfl (w.heap.size+1) 33 rfl (sH Z5.o) rfl rfl rfl ?_;exact⟨_,X,rfl,bZ HX.o HEx.o HEl.o _,Hq.o,H5.o.row (by omega) Hb.o _⟩
theorem Ar(T:Ty)(tv:Value)(S:SD)(kn:Nat)(h:Int)(n:TN)(h1:1<=h)(hh:h<=1000)(hkn:kn<T.nodes.length)(hnode:T.nodes[kn]=n)(hkd:n.kind=14)(N:Nat)(hN:1<=N)(q:Nat)(hkl:n.kids.length=q+1)(hq2:q<=2)(hv:∀k,NV T tv N S k (h-1))(w:World)(hS:SRC S w)(hT:TB S T tv w):Calls Tryz.prog 33 #[.pointer (G5 ⟨S.b,0,G0⟩),tv,GX GZ (kn:Int),GX GZ h] w (GV (fun V=>V.nodes<=1+6*N/\V.labels=[]) S w):=by
 have hltS:=hS.lt;obtain⟨pT,cT,rfl,hR,-⟩:=id hT;obtain⟨a,o,cs,rfl,hal,-,hrange,hNC⟩:=hR.all hkn;rw[hnode]at hNC;obtain⟨kd,lo_,hi_,tx,ks,fs,r0,r1⟩:=n;obtain⟨p1,c1,p2,c2,rfl,hI,hF⟩:=hNC;simp only at hI hF hrange;obtain rfl:kd=14:=hkd;simp only at hkl;have Hkl:=zH hkl;clear hkl;obtain⟨w2,e9,hA,hC,hb⟩:=bE w (GY #[GU (G5 ⟨a,o,G0⟩) T.nodes.length cT,GX GZ T.root] 27) (GY #[GX GZ 0,GX GZ 0,GW ⟨#[]⟩,GU G0 0 0,GU G0 0 0,GU G0 0 0,GU G0 0 0] 33);have hs2:w2.heap.size=w.heap.size+2:=by rw[<-e9];simp
 obtain⟨w4,e8,hB4,hV4,hb4⟩:=bE w2 (GY #[GX GZ 14,GX GZ lo_,GX GZ hi_,GW tx,GU p1 ks.length c1,GU p2 fs.length c2,GX GZ r0,GX GZ r1] 61) (GY #[GX GZ 0,GX GZ 0,GW ⟨#[]⟩,GU G0 0 0,GU G0 0 0,GU G0 0 0,GU G0 0 0] 33);have hs4:w4.heap.size=w2.heap.size+2:=by rw[<-e8];simp
 have E8:=zH e8;clear e8;have H2:=zH ((SR.refl hS).app hb);have H4:=zH (H2.o.step hb4);have hrg:=hrange _ H2.o.bel;have a0:=aF (hrg 0 _ rfl);have a1:=aF (hrg 1 _ rfl);have a2:=aF (hrg 2 _ rfl);have a3:=aF (hrg 3 _ rfl);have a4:=aF (hrg 4 _ rfl);have a5:=aF (hrg 5 _ rfl);have a6:=aF (hrg 6 _ rfl);have a7:=aF (hrg 7 _ rfl);simp only[Im]at a0;have HT:=zH (hT.sr H4.o);have HI:=zH (show IS (wo S.b w4) (GU p1 ks.length c1) ks from hI.below H4.o.bel);have HF:=zH (show Rw (wo S.b w4) p2 c2 4 fs FC from hF.below H4.o.bel fun _ _ _ h=>h);have hNC:NC (wo S.b w4) ⟨14,lo_,hi_,tx,ks,fs,r0,r1⟩ [GX GZ 14,GX GZ lo_,GX GZ hi_,GW tx,GU p1 ks.length c1,GU p2 fs.length c2,GX GZ r0,GX GZ r1]:=⟨p1,c1,p2,c2,rfl,HI.o,HF.o⟩
 have HNC:=zH hNC;rw[hs2]at hB4 hV4;have HB4:=zH hB4;have HV4:=zH hV4;have HA4:=zH ((hb4.block w.heap.size (by omega)).trans hA);have HO4:=zH ((hb4.block (w.heap.size+1) (by omega)).trans hC);obtain⟨g0,g1⟩:=aM hA;have Hs4:=zH (show w4.heap.size=(w.heap.size+4)by omega);have Hb:=zH (show(w.heap.size+1)≠S.b by omega);have HEx:=zH (show lo (w.heap.size+4) (w.heap.size+1)=G6 by simp[lo]);have HEl:=zH (show∀k,k<w.heap.size->lo (w.heap.size+4) k=G6 from fun k hk=>by simp[lo];omega);have dk:decide (T.nodes.length<=kn)=false:=by simp;omega
 have dk2:decide (kn<T.nodes.length)=true:=by simp[hkn]
 have dk3:decide ((kn:Int)<0)=false:=by simp
 have dh:decide (h<=0)=false:=by simp;omega
 clear hB4 hV4 hA hC hb hb4 hR hrange hrg hI hF hNC hS hT hnode;go_enter Tryz.func33,Tryz.ntmps33;go_upto_region 1 with fail
 try rw[e9]
 go_upto_region 5 with fail
 (try have e8:=E8.o)
 try rw[hs2]
 try rw[e8]
 try rw[hs2]
 clear e9 e8 E8 g0 g1 a0 a1 a2 a3 a4 a5 a6 a7 dk dk3 dh hs2 hs4;obtain⟨⟨n0,n1,n2,n3⟩,n4,n5,n6,n7⟩:=aY HB4.o;have Hv:=zH hv;clear hv;obtain⟨t0,t1⟩:=aM HA4.o;have hwo:(w.heap.size+4)<=w4.heap.size:=by have:=Hs4.o;omega
 go_wp2_with(first
  |(go_at_call 63;refine(ri T _ N S h _ _ q hN h1 hh Hkl.o hq2 Hv.o w4 H4.o.src HT.o HNC.o).mono ?_;rintro e w5 ⟨v5,X,rfl,hx,hq,hs⟩;obtain⟨dv,cs,rfl,hx⟩:=hx;obtain⟨x1,x2,x3,x4,x5,x6,x7,x8,rfl⟩:=hx.seven;have HX:=zH (show VW (we (lo (w.heap.size+4)) w5) _ X from⟨dv,_,rfl,hx.sub (bL w5 (show(w.heap.size+4)<=w4.heap.size from hwo))⟩);have Hq:=zH hq;have H5:=zH (H4.o.trans hs);have Z5:=zH ((hs.block (ai HO4.o) Hb.o).trans HO4.o);clear hx hq hs)
  |(with_reducible refine sR rfl 33 (.tmp 8) (.tmp 140) rfl rfl rfl Z5.o ?_))
 refine rB rfl (w.heap.size+1) 33 rfl (sH Z5.o) rfl rfl rfl ?_;exact⟨_,X,rfl,bZ HX.o HEx.o HEl.o _,Hq.o,H5.o.row (by omega) Hb.o _⟩
theorem As(T:Ty)(tv:Value)(S:SD)(kn:Nat)(h:Int)(n:TN)(h1:1<=h)(hh:h<=1000)(hkn:kn<T.nodes.length)(hnode:T.nodes[kn]=n)(hkd:n.kind=16)(N Lb:Nat)(hk1:1<=n.kids.length)(hkl:n.kids.length<=3)(hnear:∀k∈n.kids,NB T tv N Lb S k h)(w:World)(hS:SRC S w)(hT:TB S T tv w):Calls Tryz.prog 33 #[.pointer (G5 ⟨S.b,0,G0⟩),tv,GX GZ (kn:Int),GX GZ h] w (GV (fun V=>V.nodes<=N/\V.labels.length<=Lb) S w):=by
 have hltS:=hS.lt;obtain⟨pT,cT,rfl,hR,-⟩:=id hT;obtain⟨a,o,cs,rfl,hal,-,hrange,hNC⟩:=hR.all hkn;rw[hnode]at hNC;obtain⟨kd,lo_,hi_,tx,ks,fs,r0,r1⟩:=n;obtain⟨p1,c1,p2,c2,rfl,hI,hF⟩:=hNC;simp only at hI hF hrange;obtain rfl:kd=16:=hkd;simp only at hk1 hkl hnear;obtain⟨w2,e9,hA,hC,hb⟩:=bE w (GY #[GU (G5 ⟨a,o,G0⟩) T.nodes.length cT,GX GZ T.root] 27) (GY #[GX GZ 0,GX GZ 0,GW ⟨#[]⟩,GU G0 0 0,GU G0 0 0,GU G0 0 0,GU G0 0 0] 33);have hs2:w2.heap.size=w.heap.size+2:=by rw[<-e9];simp
 obtain⟨w4,e8,hB4,hV4,hb4⟩:=bE w2 (GY #[GX GZ 16,GX GZ lo_,GX GZ hi_,GW tx,GU p1 ks.length c1,GU p2 fs.length c2,GX GZ r0,GX GZ r1] 61) (GY #[GX GZ 0,GX GZ 0,GW ⟨#[]⟩,GU G0 0 0,GU G0 0 0,GU G0 0 0,GU G0 0 0] 33);have hs4:w4.heap.size=w2.heap.size+2:=by rw[<-e8];simp
 have E8:=zH e8;clear e8;have H2:=zH ((SR.refl hS).app hb);have H4:=zH (H2.o.step hb4);have hrg:=hrange _ H2.o.bel;have a0:=aF (hrg 0 _ rfl);have a1:=aF (hrg 1 _ rfl);have a2:=aF (hrg 2 _ rfl);have a3:=aF (hrg 3 _ rfl);have a4:=aF (hrg 4 _ rfl);have a5:=aF (hrg 5 _ rfl);have a6:=aF (hrg 6 _ rfl);have a7:=aF (hrg 7 _ rfl);simp only[Im]at a0;have HT:=zH (hT.sr H4.o);have HI:=zH (show IS (wo S.b w4) (GU p1 ks.length c1) ks from hI.below H4.o.bel);have HF:=zH (show Rw (wo S.b w4) p2 c2 4 fs FC from hF.below H4.o.bel fun _ _ _ h=>h);have hNC:NC (wo S.b w4) ⟨16,lo_,hi_,tx,ks,fs,r0,r1⟩ [GX GZ 16,GX GZ lo_,GX GZ hi_,GW tx,GU p1 ks.length c1,GU p2 fs.length c2,GX GZ r0,GX GZ r1]:=⟨p1,c1,p2,c2,rfl,HI.o,HF.o⟩
 have HNC:=zH hNC;rw[hs2]at hB4 hV4;have HB4:=zH hB4;have HV4:=zH hV4;have HA4:=zH ((hb4.block w.heap.size (by omega)).trans hA);have HO4:=zH ((hb4.block (w.heap.size+1) (by omega)).trans hC);obtain⟨g0,g1⟩:=aM hA;have Hs4:=zH (show w4.heap.size=(w.heap.size+4)by omega);have Hb:=zH (show(w.heap.size+1)≠S.b by omega);have HEx:=zH (show lo (w.heap.size+4) (w.heap.size+1)=G6 by simp[lo]);have HEl:=zH (show∀k,k<w.heap.size->lo (w.heap.size+4) k=G6 from fun k hk=>by simp[lo];omega);have dk:decide (T.nodes.length<=kn)=false:=by simp;omega
 have dk2:decide (kn<T.nodes.length)=true:=by simp[hkn]
 have dk3:decide ((kn:Int)<0)=false:=by simp
 have dh:decide (h<=0)=false:=by simp;omega
 clear hB4 hV4 hA hC hb hb4 hR hrange hrg hI hF hNC hS hT hnode;go_enter Tryz.func33,Tryz.ntmps33;go_upto_region 1 with fail
 try rw[e9]
 go_upto_region 5 with fail
 (try have e8:=E8.o)
 try rw[hs2]
 try rw[e8]
 try rw[hs2]
 clear e9 e8 E8 g0 g1 a0 a1 a2 a3 a4 a5 a6 a7 dk dk3 dh hs2 hs4;obtain⟨⟨n0,n1,n2,n3⟩,n4,n5,n6,n7⟩:=aY HB4.o;have Hv:=zH hnear;clear hnear;obtain⟨t0,t1⟩:=aM HA4.o;have hwo:(w.heap.size+4)<=w4.heap.size:=by have:=Hs4.o;omega
 have YT:=zH (show w4.drew.cell? ⟨w.heap.size,0,G0⟩=_ from t0);have YN:=zH (show w4.drew.cell? ⟨w.heap.size+2,4,G0⟩=_ from n4);have Hn2:=zH (show w.heap.size+2≠S.b by omega);go_wp2_with(first
  |((with_reducible refine Lex.aP ?_);refine fE (by repeat first|exact LexK.aL|refine LexK.aG rfl ?_|refine LexK.aH (by decide+kernel) ?_|refine JP rfl ⟨by omega,by omega⟩ YT.o ?_|refine JP rfl ⟨by omega,by omega⟩ YN.o ?_|refine JP rfl ⟨by omega,Hab.o⟩ YK.o ?_) ?_)
  |((with_reducible refine Lex.aI ?_);refine gL (fun x=>x<(w.heap.size+4)/\x≠S.b) ?_)
  |(with_reducible first|refine qH ?_|refine LexK.aK ?_|refine LexK.aO ?_)
  |((with_reducible refine Lex.aX ?_);first|(refine JQ hex5.o ?_)|(refine JQ hex6.o ?_)|(refine JQ (LexK.Ext.alloc _ _) ?_)|(refine JQ (LexK.Ext.refl _) ?_))
  |(go_at_call 14;refine(aU S (ks.length:Int) w4.drew H4.o.drew.src (by omega)).mono ?_;rintro e w6 ⟨y,rfl,hs,h0y,h1y,-⟩;have h1y:=h1y (by omega);obtain⟨m,rfl⟩:∃m:Nat,y=(m:Int):=⟨y.toNat,by omega⟩;have hmk:m<ks.length:=(by omega);have dmk:decide (m<ks.length)=true:=(by simp[hmk]);have hex6:=zH (dW hs (by exact hwo));have H6:=zH (H4.o.drew.trans hs);have Z6:=zH (((SR.refl H4.o.src).drew.trans hs).block (ai HO4.o) Hb.o|>.trans HO4.o);have HS6:=zH ((SR.refl H4.o.src).drew.trans hs);clear t0 t1 n4;have t0:w6.cell? ⟨w.heap.size,0,G0⟩=_:=bO HS6.o (aM HA4.o).1 (by omega) (by omega);have t1:w6.cell? ⟨w.heap.size,1,G0⟩=_:=bO HS6.o (aM HA4.o).2 (by omega) (by omega);have n4:w6.cell? ⟨w.heap.size+2,4,G0⟩=_:=bO HS6.o YN.o (by omega) (by omega);obtain⟨ak,ok,rfl,hab,hal2,hcell⟩:=eW HI.o hmk;have Hab:=zH hab;have q0:=hcell _ HS6.o;have Hmem:=zH (List.getElem_mem hmk);have YK:=zH (show w4.drew.cell? ⟨ak,ok+m,G0⟩=_ from hcell _ (SR.refl H4.o.src).drew);generalize hkj:ks[m]=kj at*;have hw6:(w.heap.size+4)<=w6.heap.size:=Nat.le_trans hwo HS6.o.size;clear hs hcell hab hkj)
  |(go_at_call 33;refine(Hv.o kj Hmem.o w6 H6.o.src (HT.o.sr HS6.o)).mono ?_;rintro e w5 ⟨v5,X,rfl,hx,hq,hs⟩;obtain⟨dv,cs,rfl,hx⟩:=hx;obtain⟨x1,x2,x3,x4,x5,x6,x7,x8,rfl⟩:=hx.seven;have HX:=zH (show VW (we (lo (w.heap.size+4)) w5) _ X from⟨dv,_,rfl,hx.sub (bL w5 hw6)⟩);have Hq:=zH hq;have hex5:=zH (dW hs hw6);have H5:=zH (H6.o.trans hs);have Z5:=zH ((hs.block (ai Z6.o) Hb.o).trans Z6.o);clear hx hq hs)
  |(with_reducible refine sR rfl 33 (.tmp 8) (.tmp 155) rfl rfl rfl Z5.o ?_))
 refine rB rfl (w.heap.size+1) 33 rfl (sH Z5.o) rfl rfl rfl ?_;exact⟨_,X,rfl,bZ HX.o HEx.o HEl.o _,Hq.o,H5.o.row (by omega) Hb.o _⟩
end Go.Proofs.YtfpahmeploondaaGreatDoor
