/- Walks and plain facts for the law on type variables, for all values and types that the heap holds (texts C1). -/
import Derived.Test.YtfpahmeploondaaGreatDoorR03
import Derived.Test.YtfpahmeploondaaGreatDoorR31
set_option linter.unusedVariables false
set_option linter.unusedSimpArgs false
set_option maxHeartbeats 64000000
open Option renaming none -> G0, some -> G5
open Bool renaming true -> G6
open Go.Value renaming slice -> GU, string -> GW, int -> GX
open Go.Obj renaming cells -> GY
open Go.IntKind renaming i64 -> GZ
open List renaming length_append -> Ii, mem_singleton -> I7, mem_append -> Ir
open Go.World renaming ownsRow_nil -> Io, frozen? -> IB, cell? -> Ic
open Go.LexK.Ext renaming alloc -> IF, refl -> Is
open Nat renaming le_trans -> G9, add_zero -> Im, le_refl -> G8
open Go.LexK renaming an -> JP, aq -> JQ, aH -> JT, aG -> JU, aK -> JV, aL -> JW, aO -> JY
namespace Go.Proofs.YtfpahmeploondaaGreatDoor
open Go.RowKit Go.Ident
set_option maxRecDepth 100000
theorem oo {w:World}{p:Option Addr}{c d:Nat}{l:List VV}(h:Rw w p c 7 l (VS w d))(k:Int):VW w (.agg #[GX GZ k,GX GZ 0,GW ⟨#[]⟩,GU p l.length c,GU G0 0 0,GU G0 0 0,GU G0 0 0]) (.mk k 0 aQ l [] [] []):=
 ⟨d+1,_,rfl,p,c,G0,0,G0,0,G0,0,rfl,h,Rw.nil _ _ _ _ _,Rw.nil _ _ _ _ _,Rw.nil _ _ _ _ _⟩
theorem j5 {l:List VV}{N:Nat}{k:Int}(h:∀x∈l,x.nodes<=N)(hl:l.length<=3):(VV.mk k 0 aQ l [] [] []).nodes<=1+3*N:=by
 rw[VV.nodes,cS];have h1:=cN h;have h2:=Nat.mul_le_mul_right N hl;simp only[nodesEs,jm];omega
theorem EV {l:List VV}(h:l.length=2):∃x y,l=[x,y]:=by
 match l,h with
 |[x,y],_=>exact⟨x,y,rfl⟩
theorem At(T:Ty)(tv:Value)(S:SD)(kn:Nat)(h:Int)(n:TN)(h1:1<=h)(hh:h<=1000)(hkn:kn<T.nodes.length)(hnode:T.nodes[kn]=n)(hkd:n.kind=10)(N:Nat)(hN:1<=N)(hkl:n.kids.length<=3)(hv:∀k,NV T tv N S k (h-1))(w:World)(hS:SRC S w)(hT:TB S T tv w):Calls Tryz.prog 33 #[.pointer (G5 ⟨S.b,0,G0⟩),tv,GX GZ (kn:Int),GX GZ h] w (GV (fun V=>V.nodes<=1+3*N/\V.labels=[]) S w):=by
 have hltS:=hS.lt;obtain⟨pT,cT,rfl,hR,-⟩:=id hT;obtain⟨a,o,cs,rfl,hal,-,hrange,hNC⟩:=hR.all hkn;rw[hnode]at hNC;obtain⟨kd,lo_,hi_,tx,ks,fs,r0,r1⟩:=n;obtain⟨p1,c1,p2,c2,rfl,hI,hF⟩:=hNC;simp only at hI hF hrange;obtain rfl:kd=10:=hkd;simp only at hkl;obtain⟨w2,e9,hA,hC,hb⟩:=bE w (GY #[GU (G5 ⟨a,o,G0⟩) T.nodes.length cT,GX GZ T.root] 27) (GY #[GX GZ 0,GX GZ 0,GW ⟨#[]⟩,GU G0 0 0,GU G0 0 0,GU G0 0 0,GU G0 0 0] 33);have hs2:w2.heap.size=w.heap.size+2:=by rw[<-e9];simp
 obtain⟨w4,e8,hB4,hV4,hb4⟩:=bE w2 (GY #[GX GZ 10,GX GZ lo_,GX GZ hi_,GW tx,GU p1 ks.length c1,GU p2 fs.length c2,GX GZ r0,GX GZ r1] 61) (GY #[GX GZ 0,GX GZ 0,GW ⟨#[]⟩,GU G0 0 0,GU G0 0 0,GU G0 0 0,GU G0 0 0] 33);have hs4:w4.heap.size=w2.heap.size+2:=by rw[<-e8];simp
 have E8:=zH e8;clear e8;have H2:=zH ((SR.refl hS).app hb);have H4:=zH (H2.o.step hb4);have hrg:=hrange _ H2.o.bel;have a0:=aF (hrg 0 _ rfl);have a1:=aF (hrg 1 _ rfl);have a2:=aF (hrg 2 _ rfl);have a3:=aF (hrg 3 _ rfl);have a4:=aF (hrg 4 _ rfl);have a5:=aF (hrg 5 _ rfl);have a6:=aF (hrg 6 _ rfl);have a7:=aF (hrg 7 _ rfl);simp only[Im]at a0;have HT:=zH (hT.sr H4.o);have HT0:=zH hT;have HI0:=zH hI;have HI:=zH (show IS (wo S.b w4) (GU p1 ks.length c1) ks from hI.below H4.o.bel);have HF:=zH (show Rw (wo S.b w4) p2 c2 4 fs FC from hF.below H4.o.bel fun _ _ _ h=>h);have hNC:NC (wo S.b w4) ⟨10,lo_,hi_,tx,ks,fs,r0,r1⟩ [GX GZ 10,GX GZ lo_,GX GZ hi_,GW tx,GU p1 ks.length c1,GU p2 fs.length c2,GX GZ r0,GX GZ r1]:=⟨p1,c1,p2,c2,rfl,HI.o,HF.o⟩
 have HNC:=zH hNC;rw[hs2]at hB4 hV4;have HB4:=zH hB4;have HV4:=zH hV4;have HA4:=zH ((hb4.block w.heap.size (by omega)).trans hA);have HO4:=zH ((hb4.block (w.heap.size+1) (by omega)).trans hC);obtain⟨g0,g1⟩:=aM hA;have Hs4:=zH (show w4.heap.size=(w.heap.size+4)by omega);have Hb:=zH (show(w.heap.size+1)≠S.b by omega);have HEx:=zH (show lo (w.heap.size+4) (w.heap.size+1)=G6 by simp[lo]);have HEl:=zH (show∀k,k<w.heap.size->lo (w.heap.size+4) k=G6 from fun k hk=>by simp[lo];omega);have dk:decide (T.nodes.length<=kn)=false:=by simp;omega
 have dk2:decide (kn<T.nodes.length)=true:=by simp[hkn]
 have dk3:decide ((kn:Int)<0)=false:=by simp
 have dh:decide (h<=0)=false:=by simp;omega
 clear hB4 hV4 hA hC hb hb4 hR hrange hrg hI hF hNC hS hT hnode;go_enter Tryz.func33,Tryz.ntmps33;go_upto_region 1 with fail
 try rw[e9]
 go_upto_region 5 with fail
 (try have e8:=E8.o)
 try rw[hs2]
 try rw[e8]
 try rw[hs2]
 clear e9 e8 E8 g0 g1 a0 a1 a2 a3 a4 a5 a6 a7 dk dk3 dh hs2 hs4;obtain⟨⟨n0,n1,n2,n3⟩,n4,n5,n6,n7⟩:=aY HB4.o;have Hv:=zH hv;clear hv;have Hn2:=zH (show w.heap.size+2≠S.b by omega);have Hn3:=zH (show w.heap.size+3≠S.b by omega);have hw4:(w.heap.size+4)<=w4.heap.size:=by have:=Hs4.o;omega
 clear n0 n1 n2 n3 n4 n5 n6 n7;have hnk:=(aY HB4.o).1.1;go_upto_region 23 with fail
 clear hnk;go_loopw[11] (fun iv wr=>∃(i:Nat) (l:List VV) (xs:List Value) (d:Nat) (lv:Value),iv=GX GZ (i:Int)/\i<=ks.length/\l.length=i/\wr.heap[(w.heap.size+3)]? =G5 (GY #[GX GZ 0,GX GZ 0,GW ⟨#[]⟩,lv,GU G0 0 0,GU G0 0 0,GU G0 0 0] 33)/\wr.ownsRow (w.heap.size+4) 33 7 lv l.length xs/\Ch 7 (VS (we (aE (w.heap.size+4) lv (GU G0 0 0)) wr) d) l xs/\(∀x∈l,x.nodes<=N)/\wr.heap[w.heap.size]? =G5 (GY #[GU (G5 ⟨a,o,G0⟩) T.nodes.length cT,GX GZ T.root] 27)/\wr.heap[(w.heap.size+2)]? =G5 (GY #[GX GZ 10,GX GZ lo_,GX GZ hi_,GW tx,GU p1 ks.length c1,GU p2 fs.length c2,GX GZ r0,GX GZ r1] 61)/\wr.heap[(w.heap.size+1)]? =G5 (GY #[GX GZ 0,GX GZ 0,GW ⟨#[]⟩,GU G0 0 0,GU G0 0 0,GU G0 0 0,GU G0 0 0] 33)/\SR S w wr) (fun iv _=>((ks.length:Int)-intOf iv).toNat)
 case atStart=>exact⟨0,[],[],0,GU G0 0 0,rfl,by omega,rfl,HV4.o,Io _ _ _ _,Ch.nil,fun x hx=>by simp at hx,HA4.o,HB4.o,HO4.o,H4.o⟩
 case round=>
  obtain⟨i,l,xs,d,lv,rfl,hi,hll,hVr,ho,hc,hN2,hAr,hBr,hOr,hsr⟩:=hrel;obtain⟨pa,ca,rfl⟩:=aB ho;have Ho:=zH ho;have Hc:=zH hc;have HN:=zH hN2;have Hsr:=zH hsr;have HVr:=zH hVr;have HAr:=zH hAr;have HBr:=zH hBr;have HOr:=zH hOr;have Hll:=zH hll;have hsz2:(w.heap.size+4)<=wr.heap.size:=ai hVr;obtain⟨⟨f0,f1,f2,f3⟩,f4,f5,f6⟩:=aN hVr;obtain⟨⟨n0,n1,n2,n3⟩,n4,n5,n6,n7⟩:=aY hBr;obtain⟨t0,t1⟩:=aM hAr;clear ho hc hN2 hsr hVr hAr hBr hOr hll;obtain⟨wq,hwq⟩:∃wq:World,wq=wr:=⟨_,rfl⟩
  subst hwq;by_cases hlt:i<ks.length
  ·have d9:decide (i<ks.length)=true:=by simp[hlt]
   obtain⟨ak,ok,rfl,hab,hal2,hcell⟩:=eW HI0.o hlt;have Hab:=zH hab;have hak:ak<(w.heap.size+4):=by omega
   generalize ks[i]=kj at*
   have q0:=hcell _ Hsr.o;have Yk:=zH (show wq.drew.cell? ⟨ak,ok+i,G0⟩=_ from q0);have Yt:=zH (show wq.drew.cell? ⟨w.heap.size,0,G0⟩=_ from t0);have Yn:=zH (show wq.drew.cell? ⟨w.heap.size+2,4,G0⟩=_ from n4);have Yv:=zH (show wq.drew.cell? ⟨w.heap.size+3,3,G0⟩=_ from f3);clear hcell hab;go_wp2_with(first
    |((with_reducible refine Lex.aP ?_);refine fE (by repeat first|exact JW|refine JU rfl ?_|refine JT (by decide+kernel) ?_|refine JP rfl ⟨by omega,Hn3.o⟩ Yv.o ?_|refine JP rfl ⟨by omega,by omega⟩ Yt.o ?_|refine JP rfl ⟨by omega,Hn2.o⟩ Yn.o ?_|refine JP rfl ⟨by omega,Hab.o⟩ Yk.o ?_) ?_)
    |((with_reducible refine Lex.aI ?_);refine gL (fun x=>x<(w.heap.size+4)/\x≠S.b) ?_)
    |(with_reducible first|refine qH ?_|refine JV ?_|refine JY ?_)
    |((with_reducible refine Lex.aX ?_);first|(refine JQ hex7.o ?_)|(refine JQ hex8.o ?_)|(refine JQ (IF _ _) ?_)|(refine JQ (Is _) ?_))
    |(go_at_call 15;refine(Hv.o _ wq.drew Hsr.o.drew.src (HT0.o.sr Hsr.o.drew)).mono ?_;rintro e w7 ⟨v7,X,rfl,hx,hq,hs⟩;obtain⟨dv,cs,rfl,hx⟩:=hx;obtain⟨x1,x2,x3,x4,x5,x6,x7,x8,rfl⟩:=hx.seven;have HX:=zH hx;have Hq:=zH hq.2;have hex7:=zH (dW hs (by exact hsz2));have Hs7:=zH ((SR.refl Hsr.o.src).drew.trans hs);have HoK7:=zH (hs.owns (bI Ho.o) (by omega));have Hone:=zH hx.one;have hw7:(w.heap.size+4)<=w7.heap.size:=(G9 hsz2 hs.size);clear hx hq hs)
    |(at_builtin;(refine aA rfl (.tmp 97) (.tmp 108) 28 rfl 33 (by kernel_rfl) cg rfl (by decide) (by decide) (w.heap.size+4) _ w7.heap.size [GX GZ X.kind,GX GZ X.num,GW X.text,GU x1 X.kids.length x2,GU x3 X.keys.length x4,GU x5 X.ents.length x6,GU x7 X.labels.length x8] (heap_alloc_new w7 _) (G9 hw7 (by simp)) rfl Hone.o (GU pa l.length ca) l.length xs rfl (ao HoK7.o ((Below.refl _ _).alloc (G8 _) _) (G8 _)) (by have:=Hll.o;omega) rfl ?_);intro v8 w8 ho8 hf8;have hb8:=(hf8.below (G9 hw7 (by simp)) (by simp) fun g hg=>(HoK7.o.lt g hg).1);have hex8:=zH (show LexK.Ext (fun x=>x<(w.heap.size+4)/\x≠S.b) (w7.alloc (GY #[GX GZ X.kind,GX GZ X.num,GW X.text,GU x1 X.kids.length x2,GU x3 X.keys.length x4,GU x5 X.ents.length x6,GU x7 X.labels.length x8] 33)) w8 from fH hb8);have Hb8:=zH (((Below.refl w7.heap.size w7).alloc (G8 _) (GY #[GX GZ X.kind,GX GZ X.num,GW X.text,GU x1 X.kids.length x2,GU x3 X.keys.length x4,GU x5 X.ents.length x6,GU x7 X.labels.length x8] 33)).mono hw7|>.trans hb8);obtain⟨p8,c8,rfl⟩:=aB ho8;have Ho8:=zH ho8;have hV8:=(Hb8.o.block (w.heap.size+3) (by omega)).trans ((Hs7.o.block (by omega) Hn3.o).trans HVr.o);have HU:=zH (Upd.set (i:=3) (v:=GU p8 (l.length+1) c8) (Upd.refl hV8));have hz0:w8.cell? ⟨w.heap.size+3,3,G0⟩=G5 (GU pa l.length ca):=(by simp[Ic,hV8]);have hz1:w8.frozen? ⟨w.heap.size+3,3,G0⟩=false:=(by simp[IB,hV8]);have Hf8:=zH hf8;clear ho8 hf8 hb8 hV8))
   have hV9:=HU.o.blk;have hcA:=gI Hc.o Hs7.o (by omega) HX.o (eO Ho.o (Io wq 0 0 0) hsz2) Hf8.o;have hkp:∀k,k<(w.heap.size+4)->k≠S.b->k≠(w.heap.size+3)->(w8.setCell ⟨w.heap.size+3,3,G0⟩ (GU p8 (l.length+1) c8)).heap[k]? =wq.heap[k]? :=fun k h1 h2 h3=>(HU.o.other k h3).trans ((Hb8.o.block k h1).trans (Hs7.o.block (by omega) h2))
   refine⟨⟨i+1,l++[X],xs++[GX GZ X.kind,GX GZ X.num,GW X.text,GU x1 X.kids.length x2,GU x3 X.keys.length x4,GU x5 X.ents.length x6,GU x7 X.labels.length x8],max d dv,GU p8 (l.length+1) c8,by first|rfl|(congr 1),by omega,by rw[Ii,Hll.o];rfl,by simpa using hV9,by rw[Ii];exact bC Ho8.o HU.o (by omega),?_,fun x hx=>?_,?_,?_,?_,((Hsr.o.trans Hs7.o).app (Hb8.o.mono (by omega))).app (HU.o.below (by omega))⟩,by simp[intOf];omega⟩
   ·exact hcA.mono fun x cs _ h=>h.below (by rw[ap];exact bA HU.o (du (by omega)))
   ·rcases Ir.1 hx with hx|hx
    ·exact HN.o x hx
    ·rw[I7.1 hx];exact Hq.o
   ·exact(hkp _ (by omega) (by omega) (by omega)).trans HAr.o
   ·exact(hkp _ (by omega) (by omega) (by omega)).trans HBr.o
   ·exact(hkp _ (by omega) (by omega) (by omega)).trans HOr.o
  ·have d9:decide (i<ks.length)=false:=by simp;omega
   obtain rfl:i=ks.length:=by omega
   go_upto_region 26 with fail
   clear f0 f1 f2 f3 f4 f5 f6 n1 n2 n3 n4 n5 n6 n7 t0 t1;have hz0:wq.cell? ⟨w.heap.size+3,0,G0⟩=G5 (GX GZ 0):=by simp[Ic,HVr.o]
   have hz1:wq.frozen? ⟨w.heap.size+3,0,G0⟩=false:=by simp[IB,HVr.o]
   have HU6:=zH (Upd.set (i:=0) (v:=GX GZ 6) (Upd.refl HVr.o));go_upto_region 27 with fail
   have hV5:=HU6.o.blk;have Ho5:=zH (bC Ho.o HU6.o (by omega));have HcE:=zH (Hc.o.mono fun x cs _ h=>(h.below (by rw[ap];exact bA HU6.o (du (by omega)))).sub (eU _ _ _ _));have H5:=zH (Hsr.o.app (HU6.o.below (B:=w.heap.size) (by omega)));have Z5:=zH ((HU6.o.other (w.heap.size+1) (by omega)).trans HOr.o);have HB5:=zH ((HU6.o.other (w.heap.size+2) (by omega)).trans HBr.o);clear hz0 hz1 n0;generalize wq.setCell ⟨w.heap.size+3,0,G0⟩ (GX GZ 6)=w5 at*
   simp at hV5;have HV5:=zH hV5;have n0:=(aY HB5.o).1.1;obtain⟨⟨f0,f1,f2,f3⟩,f4,f5,f6⟩:=aN hV5;clear hV5;obtain⟨pz,cz,ez,hrw⟩:=bu (bJ Ho5.o (bh _)) HcE.o (by have:=Hll.o;omega);injection ez with ez1 _ ez3
   subst ez1 ez3;go_wp2_with(first
    |(with_reducible refine sR rfl 33 (.tmp 8) (.tmp 126) rfl rfl rfl Z5.o ?_))
   refine rB rfl (w.heap.size+1) 33 rfl (sH Z5.o) rfl rfl rfl ?_;exact⟨_,.mk 6 0 aQ l [] [] [],rfl,bZ (oo hrw 6) HEx.o HEl.o _,⟨j5 HN.o (by have:=Hll.o;omega),rfl⟩,H5.o.row (by omega) Hb.o _⟩
theorem Au(T:Ty)(tv:Value)(S:SD)(kn:Nat)(h:Int)(n:TN)(h1:1<=h)(hh:h<=1000)(hkn:kn<T.nodes.length)(hnode:T.nodes[kn]=n)(hkd:n.kind=12)(hk2:n.kids.length=2)(N:Nat)(hN:1<=N)(hkl:n.kids.length<=3)(hv:∀k,NV T tv N S k (h-1))(w:World)(hS:SRC S w)(hT:TB S T tv w):Calls Tryz.prog 33 #[.pointer (G5 ⟨S.b,0,G0⟩),tv,GX GZ (kn:Int),GX GZ h] w (GV (fun V=>V.nodes<=1+3*N/\V.labels=[]) S w):=by
 have hltS:=hS.lt;obtain⟨pT,cT,rfl,hR,-⟩:=id hT;obtain⟨a,o,cs,rfl,hal,-,hrange,hNC⟩:=hR.all hkn;rw[hnode]at hNC;obtain⟨kd,lo_,hi_,tx,ks,fs,r0,r1⟩:=n;obtain⟨p1,c1,p2,c2,rfl,hI,hF⟩:=hNC;simp only at hI hF hrange;obtain rfl:kd=12:=hkd;simp only at hkl hk2;have Hk2:=zH hk2;clear hk2;obtain⟨w2,e9,hA,hC,hb⟩:=bE w (GY #[GU (G5 ⟨a,o,G0⟩) T.nodes.length cT,GX GZ T.root] 27) (GY #[GX GZ 0,GX GZ 0,GW ⟨#[]⟩,GU G0 0 0,GU G0 0 0,GU G0 0 0,GU G0 0 0] 33);have hs2:w2.heap.size=w.heap.size+2:=by rw[<-e9];simp
 obtain⟨w4,e8,hB4,hV4,hb4⟩:=bE w2 (GY #[GX GZ 12,GX GZ lo_,GX GZ hi_,GW tx,GU p1 ks.length c1,GU p2 fs.length c2,GX GZ r0,GX GZ r1] 61) (GY #[GX GZ 0,GX GZ 0,GW ⟨#[]⟩,GU G0 0 0,GU G0 0 0,GU G0 0 0,GU G0 0 0] 33);have hs4:w4.heap.size=w2.heap.size+2:=by rw[<-e8];simp
 have E8:=zH e8;clear e8;have H2:=zH ((SR.refl hS).app hb);have H4:=zH (H2.o.step hb4);have hrg:=hrange _ H2.o.bel;have a0:=aF (hrg 0 _ rfl);have a1:=aF (hrg 1 _ rfl);have a2:=aF (hrg 2 _ rfl);have a3:=aF (hrg 3 _ rfl);have a4:=aF (hrg 4 _ rfl);have a5:=aF (hrg 5 _ rfl);have a6:=aF (hrg 6 _ rfl);have a7:=aF (hrg 7 _ rfl);simp only[Im]at a0;have HT:=zH (hT.sr H4.o);have HT0:=zH hT;have HI0:=zH hI;have HI:=zH (show IS (wo S.b w4) (GU p1 ks.length c1) ks from hI.below H4.o.bel);have HF:=zH (show Rw (wo S.b w4) p2 c2 4 fs FC from hF.below H4.o.bel fun _ _ _ h=>h);have hNC:NC (wo S.b w4) ⟨12,lo_,hi_,tx,ks,fs,r0,r1⟩ [GX GZ 12,GX GZ lo_,GX GZ hi_,GW tx,GU p1 ks.length c1,GU p2 fs.length c2,GX GZ r0,GX GZ r1]:=⟨p1,c1,p2,c2,rfl,HI.o,HF.o⟩
 have HNC:=zH hNC;rw[hs2]at hB4 hV4;have HB4:=zH hB4;have HV4:=zH hV4;have HA4:=zH ((hb4.block w.heap.size (by omega)).trans hA);have HO4:=zH ((hb4.block (w.heap.size+1) (by omega)).trans hC);obtain⟨g0,g1⟩:=aM hA;have Hs4:=zH (show w4.heap.size=(w.heap.size+4)by omega);have Hb:=zH (show(w.heap.size+1)≠S.b by omega);have HEx:=zH (show lo (w.heap.size+4) (w.heap.size+1)=G6 by simp[lo]);have HEl:=zH (show∀k,k<w.heap.size->lo (w.heap.size+4) k=G6 from fun k hk=>by simp[lo];omega);have dk:decide (T.nodes.length<=kn)=false:=by simp;omega
 have dk2:decide (kn<T.nodes.length)=true:=by simp[hkn]
 have dk3:decide ((kn:Int)<0)=false:=by simp
 have dh:decide (h<=0)=false:=by simp;omega
 clear hB4 hV4 hA hC hb hb4 hR hrange hrg hI hF hNC hS hT hnode;go_enter Tryz.func33,Tryz.ntmps33;go_upto_region 1 with fail
 try rw[e9]
 go_upto_region 5 with fail
 (try have e8:=E8.o)
 try rw[hs2]
 try rw[e8]
 try rw[hs2]
 clear e9 e8 E8 g0 g1 a0 a1 a2 a3 a4 a5 a6 a7 dk dk3 dh hs2 hs4;obtain⟨⟨n0,n1,n2,n3⟩,n4,n5,n6,n7⟩:=aY HB4.o;have Hv:=zH hv;clear hv;have Hn2:=zH (show w.heap.size+2≠S.b by omega);have Hn3:=zH (show w.heap.size+3≠S.b by omega);have hw4:(w.heap.size+4)<=w4.heap.size:=by have:=Hs4.o;omega
 clear n0 n1 n2 n3 n4 n5 n6 n7;have hnk:=(aY HB4.o).1.1;go_upto_region 23 with fail
 clear hnk;go_loopw[11] (fun iv wr=>∃(i:Nat) (l:List VV) (xs:List Value) (d:Nat) (lv:Value),iv=GX GZ (i:Int)/\i<=ks.length/\l.length=i/\wr.heap[(w.heap.size+3)]? =G5 (GY #[GX GZ 0,GX GZ 0,GW ⟨#[]⟩,lv,GU G0 0 0,GU G0 0 0,GU G0 0 0] 33)/\wr.ownsRow (w.heap.size+4) 33 7 lv l.length xs/\Ch 7 (VS (we (aE (w.heap.size+4) lv (GU G0 0 0)) wr) d) l xs/\(∀x∈l,x.nodes<=N)/\wr.heap[w.heap.size]? =G5 (GY #[GU (G5 ⟨a,o,G0⟩) T.nodes.length cT,GX GZ T.root] 27)/\wr.heap[(w.heap.size+2)]? =G5 (GY #[GX GZ 12,GX GZ lo_,GX GZ hi_,GW tx,GU p1 ks.length c1,GU p2 fs.length c2,GX GZ r0,GX GZ r1] 61)/\wr.heap[(w.heap.size+1)]? =G5 (GY #[GX GZ 0,GX GZ 0,GW ⟨#[]⟩,GU G0 0 0,GU G0 0 0,GU G0 0 0,GU G0 0 0] 33)/\SR S w wr) (fun iv _=>((ks.length:Int)-intOf iv).toNat)
 case atStart=>exact⟨0,[],[],0,GU G0 0 0,rfl,by omega,rfl,HV4.o,Io _ _ _ _,Ch.nil,fun x hx=>by simp at hx,HA4.o,HB4.o,HO4.o,H4.o⟩
 case round=>
  obtain⟨i,l,xs,d,lv,rfl,hi,hll,hVr,ho,hc,hN2,hAr,hBr,hOr,hsr⟩:=hrel;obtain⟨pa,ca,rfl⟩:=aB ho;have Ho:=zH ho;have Hc:=zH hc;have HN:=zH hN2;have Hsr:=zH hsr;have HVr:=zH hVr;have HAr:=zH hAr;have HBr:=zH hBr;have HOr:=zH hOr;have Hll:=zH hll;have hsz2:(w.heap.size+4)<=wr.heap.size:=ai hVr;obtain⟨⟨f0,f1,f2,f3⟩,f4,f5,f6⟩:=aN hVr;obtain⟨⟨n0,n1,n2,n3⟩,n4,n5,n6,n7⟩:=aY hBr;obtain⟨t0,t1⟩:=aM hAr;clear ho hc hN2 hsr hVr hAr hBr hOr hll;obtain⟨wq,hwq⟩:∃wq:World,wq=wr:=⟨_,rfl⟩
  subst hwq;by_cases hlt:i<ks.length
  ·have d9:decide (i<ks.length)=true:=by simp[hlt]
   obtain⟨ak,ok,rfl,hab,hal2,hcell⟩:=eW HI0.o hlt;have Hab:=zH hab;have hak:ak<(w.heap.size+4):=by omega
   generalize ks[i]=kj at*
   have q0:=hcell _ Hsr.o;have Yk:=zH (show wq.drew.cell? ⟨ak,ok+i,G0⟩=_ from q0);have Yt:=zH (show wq.drew.cell? ⟨w.heap.size,0,G0⟩=_ from t0);have Yn:=zH (show wq.drew.cell? ⟨w.heap.size+2,4,G0⟩=_ from n4);have Yv:=zH (show wq.drew.cell? ⟨w.heap.size+3,3,G0⟩=_ from f3);clear hcell hab;go_wp2_with(first
    |((with_reducible refine Lex.aP ?_);refine fE (by repeat first|exact JW|refine JU rfl ?_|refine JT (by decide+kernel) ?_|refine JP rfl ⟨by omega,Hn3.o⟩ Yv.o ?_|refine JP rfl ⟨by omega,by omega⟩ Yt.o ?_|refine JP rfl ⟨by omega,Hn2.o⟩ Yn.o ?_|refine JP rfl ⟨by omega,Hab.o⟩ Yk.o ?_) ?_)
    |((with_reducible refine Lex.aI ?_);refine gL (fun x=>x<(w.heap.size+4)/\x≠S.b) ?_)
    |(with_reducible first|refine qH ?_|refine JV ?_|refine JY ?_)
    |((with_reducible refine Lex.aX ?_);first|(refine JQ hex7.o ?_)|(refine JQ hex8.o ?_)|(refine JQ (IF _ _) ?_)|(refine JQ (Is _) ?_))
    |(go_at_call 15;refine(Hv.o _ wq.drew Hsr.o.drew.src (HT0.o.sr Hsr.o.drew)).mono ?_;rintro e w7 ⟨v7,X,rfl,hx,hq,hs⟩;obtain⟨dv,cs,rfl,hx⟩:=hx;obtain⟨x1,x2,x3,x4,x5,x6,x7,x8,rfl⟩:=hx.seven;have HX:=zH hx;have Hq:=zH hq.2;have hex7:=zH (dW hs (by exact hsz2));have Hs7:=zH ((SR.refl Hsr.o.src).drew.trans hs);have HoK7:=zH (hs.owns (bI Ho.o) (by omega));have Hone:=zH hx.one;have hw7:(w.heap.size+4)<=w7.heap.size:=(G9 hsz2 hs.size);clear hx hq hs)
    |(at_builtin;(refine aA rfl (.tmp 97) (.tmp 108) 28 rfl 33 (by kernel_rfl) cg rfl (by decide) (by decide) (w.heap.size+4) _ w7.heap.size [GX GZ X.kind,GX GZ X.num,GW X.text,GU x1 X.kids.length x2,GU x3 X.keys.length x4,GU x5 X.ents.length x6,GU x7 X.labels.length x8] (heap_alloc_new w7 _) (G9 hw7 (by simp)) rfl Hone.o (GU pa l.length ca) l.length xs rfl (ao HoK7.o ((Below.refl _ _).alloc (G8 _) _) (G8 _)) (by have:=Hll.o;omega) rfl ?_);intro v8 w8 ho8 hf8;have hb8:=(hf8.below (G9 hw7 (by simp)) (by simp) fun g hg=>(HoK7.o.lt g hg).1);have hex8:=zH (show LexK.Ext (fun x=>x<(w.heap.size+4)/\x≠S.b) (w7.alloc (GY #[GX GZ X.kind,GX GZ X.num,GW X.text,GU x1 X.kids.length x2,GU x3 X.keys.length x4,GU x5 X.ents.length x6,GU x7 X.labels.length x8] 33)) w8 from fH hb8);have Hb8:=zH (((Below.refl w7.heap.size w7).alloc (G8 _) (GY #[GX GZ X.kind,GX GZ X.num,GW X.text,GU x1 X.kids.length x2,GU x3 X.keys.length x4,GU x5 X.ents.length x6,GU x7 X.labels.length x8] 33)).mono hw7|>.trans hb8);obtain⟨p8,c8,rfl⟩:=aB ho8;have Ho8:=zH ho8;have hV8:=(Hb8.o.block (w.heap.size+3) (by omega)).trans ((Hs7.o.block (by omega) Hn3.o).trans HVr.o);have HU:=zH (Upd.set (i:=3) (v:=GU p8 (l.length+1) c8) (Upd.refl hV8));have hz0:w8.cell? ⟨w.heap.size+3,3,G0⟩=G5 (GU pa l.length ca):=(by simp[Ic,hV8]);have hz1:w8.frozen? ⟨w.heap.size+3,3,G0⟩=false:=(by simp[IB,hV8]);have Hf8:=zH hf8;clear ho8 hf8 hb8 hV8))
   have hV9:=HU.o.blk;have hcA:=gI Hc.o Hs7.o (by omega) HX.o (eO Ho.o (Io wq 0 0 0) hsz2) Hf8.o;have hkp:∀k,k<(w.heap.size+4)->k≠S.b->k≠(w.heap.size+3)->(w8.setCell ⟨w.heap.size+3,3,G0⟩ (GU p8 (l.length+1) c8)).heap[k]? =wq.heap[k]? :=fun k h1 h2 h3=>(HU.o.other k h3).trans ((Hb8.o.block k h1).trans (Hs7.o.block (by omega) h2))
   refine⟨⟨i+1,l++[X],xs++[GX GZ X.kind,GX GZ X.num,GW X.text,GU x1 X.kids.length x2,GU x3 X.keys.length x4,GU x5 X.ents.length x6,GU x7 X.labels.length x8],max d dv,GU p8 (l.length+1) c8,by first|rfl|(congr 1),by omega,by rw[Ii,Hll.o];rfl,by simpa using hV9,by rw[Ii];exact bC Ho8.o HU.o (by omega),?_,fun x hx=>?_,?_,?_,?_,((Hsr.o.trans Hs7.o).app (Hb8.o.mono (by omega))).app (HU.o.below (by omega))⟩,by simp[intOf];omega⟩
   ·exact hcA.mono fun x cs _ h=>h.below (by rw[ap];exact bA HU.o (du (by omega)))
   ·rcases Ir.1 hx with hx|hx
    ·exact HN.o x hx
    ·rw[I7.1 hx];exact Hq.o
   ·exact(hkp _ (by omega) (by omega) (by omega)).trans HAr.o
   ·exact(hkp _ (by omega) (by omega) (by omega)).trans HBr.o
   ·exact(hkp _ (by omega) (by omega) (by omega)).trans HOr.o
  ·have d9:decide (i<ks.length)=false:=by simp;omega
   obtain rfl:i=ks.length:=by omega
   go_upto_region 26 with fail
   clear f0 f1 f2 f3 f4 f5 f6 n1 n2 n3 n4 n5 n6 n7 t0 t1;have hz0:wq.cell? ⟨w.heap.size+3,0,G0⟩=G5 (GX GZ 0):=by simp[Ic,HVr.o]
   have hz1:wq.frozen? ⟨w.heap.size+3,0,G0⟩=false:=by simp[IB,HVr.o]
   have HU6:=zH (Upd.set (i:=0) (v:=GX GZ 6) (Upd.refl HVr.o));go_upto_region 27 with fail
   have hV5:=HU6.o.blk;have Ho5:=zH (bC Ho.o HU6.o (by omega));have HcE:=zH (Hc.o.mono fun x cs _ h=>(h.below (by rw[ap];exact bA HU6.o (du (by omega)))).sub (eU _ _ _ _));have H5:=zH (Hsr.o.app (HU6.o.below (B:=w.heap.size) (by omega)));have Z5:=zH ((HU6.o.other (w.heap.size+1) (by omega)).trans HOr.o);have HB5:=zH ((HU6.o.other (w.heap.size+2) (by omega)).trans HBr.o);clear hz0 hz1 n0;generalize wq.setCell ⟨w.heap.size+3,0,G0⟩ (GX GZ 6)=w5 at*
   simp at hV5;have HV5:=zH hV5;have n0:=(aY HB5.o).1.1;clear hV5;have hz0:w5.cell? ⟨w.heap.size+3,0,G0⟩=G5 (GX GZ 6):=by simp[Ic,HV5.o]
   have hz1:w5.frozen? ⟨w.heap.size+3,0,G0⟩=false:=by simp[IB,HV5.o]
   have HU7:=zH (Upd.set (i:=0) (v:=GX GZ 7) (Upd.refl HV5.o));go_upto_region 29 with fail
   have hV6:=HU7.o.blk;have Ho6:=zH (bC Ho5.o HU7.o (by omega));have Hc6:=zH (Hc.o.mono fun x cs _ h=>(h.below (by rw[ap];exact bA HU6.o (du (by omega)))).below (by rw[ap];exact bA HU7.o (du (by omega))));have H6:=zH (H5.o.app (HU7.o.below (B:=w.heap.size) (by omega)));have Z6:=zH ((HU7.o.other (w.heap.size+1) (by omega)).trans Z5.o);clear hz0 hz1 n0;generalize w5.setCell ⟨w.heap.size+3,0,G0⟩ (GX GZ 7)=w6 at*
   simp at hV6;have HV6:=zH hV6;obtain⟨⟨f0,f1,f2,f3⟩,f4,f5,f6⟩:=aN hV6;clear hV6;obtain⟨X,Y,rfl⟩:=EV (show l.length=2 by have:=Hll.o;have:=Hk2.o;omega);have hxs:=Hc6.o.1;have hx0:=Hc6.o.2 0 (by simp);have hy0:=Hc6.o.2 1 (by simp);obtain⟨xs0,xs1,rfl,hl0⟩:∃a b,xs=a++b/\a.length=7:=⟨xs.take 7,xs.drop 7,(List.take_append_drop 7 xs).symm,by rw[List.length_take,hxs];rfl⟩
   have hl1:xs1.length=7:=by rw[Ii,hl0]at hxs;have:[X,Y].length*7=14:=rfl;omega
   simp only[Nat.zero_mul,List.drop_zero,Nat.one_mul,List.take_left' hl0,List.drop_left' hl0,List.take_of_length_le (Nat.le_of_eq hl1),List.getElem_cons_zero,List.getElem_cons_succ]at hx0 hy0;obtain⟨x1,x2,x3,x4,x5,x6,x7,x8,rfl⟩:=hx0.seven;obtain⟨y1,y2,y3,y4,y5,y6,y7,y8,rfl⟩:=hy0.seven;obtain⟨g,cap,hgf⟩:∃g cap,GU pa [X,Y].length ca=GU (G5 ⟨g,0,G0⟩) [X,Y].length cap:=by
    rcases Ho6.o.2 with⟨_,h0⟩|⟨g,cap,cur,hv,_⟩
    ·simp at h0
    ·exact⟨g,cap,hv⟩
   injection hgf with hg1 _ hg2
   subst hg1 hg2;have hg0:=Ho6.o.cellAt 7 (by simp);have HX0:=zH hx0;have HY0:=zH hy0;have Hd:=zH (show decide (1<[X,Y].length)=G6 by simp);clear hx0 hy0 hxs hl0 hl1;have hg7:w6.cell? ⟨g,7,G0⟩=G5 (GX GZ Y.kind):=by simpa using hg0
   clear hg0;have hE2:([X,Y]:List VV).length=2:=rfl;by_cases hyk:Y.kind=7
   ·have dyk:(Y.kind==7)=true:=by simp[hyk]
    have dyk2:(Y.kind !=7)=false:=by simp[hyk]
    clear hyk;obtain⟨pz,cz,ez,hrw⟩:=bu (bJ Ho6.o (bh _)) (Hc6.o.mono fun x cs _ h=>h.sub (eU _ _ _ _)) (by simp);injection ez with ez1 _ ez3
    subst ez1 ez3;go_wp2_with(first
     |(with_reducible refine sR rfl 33 (.tmp 8) (.tmp 126) rfl rfl rfl Z6.o ?_))
    refine rB rfl (w.heap.size+1) 33 rfl (sH Z6.o) rfl rfl rfl ?_;exact⟨_,.mk 7 0 aQ [X,Y] [] [] [],rfl,bZ (oo hrw 7) HEx.o HEl.o _,⟨j5 HN.o (by simp),rfl⟩,H6.o.row (by omega) Hb.o _⟩
   ·have dyk:(Y.kind==7)=false:=by simp[hyk]
    have dyk2:(Y.kind !=7)=true:=by simp[hyk]
    clear hyk;have hw6:(w.heap.size+4)<=w6.heap.size:=ai HV6.o;go_upto_region 30 with fail
    have YV:=zH (show w6.drew.cell? ⟨w.heap.size+3,3,G0⟩=_ from f3);go_upto_region 31 with(first
     |((with_reducible refine Lex.aP ?_);refine fE (by repeat first|exact JW|refine JU rfl ?_|refine JT (by decide+kernel) ?_|refine JP rfl ⟨by omega,Hn3.o⟩ YV.o ?_) ?_)
     |((with_reducible refine Lex.aI ?_);refine gL (fun x=>x<(w.heap.size+4)/\x≠S.b) ?_)
     |(with_reducible first|refine qH ?_|refine JV ?_|refine JY ?_)
     |((with_reducible refine Lex.aX ?_);first|(refine JQ hex7.o ?_)|(refine JQ (IF _ _) ?_)|(refine JQ (Is _) ?_))
     |(go_at_call 61;go_loud(refine(dP w6.drew).mono ?_);rintro e w7 ⟨rfl,hb⟩;have Hb7:=zH ((Below.refl w6.heap.size w6).drew.trans hb);have hex7:=zH (fH (S:=S) (hb.mono hw6));have ho7:=ao Ho6.o Hb7.o (G8 _);have Ho7:=zH ho7;have z0:w7.cell? ⟨g,7,G0⟩=G5 (GX GZ Y.kind):=(by simpa using ho7.cellAt 7 (by simp));have z1:w7.cell? ⟨g,8,G0⟩=G5 (GX GZ Y.num):=(by simpa using ho7.cellAt 8 (by simp));have z2:w7.cell? ⟨g,9,G0⟩=G5 (GW Y.text):=(by simpa using ho7.cellAt 9 (by simp));have z3:w7.cell? ⟨g,10,G0⟩=G5 (GU y1 Y.kids.length y2):=(by simpa using ho7.cellAt 10 (by simp));have z4:w7.cell? ⟨g,11,G0⟩=G5 (GU y3 Y.keys.length y4):=(by simpa using ho7.cellAt 11 (by simp));have z5:w7.cell? ⟨g,12,G0⟩=G5 (GU y5 Y.ents.length y6):=(by simpa using ho7.cellAt 12 (by simp));have z6:w7.cell? ⟨g,13,G0⟩=G5 (GU y7 Y.labels.length y8):=(by simpa using ho7.cellAt 13 (by simp));have hz1:=ho7.frozenAt;clear hb ho7))
    have hgo:∃cur,(w.heap.size+4)<=g/\w7.heap[g]? =G5 (.cells cur 33 (0,0)):=by
     rcases Ho7.o.2 with⟨_,h0⟩|⟨g',cap',cur,hv,hgb,hgc,_⟩
     ·simp at h0
     ·injection hv with hv1
      injection hv1 with hv1
      injection hv1 with hv1
      subst hv1;exact⟨cur,hgb,hgc⟩
    obtain⟨cur,hgb,hgc⟩:=hgo;have HU:=zH (Upd.set (i:=13) (v:=GU G0 0 0) (Upd.set (i:=12) (v:=GU G0 0 0) (Upd.set (i:=11) (v:=GU G0 0 0) (Upd.set (i:=10) (v:=GU G0 0 0) (Upd.set (i:=9) (v:=GW ⟨#[]⟩) (Upd.set (i:=8) (v:=GX GZ 0) (Upd.set (i:=7) (v:=GX GZ 5) (Upd.refl hgc))))))));have Ho8:=zH (show(((((((w7.setCell ⟨g,7,G0⟩ (GX GZ 5)).setCell ⟨g,8,G0⟩ (GX GZ 0)).setCell ⟨g,9,G0⟩ (GW ⟨#[]⟩)).setCell ⟨g,10,G0⟩ (GU G0 0 0)).setCell ⟨g,11,G0⟩ (GU G0 0 0)).setCell ⟨g,12,G0⟩ (GU G0 0 0)).setCell ⟨g,13,G0⟩ (GU G0 0 0)).ownsRow (w.heap.size+4) 33 7 (GU (G5 ⟨g,0,G0⟩) [X,VV.mk 5 0 aQ [] [] [] []].length ca) [X,VV.mk 5 0 aQ [] [] [] []].length ([GX GZ X.kind,GX GZ X.num,GW X.text,GU x1 X.kids.length x2,GU x3 X.keys.length x4,GU x5 X.ents.length x6,GU x7 X.labels.length x8]++[GX GZ 5,GX GZ 0,GW ⟨#[]⟩,GU G0 0 0,GU G0 0 0,GU G0 0 0,GU G0 0 0])from(((((((Ho7.o.stored 7 (GX GZ 5)).1.stored 8 (GX GZ 0)).1.stored 9 (GW ⟨#[]⟩)).1.stored 10 (GU G0 0 0)).1.stored 11 (GU G0 0 0)).1.stored 12 (GU G0 0 0)).1.stored 13 (GU G0 0 0)).1);have H8:=zH ((H6.o.app (Hb7.o.mono (by omega))).app (HU.o.below (B:=w.heap.size) (by omega)));have Z8:=zH ((HU.o.other (w.heap.size+1) (by omega)).trans ((Hb7.o.block (w.heap.size+1) (by omega)).trans Z6.o));have hV8:=(HU.o.other (w.heap.size+3) (by omega)).trans ((Hb7.o.block (w.heap.size+3) (by omega)).trans HV6.o);have hXE:VS (we (lo (w.heap.size+4)) (((((((w7.setCell ⟨g,7,G0⟩ (GX GZ 5)).setCell ⟨g,8,G0⟩ (GX GZ 0)).setCell ⟨g,9,G0⟩ (GW ⟨#[]⟩)).setCell ⟨g,10,G0⟩ (GU G0 0 0)).setCell ⟨g,11,G0⟩ (GU G0 0 0)).setCell ⟨g,12,G0⟩ (GU G0 0 0)).setCell ⟨g,13,G0⟩ (GU G0 0 0))) (max d 1) X [GX GZ X.kind,GX GZ X.num,GW X.text,GU x1 X.kids.length x2,GU x3 X.keys.length x4,GU x5 X.ents.length x6,GU x7 X.labels.length x8]:=(((HX0.o.below (by rw[ap];exact aS Hb7.o)).below (by rw[ap];exact bA HU.o (by simp[aE,Value.ownBlock]))).sub (eU _ _ _ _)).up (Nat.le_max_left _ _);have hNE:VS (we (lo (w.heap.size+4)) (((((((w7.setCell ⟨g,7,G0⟩ (GX GZ 5)).setCell ⟨g,8,G0⟩ (GX GZ 0)).setCell ⟨g,9,G0⟩ (GW ⟨#[]⟩)).setCell ⟨g,10,G0⟩ (GU G0 0 0)).setCell ⟨g,11,G0⟩ (GU G0 0 0)).setCell ⟨g,12,G0⟩ (GU G0 0 0)).setCell ⟨g,13,G0⟩ (GU G0 0 0))) (max d 1) (VV.mk 5 0 aQ [] [] [] []) [GX GZ 5,GX GZ 0,GW ⟨#[]⟩,GU G0 0 0,GU G0 0 0,GU G0 0 0,GU G0 0 0]:=VS.up (d:=1) ⟨G0,0,G0,0,G0,0,G0,0,rfl,Rw.nil _ _ _ _ _,Rw.nil _ _ _ _ _,Rw.nil _ _ _ _ _,Rw.nil _ _ _ _ _⟩ (Nat.le_max_right _ _);have HcE:=zH ((Ch.single (sz:=7) (P:=VS (we (lo (w.heap.size+4)) (((((((w7.setCell ⟨g,7,G0⟩ (GX GZ 5)).setCell ⟨g,8,G0⟩ (GX GZ 0)).setCell ⟨g,9,G0⟩ (GW ⟨#[]⟩)).setCell ⟨g,10,G0⟩ (GU G0 0 0)).setCell ⟨g,11,G0⟩ (GU G0 0 0)).setCell ⟨g,12,G0⟩ (GU G0 0 0)).setCell ⟨g,13,G0⟩ (GU G0 0 0))) (max d 1)) (x:=X) rfl hXE).append (Ch.single (sz:=7) (P:=VS (we (lo (w.heap.size+4)) (((((((w7.setCell ⟨g,7,G0⟩ (GX GZ 5)).setCell ⟨g,8,G0⟩ (GX GZ 0)).setCell ⟨g,9,G0⟩ (GW ⟨#[]⟩)).setCell ⟨g,10,G0⟩ (GU G0 0 0)).setCell ⟨g,11,G0⟩ (GU G0 0 0)).setCell ⟨g,12,G0⟩ (GU G0 0 0)).setCell ⟨g,13,G0⟩ (GU G0 0 0))) (max d 1)) (x:=VV.mk 5 0 aQ [] [] [] []) rfl hNE));have HnE:=zH (show∀x∈[X,VV.mk 5 0 aQ [] [] [] []],x.nodes<=N from fun x hx=>by
     rcases List.mem_cons.1 hx with hx|hx
     ·rw[hx];exact HN.o X (by simp)
     ·rw[I7.1 hx];simp[VV.nodes,nodesVs,nodesEs];omega)
    clear hXE hNE z0 z1 z2 z3 z4 z5 z6 hz1 f0 f1 f2 f3 f4 f5 f6 hgc;generalize(((((((w7.setCell ⟨g,7,G0⟩ (GX GZ 5)).setCell ⟨g,8,G0⟩ (GX GZ 0)).setCell ⟨g,9,G0⟩ (GW ⟨#[]⟩)).setCell ⟨g,10,G0⟩ (GU G0 0 0)).setCell ⟨g,11,G0⟩ (GU G0 0 0)).setCell ⟨g,12,G0⟩ (GU G0 0 0)).setCell ⟨g,13,G0⟩ (GU G0 0 0))=w8 at*
    obtain⟨⟨f0,f1,f2,f3⟩,f4,f5,f6⟩:=aN hV8;obtain⟨pz,cz,ez,hrw⟩:=bu (bJ Ho8.o (bh _)) HcE.o (by simp);injection ez with ez1 _ ez3
    subst ez1 ez3;clear hV8;go_wp2_with(first
     |(with_reducible refine sR rfl 33 (.tmp 8) (.tmp 126) rfl rfl rfl Z8.o ?_))
    refine rB rfl (w.heap.size+1) 33 rfl (sH Z8.o) rfl rfl rfl ?_;exact⟨_,.mk 7 0 aQ [X,VV.mk 5 0 aQ [] [] [] []] [] [] [],rfl,bZ (oo hrw 7) HEx.o HEl.o _,⟨j5 HnE.o (by simp),rfl⟩,H8.o.row (by omega) Hb.o _⟩
end Go.Proofs.YtfpahmeploondaaGreatDoor
