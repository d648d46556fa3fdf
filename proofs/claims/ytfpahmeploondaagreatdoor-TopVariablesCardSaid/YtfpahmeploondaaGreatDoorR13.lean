/- Walks and plain facts for the law on type variables, for all values and types that the heap holds (texts Z6). -/
import Derived.Test.YtfpahmeploondaaGreatDoorR03
import Derived.Test.YtfpahmeploondaaGreatDoorR12
set_option linter.unusedVariables false
set_option linter.unusedSimpArgs false
set_option maxHeartbeats 64000000
open Option renaming none -> G0, some -> G5
open Bool renaming true -> G6
open Go.Value renaming slice -> GU, string -> GW, int -> GX
open Go.Obj renaming cells -> GY
open Go.IntKind renaming i64 -> GZ
open List renaming drop_eq_nil_of_le -> JI, length_singleton -> Ju, mem_of_mem_take -> Jl, mem_of_mem_drop -> Jv, length_append -> Ii, length_take -> IN, length_drop -> I4, nil_append -> I8, map_append -> Jb, map_cons -> IY, sum_cons -> Jg
open Nat renaming lt_of_lt_of_le -> Ig, le_trans -> G9, add_zero -> Im, zero_add -> IV, le_refl -> G8
open Go.World renaming ownsRow_nil -> Io, frozen? -> IB
open Go renaming heap_alloc_new -> HG, bodyPost_ret -> Jm
open Go.LexK.Ext renaming alloc -> IF, refl -> Is
open Go.Value renaming ownBlock -> I0
open Go.LexK renaming Ext -> Hh, an -> JP, aq -> JQ, aH -> JT, aG -> JU, aK -> JV, aL -> JW, aO -> JY
open Go.Lex renaming aI -> JX, aP -> JZ, aX -> J0
namespace Go.Proofs.YtfpahmeploondaaGreatDoor
open Go.RowKit Go.Ident
set_option maxRecDepth 100000
theorem dI:(Tryz.prog.info? 103).map (fun i=>(i.zero,i.size,i.bytes))=G5 (G5 (.agg #[GX GZ 0,GW ⟨#[]⟩]),2,24):=by kernel_rfl
theorem KC.one {k:KK}{cs:List Value}(h:KC k cs):∀u∈cs,u.oneCell'=true:=by unfold KC at h;subst h;intro u hu;simp at hu;rcases hu with rfl|rfl<;>rfl
theorem dB {w w':World}{B B' n m:Nat}{e e':TypeId}{s s':Nat}{u v v1:Value}{xs ys:List Value}(h:w.ownsRow B e s u n xs)(ho:w.ownsRow B' e' s' v m ys)(hne:e≠e')(hf:Fr [] v v1 w w'):w'.ownsRow B e s u n xs:=by
 refine cF h fun g hg=>hf.block g (h.lt g hg).2 (by simp) ?_
 rcases h.2 with⟨rfl,_⟩|⟨g',cap,cur,rfl,_,hc,_⟩
 ·simp[I0]at hg
 ·simp[I0]at hg;subst hg;exact Cs ho hc hne
theorem bC {w w':World}{B b n:Nat}{e:TypeId}{s:Nat}{u:Value}{xs:List Value}{o:Obj}(h:w.ownsRow B e s u n xs)(hU:Upd b o w w')(hb:b<B):w'.ownsRow B e s u n xs:=
 cF h fun g hg=>hU.other g (by have:=(h.lt g hg).1;omega)
theorem fp {n:Nat}:zeroV.nodes<=1+n:=by simp[zeroV,VV.nodes,nodesVs,nodesEs]
def MR(E:Nat->Bool)(N:Nat)(w:World)(e:Ending)(w':World):Prop:=∃v V c,e=.returned (.tuple #[v,GX GZ c])/\VW (we E w') v V/\V.nodes<=1+N/\V.labels=[]/\Below w.heap.size w w'
theorem mu(p:Option Addr)(n c:Nat)(cs:List Value)(w:World)(hr:RC w 7 p n cs)(h1:∀u∈cs,u.oneCell'=G6)(hn:n<=1048576):Calls Tryz.prog 99 #[GU p n c] w fun e w'=>∃v',e=.returned v'/\w'.ownsRow w.heap.size 33 7 v' n cs/\Below w.heap.size w w':=by
 have H1:=zH hr;have Hone:=zH h1;clear hr h1;go_enter Tryz.func99,Tryz.ntmps99;go_wp2_with(at_builtin;go_loud(refine aC rfl (.const (GU G0 0 0)) (.tmp 3) 28 rfl 33 (by kernel_rfl) cg rfl (by decide) (by decide) w.heap.size w p 0 n c [] cs (G8 _) (GU G0 0 0) rfl rfl (Io _ _ _ _) H1.o Hone.o (by omega) ?_);intro v3 w3 ho3 hf3;have Hb3:=zH (hf3.below (G8 _) (by simp) (fun g hg=>by simp[I0]at hg));rw[IV,I8]at ho3;have Ho3:=zH ho3;clear ho3 hf3);go_ret;exact⟨_,rfl,Ho3.o,Hb3.o⟩
theorem jn(E:Nat->Bool)(keys:List KK)(l:List VV)(w:World)(u v:Value)(hE:Old E w.heap.size)(hu:KY (we E w) u keys)(hv:KS (we E w) v l)(hl:keys.length<=1000):Calls Tryz.prog 92 #[u,v] w (MR E (l.map VV.nodes).sum w):=by
 have HE:=zH hE;obtain⟨pu,cu,rfl,hru⟩:=hu;obtain⟨d,pv,cv,rfl,hrv⟩:=hv;have HU:=zH hru;have HV:=zH hrv;have heq:=iV;have hbig:=hrv.big;clear hru hrv hE;go_enter Tryz.func92,Tryz.ntmps92;go_upto_region 1 with fail
 have hC:=HG w (GY #[GX GZ 0,GX GZ 0,GW ⟨#[]⟩,GU G0 0 0,GU G0 0 0,GU G0 0 0,GU G0 0 0] 33);have hb:Below w.heap.size w (w.alloc (GY #[GX GZ 0,GX GZ 0,GW ⟨#[]⟩,GU G0 0 0,GU G0 0 0,GU G0 0 0,GU G0 0 0] 33)):=(Below.refl _ _).alloc (G8 _) _;have hs1:(w.alloc (GY #[GX GZ 0,GX GZ 0,GW ⟨#[]⟩,GU G0 0 0,GU G0 0 0,GU G0 0 0,GU G0 0 0] 33)).heap.size=w.heap.size+1:=by simp
 generalize w.alloc (GY #[GX GZ 0,GX GZ 0,GW ⟨#[]⟩,GU G0 0 0,GU G0 0 0,GU G0 0 0,GU G0 0 0] 33)=w1 at*
 have hlC:=ai hC;have HC:=zH hC;have Hb:=zH hb;have Hs1:=zH hs1;clear hC hb hs1;by_cases hlen:keys.length=l.length;rotate_left
 ·have d0:((keys.length:Int)!=(l.length:Int))=true:=by simp;omega
  clear hlen;have hC:=((Below.refl w1.heap.size w1).block _ hlC).trans HC.o;go_wp2_with(with_reducible refine sR rfl 33 (.tmp 4) (.tmp 17) rfl rfl rfl hC ?_);refine Jm (aV rfl _ _ w.heap.size 33 _ (0,0) _ rfl (sH hC) rfl rfl (by kernel_rfl)) rfl ?_;exact⟨_,zeroV,1,rfl,vw0 _ _ _ _,fp,rfl,aR (Hb.o.step (Below.refl w1.heap.size w1)) (G8 _)⟩
 have d0:((keys.length:Int)!=(l.length:Int))=false:=by simp;omega
 have Hlen:=zH hlen;clear hlen;go_wp2;clear d0;go_loopw[6] (fun i wr=>∃k:Nat,i=GX GZ k/\k<=keys.length/\Below w1.heap.size w1 wr) (fun i _=>keys.length-(intOf i).toNat)
 case atStart=>exact⟨0,rfl,by omega,Below.refl _ _⟩
 case round=>
  obtain⟨k,rfl,hk,hbr⟩:=hrel;have Hbr:=zH hbr;have Hbw:=zH (Hb.o.step hbr);clear hbr;by_cases hlt:k<keys.length
  ·have d9:decide (k<keys.length)=true:=by simp;omega
   obtain⟨a,o,rfl,-,z0,z1⟩:=HU.o.key hlt;have z0:=ae Hbw.o (aJ z0).2;have z1:=ae Hbw.o (aJ z1).2;generalize keys[k]=x at*
   have Hvk:=zH (eg x.kind x.text wr);cases hv:dq x.kind x.text.data.toList with
   | false =>
     rw[hv]at Hvk;clear hv;go_upto_region 7 with(go_at_call 97;refine Hvk.o.mono ?_;rintro e w6 ⟨rfl,hb6⟩;have Hb6:=zH (Hbr.o.step hb6);clear hb6)
     have hC:=((Hb6.o).block _ hlC).trans HC.o;go_wp2_with(with_reducible refine sR rfl 33 (.tmp 4) (.tmp 30) rfl rfl rfl hC ?_);refine Jm (aV rfl _ _ w.heap.size 33 _ (0,0) _ rfl (sH hC) rfl rfl (by kernel_rfl)) rfl ?_;exact⟨_,zeroV,1,rfl,vw0 _ _ _ _,fp,rfl,aR (Hb.o.step (Hb6.o)) (G8 _)⟩
   | true =>
     rw[hv]at Hvk;clear hv;go_wp2_with(go_at_call 97;refine Hvk.o.mono ?_;rintro e w6 ⟨rfl,hb6⟩;have Hb6:=zH (Hbr.o.step hb6);clear hb6);exact⟨⟨k+1,by go_num,by omega,Hb6.o⟩,by simp[intOf];omega⟩
  ·have d9:decide (k<keys.length)=false:=by simp;omega
   clear hlt;go_upto_region 9 with fail
   have hAn:=HG wr (GY #[GX GZ 8,GX GZ 0,GW ⟨#[]⟩,GU G0 0 0,GU G0 0 0,GU G0 0 0,GU G0 0 0] 33);have hbn:Below wr.heap.size wr (wr.alloc (GY #[GX GZ 8,GX GZ 0,GW ⟨#[]⟩,GU G0 0 0,GU G0 0 0,GU G0 0 0,GU G0 0 0] 33)):=(Below.refl _ _).alloc (G8 _) _;generalize wr.alloc (GY #[GX GZ 8,GX GZ 0,GW ⟨#[]⟩,GU G0 0 0,GU G0 0 0,GU G0 0 0,GU G0 0 0] 33)=wA at*
   have Hsr:=zH Hbr.o.size;have HbA:=zH (Hbr.o.step hbn);have HA:=zH hAn;clear hAn hbn;generalize wr.heap.size=bv at*
   go_wp2;go_loopw[8] (fun ix wr=>∃(i:Nat) (K:List VV) (Y:List KK) (xs ys:List Value) (kv yv:Value),ix=GX GZ i/\i<=keys.length/\K.length=i/\Y.length=i/\(K.map VV.nodes).sum=((l.take i).map VV.nodes).sum/\
    wr.heap[bv]? =G5 (GY #[GX GZ 8,GX GZ 0,GW ⟨#[]⟩,kv,yv,GU G0 0 0,GU G0 0 0] 33)/\wr.ownsRow (bv+1) 33 7 kv K.length xs/\Ch 7 (VS (we E w) d) K xs/\wr.ownsRow (bv+1) 103 2 yv Y.length ys/\Ch 2 KC Y ys/\Below w1.heap.size w1 wr) (fun i _=>keys.length-(intOf i).toNat)
   case atStart=>exact⟨0,[],[],[],[],_,_,rfl,by omega,rfl,rfl,by simp,HA.o,Io _ _ _ _,Ch.nil,Io _ _ _ _,Ch.nil,HbA.o⟩
   case round=>
    obtain⟨i,K,Y,xs,ys,kv,yv,rfl,hi,hK,hY,hsum,hA,hoK,hcK,hoY,hcY,hbr⟩:=hrel;obtain⟨qk,cK,rfl⟩:=aB hoK;obtain⟨qy,cY,rfl⟩:=aB hoY;have hKY:K.length=Y.length:=hK.trans hY.symm;rw[hKY]at hoK hA;have HKi:=zH hK;have HYi:=zH hY;have Hsum:=zH hsum;have HAr:=zH hA;have HoK:=zH hoK;have HcK:=zH hcK;have HoY:=zH hoY;have HcY:=zH hcY;have Hbr:=zH hbr;have HYK:=zH (hY.trans hK.symm);have hYl:Y.length<=1000:=by omega
    have hcYl:Y.length<=cY:=eo hoY;have hcKl:Y.length<=cK:=eo hoK;have Hbw:=zH (Hb.o.step hbr);clear hKY hK hY hsum hA hoK hcK hoY hcY hbr;by_cases hlt:i<keys.length
    ·have d9:decide (i<keys.length)=true:=by simp;omega
     have hlv:i<l.length:=by have:=Hlen.o;omega
     obtain⟨ay,oy,rfl,hay,ck0,ck1⟩:=HU.o.key hlt;have hay:ay<w.heap.size:=by rwa[ap]at hay
     have ck0:=ae Hbw.o (aJ ck0).2;have ck1:=ae Hbw.o (aJ ck1).2;have Hay:=zH hay;generalize keys[i]=ky at*
     obtain⟨ax,ox,csx,epx,hax,-,hrgx,hX⟩:=HV.o.at hlv;subst epx;have Hax:=zH (show ax<w.heap.size by rwa[ap]at hax);obtain⟨x1,x2,x3,x4,x5,x6,x7,x8,rfl⟩:=hX.seven;have HXb:=zH hX;have HX:=zH (hX.sub (db E w));have cx0:=ae Hbw.o (aJ (hrgx 0 _ rfl)).2;have cx1:=ae Hbw.o (aJ (hrgx 1 _ rfl)).2;have cx2:=ae Hbw.o (aJ (hrgx 2 _ rfl)).2;have cx3:=ae Hbw.o (aJ (hrgx 3 _ rfl)).2;have cx4:=ae Hbw.o (aJ (hrgx 4 _ rfl)).2;have cx5:=ae Hbw.o (aJ (hrgx 5 _ rfl)).2;have cx6:=ae Hbw.o (aJ (hrgx 6 _ rfl)).2;rw[Im]at cx0;have Hsum1:=zH (show((l.take (i+1)).map VV.nodes).sum=((l.take i).map VV.nodes).sum+l[i].nodes from by rw[List.take_succ_eq_append_getElem hlv,Jb,List.sum_append];simp only[IY,List.map_nil,Jg,List.sum_nil,Im]);clear hrgx hX hax;generalize l[i]=x at*
     obtain⟨wq,hwq⟩:∃wq:World,wq=wr:=⟨_,rfl⟩
     subst hwq;go_wp2;go_loopw[9] (fun ik wr=>∃k:Nat,ik=GX GZ k/\k<=Y.length/\Below wq.heap.size wq wr) (fun i _=>Y.length-(intOf i).toNat)
     case atStart=>exact⟨0,rfl,by omega,Below.refl _ _⟩
     case round=>
      obtain⟨k,rfl,hk,hb9⟩:=hrel;have Hb9:=zH hb9;clear hb9;have HA9:=zH ((Hb9.o.block _ (ai HAr.o)).trans HAr.o);obtain⟨⟨f0,f1,f2,f3⟩,f4,f5,f6⟩:=aN HA9.o;have hk0:=ae Hb9.o ck0;have hk1:=ae Hb9.o ck1;by_cases hkl:k<Y.length
      ·have d8:decide (k<Y.length)=true:=by simp;omega
       have HY9:=zH (ao HoY.o Hb9.o (G8 _));obtain⟨q',cap',eq',hrw⟩:=bu HY9.o HcY.o (by omega);injection eq' with eq1 _ eq3
       subst eq1 eq3;obtain⟨g,og,rfl,hg,y0,y1⟩:=hrw.key hkl;clear hrw;generalize hyk:Y[k]=yk at*
       have Hcall:=zH (jl yk ky wr.drew);by_cases hz:bN yk ky<0
       ·have d1:decide (bN yk ky<0)=true:=by simp[hz]
        clear hz;generalize bN yk ky=cc at*
        go_wp2_with(first
         |(with_reducible refine rg ?_)
         |(with_reducible refine fo ?_)
         |(go_at_call 98;refine Hcall.o.mono ?_;rintro e w6 ⟨rfl,hb6⟩;have Hb6:=zH (Hb9.o.drew.step hb6);clear hb6))
        exact⟨⟨k+1,by go_num,by omega,Hb6.o⟩,by simp[intOf];omega⟩
       ·have d1:decide (bN yk ky<0)=false:=by simp;omega
        clear hz;generalize bN yk ky=cc at*
        cases hq:decide (yk=ky)with
        | true =>
          go_upto_region 16 with(first
           |(with_reducible refine rg ?_)
           |(with_reducible refine fo ?_)
           |(go_at_call 98;refine Hcall.o.mono ?_;rintro e w6 ⟨rfl,hb6⟩;have Hb6:=zH (Hb9.o.drew.step hb6);have f4':=ae hb6 f4;have y0':=ae hb6 y0;have y1':=ae hb6 y1;have k0':=ae hb6 hk0;have k1':=ae hb6 hk1;clear hb6 f0 f1 f2 f3 f4 f5 f6 y0 y1 hk0 hk1))
          have Hb7:=zH (show Below w1.heap.size w1 w6.drew from(Hbr.o.step Hb6.o).drew);have hC:=((Hb7.o).block _ hlC).trans HC.o;go_wp2_with(with_reducible refine sR rfl 33 (.tmp 4) (.tmp 75) rfl rfl rfl hC ?_);refine Jm (aV rfl _ _ w.heap.size 33 _ (0,0) _ rfl (sH hC) rfl rfl (by kernel_rfl)) rfl ?_;exact⟨_,zeroV,6,rfl,vw0 _ _ _ _,fp,rfl,aR (Hb.o.step (Hb7.o)) (G8 _)⟩
        | false =>
          go_upto_region 17 with(first
           |(with_reducible refine rg ?_)
           |(with_reducible refine fo ?_)
           |(go_at_call 98;refine Hcall.o.mono ?_;rintro e w6 ⟨rfl,hb6⟩;have Hb6:=zH (Hb9.o.drew.step hb6);have f4':=ae hb6 f4;have y0':=ae hb6 y0;have y1':=ae hb6 y1;have k0':=ae hb6 hk0;have k1':=ae hb6 hk1;clear hb6 f0 f1 f2 f3 f4 f5 f6 y0 y1 hk0 hk1))
          have Hbd:=zH (show Below wq.heap.size wq w6.drew from Hb6.o.drew);clear f4' y0' y1' k0' k1' hq d1;generalize w6.drew=wd at*
          have HAd:=zH ((Hbd.o.block _ (ai HAr.o)).trans HAr.o);have HYd:=zH (ao HoY.o Hbd.o (G8 _));have HKd:=zH (ao HoK.o Hbd.o (G8 _));have hkK:k<=K.length:=by have:=HYK.o;omega
          obtain⟨g2,og2,eq2,-,-⟩:=(RC.of_own HKd.o).2 (by have:=HYK.o;omega);subst eq2;have HKlt:=zH (fun g (e:(g:Nat)=g2)=>show bv<g2 from by have:=(HKd.o.lt g2 rfl).1;omega);have HKin:=zH (fun(a o:Nat) (e:(G5 ⟨g2,og2+k*7,G0⟩:Option Addr)=G5 ⟨a,o,G0⟩)=>show a<wd.heap.size from by injection e with e;injection e with e1 _;subst e1;exact(HKd.o.lt g2 rfl).2);obtain⟨⟨f0,f1,f2,f3⟩,f4,f5,f6⟩:=aN HAd.o;have LV:=zH (show bv<wd.heap.size from ai HAd.o);have LAY:=zH (show ay<wd.heap.size from Ig Hay.o (G9 Hbw.o.size Hbd.o.size));have Y4:=zH (show wd.drew.cell? ⟨bv,4,G0⟩=_ from f4);have Y3:=zH (show wd.drew.cell? ⟨bv,3,G0⟩=_ from f3);have Hry:=zH (RC.of_own HYd.o);have Hrk:=zH (RC.of_own HKd.o);have HoneY:=zH (HcY.o.cells fun _ _ h=>h.one);have HoneK:=zH (HcK.o.cells fun _ _ h=>h.one);have HoTY:=zH (fun u hu=>HoneY.o u (Jl (i:=k*2) hu));have HoDY:=zH (fun u hu=>HoneY.o u (Jv (i:=k*2) hu));have HoTK:=zH (fun u hu=>HoneK.o u (Jl (i:=k*7) hu));have HoDK:=zH (fun u hu=>HoneK.o u (Jv (i:=k*7) hu));have HcTY:=zH (HcY.o.take (k:=k) hk);have HcDY:=zH (HcY.o.drop (k:=k) hk);have HcTK:=zH (HcK.o.take (k:=k) hkK);have HcDK:=zH (HcK.o.drop (k:=k) hkK);have HlY:=zH (show ys.length=Y.length*2 from HYd.o.1);have HlK:=zH (show xs.length=Y.length*7 from HKd.o.1);have HTY:=zH (Hry.o.take hk);have HTK:=zH (Hrk.o.take hk);have HDY:=zH (Hry.o.drop hk);have HDK:=zH (Hrk.o.drop hk);have d6:k<=cK:=by omega
          have d5:k<=cY:=by omega
          have n0:=ae Hbd.o ck0;have n1:=ae Hbd.o ck1;go_upto_region 18 with(first
           |((with_reducible refine JZ ?_);refine fE (by repeat first|exact JW|refine JU rfl ?_|refine JT (by decide+kernel) ?_|refine JP rfl LV.o Y4.o ?_|refine JP rfl LV.o Y3.o ?_) ?_)
           |((with_reducible refine JX ?_);refine gL (fun x=>x<wd.heap.size) ?_)
           |(with_reducible first|refine qH ?_|refine JV ?_|refine JY ?_)
           |((with_reducible refine J0 ?_);first|(refine JQ hex3.o ?_)|(refine JQ hex5.o ?_)|(refine JQ (IF _ _) ?_)|(refine JQ (Is _) ?_))
           |(at_builtin;(refine aC rfl (.const (GU G0 0 0)) (.tmp 79) 29 rfl 103 (by kernel_rfl) dI rfl (by decide) (by decide) wd.heap.size wd.drew (G5 ⟨g,og,G0⟩) 0 k _ [] (ys.take (k*2)) (G8 _) (GU G0 0 0) rfl rfl (Io _ _ _ _) (HTY.o.below (Below.refl _ _).drew) HoTY.o (by omega) ?_);intro v3 w3 ho3 hf3;have hb3:Below wd.heap.size wd.drew w3:=(hf3.below (G8 _) (by simp) (fun g hg=>by simp[I0]at hg));have hex3:=zH (show Hh (fun x=>x<wd.heap.size) wd.drew w3 from bX hb3);have Hb3:=zH (show Below wd.heap.size wd w3 from(Below.refl _ _).drew.trans hb3);rw[IV,I8]at ho3;obtain⟨p3,c3,rfl⟩:=aB ho3;have Ho3:=zH ho3;have f3':=ae Hb3.o f3;clear ho3 hf3 hb3)
           |(go_at_call 99;refine(mu _ k _ (xs.take (k*7)) w3 (HTK.o.below Hb3.o) HoTK.o (by omega)).mono ?_;rintro e w5 ⟨v5,rfl,ho5,hb5⟩;obtain⟨p5,c5,rfl⟩:=aB ho5;have hex5:=zH (show Hh (fun x=>x<wd.heap.size) w3 w5 from bX (hb5.mono Hb3.o.size));have Ho5:=zH (bG ho5 Hb3.o.size);have Hb5:=zH (Hb3.o.trans (hb5.mono Hb3.o.size));have Ho3b:=zH (ao Ho3.o hb5 (G8 _));clear ho5 hb5))
          clear f0 f1 f2 f3 f4 f5 f6;have HA5:=zH ((Hb5.o.block _ LV.o).trans HAd.o);obtain⟨⟨f0,f1,f2,f3⟩,f4,f5,f6⟩:=aN HA5.o;have m0:=ae Hb5.o n0;have m1:=ae Hb5.o n1;have Yk:=zH (show w5.drew.cell? ⟨ay,oy+i*2,G0⟩=_ from m0);have Y4':=zH (show w5.drew.cell? ⟨bv,4,G0⟩=_ from f4);have Hwx:=zH (Hb5.o.drew.alloc Hb5.o.size (GY #[GX GZ ky.kind,GW ky.text] 103));have Ho3x:=zH (ao Ho3b.o ((Below.refl w5.heap.size w5).drew.alloc (G8 _) (GY #[GX GZ ky.kind,GW ky.text] 103)) (G8 _));have Ho5x:=zH (ao Ho5.o ((Below.refl w5.heap.size w5).drew.alloc (G8 _) (GY #[GX GZ ky.kind,GW ky.text] 103)) (G8 _));go_upto_region 19 with(first
           |((with_reducible refine JZ ?_);refine fE (by repeat first|exact JW|refine JU rfl ?_|refine JT (by decide+kernel) ?_|refine JP rfl LV.o Y4'.o ?_|refine JP rfl LAY.o Yk.o ?_) ?_)
           |((with_reducible refine JX ?_);refine gL (fun x=>x<wd.heap.size) ?_)
           |(with_reducible first|refine qH ?_|refine JV ?_|refine JY ?_)
           |((with_reducible refine J0 ?_);first|(refine JQ hex6.o ?_)|(refine JQ hex7.o ?_)|(refine JQ (IF _ _) ?_)|(refine JQ (Is _) ?_))
           |(at_builtin;first
            |(refine aA rfl (.tmp 86) (.tmp 91) 29 rfl 103 (by kernel_rfl) dI rfl (by decide) (by decide) wd.heap.size _ w5.drew.heap.size [GX GZ ky.kind,GW ky.text] (HG w5.drew _) (G9 Hb5.o.size (by simp)) rfl (by intro u hu;simp at hu;rcases hu with rfl|rfl<;>rfl) (GU p3 k c3) k (ys.take (k*2)) rfl Ho3x.o (by omega) rfl ?_;intro v6 w6 ho6 hf6;have hb6:=(hf6.below (G9 Hb5.o.size (by simp)) (by simp) fun g hg=>(Ho3x.o.lt g hg).1);have hex6:=zH (show Hh (fun x=>x<wd.heap.size) (w5.drew.alloc (GY #[GX GZ ky.kind,GW ky.text] 103)) w6 from bX hb6);have Hb6:=zH (Hwx.o.trans hb6);have Ho5c:=zH (dB Ho5x.o Ho3x.o (by decide) hf6);obtain⟨p6,c6,rfl⟩:=aB ho6;have Ho6:=zH ho6;have f4x:w6.cell? ⟨bv,4,G0⟩=_:=(Hb6.o.cell (p:=⟨bv,_,G0⟩) LV.o).trans Y4.o;clear ho6 hf6 hb6)
            |(refine aC rfl (.tmp 92) (.tmp 96) 29 rfl 103 (by kernel_rfl) dI rfl (by decide) (by decide) wd.heap.size w6 (G5 ⟨g,og+k*2,G0⟩) (k+1) (Y.length-k) _ (ys.take (k*2)++[GX GZ ky.kind,GW ky.text]) (ys.drop (k*2)) Hb6.o.size (GU p6 (k+1) c6) rfl rfl Ho6.o (HDY.o.below Hb6.o) HoDY.o (by omega) ?_;intro v7 w7 ho7 hf7;have hb7:=(hf7.below Hb6.o.size (by simp) fun g hg=>(Ho6.o.lt g hg).1);have hex7:=zH (show Hh (fun x=>x<wd.heap.size) w6 w7 from bX hb7);have Hb7:=zH (Hb6.o.trans hb7);have Ho5d:=zH (dB Ho5c.o Ho6.o (by decide) hf7);obtain⟨p7,c7,rfl⟩:=aB ho7;have Ho7:=zH ho7;have HA7:=zH ((Hb7.o.block _ LV.o).trans HAd.o);obtain⟨-,hz4,-,-⟩:=aN HA7.o;have hz5:w7.frozen? ⟨bv,4,G0⟩=false:=(by simp[IB,HA7.o]);clear ho7 hf7 hb7)))
          have HU8:=zH (Upd.set (i:=4) (v:=GU p7 (k+1+(Y.length-k)) c7) (Upd.refl HA7.o));have Hb8:=zH (show Below bv wd (w7.setCell ⟨bv,4,G0⟩ (GU p7 (k+1+(Y.length-k)) c7))from(Hb7.o.mono (Nat.le_of_lt LV.o)).trans (HU8.o.below (G8 _)));have Ho7e:=zH (bC Ho7.o HU8.o LV.o);have Ho5e:=zH (bC Ho5d.o HU8.o LV.o);have HA8:=zH (show(w7.setCell ⟨bv,4,G0⟩ (GU p7 (k+1+(Y.length-k)) c7)).heap[bv]? =G5 (GY #[GX GZ 8,GX GZ 0,GW ⟨#[]⟩,(GU (G5 ⟨g2,og2,G0⟩) Y.length cK),(GU p7 (k+1+(Y.length-k)) c7),GU G0 0 0,GU G0 0 0] 33)from by have:=HU8.o.blk;simpa using this);have Hcx:=zH (fun(a o:Nat) (z:Value) (ha:a<bv) (h:wd.cell? ⟨a,o,G0⟩=G5 z)=>(Hb8.o.cell (p:=⟨a,o,G0⟩) ha).trans h);have HDK8:=zH (show RC (w7.setCell ⟨bv,4,G0⟩ (GU p7 (k+1+(Y.length-k)) c7)) 7 (G5 ⟨g2,og2+k*7,G0⟩) (Y.length-k) (xs.drop (k*7))from(HDK.o.below Hb7.o).fr (Nat.le_of_eq HU8.o.size.symm) fun a o e1 _=>HU8.o.other a (by intro e2;injection e1 with e1;injection e1 with e11 e12;subst e11;exact absurd e2 (Nat.ne_of_gt (HKlt.o _ rfl))));clear f0 f1 f2 f3 f4 f5 f6 m0 m1 hz4 hz5;generalize w7.setCell ⟨bv,4,G0⟩ (GU p7 (k+1+(Y.length-k)) c7)=w8 at*
          obtain⟨⟨f0,f1,f2,f3⟩,f4,f5,f6⟩:=aN HA8.o;have hax2:ax<bv:=Ig Hax.o (G9 (Nat.le_of_lt hlC) Hsr.o);have LAX:=zH (show ax<wd.heap.size from Nat.lt_trans hax2 LV.o);have x0':=Hcx.o ax _ _ hax2 (ae Hbd.o cx0);have x1':=Hcx.o ax _ _ hax2 (ae Hbd.o cx1);have x2':=Hcx.o ax _ _ hax2 (ae Hbd.o cx2);have x3':=Hcx.o ax _ _ hax2 (ae Hbd.o cx3);have x4':=Hcx.o ax _ _ hax2 (ae Hbd.o cx4);have x5':=Hcx.o ax _ _ hax2 (ae Hbd.o cx5);have x6':=Hcx.o ax _ _ hax2 (ae Hbd.o cx6);have Yx:=zH (show w8.drew.cell? ⟨ax,ox+i*7,G0⟩=_ from x0');have Y3x:=zH (show w8.drew.cell? ⟨bv,3,G0⟩=_ from f3);have Hs8:=zH (show wd.heap.size<=w8.heap.size from Hb8.o.size);have Hox:=zH (HX.o.one);have Ho5g:=zH (ao Ho5e.o ((Below.refl w8.heap.size w8).drew.alloc (G8 _) (GY #[GX GZ x.kind,GX GZ x.num,GW x.text,GU x1 x.kids.length x2,GU x3 x.keys.length x4,GU x5 x.ents.length x6,GU x7 x.labels.length x8] 33)) (G8 _));have Ho7g:=zH (ao Ho7e.o ((Below.refl w8.heap.size w8).drew.alloc (G8 _) (GY #[GX GZ x.kind,GX GZ x.num,GW x.text,GU x1 x.kids.length x2,GU x3 x.keys.length x4,GU x5 x.ents.length x6,GU x7 x.labels.length x8] 33)) (G8 _));have Hw8x:=zH ((Below.refl w8.heap.size w8).drew.alloc (G8 _) (GY #[GX GZ x.kind,GX GZ x.num,GW x.text,GU x1 x.kids.length x2,GU x3 x.keys.length x4,GU x5 x.ents.length x6,GU x7 x.labels.length x8] 33));go_upto_region 11 with(first
           |((with_reducible refine JZ ?_);refine fE (by repeat first|exact JW|refine JU rfl ?_|refine JT (by decide+kernel) ?_|refine JP rfl LV.o Y3x.o ?_|refine JP rfl LAX.o Yx.o ?_) ?_)
           |((with_reducible refine JX ?_);refine gL (fun x=>x<wd.heap.size) ?_)
           |(with_reducible first|refine qH ?_|refine JV ?_|refine JY ?_)
           |((with_reducible refine J0 ?_);first|(refine JQ hex9.o ?_)|(refine JQ hexA.o ?_)|(refine JQ (IF _ _) ?_)|(refine JQ (Is _) ?_))
           |(at_builtin;first
            |(refine aA rfl (.tmp 99) (.tmp 104) 28 rfl 33 (by kernel_rfl) cg rfl (by decide) (by decide) wd.heap.size _ w8.drew.heap.size [GX GZ x.kind,GX GZ x.num,GW x.text,GU x1 x.kids.length x2,GU x3 x.keys.length x4,GU x5 x.ents.length x6,GU x7 x.labels.length x8] (HG w8.drew _) (G9 Hs8.o (by simp)) rfl Hox.o (GU p5 k c5) k (xs.take (k*7)) rfl Ho5g.o (by omega) rfl ?_;intro v9 w9 ho9 hf9;have hb9:=(hf9.below (G9 Hs8.o (by simp)) (by simp) fun g hg=>(Ho5g.o.lt g hg).1);have hex9:=zH (show Hh (fun x=>x<wd.heap.size) (w8.drew.alloc (GY #[GX GZ x.kind,GX GZ x.num,GW x.text,GU x1 x.kids.length x2,GU x3 x.keys.length x4,GU x5 x.ents.length x6,GU x7 x.labels.length x8] 33)) w9 from bX hb9);have Hb9x:=zH (show Below wd.heap.size w8 w9 from(Hw8x.o.mono Hs8.o).trans hb9);have Ho7h:=zH (dB Ho7g.o Ho5g.o (by decide) hf9);obtain⟨p9,c9,rfl⟩:=aB ho9;have Ho9:=zH ho9;have f3x:w9.cell? ⟨bv,3,G0⟩=_:=(Hb9x.o.cell (p:=⟨bv,_,G0⟩) LV.o).trans f3;clear ho9 hf9 hb9)
            |(refine aC rfl (.tmp 105) (.tmp 109) 28 rfl 33 (by kernel_rfl) cg rfl (by decide) (by decide) wd.heap.size w9 (G5 ⟨g2,og2+k*7,G0⟩) (k+1) (Y.length-k) _ (xs.take (k*7)++[GX GZ x.kind,GX GZ x.num,GW x.text,GU x1 x.kids.length x2,GU x3 x.keys.length x4,GU x5 x.ents.length x6,GU x7 x.labels.length x8]) (xs.drop (k*7)) (G9 Hs8.o Hb9x.o.size) (GU p9 (k+1) c9) rfl rfl Ho9.o (HDK8.o.fr Hb9x.o.size fun a o e1 _=>Hb9x.o.block a (HKin.o a o e1)) HoDK.o (by omega) ?_;intro vA wA' hoA hfA;have hbA:=(hfA.below (G9 Hs8.o Hb9x.o.size) (by simp) fun g hg=>(Ho9.o.lt g hg).1);have hexA:=zH (show Hh (fun x=>x<wd.heap.size) w9 wA' from bX hbA);have HbA':=zH (Hb9x.o.trans hbA);have Ho7k:=zH (dB Ho7h.o Ho9.o (by decide) hfA);obtain⟨pA,cA,rfl⟩:=aB hoA;have HoA:=zH hoA;have HAA:=zH ((HbA'.o.block _ LV.o).trans HA8.o);obtain⟨⟨-,-,-,hz3⟩,-,-,-⟩:=aN HAA.o;have hz5:wA'.frozen? ⟨bv,3,G0⟩=false:=(by simp[IB,HAA.o]);clear hoA hfA hbA)))
          have HUB:=zH (Upd.set (i:=3) (v:=GU pA (k+1+(Y.length-k)) cA) (Upd.refl HAA.o));have hbB:Below bv wd (wA'.setCell ⟨bv,3,G0⟩ (GU pA (k+1+(Y.length-k)) cA)):=Hb8.o.trans ((HbA'.o.mono (Nat.le_of_lt LV.o)).trans (HUB.o.below (G8 _)));have hoY':=bG (bC Ho7k.o HUB.o LV.o) (B':=bv+1) LV.o;have hoK':=bG (bC HoA.o HUB.o LV.o) (B':=bv+1) LV.o;have hAB:(wA'.setCell ⟨bv,3,G0⟩ (GU pA (k+1+(Y.length-k)) cA)).heap[bv]? =G5 (GY #[GX GZ 8,GX GZ 0,GW ⟨#[]⟩,(GU pA (k+1+(Y.length-k)) cA),(GU p7 (k+1+(Y.length-k)) c7),GU G0 0 0,GU G0 0 0] 33):=by have:=HUB.o.blk;simpa using this
          clear f0 f1 f2 f3 f4 f5 f6 hz3;generalize wA'.setCell ⟨bv,3,G0⟩ (GU pA (k+1+(Y.length-k)) cA)=wB at*
          have lY:(Y.take k++[ky]++Y.drop k).length=k+1+(Y.length-k):=by rw[Ii,Ii,IN,I4,Ju];omega
          have lK:(K.take k++[x]++K.drop k).length=k+1+(Y.length-k):=by rw[Ii,Ii,IN,I4,Ju];have:=HYK.o;omega
          have hsm:((K.take k++[x]++K.drop k).map VV.nodes).sum=((l.take (i+1)).map VV.nodes).sum:=by
           rw[Hsum1.o,<-Hsum.o]
           conv=>rhs;rw[<-List.take_append_drop k K]
           simp only[Jb,List.sum_append,IY,List.map_nil,Jg,List.sum_nil];omega
          go_wp2;refine⟨⟨i+1,K.take k++[x]++K.drop k,Y.take k++[ky]++Y.drop k,xs.take (k*7)++[GX GZ x.kind,GX GZ x.num,GW x.text,GU x1 x.kids.length x2,GU x3 x.keys.length x4,GU x5 x.ents.length x6,GU x7 x.labels.length x8]++(xs.drop (k*7)),ys.take (k*2)++[GX GZ ky.kind,GW ky.text]++(ys.drop (k*2)),_,_,by go_num,by omega,by rw[lK];have:=HYi.o;omega,by rw[lY];have:=HYi.o;omega,hsm,hAB,by rw[lK];exact hoK',?_,by rw[lY];exact hoY',?_,Hbr.o.trans ((Hbd.o.mono Hbr.o.size).trans (hbB.mono Hsr.o))⟩,by simp[intOf];omega⟩
          ·exact(HcTK.o.append (Ch.single rfl HXb.o)).append HcDK.o
          ·exact(HcTY.o.append (Ch.single rfl rfl)).append HcDY.o
      ·obtain rfl:k=Y.length:=by omega
       have d8:decide (Y.length<Y.length)=false:=by simp
       go_upto_region 17 with(first
        |(with_reducible refine rg ?_)
        |(with_reducible refine fo ?_))
       have Hbd:=zH (show Below wq.heap.size wq wr.drew.drew from Hb9.o.drew.drew);clear f0 f1 f2 f3 f4 f5 f6 hk0 hk1;generalize wr.drew.drew=wd at*
       have HAd:=zH ((Hbd.o.block _ (ai HAr.o)).trans HAr.o);have HYd:=zH (ao HoY.o Hbd.o (G8 _));have HKd:=zH (ao HoK.o Hbd.o (G8 _));obtain⟨⟨f0,f1,f2,f3⟩,f4,f5,f6⟩:=aN HAd.o;have LV:=zH (show bv<wd.heap.size from ai HAd.o);have LAY:=zH (show ay<wd.heap.size from Ig Hay.o (G9 Hbw.o.size Hbd.o.size));have Y4:=zH (show wd.drew.cell? ⟨bv,4,G0⟩=_ from f4);have Y3:=zH (show wd.drew.cell? ⟨bv,3,G0⟩=_ from f3);have Hry:=zH (RC.of_own HYd.o);have Hrk:=zH (RC.of_own HKd.o);have HoneY:=zH (HcY.o.cells fun _ _ h=>h.one);have HoneK:=zH (HcK.o.cells fun _ _ h=>h.one);have HoTY:=zH (fun u hu=>HoneY.o u (Jl (i:=Y.length*2) hu));have HoDY:=zH (fun u hu=>HoneY.o u (Jv (i:=Y.length*2) hu));have HoTK:=zH (fun u hu=>HoneK.o u (Jl (i:=Y.length*7) hu));have HoDK:=zH (fun u hu=>HoneK.o u (Jv (i:=Y.length*7) hu));have HcTY:=zH (HcY.o.take (k:=Y.length) (G8 _));have HcDY:=zH (HcY.o.drop (k:=Y.length) (G8 _));have HcTK:=zH (HcK.o.take (k:=Y.length) (Nat.le_of_eq HYK.o));have HcDK:=zH (HcK.o.drop (k:=Y.length) (Nat.le_of_eq HYK.o));have HlY:=zH (show ys.length=Y.length*2 from HYd.o.1);have HlK:=zH (show xs.length=Y.length*7 from HKd.o.1);have HTY:=zH (Hry.o.take (G8 _));have HTK:=zH (Hrk.o.take (G8 _));have d6:Y.length<=cK:=by omega
       have d5:Y.length<=cY:=by omega
       have n0:=ae Hbd.o ck0;have n1:=ae Hbd.o ck1;go_upto_region 18 with(first
        |((with_reducible refine JZ ?_);refine fE (by repeat first|exact JW|refine JU rfl ?_|refine JT (by decide+kernel) ?_|refine JP rfl LV.o Y4.o ?_|refine JP rfl LV.o Y3.o ?_) ?_)
        |((with_reducible refine JX ?_);refine gL (fun x=>x<wd.heap.size) ?_)
        |(with_reducible first|refine qH ?_|refine JV ?_|refine JY ?_)
        |((with_reducible refine J0 ?_);first|(refine JQ hex3.o ?_)|(refine JQ hex5.o ?_)|(refine JQ (IF _ _) ?_)|(refine JQ (Is _) ?_))
        |(at_builtin;(refine aC rfl (.const (GU G0 0 0)) (.tmp 79) 29 rfl 103 (by kernel_rfl) dI rfl (by decide) (by decide) wd.heap.size wd.drew qy 0 Y.length _ [] (ys.take (Y.length*2)) (G8 _) (GU G0 0 0) rfl rfl (Io _ _ _ _) (HTY.o.below (Below.refl _ _).drew) HoTY.o (by omega) ?_);intro v3 w3 ho3 hf3;have hb3:Below wd.heap.size wd.drew w3:=(hf3.below (G8 _) (by simp) (fun g hg=>by simp[I0]at hg));have hex3:=zH (show Hh (fun x=>x<wd.heap.size) wd.drew w3 from bX hb3);have Hb3:=zH (show Below wd.heap.size wd w3 from(Below.refl _ _).drew.trans hb3);rw[IV,I8]at ho3;obtain⟨p3,c3,rfl⟩:=aB ho3;have Ho3:=zH ho3;have f3':=ae Hb3.o f3;clear ho3 hf3 hb3)
        |(go_at_call 99;refine(mu _ Y.length _ (xs.take (Y.length*7)) w3 (HTK.o.below Hb3.o) HoTK.o (by omega)).mono ?_;rintro e w5 ⟨v5,rfl,ho5,hb5⟩;obtain⟨p5,c5,rfl⟩:=aB ho5;have hex5:=zH (show Hh (fun x=>x<wd.heap.size) w3 w5 from bX (hb5.mono Hb3.o.size));have Ho5:=zH (bG ho5 Hb3.o.size);have Hb5:=zH (Hb3.o.trans (hb5.mono Hb3.o.size));have Ho3b:=zH (ao Ho3.o hb5 (G8 _));clear ho5 hb5))
       clear f0 f1 f2 f3 f4 f5 f6;have HA5:=zH ((Hb5.o.block _ LV.o).trans HAd.o);obtain⟨⟨f0,f1,f2,f3⟩,f4,f5,f6⟩:=aN HA5.o;have m0:=ae Hb5.o n0;have m1:=ae Hb5.o n1;have Yk:=zH (show w5.drew.cell? ⟨ay,oy+i*2,G0⟩=_ from m0);have Y4':=zH (show w5.drew.cell? ⟨bv,4,G0⟩=_ from f4);have Hwx:=zH (Hb5.o.drew.alloc Hb5.o.size (GY #[GX GZ ky.kind,GW ky.text] 103));have Ho3x:=zH (ao Ho3b.o ((Below.refl w5.heap.size w5).drew.alloc (G8 _) (GY #[GX GZ ky.kind,GW ky.text] 103)) (G8 _));have Ho5x:=zH (ao Ho5.o ((Below.refl w5.heap.size w5).drew.alloc (G8 _) (GY #[GX GZ ky.kind,GW ky.text] 103)) (G8 _));go_upto_region 19 with(first
        |((with_reducible refine JZ ?_);refine fE (by repeat first|exact JW|refine JU rfl ?_|refine JT (by decide+kernel) ?_|refine JP rfl LV.o Y4'.o ?_|refine JP rfl LAY.o Yk.o ?_) ?_)
        |((with_reducible refine JX ?_);refine gL (fun x=>x<wd.heap.size) ?_)
        |(with_reducible first|refine qH ?_|refine JV ?_|refine JY ?_)
        |((with_reducible refine J0 ?_);first|(refine JQ hex6.o ?_)|(refine JQ hex7.o ?_)|(refine JQ (IF _ _) ?_)|(refine JQ (Is _) ?_))
        |(at_builtin;first
         |(refine aA rfl (.tmp 86) (.tmp 91) 29 rfl 103 (by kernel_rfl) dI rfl (by decide) (by decide) wd.heap.size _ w5.drew.heap.size [GX GZ ky.kind,GW ky.text] (HG w5.drew _) (G9 Hb5.o.size (by simp)) rfl (by intro u hu;simp at hu;rcases hu with rfl|rfl<;>rfl) (GU p3 Y.length c3) Y.length (ys.take (Y.length*2)) rfl Ho3x.o (by omega) rfl ?_;intro v6 w6 ho6 hf6;have hb6:=(hf6.below (G9 Hb5.o.size (by simp)) (by simp) fun g hg=>(Ho3x.o.lt g hg).1);have hex6:=zH (show Hh (fun x=>x<wd.heap.size) (w5.drew.alloc (GY #[GX GZ ky.kind,GW ky.text] 103)) w6 from bX hb6);have Hb6:=zH (Hwx.o.trans hb6);have Ho5c:=zH (dB Ho5x.o Ho3x.o (by decide) hf6);obtain⟨p6,c6,rfl⟩:=aB ho6;have Ho6:=zH ho6;have f4x:w6.cell? ⟨bv,4,G0⟩=_:=(Hb6.o.cell (p:=⟨bv,_,G0⟩) LV.o).trans Y4.o;clear ho6 hf6 hb6)
         |(refine aC rfl (.tmp 92) (.tmp 96) 29 rfl 103 (by kernel_rfl) dI rfl (by decide) (by decide) wd.heap.size w6 _ (Y.length+1) 0 _ (ys.take (Y.length*2)++[GX GZ ky.kind,GW ky.text]) [] Hb6.o.size (GU p6 (Y.length+1) c6) rfl rfl Ho6.o (RC.nil _ _ _) (by simp) (by omega) ?_;intro v7 w7 ho7 hf7;have hb7:=(hf7.below Hb6.o.size (by simp) fun g hg=>(Ho6.o.lt g hg).1);have hex7:=zH (show Hh (fun x=>x<wd.heap.size) w6 w7 from bX hb7);have Hb7:=zH (Hb6.o.trans hb7);have Ho5d:=zH (dB Ho5c.o Ho6.o (by decide) hf7);obtain⟨p7,c7,rfl⟩:=aB ho7;have Ho7:=zH ho7;have HA7:=zH ((Hb7.o.block _ LV.o).trans HAd.o);obtain⟨-,hz4,-,-⟩:=aN HA7.o;have hz5:w7.frozen? ⟨bv,4,G0⟩=false:=(by simp[IB,HA7.o]);clear ho7 hf7 hb7)))
       have HU8:=zH (Upd.set (i:=4) (v:=GU p7 (Y.length+1+0) c7) (Upd.refl HA7.o));have Hb8:=zH (show Below bv wd (w7.setCell ⟨bv,4,G0⟩ (GU p7 (Y.length+1+0) c7))from(Hb7.o.mono (Nat.le_of_lt LV.o)).trans (HU8.o.below (G8 _)));have Ho7e:=zH (bC Ho7.o HU8.o LV.o);have Ho5e:=zH (bC Ho5d.o HU8.o LV.o);have HA8:=zH (show(w7.setCell ⟨bv,4,G0⟩ (GU p7 (Y.length+1+0) c7)).heap[bv]? =G5 (GY #[GX GZ 8,GX GZ 0,GW ⟨#[]⟩,(GU qk Y.length cK),(GU p7 (Y.length+1+0) c7),GU G0 0 0,GU G0 0 0] 33)from by have:=HU8.o.blk;simpa using this);have Hcx:=zH (fun(a o:Nat) (z:Value) (ha:a<bv) (h:wd.cell? ⟨a,o,G0⟩=G5 z)=>(Hb8.o.cell (p:=⟨a,o,G0⟩) ha).trans h);have HDK8:=zH (show RC (w7.setCell ⟨bv,4,G0⟩ (GU p7 (Y.length+1+0) c7)) 7 G0 0 []from RC.nil _ _ _);clear f0 f1 f2 f3 f4 f5 f6 m0 m1 hz4 hz5;generalize w7.setCell ⟨bv,4,G0⟩ (GU p7 (Y.length+1+0) c7)=w8 at*
       obtain⟨⟨f0,f1,f2,f3⟩,f4,f5,f6⟩:=aN HA8.o;have hax2:ax<bv:=Ig Hax.o (G9 (Nat.le_of_lt hlC) Hsr.o);have LAX:=zH (show ax<wd.heap.size from Nat.lt_trans hax2 LV.o);have x0':=Hcx.o ax _ _ hax2 (ae Hbd.o cx0);have x1':=Hcx.o ax _ _ hax2 (ae Hbd.o cx1);have x2':=Hcx.o ax _ _ hax2 (ae Hbd.o cx2);have x3':=Hcx.o ax _ _ hax2 (ae Hbd.o cx3);have x4':=Hcx.o ax _ _ hax2 (ae Hbd.o cx4);have x5':=Hcx.o ax _ _ hax2 (ae Hbd.o cx5);have x6':=Hcx.o ax _ _ hax2 (ae Hbd.o cx6);have Yx:=zH (show w8.drew.cell? ⟨ax,ox+i*7,G0⟩=_ from x0');have Y3x:=zH (show w8.drew.cell? ⟨bv,3,G0⟩=_ from f3);have Hs8:=zH (show wd.heap.size<=w8.heap.size from Hb8.o.size);have Hox:=zH (HX.o.one);have Ho5g:=zH (ao Ho5e.o ((Below.refl w8.heap.size w8).drew.alloc (G8 _) (GY #[GX GZ x.kind,GX GZ x.num,GW x.text,GU x1 x.kids.length x2,GU x3 x.keys.length x4,GU x5 x.ents.length x6,GU x7 x.labels.length x8] 33)) (G8 _));have Ho7g:=zH (ao Ho7e.o ((Below.refl w8.heap.size w8).drew.alloc (G8 _) (GY #[GX GZ x.kind,GX GZ x.num,GW x.text,GU x1 x.kids.length x2,GU x3 x.keys.length x4,GU x5 x.ents.length x6,GU x7 x.labels.length x8] 33)) (G8 _));have Hw8x:=zH ((Below.refl w8.heap.size w8).drew.alloc (G8 _) (GY #[GX GZ x.kind,GX GZ x.num,GW x.text,GU x1 x.kids.length x2,GU x3 x.keys.length x4,GU x5 x.ents.length x6,GU x7 x.labels.length x8] 33));go_upto_region 11 with(first
        |((with_reducible refine JZ ?_);refine fE (by repeat first|exact JW|refine JU rfl ?_|refine JT (by decide+kernel) ?_|refine JP rfl LV.o Y3x.o ?_|refine JP rfl LAX.o Yx.o ?_) ?_)
        |((with_reducible refine JX ?_);refine gL (fun x=>x<wd.heap.size) ?_)
        |(with_reducible first|refine qH ?_|refine JV ?_|refine JY ?_)
        |((with_reducible refine J0 ?_);first|(refine JQ hex9.o ?_)|(refine JQ hexA.o ?_)|(refine JQ (IF _ _) ?_)|(refine JQ (Is _) ?_))
        |(at_builtin;first
         |(refine aA rfl (.tmp 99) (.tmp 104) 28 rfl 33 (by kernel_rfl) cg rfl (by decide) (by decide) wd.heap.size _ w8.drew.heap.size [GX GZ x.kind,GX GZ x.num,GW x.text,GU x1 x.kids.length x2,GU x3 x.keys.length x4,GU x5 x.ents.length x6,GU x7 x.labels.length x8] (HG w8.drew _) (G9 Hs8.o (by simp)) rfl Hox.o (GU p5 Y.length c5) Y.length (xs.take (Y.length*7)) rfl Ho5g.o (by omega) rfl ?_;intro v9 w9 ho9 hf9;have hb9:=(hf9.below (G9 Hs8.o (by simp)) (by simp) fun g hg=>(Ho5g.o.lt g hg).1);have hex9:=zH (show Hh (fun x=>x<wd.heap.size) (w8.drew.alloc (GY #[GX GZ x.kind,GX GZ x.num,GW x.text,GU x1 x.kids.length x2,GU x3 x.keys.length x4,GU x5 x.ents.length x6,GU x7 x.labels.length x8] 33)) w9 from bX hb9);have Hb9x:=zH (show Below wd.heap.size w8 w9 from(Hw8x.o.mono Hs8.o).trans hb9);have Ho7h:=zH (dB Ho7g.o Ho5g.o (by decide) hf9);obtain⟨p9,c9,rfl⟩:=aB ho9;have Ho9:=zH ho9;have f3x:w9.cell? ⟨bv,3,G0⟩=_:=(Hb9x.o.cell (p:=⟨bv,_,G0⟩) LV.o).trans f3;clear ho9 hf9 hb9)
         |(refine aC rfl (.tmp 105) (.tmp 109) 28 rfl 33 (by kernel_rfl) cg rfl (by decide) (by decide) wd.heap.size w9 _ (Y.length+1) 0 _ (xs.take (Y.length*7)++[GX GZ x.kind,GX GZ x.num,GW x.text,GU x1 x.kids.length x2,GU x3 x.keys.length x4,GU x5 x.ents.length x6,GU x7 x.labels.length x8]) [] (G9 Hs8.o Hb9x.o.size) (GU p9 (Y.length+1) c9) rfl rfl Ho9.o (RC.nil _ _ _) (by simp) (by omega) ?_;intro vA wA' hoA hfA;have hbA:=(hfA.below (G9 Hs8.o Hb9x.o.size) (by simp) fun g hg=>(Ho9.o.lt g hg).1);have hexA:=zH (show Hh (fun x=>x<wd.heap.size) w9 wA' from bX hbA);have HbA':=zH (Hb9x.o.trans hbA);have Ho7k:=zH (dB Ho7h.o Ho9.o (by decide) hfA);obtain⟨pA,cA,rfl⟩:=aB hoA;have HoA:=zH hoA;have HAA:=zH ((HbA'.o.block _ LV.o).trans HA8.o);obtain⟨⟨-,-,-,hz3⟩,-,-,-⟩:=aN HAA.o;have hz5:wA'.frozen? ⟨bv,3,G0⟩=false:=(by simp[IB,HAA.o]);clear hoA hfA hbA)))
       have HUB:=zH (Upd.set (i:=3) (v:=GU pA (Y.length+1+0) cA) (Upd.refl HAA.o));have hbB:Below bv wd (wA'.setCell ⟨bv,3,G0⟩ (GU pA (Y.length+1+0) cA)):=Hb8.o.trans ((HbA'.o.mono (Nat.le_of_lt LV.o)).trans (HUB.o.below (G8 _)));have hoY':=bG (bC Ho7k.o HUB.o LV.o) (B':=bv+1) LV.o;have hoK':=bG (bC HoA.o HUB.o LV.o) (B':=bv+1) LV.o;have hAB:(wA'.setCell ⟨bv,3,G0⟩ (GU pA (Y.length+1+0) cA)).heap[bv]? =G5 (GY #[GX GZ 8,GX GZ 0,GW ⟨#[]⟩,(GU pA (Y.length+1+0) cA),(GU p7 (Y.length+1+0) c7),GU G0 0 0,GU G0 0 0] 33):=by have:=HUB.o.blk;simpa using this
       clear f0 f1 f2 f3 f4 f5 f6 hz3;generalize wA'.setCell ⟨bv,3,G0⟩ (GU pA (Y.length+1+0) cA)=wB at*
       have lY:(Y.take Y.length++[ky]++Y.drop Y.length).length=Y.length+1+0:=by rw[Ii,Ii,IN,I4,Ju];omega
       have lK:(K.take Y.length++[x]++K.drop Y.length).length=Y.length+1+0:=by rw[Ii,Ii,IN,I4,Ju];have:=HYK.o;omega
       have hsm:((K.take Y.length++[x]++K.drop Y.length).map VV.nodes).sum=((l.take (i+1)).map VV.nodes).sum:=by
        rw[Hsum1.o,<-Hsum.o]
        conv=>rhs;rw[<-List.take_append_drop Y.length K]
        simp only[Jb,List.sum_append,IY,List.map_nil,Jg,List.sum_nil];omega
       go_wp2;refine⟨⟨i+1,K.take Y.length++[x]++K.drop Y.length,Y.take Y.length++[ky]++Y.drop Y.length,xs.take (Y.length*7)++[GX GZ x.kind,GX GZ x.num,GW x.text,GU x1 x.kids.length x2,GU x3 x.keys.length x4,GU x5 x.ents.length x6,GU x7 x.labels.length x8]++[],ys.take (Y.length*2)++[GX GZ ky.kind,GW ky.text]++[],_,_,by go_num,by omega,by rw[lK];have:=HYi.o;omega,by rw[lY];have:=HYi.o;omega,hsm,hAB,by rw[lK];exact hoK',?_,by rw[lY];exact hoY',?_,Hbr.o.trans ((Hbd.o.mono Hbr.o.size).trans (hbB.mono Hsr.o))⟩,by simp[intOf];omega⟩
       ·have hz:=HcDK.o;have ez:xs.drop (Y.length*7)=[]:=JI (by rw[HlK.o];exact G8 _);rw[ez]at hz;exact(HcTK.o.append (Ch.single rfl HXb.o)).append hz
       ·have hz:=HcDY.o;have ez:ys.drop (Y.length*2)=[]:=JI (by rw[HlY.o];exact G8 _);rw[ez]at hz;exact(HcTY.o.append (Ch.single rfl rfl)).append hz
    ·have d9:decide (i<keys.length)=false:=by simp;omega
     have hil:l.take i=l:=List.take_of_length_le (by have:=Hlen.o;omega);obtain⟨⟨f0,f1,f2,f3⟩,f4,f5,f6⟩:=aN HAr.o;have hC:=(Hbr.o.block _ hlC).trans HC.o;go_wp2_with(with_reducible refine sR rfl 33 (.tmp 4) (.tmp 112) rfl rfl rfl hC ?_);refine Jm (aV rfl _ _ w.heap.size 33 _ (0,0) _ rfl (sH hC) rfl rfl (by kernel_rfl)) rfl ?_;have hO:Old (ex E w.heap.size) (bv+1):=dU (HE.o.mono (by have:=Hsr.o;omega)) (by have:=Hsr.o;omega);obtain⟨pk,ck,ek,hrk⟩:=bu (bJ (by rw[<-HYK.o]at*;exact HoK.o) hO) (HcK.o.mono fun x cs _ h=>h.below (ew Hbw.o (G8 _))) (by have:=HYK.o;omega);obtain⟨py,cy,ey,hry⟩:=bu (bJ HoY.o hO) HcY.o (by omega);injection ek with ek1 _ ek3
     injection ey with ey1 _ ey3
     subst ek1 ek3 ey1 ey3;refine⟨_,.mk 8 0 aQ K Y [] [],0,rfl,j3 (x:=w.heap.size) ⟨d+1,_,rfl,qk,cK,qy,cY,G0,0,G0,0,congrArg (fun n:Nat=>([GX GZ 8,GX GZ 0,GW ⟨#[]⟩,GU qk n cK,GU qy Y.length cY,GU G0 0 0,GU G0 0 0]:List Value)) HYK.o,hrk,hry,Rw.nil _ _ _ _ _,Rw.nil _ _ _ _ _⟩ _,?_,rfl,aR Hbw.o (G8 _)⟩;rw[VV.nodes,cS,Hsum.o,hil];simp[nodesEs]
end Go.Proofs.YtfpahmeploondaaGreatDoor
