/- Walks and plain facts for the law on type variables, for all values and types that the heap holds (texts Tg X8). -/
import Derived.Test.YtfpahmeploondaaGreatDoorR03
import Derived.Test.YtfpahmeploondaaGreatDoorR23
import Derived.Test.YtfpahmeploondaaGreatDoorR24
set_option linter.unusedVariables false
set_option linter.unusedSimpArgs false
set_option maxHeartbeats 64000000
open Option renaming none -> G0, some -> G5
open Bool renaming true -> G6, false -> G7
open Go.Value renaming slice -> GU, string -> GW, int -> GX
open Go.Obj renaming cells -> GY
open Go.IntKind renaming i64 -> GZ
open Nat renaming lt_succ_iff_lt_or_eq -> IP, lt_of_lt_of_le -> Ig, le_trans -> G9, add_zero -> Im, zero_add -> IV, le_refl -> G8
open List renaming length_singleton -> Ju, mem_of_mem_take -> Jl, mem_of_mem_drop -> Jv, length_append -> Ii, all_eq_true -> Ij, length_take -> IN, length_drop -> I4, nil_append -> I8
open Go.World renaming ownsRow_nil -> Io
open Go.LexK.Ext renaming of_below -> IL, alloc -> IF, refl -> Is
open Go renaming heap_alloc_new -> HG
open Go.Value renaming ownBlock -> I0
open Bool renaming true_and -> Jd
open Go.Op renaming bytesLess -> Ja
open Go.LexK renaming Ext -> Hh, an -> JP, aq -> JQ, aH -> JT, aG -> JU, aK -> JV, aL -> JW, aO -> JY
open Go.Lex renaming aI -> JX, aP -> JZ, aX -> J0
namespace Go.Proofs.YtfpahmeploondaaGreatDoor
open Go.RowKit
set_option maxRecDepth 100000
theorem EO {y x:ByteArray}(h:Ja y.toList x.toList=G6):bD y x<0:=by rw[vp]at h;exact of_decide_eq_true h
theorem EP {y x:ByteArray}(h:(y.toList==x.toList)=G6):bD y x=0:=by
 rw[iU,decide_eq_true_eq]at h;subst h;exact ordS_lo.self trivial
theorem ET {y x:ByteArray}(h1:Ja y.toList x.toList=G7)(h2:(y.toList==x.toList)=G7):0<bD y x:=by
 rw[vp]at h1;have h3:=of_decide_eq_false h1;rw[iU]at h2;have h4:=of_decide_eq_false h2;have h5:bD y x≠0:=fun e=>h4 (ir e)
 omega
theorem vq {l:List ByteArray}{j:Nat}(h:j<l.length):fW (l.take (j+1))=fI l[j] (fW (l.take j)):=by
 unfold fW;rw[List.take_succ_eq_append_getElem h,List.foldl_append];rfl
theorem tn(E:Nat->Bool)(l:List ByteArray)(w:World)(v:Value)(hE:Old E w.heap.size)(h:SS (we E w) v l)(hl:l.length<=100001):Calls Tryz.prog 20 #[v] w fun e w'=>∃v',e=.returned v'/\SS (we E w') v' (fW l)/\Below w.heap.size w w':=by
 have Hbw:=zH hE;obtain⟨p,c,rfl,hr⟩:=h;have HR:=zH hr;clear hr hE;go_enter Tryz.func20,Tryz.ntmps20;go_wp2;go_loopw[3,4] (fun v i wr=>∃(j:Nat) (O:List ByteArray) (xs:List Value),j<=l.length/\i=GX GZ j/\(O.length<=j/\O=fW (l.take j))/\wr.ownsRow w.heap.size 9 1 v O.length xs/\Ch 1 SC O xs/\Below w.heap.size w wr) (fun _ i _=>l.length-(intOf i).toNat)
 case atStart=>exact⟨0,[],[],by omega,rfl,⟨by simp,by simp[fW]⟩,Io _ _ _ _,Ch.nil,Below.refl _ _⟩
 case round=>
  obtain⟨j,O,xs,hj,rfl,⟨hO,hOs⟩,ho,hc,hbr⟩:=hrel;have Ho:=zH ho;have Hc:=zH hc;have Hbr:=zH hbr;have HO:=zH hO;have HOs:=zH hOs;have hol:O.length<=100001:=by omega
  clear ho hc hbr hO hOs;by_cases hlt:j<l.length
  ·have d9:decide (j<l.length)=true:=by simp;omega
   obtain⟨a,o,cs,rfl,hab,-,hrg,hX⟩:=HR.o.at hlt;have hab:a<w.heap.size:=by rwa[ap]at hab
   have Hax:=zH hab;unfold SC at hX;subst hX;have c0:=(aJ (hrg 0 _ rfl)).2;simp only[Nat.mul_one,Im]at c0;have Hlast:=zH hlt;have Hst:=zH (show fW (l.take (j+1))=fI l[j] O from by rw[HOs.o];exact vq hlt);clear hrg;generalize l[j]=x at*
   obtain⟨q,cap1,rfl⟩:=aB Ho.o;have hcap1:O.length<=cap1:=eo Ho.o;go_wp2;go_loopw[5] (fun i wi=>∃k:Nat,k<=O.length/\i=GX GZ k/\wi.ownsRow w.heap.size 9 1 (GU q O.length cap1) O.length xs/\Below w.heap.size w wi/\∀m (h:m<O.length),m<k->bD O[m] x<0) (fun i _=>O.length-(intOf i).toNat)
   case atStart=>exact⟨0,by omega,rfl,Ho.o,Hbr.o,fun m h hm=>by omega⟩
   case round=>
    obtain⟨k,hk,rfl,ho2,hb2,hls⟩:=hrel;have Hls:=zH hls;clear hls;have Ho2:=zH ho2;have Hb2:=zH hb2;clear ho2 hb2;have z0:=ae Hb2.o c0;by_cases hkl:k<O.length
    ·have d8:decide (k<O.length)=true:=by simp;omega
     obtain⟨q',cap',eq',hrw⟩:=bu Ho2.o Hc.o (by omega);injection eq' with eq1 _ eq3
     subst eq1 eq3;obtain⟨g,og,cs',rfl,hg,-,hrg',hY⟩:=hrw.at hkl;unfold SC at hY;subst hY;have v0:=hrg' 0 _ rfl;simp only[Nat.mul_one,Im]at v0;clear hrw hrg';have Hnx:=zH (show bD O[k] x<0->∀m (h:m<O.length),m<k+1->bD O[m] x<0 from fun h m hm hmk=>by
      rcases IP.1 hmk with g|rfl
      ·exact Hls.o m hm g
      ·exact h)
     have Hin:=zH (show bD O[k] x=0->fI x O=O from fun h=>wJ Hls.o ⟨hkl,h⟩);have Hatk:=zH (show 0<bD O[k] x->fI x O=O.take k++[x]++O.drop k from fun h=>qR Hls.o hk fun _=>h);generalize O[k]=y at*
     cases hb1:Ja y.toList x.toList with
     | true =>
       have Hnx2:=zH (Hnx.o (EO hb1));go_wp2_with(first
        |(with_reducible refine rg ?_)
        |(with_reducible refine fo ?_))
       exact⟨⟨k+1,by omega,by go_num,ao Ho2.o (Below.refl _ _).drew (G8 _),Hb2.o.drew,Hnx2.o⟩,by simp[intOf];omega⟩
     | false =>
       cases hb2:(y.toList==x.toList)with
       | true =>
         have Hin2:=zH (Hin.o (EP hb2));go_wp2_with(first
          |(with_reducible refine rg ?_)
          |(with_reducible refine fo ?_))
         exact⟨⟨j+1,O,xs,by omega,by go_num,⟨by have:=HO.o;omega,by rw[Hst.o,Hin2.o]⟩,ao Ho2.o (Below.refl _ _).drew.drew (G8 _),Hc.o,Hb2.o.drew.drew⟩,by simp[intOf];omega⟩
       | false =>
         have Hat2:=zH (Hatk.o (ET hb1 hb2));go_upto_region 9 with(first
          |(with_reducible refine rg ?_)
          |(with_reducible refine fo ?_))
         have Hod:=zH (ao Ho2.o (Below.refl _ _).drew.drew (G8 _));have Hbd:=zH Hb2.o.drew.drew;clear z0 v0 Ho2 Hb2 hb1 hb2;generalize wr.drew.drew=wd at*
         have Hrc:=zH (RC.of_own Hod.o);have Hone:=zH (Hc.o.cells fun _ _ h=>h.one);have HcT:=zH (Hc.o.take (k:=k) hk);have HcD:=zH (Hc.o.drop (k:=k) hk);have HoT:=zH (fun u hu=>Hone.o u (Jl (i:=k*1) hu));have HoD:=zH (fun u hu=>Hone.o u (Jv (i:=k*1) hu));have Hlx:=zH (show xs.length=O.length*1 from Hod.o.1);have Hsd:=zH Hbd.o.size;have HrD:=zH (show RC wd 1 (G5 ⟨g,og+k,G0⟩) (O.length-k) (xs.drop (k*1))from by have:=Hrc.o.drop hk;simpa using this);have Q0:=zH (ae Hbd.o c0);clear c0 d8;go_wp2_with(first
          |((with_reducible refine JZ ?_);refine fE (by repeat first|exact JW|refine JU rfl ?_|refine JT (by decide+kernel) ?_|refine JP rfl Hax.o Hn0.o ?_) ?_)
          |((with_reducible refine JX ?_);refine gL (fun b=>b<w.heap.size) ?_;have n0:w3.drew.cell? ⟨a,o+j,G0⟩=_:=(Hb3.o.cell (p:=⟨a,_,G0⟩) (Ig Hax.o Hsd.o)).trans Q0.o;have Hn0:=zH n0)
          |(with_reducible first|refine qH ?_|refine JV ?_|refine JY ?_)
          | ((with_reducible refine J0 ?_); first
              |with_reducible refine JQ hex5.o ?_
              |refine JQ hex4.o ?_
              |refine JQ (IF _ _) ?_)
          |(at_builtin;first
           |(refine aC rfl (.const (GU G0 0 0)) (.tmp 47) 31 rfl 9 (by kernel_rfl) cm rfl (by decide) (by decide) wd.heap.size wd (G5 ⟨g,og,G0⟩) 0 k _ [] (xs.take (k*1)) (G8 _) (GU G0 0 0) rfl rfl (Io _ _ _ _) (Hrc.o.take hk) HoT.o (by omega) ?_;intro v3 w3 ho3 hf3;have Hb3:=zH (hf3.below (G8 _) (by simp) (fun g hg=>by simp[I0]at hg));rw[IV,I8]at ho3;obtain⟨p3,cap3,rfl⟩:=aB ho3;have Ho3:=zH ho3;clear ho3 hf3)
           |(refine aA rfl (.tmp 49) (.tmp 54) 31 rfl 9 (by kernel_rfl) cm rfl (by decide) (by decide) wd.heap.size _ w3.drew.heap.size [GW x] (HG w3.drew _) (G9 Hb3.o.size (by simp)) rfl (by intro u hu;simp at hu;subst hu;rfl) (GU p3 k cap3) k (xs.take (k*1)) rfl (ao Ho3.o ((Below.refl _ _).drew.alloc (G8 _) _) (G8 _)) (by omega) rfl ?_;intro v4 w4 ho4 hf4;have Hb4:=zH ((Hb3.o.drew.alloc Hb3.o.size _).trans (hf4.below (G9 Hb3.o.size (by simp)) (by simp) fun g hg=>(Ho3.o.lt g hg).1));have hex4:=zH (show Hh (fun b=>b<w.heap.size) (w3.drew.alloc (GY #[GW x] 9)) w4 from bX (hf4.below (G9 Hsd.o (G9 Hb3.o.size (by simp))) (by simp) fun g hg=>G9 Hsd.o (Ho3.o.lt g hg).1));obtain⟨p4,cap4,rfl⟩:=aB ho4;have Ho4:=zH ho4;clear ho4 hf4)
           |(refine aC rfl (.tmp 55) (.tmp 58) 31 rfl 9 (by kernel_rfl) cm rfl (by decide) (by decide) wd.heap.size w4 (G5 ⟨g,og+k,G0⟩) (k+1) (O.length-k) _ (xs.take (k*1)++[GW x]) (xs.drop (k*1)) Hb4.o.size (GU p4 (k+1) cap4) rfl rfl Ho4.o (HrD.o.below Hb4.o) HoD.o (by omega) ?_;intro v5 w5 ho5 hf5;have Hb5:=zH (Hb4.o.trans (hf5.below Hb4.o.size (by simp) fun g hg=>(Ho4.o.lt g hg).1));have hex5:=zH (show Hh (fun b=>b<w.heap.size) w4 w5 from bX (hf5.below (G9 Hsd.o Hb4.o.size) (by simp) fun g hg=>G9 Hsd.o (Ho4.o.lt g hg).1));have Ho5:=zH ho5;clear ho5 hf5)))
         have hlen:(O.take k++[x]++O.drop k).length=k+1+(O.length-k):=by rw[Ii,Ii,IN,I4,Ju];omega
         refine⟨⟨j+1,O.take k++[x]++O.drop k,xs.take (k*1)++[GW x]++(xs.drop (k*1)),by omega,by go_num,⟨by rw[hlen];have:=HO.o;omega,by rw[Hst.o,Hat2.o]⟩,by rw[hlen];exact bG Ho5.o Hsd.o,?_,Hbd.o.trans (Hb5.o.mono Hsd.o)⟩,by simp[intOf];omega⟩;exact(HcT.o.append (Ch.single rfl (by unfold SC;rfl))).append HcD.o
    ·obtain rfl:k=O.length:=by omega
     have d8:decide (O.length<O.length)=false:=by simp
     go_upto_region 9 with(first
      |(with_reducible refine rg ?_)
      |(with_reducible refine fo ?_))
     have Hod:=zH (ao Ho2.o (Below.refl _ _).drew.drew (G8 _));have Hbd:=zH Hb2.o.drew.drew;clear z0 Ho2 Hb2;generalize wr.drew.drew=wd at*
     have Hrc:=zH (RC.of_own Hod.o);have Hone:=zH (Hc.o.cells fun _ _ h=>h.one);have HcT:=zH (Hc.o.take (k:=O.length) (G8 _));have HcD:=zH (Hc.o.drop (k:=O.length) (G8 _));have HoT:=zH (fun u hu=>Hone.o u (Jl (i:=O.length*1) hu));have HoD:=zH (fun u hu=>Hone.o u (Jv (i:=O.length*1) hu));have Hlx:=zH (show xs.length=O.length*1 from Hod.o.1);have Hsd:=zH Hbd.o.size;have Q0:=zH (ae Hbd.o c0);clear c0 d8;go_wp2_with(first
      |((with_reducible refine JZ ?_);refine fE (by repeat first|exact JW|refine JU rfl ?_|refine JT (by decide+kernel) ?_|refine JP rfl Hax.o Hn0.o ?_) ?_)
      |((with_reducible refine JX ?_);refine gL (fun b=>b<w.heap.size) ?_;have n0:w3.drew.cell? ⟨a,o+j,G0⟩=_:=(Hb3.o.cell (p:=⟨a,_,G0⟩) (Ig Hax.o Hsd.o)).trans Q0.o;have Hn0:=zH n0)
      |(with_reducible first|refine qH ?_|refine JV ?_|refine JY ?_)
      | ((with_reducible refine J0 ?_); first
          |with_reducible refine JQ hex5.o ?_
          |refine JQ hex4.o ?_
          |refine JQ (IF _ _) ?_)
      |(at_builtin;first
       |(refine aC rfl (.const (GU G0 0 0)) (.tmp 47) 31 rfl 9 (by kernel_rfl) cm rfl (by decide) (by decide) wd.heap.size wd q 0 O.length _ [] (xs.take (O.length*1)) (G8 _) (GU G0 0 0) rfl rfl (Io _ _ _ _) (Hrc.o.take (G8 _)) HoT.o (by omega) ?_;intro v3 w3 ho3 hf3;have Hb3:=zH (hf3.below (G8 _) (by simp) (fun g hg=>by simp[I0]at hg));rw[IV,I8]at ho3;obtain⟨p3,cap3,rfl⟩:=aB ho3;have Ho3:=zH ho3;clear ho3 hf3)
       |(refine aA rfl (.tmp 49) (.tmp 54) 31 rfl 9 (by kernel_rfl) cm rfl (by decide) (by decide) wd.heap.size _ w3.drew.heap.size [GW x] (HG w3.drew _) (G9 Hb3.o.size (by simp)) rfl (by intro u hu;simp at hu;subst hu;rfl) (GU p3 O.length cap3) O.length (xs.take (O.length*1)) rfl (ao Ho3.o ((Below.refl _ _).drew.alloc (G8 _) _) (G8 _)) (by omega) rfl ?_;intro v4 w4 ho4 hf4;have Hb4:=zH ((Hb3.o.drew.alloc Hb3.o.size _).trans (hf4.below (G9 Hb3.o.size (by simp)) (by simp) fun g hg=>(Ho3.o.lt g hg).1));have hex4:=zH (show Hh (fun b=>b<w.heap.size) (w3.drew.alloc (GY #[GW x] 9)) w4 from bX (hf4.below (G9 Hsd.o (G9 Hb3.o.size (by simp))) (by simp) fun g hg=>G9 Hsd.o (Ho3.o.lt g hg).1));obtain⟨p4,cap4,rfl⟩:=aB ho4;have Ho4:=zH ho4;clear ho4 hf4)
       |(refine aC rfl (.tmp 55) (.tmp 58) 31 rfl 9 (by kernel_rfl) cm rfl (by decide) (by decide) wd.heap.size w4 _ (O.length+1) 0 _ (xs.take (O.length*1)++[GW x]) [] Hb4.o.size (GU p4 (O.length+1) cap4) rfl rfl Ho4.o (RC.nil _ _ _) (by simp) (by omega) ?_;intro v5 w5 ho5 hf5;have Hb5:=zH (Hb4.o.trans (hf5.below Hb4.o.size (by simp) fun g hg=>(Ho4.o.lt g hg).1));have hex5:=zH (show Hh (fun b=>b<w.heap.size) w4 w5 from bX (hf5.below (G9 Hsd.o Hb4.o.size) (by simp) fun g hg=>G9 Hsd.o (Ho4.o.lt g hg).1));have Ho5:=zH ho5;clear ho5 hf5)))
     have hlen:(O.take O.length++[x]++O.drop O.length).length=O.length+1+0:=by rw[Ii,Ii,IN,I4,Ju];omega
     refine⟨⟨j+1,O.take O.length++[x]++O.drop O.length,xs.take (O.length*1)++[GW x]++[],by omega,by go_num,⟨by rw[hlen];have:=HO.o;omega,by rw[Hst.o];exact(qR Hls.o (G8 _) fun h=>absurd h (Nat.lt_irrefl _)).symm⟩,by rw[hlen];exact bG Ho5.o Hsd.o,?_,Hbd.o.trans (Hb5.o.mono Hsd.o)⟩,by simp[intOf];omega⟩;have hz:=HcD.o;have ez:xs.drop (O.length*1)=[]:=List.drop_eq_nil_of_le (by rw[Hlx.o];exact G8 _);rw[ez]at hz;exact(HcT.o.append (Ch.single rfl (by unfold SC;rfl))).append hz
  ·obtain rfl:j=l.length:=by omega
   have d9:decide (l.length<l.length)=false:=by simp
   skip;go_wp2;go_ret;obtain⟨pz,cz,e7,hrw⟩:=bu (bJ Ho.o Hbw.o) Hc.o (by omega);have hfin:=HOs.o;rw[List.take_length]at hfin;subst hfin;exact⟨_,rfl,⟨pz,cz,e7,hrw⟩,Hbr.o⟩
open Go.RowKit Go.Ident
theorem jp {T:Ty}{n:TN}(hk:n.kind=13):bB T n=(decide (n.lo=0)&&(decide (n.hi=0)&&(decide (n.text.size=0)&&(decide (n.kids.length=0)&&(bW n.fields&&((n.fields.all fun f=>T.has f.node)&&(T.has n.rest0&&T.has n.rest1))))))):=by
 unfold bB bR bj bq jF nH;cases hf:n.kids with
 |nil=>rw[Bool.eq_iff_iff];simp[hk];try(constructor<;>(intro g;simp_all))
 |cons x r=>simp[hk]
theorem Ah {T:Ty}{n:TN}(hk:n.kind=13){j:Nat}(h:j<n.fields.length)(h1:T.has n.fields[j].node=G7):bB T n=false:=by
 have:(n.fields.all fun f=>T.has f.node)=false:=by
  rw[Bool.eq_false_iff];intro g;rw[Ij]at g;rw[g _ (List.getElem_mem h)]at h1;cases h1
 rw[jp hk,this];simp
theorem tp {T:Ty}{n:TN}(hk:n.kind=13)(h1:bW n.fields=G7):bB T n=false:=by rw[jp hk,h1];simp
theorem Ai(T:Ty)(n:TN)(hk:n.kind=13)(w:World)(t:Value)(cs:List Value)(ht:TS w t T)(h:NC w n cs)(hL:n.kids.length<=9223372036854775807):Calls Tryz.prog 72 #[t,.agg cs.toArray] w (ER (bB T n) w):=by
 have HT:=zH ht;obtain⟨pt,ct,rfl,-,-⟩:=ht;obtain⟨p1,c1,p2,c2,rfl,hkids,hfs⟩:=h;have HK:=zH hkids;have HF:=zH hfs;have hFL:=hfs.big;clear hkids hfs;have Hk:=zH hk;rw[hk];clear hk;have he:=kR n.rest0 n.rest1;go_enter Tryz.func72,Tryz.ntmps72;go_upto_region 1 with fail
 obtain⟨w2,e9,hA,hB,hb⟩:=bE w (GY #[GU pt T.nodes.length ct,GX GZ T.root] 27) (GY #[GX GZ 13,GX GZ n.lo,GX GZ n.hi,GW n.text,GU p1 n.kids.length c1,GU p2 n.fields.length c2,GX GZ n.rest0,GX GZ n.rest1] 61);rw[e9];obtain⟨t0,t1⟩:=aM hA;obtain⟨⟨f0,f1,f2,f3⟩,f4,f5,f6,f7⟩:=aY hB;have hlA:=ai hA;have hlB:=ai hB;have HA:=zH hA;have HB:=zH hB;have Hb:=zH hb;clear e9 hA hB hb;go_wp2;go_loopw[5] (fun i wr=>∃k:Nat,i=GX GZ k/\k<=n.kids.length/\(∀j (h:j<n.kids.length),j<k->T.has n.kids[j]=G6)/\Below w2.heap.size w2 wr) (fun i _=>n.kids.length-(intOf i).toNat)
 case atStart=>exact⟨0,rfl,by omega,fun j _ h=>by omega,Below.refl _ _⟩
 case round=>
  obtain⟨k,rfl,hk,hall,hbr⟩:=hrel;have Hall:=zH hall;have Hbr:=zH hbr;have Hbw:=zH (Hb.o.step hbr);clear hall hbr f0 f1 f2 f3 f4 f5 f6 f7 t0 t1;obtain⟨t0,t1⟩:=aM ((Hbr.o.block _ hlA).trans HA.o);obtain⟨⟨f0,f1,f2,f3⟩,f4,f5,f6,f7⟩:=aY ((Hbr.o.block _ hlB).trans HB.o);by_cases hlt:k<n.kids.length
  ·have d9:decide (k<n.kids.length)=true:=by simp;omega
   obtain⟨-,ak,ok,rfl,hak,zk⟩:=(HK.o.below Hbw.o).at hlt;have Hno:=zH (pV (T:=T) hlt);have Hnx:=zH (show T.has n.kids[k]=G6->∀j (h:j<n.kids.length),j<k+1->T.has n.kids[j]=G6 from fun g j h hj=>by
    rcases IP.1 hj with g2|rfl
    ·exact Hall.o j h g2
    ·exact g)
   have Hix:=zH (eE T n.kids[k] wr.drew _ (HT.o.below Hbw.o.drew));generalize n.kids[k]=x at*
   cases hx:T.has x with
   | false =>
     have Hf:=zH (Hno.o hx);rw[hx]at Hix;clear hx;go_wp2_with(first
      |(with_reducible refine rg ?_)
      |(with_reducible refine fo ?_)
      |(go_at_call 39;refine Hix.o.mono ?_;rintro e w6 ⟨rfl,hb6⟩;have Hb6:=zH (Hbw.o.drew.step hb6);clear hb6))
     go_ret;rw[Hf.o];exact⟨rfl,Hb6.o⟩
   | true =>
     have Hnx2:=zH (Hnx.o hx);rw[hx]at Hix;clear hx;go_wp2_with(first
      |(with_reducible refine rg ?_)
      |(with_reducible refine fo ?_)
      |(go_at_call 39;refine Hix.o.mono ?_;rintro e w6 ⟨rfl,hb6⟩;have Hb6:=zH (Hbr.o.drew.step hb6);clear hb6))
     exact⟨⟨k+1,by go_num,by omega,Hnx2.o,Hb6.o⟩,by simp[intOf];omega⟩
  ·have d9:decide (k<n.kids.length)=false:=by simp;omega
   clear hlt Hall HK;go_upto_region 6 with fail
   by_cases z0:n.lo=0;rotate_left
   ·have Hr:=zH (show bB T n=G7 by rw[jp Hk.o];simp[z0]);have d0:(n.lo==0)=false:=by simp[z0]
    have d0n:(n.lo !=0)=true:=by simp[z0]
    clear z0;go_wp2;go_ret;rw[Hr.o];exact⟨rfl,Hbw.o⟩
   have d0:(n.lo==0)=true:=by simp[z0]
   have d0n:(n.lo !=0)=false:=by simp[z0]
   by_cases z1:n.hi=0;rotate_left
   ·have Hr:=zH (show bB T n=G7 by rw[jp Hk.o];simp[z1]);have d1:(n.hi==0)=false:=by simp[z1]
    have d1n:(n.hi !=0)=true:=by simp[z1]
    clear z0 z1;go_wp2;go_ret;rw[Hr.o];exact⟨rfl,Hbw.o⟩
   have d1:(n.hi==0)=true:=by simp[z1]
   have d1n:(n.hi !=0)=false:=by simp[z1]
   by_cases z2:n.text.size=0;rotate_left
   ·have Hr:=zH (show bB T n=G7 by rw[jp Hk.o];simp[z2]);have d2:n.text.toList.isEmpty=false:=(cP n.text).trans (by simp[z2]);clear z0 z1 z2;go_wp2;go_ret;rw[Hr.o];exact⟨rfl,Hbw.o⟩
   have d2:n.text.toList.isEmpty=true:=(cP n.text).trans (by simp[z2]);have Hn:=zH (show bB T n=(decide (n.kids.length=0)&&(bW n.fields&&((n.fields.all fun f=>T.has f.node)&&(T.has n.rest0&&T.has n.rest1))))by rw[jp Hk.o];simp[z0,z1,z2]);clear z0 z1 z2;obtain⟨wq,hwq⟩:∃wq:World,wq=wr:=⟨_,rfl⟩
   subst hwq;go_wp2;clear d0 d0n d1 d1n d2;go_loopw[9] (fun i w9=>∃k:Nat,i=GX GZ k/\k<=n.fields.length/\((∀j (h:j<n.fields.length),j<k->T.has n.fields[j].node=G6)/\(∀j (h:j<n.fields.length),j<k->dq n.fields[j].key.kind n.fields[j].key.text.data.toList=G6)/\(∀j (h:j+1<n.fields.length),j+1<k->bN (n.fields[j]'(by omega)).key n.fields[j+1].key<0))/\Below w2.heap.size w2 w9) (fun i _=>n.fields.length-(intOf i).toNat)
   case atStart=>exact⟨0,rfl,by omega,⟨fun j _ h=>by omega,fun j _ h=>by omega,fun j _ h=>by omega⟩,Hbr.o⟩
   case round=>
    obtain⟨k,rfl,hk,hall,hb9⟩:=hrel;have Hall:=zH hall;have Hb9:=zH hb9;have Hbw9:=zH (Hb.o.step hb9);clear hall hb9 f0 f1 f2 f3 f4 f5 f6 f7 t0 t1;obtain⟨t0,t1⟩:=aM ((Hb9.o.block _ hlA).trans HA.o);obtain⟨⟨f0,f1,f2,f3⟩,f4,f5,f6,f7⟩:=aY ((Hb9.o.block _ hlB).trans HB.o);by_cases hlt:k<n.fields.length
    ·have d9:decide (k<n.fields.length)=true:=by simp;omega
     obtain⟨a,o,cs,rfl,hab,-,hrng,rfl⟩:=HF.o.all hlt;have hr:=hrng wr Hbw9.o;have z0:=hr 0 _ rfl;have z1:=hr 1 _ rfl;have z2':=hr 2 _ rfl;have z3:=hr 3 _ rfl;rw[Im]at z0;clear hr hrng;have Hno1:=zH (Ah (T:=T) Hk.o hlt);have Hno2:=zH (show dq n.fields[k].key.kind n.fields[k].key.text.data.toList=G7->bB T n=G7 from fun h=>tp Hk.o (pO hlt h));have Hnx0:=zH (show T.has n.fields[k].node=G6->∀j (h:j<n.fields.length),j<k+1->T.has n.fields[j].node=G6 from fun g j h hj=>by
      rcases IP.1 hj with g2|rfl
      ·exact Hall.o.1 j h g2
      ·exact g)
     have Hnx1:=zH (show dq n.fields[k].key.kind n.fields[k].key.text.data.toList=G6->∀j (h:j<n.fields.length),j<k+1->dq n.fields[j].key.kind n.fields[j].key.text.data.toList=G6 from fun g j h hj=>by
      rcases IP.1 hj with g2|rfl
      ·exact Hall.o.2.1 j h g2
      ·exact g)
     rcases Nat.eq_zero_or_pos k with hk0|hk0
     ·subst hk0;simp only[Nat.zero_mul,Im]at z0 z1 z2' z3;have Hnx:=zH (show T.has n.fields[0].node=G6->dq n.fields[0].key.kind n.fields[0].key.text.data.toList=G6->((∀j (h:j<n.fields.length),j<0+1->T.has n.fields[j].node=G6)/\(∀j (h:j<n.fields.length),j<0+1->dq n.fields[j].key.kind n.fields[j].key.text.data.toList=G6)/\(∀j (h:j+1<n.fields.length),j+1<0+1->bN (n.fields[j]'(by omega)).key n.fields[j+1].key<0))from fun g1 g2=>⟨Hnx0.o g1,Hnx1.o g2,fun j h hj=>by omega⟩);clear Hnx0 Hnx1 Hall;generalize n.fields[0]=f at*
      obtain⟨wo',hwo⟩:∃wo':World,wo'=wr:=⟨_,rfl⟩
      subst hwo;go_upto_region 47 with fail
      have hnew:=HG wo' (GY #[GX GZ f.key.kind,GW f.key.text,GX GZ f.node,.bool f.opt] 105);have ho:Below wo'.heap.size wo' (wo'.alloc (GY #[GX GZ f.key.kind,GW f.key.text,GX GZ f.node,.bool f.opt] 105)):=(Below.refl _ _).alloc (G8 _) _;generalize wo'.alloc (GY #[GX GZ f.key.kind,GW f.key.text,GX GZ f.node,.bool f.opt] 105)=w5 at*
      have Hbr5:=zH (Hb9.o.step ho);obtain⟨a0,a1,a2,a3⟩:=qG hnew;clear f0 f1 f2 f3 f4 f5 f6 f7 t0 t1;have tA:=(Hbr5.o.block _ hlA).trans HA.o;have tB:=(Hbr5.o.block _ hlB).trans HB.o;obtain⟨t0,t1⟩:=aM tA;obtain⟨⟨f0,f1,f2,f3⟩,f4,f5,f6,f7⟩:=aY tB;have LB:=zH (show wo'.heap.size<w5.drew.heap.size from ai hnew);have LT:=zH (show w.heap.size<w5.drew.heap.size from ai tA);have LN:=zH (show w.heap.size+1<w5.drew.heap.size from ai tB);have YT:=zH (show w5.drew.cell? ⟨w.heap.size,0,G0⟩=_ from t0);have YN:=zH (show w5.drew.cell? ⟨w.heap.size+1,5,G0⟩=_ from f5);have YB0:=zH (show w5.drew.cell? ⟨wo'.heap.size,0,G0⟩=_ from a0);have YB2:=zH (show w5.drew.cell? ⟨wo'.heap.size,2,G0⟩=_ from a2);have Hvk:=zH (eg f.key.kind f.key.text);have Hix:=zH (eE T f.node w5.drew _ (HT.o.below (Hb.o.step Hbr5.o).drew));clear z0 z1 z2' z3 hnew ho tA tB;generalize wo'.heap.size=bo at*
      cases hx:T.has f.node with
      | false =>
        have Hf:=zH (Hno1.o hx);rw[hx]at Hix;clear hx;go_wp2_with(first
         |((with_reducible refine JZ ?_);refine fE (by repeat first|exact JW|refine JU rfl ?_|refine JT (by decide+kernel) ?_|refine JP rfl LT.o YT.o ?_|refine JP rfl LB.o YB2.o ?_|refine JP rfl LB.o YB0.o ?_|refine JP rfl LN.o YN.o ?_) ?_)
         |((with_reducible refine JX ?_);refine gL (fun x=>x<w5.drew.heap.size) ?_)
         |(with_reducible first|refine qH ?_|refine JV ?_|refine JY ?_)
         |((with_reducible refine J0 ?_);first|(with_reducible refine JQ Hext.o ?_)|(with_reducible refine JQ (Is _) ?_))
         |(go_at_call 39;refine Hix.o.mono ?_;rintro e w6 ⟨rfl,hb6⟩;have q0:=(hb6.cell (p:=⟨bo,_,G0⟩) LB.o).trans a0;have q1:=(hb6.cell (p:=⟨bo,_,G0⟩) LB.o).trans a1;have Hext:=zH (IL (Kp:=fun x=>x<w5.drew.heap.size) hb6 (G8 _));have Hb6:=zH (Hbr5.o.drew.step hb6);have Hbz6:=zH hb6;clear hb6))
        go_ret;rw[Hf.o];exact⟨rfl,Hb.o.step Hb6.o⟩
      |true=>
      have Hx:=zH hx;rw[hx]at Hix;clear hx;cases hv:dq f.key.kind f.key.text.data.toList with
      | false =>
        have Hf:=zH (Hno2.o hv);rw[hv]at Hvk;clear hv;go_wp2_with(first
         |((with_reducible refine JZ ?_);refine fE (by repeat first|exact JW|refine JU rfl ?_|refine JT (by decide+kernel) ?_|refine JP rfl LT.o YT.o ?_|refine JP rfl LB.o YB2.o ?_|refine JP rfl LB.o YB0.o ?_|refine JP rfl LN.o YN.o ?_) ?_)
         |((with_reducible refine JX ?_);refine gL (fun x=>x<w5.drew.heap.size) ?_)
         |(with_reducible first|refine qH ?_|refine JV ?_|refine JY ?_)
         |((with_reducible refine J0 ?_);first|(with_reducible refine JQ Hext.o ?_)|(with_reducible refine JQ (Is _) ?_))
         |(go_at_call 39;refine Hix.o.mono ?_;rintro e w6 ⟨rfl,hb6⟩;have q0:=(hb6.cell (p:=⟨bo,_,G0⟩) LB.o).trans a0;have q1:=(hb6.cell (p:=⟨bo,_,G0⟩) LB.o).trans a1;have Hext:=zH (IL (Kp:=fun x=>x<w5.drew.heap.size) hb6 (G8 _));have Hb6:=zH (Hbr5.o.drew.step hb6);have Hbz6:=zH hb6;clear hb6)
         |(go_at_call 97;refine(Hvk.o w6).mono ?_;rintro e w7 ⟨rfl,hb7⟩;have Hext:=zH (IL (Kp:=fun x=>x<w5.drew.heap.size) hb7 (G8 _));have Hb7:=zH (Hb6.o.step hb7);clear hb7))
        go_ret;rw[Hf.o];exact⟨rfl,Hb.o.step Hb7.o⟩
      | true =>
        have Hv:=zH hv;rw[hv]at Hvk;clear hv;go_wp2_with(first
         |((with_reducible refine JZ ?_);refine fE (by repeat first|exact JW|refine JU rfl ?_|refine JT (by decide+kernel) ?_|refine JP rfl LT.o YT.o ?_|refine JP rfl LB.o YB2.o ?_|refine JP rfl LB.o YB0.o ?_|refine JP rfl LN.o YN.o ?_) ?_)
         |((with_reducible refine JX ?_);refine gL (fun x=>x<w5.drew.heap.size) ?_)
         |(with_reducible first|refine qH ?_|refine JV ?_|refine JY ?_)
         |((with_reducible refine J0 ?_);first|(with_reducible refine JQ Hext.o ?_)|(with_reducible refine JQ (Is _) ?_))
         |(go_at_call 39;refine Hix.o.mono ?_;rintro e w6 ⟨rfl,hb6⟩;have q0:=(hb6.cell (p:=⟨bo,_,G0⟩) LB.o).trans a0;have q1:=(hb6.cell (p:=⟨bo,_,G0⟩) LB.o).trans a1;have Hext:=zH (IL (Kp:=fun x=>x<w5.drew.heap.size) hb6 (G8 _));have Hb6:=zH (Hbr5.o.drew.step hb6);have Hbz6:=zH hb6;clear hb6)
         |(go_at_call 97;refine(Hvk.o w6).mono ?_;rintro e w7 ⟨rfl,hb7⟩;have Hext:=zH (IL (Kp:=fun x=>x<w5.drew.heap.size) hb7 (G8 _));have Hb7:=zH (Hb6.o.step hb7);clear hb7))
        exact⟨⟨0+1,by go_num,by omega,Hnx.o Hx.o Hv.o,Hb7.o⟩,by simp[intOf];omega⟩
     ·obtain⟨k,rfl⟩:∃k',k=k'+1:=⟨k-1,by omega⟩
      have hk1:k<n.fields.length:=by omega
      obtain⟨a',o',cs',ep,hab',-,hrng',rfl⟩:=HF.o.all hk1;injection ep with ep
      injection ep with ep1 ep2
      subst ep1 ep2;have hr':=hrng' wr Hbw9.o;have y0:=hr' 0 _ rfl;have y1:=hr' 1 _ rfl;rw[Im]at y0;clear hr' hrng';have Hno3:=zH (show¬bN n.fields[k].key n.fields[k+1].key<0->bB T n=G7 from fun h=>tp Hk.o (pP hlt h));have Hnx:=zH (show T.has n.fields[k+1].node=G6->dq n.fields[k+1].key.kind n.fields[k+1].key.text.data.toList=G6->bN n.fields[k].key n.fields[k+1].key<0->((∀j (h:j<n.fields.length),j<k+1+1->T.has n.fields[j].node=G6)/\(∀j (h:j<n.fields.length),j<k+1+1->dq n.fields[j].key.kind n.fields[j].key.text.data.toList=G6)/\(∀j (h:j+1<n.fields.length),j+1<k+1+1->bN (n.fields[j]'(by omega)).key n.fields[j+1].key<0))from fun g1 g2 g3=>⟨Hnx0.o g1,Hnx1.o g2,fun j h hj=>by
       rcases IP.1 hj with g4|g4
       ·exact Hall.o.2.2 j h g4
       ·obtain rfl:j=k:=by omega
        exact g3⟩)
      clear Hnx0 Hnx1 Hall;generalize n.fields[k+1]=f at*
      generalize n.fields[k]=g at*
      obtain⟨wo',hwo⟩:∃wo':World,wo'=wr:=⟨_,rfl⟩
      subst hwo;go_upto_region 47 with fail
      have hnew:=HG wo' (GY #[GX GZ f.key.kind,GW f.key.text,GX GZ f.node,.bool f.opt] 105);have ho:Below wo'.heap.size wo' (wo'.alloc (GY #[GX GZ f.key.kind,GW f.key.text,GX GZ f.node,.bool f.opt] 105)):=(Below.refl _ _).alloc (G8 _) _;generalize wo'.alloc (GY #[GX GZ f.key.kind,GW f.key.text,GX GZ f.node,.bool f.opt] 105)=w5 at*
      have Hbr5:=zH (Hb9.o.step ho);obtain⟨a0,a1,a2,a3⟩:=qG hnew;clear f0 f1 f2 f3 f4 f5 f6 f7 t0 t1;have tA:=(Hbr5.o.block _ hlA).trans HA.o;have tB:=(Hbr5.o.block _ hlB).trans HB.o;obtain⟨t0,t1⟩:=aM tA;obtain⟨⟨f0,f1,f2,f3⟩,f4,f5,f6,f7⟩:=aY tB;have haw:a<wo'.heap.size:=Ig hab (Hbw9.o.size);have y0':=(ho.cell (p:=⟨a,_,G0⟩) haw).trans y0;have y1':=(ho.cell (p:=⟨a,_,G0⟩) haw).trans y1;have LK:=zH (show a<w5.drew.heap.size from Ig haw ho.size);have YK:=zH (show w5.drew.cell? ⟨a,o+k*4,G0⟩=_ from y0');have LB:=zH (show wo'.heap.size<w5.drew.heap.size from ai hnew);have LT:=zH (show w.heap.size<w5.drew.heap.size from ai tA);have LN:=zH (show w.heap.size+1<w5.drew.heap.size from ai tB);have YT:=zH (show w5.drew.cell? ⟨w.heap.size,0,G0⟩=_ from t0);have YN:=zH (show w5.drew.cell? ⟨w.heap.size+1,5,G0⟩=_ from f5);have YB0:=zH (show w5.drew.cell? ⟨wo'.heap.size,0,G0⟩=_ from a0);have YB2:=zH (show w5.drew.cell? ⟨wo'.heap.size,2,G0⟩=_ from a2);have Hvk:=zH (eg f.key.kind f.key.text);have Hix:=zH (eE T f.node w5.drew _ (HT.o.below (Hb.o.step Hbr5.o).drew));clear z0 z1 z2' z3 hnew ho tA tB y0 y1;generalize wo'.heap.size=bo at*
      cases hx:T.has f.node with
      | false =>
        have Hf:=zH (Hno1.o hx);rw[hx]at Hix;clear hx;go_wp2_with(first
         |((with_reducible refine JZ ?_);refine fE (by repeat first|exact JW|refine JU rfl ?_|refine JT (by decide+kernel) ?_|refine JP rfl LT.o YT.o ?_|refine JP rfl LB.o YB2.o ?_|refine JP rfl LB.o YB0.o ?_|refine JP rfl LN.o YN.o ?_|refine JP rfl LK.o YK.o ?_) ?_)
         |((with_reducible refine JX ?_);refine gL (fun x=>x<w5.drew.heap.size) ?_)
         |(with_reducible first|refine qH ?_|refine JV ?_|refine JY ?_)
         |((with_reducible refine J0 ?_);first|(with_reducible refine JQ Hext.o ?_)|(with_reducible refine JQ (Is _) ?_))
         |(go_at_call 39;refine Hix.o.mono ?_;rintro e w6 ⟨rfl,hb6⟩;have q0:=(hb6.cell (p:=⟨bo,_,G0⟩) LB.o).trans a0;have q1:=(hb6.cell (p:=⟨bo,_,G0⟩) LB.o).trans a1;have Hext:=zH (IL (Kp:=fun x=>x<w5.drew.heap.size) hb6 (G8 _));have Hb6:=zH (Hbr5.o.drew.step hb6);have Hbz6:=zH hb6;clear hb6))
        go_ret;rw[Hf.o];exact⟨rfl,Hb.o.step Hb6.o⟩
      |true=>
      have Hx:=zH hx;rw[hx]at Hix;clear hx;cases hv:dq f.key.kind f.key.text.data.toList with
      | false =>
        have Hf:=zH (Hno2.o hv);rw[hv]at Hvk;clear hv;go_wp2_with(first
         |((with_reducible refine JZ ?_);refine fE (by repeat first|exact JW|refine JU rfl ?_|refine JT (by decide+kernel) ?_|refine JP rfl LT.o YT.o ?_|refine JP rfl LB.o YB2.o ?_|refine JP rfl LB.o YB0.o ?_|refine JP rfl LN.o YN.o ?_|refine JP rfl LK.o YK.o ?_) ?_)
         |((with_reducible refine JX ?_);refine gL (fun x=>x<w5.drew.heap.size) ?_)
         |(with_reducible first|refine qH ?_|refine JV ?_|refine JY ?_)
         |((with_reducible refine J0 ?_);first|(with_reducible refine JQ Hext.o ?_)|(with_reducible refine JQ (Is _) ?_))
         |(go_at_call 39;refine Hix.o.mono ?_;rintro e w6 ⟨rfl,hb6⟩;have q0:=(hb6.cell (p:=⟨bo,_,G0⟩) LB.o).trans a0;have q1:=(hb6.cell (p:=⟨bo,_,G0⟩) LB.o).trans a1;have Hext:=zH (IL (Kp:=fun x=>x<w5.drew.heap.size) hb6 (G8 _));have Hb6:=zH (Hbr5.o.drew.step hb6);have Hbz6:=zH hb6;clear hb6)
         |(go_at_call 97;refine(Hvk.o w6).mono ?_;rintro e w7 ⟨rfl,hb7⟩;have hz7:=Hbz6.o.step hb7;have r0:=(hz7.cell (p:=⟨a,_,G0⟩) LK.o).trans y0';have r1:=(hz7.cell (p:=⟨a,_,G0⟩) LK.o).trans y1';have n5:=(hz7.cell (p:=⟨w.heap.size+1,_,G0⟩) LN.o).trans f5;have k0:=(hz7.cell (p:=⟨bo,_,G0⟩) LB.o).trans a0;have k1:=(hz7.cell (p:=⟨bo,_,G0⟩) LB.o).trans a1;clear q0 q1 hz7;have Hext:=zH (IL (Kp:=fun x=>x<w5.drew.heap.size) hb7 (G8 _));have Hb7:=zH (Hb6.o.step hb7);clear hb7))
        go_ret;rw[Hf.o];exact⟨rfl,Hb.o.step Hb7.o⟩
      | true =>
        have Hv:=zH hv;rw[hv]at Hvk;clear hv;have HKc:=zH (jl g.key f.key);by_cases hz:bN g.key f.key<0
        ·have Hnx2:=zH (Hnx.o Hx.o Hv.o hz);have d1:decide (0<=bN g.key f.key)=false:=by simp;omega
         clear hz;generalize bN g.key f.key=cc at*
         go_wp2_with(first
          |((with_reducible refine JZ ?_);refine fE (by repeat first|exact JW|refine JU rfl ?_|refine JT (by decide+kernel) ?_|refine JP rfl LT.o YT.o ?_|refine JP rfl LB.o YB2.o ?_|refine JP rfl LB.o YB0.o ?_|refine JP rfl LN.o YN.o ?_|refine JP rfl LK.o YK.o ?_) ?_)
          |((with_reducible refine JX ?_);refine gL (fun x=>x<w5.drew.heap.size) ?_)
          |(with_reducible first|refine qH ?_|refine JV ?_|refine JY ?_)
          |((with_reducible refine J0 ?_);first|(with_reducible refine JQ Hext.o ?_)|(with_reducible refine JQ (Is _) ?_))
          |(go_at_call 39;refine Hix.o.mono ?_;rintro e w6 ⟨rfl,hb6⟩;have q0:=(hb6.cell (p:=⟨bo,_,G0⟩) LB.o).trans a0;have q1:=(hb6.cell (p:=⟨bo,_,G0⟩) LB.o).trans a1;have Hext:=zH (IL (Kp:=fun x=>x<w5.drew.heap.size) hb6 (G8 _));have Hb6:=zH (Hbr5.o.drew.step hb6);have Hbz6:=zH hb6;clear hb6)
          |(go_at_call 97;refine(Hvk.o w6).mono ?_;rintro e w7 ⟨rfl,hb7⟩;have hz7:=Hbz6.o.step hb7;have r0:=(hz7.cell (p:=⟨a,_,G0⟩) LK.o).trans y0';have r1:=(hz7.cell (p:=⟨a,_,G0⟩) LK.o).trans y1';have n5:=(hz7.cell (p:=⟨w.heap.size+1,_,G0⟩) LN.o).trans f5;have k0:=(hz7.cell (p:=⟨bo,_,G0⟩) LB.o).trans a0;have k1:=(hz7.cell (p:=⟨bo,_,G0⟩) LB.o).trans a1;clear q0 q1 hz7;have Hext:=zH (IL (Kp:=fun x=>x<w5.drew.heap.size) hb7 (G8 _));have Hb7:=zH (Hb6.o.step hb7);clear hb7)
          |(go_at_call 98;refine(HKc.o w7).mono ?_;rintro e w8 ⟨rfl,hb8⟩;have Hext:=zH (IL (Kp:=fun x=>x<w5.drew.heap.size) hb8 (G8 _));have Hb8:=zH (Hb7.o.step hb8);clear hb8))
         exact⟨⟨k+1+1,by go_num,by omega,Hnx2.o,Hb8.o⟩,by simp[intOf];omega⟩
        ·have Hf:=zH (Hno3.o hz);have d1:decide (0<=bN g.key f.key)=true:=by simp;omega
         clear hz;generalize bN g.key f.key=cc at*
         go_wp2_with(first
          |((with_reducible refine JZ ?_);refine fE (by repeat first|exact JW|refine JU rfl ?_|refine JT (by decide+kernel) ?_|refine JP rfl LT.o YT.o ?_|refine JP rfl LB.o YB2.o ?_|refine JP rfl LB.o YB0.o ?_|refine JP rfl LN.o YN.o ?_|refine JP rfl LK.o YK.o ?_) ?_)
          |((with_reducible refine JX ?_);refine gL (fun x=>x<w5.drew.heap.size) ?_)
          |(with_reducible first|refine qH ?_|refine JV ?_|refine JY ?_)
          |((with_reducible refine J0 ?_);first|(with_reducible refine JQ Hext.o ?_)|(with_reducible refine JQ (Is _) ?_))
          |(go_at_call 39;refine Hix.o.mono ?_;rintro e w6 ⟨rfl,hb6⟩;have q0:=(hb6.cell (p:=⟨bo,_,G0⟩) LB.o).trans a0;have q1:=(hb6.cell (p:=⟨bo,_,G0⟩) LB.o).trans a1;have Hext:=zH (IL (Kp:=fun x=>x<w5.drew.heap.size) hb6 (G8 _));have Hb6:=zH (Hbr5.o.drew.step hb6);have Hbz6:=zH hb6;clear hb6)
          |(go_at_call 97;refine(Hvk.o w6).mono ?_;rintro e w7 ⟨rfl,hb7⟩;have hz7:=Hbz6.o.step hb7;have r0:=(hz7.cell (p:=⟨a,_,G0⟩) LK.o).trans y0';have r1:=(hz7.cell (p:=⟨a,_,G0⟩) LK.o).trans y1';have n5:=(hz7.cell (p:=⟨w.heap.size+1,_,G0⟩) LN.o).trans f5;have k0:=(hz7.cell (p:=⟨bo,_,G0⟩) LB.o).trans a0;have k1:=(hz7.cell (p:=⟨bo,_,G0⟩) LB.o).trans a1;clear q0 q1 hz7;have Hext:=zH (IL (Kp:=fun x=>x<w5.drew.heap.size) hb7 (G8 _));have Hb7:=zH (Hb6.o.step hb7);clear hb7)
          |(go_at_call 98;refine(HKc.o w7).mono ?_;rintro e w8 ⟨rfl,hb8⟩;have Hext:=zH (IL (Kp:=fun x=>x<w5.drew.heap.size) hb8 (G8 _));have Hb8:=zH (Hb7.o.step hb8);clear hb8))
         go_ret;rw[Hf.o];exact⟨rfl,Hb.o.step Hb8.o⟩
    ·have d9:decide (k<n.fields.length)=false:=by simp;omega
     have hfa:(n.fields.all fun f=>T.has f.node)=true:=by
      rw[Ij];intro f hf;obtain⟨j,hj,rfl⟩:=List.mem_iff_getElem.1 hf;exact Hall.o.1 j hj (by omega)
     have hfo:bW n.fields=true:=wH (fun j h=>Hall.o.2.1 j h (by omega)) (fun j h=>Hall.o.2.2 j h (by omega));have hn2:=Hn.o;rw[hfa,hfo,Jd,Jd]at hn2;have Hn2:=zH hn2;have Hix0:=zH (fun w6 (h:Below wr.heap.size wr w6)=>eE T n.rest0 w6 _ (HT.o.below (Hbw9.o.step h)));have Hix1:=zH (fun w6 (h:Below wr.heap.size wr w6)=>eE T n.rest1 w6 _ (HT.o.below (Hbw9.o.step h)));clear hn2 hfa hfo Hn;by_cases z3:n.kids.length=0;rotate_left
     ·have e3:=decide_eq_false z3;have d3:((n.kids.length:Int)==0)=false:=qQ z3;have Hr:=zH (show bB T n=G7 by rw[Hn2.o,e3];rfl);clear z3 e3;go_upto_region 49 with fail
      generalize n.kids.length=kl at f4 d3 ⊢;go_wp2;go_ret;rw[Hr.o];exact⟨rfl,Hbw9.o⟩
     have e3:=decide_eq_true z3;have d3:((n.kids.length:Int)==0)=true:=mL z3;have Hr:=zH (show bB T n=(T.has n.rest0&&T.has n.rest1)by rw[Hn2.o,e3,Jd]);clear z3 e3 Hn2;go_upto_region 49 with fail
     generalize n.kids.length=kl at f4 d3 ⊢;cases hx:T.has n.rest0 with
     | false =>
       rw[hx]at Hix0;have Hr2:=zH (show bB T n=G7 by rw[Hr.o,hx];rfl);clear hx Hr;go_wp2_with(go_at_call 39;refine(Hix0.o wr (Below.refl _ _)).mono ?_;rintro e w6 ⟨rfl,hb6⟩;have Hb6:=zH (Hbw9.o.step hb6);clear hb6);go_ret;rw[Hr2.o];exact⟨rfl,Hb6.o⟩
     | true =>
       rw[hx]at Hix0;have Hr2:=zH (show bB T n=T.has n.rest1 by rw[Hr.o,hx];rfl);clear hx Hr;generalize T.has n.rest1=c at*
       go_wp2_with(first
        |(go_at_call 39;refine(Hix0.o wr (Below.refl _ _)).mono ?_;rintro e w6 ⟨rfl,hb6⟩;have Hb6:=zH (Hbw9.o.step hb6);have Hz6:=zH hb6;have tA:=((Hb9.o.step hb6).block _ hlA).trans HA.o;have tB:=((Hb9.o.step hb6).block _ hlB).trans HB.o;clear f0 f1 f2 f3 f4 f5 f6 f7 t0 t1 hb6;obtain⟨t0,t1⟩:=aM tA;obtain⟨⟨f0,f1,f2,f3⟩,f4,f5,f6,f7⟩:=aY tB;clear tA tB Hix0)
        |(go_at_call 39;refine(Hix1.o w6 Hz6.o).mono ?_;rintro e w7 ⟨rfl,hb7⟩;have Hb7:=zH (Hb6.o.step hb7);clear hb7))
       go_ret;rw[Hr2.o];exact⟨rfl,Hb7.o⟩
theorem tq(T:Ty)(n:TN)(w:World)(t:Value)(cs:List Value)(ht:TS w t T)(h:NC w n cs)(hL:n.kids.length<=9223372036854775807):Calls Tryz.prog 72 #[t,.agg cs.toArray] w (ER (bB T n) w):=by
 by_cases h13:n.kind=13
 ·exact Ai T n h13 w t cs ht h hL
 ·exact EM T n h13 w t cs ht h hL
end Go.Proofs.YtfpahmeploondaaGreatDoor
