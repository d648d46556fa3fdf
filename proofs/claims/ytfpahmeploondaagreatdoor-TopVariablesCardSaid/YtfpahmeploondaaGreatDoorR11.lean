/- Walks and plain facts for the law on type variables, for all values and types that the heap holds (texts Z2 Z3). -/
import Derived.Test.YtfpahmeploondaaGreatDoorR03
import Derived.Test.YtfpahmeploondaaGreatDoorR09
import Derived.Test.YtfpahmeploondaaGreatDoorR10
set_option linter.unusedVariables false
set_option linter.unusedSimpArgs false
set_option maxHeartbeats 64000000
open Option renaming none -> G0, some -> G5
open Go.Value renaming slice -> GU, string -> GW, int -> GX
open Go.Obj renaming cells -> GY
open Go.IntKind renaming i64 -> GZ
open List renaming length_singleton -> Ju, mem_of_mem_take -> Jl, mem_of_mem_drop -> Jv, length_append -> Ii, length_take -> IN, length_drop -> I4, nil_append -> I8
open Nat renaming lt_of_lt_of_le -> Ig, le_trans -> G9, add_zero -> Im, zero_add -> IV, le_refl -> G8
open Go.World renaming ownsRow_nil -> Io
open Go renaming heap_alloc_new -> HG
open Go.LexK.Ext renaming alloc -> IF
open Go.Value renaming ownBlock -> I0
open Go.LexK renaming Ext -> Hh, aq -> JQ
namespace Go.Proofs.YtfpahmeploondaaGreatDoor
open Go.RowKit
set_option maxRecDepth 100000
theorem SC.one {s:ByteArray}{cs:List Value}(h:SC s cs):∀u∈cs,u.oneCell'=true:=by unfold SC at h;subst h;intro u hu;simp at hu;subst hu;rfl
theorem cm:(Tryz.prog.info? 9).map (fun i=>(i.zero,i.size,i.bytes))=G5 (G5 (GW ⟨#[]⟩),1,16):=by kernel_rfl
theorem jY(E:Nat->Bool)(l:List ByteArray)(w:World)(v:Value)(hE:Old E w.heap.size)(h:SS (we E w) v l)(hl:l.length<=100000):Calls Tryz.prog 20 #[v] w fun e w'=>∃v' l',e=.returned v'/\SS (we E w') v' l'/\l'.length<=l.length/\Below w.heap.size w w':=by
 have Hbw:=zH hE;obtain⟨p,c,rfl,hr⟩:=h;have HR:=zH hr;clear hr hE;go_enter Tryz.func20,Tryz.ntmps20;go_wp2;go_loopw[3,4] (fun v i wr=>∃(j:Nat) (O:List ByteArray) (xs:List Value),j<=l.length/\i=GX GZ j/\O.length<=j/\wr.ownsRow w.heap.size 9 1 v O.length xs/\Ch 1 SC O xs/\Below w.heap.size w wr) (fun _ i _=>l.length-(intOf i).toNat)
 case atStart=>exact⟨0,[],[],by omega,rfl,by simp,Io _ _ _ _,Ch.nil,Below.refl _ _⟩
 case round=>
  obtain⟨j,O,xs,hj,rfl,hO,ho,hc,hbr⟩:=hrel;have Ho:=zH ho;have Hc:=zH hc;have Hbr:=zH hbr;have HO:=zH hO;have hol:O.length<=100000:=by omega
  clear ho hc hbr hO;by_cases hlt:j<l.length
  ·have d9:decide (j<l.length)=true:=by simp;omega
   obtain⟨a,o,cs,rfl,hab,-,hrg,hX⟩:=HR.o.at hlt;have hab:a<w.heap.size:=by rwa[ap]at hab
   have Hax:=zH hab;unfold SC at hX;subst hX;have c0:=(aJ (hrg 0 _ rfl)).2;simp only[Nat.mul_one,Im]at c0;have Hlast:=zH hlt;clear hrg;generalize l[j]=x at*
   obtain⟨q,cap1,rfl⟩:=aB Ho.o;have hcap1:O.length<=cap1:=eo Ho.o;go_wp2;go_loopw[5] (fun i wi=>∃k:Nat,k<=O.length/\i=GX GZ k/\wi.ownsRow w.heap.size 9 1 (GU q O.length cap1) O.length xs/\Below w.heap.size w wi) (fun i _=>O.length-(intOf i).toNat)
   case atStart=>exact⟨0,by omega,rfl,Ho.o,Hbr.o⟩
   case round=>
    obtain⟨k,hk,rfl,ho2,hb2⟩:=hrel;have Ho2:=zH ho2;have Hb2:=zH hb2;clear ho2 hb2;have z0:=ae Hb2.o c0;by_cases hkl:k<O.length
    ·have d8:decide (k<O.length)=true:=by simp;omega
     obtain⟨q',cap',eq',hrw⟩:=bu Ho2.o Hc.o (by omega);injection eq' with eq1 _ eq3
     subst eq1 eq3;obtain⟨g,og,cs',rfl,hg,-,hrg',hY⟩:=hrw.at hkl;unfold SC at hY;subst hY;have v0:=hrg' 0 _ rfl;simp only[Nat.mul_one,Im]at v0;clear hrw hrg';generalize O[k]=y at*
     cases hb1:Op.bytesLess y.toList x.toList with
     | true =>
       go_wp2_with(first
        |(with_reducible refine rg ?_)
        |(with_reducible refine fo ?_))
       exact⟨⟨k+1,by omega,by go_num,ao Ho2.o (Below.refl _ _).drew (G8 _),Hb2.o.drew⟩,by simp[intOf];omega⟩
     | false =>
       cases hb2:(y.toList==x.toList)with
       | true =>
         go_wp2_with(first
          |(with_reducible refine rg ?_)
          |(with_reducible refine fo ?_))
         exact⟨⟨j+1,O,xs,by omega,by go_num,by have:=HO.o;omega,ao Ho2.o (Below.refl _ _).drew.drew (G8 _),Hc.o,Hb2.o.drew.drew⟩,by simp[intOf];omega⟩
       | false =>
         go_upto_region 9 with(first
          |(with_reducible refine rg ?_)
          |(with_reducible refine fo ?_))
         have Hod:=zH (ao Ho2.o (Below.refl _ _).drew.drew (G8 _));have Hbd:=zH Hb2.o.drew.drew;clear z0 v0 Ho2 Hb2 hb1 hb2;generalize wr.drew.drew=wd at*
         have Hrc:=zH (RC.of_own Hod.o);have Hone:=zH (Hc.o.cells fun _ _ h=>h.one);have HcT:=zH (Hc.o.take (k:=k) hk);have HcD:=zH (Hc.o.drop (k:=k) hk);have HoT:=zH (fun u hu=>Hone.o u (Jl (i:=k*1) hu));have HoD:=zH (fun u hu=>Hone.o u (Jv (i:=k*1) hu));have Hlx:=zH (show xs.length=O.length*1 from Hod.o.1);have Hsd:=zH Hbd.o.size;have HrD:=zH (show RC wd 1 (G5 ⟨g,og+k,G0⟩) (O.length-k) (xs.drop (k*1))from by have:=Hrc.o.drop hk;simpa using this);have Q0:=zH (ae Hbd.o c0);clear c0 d8;go_wp2_with(first
          |((with_reducible refine Lex.aP ?_);refine fE (by repeat first|exact LexK.aL|refine LexK.aG rfl ?_|refine LexK.aH (by decide+kernel) ?_|refine LexK.an rfl Hax.o Hn0.o ?_) ?_)
          |((with_reducible refine Lex.aI ?_);refine gL (fun b=>b<w.heap.size) ?_;have n0:w3.drew.cell? ⟨a,o+j,G0⟩=_:=(Hb3.o.cell (p:=⟨a,_,G0⟩) (Ig Hax.o Hsd.o)).trans Q0.o;have Hn0:=zH n0)
          |(with_reducible first|refine qH ?_|refine LexK.aK ?_|refine LexK.aO ?_)
          | ((with_reducible refine Lex.aX ?_); first
              |with_reducible refine JQ hex5.o ?_
              |refine JQ hex4.o ?_
              |refine JQ (IF _ _) ?_)
          |(at_builtin;first
           |(refine aC rfl (.const (GU G0 0 0)) (.tmp 47) 31 rfl 9 (by kernel_rfl) cm rfl (by decide) (by decide) wd.heap.size wd (G5 ⟨g,og,G0⟩) 0 k _ [] (xs.take (k*1)) (G8 _) (GU G0 0 0) rfl rfl (Io _ _ _ _) (Hrc.o.take hk) HoT.o (by omega) ?_;intro v3 w3 ho3 hf3;have Hb3:=zH (hf3.below (G8 _) (by simp) (fun g hg=>by simp[I0]at hg));rw[IV,I8]at ho3;obtain⟨p3,cap3,rfl⟩:=aB ho3;have Ho3:=zH ho3;clear ho3 hf3)
           |(refine aA rfl (.tmp 49) (.tmp 54) 31 rfl 9 (by kernel_rfl) cm rfl (by decide) (by decide) wd.heap.size _ w3.drew.heap.size [GW x] (HG w3.drew _) (G9 Hb3.o.size (by simp)) rfl (by intro u hu;simp at hu;subst hu;rfl) (GU p3 k cap3) k (xs.take (k*1)) rfl (ao Ho3.o ((Below.refl _ _).drew.alloc (G8 _) _) (G8 _)) (by omega) rfl ?_;intro v4 w4 ho4 hf4;have Hb4:=zH ((Hb3.o.drew.alloc Hb3.o.size _).trans (hf4.below (G9 Hb3.o.size (by simp)) (by simp) fun g hg=>(Ho3.o.lt g hg).1));have hex4:=zH (show Hh (fun b=>b<w.heap.size) (w3.drew.alloc (GY #[GW x] 9)) w4 from bX (hf4.below (G9 Hsd.o (G9 Hb3.o.size (by simp))) (by simp) fun g hg=>G9 Hsd.o (Ho3.o.lt g hg).1));obtain⟨p4,cap4,rfl⟩:=aB ho4;have Ho4:=zH ho4;clear ho4 hf4)
           |(refine aC rfl (.tmp 55) (.tmp 58) 31 rfl 9 (by kernel_rfl) cm rfl (by decide) (by decide) wd.heap.size w4 (G5 ⟨g,og+k,G0⟩) (k+1) (O.length-k) _ (xs.take (k*1)++[GW x]) (xs.drop (k*1)) Hb4.o.size (GU p4 (k+1) cap4) rfl rfl Ho4.o (HrD.o.below Hb4.o) HoD.o (by omega) ?_;intro v5 w5 ho5 hf5;have Hb5:=zH (Hb4.o.trans (hf5.below Hb4.o.size (by simp) fun g hg=>(Ho4.o.lt g hg).1));have hex5:=zH (show Hh (fun b=>b<w.heap.size) w4 w5 from bX (hf5.below (G9 Hsd.o Hb4.o.size) (by simp) fun g hg=>G9 Hsd.o (Ho4.o.lt g hg).1));have Ho5:=zH ho5;clear ho5 hf5)))
         have hlen:(O.take k++[x]++O.drop k).length=k+1+(O.length-k):=by rw[Ii,Ii,IN,I4,Ju];omega
         refine⟨⟨j+1,O.take k++[x]++O.drop k,xs.take (k*1)++[GW x]++(xs.drop (k*1)),by omega,by go_num,by rw[hlen];have:=HO.o;omega,by rw[hlen];exact bG Ho5.o Hsd.o,?_,Hbd.o.trans (Hb5.o.mono Hsd.o)⟩,by simp[intOf];omega⟩;exact(HcT.o.append (Ch.single rfl (by unfold SC;rfl))).append HcD.o
    ·obtain rfl:k=O.length:=by omega
     have d8:decide (O.length<O.length)=false:=by simp
     go_upto_region 9 with(first
      |(with_reducible refine rg ?_)
      |(with_reducible refine fo ?_))
     have Hod:=zH (ao Ho2.o (Below.refl _ _).drew.drew (G8 _));have Hbd:=zH Hb2.o.drew.drew;clear z0 Ho2 Hb2;generalize wr.drew.drew=wd at*
     have Hrc:=zH (RC.of_own Hod.o);have Hone:=zH (Hc.o.cells fun _ _ h=>h.one);have HcT:=zH (Hc.o.take (k:=O.length) (G8 _));have HcD:=zH (Hc.o.drop (k:=O.length) (G8 _));have HoT:=zH (fun u hu=>Hone.o u (Jl (i:=O.length*1) hu));have HoD:=zH (fun u hu=>Hone.o u (Jv (i:=O.length*1) hu));have Hlx:=zH (show xs.length=O.length*1 from Hod.o.1);have Hsd:=zH Hbd.o.size;have Q0:=zH (ae Hbd.o c0);clear c0 d8;go_wp2_with(first
      |((with_reducible refine Lex.aP ?_);refine fE (by repeat first|exact LexK.aL|refine LexK.aG rfl ?_|refine LexK.aH (by decide+kernel) ?_|refine LexK.an rfl Hax.o Hn0.o ?_) ?_)
      |((with_reducible refine Lex.aI ?_);refine gL (fun b=>b<w.heap.size) ?_;have n0:w3.drew.cell? ⟨a,o+j,G0⟩=_:=(Hb3.o.cell (p:=⟨a,_,G0⟩) (Ig Hax.o Hsd.o)).trans Q0.o;have Hn0:=zH n0)
      |(with_reducible first|refine qH ?_|refine LexK.aK ?_|refine LexK.aO ?_)
      | ((with_reducible refine Lex.aX ?_); first
          |with_reducible refine JQ hex5.o ?_
          |refine JQ hex4.o ?_
          |refine JQ (IF _ _) ?_)
      |(at_builtin;first
       |(refine aC rfl (.const (GU G0 0 0)) (.tmp 47) 31 rfl 9 (by kernel_rfl) cm rfl (by decide) (by decide) wd.heap.size wd q 0 O.length _ [] (xs.take (O.length*1)) (G8 _) (GU G0 0 0) rfl rfl (Io _ _ _ _) (Hrc.o.take (G8 _)) HoT.o (by omega) ?_;intro v3 w3 ho3 hf3;have Hb3:=zH (hf3.below (G8 _) (by simp) (fun g hg=>by simp[I0]at hg));rw[IV,I8]at ho3;obtain⟨p3,cap3,rfl⟩:=aB ho3;have Ho3:=zH ho3;clear ho3 hf3)
       |(refine aA rfl (.tmp 49) (.tmp 54) 31 rfl 9 (by kernel_rfl) cm rfl (by decide) (by decide) wd.heap.size _ w3.drew.heap.size [GW x] (HG w3.drew _) (G9 Hb3.o.size (by simp)) rfl (by intro u hu;simp at hu;subst hu;rfl) (GU p3 O.length cap3) O.length (xs.take (O.length*1)) rfl (ao Ho3.o ((Below.refl _ _).drew.alloc (G8 _) _) (G8 _)) (by omega) rfl ?_;intro v4 w4 ho4 hf4;have Hb4:=zH ((Hb3.o.drew.alloc Hb3.o.size _).trans (hf4.below (G9 Hb3.o.size (by simp)) (by simp) fun g hg=>(Ho3.o.lt g hg).1));have hex4:=zH (show Hh (fun b=>b<w.heap.size) (w3.drew.alloc (GY #[GW x] 9)) w4 from bX (hf4.below (G9 Hsd.o (G9 Hb3.o.size (by simp))) (by simp) fun g hg=>G9 Hsd.o (Ho3.o.lt g hg).1));obtain⟨p4,cap4,rfl⟩:=aB ho4;have Ho4:=zH ho4;clear ho4 hf4)
       |(refine aC rfl (.tmp 55) (.tmp 58) 31 rfl 9 (by kernel_rfl) cm rfl (by decide) (by decide) wd.heap.size w4 _ (O.length+1) 0 _ (xs.take (O.length*1)++[GW x]) [] Hb4.o.size (GU p4 (O.length+1) cap4) rfl rfl Ho4.o (RC.nil _ _ _) (by simp) (by omega) ?_;intro v5 w5 ho5 hf5;have Hb5:=zH (Hb4.o.trans (hf5.below Hb4.o.size (by simp) fun g hg=>(Ho4.o.lt g hg).1));have hex5:=zH (show Hh (fun b=>b<w.heap.size) w4 w5 from bX (hf5.below (G9 Hsd.o Hb4.o.size) (by simp) fun g hg=>G9 Hsd.o (Ho4.o.lt g hg).1));have Ho5:=zH ho5;clear ho5 hf5)))
     have hlen:(O.take O.length++[x]++O.drop O.length).length=O.length+1+0:=by rw[Ii,Ii,IN,I4,Ju];omega
     refine⟨⟨j+1,O.take O.length++[x]++O.drop O.length,xs.take (O.length*1)++[GW x]++[],by omega,by go_num,by rw[hlen];have:=HO.o;omega,by rw[hlen];exact bG Ho5.o Hsd.o,?_,Hbd.o.trans (Hb5.o.mono Hsd.o)⟩,by simp[intOf];omega⟩;have hz:=HcD.o;have ez:xs.drop (O.length*1)=[]:=List.drop_eq_nil_of_le (by rw[Hlx.o];exact G8 _);rw[ez]at hz;exact(HcT.o.append (Ch.single rfl (by unfold SC;rfl))).append hz
  ·obtain rfl:j=l.length:=by omega
   have d9:decide (l.length<l.length)=false:=by simp
   skip;go_wp2;go_ret;obtain⟨pz,cz,e7,hrw⟩:=bu (bJ Ho.o Hbw.o) Hc.o (by omega);exact⟨_,O,rfl,⟨pz,cz,e7,hrw⟩,(by have:=HO.o;omega),Hbr.o⟩
open Go.RowKit Go.Ident
theorem vw0(w:World)(k n:Int)(s:ByteArray):VW w (.agg #[GX GZ k,GX GZ n,GW s,GU G0 0 0,GU G0 0 0,GU G0 0 0,GU G0 0 0]) (.mk k n s [] [] [] []):=
 ⟨1,_,rfl,G0,0,G0,0,G0,0,G0,0,rfl,Rw.nil _ _ _ _ _,Rw.nil _ _ _ _ _,Rw.nil _ _ _ _ _,Rw.nil _ _ _ _ _⟩
theorem pI(n:Int)(w:World):Calls Tryz.prog 57 #[GX GZ n] w fun e w'=>e=.returned (.agg #[GX GZ 1,GX GZ n,GW ⟨#[]⟩,GU G0 0 0,GU G0 0 0,GU G0 0 0,GU G0 0 0])/\Below w.heap.size w w':=by
 go_enter Tryz.func57,Tryz.ntmps57;go_upto_region 1 with fail
 have hn:=HG w (GY #[GX GZ 0,GX GZ 0,GW ⟨#[]⟩,GU G0 0 0,GU G0 0 0,GU G0 0 0,GU G0 0 0] 33);have hb:Below w.heap.size w (w.alloc (GY #[GX GZ 0,GX GZ 0,GW ⟨#[]⟩,GU G0 0 0,GU G0 0 0,GU G0 0 0,GU G0 0 0] 33)):=(Below.refl _ _).alloc (G8 _) _;generalize w.alloc (GY #[GX GZ 0,GX GZ 0,GW ⟨#[]⟩,GU G0 0 0,GU G0 0 0,GU G0 0 0,GU G0 0 0] 33)=w1 at*
 go_wp2_with(with_reducible refine sR rfl 33 (.tmp 2) (.tmp 4) rfl rfl rfl hn ?_);refine rB rfl w.heap.size 33 rfl (sH hn) rfl rfl rfl ?_;exact⟨rfl,aR hb (G8 _)⟩
theorem jZ(s:ByteArray)(w:World):Calls Tryz.prog 59 #[GW s] w fun e w'=>e=.returned (.agg #[GX GZ 3,GX GZ 0,GW s,GU G0 0 0,GU G0 0 0,GU G0 0 0,GU G0 0 0])/\Below w.heap.size w w':=by
 go_enter Tryz.func59,Tryz.ntmps59;go_upto_region 1 with fail
 have hn:=HG w (GY #[GX GZ 0,GX GZ 0,GW ⟨#[]⟩,GU G0 0 0,GU G0 0 0,GU G0 0 0,GU G0 0 0] 33);have hb:Below w.heap.size w (w.alloc (GY #[GX GZ 0,GX GZ 0,GW ⟨#[]⟩,GU G0 0 0,GU G0 0 0,GU G0 0 0,GU G0 0 0] 33)):=(Below.refl _ _).alloc (G8 _) _;generalize w.alloc (GY #[GX GZ 0,GX GZ 0,GW ⟨#[]⟩,GU G0 0 0,GU G0 0 0,GU G0 0 0,GU G0 0 0] 33)=w1 at*
 go_wp2_with(with_reducible refine sR rfl 33 (.tmp 2) (.tmp 4) rfl rfl rfl hn ?_);refine rB rfl w.heap.size 33 rfl (sH hn) rfl rfl rfl ?_;exact⟨rfl,aR hb (G8 _)⟩
theorem iy(s:ByteArray)(w:World):Calls Tryz.prog 58 #[GW s] w fun e w'=>e=.returned (.agg #[GX GZ 2,GX GZ 0,GW s,GU G0 0 0,GU G0 0 0,GU G0 0 0,GU G0 0 0])/\Below w.heap.size w w':=by
 go_enter Tryz.func58,Tryz.ntmps58;go_upto_region 1 with fail
 have hn:=HG w (GY #[GX GZ 0,GX GZ 0,GW ⟨#[]⟩,GU G0 0 0,GU G0 0 0,GU G0 0 0,GU G0 0 0] 33);have hb:Below w.heap.size w (w.alloc (GY #[GX GZ 0,GX GZ 0,GW ⟨#[]⟩,GU G0 0 0,GU G0 0 0,GU G0 0 0,GU G0 0 0] 33)):=(Below.refl _ _).alloc (G8 _) _;generalize w.alloc (GY #[GX GZ 0,GX GZ 0,GW ⟨#[]⟩,GU G0 0 0,GU G0 0 0,GU G0 0 0,GU G0 0 0] 33)=w1 at*
 go_wp2_with(with_reducible refine sR rfl 33 (.tmp 2) (.tmp 4) rfl rfl rfl hn ?_);refine rB rfl w.heap.size 33 rfl (sH hn) rfl rfl rfl ?_;exact⟨rfl,aR hb (G8 _)⟩
theorem pJ(n:Int)(w:World):Calls Tryz.prog 60 #[GX GZ n] w fun e w'=>e=.returned (.agg #[GX GZ 4,GX GZ n,GW ⟨#[]⟩,GU G0 0 0,GU G0 0 0,GU G0 0 0,GU G0 0 0])/\Below w.heap.size w w':=by
 go_enter Tryz.func60,Tryz.ntmps60;go_upto_region 1 with fail
 have hn:=HG w (GY #[GX GZ 0,GX GZ 0,GW ⟨#[]⟩,GU G0 0 0,GU G0 0 0,GU G0 0 0,GU G0 0 0] 33);have hb:Below w.heap.size w (w.alloc (GY #[GX GZ 0,GX GZ 0,GW ⟨#[]⟩,GU G0 0 0,GU G0 0 0,GU G0 0 0,GU G0 0 0] 33)):=(Below.refl _ _).alloc (G8 _) _;generalize w.alloc (GY #[GX GZ 0,GX GZ 0,GW ⟨#[]⟩,GU G0 0 0,GU G0 0 0,GU G0 0 0,GU G0 0 0] 33)=w1 at*
 go_wp2_with(with_reducible refine sR rfl 33 (.tmp 2) (.tmp 4) rfl rfl rfl hn ?_);refine rB rfl w.heap.size 33 rfl (sH hn) rfl rfl rfl ?_;exact⟨rfl,aR hb (G8 _)⟩
theorem dP(w:World):Calls Tryz.prog 61 #[] w fun e w'=>e=.returned (.agg #[GX GZ 5,GX GZ 0,GW ⟨#[]⟩,GU G0 0 0,GU G0 0 0,GU G0 0 0,GU G0 0 0])/\Below w.heap.size w w':=by
 go_enter Tryz.func61,Tryz.ntmps61;go_upto_region 1 with fail
 have hn:=HG w (GY #[GX GZ 0,GX GZ 0,GW ⟨#[]⟩,GU G0 0 0,GU G0 0 0,GU G0 0 0,GU G0 0 0] 33);have hb:Below w.heap.size w (w.alloc (GY #[GX GZ 0,GX GZ 0,GW ⟨#[]⟩,GU G0 0 0,GU G0 0 0,GU G0 0 0,GU G0 0 0] 33)):=(Below.refl _ _).alloc (G8 _) _;generalize w.alloc (GY #[GX GZ 0,GX GZ 0,GW ⟨#[]⟩,GU G0 0 0,GU G0 0 0,GU G0 0 0,GU G0 0 0] 33)=w1 at*
 go_wp2_with(with_reducible refine sR rfl 33 (.tmp 0) (.tmp 1) rfl rfl rfl hn ?_);refine rB rfl w.heap.size 33 rfl (sH hn) rfl rfl rfl ?_;exact⟨rfl,aR hb (G8 _)⟩
theorem j3 {E:Nat->Bool}{x:Nat}{w:World}{v:Value}{V:VV}(h:VW (we (ex E x) w) v V)(cs:Array Value):VW (we E (w.setRow x cs)) v V:=
 (h.below (by rw[ap];exact eN (by simp[ex]) cs)).sub (mJ _ _ _)
theorem ew {E:Nat->Bool}{x:Nat}{w w1:World}(hb:Below w.heap.size w w1)(hx:w.heap.size<=x):Below (we E w).heap.size (we E w) (we (ex E x) w1):=by
 rw[ap];exact(aS hb).trans (zP hx)
theorem uZ(E:Nat->Bool)(l:List VV)(w:World)(v:Value)(hE:Old E w.heap.size)(h:KS (we E w) v l)(hl:l.length<=1000000):Calls Tryz.prog 99 #[v] w fun e w'=>∃v',e=.returned v'/\KS (we E w') v' l/\Below w.heap.size w w':=by
 obtain⟨d,p,c,rfl,hr⟩:=h;obtain⟨cs,h1,h2⟩:=hr.ch;have H1:=zH (h1.sub (db E w));have H2:=zH h2;have Hone:=zH (h2.cells fun _ _ h=>h.one);have Hbw:=zH hE;clear hr h1 h2 hE;go_enter Tryz.func99,Tryz.ntmps99;go_wp2_with(at_builtin;go_loud(refine aC rfl (.const (GU G0 0 0)) (.tmp 3) 28 rfl 33 (by kernel_rfl) cg rfl (by decide) (by decide) w.heap.size w p 0 l.length c [] cs (G8 _) (GU G0 0 0) rfl rfl (Io _ _ _ _) H1.o Hone.o (by omega) ?_);intro v3 w3 ho3 hf3;have Hb3:=zH (hf3.below (G8 _) (by simp) (fun g hg=>by simp[I0]at hg));rw[IV,I8]at ho3;have Ho3:=zH ho3;clear ho3 hf3);go_ret;obtain⟨pz,cz,e7,hrw⟩:=bu (bJ Ho3.o Hbw.o) H2.o (by omega);exact⟨_,rfl,⟨d,pz,cz,e7,hrw.mono fun x cs _ h=>h.below (by rw[ap];exact aS Hb3.o)⟩,Hb3.o⟩
theorem wE {w:World}{p:Option Addr}{c d:Nat}{l:List VV}(h:Rw w p c 7 l (VS w d))(k n:Int)(s:ByteArray):VW w (.agg #[GX GZ k,GX GZ n,GW s,GU p l.length c,GU G0 0 0,GU G0 0 0,GU G0 0 0]) (.mk k n s l [] [] []):=
 ⟨d+1,_,rfl,p,c,G0,0,G0,0,G0,0,rfl,h,Rw.nil _ _ _ _ _,Rw.nil _ _ _ _ _,Rw.nil _ _ _ _ _⟩
theorem mq(E:Nat->Bool)(l:List VV)(w:World)(v:Value)(hE:Old E w.heap.size)(h:KS (we E w) v l)(hl:l.length<=1000000):Calls Tryz.prog 68 #[v] w fun e w'=>∃v',e=.returned v'/\VW (we E w') v' (.mk 6 0 aQ l [] [] [])/\Below w.heap.size w w':=by
 have H:=zH h;obtain⟨_,p,c,rfl,-⟩:=h;go_enter Tryz.func68,Tryz.ntmps68;go_upto_region 1 with fail
 have hn:=HG w (GY #[GX GZ 0,GX GZ 0,GW ⟨#[]⟩,GU G0 0 0,GU G0 0 0,GU G0 0 0,GU G0 0 0] 33);have hb:Below w.heap.size w (w.alloc (GY #[GX GZ 0,GX GZ 0,GW ⟨#[]⟩,GU G0 0 0,GU G0 0 0,GU G0 0 0,GU G0 0 0] 33)):=(Below.refl _ _).alloc (G8 _) _;generalize w.alloc (GY #[GX GZ 0,GX GZ 0,GW ⟨#[]⟩,GU G0 0 0,GU G0 0 0,GU G0 0 0,GU G0 0 0] 33)=w1 at*
 have Hn:=zH hn;have Hb:=zH hb;have Hc:=zH (uZ (ex E w.heap.size) l w1 _ (dU (hE.mono hb.size) (ai hn)) (H.o.below (ew hb (G8 _))) hl);clear hn hb hE;go_wp2_with(first
  |(go_at_call 99;refine Hc.o.mono ?_;rintro e w2 ⟨v2,rfl,hk,hb2⟩;obtain⟨d2,p2,c2,rfl,hr2⟩:=hk;have Hr2:=zH hr2;have Hb2:=zH hb2;have Hn2:=zH ((hb2.block _ (ai Hn.o)).trans Hn.o);clear hr2 hb2)
  |(with_reducible refine sR rfl 33 (.tmp 2) (.tmp 5) rfl rfl rfl Hn2.o ?_))
 refine rB rfl w.heap.size 33 rfl (sH Hn2.o) rfl rfl rfl ?_;exact⟨_,rfl,j3 (wE Hr2.o _ _ _) _,aR (Hb.o.step Hb2.o) (G8 _)⟩
theorem mK(w:World)(A B C:Obj):∃w3,((w.alloc A).alloc B).alloc C=w3/\w3.heap[w.heap.size]? =G5 A/\w3.heap[w.heap.size+1]? =G5 B/\w3.heap[w.heap.size+1+1]? =G5 C/\Below w.heap.size w w3/\w3.heap.size=w.heap.size+1+1+1:=by
 obtain⟨w3,e,h1,h2,h3,h4⟩:=uR w A B C;refine⟨w3,e,h1,h2,h3,h4,?_⟩;rw[<-e];simp
theorem iz(E:Nat->Bool)(H T:VV)(w:World)(u v:Value)(hE:Old E w.heap.size)(hu:VW (we E w) u H)(hv:VW (we E w) v T):Calls Tryz.prog 130 #[u,v] w fun e w'=>∃v',e=.returned v'/\VW (we E w') v' (.mk 7 0 aQ [H,T] [] [] [])/\Below w.heap.size w w':=by
 obtain⟨d1,cs1,rfl,hH⟩:=hu;obtain⟨d2,cs2,rfl,hT⟩:=hv;have HH:=zH hH;have HT:=zH hT;have HE:=zH hE;obtain⟨q1,q2,q3,q4,q5,q6,q7,q8,rfl⟩:=hH.seven;obtain⟨r1,r2,r3,r4,r5,r6,r7,r8,rfl⟩:=hT.seven;clear hH hT hE;go_enter Tryz.func130,Tryz.ntmps130;go_upto_region 1 with fail
 obtain⟨w3,e9,hA,hB,hC,hb,hs⟩:=mK w (GY #[GX GZ H.kind,GX GZ H.num,GW H.text,GU q1 H.kids.length q2,GU q3 H.keys.length q4,GU q5 H.ents.length q6,GU q7 H.labels.length q8] 33) (GY #[GX GZ T.kind,GX GZ T.num,GW T.text,GU r1 T.kids.length r2,GU r3 T.keys.length r4,GU r5 T.ents.length r6,GU r7 T.labels.length r8] 33) (GY #[GX GZ 0,GX GZ 0,GW ⟨#[]⟩,GU G0 0 0,GU G0 0 0,GU G0 0 0,GU G0 0 0] 33);rw[e9];obtain⟨⟨f0,f1,f2,f3⟩,f4,f5,f6⟩:=aN hA;obtain⟨⟨g0,g1,g2,g3⟩,g4,g5,g6⟩:=aN hB;have Hb:=zH hb;have HC:=zH hC;have Hs:=zH hs;clear e9 hA hB hC hb hs;have Hn:=zH (HG w3 (GY #[GX GZ H.kind,GX GZ H.num,GW H.text,GU q1 H.kids.length q2,GU q3 H.keys.length q4,GU q5 H.ents.length q6,GU q7 H.labels.length q8,GX GZ T.kind,GX GZ T.num,GW T.text,GU r1 T.kids.length r2,GU r3 T.keys.length r4,GU r5 T.ents.length r6,GU r7 T.labels.length r8] 33));have Hb4:=zH ((Below.refl w3.heap.size w3).alloc (G8 _) (GY #[GX GZ H.kind,GX GZ H.num,GW H.text,GU q1 H.kids.length q2,GU q3 H.keys.length q4,GU q5 H.ents.length q6,GU q7 H.labels.length q8,GX GZ T.kind,GX GZ T.num,GW T.text,GU r1 T.kids.length r2,GU r3 T.keys.length r4,GU r5 T.ents.length r6,GU r7 T.labels.length r8] 33));have hC4:=(Hb4.o.block _ (ai HC.o)).trans HC.o;go_wp2_with(with_reducible refine sR rfl 33 (.tmp 4) (.tmp 8) rfl rfl rfl hC4 ?_);refine rB rfl (w.heap.size+1+1) 33 rfl (sH hC4) rfl rfl rfl ?_;generalize w3.alloc (GY #[GX GZ H.kind,GX GZ H.num,GW H.text,GU q1 H.kids.length q2,GU q3 H.keys.length q4,GU q5 H.ents.length q6,GU q7 H.labels.length q8,GX GZ T.kind,GX GZ T.num,GW T.text,GU r1 T.kids.length r2,GU r3 T.keys.length r4,GU r5 T.ents.length r6,GU r7 T.labels.length r8] 33)=w4 at*
 refine⟨_,rfl,j3 (x:=w.heap.size+1+1) (wE (p:=G5 ⟨w3.heap.size,0,G0⟩) (c:=2) (d:=max d1 d2) (l:=[H,T]) ?_ 7 0 ⟨#[]⟩) _,aR (Hb.o.step Hb4.o) (by omega)⟩;have hst:=ew (E:=E) (x:=w.heap.size+1+1) (Hb.o.step Hb4.o) (by omega);have e0:ex E (w.heap.size+1+1) w3.heap.size=false:=by have:=Hs.o;simp only[ex,Bool.or_eq_false_iff];exact⟨HE.o _ (by omega),by simp;omega⟩
 refine Rw.of_ch (cs:=[GX GZ H.kind,GX GZ H.num,GW H.text,GU q1 H.kids.length q2,GU q3 H.keys.length q4,GU q5 H.ents.length q6,GU q7 H.labels.length q8,GX GZ T.kind,GX GZ T.num,GW T.text,GU r1 T.kids.length r2,GU r3 T.keys.length r4,GU r5 T.ents.length r6,GU r7 T.labels.length r8]) (RC.row (e:=33) rfl ((cI e0).trans Hn.o) (fun j u hu=>by simpa using hu)) ?_ (by simp) (by simp);exact(Ch.single (cs:=[GX GZ H.kind,GX GZ H.num,GW H.text,GU q1 H.kids.length q2,GU q3 H.keys.length q4,GU q5 H.ents.length q6,GU q7 H.labels.length q8]) rfl ((HH.o.below hst).up (Nat.le_max_left _ _))).append (Ch.single (cs:=[GX GZ T.kind,GX GZ T.num,GW T.text,GU r1 T.kids.length r2,GU r3 T.keys.length r4,GU r5 T.ents.length r6,GU r7 T.labels.length r8]) rfl ((HT.o.below hst).up (Nat.le_max_right _ _)))
def VV.lab(V:VV)(l:List ByteArray):VV:=.mk V.kind V.num V.text V.kids V.keys V.ents l
theorem lI {w:World}{d:Nat}{V:VV}{l:List ByteArray}{q1 q3 q5 q7:Option Addr}{q2 q4 q6 q8:Nat}{u:Value}(h:VS w d V [GX GZ V.kind,GX GZ V.num,GW V.text,GU q1 V.kids.length q2,GU q3 V.keys.length q4,GU q5 V.ents.length q6,GU q7 V.labels.length q8])(hl:SS w u l):VW w (.agg #[GX GZ V.kind,GX GZ V.num,GW V.text,GU q1 V.kids.length q2,GU q3 V.keys.length q4,GU q5 V.ents.length q6,u]) (V.lab l):=by
 cases d with
 |zero=>exact h.elim
 | succ d =>
   obtain⟨p1,c1,p2,c2,p3,c3,p4,c4,e,h1,h2,h3,h4⟩:=h;obtain⟨p5,c5,rfl,h5⟩:=hl;simp at e;obtain⟨⟨rfl,rfl⟩,⟨rfl,rfl⟩,⟨rfl,rfl⟩,rfl,rfl⟩:=e;exact⟨d+1,_,rfl,_,_,_,_,_,_,p5,c5,rfl,h1,h2,h3,h5⟩
theorem nQ(E:Nat->Bool)(V:VV)(l:List ByteArray)(w:World)(v u:Value)(hE:Old E w.heap.size)(hv:VW (we E w) v V)(hu:SS (we E w) u l)(hl:l.length<=100000):Calls Tryz.prog 64 #[v,u] w fun e w'=>∃v' l',e=.returned v'/\VW (we E w') v' (V.lab l')/\l'.length<=l.length/\Below w.heap.size w w':=by
 obtain⟨d1,cs1,rfl,hH⟩:=hv;have HH:=zH hH;have HE:=zH hE;have HU:=zH hu;obtain⟨q1,q2,q3,q4,q5,q6,q7,q8,rfl⟩:=hH.seven;clear hH hE hu;go_enter Tryz.func64,Tryz.ntmps64;go_upto_region 1 with fail
 obtain⟨w2,e9,hA,hC,hb⟩:=bE w (GY #[GX GZ V.kind,GX GZ V.num,GW V.text,GU q1 V.kids.length q2,GU q3 V.keys.length q4,GU q5 V.ents.length q6,GU q7 V.labels.length q8] 33) (GY #[GX GZ 0,GX GZ 0,GW ⟨#[]⟩,GU G0 0 0,GU G0 0 0,GU G0 0 0,GU G0 0 0] 33);rw[e9];obtain⟨⟨f0,f1,f2,f3⟩,f4,f5,f6⟩:=aN hA;have Hb:=zH hb;have HA:=zH hA;have HC:=zH hC;have hlA:=ai hA;have hlC:=ai hC;have Hst:=zH (show Below (we E w).heap.size (we E w) (we (ex (ex E w.heap.size) (w.heap.size+1)) w2)from by rw[ap];exact(aS hb).trans ((zP (G8 _)).trans (zP (by omega))));have Hs:=zH (jY (ex (ex E w.heap.size) (w.heap.size+1)) l w2 u (dU (dU (HE.o.mono hb.size) hlA) hlC) (HU.o.below Hst.o) hl);clear e9 hA hC hb f0 f1 f2 f3 f4 f5 f6;go_upto_region 2 with(go_at_call 20;refine Hs.o.mono ?_;rintro e w3 ⟨v3,l3,rfl,hs3,hl3,hb3⟩;have Hl3:=zH hl3;clear hl3;obtain⟨p9,c9,e9,-⟩:=(id hs3);subst e9;have Hs3:=zH hs3;have Hb3:=zH hb3;have hA3:=(hb3.block _ hlA).trans HA.o;have hU3:=zH (Upd.set (i:=6) (v:=GU p9 l3.length c9) (Upd.refl hA3));have hz6:w3.cell? ⟨w.heap.size,6,G0⟩=G5 (GU q7 V.labels.length q8):=(by simp[World.cell?,hA3]);have hz7:w3.frozen? ⟨w.heap.size,6,G0⟩=false:=(by simp[World.frozen?,hA3]))
 have hA4:=hU3.o.blk;have hC4:=(hU3.o.other (w.heap.size+1) (by omega)).trans ((Hb3.o.block _ hlC).trans HC.o);have Hb4:=zH (hU3.o.below (G8 w.heap.size));have Hw4:=zH (fun B=>bA (B:=B) (E:=ex (ex E w.heap.size) (w.heap.size+1)) hU3.o (by simp[ex]));clear hA3 hz6 hz7;generalize w3.setCell ⟨w.heap.size,6,G0⟩ (GU p9 l3.length c9)=w4 at*
 simp at hA4;obtain⟨⟨f0,f1,f2,f3⟩,f4,f5,f6⟩:=aN hA4;go_wp2_with(with_reducible refine sR rfl 33 (.tmp 4) (.tmp 8) rfl rfl rfl hC4 ?_);refine rB rfl (w.heap.size+1) 33 rfl (sH hC4) rfl rfl rfl ?_;have e4:=(Hst.o.step (by rw[ap];exact aS Hb3.o)).step (Hw4.o _);exact⟨_,l3,rfl,(j3 (lI (HH.o.below e4) (Hs3.o.below (Hw4.o _))) _).sub (mJ _ _ _),Hl3.o,aR ((Hb.o.step Hb3.o).trans Hb4.o) (by omega)⟩
end Go.Proofs.YtfpahmeploondaaGreatDoor
