/- Walks and plain facts for the law on type variables, for all values and types that the heap holds (texts Z1). -/
import Derived.Test.YtfpahmeploondaaGreatDoorR03
import Derived.Test.YtfpahmeploondaaGreatDoorR09
set_option linter.unusedVariables false
set_option linter.unusedSimpArgs false
set_option maxHeartbeats 64000000
open Option renaming none -> G0, some -> G5
open Go.Value renaming slice -> GU, string -> GW, int -> GX
open Go.Obj renaming cells -> GY
open Go.IntKind renaming i64 -> GZ
open List renaming length_singleton -> Ju, mem_of_mem_take -> Jl, mem_of_mem_drop -> Jv, length_append -> Ii, length_take -> IN, length_drop -> I4, nil_append -> I8
open Nat renaming mul_le_mul_right -> I9, lt_of_lt_of_le -> Ig, le_trans -> G9, add_zero -> Im, zero_add -> IV, le_refl -> G8
open Go.World renaming ownsRow_nil -> Io
open Go.LexK.Ext renaming alloc -> IF
open Go.Value renaming ownBlock -> I0
open Go.LexK renaming Ext -> Hh, aq -> JQ
namespace Go.Proofs.YtfpahmeploondaaGreatDoor
open Go.RowKit
set_option maxRecDepth 100000
theorem RC.take {w:World}{sz n k:Nat}{A:Option Addr}{cs:List Value}(h:RC w sz A n cs)(hk:k<=n):RC w sz A k (cs.take (k*sz)):=by
 have h1:=h.1;have hle:k*sz<=n*sz:=I9 _ hk;refine⟨by rw[IN];omega,fun h0=>?_⟩;obtain⟨a,o,e1,e2,e3⟩:=h.2 (by omega);refine⟨a,o,e1,e2,fun j u hu=>e3 j u ?_⟩;rw[List.getElem?_take]at hu;split at hu
 ·exact hu
 ·cases hu
theorem RC.drop {w:World}{sz n k a o:Nat}{cs:List Value}(h:RC w sz (G5 ⟨a,o,G0⟩) n cs)(hk:k<=n):RC w sz (G5 ⟨a,o+k*sz,G0⟩) (n-k) (cs.drop (k*sz)):=by
 have h1:=h.1;have hle:k*sz<=n*sz:=I9 _ hk;refine⟨by rw[I4,h1,Nat.sub_mul],fun h0=>?_⟩;obtain⟨a',o',e1,e2,e3⟩:=h.2 (by omega);injection e1 with e1
 injection e1 with e11 e12
 subst e11 e12;refine⟨a,o+k*sz,rfl,e2,fun j u hu=>?_⟩;rw[List.getElem?_drop]at hu;have:=e3 _ u hu;rwa[<-Nat.add_assoc]at this
theorem Ch.take {α:Type}{sz:Nat}{P:α->List Value->Prop}{L:List α}{cs:List Value}(h:Ch sz P L cs){k:Nat}(hk:k<=L.length):Ch sz P (L.take k) (cs.take (k*sz)):=by
 have h1:=h.1;have hle:k*sz<=L.length*sz:=I9 _ hk;refine⟨by rw[IN,IN,Nat.min_eq_left hk,Nat.min_eq_left (by omega)],fun i hi=>?_⟩;have hi':i<k:=by rw[IN]at hi;omega
 have h2:=h.2 i (by omega);have hle2:(i+1)*sz<=k*sz:=I9 _ hi';rw[Nat.add_mul,Nat.one_mul]at hle2;rw[List.getElem_take,List.drop_take,List.take_take,Nat.min_eq_left (by omega)];exact h2
theorem Ch.drop {α:Type}{sz:Nat}{P:α->List Value->Prop}{L:List α}{cs:List Value}(h:Ch sz P L cs){k:Nat}(hk:k<=L.length):Ch sz P (L.drop k) (cs.drop (k*sz)):=by
 refine⟨by rw[I4,I4,h.1,Nat.sub_mul],fun i hi=>?_⟩;have hi':k+i<L.length:=by rw[I4]at hi;omega
 have h2:=h.2 (k+i) hi';rw[List.getElem_drop,List.drop_drop];rw[Nat.add_mul]at h2;exact h2
theorem qK {x:EE}:∀{l:List EE} {k:Nat} (hk:k<l.length),(∀t (ht:t<l.length),t<k->cmpE l[t] x<0)->cmpE l[k] x=0->ee x l=l
 |[],k,hk,_,_=>by simp at hk
 | y :: r, 0, _, _, h0 => by
   have h0:cmpE y x=0:=h0;unfold ee;rw[if_neg (by omega),if_pos h0]
 | y :: r, k + 1, hk, h1, h0 => by
   unfold ee;have g0:cmpE y x<0:=h1 0 (by simp) (by omega);rw[if_pos g0];congr 1;exact qK (by simpa using hk) (fun t ht htk=>h1 (t+1) (by simpa using ht) (by omega)) h0
theorem kI {x:EE}:∀{l:List EE} {k:Nat},k<=l.length->(∀t (ht:t<l.length),t<k->cmpE l[t] x<0)->(∀(hk:k<l.length),¬cmpE l[k] x<0/\ ¬cmpE l[k] x=0)->ee x l=l.take k++[x]++l.drop k
 |[],k,hk,_,_=>by simp[ee]
 | y :: r, 0, _, _, h0 => by
   obtain⟨h1,h2⟩:=h0 (by simp);simp at h1 h2;unfold ee;rw[if_neg (by omega),if_neg h2];simp
 | y :: r, k + 1, hk, h1, h0 => by
   unfold ee;have g0:cmpE y x<0:=h1 0 (by simp) (by omega);rw[if_pos g0,kI (k:=k) (by simpa using hk) (fun t ht htk=>h1 (t+1) (by simpa using ht) (by omega)) (fun h=>h0 (by simpa using h))];simp
theorem sS(x:EE):∀l:List EE,(ee x l).length<=l.length+1
 |[]=>by simp[ee]
 | y :: r => by
   unfold ee;split
   ·have:=sS x r;simp;omega
   ·split<;>simp
theorem nP {l:List EE}{j:Nat}(h:j<l.length):dt (l.take (j+1))=ee l[j] (dt (l.take j)):=by
 unfold dt;rw[List.take_succ_eq_append_getElem h,List.foldl_append];rfl
theorem pH(l:List EE):(dt l).length<=l.length:=by
 have key:∀(l out:List EE),(l.foldl (fun out x=>ee x out) out).length<=out.length+l.length:=by
  intro l
  induction l with
  |nil=>intro out;simp
  |cons x r ih=>intro out;have:=ih (ee x out);have:=sS x out;simp only[List.foldl_cons,List.length_cons];omega
 have:=key l [];simpa[dt]using this
theorem bI {B n:Nat}{w:World}{e:TypeId}{size:Nat}{v:Value}{xs:List Value}(h:w.ownsRow B e size v n xs):w.drew.ownsRow B e size v n xs:=ao h (Below.refl _ _).drew (G8 _)
theorem bX {B:Nat}{w w':World}(h:Below B w w'):Hh (fun b=>b<B) w w':=⟨h.size,fun i _ hi=>h.block i hi⟩
theorem sT(E:Nat->Bool)(l:List EE)(w:World)(v:Value)(hE:Old E w.heap.size)(h:EY (we E w) v l)(hl:l.length<=1000):Calls Tryz.prog 42 #[v] w fun e w'=>∃v',e=.returned v'/\EY (we E w') v' (dt l)/\Below w.heap.size w w':=by
 have Hbw:=zH hE;obtain⟨d,p,c,rfl,hr⟩:=h;have HR:=zH hr;clear hr hE;go_enter Tryz.func42,Tryz.ntmps42;go_wp2;go_loopw[3,4] (fun v i wr=>∃(j:Nat) (O:List EE) (xs:List Value),j<=l.length/\i=GX GZ j/\O=dt (l.take j)/\wr.ownsRow w.heap.size 68 9 v O.length xs/\Ch 9 (ES (we E w) d) O xs/\Below w.heap.size w wr) (fun _ i _=>l.length-(intOf i).toNat)
 case atStart=>exact⟨0,[],[],by omega,rfl,rfl,Io _ _ _ _,Ch.nil,Below.refl _ _⟩
 case round=>
  obtain⟨j,O,xs,hj,rfl,hO,ho,hc,hbr⟩:=hrel;have Ho:=zH ho;have Hc:=zH hc;have Hbr:=zH hbr;have HO:=zH hO;have hol:O.length<=1000:=by rw[hO];have:=pH (l.take j);rw[IN]at this;omega
  clear ho hc hbr hO;by_cases hlt:j<l.length
  ·have d9:decide (j<l.length)=true:=by simp;omega
   obtain⟨a,o,cs,rfl,hab,-,hrg,hX⟩:=HR.o.at hlt;have hab:a<w.heap.size:=by rwa[ap]at hab
   have Hax:=zH hab;obtain⟨x9,xa,x1,x2,x3,x4,x5,x6,x7,x8,rfl⟩:=hX.nine;have HXb:=zH hX;have HX:=zH (hX.sub (db E w));have c0:=(aJ (hrg 0 _ rfl)).2;have c1:=(aJ (hrg 1 _ rfl)).2;have c2:=(aJ (hrg 2 _ rfl)).2;have c3:=(aJ (hrg 3 _ rfl)).2;have c4:=(aJ (hrg 4 _ rfl)).2;have c5:=(aJ (hrg 5 _ rfl)).2;have c6:=(aJ (hrg 6 _ rfl)).2;have c7:=(aJ (hrg 7 _ rfl)).2;have c8:=(aJ (hrg 8 _ rfl)).2;rw[Im]at c0;have Hins:=zH (nP hlt);rw[<-HO.o]at Hins;have Hlast:=zH hlt;clear hrg hX;generalize l[j]=x at*
   obtain⟨q,cap1,rfl⟩:=aB Ho.o;have hcap1:O.length<=cap1:=eo Ho.o;go_wp2;go_loopw[5] (fun i wi=>∃k:Nat,k<=O.length/\i=GX GZ k/\(∀t (ht:t<O.length),t<k->cmpE O[t] x<0)/\wi.ownsRow w.heap.size 68 9 (GU q O.length cap1) O.length xs/\Below w.heap.size w wi) (fun i _=>O.length-(intOf i).toNat)
   case atStart=>exact⟨0,by omega,rfl,fun t _ h=>by omega,Ho.o,Hbr.o⟩
   case round=>
    obtain⟨k,hk,rfl,hls,ho2,hb2⟩:=hrel;have Ho2:=zH ho2;have Hb2:=zH hb2;have Hls:=zH hls;clear ho2 hb2 hls;have z0:=ae Hb2.o c0;have z1:=ae Hb2.o c1;have z2:=ae Hb2.o c2;have z3:=ae Hb2.o c3;have z4:=ae Hb2.o c4;have z5:=ae Hb2.o c5;have z6:=ae Hb2.o c6;have z7:=ae Hb2.o c7;have z8:=ae Hb2.o c8;by_cases hkl:k<O.length
    ·have d8:decide (k<O.length)=true:=by simp;omega
     obtain⟨q',cap',eq',hrw⟩:=bu Ho2.o Hc.o (by omega);injection eq' with eq1 _ eq3
     subst eq1 eq3;obtain⟨g,og,cs',rfl,hg,-,hrg',hY⟩:=hrw.at hkl;obtain⟨y9,ya,y1,y2,y3,y4,y5,y6,y7,y8,rfl⟩:=hY.nine;have HY:=zH (hY.sub (db E w));have v0:=hrg' 0 _ rfl;have v1:=hrg' 1 _ rfl;have v2:=hrg' 2 _ rfl;have v3:=hrg' 3 _ rfl;have v4:=hrg' 4 _ rfl;have v5:=hrg' 5 _ rfl;have v6:=hrg' 6 _ rfl;have v7:=hrg' 7 _ rfl;have v8:=hrg' 8 _ rfl;rw[Im]at v0;have Hstep:=zH (show cmpE O[k] x<0->∀t (ht:t<O.length),t<k+1->cmpE O[t] x<0 from fun h t ht htk=>by
      rcases Nat.lt_succ_iff_lt_or_eq.1 htk with g2|rfl
      ·exact Hls.o t ht g2
      ·exact h)
     have Heq:=zH (fun h=>qK hkl Hls.o h);have Hat:=zH (fun(h1: ¬cmpE O[k] x<0) (h2: ¬cmpE O[k] x=0)=>kI hk Hls.o (fun _=>⟨h1,h2⟩));clear hrw hrg' hY Hls;generalize O[k]=y at*
     have Hcall:=zH (fun(w5:World) (h:Below w.heap.size w w5)=>dV y x w5 _ _ _ _ (HY.o.below h) (HX.o.below h));by_cases h1:cmpE y x<0
     ·have Hst2:=zH (Hstep.o h1);have d1:decide (cmpE y x<0)=true:=by simp[h1]
      clear h1 Hstep Heq Hat;generalize cmpE y x=cc at*
      go_wp2_with(first
       |(with_reducible refine rg ?_)
       |(with_reducible refine fo ?_)
       |(go_at_call 78;refine(Hcall.o _ Hb2.o.drew).mono ?_;rintro e w6 ⟨rfl,hb6⟩;have Ho6:=zH (ao (bI Ho2.o) hb6 (G8 _));have Hb6:=zH (Hb2.o.drew.trans (hb6.mono Hb2.o.size));clear hb6))
      exact⟨⟨k+1,by omega,by go_num,Hst2.o,Ho6.o,Hb6.o⟩,by simp[intOf];omega⟩
     ·have d1:decide (cmpE y x<0)=false:=by simp;omega
      by_cases h2:cmpE y x=0
      ·have Hk2:=zH (Heq.o h2);have d2:(cmpE y x==0)=true:=by simp[h2]
       clear h1 h2 Hstep Heq Hat;generalize cmpE y x=cc at*
       go_wp2_with(first
        |(with_reducible refine rg ?_)
        |(with_reducible refine fo ?_)
        |(go_at_call 78;refine(Hcall.o _ Hb2.o.drew).mono ?_;rintro e w6 ⟨rfl,hb6⟩;have Ho6:=zH (ao (bI Ho2.o) hb6 (G8 _));have Hb6:=zH (Hb2.o.drew.trans (hb6.mono Hb2.o.size));have z0':=ae hb6 z0;have v0':=ae hb6 v0;have z1':=ae hb6 z1;have v1':=ae hb6 v1;have z2':=ae hb6 z2;have v2':=ae hb6 v2;have z3':=ae hb6 z3;have v3':=ae hb6 v3;have z4':=ae hb6 z4;have v4':=ae hb6 v4;have z5':=ae hb6 z5;have v5':=ae hb6 v5;have z6':=ae hb6 z6;have v6':=ae hb6 v6;have z7':=ae hb6 z7;have v7':=ae hb6 v7;have z8':=ae hb6 z8;have v8':=ae hb6 v8;clear hb6 z0 v0 z1 v1 z2 v2 z3 v3 z4 v4 z5 v5 z6 v6 z7 v7 z8 v8;have Hb2:=0)
        |(go_at_call 78;refine(Hcall.o _ Hb6.o.drew).mono ?_;rintro e w7 ⟨rfl,hb7⟩;have Ho7:=zH (ao (bI Ho6.o) hb7 (G8 _));have Hb7:=zH (Hb6.o.drew.trans (hb7.mono Hb6.o.size));clear hb7))
       exact⟨⟨j+1,O,xs,by omega,by go_num,by rw[Hins.o,Hk2.o],Ho7.o,Hc.o,Hb7.o⟩,by simp[intOf];omega⟩
      ·have Hres:=zH (Hat.o h1 h2);have d2:(cmpE y x==0)=false:=by simp[h2]
       clear h1 h2 Hstep Heq Hat;generalize cmpE y x=cc at*
       go_upto_region 9 with(first
        |(with_reducible refine rg ?_)
        |(with_reducible refine fo ?_)
        |(go_at_call 78;refine(Hcall.o _ Hb2.o.drew).mono ?_;rintro e w6 ⟨rfl,hb6⟩;have Ho6:=zH (ao (bI Ho2.o) hb6 (G8 _));have Hb6:=zH (Hb2.o.drew.trans (hb6.mono Hb2.o.size));have z0':=ae hb6 z0;have v0':=ae hb6 v0;have z1':=ae hb6 z1;have v1':=ae hb6 v1;have z2':=ae hb6 z2;have v2':=ae hb6 v2;have z3':=ae hb6 z3;have v3':=ae hb6 v3;have z4':=ae hb6 z4;have v4':=ae hb6 v4;have z5':=ae hb6 z5;have v5':=ae hb6 v5;have z6':=ae hb6 z6;have v6':=ae hb6 v6;have z7':=ae hb6 z7;have v7':=ae hb6 v7;have z8':=ae hb6 z8;have v8':=ae hb6 v8;clear hb6 z0 v0 z1 v1 z2 v2 z3 v3 z4 v4 z5 v5 z6 v6 z7 v7 z8 v8;have Hb2:=0)
        |(go_at_call 78;refine(Hcall.o _ Hb6.o.drew).mono ?_;rintro e wd ⟨rfl,hb7⟩;have Hod:=zH (ao (bI Ho6.o) hb7 (G8 _));have Hbd:=zH (Hb6.o.drew.trans (hb7.mono Hb6.o.size));clear hb7))
       rw[<-Hins.o]at Hres;have Hrc:=zH (RC.of_own Hod.o);have Hone:=zH (Hc.o.cells fun _ _ h=>h.one);have HcT:=zH (Hc.o.take (k:=k) hk);have HcD:=zH (Hc.o.drop (k:=k) hk);have HoT:=zH (fun u hu=>Hone.o u (Jl (i:=k*9) hu));have HoD:=zH (fun u hu=>Hone.o u (Jv (i:=k*9) hu));have HoX:=zH (HX.o.one);have Hlx:=zH (show xs.length=O.length*9 from Hod.o.1);have Hsd:=zH Hbd.o.size;have HrD:=zH (show RC wd 9 (G5 ⟨g,og+k*9,G0⟩) (O.length-k) (xs.drop (k*9))from Hrc.o.drop hk);have Q0:=zH (ae Hbd.o c0);have Q1:=zH (ae Hbd.o c1);have Q2:=zH (ae Hbd.o c2);have Q3:=zH (ae Hbd.o c3);have Q4:=zH (ae Hbd.o c4);have Q5:=zH (ae Hbd.o c5);have Q6:=zH (ae Hbd.o c6);have Q7:=zH (ae Hbd.o c7);have Q8:=zH (ae Hbd.o c8);clear c0 c1 c2 c3 c4 c5 c6 c7 c8 d8;go_wp2_with(first
        |((with_reducible refine Lex.aP ?_);refine fE (by repeat first|exact LexK.aL|refine LexK.aG rfl ?_|refine LexK.aH (by decide+kernel) ?_|refine LexK.an rfl Hax.o Hn0.o ?_) ?_)
        |((with_reducible refine Lex.aI ?_);refine gL (fun b=>b<w.heap.size) ?_;have n0:w3.drew.cell? ⟨a,o+j*9,G0⟩=_:=(Hb3.o.cell (p:=⟨a,_,G0⟩) (Ig Hax.o Hsd.o)).trans Q0.o;have n1:w3.drew.cell? ⟨a,o+j*9+1,G0⟩=_:=(Hb3.o.cell (p:=⟨a,_,G0⟩) (Ig Hax.o Hsd.o)).trans Q1.o;have n2:w3.drew.cell? ⟨a,o+j*9+2,G0⟩=_:=(Hb3.o.cell (p:=⟨a,_,G0⟩) (Ig Hax.o Hsd.o)).trans Q2.o;have n3:w3.drew.cell? ⟨a,o+j*9+3,G0⟩=_:=(Hb3.o.cell (p:=⟨a,_,G0⟩) (Ig Hax.o Hsd.o)).trans Q3.o;have n4:w3.drew.cell? ⟨a,o+j*9+4,G0⟩=_:=(Hb3.o.cell (p:=⟨a,_,G0⟩) (Ig Hax.o Hsd.o)).trans Q4.o;have n5:w3.drew.cell? ⟨a,o+j*9+5,G0⟩=_:=(Hb3.o.cell (p:=⟨a,_,G0⟩) (Ig Hax.o Hsd.o)).trans Q5.o;have n6:w3.drew.cell? ⟨a,o+j*9+6,G0⟩=_:=(Hb3.o.cell (p:=⟨a,_,G0⟩) (Ig Hax.o Hsd.o)).trans Q6.o;have n7:w3.drew.cell? ⟨a,o+j*9+7,G0⟩=_:=(Hb3.o.cell (p:=⟨a,_,G0⟩) (Ig Hax.o Hsd.o)).trans Q7.o;have n8:w3.drew.cell? ⟨a,o+j*9+8,G0⟩=_:=(Hb3.o.cell (p:=⟨a,_,G0⟩) (Ig Hax.o Hsd.o)).trans Q8.o;have Hn0:=zH n0)
        |(with_reducible first|refine qH ?_|refine LexK.aK ?_|refine LexK.aO ?_)
        | ((with_reducible refine Lex.aX ?_); first
            |with_reducible refine JQ hex5.o ?_
            |refine JQ hex4.o ?_
            |refine JQ (IF _ _) ?_)
        |(at_builtin;first
         |(refine aC rfl (.const (GU G0 0 0)) (.tmp 49) 30 rfl 68 (by kernel_rfl) cG rfl (by decide) (by decide) wd.heap.size wd (G5 ⟨g,og,G0⟩) 0 k _ [] (xs.take (k*9)) (G8 _) (GU G0 0 0) rfl rfl (Io _ _ _ _) (Hrc.o.take hk) HoT.o (by omega) ?_;intro v3 w3 ho3 hf3;have Hb3:=zH (hf3.below (G8 _) (by simp) (fun g hg=>by simp[I0]at hg));rw[IV,I8]at ho3;obtain⟨p3,cap3,rfl⟩:=aB ho3;have Ho3:=zH ho3;clear ho3 hf3)
         |(refine aA rfl (.tmp 51) (.tmp 56) 30 rfl 68 (by kernel_rfl) cG rfl (by decide) (by decide) wd.heap.size _ w3.drew.heap.size [GU x9 x.args.length xa,.bool x.fails,GX GZ x.res.kind,GX GZ x.res.num,GW x.res.text,GU x1 x.res.kids.length x2,GU x3 x.res.keys.length x4,GU x5 x.res.ents.length x6,GU x7 x.res.labels.length x8] (heap_alloc_new w3.drew _) (G9 Hb3.o.size (by simp)) rfl HoX.o (GU p3 k cap3) k (xs.take (k*9)) rfl (ao Ho3.o ((Below.refl _ _).drew.alloc (G8 _) _) (G8 _)) (by omega) rfl ?_;intro v4 w4 ho4 hf4;have Hb4:=zH ((Hb3.o.drew.alloc Hb3.o.size _).trans (hf4.below (G9 Hb3.o.size (by simp)) (by simp) fun g hg=>(Ho3.o.lt g hg).1));have hex4:=zH (show Hh (fun b=>b<w.heap.size) (w3.drew.alloc (GY #[GU x9 x.args.length xa,.bool x.fails,GX GZ x.res.kind,GX GZ x.res.num,GW x.res.text,GU x1 x.res.kids.length x2,GU x3 x.res.keys.length x4,GU x5 x.res.ents.length x6,GU x7 x.res.labels.length x8] 68)) w4 from bX (hf4.below (G9 Hsd.o (G9 Hb3.o.size (by simp))) (by simp) fun g hg=>G9 Hsd.o (Ho3.o.lt g hg).1));obtain⟨p4,cap4,rfl⟩:=aB ho4;have Ho4:=zH ho4;clear ho4 hf4)
         |(refine aC rfl (.tmp 57) (.tmp 60) 30 rfl 68 (by kernel_rfl) cG rfl (by decide) (by decide) wd.heap.size w4 (G5 ⟨g,og+k*9,G0⟩) (k+1) (O.length-k) _ (xs.take (k*9)++[GU x9 x.args.length xa,.bool x.fails,GX GZ x.res.kind,GX GZ x.res.num,GW x.res.text,GU x1 x.res.kids.length x2,GU x3 x.res.keys.length x4,GU x5 x.res.ents.length x6,GU x7 x.res.labels.length x8]) (xs.drop (k*9)) Hb4.o.size (GU p4 (k+1) cap4) rfl rfl Ho4.o (HrD.o.below Hb4.o) HoD.o (by omega) ?_;intro v5 w5 ho5 hf5;have Hb5:=zH (Hb4.o.trans (hf5.below Hb4.o.size (by simp) fun g hg=>(Ho4.o.lt g hg).1));have hex5:=zH (show Hh (fun b=>b<w.heap.size) w4 w5 from bX (hf5.below (G9 Hsd.o Hb4.o.size) (by simp) fun g hg=>G9 Hsd.o (Ho4.o.lt g hg).1));have Ho5:=zH ho5;clear ho5 hf5)))
       have hlen:(O.take k++[x]++O.drop k).length=k+1+(O.length-k):=by rw[Ii,Ii,IN,I4,Ju];omega
       refine⟨⟨j+1,O.take k++[x]++O.drop k,xs.take (k*9)++[GU x9 x.args.length xa,.bool x.fails,GX GZ x.res.kind,GX GZ x.res.num,GW x.res.text,GU x1 x.res.kids.length x2,GU x3 x.res.keys.length x4,GU x5 x.res.ents.length x6,GU x7 x.res.labels.length x8]++(xs.drop (k*9)),by omega,by go_num,Hres.o.symm,by rw[hlen];exact bG Ho5.o Hsd.o,?_,Hbd.o.trans (Hb5.o.mono Hsd.o)⟩,by simp[intOf];omega⟩;exact(HcT.o.append (Ch.single rfl HXb.o)).append HcD.o
    ·obtain rfl:k=O.length:=by omega
     have d8:decide (O.length<O.length)=false:=by simp
     have Hres:=zH (kI (G8 _) Hls.o (fun h=>absurd h (Nat.lt_irrefl _)));clear Hls;go_upto_region 9 with(first
      |(with_reducible refine rg ?_)
      |(with_reducible refine fo ?_))
     have Hod:=zH (ao Ho2.o (Below.refl _ _).drew.drew (G8 _));have Hbd:=zH Hb2.o.drew.drew;clear z0 z1 z2 z3 z4 z5 z6 z7 z8 Ho2 Hb2;generalize wr.drew.drew=wd at*
     rw[<-Hins.o]at Hres;have Hrc:=zH (RC.of_own Hod.o);have Hone:=zH (Hc.o.cells fun _ _ h=>h.one);have HcT:=zH (Hc.o.take (k:=O.length) (G8 _));have HcD:=zH (Hc.o.drop (k:=O.length) (G8 _));have HoT:=zH (fun u hu=>Hone.o u (Jl (i:=O.length*9) hu));have HoD:=zH (fun u hu=>Hone.o u (Jv (i:=O.length*9) hu));have HoX:=zH (HX.o.one);have Hlx:=zH (show xs.length=O.length*9 from Hod.o.1);have Hsd:=zH Hbd.o.size;have Q0:=zH (ae Hbd.o c0);have Q1:=zH (ae Hbd.o c1);have Q2:=zH (ae Hbd.o c2);have Q3:=zH (ae Hbd.o c3);have Q4:=zH (ae Hbd.o c4);have Q5:=zH (ae Hbd.o c5);have Q6:=zH (ae Hbd.o c6);have Q7:=zH (ae Hbd.o c7);have Q8:=zH (ae Hbd.o c8);clear c0 c1 c2 c3 c4 c5 c6 c7 c8 d8;go_wp2_with(first
      |((with_reducible refine Lex.aP ?_);refine fE (by repeat first|exact LexK.aL|refine LexK.aG rfl ?_|refine LexK.aH (by decide+kernel) ?_|refine LexK.an rfl Hax.o Hn0.o ?_) ?_)
      |((with_reducible refine Lex.aI ?_);refine gL (fun b=>b<w.heap.size) ?_;have n0:w3.drew.cell? ⟨a,o+j*9,G0⟩=_:=(Hb3.o.cell (p:=⟨a,_,G0⟩) (Ig Hax.o Hsd.o)).trans Q0.o;have n1:w3.drew.cell? ⟨a,o+j*9+1,G0⟩=_:=(Hb3.o.cell (p:=⟨a,_,G0⟩) (Ig Hax.o Hsd.o)).trans Q1.o;have n2:w3.drew.cell? ⟨a,o+j*9+2,G0⟩=_:=(Hb3.o.cell (p:=⟨a,_,G0⟩) (Ig Hax.o Hsd.o)).trans Q2.o;have n3:w3.drew.cell? ⟨a,o+j*9+3,G0⟩=_:=(Hb3.o.cell (p:=⟨a,_,G0⟩) (Ig Hax.o Hsd.o)).trans Q3.o;have n4:w3.drew.cell? ⟨a,o+j*9+4,G0⟩=_:=(Hb3.o.cell (p:=⟨a,_,G0⟩) (Ig Hax.o Hsd.o)).trans Q4.o;have n5:w3.drew.cell? ⟨a,o+j*9+5,G0⟩=_:=(Hb3.o.cell (p:=⟨a,_,G0⟩) (Ig Hax.o Hsd.o)).trans Q5.o;have n6:w3.drew.cell? ⟨a,o+j*9+6,G0⟩=_:=(Hb3.o.cell (p:=⟨a,_,G0⟩) (Ig Hax.o Hsd.o)).trans Q6.o;have n7:w3.drew.cell? ⟨a,o+j*9+7,G0⟩=_:=(Hb3.o.cell (p:=⟨a,_,G0⟩) (Ig Hax.o Hsd.o)).trans Q7.o;have n8:w3.drew.cell? ⟨a,o+j*9+8,G0⟩=_:=(Hb3.o.cell (p:=⟨a,_,G0⟩) (Ig Hax.o Hsd.o)).trans Q8.o;have Hn0:=zH n0)
      |(with_reducible first|refine qH ?_|refine LexK.aK ?_|refine LexK.aO ?_)
      | ((with_reducible refine Lex.aX ?_); first
          |with_reducible refine JQ hex5.o ?_
          |refine JQ hex4.o ?_
          |refine JQ (IF _ _) ?_)
      |(at_builtin;first
       |(refine aC rfl (.const (GU G0 0 0)) (.tmp 49) 30 rfl 68 (by kernel_rfl) cG rfl (by decide) (by decide) wd.heap.size wd q 0 O.length _ [] (xs.take (O.length*9)) (G8 _) (GU G0 0 0) rfl rfl (Io _ _ _ _) (Hrc.o.take (G8 _)) HoT.o (by omega) ?_;intro v3 w3 ho3 hf3;have Hb3:=zH (hf3.below (G8 _) (by simp) (fun g hg=>by simp[I0]at hg));rw[IV,I8]at ho3;obtain⟨p3,cap3,rfl⟩:=aB ho3;have Ho3:=zH ho3;clear ho3 hf3)
       |(refine aA rfl (.tmp 51) (.tmp 56) 30 rfl 68 (by kernel_rfl) cG rfl (by decide) (by decide) wd.heap.size _ w3.drew.heap.size [GU x9 x.args.length xa,.bool x.fails,GX GZ x.res.kind,GX GZ x.res.num,GW x.res.text,GU x1 x.res.kids.length x2,GU x3 x.res.keys.length x4,GU x5 x.res.ents.length x6,GU x7 x.res.labels.length x8] (heap_alloc_new w3.drew _) (G9 Hb3.o.size (by simp)) rfl HoX.o (GU p3 O.length cap3) O.length (xs.take (O.length*9)) rfl (ao Ho3.o ((Below.refl _ _).drew.alloc (G8 _) _) (G8 _)) (by omega) rfl ?_;intro v4 w4 ho4 hf4;have Hb4:=zH ((Hb3.o.drew.alloc Hb3.o.size _).trans (hf4.below (G9 Hb3.o.size (by simp)) (by simp) fun g hg=>(Ho3.o.lt g hg).1));have hex4:=zH (show Hh (fun b=>b<w.heap.size) (w3.drew.alloc (GY #[GU x9 x.args.length xa,.bool x.fails,GX GZ x.res.kind,GX GZ x.res.num,GW x.res.text,GU x1 x.res.kids.length x2,GU x3 x.res.keys.length x4,GU x5 x.res.ents.length x6,GU x7 x.res.labels.length x8] 68)) w4 from bX (hf4.below (G9 Hsd.o (G9 Hb3.o.size (by simp))) (by simp) fun g hg=>G9 Hsd.o (Ho3.o.lt g hg).1));obtain⟨p4,cap4,rfl⟩:=aB ho4;have Ho4:=zH ho4;clear ho4 hf4)
       |(refine aC rfl (.tmp 57) (.tmp 60) 30 rfl 68 (by kernel_rfl) cG rfl (by decide) (by decide) wd.heap.size w4 _ (O.length+1) 0 _ (xs.take (O.length*9)++[GU x9 x.args.length xa,.bool x.fails,GX GZ x.res.kind,GX GZ x.res.num,GW x.res.text,GU x1 x.res.kids.length x2,GU x3 x.res.keys.length x4,GU x5 x.res.ents.length x6,GU x7 x.res.labels.length x8]) [] Hb4.o.size (GU p4 (O.length+1) cap4) rfl rfl Ho4.o (RC.nil _ _ _) (by simp) (by omega) ?_;intro v5 w5 ho5 hf5;have Hb5:=zH (Hb4.o.trans (hf5.below Hb4.o.size (by simp) fun g hg=>(Ho4.o.lt g hg).1));have hex5:=zH (show Hh (fun b=>b<w.heap.size) w4 w5 from bX (hf5.below (G9 Hsd.o Hb4.o.size) (by simp) fun g hg=>G9 Hsd.o (Ho4.o.lt g hg).1));have Ho5:=zH ho5;clear ho5 hf5)))
     have hlen:(O.take O.length++[x]++O.drop O.length).length=O.length+1+0:=by rw[Ii,Ii,IN,I4,Ju];omega
     refine⟨⟨j+1,O.take O.length++[x]++O.drop O.length,xs.take (O.length*9)++[GU x9 x.args.length xa,.bool x.fails,GX GZ x.res.kind,GX GZ x.res.num,GW x.res.text,GU x1 x.res.kids.length x2,GU x3 x.res.keys.length x4,GU x5 x.res.ents.length x6,GU x7 x.res.labels.length x8]++[],by omega,by go_num,Hres.o.symm,by rw[hlen];exact bG Ho5.o Hsd.o,?_,Hbd.o.trans (Hb5.o.mono Hsd.o)⟩,by simp[intOf];omega⟩;have hz:=HcD.o;have ez:xs.drop (O.length*9)=[]:=List.drop_eq_nil_of_le (by rw[Hlx.o];exact G8 _);rw[ez]at hz;exact(HcT.o.append (Ch.single rfl HXb.o)).append hz
  ·obtain rfl:j=l.length:=by omega
   have d9:decide (l.length<l.length)=false:=by simp
   rw[List.take_length]at HO;go_wp2;go_ret;obtain⟨pz,cz,e7,hrw⟩:=bu (bJ Ho.o Hbw.o) Hc.o (by omega);refine⟨_,rfl,?_,Hbr.o⟩;rw[<-HO.o];exact⟨d,pz,cz,e7,hrw.mono fun x cs _ h=>h.below (by rw[ap];exact aS Hbr.o)⟩
end Go.Proofs.YtfpahmeploondaaGreatDoor
