/- Walks and plain facts for the law on type variables, for all values and types that the heap holds (texts H0 Th). -/
import Derived.Test.YtfpahmeploondaaGreatDoorR03
import Derived.Test.YtfpahmeploondaaGreatDoorR12
import Derived.Test.YtfpahmeploondaaGreatDoorR25
import Derived.Test.YtfpahmeploondaaGreatDoorR35
set_option linter.unusedVariables false
set_option linter.unusedSimpArgs false
set_option maxHeartbeats 64000000
open Option renaming none -> G0, some -> G5
open Bool renaming true -> G6, false -> G7
open Go.Value renaming slice -> GU, string -> GW, int -> GX
open Go.Obj renaming cells -> GY
open Go.IntKind renaming i64 -> GZ
open Nat renaming lt_succ_iff_lt_or_eq -> IP, lt_of_lt_of_le -> Ig, le_max_right -> Jq, le_max_left -> Jr, le_trans -> G9, add_zero -> Im, zero_add -> IV, le_refl -> G8
open List renaming length_singleton -> Ju, mem_of_mem_take -> Jl, mem_of_mem_drop -> Jv, length_append -> Ii, length_take -> IN, length_drop -> I4, nil_append -> I8, map_append -> Jb, map_cons -> IY, sum_cons -> Jg
open Bool renaming or_eq_false_iff -> Jz, and_eq_true -> Ik, or_eq_true -> IE
open Go.World renaming ownsRow_nil -> Io
open Go renaming heap_alloc_new -> HG, bodyPost_ret -> Jm
open Go.LexK.Ext renaming alloc -> IF
open Go.Value renaming ownBlock -> I0
open Go.LexK renaming Ext -> Hh, aq -> JQ
namespace Go.Proofs.YtfpahmeploondaaGreatDoor
open Go.RowKit Go.Ident
set_option maxRecDepth 100000
theorem xc {num:Int}{e:EE}(h:bQ num e=G6)(hn:e.nodes=0):e=.mk [] G6 zeroV:=by
 obtain⟨args,f,r⟩:=e;rw[eD]at hn;unfold bQ at h;simp only[EE.parts,EE.args,EE.fails,EE.res,Ik,IE,decide_eq_true_eq,Bool.not_eq_true']at h hn;cases f with
 | false =>
   simp only[Bool.false_eq_true,if_false,Jb,List.sum_append,IY,List.map_nil,Jg,List.sum_nil]at hn;have:=lG r;omega
 | true =>
   simp only[if_true,List.append_nil]at hn;have ha:args=[]:=by
    cases args with
    |nil=>rfl
    |cons x t=>have:=lG x;simp only[IY,Jg]at hn;omega
   have hr:r=zeroV:=sK (of_decide_eq_true (h.2.resolve_left (by decide)));rw[ha,hr]
theorem tu {x:EE}:∀{l:List EE},bV cmpE (x::l)=G6->∀y∈l,cmpE x y<0
 |[],_,y,hy=>by simp at hy
 | z :: r, h, y, hy => by
   obtain⟨h1,h2⟩:=asc_cons.1 h;have hz:=h1 z rfl;rcases List.mem_cons.1 hy with rfl|hy
   ·exact hz
   ·have hy2:=tu h2 y hy;have:=cmpE_lo.tr x z y trivial trivial trivial (by omega) (by omega);rcases Int.lt_or_eq_of_le this.1 with h|h
    ·exact h
    ·have:=(this.2 h).1;omega
theorem tw {num:Int}:∀{l:List EE},bV cmpE l=G6->(∀e∈l,bQ num e=G6)->l.length<=(l.map EE.nodes).sum+1
 |[],_,_=>by simp
 | x :: r, h, hk => by
   have h2:=(asc_cons.1 h).2;have ih:=tw h2 fun e he=>hk e (by simp[he])
   simp only[IY,Jg,List.length_cons];by_cases hx:x.nodes=0
   ·have hx0:=xc (hk x (by simp)) hx;have hall:∀l:List EE,(∀y∈l,1<=y.nodes)->l.length<=(l.map EE.nodes).sum:=by
     intro l
     induction l with
     |nil=>intro _;simp
     |cons y t ih=>intro h;have:=h y (by simp);have:=ih fun z hz=>h z (by simp[hz]);simp only[IY,Jg,List.length_cons];omega
    have:=hall r fun y hy=>by
     rcases Nat.eq_zero_or_pos y.nodes with e|e
     ·have hy0:=xc (hk y (by simp[hy])) e;have:=tu h y hy;rw[hx0,hy0,cmpE_lo.self trivial]at this;omega
     ·exact e
    omega
   ·omega
def Shrt(V:VV):Prop:=(V.valid=G6\/V=zeroV)/\V.nodes<=200000
theorem Shrt.kids {V:VV}(h:Shrt V):V.kids.length<=200000/\∀x∈V.kids,Shrt x:=by
 obtain⟨hv,hn⟩:=h;have hp:=yh V
 refine ⟨by have : V.kids.length ≤ V.parts.length := by unfold VV.parts; simp
            omega,fun x hx=>?_⟩
 have hxp:x∈V.parts:=by unfold VV.parts;simp[hx]
 refine⟨?_,by have:=nK hxp;omega⟩;rcases hv with hv|rfl
 ·exact .inl (lD hv hx)
 ·simp[zeroV,VV.kids]at hx
theorem Shrt.ents {V:VV}(h:Shrt V):V.ents.length<=200001/\∀e∈V.ents,e.args.length<=200000/\(∀x∈e.args,Shrt x)/\Shrt e.res:=by
 obtain⟨hv,hn⟩:=h;rcases hv with hv|rfl
 ·have hnode:=jU hv;by_cases hk:V.kind=9
  ·unfold bT at hnode;simp[hk]at hnode;obtain⟨-,-,hasc,hok⟩:=hnode;have hs:(V.ents.map EE.nodes).sum<=V.nodes:=by
    rw[i5 V];unfold VV.parts;simp only[Jb,List.sum_append];rw[jX];omega
   refine⟨by have:=tw hasc hok;omega,fun e he=>?_⟩;obtain⟨hva,hvr⟩:=lE hv he;have hpart:∀x∈e.parts,x.nodes<V.nodes:=fun x hx=>nK (by unfold VV.parts;simp only[List.mem_append,List.mem_flatMap];exact .inr ⟨e,he,hx⟩)
   have hmax:e.args.length<=V.nodes:=by
    have h1:=qI e.args;have h2:(e.args.map VV.nodes).sum<=e.nodes:=by rw[eD];unfold EE.parts;simp only[Jb,List.sum_append];omega
    have h3:e.nodes<=(V.ents.map EE.nodes).sum:=by
     obtain⟨s,t,hst⟩:=List.append_of_mem he;rw[hst];simp only[Jb,List.sum_append,IY,Jg];omega
    omega
   refine⟨by omega,fun x hx=>⟨.inl (hva x hx),by have:=hpart x (by unfold EE.parts;simp[hx]);omega⟩,?_⟩;cases hf:e.fails with
   |false=>exact⟨.inl (hvr hf),by have:=hpart e.res (by unfold EE.parts;simp[hf]);omega⟩
   | true =>
     have:=hok e he;unfold bQ at this;rw[hf]at this;simp at this;have hz:=sK this.2;exact⟨.inr hz,by rw[hz];decide⟩
  ·have he:V.ents=[]:=by
    unfold bT at hnode;simp only[Ik,IE,decide_eq_true_eq]at hnode;exact List.isEmpty_iff.1 (hnode.1.2.2.resolve_left hk)
   rw[he];exact⟨by simp,fun e h=>by simp at h⟩
 ·exact⟨by simp[zeroV,VV.ents],fun e h=>by simp[zeroV,VV.ents]at h⟩
theorem tz(E:Nat->Bool)(l:List EE)(w:World)(v:Value)(hE:Old E w.heap.size)(h:EY (we E w) v l)(hl:l.length<=1000000):Calls Tryz.prog 42 #[v] w fun e w'=>∃v',e=.returned v'/\EY (we E w') v' (dt l)/\Below w.heap.size w w':=by
 have Hbw:=zH hE;obtain⟨d,p,c,rfl,hr⟩:=h;have HR:=zH hr;clear hr hE;go_enter Tryz.func42,Tryz.ntmps42;go_wp2;go_loopw[3,4] (fun v i wr=>∃(j:Nat) (O:List EE) (xs:List Value),j<=l.length/\i=GX GZ j/\O=dt (l.take j)/\wr.ownsRow w.heap.size 68 9 v O.length xs/\Ch 9 (ES (we E w) d) O xs/\Below w.heap.size w wr) (fun _ i _=>l.length-(intOf i).toNat)
 case atStart=>exact⟨0,[],[],by omega,rfl,rfl,Io _ _ _ _,Ch.nil,Below.refl _ _⟩
 case round=>
  obtain⟨j,O,xs,hj,rfl,hO,ho,hc,hbr⟩:=hrel;have Ho:=zH ho;have Hc:=zH hc;have Hbr:=zH hbr;have HO:=zH hO;have hol:O.length<=1000000:=by rw[hO];have:=pH (l.take j);rw[IN]at this;omega
  clear ho hc hbr hO;by_cases hlt:j<l.length
  ·have d9:decide (j<l.length)=true:=by simp;omega
   obtain⟨a,o,cs,rfl,hab,-,hrg,hX⟩:=HR.o.at hlt;have hab:a<w.heap.size:=by rwa[ap]at hab
   have Hax:=zH hab;obtain⟨x9,xa,x1,x2,x3,x4,x5,x6,x7,x8,rfl⟩:=hX.nine;have HXb:=zH hX;have HX:=zH (hX.sub (db E w));have c0:=(aJ (hrg 0 _ rfl)).2;have c1:=(aJ (hrg 1 _ rfl)).2;have c2:=(aJ (hrg 2 _ rfl)).2;have c3:=(aJ (hrg 3 _ rfl)).2;have c4:=(aJ (hrg 4 _ rfl)).2;have c5:=(aJ (hrg 5 _ rfl)).2;have c6:=(aJ (hrg 6 _ rfl)).2;have c7:=(aJ (hrg 7 _ rfl)).2;have c8:=(aJ (hrg 8 _ rfl)).2;rw[Im]at c0;have Hins:=zH (nP hlt);rw[<-HO.o]at Hins;have Hlast:=zH hlt;clear hrg hX;generalize l[j]=x at*
   obtain⟨q,cap1,rfl⟩:=aB Ho.o;have hcap1:O.length<=cap1:=eo Ho.o;go_wp2;go_loopw[5] (fun i wi=>∃k:Nat,k<=O.length/\i=GX GZ k/\(∀t (ht:t<O.length),t<k->cmpE O[t] x<0)/\wi.ownsRow w.heap.size 68 9 (GU q O.length cap1) O.length xs/\Below w.heap.size w wi) (fun i _=>O.length-(intOf i).toNat)
   case atStart=>exact⟨0,by omega,rfl,fun t _ h=>by omega,Ho.o,Hbr.o⟩
   case round=>
    obtain⟨k,hk,rfl,hls,ho2,hb2⟩:=hrel;have Ho2:=zH ho2;have Hb2:=zH hb2;have Hls:=zH hls;clear ho2 hb2 hls;have z0:=ae Hb2.o c0;have z1:=ae Hb2.o c1;have z2:=ae Hb2.o c2;have z3:=ae Hb2.o c3;have z4:=ae Hb2.o c4;have z5:=ae Hb2.o c5;have z6:=ae Hb2.o c6;have z7:=ae Hb2.o c7;have z8:=ae Hb2.o c8;by_cases hkl:k<O.length
    ·have d8:decide (k<O.length)=true:=by simp;omega
     obtain⟨q',cap',eq',hrw⟩:=bu Ho2.o Hc.o (by omega);injection eq' with eq1 _ eq3
     subst eq1 eq3;obtain⟨g,og,cs',rfl,hg,-,hrg',hY⟩:=hrw.at hkl;obtain⟨y9,ya,y1,y2,y3,y4,y5,y6,y7,y8,rfl⟩:=hY.nine;have HY:=zH (hY.sub (db E w));have v0:=hrg' 0 _ rfl;have v1:=hrg' 1 _ rfl;have v2:=hrg' 2 _ rfl;have v3:=hrg' 3 _ rfl;have v4:=hrg' 4 _ rfl;have v5:=hrg' 5 _ rfl;have v6:=hrg' 6 _ rfl;have v7:=hrg' 7 _ rfl;have v8:=hrg' 8 _ rfl;rw[Im]at v0;have Hstep:=zH (show cmpE O[k] x<0->∀t (ht:t<O.length),t<k+1->cmpE O[t] x<0 from fun h t ht htk=>by
      rcases IP.1 htk with g2|rfl
      ·exact Hls.o t ht g2
      ·exact h)
     have Heq:=zH (fun h=>qK hkl Hls.o h);have Hat:=zH (fun(h1: ¬cmpE O[k] x<0) (h2: ¬cmpE O[k] x=0)=>kI hk Hls.o (fun _=>⟨h1,h2⟩));clear hrw hrg' hY Hls;generalize O[k]=y at*
     have Hcall:=zH (fun(w5:World) (h:Below w.heap.size w w5)=>dV y x w5 _ _ _ _ (HY.o.below h) (HX.o.below h));by_cases h1:cmpE y x<0
     ·have Hst2:=zH (Hstep.o h1);have d1:decide (cmpE y x<0)=true:=by simp[h1]
      clear h1 Hstep Heq Hat;generalize cmpE y x=cc at*
      go_wp2_with(first
       |(with_reducible refine rg ?_)
       |(with_reducible refine fo ?_)
       |(go_at_call 78;refine(Hcall.o _ Hb2.o.drew).mono ?_;rintro e w6 ⟨rfl,hb6⟩;have Ho6:=zH (ao (bI Ho2.o) hb6 (G8 _));have Hb6:=zH (Hb2.o.drew.trans (hb6.mono Hb2.o.size));clear hb6))
      exact⟨⟨k+1,by omega,by go_num,Hst2.o,Ho6.o,Hb6.o⟩,by simp[intOf];omega⟩
     ·have d1:decide (cmpE y x<0)=false:=by simp;omega
      by_cases h2:cmpE y x=0
      ·have Hk2:=zH (Heq.o h2);have d2:(cmpE y x==0)=true:=by simp[h2]
       clear h1 h2 Hstep Heq Hat;generalize cmpE y x=cc at*
       go_wp2_with(first
        |(with_reducible refine rg ?_)
        |(with_reducible refine fo ?_)
        |(go_at_call 78;refine(Hcall.o _ Hb2.o.drew).mono ?_;rintro e w6 ⟨rfl,hb6⟩;have Ho6:=zH (ao (bI Ho2.o) hb6 (G8 _));have Hb6:=zH (Hb2.o.drew.trans (hb6.mono Hb2.o.size));have z0':=ae hb6 z0;have v0':=ae hb6 v0;have z1':=ae hb6 z1;have v1':=ae hb6 v1;have z2':=ae hb6 z2;have v2':=ae hb6 v2;have z3':=ae hb6 z3;have v3':=ae hb6 v3;have z4':=ae hb6 z4;have v4':=ae hb6 v4;have z5':=ae hb6 z5;have v5':=ae hb6 v5;have z6':=ae hb6 z6;have v6':=ae hb6 v6;have z7':=ae hb6 z7;have v7':=ae hb6 v7;have z8':=ae hb6 z8;have v8':=ae hb6 v8;clear hb6 z0 v0 z1 v1 z2 v2 z3 v3 z4 v4 z5 v5 z6 v6 z7 v7 z8 v8;have Hb2:=0)
        |(go_at_call 78;refine(Hcall.o _ Hb6.o.drew).mono ?_;rintro e w7 ⟨rfl,hb7⟩;have Ho7:=zH (ao (bI Ho6.o) hb7 (G8 _));have Hb7:=zH (Hb6.o.drew.trans (hb7.mono Hb6.o.size));clear hb7))
       exact⟨⟨j+1,O,xs,by omega,by go_num,by rw[Hins.o,Hk2.o],Ho7.o,Hc.o,Hb7.o⟩,by simp[intOf];omega⟩
      ·have Hres:=zH (Hat.o h1 h2);have d2:(cmpE y x==0)=false:=by simp[h2]
       clear h1 h2 Hstep Heq Hat;generalize cmpE y x=cc at*
       go_upto_region 9 with(first
        |(with_reducible refine rg ?_)
        |(with_reducible refine fo ?_)
        |(go_at_call 78;refine(Hcall.o _ Hb2.o.drew).mono ?_;rintro e w6 ⟨rfl,hb6⟩;have Ho6:=zH (ao (bI Ho2.o) hb6 (G8 _));have Hb6:=zH (Hb2.o.drew.trans (hb6.mono Hb2.o.size));have z0':=ae hb6 z0;have v0':=ae hb6 v0;have z1':=ae hb6 z1;have v1':=ae hb6 v1;have z2':=ae hb6 z2;have v2':=ae hb6 v2;have z3':=ae hb6 z3;have v3':=ae hb6 v3;have z4':=ae hb6 z4;have v4':=ae hb6 v4;have z5':=ae hb6 z5;have v5':=ae hb6 v5;have z6':=ae hb6 z6;have v6':=ae hb6 v6;have z7':=ae hb6 z7;have v7':=ae hb6 v7;have z8':=ae hb6 z8;have v8':=ae hb6 v8;clear hb6 z0 v0 z1 v1 z2 v2 z3 v3 z4 v4 z5 v5 z6 v6 z7 v7 z8 v8;have Hb2:=0)
        |(go_at_call 78;refine(Hcall.o _ Hb6.o.drew).mono ?_;rintro e wd ⟨rfl,hb7⟩;have Hod:=zH (ao (bI Ho6.o) hb7 (G8 _));have Hbd:=zH (Hb6.o.drew.trans (hb7.mono Hb6.o.size));clear hb7))
       rw[<-Hins.o]at Hres;have Hrc:=zH (RC.of_own Hod.o);have Hone:=zH (Hc.o.cells fun _ _ h=>h.one);have HcT:=zH (Hc.o.take (k:=k) hk);have HcD:=zH (Hc.o.drop (k:=k) hk);have HoT:=zH (fun u hu=>Hone.o u (Jl (i:=k*9) hu));have HoD:=zH (fun u hu=>Hone.o u (Jv (i:=k*9) hu));have HoX:=zH (HX.o.one);have Hlx:=zH (show xs.length=O.length*9 from Hod.o.1);have Hsd:=zH Hbd.o.size;have HrD:=zH (show RC wd 9 (G5 ⟨g,og+k*9,G0⟩) (O.length-k) (xs.drop (k*9))from Hrc.o.drop hk);have Q0:=zH (ae Hbd.o c0);have Q1:=zH (ae Hbd.o c1);have Q2:=zH (ae Hbd.o c2);have Q3:=zH (ae Hbd.o c3);have Q4:=zH (ae Hbd.o c4);have Q5:=zH (ae Hbd.o c5);have Q6:=zH (ae Hbd.o c6);have Q7:=zH (ae Hbd.o c7);have Q8:=zH (ae Hbd.o c8);clear c0 c1 c2 c3 c4 c5 c6 c7 c8 d8;go_wp2_with(first
        |((with_reducible refine Lex.aP ?_);refine fE (by repeat first|exact LexK.aL|refine LexK.aG rfl ?_|refine LexK.aH (by decide+kernel) ?_|refine LexK.an rfl Hax.o Hn0.o ?_) ?_)
        |((with_reducible refine Lex.aI ?_);refine gL (fun b=>b<w.heap.size) ?_;have n0:w3.drew.cell? ⟨a,o+j*9,G0⟩=_:=(Hb3.o.cell (p:=⟨a,_,G0⟩) (Ig Hax.o Hsd.o)).trans Q0.o;have n1:w3.drew.cell? ⟨a,o+j*9+1,G0⟩=_:=(Hb3.o.cell (p:=⟨a,_,G0⟩) (Ig Hax.o Hsd.o)).trans Q1.o;have n2:w3.drew.cell? ⟨a,o+j*9+2,G0⟩=_:=(Hb3.o.cell (p:=⟨a,_,G0⟩) (Ig Hax.o Hsd.o)).trans Q2.o;have n3:w3.drew.cell? ⟨a,o+j*9+3,G0⟩=_:=(Hb3.o.cell (p:=⟨a,_,G0⟩) (Ig Hax.o Hsd.o)).trans Q3.o;have n4:w3.drew.cell? ⟨a,o+j*9+4,G0⟩=_:=(Hb3.o.cell (p:=⟨a,_,G0⟩) (Ig Hax.o Hsd.o)).trans Q4.o;have n5:w3.drew.cell? ⟨a,o+j*9+5,G0⟩=_:=(Hb3.o.cell (p:=⟨a,_,G0⟩) (Ig Hax.o Hsd.o)).trans Q5.o;have n6:w3.drew.cell? ⟨a,o+j*9+6,G0⟩=_:=(Hb3.o.cell (p:=⟨a,_,G0⟩) (Ig Hax.o Hsd.o)).trans Q6.o;have n7:w3.drew.cell? ⟨a,o+j*9+7,G0⟩=_:=(Hb3.o.cell (p:=⟨a,_,G0⟩) (Ig Hax.o Hsd.o)).trans Q7.o;have n8:w3.drew.cell? ⟨a,o+j*9+8,G0⟩=_:=(Hb3.o.cell (p:=⟨a,_,G0⟩) (Ig Hax.o Hsd.o)).trans Q8.o;have Hn0:=zH n0)
        |(with_reducible first|refine qH ?_|refine LexK.aK ?_|refine LexK.aO ?_)
        | ((with_reducible refine Lex.aX ?_); first
            |with_reducible refine JQ hex5.o ?_
            |refine JQ hex4.o ?_
            |refine JQ (IF _ _) ?_)
        |(at_builtin;first
         |(refine aC rfl (.const (GU G0 0 0)) (.tmp 49) 30 rfl 68 (by kernel_rfl) cG rfl (by decide) (by decide) wd.heap.size wd (G5 ⟨g,og,G0⟩) 0 k _ [] (xs.take (k*9)) (G8 _) (GU G0 0 0) rfl rfl (Io _ _ _ _) (Hrc.o.take hk) HoT.o (by omega) ?_;intro v3 w3 ho3 hf3;have Hb3:=zH (hf3.below (G8 _) (by simp) (fun g hg=>by simp[I0]at hg));rw[IV,I8]at ho3;obtain⟨p3,cap3,rfl⟩:=aB ho3;have Ho3:=zH ho3;clear ho3 hf3)
         |(refine aA rfl (.tmp 51) (.tmp 56) 30 rfl 68 (by kernel_rfl) cG rfl (by decide) (by decide) wd.heap.size _ w3.drew.heap.size [GU x9 x.args.length xa,.bool x.fails,GX GZ x.res.kind,GX GZ x.res.num,GW x.res.text,GU x1 x.res.kids.length x2,GU x3 x.res.keys.length x4,GU x5 x.res.ents.length x6,GU x7 x.res.labels.length x8] (HG w3.drew _) (G9 Hb3.o.size (by simp)) rfl HoX.o (GU p3 k cap3) k (xs.take (k*9)) rfl (ao Ho3.o ((Below.refl _ _).drew.alloc (G8 _) _) (G8 _)) (by omega) rfl ?_;intro v4 w4 ho4 hf4;have Hb4:=zH ((Hb3.o.drew.alloc Hb3.o.size _).trans (hf4.below (G9 Hb3.o.size (by simp)) (by simp) fun g hg=>(Ho3.o.lt g hg).1));have hex4:=zH (show Hh (fun b=>b<w.heap.size) (w3.drew.alloc (GY #[GU x9 x.args.length xa,.bool x.fails,GX GZ x.res.kind,GX GZ x.res.num,GW x.res.text,GU x1 x.res.kids.length x2,GU x3 x.res.keys.length x4,GU x5 x.res.ents.length x6,GU x7 x.res.labels.length x8] 68)) w4 from bX (hf4.below (G9 Hsd.o (G9 Hb3.o.size (by simp))) (by simp) fun g hg=>G9 Hsd.o (Ho3.o.lt g hg).1));obtain⟨p4,cap4,rfl⟩:=aB ho4;have Ho4:=zH ho4;clear ho4 hf4)
         |(refine aC rfl (.tmp 57) (.tmp 60) 30 rfl 68 (by kernel_rfl) cG rfl (by decide) (by decide) wd.heap.size w4 (G5 ⟨g,og+k*9,G0⟩) (k+1) (O.length-k) _ (xs.take (k*9)++[GU x9 x.args.length xa,.bool x.fails,GX GZ x.res.kind,GX GZ x.res.num,GW x.res.text,GU x1 x.res.kids.length x2,GU x3 x.res.keys.length x4,GU x5 x.res.ents.length x6,GU x7 x.res.labels.length x8]) (xs.drop (k*9)) Hb4.o.size (GU p4 (k+1) cap4) rfl rfl Ho4.o (HrD.o.below Hb4.o) HoD.o (by omega) ?_;intro v5 w5 ho5 hf5;have Hb5:=zH (Hb4.o.trans (hf5.below Hb4.o.size (by simp) fun g hg=>(Ho4.o.lt g hg).1));have hex5:=zH (show Hh (fun b=>b<w.heap.size) w4 w5 from bX (hf5.below (G9 Hsd.o Hb4.o.size) (by simp) fun g hg=>G9 Hsd.o (Ho4.o.lt g hg).1));have Ho5:=zH ho5;clear ho5 hf5)))
       have hlen:(O.take k++[x]++O.drop k).length=k+1+(O.length-k):=by rw[Ii,Ii,IN,I4,Ju];omega
       refine⟨⟨j+1,O.take k++[x]++O.drop k,xs.take (k*9)++[GU x9 x.args.length xa,.bool x.fails,GX GZ x.res.kind,GX GZ x.res.num,GW x.res.text,GU x1 x.res.kids.length x2,GU x3 x.res.keys.length x4,GU x5 x.res.ents.length x6,GU x7 x.res.labels.length x8]++(xs.drop (k*9)),by omega,by go_num,Hres.o.symm,by rw[hlen];exact bG Ho5.o Hsd.o,?_,Hbd.o.trans (Hb5.o.mono Hsd.o)⟩,by simp[intOf];omega⟩;exact(HcT.o.append (Ch.single rfl HXb.o)).append HcD.o
    ·obtain rfl:k=O.length:=by omega
     have d8:decide (O.length<O.length)=false:=by simp
     have Hres:=zH (kI (G8 _) Hls.o (fun h=>absurd h (Nat.lt_irrefl _)));clear Hls;go_upto_region 9 with(first
      |(with_reducible refine rg ?_)
      |(with_reducible refine fo ?_))
     have Hod:=zH (ao Ho2.o (Below.refl _ _).drew.drew (G8 _));have Hbd:=zH Hb2.o.drew.drew;clear z0 z1 z2 z3 z4 z5 z6 z7 z8 Ho2 Hb2;generalize wr.drew.drew=wd at*
     rw[<-Hins.o]at Hres;have Hrc:=zH (RC.of_own Hod.o);have Hone:=zH (Hc.o.cells fun _ _ h=>h.one);have HcT:=zH (Hc.o.take (k:=O.length) (G8 _));have HcD:=zH (Hc.o.drop (k:=O.length) (G8 _));have HoT:=zH (fun u hu=>Hone.o u (Jl (i:=O.length*9) hu));have HoD:=zH (fun u hu=>Hone.o u (Jv (i:=O.length*9) hu));have HoX:=zH (HX.o.one);have Hlx:=zH (show xs.length=O.length*9 from Hod.o.1);have Hsd:=zH Hbd.o.size;have Q0:=zH (ae Hbd.o c0);have Q1:=zH (ae Hbd.o c1);have Q2:=zH (ae Hbd.o c2);have Q3:=zH (ae Hbd.o c3);have Q4:=zH (ae Hbd.o c4);have Q5:=zH (ae Hbd.o c5);have Q6:=zH (ae Hbd.o c6);have Q7:=zH (ae Hbd.o c7);have Q8:=zH (ae Hbd.o c8);clear c0 c1 c2 c3 c4 c5 c6 c7 c8 d8;go_wp2_with(first
      |((with_reducible refine Lex.aP ?_);refine fE (by repeat first|exact LexK.aL|refine LexK.aG rfl ?_|refine LexK.aH (by decide+kernel) ?_|refine LexK.an rfl Hax.o Hn0.o ?_) ?_)
      |((with_reducible refine Lex.aI ?_);refine gL (fun b=>b<w.heap.size) ?_;have n0:w3.drew.cell? ⟨a,o+j*9,G0⟩=_:=(Hb3.o.cell (p:=⟨a,_,G0⟩) (Ig Hax.o Hsd.o)).trans Q0.o;have n1:w3.drew.cell? ⟨a,o+j*9+1,G0⟩=_:=(Hb3.o.cell (p:=⟨a,_,G0⟩) (Ig Hax.o Hsd.o)).trans Q1.o;have n2:w3.drew.cell? ⟨a,o+j*9+2,G0⟩=_:=(Hb3.o.cell (p:=⟨a,_,G0⟩) (Ig Hax.o Hsd.o)).trans Q2.o;have n3:w3.drew.cell? ⟨a,o+j*9+3,G0⟩=_:=(Hb3.o.cell (p:=⟨a,_,G0⟩) (Ig Hax.o Hsd.o)).trans Q3.o;have n4:w3.drew.cell? ⟨a,o+j*9+4,G0⟩=_:=(Hb3.o.cell (p:=⟨a,_,G0⟩) (Ig Hax.o Hsd.o)).trans Q4.o;have n5:w3.drew.cell? ⟨a,o+j*9+5,G0⟩=_:=(Hb3.o.cell (p:=⟨a,_,G0⟩) (Ig Hax.o Hsd.o)).trans Q5.o;have n6:w3.drew.cell? ⟨a,o+j*9+6,G0⟩=_:=(Hb3.o.cell (p:=⟨a,_,G0⟩) (Ig Hax.o Hsd.o)).trans Q6.o;have n7:w3.drew.cell? ⟨a,o+j*9+7,G0⟩=_:=(Hb3.o.cell (p:=⟨a,_,G0⟩) (Ig Hax.o Hsd.o)).trans Q7.o;have n8:w3.drew.cell? ⟨a,o+j*9+8,G0⟩=_:=(Hb3.o.cell (p:=⟨a,_,G0⟩) (Ig Hax.o Hsd.o)).trans Q8.o;have Hn0:=zH n0)
      |(with_reducible first|refine qH ?_|refine LexK.aK ?_|refine LexK.aO ?_)
      | ((with_reducible refine Lex.aX ?_); first
          |with_reducible refine JQ hex5.o ?_
          |refine JQ hex4.o ?_
          |refine JQ (IF _ _) ?_)
      |(at_builtin;first
       |(refine aC rfl (.const (GU G0 0 0)) (.tmp 49) 30 rfl 68 (by kernel_rfl) cG rfl (by decide) (by decide) wd.heap.size wd q 0 O.length _ [] (xs.take (O.length*9)) (G8 _) (GU G0 0 0) rfl rfl (Io _ _ _ _) (Hrc.o.take (G8 _)) HoT.o (by omega) ?_;intro v3 w3 ho3 hf3;have Hb3:=zH (hf3.below (G8 _) (by simp) (fun g hg=>by simp[I0]at hg));rw[IV,I8]at ho3;obtain⟨p3,cap3,rfl⟩:=aB ho3;have Ho3:=zH ho3;clear ho3 hf3)
       |(refine aA rfl (.tmp 51) (.tmp 56) 30 rfl 68 (by kernel_rfl) cG rfl (by decide) (by decide) wd.heap.size _ w3.drew.heap.size [GU x9 x.args.length xa,.bool x.fails,GX GZ x.res.kind,GX GZ x.res.num,GW x.res.text,GU x1 x.res.kids.length x2,GU x3 x.res.keys.length x4,GU x5 x.res.ents.length x6,GU x7 x.res.labels.length x8] (HG w3.drew _) (G9 Hb3.o.size (by simp)) rfl HoX.o (GU p3 O.length cap3) O.length (xs.take (O.length*9)) rfl (ao Ho3.o ((Below.refl _ _).drew.alloc (G8 _) _) (G8 _)) (by omega) rfl ?_;intro v4 w4 ho4 hf4;have Hb4:=zH ((Hb3.o.drew.alloc Hb3.o.size _).trans (hf4.below (G9 Hb3.o.size (by simp)) (by simp) fun g hg=>(Ho3.o.lt g hg).1));have hex4:=zH (show Hh (fun b=>b<w.heap.size) (w3.drew.alloc (GY #[GU x9 x.args.length xa,.bool x.fails,GX GZ x.res.kind,GX GZ x.res.num,GW x.res.text,GU x1 x.res.kids.length x2,GU x3 x.res.keys.length x4,GU x5 x.res.ents.length x6,GU x7 x.res.labels.length x8] 68)) w4 from bX (hf4.below (G9 Hsd.o (G9 Hb3.o.size (by simp))) (by simp) fun g hg=>G9 Hsd.o (Ho3.o.lt g hg).1));obtain⟨p4,cap4,rfl⟩:=aB ho4;have Ho4:=zH ho4;clear ho4 hf4)
       |(refine aC rfl (.tmp 57) (.tmp 60) 30 rfl 68 (by kernel_rfl) cG rfl (by decide) (by decide) wd.heap.size w4 _ (O.length+1) 0 _ (xs.take (O.length*9)++[GU x9 x.args.length xa,.bool x.fails,GX GZ x.res.kind,GX GZ x.res.num,GW x.res.text,GU x1 x.res.kids.length x2,GU x3 x.res.keys.length x4,GU x5 x.res.ents.length x6,GU x7 x.res.labels.length x8]) [] Hb4.o.size (GU p4 (O.length+1) cap4) rfl rfl Ho4.o (RC.nil _ _ _) (by simp) (by omega) ?_;intro v5 w5 ho5 hf5;have Hb5:=zH (Hb4.o.trans (hf5.below Hb4.o.size (by simp) fun g hg=>(Ho4.o.lt g hg).1));have hex5:=zH (show Hh (fun b=>b<w.heap.size) w4 w5 from bX (hf5.below (G9 Hsd.o Hb4.o.size) (by simp) fun g hg=>G9 Hsd.o (Ho4.o.lt g hg).1));have Ho5:=zH ho5;clear ho5 hf5)))
     have hlen:(O.take O.length++[x]++O.drop O.length).length=O.length+1+0:=by rw[Ii,Ii,IN,I4,Ju];omega
     refine⟨⟨j+1,O.take O.length++[x]++O.drop O.length,xs.take (O.length*9)++[GU x9 x.args.length xa,.bool x.fails,GX GZ x.res.kind,GX GZ x.res.num,GW x.res.text,GU x1 x.res.kids.length x2,GU x3 x.res.keys.length x4,GU x5 x.res.ents.length x6,GU x7 x.res.labels.length x8]++[],by omega,by go_num,Hres.o.symm,by rw[hlen];exact bG Ho5.o Hsd.o,?_,Hbd.o.trans (Hb5.o.mono Hsd.o)⟩,by simp[intOf];omega⟩;have hz:=HcD.o;have ez:xs.drop (O.length*9)=[]:=List.drop_eq_nil_of_le (by rw[Hlx.o];exact G8 _);rw[ez]at hz;exact(HcT.o.append (Ch.single rfl HXb.o)).append hz
  ·obtain rfl:j=l.length:=by omega
   have d9:decide (l.length<l.length)=false:=by simp
   rw[List.take_length]at HO;go_wp2;go_ret;obtain⟨pz,cz,e7,hrw⟩:=bu (bJ Ho.o Hbw.o) Hc.o (by omega);refine⟨_,rfl,?_,Hbr.o⟩;rw[<-HO.o];exact⟨d,pz,cz,e7,hrw.mono fun x cs _ h=>h.below (by rw[ap];exact aS Hbr.o)⟩
def gE(E:Nat->Bool)(A B:Nat)(v:Value):Nat->Bool:=fun k=>E k||((decide (A<=k)&&decide (k<B))||decide (v.ownBlock=G5 k))
theorem yK {E:Nat->Bool}{A B:Nat}{v:Value}{k:Nat}(h1:A<=k)(h2:k<B):gE E A B v k=true:=by simp[gE,h1,h2]
theorem rj {w:World}{E:Nat->Bool}{A B B1 n s:Nat}{e:TypeId}{v:Value}{xs:List Value}(hE:Old E A)(hA:A<=w.heap.size)(hB:B<=w.heap.size)(h:w.ownsRow B1 e s v n xs):Old (gE E A B v) w.heap.size:=fun k hk=>by
 simp only[gE,Jz,Bool.and_eq_false_iff,decide_eq_false_iff_not];exact⟨hE k (by omega),.inr (by omega),fun e=>by have:=(h.lt k e).2;omega⟩
theorem rl(E:Nat->Bool)(A B:Nat)(v:Value)(w:World):Sub (we (gE E A B v) w) (we E w):=cw w fun k h=>by simp[gE,h]
theorem iE(E:Nat->Bool)(A B:Nat)(v:Value)(w:World):Sub (we (gE E A B v) w) (we (gE E A B (GU G0 0 0)) w):=cw w fun k h=>by
 simp only[gE,I0,IE,Ik,decide_eq_true_eq]at h ⊢;rcases h with h|h|h
 ·exact .inl h
 ·exact .inr (.inl h)
 ·cases h
theorem iF {E:Nat->Bool}{A B:Nat}{v v':Value}{w w':World}(hf:Fr [] v v' w w'):Sub (we (gE E A B v) w) (we (gE E A B v') w'):=by
 refine⟨by rw[ap,ap];exact hf.size,fun a o z hz=>?_⟩;obtain⟨h1,h2⟩:=aJ hz;have hl:=kK h2;simp only[gE,Jz,decide_eq_false_iff_not]at h1;have h3:gE E A B v' a=false:=by
  simp only[gE,Jz,decide_eq_false_iff_not];refine⟨h1.1,h1.2.1,fun e=>?_⟩;rcases hf.own with e2|e2
  ·rw[e2]at e;exact h1.2.2 e
  ·have:=e2 a e;omega
 rw[cell_at (cI h3)];exact(cell_at (hf.block a hl (by simp) h1.2.2)).trans h2
theorem qb {E:Nat->Bool}{B:Nat}{v:Value}{w w':World}(hb:Below w.heap.size w w')(hv:∀g,v.ownBlock=G5 g->w.heap.size<=g):Below (we E w).heap.size (we E w) (we (gE E w.heap.size B v) w'):=by
 rw[ap];refine⟨hb.os,hb.tape,hb.output,by rw[ap,ap];exact hb.size,fun k hk=>?_⟩;have e1:gE E w.heap.size B v k=E k:=by
  simp only[gE];have h1:decide (w.heap.size<=k)=false:=by simp;omega
  have h2:decide (v.ownBlock=G5 k)=false:=by simp;intro e;have:=hv k e;omega
  rw[h1,h2];simp
 cases e:E k with
 |true=>rw[cV (e1.trans e),cV e,if_pos hk,if_pos (Ig hk hb.size)]
 |false=>rw[cI (e1.trans e),cI e];exact hb.block k hk
theorem EX {E:Nat->Bool}{v:Value}{w w':World}(hb:Below w.heap.size (we E w) (we E w'))(hv:∀g,v.ownBlock=G5 g->w.heap.size<=g):Below (we E w).heap.size (we E w) (we (gE E w.heap.size w.heap.size v) w'):=by
 have hs:=hb.size;rw[ap,ap]at hs;rw[ap];refine⟨hb.os,hb.tape,hb.output,by rw[ap,ap];exact hs,fun k hk=>?_⟩;have e1:gE E w.heap.size w.heap.size v k=E k:=by
  simp only[gE];have h1:decide (w.heap.size<=k)=false:=by simp;omega
  have h2:decide (v.ownBlock=G5 k)=false:=by simp;intro e;have:=hv k e;omega
  rw[h1,h2];simp
 have h3:=hb.block k hk;cases e:E k with
 |true=>rw[cV (e1.trans e),cV e,if_pos hk,if_pos (Ig hk hs)]
 |false=>rw[cI (e1.trans e),cI e];rwa[cI e,cI e]at h3
theorem fb {B:Nat}{w w':World}(h:Below B w w'):Hh (fun x=>x<B) w w':=⟨h.size,fun i _ hk=>h.block i hk⟩
theorem rm {E:Nat->Bool}{A B:Nat}{wq w5 w7:World}{d dv:Nat}{o:Obj}{av v7:Value}{L:List VV}{xs cs:List Value}{X:VV}(hc:Ch 7 (VS (we (gE E A B av) wq) d) L xs)(hs:Below wq.heap.size wq w5)(hx:VS (we (gE E A B av) w5) dv X cs)(hf:Fr [] av v7 (w5.alloc o) w7):Ch 7 (VS (we (gE E A B v7) w7) (max d dv)) (L++[X]) (xs++cs):=by
 have hal:Below (we (gE E A B av) w5).heap.size (we (gE E A B av) w5) (we (gE E A B av) (w5.alloc o)):=by rw[ap];exact aS ((Below.refl _ _).alloc (G8 _) _)
 have h1:Ch 7 (VS (we (gE E A B v7) w7) (max d dv)) L xs:=hc.mono fun x cs _ h=>((((h.below (by rw[ap];exact aS hs)).below hal).sub (iF hf)).up (Jr _ _))
 have h2:VS (we (gE E A B v7) w7) (max d dv) X cs:=(((hx.below hal).sub (iF hf)).up (Jq _ _))
 exact h1.append (Ch.single h2.len h2)
theorem tC {E:Nat->Bool}{A B:Nat}{w5 w7:World}{d dv:Nat}{o:Obj}{av v7:Value}{L:List EE}{xs cs:List Value}{X:EE}(hc:Ch 9 (ES (we (gE E A B av) w5) d) L xs)(hx:ES (we (gE E A B av) w5) dv X cs)(hl:cs.length=9)(hf:Fr [] av v7 (w5.alloc o) w7):Ch 9 (ES (we (gE E A B v7) w7) (max d dv)) (L++[X]) (xs++cs):=by
 have hal:Below (we (gE E A B av) w5).heap.size (we (gE E A B av) w5) (we (gE E A B av) (w5.alloc o)):=by rw[ap];exact aS ((Below.refl _ _).alloc (G8 _) _)
 have h1:Ch 9 (ES (we (gE E A B v7) w7) (max d dv)) L xs:=hc.mono fun x cs _ h=>(((h.below hal).sub (iF hf)).up (Jr _ _))
 have h2:ES (we (gE E A B v7) w7) (max d dv) X cs:=(((hx.below hal).sub (iF hf)).up (Jq _ _))
 exact h1.append (Ch.single hl h2)
example:=@Shrt.ents
example:=@Shrt.kids
example:=@yK
example:=@rj
example:=@rl
example:=@iE
example:=@iF
example:=@qb
example:=@rm
example:=@tC
example:=@fb
theorem yL(E:Nat->Bool)(n:Int)(l:List EE)(w:World)(u:Value)(hE:Old E w.heap.size)(hu:EY (we E w) u l)(hl:l.length<=1000000):Calls Tryz.prog 21 #[GX GZ n,u] w (VCR E (mkF n l) w):=by
 have HE:=zH hE;obtain⟨d,p,c,rfl,hr⟩:=hu;have HR:=zH hr;clear hr hE;go_enter Tryz.func21,Tryz.ntmps21;go_upto_region 1 with fail
 have hC:=HG w (GY #[GX GZ 0,GX GZ 0,GW ⟨#[]⟩,GU G0 0 0,GU G0 0 0,GU G0 0 0,GU G0 0 0] 33);have hb:Below w.heap.size w (w.alloc (GY #[GX GZ 0,GX GZ 0,GW ⟨#[]⟩,GU G0 0 0,GU G0 0 0,GU G0 0 0,GU G0 0 0] 33)):=(Below.refl _ _).alloc (G8 _) _;generalize w.alloc (GY #[GX GZ 0,GX GZ 0,GW ⟨#[]⟩,GU G0 0 0,GU G0 0 0,GU G0 0 0,GU G0 0 0] 33)=w1 at*
 have hlC:=ai hC;have HC:=zH hC;have Hb:=zH hb;clear hC hb;by_cases n0:n<0
 ·have d0:decide (n<0)=true:=by simp[n0]
  have Hno:=zH (show mkF n l=(zeroV,1)by unfold mkF;rw[if_neg (by omega)]);clear n0;have hC:=((Below.refl w1.heap.size w1).block _ hlC).trans HC.o;go_wp2_with(with_reducible refine sR rfl 33 (.tmp 4) (.tmp 13) rfl rfl rfl hC ?_);refine Jm (aV rfl _ _ w.heap.size 33 _ (0,0) _ rfl (sH hC) rfl rfl (by kernel_rfl)) rfl ?_;exact⟨_,by rw[Hno.o];rfl,by rw[Hno.o];exact vw0 _ _ _ _,rfl,aR (Hb.o.step (Below.refl w1.heap.size w1)) (G8 _)⟩
 have d0:decide (n<0)=false:=by simp;omega
 by_cases n4:4<n
 ·have d1:decide (4<n)=true:=by simp[n4]
  have Hno:=zH (show mkF n l=(zeroV,1)by unfold mkF;rw[if_neg (by omega)]);clear n0 n4;have hC:=((Below.refl w1.heap.size w1).block _ hlC).trans HC.o;go_wp2_with(with_reducible refine sR rfl 33 (.tmp 4) (.tmp 13) rfl rfl rfl hC ?_);refine Jm (aV rfl _ _ w.heap.size 33 _ (0,0) _ rfl (sH hC) rfl rfl (by kernel_rfl)) rfl ?_;exact⟨_,by rw[Hno.o];rfl,by rw[Hno.o];exact vw0 _ _ _ _,rfl,aR (Hb.o.step (Below.refl w1.heap.size w1)) (G8 _)⟩
 have d1:decide (4<n)=false:=by simp;omega
 have Hmk:=zH (show l.all (bQ n)=G6->mkF n l=(.mk 9 n aQ [] [] (dt l) [],0)from fun h=>by unfold mkF;rw[if_pos ⟨by omega,by omega,h⟩]);have Hmn:=zH (show l.all (bQ n)=G7->mkF n l=(zeroV,1)from fun h=>by unfold mkF;rw[if_neg (fun g=>by rw[h]at g;simp at g)]);clear n0 n4;go_wp2;clear d0 d1;go_loopw[6] (fun i wr=>∃k:Nat,i=GX GZ k/\k<=l.length/\(∀j (h:j<l.length),j<k->bQ n l[j]=G6)/\Below w1.heap.size w1 wr) (fun i _=>l.length-(intOf i).toNat)
 case atStart=>exact⟨0,rfl,by omega,fun j _ h=>by omega,Below.refl _ _⟩
 case round=>
  obtain⟨k,rfl,hk,hall,hbr⟩:=hrel;have Hall:=zH hall;have Hbr:=zH hbr;have Hbw:=zH (Hb.o.step hbr);clear hall hbr;by_cases hlt:k<l.length
  ·have d9:decide (k<l.length)=true:=by simp;omega
   obtain⟨a,o,cs,rfl,-,-,hrg,hX⟩:=HR.o.at hlt;obtain⟨x9,xa,x1,x2,x3,x4,x5,x6,x7,x8,rfl⟩:=hX.nine;have HX:=zH ((hX.sub (db E w)).below Hbw.o);have z0:=ae Hbw.o (aJ (hrg 0 _ rfl)).2;have z1:=ae Hbw.o (aJ (hrg 1 _ rfl)).2;have z2:=ae Hbw.o (aJ (hrg 2 _ rfl)).2;have z3:=ae Hbw.o (aJ (hrg 3 _ rfl)).2;have z4:=ae Hbw.o (aJ (hrg 4 _ rfl)).2;have z5:=ae Hbw.o (aJ (hrg 5 _ rfl)).2;have z6:=ae Hbw.o (aJ (hrg 6 _ rfl)).2;have z7:=ae Hbw.o (aJ (hrg 7 _ rfl)).2;have z8:=ae Hbw.o (aJ (hrg 8 _ rfl)).2;rw[Im]at z0;have Hno1:=zH (show bQ n l[k]=G7->mkF n l=(zeroV,1)from fun h=>Hmn.o (iZ hlt h));have Hnx:=zH (show bQ n l[k]=G6->∀j (h:j<l.length),j<k+1->bQ n l[j]=G6 from fun g j h hj=>by
    rcases IP.1 hj with g2|rfl
    ·exact Hall.o j h g2
    ·exact g)
   have hbig:l[k].args.length<=9223372036854775807:=by obtain⟨_,_,_,_,h,_⟩:=hX;exact h.big
   clear hrg hX;generalize l[k]=x at*
   by_cases hn:(x.args.length:Int)=n;rotate_left
   ·have d2:((x.args.length:Int)!=n)=true:=by simp[hn]
    have Hno:=zH (Hno1.o (by unfold bQ;rw[decide_eq_false hn];rfl));clear hn;have hC:=((Hbr.o).block _ hlC).trans HC.o;go_wp2_with(with_reducible refine sR rfl 33 (.tmp 4) (.tmp 45) rfl rfl rfl hC ?_);refine Jm (aV rfl _ _ w.heap.size 33 _ (0,0) _ rfl (sH hC) rfl rfl (by kernel_rfl)) rfl ?_;exact⟨_,by rw[Hno.o];rfl,by rw[Hno.o];exact vw0 _ _ _ _,rfl,aR (Hb.o.step (Hbr.o)) (G8 _)⟩
   have d2:((x.args.length:Int)!=n)=false:=by simp[hn]
   have Hen:=zH (show bQ n x=(!x.fails||decide (bH x.res zeroV=0))by unfold bQ;rw[decide_eq_true hn];rfl);clear hn;cases hf:x.fails with
   | false =>
     rw[hf]at z1;have Hnx2:=zH (Hnx.o (by rw[Hen.o,hf];rfl));clear hf;go_wp2;exact⟨⟨k+1,by go_num,by omega,Hnx2.o,Hbr.o⟩,by simp[intOf];omega⟩
   | true =>
     rw[hf]at z1;have hres:VS wr d x.res [GX GZ x.res.kind,GX GZ x.res.num,GW x.res.text,GU x1 x.res.kids.length x2,GU x3 x.res.keys.length x4,GU x5 x.res.ents.length x6,GU x7 x.res.labels.length x8]:=by
      obtain⟨_,_,_,e7,_,h7⟩:=HX.o;simp at e7;obtain⟨-,rfl⟩:=e7;exact h7
     have Heq:=zH (iw x.res zeroV wr _ (.agg #[GX GZ 0,GX GZ 0,GW ⟨#[]⟩,GU G0 0 0,GU G0 0 0,GU G0 0 0,GU G0 0 0]) ⟨_,_,rfl,hres⟩ ⟨1,_,rfl,fU _⟩);clear hres;cases hz:decide (bH x.res zeroV=0)with
     | false =>
       have Hno:=zH (Hno1.o (by rw[Hen.o,hf,hz];rfl));rw[hz]at Heq;clear hz hf;go_upto_region 7 with(go_at_call 41;refine Heq.o.mono ?_;rintro e w6 ⟨rfl,hb6⟩;have Hb6:=zH (Hbr.o.step hb6);clear hb6)
       have hC:=((Hb6.o).block _ hlC).trans HC.o;go_wp2_with(with_reducible refine sR rfl 33 (.tmp 4) (.tmp 45) rfl rfl rfl hC ?_);refine Jm (aV rfl _ _ w.heap.size 33 _ (0,0) _ rfl (sH hC) rfl rfl (by kernel_rfl)) rfl ?_;exact⟨_,by rw[Hno.o];rfl,by rw[Hno.o];exact vw0 _ _ _ _,rfl,aR (Hb.o.step (Hb6.o)) (G8 _)⟩
     | true =>
       have Hnx2:=zH (Hnx.o (by rw[Hen.o,hf,hz];rfl));rw[hz]at Heq;clear hz hf;go_wp2_with(go_at_call 41;refine Heq.o.mono ?_;rintro e w6 ⟨rfl,hb6⟩;have Hb6:=zH (Hbr.o.step hb6);clear hb6);exact⟨⟨k+1,by go_num,by omega,Hnx2.o,Hb6.o⟩,by simp[intOf];omega⟩
  ·have d9:decide (k<l.length)=false:=by simp;omega
   have Hy:=zH (Hmk.o (by rw[List.all_eq_true];intro e he;obtain⟨j,hj,rfl⟩:=List.mem_iff_getElem.1 he;exact Hall.o j hj (by omega)));have Hc:=zH (tz (ex E w.heap.size) l wr (GU p l.length c) (dU (HE.o.mono Hbw.o.size) (Ig hlC Hbr.o.size)) ⟨d,p,c,rfl,(HR.o.below (ew Hbw.o (G8 _)) fun _ _ _ h=>h.below (ew Hbw.o (G8 _)))⟩ hl);have hC:=(Hbr.o.block _ hlC).trans HC.o;have HC2:=zH hC;clear hC;go_wp2_with(first
    |(go_at_call 42;refine Hc.o.mono ?_;rintro e w6 ⟨v6,rfl,hv6,hb6⟩;obtain⟨d6,p6,c6,rfl,hr6⟩:=hv6;have Hr6:=zH hr6;have Hb6:=zH hb6;have Z6:=zH ((hb6.block _ (ai HC2.o)).trans HC2.o);clear hb6 hr6)
    |(with_reducible refine sR rfl 33 (.tmp 4) (.tmp 49) rfl rfl rfl Z6.o ?_))
   refine Jm (aV rfl _ _ w.heap.size 33 _ (0,0) _ rfl (sH Z6.o) rfl rfl (by kernel_rfl)) rfl ?_;refine⟨_,by rw[Hy.o];rfl,?_,rfl,aR (Hbw.o.step Hb6.o) (G8 _)⟩;rw[Hy.o];exact j3 (wF Hr6.o _ _ _) _
end Go.Proofs.YtfpahmeploondaaGreatDoor
