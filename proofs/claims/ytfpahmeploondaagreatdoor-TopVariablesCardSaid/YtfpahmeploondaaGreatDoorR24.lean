/- Walks and plain facts for the law on type variables, for all values and types that the heap holds (texts Y1). -/
import Derived.Test.YtfpahmeploondaaGreatDoorR03
import Derived.Test.YtfpahmeploondaaGreatDoorR23
set_option linter.unusedVariables false
set_option linter.unusedSimpArgs false
set_option maxHeartbeats 64000000
open Option renaming none -> G0
open Bool renaming true -> G6, false -> G7
open Go.Value renaming slice -> GU, string -> GW, int -> GX
open Go.Obj renaming cells -> GY
open Go.IntKind renaming i64 -> GZ
open Nat renaming lt_succ_iff_lt_or_eq -> IP, eq_zero_or_pos -> JA, add_zero -> Im, le_refl -> G8
open Bool renaming and_eq_false_iff -> Jo, eq_false_iff -> IA, and_eq_true -> Ik, eq_iff_iff -> IQ
open List renaming mem_iff_getElem -> IZ, all_eq_true -> Ij
open Go.LexK.Ext renaming of_below -> IL, refl -> Is
open Go renaming heap_alloc_new -> HG
open Go.Op renaming bytesLess -> Ja
open Go.LexK renaming an -> JP, aq -> JQ, aH -> JT, aG -> JU, aK -> JV, aL -> JW, aO -> JY
open Go.Lex renaming aI -> JX, aP -> JZ, aX -> J0
namespace Go.Proofs.YtfpahmeploondaaGreatDoor
open Go.RowKit Go.Ident
set_option maxRecDepth 100000
inductive Tag:Bool->Prop
 |mk (b:Bool):Tag b
theorem kS {k j:Int}(h:k≠j):(k==j)=false:=by rw[IA];intro g;exact h (by simpa using g)
theorem ol(a b:ByteArray)(w:World):(binOp .geq 9 (GW a) (GW b)).run Tryz.prog w=.ok (.bool (!Ja a.toList b.toList)) w:=by
 simp[binOp,Op.stringOp]
theorem vp(a b:ByteArray):Ja a.toList b.toList=decide (bD a b<0):=by
 unfold bD;rw[mI,zE,ByteArray.toList_eq,ByteArray.toList_eq];cases h:Ja a.data.toList b.data.toList
 ·simp;split<;>omega
 ·simp
theorem CT {l:List ByteArray}(h1:∀j (h:j<l.length),dG l[j].data.toList=G6)(h2:∀j (h:j+1<l.length),bD (l[j]'(by omega)) l[j+1]<0):jH l=true:=by
 unfold jH;rw[Ik,Ij];refine⟨asc_iff.2 h2,fun f hf=>?_⟩;obtain⟨j,hj,rfl⟩:=IZ.1 hf;exact h1 j hj
theorem yA {l:List ByteArray}{j:Nat}(h:j<l.length)(h1:dG l[j].data.toList=G7):jH l=false:=by
 unfold jH;rw[Jo];right;exact iZ (p:=fun s=>dG s.data.toList) h h1
theorem yB {l:List ByteArray}{j:Nat}(h:j+1<l.length)(h1: ¬bD (l[j]'(by omega)) l[j+1]<0):jH l=false:=by
 unfold jH;rw[Jo];left;rw[IA];intro h2;exact h1 (asc_iff.1 h2 j h)
theorem Ag {a:VV}(h:jH a.labels=G7):bT a=false:=by
 unfold jH at h;unfold bT;rw[h];simp
theorem CU {l:List KK}(h1:∀j (h:j<l.length),dq l[j].kind l[j].text.data.toList=G6)(h2:∀j (h:j+1<l.length),bN (l[j]'(by omega)) l[j+1]<0):(bV bN l&&l.all fun k=>dq k.kind k.text.data.toList)=true:=by
 rw[Ik,Ij];refine⟨asc_iff.2 h2,fun f hf=>?_⟩;obtain⟨j,hj,rfl⟩:=IZ.1 hf;exact h1 j hj
theorem yC {l:List KK}{j:Nat}(h:j<l.length)(h1:dq l[j].kind l[j].text.data.toList=G7):(bV bN l&&l.all fun k=>dq k.kind k.text.data.toList)=false:=by
 rw[Jo];right;exact iZ (p:=fun k:KK=>dq k.kind k.text.data.toList) h h1
theorem yD {l:List KK}{j:Nat}(h:j+1<l.length)(h1: ¬bN (l[j]'(by omega)) l[j+1]<0):(bV bN l&&l.all fun k=>dq k.kind k.text.data.toList)=false:=by
 rw[Jo];left;rw[IA];intro h2;exact h1 (asc_iff.1 h2 j h)
theorem CV {l:List EE}{num:Int}(h1:∀j (h:j<l.length),bQ num l[j]=G6)(h2:∀j (h:j+1<l.length),cmpE (l[j]'(by omega)) l[j+1]<0):(bV cmpE l&&l.all (bQ num))=true:=by
 rw[Ik,Ij];refine⟨asc_iff.2 h2,fun f hf=>?_⟩;obtain⟨j,hj,rfl⟩:=IZ.1 hf;exact h1 j hj
theorem yE {l:List EE}{num:Int}{j:Nat}(h:j<l.length)(h1:bQ num l[j]=G7):(bV cmpE l&&l.all (bQ num))=false:=by
 rw[Jo];right;exact iZ h h1
theorem yF {l:List EE}{num:Int}{j:Nat}(h:j+1<l.length)(h1: ¬cmpE (l[j]'(by omega)) l[j+1]<0):(bV cmpE l&&l.all (bQ num))=false:=by
 rw[Jo];left;rw[IA];intro h2;exact h1 (asc_iff.1 h2 j h)
theorem EN(a:VV)(w:World)(u:Value)(hu:VW w u a):Calls Tryz.prog 66 #[u] w (ER (bT a) w):=by
 obtain⟨b0,b1,b2,b3,b4,S,hB⟩:∃b0 b1 b2 b3 b4 S:Bool,(a.kind=1/\b0=G6/\b1=G7/\b2=G7/\b3=G7/\b4=G7/\S=G6)\/(a.kind=2/\b0=G7/\b1=G6/\b2=G7/\b3=G7/\b4=G7/\S=decide (a.text.size<=64))\/(a.kind=3/\b0=G7/\b1=G6/\b2=G7/\b3=G7/\b4=G7/\S=eb a.text.data.toList)\/(a.kind=4/\b0=G6/\b1=G7/\b2=G7/\b3=G7/\b4=G7/\S=decide (0<=a.num))\/(a.kind=5/\b0=G7/\b1=G7/\b2=G7/\b3=G7/\b4=G7/\S=G6)\/(a.kind=6/\b0=G7/\b1=G7/\b2=G6/\b3=G7/\b4=G7/\S=decide (a.kids.length<=4))\/(a.kind=7/\b0=G7/\b1=G7/\b2=G6/\b3=G7/\b4=G7/\S=(decide (a.kids.length=2)&&iS a.kids))\/(a.kind=8/\b0=G7/\b1=G7/\b2=G6/\b3=G6/\b4=G7/\S=(decide (a.keys.length=a.kids.length)&&(bV bN a.keys&&a.keys.all fun k=>dq k.kind k.text.data.toList)))\/(a.kind=9/\b0=G6/\b1=G7/\b2=G7/\b3=G7/\b4=G6/\S=(decide (0<=a.num)&&decide (a.num<=4)&&(bV cmpE a.ents&&a.ents.all (bQ a.num))))\/((a.kind≠1/\a.kind≠2/\a.kind≠3/\a.kind≠4/\a.kind≠5/\a.kind≠6/\a.kind≠7/\a.kind≠8/\a.kind≠9)/\b0=G7/\b1=G7/\b2=G7/\b3=G7/\b4=G7/\S=G7):=by
  by_cases h:a.kind≠1/\a.kind≠2/\a.kind≠3/\a.kind≠4/\a.kind≠5/\a.kind≠6/\a.kind≠7/\a.kind≠8/\a.kind≠9
  ·exact⟨G7,G7,G7,G7,G7,G7,by simp[h]⟩
  rcases(show a.kind=1\/a.kind=2\/a.kind=3\/a.kind=4\/a.kind=5\/a.kind=6\/a.kind=7\/a.kind=8\/a.kind=9 by omega)with h|h|h|h|h|h|h|h|h
  ·exact⟨G6,G7,G7,G7,G7,G6,by simp[h]⟩
  ·exact⟨G7,G6,G7,G7,G7,decide (a.text.size<=64),by simp[h]⟩
  ·exact⟨G7,G6,G7,G7,G7,eb a.text.data.toList,by simp[h]⟩
  ·exact⟨G6,G7,G7,G7,G7,decide (0<=a.num),by simp[h]⟩
  ·exact⟨G7,G7,G7,G7,G7,G6,by simp[h]⟩
  ·exact⟨G7,G7,G6,G7,G7,decide (a.kids.length<=4),by simp[h]⟩
  ·exact⟨G7,G7,G6,G7,G7,(decide (a.kids.length=2)&&iS a.kids),by simp[h]⟩
  ·exact⟨G7,G7,G6,G6,G7,(decide (a.keys.length=a.kids.length)&&(bV bN a.keys&&a.keys.all fun k=>dq k.kind k.text.data.toList)),by simp[h]⟩
  ·exact⟨G6,G7,G7,G7,G6,(decide (0<=a.num)&&decide (a.num<=4)&&(bV cmpE a.ents&&a.ents.all (bQ a.num))),by simp[h]⟩
 have Hn:=zH (show bT a=(jH a.labels&&(b0||decide (a.num=0))&&(b1||decide (a.text.size=0))&&(b2||a.kids.isEmpty)&&(b3||a.keys.isEmpty)&&(b4||a.ents.isEmpty)&&S)by
  rcases hB with⟨hk,rfl,rfl,rfl,rfl,rfl,hS⟩|⟨hk,rfl,rfl,rfl,rfl,rfl,hS⟩|⟨hk,rfl,rfl,rfl,rfl,rfl,hS⟩|⟨hk,rfl,rfl,rfl,rfl,rfl,hS⟩|⟨hk,rfl,rfl,rfl,rfl,rfl,hS⟩|⟨hk,rfl,rfl,rfl,rfl,rfl,hS⟩|⟨hk,rfl,rfl,rfl,rfl,rfl,hS⟩|⟨hk,rfl,rfl,rfl,rfl,rfl,hS⟩|⟨hk,rfl,rfl,rfl,rfl,rfl,hS⟩|⟨hk,rfl,rfl,rfl,rfl,rfl,hS⟩
  all_goals
   subst hS;unfold bT jH;simp[hk,gq,fg,fh]
   try ac_rfl
  intro h1 h2;omega)
 have HB:=zH hB;have Q0:=Tag.mk b0;have Q1:=Tag.mk b1;have Q2:=Tag.mk b2;have Q3:=Tag.mk b3;have Q4:=Tag.mk b4;obtain⟨dd,q1,q2,q3,q4,q5,q6,q7,q8,rfl,-,hkids,hkeys,hents,hl⟩:=hu.ex;have hszk:a.kids.length<=9223372036854775807:=by obtain⟨_,_,_,_,h⟩:=hkids;exact h.big
 have hszy:a.keys.length<=9223372036854775807:=by obtain⟨_,_,_,h⟩:=hkeys;exact h.big
 have hsze:a.ents.length<=9223372036854775807:=by obtain⟨_,_,_,_,h⟩:=hents;exact h.big
 have hszl:a.labels.length<=9223372036854775807:=by obtain⟨_,_,_,h⟩:=hl;exact h.big
 have HK:=zH hkids;have HL:=zH hl;have HY:=zH hkeys;have HE:=zH hents;have hgeq:=ol;clear hu hkids hl hkeys hents hB;go_enter Tryz.func66,Tryz.ntmps66;go_upto_region 1 with fail
 have hA:=HG w (GY #[GX GZ a.kind,GX GZ a.num,GW a.text,GU q1 a.kids.length q2,GU q3 a.keys.length q4,GU q5 a.ents.length q6,GU q7 a.labels.length q8] 33);have hb:Below w.heap.size w (w.alloc (GY #[GX GZ a.kind,GX GZ a.num,GW a.text,GU q1 a.kids.length q2,GU q3 a.keys.length q4,GU q5 a.ents.length q6,GU q7 a.labels.length q8] 33)):=(Below.refl _ _).alloc (G8 _) _;generalize w.alloc (GY #[GX GZ a.kind,GX GZ a.num,GW a.text,GU q1 a.kids.length q2,GU q3 a.keys.length q4,GU q5 a.ents.length q6,GU q7 a.labels.length q8] 33)=w2 at*
 have hlA:=ai hA;have HA:=zH hA;have Hb:=zH hb;obtain⟨⟨f0,f1,f2,f3⟩,f4,f5,f6⟩:=aN hA;clear hA hb;go_wp2;go_loopw[3] (fun i wr=>∃k:Nat,i=GX GZ k/\k<=a.labels.length/\((∀j (h:j<a.labels.length),j<k->dG a.labels[j].data.toList=G6)/\(∀j (h:j+1<a.labels.length),j+1<k->bD (a.labels[j]'(by omega)) a.labels[j+1]<0))/\Below w2.heap.size w2 wr) (fun i _=>a.labels.length-(intOf i).toNat)
 case atStart=>exact⟨0,rfl,by omega,⟨fun j _ h=>by omega,fun j _ h=>by omega⟩,Below.refl _ _⟩
 case round=>
  obtain⟨k,rfl,hk,hall,hbr⟩:=hrel;have Hall:=zH hall;have Hbr:=zH hbr;have Hbw:=zH (Hb.o.step hbr);clear hall hbr f0 f1 f2 f3 f4 f5 f6;obtain⟨⟨f0,f1,f2,f3⟩,f4,f5,f6⟩:=aN ((Hbr.o.block _ hlA).trans HA.o);by_cases hlt:k<a.labels.length
  ·have d9:decide (k<a.labels.length)=true:=by simp;omega
   obtain⟨py,cy,ey,hry⟩:=HL.o.below Hbw.o;injection ey with ey1 _ ey3
   subst ey1 ey3;obtain⟨ay,oy,rfl,haby,y0⟩:=hry.str hlt;have Hno1:=zH (fun h=>Ag (yA hlt h));have Hv1:=zH (show dG a.labels[k].data.toList=G6->∀j (h:j<a.labels.length),j<k+1->dG a.labels[j].data.toList=G6 from fun g j h hj=>by
    rcases IP.1 hj with g2|rfl
    ·exact Hall.o.1 j h g2
    ·exact g)
   cases hv:dG a.labels[k].data.toList with
   | false =>
     have Hf:=zH (Hno1.o hv);have Hcall:=zH (eJ a.labels[k]);rw[hv]at Hcall;clear hry hv Hv1 Hno1 Hall;generalize a.labels[k]=x at*
     go_wp2_with(first
      |(with_reducible refine rg ?_)
      |(with_reducible refine fo ?_)
      |(go_at_call 95;refine(Hcall.o _).mono ?_;rintro e w6 ⟨rfl,rfl⟩))
     go_ret;rw[Hf.o];exact⟨rfl,Hbw.o.drew⟩
   | true =>
     have Hcall:=zH (eJ a.labels[k]);have Hv2:=zH (Hv1.o hv);rw[hv]at Hcall;clear hv Hv1 Hno1;rcases JA k with hk0|hk0
     ·subst hk0;simp only[Im]at y0;have Hnx:=zH (show∀j (h:j+1<a.labels.length),j+1<0+1->bD (a.labels[j]'(by omega)) a.labels[j+1]<0 from fun j h hj=>by omega);clear Hall hry;generalize a.labels[0]=x at*
      go_wp2_with(first
      |(with_reducible refine rg ?_)
      | (with_reducible refine fo ?_)
        |(go_at_call 95;refine(Hcall.o _).mono ?_;rintro e w6 ⟨rfl,rfl⟩))
      exact⟨⟨0+1,by go_num,by omega,⟨Hv2.o,Hnx.o⟩,Hbr.o.drew⟩,by simp[intOf];omega⟩
     ·obtain⟨k,rfl⟩:∃k',k=k'+1:=⟨k-1,by omega⟩
      have hk1:k<a.labels.length:=by omega
      obtain⟨az,oz,epz,habz,z0⟩:=hry.str hk1;injection epz with epz
      injection epz with epz1 epz2
      subst epz1 epz2;clear hry;have Hno2:=zH (fun h=>Ag (yB hlt h));have Hnx:=zH (show bD a.labels[k] a.labels[k+1]<0->∀j (h:j+1<a.labels.length),j+1<k+1+1->bD (a.labels[j]'(by omega)) a.labels[j+1]<0 from fun g j h hj=>by
       rcases IP.1 hj with g4|g4
       ·exact Hall.o.2 j h g4
       ·obtain rfl:j=k:=by omega
        exact g)
      have hbl:=vp a.labels[k] a.labels[k+1];clear Hall;by_cases hz:bD a.labels[k] a.labels[k+1]<0
      ·have Hnx2:=zH (Hnx.o hz);rw[decide_eq_true hz]at hbl;clear hz Hnx Hno2;generalize a.labels[k]=y at*
       generalize a.labels[k+1]=x at*
       go_wp2_with(first
        |(with_reducible refine rg ?_)
        |(with_reducible refine fo ?_)
         |(go_at_call 95;refine(Hcall.o _).mono ?_;rintro e w6 ⟨rfl,rfl⟩))
       exact⟨⟨k+1+1,by go_num,by omega,⟨Hv2.o,Hnx2.o⟩,Hbr.o.drew⟩,by simp[intOf];omega⟩
      ·have Hf:=zH (Hno2.o hz);rw[decide_eq_false hz]at hbl;clear hz Hnx Hno2;generalize a.labels[k]=y at*
       generalize a.labels[k+1]=x at*
       go_wp2_with(first
        |(with_reducible refine rg ?_)
        |(with_reducible refine fo ?_)
         |(go_at_call 95;refine(Hcall.o _).mono ?_;rintro e w6 ⟨rfl,rfl⟩))
       go_ret;rw[Hf.o];exact⟨rfl,Hbw.o.drew⟩
  ·have d9:decide (k<a.labels.length)=false:=by simp;omega
   have hlab:=CT (fun j h=>Hall.o.1 j h (by omega)) (fun j h=>Hall.o.2 j h (by omega));rw[hlab]at Hn;clear Hall HL hlab;go_upto_region 6 with fail
   rcases HB.o with⟨hk,rfl,rfl,rfl,rfl,rfl,hS⟩|⟨hk,rfl,rfl,rfl,rfl,rfl,hS⟩|⟨hk,rfl,rfl,rfl,rfl,rfl,hS⟩|⟨hk,rfl,rfl,rfl,rfl,rfl,hS⟩|⟨hk,rfl,rfl,rfl,rfl,rfl,hS⟩|⟨hk,rfl,rfl,rfl,rfl,rfl,hS⟩|⟨hk,rfl,rfl,rfl,rfl,rfl,hS⟩|⟨hk,rfl,rfl,rfl,rfl,rfl,hS⟩|⟨hk,rfl,rfl,rfl,rfl,rfl,hS⟩|⟨hk,rfl,rfl,rfl,rfl,rfl,hS⟩
   all_goals have HS:=zH hS
   all_goals clear hS
   all_goals(first
    |(rw[hk]at f0;clear hk)
    | (obtain ⟨k1, k2, k3, k4, k5, k6, k7, k8, k9⟩ := hk
       replace k1:=kS k1;replace k2:=kS k2;replace k3:=kS k3;replace k4:=kS k4;replace k5:=kS k5;replace k6:=kS k6;replace k7:=kS k7;replace k8:=kS k8;replace k9:=kS k9;have k8n:(a.kind !=8)=true:=by simp[bne,k8]
       have k9n:(a.kind !=9)=true:=by simp[bne,k9]))
   all_goals(first
    | (have q : Tag false := Q0
       clear q;by_cases z:a.num=0;rotate_left
       ·have e:=(decide_eq_false z)
        have Hr:=zH (show bT a=G7 by rw[Hn.o,e];simp);have d0:(a.num !=0)=true:=by simp[z]
        clear z e;go_wp2;go_ret;rw[Hr.o];exact⟨rfl,Hbw.o⟩
       have e:=(decide_eq_true z)
       have d0:(a.num !=0)=false:=by simp[z]
       rw[e]at Hn;clear z e)
    |skip)
   all_goals(first
    | (have q : Tag false := Q1
       clear q;by_cases z:a.text.size=0;rotate_left
       ·have e:=(decide_eq_false z)
        have Hr:=zH (show bT a=G7 by rw[Hn.o,e];simp);have d1:a.text.toList.isEmpty=false:=(cP a.text).trans e;clear z e;go_wp2;go_ret;rw[Hr.o];exact⟨rfl,Hbw.o⟩
       have e:=(decide_eq_true z)
       have d1:a.text.toList.isEmpty=true:=(cP a.text).trans e;rw[e]at Hn;clear z e)
    |skip)
   all_goals(first
    | (have q : Tag false := Q2
       clear q;by_cases z:a.kids.length=0;rotate_left
       ·have e:=(show a.kids.isEmpty=G7 by rw[IA];intro h;exact z (by simpa using h))
        have Hr:=zH (show bT a=G7 by rw[Hn.o,e];simp);have d2:decide (0<a.kids.length)=true:=by simp;omega
        clear z e;go_wp2;go_ret;rw[Hr.o];exact⟨rfl,Hbw.o⟩
       have e:=(show a.kids.isEmpty=G6 by simpa using z)
       have d2:decide (0<a.kids.length)=false:=by simp[z]
       rw[e]at Hn;clear z e)
    |skip)
   all_goals(first
    | (have q : Tag false := Q3
       clear q;by_cases z:a.keys.length=0;rotate_left
       ·have e:=(show a.keys.isEmpty=G7 by rw[IA];intro h;exact z (by simpa using h))
        have Hr:=zH (show bT a=G7 by rw[Hn.o,e];simp);have d3:decide (0<a.keys.length)=true:=by simp;omega
        clear z e;go_wp2;go_ret;rw[Hr.o];exact⟨rfl,Hbw.o⟩
       have e:=(show a.keys.isEmpty=G6 by simpa using z)
       have d3:decide (0<a.keys.length)=false:=by simp[z]
       rw[e]at Hn;clear z e)
    |skip)
   all_goals(first
    | (have q : Tag false := Q4
       clear q;by_cases z:a.ents.length=0;rotate_left
       ·have e:=(show a.ents.isEmpty=G7 by rw[IA];intro h;exact z (by simpa using h))
        have Hr:=zH (show bT a=G7 by rw[Hn.o,e];simp);have d4:decide (0<a.ents.length)=true:=by simp;omega
        clear z e;go_wp2;go_ret;rw[Hr.o];exact⟨rfl,Hbw.o⟩
       have e:=(show a.ents.isEmpty=G6 by simpa using z)
       have d4:decide (0<a.ents.length)=false:=by simp[z]
       rw[e]at Hn;clear z e)
    |skip)
   all_goals have Hr:=zH (show bT a=S by rw[Hn.o];simp)
   all_goals obtain rfl:=HS.o
   ·go_wp2;go_ret;rw[Hr.o];exact⟨rfl,Hbw.o⟩
   ·have q:decide (a.text.size<=64)=decide ((a.text.size:Int)<=64):=by rw[IQ];simp;omega
    rw[q]at Hr;clear q;go_wp2;go_ret;rw[Hr.o];exact⟨rfl,Hbw.o⟩
   ·have Hat:=zH (eZ a.text);generalize eb a.text.data.toList=c at*
    go_wp2_with(go_at_call 96;refine(Hat.o _).mono ?_;rintro e w ⟨rfl,rfl⟩);go_ret;rw[Hr.o];exact⟨rfl,Hbw.o⟩
   ·go_wp2;go_ret;rw[Hr.o];exact⟨rfl,Hbw.o⟩
   ·go_wp2;go_ret;rw[Hr.o];exact⟨rfl,Hbw.o⟩
   ·have q:decide (a.kids.length<=4)=decide ((a.kids.length:Int)<=4):=by rw[IQ];simp;omega
    rw[q]at Hr;clear q;go_wp2;go_ret;rw[Hr.o];exact⟨rfl,Hbw.o⟩
   ·by_cases h2:a.kids.length=2;rotate_left
    ·have q:((a.kids.length:Int)==2)=false:=by rw[IA];intro g;rw[beq_iff_eq]at g;omega
     have Hr2:=zH (show bT a=G7 by rw[Hr.o,decide_eq_false h2];rfl);clear h2;go_wp2;go_ret;rw[Hr2.o];exact⟨rfl,Hbw.o⟩
    have q:((a.kids.length:Int)==2)=true:=by rw[beq_iff_eq];omega
    have h1:1<a.kids.length:=by omega
    have h1i:(1:Int)<(a.kids.length:Int):=by omega
    have ht:iS a.kids=(decide (a.kids[1].kind=5)||decide (a.kids[1].kind=7)):=by unfold iS;rw[List.getElem?_eq_getElem h1]
    obtain⟨dk,p',c',e9,hrv⟩:=HK.o;injection e9 with e91 _ e93
    subst e91 e93;obtain⟨ak,ok,cs,rfl,hab,-,hrng,hP⟩:=hrv.all h1;obtain⟨r1,r2,r3,r4,r5,r6,r7,r8,rfl⟩:=hP.seven;have z0:=hrng wr Hbw.o 0 _ rfl;simp only[Nat.one_mul,Im]at z0;have Hr2:=zH (show bT a=(decide (a.kids[1].kind=5)||decide (a.kids[1].kind=7))by rw[Hr.o,decide_eq_true h2,ht];rfl);clear hrv hrng hP ht h2 Hr;generalize a.kids[1].kind=tk at*
    by_cases g5:tk=5
    ·have q5:(tk==5)=true:=by simp[g5]
     have Hr3:=zH (show bT a=G6 by rw[Hr2.o,decide_eq_true g5];rfl);clear g5 Hr2;go_wp2;go_ret;rw[Hr3.o];exact⟨rfl,Hbw.o⟩
    ·have q5:(tk==5)=false:=by simp[g5]
     have Hr3:=zH (show bT a=(tk==7)by rw[Hr2.o,decide_eq_false g5];rw[IQ];simp);clear g5 Hr2;go_wp2;go_ret;rw[Hr3.o];exact⟨rfl,Hbw.o⟩
   ·have Hno0:=zH (show(bV bN a.keys&&a.keys.all fun k=>dq k.kind k.text.data.toList)=G7->bT a=G7 from fun h=>by rw[Hr.o,h];simp);obtain⟨wq,hwq⟩:∃wq:World,wq=wr:=⟨_,rfl⟩
    subst hwq;go_wp2;clear d9;go_loopw[7] (fun i w9=>∃k:Nat,i=GX GZ k/\k<=a.keys.length/\((∀j (h:j<a.keys.length),j<k->dq a.keys[j].kind a.keys[j].text.data.toList=G6)/\(∀j (h:j+1<a.keys.length),j+1<k->bN (a.keys[j]'(by omega)) a.keys[j+1]<0))/\Below w2.heap.size w2 w9) (fun i _=>a.keys.length-(intOf i).toNat)
    case atStart=>exact⟨0,rfl,by omega,⟨fun j _ h=>by omega,fun j _ h=>by omega⟩,Hbr.o⟩
    case round=>
     obtain⟨k,rfl,hk,hall,hb9⟩:=hrel;have Hall:=zH hall;have Hb9:=zH hb9;have Hbw9:=zH (Hb.o.step hb9);clear hall hb9 f0 f1 f2 f3 f4 f5 f6;have hA9:=(Hb9.o.block _ hlA).trans HA.o;obtain⟨⟨f0,f1,f2,f3⟩,f4,f5,f6⟩:=aN hA9;obtain⟨wo',hwo⟩:∃wo':World,wo'=wr:=⟨_,rfl⟩
     subst hwo;have LA:=zH (show w.heap.size<wo'.drew.heap.size from ai hA9);have YA:=zH (show wo'.drew.cell? ⟨w.heap.size,4,G0⟩=_ from f4);clear hA9;by_cases hlt:k<a.keys.length
     ·have d9:decide (k<a.keys.length)=true:=by simp;omega
      obtain⟨py,cy,ey,hry⟩:=HY.o.below Hbw9.o;injection ey with ey1 _ ey3
      subst ey1 ey3;obtain⟨ay,oy,rfl,haby,y0,y1⟩:=hry.key hlt;have LK:=zH (show ay<wo'.drew.heap.size from haby);have YK:=zH (show wo'.drew.cell? ⟨ay,oy+k*2,G0⟩=_ from y0);have Hno1:=zH (fun h=>Hno0.o (yC hlt h));have Hv1:=zH (show dq a.keys[k].kind a.keys[k].text.data.toList=G6->∀j (h:j<a.keys.length),j<k+1->dq a.keys[j].kind a.keys[j].text.data.toList=G6 from fun g j h hj=>by
       rcases IP.1 hj with g2|rfl
       ·exact Hall.o.1 j h g2
       ·exact g)
      have Hvk:=zH (eg a.keys[k].kind a.keys[k].text);cases hv:dq a.keys[k].kind a.keys[k].text.data.toList with
      | false =>
        have Hf:=zH (Hno1.o hv);rw[hv]at Hvk;clear hry hv Hv1 Hno1 Hall;generalize a.keys[k]=x at*
        go_wp2_with(first
         |((with_reducible refine JZ ?_);refine fE (by repeat first|exact JW|refine JU rfl ?_|refine JT (by decide+kernel) ?_|refine JP rfl LA.o YA.o ?_|refine JP rfl LK.o YK.o ?_) ?_)
         |((with_reducible refine JX ?_);refine gL (fun x=>x<wo'.drew.heap.size) ?_)
         |(with_reducible first|refine qH ?_|refine JV ?_|refine JY ?_)
         |((with_reducible refine J0 ?_);first|(with_reducible refine JQ Hext.o ?_)|(with_reducible refine JQ (Is _) ?_))
         |(go_at_call 97;refine(Hvk.o _).mono ?_;rintro e w6 ⟨rfl,hb6⟩;have f4':=(hb6.cell (p:=⟨w.heap.size,_,G0⟩) LA.o).trans f4;have Hext:=zH (IL (Kp:=fun x=>x<wo'.drew.heap.size) hb6 (G8 _));have Hb6:=zH (Hb9.o.drew.step hb6);clear hb6))
        go_ret;rw[Hf.o];exact⟨rfl,Hb.o.step Hb6.o⟩
      | true =>
        have Hv2:=zH (Hv1.o hv);rw[hv]at Hvk;clear hv Hv1 Hno1;rcases JA k with hk0|hk0
        ·subst hk0;simp only[Nat.zero_mul,Im]at y0 y1 YK;have Hnx:=zH (show∀j (h:j+1<a.keys.length),j+1<0+1->bN (a.keys[j]'(by omega)) a.keys[j+1]<0 from fun j h hj=>by omega);clear Hall hry;generalize a.keys[0]=x at*
         go_wp2_with(first
          |((with_reducible refine JZ ?_);refine fE (by repeat first|exact JW|refine JU rfl ?_|refine JT (by decide+kernel) ?_|refine JP rfl LA.o YA.o ?_|refine JP rfl LK.o YK.o ?_) ?_)
          |((with_reducible refine JX ?_);refine gL (fun x=>x<wo'.drew.heap.size) ?_)
          |(with_reducible first|refine qH ?_|refine JV ?_|refine JY ?_)
          |((with_reducible refine J0 ?_);first|(with_reducible refine JQ Hext.o ?_)|(with_reducible refine JQ (Is _) ?_))
          |(go_at_call 97;refine(Hvk.o _).mono ?_;rintro e w6 ⟨rfl,hb6⟩;have f4':=(hb6.cell (p:=⟨w.heap.size,_,G0⟩) LA.o).trans f4;have Hext:=zH (IL (Kp:=fun x=>x<wo'.drew.heap.size) hb6 (G8 _));have Hb6:=zH (Hb9.o.drew.step hb6);clear hb6))
         exact⟨⟨0+1,by go_num,by omega,⟨Hv2.o,Hnx.o⟩,Hb6.o⟩,by simp[intOf];omega⟩
        ·obtain⟨k,rfl⟩:∃k',k=k'+1:=⟨k-1,by omega⟩
         have hk1:k<a.keys.length:=by omega
         obtain⟨az,oz,epz,habz,z0,z1⟩:=hry.key hk1;injection epz with epz
         injection epz with epz1 epz2
         subst epz1 epz2;clear hry;have YL:=zH (show wo'.drew.cell? ⟨ay,oy+k*2,G0⟩=_ from z0);have Hno2:=zH (fun h=>Hno0.o (yD hlt h));have Hnx:=zH (show bN a.keys[k] a.keys[k+1]<0->∀j (h:j+1<a.keys.length),j+1<k+1+1->bN (a.keys[j]'(by omega)) a.keys[j+1]<0 from fun g j h hj=>by
          rcases IP.1 hj with g4|g4
          ·exact Hall.o.2 j h g4
          ·obtain rfl:j=k:=by omega
           exact g)
         have HKc:=zH (jl a.keys[k] a.keys[k+1]);clear Hall;by_cases hz:bN a.keys[k] a.keys[k+1]<0
         ·have Hnx2:=zH (Hnx.o hz);have d1:decide (0<=bN a.keys[k] a.keys[k+1])=false:=by simp;omega
          clear hz Hnx Hno2;generalize bN a.keys[k] a.keys[k+1]=cc at*
          generalize a.keys[k]=y at*
          generalize a.keys[k+1]=x at*
          go_wp2_with(first
           |((with_reducible refine JZ ?_);refine fE (by repeat first|exact JW|refine JU rfl ?_|refine JT (by decide+kernel) ?_|refine JP rfl LA.o YA.o ?_|refine JP rfl LK.o YK.o ?_|refine JP rfl LK.o YL.o ?_) ?_)
           |((with_reducible refine JX ?_);refine gL (fun x=>x<wo'.drew.heap.size) ?_)
           |(with_reducible first|refine qH ?_|refine JV ?_|refine JY ?_)
           |((with_reducible refine J0 ?_);first|(with_reducible refine JQ Hext.o ?_)|(with_reducible refine JQ (Is _) ?_))
           |(go_at_call 97;refine(Hvk.o _).mono ?_;rintro e w6 ⟨rfl,hb6⟩;have f4':=(hb6.cell (p:=⟨w.heap.size,_,G0⟩) LA.o).trans f4;have x0:=(hb6.cell (p:=⟨ay,_,G0⟩) LK.o).trans y0;have x1:=(hb6.cell (p:=⟨ay,_,G0⟩) LK.o).trans y1;have v0:=(hb6.cell (p:=⟨ay,_,G0⟩) LK.o).trans z0;have v1:=(hb6.cell (p:=⟨ay,_,G0⟩) LK.o).trans z1;have Hext:=zH (IL (Kp:=fun x=>x<wo'.drew.heap.size) hb6 (G8 _));have Hb6:=zH (Hb9.o.drew.step hb6);clear hb6)
           |(go_at_call 98;refine(HKc.o w6).mono ?_;rintro e w7 ⟨rfl,hb7⟩;have Hext:=zH (IL (Kp:=fun x=>x<wo'.drew.heap.size) hb7 (G8 _));have Hb7:=zH (Hb6.o.step hb7);clear hb7))
          exact⟨⟨k+1+1,by go_num,by omega,⟨Hv2.o,Hnx2.o⟩,Hb7.o⟩,by simp[intOf];omega⟩
         ·have Hf:=zH (Hno2.o hz);have d1:decide (0<=bN a.keys[k] a.keys[k+1])=true:=by simp;omega
          clear hz Hnx Hno2;generalize bN a.keys[k] a.keys[k+1]=cc at*
          generalize a.keys[k]=y at*
          generalize a.keys[k+1]=x at*
          go_wp2_with(first
           |((with_reducible refine JZ ?_);refine fE (by repeat first|exact JW|refine JU rfl ?_|refine JT (by decide+kernel) ?_|refine JP rfl LA.o YA.o ?_|refine JP rfl LK.o YK.o ?_|refine JP rfl LK.o YL.o ?_) ?_)
           |((with_reducible refine JX ?_);refine gL (fun x=>x<wo'.drew.heap.size) ?_)
           |(with_reducible first|refine qH ?_|refine JV ?_|refine JY ?_)
           |((with_reducible refine J0 ?_);first|(with_reducible refine JQ Hext.o ?_)|(with_reducible refine JQ (Is _) ?_))
           |(go_at_call 97;refine(Hvk.o _).mono ?_;rintro e w6 ⟨rfl,hb6⟩;have f4':=(hb6.cell (p:=⟨w.heap.size,_,G0⟩) LA.o).trans f4;have x0:=(hb6.cell (p:=⟨ay,_,G0⟩) LK.o).trans y0;have x1:=(hb6.cell (p:=⟨ay,_,G0⟩) LK.o).trans y1;have v0:=(hb6.cell (p:=⟨ay,_,G0⟩) LK.o).trans z0;have v1:=(hb6.cell (p:=⟨ay,_,G0⟩) LK.o).trans z1;have Hext:=zH (IL (Kp:=fun x=>x<wo'.drew.heap.size) hb6 (G8 _));have Hb6:=zH (Hb9.o.drew.step hb6);clear hb6)
           |(go_at_call 98;refine(HKc.o w6).mono ?_;rintro e w7 ⟨rfl,hb7⟩;have Hext:=zH (IL (Kp:=fun x=>x<wo'.drew.heap.size) hb7 (G8 _));have Hb7:=zH (Hb6.o.step hb7);clear hb7))
          go_ret;rw[Hf.o];exact⟨rfl,Hb.o.step Hb7.o⟩
     ·have d9:decide (k<a.keys.length)=false:=by simp;omega
      have hko:=CU (fun j h=>Hall.o.1 j h (by omega)) (fun j h=>Hall.o.2 j h (by omega));have Hr2:=zH (show bT a=((a.keys.length:Int)==(a.kids.length:Int))by rw[Hr.o,hko,Bool.and_true,IQ];simp;omega);clear hko Hall Hr;go_upto_region 31 with fail
      generalize a.keys.length=ky at f4 Hr2 ⊢;generalize a.kids.length=kd at f3 Hr2 ⊢;go_wp2;go_ret;rw[Hr2.o]
      first|exact⟨rfl,Hbw9.o⟩|exact⟨by simp,Hbw9.o⟩
   ·have Hno0:=zH (show(bV cmpE a.ents&&a.ents.all (bQ a.num))=G7->bT a=G7 from fun h=>by rw[Hr.o,h];simp);by_cases n0:a.num<0
    ·have d1:decide (a.num<0)=true:=by simp[n0]
     have Hf:=zH (show bT a=G7 by rw[Hr.o,decide_eq_false (by omega: ¬0<=a.num)];rfl);clear n0;go_wp2;go_ret;rw[Hf.o];exact⟨rfl,Hbw.o⟩
    have n0':=decide_eq_true (by omega:0<=a.num);have n1:decide (a.num<0)=false:=by simp;omega
    by_cases n4:4<a.num
    ·have d1:decide (4<a.num)=true:=by simp[n4]
     have Hf:=zH (show bT a=G7 by rw[Hr.o,decide_eq_false (by omega: ¬a.num<=4)];simp);clear n4 n0 n0';go_wp2;go_ret;rw[Hf.o];exact⟨rfl,Hbw.o⟩
    have n4':=decide_eq_true (by omega:a.num<=4);have n5:decide (4<a.num)=false:=by simp;omega
    have Hr1:=zH (show(bV cmpE a.ents&&a.ents.all (bQ a.num))=G6->bT a=G6 from fun h=>by rw[Hr.o,n0',n4',h];rfl);clear n0 n0' n4 n4' Hr;obtain⟨wq,hwq⟩:∃wq:World,wq=wr:=⟨_,rfl⟩
    subst hwq;go_wp2;clear d9 n1 n5;go_loopw[8] (fun i w9=>∃k:Nat,i=GX GZ k/\k<=a.ents.length/\((∀j (h:j<a.ents.length),j<k->bQ a.num a.ents[j]=G6)/\(∀j (h:j+1<a.ents.length),j+1<k->cmpE (a.ents[j]'(by omega)) a.ents[j+1]<0))/\Below w2.heap.size w2 w9) (fun i _=>a.ents.length-(intOf i).toNat)
    case atStart=>exact⟨0,rfl,by omega,⟨fun j _ h=>by omega,fun j _ h=>by omega⟩,Hbr.o⟩
    case round=>
     obtain⟨k,rfl,hk,hall,hb9⟩:=hrel;have Hall:=zH hall;have Hb9:=zH hb9;have Hbw9:=zH (Hb.o.step hb9);clear hall hb9 f0 f1 f2 f3 f4 f5 f6;obtain⟨⟨f0,f1,f2,f3⟩,f4,f5,f6⟩:=aN ((Hb9.o.block _ hlA).trans HA.o);by_cases hlt:k<a.ents.length
     ·have d9:decide (k<a.ents.length)=true:=by simp;omega
      obtain⟨de,p',c',e9,hr⟩:=HE.o.below Hbw9.o;injection e9 with e1 _ e3
      subst e1 e3;obtain⟨ak,ok,cs,rfl,hab,-,hrg,hESx⟩:=hr.at hlt;have hbig:a.ents[k].args.length<=9223372036854775807:=by obtain⟨_,_,_,_,h,_⟩:=hESx;exact h.big
      obtain⟨r9,ra,r1,r2,r3,r4,r5,r6,r7,r8,rfl⟩:=hESx.nine;have z0:=hrg 0 _ rfl;have z1:=hrg 1 _ rfl;have z2:=hrg 2 _ rfl;have z3:=hrg 3 _ rfl;have z4:=hrg 4 _ rfl;have z5:=hrg 5 _ rfl;have z6:=hrg 6 _ rfl;have z7:=hrg 7 _ rfl;have z8:=hrg 8 _ rfl;rw[Im]at z0;have hres:VS wr de a.ents[k].res [GX GZ a.ents[k].res.kind,GX GZ a.ents[k].res.num,GW a.ents[k].res.text,GU r1 a.ents[k].res.kids.length r2,GU r3 a.ents[k].res.keys.length r4,GU r5 a.ents[k].res.ents.length r6,GU r7 a.ents[k].res.labels.length r8]:=by
       obtain⟨_,_,_,e7,_,h7⟩:=hESx;simp at e7;obtain⟨-,rfl⟩:=e7;exact h7
      have Hno1:=zH (fun h=>Hno0.o (yE hlt h));have Hv1:=zH (show bQ a.num a.ents[k]=G6->∀j (h:j<a.ents.length),j<k+1->bQ a.num a.ents[j]=G6 from fun g j h hj=>by
       rcases IP.1 hj with g2|rfl
       ·exact Hall.o.1 j h g2
       ·exact g)
      clear hrg;rcases JA k with hk0|hk0
      ·subst hk0;simp only[Nat.zero_mul,Im,Nat.zero_add]at z0 z1 z2 z3 z4 z5 z6 z7 z8;have Hnx:=zH (show∀j (h:j+1<a.ents.length),j+1<0+1->cmpE (a.ents[j]'(by omega)) a.ents[j+1]<0 from fun j h hj=>by omega);clear Hall hr;generalize a.ents[0]=x at*
       obtain⟨wo',hwo⟩:∃wo':World,wo'=wr:=⟨_,rfl⟩
       subst hwo;go_upto_region 39 with fail
       have hnew:=HG wo' (GY #[GU r9 x.args.length ra,.bool x.fails,GX GZ x.res.kind,GX GZ x.res.num,GW x.res.text,GU r1 x.res.kids.length r2,GU r3 x.res.keys.length r4,GU r5 x.res.ents.length r6,GU r7 x.res.labels.length r8] 68);have ho:Below wo'.heap.size wo' (wo'.alloc (GY #[GU r9 x.args.length ra,.bool x.fails,GX GZ x.res.kind,GX GZ x.res.num,GW x.res.text,GU r1 x.res.kids.length r2,GU r3 x.res.keys.length r4,GU r5 x.res.ents.length r6,GU r7 x.res.labels.length r8] 68)):=(Below.refl _ _).alloc (G8 _) _;generalize wo'.alloc (GY #[GU r9 x.args.length ra,.bool x.fails,GX GZ x.res.kind,GX GZ x.res.num,GW x.res.text,GU r1 x.res.kids.length r2,GU r3 x.res.keys.length r4,GU r5 x.res.ents.length r6,GU r7 x.res.labels.length r8] 68)=w5 at*
       have Hb5:=zH (Hb9.o.step ho);clear f0 f1 f2 f3 f4 f5 f6;have hA5:=(Hb5.o.block _ hlA).trans HA.o;obtain⟨⟨f0,f1,f2,f3⟩,f4,f5,f6⟩:=aN hA5;obtain⟨⟨g0,g1,g2,g3⟩,⟨g4,g5,g6,g7⟩,g8⟩:=cB hnew;have Hres:=zH (hres.below ho.drew);have LA:=zH (show w.heap.size<w5.drew.heap.size from ai hA5);have LB:=zH (show wo'.heap.size<w5.drew.heap.size from ai hnew);have YA1:=zH (show w5.drew.cell? ⟨w.heap.size,1,G0⟩=_ from f1);have YA5:=zH (show w5.drew.cell? ⟨w.heap.size,5,G0⟩=_ from f5);have YB0:=zH (show w5.drew.cell? ⟨wo'.heap.size,0,G0⟩=_ from g0);have YB1:=zH (show w5.drew.cell? ⟨wo'.heap.size,1,G0⟩=_ from g1);have YB2:=zH (show w5.drew.cell? ⟨wo'.heap.size,2,G0⟩=_ from g2);clear z0 z1 z2 z3 z4 z5 z6 z7 z8 hnew ho hA5 hres hESx;generalize wo'.heap.size=bo at*
       by_cases hn:(x.args.length:Int)=a.num;rotate_left
       ·have d2:((x.args.length:Int)!=a.num)=true:=by simp[hn]
        have Hf:=zH (Hno1.o (by unfold bQ;rw[decide_eq_false hn];rfl));clear hn;go_wp2_with(first
         |((with_reducible refine JZ ?_);refine fE (by repeat first|exact JW|refine JU rfl ?_|refine JT (by decide+kernel) ?_|refine JP rfl LA.o YA1.o ?_|refine JP rfl LA.o YA5.o ?_|refine JP rfl LB.o YB0.o ?_|refine JP rfl LB.o YB1.o ?_|refine JP rfl LB.o YB2.o ?_) ?_)
         |((with_reducible refine JX ?_);refine gL (fun x=>x<w5.drew.heap.size) ?_)
         |(with_reducible first|refine qH ?_|refine JV ?_|refine JY ?_)
         |((with_reducible refine J0 ?_);first|(with_reducible refine JQ Hext.o ?_)|(with_reducible refine JQ (Is _) ?_))
        )
        go_ret;rw[Hf.o];exact⟨rfl,Hb.o.step Hb5.o.drew⟩
       have d2:((x.args.length:Int)!=a.num)=false:=by simp[hn]
       have Hen:=zH (show bQ a.num x=(!x.fails||decide (bH x.res zeroV=0))by unfold bQ;rw[decide_eq_true hn];rfl);clear hn;cases hf:x.fails with
       | false =>
         rw[hf]at g1 YB1;have Ho:=zH (Hv1.o (by rw[Hen.o,hf];rfl));clear hf Hen Hno1 Hv1;go_wp2_with(first
          |((with_reducible refine JZ ?_);refine fE (by repeat first|exact JW|refine JU rfl ?_|refine JT (by decide+kernel) ?_|refine JP rfl LA.o YA1.o ?_|refine JP rfl LA.o YA5.o ?_|refine JP rfl LB.o YB0.o ?_|refine JP rfl LB.o YB1.o ?_|refine JP rfl LB.o YB2.o ?_) ?_)
          |((with_reducible refine JX ?_);refine gL (fun x=>x<w5.drew.heap.size) ?_)
          |(with_reducible first|refine qH ?_|refine JV ?_|refine JY ?_)
          |((with_reducible refine J0 ?_);first|(with_reducible refine JQ Hext.o ?_)|(with_reducible refine JQ (Is _) ?_))
         )
         exact⟨⟨0+1,by go_num,by omega,⟨Ho.o,Hnx.o⟩,Hb5.o.drew⟩,by simp[intOf];omega⟩
       | true =>
         rw[hf]at g1 YB1;have Heq:=zH (iw x.res zeroV w5.drew _ (.agg #[GX GZ 0,GX GZ 0,GW ⟨#[]⟩,GU G0 0 0,GU G0 0 0,GU G0 0 0,GU G0 0 0]) ⟨_,_,rfl,Hres.o⟩ ⟨1,_,rfl,fU _⟩);cases hz:decide (bH x.res zeroV=0)with
         | false =>
           have Hf:=zH (Hno1.o (by rw[Hen.o,hf,hz];rfl));rw[hz]at Heq;clear hz hf Hen Hno1 Hv1;go_wp2_with(first
            |((with_reducible refine JZ ?_);refine fE (by repeat first|exact JW|refine JU rfl ?_|refine JT (by decide+kernel) ?_|refine JP rfl LA.o YA1.o ?_|refine JP rfl LA.o YA5.o ?_|refine JP rfl LB.o YB0.o ?_|refine JP rfl LB.o YB1.o ?_|refine JP rfl LB.o YB2.o ?_) ?_)
            |((with_reducible refine JX ?_);refine gL (fun x=>x<w5.drew.heap.size) ?_)
            |(with_reducible first|refine qH ?_|refine JV ?_|refine JY ?_)
            |((with_reducible refine J0 ?_);first|(with_reducible refine JQ Hext.o ?_)|(with_reducible refine JQ (Is _) ?_))
            |(go_at_call 41;refine Heq.o.mono ?_;rintro e w6 ⟨rfl,hb6⟩;have Hext:=zH (IL (Kp:=fun x=>x<w5.drew.heap.size) hb6 (G8 _));have Hb6:=zH (Hb5.o.drew.step hb6);have Hz6:=zH hb6;clear hb6))
           go_ret;rw[Hf.o];exact⟨rfl,Hb.o.step Hb6.o⟩
         | true =>
           have Ho:=zH (Hv1.o (by rw[Hen.o,hf,hz];rfl));rw[hz]at Heq;clear hz hf Hen Hno1 Hv1;go_wp2_with(first
            |((with_reducible refine JZ ?_);refine fE (by repeat first|exact JW|refine JU rfl ?_|refine JT (by decide+kernel) ?_|refine JP rfl LA.o YA1.o ?_|refine JP rfl LA.o YA5.o ?_|refine JP rfl LB.o YB0.o ?_|refine JP rfl LB.o YB1.o ?_|refine JP rfl LB.o YB2.o ?_) ?_)
            |((with_reducible refine JX ?_);refine gL (fun x=>x<w5.drew.heap.size) ?_)
            |(with_reducible first|refine qH ?_|refine JV ?_|refine JY ?_)
            |((with_reducible refine J0 ?_);first|(with_reducible refine JQ Hext.o ?_)|(with_reducible refine JQ (Is _) ?_))
            |(go_at_call 41;refine Heq.o.mono ?_;rintro e w6 ⟨rfl,hb6⟩;have Hext:=zH (IL (Kp:=fun x=>x<w5.drew.heap.size) hb6 (G8 _));have Hb6:=zH (Hb5.o.drew.step hb6);have Hz6:=zH hb6;clear hb6))
           exact⟨⟨0+1,by go_num,by omega,⟨Ho.o,Hnx.o⟩,Hb6.o⟩,by simp[intOf];omega⟩
      ·obtain⟨k,rfl⟩:∃k',k=k'+1:=⟨k-1,by omega⟩
       have hk1:k<a.ents.length:=by omega
       obtain⟨az,oz,cs',epz,habz,-,hrg',hESy⟩:=hr.at hk1;injection epz with epz
       injection epz with epz1 epz2
       subst epz1 epz2;obtain⟨s9,sa,s1,s2,s3,s4,s5,s6,s7,s8,rfl⟩:=hESy.nine;have y0:=hrg' 0 _ rfl;have y1:=hrg' 1 _ rfl;have y2:=hrg' 2 _ rfl;have y3:=hrg' 3 _ rfl;have y4:=hrg' 4 _ rfl;have y5:=hrg' 5 _ rfl;have y6:=hrg' 6 _ rfl;have y7:=hrg' 7 _ rfl;have y8:=hrg' 8 _ rfl;rw[Im]at y0;have Hno2:=zH (fun h=>Hno0.o (yF hlt h));have Hnx:=zH (show cmpE a.ents[k] a.ents[k+1]<0->∀j (h:j+1<a.ents.length),j+1<k+1+1->cmpE (a.ents[j]'(by omega)) a.ents[j+1]<0 from fun g j h hj=>by
        rcases IP.1 hj with g4|g4
        ·exact Hall.o.2 j h g4
        ·obtain rfl:j=k:=by omega
         exact g)
       clear Hall hr hrg';generalize a.ents[k]=y at*
       generalize a.ents[k+1]=x at*
       obtain⟨wo',hwo⟩:∃wo':World,wo'=wr:=⟨_,rfl⟩
       subst hwo;go_upto_region 39 with fail
       have hnew:=HG wo' (GY #[GU r9 x.args.length ra,.bool x.fails,GX GZ x.res.kind,GX GZ x.res.num,GW x.res.text,GU r1 x.res.kids.length r2,GU r3 x.res.keys.length r4,GU r5 x.res.ents.length r6,GU r7 x.res.labels.length r8] 68);have ho:Below wo'.heap.size wo' (wo'.alloc (GY #[GU r9 x.args.length ra,.bool x.fails,GX GZ x.res.kind,GX GZ x.res.num,GW x.res.text,GU r1 x.res.kids.length r2,GU r3 x.res.keys.length r4,GU r5 x.res.ents.length r6,GU r7 x.res.labels.length r8] 68)):=(Below.refl _ _).alloc (G8 _) _;generalize wo'.alloc (GY #[GU r9 x.args.length ra,.bool x.fails,GX GZ x.res.kind,GX GZ x.res.num,GW x.res.text,GU r1 x.res.kids.length r2,GU r3 x.res.keys.length r4,GU r5 x.res.ents.length r6,GU r7 x.res.labels.length r8] 68)=w5 at*
       have Hb5:=zH (Hb9.o.step ho);clear f0 f1 f2 f3 f4 f5 f6;have hA5:=(Hb5.o.block _ hlA).trans HA.o;obtain⟨⟨f0,f1,f2,f3⟩,f4,f5,f6⟩:=aN hA5;obtain⟨⟨g0,g1,g2,g3⟩,⟨g4,g5,g6,g7⟩,g8⟩:=cB hnew;have Hres:=zH (hres.below ho.drew);have haw:ak<wo'.heap.size:=hab;have v0:=(ho.cell (p:=⟨ak,_,G0⟩) haw).trans y0;have v1:=(ho.cell (p:=⟨ak,_,G0⟩) haw).trans y1;have v2:=(ho.cell (p:=⟨ak,_,G0⟩) haw).trans y2;have v3:=(ho.cell (p:=⟨ak,_,G0⟩) haw).trans y3;have v4:=(ho.cell (p:=⟨ak,_,G0⟩) haw).trans y4;have v5:=(ho.cell (p:=⟨ak,_,G0⟩) haw).trans y5;have v6:=(ho.cell (p:=⟨ak,_,G0⟩) haw).trans y6;have v7:=(ho.cell (p:=⟨ak,_,G0⟩) haw).trans y7;have v8:=(ho.cell (p:=⟨ak,_,G0⟩) haw).trans y8;have LK:=zH (show ak<w5.drew.heap.size from Nat.lt_of_lt_of_le haw ho.size);have YK:=zH (show w5.drew.cell? ⟨ak,ok+k*9,G0⟩=_ from v0);have Hcmp:=zH (fun(w6:World) (h:Below w5.drew.heap.size w5.drew w6)=>dV y x w6 _ _ _ _ (hESy.below (ho.drew.step h)) (hESx.below (ho.drew.step h)));have LA:=zH (show w.heap.size<w5.drew.heap.size from ai hA5);have LB:=zH (show wo'.heap.size<w5.drew.heap.size from ai hnew);have YA1:=zH (show w5.drew.cell? ⟨w.heap.size,1,G0⟩=_ from f1);have YA5:=zH (show w5.drew.cell? ⟨w.heap.size,5,G0⟩=_ from f5);have YB0:=zH (show w5.drew.cell? ⟨wo'.heap.size,0,G0⟩=_ from g0);have YB1:=zH (show w5.drew.cell? ⟨wo'.heap.size,1,G0⟩=_ from g1);have YB2:=zH (show w5.drew.cell? ⟨wo'.heap.size,2,G0⟩=_ from g2);clear z0 z1 z2 z3 z4 z5 z6 z7 z8 hnew ho hA5 hres y0 y1 y2 y3 y4 y5 y6 y7 y8 hESy hESx;generalize wo'.heap.size=bo at*
       by_cases hn:(x.args.length:Int)=a.num;rotate_left
       ·have d2:((x.args.length:Int)!=a.num)=true:=by simp[hn]
        have Hf:=zH (Hno1.o (by unfold bQ;rw[decide_eq_false hn];rfl));clear hn;go_wp2_with(first
         |((with_reducible refine JZ ?_);refine fE (by repeat first|exact JW|refine JU rfl ?_|refine JT (by decide+kernel) ?_|refine JP rfl LA.o YA1.o ?_|refine JP rfl LA.o YA5.o ?_|refine JP rfl LB.o YB0.o ?_|refine JP rfl LB.o YB1.o ?_|refine JP rfl LB.o YB2.o ?_|refine JP rfl LK.o YK.o ?_) ?_)
         |((with_reducible refine JX ?_);refine gL (fun x=>x<w5.drew.heap.size) ?_)
         |(with_reducible first|refine qH ?_|refine JV ?_|refine JY ?_)
         |((with_reducible refine J0 ?_);first|(with_reducible refine JQ Hext.o ?_)|(with_reducible refine JQ (Is _) ?_))
        )
        go_ret;rw[Hf.o];exact⟨rfl,Hb.o.step Hb5.o.drew⟩
       have d2:((x.args.length:Int)!=a.num)=false:=by simp[hn]
       have Hen:=zH (show bQ a.num x=(!x.fails||decide (bH x.res zeroV=0))by unfold bQ;rw[decide_eq_true hn];rfl);clear hn;cases hf:x.fails with
       | false =>
         rw[hf]at g1 YB1 Hcmp;have Ho:=zH (Hv1.o (by rw[Hen.o,hf];rfl));clear hf Hen Hno1 Hv1;by_cases hc:cmpE y x<0
         ·have Hnx2:=zH (Hnx.o hc);have d1:decide (0<=cmpE y x)=false:=by simp;omega
          clear hc Hnx Hno2;generalize cmpE y x=cc at*
          go_wp2_with(first
           |((with_reducible refine JZ ?_);refine fE (by repeat first|exact JW|refine JU rfl ?_|refine JT (by decide+kernel) ?_|refine JP rfl LA.o YA1.o ?_|refine JP rfl LA.o YA5.o ?_|refine JP rfl LB.o YB0.o ?_|refine JP rfl LB.o YB1.o ?_|refine JP rfl LB.o YB2.o ?_|refine JP rfl LK.o YK.o ?_) ?_)
           |((with_reducible refine JX ?_);refine gL (fun x=>x<w5.drew.heap.size) ?_)
           |(with_reducible first|refine qH ?_|refine JV ?_|refine JY ?_)
           |((with_reducible refine J0 ?_);first|(with_reducible refine JQ Hext.o ?_)|(with_reducible refine JQ (Is _) ?_))
           |(go_at_call 78;refine(Hcmp.o w5.drew (Below.refl _ _)).mono ?_;rintro e w7 ⟨rfl,hb7⟩;have Hext:=zH (IL (Kp:=fun x=>x<w5.drew.heap.size) hb7 (G8 _));have Hb7:=zH (Hb5.o.drew.step hb7);clear hb7))
          exact⟨⟨k+1+1,by go_num,by omega,⟨Ho.o,Hnx2.o⟩,Hb7.o⟩,by simp[intOf];omega⟩
         ·have Hf:=zH (Hno2.o hc);have d1:decide (0<=cmpE y x)=true:=by simp;omega
          clear hc Hnx Hno2;generalize cmpE y x=cc at*
          go_wp2_with(first
           |((with_reducible refine JZ ?_);refine fE (by repeat first|exact JW|refine JU rfl ?_|refine JT (by decide+kernel) ?_|refine JP rfl LA.o YA1.o ?_|refine JP rfl LA.o YA5.o ?_|refine JP rfl LB.o YB0.o ?_|refine JP rfl LB.o YB1.o ?_|refine JP rfl LB.o YB2.o ?_|refine JP rfl LK.o YK.o ?_) ?_)
           |((with_reducible refine JX ?_);refine gL (fun x=>x<w5.drew.heap.size) ?_)
           |(with_reducible first|refine qH ?_|refine JV ?_|refine JY ?_)
           |((with_reducible refine J0 ?_);first|(with_reducible refine JQ Hext.o ?_)|(with_reducible refine JQ (Is _) ?_))
           |(go_at_call 78;refine(Hcmp.o w5.drew (Below.refl _ _)).mono ?_;rintro e w7 ⟨rfl,hb7⟩;have Hext:=zH (IL (Kp:=fun x=>x<w5.drew.heap.size) hb7 (G8 _));have Hb7:=zH (Hb5.o.drew.step hb7);clear hb7))
          go_ret;rw[Hf.o];exact⟨rfl,Hb.o.step Hb7.o⟩
       | true =>
         rw[hf]at g1 YB1 Hcmp;have Heq:=zH (iw x.res zeroV w5.drew _ (.agg #[GX GZ 0,GX GZ 0,GW ⟨#[]⟩,GU G0 0 0,GU G0 0 0,GU G0 0 0,GU G0 0 0]) ⟨_,_,rfl,Hres.o⟩ ⟨1,_,rfl,fU _⟩);cases hz:decide (bH x.res zeroV=0)with
         | false =>
           have Hf:=zH (Hno1.o (by rw[Hen.o,hf,hz];rfl));rw[hz]at Heq;clear hz hf Hen Hno1 Hv1;go_wp2_with(first
            |((with_reducible refine JZ ?_);refine fE (by repeat first|exact JW|refine JU rfl ?_|refine JT (by decide+kernel) ?_|refine JP rfl LA.o YA1.o ?_|refine JP rfl LA.o YA5.o ?_|refine JP rfl LB.o YB0.o ?_|refine JP rfl LB.o YB1.o ?_|refine JP rfl LB.o YB2.o ?_|refine JP rfl LK.o YK.o ?_) ?_)
            |((with_reducible refine JX ?_);refine gL (fun x=>x<w5.drew.heap.size) ?_)
            |(with_reducible first|refine qH ?_|refine JV ?_|refine JY ?_)
            |((with_reducible refine J0 ?_);first|(with_reducible refine JQ Hext.o ?_)|(with_reducible refine JQ (Is _) ?_))
            |(go_at_call 41;refine Heq.o.mono ?_;rintro e w6 ⟨rfl,hb6⟩;have Hext:=zH (IL (Kp:=fun x=>x<w5.drew.heap.size) hb6 (G8 _));have Hb6:=zH (Hb5.o.drew.step hb6);have Hz6:=zH hb6;clear hb6))
           go_ret;rw[Hf.o];exact⟨rfl,Hb.o.step Hb6.o⟩
         | true =>
           have Ho:=zH (Hv1.o (by rw[Hen.o,hf,hz];rfl));rw[hz]at Heq;clear hz hf Hen Hno1 Hv1;by_cases hc:cmpE y x<0
           ·have Hnx2:=zH (Hnx.o hc);have d1:decide (0<=cmpE y x)=false:=by simp;omega
            clear hc Hnx Hno2;generalize cmpE y x=cc at*
            go_wp2_with(first
             |((with_reducible refine JZ ?_);refine fE (by repeat first|exact JW|refine JU rfl ?_|refine JT (by decide+kernel) ?_|refine JP rfl LA.o YA1.o ?_|refine JP rfl LA.o YA5.o ?_|refine JP rfl LB.o YB0.o ?_|refine JP rfl LB.o YB1.o ?_|refine JP rfl LB.o YB2.o ?_|refine JP rfl LK.o YK.o ?_) ?_)
             |((with_reducible refine JX ?_);refine gL (fun x=>x<w5.drew.heap.size) ?_)
             |(with_reducible first|refine qH ?_|refine JV ?_|refine JY ?_)
             |((with_reducible refine J0 ?_);first|(with_reducible refine JQ Hext.o ?_)|(with_reducible refine JQ (Is _) ?_))
             |(go_at_call 41;refine Heq.o.mono ?_;rintro e w6 ⟨rfl,hb6⟩;have f5':=(hb6.cell (p:=⟨w.heap.size,_,G0⟩) LA.o).trans f5;have x0:=(hb6.cell (p:=⟨ak,_,G0⟩) LK.o).trans v0;have x1:=(hb6.cell (p:=⟨ak,_,G0⟩) LK.o).trans v1;have x2:=(hb6.cell (p:=⟨ak,_,G0⟩) LK.o).trans v2;have x3:=(hb6.cell (p:=⟨ak,_,G0⟩) LK.o).trans v3;have x4:=(hb6.cell (p:=⟨ak,_,G0⟩) LK.o).trans v4;have x5:=(hb6.cell (p:=⟨ak,_,G0⟩) LK.o).trans v5;have x6:=(hb6.cell (p:=⟨ak,_,G0⟩) LK.o).trans v6;have x7:=(hb6.cell (p:=⟨ak,_,G0⟩) LK.o).trans v7;have x8:=(hb6.cell (p:=⟨ak,_,G0⟩) LK.o).trans v8;have b0:=(hb6.cell (p:=⟨bo,_,G0⟩) LB.o).trans g0;have b1:=(hb6.cell (p:=⟨bo,_,G0⟩) LB.o).trans g1;have b2:=(hb6.cell (p:=⟨bo,_,G0⟩) LB.o).trans g2;have b3:=(hb6.cell (p:=⟨bo,_,G0⟩) LB.o).trans g3;have b4:=(hb6.cell (p:=⟨bo,_,G0⟩) LB.o).trans g4;have b5:=(hb6.cell (p:=⟨bo,_,G0⟩) LB.o).trans g5;have b6:=(hb6.cell (p:=⟨bo,_,G0⟩) LB.o).trans g6;have b7:=(hb6.cell (p:=⟨bo,_,G0⟩) LB.o).trans g7;have b8:=(hb6.cell (p:=⟨bo,_,G0⟩) LB.o).trans g8;have Hext:=zH (IL (Kp:=fun x=>x<w5.drew.heap.size) hb6 (G8 _));have Hb6:=zH (Hb5.o.drew.step hb6);have Hz6:=zH hb6;clear hb6)
             |(go_at_call 78;refine(Hcmp.o w6 Hz6.o).mono ?_;rintro e w7 ⟨rfl,hb7⟩;have Hext:=zH (IL (Kp:=fun x=>x<w5.drew.heap.size) hb7 (G8 _));have Hb7:=zH (Hb6.o.step hb7);clear hb7))
            exact⟨⟨k+1+1,by go_num,by omega,⟨Ho.o,Hnx2.o⟩,Hb7.o⟩,by simp[intOf];omega⟩
           ·have Hf:=zH (Hno2.o hc);have d1:decide (0<=cmpE y x)=true:=by simp;omega
            clear hc Hnx Hno2;generalize cmpE y x=cc at*
            go_wp2_with(first
             |((with_reducible refine JZ ?_);refine fE (by repeat first|exact JW|refine JU rfl ?_|refine JT (by decide+kernel) ?_|refine JP rfl LA.o YA1.o ?_|refine JP rfl LA.o YA5.o ?_|refine JP rfl LB.o YB0.o ?_|refine JP rfl LB.o YB1.o ?_|refine JP rfl LB.o YB2.o ?_|refine JP rfl LK.o YK.o ?_) ?_)
             |((with_reducible refine JX ?_);refine gL (fun x=>x<w5.drew.heap.size) ?_)
             |(with_reducible first|refine qH ?_|refine JV ?_|refine JY ?_)
             |((with_reducible refine J0 ?_);first|(with_reducible refine JQ Hext.o ?_)|(with_reducible refine JQ (Is _) ?_))
             |(go_at_call 41;refine Heq.o.mono ?_;rintro e w6 ⟨rfl,hb6⟩;have f5':=(hb6.cell (p:=⟨w.heap.size,_,G0⟩) LA.o).trans f5;have x0:=(hb6.cell (p:=⟨ak,_,G0⟩) LK.o).trans v0;have x1:=(hb6.cell (p:=⟨ak,_,G0⟩) LK.o).trans v1;have x2:=(hb6.cell (p:=⟨ak,_,G0⟩) LK.o).trans v2;have x3:=(hb6.cell (p:=⟨ak,_,G0⟩) LK.o).trans v3;have x4:=(hb6.cell (p:=⟨ak,_,G0⟩) LK.o).trans v4;have x5:=(hb6.cell (p:=⟨ak,_,G0⟩) LK.o).trans v5;have x6:=(hb6.cell (p:=⟨ak,_,G0⟩) LK.o).trans v6;have x7:=(hb6.cell (p:=⟨ak,_,G0⟩) LK.o).trans v7;have x8:=(hb6.cell (p:=⟨ak,_,G0⟩) LK.o).trans v8;have b0:=(hb6.cell (p:=⟨bo,_,G0⟩) LB.o).trans g0;have b1:=(hb6.cell (p:=⟨bo,_,G0⟩) LB.o).trans g1;have b2:=(hb6.cell (p:=⟨bo,_,G0⟩) LB.o).trans g2;have b3:=(hb6.cell (p:=⟨bo,_,G0⟩) LB.o).trans g3;have b4:=(hb6.cell (p:=⟨bo,_,G0⟩) LB.o).trans g4;have b5:=(hb6.cell (p:=⟨bo,_,G0⟩) LB.o).trans g5;have b6:=(hb6.cell (p:=⟨bo,_,G0⟩) LB.o).trans g6;have b7:=(hb6.cell (p:=⟨bo,_,G0⟩) LB.o).trans g7;have b8:=(hb6.cell (p:=⟨bo,_,G0⟩) LB.o).trans g8;have Hext:=zH (IL (Kp:=fun x=>x<w5.drew.heap.size) hb6 (G8 _));have Hb6:=zH (Hb5.o.drew.step hb6);have Hz6:=zH hb6;clear hb6)
             |(go_at_call 78;refine(Hcmp.o w6 Hz6.o).mono ?_;rintro e w7 ⟨rfl,hb7⟩;have Hext:=zH (IL (Kp:=fun x=>x<w5.drew.heap.size) hb7 (G8 _));have Hb7:=zH (Hb6.o.step hb7);clear hb7))
            go_ret;rw[Hf.o];exact⟨rfl,Hb.o.step Hb7.o⟩
     ·have d9:decide (k<a.ents.length)=false:=by simp;omega
      have Hy:=zH (Hr1.o (CV (fun j h=>Hall.o.1 j h (by omega)) (fun j h=>Hall.o.2 j h (by omega))));go_wp2;go_ret;rw[Hy.o];exact⟨rfl,Hbw9.o⟩
   ·go_wp2;go_ret;rw[Hr.o];exact⟨rfl,Hbw.o⟩
end Go.Proofs.YtfpahmeploondaaGreatDoor
