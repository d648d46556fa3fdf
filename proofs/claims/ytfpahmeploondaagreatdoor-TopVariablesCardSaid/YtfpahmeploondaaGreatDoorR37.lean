/- Walks and plain facts for the law on type variables, for all values and types that the heap holds (texts Ti). -/
import Derived.Deep.CutRange
import Derived.Test.YtfpahmeploondaaGreatDoorR03
import Derived.Test.YtfpahmeploondaaGreatDoorR36
set_option linter.unusedVariables false
set_option linter.unusedSimpArgs false
set_option maxHeartbeats 64000000
open Option renaming none -> G0, some -> G5
open Bool renaming true -> G6, false -> G7
open Go.Value renaming slice -> GU, string -> GW, int -> GX
open Go.Obj renaming cells -> GY
open Go.IntKind renaming i64 -> GZ
open List renaming take_succ_eq_append_getElem -> Jj, length_append -> Ii, all_eq_true -> Ij, getElem_mem -> Ip, take_length -> Jf, mem_cons -> Ix
open Go.World renaming ownsRow_nil -> Io, frozen? -> IB, cell? -> Ic
open Bool renaming and_eq_true -> Ik, or_eq_true -> IE
open Nat renaming le_max_right -> Jq, le_max_left -> Jr, le_trans -> G9, add_zero -> Im, le_refl -> G8
open Go renaming heap_alloc_new -> HG
open Go.LexK.Ext renaming alloc -> IF
open Go.LexK renaming Ext -> Hh, an -> JP, aq -> JQ, aH -> JT, aG -> JU, aK -> JV, aL -> JW, aO -> JY
open Go.Lex renaming aI -> JX, aP -> JZ, aX -> J0
namespace Go.Proofs.YtfpahmeploondaaGreatDoor
open Go.RowKit Go.Ident
set_option maxRecDepth 100000
structure BX(A:Nat)(va ta oa:Array Value)(w:World):Prop where
 a:w.heap[A]? =G5 (.cells va 33)
 t:w.heap[A+1]? =G5 (.cells ta 27)
 r:w.heap[A+2]? =G5 (GY #[GX GZ 0,GX GZ 0,GW ⟨#[]⟩,GU G0 0 0,GU G0 0 0,GU G0 0 0,GU G0 0 0] 33)
 o:w.heap[A+3]? =G5 (.cells oa 33)
theorem BX.sz {A:Nat}{va ta oa:Array Value}{w:World}(h:BX A va ta oa w):A+4<=w.heap.size:=ai h.o
theorem BX.below {A:Nat}{va ta oa:Array Value}{w w':World}(h:BX A va ta oa w)(hb:Below (A+4) w w'):BX A va ta oa w':=
 ⟨(hb.block _ (by omega)).trans h.a,(hb.block _ (by omega)).trans h.t,(hb.block _ (by omega)).trans h.r,(hb.block _ (by omega)).trans h.o⟩
theorem BX.upd {A:Nat}{va ta oa oa':Array Value}{w w':World}(h:BX A va ta oa w)(hu:Upd (A+3) (.cells oa' 33) w w'):BX A va ta oa' w':=
 ⟨(hu.other _ (by omega)).trans h.a,(hu.other _ (by omega)).trans h.t,(hu.other _ (by omega)).trans h.r,hu.blk⟩
theorem AD {l:List ByteArray}{i:Nat}(h:i<l.length):noA (l.take (i+1))=noA (l.take i)++(if l[i]=nA then[]else[l[i]]):=by
 unfold noA;rw[Jj h,List.filter_append];by_cases e:l[i]=nA
 ·simp[e]
 ·simp[e]
theorem rn(g:Nat):(GU G0 0 0).ownBlock=G5 g->False:=by simp[Value.ownBlock]
theorem i7 {E:Nat->Bool}{A B:Nat}(hE:Old E A)(hA:A<=B):Old (gE E A B (GU G0 0 0)) B:=fun k hk=>by
 simp only[gE,Bool.or_eq_false_iff,Bool.and_eq_false_iff,decide_eq_false_iff_not];exact⟨hE k (by omega),.inr (by omega),fun e=>rn _ e⟩
theorem EZ {α β:Type}(f:α->β){l:List α}{i:Nat}(h:i<l.length):(l.take (i+1)).map f=(l.take i).map f++[f l[i]]:=by
 rw[Jj h,List.map_append];rfl
def RL(U:Ty)(V:VV):Prop:=∀(E:Nat->Bool) (w:World) (u t:Value),Old E w.heap.size->VW (we E w) u V->TS w t U->Calls Tryz.prog 9 #[u,GW nA,t] w fun e w'=>∃v',e=.returned v'/\VW (we E w') v' (rlV (fun x=>mem U x U.root) V)/\Below w.heap.size w w'
def Vld(V:VV):Prop:=V.valid=G6/\V.nodes<=200000
theorem Vld.kids {V:VV}(h:Vld V):V.kids.length<=200000/\∀x∈V.kids,Vld x:=by
 obtain⟨h1,h2⟩:=Shrt.kids ⟨.inl h.1,h.2⟩;exact⟨h1,fun x hx=>⟨lD h.1 hx,(h2 x hx).2⟩⟩
theorem Vld.ents {V:VV}(h:Vld V):V.ents.length<=200001/\∀e∈V.ents,e.args.length<=200000/\(∀x∈e.args,Vld x)/\(e.fails=G7->Vld e.res):=by
 obtain⟨h1,h2⟩:=Shrt.ents ⟨.inl h.1,h.2⟩;refine⟨h1,fun e he=>?_⟩;obtain⟨g1,g2,g3⟩:=h2 e he;obtain⟨k1,k2⟩:=lE h.1 he;exact⟨g1,fun x hx=>⟨k1 x hx,(g2 x hx).2⟩,fun hf=>⟨k2 hf,g3.2⟩⟩
theorem Vld.labels {V:VV}(h:Vld V):V.labels.length<=100000:=by
 have h1:=h.2;rw[i5]at h1;unfold pen at h1;split at h1
 ·assumption
 ·omega
theorem VW.ents9 {w:World}{v:Value}{F:VV}(h:VW w v F):∃(y1:Option Addr) (y2:Nat) (y3:Option Addr) (y4:Nat) (y5:Option Addr) (y6:Nat) (y7:Option Addr) (y8 df:Nat),v=.agg #[GX GZ F.kind,GX GZ F.num,GW F.text,GU y1 F.kids.length y2,GU y3 F.keys.length y4,GU y5 F.ents.length y6,GU y7 F.labels.length y8]/\Rw w y5 y6 9 F.ents (ES w df):=by
 obtain⟨df,cs,rfl,hx⟩:=h;cases df with
 |zero=>exact hx.elim
 | succ df =>
   obtain⟨y1,y2,y3,y4,y5,y6,y7,y8,rfl,-,-,he,-⟩:=hx;exact⟨y1,y2,y3,y4,y5,y6,y7,y8,df,rfl,he⟩
theorem Vld.noents {V:VV}(h:Vld V)(h9:V.kind≠9):V.ents=[]:=by
 have h1:=h.1;rw[fT]at h1;simp only[Ik]at h1;have h2:=h1.1;unfold bT at h2;simp only[Ik,IE,decide_eq_true_eq]at h2;obtain⟨⟨_,⟨_,h3⟩⟩,_⟩:=h2;rcases h3 with h3|h3
 ·exact absurd h3 h9
 ·simpa using h3
theorem E3(b:VV->Bool){V:VV}(h:V.valid=G6)(h9:V.kind=9):mkF V.num (V.ents.map (rlE b))=(.mk 9 V.num aQ [] [] (dt (V.ents.map (rlE b))) [],0):=by
 rw[fT]at h;simp only[Ik]at h;have h8:=h.1;unfold bT at h8;simp only[Ik]at h8;have h7:=h8.2;simp only[h9,show(9:Int)≠2 by decide,show(9:Int)≠3 by decide,show(9:Int)≠4 by decide,show(9:Int)≠6 by decide,show(9:Int)≠7 by decide,show(9:Int)≠8 by decide,if_false,if_true,Ik,Ij,decide_eq_true_eq]at h7;unfold mkF;rw[if_pos];refine⟨h7.1.1,h7.1.2,?_⟩;rw[Ij];intro e he;obtain⟨e',he',rfl⟩:=List.mem_map.1 he;have:=h7.2.2 e' he';unfold bQ at this ⊢;rw[kM,jo,mM,List.length_map];simp only[Ik,IE]at this ⊢;refine⟨this.1,?_⟩;cases hf:e'.fails with
 |false=>left;rfl
 |true=>right;rw[if_pos rfl,decide_eq_true_eq];exact cmpV_lo.self trivial
theorem ro(U:Ty)(hU:SmT U)(V:VV)(hS:Vld V)(ih:∀X,X.ht<V.ht->Vld X->RL U X):RL U V:=by
 intro E w u t hE hu ht;obtain⟨pt,ct,rfl,-,-⟩:=id ht;obtain⟨d,cs,rfl,hvs⟩:=id hu;cases d with
 |zero=>exact hvs.elim
 |succ d=>
 obtain⟨q1,c1,q2,c2,q3,c3,q4,c4,rfl,hK,hY,hEn,hLb⟩:=hvs;have HK:=zH hK;have HY:=zH hY;have HEn:=zH hEn;have HLb:=zH hLb;have HE:=zH hE;have Hu:=zH hu;have Ht:=zH ht;have HU:=zH hU;have HS:=zH hS;have hll:=hS.labels;obtain⟨hkl,hks⟩:=hS.kids;obtain⟨hel,hes⟩:=hS.ents;have Hks:=zH hks;have Hes:=zH hes;have Hih:=zH ih;obtain⟨w3,e9,hA,hB,hC,hb,hsz⟩:=mK w (GY #[GX GZ V.kind,GX GZ V.num,GW V.text,GU q1 V.kids.length c1,GU q2 V.keys.length c2,GU q3 V.ents.length c3,GU q4 V.labels.length c4] 33) (GY #[GU pt U.nodes.length ct,GX GZ U.root] 27) (GY #[GX GZ 0,GX GZ 0,GW ⟨#[]⟩,GU G0 0 0,GU G0 0 0,GU G0 0 0,GU G0 0 0] 33);have HA:=zH hA;have HB:=zH hB;have HC:=zH hC;have Hb:=zH hb;have Hsz:=zH hsz;have E9:=zH e9;obtain⟨⟨y0,y1,y2,y3⟩,y4,y5,y6⟩:=aN hA;clear hK hY hEn hLb hE hu ht hU hks hes ih hA hB hC hb hsz e9 hS;go_enter Tryz.func9,Tryz.ntmps9;go_upto_region 1 with fail
 rw[E9.o];clear E9;have hN:=HG w3 (GY #[GX GZ 0,GX GZ 0,GW ⟨#[]⟩,GU G0 0 0,GU G0 0 0,GU G0 0 0,GU G0 0 0] 33);have HN:=zH hN;clear hN;go_upto_region 2 with(with_reducible refine sR rfl 33 (.tmp 7) (.tmp 16) rfl rfl rfl HN.o ?_)
 have goto:∀a,Act.put a G0 undef=a:=fun a=>rfl
 rw[goto];have HX4:Hid (BX w.heap.size #[GX GZ V.kind,GX GZ V.num,GW V.text,GU q1 V.kids.length c1,GU q2 V.keys.length c2,GU q3 V.ents.length c3,GU q4 V.labels.length c4] #[GU pt U.nodes.length ct,GX GZ U.root] #[GX GZ V.kind,GX GZ V.num,GW V.text,GU q1 V.kids.length c1,GU q2 V.keys.length c2,GU q3 V.ents.length c3,GU q4 V.labels.length c4] ((w3.alloc (GY #[GX GZ 0,GX GZ 0,GW ⟨#[]⟩,GU G0 0 0,GU G0 0 0,GU G0 0 0,GU G0 0 0] 33)).setRow w3.heap.size #[GX GZ V.kind,GX GZ V.num,GW V.text,GU q1 V.kids.length c1,GU q2 V.keys.length c2,GU q3 V.ents.length c3,GU q4 V.labels.length c4])):=by
  have hs:=Hsz.o;have hal:Below w3.heap.size w3 ((w3.alloc (GY #[GX GZ 0,GX GZ 0,GW ⟨#[]⟩,GU G0 0 0,GU G0 0 0,GU G0 0 0,GU G0 0 0] 33)).setRow w3.heap.size #[GX GZ V.kind,GX GZ V.num,GW V.text,GU q1 V.kids.length c1,GU q2 V.keys.length c2,GU q3 V.ents.length c3,GU q4 V.labels.length c4]):=aR ((Below.refl _ _).alloc (G8 _) _) (G8 _);refine zH ⟨(hal.block _ (by omega)).trans HA.o,(hal.block _ (by omega)).trans HB.o,(hal.block _ (by omega)).trans HC.o,?_⟩;have h:=setRow_heap (w3.alloc (GY #[GX GZ 0,GX GZ 0,GW ⟨#[]⟩,GU G0 0 0,GU G0 0 0,GU G0 0 0,GU G0 0 0] 33)) w3.heap.size _ #[GX GZ V.kind,GX GZ V.num,GW V.text,GU q1 V.kids.length c1,GU q2 V.keys.length c2,GU q3 V.ents.length c3,GU q4 V.labels.length c4] _ _ HN.o;rw[hs]at h ⊢;exact h
 have Hb4:=zH (Hb.o.trans ((aR ((Below.refl _ _).alloc (G8 _) _) (G8 _):Below w3.heap.size w3 ((w3.alloc (GY #[GX GZ 0,GX GZ 0,GW ⟨#[]⟩,GU G0 0 0,GU G0 0 0,GU G0 0 0,GU G0 0 0] 33)).setRow w3.heap.size #[GX GZ V.kind,GX GZ V.num,GW V.text,GU q1 V.kids.length c1,GU q2 V.keys.length c2,GU q3 V.ents.length c3,GU q4 V.labels.length c4])).mono (by have:=Hsz.o;omega)));have e3:w3.heap.size=w.heap.size+3:=Hsz.o;clear HA HB HC HN Hb y0 y1 y2 y3 y4 y5 y6 Hsz;rw[e3]at HX4 Hb4 ⊢;generalize(w3.alloc (GY #[GX GZ 0,GX GZ 0,GW ⟨#[]⟩,GU G0 0 0,GU G0 0 0,GU G0 0 0,GU G0 0 0] 33)).setRow (w.heap.size+3) #[GX GZ V.kind,GX GZ V.num,GW V.text,GU q1 V.kids.length c1,GU q2 V.keys.length c2,GU q3 V.ents.length c3,GU q4 V.labels.length c4]=w4 at*
 clear e3 w3;have y6:w4.cell? ⟨w.heap.size+3,6,G0⟩=G5 (GU q4 V.labels.length c4):=by simp[Ic,HX4.o.o]
 have y7:w4.frozen? ⟨w.heap.size+3,6,G0⟩=false:=by simp[IB,HX4.o.o]
 go_upto_region 3 with fail
 have HUp:=zH (show Upd (w.heap.size+3) (GY #[GX GZ V.kind,GX GZ V.num,GW V.text,GU q1 V.kids.length c1,GU q2 V.keys.length c2,GU q3 V.ents.length c3,GU G0 0 0] 33) w4 (w4.setCell ⟨w.heap.size+3,6,G0⟩ (GU G0 0 0))from Upd.cast (Upd.set (i:=6) (v:=GU G0 0 0) (Upd.refl HX4.o.o)) rfl);clear y6 y7;generalize w4.setCell ⟨w.heap.size+3,6,G0⟩ (GU G0 0 0)=w5 at*
 have HX5:=zH (HX4.o.upd HUp.o);have Hb5:=zH (Hb4.o.trans (HUp.o.below (by omega)));clear HX4 Hb4 HUp w4;go_wp2;go_loopw[8] (fun iv wr=>∃(i:Nat) (O:List ByteArray) (lv:Value) (xs:List Value),iv=GX GZ (i:Int)/\i<=V.labels.length/\O=noA (V.labels.take i)/\wr.ownsRow (w.heap.size+4) 9 1 lv O.length xs/\Ch 1 SC O xs/\BX w.heap.size #[GX GZ V.kind,GX GZ V.num,GW V.text,GU q1 V.kids.length c1,GU q2 V.keys.length c2,GU q3 V.ents.length c3,GU q4 V.labels.length c4] #[GU pt U.nodes.length ct,GX GZ U.root] #[GX GZ V.kind,GX GZ V.num,GW V.text,GU q1 V.kids.length c1,GU q2 V.keys.length c2,GU q3 V.ents.length c3,lv] wr/\Below w.heap.size w wr) (fun iv _=>V.labels.length-(intOf iv).toNat)
 case atStart=>exact⟨0,[],GU G0 0 0,[],rfl,by omega,by simp[noA],Io _ _ _ _,Ch.nil,HX5.o,Hb5.o⟩
 case round=>
  obtain⟨i,O,lv,xs,rfl,hi,hO,ho,hc,hx,hb⟩:=hrel;clear HX5 Hb5;obtain⟨pl,cl,rfl⟩:=aB ho;have HO:=zH hO;have Ho:=zH ho;have Hc:=zH hc;have HX:=zH hx;have Hb:=zH hb;have hsz:=hx.sz;obtain⟨⟨-,-,-,-⟩,-,-,y6⟩:=aN hx.a;clear hO ho hc hx hb;have hol:O.length<=V.labels.length:=by
   rw[HO.o];exact G9 (List.length_filter_le _ _) (by rw[List.length_take];omega)
  by_cases hin:i<V.labels.length
  ·have d9:decide (i<V.labels.length)=true:=by simp[hin]
   obtain⟨a,o,cs,rfl,hab,-,hrg,hS1⟩:=HLb.o.all hin;rw[ap]at hab;have Hgi:=qb (B:=w.heap.size+4) (v:=GU pl O.length cl) (E:=E) Hb.o fun g hg=>by have:=(Ho.o.lt g hg).1;omega
   unfold SC at hS1;subst hS1;have c0:=(aJ (hrg _ Hgi 0 _ rfl)).2;simp only[Nat.mul_one,Im]at c0;have Hna:=zH (AD hin);clear hrg Hgi;by_cases hA:V.labels[i]=nA
   ·have hq:(V.labels[i].toList==nA.toList)=true:=by rw[iU];simp[hA]
    have Hst:=zH (show O=noA (V.labels.take (i+1))from by rw[HO.o,Hna.o,if_pos hA,List.append_nil]);clear hA Hna;generalize V.labels[i]=s at*
    go_wp2;exact⟨⟨i+1,O,_,xs,by first|rfl|(congr 1),by omega,Hst.o,Ho.o,Hc.o,HX.o,Hb.o⟩,by simp[intOf];omega⟩
   ·have hq:(V.labels[i].toList==nA.toList)=false:=by rw[iU];simp[hA]
    have Hst:=zH (show O++[V.labels[i]]=noA (V.labels.take (i+1))from by rw[HO.o,Hna.o,if_neg hA]);clear hA Hna;generalize V.labels[i]=s at*
    go_upto_region 7 with fail
    have hbr:=Hb.o.size;have e6:wr.cell? ⟨w.heap.size+3,6,G0⟩=G5 (GU pl O.length cl):=by simp[Ic,HX.o.o]
    have Y6:=zH (show wr.drew.cell? ⟨w.heap.size+3,6,G0⟩=G5 (GU pl O.length cl)from e6);have Z6:=zH (show wr.drew.cell? ⟨w.heap.size,6,G0⟩=G5 (GU (G5 ⟨a,o,G0⟩) V.labels.length c4)from y6);have C0:=zH (show wr.drew.cell? ⟨a,o+i,G0⟩=G5 (GW s)from c0);have ha4:a<w.heap.size+4:=by omega
    go_wp2_with(first
     |((with_reducible refine JZ ?_);refine fE (by repeat first|exact JW|refine JU rfl ?_|refine JT (by decide+kernel) ?_|refine JP rfl (by show _<_;omega) Y6.o ?_|refine JP rfl (by show _<_;omega) Z6.o ?_|refine JP rfl ha4 C0.o ?_) ?_)
     |((with_reducible refine JX ?_);refine gL (fun b=>b<w.heap.size+4) ?_)
     |(with_reducible first|refine qH ?_|refine JV ?_|refine JY ?_)
     | ((with_reducible refine J0 ?_); first
         |refine JQ hex4.o ?_
         |refine JQ (IF _ _) ?_)
     |(at_builtin;refine aA rfl (.tmp 33) (.tmp 39) 31 rfl 9 (by kernel_rfl) cm rfl (by decide) (by decide) (w.heap.size+4) _ wr.drew.heap.size [GW s] (HG wr.drew _) (G9 hsz (by simp)) rfl (by intro u hu;simp at hu;subst hu;rfl) (GU pl O.length cl) O.length xs rfl (ao Ho.o ((Below.refl _ _).drew.alloc (G8 _) _) (G8 _)) (by omega) rfl ?_;intro v4 w4 ho4 hf4;have Hb4:=zH (((Below.refl wr.heap.size wr).drew.alloc (G8 _) (GY #[GW s] 9)).mono hsz|>.trans (hf4.below (G9 hsz (by simp)) (by simp) fun g hg=>(Ho.o.lt g hg).1));have hex4:=zH (show Hh (fun b=>b<w.heap.size+4) (wr.drew.alloc (GY #[GW s] 9)) w4 from bX (hf4.below (G9 hsz (by simp)) (by simp) fun g hg=>(Ho.o.lt g hg).1));obtain⟨p4,cap4,rfl⟩:=aB ho4;have Ho4:=zH ho4;have HX4:=zH (HX.o.below Hb4.o);have z4:w4.cell? ⟨w.heap.size+3,6,G0⟩=G5 (GU pl O.length cl):=(by simp[Ic,HX4.o.o]);have f4:w4.frozen? ⟨w.heap.size+3,6,G0⟩=false:=(by simp[IB,HX4.o.o]);clear ho4 hf4))
    have HUp:=zH (show Upd (w.heap.size+3) (GY #[GX GZ V.kind,GX GZ V.num,GW V.text,GU q1 V.kids.length c1,GU q2 V.keys.length c2,GU q3 V.ents.length c3,GU p4 (O.length+1) cap4] 33) w4 (w4.setCell ⟨w.heap.size+3,6,G0⟩ (GU p4 (O.length+1) cap4))from Upd.cast (Upd.set (i:=6) (v:=GU p4 (O.length+1) cap4) (Upd.refl HX4.o.o)) rfl);exact⟨⟨i+1,O++[s],_,xs++[GW s],by first|rfl|(congr 1),by omega,Hst.o,by rw[Ii];exact bC Ho4.o HUp.o (by omega),Hc.o.append (Ch.single rfl (by unfold SC;rfl)),HX4.o.upd HUp.o,(Hb.o.trans (Hb4.o.mono (by omega))).trans (HUp.o.below (by omega))⟩,by simp[intOf];omega⟩
  ·have d9:decide (i<V.labels.length)=false:=by simp;omega
   obtain rfl:i=V.labels.length:=by omega
   have hO:=HO.o;rw[Jf]at hO;subst hO;have em:mof U V U.root=mem U V U.root:=vz HS.o.1 HU.o.wf HU.o.wf.root;obtain⟨⟨z0,z1,z2,z3⟩,z4,z5,z6⟩:=aN HX.o.a;obtain⟨x0,x1⟩:=aM HX.o.t;clear HO y6;go_upto_if 44 with(go_at_call 8;refine(gJ U V wr _ _ ((Hu.o.sub (db _ _)).below Hb.o) (Ht.o.below Hb.o) HU.o.sz).mono ?_;rintro e w6 ⟨rfl,hb6⟩;rw[em];have HX6:=zH (HX.o.below (hb6.mono hsz));have Hb6:=zH (Hb.o.trans (hb6.mono (by omega)));have Ho6:=zH (ao Ho.o hb6 (G8 _));have hs6:=hb6.size;clear hb6)
   go_cut[]from 44 to 51 (fun wc=>∃(pz:Option Addr) (cz:Nat),Rw (we (gE E w.heap.size (w.heap.size+4) (GU G0 0 0)) wc) pz cz 1 (rlL (mem U V U.root) V.labels) SC/\BX w.heap.size #[GX GZ V.kind,GX GZ V.num,GW V.text,GU q1 V.kids.length c1,GU q2 V.keys.length c2,GU q3 V.ents.length c3,GU q4 V.labels.length c4] #[GU pt U.nodes.length ct,GX GZ U.root] #[GX GZ V.kind,GX GZ V.num,GW V.text,GU q1 V.kids.length c1,GU q2 V.keys.length c2,GU q3 V.ents.length c3,GU pz (rlL (mem U V U.root) V.labels).length cz] wc/\Below w.heap.size w wc)
   case first=>
    cases hm:mem U V U.root with
    | true =>
      have y6:w6.cell? ⟨w.heap.size+3,6,G0⟩=G5 (GU pl (noA V.labels).length cl):=by simp[Ic,HX6.o.o]
      have hw6:w.heap.size+4<=w6.heap.size:=HX6.o.sz;have Hon:=zH (i7 (A:=w.heap.size) HE.o (by omega:w.heap.size<=w.heap.size+4));have hl2:(noA V.labels++[nA]).length<=100001:=by rw[Ii,List.length_singleton];omega
      go_wp2_with(first
       |(at_builtin;refine aA rfl (.tmp 46) (.tmp 48) 31 rfl 9 (by kernel_rfl) cm rfl (by decide) (by decide) (w.heap.size+4) _ w6.heap.size [GW nA] (HG w6 _) (G9 hw6 (by simp)) rfl (by intro u hu;simp at hu;subst hu;rfl) (GU pl (noA V.labels).length cl) (noA V.labels).length xs rfl (ao Ho6.o ((Below.refl _ _).alloc (G8 _) _) (G8 _)) (by omega) rfl ?_;intro v7 w7 ho7 hf7;have Hb7:=zH ((((Below.refl w6.heap.size w6).alloc (G8 _) (GY #[GW nA] 9)).mono hw6).trans (hf7.below (G9 hw6 (by simp)) (by simp) (fun g hg=>(Ho6.o.lt g hg).1)));obtain⟨p7,c7,e7,hr7⟩:=bu (l:=noA V.labels++[nA]) (bJ (E:=(gE E w.heap.size (w.heap.size+4) (GU G0 0 0))) (by rw[Ii];exact ho7) Hon.o) (Hc.o.append (Ch.single rfl (by unfold SC;rfl))) (by omega);subst e7;have Hr7:=zH hr7;have hw7:w.heap.size+4<=w7.heap.size:=G9 hw6 Hb7.o.size;clear ho7 hf7 hr7)
       |(go_at_call 20;refine(tn (gE E w.heap.size (w.heap.size+4) (GU G0 0 0)) (noA V.labels++[nA]) w7 (GU p7 ((noA V.labels).length+1) c7) (Hon.o.mono hw7) ⟨p7,c7,(by rw[Ii];rfl),Hr7.o⟩ hl2).mono ?_;rintro e w8 ⟨v8,rfl,⟨p8,c8,rfl,hr8⟩,hb8⟩;have Hr8:=zH hr8;have Hb8:=zH (Hb7.o.trans (hb8.mono hw7));have HX8:=zH (HX6.o.below Hb8.o);have z8:w8.cell? ⟨w.heap.size+3,6,G0⟩=G5 (GU pl (noA V.labels).length cl):=(by simp[Ic,HX8.o.o]);have f8:w8.frozen? ⟨w.heap.size+3,6,G0⟩=false:=(by simp[IB,HX8.o.o]);clear hr8 hb8))
      have HUp:=zH (show Upd (w.heap.size+3) (GY #[GX GZ V.kind,GX GZ V.num,GW V.text,GU q1 V.kids.length c1,GU q2 V.keys.length c2,GU q3 V.ents.length c3,GU p8 (fW (noA V.labels++[nA])).length c8] 33) w8 (w8.setCell ⟨w.heap.size+3,6,G0⟩ (GU p8 (fW (noA V.labels++[nA])).length c8))from Upd.cast (Upd.set (i:=6) (v:=GU p8 (fW (noA V.labels++[nA])).length c8) (Upd.refl HX8.o.o)) rfl);have hrl:rlL (mem U V U.root) V.labels=fW (noA V.labels++[nA]):=by rw[hm];rfl
      go_meet;rw[hrl];exact⟨p8,c8,Hr8.o.below (by rw[ap];exact bA HUp.o (yK (by omega) (by omega))) fun _ _ _ h=>h,HX8.o.upd HUp.o,(Hb6.o.trans (Hb8.o.mono (by omega))).trans (HUp.o.below (by omega))⟩
    | false =>
      have hrl:rlL (mem U V U.root) V.labels=noA V.labels:=by rw[hm];rfl
      obtain⟨pz,cz,ez,hrw⟩:=bu (bJ Ho6.o (i7 (A:=w.heap.size) HE.o (by omega:w.heap.size<=w.heap.size+4))) Hc.o (by have:=hol;omega);injection ez with ez1 _ ez3
      subst ez1 ez3;have Hrw:=zH hrw;clear hrw;go_wp2;go_meet;rw[hrl];exact⟨pl,cl,Hrw.o,HX6.o,Hb6.o⟩
   case rest=>
    obtain⟨pz,cz,hz,hx,hb⟩:=hcut;have HZ:=zH hz;have HXc:=zH hx;have Hbc:=zH hb;clear hz hx hb Ho6 HX6 Hb6 Hc Ho HX Hb hol z0 z1 z2 z3 z4 z5 z6 x0 x1 d9 hs6 em;have y3:wc.cell? ⟨w.heap.size+3,3,G0⟩=G5 (GU q1 V.kids.length c1):=by simp[Ic,HXc.o.o]
    have y7:wc.frozen? ⟨w.heap.size+3,3,G0⟩=false:=by simp[IB,HXc.o.o]
    go_upto_region 11 with fail
    have HUp:=zH (show Upd (w.heap.size+3) (GY #[GX GZ V.kind,GX GZ V.num,GW V.text,GU G0 0 0,GU q2 V.keys.length c2,GU q3 V.ents.length c3,GU pz (rlL (mem U V U.root) V.labels).length cz] 33) wc (wc.setCell ⟨w.heap.size+3,3,G0⟩ (GU G0 0 0))from Upd.cast (Upd.set (i:=3) (v:=GU G0 0 0) (Upd.refl HXc.o.o)) rfl);clear y3 y7;generalize wc.setCell ⟨w.heap.size+3,3,G0⟩ (GU G0 0 0)=wd at*
    have HXd:=zH (HXc.o.upd HUp.o);have Hbd:=zH (Hbc.o.trans (HUp.o.below (by omega)));have HZd:=zH (HZ.o.below (by rw[ap];exact bA HUp.o (yK (by omega) (by omega))) fun _ _ _ h=>h);clear HXc Hbc HUp HZ wc;go_wp2;go_loopw[9] (fun iv wr=>∃(i:Nat) (kv:Value) (xs:List Value) (dk:Nat),iv=GX GZ (i:Int)/\i<=V.kids.length/\wr.ownsRow (w.heap.size+4) 33 7 kv i xs/\Ch 7 (VS (we (gE E w.heap.size (w.heap.size+4) (kv)) wr) dk) ((V.kids.take i).map (rlV (fun x=>mem U x U.root))) xs/\Rw (we (gE E w.heap.size (w.heap.size+4) (kv)) wr) pz cz 1 (rlL (mem U V U.root) V.labels) SC/\BX w.heap.size #[GX GZ V.kind,GX GZ V.num,GW V.text,GU q1 V.kids.length c1,GU q2 V.keys.length c2,GU q3 V.ents.length c3,GU q4 V.labels.length c4] #[GU pt U.nodes.length ct,GX GZ U.root] #[GX GZ V.kind,GX GZ V.num,GW V.text,kv,GU q2 V.keys.length c2,GU q3 V.ents.length c3,GU pz (rlL (mem U V U.root) V.labels).length cz] wr/\Below w.heap.size w wr) (fun iv _=>V.kids.length-(intOf iv).toNat)
    case atStart=>exact⟨0,GU G0 0 0,[],0,rfl,by omega,Io _ _ _ _,Ch.nil,HZd.o,HXd.o,Hbd.o⟩
    case round=>
     obtain⟨i,kv,xs,dk,rfl,hi,ho,hc,hz,hx,hb⟩:=hrel;clear HXd Hbd HZd;obtain⟨pk,ck,rfl⟩:=aB ho;have Ho:=zH ho;have Hc:=zH hc;have HZ:=zH hz;have HX:=zH hx;have Hb:=zH hb;have hsz:=hx.sz;obtain⟨⟨f0,f1,f2,f3⟩,f4,f5,f6⟩:=aN hx.a;obtain⟨t0,t1⟩:=aM hx.t;obtain⟨⟨-,-,-,e3⟩,-,-,-⟩:=aN hx.o;clear ho hc hz hx hb;by_cases hin:i<V.kids.length
     ·have d9:decide (i<V.kids.length)=true:=by simp[hin]
      obtain⟨a,o,cs,rfl,hab,-,hrange,hX⟩:=HK.o.all hin;rw[ap]at hab;have Hgi:=zH (qb (B:=w.heap.size+4) (v:=GU pk i ck) (E:=E) Hb.o fun g hg=>by have:=(Ho.o.lt g hg).1;omega);obtain⟨x1,x2,x3,x4,x5,x6,x7,x8,rfl⟩:=hX.seven;have hrg:=hrange _ Hgi.o;have c0:=(aJ (hrg 0 _ rfl)).2;have c1':=(aJ (hrg 1 _ rfl)).2;have c2':=(aJ (hrg 2 _ rfl)).2;have c3':=(aJ (hrg 3 _ rfl)).2;have c4':=(aJ (hrg 4 _ rfl)).2;have c5:=(aJ (hrg 5 _ rfl)).2;have c6:=(aJ (hrg 6 _ rfl)).2;rw[Im]at c0;have hold:=rj HE.o (by omega) hsz Ho.o;have Hcl:=zH (Hih.o V.kids[i] (fS (Ip hin)) (Hks.o _ (Ip hin)) (gE E w.heap.size (w.heap.size+4) (GU pk i ck)) wr.drew _ _ hold ⟨d,_,rfl,(hX.below Hgi.o).below (by rw[ap];exact aS (Below.refl _ _).drew)⟩ (Ht.o.below Hb.o.drew));have Htm:=zH (EZ (rlV (fun x=>mem U x U.root)) hin);clear hrg hrange hX hold;generalize rlV (fun x=>mem U x U.root) V.kids[i]=Z at*
      generalize V.kids[i]=X at*
      have hbr:=Hb.o.size;have ha4:a<w.heap.size+4:=by omega
      have Y3:=zH (show wr.drew.cell? ⟨w.heap.size+3,3,G0⟩=_ from e3);have Y0:=zH (show wr.drew.cell? ⟨w.heap.size,3,G0⟩=_ from f3);have Yt:=zH (show wr.drew.cell? ⟨w.heap.size+1,0,G0⟩=_ from t0);have Yc:=zH (show wr.drew.cell? ⟨a,o+i*7,G0⟩=_ from c0);go_upto_region 14 with fail
      go_wp2_with(first
       |((with_reducible refine JZ ?_);refine fE (by repeat first|exact JW|refine JU rfl ?_|refine JT (by decide+kernel) ?_|refine JP rfl (by show _<_;omega) Y3.o ?_|refine JP rfl (by show _<_;omega) Y0.o ?_|refine JP rfl (by show _<_;omega) Yt.o ?_|refine JP rfl ha4 Yc.o ?_) ?_)
       |((with_reducible refine JX ?_);refine gL (fun b=>b<w.heap.size+4) ?_)
       |(with_reducible first|refine qH ?_|refine JV ?_|refine JY ?_)
       |((with_reducible refine J0 ?_);first|(refine JQ hex5.o ?_)|(refine JQ hex8.o ?_)|(refine JQ (IF _ _) ?_))
       |(go_at_call 9;refine Hcl.o.mono ?_;rintro e w5 ⟨v5,rfl,hx,hb5⟩;obtain⟨dz,cs,rfl,hx⟩:=hx;obtain⟨z1,z2,z3,z4,z5,z6,z7,z8,rfl⟩:=hx.seven;have HXz:=zH hx;have Hone:=zH hx.one;have hb5':=(Below.refl wr.heap.size wr).drew.trans hb5;have Hb5:=zH hb5';have hex5:=zH (show Hh (fun b=>b<w.heap.size+4) wr.drew w5 from fb (hb5.mono (show w.heap.size+4<=wr.drew.heap.size from hsz)));have Ho5:=zH (ao Ho.o hb5' (G8 _));have hw5:w.heap.size+4<=w5.heap.size:=(G9 hsz hb5'.size);clear hx hb5 hb5')
       |(at_builtin;refine aA rfl (.tmp 61) (.tmp 70) 28 rfl 33 (by kernel_rfl) cg rfl (by decide) (by decide) (w.heap.size+4) _ w5.heap.size [GX GZ Z.kind,GX GZ Z.num,GW Z.text,GU z1 Z.kids.length z2,GU z3 Z.keys.length z4,GU z5 Z.ents.length z6,GU z7 Z.labels.length z8] (HG w5 _) (G9 hw5 (by simp)) rfl Hone.o (GU pk i ck) i xs rfl (ao Ho5.o ((Below.refl _ _).alloc (G8 _) _) (G8 _)) (by omega) rfl ?_;intro v8 w8 ho8 hf8;have hb8:=(hf8.below (G9 hw5 (by simp)) (by simp) fun g hg=>(Ho5.o.lt g hg).1);have hex8:=zH (show Hh (fun b=>b<w.heap.size+4) (w5.alloc (GY #[GX GZ Z.kind,GX GZ Z.num,GW Z.text,GU z1 Z.kids.length z2,GU z3 Z.keys.length z4,GU z5 Z.ents.length z6,GU z7 Z.labels.length z8] 33)) w8 from fb hb8);have Hb8:=zH (((Below.refl w5.heap.size w5).alloc (G8 _) (GY #[GX GZ Z.kind,GX GZ Z.num,GW Z.text,GU z1 Z.kids.length z2,GU z3 Z.keys.length z4,GU z5 Z.ents.length z6,GU z7 Z.labels.length z8] 33)).mono hw5|>.trans hb8);obtain⟨p8,c8,rfl⟩:=aB ho8;have Ho8:=zH ho8;have Hf8:=zH hf8;have HX8:=zH (HX.o.below ((Hb5.o.mono hsz).trans Hb8.o));have z8':w8.cell? ⟨w.heap.size+3,3,G0⟩=G5 (GU pk i ck):=(by simp[Ic,HX8.o.o]);have f8':w8.frozen? ⟨w.heap.size+3,3,G0⟩=false:=(by simp[IB,HX8.o.o]);clear ho8 hf8 hb8))
      have HUp:=zH (show Upd (w.heap.size+3) (GY #[GX GZ V.kind,GX GZ V.num,GW V.text,GU p8 (i+1) c8,GU q2 V.keys.length c2,GU q3 V.ents.length c3,GU pz (rlL (mem U V U.root) V.labels).length cz] 33) w8 (w8.setCell ⟨w.heap.size+3,3,G0⟩ (GU p8 (i+1) c8))from Upd.cast (Upd.set (i:=3) (v:=GU p8 (i+1) c8) (Upd.refl HX8.o.o)) rfl);have hg3:(gE E w.heap.size (w.heap.size+4) (GU p8 (i+1) c8)) (w.heap.size+3)=true:=yK (by omega) (by omega);have hu3:=(show Below (we (gE E w.heap.size (w.heap.size+4) (GU p8 (i+1) c8)) w8).heap.size (we (gE E w.heap.size (w.heap.size+4) (GU p8 (i+1) c8)) w8) (we (gE E w.heap.size (w.heap.size+4) (GU p8 (i+1) c8)) (w8.setCell ⟨w.heap.size+3,3,G0⟩ (GU p8 (i+1) c8)))by rw[ap];exact bA HUp.o hg3)
      have hcA:=rm Hc.o Hb5.o HXz.o Hf8.o;rw[<-Htm.o]at hcA;have hwk:Below (we (gE E w.heap.size (w.heap.size+4) (GU pk i ck)) wr).heap.size (we (gE E w.heap.size (w.heap.size+4) (GU pk i ck)) wr) (we (gE E w.heap.size (w.heap.size+4) (GU pk i ck)) (w5.alloc (GY #[GX GZ Z.kind,GX GZ Z.num,GW Z.text,GU z1 Z.kids.length z2,GU z3 Z.keys.length z4,GU z5 Z.ents.length z6,GU z7 Z.labels.length z8] 33))):=by rw[ap];exact aS (Hb5.o.alloc Hb5.o.size _)
      have hzA:=((HZ.o.below hwk fun _ _ _ h=>h).sub (iF Hf8.o) fun _ _ _ h=>h).below hu3 fun _ _ _ h=>h
      exact⟨⟨i+1,_,xs++[GX GZ Z.kind,GX GZ Z.num,GW Z.text,GU z1 Z.kids.length z2,GU z3 Z.keys.length z4,GU z5 Z.ents.length z6,GU z7 Z.labels.length z8],max dk dz,by first|rfl|(congr 1),by omega,bC Ho8.o HUp.o (by omega),hcA.mono fun x cs _ h=>h.below hu3,hzA,HX8.o.upd HUp.o,(Hb.o.trans ((Hb5.o.mono (by omega)).trans (Hb8.o.mono (by omega)))).trans (HUp.o.below (by omega))⟩,by simp[intOf];omega⟩
     ·have d9:decide (i<V.kids.length)=false:=by simp;omega
      obtain rfl:i=V.kids.length:=by omega
      have hfull:(V.kids.take V.kids.length).map (rlV (fun x=>mem U x U.root))=V.kids.map (rlV (fun x=>mem U x U.root)):=by rw[Jf]
      have hc2:=Hc.o;rw[hfull]at hc2;have hlen:(V.kids.map (rlV (fun x=>mem U x U.root))).length=V.kids.length:=by simp
      obtain⟨pk',ck',ek,hrw⟩:=bu (l:=V.kids.map (rlV (fun x=>mem U x U.root))) (bJ (E:=(gE E w.heap.size (w.heap.size+4) (GU G0 0 0))) (by rw[hlen];exact Ho.o) (i7 HE.o (by omega))) (hc2.mono fun x cs _ h=>h.sub (iE _ _ _ _ _)) (by simp;omega);rw[hlen]at ek;injection ek with ek1 _ ek3
      subst ek1 ek3;have Hk:=zH hrw;have HZ0:=zH (HZ.o.sub (iE _ _ _ _ _) fun _ _ _ h=>h);have hb2:(gE E w.heap.size (w.heap.size+4) (GU G0 0 0)) (w.heap.size+2)=true:=yK (by omega) (by omega);have Hb2:=zH hb2;clear hfull hc2 hlen hrw Ho Hc HZ hb2 t0 t1 e3;by_cases h9:V.kind=9
      ·have d5:(V.kind !=9)=false:=by simp[h9]
       have Hok:=zH (E3 (fun x=>mem U x U.root) HS.o.1 h9);clear h9;go_wp2;go_loopw[10,11,12,13] (fun lv jv _ _ wr=>∃(j:Nat) (xs:List Value) (de dk:Nat),jv=GX GZ (j:Int)/\j<=V.ents.length/\wr.ownsRow (w.heap.size+4) 68 9 lv j xs/\Ch 9 (ES (we (gE E w.heap.size (w.heap.size+4) (lv)) wr) de) ((V.ents.take j).map (rlE (fun x=>mem U x U.root))) xs/\Rw (we (gE E w.heap.size (w.heap.size+4) (lv)) wr) pk ck 7 (V.kids.map (rlV (fun x=>mem U x U.root))) (VS (we (gE E w.heap.size (w.heap.size+4) (lv)) wr) dk)/\Rw (we (gE E w.heap.size (w.heap.size+4) (lv)) wr) pz cz 1 (rlL (mem U V U.root) V.labels) SC/\BX w.heap.size #[GX GZ V.kind,GX GZ V.num,GW V.text,GU q1 V.kids.length c1,GU q2 V.keys.length c2,GU q3 V.ents.length c3,GU q4 V.labels.length c4] #[GU pt U.nodes.length ct,GX GZ U.root] #[GX GZ V.kind,GX GZ V.num,GW V.text,GU pk V.kids.length ck,GU q2 V.keys.length c2,GU q3 V.ents.length c3,GU pz (rlL (mem U V U.root) V.labels).length cz] wr/\Below w.heap.size w wr) (fun _ jv _ _ _=>V.ents.length-(intOf jv).toNat)
       case atStart=>exact⟨0,[],0,dk,rfl,by omega,Io _ _ _ _,Ch.nil,Hk.o,HZ0.o,HX.o,Hb.o⟩
       case round=>
        clear HX Hb Hk HZ0 f0 f1 f2 f3 f4 f5 f6 hsz d5;obtain⟨j,xs,de,dk,rfl,hj,ho,hc,hk,hz,hx,hb⟩:=hrel;obtain⟨pl,cl,rfl⟩:=aB ho;have Ho:=zH ho;have Hc:=zH hc;have Hk:=zH hk;have HZ:=zH hz;have HX:=zH hx;have Hb:=zH hb;have hsz:=hx.sz;obtain⟨⟨f0,f1,f2,f3⟩,f4,f5,f6⟩:=aN hx.a;clear ho hc hk hz hx hb;by_cases hin:j<V.ents.length
        ·have d9:decide (j<V.ents.length)=true:=by simp[hin]
         obtain⟨a,o,cs,rfl,hab,-,hrange,hX⟩:=HEn.o.all hin;rw[ap]at hab;have Hgi:=zH (qb (B:=(w.heap.size+4)) (v:=GU pl j cl) (E:=E) Hb.o fun g hg=>by have:=(Ho.o.lt g hg).1;omega);have Hold:=zH (rj HE.o (by omega) hsz Ho.o);obtain⟨pa,ca,rs,rfl,hargs,hres⟩:=hX;obtain⟨x1,x2,x3,x4,x5,x6,x7,x8,rfl⟩:=hres.seven;have hrg:=hrange _ Hgi.o;have r1:=(aJ (hrg 1 _ rfl)).2;obtain⟨hal,hax,hrs⟩:=Hes.o V.ents[j] (Ip hin);have hht:=ip (Ip hin);have hbr:=Hb.o.size;have Hcell:=zH (fun(w':World) (hb:Below wr.heap.size wr w')=>hrange _ (Hgi.o.trans (by rw[ap];exact(aS hb).mono hbr)));have Hres:=zH hres;have Hcr:=zH (fun hf=>Hih.o V.ents[j].res (Nat.lt_of_le_of_lt (gG _) hht) (hrs hf));have Hargs:=zH hargs;have Hax:=zH (fun x (hx:x∈V.ents[j].args)=>Hih.o x (Nat.lt_of_le_of_lt (gF hx) hht) (hax x hx));have Htm:=zH (EZ (rlE (fun x=>mem U x U.root)) hin);have Hye:=zH (qT (b:=(fun x=>mem U x U.root)) V.ents[j]);have hal':V.ents[j].args.length<=200000:=hal;clear hrg hrange hres hargs hax hrs hht hal;generalize rlE (fun x=>mem U x U.root) V.ents[j]=Ye at*
         generalize V.ents[j]=e0 at*
         have hnew:=HG wr (GY #[GU G0 0 0,.bool e0.fails,GX GZ 0,GX GZ 0,GW ⟨#[]⟩,GU G0 0 0,GU G0 0 0,GU G0 0 0,GU G0 0 0] 68);have hbn:Below wr.heap.size wr (wr.alloc (GY #[GU G0 0 0,.bool e0.fails,GX GZ 0,GX GZ 0,GW ⟨#[]⟩,GU G0 0 0,GU G0 0 0,GU G0 0 0,GU G0 0 0] 68)):=(Below.refl _ _).alloc (G8 _) _;have Hx2:=zH (fun(X:VV) (cs:List Value) (h:VS (we E w) d X cs)=>(h.below Hgi.o).below (ew (x:=wr.heap.size) hbn (G8 _)));go_upto_region 22 with fail
         generalize wr.alloc (GY #[GU G0 0 0,.bool e0.fails,GX GZ 0,GX GZ 0,GW ⟨#[]⟩,GU G0 0 0,GU G0 0 0,GU G0 0 0,GU G0 0 0] 68)=w1 at*
         generalize hbe:wr.heap.size=be at*
         have Hbe:=zH hbe;have Hnew:=zH hnew;have Hbn:=zH hbn;have hbl:be<w1.heap.size:=ai hnew;have hsn:be<=w1.heap.size:=by have:=hbn.size;omega
         have HolG:=zH (Hold.o.mono hsn);have HO2:=zH (dU (x:=be) (Hold.o.mono hsn) hbl);clear hnew hbn hbe r1 f0 f1 f2 f3 f4 f5 f6;obtain⟨wq,hwq⟩:∃wq:World,wq=wr:=⟨_,rfl⟩
         subst hwq;go_wp2;go_loopw[13] (fun kv wi=>∃(k:Nat) (ys:List Value) (av:Value) (da:Nat),kv=GX GZ (k:Int)/\k<=e0.args.length/\wi.heap[be]? =G5 (GY #[av,.bool e0.fails,GX GZ 0,GX GZ 0,GW ⟨#[]⟩,GU G0 0 0,GU G0 0 0,GU G0 0 0,GU G0 0 0] 68)/\wi.ownsRow w1.heap.size 33 7 av k ys/\Ch 7 (VS (we (gE (ex (gE E w.heap.size (w.heap.size+4) (GU pl j cl)) be) w1.heap.size w1.heap.size av) wi) da) ((e0.args.take k).map (rlV (fun x=>mem U x U.root))) ys/\Below w1.heap.size (we (ex (gE E w.heap.size (w.heap.size+4) (GU pl j cl)) be) w1) (we (ex (gE E w.heap.size (w.heap.size+4) (GU pl j cl)) be) wi)/\Below be wq wi) (fun kv _=>e0.args.length-(intOf kv).toNat)
         case atStart=>exact⟨0,[],GU G0 0 0,0,rfl,by omega,Hnew.o,Io _ _ _ _,Ch.nil,Below.refl _ _,Hbn.o⟩
         case round=>
          obtain⟨k,ys,av,da,rfl,hk,hbx,hoa,hca,hin2,hbi⟩:=hrel;obtain⟨pv,cv,rfl⟩:=aB hoa;obtain⟨⟨g0,g1,g2,g3⟩,⟨g4,g5,g6,g7⟩,g8⟩:=cB hbx;have Hbx:=zH hbx;have Hoa:=zH hoa;have Hca:=zH hca;have Hin:=zH hin2;have Hbi:=zH hbi;have hszi:w1.heap.size<=wr.heap.size:=by have:=hin2.size;rwa[ap,ap]at this
          have r0:=(aJ (Hcell.o _ hbi 0 _ rfl)).2;rw[Im]at r0;have hxw:=HX.o.below (hbi.mono hsz);obtain⟨⟨f0,f1,f2,f3⟩,f4,f5,f6⟩:=aN hxw.a;obtain⟨t0,t1⟩:=aM hxw.t;clear hbx hoa hca hin2 hxw;obtain⟨wi,hwi⟩:∃wi:World,wi=wr:=⟨_,rfl⟩
          subst hwi;by_cases hkl2:k<e0.args.length
          ·have d10:decide (k<e0.args.length)=true:=by simp[hkl2]
           obtain⟨aa,oa,ca',rfl,haa,-,hrange2,hXa⟩:=Hargs.o.all hkl2;rw[ap]at haa;obtain⟨x1',x2',x3',x4',x5',x6',x7',x8',rfl⟩:=hXa.seven;have hrg:=hrange2 _ (Hgi.o.trans (by rw[ap];exact(aS hbi).mono hbr));have s0:=(aJ (hrg 0 _ rfl)).2;have s1:=(aJ (hrg 1 _ rfl)).2;have s2:=(aJ (hrg 2 _ rfl)).2;have s3:=(aJ (hrg 3 _ rfl)).2;have s4:=(aJ (hrg 4 _ rfl)).2;have s5:=(aJ (hrg 5 _ rfl)).2;have s6:=(aJ (hrg 6 _ rfl)).2;rw[Im]at s0;have Hold3:=zH (rj (A:=w1.heap.size) (B:=w1.heap.size) HO2.o hszi hszi Hoa.o);have Hg2:=zH (EX (v:=GU pv k cv) Hin.o fun g hg=>(Hoa.o.lt g hg).1);have Hcl:=zH (Hax.o e0.args[k] (Ip hkl2) (gE (ex (gE E w.heap.size (w.heap.size+4) (GU pl j cl)) be) w1.heap.size w1.heap.size (GU pv k cv)) wi.drew _ _ Hold3.o ⟨d,_,rfl,((Hx2.o _ _ hXa).below Hg2.o).below (by rw[ap];exact aS (Below.refl _ _).drew)⟩ (Ht.o.below (Hb.o.trans (hbi.mono hbr)).drew));have Htm2:=zH (EZ (rlV (fun x=>mem U x U.root)) hkl2);clear hrg hrange2 hXa hbi;generalize rlV (fun x=>mem U x U.root) e0.args[k]=Y at*
           generalize e0.args[k]=X at*
           have Y1:=zH (show wi.drew.cell? ⟨be,0,G0⟩=_ from g0);have Y2:=zH (show wi.drew.cell? ⟨w.heap.size,5,G0⟩=_ from f5);have Y3:=zH (show wi.drew.cell? ⟨a,o+j*9,G0⟩=_ from r0);have Y4:=zH (show wi.drew.cell? ⟨aa,oa+k*7,G0⟩=_ from s0);have Y5:=zH (show wi.drew.cell? ⟨w.heap.size+1,0,G0⟩=_ from t0);have haw:a<w1.heap.size:=by omega
           have haaw:aa<w1.heap.size:=by omega
           go_wp2_with(first
            |((with_reducible refine JZ ?_);refine fE (by repeat first|exact JW|refine JU rfl ?_|refine JT (by decide+kernel) ?_|refine JP rfl (by exact hbl) Y1.o ?_|refine JP rfl (by show _<_;omega) Y2.o ?_|refine JP rfl (by exact haw) Y3.o ?_|refine JP rfl (by exact haaw) Y4.o ?_|refine JP rfl (by show _<_;omega) Y5.o ?_) ?_)
            |((with_reducible refine JX ?_);refine gL (fun x=>x<w1.heap.size) ?_)
            |(with_reducible first|refine qH ?_|refine JV ?_|refine JY ?_)
            |((with_reducible refine J0 ?_);first|(refine JQ hex5.o ?_)|(refine JQ hex8.o ?_)|(refine JQ (IF _ _) ?_))
            |(go_at_call 9;refine Hcl.o.mono ?_;rintro e w5 ⟨v5,rfl,hx,hb5⟩;obtain⟨dy,cs,rfl,hx⟩:=hx;obtain⟨y1,y2,y3,y4,y5,y6,y7,y8,rfl⟩:=hx.seven;have HXy:=zH hx;have Hone:=zH hx.one;have hb5':=(Below.refl wi.heap.size wi).drew.trans hb5;have Hbi5:=zH hb5';have hex5:=zH (show Hh (fun x=>x<w1.heap.size) wi.drew w5 from fb (hb5.mono (show w1.heap.size<=wi.drew.heap.size from hszi)));have Hoa5:=zH (ao Hoa.o hb5' (G8 _));have hw5:w1.heap.size<=w5.heap.size:=(G9 hszi hb5'.size);clear hx hb5 hb5')
            |(at_builtin;refine aA rfl (.tmp 103) (.tmp 116) 28 rfl 33 (by kernel_rfl) cg rfl (by decide) (by decide) w1.heap.size _ w5.heap.size [GX GZ Y.kind,GX GZ Y.num,GW Y.text,GU y1 Y.kids.length y2,GU y3 Y.keys.length y4,GU y5 Y.ents.length y6,GU y7 Y.labels.length y8] (HG w5 _) (G9 hw5 (by simp)) rfl Hone.o (GU pv k cv) k ys rfl (ao Hoa5.o ((Below.refl _ _).alloc (G8 _) _) (G8 _)) (by omega) rfl ?_;intro v8 w8 ho8 hf8;have hb8:=(hf8.below (G9 hw5 (by simp)) (by simp) fun g hg=>(Hoa5.o.lt g hg).1);have hex8:=zH (show Hh (fun x=>x<w1.heap.size) (w5.alloc (GY #[GX GZ Y.kind,GX GZ Y.num,GW Y.text,GU y1 Y.kids.length y2,GU y3 Y.keys.length y4,GU y5 Y.ents.length y6,GU y7 Y.labels.length y8] 33)) w8 from fb hb8);have hb58:=(((Below.refl w5.heap.size w5).alloc (G8 _) (GY #[GX GZ Y.kind,GX GZ Y.num,GW Y.text,GU y1 Y.kids.length y2,GU y3 Y.keys.length y4,GU y5 Y.ents.length y6,GU y7 Y.labels.length y8] 33)).mono hw5|>.trans hb8);have Hb58:=zH hb58;obtain⟨p8,c8,rfl⟩:=aB ho8;have Ho8:=zH ho8;have Hf8:=zH hf8;have hB8:=(hb58.block be hbl).trans ((Hbi5.o.block _ (by omega)).trans Hbx.o);have HB8:=zH hB8;have hz0:w8.cell? ⟨be,0,G0⟩=G5 (GU pv k cv):=(by simp[Ic,hB8]);have hz1:w8.frozen? ⟨be,0,G0⟩=false:=(by simp[IB,hB8]);clear ho8 hf8 hb8 hb58 hB8))
           have HU9:=zH (show Upd be (GY #[GU p8 (k+1) c8,.bool e0.fails,GX GZ 0,GX GZ 0,GW ⟨#[]⟩,GU G0 0 0,GU G0 0 0,GU G0 0 0,GU G0 0 0] 68) w8 (w8.setCell ⟨be,0,G0⟩ (GU p8 (k+1) c8))from Upd.cast (Upd.set (i:=0) (v:=GU p8 (k+1) c8) (Upd.refl HB8.o)) rfl);have hgb:gE (ex (gE E w.heap.size (w.heap.size+4) (GU pl j cl)) be) w1.heap.size w1.heap.size (GU p8 (k+1) c8) be=true:=by simp[gE,ex]
           have hcA:=rm Hca.o Hbi5.o HXy.o Hf8.o;rw[<-Htm2.o]at hcA;exact⟨⟨k+1,ys++[GX GZ Y.kind,GX GZ Y.num,GW Y.text,GU y1 Y.kids.length y2,GU y3 Y.keys.length y4,GU y5 Y.ents.length y6,GU y7 Y.labels.length y8],GU p8 (k+1) c8,max da dy,by first|rfl|go_num|(congr 1),by omega,HU9.o.blk,bC Ho8.o HU9.o hbl,hcA.mono fun x cs _ h=>h.below (by rw[ap];exact bA HU9.o hgb),Hin.o.trans ((aS (Hbi5.o.mono hszi)).trans ((aS Hb58.o).trans (bA HU9.o (by simp[ex])))),Hbi.o.trans ((Hbi5.o.mono (by omega)).trans ((Hb58.o.mono (by omega)).trans (HU9.o.below (by omega))))⟩,by simp[intOf];omega⟩
          ·have d10:decide (k<e0.args.length)=false:=by simp;omega
           obtain rfl:k=e0.args.length:=by omega
           have hfull:(e0.args.take e0.args.length).map (rlV (fun x=>mem U x U.root))=e0.args.map (rlV (fun x=>mem U x U.root)):=by rw[Jf]
           have hc2:=Hca.o;rw[hfull]at hc2;have hlen:(e0.args.map (rlV (fun x=>mem U x U.root))).length=e0.args.length:=by simp
           have hlessE:∀k,ex (gE E w.heap.size (w.heap.size+4) (GU pl j cl)) be k=G6->gE (ex (gE E w.heap.size (w.heap.size+4) (GU pl j cl)) be) w1.heap.size w1.heap.size (GU pv e0.args.length cv) k=true:=fun k hk=>by simp[gE,hk]
           obtain⟨pv',cv',ev,hrw⟩:=bu (l:=e0.args.map (rlV (fun x=>mem U x U.root))) (bJ (E:=ex (gE E w.heap.size (w.heap.size+4) (GU pl j cl)) be) (by rw[hlen];exact Hoa.o) HO2.o) (hc2.mono fun x cs _ h=>h.sub (cw _ hlessE)) (by simp;omega);rw[hlen]at ev;injection ev with ev1 _ ev3
           subst ev1 ev3;have Har:=zH hrw;have HxR:=zH (((Hx2.o _ _ Hres.o).below (by rw[ap];exact Hin.o)).below (by rw[ap];exact aS (Below.refl _ _).drew));have Htd:=zH (Ht.o.below (Hb.o.trans (hbi.mono hbr)).drew);have hrr:=Hcell.o _ hbi;have r2:=(aJ (hrr 2 _ rfl)).2;have r3:=(aJ (hrr 3 _ rfl)).2;have r4:=(aJ (hrr 4 _ rfl)).2;have r5:=(aJ (hrr 5 _ rfl)).2;have r6:=(aJ (hrr 6 _ rfl)).2;have r7:=(aJ (hrr 7 _ rfl)).2;have r8:=(aJ (hrr 8 _ rfl)).2;clear hfull hc2 hlen hlessE hrw hrr hbi g0 g2 g3 g4 g5 g6 g7 g8;go_upto_if 121 with fail
           clear r0;generalize hnb:(!e0.fails)=nb;have Hnb:=zH hnb;clear hnb;go_cut[]from 119 to 131 (fun wc=>∃(z0 z1 z2 z3 z4 z5 z6:Value) (dz:Nat),wc.heap[be]? =G5 (GY #[GU pv e0.args.length cv,.bool e0.fails,z0,z1,z2,z3,z4,z5,z6] 68)/\VS (we (ex (gE E w.heap.size (w.heap.size+4) (GU pl j cl)) be) wc) dz Ye.res [z0,z1,z2,z3,z4,z5,z6]/\Rw (we (ex (gE E w.heap.size (w.heap.size+4) (GU pl j cl)) be) wc) pv cv 7 (e0.args.map (rlV (fun x=>mem U x U.root))) (VS (we (ex (gE E w.heap.size (w.heap.size+4) (GU pl j cl)) be) wc) da)/\Below be wq wc)
           case first=>
            cases nb with
            | false =>
              have hyr:Ye.res=zeroV:=by rw[Hye.o,show e0.fails=G6 by simpa using Hnb.o];rfl
              go_wp2;go_meet;rw[hyr];exact⟨_,_,_,_,_,_,_,1,Hbx.o,fU _,Har.o,Hbi.o⟩
            | true =>
              have hyr:Ye.res=rlV (fun x=>mem U x U.root) e0.res:=by rw[Hye.o,show e0.fails=G7 by simpa using Hnb.o];rfl
              have Hcl:=zH (Hcr.o (by simpa using Hnb.o) (ex (gE E w.heap.size (w.heap.size+4) (GU pl j cl)) be) wi.drew _ _ (HO2.o.mono hszi) ⟨d,_,rfl,HxR.o⟩ Htd.o);have Hyr:=zH hyr;clear hyr;generalize rlV (fun x=>mem U x U.root) e0.res=Y at*
              have Y2:=zH (show wi.drew.cell? ⟨w.heap.size,5,G0⟩=_ from f5);have Y3:=zH (show wi.drew.cell? ⟨a,o+j*9+2,G0⟩=_ from r2);have Y5:=zH (show wi.drew.cell? ⟨w.heap.size+1,0,G0⟩=_ from t0);have haw:a<w1.heap.size:=by omega
              go_wp2_with(first
               |((with_reducible refine JZ ?_);refine fE (by repeat first|exact JW|refine JU rfl ?_|refine JT (by decide+kernel) ?_|refine JP rfl (by show _<_;omega) Y2.o ?_|refine JP rfl (by exact haw) Y3.o ?_|refine JP rfl (by show _<_;omega) Y5.o ?_) ?_)
               |((with_reducible refine JX ?_);refine gL (fun x=>x<w1.heap.size) ?_)
               |(with_reducible first|refine qH ?_|refine JV ?_|refine JY ?_)
               |((with_reducible refine J0 ?_);first|(refine JQ hex5.o ?_)|(refine JQ (IF _ _) ?_))
               |(go_at_call 9;refine Hcl.o.mono ?_;rintro e w5 ⟨v5,rfl,hx,hb5⟩;obtain⟨dy,cs,rfl,hx⟩:=hx;obtain⟨y1,y2,y3,y4,y5,y6,y7,y8,rfl⟩:=hx.seven;have HXy:=zH hx;have hb5':=(Below.refl wi.heap.size wi).drew.trans hb5;have Hbi5:=zH hb5';have hex5:=zH (show Hh (fun x=>x<w1.heap.size) wi.drew w5 from fb (hb5.mono (show w1.heap.size<=wi.drew.heap.size from hszi)));have hB5:=(hb5'.block be (by omega)).trans Hbx.o;have HB5:=zH hB5;have hz1:∀i,w5.frozen? ⟨be,i,G0⟩=false:=(fun i=>by simp[IB,hB5]);obtain⟨⟨g0,g1,g2,g3⟩,⟨g4,g5,g6,g7⟩,g8⟩:=cB hB5;clear hx hb5 hb5' hB5))
              have HU:=zH (show Upd be (GY #[GU pv e0.args.length cv,.bool e0.fails,GX GZ Y.kind,GX GZ Y.num,GW Y.text,GU y1 Y.kids.length y2,GU y3 Y.keys.length y4,GU y5 Y.ents.length y6,GU y7 Y.labels.length y8] 68) w5 (((((((w5.setCell ⟨be,2,G0⟩ (GX GZ Y.kind)).setCell ⟨be,3,G0⟩ (GX GZ Y.num)).setCell ⟨be,4,G0⟩ (GW Y.text)).setCell ⟨be,5,G0⟩ (GU y1 Y.kids.length y2)).setCell ⟨be,6,G0⟩ (GU y3 Y.keys.length y4)).setCell ⟨be,7,G0⟩ (GU y5 Y.ents.length y6)).setCell ⟨be,8,G0⟩ (GU y7 Y.labels.length y8))from Upd.cast (Upd.set (i:=8) (v:=GU y7 Y.labels.length y8) (Upd.set (i:=7) (v:=GU y5 Y.ents.length y6) (Upd.set (i:=6) (v:=GU y3 Y.keys.length y4) (Upd.set (i:=5) (v:=GU y1 Y.kids.length y2) (Upd.set (i:=4) (v:=GW Y.text) (Upd.set (i:=3) (v:=GX GZ Y.num) (Upd.set (i:=2) (v:=GX GZ Y.kind) (Upd.refl HB5.o)))))))) rfl);generalize((((((w5.setCell ⟨be,2,G0⟩ (GX GZ Y.kind)).setCell ⟨be,3,G0⟩ (GX GZ Y.num)).setCell ⟨be,4,G0⟩ (GW Y.text)).setCell ⟨be,5,G0⟩ (GU y1 Y.kids.length y2)).setCell ⟨be,6,G0⟩ (GU y3 Y.keys.length y4)).setCell ⟨be,7,G0⟩ (GU y5 Y.ents.length y6)).setCell ⟨be,8,G0⟩ (GU y7 Y.labels.length y8)=wu at*
              have hu:∀w0:World,w0=we (ex (gE E w.heap.size (w.heap.size+4) (GU pl j cl)) be) w5->Below w0.heap.size w0 (we (ex (gE E w.heap.size (w.heap.size+4) (GU pl j cl)) be) wu):=fun w0 e=>by subst e;rw[ap];exact bA HU.o (by simp[ex])
              have h5:Below (we (ex (gE E w.heap.size (w.heap.size+4) (GU pl j cl)) be) wi).heap.size (we (ex (gE E w.heap.size (w.heap.size+4) (GU pl j cl)) be) wi) (we (ex (gE E w.heap.size (w.heap.size+4) (GU pl j cl)) be) w5):=by rw[ap];exact aS Hbi5.o
              go_meet;rw[Hyr.o];exact⟨_,_,_,_,_,_,_,dy,HU.o.blk,HXy.o.below (hu _ rfl),((Har.o.below h5 fun _ _ _ h=>h.below h5).below (hu _ rfl) fun _ _ _ h=>h.below (hu _ rfl)),(Hbi.o.trans (Hbi5.o.mono (by omega))).trans (HU.o.below (G8 _))⟩
           case rest=>
            clear Hbx Hoa Hca Hin Hbi Har HxR Htd f0 f1 f2 f3 f4 f5 f6 t0 t1 g1 r2 r3 r4 r5 r6 r7 r8 hszi d10 hkl2;obtain⟨z0,z1,z2,z3,z4,z5,z6,dz,hbx,hz,har,hbc⟩:=hcut;obtain⟨⟨g0,g1,g2,g3⟩,⟨g4,g5,g6,g7⟩,g8⟩:=cB hbx;have hlG:∀k,(gE E w.heap.size (w.heap.size+4) (GU pl j cl)) k=G6->ex (gE E w.heap.size (w.heap.size+4) (GU pl j cl)) be k=true:=fun k hk=>by simp[ex,hk]
            have hlA:(e0.args.map (rlV (fun x=>mem U x U.root))).length=e0.args.length:=by simp
            have HXE:=zH (show ES (we (gE E w.heap.size (w.heap.size+4) (GU pl j cl)) wc) (max da dz) Ye [GU pv e0.args.length cv,.bool e0.fails,z0,z1,z2,z3,z4,z5,z6]by
             rw[Hye.o];exact⟨pv,cv,_,by rw[show(EE.mk (e0.args.map (rlV (fun x=>mem U x U.root))) e0.fails (if e0.fails=G6 then zeroV else rlV (fun x=>mem U x U.root) e0.res)).args.length=e0.args.length from hlA];rfl,(har.sub (cw _ hlG) fun _ _ _ h=>h.sub (cw _ hlG)).mono fun _ _ _ h=>h.up (Jr _ _),by have h1:=(hz.sub (cw _ hlG)).up (Jq da dz);rw[Hye.o]at h1;exact h1⟩)
            have HoneE:=zH (show∀u∈([GU pv e0.args.length cv,.bool e0.fails,z0,z1,z2,z3,z4,z5,z6]:List Value),u.oneCell'=G6 by
             intro u hu;rcases Ix.1 hu with rfl|hu
             ·rfl
             rcases Ix.1 hu with rfl|hu
             ·rfl
             exact hz.one u hu)
            have Hbc:=zH hbc;have hszc:w.heap.size+4<=wc.heap.size:=G9 (G9 hsz (by have:=Hbe.o;omega:be<=wq.heap.size)) hbc.size;have HoL:=zH (ao Ho.o (hbc.mono (Nat.le_of_eq Hbe.o)) (G8 _));clear hbx hz har hbc hlG hlA;go_wp2_with(at_builtin;refine aA rfl (.tmp 132) (.tmp 134) 30 rfl 68 (by kernel_rfl) cG rfl (by decide) (by decide) (w.heap.size+4) _ wc.heap.size [GU pv e0.args.length cv,.bool e0.fails,z0,z1,z2,z3,z4,z5,z6] (HG wc _) (G9 hszc (by simp)) rfl HoneE.o (GU pl j cl) j xs rfl (ao HoL.o ((Below.refl _ _).alloc (G8 _) _) (G8 _)) (by omega) rfl ?_;intro v9 w9 ho9 hf9;have Hf9:=zH hf9;have hb9:=(hf9.below (G9 hszc (by simp)) (by simp) fun g hg=>(HoL.o.lt g hg).1);have Hb9:=zH (((Below.refl wc.heap.size wc).alloc (G8 _) (GY #[GU pv e0.args.length cv,.bool e0.fails,z0,z1,z2,z3,z4,z5,z6] 68)).mono hszc|>.trans hb9);have Ho9:=zH ho9;clear ho9 hf9 hb9);have hal:Below (we (gE E w.heap.size (w.heap.size+4) (GU pl j cl)) wc).heap.size (we (gE E w.heap.size (w.heap.size+4) (GU pl j cl)) wc) (we (gE E w.heap.size (w.heap.size+4) (GU pl j cl)) (wc.alloc (GY #[GU pv e0.args.length cv,.bool e0.fails,z0,z1,z2,z3,z4,z5,z6] 68))):=by rw[ap];exact aS ((Below.refl _ _).alloc (G8 _) _)
            have hwc:Below (we (gE E w.heap.size (w.heap.size+4) (GU pl j cl)) wq).heap.size (we (gE E w.heap.size (w.heap.size+4) (GU pl j cl)) wq) (we (gE E w.heap.size (w.heap.size+4) (GU pl j cl)) wc):=by rw[ap];exact aS (Hbc.o.mono (Nat.le_of_eq Hbe.o))
            have hcB:=tC (Hc.o.mono fun x cs _ h=>h.below hwc) HXE.o rfl Hf9.o;rw[<-Htm.o]at hcB;have hkB:=((Hk.o.below hwc fun _ _ _ h=>h.below hwc).below hal fun _ _ _ h=>h.below hal).sub (iF Hf9.o) fun _ _ _ h=>h.sub (iF Hf9.o)
            have hzB:=((HZ.o.below hwc fun _ _ _ h=>h).below hal fun _ _ _ h=>h).sub (iF Hf9.o) fun _ _ _ h=>h
            exact⟨⟨j+1,xs++[GU pv e0.args.length cv,.bool e0.fails,z0,z1,z2,z3,z4,z5,z6],max de (max da dz),dk,by first|rfl|go_num|(congr 1),by omega,Ho9.o,hcB,hkB,hzB,(HX.o.below (Hbc.o.mono hsz)).below Hb9.o,Hb.o.trans ((Hbc.o.mono hbr).trans (Hb9.o.mono (by omega)))⟩,by simp[intOf];omega⟩
        ·have d9:decide (j<V.ents.length)=false:=by simp;omega
         obtain rfl:j=V.ents.length:=by omega
         have hfull:(V.ents.take V.ents.length).map (rlE (fun x=>mem U x U.root))=V.ents.map (rlE (fun x=>mem U x U.root)):=by rw[Jf]
         have hc2:=Hc.o;rw[hfull]at hc2;have hlen:(V.ents.map (rlE (fun x=>mem U x U.root))).length=V.ents.length:=by simp
         obtain⟨pl',cl',el,hrw⟩:=bu (l:=V.ents.map (rlE (fun x=>mem U x U.root))) (bJ (E:=(gE E w.heap.size (w.heap.size+4) (GU G0 0 0))) (by rw[hlen];exact Ho.o) (i7 HE.o (by omega))) (hc2.mono fun x cs _ h=>h.sub (iE _ _ _ _ _)) (by simp;omega);rw[hlen]at el;injection el with el1 _ el3
         subst el1 el3;obtain⟨F,hF⟩:∃F:VV,F=.mk 9 V.num aQ [] [] (dt (V.ents.map (rlE (fun x=>mem U x U.root)))) []:=⟨_,rfl⟩
         have hfn:=yL (gE E w.heap.size (w.heap.size+4) (GU G0 0 0)) V.num (V.ents.map (rlE (fun x=>mem U x U.root))) wr (GU pl V.ents.length cl) ((i7 HE.o (by omega)).mono hsz) ⟨de,pl,cl,by rw[hlen],hrw⟩ (by simp;omega);rw[Hok.o,<-hF]at hfn;have Hfn:=zH hfn;have HF:=zH hF;have Hk0:=zH (Hk.o.sub (iE _ _ _ _ _) fun _ _ _ h=>h.sub (iE _ _ _ _ _));have Hz0:=zH (HZ.o.sub (iE _ _ _ _ _) fun _ _ _ h=>h);clear hfull hc2 hlen hrw hfn hF Hc Ho Hk HZ f0 f2 f3 f4 f6;go_upto_region 30 with(go_at_call 21;go_loud(refine Hfn.o.mono ?_;rintro e w5 ⟨v5,rfl,hx,-,hb5⟩;obtain⟨y1,y2,y3,y4,y5,y6,y7,y8,df,rfl,he⟩:=hx.ents9;have He:=zH he;have Hb5:=zH hb5;clear hx he hb5))
         have hBt:=HG w5 (GY #[GX GZ F.kind,GX GZ F.num,GW F.text,GU y1 F.kids.length y2,GU y3 F.keys.length y4,GU y5 F.ents.length y6,GU y7 F.labels.length y8] 33);have hbt:Below w5.heap.size w5 (w5.alloc (GY #[GX GZ F.kind,GX GZ F.num,GW F.text,GU y1 F.kids.length y2,GU y3 F.keys.length y4,GU y5 F.ents.length y6,GU y7 F.labels.length y8] 33)):=(Below.refl _ _).alloc (G8 _) _;have hs5:=Hb5.o.size;generalize w5.alloc (GY #[GX GZ F.kind,GX GZ F.num,GW F.text,GU y1 F.kids.length y2,GU y3 F.keys.length y4,GU y5 F.ents.length y6,GU y7 F.labels.length y8] 33)=w6 at*
         obtain⟨⟨v0,v1,v2,v3⟩,v4,v5,v6⟩:=aN hBt;have Hb6:=zH (Hb5.o.step hbt);have HX6:=zH (HX.o.below (Hb6.o.mono hsz));have e5:w6.cell? ⟨w.heap.size+3,5,G0⟩=G5 (GU q3 V.ents.length c3):=by simp[Ic,HX6.o.o]
         have e7:w6.frozen? ⟨w.heap.size+3,5,G0⟩=false:=by simp[IB,HX6.o.o]
         have He6:=zH (He.o.below (by rw[ap];exact aS hbt) fun _ _ _ h=>h.below (by rw[ap];exact aS hbt));clear hBt hbt f1 f5;go_upto_region 31 with fail
         have HUp:=zH (show Upd (w.heap.size+3) (GY #[GX GZ V.kind,GX GZ V.num,GW V.text,GU pk V.kids.length ck,GU q2 V.keys.length c2,GU y5 F.ents.length y6,GU pz (rlL (mem U V U.root) V.labels).length cz] 33) w6 (w6.setCell ⟨w.heap.size+3,5,G0⟩ (GU y5 F.ents.length y6))from Upd.cast (Upd.set (i:=5) (v:=GU y5 F.ents.length y6) (Upd.refl HX6.o.o)) rfl);clear e5 e7 v0 v1 v2 v3 v4 v5 v6;generalize w6.setCell ⟨w.heap.size+3,5,G0⟩ (GU y5 F.ents.length y6)=w7 at*
         have HX7:=zH (HX6.o.upd HUp.o);obtain⟨⟨e0,e1,e2,e3⟩,e4,e5,e6⟩:=aN HX7.o.o;have HR:=zH HX7.o.r;have hb7:Below w.heap.size w w7:=(Hb.o.trans (Hb6.o.mono (by omega))).trans (HUp.o.below (by omega));have Hb7:=zH hb7;clear hb7;go_wp2_with(with_reducible refine sR rfl 33 (.tmp 6) (.tmp 146) rfl rfl rfl HR.o ?_);refine rB rfl (w.heap.size+2) 33 rfl (sH HR.o) rfl rfl rfl ?_;have h67:Below (we (gE E w.heap.size (w.heap.size+4) (GU G0 0 0)) w6).heap.size (we (gE E w.heap.size (w.heap.size+4) (GU G0 0 0)) w6) (we (gE E w.heap.size (w.heap.size+4) (GU G0 0 0)) w7):=by rw[ap];exact bA HUp.o (yK (by omega) (by omega))
         have h06:Below (we (gE E w.heap.size (w.heap.size+4) (GU G0 0 0)) wr).heap.size (we (gE E w.heap.size (w.heap.size+4) (GU G0 0 0)) wr) (we (gE E w.heap.size (w.heap.size+4) (GU G0 0 0)) w6):=by rw[ap];exact aS Hb6.o
         have hfin:VW (we (gE E w.heap.size (w.heap.size+4) (GU G0 0 0)) w7) (.agg #[GX GZ V.kind,GX GZ V.num,GW V.text,GU pk V.kids.length ck,GU q2 V.keys.length c2,GU y5 F.ents.length y6,GU pz (rlL (mem U V U.root) V.labels).length cz]) (rlV (fun x=>mem U x U.root) V):=by
          have he7:=He6.o.below h67 fun _ _ _ h=>h.below h67
          have hk7:=(Hk0.o.below h06 fun _ _ _ h=>h.below h06).below h67 fun _ _ _ h=>h.below h67
          have hz7:=(Hz0.o.below h06 fun _ _ _ h=>h).below h67 fun _ _ _ h=>h
          have hy7:=HY.o.below (qb (B:=w.heap.size+4) (v:=GU G0 0 0) Hb7.o fun g hg=>(rn g hg).elim) fun _ _ _ h=>h
          have hF:=HF.o;subst hF;rw[iC];exact⟨max df dk+1,_,rfl,pk,ck,q2,c2,y5,y6,pz,cz,by rw[show(VV.mk V.kind V.num V.text (V.kids.map (rlV (fun x=>mem U x U.root))) V.keys (dt (V.ents.map (rlE (fun x=>mem U x U.root)))) (rlL (mem U V U.root) V.labels)).kids.length=V.kids.length by simp[VV.kids]];rfl,hk7.mono fun _ _ _ h=>h.up (Jq _ _),hy7,he7.mono fun _ _ _ h=>h.up (Jr _ _),hz7⟩
         exact⟨_,rfl,(hfin.below (by rw[ap];exact eN Hb2.o _)).sub (rl _ _ _ _ _),jt Hb7.o (by omega) _⟩
      ·have d5:(V.kind !=9)=true:=by simp[h9]
       have Hne:=zH (HS.o.noents h9);clear h9;have Hy:=zH (HY.o.below (qb (B:=w.heap.size+4) (v:=GU G0 0 0) Hb.o fun g hg=>(rn g hg).elim) fun _ _ _ h=>h);obtain⟨⟨e0,e1,e2,e3⟩,e4,e5,e6⟩:=aN HX.o.o;have HR:=zH HX.o.r;go_wp2_with(with_reducible refine sR rfl 33 (.tmp 6) (.tmp 76) rfl rfl rfl HR.o ?_);refine rB rfl (w.heap.size+2) 33 rfl (sH HR.o) rfl rfl rfl ?_;have hfin:VW (we (gE E w.heap.size (w.heap.size+4) (GU G0 0 0)) wr) (.agg #[GX GZ V.kind,GX GZ V.num,GW V.text,GU pk V.kids.length ck,GU q2 V.keys.length c2,GU q3 V.ents.length c3,GU pz (rlL (mem U V U.root) V.labels).length cz]) (rlV (fun x=>mem U x U.root) V):=by
        rw[iC,Hne.o];exact⟨dk+1,_,rfl,pk,ck,q2,c2,q3,c3,pz,cz,by rw[show(VV.mk V.kind V.num V.text (V.kids.map (rlV (fun x=>mem U x U.root))) V.keys (dt (List.map (rlE (fun x=>mem U x U.root)) [])) (rlL (mem U V U.root) V.labels)).kids.length=V.kids.length by simp[VV.kids]];rfl,Hk.o,Hy.o,Rw.nil _ _ _ _ _,HZ0.o⟩
       exact⟨_,rfl,(hfin.below (by rw[ap];exact eN Hb2.o _)).sub (rl _ _ _ _ _),jt Hb.o (by omega) _⟩
end Go.Proofs.YtfpahmeploondaaGreatDoor
