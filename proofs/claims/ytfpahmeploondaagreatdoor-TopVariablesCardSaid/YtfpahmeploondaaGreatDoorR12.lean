/- Walks and plain facts for the law on type variables, for all values and types that the heap holds (texts Z4 Z5). -/
import Derived.Test.YtfpahmeploondaaGreatDoorR03
import Derived.Test.YtfpahmeploondaaGreatDoorR11
set_option linter.unusedVariables false
set_option linter.unusedSimpArgs false
set_option maxHeartbeats 64000000
open Option renaming none -> G0, some -> G5
open Bool renaming true -> G6, false -> G7
open Go.Value renaming slice -> GU, string -> GW, int -> GX
open Go.Obj renaming cells -> GY
open Go.IntKind renaming i64 -> GZ
open Go renaming heap_alloc_new -> HG, bodyPost_ret -> Jm
open Nat renaming le_trans -> G9, le_refl -> G8
namespace Go.Proofs.YtfpahmeploondaaGreatDoor
open Go.RowKit Go.Ident
set_option maxRecDepth 100000
theorem SR.app {S:SD}{w w1 w2:World}(h:SR S w w1)(k:Below w.heap.size w1 w2):SR S w w2:=h.own k (k.block _ h.src0.lt)
theorem SR.owns {S:SD}{w w1:World}(h:SR S w w1){B n:Nat}{e:TypeId}{size:Nat}{v:Value}{xs:List Value}(ho:w.ownsRow B e size v n xs)(hB:S.b<B):w1.ownsRow B e size v n xs:=
 cF ho fun g hg=>h.block (ho.lt g hg).2 (by have:=(ho.lt g hg).1;omega)
theorem Gu {S:SD}{w:World}(h:SRC S w){B:Nat}(hB:w.heap.size<=B):lo B S.b=true:=by have:=h.lt;simp[lo];omega
def LR(S:SD)(w:World)(e:Ending)(w':World):Prop:=∃v l,e=.returned v/\SS (we (lo w.heap.size) w') v l/\l.length<=1000/\SR S w w'
theorem zR {w:World}{B B':Nat}{v:Value}{l:List ByteArray}(h:w.ownsRow B 9 1 v l.length (l.map .string))(hB:B'<=B)(hl:l.length<=1000):SS (we (lo B') w) v l:=by
 have hc:Ch 1 SC l (l.map .string):=by
  refine⟨by simp,fun i hi=>?_⟩;unfold SC;rw[Nat.mul_one];refine List.ext_getElem? fun j=>?_
  cases j with
  |zero=>simp[List.getElem?_take,List.getElem?_drop,hi]
  |succ j=>simp[List.getElem?_take]
 exact bu (bJ h ((bh B').mono hB)) hc (by omega)
theorem iA(S:SD)(w:World)(hS:SRC S w):Calls Tryz.prog 94 #[.pointer (G5 ⟨S.b,0,G0⟩)] w (LR S w):=by
 have HS:=zH hS;have hlt:=hS.lt;have Hend:=zH (fun(v:Value) (l:List ByteArray) (w2:World) (hl:l.length<=1000) (h:SS (we (lo w.heap.size) w2) v l) (hr:SR S w w2)=>jY (lo w.heap.size) l w2 v ((bh _).mono hr.size) h (by omega));clear hS;go_enter Tryz.func94,Tryz.ntmps94;go_upto_region 3 with(go_at_call 14;refine(aU S 3 w HS.o (by omega)).mono ?_;rintro e w2 ⟨x,rfl,hs,h0,h1,-⟩;have h1:=h1 (by decide);have H2:=zH hs;clear hs;rcases(show x=0\/x=1\/x=2 by omega)with rfl|rfl|rfl)
 ·go_wp2_with(go_at_call 20;refine(Hend.o _ [] w2 (by simp) ⟨G0,0,rfl,Rw.nil _ _ _ _ _⟩ H2.o).mono ?_;rintro e w9 ⟨v9,l9,rfl,hs9,hl9,hb9⟩;have Hs9:=zH hs9;have Hb9:=zH hb9;have Hl9:=zH hl9;clear hs9 hb9 hl9);go_ret;exact⟨_,l9,rfl,Hs9.o,G9 Hl9.o (by simp),H2.o.step Hb9.o⟩
 ·go_upto_region 5 with(first
   |(go_at_call 54;refine(lH S w2 H2.o.src).mono ?_;rintro e w3 ⟨s,rfl,hs,-⟩;have H3:=zH (H2.o.trans hs);clear hs)
   |(at_builtin;go_loud(refine aA rfl (.tmp 7) (.tmp 10) 31 rfl 9 (by kernel_rfl) cm rfl (by decide) (by decide) w.heap.size _ w3.heap.size [GW s] (HG w3 _) (G9 H3.o.size (by simp)) rfl (by intro u hu;simp at hu;subst hu;rfl) (GU G0 0 0) 0 [] rfl (World.ownsRow_nil _ _ _ _) (by omega) rfl ?_);intro v4 w4 ho4 hf4;have Hb4:=zH (hf4.below (G9 H3.o.size (by simp)) (by simp) (fun g hg=>by simp[Value.ownBlock]at hg));have H4:=zH ((H3.o.trans (SR.alloc H3.o.src _)).app Hb4.o);rw[Nat.zero_add,List.nil_append]at ho4;obtain⟨p4,c4,rfl⟩:=aB ho4;have Ho4:=zH ho4;clear ho4 hf4)
   |(go_at_call 14;refine(aU S 2 w4 H4.o.src (by omega)).mono ?_;rintro e w5 ⟨x,rfl,hs,h0,h1,-⟩;have h1:=h1 (by decide);have H5:=zH (H4.o.trans hs);have Ho5:=zH (hs.owns Ho4.o hlt);clear hs;rcases(show x=0\/x=1 by omega)with rfl|rfl))
  ·go_wp2_with(go_at_call 20;refine(Hend.o _ [s] w5 (by simp) (zR (l:=[s]) Ho5.o (G8 _) (by simp)) H5.o).mono ?_;rintro e w9 ⟨v9,l9,rfl,hs9,hl9,hb9⟩;have Hs9:=zH hs9;have Hb9:=zH hb9;have Hl9:=zH hl9;clear hs9 hb9 hl9);go_ret;exact⟨_,l9,rfl,Hs9.o,G9 Hl9.o (by simp),H5.o.step Hb9.o⟩
  ·go_upto_region 6 with(first
    |(go_at_call 54;refine(lH S w5 H5.o.src).mono ?_;rintro e w6 ⟨s2,rfl,hs,-⟩;have H6:=zH (H5.o.trans hs);have Ho6:=zH (hs.owns Ho5.o hlt);clear hs)
    |(at_builtin;go_loud(refine aA rfl (.tmp 15) (.tmp 18) 31 rfl 9 (by kernel_rfl) cm rfl (by decide) (by decide) w.heap.size _ w6.heap.size [GW s2] (HG w6 _) (G9 H6.o.size (by simp)) rfl (by intro u hu;simp at hu;subst hu;rfl) (GU p4 1 c4) 1 [GW s] rfl (ao Ho6.o ((Below.refl _ _).alloc (G8 _) _) (G8 _)) (by omega) rfl ?_);intro v7 w7 ho7 hf7;have Hb7:=zH (hf7.below (G9 H6.o.size (by simp)) (by simp) (fun g hg=>(Ho6.o.lt g hg).1));have H7:=zH ((H6.o.trans (SR.alloc H6.o.src _)).app Hb7.o);obtain⟨p7,c7,rfl⟩:=aB ho7;have Ho7:=zH ho7;clear ho7 hf7))
   go_wp2_with(go_at_call 20;refine(Hend.o _ [s,s2] w7 (by simp) (zR (l:=[s,s2]) Ho7.o (G8 _) (by simp)) H7.o).mono ?_;rintro e w9 ⟨v9,l9,rfl,hs9,hl9,hb9⟩;have Hs9:=zH hs9;have Hb9:=zH hb9;have Hl9:=zH hl9;clear hs9 hb9 hl9);go_ret;exact⟨_,l9,rfl,Hs9.o,G9 Hl9.o (by simp),H7.o.step Hb9.o⟩
 ·go_wp2_with(go_at_call 20;refine(Hend.o _ [] w2 (by simp) ⟨G0,0,rfl,Rw.nil _ _ _ _ _⟩ H2.o).mono ?_;rintro e w9 ⟨v9,l9,rfl,hs9,hl9,hb9⟩;have Hs9:=zH hs9;have Hb9:=zH hb9;have Hl9:=zH hl9;clear hs9 hb9 hl9);go_ret;exact⟨_,l9,rfl,Hs9.o,G9 Hl9.o (by simp),H2.o.step Hb9.o⟩
def GV(Q:VV->Prop)(S:SD)(w:World)(e:Ending)(w':World):Prop:=∃v V,e=.returned v/\VW (we (lo w.heap.size) w') v V/\Q V/\SR S w w'
def sU(V:VV):Prop:=V.valid=G6/\V.nodes<=1/\V.labels=[]
theorem FE(n:Int):sU (.mk 1 n aQ [] [] [] []):=⟨by simp[VV.valid,bT,validVs,validEs,VV.kind,VV.num,VV.text,VV.kids,VV.keys,VV.ents,VV.labels,gq,fg,fh,bV,aQ,ByteArray.size],by simp[VV.nodes,nodesVs,nodesEs],rfl⟩
theorem FG:sU (.mk 5 0 aQ [] [] [] []):=⟨by simp[VV.valid,bT,validVs,validEs,VV.kind,VV.num,VV.text,VV.kids,VV.keys,VV.ents,VV.labels,gq,fg,fh,bV,aQ,ByteArray.size],by simp[VV.nodes,nodesVs,nodesEs],rfl⟩
theorem FH:sU (.mk 6 0 aQ [] [] [] []):=⟨by simp[VV.valid,bT,validVs,validEs,VV.kind,VV.num,VV.text,VV.kids,VV.keys,VV.ents,VV.labels,gq,fg,fh,bV,aQ,ByteArray.size],by simp[VV.nodes,nodesVs,nodesEs],rfl⟩
theorem FJ {s:ByteArray}(h:eb s.data.toList=G6):sU (.mk 3 0 s [] [] [] []):=⟨by simp[VV.valid,bT,validVs,validEs,VV.kind,VV.num,VV.text,VV.kids,VV.keys,VV.ents,VV.labels,gq,fg,fh,bV,h],by simp[VV.nodes,nodesVs,nodesEs],rfl⟩
theorem FK {s:ByteArray}(h:s.size<=64):sU (.mk 2 0 s [] [] [] []):=⟨by simp[VV.valid,bT,validVs,validEs,VV.kind,VV.num,VV.text,VV.kids,VV.keys,VV.ents,VV.labels,gq,fg,fh,bV,h],by simp[VV.nodes,nodesVs,nodesEs],rfl⟩
theorem FL {n:Int}(h:0<=n):sU (.mk 4 n aQ [] [] [] []):=⟨by simp[VV.valid,bT,validVs,validEs,VV.kind,VV.num,VV.text,VV.kids,VV.keys,VV.ents,VV.labels,gq,fg,fh,bV,aQ,ByteArray.size,h],by simp[VV.nodes,nodesVs,nodesEs],rfl⟩
theorem dH(S:SD)(w:World)(hS:SRC S w):Calls Tryz.prog 35 #[.pointer (G5 ⟨S.b,0,G0⟩)] w (GV sU S w):=by
 have Hb:=zH (show w.heap.size≠S.b by have:=hS.lt;omega);have Ha:=zH (SR.alloc hS (GY #[GX GZ 0,GX GZ 0,GW ⟨#[]⟩,GU G0 0 0,GU G0 0 0,GU G0 0 0,GU G0 0 0] 33));have Hn:=zH (HG w (GY #[GX GZ 0,GX GZ 0,GW ⟨#[]⟩,GU G0 0 0,GU G0 0 0,GU G0 0 0,GU G0 0 0] 33));clear hS;go_enter Tryz.func35,Tryz.ntmps35;go_upto_region 1 with fail
 generalize w.alloc (GY #[GX GZ 0,GX GZ 0,GW ⟨#[]⟩,GU G0 0 0,GU G0 0 0,GU G0 0 0,GU G0 0 0] 33)=w1 at*
 go_upto_region 2 with(go_at_call 14;refine(aU S 6 w1 Ha.o.src (by omega)).mono ?_;rintro e w2 ⟨x,rfl,hs,h0,h1,-⟩;have h1:=h1 (by decide);have H2:=zH (Ha.o.trans hs);have Z2:=zH ((hs.block (ai Hn.o) Hb.o).trans Hn.o);clear hs;rcases(show x=0\/x=1\/x=2\/x=3\/x=4\/x=5 by omega)with rfl|rfl|rfl|rfl|rfl|rfl)
 ·go_wp2_with(first
   |(go_at_call 67;refine(uY S w2 H2.o.src).mono ?_;rintro e w3 ⟨y,rfl,hs⟩;have H3:=zH (H2.o.trans hs);have Z3:=zH ((hs.block (ai Z2.o) Hb.o).trans Z2.o);clear hs)
   |(go_at_call 57;refine(pI y w3).mono ?_;rintro e w4 ⟨rfl,hb⟩;have H4:=zH (H3.o.step hb);have Z4:=zH ((hb.block _ (ai Z3.o)).trans Z3.o);clear hb)
   |(with_reducible refine sR rfl 33 (.tmp 2) (.tmp 9) rfl rfl rfl Z4.o ?_))
  refine rB rfl w.heap.size 33 rfl (sH Z4.o) rfl rfl rfl ?_;exact⟨_,_,rfl,vw0 _ _ _ _,FE y,H4.o.row (G8 _) Hb.o _⟩
 ·go_wp2_with(first
   |(go_at_call 52;refine(fG S w2 H2.o.src).mono ?_;rintro e w3 ⟨s,rfl,hs,hp⟩;have H3:=zH (H2.o.trans hs);have Z3:=zH ((hs.block (ai Z2.o) Hb.o).trans Z2.o);clear hs)
   |(go_at_call 59;refine(jZ s w3).mono ?_;rintro e w4 ⟨rfl,hb⟩;have H4:=zH (H3.o.step hb);have Z4:=zH ((hb.block _ (ai Z3.o)).trans Z3.o);clear hb)
   |(with_reducible refine sR rfl 33 (.tmp 2) (.tmp 14) rfl rfl rfl Z4.o ?_))
  refine rB rfl w.heap.size 33 rfl (sH Z4.o) rfl rfl rfl ?_;exact⟨_,_,rfl,vw0 _ _ _ _,FJ hp,H4.o.row (G8 _) Hb.o _⟩
 ·go_wp2_with(first
   |(go_at_call 53;refine(kH S w2 H2.o.src).mono ?_;rintro e w3 ⟨s,rfl,hs,hp⟩;have H3:=zH (H2.o.trans hs);have Z3:=zH ((hs.block (ai Z2.o) Hb.o).trans Z2.o);clear hs)
   |(go_at_call 58;refine(iy s w3).mono ?_;rintro e w4 ⟨rfl,hb⟩;have H4:=zH (H3.o.step hb);have Z4:=zH ((hb.block _ (ai Z3.o)).trans Z3.o);clear hb)
   |(with_reducible refine sR rfl 33 (.tmp 2) (.tmp 19) rfl rfl rfl Z4.o ?_))
  refine rB rfl w.heap.size 33 rfl (sH Z4.o) rfl rfl rfl ?_;exact⟨_,_,rfl,vw0 _ _ _ _,FK hp,H4.o.row (G8 _) Hb.o _⟩
 ·go_wp2_with(first
   |(go_at_call 14;refine(aU S 3 w2 H2.o.src (by omega)).mono ?_;rintro e w3 ⟨y,rfl,hs,hp,-,-⟩;have H3:=zH (H2.o.trans hs);have Z3:=zH ((hs.block (ai Z2.o) Hb.o).trans Z2.o);clear hs)
   |(go_at_call 60;refine(pJ y w3).mono ?_;rintro e w4 ⟨rfl,hb⟩;have H4:=zH (H3.o.step hb);have Z4:=zH ((hb.block _ (ai Z3.o)).trans Z3.o);clear hb)
   |(with_reducible refine sR rfl 33 (.tmp 2) (.tmp 24) rfl rfl rfl Z4.o ?_))
  refine rB rfl w.heap.size 33 rfl (sH Z4.o) rfl rfl rfl ?_;exact⟨_,_,rfl,vw0 _ _ _ _,FL hp,H4.o.row (G8 _) Hb.o _⟩
 ·go_wp2_with(first
   |(go_at_call 61;refine(dP w2).mono ?_;rintro e w4 ⟨rfl,hb⟩;have H4:=zH (H2.o.step hb);have Z4:=zH ((hb.block _ (ai Z2.o)).trans Z2.o);clear hb)
   |(with_reducible refine sR rfl 33 (.tmp 2) (.tmp 27) rfl rfl rfl Z4.o ?_))
  refine rB rfl w.heap.size 33 rfl (sH Z4.o) rfl rfl rfl ?_;exact⟨_,_,rfl,vw0 _ _ _ _,FG,H4.o.row (G8 _) Hb.o _⟩
 ·go_wp2_with(first
   |(go_at_call 68;refine(mq (ex (lo w.heap.size) w.heap.size) [] w2 (GU G0 0 0) (dU ((bh _).mono H2.o.size) (ai Z2.o)) ⟨0,G0,0,rfl,Rw.nil _ _ _ _ _⟩ (by simp)).mono ?_;rintro e w4 ⟨v4,rfl,hv4,hb⟩;obtain⟨d4,cs4,rfl,hv4⟩:=hv4;obtain⟨q1,q2,q3,q4,q5,q6,q7,q8,rfl⟩:=hv4.seven;have Hv4:=zH hv4;have H4:=zH (H2.o.step hb);have Z4:=zH ((hb.block _ (ai Z2.o)).trans Z2.o);clear hb hv4)
   |(with_reducible refine sR rfl 33 (.tmp 2) (.tmp 28) rfl rfl rfl Z4.o ?_))
  refine rB rfl w.heap.size 33 rfl (sH Z4.o) rfl rfl rfl ?_;exact⟨_,_,rfl,j3 ⟨d4,_,rfl,Hv4.o⟩ _,FH,H4.o.row (G8 _) Hb.o _⟩
def mkF(n:Int)(l:List EE):VV×Int:=if 0<=n/\n<=4/\l.all (bQ n)=G6 then(.mk 9 n aQ [] [] (dt l) [],0)else(zeroV,1)
def VCR(E:Nat->Bool)(p:VV×Int)(w:World)(e:Ending)(w':World):Prop:=∃v,e=.returned (.tuple #[v,GX GZ p.2])/\VW (we E w') v p.1/\p.2=p.2/\Below w.heap.size w w'
theorem wF {w:World}{p:Option Addr}{c d:Nat}{l:List EE}(h:Rw w p c 9 l (ES w d))(k n:Int)(s:ByteArray):VW w (.agg #[GX GZ k,GX GZ n,GW s,GU G0 0 0,GU G0 0 0,GU p l.length c,GU G0 0 0]) (.mk k n s [] [] l []):=
 ⟨d+1,_,rfl,G0,0,G0,0,p,c,G0,0,rfl,Rw.nil _ _ _ _ _,Rw.nil _ _ _ _ _,h,Rw.nil _ _ _ _ _⟩
theorem pK(E:Nat->Bool)(n:Int)(l:List EE)(w:World)(u:Value)(hE:Old E w.heap.size)(hu:EY (we E w) u l)(hl:l.length<=1000):Calls Tryz.prog 21 #[GX GZ n,u] w (VCR E (mkF n l) w):=by
 have HE:=zH hE;obtain⟨d,p,c,rfl,hr⟩:=hu;have HR:=zH hr;clear hr hE;go_enter Tryz.func21,Tryz.ntmps21;go_upto_region 1 with fail
 have hC:=HG w (GY #[GX GZ 0,GX GZ 0,GW ⟨#[]⟩,GU G0 0 0,GU G0 0 0,GU G0 0 0,GU G0 0 0] 33);have hb:Below w.heap.size w (w.alloc (GY #[GX GZ 0,GX GZ 0,GW ⟨#[]⟩,GU G0 0 0,GU G0 0 0,GU G0 0 0,GU G0 0 0] 33)):=(Below.refl _ _).alloc (G8 _) _;generalize w.alloc (GY #[GX GZ 0,GX GZ 0,GW ⟨#[]⟩,GU G0 0 0,GU G0 0 0,GU G0 0 0,GU G0 0 0] 33)=w1 at*
 have hlC:=ai hC;have HC:=zH hC;have Hb:=zH hb;clear hC hb;by_cases n0:n<0
 ·have d0:decide (n<0)=true:=by simp[n0]
  have Hno:=zH (show mkF n l=(zeroV,1)by unfold mkF;rw[if_neg (by omega)]);clear n0;have hC:=((Below.refl w1.heap.size w1).block _ hlC).trans HC.o;go_wp2_with(with_reducible refine sR rfl 33 (.tmp 4) (.tmp 13) rfl rfl rfl hC ?_);refine Jm (aV rfl _ _ w.heap.size 33 _ (0,0) _ rfl (sH hC) rfl rfl (by kernel_rfl)) rfl ?_;exact⟨_,by rw[Hno.o];rfl,by rw[Hno.o];exact vw0 _ _ _ _,rfl,aR (Hb.o.step (Below.refl w1.heap.size w1)) (G8 _)⟩
 have d0:decide (n<0)=false:=by simp;omega
 by_cases n4:4<n
 ·have d1:decide (4<n)=true:=by simp[n4]
  have Hno:=zH (show mkF n l=(zeroV,1)by unfold mkF;rw[if_neg (by omega)]);clear n0 n4;have hC:=((Below.refl w1.heap.size w1).block _ hlC).trans HC.o;go_wp2_with(with_reducible refine sR rfl 33 (.tmp 4) (.tmp 13) rfl rfl rfl hC ?_);refine Jm (aV rfl _ _ w.heap.size 33 _ (0,0) _ rfl (sH hC) rfl rfl (by kernel_rfl)) rfl ?_;exact⟨_,by rw[Hno.o];rfl,by rw[Hno.o];exact vw0 _ _ _ _,rfl,aR (Hb.o.step (Below.refl w1.heap.size w1)) (G8 _)⟩
 have d1:decide (4<n)=false:=by simp;omega
 have Hmk:=zH (show l.all (bQ n)=G6->mkF n l=(.mk 9 n aQ [] [] (dt l) [],0)from fun h=>by unfold mkF;rw[if_pos ⟨by omega,by omega,h⟩]);have Hmn:=zH (show l.all (bQ n)=G7->mkF n l=(zeroV,1)from fun h=>by unfold mkF;rw[if_neg (fun g=>by rw[h]at g;simp at g)]);clear n0 n4;go_wp2;clear d0 d1;go_loopw[6] (fun i wr=>∃k:Nat,i=GX GZ k/\k<=l.length/\(∀j (h:j<l.length),j<k->bQ n l[j]=G6)/\Below w1.heap.size w1 wr) (fun i _=>l.length-(intOf i).toNat)
 case atStart=>exact⟨0,rfl,by omega,fun j _ h=>by omega,Below.refl _ _⟩
 case round=>
  obtain⟨k,rfl,hk,hall,hbr⟩:=hrel;have Hall:=zH hall;have Hbr:=zH hbr;have Hbw:=zH (Hb.o.step hbr);clear hall hbr;by_cases hlt:k<l.length
  ·have d9:decide (k<l.length)=true:=by simp;omega
   obtain⟨a,o,cs,rfl,-,-,hrg,hX⟩:=HR.o.at hlt;obtain⟨x9,xa,x1,x2,x3,x4,x5,x6,x7,x8,rfl⟩:=hX.nine;have HX:=zH ((hX.sub (db E w)).below Hbw.o);have z0:=ae Hbw.o (aJ (hrg 0 _ rfl)).2;have z1:=ae Hbw.o (aJ (hrg 1 _ rfl)).2;have z2:=ae Hbw.o (aJ (hrg 2 _ rfl)).2;have z3:=ae Hbw.o (aJ (hrg 3 _ rfl)).2;have z4:=ae Hbw.o (aJ (hrg 4 _ rfl)).2;have z5:=ae Hbw.o (aJ (hrg 5 _ rfl)).2;have z6:=ae Hbw.o (aJ (hrg 6 _ rfl)).2;have z7:=ae Hbw.o (aJ (hrg 7 _ rfl)).2;have z8:=ae Hbw.o (aJ (hrg 8 _ rfl)).2;rw[Nat.add_zero]at z0;have Hno1:=zH (show bQ n l[k]=G7->mkF n l=(zeroV,1)from fun h=>Hmn.o (iZ hlt h));have Hnx:=zH (show bQ n l[k]=G6->∀j (h:j<l.length),j<k+1->bQ n l[j]=G6 from fun g j h hj=>by
    rcases Nat.lt_succ_iff_lt_or_eq.1 hj with g2|rfl
    ·exact Hall.o j h g2
    ·exact g)
   have hbig:l[k].args.length<=9223372036854775807:=by obtain⟨_,_,_,_,h,_⟩:=hX;exact h.big
   clear hrg hX;generalize l[k]=x at*
   by_cases hn:(x.args.length:Int)=n;rotate_left
   ·have d2:((x.args.length:Int)!=n)=true:=by simp[hn]
    have Hno:=zH (Hno1.o (by unfold bQ;rw[decide_eq_false hn];rfl));clear hn;have hC:=((Hbr.o).block _ hlC).trans HC.o;go_wp2_with(with_reducible refine sR rfl 33 (.tmp 4) (.tmp 45) rfl rfl rfl hC ?_);refine Jm (aV rfl _ _ w.heap.size 33 _ (0,0) _ rfl (sH hC) rfl rfl (by kernel_rfl)) rfl ?_;exact⟨_,by rw[Hno.o];rfl,by rw[Hno.o];exact vw0 _ _ _ _,rfl,aR (Hb.o.step (Hbr.o)) (G8 _)⟩
   have d2:((x.args.length:Int)!=n)=false:=by simp[hn]
   have Hen:=zH (show bQ n x=(!x.fails||decide (bH x.res zeroV=0))by unfold bQ;rw[decide_eq_true hn];rfl);clear hn;cases hf:x.fails with
   | false =>
     rw[hf]at z1;have Hnx2:=zH (Hnx.o (by rw[Hen.o,hf];rfl));clear hf;go_wp2;exact⟨⟨k+1,by go_num,by omega,Hnx2.o,Hbr.o⟩,by simp[intOf];omega⟩
   | true =>
     rw[hf]at z1;have hres:VS wr d x.res [GX GZ x.res.kind,GX GZ x.res.num,GW x.res.text,GU x1 x.res.kids.length x2,GU x3 x.res.keys.length x4,GU x5 x.res.ents.length x6,GU x7 x.res.labels.length x8]:=by
      obtain⟨_,_,_,e7,_,h7⟩:=HX.o;simp at e7;obtain⟨-,rfl⟩:=e7;exact h7
     have Heq:=zH (iw x.res zeroV wr _ (.agg #[GX GZ 0,GX GZ 0,GW ⟨#[]⟩,GU G0 0 0,GU G0 0 0,GU G0 0 0,GU G0 0 0]) ⟨_,_,rfl,hres⟩ ⟨1,_,rfl,fU _⟩);clear hres;cases hz:decide (bH x.res zeroV=0)with
     | false =>
       have Hno:=zH (Hno1.o (by rw[Hen.o,hf,hz];rfl));rw[hz]at Heq;clear hz hf;go_upto_region 7 with(go_at_call 41;refine Heq.o.mono ?_;rintro e w6 ⟨rfl,hb6⟩;have Hb6:=zH (Hbr.o.step hb6);clear hb6)
       have hC:=((Hb6.o).block _ hlC).trans HC.o;go_wp2_with(with_reducible refine sR rfl 33 (.tmp 4) (.tmp 45) rfl rfl rfl hC ?_);refine Jm (aV rfl _ _ w.heap.size 33 _ (0,0) _ rfl (sH hC) rfl rfl (by kernel_rfl)) rfl ?_;exact⟨_,by rw[Hno.o];rfl,by rw[Hno.o];exact vw0 _ _ _ _,rfl,aR (Hb.o.step (Hb6.o)) (G8 _)⟩
     | true =>
       have Hnx2:=zH (Hnx.o (by rw[Hen.o,hf,hz];rfl));rw[hz]at Heq;clear hz hf;go_wp2_with(go_at_call 41;refine Heq.o.mono ?_;rintro e w6 ⟨rfl,hb6⟩;have Hb6:=zH (Hbr.o.step hb6);clear hb6);exact⟨⟨k+1,by go_num,by omega,Hnx2.o,Hb6.o⟩,by simp[intOf];omega⟩
  ·have d9:decide (k<l.length)=false:=by simp;omega
   have Hy:=zH (Hmk.o (by rw[List.all_eq_true];intro e he;obtain⟨j,hj,rfl⟩:=List.mem_iff_getElem.1 he;exact Hall.o j hj (by omega)));have Hc:=zH (sT (ex E w.heap.size) l wr (GU p l.length c) (dU (HE.o.mono Hbw.o.size) (Nat.lt_of_lt_of_le hlC Hbr.o.size)) ⟨d,p,c,rfl,(HR.o.below (ew Hbw.o (G8 _)) fun _ _ _ h=>h.below (ew Hbw.o (G8 _)))⟩ hl);have hC:=(Hbr.o.block _ hlC).trans HC.o;have HC2:=zH hC;clear hC;go_wp2_with(first
    |(go_at_call 42;refine Hc.o.mono ?_;rintro e w6 ⟨v6,rfl,hv6,hb6⟩;obtain⟨d6,p6,c6,rfl,hr6⟩:=hv6;have Hr6:=zH hr6;have Hb6:=zH hb6;have Z6:=zH ((hb6.block _ (ai HC2.o)).trans HC2.o);clear hb6 hr6)
    |(with_reducible refine sR rfl 33 (.tmp 4) (.tmp 49) rfl rfl rfl Z6.o ?_))
   refine Jm (aV rfl _ _ w.heap.size 33 _ (0,0) _ rfl (sH Z6.o) rfl rfl (by kernel_rfl)) rfl ?_;refine⟨_,by rw[Hy.o];rfl,?_,rfl,aR (Hbw.o.step Hb6.o) (G8 _)⟩;rw[Hy.o];exact j3 (wF Hr6.o _ _ _) _
end Go.Proofs.YtfpahmeploondaaGreatDoor
