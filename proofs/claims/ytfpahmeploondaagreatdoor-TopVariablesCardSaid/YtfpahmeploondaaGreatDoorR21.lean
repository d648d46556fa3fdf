/- Walks and plain facts for the law on type variables, for all values and types that the heap holds (texts A4 Tb). -/
import Derived.Test.YtfpahmeploondaaGreatDoorR03
import Derived.Test.YtfpahmeploondaaGreatDoorR07
import Derived.Test.YtfpahmeploondaaGreatDoorR19
import Derived.Test.YtfpahmeploondaaGreatDoorR20
set_option linter.unusedVariables false
set_option linter.unusedSimpArgs false
set_option maxHeartbeats 64000000
open Option renaming none -> G0, some -> G5
open Bool renaming true -> G6
open Go.Value renaming slice -> GU, string -> GW, int -> GX
open Go.Obj renaming cells -> GY
open Go.IntKind renaming i64 -> GZ
open List renaming mem_append_left -> JD, length_append -> Ii, getElem_mem -> Ip, length_map -> Jc
open Go.World renaming ownsRow_nil -> Io, frozen? -> IB, cell? -> Ic
open Go renaming heap_alloc_new -> HG
open Nat renaming le_trans -> G9, le_refl -> G8
open Go.LexK renaming aq -> JQ
namespace Go.Proofs.YtfpahmeploondaaGreatDoor
open Go.RowKit Go.Ident
set_option maxRecDepth 100000
theorem pQ:(Tryz.prog.info? 61).map (fun i=>(i.zero,i.size,i.bytes))=G5 (G5 (.agg #[GX GZ 0,GX GZ 0,GX GZ 0,GW ⟨#[]⟩,GU G0 0 0,GU G0 0 0,GX GZ 0,GX GZ 0]),8,104):=by kernel_rfl
theorem NC.seven {w:World}{X:TN}{cs:List Value}(h:NC w X cs):∃x1 x2 x3 x4,cs=[GX GZ X.kind,GX GZ X.lo,GX GZ X.hi,GW X.text,GU x1 X.kids.length x2,GU x3 X.fields.length x4,GX GZ X.rest0,GX GZ X.rest1]:=by
 obtain⟨p1,c1,p2,c2,rfl,-,-⟩:=h;exact⟨p1,c1,p2,c2,rfl⟩
theorem CK {S:SD}{wq w5 w7:World}{B:Nat}{o:Obj}{av v7 u:Value}{A:List TN}{xs cs:List Value}{X:TN}(hc:Ch 8 (NC (we (aE B av u) wq)) A xs)(hs:SR S wq w5)(hSb:S.b<B)(hx:NC (we (lo wq.heap.size) w5) X cs)
 (hold:Old (aE B av u) wq.heap.size) (hf:Fr [] av v7 (w5.alloc o) w7) (hl:cs.length=8):Ch 8 (NC (we (aE B v7 u) w7)) (A++[X]) (xs++cs):=by
 have hal:Below (we (aE B av u) w5).heap.size (we (aE B av u) w5) (we (aE B av u) (w5.alloc o)):=by rw[ap];exact aS ((Below.refl _ _).alloc (G8 _) _)
 have h1:Ch 8 (NC (we (aE B v7 u) w7)) A xs:=hc.mono fun x cs _ h=>((h.below (by rw[ap];exact hs.we (du hSb))).below hal).sub (dJ hf)
 have h2:NC (we (aE B v7 u) w7) X cs:=((hx.sub (fy w5 hold)).below hal).sub (dJ hf);exact h1.append (Ch.single hl h2)
theorem ED {E:Nat->Bool}{n bx:Nat}{w:World}{v:Value}{T:Ty}(h:TS (we E w) v T)(hx:E bx=G6)(hl:∀k,k<n->E k=G6)(cs:Array Value):TS (we (lo n) (w.setRow bx cs)) v T:=
 (h.below (by rw[ap];exact eN hx cs)).sub (cw _ fun k hk=>hl k (by simpa[lo]using hk))
structure TD(n:Nat)(T:Ty):Prop where
 root:T.root=0
 len:T.nodes.length=n
 at':∀(j:Nat) (h:j<T.nodes.length),DN (j:Int) (n:Int) T.nodes[j]
def TO(B:Nat)(w':World)(v:Value)(T:Ty):Prop:=∃p c xs,v=.agg #[GU p T.nodes.length c,GX GZ T.root]/\w'.ownsRow B 61 8 (GU p T.nodes.length c) T.nodes.length xs/\Ch 8 (NC (we (aE B (GU p T.nodes.length c) (GU G0 0 0)) w')) T.nodes xs
theorem qW {w:World}{B B' n size:Nat}{e:TypeId}{v:Value}{xs:List Value}(h:w.ownsRow B e size v n xs)(hB:B'<=B):w.ownsRow B' e size v n xs:=
 ⟨h.1,h.2.imp id fun⟨g,cap,cur,e1,hb,rest⟩=>⟨g,cap,cur,e1,G9 hB hb,rest⟩⟩
def TR(n:Nat)(S:SD)(w:World)(e:Ending)(w':World):Prop:=∃v T,e=.returned v/\TS (we (lo w.heap.size) w') v T/\TD n T/\SR S w w'/\TO w.heap.size w' v T
theorem Ab(S:SD)(n:Nat)(w:World)(hS:SRC S w)(h1n:1<=n)(hn:n<=1000):Calls Tryz.prog 13 #[.pointer (G5 ⟨S.b,0,G0⟩),GX GZ (n:Int)] w (TR n S w):=by
 have hltS:=hS.lt;have Hb:=zH (show w.heap.size≠S.b by omega);have Ha:=zH (SR.alloc hS (GY #[GU G0 0 0,GX GZ 0] 27));have Hn:=zH (HG w (GY #[GU G0 0 0,GX GZ 0] 27));clear hS;go_enter Tryz.func13,Tryz.ntmps13;go_upto_region 1 with fail
 generalize w.alloc (GY #[GU G0 0 0,GX GZ 0] 27)=w1 at*
 go_upto_region 3 with fail
 rw[show max (n:Int) 1=(n:Int)by omega];have hB4:=HG w1 (GY #[GU G0 0 0,GX GZ 0] 27);have hb4:Below w1.heap.size w1 (w1.alloc (GY #[GU G0 0 0,GX GZ 0] 27)):=(Below.refl _ _).alloc (G8 _) _;generalize w1.alloc (GY #[GU G0 0 0,GX GZ 0] 27)=w4 at*
 have HB4:=zH hB4;have H4:=zH (Ha.o.step hb4);have Z4:=zH ((hb4.block _ (ai Hn.o)).trans Hn.o);have hbw:=(show w.heap.size<w1.heap.size from ai Hn.o)
 clear hB4 hb4;generalize w1.heap.size=bx at*
 go_wp2;go_loopw[6] (fun iv wr=>∃(i:Nat) (L:List TN) (xs:List Value) (tv:Value),iv=GX GZ (i:Int)/\i<=n/\L.length=i/\wr.heap[bx]? =G5 (GY #[tv,GX GZ 0] 27)/\wr.ownsRow (bx+1) 61 8 tv L.length xs/\Ch 8 (NC (we (aE (bx+1) tv (GU G0 0 0)) wr)) L xs/\(∀(j:Nat) (h:j<L.length),DN (j:Int) (n:Int) L[j])/\wr.heap[w.heap.size]? =G5 (GY #[GU G0 0 0,GX GZ 0] 27)/\SR S w wr) (fun iv _=>((n:Int)-intOf iv).toNat)
 case atStart=>exact⟨0,[],[],GU G0 0 0,rfl,by omega,rfl,HB4.o,Io _ _ _ _,Ch.nil,fun j h=>by simp at h,Z4.o,H4.o⟩
 case round=>
  obtain⟨i,L,xs,tv,rfl,hi,hL,hBr,ho,hc,hN,hZr,hsr⟩:=hrel;obtain⟨pa,ca,rfl⟩:=aB ho;have HBr:=zH hBr;have Ho:=zH ho;have Hc:=zH hc;have HN:=zH hN;have HZr:=zH hZr;have Hsr:=zH hsr;have HL:=zH hL;have hsz2:bx+1<=wr.heap.size:=ai hBr;have Hxb:=zH (show bx≠S.b by omega);obtain⟨g0,g1⟩:=aM hBr;clear hBr ho hc hN hZr hsr hL;by_cases hin:i<n
  ·have d9:decide (i<n)=true:=by simp[hin]
   have YB:=zH (show wr.drew.cell? ⟨bx,0,G0⟩=_ from g0);have Hsd:=zH Hsr.o.src.drew;have hlBr:=ai HBr.o;obtain⟨wq,hwq⟩:∃wq:World,wq=wr:=⟨_,rfl⟩
   subst hwq;go_wp2_with(first
    |((with_reducible refine Lex.aP ?_);refine fE (by repeat first|exact LexK.aL|refine LexK.aG rfl ?_|refine LexK.aH (by decide+kernel) ?_|refine LexK.an rfl (Eq.refl _) YB.o ?_) ?_)
    |((with_reducible refine Lex.aI ?_);refine gL (fun x=>x=bx) ?_)
    |(with_reducible first|refine qH ?_|refine LexK.aK ?_|refine LexK.aO ?_)
    |((with_reducible refine Lex.aX ?_);first|(refine JQ hex5.o ?_)|(refine JQ hex7.o ?_)|(refine JQ (LexK.Ext.alloc _ _) ?_)|(refine JQ (LexK.Ext.refl _) ?_))
    |(go_at_call 32;refine(Aa S (i:Int) (n:Int) wq.drew Hsd.o (by omega) (by omega) (by omega)).mono ?_;rintro e w5 ⟨cs,X,rfl,hx,hq,hs⟩;obtain⟨x1,x2,x3,x4,rfl⟩:=hx.seven;have HX:=zH hx;have Hq:=zH hq;have Hs5:=zH hs;have hex5:=zH (iB hs Hxb.o hlBr);have Ho5:=zH (hs.owns (bI Ho.o) (by omega));have H5:=zH (Hsr.o.drew.trans hs);have hw5:bx+1<=w5.heap.size:=(G9 hsz2 hs.size);clear hx hq hs)
    |(at_builtin;go_loud(refine aA rfl (.tmp 16) (.tmp 21) 25 rfl 61 (by kernel_rfl) pQ rfl (by decide) (by decide) (bx+1) _ w5.heap.size [GX GZ X.kind,GX GZ X.lo,GX GZ X.hi,GW X.text,GU x1 X.kids.length x2,GU x3 X.fields.length x4,GX GZ X.rest0,GX GZ X.rest1] (HG w5 _) (G9 hw5 (by simp)) rfl (by intro u hu;simp at hu;rcases hu with rfl|rfl|rfl|rfl|rfl|rfl|rfl|rfl<;>rfl) (GU pa L.length ca) L.length xs rfl (ao Ho5.o ((Below.refl _ _).alloc (G8 _) _) (G8 _)) (by have:=HL.o;omega) rfl ?_);intro v7 w7 ho7 hf7;have hb7:=(hf7.below (G9 hw5 (by simp)) (by simp) fun g hg=>(Ho5.o.lt g hg).1);have hex7:=zH (show LexK.Ext (fun x=>x=bx) (w5.alloc (GY #[GX GZ X.kind,GX GZ X.lo,GX GZ X.hi,GW X.text,GU x1 X.kids.length x2,GU x3 X.fields.length x4,GX GZ X.rest0,GX GZ X.rest1] 61)) w7 from kJ hb7 (by omega));have Hb7:=zH (((Below.refl w5.heap.size w5).alloc (G8 _) (GY #[GX GZ X.kind,GX GZ X.lo,GX GZ X.hi,GW X.text,GU x1 X.kids.length x2,GU x3 X.fields.length x4,GX GZ X.rest0,GX GZ X.rest1] 61)).mono hw5|>.trans hb7);obtain⟨p7,c7,rfl⟩:=aB ho7;have Ho7:=zH ho7;have hB7:=(Hb7.o.block bx (by omega)).trans ((Hs5.o.block hlBr Hxb.o).trans HBr.o);have HB7:=zH hB7;have HU:=zH (Upd.set (i:=0) (v:=GU p7 (L.length+1) c7) (Upd.refl hB7));have hz0:w7.cell? ⟨bx,0,G0⟩=G5 (GU pa L.length ca):=(by simp[Ic,hB7]);have hz1:w7.frozen? ⟨bx,0,G0⟩=false:=(by simp[IB,hB7]);have Hf7:=zH hf7;clear ho7 hf7 hb7 hB7))
   have hB8:=HU.o.blk;have hcA:=CK Hc.o ((SR.refl Hsr.o.src).drew.trans Hs5.o) (by omega) HX.o (eO Ho.o (Io wq 0 0 0) hsz2) Hf7.o rfl;refine⟨⟨i+1,L++[X],xs++[GX GZ X.kind,GX GZ X.lo,GX GZ X.hi,GW X.text,GU x1 X.kids.length x2,GU x3 X.fields.length x4,GX GZ X.rest0,GX GZ X.rest1],GU p7 (L.length+1) c7,by first|rfl|(congr 1),by omega,by rw[Ii,HL.o];rfl,by simpa using hB8,by rw[Ii];exact bC Ho7.o HU.o (by omega),?_,fun j hj=>?_,?_,(H5.o.app (Hb7.o.mono (by omega))).app (HU.o.below (by omega))⟩,by simp[intOf];omega⟩
   ·exact hcA.mono fun x cs _ h=>h.below (by rw[ap];exact bA HU.o (du (by omega)))
   ·by_cases e:j<L.length
    ·rw[List.getElem_append_left e];exact HN.o j e
    ·have:j=L.length:=by rw[Ii]at hj;have:[X].length=1:=rfl;omega
     subst this;rw[List.getElem_append_right (G8 _)];simp only[Nat.sub_self,List.getElem_cons_zero];have:=HL.o;rw[show L.length=i from this];exact Hq.o
   ·exact(HU.o.other w.heap.size (by omega)).trans ((Hb7.o.block _ (by omega)).trans ((Hs5.o.block (by show w.heap.size<wq.heap.size;omega) Hb.o).trans HZr.o))
  ·have d9:decide (i<n)=false:=by simp;omega
   obtain rfl:i=n:=by omega
   go_wp2_with(with_reducible refine sR rfl 27 (.tmp 4) (.tmp 24) rfl rfl rfl HZr.o ?_);refine rB rfl w.heap.size 27 rfl (sH HZr.o) rfl rfl rfl ?_;have HcE:=Hc.o.mono fun x cs _ h=>h.sub (eU _ _ _ _)
   obtain⟨pz,cz,ez,hrw⟩:=bu (bJ Ho.o (bh _)) HcE (by have:=HL.o;omega);injection ez with ez1 _ ez3
   subst ez1 ez3;refine⟨_,⟨L,0⟩,rfl,ED (T:=⟨L,0⟩) ⟨_,_,rfl,hrw,fun x hx=>by obtain⟨j,hj,rfl⟩:=List.mem_iff_getElem.1 hx;exact G9 (HN.o j hj).kids (by decide)⟩ (show lo (bx+1) w.heap.size=G6 by simp[lo];omega) (fun k hk=>by simp[lo];omega) _,⟨rfl,HL.o,HN.o⟩,Hsr.o.row (G8 _) Hb.o _,⟨_,_,xs,rfl,qW (cF Ho.o fun g hg=>setRow_other _ _ _ _ (by have:=(Ho.o.lt g hg).1;omega)) (by omega),Hc.o.mono fun x cs _ h=>(h.below (by rw[ap];exact eN (du (by omega)) _)).sub (cw _ fun k hk=>?_)⟩⟩;simp only[aE,Bool.or_eq_true,decide_eq_true_eq]at hk ⊢;rcases hk with hk|hk
   ·exact .inl (by omega)
   ·exact .inr hk
theorem EF {w:World}{n:TN}{d:Int}{B B':Nat}{pk pf:Option Addr}{ck cf:Nat}(hk:w.ownsRow B 3 1 (GU pk n.kids.length ck) n.kids.length (ic (n.kids.map (· +d))))(hf:w.ownsRow B' 105 4 (GU pf n.fields.length cf) n.fields.length (fc (n.fields.map (shF d))))(h2:n.fields.length<=1000):
 NC w (shN d n) [GX GZ n.kind,GX GZ n.lo,GX GZ n.hi,GW n.text,GU pk n.kids.length ck,GU pf n.fields.length cf,GX GZ (if n.kind=13 then n.rest0+d else n.rest0),GX GZ (if n.kind=13 then n.rest1+d else n.rest1)]:=by
 have e1:(n.kids.map (· +d)).length=n.kids.length:=Jc _;have e2:(n.fields.map (shF d)).length=n.fields.length:=Jc _;refine⟨pk,ck,pf,cf,?_,?_,?_⟩
 ·show _=[_,_,_,_,GU pk (n.kids.map (· +d)).length ck,GU pf (n.fields.map (shF d)).length cf,_,_]
  rw[e1,e2];rfl
 ·show IS w (GU pk (n.kids.map (· +d)).length ck) (n.kids.map (· +d));exact⟨pk,ck,rfl,by rw[e1];exact eo hk,by rw[e1];exact RC.of_own hk⟩
 ·exact Ew (l:=n.fields.map (shF d)) (by rw[e2];exact hf) (by rw[e2];omega)
theorem wW {w:World}{n:TN}{d:Int}{B B' m:Nat}{pk pf:Option Addr}{ck cf:Nat}(hk:w.ownsRow B 3 1 (GU pk n.kids.length ck) n.kids.length (ic (n.kids.map (· +d))))(hf:w.ownsRow B' 105 4 (GU pf n.fields.length cf) n.fields.length (fc (n.fields.map (shF d))))(h2:n.fields.length<=1000){x:Nat}(h3:x<B)(h4:x<B')(h5:m<=B)(h6:m<=B')(cs:Array Value):
 NC (we (lo m) (w.setRow x cs)) (shN d n) [GX GZ n.kind,GX GZ n.lo,GX GZ n.hi,GW n.text,GU pk n.kids.length ck,GU pf n.fields.length cf,GX GZ (if n.kind=13 then n.rest0+d else n.rest0),GX GZ (if n.kind=13 then n.rest1+d else n.rest1)]:=
 EF (bJ (cF hk fun g hg=>setRow_other _ _ _ _ (by have:=(hk.lt g hg).1;omega)) ((bh m).mono h5)) (bJ (cF hf fun g hg=>setRow_other _ _ _ _ (by have:=(hf.lt g hg).1;omega)) ((bh m).mono h6)) h2
theorem th(n:TN)(d:Int)(w:World)(cs:List Value)(hn:NC w n cs)(h1:n.kids.length<=1000)(h2:n.fields.length<=1000)(he:∀k∈bq n,0<=k/\k<=100000)(hd:0<=d/\d<=100000):
 Calls Tryz.prog 37 #[.agg cs.toArray,GX GZ d] w fun e w'=>∃cs',e=.returned (.agg cs'.toArray)/\NC (we (lo w.heap.size) w') (shN d n) cs'/\Below w.heap.size w w':=by
 obtain⟨p1,c1,p2,c2,rfl,hk,hf⟩:=hn;have hkr:RC w 1 p1 n.kids.length (ic n.kids):=by
  obtain⟨p,c,e,_,hr⟩:=hk;injection e with e1 e2 e3
  subst e1;exact hr
 have hfr:=FM hf;obtain⟨w2,e9,hA,hB,hb⟩:=bE w (GY #[GX GZ n.kind,GX GZ n.lo,GX GZ n.hi,GW n.text,GU p1 n.kids.length c1,GU p2 n.fields.length c2,GX GZ n.rest0,GX GZ n.rest1] 61) (GY #[GX GZ 0,GX GZ 0,GX GZ 0,GW ⟨#[]⟩,GU G0 0 0,GU G0 0 0,GX GZ 0,GX GZ 0] 61);have Hkr:=zH (hkr.below hb);have Hfr:=zH hfr;have He:=zH he;have Hd:=zH hd;have Hs2:=zH (show w2.heap.size=w.heap.size+2 by rw[<-e9];simp);have HA:=zH hA;have HB:=zH hB;have Hb:=zH hb;have E9:=zH e9;have g4:w2.cell? ⟨w.heap.size,4,G0⟩=G5 (GU p1 n.kids.length c1):=by simp[Ic,hA]
 clear hk hf hkr hfr hA hB hb e9 he hd;go_enter Tryz.func37,Tryz.ntmps37;go_upto_region 1 with fail
 rw[E9.o];clear E9;go_upto_region 2 with(go_at_call 70;refine(nU p1 _ c1 _ w2 Hkr.o (uP _) (by omega)).mono ?_;rintro e w3 ⟨kv,rfl,ho,hb3⟩;obtain⟨pk,ck,rfl⟩:=aB ho;have Ho:=zH ho;have Hb3:=zH hb3;have HA3:=zH ((hb3.block _ (ai HA.o)).trans HA.o);have g7:w3.frozen? ⟨w.heap.size,4,G0⟩=false:=(by simp[IB,HA3.o]);have g8:w3.cell? ⟨w.heap.size,4,G0⟩=G5 (GU p1 n.kids.length c1):=(by simp[Ic,HA3.o]);clear ho hb3)
 have HU:=zH (show Upd w.heap.size (GY #[GX GZ n.kind,GX GZ n.lo,GX GZ n.hi,GW n.text,GU pk n.kids.length ck,GU p2 n.fields.length c2,GX GZ n.rest0,GX GZ n.rest1] 61) w3 (w3.setCell ⟨w.heap.size,4,G0⟩ (GU pk n.kids.length ck))from Upd.cast (Upd.set (i:=4) (v:=GU pk n.kids.length ck) (Upd.refl HA3.o)) rfl);clear g4 g7 g8;generalize w3.setCell ⟨w.heap.size,4,G0⟩ (GU pk n.kids.length ck)=w4 at*
 have hs2:=Hs2.o;have hlt3:w.heap.size+2<=w3.heap.size:=by have:=Hb3.o.size;omega
 have Hb4:=zH ((Hb.o.trans (Hb3.o.mono (by omega))).trans (HU.o.below (G8 _)):Below w.heap.size w w4);have HB4:=zH ((HU.o.other (w.heap.size+1) (by omega)).trans ((Hb3.o.block (w.heap.size+1) (by omega)).trans HB.o));have HA4:=zH HU.o.blk;have HK4:=zH (qW (bC Ho.o HU.o (by omega)) (show w.heap.size+2<=w2.heap.size by omega));have g4:w4.cell? ⟨w.heap.size,4,G0⟩=G5 (GU pk n.kids.length ck):=by simp[Ic,HA4.o]
 clear Hkr HA HB Ho HA3 HU Hb3 Hs2 hs2 hlt3 Hb;go_wp2;go_loopw[14] (fun iv wr=>∃(i:Nat),iv=GX GZ (i:Int)/\i<=n.kids.length/\wr.ownsRow (w.heap.size+2) 3 1 (GU pk n.kids.length ck) n.kids.length (ic (upI d i n.kids))/\wr.heap[w.heap.size]? =G5 (GY #[GX GZ n.kind,GX GZ n.lo,GX GZ n.hi,GW n.text,GU pk n.kids.length ck,GU p2 n.fields.length c2,GX GZ n.rest0,GX GZ n.rest1] 61)/\wr.heap[w.heap.size+1]? =G5 (GY #[GX GZ 0,GX GZ 0,GX GZ 0,GW ⟨#[]⟩,GU G0 0 0,GU G0 0 0,GX GZ 0,GX GZ 0] 61)/\Below w.heap.size w wr) (fun iv _=>n.kids.length-(intOf iv).toNat)
 case atStart=>exact⟨0,rfl,by omega,by rw[zY];exact HK4.o,HA4.o,HB4.o,Hb4.o⟩
 case round=>
  obtain⟨i,rfl,hi,hk,hA,hB,hb⟩:=hrel;clear g4 HK4 HA4 HB4 Hb4;have g5:wr.cell? ⟨w.heap.size,4,G0⟩=G5 (GU pk n.kids.length ck):=by simp[Ic,hA]
  have HA:=zH hA;have HB:=zH hB;have Hb:=zH hb;have Hk:=zH hk;clear hA hB hb;by_cases hin:i<n.kids.length
  ·have d9:decide (i<n.kids.length)=true:=by simp[hin]
   obtain⟨gk,rfl⟩:=kB hk (by omega);have c9:wr.cell? ⟨gk,i,G0⟩=G5 (GX GZ n.kids[i]):=(hk.cellAt i (by omega)).trans (Et hin);have f9:=hk.frozenAt i;have hlo:=hk.lt gk rfl;have hst:=hk.stored i (GX GZ (n.kids[i]+d));rw[CF hin]at hst;have Hst:=zH hst;clear hk hst;have he9:=He.o n.kids[i] (JD _ (Ip hin));have hd9:=Hd.o;go_wp2;refine⟨⟨i+1,by first|rfl|(congr 1),by omega,Hst.o.1,?_,?_,Hb.o.setCell (by show w.heap.size<=gk;omega) _⟩,by simp[intOf];omega⟩
   ·rw[Below.heap_setCell _ _ _ _ (by show w.heap.size≠gk;omega)];exact HA.o
   ·rw[Below.heap_setCell _ _ _ _ (by show w.heap.size+1≠gk;omega)];exact HB.o
  ·have d9:decide (i<n.kids.length)=false:=by simp;omega
   obtain rfl:i=n.kids.length:=by omega
   rw[CE]at hk Hk;have hsz5:=ai HB.o;have g6:wr.cell? ⟨w.heap.size,5,G0⟩=G5 (GU p2 n.fields.length c2):=by simp[Ic,HA.o]
   go_upto_region 7 with fail
   clear g5 hk hi d9;go_upto_region 8 with(go_at_call 71;refine(vj p2 _ c2 _ wr (Hfr.o.below Hb.o) (Eu _) (by omega)).mono ?_;rintro e w5 ⟨fv,rfl,ho,hb5⟩;obtain⟨pf,cf,rfl⟩:=aB ho;have Ho:=zH ho;have Hb5:=zH hb5;have HA5:=zH ((hb5.block _ (ai HA.o)).trans HA.o);have g7:w5.frozen? ⟨w.heap.size,5,G0⟩=false:=(by simp[IB,HA5.o]);have g8:w5.cell? ⟨w.heap.size,5,G0⟩=G5 (GU p2 n.fields.length c2):=(by simp[Ic,HA5.o]);clear ho hb5)
   have HU:=zH (show Upd w.heap.size (GY #[GX GZ n.kind,GX GZ n.lo,GX GZ n.hi,GW n.text,GU pk n.kids.length ck,GU pf n.fields.length cf,GX GZ n.rest0,GX GZ n.rest1] 61) w5 (w5.setCell ⟨w.heap.size,5,G0⟩ (GU pf n.fields.length cf))from Upd.cast (Upd.set (i:=5) (v:=GU pf n.fields.length cf) (Upd.refl HA5.o)) rfl);clear g6 g7 g8;generalize w5.setCell ⟨w.heap.size,5,G0⟩ (GU pf n.fields.length cf)=w6 at*
   have hlt5:=Hb5.o.size;have HB6:=zH ((HU.o.other (w.heap.size+1) (by omega)).trans ((Hb5.o.block (w.heap.size+1) (by omega)).trans HB.o));have HA6:=zH HU.o.blk;have HK6:=zH (bC (ao Hk.o Hb5.o (G8 _)) HU.o (by omega));have HF6:=zH (bC Ho.o HU.o (by omega));have hkl:=fun g hg=>(Hk.o.lt g hg).2
   have hb0:w.heap.size+2<=wr.heap.size:=by omega
   have Hb6:=zH ((Hb.o.trans (Hb5.o.mono (by omega))).trans (HU.o.below (G8 _)):Below w.heap.size w w6);have g4:w6.cell? ⟨w.heap.size,5,G0⟩=G5 (GU pf n.fields.length cf):=by simp[Ic,HA6.o]
   clear Hb HA HB Hk Ho HA5 HU Hb5 hlt5;generalize wr.heap.size=b5 at*
   clear hsz5 wr;go_wp2;go_loopw[33] (fun iv wr=>∃(i:Nat),iv=GX GZ (i:Int)/\i<=n.fields.length/\wr.ownsRow b5 105 4 (GU pf n.fields.length cf) n.fields.length (fc (upF d i n.fields))/\wr.ownsRow (w.heap.size+2) 3 1 (GU pk n.kids.length ck) n.kids.length (ic (n.kids.map (· +d)))/\wr.heap[w.heap.size]? =G5 (GY #[GX GZ n.kind,GX GZ n.lo,GX GZ n.hi,GW n.text,GU pk n.kids.length ck,GU pf n.fields.length cf,GX GZ n.rest0,GX GZ n.rest1] 61)/\wr.heap[w.heap.size+1]? =G5 (GY #[GX GZ 0,GX GZ 0,GX GZ 0,GW ⟨#[]⟩,GU G0 0 0,GU G0 0 0,GX GZ 0,GX GZ 0] 61)/\Below w.heap.size w wr) (fun iv _=>n.fields.length-(intOf iv).toNat)
   case atStart=>exact⟨0,rfl,by omega,by rw[zZ];exact HF6.o,HK6.o,HA6.o,HB6.o,Hb6.o⟩
   case round=>
    obtain⟨i,rfl,hi,hf,hk,hA,hB,hb⟩:=hrel;clear g4 HF6 HK6 HA6 HB6 Hb6;have g5:wr.cell? ⟨w.heap.size,5,G0⟩=G5 (GU pf n.fields.length cf):=by simp[Ic,hA]
    have HA:=zH hA;have HB:=zH hB;have Hb:=zH hb;have Hk:=zH hk;have Hf:=zH hf;clear hA hB hb hk;by_cases hin2:i<n.fields.length
    ·have d9:decide (i<n.fields.length)=true:=by simp[hin2]
     obtain⟨gf,rfl⟩:=kB hf (by omega);have c9:wr.cell? ⟨gf,i*4+2,G0⟩=G5 (GX GZ n.fields[i].node):=(hf.cellAt (i*4+2) (by omega)).trans (Ex hin2);have f9:=hf.frozenAt (i*4+2);have hlo:=hf.lt gf rfl;have hst:=hf.stored (i*4+2) (GX GZ (n.fields[i].node+d));rw[CI hin2]at hst;have Hst:=zH hst;clear hf hst;have he9:=He.o n.fields[i].node (List.mem_append_right _ (JD _ (List.mem_map.2 ⟨_,Ip hin2,rfl⟩)));have hd9:=Hd.o;go_wp2;refine⟨⟨i+1,by first|rfl|(congr 1),by omega,Hst.o.1,cF Hk.o (fun g hg=>Below.heap_setCell _ _ _ _ (by have:=hkl g hg;show g≠gf;omega)),?_,?_,Hb.o.setCell (by show w.heap.size<=gf;omega) _⟩,by simp[intOf];omega⟩
     ·rw[Below.heap_setCell _ _ _ _ (by show w.heap.size≠gf;omega)];exact HA.o
     ·rw[Below.heap_setCell _ _ _ _ (by show w.heap.size+1≠gf;omega)];exact HB.o
    ·have d9:decide (i<n.fields.length)=false:=by simp;omega
     obtain rfl:i=n.fields.length:=by omega
     rw[CG]at hf Hf;have hsz5:=ai HB.o;obtain⟨⟨y0,y1,y2,y3⟩,y4,y5,y6,y7⟩:=aY HA.o;clear g5 hf hi;go_upto_region 13 with fail
     clear d9;by_cases h13:n.kind=13
     ·have d13:(n.kind==13)=true:=by simp[h13]
      have hr0:=He.o n.rest0 (by simp[bq,h13]);have hr1:=He.o n.rest1 (by simp[bq,h13]);have hd9:=Hd.o;have z6:wr.frozen? ⟨w.heap.size,6,G0⟩=false:=by simp[IB,HA.o]
      have H13:=zH h13;clear h13;go_upto_region 15 with fail
      have HU:=zH (show Upd w.heap.size (GY #[GX GZ n.kind,GX GZ n.lo,GX GZ n.hi,GW n.text,GU pk n.kids.length ck,GU pf n.fields.length cf,GX GZ (n.rest0+d),GX GZ n.rest1] 61) wr (wr.setCell ⟨w.heap.size,6,G0⟩ (GX GZ (n.rest0+d)))from Upd.cast (Upd.set (i:=6) (v:=GX GZ (n.rest0+d)) (Upd.refl HA.o)) rfl);clear y0 y1 y2 y3 y4 y5 y6 y7;generalize wr.setCell ⟨w.heap.size,6,G0⟩ (GX GZ (n.rest0+d))=w7 at*
      have y7:w7.cell? ⟨w.heap.size,7,G0⟩=G5 (GX GZ n.rest1):=by simp[Ic,HU.o.blk]
      have z7:w7.frozen? ⟨w.heap.size,7,G0⟩=false:=by simp[IB,HU.o.blk]
      go_upto_region 16 with fail
      have HV:=zH (show Upd w.heap.size (GY #[GX GZ n.kind,GX GZ n.lo,GX GZ n.hi,GW n.text,GU pk n.kids.length ck,GU pf n.fields.length cf,GX GZ (n.rest0+d),GX GZ (n.rest1+d)] 61) wr (w7.setCell ⟨w.heap.size,7,G0⟩ (GX GZ (n.rest1+d)))from Upd.cast (Upd.set (i:=7) (v:=GX GZ (n.rest1+d)) HU.o) rfl);clear y7 z7 z6;generalize w7.setCell ⟨w.heap.size,7,G0⟩ (GX GZ (n.rest1+d))=w8 at*
      obtain⟨⟨y0,y1,y2,y3⟩,y4,y5,y6,y7⟩:=aY HV.o.blk;have HB8:=zH ((HV.o.other (w.heap.size+1) (by omega)).trans HB.o);go_wp2_with(with_reducible refine sR rfl 61 (.tmp 4) (.tmp 64) rfl rfl rfl HB8.o ?_);refine rB rfl (w.heap.size+1) 61 rfl (sH HB8.o) rfl rfl rfl ?_;refine⟨_,rfl,?_,aR (Hb.o.trans (HV.o.below (G8 _))) (by omega)⟩;have:=wW (d:=d) (bC Hk.o HV.o (by omega)) (bC Hf.o HV.o (by omega)) h2 (x:=w.heap.size+1) (m:=w.heap.size) (by omega) (by omega) (by omega) (by omega) #[GX GZ n.kind,GX GZ n.lo,GX GZ n.hi,GW n.text,GU pk n.kids.length ck,GU pf n.fields.length cf,GX GZ (n.rest0+d),GX GZ (n.rest1+d)];rw[if_pos H13.o,if_pos H13.o]at this;exact this
     ·have d13:decide (n.kind=13)=false:=by simp[h13]
      go_wp2_with(with_reducible refine sR rfl 61 (.tmp 4) (.tmp 64) rfl rfl rfl HB.o ?_);refine rB rfl (w.heap.size+1) 61 rfl (sH HB.o) rfl rfl rfl ?_;refine⟨_,rfl,?_,aR Hb.o (by omega)⟩;have:=wW (d:=d) Hk.o Hf.o h2 (x:=w.heap.size+1) (m:=w.heap.size) (by omega) (by omega) (by omega) (by omega) #[GX GZ n.kind,GX GZ n.lo,GX GZ n.hi,GW n.text,GU pk n.kids.length ck,GU pf n.fields.length cf,GX GZ n.rest0,GX GZ n.rest1];rw[if_neg h13,if_neg h13]at this;exact this
end Go.Proofs.YtfpahmeploondaaGreatDoor
