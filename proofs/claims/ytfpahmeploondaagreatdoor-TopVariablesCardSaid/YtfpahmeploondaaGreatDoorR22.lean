/- Walks and plain facts for the law on type variables, for all values and types that the heap holds (texts Tc Td Te). -/
import Derived.Deep.MidRow
import Derived.Maps.OwnSet
import Derived.Test.YtfpahmeploondaaGreatDoorR03
import Derived.Test.YtfpahmeploondaaGreatDoorR21
set_option linter.unusedVariables false
set_option linter.unusedSimpArgs false
set_option maxHeartbeats 64000000
open Option renaming none -> G0, some -> G5
open Bool renaming true -> G6, false -> G7
open Go.Value renaming slice -> GU, string -> GW, int -> GX
open Go.Obj renaming cells -> GY
open Go.IntKind renaming i64 -> GZ
open List renaming take_succ_eq_append_getElem -> Jj
open Bool renaming or_eq_false_iff -> Jz
open Go renaming heap_alloc_new -> HG
open Go.Value renaming ownBlock -> I0
open Nat renaming le_trans -> G9, le_refl -> G8
open Go.World renaming cell? -> Ic
namespace Go.Proofs.YtfpahmeploondaaGreatDoor
open Go.RowKit Go.Ident
set_option maxRecDepth 100000
theorem yw(T:Ty)(w:World)(t:Value)(ht:TS w t T)(hs:SzT T)(hw:WfT T):Calls Tryz.prog 36 #[t] w fun e w'=>e=.returned t/\Below w.heap.size w w':=by
 obtain⟨p,c,rfl,hrow,hk⟩:=id ht;obtain⟨w2,e9,hA,hB,hb⟩:=bE w (GY #[GU p T.nodes.length c,GX GZ T.root] 27) (GY #[GU G0 0 0,GX GZ 0] 27);have Hs:=zH hs;have Hw:=zH hw;have Ht:=zH (ht.below hb);have HA:=zH hA;have HB:=zH hB;have Hb:=zH hb;have E9:=zH e9;have Hz:=zH (show w2.heap.size=w.heap.size+2 by rw[<-e9];simp);obtain⟨y0,y1⟩:=aM hA;clear ht hs hw hrow hk hA hB hb e9;go_enter Tryz.func36,Tryz.ntmps36;go_upto_region 1 with fail
 rw[E9.o];clear E9;go_wp2_with(first
  |(go_at_call 25;refine(nW T w2 _ Ht.o Hs.o).mono ?_;rintro e w3 ⟨cc,rfl,hc,hb3⟩;obtain rfl:=hc.2 Hw.o;have hA3:=(hb3.block _ (ai HA.o)).trans HA.o;have HB3:=zH ((hb3.block _ (ai HB.o)).trans HB.o);obtain⟨z0,z1⟩:=aM hA3;have Hb3:=zH hb3;clear hb3 hA3 hc)
  |(with_reducible refine sR rfl 27 (.tmp 2) (.tmp 7) rfl rfl rfl HB3.o ?_))
 refine rB rfl (w.heap.size+1) 27 rfl (sH HB3.o) rfl rfl rfl ?_;have:=Hz.o;exact⟨rfl,aR (Hb.o.trans (Hb3.o.mono (by omega))) (by omega)⟩
theorem FO(g:Nat):(GU G0 0 0).ownBlock≠G5 g:=by simp[I0]
theorem Fr.ofB {v:Value}{w w':World}(h:Below w.heap.size w w'):Fr [] v v w w':=⟨h.os,h.tape,h.output,h.size,fun k hk _ _=>h.block k hk,.inl rfl⟩
theorem Ac {wq w5 w7:World}{B:Nat}{o:Obj}{av v7 u:Value}{A:List TN}{xs cs:List Value}{X:TN}(hc:Ch 8 (NC (we (aE B av u) wq)) A xs)(hs:Below wq.heap.size wq w5){m:Nat}(hm:wq.heap.size<=m)(hx:NC (we (lo m) w5) X cs)
 (hold:Old (aE B av u) wq.heap.size) (hf:Fr [] av v7 (w5.alloc o) w7) (hl:cs.length=8):Ch 8 (NC (we (aE B v7 u) w7)) (A++[X]) (xs++cs):=by
 have hal:Below (we (aE B av u) w5).heap.size (we (aE B av u) w5) (we (aE B av u) (w5.alloc o)):=by rw[ap];exact aS ((Below.refl _ _).alloc (G8 _) _)
 have hs':Below (we (aE B av u) wq).heap.size (we (aE B av u) wq) (we (aE B av u) w5):=by rw[ap];exact aS hs
 have h1:Ch 8 (NC (we (aE B v7 u) w7)) A xs:=hc.mono fun x cs _ h=>((h.below hs').below hal).sub (dJ hf)
 have h2:NC (we (aE B v7 u) w7) X cs:=((hx.sub (fy w5 (hold.mono hm))).below hal).sub (dJ hf);exact h1.append (Ch.single hl h2)
theorem CL {wq w5 w7:World}{B:Nat}{o:Obj}{av v7 u t:Value}{T:Ty}(h:TS (we (aE B av u) wq) t T)(hs:Below wq.heap.size wq w5)(hf:Fr [] av v7 (w5.alloc o) w7):TS (we (aE B v7 u) w7) t T:=by
 have hal:Below (we (aE B av u) w5).heap.size (we (aE B av u) w5) (we (aE B av u) (w5.alloc o)):=by rw[ap];exact aS ((Below.refl _ _).alloc (G8 _) _)
 have hs':Below (we (aE B av u) wq).heap.size (we (aE B av u) wq) (we (aE B av u) w5):=by rw[ap];exact aS hs
 exact((h.below hs').below hal).sub (dJ hf)
theorem TS.rw' {w:World}{p:Option Addr}{c:Nat}{T:Ty}(h:TS w (.agg #[GU p T.nodes.length c,GX GZ T.root]) T):Rw w p c 8 T.nodes (NC w):=by
 obtain⟨p',c',e,h,_⟩:=h;have:p=p'/\c=c':=by simpa using e
 obtain⟨rfl,rfl⟩:=this;exact h
theorem CM {w:World}{B B1 n1 s1:Nat}{e1:TypeId}{v z:Value}{xs:List Value}(h1:w.ownsRow B1 e1 s1 v n1 xs)(hB:B<=w.heap.size)(hz:∀g,z.ownBlock=G5 g->g<w.heap.size):Old (aE B v z) w.heap.size:=fun k hk=>by
 simp only[aE,Jz,decide_eq_false_iff_not];exact⟨by omega,fun e=>by have:=(h1.lt k e).2;omega,fun e=>by have:=hz k e;omega⟩
def EB(B N:Nat)(z u:Value)(xs:List Value)(T:Ty)(w:World)(e:Ending)(w':World):Prop:=
 ∃v' ys,e=.returned (.tuple #[v',GX GZ (T.root+(N:Int))])/\w'.ownsRow B 61 8 v' (N+T.len) (xs++ys)/\Ch 8 (NC (we (aE w.heap.size v' z) w')) (T.nodes.map (shN (N:Int))) ys/\Fr [] u v' w w'
structure SmT(T:Ty):Prop where
 wf:WfT T
 len:T.len<=1000
 small:∀n∈T.nodes,n.kids.length<=1000/\n.fields.length<=1000
theorem SmT.sz {T:Ty}(h:SmT T):SzT T:=⟨by have:=h.len;omega,fun n hn=>by have:=h.small n hn;omega⟩
theorem pR(B N:Nat)(T:Ty)(w:World)(z u t:Value)(xs:List Value)(ho:w.ownsRow B 61 8 u N xs)(hB:B<=w.heap.size)(hN:N<=1000)(ht:TS (we (aE 0 u z) w) t T)(hs:SmT T)(hz:∀g,z.ownBlock=G5 g->g<w.heap.size):Calls Tryz.prog 16 #[u,t] w (EB B N z u xs T w):=by
 obtain⟨p0,c0,rfl⟩:=aB ho;obtain⟨p,c,rfl,hrow,hk⟩:=id ht;have hn:=HG w (GY #[GU p T.nodes.length c,GX GZ T.root] 27);have hal:Below w.heap.size w (w.alloc (GY #[GU p T.nodes.length c,GX GZ T.root] 27)):=(Below.refl _ _).alloc (G8 _) _;have Hs:=zH hs;have Hal:=zH hal;have Hn:=zH hn;have Ho:=zH ho;have Ht:=zH ht;have Ht1:=zH ((ht.sub (db _ _)).below hal);obtain⟨y0,y1⟩:=aM hn;clear ht hs hrow hk hn hal ho;go_enter Tryz.func16,Tryz.ntmps16;go_upto_region 1 with fail
 generalize w.alloc (GY #[GU p T.nodes.length c,GX GZ T.root] 27)=w1 at*
 go_upto_region 2 with(first
  |(go_at_call 36;refine(yw T w1 _ Ht1.o Hs.o.sz Hs.o.wf).mono ?_;rintro e w3 ⟨rfl,hb3⟩;have HA3:=zH ((hb3.block _ (ai Hn.o)).trans Hn.o);have Hb3:=zH hb3;clear hb3)
  |(with_reducible refine sR rfl 27 (.tmp 3) (.tmp 10) rfl rfl rfl HA3.o ?_))
 have HA4:=zH (setRow_heap w3 w.heap.size _ #[GU p T.nodes.length c,GX GZ T.root] _ _ HA3.o);have Hb4:=zH (aR (g:=w.heap.size) (cs:= #[GU p T.nodes.length c,GX GZ T.root]) (Hal.o.trans (Hb3.o.mono Hal.o.size)) (G8 _));clear y0 y1 HA3 Hb3;have goto:∀a,Act.put a G0 undef=a:=fun a=>rfl
 rw[goto];generalize w3.setRow w.heap.size #[GU p T.nodes.length c,GX GZ T.root]=w4 at*
 have Ho4:=zH (ao Ho.o Hb4.o (G8 _));have Ht4:=zH (show TS (we (aE 0 (GU p0 N c0) z) w4) _ T from Ht.o.below (by rw[ap];exact aS Hb4.o));obtain⟨y0,y1⟩:=aM HA4.o;clear Hn Hal Ht1 w3 w1;go_wp2;go_loopw[0,16] (fun kv iv wr=>∃(i:Nat) (ys:List Value),iv=GX GZ (i:Int)/\i<=T.nodes.length/\wr.ownsRow B 61 8 kv (N+i) (xs++ys)/\Ch 8 (NC (we (aE w.heap.size kv z) wr)) ((T.nodes.take i).map (shN (N:Int))) ys/\TS (we (aE 0 kv z) wr) (.agg #[GU p T.nodes.length c,GX GZ T.root]) T/\Fr [] (GU p0 N c0) kv w4 wr/\wr.heap[w.heap.size]? =G5 (GY #[GU p T.nodes.length c,GX GZ T.root] 27)) (fun _ iv _=>T.nodes.length-(intOf iv).toNat)
 case atStart=>exact⟨0,[],rfl,by omega,by rw[List.append_nil];exact Ho4.o,Ch.nil,Ht4.o,Fr.refl _ _ _,HA4.o⟩
 case round=>
  obtain⟨i,ys,rfl,hi,ho,hc,ht,hf,hA⟩:=hrel;have hs4:=ai HA4.o;clear y0 y1 HA4 Ho4 Ht4;obtain⟨pu,cu,rfl⟩:=aB ho;have HA:=zH hA;have Hf:=zH hf;have Hc:=zH hc;have Ht2:=zH ht;have Ho2:=zH ho;have hsz:=ai hA;by_cases hin:i<T.nodes.length
  ·have d9:decide (i<T.nodes.length)=true:=by simp[hin]
   obtain⟨a,o,cs,rfl,hab,-,hrng,hn⟩:=ht.rw'.at hin;have HN:=zH hn;obtain⟨x1,x2,x3,x4,rfl⟩:=hn.seven;have Hsm:=zH (Hs.o.small _ (List.getElem_mem hin));have Hed:=zH (fun k hk=>(show 0<=k/\k<=100000 from by
    have h1:=(iD Hs.o.wf (i:=i) hin).2.2 k (by rw[T.node_at hin];exact hk);have:=Hs.o.len;omega):∀k∈bq T.nodes[i],0<=k/\k<=100000)
   have z0:=(aJ (hrng 0 _ rfl)).2;have z1:=(aJ (hrng 1 _ rfl)).2;have z2:=(aJ (hrng 2 _ rfl)).2;have z3:=(aJ (hrng 3 _ rfl)).2;have z4:=(aJ (hrng 4 _ rfl)).2;have z5:=(aJ (hrng 5 _ rfl)).2;have z6:=(aJ (hrng 6 _ rfl)).2;have z7:=(aJ (hrng 7 _ rfl)).2;rw[Nat.add_zero]at z0;clear hrng hn hab ho hc ht hf hA;have htk:(T.nodes.take (i+1)).map (shN (N:Int))=(T.nodes.take i).map (shN (N:Int))++[shN (N:Int) T.nodes[i]]:=by rw[Jj hin,List.map_append];rfl
   have Htk:=zH htk;clear htk;generalize T.nodes[i]=n at*
   have hX:=HG wr (GY #[GX GZ 0,GX GZ 0,GX GZ 0,GW ⟨#[]⟩,GU G0 0 0,GU G0 0 0,GX GZ 0,GX GZ 0] 61);have HX:=zH hX;clear hX;have HB6:=zH (aR (g:=wr.heap.size) (cs:= #[GX GZ n.kind,GX GZ n.lo,GX GZ n.hi,GW n.text,GU x1 n.kids.length x2,GU x3 n.fields.length x4,GX GZ n.rest0,GX GZ n.rest1]) ((Below.refl wr.heap.size wr).alloc (G8 _) (GY #[GX GZ 0,GX GZ 0,GX GZ 0,GW ⟨#[]⟩,GU G0 0 0,GU G0 0 0,GX GZ 0,GX GZ 0] 61)) (G8 _));have HX6:=zH (setRow_heap _ wr.heap.size _ #[GX GZ n.kind,GX GZ n.lo,GX GZ n.hi,GW n.text,GU x1 n.kids.length x2,GU x3 n.fields.length x4,GX GZ n.rest0,GX GZ n.rest1] _ _ HX.o);go_upto_region 6 with(with_reducible refine sR rfl 61 (.tmp 8) (.tmp 19) rfl rfl rfl HX.o ?_)
   rw[goto];clear z0 z1 z2 z3 z4 z5 z6 z7 HX;generalize(wr.alloc (GY #[GX GZ 0,GX GZ 0,GX GZ 0,GW ⟨#[]⟩,GU G0 0 0,GU G0 0 0,GX GZ 0,GX GZ 0] 61)).setRow wr.heap.size #[GX GZ n.kind,GX GZ n.lo,GX GZ n.hi,GW n.text,GU x1 n.kids.length x2,GU x3 n.fields.length x4,GX GZ n.rest0,GX GZ n.rest1]=w6 at*
   obtain⟨⟨z0,z1,z2,z3⟩,z4,z5,z6,z7⟩:=aY HX6.o;have HZ:=zH hsz;have Hd:=zH (show(0:Int)<=(N:Int)/\(N:Int)<=100000 by omega);have hBr:B<=wr.heap.size:=by omega
   have hlen:T.nodes.length<=1000:=Hs.o.len;go_wp2_with(first
    |(go_at_call 37;refine(th n (N:Int) w6 _ ((HN.o.sub (db _ _)).below HB6.o) Hsm.o.1 Hsm.o.2 Hed.o Hd.o).mono ?_;rintro e w7 ⟨cs7,rfl,hx,hb7⟩;obtain⟨X,hX⟩:∃X,X=shN (N:Int) n:=⟨_,rfl⟩;rw[<-hX]at hx;have HXe:=zH hX;clear hX;obtain⟨q1,q2,q3,q4,rfl⟩:=hx.seven;have HX:=zH hx;have Hb7:=zH (HB6.o.trans (hb7.mono HB6.o.size):Below wr.heap.size wr w7);have hs7:=HB6.o.size;clear hx hb7)
    |(at_builtin;go_loud(refine aA rfl (.tmp 20) (.tmp 24) 25 rfl 61 (by kernel_rfl) pQ rfl (by decide) (by decide) B _ w7.heap.size [GX GZ X.kind,GX GZ X.lo,GX GZ X.hi,GW X.text,GU q1 X.kids.length q2,GU q3 X.fields.length q4,GX GZ X.rest0,GX GZ X.rest1] (HG w7 _) (G9 hBr (G9 Hb7.o.size (by simp))) rfl (by intro u hu;simp at hu;rcases hu with rfl|rfl|rfl|rfl|rfl|rfl|rfl|rfl<;>rfl) (GU pu (N+i) cu) (N+i) (xs++ys) rfl (ao Ho2.o (Hb7.o.trans (((Below.refl w7.heap.size w7).alloc (G8 _) _).mono Hb7.o.size)) (G8 _)) (by have:=Hs.o.len;have:T.nodes.length=T.len:=rfl;omega) rfl ?_);intro v9 w9 ho9 hf9;have Ho9:=zH ho9;have Hf9:=zH hf9;clear ho9 hf9))
   refine⟨⟨i+1,ys++[GX GZ X.kind,GX GZ X.lo,GX GZ X.hi,GW X.text,GU q1 X.kids.length q2,GU q3 X.fields.length q4,GX GZ X.rest0,GX GZ X.rest1],by first|rfl|(congr 1),by omega,by rw[<-List.append_assoc];exact Ho9.o,?_,CL Ht2.o Hb7.o Hf9.o,?_,?_⟩,by simp[intOf];omega⟩
   ·rw[Htk.o,<-HXe.o];exact Ac Hc.o Hb7.o hs7 HX.o (CM Ho2.o (by omega) fun g hg=>by have:=hz g hg;omega) Hf9.o rfl
   ·exact(Hf.o.trans (Fr.ofB (Hb7.o.trans (((Below.refl w7.heap.size w7).alloc (G8 _) _).mono Hb7.o.size)))).trans Hf9.o
   ·have hbx:=(Hb7.o.trans (((Below.refl w7.heap.size w7).alloc (G8 _) (GY #[GX GZ X.kind,GX GZ X.lo,GX GZ X.hi,GW X.text,GU q1 X.kids.length q2,GU q3 X.fields.length q4,GX GZ X.rest0,GX GZ X.rest1] 61)).mono Hb7.o.size)).block w.heap.size hsz;refine(Hf9.o.block w.heap.size (by have:=Hb7.o.size;simp;omega) (by simp) fun e=>?_).trans (hbx.trans HA.o);rcases Hf.o.own with h|h
    ·have:=(Ho.o.lt w.heap.size (h▸e)).2;omega
    ·have:=h _ e;omega
  ·have d9:decide (i<T.nodes.length)=false:=by simp;omega
   obtain rfl:i=T.nodes.length:=by omega
   have hlen:T.nodes.length<=1000:=Hs.o.len;have hroot:=has_iff.1 Hs.o.wf.root;have hl2:T.len=T.nodes.length:=rfl;obtain⟨y0,y1⟩:=aM HA.o;have Y1:wr.drew.cell? ⟨w.heap.size,1,G0⟩=G5 (GX GZ T.root):=y1;go_wp2_with(first
    |(with_reducible refine rg ?_)
    |(with_reducible refine fo ?_))
   go_ret2
   rw[List.take_length]at hc;exact⟨_,ys,rfl,ao ho (Below.refl _ _).drew (G8 _),hc,(Fr.ofB Hb4.o).trans (hf.trans (Fr.ofB (Below.refl _ _).drew))⟩
theorem yx(w:World)(s t:ByteArray)(v:Value)(r:Int)(b:Nat)(hb:w.heap[b]? =G5 (GY #[GW t] 9))(p:Option Addr)(l c:Nat)(hv:v=GU p l c):
 Calls Tryz.prog 18 #[.agg #[GW s,v,GX GZ r],.pointer (G5 ⟨b,0,G0⟩)] w fun e w'=>e=.returned (.bool (decide (s=t)))/\Below w.heap.size w w':=by
 subst hv;have hA:=HG w (GY #[GW s,GU p l c,GX GZ r] 38);have hB:=(Below.refl w.heap.size w).alloc (G8 _) (GY #[GW s,GU p l c,GX GZ r] 38);have hb2:=(hB.block _ (ai hb)).trans hb;have HB:=zH hB;clear hB;go_enter Tryz.func18,Tryz.ntmps18;go_upto_region 1 with fail
 generalize w.alloc (GY #[GW s,GU p l c,GX GZ r] 38)=w1 at*
 have y0:w1.cell? ⟨w.heap.size,0,G0⟩=G5 (GW s):=by simp[Ic,hA]
 have y1:w1.cell? ⟨b,0,G0⟩=G5 (GW t):=by simp[Ic,hb2]
 clear hA hb2 hb;go_wp2;go_ret;exact⟨by rw[<-iU];rfl,HB.o⟩
def BL(w:World)(L:Nat)(s:ByteArray)(p:Option Addr)(l c:Nat)(r:Int):Prop:=L<w.heap.size/\w.cell? ⟨L,0,G0⟩=G5 (GW s)/\w.cell? ⟨L,1,G0⟩=G5 (GU p l c)/\w.cell? ⟨L,2,G0⟩=G5 (GX GZ r)
theorem BL.at {w w':World}{L:Nat}{s:ByteArray}{p:Option Addr}{l c:Nat}{r:Int}(h:BL w L s p l c r)(hs:w.heap.size<=w'.heap.size)(hb:w'.heap[L]? =w.heap[L]?):BL w' L s p l c r:=
 ⟨by have:=h.1;omega,(cell_at hb).trans h.2.1,(cell_at hb).trans h.2.2.1,(cell_at hb).trans h.2.2.2⟩
theorem BL.below {w w':World}{L:Nat}{s:ByteArray}{p:Option Addr}{l c:Nat}{r:Int}(h:BL w L s p l c r)(hb:Below w.heap.size w w'):BL w' L s p l c r:=h.at hb.size (hb.block _ h.1)
def ixB(s t:ByteArray):Int:=if s=t then 0 else -1
theorem qX(w:World)(L:Nat)(s t:ByteArray)(p:Option Addr)(l c:Nat)(r:Int)(b:Nat)(hL:BL w L s p l c r)(hb:w.heap[b]? =G5 (GY #[GW t] 9)):
 Calls Tryz.prog 17 #[GU (G5 ⟨L,0,G0⟩) 1 1,.func (.func 18) #[] #[.pointer (G5 ⟨b,0,G0⟩)]] w fun e w'=>e=.returned (GX GZ (ixB s t))/\Below w.heap.size w w':=by
 have HL:=zH hL;have HB:=zH hb;clear hL hb;go_enter Tryz.func17,Tryz.ntmps17;go_wp2;go_loopw[8] (fun i wr=>∃k:Nat,i=GX GZ k/\k<=1/\(1<=k->s≠t)/\Below w.heap.size w wr) (fun i _=>1-(intOf i).toNat)
 case atStart=>exact⟨0,rfl,by omega,fun h=>by omega,Below.refl _ _⟩
 case round=>
  obtain⟨k,rfl,hk,ha,hb⟩:=hrel;have Ha:=zH ha;have Hb:=zH hb;clear ha hb;by_cases hlt:k<1
  ·obtain rfl:k=0:=by omega
   have HL2:=HL.o.below Hb.o;obtain⟨-,y0,y1,y2⟩:=HL2;have Hcl:=zH (yx wr s t (GU p l c) r b ((Hb.o.block _ (ai HB.o)).trans HB.o) p l c rfl);by_cases hst:s=t
   ·have hcl:=Hcl.o;rw[show decide (s=t)=G6 by simp[hst]]at hcl;have Hcl:=zH hcl;clear hcl;have Hst:=zH hst;clear hst;go_wp2_with(go_at_call 18;refine Hcl.o.mono ?_;rintro e w6 ⟨rfl,hb6⟩;have Hb6:=zH (Hb.o.step hb6);clear hb6);go_ret;exact⟨by unfold ixB;rw[if_pos Hst.o];rfl,Hb6.o⟩
   ·have hcl:=Hcl.o;rw[show decide (s=t)=G7 by simp[hst]]at hcl;have Hcl:=zH hcl;clear hcl;have Hst:=zH hst;clear hst;go_wp2_with(go_at_call 18;refine Hcl.o.mono ?_;rintro e w6 ⟨rfl,hb6⟩;have Hb6:=zH (Hb.o.step hb6);clear hb6);exact⟨⟨1,by go_num,by omega,fun _=>Hst.o,Hb6.o⟩,by simp[intOf]⟩
  ·obtain rfl:k=1:=by omega
   go_wp2;go_ret;exact⟨by unfold ixB;rw[if_neg (Ha.o (G8 _))];rfl,Hb.o⟩
def upL:List Value->Nat->List Value->List Value
 |xs,_,[]=>xs
 |xs,o,v::r=>upL (xs.set o v) (o+1) r
theorem Ad:∀(vs xs:List Value) (o:Nat),o+vs.length<=xs.length->upL xs o vs=xs.take o++(vs++xs.drop (o+vs.length))
 |[],xs,o,_=>by simp[upL]
 | v :: r, xs, o, h => by
   have h':o+(r.length+1)<=xs.length:=h;show upL (xs.set o v) (o+1) r=_;rw[Ad r _ _ (by simp;omega),List.drop_set_of_lt (by omega),Jj (by simp;omega)];have e1:(xs.set o v).take o=xs.take o:=by rw[List.take_set,List.set_eq_of_length_le (by rw[List.length_take];exact Nat.min_le_left _ _)]
   rw[e1,show o+1+r.length=o+(r.length+1)by omega];simp
theorem kQ {B n cap size g:Nat}{e:TypeId}:∀(vs:List Value) (o:Nat) (w:World) (xs:List Value),w.ownsRow B e size (GU (G5 ⟨g,0,G0⟩) n cap) n xs->(w.setCells g o vs).ownsRow B e size (GU (G5 ⟨g,0,G0⟩) n cap) n (upL xs o vs)
 |[],_,_,_,h=>h
 |v::r,o,w,xs,h=>kQ r (o+1) _ _ (h.stored o v).1
theorem my {g n cap:Nat}:∀(vs:List Value) (o:Nat) (w:World),Fr [] (GU (G5 ⟨g,0,G0⟩) n cap) (GU (G5 ⟨g,0,G0⟩) n cap) w (w.setCells g o vs)
 |[],_,w=>Fr.refl _ _ _
 | v :: r, o, w => by
   have h1:Fr [] (GU (G5 ⟨g,0,G0⟩) n cap) (GU (G5 ⟨g,0,G0⟩) n cap) w (w.setCell ⟨g,o,G0⟩ v):=
    ⟨rfl,rfl,rfl,by simp,fun k _ _ hk=>Below.heap_setCell _ _ _ _ fun e=>hk (by simp[I0,e]),.inl rfl⟩
   exact h1.trans (my r (o+1) _)
theorem pS {w:World}{B n cap size g:Nat}{e:TypeId}{xs:List Value}(h:w.ownsRow B e size (GU (G5 ⟨g,0,G0⟩) n cap) n xs){o m:Nat}(hm:o+m<=n*size):w.there g o m:=fun j hj=>by
 refine⟨?_,h.frozenAt _⟩;rw[h.cellAt (o+j) (by omega),List.getElem?_eq_getElem (by rw[h.1];omega)];rfl
theorem EG {α:Type}{P:α->List Value->Prop}{A C:List α}{x y:α}{xs cs:List Value}(h:Ch 8 P (A++([x]++C)) xs)(hy:P y cs)(hl:cs.length=8):Ch 8 P (A++([y]++C)) (xs.take (A.length*8)++(cs++xs.drop ((A.length+1)*8))):=by
 have h1:=h.take (k:=A.length) (by simp);have h2:=h.drop (k:=A.length+1) (by simp);rw[List.take_left]at h1;rw[show(A++([x]++C)).drop (A.length+1)=C by rw[<-List.drop_drop,List.drop_left];rfl]at h2;exact h1.append ((Ch.single hl hy).append h2)
theorem CN {W:World}{ns:List TN}{xs:List Value}{i:Nat}(h:Ch 8 (NC W) ns xs)(hi:i<ns.length):xs[i*8]? =G5 (GX GZ ns[i].kind)/\xs[i*8+3]? =G5 (GW ns[i].text):=by
 have h2:=h.2 i hi;obtain⟨x1,x2,x3,x4,e⟩:=h2.seven;have f:∀j,j<8->xs[i*8+j]? =((xs.drop (i*8)).take 8)[j]? :=fun j hj=>by rw[List.getElem?_take_of_lt hj,List.getElem?_drop]
 exact⟨by have:=f 0 (by omega);rw[e]at this;simpa using this,by have:=f 3 (by omega);rw[e]at this;simpa using this⟩
theorem yy {w w':World}{b:Nat}{E:Nat->Bool}(hg:w.grownBy w' (G5 b))(hE:E b=G6):Sub (we E w) (we E w'):=by
 refine⟨by rw[ap,ap];exact hg.4,fun a o v hv=>?_⟩;obtain⟨h1,h2⟩:=aJ hv;have hl:=kK h2;have hne:a≠b:=fun e=>by subst e;rw[hE]at h1;cases h1
 have:w'.heap[a]? =w.heap[a]? :=hg.5 a hl (by simpa using hne);have h3:(we E w').heap[a]? =w'.heap[a]? :=cI h1;rw[cell_at (h3.trans this)];exact h2
theorem wX {w w':World}{E:Nat->Bool}(hE:∀k,k<w.heap.size->E k=G7)(hb:Below w.heap.size w w'):Sub w (we E w'):=by
 refine⟨by rw[ap];exact hb.size,fun a o v hv=>?_⟩;have hl:=kK hv;rw[cell_at ((cI (hE a hl)).trans (hb.block a hl))];exact hv
def mv(b:Nat):Value:=GU (G5 ⟨b,0,G0⟩) 0 0
theorem oe(b:Nat):(mv b).ownBlock=G5 b:=rfl
theorem FP(B:Nat)(v:Value)(b:Nat):aE B v (mv b) b=true:=by simp[aE,oe]
theorem CO {B:Nat}{w:World}{v:Value}{o:Obj}:Sub (we (aE B v (GU G0 0 0)) w) (we (aE B v (mv w.heap.size)) (w.alloc o)):=by
 refine⟨by rw[ap,ap];simp,fun a o' u hu=>?_⟩;obtain⟨h1,h2⟩:=aJ hu;have hl:=kK h2;have h3:aE B v (mv w.heap.size) a=false:=by
  simp only[aE,Jz,decide_eq_false_iff_not]at h1 ⊢;refine⟨h1.1,h1.2.1,fun e=>?_⟩;rw[oe]at e;injection e with e
  omega
 rw[cell_at ((cI h3).trans (Below.heap_alloc w _ a hl))];exact h2
theorem CP {A B:Nat}{v u:Value}{w:World}(h:A<=B):Sub (we (aE B v u) w) (we (aE A v u) w):=cw w fun k hk=>by
 simp only[aE,Bool.or_eq_true,decide_eq_true_eq]at hk ⊢;rcases hk with hk|hk
 ·exact .inl (by omega)
 ·exact .inr hk
abbrev MD:=DataW Unit
def kA:Lit:=.string nA.data.toList
def MS(w:World)(b m:Nat)(D:MD):Prop:=w.ownsMap Tryz.prog 9 (plainElem Tryz.prog 3) b m D
def D1(r:Int):MD:=(DataW.map []).put kA (.lit (.int .i64 r))
theorem DZ(w:World):(zeroValue 3).run Tryz.prog w=.ok (GX GZ 0) w:=by kernel_rfl
theorem qY:Tryz.prog.underlying 3=G5 (.int .i64):=by kernel_rfl
theorem qZ:Tryz.prog.underlying 57=G5 (.map 9 3):=by kernel_rfl
theorem EH:keyOf Tryz.prog 9 (GW nA)=G5 kA:=Go.WideMaps.keyOf_string_mk (by kernel_rfl) (by decide)
theorem vo:Maps.Keyed Tryz.prog 9:=Maps.string_keyed (by kernel_rfl)
theorem FQ(r:Int):(D1 r).atKey kA (.lit (.int .i64 0))=.lit (.int .i64 r):=by rfl
theorem EJ(r:Int):Maps.has (D1 r) kA=true:=by rfl
theorem EK:Maps.has (DataW.map []:MD) kA=false:=by rfl
theorem MS.look0 {w:World}{b m:Nat}{D:MD}(h:MS w b m D):∃c,(Instr.lookup 57 (.map (G5 b)) (GW nA) G6).run Tryz.prog w=.ok (.tuple #[GX GZ c,.bool (Maps.has D kA)]) w:=by
 obtain⟨v,ps,h1,h2⟩:=World.ownsMap.look_ok h vo qZ (DZ w) (plainElem_int qY (by decide)) EH;obtain⟨c,rfl,-,-⟩:=plainElem_int_inv qY h2;exact⟨c,h1⟩
theorem MS.get {w:World}{b m:Nat}{r:Int}(h:MS w b m (D1 r)):(Instr.lookup 57 (.map (G5 b)) (GW nA) G7).run Tryz.prog w=.ok (GX GZ r) w:=by
 obtain⟨c,h1,h2,-⟩:=World.ownsMap.lookup_int h vo qZ qY (DZ w) EH;rw[FQ]at h2;injection h2 with h2
 injection h2 with h2 h3
 rw[h1,h3]
theorem MS.at {w w':World}{b m:Nat}{D:MD}(h:MS w b m D)(hb:w'.heap[b]? =w.heap[b]?):MS w' b m D:=by
 obtain⟨es,clock,h1,rest⟩:=h;exact⟨es,clock,hb.trans h1,rest⟩
end Go.Proofs.YtfpahmeploondaaGreatDoor
