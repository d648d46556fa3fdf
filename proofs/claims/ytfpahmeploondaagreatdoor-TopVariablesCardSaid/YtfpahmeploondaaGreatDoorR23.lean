/- Walks and plain facts for the law on type variables, for all values and types that the heap holds (texts Tf X4). -/
import Derived.Test.YtfpahmeploondaaGreatDoorR03
import Derived.Test.YtfpahmeploondaaGreatDoorR18
import Derived.Test.YtfpahmeploondaaGreatDoorR22
set_option linter.unusedVariables false
set_option linter.unusedSimpArgs false
set_option maxHeartbeats 64000000
open Option renaming none -> G0, some -> G5
open Bool renaming true -> G6, false -> G7
open Go.Value renaming slice -> GU, string -> GW, int -> GX
open Go.Obj renaming cells -> GY
open Go.IntKind renaming i64 -> GZ
open List renaming take_succ_eq_append_getElem -> Jj, length_append -> Ii, length_map -> Jc, mem_map -> IW
open Bool renaming or_eq_false_iff -> Jz, eq_iff_iff -> IQ
open Go.Result renaming andThen_ok -> Ji
open Go renaming heap_alloc_new -> HG
open Go.Value renaming ownBlock -> I0
open Go.Sem renaming run_bind -> It
open Nat renaming le_refl -> G8
namespace Go.Proofs.YtfpahmeploondaaGreatDoor
open Go.RowKit Go.Ident
set_option maxRecDepth 100000
def tl(T U:Ty)(i:Nat):List TN:=if(T.nodes.take i).any isA then U.nodes.map (shN (T.len:Int))else[]
def sbK(T U:Ty)(i:Nat):List TN:=(T.nodes.take i).map (sbN (U.root+(T.len:Int)))++(T.nodes.drop i++tl T U i)
theorem Ae(T U:Ty):sbK T U 0=T.nodes:=by simp[sbK,tl]
theorem rd(T U:Ty):sbK T U T.nodes.length=(sbT T U).nodes:=by simp[sbK,tl,sbT]
theorem re {T U:Ty}{i:Nat}(h:i<T.nodes.length):sbK T U i=(T.nodes.take i).map (sbN (U.root+(T.len:Int)))++([T.nodes[i]]++(T.nodes.drop (i+1)++tl T U i)):=by
 unfold sbK;rw[<-List.getElem_cons_drop h];rfl
theorem tj {T U:Ty}{i:Nat}(h:i<T.nodes.length):sbK T U (i+1)=(T.nodes.take i).map (sbN (U.root+(T.len:Int)))++([sbN (U.root+(T.len:Int)) T.nodes[i]]++(T.nodes.drop (i+1)++tl T U (i+1))):=by
 unfold sbK;rw[Jj h,List.map_append];simp
theorem tm {T:Ty}{i:Nat}(h:i<T.nodes.length):(T.nodes.take (i+1)).any isA=((T.nodes.take i).any isA||isA T.nodes[i]):=by
 rw[Jj h,List.any_append];simp
theorem CQ {T U:Ty}{i:Nat}(h:i<T.nodes.length)(ha:isA T.nodes[i]=G7):sbK T U (i+1)=sbK T U i/\(T.nodes.take (i+1)).any isA=(T.nodes.take i).any isA:=by
 have h2:(T.nodes.take (i+1)).any isA=(T.nodes.take i).any isA:=by rw[tm h,ha,Bool.or_false]
 refine⟨?_,h2⟩;rw[tj h,re h,od ha];unfold tl;rw[h2]
theorem Af {T U:Ty}{i:Nat}(h:i<T.nodes.length):∃h2:i<(sbK T U i).length,(sbK T U i)[i]=T.nodes[i]:=by
 have hl:((T.nodes.take i).map (sbN (U.root+(T.len:Int)))).length=i:=by simp;omega
 have h2:i<(sbK T U i).length:=by rw[re h,Ii,hl];simp
 refine⟨h2,?_⟩;have:(sbK T U i)[i]? =G5 T.nodes[i]:=by
  rw[re h,List.getElem?_append_right (by omega),hl];simp
 rw[List.getElem?_eq_getElem h2]at this;exact Option.some.inj this
theorem wY {T U:Ty}{i:Nat}(h:i<=T.nodes.length):(sbK T U i).length=T.nodes.length+(tl T U i).length:=by
 unfold sbK;simp;omega
def mpK(T U:Ty)(i:Nat):MD:=if(T.nodes.take i).any isA then D1 (U.root+(T.len:Int))else .map []
def mmK(T:Ty)(i:Nat):Nat:=if(T.nodes.take i).any isA then 1 else 0
def SG(w:World)(bm m:Nat)(ns:List TN)(D:MD)(kv:Value)(wr:World):Prop:=
 ∃xs,wr.ownsRow (w.heap.size+2) 61 8 kv ns.length xs/\Ch 8 (NC (we (aE (w.heap.size+2) kv (mv bm)) wr)) ns xs/\MS wr bm m D/\wr.heap[w.heap.size+1]? =G5 (GY #[GU G0 0 0,GX GZ 0] 27)/\Below w.heap.size w wr/\(∀g,kv.ownBlock=G5 g->g≠bm)/\w.heap.size+2<=bm/\bm<wr.heap.size
section
variable {w wr w':World} {bm m:Nat} {ns:List TN} {D:MD} {u v':Value}
theorem SG.below(h:SG w bm m ns D u wr)(hb:Below wr.heap.size wr w'):SG w bm m ns D u w':=by
 obtain⟨xs,h1,h2,h3,h4,h5,h6,h7,h8⟩:=h;exact⟨xs,ao h1 hb (G8 _),h2.mono fun x cs _ h=>h.below (by rw[ap];exact aS hb),h3.at (hb.block _ h8),(hb.block _ (ai h4)).trans h4,h5.trans (hb.mono h5.size),h6,h7,by have:=hb.size;omega⟩
theorem SG.emb {xs ys:List Value}{ms:List TN}(h1:wr.ownsRow (w.heap.size+2) 61 8 u ns.length xs)(h2:Ch 8 (NC (we (aE (w.heap.size+2) u (mv bm)) wr)) ns xs)(h3:MS wr bm m D)(h4:wr.heap[w.heap.size+1]? =G5 (GY #[GU G0 0 0,GX GZ 0] 27))(h5:Below w.heap.size w wr)(h6:∀g,u.ownBlock=G5 g->g≠bm)(h7:w.heap.size+2<=bm)(h8:bm<wr.heap.size)
 (hf:Fr [] u v' wr w') (k1:w'.ownsRow (w.heap.size+2) 61 8 v' (ns.length+ms.length) (xs++ys)) (k2:Ch 8 (NC (we (aE wr.heap.size v' (mv bm)) w')) ms ys):SG w bm m (ns++ms) D v' w':=by
 have hs:=hf.size;refine⟨xs++ys,by rw[Ii];exact k1,(h2.mono fun x cs _ h=>h.sub (dJ hf)).append (k2.mono fun x cs _ h=>h.sub (CP (by omega))),h3.at (hf.block bm h8 (by simp) fun e=>h6 bm e rfl),?_,h5.trans (hf.below h5.size (by simp) fun g hg=>by have:=(h1.lt g hg).1;omega),fun g hg=>?_,h7,by omega⟩
 ·exact(hf.block _ (ai h4) (by simp) fun e=>by have:=(h1.lt _ e).1;omega).trans h4
 ·rcases hf.own with e|e
  ·rw[e]at hg;exact h6 g hg
  ·have:=e g hg;omega
theorem SG.upd {m':Nat}{D':MD}(h:SG w bm m ns D u wr)(hm:MS w' bm m' D')(hg:wr.grownBy w' (G5 bm)):SG w bm m' ns D' u w':=by
 obtain⟨xs,h1,h2,h3,h4,h5,h6,h7,h8⟩:=h;have hs:=hg.4;refine⟨xs,cF h1 fun g e=>hg.5 g (h1.lt g e).2 (by have:=h6 g e;simp;omega),h2.mono fun x cs _ h=>h.sub (yy hg (FP _ _ _)),hm,(hg.5 _ (ai h4) (by simp;omega)).trans h4,?_,h6,h7,by omega⟩;exact h5.grown hg h5.size fun k hk=>by simp at hk;omega
theorem SG.set {A C:List TN}{x y:TN}{g N ck:Nat}{cs:List Value}(h:SG w bm m (A++([x]++C)) D (GU (G5 ⟨g,0,G0⟩) N ck) wr)(hy:NC (we (aE (w.heap.size+2) (GU (G5 ⟨g,0,G0⟩) N ck) (mv bm)) wr) y cs)(hl:cs.length=8):
 SG w bm m (A++([y]++C)) D (GU (G5 ⟨g,0,G0⟩) N ck) (wr.setCells g (A.length*8) cs):=by
 obtain⟨xs,h1,h2,h3,h4,h5,h6,h7,h8⟩:=h;have hf:Fr [] (GU (G5 ⟨g,0,G0⟩) N ck) (GU (G5 ⟨g,0,G0⟩) N ck) wr (wr.setCells g (A.length*8) cs):=my cs _ wr;obtain⟨p',c',e⟩:=aB h1;have e2:N=(A++([x]++C)).length:=by injection e
 have hx:xs.length=(A++([x]++C)).length*8:=h1.1;have hx2:(A++([x]++C)).length=A.length+1+C.length:=by simp;omega
 have h1':(wr.setCells g (A.length*8) cs).ownsRow (w.heap.size+2) 61 8 (GU (G5 ⟨g,0,G0⟩) N ck) (A++([y]++C)).length (xs.take (A.length*8)++(cs++xs.drop ((A.length+1)*8))):=by
  have h9:=kQ cs (A.length*8) wr xs (by rw[<-e2]at h1;exact h1);rw[Ad _ _ _ (by omega),hl,show A.length*8+8=(A.length+1)*8 by omega]at h9;have e3:(A++([y]++C)).length=N:=by rw[e2];simp
  rw[e3];exact h9
 have hb8:=h1.lt g rfl;refine⟨_,h1',EG (h2.mono fun x cs _ h=>h.sub (dJ hf)) (hy.sub (dJ hf)) hl,h3.at (hf.block bm h8 (by simp) fun e=>h6 bm e rfl),?_,h5.trans (hf.below h5.size (by simp) fun g' hg=>by have:=(h1.lt g' hg).1;omega),h6,h7,by have:=hf.size;omega⟩;exact(hf.block _ (ai h4) (by simp) fun e=>by have:=(h1.lt _ e).1;omega).trans h4
end
theorem SG.skip {T U:Ty}{w wr:World}{bm i:Nat}{u:Value}(h:SG w bm (mmK T i) (sbK T U i) (mpK T U i) u wr)(hi:i<T.nodes.length)(ha:isA T.nodes[i]=G7):SG w bm (mmK T (i+1)) (sbK T U (i+1)) (mpK T U (i+1)) u wr:=by
 obtain⟨h1,h2⟩:=CQ (U:=U) hi ha;unfold mmK mpK;rw[h1,h2];exact h
theorem CR(l:List TN):l.map (shN ((0:Nat):Int))=l:=by
 have:shN ((0:Nat):Int)=id:=by funext n;exact tf n
 rw[this,List.map_id]
theorem CS(w:World):MS (w.alloc (.map #[] 0)) w.heap.size 0 (.map []):=World.ownsMap_made w Tryz.prog 9 (plainElem Tryz.prog 3)
theorem oh {T U:Ty}(hT:SmT T)(hU:SmT U):(sbT T U).nodes.length<=2000/\∀n∈(sbT T U).nodes,n.kids.length<=1000/\n.fields.length<=1000:=by
 constructor
 ·have h1:=wY (T:=T) (U:=U) (G8 _);rw[rd]at h1;have h2:(tl T U T.nodes.length).length<=U.nodes.length:=by unfold tl;split<;>simp
  have h3:U.nodes.length<=1000:=hU.len;have h4:T.nodes.length<=1000:=hT.len;omega
 ·intro n hn;rcases List.mem_append.1 hn with hn|hn
  ·obtain⟨x,hx,rfl⟩:=IW.1 hn;cases ha:isA x with
   |true=>rw[lN ha];simp
   |false=>rw[od ha];exact hT.small x hx
  ·cases ha:T.nodes.any isA with
   | true =>
     rw[ha,if_pos rfl]at hn;obtain⟨x,hx,rfl⟩:=IW.1 hn;have:=hU.small x hx;simp only[shN,Jc];exact this
   |false=>rw[ha]at hn;simp at hn
theorem FR {T U:Ty}(hT:SmT T)(hU:SmT U):SzT (sbT T U):=by
 obtain⟨h1,h2⟩:=oh hT hU;exact⟨by show(sbT T U).nodes.length<=_;omega,fun n hn=>by have:=h2 n hn;omega⟩
theorem EL {E:Nat->Bool}{x:Nat}{w:World}{n:TN}{cs:List Value}(h:NC (we E w) n cs)(hx:E x=G6)(ar:Array Value):NC (w.setRow x ar) n cs:=(h.below (by rw[ap];exact eN hx ar)).sub (db _ _)
def unC(b:Nat):List Value:=[GX GZ 16,GX GZ 0,GX GZ 0,GW aQ,GU (G5 ⟨b,0,G0⟩) 1 1,GU G0 0 0,GX GZ 0,GX GZ 0]
theorem FSq {w:World}{r:Int}{E:Nat->Bool}(hE:E w.heap.size=G7):NC (we E (w.alloc (GY #[GX GZ r] 3))) ⟨16,0,0,aQ,[r],[],0,0⟩ (unC w.heap.size):=by
 refine nck (l:=[r]) 16 ⟨_,_,rfl,G8 _,?_⟩;refine RC.row (e:=3) (arr:= #[GX GZ r]) rfl ((cI hE).trans (HG w _)) fun j u hu=>?_
 have h2:([GX GZ r]:List Value)[j]? =G5 u:=hu;simpa using h2
theorem SG.one {w wr:World}{bm m i g N ck:Nat}{A C ns ns':List TN}{x:TN}{D:MD}{r:Int}(h:SG w bm m ns D (GU (G5 ⟨g,0,G0⟩) N ck) wr)(e1:ns=A++([x]++C))(e2:ns'=A++([⟨16,0,0,aQ,[r],[],0,0⟩]++C))(hA:A.length=i):
 SG w bm m ns' D (GU (G5 ⟨g,0,G0⟩) N ck) ((wr.alloc (GY #[GX GZ r] 3)).setCells g (i*8) (unC wr.heap.size)):=by
 subst e1 e2 hA;have hal:Below wr.heap.size wr (wr.alloc (GY #[GX GZ r] 3)):=(Below.refl _ _).alloc (G8 _) _;refine(h.below hal).set (FSq ?_) rfl;obtain⟨xs,h1,_,_,h4,_,h6,_,h8⟩:=h;have:=ai h4;simp only[aE,Jz,decide_eq_false_iff_not];refine⟨by omega,fun e=>?_,fun e=>?_⟩
 ·have:=(h1.lt _ e).2;omega
 ·rw[oe]at e;injection e with e
  omega
theorem yz(T U:Ty)(w:World)(t:Value)(L:Nat)(pU:Option Addr)(cU:Nat)(ht:TS w t T)(hu:TS w (.agg #[GU pU U.nodes.length cU,GX GZ U.root]) U)(hL:BL w L nA pU U.nodes.length cU U.root)(hT:SmT T)(hU:SmT U):
 Calls Tryz.prog 7 #[t,GU (G5 ⟨L,0,G0⟩) 1 1] w fun e w'=>∃v,e=.returned v/\TS w' v (sbT T U)/\Below w.heap.size w w':=by
 obtain⟨p,c,rfl,hrow,hk⟩:=id ht;obtain⟨w2,e9,hA,hB,hb⟩:=bE w (GY #[GU p T.nodes.length c,GX GZ T.root] 27) (GY #[GU G0 0 0,GX GZ 0] 27);have HT:=zH hT;have HU:=zH hU;have Hu:=zH hu;have HL:=zH hL;have Ht:=zH (ht.below hb);have HA:=zH hA;have HB:=zH hB;have Hb:=zH hb;have E9:=zH e9;have Hz:=zH (show w2.heap.size=w.heap.size+2 by rw[<-e9];simp);obtain⟨y0,y1⟩:=aM hA;clear ht hu hL hT hU hrow hk hA hB hb e9;go_enter Tryz.func7,Tryz.ntmps7;go_upto_region 1 with fail
 rw[E9.o];clear E9;have Ht2:=zH (show TS (we (aE 0 (GU G0 0 0) (GU G0 0 0)) w2) (.agg #[GU p T.nodes.length c,GX GZ T.root]) T from Ht.o.sub (wX (fun k _=>by simp[aE,I0]) (Below.refl _ _)));go_upto_region 2 with(go_at_call 16;refine(pR (w.heap.size+2) 0 T w2 (GU G0 0 0) (GU G0 0 0) _ [] (World.ownsRow_nil _ _ _ _) (Nat.le_of_eq Hz.o.symm) (by omega) Ht2.o HT.o (fun g hg=>absurd hg (FO g))).mono ?_;rintro e w3 ⟨v3,ys,rfl,ho3,hc3,hf3⟩;have hc3:=hc3;rw[List.nil_append,Nat.zero_add]at ho3;change w3.ownsRow (w.heap.size+2) 61 8 v3 T.nodes.length ys at ho3;have Ho3:=zH ho3;have Hc3:=zH hc3;have Hb3:=zH (hf3.below (G8 _) (by simp) fun g hg=>absurd hg (FO g):Below w2.heap.size w2 w3);obtain⟨p3,c3,rfl⟩:=aB ho3;clear ho3 hc3 hf3)
 have HB3:=zH ((Hb3.o.block _ (ai HB.o)).trans HB.o);clear hc3 y0 y1 Ht Ht2 HA HB;have hmm:=@run_makeMap Tryz.prog;go_upto_region 4 with fail
 clear hmm;have hal:Below w3.heap.size w3 (w3.alloc (.map #[] 0)):=(Below.refl _ _).alloc (G8 _) _;have Ho4:=zH (ao Ho3.o hal (G8 _));have Hc4:=zH (show Ch 8 (NC (we (aE (w.heap.size+2) (GU p3 T.nodes.length c3) (mv w3.heap.size)) (w3.alloc (.map #[] 0)))) T.nodes ys from by
  have h:=Hc3.o;rw[CR,Hz.o]at h;exact h.mono fun x cs _ h=>h.sub CO)
 have HM4:=zH (CS w3);have HB4:=zH ((hal.block _ (ai HB3.o)).trans HB3.o);have hs3:w.heap.size+2<=w3.heap.size:=by have:=Hb3.o.size;have:=Hz.o;omega
 have Hb4:=zH ((Hb.o.trans (Hb3.o.mono (by have:=Hz.o;omega))).trans (hal.mono (by omega)):Below w.heap.size w (w3.alloc (.map #[] 0)));have hkm:∀g,(GU p3 T.nodes.length c3).ownBlock=G5 g->g≠w3.heap.size:=fun g hg=>by have:=(Ho3.o.lt g hg).2;omega
 have hbm:w3.heap.size<(w3.alloc (.map #[] 0)).heap.size:=by simp
 have HS4:=zH (show SG w w3.heap.size (mmK T 0) (sbK T U 0) (mpK T U 0) (GU p3 T.nodes.length c3) (w3.alloc (.map #[] 0))from by
  rw[Ae];exact⟨ys,Ho4.o,Hc4.o,HM4.o,HB4.o,Hb4.o,hkm,hs3,hbm⟩)
 clear hal Ho3 Hc3 Hb Hb3 HB3 Hz Ho4 Hc4 HM4 HB4 Hb4 hkm hs3 hbm;generalize w3.alloc (.map #[] 0)=w4 at*
 generalize w3.heap.size=bm at*
 clear w3 w2;go_wp2;go_loopw[5,24] (fun kv iv wr=>∃(i:Nat),iv=GX GZ (i:Int)/\i<=T.nodes.length/\SG w bm (mmK T i) (sbK T U i) (mpK T U i) kv wr) (fun _ iv _=>T.nodes.length-(intOf iv).toNat)
 case atStart=>exact⟨0,rfl,by omega,HS4.o⟩
 case round=>
  obtain⟨i,rfl,hi,hS⟩:=hrel;clear HS4;have HS:=zH hS;obtain⟨xs,ho,hc,-,-,hb,-,-,hbr⟩:=hS;obtain⟨pk,ck,rfl⟩:=aB ho;have Hb:=zH hb;have hl3:T.nodes.length<=1000:=HT.o.len;have hl4:=HU.o.len;clear hb;by_cases hin:i<T.nodes.length
  ·have d9:decide (i<T.nodes.length)=true:=by simp[hin]
   obtain⟨hin2,hat⟩:=Af (U:=U) hin;obtain⟨z0,z3⟩:=CN hc hin2;rw[hat]at z0 z3;obtain⟨g,rfl⟩:=kB ho (by omega);have c0:wr.cell? ⟨g,i*8,G0⟩=G5 (GX GZ T.nodes[i].kind):=(ho.cellAt (i*8) (by omega)).trans z0;have c3:wr.cell? ⟨g,i*8+3,G0⟩=G5 (GW T.nodes[i].text):=(ho.cellAt (i*8+3) (by omega)).trans z3;have hgl:=(ho.lt g rfl).2;clear ho hc z0 z3 hat;by_cases h19:T.nodes[i].kind=19
   ·have d19:(T.nodes[i].kind !=19)=false:=by simp[h19]
    have Hno:=zH (show nA≠T.nodes[i].text->isA T.nodes[i]=G7 from fun h=>by unfold isA;simp[Ne.symm h]);have Hyes:=zH (show nA=T.nodes[i].text->isA T.nodes[i]=G6 from fun h=>by unfold isA;simp[h19,h]);have Hat:=zH (re (U:=U) hin);have Hsucc:=zH (tj (U:=U) hin);have Hskip:=zH (fun(w':World) (kv:Value) (h:SG w bm (mmK T i) (sbK T U i) (mpK T U i) kv w') (ha:isA T.nodes[i]=G7)=>h.skip hin ha);have Hany:=zH (tm hin);clear h19;generalize T.nodes[i]=n at*
    go_upto_region 9 with fail
    have hX:=HG wr (GY #[GW n.text] 9);have hal:Below wr.heap.size wr (wr.alloc (GY #[GW n.text] 9)):=(Below.refl _ _).alloc (G8 _) _;have HX:=zH hX;have HS5:=zH (HS.o.below hal);have HL5:=zH (HL.o.below (Hb.o.trans (hal.mono Hb.o.size)));have hx5:=ai hX;clear hX hal HS c0 c3;generalize wr.alloc (GY #[GW n.text] 9)=w5 at*
    go_upto_region 10 with(go_at_call 17;refine(qX w5 L nA n.text pU _ cU _ wr.heap.size HL5.o HX.o).mono ?_;rintro e w6 ⟨rfl,hb6⟩;have HX6:=zH ((hb6.block _ hx5).trans HX.o);have HS6:=zH (HS5.o.below hb6);have HL6:=zH (HL5.o.below hb6);clear hb6)
    clear HX HS5 HL5;by_cases hA:nA=n.text
    ·have hix:ixB nA n.text=0:=by unfold ixB;rw[if_pos hA]
     rw[hix];have hy:=Hyes.o hA;have y0:w6.cell? ⟨wr.heap.size,0,G0⟩=G5 (GW nA):=by rw[hA];simp[World.cell?,HX6.o]
     obtain⟨xs6,ho6,hc6,hM6,hB6,hb6,hkv6,hbm6,hbr6⟩:=HS6.o;cases hany:(T.nodes.take i).any isA with
     | true =>
       have hmp:mpK T U i=D1 (U.root+(T.len:Int)):=by unfold mpK;rw[hany];rfl
       rw[hmp]at hM6;obtain⟨cq,hlk⟩:=MS.look0 hM6;rw[EJ]at hlk;have hal:Below w6.heap.size w6 (w6.alloc (GY #[GX GZ (U.root+(T.len:Int))] 3)):=(Below.refl _ _).alloc (G8 _) _;have hget:=MS.get hM6;have Hth:=zH (show(w6.alloc (GY #[GX GZ (U.root+(T.len:Int))] 3)).there g (i*8) (#[GX GZ 16,GX GZ 0,GX GZ 0,GW ⟨#[]⟩,GU (G5 ⟨w6.heap.size,0,G0⟩) 1 1,GU G0 0 0,GX GZ 0,GX GZ 0]:Array Value).size from pS (ao ho6 hal (G8 _)) (o:=i*8) (m:=8) (by omega));have Hsg:=zH (HS6.o.one (i:=i) (A:=(T.nodes.take i).map (sbN (U.root+(T.len:Int)))) (ns':=sbK T U (i+1)) Hat.o (by rw[Hsucc.o,lN hy];unfold tl;rw[Hany.o,hany];rfl) (by simp;omega));have Hme:=zH (show mmK T (i+1)=mmK T i/\mpK T U (i+1)=mpK T U i from by unfold mmK mpK;rw[Hany.o,hany];exact⟨rfl,rfl⟩);clear hal ho6 hc6 hM6 hB6 hb6 hkv6 hA hix;generalize U.root+(T.len:Int)=r at*
       go_wp2_with(with_reducible refine wpList_store_mid rfl 61 (.tmp 71) (.tmp 70) rfl g (i*8) _ rfl rfl Hth.o (by kernel_rfl) (by kernel_rfl) ?_);exact⟨⟨i+1,by first|rfl|(congr 1),by omega,by rw[Hme.o.1,Hme.o.2];exact Hsg.o⟩,by simp[intOf];omega⟩
     | false =>
       have hmp:mpK T U i=.map []:=by unfold mpK;rw[hany];rfl
       have hmm:mmK T i=0:=by unfold mmK;rw[hany];rfl
       rw[hmp,hmm]at hM6;obtain⟨cq,hlk⟩:=MS.look0 hM6;rw[EK]at hlk;obtain⟨-,t0,t1,t2⟩:=HL6.o;have htl:tl T U i=[]:=by unfold tl;rw[hany];rfl
       have hN:(sbK T U i).length=T.nodes.length:=by rw[wY (by omega),htl];rfl
       have HuE:=zH (show TS (we (aE 0 (GU (G5 ⟨g,0,G0⟩) (sbK T U i).length ck) (mv bm)) w6) (.agg #[GU pU U.nodes.length cU,GX GZ U.root]) U from Hu.o.sub (wX (fun k hk=>by
        simp only[aE,Jz,decide_eq_false_iff_not];refine⟨by omega,fun e=>?_,fun e=>?_⟩
        ·have:=(ho6.lt _ e).1;omega
        ·rw[oe]at e;injection e with e
         omega) hb6))
       have hz:∀g',(mv bm).ownBlock=G5 g'->g'<w6.heap.size:=fun g' e=>by
        rw[oe]at e;injection e with e
        omega
       have Ho6:=zH ho6;have Hc6:=zH hc6;have HM6:=zH hM6;have HB6:=zH hB6;have Hb6:=zH hb6;have Hkv6:=zH hkv6;have hwr6:wr.heap.size<w6.heap.size:=ai HX6.o;clear ho6 hc6 hM6 hB6 hb6 hkv6 hix;have HN:=zH hN;have hN1:(sbK T U i).length<=1000:=by omega
       have Htl:=zH htl;have Hmp:=zH hmp;have Hmm:=zH hmm;clear hN hA htl hmp hmm;go_upto_region 15 with(go_at_call 16;refine(pR (w.heap.size+2) (sbK T U i).length U w6 (mv bm) _ _ xs6 Ho6.o (by omega) hN1 HuE.o HU.o hz).mono ?_;rintro e w7 ⟨v7,ys7,rfl,ho7,hc7,hf7⟩;have Ho7:=zH ho7;have Hc7:=zH hc7;have Hf7:=zH hf7;obtain⟨p7,c7,rfl⟩:=aB ho7;clear ho7 hc7 hf7)
       have HS7:=zH (SG.emb Ho6.o Hc6.o HM6.o HB6.o Hb6.o Hkv6.o hbm6 hbr6 Hf7.o (by rw[Jc];exact Ho7.o) Hc7.o);have HM7:Hid (MS w7 bm 0 (.map [])):=by obtain⟨_,_,_,h,_⟩:=HS7.o;exact zH h
       have hw7:=Hf7.o.size;have y7:w7.cell? ⟨wr.heap.size,0,G0⟩=G5 (GW nA):=(cell_at (Hf7.o.block wr.heap.size hwr6 (by simp) (fun e=>by simp[I0]at e;omega))).trans y0;obtain⟨g7,rfl⟩:=kB Ho7.o (by omega);have hb7:bm<w7.heap.size:=by omega
       have hroot:=has_iff.1 HU.o.wf.root;have hwf:(Lit.int .i64 (U.root+((sbK T U i).length:Int))).wf=true:=by
        have h1:U.root+((sbK T U i).length:Int)<=2000:=by omega
        have h2:0<=U.root+((sbK T U i).length:Int):=by omega
        have h3:(-9223372036854775808:Int)<=U.root+((sbK T U i).length:Int):=by omega
        have h4:U.root+((sbK T U i).length:Int)<=(9223372036854775807:Int):=by omega
        exact Bool.and_eq_true_iff.2 ⟨decide_eq_true (show IntKind.min .i64<=_ from h3),decide_eq_true (show _<=IntKind.max .i64 from h4)⟩
       clear y0 hlk t0 t1 t2 HuE hz Ho6 Hc6 HM6 HB6 Hb6 Hkv6;go_upto_region 16 with(at_mapUpdate;refine wpList_mapUpdate_own _ rfl (.tmp 61) (.tmp 62) (.tmp 63) 57 rfl 9 3 vo qZ (plainElem Tryz.prog 3) bm 0 (.map []) rfl HM7.o (by decide) (GW nA) (GX GZ (U.root+((sbK T U i).length:Int))) kA rfl rfl EH (.lit (.int .i64 (U.root+((sbK T U i).length:Int)))) [] (plainElem_int qY hwf) ?_;intro w8 hown8 hgrow8;have HM8:=zH hown8;have Hg8:=zH hgrow8;clear hown8 hgrow8)
       have goto:∀a,Act.put a G0 undef=a:=fun a=>rfl
       rw[goto];have HD8:MS w8 bm 1 (D1 (U.root+((sbK T U i).length:Int))):=HM8.o;have HS8:=zH (HS7.o.upd HD8 Hg8.o);have hs8:=Hg8.o.4;have y8:w8.cell? ⟨wr.heap.size,0,G0⟩=G5 (GW nA):=(cell_at (Hg8.o.5 wr.heap.size (by omega) (by simp;omega))).trans y7;have hget:=MS.get HD8;obtain⟨xs8,ho8,-⟩:=HS8.o;have hal:Below w8.heap.size w8 (w8.alloc (GY #[GX GZ (U.root+((sbK T U i).length:Int))] 3)):=(Below.refl _ _).alloc (G8 _) _;have Hth:=zH (show(w8.alloc (GY #[GX GZ (U.root+((sbK T U i).length:Int))] 3)).there g7 (i*8) (#[GX GZ 16,GX GZ 0,GX GZ 0,GW ⟨#[]⟩,GU (G5 ⟨w8.heap.size,0,G0⟩) 1 1,GU G0 0 0,GX GZ 0,GX GZ 0]:Array Value).size from pS (ao (show w8.ownsRow (w.heap.size+2) 61 8 (GU (G5 ⟨g7,0,G0⟩) ((sbK T U i).length+U.len) c7) ((sbK T U i).length+U.len) xs8 from by rw[Ii,Jc]at ho8;exact ho8) hal (G8 _)) (o:=i*8) (m:=8) (by omega));have hNT:((sbK T U i).length:Int)=(T.len:Int):=by rw[HN.o];rfl
       have htl2:tl T U (i+1)=U.nodes.map (shN (T.len:Int)):=by unfold tl;rw[Hany.o,hy,Bool.or_true,if_pos rfl]
       have Hsg:=zH (HS8.o.one (i:=i) (r:=U.root+((sbK T U i).length:Int)) (A:=(T.nodes.take i).map (sbN (U.root+(T.len:Int)))) (C:=T.nodes.drop (i+1)++U.nodes.map (shN (T.len:Int))) (x:=n) (ns':=sbK T U (i+1)) (by rw[hNT,Hat.o,Htl.o];simp) (by rw[hNT,Hsucc.o,lN hy,htl2]) (by simp;omega));have Hme:=zH (show mmK T (i+1)=1/\mpK T U (i+1)=D1 (U.root+((sbK T U i).length:Int))from by unfold mmK mpK;rw[Hany.o,hy,Bool.or_true,if_pos rfl,if_pos rfl,hNT];exact⟨rfl,rfl⟩);clear hal ho8 y7 hNT htl2 HD8;have hlt8:i<(sbK T U i).length+U.len:=by omega
       go_wp2_with(with_reducible refine wpList_store_mid rfl 61 (.tmp 71) (.tmp 70) rfl g7 (i*8) _ rfl rfl Hth.o (by kernel_rfl) (by kernel_rfl) ?_);exact⟨⟨i+1,by first|rfl|(congr 1),by omega,by rw[Hme.o.1,Hme.o.2];exact Hsg.o⟩,by simp[intOf];omega⟩
    ·have hix:ixB nA n.text= -1:=by unfold ixB;rw[if_neg hA]
     rw[hix];have Hs7:=zH (Hskip.o _ _ HS6.o (Hno.o hA));clear hA hix;go_wp2;exact⟨⟨i+1,by first|rfl|(congr 1),by omega,Hs7.o⟩,by simp[intOf];omega⟩
   ·have d19:(T.nodes[i].kind !=19)=true:=by simp[h19]
    have Hn:=zH (HS.o.skip hin (show isA T.nodes[i]=G7 by unfold isA;simp[h19]));clear h19;generalize T.nodes[i]=n at*
    go_wp2;exact⟨⟨i+1,by first|rfl|(congr 1),by omega,Hn.o⟩,by simp[intOf];omega⟩
  ·have d9:decide (i<T.nodes.length)=false:=by simp;omega
   obtain rfl:i=T.nodes.length:=by omega
   obtain⟨xs9,ho9,hc9,-,hB9,hb9,-⟩:=HS.o;rw[rd]at ho9 hc9;have HB9:=zH hB9;go_wp2_with(with_reducible refine sR rfl 27 (.tmp 4) (.tmp 75) rfl rfl rfl HB9.o ?_);refine rB rfl (w.heap.size+1) 27 rfl (sH HB9.o) rfl rfl rfl ?_;have hns:(sbT T U).nodes.length<=2000:=(oh HT.o HU.o).1;have hkd:∀n∈(sbT T U).nodes,n.kids.length<=9223372036854775807:=fun n hn=>Nat.le_trans ((oh HT.o HU.o).2 n hn).1 (by decide)
   obtain⟨pz,cz,ez,hrw⟩:=bu (cF (w':=wr.setRow (w.heap.size+1) #[GU pk (sbT T U).nodes.length ck,GX GZ T.root]) ho9 fun g hg=>setRow_other _ _ _ _ (by have:=(ho9.lt g hg).1;omega)) (hc9.mono fun x cs _ h=>EL (x:=w.heap.size+1) h (du (by omega)) #[GU pk (sbT T U).nodes.length ck,GX GZ T.root]) (by omega);injection ez with ez1 _ ez3
   subst ez1 ez3;rw[rd];exact⟨_,rfl,⟨_,_,rfl,hrw,hkd⟩,aR hb9 (by omega)⟩
end Go.Proofs.YtfpahmeploondaaGreatDoor
namespace Go.Proofs.YtfpahmeploondaaGreatDoor
open Go.RowKit Go.Ident
set_option maxRecDepth 100000
theorem kR(a b:Int)(w:World):(binOp .neq 59 (.agg #[GX GZ a,GX GZ b]) (.agg #[GX GZ 0,GX GZ 0])).run Tryz.prog w=.ok (.bool (!(decide (a=0)&&decide (b=0)))) w:=by
 obtain⟨i,hi⟩:∃i,Tryz.prog.info? 3=G5 i:=by
  cases h:Tryz.prog.info? 3 with
  |some i=>exact⟨i,rfl⟩
  |none=>have:=eV;rw[h]at this;cases this
 have hc:Tryz.prog.cellsOf 3=1:=by kernel_rfl
 rw[run_neq_struct,run_equalIn_array w 9999 _ _ (show Tryz.prog.underlying 59=G5 (.array 2 3)by kernel_rfl) hi];simp only[show List.range 2=[0,1]from rfl,Op.eqItems,hc,Nat.zero_mul,Nat.one_mul];simp only[It,qN,qO,Ji,run_equalIn_int w 9998 3 .i64 .i64 a 0 Tryz.underlying3];have e1:(a==0)=decide (a=0):=by rw[IQ];simp
 have e2:(b==0)=decide (b=0):=by rw[IQ];simp
 cases h:a==0 with
 |false=>rw[<-e1,h];simp
 | true =>
   simp only[Bool.not_true,Bool.false_eq_true,if_false,It,qN,qO,Ji,run_equalIn_int w 9998 3 .i64 .i64 b 0 Tryz.underlying3];rw[<-e1,<-e2,h];cases h2:b==0<;>simp
theorem eE(T:Ty)(k:Int)(w:World)(t:Value)(ht:TS w t T):Calls Tryz.prog 39 #[t,GX GZ k] w (ER (T.has k) w):=by
 obtain⟨pt,ct,rfl,-,-⟩:=ht;go_enter Tryz.func39,Tryz.ntmps39;go_upto_region 1 with fail
 have hA:=HG w (GY #[GU pt T.nodes.length ct,GX GZ T.root] 27);have hb:Below w.heap.size w (w.alloc (GY #[GU pt T.nodes.length ct,GX GZ T.root] 27)):=(Below.refl _ _).alloc (G8 _) _;generalize w.alloc (GY #[GU pt T.nodes.length ct,GX GZ T.root] 27)=w1 at*
 obtain⟨t0,t1⟩:=aM hA;have Hb:=zH hb;clear hA hb;by_cases h0:0<=k
 ·have d0:decide (0<=k)=true:=by simp[h0]
  have Hr:=zH (show T.has k=decide (k<(T.nodes.length:Int))by unfold Ty.has Ty.len;rw[d0];simp);clear h0;go_wp2;go_ret;rw[Hr.o];exact⟨rfl,Hb.o⟩
 ·have d0:decide (0<=k)=false:=by simp[h0]
  have Hr:=zH (show T.has k=G7 by unfold Ty.has;rw[d0];simp);clear h0;go_wp2;go_ret;rw[Hr.o];exact⟨rfl,Hb.o⟩
theorem pV {T:Ty}{n:TN}{j:Nat}(h:j<n.kids.length)(h1:T.has n.kids[j]=G7):bB T n=false:=by
 rw[Bool.eq_false_iff];intro g;rw[nV g _ (List.getElem_mem h)]at h1;cases h1
inductive TagX:Bool->Prop
 |mk (b:Bool):TagX b
theorem EM(T:Ty)(n:TN)(h13:n.kind≠13)(w:World)(t:Value)(cs:List Value)(ht:TS w t T)(h:NC w n cs)(hL:n.kids.length<=9223372036854775807):Calls Tryz.prog 72 #[t,.agg cs.toArray] w (ER (bB T n) w):=by
 obtain⟨b0,b1,b2,S,hB⟩:∃b0 b1 b2 S:Bool,(n.kind=3/\b0=G6/\b1=G7/\b2=G7/\S=decide (n.lo<=n.hi))\/(n.kind=4/\b0=G7/\b1=G6/\b2=G7/\S=decide ((n.text.size:Int)<=64))\/(n.kind=6/\b0=G7/\b1=G6/\b2=G7/\S=eb n.text.data.toList)\/(n.kind=19/\b0=G7/\b1=G6/\b2=G7/\S=dG n.text.data.toList)\/(n.kind=1/\b0=G7/\b1=G7/\b2=G7/\S=G6)\/(n.kind=2/\b0=G7/\b1=G7/\b2=G7/\S=G6)\/(n.kind=5/\b0=G7/\b1=G7/\b2=G7/\S=G6)\/(n.kind=7/\b0=G7/\b1=G7/\b2=G7/\S=G6)\/(n.kind=8/\b0=G7/\b1=G7/\b2=G7/\S=G6)\/(n.kind=9/\b0=G7/\b1=G7/\b2=G7/\S=G6)\/(n.kind=11/\b0=G7/\b1=G7/\b2=G7/\S=G6)\/(n.kind=15/\b0=G7/\b1=G7/\b2=G7/\S=G6)\/(n.kind=10/\b0=G7/\b1=G7/\b2=G6/\S=decide ((n.kids.length:Int)<=4))\/(n.kind=12/\b0=G7/\b1=G7/\b2=G6/\S=((n.kids.length:Int)==2))\/(n.kind=14/\b0=G7/\b1=G7/\b2=G6/\S=(decide (1<=(n.kids.length:Int))&&decide ((n.kids.length:Int)<=5)))\/(n.kind=16/\b0=G7/\b1=G7/\b2=G6/\S=decide (1<=(n.kids.length:Int)))\/(n.kind=17/\b0=G7/\b1=G7/\b2=G6/\S=decide (1<=(n.kids.length:Int)))\/(n.kind=18/\b0=G7/\b1=G7/\b2=G6/\S=((n.kids.length:Int)==1))\/((n.kind≠3/\n.kind≠4/\n.kind≠6/\n.kind≠19/\n.kind≠1/\n.kind≠2/\n.kind≠5/\n.kind≠7/\n.kind≠8/\n.kind≠9/\n.kind≠11/\n.kind≠15/\n.kind≠10/\n.kind≠12/\n.kind≠14/\n.kind≠16/\n.kind≠17/\n.kind≠18/\n.kind≠13)/\b0=G7/\b1=G7/\b2=G6/\S=G7):=by
  by_cases h:n.kind≠3/\n.kind≠4/\n.kind≠6/\n.kind≠19/\n.kind≠1/\n.kind≠2/\n.kind≠5/\n.kind≠7/\n.kind≠8/\n.kind≠9/\n.kind≠11/\n.kind≠15/\n.kind≠10/\n.kind≠12/\n.kind≠14/\n.kind≠16/\n.kind≠17/\n.kind≠18/\n.kind≠13
  ·exact⟨G7,G7,G6,G7,by simp[h]⟩
  rcases(show n.kind=3\/n.kind=4\/n.kind=6\/n.kind=19\/n.kind=1\/n.kind=2\/n.kind=5\/n.kind=7\/n.kind=8\/n.kind=9\/n.kind=11\/n.kind=15\/n.kind=10\/n.kind=12\/n.kind=14\/n.kind=16\/n.kind=17\/n.kind=18 by omega)with h|h|h|h|h|h|h|h|h|h|h|h|h|h|h|h|h|h
  ·exact⟨G6,G7,G7,decide (n.lo<=n.hi),by simp[h]⟩
  ·exact⟨G7,G6,G7,decide ((n.text.size:Int)<=64),by simp[h]⟩
  ·exact⟨G7,G6,G7,eb n.text.data.toList,by simp[h]⟩
  ·exact⟨G7,G6,G7,dG n.text.data.toList,by simp[h]⟩
  ·exact⟨G7,G7,G7,G6,by simp[h]⟩
  ·exact⟨G7,G7,G7,G6,by simp[h]⟩
  ·exact⟨G7,G7,G7,G6,by simp[h]⟩
  ·exact⟨G7,G7,G7,G6,by simp[h]⟩
  ·exact⟨G7,G7,G7,G6,by simp[h]⟩
  ·exact⟨G7,G7,G7,G6,by simp[h]⟩
  ·exact⟨G7,G7,G7,G6,by simp[h]⟩
  ·exact⟨G7,G7,G7,G6,by simp[h]⟩
  ·exact⟨G7,G7,G6,decide ((n.kids.length:Int)<=4),by simp[h]⟩
  ·exact⟨G7,G7,G6,((n.kids.length:Int)==2),by simp[h]⟩
  ·exact⟨G7,G7,G6,(decide (1<=(n.kids.length:Int))&&decide ((n.kids.length:Int)<=5)),by simp[h]⟩
  ·exact⟨G7,G7,G6,decide (1<=(n.kids.length:Int)),by simp[h]⟩
  ·exact⟨G7,G7,G6,decide (1<=(n.kids.length:Int)),by simp[h]⟩
  ·exact⟨G7,G7,G6,((n.kids.length:Int)==1),by simp[h]⟩
 have Hn0:=zH (show n.kids.all T.has=G6->bB T n=((b0||decide (n.lo=0))&&(b0||decide (n.hi=0))&&(b1||decide (n.text.size=0))&&decide (n.fields.length=0)&&decide (n.rest0=0)&&decide (n.rest1=0)&&(b2||decide (n.kids.length=0))&&S)from fun hh=>by
  rcases hB with⟨hk,rfl,rfl,rfl,hS⟩|⟨hk,rfl,rfl,rfl,hS⟩|⟨hk,rfl,rfl,rfl,hS⟩|⟨hk,rfl,rfl,rfl,hS⟩|⟨hk,rfl,rfl,rfl,hS⟩|⟨hk,rfl,rfl,rfl,hS⟩|⟨hk,rfl,rfl,rfl,hS⟩|⟨hk,rfl,rfl,rfl,hS⟩|⟨hk,rfl,rfl,rfl,hS⟩|⟨hk,rfl,rfl,rfl,hS⟩|⟨hk,rfl,rfl,rfl,hS⟩|⟨hk,rfl,rfl,rfl,hS⟩|⟨hk,rfl,rfl,rfl,hS⟩|⟨hk,rfl,rfl,rfl,hS⟩|⟨hk,rfl,rfl,rfl,hS⟩|⟨hk,rfl,rfl,rfl,hS⟩|⟨hk,rfl,rfl,rfl,hS⟩|⟨hk,rfl,rfl,rfl,hS⟩|⟨hk,rfl,rfl,rfl,hS⟩
  all_goals subst hS
  all_goals unfold bB bR bj bq jF nH
  rotate_right
  ·obtain⟨k3,k4,k6,k19,k1,k2,k5,k7,k8,k9,k11,k15,k10,k12,k14,k16,k17,k18,k13⟩:=hk;simp only[k3,k4,k6,k19,k10,k12,k13,k14,k16,k17,k18,if_false,or_self];have:(decide (1<=n.kind)&&decide (n.kind<=15))=false:=by
    rw[Bool.and_eq_false_iff,decide_eq_false_iff_not,decide_eq_false_iff_not];omega
   rw[this];simp
  all_goals
   rw[List.all_append,hh];cases hf:n.fields with
   |nil=>rw[IQ];simp[hk];try(intros;constructor<;>(intro g;(try simp_all);(try omega)))
   |cons x r=>simp[hk])
 have HS0:=zH hB;have Q0:=TagX.mk b0;have Q1:=TagX.mk b1;have Q2:=TagX.mk b2;have HT:=zH ht;obtain⟨pt,ct,rfl,-,-⟩:=ht;obtain⟨p1,c1,p2,c2,rfl,hkids,-⟩:=h;have HK:=zH hkids;clear hkids hB h13;have he:=kR n.rest0 n.rest1;go_enter Tryz.func72,Tryz.ntmps72;go_upto_region 1 with fail
 obtain⟨w2,e9,hA,hB,hb⟩:=bE w (GY #[GU pt T.nodes.length ct,GX GZ T.root] 27) (GY #[GX GZ n.kind,GX GZ n.lo,GX GZ n.hi,GW n.text,GU p1 n.kids.length c1,GU p2 n.fields.length c2,GX GZ n.rest0,GX GZ n.rest1] 61);rw[e9];obtain⟨t0,t1⟩:=aM hA;obtain⟨⟨f0,f1,f2,f3⟩,f4,f5,f6,f7⟩:=aY hB;have hlA:=ai hA;have hlB:=ai hB;have HA:=zH hA;have HB:=zH hB;have Hb:=zH hb;clear e9 hA hB hb;go_wp2;go_loopw[5] (fun i wr=>∃k:Nat,i=GX GZ k/\k<=n.kids.length/\(∀j (h:j<n.kids.length),j<k->T.has n.kids[j]=G6)/\Below w2.heap.size w2 wr) (fun i _=>n.kids.length-(intOf i).toNat)
 case atStart=>exact⟨0,rfl,by omega,fun j _ h=>by omega,Below.refl _ _⟩
 case round=>
  obtain⟨k,rfl,hk,hall,hbr⟩:=hrel;have Hall:=zH hall;have Hbr:=zH hbr;have Hbw:=zH (Hb.o.step hbr);clear hall hbr f0 f1 f2 f3 f4 f5 f6 f7 t0 t1;obtain⟨t0,t1⟩:=aM ((Hbr.o.block _ hlA).trans HA.o);obtain⟨⟨f0,f1,f2,f3⟩,f4,f5,f6,f7⟩:=aY ((Hbr.o.block _ hlB).trans HB.o);by_cases hlt:k<n.kids.length
  ·have d9:decide (k<n.kids.length)=true:=by simp;omega
   obtain⟨-,ak,ok,rfl,hak,zk⟩:=(HK.o.below Hbw.o).at hlt;have Hno:=zH (pV (T:=T) hlt);have Hnx:=zH (show T.has n.kids[k]=G6->∀j (h:j<n.kids.length),j<k+1->T.has n.kids[j]=G6 from fun g j h hj=>by
    rcases Nat.lt_succ_iff_lt_or_eq.1 hj with g2|rfl
    ·exact Hall.o j h g2
    ·exact g)
   have Hix:=zH (eE T n.kids[k] wr.drew _ (HT.o.below Hbw.o.drew));generalize n.kids[k]=x at*
   cases hx:T.has x with
   | false =>
     have Hf:=zH (Hno.o hx);rw[hx]at Hix;clear hx;go_wp2_with(first
      |(with_reducible refine rg ?_)
      |(with_reducible refine fo ?_)
      |(go_at_call 39;refine Hix.o.mono ?_;rintro e w6 ⟨rfl,hb6⟩;have Hb6:=zH (Hbw.o.drew.step hb6);clear hb6))
     go_ret;rw[Hf.o];exact⟨rfl,Hb6.o⟩
   | true =>
     have Hnx2:=zH (Hnx.o hx);rw[hx]at Hix;clear hx;go_wp2_with(first
      |(with_reducible refine rg ?_)
      |(with_reducible refine fo ?_)
      |(go_at_call 39;refine Hix.o.mono ?_;rintro e w6 ⟨rfl,hb6⟩;have Hb6:=zH (Hbr.o.drew.step hb6);clear hb6))
     exact⟨⟨k+1,by go_num,by omega,Hnx2.o,Hb6.o⟩,by simp[intOf];omega⟩
  ·have d9:decide (k<n.kids.length)=false:=by simp;omega
   have hkk:n.kids.all T.has=true:=by
    rw[List.all_eq_true];intro e he;obtain⟨j,hj,rfl⟩:=List.mem_iff_getElem.1 he;exact Hall.o j hj (by omega)
   have Hn:=zH (Hn0.o hkk);clear hkk Hn0 HK Hall HA HB hlt;go_upto_region 6 with fail
   generalize n.kids.length=kl at f4 Hn HS0 ⊢;generalize n.fields.length=fl at f5 Hn ⊢;rcases HS0.o with⟨hk,rfl,rfl,rfl,hS⟩|⟨hk,rfl,rfl,rfl,hS⟩|⟨hk,rfl,rfl,rfl,hS⟩|⟨hk,rfl,rfl,rfl,hS⟩|⟨hk,rfl,rfl,rfl,hS⟩|⟨hk,rfl,rfl,rfl,hS⟩|⟨hk,rfl,rfl,rfl,hS⟩|⟨hk,rfl,rfl,rfl,hS⟩|⟨hk,rfl,rfl,rfl,hS⟩|⟨hk,rfl,rfl,rfl,hS⟩|⟨hk,rfl,rfl,rfl,hS⟩|⟨hk,rfl,rfl,rfl,hS⟩|⟨hk,rfl,rfl,rfl,hS⟩|⟨hk,rfl,rfl,rfl,hS⟩|⟨hk,rfl,rfl,rfl,hS⟩|⟨hk,rfl,rfl,rfl,hS⟩|⟨hk,rfl,rfl,rfl,hS⟩|⟨hk,rfl,rfl,rfl,hS⟩|⟨hk,rfl,rfl,rfl,hS⟩
   all_goals have HS:=zH hS
   all_goals clear hS HS0
   all_goals(first
    |(rw[hk]at f0;clear hk)
    | (obtain ⟨k3, k4, k6, k19, k1, k2, k5, k7, k8, k9, k11, k15, k10, k12, k14, k16, k17, k18, k13⟩ := hk
       replace k3:=eF k3;replace k4:=eF k4;replace k6:=eF k6;replace k19:=eF k19;replace k1:=eF k1;replace k2:=eF k2;replace k5:=eF k5;replace k7:=eF k7;replace k8:=eF k8;replace k9:=eF k9;replace k11:=eF k11;replace k15:=eF k15;replace k10:=eF k10;replace k12:=eF k12;replace k14:=eF k14;replace k16:=eF k16;replace k17:=eF k17;replace k18:=eF k18;replace k13:=eF k13;have k13n:(n.kind !=13)=true:=by simp[bne,k13]))
   all_goals(first
    | (have q : TagX false := Q0
       clear q;by_cases z:n.lo=0;rotate_left
       ·have e:=(decide_eq_false z)
        have Hr:=zH (show bB T n=G7 by rw[Hn.o,e];simp);clear e;have d0:(n.lo==0)=false:=by simp[z]
        have d0n:(n.lo !=0)=true:=by simp[z]
        clear z;go_wp2;go_ret;rw[Hr.o];exact⟨rfl,Hbw.o⟩
       have e:=(decide_eq_true z)
       rw[e]at Hn;clear e;have d0:(n.lo==0)=true:=by simp[z]
       have d0n:(n.lo !=0)=false:=by simp[z]
       clear z)
    |skip)
   all_goals(first
    | (have q : TagX false := Q0
       clear q;by_cases z:n.hi=0;rotate_left
       ·have e:=(decide_eq_false z)
        have Hr:=zH (show bB T n=G7 by rw[Hn.o,e];simp);clear e;have d1:(n.hi==0)=false:=by simp[z]
        have d1n:(n.hi !=0)=true:=by simp[z]
        clear z;go_wp2;go_ret;rw[Hr.o];exact⟨rfl,Hbw.o⟩
       have e:=(decide_eq_true z)
       rw[e]at Hn;clear e;have d1:(n.hi==0)=true:=by simp[z]
       have d1n:(n.hi !=0)=false:=by simp[z]
       clear z)
    |skip)
   all_goals(first
    | (have q : TagX false := Q1
       clear q;by_cases z:n.text.size=0;rotate_left
       ·have e:=(decide_eq_false z)
        have Hr:=zH (show bB T n=G7 by rw[Hn.o,e];simp);clear e;have d2:n.text.toList.isEmpty=false:=(cP n.text).trans (by simp[z]);clear z;go_wp2;go_ret;rw[Hr.o];exact⟨rfl,Hbw.o⟩
       have e:=(decide_eq_true z)
       rw[e]at Hn;clear e;have d2:n.text.toList.isEmpty=true:=(cP n.text).trans (by simp[z]);clear z)
    |skip)
   all_goals(first
    | (have q := Q0
       clear q;by_cases z:fl=0;rotate_left
       ·have e:=(decide_eq_false z)
        have Hr:=zH (show bB T n=G7 by rw[Hn.o,e];simp);clear e;obtain⟨fm,rfl⟩:∃fm,fl=fm+1:=⟨fl-1,by omega⟩
        go_wp2;go_ret;rw[Hr.o];exact⟨rfl,Hbw.o⟩
       have e:=(decide_eq_true z)
       rw[e]at Hn;clear e;obtain rfl:fl=0:=z)
    |skip)
   all_goals(first
    | (have q := Q0
       clear q;by_cases z:n.rest0=0;rotate_left
       ·have e:=(decide_eq_false z)
        have Hr:=zH (show bB T n=G7 by rw[Hn.o,e];simp);clear e;have d5:decide (n.rest0=0)=false:=by simp[z]
        clear z;go_wp2;go_ret;rw[Hr.o];exact⟨rfl,Hbw.o⟩
       have e:=(decide_eq_true z)
       rw[e]at Hn;clear e;have d5:decide (n.rest0=0)=true:=by simp[z]
       clear z)
    |skip)
   all_goals(first
    | (have q := Q0
       clear q;by_cases z:n.rest1=0;rotate_left
       ·have e:=(decide_eq_false z)
        have Hr:=zH (show bB T n=G7 by rw[Hn.o,e];simp);clear e;have d6:decide (n.rest1=0)=false:=by simp[z]
        clear z;go_wp2;go_ret;rw[Hr.o];exact⟨rfl,Hbw.o⟩
       have e:=(decide_eq_true z)
       rw[e]at Hn;clear e;have d6:decide (n.rest1=0)=true:=by simp[z]
       clear z)
    |skip)
   all_goals(first
    | (have q : TagX false := Q2
       clear q;by_cases z:kl=0;rotate_left
       ·have e:=(decide_eq_false z)
        have Hr:=zH (show bB T n=G7 by rw[Hn.o,e];simp);clear e;have d3:((kl:Int)==0)=false:=qQ z;clear z;go_wp2;go_ret;rw[Hr.o];exact⟨rfl,Hbw.o⟩
       have e:=(decide_eq_true z)
       rw[e]at Hn;clear e;have d3:((kl:Int)==0)=true:=mL z;clear z)
    |skip)
   all_goals have Hr:=zH (show bB T n=S by rw[Hn.o];simp)
   all_goals obtain rfl:=HS.o
   rotate_left 2
   ·have Hat:=zH (eZ n.text);generalize eb n.text.data.toList=c at*
    go_wp2_with(go_at_call 96;refine(Hat.o _).mono ?_;rintro e w ⟨rfl,rfl⟩);go_ret;rw[Hr.o];exact⟨rfl,Hbw.o⟩
   ·have Hat:=zH (eJ n.text);generalize dG n.text.data.toList=c at*
    go_wp2_with(go_at_call 95;refine(Hat.o _).mono ?_;rintro e w ⟨rfl,rfl⟩);go_ret;rw[Hr.o];exact⟨rfl,Hbw.o⟩
   rotate_left 10
   ·by_cases h1:1<=kl;rotate_left
    ·have g1:decide (1<=(kl:Int))=false:=by simp;omega
     rw[g1]at Hr;clear h1;go_wp2;go_ret;rw[Hr.o];exact⟨rfl,Hbw.o⟩
    have g1:decide (1<=(kl:Int))=true:=by simp;omega
    rw[g1,Bool.true_and]at Hr;clear h1;go_wp2;go_ret;rw[Hr.o];exact⟨rfl,Hbw.o⟩
   all_goals
    go_wp2;go_ret;rw[Hr.o];exact⟨rfl,Hbw.o⟩
end Go.Proofs.YtfpahmeploondaaGreatDoor
