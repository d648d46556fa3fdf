/- Walks and plain facts for the law on type variables, for all values and types that the heap holds (texts X1 X2 W4 W5 W6). -/
import Derived.ChangeKeysEq
import Derived.Test.YtfpahmeploondaaGreatDoorR03
import Derived.Test.YtfpahmeploondaaGreatDoorR08
import Derived.Test.YtfpahmeploondaaGreatDoorR09
import Derived.Test.YtfpahmeploondaaGreatDoorR16
set_option linter.unusedVariables false
set_option linter.unusedSimpArgs false
set_option maxHeartbeats 64000000
open Option renaming none -> G0, some -> G5
open Bool renaming true -> G6, false -> G7
open Go.Value renaming slice -> GU, string -> GW, int -> GX
open Go.Obj renaming cells -> GY
open Go.IntKind renaming i64 -> GZ
open Nat renaming lt_succ_iff_lt_or_eq -> IP, lt_of_lt_of_le -> Ig, add_zero -> Im, le_refl -> G8
open Bool renaming and_eq_false_iff -> Jo, eq_false_iff -> IA, eq_iff_iff -> IQ
open List renaming mem_iff_getElem -> IZ, all_eq_true -> Ij, getElem_mem -> Ip, length_map -> Jc
open Go.LexK.Ext renaming of_below -> IL, refl -> Is
open Go.Result renaming andThen_ok -> Ji
open Int renaming toNat_natCast -> JF
open Go renaming heap_alloc_new -> HG
open Go.Sem renaming run_bind -> It
open Go.World renaming cell? -> Ic
open Go.LexK renaming an -> JP, aq -> JQ, aH -> JT, aG -> JU, aK -> JV, aL -> JW, aO -> JY
open Go.Lex renaming aI -> JX, aP -> JZ, aX -> J0
namespace Go.Proofs.YtfpahmeploondaaGreatDoor
open Go.RowKit
set_option maxRecDepth 100000
structure CX(w:World)(T:Ty)(bs ba bt bw:Nat)(f:Nat->Int):Prop where
 s:w.heap[bs]? =G5 (GY #[GU (G5 ⟨ba,0,G0⟩) T.len T.len] 22)
 a:MI w ba T.len f
 t:BT (wo ba w) bt T
 g:w.heap[bw]? =G5 (GY #[.func (.func 87) #[] #[.pointer (G5 ⟨bs,0,G0⟩),.pointer (G5 ⟨bt,0,G0⟩),.pointer (G5 ⟨bw,0,G0⟩)]] 140)
 ns:bs≠ba
 nw:bw≠ba
theorem CX.turn {w w':World}{T:Ty}{bs ba bt bw:Nat}{f f':Nat->Int}(h:CX w T bs ba bt bw f)(hb:Below w.heap.size (wo ba w) (wo ba w'))(ha:MI w' ba T.len f'):CX w' T bs ba bt bw f':=by
 have e:∀k,k<w.heap.size->k≠ba->w'.heap[k]? =w.heap[k]? :=fun k hk hn=>by
  have:=hb.block k hk;rwa[nL hn,nL hn]at this
 exact⟨(e _ (ai h.s) h.ns).trans h.s,ha,h.t.below (by rw[bf];exact hb),(e _ (ai h.g) h.nw).trans h.g,h.ns,h.nw⟩
theorem CX.below {w w':World}{T:Ty}{bs ba bt bw:Nat}{f:Nat->Int}(h:CX w T bs ba bt bw f)(hb:Below w.heap.size w w'):CX w' T bs ba bt bw f:=h.turn (dc hb) (h.a.below hb)
theorem wG {w:World}{b k:Nat}{vs:Array Value}{e:TypeId}{fr:Nat×Nat}(h:(wo b w).heap[k]? =G5 (.cells vs e fr))(hv:0<vs.size):k≠b/\w.heap[k]? =G5 (.cells vs e fr):=by
 have hn:k≠b:=by
  rintro rfl;rw[Cz]at h;by_cases g:k<w.heap.size
  ·rw[if_pos g]at h;injection h with h
   injection h with h1
   subst h1;simp at hv
  ·rw[if_neg g]at h;cases h
 exact⟨hn,by rwa[nL hn]at h⟩
theorem CX.node {w:World}{T:Ty}{bs ba bt bw:Nat}{f:Nat->Int}(h:CX w T bs ba bt bw f){i:Nat}(hi:i<T.len):
 ∃ p c a o p1 c1, p = G5 ⟨a, o, G0⟩ ∧ w.heap[bt]? = G5 (GY #[GU p T.nodes.length c, GX GZ T.root] 27) ∧ w.cell? ⟨a, o + i * 8, G0⟩ = G5 (GX GZ (T.node (i : Nat)).kind) ∧
   w.cell? ⟨a,o+i*8+4,G0⟩=G5 (GU p1 (T.node (i:Nat)).kids.length c1)/\IS (wo ba w) (GU p1 (T.node (i:Nat)).kids.length c1) (T.node (i:Nat)).kids/\(T.node (i:Nat)).kids.length<=9223372036854775807:=by
 obtain⟨s0,s1,h1,p,c,e,h2,h3⟩:=h.t;obtain⟨hn,h4⟩:=wG h1 (by simp);injection e with e
 simp at e;obtain⟨rfl,rfl⟩:=e;have hi':i<T.nodes.length:=hi;obtain⟨a,o,cs,hp,-,-,hr,p1,c1,p2,c2,rfl,h5,-⟩:=h2.at hi';rw[T.node_at hi'];exact⟨p,c,a,o,p1,c1,hp,h4,by have:=hr 0 _ rfl;exact aF this,by have:=hr 4 _ rfl;exact aF this,h5,h3 _ (Ip hi')⟩
def CWR(T:Ty)(bs ba bt bw:Nat)(f:Nat->Int)(O:List Nat)(i:Nat)(w:World)(e:Ending)(w':World):Prop:=
 ∃ (b : Bool) (f' : Nat → Int), e = .returned (.bool b) ∧ CX w' T bs ba bt bw f' ∧ Below w.heap.size (wo ba w) (wo ba w') ∧
   (b=G6->DfI T f' O/\(∀m,m<T.len->f m≠0->f' m=f m)/\((T.node (i:Nat)).bool=G6->f' i=2))/\(b=G7->¬Ctr T)
theorem pN(T:Ty)(hK:iX T)(bs ba bt bw:Nat)(f:Nat->Int)(O:List Nat)(i:Nat)(w:World)(hi:i<T.len)(hD:DfI T f O)(hO:∀o∈O,BW T o i)(hX:CX w T bs ba bt bw f)
 (IH:∀(f':Nat->Int) (O':List Nat) (i':Nat) (w':World),mn T.len f'<mn T.len f->i'<T.len->DfI T f' O'->(∀o∈O',BW T o i')->CX w' T bs ba bt bw f'->
  Calls Tryz.prog 87 #[GX GZ (i':Nat),.pointer (G5 ⟨bs,0,G0⟩),.pointer (G5 ⟨bt,0,G0⟩),.pointer (G5 ⟨bw,0,G0⟩)] w' (CWR T bs ba bt bw f' O' i' w')):
 Calls Tryz.prog 87 #[GX GZ (i:Nat),.pointer (G5 ⟨bs,0,G0⟩),.pointer (G5 ⟨bt,0,G0⟩),.pointer (G5 ⟨bw,0,G0⟩)] w (CWR T bs ba bt bw f O i w):=by
 have HI:=zH IH;have HX:=zH hX;have HD:=zH hD;have HO:=zH hO;have HK:=zH hK;have Hi:=zH hi;have s0:w.cell? ⟨bs,0,G0⟩=G5 (GU (G5 ⟨ba,0,G0⟩) T.len T.len):=by simp[Ic,hX.s]
 have a0:=hX.a.cell hi;clear IH hX hD hO hK;by_cases h0:f i=0;rotate_left
 ·have d0:(f i !=0)=true:=by simp[h0]
  rcases HD.o.range i hi with h|h|h
  ·exact absurd h h0
  ·have Hno:=zH (show¬Ctr T from(HO.o i (HD.o.opn i hi h)).cyc);rw[h]at a0 d0;clear h h0 hi;go_enter Tryz.func87,Tryz.ntmps87;go_wp2;go_ret;exact⟨_,f,rfl,HX.o,Below.refl _ _,fun h=>by simp at h,fun _=>Hno.o⟩
  ·have Hy:=zH h;rw[h]at a0 d0;clear h h0 hi;go_enter Tryz.func87,Tryz.ntmps87;go_wp2;go_ret;exact⟨_,f,rfl,HX.o,Below.refl _ _,fun _=>⟨HD.o,fun _ _ _=>rfl,fun _=>Hy.o⟩,fun h=>by simp at h⟩
 have H0:=zH h0;have hlt:(i:Int)<(T.nodes.length:Int):=by have:i<T.nodes.length:=hi;omega
 obtain⟨p,c,a,o,p1,c1,rfl,ht,z0,z4,hkids,hkl⟩:=HX.o.node hi;obtain⟨t0,t1⟩:=aM ht;have Hkids:=zH hkids;have Hbo:=zH (pm (T.node (i:Nat)).kind w);have Hbk:=zH (pG (T.node (i:Nat)));rw[h0]at a0;clear h0 hkids;cases hb:nN (T.node (i:Nat)).kind with
 | false =>
   rw[hb]at Hbo Hbk;clear hb;generalize(T.node (i:Nat)).kind=kd at*
   go_enter Tryz.func87,Tryz.ntmps87;go_wp2_with(go_at_call 88;refine Hbo.o.mono ?_;rintro e w1 ⟨rfl,hb1⟩;have HX1:=zH (HX.o.below hb1);have Hb1:=zH hb1;clear s0 a0 t0 t1 z0 z4 ht hb1;have s0:w1.cell? ⟨bs,0,G0⟩=G5 (GU (G5 ⟨ba,0,G0⟩) T.len T.len):=(by simp[Ic,HX1.o.s]);have a0:=HX1.o.a.cell Hi.o;rw[H0.o]at a0);go_ret;exact⟨_,f,rfl,HX1.o,dc Hb1.o,fun _=>⟨HD.o,fun _ _ _=>rfl,fun h=>by rw[Hbk.o]at h;cases h⟩,fun h=>by simp at h⟩
 | true =>
   rw[hb]at Hbo Hbk;clear hb;generalize(T.node (i:Nat)).kind=kd at*
   go_enter Tryz.func87,Tryz.ntmps87;go_upto_region 3 with(go_at_call 88;refine Hbo.o.mono ?_;rintro e w1 ⟨rfl,hb1⟩;have HX1:=zH (HX.o.below hb1);have Hb1:=zH hb1;clear s0 a0 t0 t1 z0 z4 ht hb1;have s0:w1.cell? ⟨bs,0,G0⟩=G5 (GU (G5 ⟨ba,0,G0⟩) T.len T.len):=(by simp[Ic,HX1.o.s]);have a0:=HX1.o.a.cell Hi.o;have a1:=HX1.o.a.free i)
   obtain⟨hM,o2,hU⟩:=HX1.o.a.set Hi.o 1;rw[H0.o]at a0;go_upto_region 4 with fail
   generalize w1.setCell ⟨ba,i,G0⟩ (GX GZ 1)=w2 at*
   have HX2:=zH (HX1.o.turn (eM hU) hM);have Hb2:=zH (show Below w.heap.size (wo ba w) (wo ba w2)from(dc Hb1.o).trans ((eM hU).mono Hb1.o.size));have HD2:=zH (HD.o.push Hi.o H0.o);clear s0 a0 a1 hM hU;obtain⟨p',c',a',o',p1',c1',ep,ht2,-,z4,hkids2,-⟩:=HX2.o.node Hi.o;obtain⟨t0,t1⟩:=aM ht2;subst ep;have Hkids2:=zH hkids2;clear hkids2 ht2;obtain⟨wq,hwq⟩:∃wq:World,wq=w2:=⟨_,rfl⟩
   subst hwq;have HKi:=zH (fun x hx=>HK.o i Hi.o Hbk.o x hx);have Hone:=zH (fun(k:Nat) hk=>BW.one (T:=T) (k:=k) Hi.o Hbk.o hk);have Hstep:=zH (fun(q k:Nat) (hq:BW T q i) hk=>BW.step (k:=k) hq Hi.o Hbk.o hk);have Hpop:=zH (fun(f':Nat->Int) (h:DfI T f' (i::O)) (hn:i∉O) (hk:∀k:Nat,(k:Int)∈(T.node (i:Nat)).kids->(T.node (k:Nat)).bool=G6->f' k=2)=>h.pop hn hk);generalize(T.node (i:Nat)).kids=ks at*
   go_wp2;go_loopw[38] (fun j wr=>∃(k:Nat) (f':Nat->Int),j=GX GZ k/\k<=ks.length/\CX wr T bs ba bt bw f'/\Below wq.heap.size (wo ba wq) (wo ba wr)/\DfI T f' (i::O)/\(∀m,m<T.len->(if m=i then 1 else f m)≠0->f' m=if m=i then 1 else f m)/\(∀j (h:j<ks.length),j<k->(T.node ks[j]).bool=G6->f' ks[j].toNat=2)) (fun j _=>ks.length-(intOf j).toNat)
   case atStart=>exact⟨0,_,rfl,by omega,HX2.o,Below.refl _ _,HD2.o,fun _ _ _=>rfl,fun j _ h=>by omega⟩
   case round=>
    obtain⟨k,f',rfl,hk,hx,hb,hd,hm,hall⟩:=hrel;have HXr:=zH hx;have Hbr:=zH hb;have HDr:=zH hd;have Hmr:=zH hm;have Har:=zH hall;clear hx hb hd hm hall t0 t1 z4;by_cases hlt:k<ks.length
    ·obtain⟨-,ak,ok,rfl,-,zk⟩:=(Hkids2.o.below (by rw[bf];exact Hbr.o)).at hlt;have zk:=aF zk;have g0:wr.cell? ⟨bw,0,G0⟩=G5 (.func (.func 87) #[] #[.pointer (G5 ⟨bs,0,G0⟩),.pointer (G5 ⟨bt,0,G0⟩),.pointer (G5 ⟨bw,0,G0⟩)]):=by simp[Ic,HXr.o.g]
     obtain⟨m,hm,hml⟩:=gt (HKi.o _ (Ip hlt));have hmem:((m:Nat):Int)∈ks:=by rw[<-hm];exact Ip hlt
     have Hm:=zH hm;rw[hm]at zk;have hfi:f' i=1:=by have:=Hmr.o i Hi.o (by simp);simpa using this
     have hz:mn T.len f'<mn T.len f:=zK (fun j hj h=>by
      by_cases e:j=i
      ·rw[e];exact H0.o
      ·rcases Decidable.em (f j=0)with g|g
       ·exact g
       ·have:=Hmr.o j hj (by simpa[e]using g);simp only[e,if_false]at this;omega) Hi.o H0.o (by omega)
     have Hcall:=zH (HI.o f' (i::O) m wr hz hml HDr.o (fun q hq=>by
      rcases List.mem_cons.1 hq with rfl|hq
      ·exact Hone.o m hmem
      ·exact Hstep.o q m (HO.o q hq) hmem) HXr.o)
     clear hm hz hfi;go_wp2_with(go_at_call 87;refine Hcall.o.mono ?_;rintro e w6 ⟨b,f6,rfl,hx6,hb6,ht6,hf6⟩;have HX6:=zH hx6;have Hb6:=zH (show Below wq.heap.size (wo ba wq) (wo ba w6)from Hbr.o.trans (hb6.mono (by have:=Hbr.o.size;rwa[bf,bf]at this)));have Ht6:=zH ht6;have Hf6:=zH hf6;clear hx6 hb6 ht6 hf6;cases b)
     ·go_ret;exact⟨_,f6,rfl,HX6.o,Hb2.o.trans (Hb6.o.mono (by have:=Hb2.o.size;rwa[bf,bf]at this)),fun h=>by simp at h,fun _=>Hf6.o (by trivial)⟩
     ·obtain⟨hd6,hm6,hk6⟩:=Ht6.o (by trivial);refine⟨⟨k+1,f6,by go_num,by omega,HX6.o,Hb6.o,hd6,fun q hq g=>?_,fun j h hjk hbj=>?_⟩,by simp[intOf];omega⟩
      ·have e1:=Hmr.o q hq g;rw[hm6 q hq (by rw[e1];exact g),e1]
      ·rcases IP.1 hjk with g|rfl
       ·have e1:=Har.o j h g hbj;obtain⟨q,hq,hql⟩:=gt (HKi.o _ (Ip h));rw[hq,JF]at e1 ⊢;rw[hm6 q hql (by omega),e1]
       ·rw[Hm.o]at hbj ⊢;exact hk6 hbj
    ·obtain rfl:k=ks.length:=by omega
     have s0:wr.cell? ⟨bs,0,G0⟩=G5 (GU (G5 ⟨ba,0,G0⟩) T.len T.len):=by simp[Ic,HXr.o.s]
     have a0:=HXr.o.a.cell Hi.o;have a1:=HXr.o.a.free i;have hii:(i:Int)<(T.len:Int):=by have:=Hi.o;omega
     obtain⟨hM,o2,hU⟩:=HXr.o.a.set Hi.o 2;have HXe:=zH (HXr.o.turn (eM hU) hM);have Hbe:=zH (show Below wq.heap.size (wo ba wq) (wo ba (wr.setCell ⟨ba,i,G0⟩ (GX GZ 2)))from Hbr.o.trans ((eM hU).mono (by have:=Hbr.o.size;rwa[bf,bf]at this)));clear hM hU;go_wp2;go_ret;refine⟨_,_,rfl,HXe.o,Hb2.o.trans (Hbe.o.mono (by have:=Hb2.o.size;rwa[bf,bf]at this)),fun _=>⟨Hpop.o f' HDr.o (fun h=>?_) (fun q hq hbq=>?_),fun m hm g=>?_,fun _=>by simp⟩,fun h=>by simp at h⟩
     ·have:=(HD.o.all i h).2;have:=H0.o;omega
     ·obtain⟨j,hj,e⟩:=IZ.1 hq;have:=Har.o j hj hj (by rw[e];exact hbq);rw[e,JF]at this;exact this
     ·have e:m≠i:=fun e=>g (by rw[e];exact H0.o)
      have:=Hmr.o m hm (by simpa[e]using g);simpa[e]using this
theorem zS(T:Ty)(hK:iX T)(bs ba bt bw:Nat):∀(N:Nat) (f:Nat->Int) (O:List Nat) (i:Nat) (w:World),mn T.len f<=N->i<T.len->DfI T f O->(∀o∈O,BW T o i)->CX w T bs ba bt bw f->
 Calls Tryz.prog 87 #[GX GZ (i:Nat),.pointer (G5 ⟨bs,0,G0⟩),.pointer (G5 ⟨bt,0,G0⟩),.pointer (G5 ⟨bw,0,G0⟩)] w (CWR T bs ba bt bw f O i w):=by
 intro N
 induction N with
 |zero=>intro f O i w hz hi hD hO hX;exact pN T hK bs ba bt bw f O i w hi hD hO hX fun f' O' i' w' h=>by omega
 |succ N ih=>intro f O i w hz hi hD hO hX;exact pN T hK bs ba bt bw f O i w hi hD hO hX fun f' O' i' w' h=>ih f' O' i' w' (by omega)
open Classical in
theorem mC(T:Ty)(w:World)(t:Value)(ht:TS w t T)(hK:iX T)(hn:T.len<=100000):Calls Tryz.prog 49 #[t] w (ER (decide (Ctr T)) w):=by
 have HK:=zH hK;have HT:=zH ht;obtain⟨pt,ct,rfl,-⟩:=ht;obtain⟨ib,hi,hz,hz1,hz2⟩:=info_parts eV;have Hi:=zH hi;have Hz:=zH hz;have Hz1:=zH hz1;have Hz2:=zH hz2;have hmf:∀(fn:Fn) (first cap:Array Value) (w:World),(Instr.makeFunc fn first cap).run Tryz.prog w=.ok (.func fn first cap) w:=fun _ _ _ _=>rfl
 have hA1:=(Below.refl w.heap.size w).alloc (G8 _) (GY #[GU pt T.nodes.length ct,GX GZ T.root] 27);have hn1:=HG w (GY #[GU pt T.nodes.length ct,GX GZ T.root] 27);have hs1:(w.alloc (GY #[GU pt T.nodes.length ct,GX GZ T.root] 27)).heap.size=w.heap.size+1:=by simp
 clear hi hz hz1 hz2 hK;go_enter Tryz.func49,Tryz.ntmps49;go_upto_region 1 with fail
 generalize w.alloc (GY #[GU pt T.nodes.length ct,GX GZ T.root] 27)=w1 at*
 obtain⟨t0,t1⟩:=aM hn1;have HB1:=zH (show BT w1 w.heap.size T from⟨_,_,hn1,HT.o.below hA1⟩);have hA2:=(Below.refl w1.heap.size w1).alloc (G8 _) (.cells (madeCells #[GX GZ 0] T.nodes.length) 3);have T2:=MI.made w1 T.nodes.length;have hs2:(w1.alloc (.cells (madeCells #[GX GZ 0] T.nodes.length) 3)).heap.size=w1.heap.size+1:=by simp
 have hlen:T.nodes.length<=100000:=hn;have Hs2:=zH hs2;clear hs2;go_upto_region 4 with(at_make;refine wpList_make_row w1 rfl (.tmp 8) (.tmp 8) 22 rfl 3 ib (GX GZ 0) (by kernel_rfl) Hi.o Hz.o Hz1.o rfl .i64 .i64 T.nodes.length rfl rfl (by rw[Hz2.o];omega) (by omega) ?_;generalize w1.alloc (.cells (madeCells #[GX GZ 0] T.nodes.length) 3)=w2 at*)
 have hs2:=Hs2.o;rw[hs1]at T2 hs2;have hX:CX ((w2.alloc (GY #[GU (G5 ⟨w.heap.size+1,0,G0⟩) T.nodes.length T.nodes.length] 22)).alloc (GY #[.func (.func 87) #[] #[.pointer (G5 ⟨w2.heap.size,0,G0⟩),.pointer (G5 ⟨w.heap.size,0,G0⟩),.pointer (G5 ⟨w2.heap.size+1,0,G0⟩)]] 140)) T w2.heap.size (w.heap.size+1) w.heap.size (w2.heap.size+1) (fun _=>0)/\
  Below w2.heap.size w2 ((w2.alloc (GY #[GU (G5 ⟨w.heap.size+1,0,G0⟩) T.nodes.length T.nodes.length] 22)).alloc (GY #[.func (.func 87) #[] #[.pointer (G5 ⟨w2.heap.size,0,G0⟩),.pointer (G5 ⟨w.heap.size,0,G0⟩),.pointer (G5 ⟨w2.heap.size+1,0,G0⟩)]] 140)):=by
  have n3:=HG w2 (GY #[GU (G5 ⟨w.heap.size+1,0,G0⟩) T.nodes.length T.nodes.length] 22);have hb3:=(Below.refl w2.heap.size w2).alloc (G8 _) (GY #[GU (G5 ⟨w.heap.size+1,0,G0⟩) T.nodes.length T.nodes.length] 22);have s3:(w2.alloc (GY #[GU (G5 ⟨w.heap.size+1,0,G0⟩) T.nodes.length T.nodes.length] 22)).heap.size=w2.heap.size+1:=by simp
  generalize w2.alloc (GY #[GU (G5 ⟨w.heap.size+1,0,G0⟩) T.nodes.length T.nodes.length] 22)=w3 at*
  have n4:=HG w3 (GY #[.func (.func 87) #[] #[.pointer (G5 ⟨w2.heap.size,0,G0⟩),.pointer (G5 ⟨w.heap.size,0,G0⟩),.pointer (G5 ⟨w2.heap.size+1,0,G0⟩)]] 140);have hb4:=(Below.refl w3.heap.size w3).alloc (G8 _) (GY #[.func (.func 87) #[] #[.pointer (G5 ⟨w2.heap.size,0,G0⟩),.pointer (G5 ⟨w.heap.size,0,G0⟩),.pointer (G5 ⟨w2.heap.size+1,0,G0⟩)]] 140);rw[s3]at n4;generalize w3.alloc (GY #[.func (.func 87) #[] #[.pointer (G5 ⟨w2.heap.size,0,G0⟩),.pointer (G5 ⟨w.heap.size,0,G0⟩),.pointer (G5 ⟨w2.heap.size+1,0,G0⟩)]] 140)=w4 at*
  have hb24:Below w2.heap.size w2 w4:=hb3.step hb4;refine⟨⟨(hb4.block _ (by omega)).trans n3,T2.below hb24,?_,n4,by omega,by omega⟩,hb24⟩;exact HB1.o.below ((hA2.trans (hb24.mono (by omega))).trans (zO (by omega)))
 have HX:=zH hX.1;have Hb4:=zH hX.2;have Hbx:=zH ((Hb4.o.block w.heap.size (by omega)).trans ((hA2.block _ (ai hn1)).trans hn1));have Hs:=zH (show w.heap.size+1<w2.heap.size+1 from by omega);have Hb2:=zH (hA1.trans (hA2.mono (by omega)));generalize(w2.alloc (GY #[GU (G5 ⟨w.heap.size+1,0,G0⟩) T.nodes.length T.nodes.length] 22)).alloc (GY #[.func (.func 87) #[] #[.pointer (G5 ⟨w2.heap.size,0,G0⟩),.pointer (G5 ⟨w.heap.size,0,G0⟩),.pointer (G5 ⟨w2.heap.size+1,0,G0⟩)]] 140)=w4 at*
 have Hbb:=zH (show Below w.heap.size w w4 from Hb2.o.trans (Hb4.o.mono (by have:=Hs.o;omega)));have Hend:=zH (fun(wr:World) (hb:Below w4.heap.size (wo (w.heap.size+1) w4) (wo (w.heap.size+1) wr))=>(show Below w.heap.size w wr from Hbb.o.trans (zN hb (by omega) Hbb.o.size)));clear hX t0 t1 hA1 hn1 hs1 hA2 T2 hs2;obtain⟨t0,t1⟩:=aM Hbx.o;generalize w2.heap.size=bs at*
 generalize hba:w.heap.size+1=ba at*
 go_wp2;go_loopw[14] (fun j wr=>∃(k:Nat) (f':Nat->Int),j=GX GZ k/\k<=T.nodes.length/\CX wr T bs ba w.heap.size (bs+1) f'/\Below w4.heap.size (wo ba w4) (wo ba wr)/\DfI T f' []/\(∀j,j<k->(T.node (j:Nat)).bool=G6->f' j=2)) (fun j _=>T.nodes.length-(intOf j).toNat)
 case atStart=>exact⟨0,_,rfl,by omega,HX.o,Below.refl _ _,DfI.start T,fun j h=>by omega⟩
 case round=>
  obtain⟨k,f',rfl,hk,hx,hb,hd,hall⟩:=hrel;have HXr:=zH hx;have Hbr:=zH hb;have HDr:=zH hd;have Har:=zH hall;clear hx hb hd hall t0 t1;by_cases hlt:k<T.nodes.length
  ·have g0:wr.cell? ⟨bs+1,0,G0⟩=G5 (.func (.func 87) #[] #[.pointer (G5 ⟨bs,0,G0⟩),.pointer (G5 ⟨w.heap.size,0,G0⟩),.pointer (G5 ⟨bs+1,0,G0⟩)]):=by simp[Ic,HXr.o.g]
   have Hcall:=zH (zS T HK.o bs ba w.heap.size (bs+1) _ f' [] k wr (G8 _) hlt HDr.o (fun q hq=>by simp at hq) HXr.o);go_wp2_with(go_at_call 87;refine Hcall.o.mono ?_;rintro e w6 ⟨b,f6,rfl,hx6,hb6,ht6,hf6⟩;have HX6:=zH hx6;have Hb6:=zH (show Below w4.heap.size (wo ba w4) (wo ba w6)from Hbr.o.trans (hb6.mono (by have:=Hbr.o.size;rwa[bf,bf]at this)));have Ht6:=zH ht6;have Hf6:=zH hf6;clear hx6 hb6 ht6 hf6;cases b)
   ·go_ret;have hno:decide (Ctr T)=false:=decide_eq_false (Hf6.o (by trivial));rw[hno];exact⟨rfl,Hend.o _ Hb6.o⟩
   ·obtain⟨hd6,hm6,hk6⟩:=Ht6.o (by trivial);refine⟨⟨k+1,f6,by go_num,by omega,HX6.o,Hb6.o,hd6,fun j hj hbj=>?_⟩,by simp[intOf];omega⟩;rcases IP.1 hj with g|rfl
    ·have e1:=Har.o j g hbj;have hj2:j<T.len:=by show j<T.nodes.length;omega
     rw[hm6 j hj2 (by omega),e1]
    ·exact hk6 hbj
  ·obtain rfl:k=T.nodes.length:=by omega
   go_wp2;go_ret;have hyes:decide (Ctr T)=true:=decide_eq_true (HDr.o.done HK.o fun i hi hb=>Har.o i hi hb);rw[hyes];exact⟨rfl,Hend.o _ Hbr.o⟩
open Go.RowKit Go.Ident
theorem qN(a b:Int)(w:World):(part 3 #[GX GZ a,GX GZ b] 0).run Tryz.prog w=.ok (GX GZ a) w:=by kernel_rfl
theorem qO(a b:Int)(w:World):(part 3 #[GX GZ a,GX GZ b] 1).run Tryz.prog w=.ok (GX GZ b) w:=by kernel_rfl
theorem qP(a b:Int)(w:World):(binOp .eql 59 (.agg #[GX GZ a,GX GZ b]) (.agg #[GX GZ 0,GX GZ 0])).run Tryz.prog w=.ok (.bool (decide (a=0)&&decide (b=0))) w:=by
 obtain⟨i,hi⟩:∃i,Tryz.prog.info? 3=G5 i:=by
  cases h:Tryz.prog.info? 3 with
  |some i=>exact⟨i,rfl⟩
  |none=>have:=eV;rw[h]at this;cases this
 have hc:Tryz.prog.cellsOf 3=1:=by kernel_rfl
 rw[run_eql_struct,run_equalIn_array w 9999 _ _ (show Tryz.prog.underlying 59=G5 (.array 2 3)by kernel_rfl) hi];simp only[show List.range 2=[0,1]from rfl,Op.eqItems,hc,Nat.zero_mul,Nat.one_mul];simp only[It,qN,qO,Ji,run_equalIn_int w 9998 3 .i64 .i64 a 0 Tryz.underlying3];have e1:(a==0)=decide (a=0):=by rw[IQ];simp
 have e2:(b==0)=decide (b=0):=by rw[IQ];simp
 cases h:a==0 with
 |false=>rw[<-e1,h];simp
 | true =>
   simp only[Bool.not_true,Bool.false_eq_true,if_false,It,qN,qO,Ji,run_equalIn_int w 9998 3 .i64 .i64 b 0 Tryz.underlying3];rw[<-e1,<-e2,h];cases h2:b==0<;>simp
theorem qQ {k:Nat}(h: ¬k=0):((k:Int)==0)=false:=by rw[IA];intro g;rw[beq_iff_eq]at g;omega
theorem mL {k:Nat}(h:k=0):((k:Int)==0)=true:=by rw[beq_iff_eq];omega
inductive TagP:Bool->Prop
 |mk (b:Bool):TagP b
theorem eF {k j:Int}(h:k≠j):(k==j)=false:=by rw[IA];intro g;exact h (by simpa using g)
theorem pn(n:TN)(w:World)(cs:List Value)(h:NC w n cs):Calls Tryz.prog 46 #[.agg cs.toArray] w (ER (bR n) w):=by
 obtain⟨b0,b1,b2,b3,hB⟩:∃b0 b1 b2 b3:Bool,(n.kind=3/\b0=G6/\b1=G7/\b2=G7/\b3=G7)\/(n.kind=4/\b0=G7/\b1=G6/\b2=G7/\b3=G7)\/(n.kind=6/\b0=G7/\b1=G6/\b2=G7/\b3=G7)\/(n.kind=19/\b0=G7/\b1=G6/\b2=G7/\b3=G7)\/(n.kind=10/\b0=G7/\b1=G7/\b2=G6/\b3=G7)\/(n.kind=12/\b0=G7/\b1=G7/\b2=G6/\b3=G7)\/(n.kind=14/\b0=G7/\b1=G7/\b2=G6/\b3=G7)\/(n.kind=16/\b0=G7/\b1=G7/\b2=G6/\b3=G7)\/(n.kind=17/\b0=G7/\b1=G7/\b2=G6/\b3=G7)\/(n.kind=18/\b0=G7/\b1=G7/\b2=G6/\b3=G7)\/(n.kind=13/\b0=G7/\b1=G7/\b2=G7/\b3=G6)\/((n.kind≠3/\n.kind≠4/\n.kind≠6/\n.kind≠19/\n.kind≠10/\n.kind≠12/\n.kind≠14/\n.kind≠16/\n.kind≠17/\n.kind≠18/\n.kind≠13)/\b0=G7/\b1=G7/\b2=G7/\b3=G7):=by
  by_cases h:n.kind≠3/\n.kind≠4/\n.kind≠6/\n.kind≠19/\n.kind≠10/\n.kind≠12/\n.kind≠14/\n.kind≠16/\n.kind≠17/\n.kind≠18/\n.kind≠13
  ·exact⟨G7,G7,G7,G7,by simp[h]⟩
  rcases(show n.kind=3\/n.kind=4\/n.kind=6\/n.kind=19\/n.kind=10\/n.kind=12\/n.kind=14\/n.kind=16\/n.kind=17\/n.kind=18\/n.kind=13 by omega)with h|h|h|h|h|h|h|h|h|h|h
  ·exact⟨G6,G7,G7,G7,by simp[h]⟩
  ·exact⟨G7,G6,G7,G7,by simp[h]⟩
  ·exact⟨G7,G6,G7,G7,by simp[h]⟩
  ·exact⟨G7,G6,G7,G7,by simp[h]⟩
  ·exact⟨G7,G7,G6,G7,by simp[h]⟩
  ·exact⟨G7,G7,G6,G7,by simp[h]⟩
  ·exact⟨G7,G7,G6,G7,by simp[h]⟩
  ·exact⟨G7,G7,G6,G7,by simp[h]⟩
  ·exact⟨G7,G7,G6,G7,by simp[h]⟩
  ·exact⟨G7,G7,G6,G7,by simp[h]⟩
  ·exact⟨G7,G7,G7,G6,by simp[h]⟩
 have Hn:=zH (show bR n=((b0||decide (n.lo=0))&&(b0||decide (n.hi=0))&&(b1||decide (n.text.size=0))&&(b2||n.kids.isEmpty)&&(b3||n.fields.isEmpty)&&(b3||decide (n.rest0=0))&&(b3||decide (n.rest1=0)))by
  rcases hB with⟨hk,rfl,rfl,rfl,rfl⟩|⟨hk,rfl,rfl,rfl,rfl⟩|⟨hk,rfl,rfl,rfl,rfl⟩|⟨hk,rfl,rfl,rfl,rfl⟩|⟨hk,rfl,rfl,rfl,rfl⟩|⟨hk,rfl,rfl,rfl,rfl⟩|⟨hk,rfl,rfl,rfl,rfl⟩|⟨hk,rfl,rfl,rfl,rfl⟩|⟨hk,rfl,rfl,rfl,rfl⟩|⟨hk,rfl,rfl,rfl,rfl⟩|⟨hk,rfl,rfl,rfl,rfl⟩|⟨hk,rfl,rfl,rfl,rfl⟩
  all_goals
   unfold bR jF nH;simp[hk]
   try ac_rfl)
 obtain⟨p1,c1,p2,c2,rfl,-,-⟩:=h;have HB:=zH hB;have Q0:=TagP.mk b0;have Q1:=TagP.mk b1;have Q2:=TagP.mk b2;have Q3:=TagP.mk b3;have he:=qP n.rest0 n.rest1;clear hB;go_enter Tryz.func46,Tryz.ntmps46;go_upto_region 1 with fail
 have hA:=HG w (GY #[GX GZ n.kind,GX GZ n.lo,GX GZ n.hi,GW n.text,GU p1 n.kids.length c1,GU p2 n.fields.length c2,GX GZ n.rest0,GX GZ n.rest1] 61);have hb:Below w.heap.size w (w.alloc (GY #[GX GZ n.kind,GX GZ n.lo,GX GZ n.hi,GW n.text,GU p1 n.kids.length c1,GU p2 n.fields.length c2,GX GZ n.rest0,GX GZ n.rest1] 61)):=(Below.refl _ _).alloc (G8 _) _;generalize w.alloc (GY #[GX GZ n.kind,GX GZ n.lo,GX GZ n.hi,GW n.text,GU p1 n.kids.length c1,GU p2 n.fields.length c2,GX GZ n.rest0,GX GZ n.rest1] 61)=w2 at*
 have Hb:=zH hb;obtain⟨⟨f0,f1,f2,f3⟩,f4,f5,f6,f7⟩:=aY hA;clear hA hb;rcases HB.o with⟨hk,rfl,rfl,rfl,rfl⟩|⟨hk,rfl,rfl,rfl,rfl⟩|⟨hk,rfl,rfl,rfl,rfl⟩|⟨hk,rfl,rfl,rfl,rfl⟩|⟨hk,rfl,rfl,rfl,rfl⟩|⟨hk,rfl,rfl,rfl,rfl⟩|⟨hk,rfl,rfl,rfl,rfl⟩|⟨hk,rfl,rfl,rfl,rfl⟩|⟨hk,rfl,rfl,rfl,rfl⟩|⟨hk,rfl,rfl,rfl,rfl⟩|⟨hk,rfl,rfl,rfl,rfl⟩|⟨hk,rfl,rfl,rfl,rfl⟩
 all_goals(first
  |(rw[hk]at f0;clear hk)
  | (obtain ⟨k3, k4, k6, k19, k10, k12, k14, k16, k17, k18, k13⟩ := hk
     replace k3:=eF k3;replace k4:=eF k4;replace k6:=eF k6;replace k19:=eF k19;replace k10:=eF k10;replace k12:=eF k12;replace k14:=eF k14;replace k16:=eF k16;replace k17:=eF k17;replace k18:=eF k18;replace k13:=eF k13))
 all_goals(first
  | (have q : TagP false := Q0
     clear q;by_cases z:n.lo=0;rotate_left
     ·have e:=(decide_eq_false z)
      have Hr:=zH (show bR n=G7 by rw[Hn.o,e];simp);have d0:(n.lo==0)=false:=by simp[z]
      clear z e;go_wp2;go_ret;rw[Hr.o];exact⟨rfl,Hb.o⟩
     have e:=(decide_eq_true z)
     have d0:(n.lo==0)=true:=by simp[z]
     rw[e]at Hn;clear z e)
  |skip)
 all_goals(first
  | (have q : TagP false := Q0
     clear q;by_cases z:n.hi=0;rotate_left
     ·have e:=(decide_eq_false z)
      have Hr:=zH (show bR n=G7 by rw[Hn.o,e];simp);have d1:(n.hi==0)=false:=by simp[z]
      clear z e;go_wp2;go_ret;rw[Hr.o];exact⟨rfl,Hb.o⟩
     have e:=(decide_eq_true z)
     have d1:(n.hi==0)=true:=by simp[z]
     rw[e]at Hn;clear z e)
  |skip)
 all_goals(first
  | (have q : TagP false := Q1
     clear q;by_cases z:n.text.size=0;rotate_left
     ·have e:=(decide_eq_false z)
      have Hr:=zH (show bR n=G7 by rw[Hn.o,e];simp);have d2:n.text.toList.isEmpty=false:=(cP n.text).trans (by simp[z]);clear z e;go_wp2;go_ret;rw[Hr.o];exact⟨rfl,Hb.o⟩
     have e:=(decide_eq_true z)
     have d2:n.text.toList.isEmpty=true:=(cP n.text).trans (by simp[z]);rw[e]at Hn;clear z e)
  |skip)
 all_goals(first
  | (have q : TagP false := Q2
     clear q;by_cases z:n.kids.length=0;rotate_left
     ·have e:=(show n.kids.isEmpty=G7 by cases h:n.kids<;>simp_all)
      have Hr:=zH (show bR n=G7 by rw[Hn.o,e];simp);have d3:((n.kids.length:Int)==0)=false:=qQ z;clear z e;go_wp2;go_ret;rw[Hr.o];exact⟨rfl,Hb.o⟩
     have e:=(show n.kids.isEmpty=G6 by cases h:n.kids<;>simp_all)
     have d3:((n.kids.length:Int)==0)=true:=mL z;rw[e]at Hn;clear z e)
  |skip)
 all_goals(first
  | (have q : TagP false := Q3
     clear q;by_cases z:n.fields.length=0;rotate_left
     ·have e:=(show n.fields.isEmpty=G7 by cases h:n.fields<;>simp_all)
      have Hr:=zH (show bR n=G7 by rw[Hn.o,e];simp);have d4:((n.fields.length:Int)==0)=false:=qQ z;clear z e;go_wp2;go_ret;rw[Hr.o];exact⟨rfl,Hb.o⟩
     have e:=(show n.fields.isEmpty=G6 by cases h:n.fields<;>simp_all)
     have d4:((n.fields.length:Int)==0)=true:=mL z;rw[e]at Hn;clear z e)
  |skip)
 all_goals(first
  | (have q : TagP false := Q3
     clear q;by_cases z:n.rest0=0;rotate_left
     ·have e:=(decide_eq_false z)
      have Hr:=zH (show bR n=G7 by rw[Hn.o,e];simp);have d5:decide (n.rest0=0)=false:=by simp[z]
      clear z e;go_wp2;go_ret;rw[Hr.o];exact⟨rfl,Hb.o⟩
     have e:=(decide_eq_true z)
     have d5:decide (n.rest0=0)=true:=by simp[z]
     rw[e]at Hn;clear z e)
  |skip)
 all_goals(first
  | (have q : TagP false := Q3
     clear q;by_cases z:n.rest1=0;rotate_left
     ·have e:=(decide_eq_false z)
      have Hr:=zH (show bR n=G7 by rw[Hn.o,e];simp);have d6:decide (n.rest1=0)=false:=by simp[z]
      clear z e;go_wp2;go_ret;rw[Hr.o];exact⟨rfl,Hb.o⟩
     have e:=(decide_eq_true z)
     have d6:decide (n.rest1=0)=true:=by simp[z]
     rw[e]at Hn;clear z e)
  |skip)
 all_goals
  have Hr:=zH (show bR n=G6 by rw[Hn.o];simp);go_wp2;go_ret;rw[Hr.o];exact⟨rfl,Hb.o⟩
theorem Em(n:TN)(hq:(n.kind=1\/n.kind=2\/n.kind=5\/n.kind=7\/n.kind=8\/n.kind=9\/n.kind=11\/n.kind=15)\/(n.kind=3)\/(n.kind=4)\/(n.kind=6)\/(n.kind=19)\/(n.kind=10)\/(n.kind=12)\/(n.kind=14)\/(n.kind=16\/n.kind=17)\/(n.kind=18))(w:World)(cs:List Value)(h:NC w n cs):Calls Tryz.prog 47 #[.agg cs.toArray] w (ER (bj n) w):=by
 have Hq:=zH hq;obtain⟨p1,c1,p2,c2,rfl,-,-⟩:=h;clear hq;go_enter Tryz.func47,Tryz.ntmps47;go_upto_region 1 with fail
 have hA:=HG w (GY #[GX GZ n.kind,GX GZ n.lo,GX GZ n.hi,GW n.text,GU p1 n.kids.length c1,GU p2 n.fields.length c2,GX GZ n.rest0,GX GZ n.rest1] 61);have hb:Below w.heap.size w (w.alloc (GY #[GX GZ n.kind,GX GZ n.lo,GX GZ n.hi,GW n.text,GU p1 n.kids.length c1,GU p2 n.fields.length c2,GX GZ n.rest0,GX GZ n.rest1] 61)):=(Below.refl _ _).alloc (G8 _) _;generalize w.alloc (GY #[GX GZ n.kind,GX GZ n.lo,GX GZ n.hi,GW n.text,GU p1 n.kids.length c1,GU p2 n.fields.length c2,GX GZ n.rest0,GX GZ n.rest1] 61)=w2 at*
 have Hb:=zH hb;obtain⟨⟨f0,f1,f2,f3⟩,f4,f5,f6,f7⟩:=aY hA;clear hA hb;rcases Hq.o with hk|hk|hk|hk|hk|hk|hk|hk|hk|hk
 ·rcases hk with hk|hk|hk|hk|hk|hk|hk|hk
  all_goals
   have Hr:=zH (show bj n=(G6)by unfold bj;simp[hk]);rw[hk]at f0;clear hk;go_wp2;go_ret;rw[Hr.o];exact⟨rfl,Hb.o⟩
 ·have Hr:=zH (show bj n=(decide (n.lo<=n.hi))by unfold bj;simp[hk]);rw[hk]at f0;clear hk;by_cases hs:n.lo<=n.hi
  ·have q:decide (n.lo<=n.hi)=true:=by simp[hs]
   rw[q]at Hr;clear hs;go_wp2;go_ret;rw[Hr.o];exact⟨rfl,Hb.o⟩
  ·have q:decide (n.lo<=n.hi)=false:=by simp[hs]
   rw[q]at Hr;clear hs;go_wp2;go_ret;rw[Hr.o];exact⟨rfl,Hb.o⟩
 ·have Hr:=zH (show bj n=(decide (n.text.size<=64))by unfold bj;simp[hk]);rw[hk]at f0;clear hk;by_cases hs:n.text.size<=64
  ·have q:decide (n.text.size<=64)=true:=by simp[hs]
   have d0:decide ((n.text.size:Int)<=64)=true:=by simp;omega
   rw[q]at Hr;clear hs q;go_wp2;go_ret;rw[Hr.o];exact⟨rfl,Hb.o⟩
  ·have q:decide (n.text.size<=64)=false:=by simp[hs]
   have d0:decide ((n.text.size:Int)<=64)=false:=by simp;omega
   rw[q]at Hr;clear hs q;go_wp2;go_ret;rw[Hr.o];exact⟨rfl,Hb.o⟩
 ·have Hr:=zH (show bj n=(eb n.text.data.toList)by unfold bj;simp[hk]);rw[hk]at f0;clear hk;have Hat:=zH (nu n.text w2);generalize eb n.text.data.toList=c at*
  go_wp2_with(go_at_call 12;refine Hat.o.mono ?_;rintro e w2 ⟨rfl,rfl⟩);go_ret;rw[Hr.o];exact⟨rfl,Hb.o⟩
 ·have Hr:=zH (show bj n=(dG n.text.data.toList)by unfold bj;simp[hk]);rw[hk]at f0;clear hk;have Hat:=zH (ny n.text w2);generalize dG n.text.data.toList=c at*
  go_wp2_with(go_at_call 85;refine Hat.o.mono ?_;rintro e w2 ⟨rfl,rfl⟩);go_ret;rw[Hr.o];exact⟨rfl,Hb.o⟩
 ·have Hr:=zH (show bj n=(decide (n.kids.length<=4))by unfold bj;simp[hk]);rw[hk]at f0;clear hk;by_cases hs:n.kids.length<=4
  ·have q:decide (n.kids.length<=4)=true:=by simp[hs]
   have d0:decide ((n.kids.length:Int)<=4)=true:=by simp;omega
   rw[q]at Hr;clear hs q;go_wp2;go_ret;rw[Hr.o];exact⟨rfl,Hb.o⟩
  ·have q:decide (n.kids.length<=4)=false:=by simp[hs]
   have d0:decide ((n.kids.length:Int)<=4)=false:=by simp;omega
   rw[q]at Hr;clear hs q;go_wp2;go_ret;rw[Hr.o];exact⟨rfl,Hb.o⟩
 ·have Hr:=zH (show bj n=(decide (n.kids.length=2))by unfold bj;simp[hk]);rw[hk]at f0;clear hk;by_cases hs:n.kids.length=2
  ·have q:decide (n.kids.length=2)=true:=by simp[hs]
   have d0:((n.kids.length:Int)==2)=true:=by simp;omega
   rw[q]at Hr;clear hs q;go_wp2;go_ret;rw[Hr.o];exact⟨rfl,Hb.o⟩
  ·have q:decide (n.kids.length=2)=false:=by simp[hs]
   have d0:((n.kids.length:Int)==2)=false:=by simp;omega
   rw[q]at Hr;clear hs q;go_wp2;go_ret;rw[Hr.o];exact⟨rfl,Hb.o⟩
 ·have Hr:=zH (show bj n=(decide (1<=n.kids.length)&&decide (n.kids.length<=5))by unfold bj;simp[hk]);rw[hk]at f0;clear hk;by_cases h1:1<=n.kids.length;rotate_left
  ·have d0:decide (1<=(n.kids.length:Int))=false:=by simp;omega
   have Hr2:=zH (show bj n=G7 by rw[Hr.o];simp;omega);clear h1;go_wp2;go_ret;rw[Hr2.o];exact⟨rfl,Hb.o⟩
  have d0:decide (1<=(n.kids.length:Int))=true:=by simp;omega
  by_cases h2:n.kids.length<=5
  ·have d1:decide ((n.kids.length:Int)<=5)=true:=by simp;omega
   have Hr2:=zH (show bj n=G6 by rw[Hr.o];simp[h1,h2]);clear h1 h2;go_wp2;go_ret;rw[Hr2.o];exact⟨rfl,Hb.o⟩
  ·have d1:decide ((n.kids.length:Int)<=5)=false:=by simp;omega
   have Hr2:=zH (show bj n=G7 by rw[Hr.o];simp[h2]);clear h1 h2;go_wp2;go_ret;rw[Hr2.o];exact⟨rfl,Hb.o⟩
 ·rcases hk with hk|hk
  all_goals
   have Hr:=zH (show bj n=(decide (1<=n.kids.length))by unfold bj;simp[hk]);rw[hk]at f0;clear hk;by_cases hs:1<=n.kids.length
   ·have q:decide (1<=n.kids.length)=true:=by simp[hs]
    have d0:decide (1<=(n.kids.length:Int))=true:=by simp;omega
    rw[q]at Hr;clear hs q;go_wp2;go_ret;rw[Hr.o];exact⟨rfl,Hb.o⟩
   ·have q:decide (1<=n.kids.length)=false:=by simp[hs]
    have d0:decide (1<=(n.kids.length:Int))=false:=by simp;omega
    rw[q]at Hr;clear hs q;go_wp2;go_ret;rw[Hr.o];exact⟨rfl,Hb.o⟩
 ·have Hr:=zH (show bj n=(decide (n.kids.length=1))by unfold bj;simp[hk]);rw[hk]at f0;clear hk;by_cases hs:n.kids.length=1
  ·have q:decide (n.kids.length=1)=true:=by simp[hs]
   have d0:((n.kids.length:Int)==1)=true:=by simp;omega
   rw[q]at Hr;clear hs q;go_wp2;go_ret;rw[Hr.o];exact⟨rfl,Hb.o⟩
  ·have q:decide (n.kids.length=1)=false:=by simp[hs]
   have d0:((n.kids.length:Int)==1)=false:=by simp;omega
   rw[q]at Hr;clear hs q;go_wp2;go_ret;rw[Hr.o];exact⟨rfl,Hb.o⟩
theorem wH {l:List FF}(h1:∀j (h:j<l.length),dq l[j].key.kind l[j].key.text.data.toList=G6)(h2:∀j (h:j+1<l.length),bN (l[j]'(by omega)).key l[j+1].key<0):bW l=true:=by
 unfold bW;rw[Bool.and_eq_true,Ij];refine⟨asc_iff.2 fun j h=>?_,fun f hf=>?_⟩
 ·rw[Jc]at h;simpa using h2 j h
 ·obtain⟨j,hj,rfl⟩:=IZ.1 hf;exact h1 j hj
theorem pO {l:List FF}{j:Nat}(h:j<l.length)(h1:dq l[j].key.kind l[j].key.text.data.toList=G7):bW l=false:=by
 unfold bW;rw[Jo];right;rw[IA];intro h2;rw[Ij]at h2;rw[h2 _ (Ip h)]at h1;cases h1
theorem pP {l:List FF}{j:Nat}(h:j+1<l.length)(h1: ¬bN (l[j]'(by omega)).key l[j+1].key<0):bW l=false:=by
 unfold bW;rw[Jo];left;rw[IA];intro h2;have:=asc_iff.1 h2 j (by rw[Jc];exact h);simp at this;exact h1 this
theorem mD(l:List FF)(w:World)(p:Option Addr)(c:Nat)(h:Rw w p c 4 l FC):Calls Tryz.prog 86 #[GU p l.length c] w (ER (bW l) w):=by
 have H:=zH h;have hL:=h.big;clear h;go_enter Tryz.func86,Tryz.ntmps86;go_wp2;go_loopw[7] (fun i wr=>∃k:Nat,i=GX GZ k/\k<=l.length/\(∀j (h:j<l.length),j<k->dq l[j].key.kind l[j].key.text.data.toList=G6)/\(∀j (h:j+1<l.length),j+1<k->bN (l[j]'(by omega)).key l[j+1].key<0)/\Below w.heap.size w wr) (fun i _=>l.length-(intOf i).toNat)
 case atStart=>exact⟨0,rfl,by omega,fun j _ h=>by omega,fun j _ h=>by omega,Below.refl _ _⟩
 case round=>
  obtain⟨k,rfl,hk,hv,hc,hb⟩:=hrel;have Hv:=zH hv;have Hc:=zH hc;have Hb:=zH hb;clear hv hc hb;by_cases hlt:k<l.length
  ·obtain⟨a,o,cs,rfl,hab,-,hrng,rfl⟩:=H.o.all hlt;have hr:=hrng wr Hb.o;have z0:=hr 0 _ rfl;have z1:=hr 1 _ rfl;have z2:=hr 2 _ rfl;have z3:=hr 3 _ rfl;rw[Im]at z0;have Hnv:=zH (show dq l[k].key.kind l[k].key.text.data.toList=G6->∀j (h:j<l.length),j<k+1->dq l[j].key.kind l[j].key.text.data.toList=G6 from fun h j hj hjk=>by
    rcases IP.1 hjk with g|rfl
    ·exact Hv.o j hj g
    ·exact h)
   have Hno:=zH (pO hlt);clear hr hrng;rcases Nat.eq_zero_or_pos k with hk0|hk0
   ·subst hk0;simp only[Nat.zero_mul,Im]at z0 z1 z2 z3;have Hnc:=zH (show∀j (h:j+1<l.length),j+1<0+1->bN (l[j]'(by omega)).key l[j+1].key<0 from fun j h hj=>by omega);clear Hc;generalize l[0]=f at*
    obtain⟨wo',hwo⟩:∃wo':World,wo'=wr:=⟨_,rfl⟩
    subst hwo;go_upto_region 4 with fail
    have hnew:=HG wo' (GY #[GX GZ f.key.kind,GW f.key.text,GX GZ f.node,.bool f.opt] 105);have ho:Below wo'.heap.size wo' (wo'.alloc (GY #[GX GZ f.key.kind,GW f.key.text,GX GZ f.node,.bool f.opt] 105)):=(Below.refl _ _).alloc (G8 _) _;generalize wo'.alloc (GY #[GX GZ f.key.kind,GW f.key.text,GX GZ f.node,.bool f.opt] 105)=w5 at*
    have Hb5:=zH (Hb.o.step ho);obtain⟨a0,a1,a2,a3⟩:=qG hnew;have LB:=zH (show wo'.heap.size<w5.drew.heap.size from ai hnew);have YB:=zH (show w5.drew.cell? ⟨wo'.heap.size,0,G0⟩=_ from a0);have Hvk:=zH (kz f.key.kind f.key.text w5.drew);clear z0 z1 z2 z3 hnew ho;cases hvk:dq f.key.kind f.key.text.data.toList with
    | true =>
      have Hnv2:=zH (Hnv.o hvk);rw[hvk]at Hvk;clear hvk;go_wp2_with(first
       |((with_reducible refine JZ ?_);refine fE (by repeat first|exact JW|refine JU rfl ?_|refine JT (by decide+kernel) ?_|refine JP rfl LB.o YB.o ?_) ?_)
       |((with_reducible refine JX ?_);refine gL (fun x=>x<w5.drew.heap.size) ?_)
       |(with_reducible first|refine qH ?_|refine JV ?_|refine JY ?_)
       |((with_reducible refine J0 ?_);first|(with_reducible refine JQ Hext.o ?_)|(with_reducible refine JQ (Is _) ?_))
       |(go_at_call 120;refine Hvk.o.mono ?_;rintro e w6 ⟨rfl,hb6⟩;have Hext:=zH (IL (Kp:=fun x=>x<w5.drew.heap.size) hb6 (G8 _));have Hb6:=zH (Hb5.o.drew.step hb6);clear hb6))
      exact⟨⟨0+1,by go_num,by omega,Hnv2.o,Hnc.o,Hb6.o⟩,by simp[intOf];omega⟩
    | false =>
      have Hf:=zH (Hno.o hvk);rw[hvk]at Hvk;clear hvk;go_wp2_with(first
       |((with_reducible refine JZ ?_);refine fE (by repeat first|exact JW|refine JU rfl ?_|refine JT (by decide+kernel) ?_|refine JP rfl LB.o YB.o ?_) ?_)
       |((with_reducible refine JX ?_);refine gL (fun x=>x<w5.drew.heap.size) ?_)
       |(with_reducible first|refine qH ?_|refine JV ?_|refine JY ?_)
       |((with_reducible refine J0 ?_);first|(with_reducible refine JQ Hext.o ?_)|(with_reducible refine JQ (Is _) ?_))
       |(go_at_call 120;refine Hvk.o.mono ?_;rintro e w6 ⟨rfl,hb6⟩;have Hext:=zH (IL (Kp:=fun x=>x<w5.drew.heap.size) hb6 (G8 _));have Hb6:=zH (Hb5.o.drew.step hb6);clear hb6))
      go_ret;rw[Hf.o];exact⟨rfl,Hb6.o⟩
   ·obtain⟨k,rfl⟩:∃k',k=k'+1:=⟨k-1,by omega⟩
    have hk1:k<l.length:=by omega
    obtain⟨a',o',cs',ep,hab',-,hrng',rfl⟩:=H.o.all hk1;injection ep with ep
    injection ep with ep1 ep2
    subst ep1 ep2;have hr':=hrng' wr Hb.o;have y0:=hr' 0 _ rfl;have y1:=hr' 1 _ rfl;rw[Im]at y0;have Hno2:=zH (pP hlt);have Hnc:=zH (show bN l[k].key l[k+1].key<0->∀j (h:j+1<l.length),j+1<k+1+1->bN (l[j]'(by omega)).key l[j+1].key<0 from fun g j h hj=>by
     rcases IP.1 hj with g2|g2
     ·exact Hc.o j h g2
     ·obtain rfl:j=k:=by omega
      exact g)
    clear Hc hr' hrng';generalize l[k+1]=f at*
    generalize l[k]=q at*
    obtain⟨wo',hwo⟩:∃wo':World,wo'=wr:=⟨_,rfl⟩
    subst hwo;go_upto_region 4 with fail
    have hnew:=HG wo' (GY #[GX GZ f.key.kind,GW f.key.text,GX GZ f.node,.bool f.opt] 105);have ho:Below wo'.heap.size wo' (wo'.alloc (GY #[GX GZ f.key.kind,GW f.key.text,GX GZ f.node,.bool f.opt] 105)):=(Below.refl _ _).alloc (G8 _) _;generalize wo'.alloc (GY #[GX GZ f.key.kind,GW f.key.text,GX GZ f.node,.bool f.opt] 105)=w5 at*
    have Hb5:=zH (Hb.o.step ho);obtain⟨a0,a1,a2,a3⟩:=qG hnew;have haw:a<wo'.heap.size:=Ig hab Hb.o.size;have y0':=(ho.cell (p:=⟨a,_,G0⟩) haw).trans y0;have y1':=(ho.cell (p:=⟨a,_,G0⟩) haw).trans y1;have LB:=zH (show wo'.heap.size<w5.drew.heap.size from ai hnew);have YB:=zH (show w5.drew.cell? ⟨wo'.heap.size,0,G0⟩=_ from a0);have LK:=zH (show a<w5.drew.heap.size from Ig haw ho.size);have YK:=zH (show w5.drew.cell? ⟨a,o+k*4,G0⟩=_ from y0');have Hvk:=zH (kz f.key.kind f.key.text w5.drew);clear z0 z1 z2 z3 y0 y1 hnew ho;cases hvk:dq f.key.kind f.key.text.data.toList with
    | true =>
      have Hnv2:=zH (Hnv.o hvk);rw[hvk]at Hvk;clear hvk;have HKc:=zH (zG q.key f.key);by_cases hz:bN q.key f.key<0
      ·have Hnc2:=zH (Hnc.o hz);have d1:decide (0<=bN q.key f.key)=false:=by simp;omega
       clear hz;generalize bN q.key f.key=cc at*
       go_wp2_with(first
        |((with_reducible refine JZ ?_);refine fE (by repeat first|exact JW|refine JU rfl ?_|refine JT (by decide+kernel) ?_|refine JP rfl LB.o YB.o ?_|refine JP rfl LK.o YK.o ?_) ?_)
        |((with_reducible refine JX ?_);refine gL (fun x=>x<w5.drew.heap.size) ?_)
        |(with_reducible first|refine qH ?_|refine JV ?_|refine JY ?_)
        |((with_reducible refine J0 ?_);first|(with_reducible refine JQ Hext.o ?_)|(with_reducible refine JQ (Is _) ?_))
        |(go_at_call 120;refine Hvk.o.mono ?_;rintro e w6 ⟨rfl,hb6⟩;have x0:=(hb6.cell (p:=⟨a,_,G0⟩) LK.o).trans y0';have x1:=(hb6.cell (p:=⟨a,_,G0⟩) LK.o).trans y1';have b0:=(hb6.cell (p:=⟨wo'.heap.size,_,G0⟩) LB.o).trans a0;have b1:=(hb6.cell (p:=⟨wo'.heap.size,_,G0⟩) LB.o).trans a1;have Hext:=zH (IL (Kp:=fun x=>x<w5.drew.heap.size) hb6 (G8 _));have Hb6:=zH (Hb5.o.drew.step hb6);clear hb6)
        |(go_at_call 121;refine(HKc.o w6).mono ?_;rintro e w7 ⟨rfl,hb7⟩;have Hext:=zH (IL (Kp:=fun x=>x<w5.drew.heap.size) hb7 (G8 _));have Hb7:=zH (Hb6.o.step hb7);clear hb7))
       exact⟨⟨k+1+1,by go_num,by omega,Hnv2.o,Hnc2.o,Hb7.o⟩,by simp[intOf];omega⟩
      ·have Hf:=zH (Hno2.o hz);have d1:decide (0<=bN q.key f.key)=true:=by simp;omega
       clear hz;generalize bN q.key f.key=cc at*
       go_wp2_with(first
        |((with_reducible refine JZ ?_);refine fE (by repeat first|exact JW|refine JU rfl ?_|refine JT (by decide+kernel) ?_|refine JP rfl LB.o YB.o ?_|refine JP rfl LK.o YK.o ?_) ?_)
        |((with_reducible refine JX ?_);refine gL (fun x=>x<w5.drew.heap.size) ?_)
        |(with_reducible first|refine qH ?_|refine JV ?_|refine JY ?_)
        |((with_reducible refine J0 ?_);first|(with_reducible refine JQ Hext.o ?_)|(with_reducible refine JQ (Is _) ?_))
        |(go_at_call 120;refine Hvk.o.mono ?_;rintro e w6 ⟨rfl,hb6⟩;have x0:=(hb6.cell (p:=⟨a,_,G0⟩) LK.o).trans y0';have x1:=(hb6.cell (p:=⟨a,_,G0⟩) LK.o).trans y1';have b0:=(hb6.cell (p:=⟨wo'.heap.size,_,G0⟩) LB.o).trans a0;have b1:=(hb6.cell (p:=⟨wo'.heap.size,_,G0⟩) LB.o).trans a1;have Hext:=zH (IL (Kp:=fun x=>x<w5.drew.heap.size) hb6 (G8 _));have Hb6:=zH (Hb5.o.drew.step hb6);clear hb6)
        |(go_at_call 121;refine(HKc.o w6).mono ?_;rintro e w7 ⟨rfl,hb7⟩;have Hext:=zH (IL (Kp:=fun x=>x<w5.drew.heap.size) hb7 (G8 _));have Hb7:=zH (Hb6.o.step hb7);clear hb7))
       go_ret;rw[Hf.o];exact⟨rfl,Hb7.o⟩
    | false =>
      have Hf:=zH (Hno.o hvk);rw[hvk]at Hvk;clear hvk;go_wp2_with(first
       |((with_reducible refine JZ ?_);refine fE (by repeat first|exact JW|refine JU rfl ?_|refine JT (by decide+kernel) ?_|refine JP rfl LB.o YB.o ?_|refine JP rfl LK.o YK.o ?_) ?_)
       |((with_reducible refine JX ?_);refine gL (fun x=>x<w5.drew.heap.size) ?_)
       |(with_reducible first|refine qH ?_|refine JV ?_|refine JY ?_)
       |((with_reducible refine J0 ?_);first|(with_reducible refine JQ Hext.o ?_)|(with_reducible refine JQ (Is _) ?_))
       |(go_at_call 120;refine Hvk.o.mono ?_;rintro e w6 ⟨rfl,hb6⟩;have Hext:=zH (IL (Kp:=fun x=>x<w5.drew.heap.size) hb6 (G8 _));have Hb6:=zH (Hb5.o.drew.step hb6);clear hb6))
      go_ret;rw[Hf.o];exact⟨rfl,Hb6.o⟩
  ·obtain rfl:k=l.length:=by omega
   have Hy:=zH (wH (fun j h=>Hv.o j h h) (fun j h=>Hc.o j h h));go_wp2;go_ret;rw[Hy.o];exact⟨rfl,Hb.o⟩
end Go.Proofs.YtfpahmeploondaaGreatDoor
