/- Walks and plain facts for the law on type variables, for all values and types that the heap holds (texts Inv C2 C3). -/
import Derived.Test.YtfpahmeploondaaGreatDoorR02
import Derived.Test.YtfpahmeploondaaGreatDoorR03
import Derived.Test.YtfpahmeploondaaGreatDoorR32
set_option linter.unusedVariables false
set_option linter.unusedSimpArgs false
set_option maxHeartbeats 64000000
open Option renaming none -> G0, some -> G5
open Bool renaming true -> G6, false -> G7
open Go.Value renaming slice -> GU, string -> GW, int -> GX
open Go.Obj renaming cells -> GY
open Go.IntKind renaming i64 -> GZ
open Array renaming all_eq_true_iff_forall_mem -> JN, getElem?_eq_some_iff -> I6
open List renaming getElem?_eq_some_iff -> I2, all_eq_true -> Ij
open Nat renaming lt_of_lt_of_le -> Ig, le_trans -> G9, add_zero -> Im, le_refl -> G8
open Bool renaming and_eq_true -> Ik
open Option.some renaming inj -> Iq
open Go.Value renaming pointer -> II, bool -> Ih
open Go.Region renaming binds -> Iw, ready -> I5
open Go.World renaming cell? -> Ic
open Go.IntKind renaming i64 -> In
namespace Go.Inv
open Go Go.Lex Go.LexK
def backward(ops:Array Oper):Bool:=(List.range ops.size).all fun i=>((ops[i]?).map fun o=>o.after.all fun e=> !Iw .any e||decide (e.on<i)).getD G6
section
variable {P:Program} {ops:Array Oper} {Q:Exit->Act->World->Prop}
theorem Av {listed:Array Bool}{i:Nat}{o:Oper}(ho:ops[i]? =G5 o)(h1:listed.getD i G6=G7)(h2:∀e∈o.after.toList,Iw .any e=G6->listed.getD e.on G7=G6):i∈I5 .any ops listed:=by
 unfold I5;rw[List.mem_filter];refine⟨by rw[List.mem_range];exact(I6.1 ho).1,?_⟩;rw[h1,ho];simp only[Bool.not_false,Bool.true_and,Option.map_some,Option.getD_some];rw[JN];intro e he;cases hb:Iw .any e with
 |false=>rfl
 |true=>simpa using h2 e (by simpa using he) hb
theorem oq {listed:Array Bool}{i:Nat}(h:i∈I5 .any ops listed):∃o,ops[i]? =G5 o/\listed.getD i G6=G7/\∀e∈o.after.toList,Iw .any e=G6->listed.getD e.on G7=true:=by
 unfold I5 at h;rw[List.mem_filter]at h;obtain⟨h1,h2⟩:=h;have hlt:i<ops.size:=List.mem_range.1 h1;have ho:ops[i]? =G5 ops[i]:=Array.getElem?_eq_getElem hlt;rw[ho]at h2;simp only[Option.map_some,Option.getD_some,Ik,Bool.not_eq_true']at h2;refine⟨_,ho,h2.1,fun e he hb=>?_⟩;have h3:=h2.2;rw[JN]at h3;have:=h3 e (by simpa using he);rw[hb]at this;simpa using this
theorem pY {listed:Array Bool}(hb:backward ops=G6)(h:I5 .any ops listed=[])(hs:listed.size=ops.size):∀i,i<ops.size->listed.getD i G7=true:=by
 intro i
 induction i using Nat.strongRecOn with
 | _ i ih =>
   intro hi;have ho:ops[i]? =G5 ops[i]:=Array.getElem?_eq_getElem hi;cases hl:listed.getD i false with
   |true=>rfl
   | false =>
     exfalso;have hl2:listed.getD i G6=false:=by
      have:i<listed.size:=by omega
      simp[this]at hl ⊢;exact hl
     have hback:∀e∈(ops[i]).after.toList,Iw .any e=G6->e.on<i:=by
      unfold backward at hb;rw[Ij]at hb;have:=hb i (List.mem_range.2 hi);rw[ho]at this;simp only[Option.map_some,Option.getD_some]at this;rw[JN]at this;intro e he hbi;have:=this e (by simpa using he);rw[hbi]at this;simpa using this
     have:=Av ho hl2 (fun e he hbi=>ih e.on (hback e he hbi) (by have:=hback e he hbi;omega));rw[h]at this;cases this
theorem vu {listed:Array Bool}{i n:Nat}(hi:listed.getD i G6=G7)(hn:listed.toList.count G7<=n+1)(hs:i<listed.size):(listed.setIfInBounds i G6).toList.count G7<=n:=by
 rw[Array.toList_setIfInBounds,List.count_set (by simpa using hs)];have h1:listed.toList[i]'(by simpa using hs)=false:=by
  simp[hs]at hi;simpa using hi
 rw[h1,if_pos (show(G7==G7)=G6 from rfl),if_neg (show¬(G6==G7)=G6 by decide)];omega
theorem yI(hb:backward ops=G6)(I:Array Bool->Act->World->Prop)
 (hstep:∀listed a w i,listed.size=ops.size->i∈I5 .any ops listed->I listed a w->wpOp P ops Q i (fun a' w'=>I (listed.setIfInBounds i G6) a' w') a w)
 (hend:∀listed a w,(∀i,i<ops.size->listed.getD i G7=G6)->I listed a w->Q .normal a w):
 ∀(fuel:Nat) (listed:Array Bool) (a:Act) (w:World),listed.size=ops.size->listed.toList.count G7<=fuel->I listed a w->wpAny P .any ops Q fuel listed a w:=by
 intro fuel
 induction fuel with
 | zero =>
   intro listed a w hs hc hI;have hall:∀i,i<listed.size->listed.getD i G6=true:=by
    intro i hi;cases h:listed.getD i true with
    |true=>rfl
    | false =>
      exfalso;have:G7∈listed.toList:=by
       simp[hi]at h;rw[<-h];simp
      have:=List.count_pos_iff.2 this;omega
   have hnil:I5 .any ops listed=[]:=by
    rw[List.eq_nil_iff_forall_not_mem];intro i hi;obtain⟨o,ho,h1,_⟩:=oq hi;rw[hall i (by rw[hs];exact(I6.1 ho).1)]at h1;cases h1
   exact⟨hnil,hend listed a w (pY hb hnil hs) hI⟩
 | succ fuel ih =>
   intro listed a w hs hc hI;refine⟨fun hnil=>hend listed a w (pY hb hnil hs) hI,fun i hi=>?_⟩;refine wpOp_mono (fun a' w' h=>?_) (hstep listed a w i hs hi hI);obtain⟨o,ho,h1,_⟩:=oq hi;exact ih _ a' w' (by simpa using hs) (vu h1 hc (by rw[hs];exact(I6.1 ho).1)) h
theorem Aw {listed:Array Bool}{i:Nat}(hi:i<listed.size):(fun j=>(listed.setIfInBounds i G6).getD j G7=G6)=(fun j=>listed.getD j G7=G6\/j=i):=by
 funext j;apply propext;by_cases hj:j=i
 ·subst hj;simp[hi]
 ·have:i≠j:=fun h=>hj h.symm
  simp[hj,Array.getElem?_setIfInBounds,this]
end
theorem wp_region_inv {P:Program}{Q:Exit->Act->World->Prop}(J:(Nat->Prop)->Act->World->Prop){id:Nat}{a:Act}{w:World}{l:List Oper}(hm:P.follows .mixedOrders=G6)(hb:backward l.toArray=G6)
 (h0:J (fun _=>False) a w.drew)
 (hstep:∀(i:Nat) (o:Oper),l[i]? =G5 o->∀(D:Nat->Prop) (a:Act) (w:World),¬D i->(∀e∈o.after.toList,Iw .any e=G6->D e.on)->J D a w->
  wpList P l.toArray (Exit.then (fun a' w'=>J (fun j=>D j\/j=i) a' w') (fun _ _ _=>False)) [o] a w)
 (hend:∀(D:Nat->Prop) (a:Act) (w:World),(∀i,i<l.length->D i)->J D a w->Q .normal a w):(Code.region id l.toArray G6).wp P Q a w:=by
 refine wp_region_any hm (yI hb (fun listed a w=>J (fun j=>listed.getD j G7=G6) a w) ?_ ?_ _ _ a _ (by simp) (by simp) ?_)
 ·intro listed a w i hs hi hJ;obtain⟨o,ho,h1,h2⟩:=oq hi;have hlt:i<listed.size:=by rw[hs];exact(I6.1 ho).1
  rw[Aw hlt];have hn: ¬listed.getD i G7=true:=by simp[hlt]at h1 ⊢;exact h1
  have:=hstep i o (by simpa using ho) _ a w hn h2 hJ;have hst:wpOp P l.toArray (Exit.then (fun a' w'=>J (fun j=>listed.getD j G7=G6\/j=i) a' w') (fun _ _ _=>False)) i (fun a' w'=>J (fun j=>listed.getD j G7=G6\/j=i) a' w') a w:=by
   unfold wpOp;simp only[ho];exact this
  exact nm lz hst
 ·intro listed a w hall hJ;exact hend _ a w (fun i hi=>hall i (by simpa using hi)) hJ
 ·have:(fun j=>(Array.replicate l.toArray.size G7).getD j G7=G6)=(fun _=>False):=by
   funext j;apply propext;constructor
   ·intro h;simp[Array.getElem?_replicate]at h;split at h<;>simp at h
   ·intro h;exact h.elim
  rw[this];exact h0
end Go.Inv
namespace Go.Proofs.YtfpahmeploondaaGreatDoor
open Go.RowKit Go.Ident
set_option maxRecDepth 100000
theorem aZ {D:Nat->Prop}{l:Array Edge}(hA:∀e∈l.toList,Iw .any e=G6->D e.on)(m:Nat)(h:(l.toList.any fun e=>Iw .any e&&e.on==m)=G6):D m:=by
 rw[List.any_eq_true]at h;obtain⟨e,he,h⟩:=h;simp only[Ik,beq_iff_eq]at h;rw[<-h.2];exact hA e he h.1
theorem lP {D:Nat->Prop}{l:Array Edge}(hA:∀e∈l.toList,Iw .any e=G6->D e.on){n:Nat}(h:((List.range n).all fun m=>l.toList.any fun e=>Iw .any e&&e.on==m)=G6):∀m,m<n->D m:=fun m hm=>aZ hA m (Ij.1 h m (List.mem_range.2 hm))
theorem kr {A:Prop}{v:Value}:Hid (A->v=v):=fun _=>rfl
theorem k0 {P:Prop}:Hid (False->P):=fun h=>h.elim
theorem kp {A P:Prop}{i j:Nat}(F:Hid (A->P))(h: ¬i=j:=by decide):Hid (A\/i=j->P):=fun g=>F.o (g.resolve_right h)
theorem km {A P Q:Prop}{i j:Nat}(F:Hid (A->P))(f:P->Q)(h: ¬i=j:=by decide):Hid (A\/i=j->Q):=fun g=>f (F.o (g.resolve_right h))
def LVf(W:World)(v:Value):Prop:=∃X,VW W v X/\sU X
theorem LVf.turn {W W':World}{v:Value}(h:LVf W v)(hb:Below W.heap.size W W'):LVf W' v:=by
 obtain⟨X,h1,h2⟩:=h;exact⟨X,h1.below hb,h2⟩
def LWf(W:World)(v:Value):Prop:=∃X,VW W v X/\X.nodes<=1/\X.labels.length<=1
theorem LWf.turn {W W':World}{v:Value}(h:LWf W v)(hb:Below W.heap.size W W'):LWf W' v:=by
 obtain⟨X,h1,h2⟩:=h;exact⟨X,h1.below hb,h2⟩
theorem SS.below' {W W':World}{v:Value}{l:List ByteArray}(h:SS W v l)(hb:Below W.heap.size W W'):SS W' v l:=by
 obtain⟨p,c,e,h1⟩:=h;exact⟨p,c,e,h1.below hb fun _ _ _ h=>h⟩
def SLf(W:World)(v:Value)(s:ByteArray):Prop:=∃u,v=u/\SS W u [s]
theorem SLf.turn {W W':World}{v:Value}{s:ByteArray}(h:SLf W v s)(hb:Below W.heap.size W W'):SLf W' v s:=by
 obtain⟨u,h1,h2⟩:=h;exact⟨u,h1,h2.below' hb⟩
theorem C7 {B:Nat}(w:World)(s:ByteArray)(hB:B<=w.heap.size):SLf (we (lo B) (w.alloc (GY #[GW s] 9))) (GU (G5 ⟨w.heap.size,0,G0⟩) 1 1) s:=by
 refine⟨_,rfl,G5 ⟨w.heap.size,0,G0⟩,1,rfl,⟨by simp,by simp⟩,[GW s],⟨by simp,fun _=>⟨w.heap.size,0,rfl,?_,?_⟩⟩,?_⟩
 ·rw[ap];simp
 ·intro j v hv
  match j,hv with
  | 0, hv =>
    obtain rfl:GW s=v:=by simpa using hv
    have h1:(we (lo B) (w.alloc (GY #[GW s] 9))).heap[w.heap.size]? =G5 (GY #[GW s] 9):=(cI (bh B _ hB)).trans (heap_alloc_new w _);simp[Ic,h1]
  |j+1,hv=>simp at hv
 ·intro i hi;have:i=0:=by simp at hi;omega
  subst this;rfl
theorem Ax(T:Ty)(tv:Value)(S:SD)(kn:Nat)(h:Int)(n:TN)(h1:1<=h)(hh:h<=1000)(hkn:kn<T.nodes.length)(hnode:T.nodes[kn]=n)(hkd:n.kind=19)(w:World)(hS:SRC S w)(hT:TB S T tv w):Calls Tryz.prog 33 #[.pointer (G5 ⟨S.b,0,G0⟩),tv,GX GZ (kn:Int),GX GZ h] w (GV (fun V=>V.nodes<=1/\V.labels.length<=1) S w):=by
 have hltS:=hS.lt;obtain⟨pT,cT,rfl,hR,-⟩:=id hT;obtain⟨a,o,cs,rfl,hal,-,hrange,hNC⟩:=hR.all hkn;rw[hnode]at hNC;obtain⟨kd,lo_,hi_,tx,ks,fs,r0,r1⟩:=n;obtain⟨p1,c1,p2,c2,rfl,hI,hF⟩:=hNC;simp only at hI hF hrange;obtain rfl:kd=19:=hkd;obtain⟨w2,e9,hA,hC,hb⟩:=bE w (GY #[GU (G5 ⟨a,o,G0⟩) T.nodes.length cT,GX GZ T.root] 27) (GY #[GX GZ 0,GX GZ 0,GW ⟨#[]⟩,GU G0 0 0,GU G0 0 0,GU G0 0 0,GU G0 0 0] 33);have hs2:w2.heap.size=w.heap.size+2:=by rw[<-e9];simp
 obtain⟨w4,e8,hB4,hV4,hb4⟩:=bE w2 (GY #[GX GZ 19,GX GZ lo_,GX GZ hi_,GW tx,GU p1 ks.length c1,GU p2 fs.length c2,GX GZ r0,GX GZ r1] 61) (GY #[GX GZ 0,GX GZ 0,GW ⟨#[]⟩,GU G0 0 0,GU G0 0 0,GU G0 0 0,GU G0 0 0] 33);have hs4:w4.heap.size=w2.heap.size+2:=by rw[<-e8];simp
 have E8:=zH e8;clear e8;have H2:=zH ((SR.refl hS).app hb);have H4:=zH (H2.o.step hb4);have hrg:=hrange _ H2.o.bel;have a0:=aF (hrg 0 _ rfl);have a1:=aF (hrg 1 _ rfl);have a2:=aF (hrg 2 _ rfl);have a3:=aF (hrg 3 _ rfl);have a4:=aF (hrg 4 _ rfl);have a5:=aF (hrg 5 _ rfl);have a6:=aF (hrg 6 _ rfl);have a7:=aF (hrg 7 _ rfl);simp only[Im]at a0;have HT:=zH (hT.sr H4.o);have HT0:=zH hT;have HI0:=zH hI;have HI:=zH (show IS (wo S.b w4) (GU p1 ks.length c1) ks from hI.below H4.o.bel);have HF:=zH (show Rw (wo S.b w4) p2 c2 4 fs FC from hF.below H4.o.bel fun _ _ _ h=>h);have hNC:NC (wo S.b w4) ⟨19,lo_,hi_,tx,ks,fs,r0,r1⟩ [GX GZ 19,GX GZ lo_,GX GZ hi_,GW tx,GU p1 ks.length c1,GU p2 fs.length c2,GX GZ r0,GX GZ r1]:=⟨p1,c1,p2,c2,rfl,HI.o,HF.o⟩
 have HNC:=zH hNC;rw[hs2]at hB4 hV4;have HB4:=zH hB4;have HV4:=zH hV4;have HA4:=zH ((hb4.block w.heap.size (by omega)).trans hA);have HO4:=zH ((hb4.block (w.heap.size+1) (by omega)).trans hC);obtain⟨g0,g1⟩:=aM hA;have Hs4:=zH (show w4.heap.size=(w.heap.size+4)by omega);have Hb:=zH (show(w.heap.size+1)≠S.b by omega);have HEx:=zH (show lo (w.heap.size+4) (w.heap.size+1)=G6 by simp[lo]);have HEl:=zH (show∀k,k<w.heap.size->lo (w.heap.size+4) k=G6 from fun k hk=>by simp[lo];omega);have dk:decide (T.nodes.length<=kn)=false:=by simp;omega
 have dk2:decide (kn<T.nodes.length)=true:=by simp[hkn]
 have dk3:decide ((kn:Int)<0)=false:=by simp
 have dh:decide (h<=0)=false:=by simp;omega
 clear hB4 hV4 hA hC hb hb4 hR hrange hrg hI hF hNC hS hT hnode;go_enter Tryz.func33,Tryz.ntmps33;go_upto_region 1 with fail
 try rw[e9]
 go_upto_region 5 with fail
 (try have e8:=E8.o)
 try rw[hs2]
 try rw[e8]
 try rw[hs2]
 clear e9 e8 E8 g0 g1 a0 a1 a2 a3 a4 a5 a6 a7 dk dk3 dh hs2 hs4;obtain⟨⟨n0,n1,n2,n3⟩,n4,n5,n6,n7⟩:=aY HB4.o;have hw4:(w.heap.size+4)<=w4.heap.size:=by have:=Hs4.o;omega
 have Hsrc:=zH H4.o.src;have Hbo:=zH (show(w.heap.size+1)≠S.b by omega);go_upto_region 47 with fail
 clear n0 n1 n2 n3 n4 n5 n6 n7;obtain⟨fr,hfr⟩:∃fr:Value->Value->Value->Value->Value->Value->Act,fr=fun s209 s210 s211 s212 s213 s214=>⟨#[II (G5 {block:=S.b,off:=0}),Value.agg #[GU (G5 {block:=a,off:=o}) T.nodes.length cT,GX In T.root],GX In ↑kn,GX In h,undef,II (G5 {block:=w.heap.size,off:=0}),undef,undef,II (G5 {block:=w.heap.size+1,off:=0}),II (G5 {block:=w.heap.size+2,off:=0}),II (G5 {block:=w.heap.size+2+1,off:=0}),undef,undef,GX In h,Ih G7,Ih G7,GX In ↑kn,Ih G7,Ih G7,Ih G7,GX In ↑kn,II (G5 {block:=w.heap.size,off:=0}),GU (G5 {block:=a,off:=o}) T.nodes.length cT,GX In ↑T.nodes.length,Ih G7,Ih G7,undef,undef,II (G5 {block:=w.heap.size,off:=0}),GU (G5 {block:=a,off:=o}) T.nodes.length cT,GX In ↑kn,II (G5 {block:=a,off:=o+kn*8}),Value.agg #[GX In 19,GX In lo_,GX In hi_,GW tx,GU p1 ks.length c1,GU p2 fs.length c2,GX In r0,GX In r1],Value.agg #[GX In 0,GX In 0,GW {data:= #[]},GU G0 0 0,GU G0 0 0,GU G0 0 0,GU G0 0 0],II (G5 {block:=w.heap.size+2,off:=0}),GX In 19,Ih G7,Ih G7,undef,undef,undef,undef,undef,undef,undef,undef,undef,undef,undef,undef,undef,undef,undef,undef,undef,undef,undef,undef,Ih G7,Ih G7,undef,undef,undef,Ih G7,Ih G7,undef,undef,undef,Ih G7,Ih G7,undef,undef,undef,Ih G7,Ih G7,undef,undef,undef,Ih G7,Ih G7,undef,undef,undef,Ih G7,Ih G7,undef,Ih G7,Ih G7,Ih G7,undef,undef,undef,undef,undef,undef,undef,undef,undef,undef,undef,undef,undef,undef,undef,undef,undef,undef,undef,undef,undef,undef,undef,undef,undef,undef,undef,undef,undef,undef,undef,undef,undef,undef,undef,undef,undef,undef,Ih G7,Ih G7,undef,undef,undef,undef,undef,Ih G7,Ih G7,undef,undef,undef,undef,undef,Ih G7,Ih G7,undef,undef,undef,undef,undef,undef,undef,undef,undef,undef,undef,undef,undef,Ih G7,Ih G7,undef,undef,undef,undef,undef,undef,undef,undef,undef,undef,undef,undef,undef,undef,undef,undef,undef,undef,undef,undef,undef,undef,undef,undef,undef,undef,undef,undef,undef,undef,undef,undef,undef,undef,undef,undef,undef,undef,undef,undef,undef,undef,undef,undef,undef,undef,undef,undef,undef,Ih G6,Ih G6,s209,s210,s211,s212,s213,s214,undef,undef],[]⟩:=⟨_,rfl⟩
 obtain⟨J,hJd⟩:∃J:(Nat->Prop)->Act->World->Prop,J=fun(D:Nat->Prop) (ac:Act) (w':World)=>(D 6->(∀i,i<6->D i)/\∃(s209 s210 s211 s212 s213 s214:Value),ac=fr s209 s210 s211 s212 s213 s214/\∃(X:VV) (x1:Option Addr) (x2:Nat) (x3:Option Addr) (x4:Nat) (x5:Option Addr) (x6:Nat) (x7:Option Addr) (x8:Nat),w'.heap[(w.heap.size+1)]? =G5 (GY #[GX GZ X.kind,GX GZ X.num,GW X.text,GU x1 X.kids.length x2,GU x3 X.keys.length x4,GU x5 X.ents.length x6,GU x7 X.labels.length x8] 33)/\VW (we (lo w.heap.size) w') (.agg #[GX GZ X.kind,GX GZ X.num,GW X.text,GU x1 X.kids.length x2,GU x3 X.keys.length x4,GU x5 X.ents.length x6,GU x7 X.labels.length x8]) X/\(X.nodes<=1/\X.labels.length<=1)/\SR S w w')/\(¬D 6->∃(s209 s210 s211 s212 s213 s214:Value),ac=fr s209 s210 s211 s212 s213 s214/\Hid (SR S w4 w')/\Hid (D 0->s209=.pointer (G5 ⟨S.b,0,G0⟩))/\Hid (D 1->LVf (we (lo (w.heap.size+4)) w') s210)/\Hid (D 2->s211=.pointer (G5 ⟨w.heap.size+2,3,G0⟩))/\Hid (D 3->s212=GW tx)/\Hid (D 4->SLf (we (lo (w.heap.size+4)) w') s213 tx)/\Hid (D 5->LWf (we (lo (w.heap.size+4)) w') s214)):=⟨_,rfl⟩
 subst hfr;have HJ:=zH hJd;clear hJd;refine Inv.wp_region_inv J (by kernel_rfl) (by decide+kernel) ?_ ?_ ?_
 ·rw[HJ.o];exact⟨fun h=>h.elim,fun _=>⟨_,_,_,_,_,_,rfl,zH (SR.refl Hsrc.o).drew,k0,k0,k0,k0,k0,k0⟩⟩
 ·intro i op hi D ac w' hD hA hJ;rw[HJ.o]at hJ;have hl: ¬D 6:=fun hl=>hD (if e:i=6 then e▸hl else(hJ.1 hl).1 i (by have h1:=Ig (I2.1 hi).1 (show _<=7 by decide+kernel);omega))
  obtain⟨s209,s210,s211,s212,s213,s214,e0,Hb,F0,F1,F2,F3,F4,F5⟩:=hJ.2 hl;have HD:=zH hD;have HLL:=zH hl;clear hJ hD hl
  match i,hi,hA,HD with
  | 0, hi, hA, HD =>
    obtain rfl:=Iq hi;subst e0;clear hi;clear hA;go_wp2;rw[HJ.o];exact⟨fun h=>absurd (rR h) HLL.o,fun _=>⟨_,_,_,_,_,_,rfl,Hb,zH fun _=>rfl,kp F1,kp F2,kp F3,kp F4,kp F5⟩⟩
  | 1, hi, hA, HD =>
    obtain rfl:=Iq hi;subst e0;clear hi;have d0:=aZ hA 0 (by decide+kernel);clear hA;obtain rfl:=F0.o d0;go_wp2_with(go_at_call 35;refine(dH S w' Hb.o.src).mono ?_;rintro e w5 ⟨v5,X,rfl,hx,hq,hs⟩;have HL:=zH (show LVf (we (lo (w.heap.size+4)) w5) v5 from⟨X,hx.sub (bL w5 (show(w.heap.size+4)<=w'.heap.size from G9 hw4 Hb.o.size)),hq⟩);have HS:=zH hs;have HW:=zH (show Below (we (lo (w.heap.size+4)) w').heap.size (we (lo (w.heap.size+4)) w') (we (lo (w.heap.size+4)) w5)by rw[ap];exact hs.we (by simp[lo];omega));clear hx hq hs);rw[HJ.o];exact⟨fun h=>absurd (rR h) HLL.o,fun _=>⟨_,_,_,_,_,_,rfl,zH (Hb.o.trans HS.o),kr,zH fun _=>HL.o,kp F2,kp F3,km F4 fun q=>(q).turn HW.o,km F5 fun q=>(q).turn HW.o⟩⟩
  | 2, hi, hA, HD =>
    obtain rfl:=Iq hi;subst e0;clear hi;clear hA;go_wp2;rw[HJ.o];exact⟨fun h=>absurd (rR h) HLL.o,fun _=>⟨_,_,_,_,_,_,rfl,Hb,kp F0,kp F1,zH fun _=>rfl,kp F3,kp F4,kp F5⟩⟩
  | 3, hi, hA, HD =>
    obtain rfl:=Iq hi;subst e0;clear hi;have d2:=aZ hA 2 (by decide+kernel);clear hA;obtain rfl:=F2.o d2;have n3:=(aY (((Hb.o.block (by omega) (by omega)).trans HB4.out:w'.heap[w.heap.size+2]? =_))).1.2.2.2;go_wp2;rw[HJ.o];exact⟨fun h=>absurd (rR h) HLL.o,fun _=>⟨_,_,_,_,_,_,rfl,Hb,kp F0,kp F1,kr,zH fun _=>rfl,kp F4,kp F5⟩⟩
  | 4, hi, hA, HD =>
    obtain rfl:=Iq hi;subst e0;clear hi;have d3:=aZ hA 3 (by decide+kernel);clear hA;obtain rfl:=F3.o d3;go_wp2;have hal:=(Below.refl w'.heap.size w').alloc (G8 _) (GY #[GW tx] 9);have HS:=zH ((SR.refl Hb.o.src).step hal);have HW:=zH (show Below (we (lo (w.heap.size+4)) w').heap.size (we (lo (w.heap.size+4)) w') (we (lo (w.heap.size+4)) (w'.alloc (GY #[GW tx] 9)))by rw[ap];exact aS hal);have HL:=zH (C7 (B:=(w.heap.size+4)) w' tx (G9 hw4 Hb.o.size));clear hal;rw[HJ.o];exact⟨fun h=>absurd (rR h) HLL.o,fun _=>⟨_,_,_,_,_,_,rfl,zH (Hb.o.trans HS.o),kp F0,km F1 fun q=>(q).turn HW.o,kp F2,kr,zH fun _=>HL.o,km F5 fun q=>(q).turn HW.o⟩⟩
  | 5, hi, hA, HD =>
    obtain rfl:=Iq hi;subst e0;clear hi;have d1:=aZ hA 1 (by decide+kernel);have d4:=aZ hA 4 (by decide+kernel);clear hA;obtain⟨X,hX,hXl⟩:=F1.o d1;obtain⟨u,rfl,hu⟩:=F4.o d4;go_wp2_with(go_at_call 64;refine(nQ (lo (w.heap.size+4)) X [tx] w' _ _ ((bh _).mono (G9 hw4 Hb.o.size)) hX hu (by simp)).mono ?_;rintro e w5 ⟨v5,l5,rfl,hx,hl,hb5⟩;have HL:=zH (show LWf (we (lo (w.heap.size+4)) w5) v5 from⟨X.lab l5,hx,by exact G9 (fP X (by have:=hl;simp at this;omega)) hXl.2.1,by cases X;exact hl⟩);have HS:=zH ((SR.refl Hb.o.src).step hb5);have HW:=zH (show Below (we (lo (w.heap.size+4)) w').heap.size (we (lo (w.heap.size+4)) w') (we (lo (w.heap.size+4)) w5)by rw[ap];exact aS hb5);clear hx hl hb5);rw[HJ.o];exact⟨fun h=>absurd (rR h) HLL.o,fun _=>⟨_,_,_,_,_,_,rfl,zH (Hb.o.trans HS.o),kp F0,km F1 fun q=>(q).turn HW.o,kp F2,kp F3,km F4 fun q=>(q).turn HW.o,zH fun _=>HL.o⟩⟩
  | 6, hi, hA, HD =>
    obtain rfl:=Iq hi;subst e0;clear hi;have dd:=lP hA (n:=6) (by decide+kernel);have d5:=dd 5 (by decide);clear hA;obtain⟨X,hX,hX1,hX2⟩:=F5.o d5;obtain⟨dv,cs,rfl,hx⟩:=hX;obtain⟨x1,x2,x3,x4,x5,x6,x7,x8,rfl⟩:=hx.seven;have HX:=zH hx;have ZO:=zH ((Hb.o.block (k:=(w.heap.size+1)) (by omega) Hbo.o).trans HO4.o);clear hx;go_wp2_with(with_reducible refine sR rfl 33 (.tmp 8) (.tmp 214) rfl rfl rfl ZO.o ?_);rw[HJ.o];exact⟨fun _=>⟨fun k hk=>.inl (dd k hk),_,_,_,_,_,_,rfl,⟨X,_,_,_,_,_,_,_,_,setRow_heap _ _ _ _ _ _ ZO.o,bZ ⟨dv,_,rfl,HX.o⟩ HEx.o HEl.o _,⟨hX1,hX2⟩,(H4.o.trans Hb.o).row (by omega) Hbo.o _⟩⟩,fun h=>absurd (.inr rfl) h⟩
  |n+7,hi,hA,HD=>cases hi
 ·intro D ac w' hall hJ;rw[HJ.o]at hJ;obtain⟨-,s209,s210,s211,s212,s213,s214,rfl,hfin⟩:=hJ.1 (hall 6 (by decide));clear hall hJ;obtain⟨X,x1,x2,x3,x4,x5,x6,x7,x8,hc,hv,hq,hs⟩:=hfin;have HC:=zH hc;have HV:=zH hv;have HQ:=zH hq;have HS:=zH hs;clear hc hv hq hs;go_wp2;refine rB rfl (w.heap.size+1) 33 rfl HC.o rfl rfl rfl ?_;exact⟨_,X,rfl,HV.o,HQ.o,HS.o⟩
def L3f(W:World)(B:Nat)(v:Value):Prop:=∃(g:Nat) (a b c:Int),v=GU (G5 ⟨g,0,G0⟩) 3 3/\B<=g/\W.heap[g]? =G5 (GY #[GX GZ a,GX GZ b,GX GZ c] 2)
theorem L3f.turn {W W':World}{B:Nat}{v:Value}(h:L3f W B v)(hb:Below W.heap.size W W'):L3f W' B v:=by
 obtain⟨g,a,b,c,h1,h2,h3⟩:=h;exact⟨g,a,b,c,h1,h2,(hb.block g (ai h3)).trans h3⟩
theorem C8 {B:Nat}(w:World)(a b c:Int)(hB:B<=w.heap.size):L3f (we (lo B) (w.alloc (GY #[GX GZ a,GX GZ b,GX GZ c] 2))) B (GU (G5 ⟨w.heap.size,0,G0⟩) 3 3):=
 ⟨w.heap.size,a,b,c,rfl,hB,(cI (bh B _ hB)).trans (heap_alloc_new w _)⟩
def PXf(W:World)(B:Nat)(v:Value):Prop:=∃(g m:Nat) (x:Int),v=.pointer (G5 ⟨g,m,G0⟩)/\B<=g/\W.cell? ⟨g,m,G0⟩=G5 (GX GZ x)
theorem PXf.turn {W W':World}{B:Nat}{v:Value}(h:PXf W B v)(hb:Below W.heap.size W W'):PXf W' B v:=by
 obtain⟨g,m,x,h1,h2,h3⟩:=h;exact⟨g,m,x,h1,h2,ae hb h3⟩
theorem EW {W:World}{B g m:Nat}{a b c:Int}(h:W.heap[g]? =G5 (GY #[GX GZ a,GX GZ b,GX GZ c] 2))(hB:B<=g)(hm:m<3):PXf W B (.pointer (G5 ⟨g,m,G0⟩)):=by
 rcases(show m=0\/m=1\/m=2 by omega)with rfl|rfl|rfl
 ·exact⟨g,0,a,rfl,hB,by simp[Ic,h]⟩
 ·exact⟨g,1,b,rfl,hB,by simp[Ic,h]⟩
 ·exact⟨g,2,c,rfl,hB,by simp[Ic,h]⟩
theorem C9(T:Ty)(tv:Value)(S:SD)(kn:Nat)(h:Int)(n:TN)(h1:1<=h)(hh:h<=1000)(hkn:kn<T.nodes.length)(hnode:T.nodes[kn]=n)(hkd:n.kind=3)(w:World)(hS:SRC S w)(hT:TB S T tv w):Calls Tryz.prog 33 #[.pointer (G5 ⟨S.b,0,G0⟩),tv,GX GZ (kn:Int),GX GZ h] w (GV (fun V=>V.nodes<=1/\V.labels=[]) S w):=by
 have hltS:=hS.lt;obtain⟨pT,cT,rfl,hR,-⟩:=id hT;obtain⟨a,o,cs,rfl,hal,-,hrange,hNC⟩:=hR.all hkn;rw[hnode]at hNC;obtain⟨kd,lo_,hi_,tx,ks,fs,r0,r1⟩:=n;obtain⟨p1,c1,p2,c2,rfl,hI,hF⟩:=hNC;simp only at hI hF hrange;obtain rfl:kd=3:=hkd;obtain⟨w2,e9,hA,hC,hb⟩:=bE w (GY #[GU (G5 ⟨a,o,G0⟩) T.nodes.length cT,GX GZ T.root] 27) (GY #[GX GZ 0,GX GZ 0,GW ⟨#[]⟩,GU G0 0 0,GU G0 0 0,GU G0 0 0,GU G0 0 0] 33);have hs2:w2.heap.size=w.heap.size+2:=by rw[<-e9];simp
 obtain⟨w4,e8,hB4,hV4,hb4⟩:=bE w2 (GY #[GX GZ 3,GX GZ lo_,GX GZ hi_,GW tx,GU p1 ks.length c1,GU p2 fs.length c2,GX GZ r0,GX GZ r1] 61) (GY #[GX GZ 0,GX GZ 0,GW ⟨#[]⟩,GU G0 0 0,GU G0 0 0,GU G0 0 0,GU G0 0 0] 33);have hs4:w4.heap.size=w2.heap.size+2:=by rw[<-e8];simp
 have E8:=zH e8;clear e8;have H2:=zH ((SR.refl hS).app hb);have H4:=zH (H2.o.step hb4);have hrg:=hrange _ H2.o.bel;have a0:=aF (hrg 0 _ rfl);have a1:=aF (hrg 1 _ rfl);have a2:=aF (hrg 2 _ rfl);have a3:=aF (hrg 3 _ rfl);have a4:=aF (hrg 4 _ rfl);have a5:=aF (hrg 5 _ rfl);have a6:=aF (hrg 6 _ rfl);have a7:=aF (hrg 7 _ rfl);simp only[Im]at a0;have HT:=zH (hT.sr H4.o);have HT0:=zH hT;have HI0:=zH hI;have HI:=zH (show IS (wo S.b w4) (GU p1 ks.length c1) ks from hI.below H4.o.bel);have HF:=zH (show Rw (wo S.b w4) p2 c2 4 fs FC from hF.below H4.o.bel fun _ _ _ h=>h);have hNC:NC (wo S.b w4) ⟨3,lo_,hi_,tx,ks,fs,r0,r1⟩ [GX GZ 3,GX GZ lo_,GX GZ hi_,GW tx,GU p1 ks.length c1,GU p2 fs.length c2,GX GZ r0,GX GZ r1]:=⟨p1,c1,p2,c2,rfl,HI.o,HF.o⟩
 have HNC:=zH hNC;rw[hs2]at hB4 hV4;have HB4:=zH hB4;have HV4:=zH hV4;have HA4:=zH ((hb4.block w.heap.size (by omega)).trans hA);have HO4:=zH ((hb4.block (w.heap.size+1) (by omega)).trans hC);obtain⟨g0,g1⟩:=aM hA;have Hs4:=zH (show w4.heap.size=(w.heap.size+4)by omega);have Hb:=zH (show(w.heap.size+1)≠S.b by omega);have HEx:=zH (show lo (w.heap.size+4) (w.heap.size+1)=G6 by simp[lo]);have HEl:=zH (show∀k,k<w.heap.size->lo (w.heap.size+4) k=G6 from fun k hk=>by simp[lo];omega);have dk:decide (T.nodes.length<=kn)=false:=by simp;omega
 have dk2:decide (kn<T.nodes.length)=true:=by simp[hkn]
 have dk3:decide ((kn:Int)<0)=false:=by simp
 have dh:decide (h<=0)=false:=by simp;omega
 clear hB4 hV4 hA hC hb hb4 hR hrange hrg hI hF hNC hS hT hnode;go_enter Tryz.func33,Tryz.ntmps33;go_upto_region 1 with fail
 try rw[e9]
 go_upto_region 5 with fail
 (try have e8:=E8.o)
 try rw[hs2]
 try rw[e8]
 try rw[hs2]
 clear e9 e8 E8 g0 g1 a0 a1 a2 a3 a4 a5 a6 a7 dk dk3 dh hs2 hs4;obtain⟨⟨n0,n1,n2,n3⟩,n4,n5,n6,n7⟩:=aY HB4.o;have hw4:(w.heap.size+4)<=w4.heap.size:=by have:=Hs4.o;omega
 have Hsrc:=zH H4.o.src;have Hbo:=zH (show(w.heap.size+1)≠S.b by omega);go_upto_region 7 with fail
 clear n0 n1 n2 n3 n4 n5 n6 n7;obtain⟨fr,hfr⟩:∃fr:Value->Value->Value->Value->Value->Value->Value->Value->Value->Value->Value->Value->Value->Value->Value->Value->Value->Value->Value->Value->Act,fr=fun s38 s39 s40 s41 s42 s43 s44 s45 s46 s47 s48 s49 s50 s51 s52 s53 s54 s55 s56 s57=>⟨#[II (G5 {block:=S.b,off:=0}),Value.agg #[GU (G5 {block:=a,off:=o}) T.nodes.length cT,GX In T.root],GX In ↑kn,GX In h,undef,II (G5 {block:=w.heap.size,off:=0}),undef,undef,II (G5 {block:=w.heap.size+1,off:=0}),II (G5 {block:=w.heap.size+2,off:=0}),II (G5 {block:=w.heap.size+2+1,off:=0}),undef,undef,GX In h,Ih G7,Ih G7,GX In ↑kn,Ih G7,Ih G7,Ih G7,GX In ↑kn,II (G5 {block:=w.heap.size,off:=0}),GU (G5 {block:=a,off:=o}) T.nodes.length cT,GX In ↑T.nodes.length,Ih G7,Ih G7,undef,undef,II (G5 {block:=w.heap.size,off:=0}),GU (G5 {block:=a,off:=o}) T.nodes.length cT,GX In ↑kn,II (G5 {block:=a,off:=o+kn*8}),Value.agg #[GX In 3,GX In lo_,GX In hi_,GW tx,GU p1 ks.length c1,GU p2 fs.length c2,GX In r0,GX In r1],Value.agg #[GX In 0,GX In 0,GW {data:= #[]},GU G0 0 0,GU G0 0 0,GU G0 0 0,GU G0 0 0],II (G5 {block:=w.heap.size+2,off:=0}),GX In 3,Ih G6,Ih G6,s38,s39,s40,s41,s42,s43,s44,s45,s46,s47,s48,s49,s50,s51,s52,s53,s54,s55,s56,s57,undef,undef,undef,undef,undef,undef,undef,undef,undef,undef,undef,undef,undef,undef,undef,undef,undef,undef,undef,undef,undef,undef,undef,undef,undef,undef,undef,undef,undef,undef,undef,undef,undef,undef,undef,undef,undef,undef,undef,undef,undef,undef,undef,undef,undef,undef,undef,undef,undef,undef,undef,undef,undef,undef,undef,undef,undef,undef,undef,undef,undef,undef,undef,undef,undef,undef,undef,undef,undef,undef,undef,undef,undef,undef,undef,undef,undef,undef,undef,undef,undef,undef,undef,undef,undef,undef,undef,undef,undef,undef,undef,undef,undef,undef,undef,undef,undef,undef,undef,undef,undef,undef,undef,undef,undef,undef,undef,undef,undef,undef,undef,undef,undef,undef,undef,undef,undef,undef,undef,undef,undef,undef,undef,undef,undef,undef,undef,undef,undef,undef,undef,undef,undef,undef,undef,undef,undef,undef,undef,undef,undef,undef,undef,undef,undef,undef,undef,undef,undef,undef,undef,undef,undef,undef,undef,undef,undef,undef,undef],[]⟩:=⟨_,rfl⟩
 obtain⟨J,hJd⟩:∃J:(Nat->Prop)->Act->World->Prop,J=fun(D:Nat->Prop) (ac:Act) (w':World)=>(D 20->(∀i,i<20->D i)/\∃(s38 s39 s40 s41 s42 s43 s44 s45 s46 s47 s48 s49 s50 s51 s52 s53 s54 s55 s56 s57:Value),ac=fr s38 s39 s40 s41 s42 s43 s44 s45 s46 s47 s48 s49 s50 s51 s52 s53 s54 s55 s56 s57/\∃z:Int,w'.heap[(w.heap.size+1)]? =G5 (GY #[GX GZ 1,GX GZ z,GW ⟨#[]⟩,GU G0 0 0,GU G0 0 0,GU G0 0 0,GU G0 0 0] 33)/\SR S w w')/\(¬D 20->∃(s38 s39 s40 s41 s42 s43 s44 s45 s46 s47 s48 s49 s50 s51 s52 s53 s54 s55 s56 s57:Value),ac=fr s38 s39 s40 s41 s42 s43 s44 s45 s46 s47 s48 s49 s50 s51 s52 s53 s54 s55 s56 s57/\Hid (SR S w4 w')/\Hid (D 0->s38=.pointer (G5 ⟨w.heap.size+2,1,G0⟩))/\Hid (D 1->s39=GX GZ lo_)/\Hid (D 2->s40=.pointer (G5 ⟨w.heap.size+2,2,G0⟩))/\Hid (D 3->s41=GX GZ hi_)/\Hid (D 4->s42=.pointer (G5 ⟨w.heap.size+2,1,G0⟩))/\Hid (D 5->s43=GX GZ lo_)/\Hid (D 6->s44=.pointer (G5 ⟨w.heap.size+2,2,G0⟩))/\Hid (D 7->s45=GX GZ hi_)/\Hid (D 8->∃z:Int,s46=GX GZ z)/\Hid (D 9->s47=.pointer (G5 ⟨w.heap.size+2,1,G0⟩))/\Hid (D 10->s48=GX GZ lo_)/\Hid (D 11->∃z:Int,s49=GX GZ z)/\Hid (D 12->∃z:Int,s50=GX GZ z)/\Hid (D 13->∃z:Int,s51=GX GZ z)/\Hid (D 14->L3f (we (lo (w.heap.size+4)) w') (w.heap.size+4) s52)/\Hid (D 15->s53=.pointer (G5 ⟨S.b,0,G0⟩))/\Hid (D 16->∃y:Nat,s54=GX GZ (y:Int)/\y<3)/\Hid (D 17->PXf (we (lo (w.heap.size+4)) w') (w.heap.size+4) s55)/\Hid (D 18->∃z:Int,s56=GX GZ z)/\Hid (D 19->∃z:Int,s57=.agg #[GX GZ 1,GX GZ z,GW ⟨#[]⟩,GU G0 0 0,GU G0 0 0,GU G0 0 0,GU G0 0 0])):=⟨_,rfl⟩
 subst hfr;have HJ:=zH hJd;clear hJd;refine Inv.wp_region_inv J (by kernel_rfl) (by decide+kernel) ?_ ?_ ?_
 ·rw[HJ.o];exact⟨fun h=>h.elim,fun _=>⟨_,_,_,_,_,_,_,_,_,_,_,_,_,_,_,_,_,_,_,_,rfl,zH (SR.refl Hsrc.o).drew,k0,k0,k0,k0,k0,k0,k0,k0,k0,k0,k0,k0,k0,k0,k0,k0,k0,k0,k0,k0⟩⟩
 ·intro i op hi D ac w' hD hA hJ;rw[HJ.o]at hJ;have hl: ¬D 20:=fun hl=>hD (if e:i=20 then e▸hl else(hJ.1 hl).1 i (by have h1:=Ig (I2.1 hi).1 (show _<=21 by decide+kernel);omega))
  obtain⟨s38,s39,s40,s41,s42,s43,s44,s45,s46,s47,s48,s49,s50,s51,s52,s53,s54,s55,s56,s57,e0,Hb,F0,F1,F2,F3,F4,F5,F6,F7,F8,F9,F10,F11,F12,F13,F14,F15,F16,F17,F18,F19⟩:=hJ.2 hl;have HD:=zH hD;have HLL:=zH hl;clear hJ hD hl
  match i,hi,hA,HD with
  | 0, hi, hA, HD =>
    obtain rfl:=Iq hi;subst e0;clear hi;clear hA;go_wp2;rw[HJ.o];exact⟨fun h=>absurd (rR h) HLL.o,fun _=>⟨_,_,_,_,_,_,_,_,_,_,_,_,_,_,_,_,_,_,_,_,rfl,Hb,zH fun _=>rfl,kp F1,kp F2,kp F3,kp F4,kp F5,kp F6,kp F7,kp F8,kp F9,kp F10,kp F11,kp F12,kp F13,kp F14,kp F15,kp F16,kp F17,kp F18,kp F19⟩⟩
  | 1, hi, hA, HD =>
    obtain rfl:=Iq hi;subst e0;clear hi;have d0:=aZ hA 0 (by decide+kernel);clear hA;obtain rfl:=F0.o d0;obtain⟨⟨-,n1,n2,-⟩,-,-,-,-⟩:=aY (((Hb.o.block (by omega) (by omega)).trans HB4.out:w'.heap[w.heap.size+2]? =_));go_wp2;rw[HJ.o];exact⟨fun h=>absurd (rR h) HLL.o,fun _=>⟨_,_,_,_,_,_,_,_,_,_,_,_,_,_,_,_,_,_,_,_,rfl,Hb,kr,zH fun _=>rfl,kp F2,kp F3,kp F4,kp F5,kp F6,kp F7,kp F8,kp F9,kp F10,kp F11,kp F12,kp F13,kp F14,kp F15,kp F16,kp F17,kp F18,kp F19⟩⟩
  | 2, hi, hA, HD =>
    obtain rfl:=Iq hi;subst e0;clear hi;clear hA;go_wp2;rw[HJ.o];exact⟨fun h=>absurd (rR h) HLL.o,fun _=>⟨_,_,_,_,_,_,_,_,_,_,_,_,_,_,_,_,_,_,_,_,rfl,Hb,kp F0,kp F1,zH fun _=>rfl,kp F3,kp F4,kp F5,kp F6,kp F7,kp F8,kp F9,kp F10,kp F11,kp F12,kp F13,kp F14,kp F15,kp F16,kp F17,kp F18,kp F19⟩⟩
  | 3, hi, hA, HD =>
    obtain rfl:=Iq hi;subst e0;clear hi;have d2:=aZ hA 2 (by decide+kernel);clear hA;obtain rfl:=F2.o d2;obtain⟨⟨-,n1,n2,-⟩,-,-,-,-⟩:=aY (((Hb.o.block (by omega) (by omega)).trans HB4.out:w'.heap[w.heap.size+2]? =_));go_wp2;rw[HJ.o];exact⟨fun h=>absurd (rR h) HLL.o,fun _=>⟨_,_,_,_,_,_,_,_,_,_,_,_,_,_,_,_,_,_,_,_,rfl,Hb,kp F0,kp F1,kr,zH fun _=>rfl,kp F4,kp F5,kp F6,kp F7,kp F8,kp F9,kp F10,kp F11,kp F12,kp F13,kp F14,kp F15,kp F16,kp F17,kp F18,kp F19⟩⟩
  | 4, hi, hA, HD =>
    obtain rfl:=Iq hi;subst e0;clear hi;clear hA;go_wp2;rw[HJ.o];exact⟨fun h=>absurd (rR h) HLL.o,fun _=>⟨_,_,_,_,_,_,_,_,_,_,_,_,_,_,_,_,_,_,_,_,rfl,Hb,kp F0,kp F1,kp F2,kp F3,zH fun _=>rfl,kp F5,kp F6,kp F7,kp F8,kp F9,kp F10,kp F11,kp F12,kp F13,kp F14,kp F15,kp F16,kp F17,kp F18,kp F19⟩⟩
  | 5, hi, hA, HD =>
    obtain rfl:=Iq hi;subst e0;clear hi;have d4:=aZ hA 4 (by decide+kernel);clear hA;obtain rfl:=F4.o d4;obtain⟨⟨-,n1,n2,-⟩,-,-,-,-⟩:=aY (((Hb.o.block (by omega) (by omega)).trans HB4.out:w'.heap[w.heap.size+2]? =_));go_wp2;rw[HJ.o];exact⟨fun h=>absurd (rR h) HLL.o,fun _=>⟨_,_,_,_,_,_,_,_,_,_,_,_,_,_,_,_,_,_,_,_,rfl,Hb,kp F0,kp F1,kp F2,kp F3,kr,zH fun _=>rfl,kp F6,kp F7,kp F8,kp F9,kp F10,kp F11,kp F12,kp F13,kp F14,kp F15,kp F16,kp F17,kp F18,kp F19⟩⟩
  | 6, hi, hA, HD =>
    obtain rfl:=Iq hi;subst e0;clear hi;clear hA;go_wp2;rw[HJ.o];exact⟨fun h=>absurd (rR h) HLL.o,fun _=>⟨_,_,_,_,_,_,_,_,_,_,_,_,_,_,_,_,_,_,_,_,rfl,Hb,kp F0,kp F1,kp F2,kp F3,kp F4,kp F5,zH fun _=>rfl,kp F7,kp F8,kp F9,kp F10,kp F11,kp F12,kp F13,kp F14,kp F15,kp F16,kp F17,kp F18,kp F19⟩⟩
  | 7, hi, hA, HD =>
    obtain rfl:=Iq hi;subst e0;clear hi;have d6:=aZ hA 6 (by decide+kernel);clear hA;obtain rfl:=F6.o d6;obtain⟨⟨-,n1,n2,-⟩,-,-,-,-⟩:=aY (((Hb.o.block (by omega) (by omega)).trans HB4.out:w'.heap[w.heap.size+2]? =_));go_wp2;rw[HJ.o];exact⟨fun h=>absurd (rR h) HLL.o,fun _=>⟨_,_,_,_,_,_,_,_,_,_,_,_,_,_,_,_,_,_,_,_,rfl,Hb,kp F0,kp F1,kp F2,kp F3,kp F4,kp F5,kr,zH fun _=>rfl,kp F8,kp F9,kp F10,kp F11,kp F12,kp F13,kp F14,kp F15,kp F16,kp F17,kp F18,kp F19⟩⟩
  | 8, hi, hA, HD =>
    obtain rfl:=Iq hi;subst e0;clear hi;have d7:=aZ hA 7 (by decide+kernel);clear hA;obtain rfl:=F7.o d7;go_wp2;rw[HJ.o];exact⟨fun h=>absurd (rR h) HLL.o,fun _=>⟨_,_,_,_,_,_,_,_,_,_,_,_,_,_,_,_,_,_,_,_,rfl,Hb,kp F0,kp F1,kp F2,kp F3,kp F4,kp F5,kp F6,kr,zH fun _=>⟨_,rfl⟩,kp F9,kp F10,kp F11,kp F12,kp F13,kp F14,kp F15,kp F16,kp F17,kp F18,kp F19⟩⟩
  | 9, hi, hA, HD =>
    obtain rfl:=Iq hi;subst e0;clear hi;clear hA;go_wp2;rw[HJ.o];exact⟨fun h=>absurd (rR h) HLL.o,fun _=>⟨_,_,_,_,_,_,_,_,_,_,_,_,_,_,_,_,_,_,_,_,rfl,Hb,kp F0,kp F1,kp F2,kp F3,kp F4,kp F5,kp F6,kp F7,kp F8,zH fun _=>rfl,kp F10,kp F11,kp F12,kp F13,kp F14,kp F15,kp F16,kp F17,kp F18,kp F19⟩⟩
  | 10, hi, hA, HD =>
    obtain rfl:=Iq hi;subst e0;clear hi;have d9:=aZ hA 9 (by decide+kernel);clear hA;obtain rfl:=F9.o d9;obtain⟨⟨-,n1,n2,-⟩,-,-,-,-⟩:=aY (((Hb.o.block (by omega) (by omega)).trans HB4.out:w'.heap[w.heap.size+2]? =_));go_wp2;rw[HJ.o];exact⟨fun h=>absurd (rR h) HLL.o,fun _=>⟨_,_,_,_,_,_,_,_,_,_,_,_,_,_,_,_,_,_,_,_,rfl,Hb,kp F0,kp F1,kp F2,kp F3,kp F4,kp F5,kp F6,kp F7,kp F8,kr,zH fun _=>rfl,kp F11,kp F12,kp F13,kp F14,kp F15,kp F16,kp F17,kp F18,kp F19⟩⟩
  | 11, hi, hA, HD =>
    obtain rfl:=Iq hi;subst e0;clear hi;have d10:=aZ hA 10 (by decide+kernel);clear hA;obtain rfl:=F10.o d10;go_wp2;rw[HJ.o];exact⟨fun h=>absurd (rR h) HLL.o,fun _=>⟨_,_,_,_,_,_,_,_,_,_,_,_,_,_,_,_,_,_,_,_,rfl,Hb,kp F0,kp F1,kp F2,kp F3,kp F4,kp F5,kp F6,kp F7,kp F8,kp F9,kr,zH fun _=>⟨_,rfl⟩,kp F12,kp F13,kp F14,kp F15,kp F16,kp F17,kp F18,kp F19⟩⟩
  | 12, hi, hA, HD =>
    obtain rfl:=Iq hi;subst e0;clear hi;have d8:=aZ hA 8 (by decide+kernel);have d11:=aZ hA 11 (by decide+kernel);clear hA;obtain⟨z1,rfl⟩:=F8.o d8;obtain⟨z2,rfl⟩:=F11.o d11;go_wp2;rw[HJ.o];exact⟨fun h=>absurd (rR h) HLL.o,fun _=>⟨_,_,_,_,_,_,_,_,_,_,_,_,_,_,_,_,_,_,_,_,rfl,Hb,kp F0,kp F1,kp F2,kp F3,kp F4,kp F5,kp F6,kp F7,kp F8,kp F9,kp F10,kp F11,zH fun _=>⟨_,rfl⟩,kp F13,kp F14,kp F15,kp F16,kp F17,kp F18,kp F19⟩⟩
  | 13, hi, hA, HD =>
    obtain rfl:=Iq hi;subst e0;clear hi;have d5:=aZ hA 5 (by decide+kernel);have d12:=aZ hA 12 (by decide+kernel);clear hA;obtain rfl:=F5.o d5;obtain⟨z1,rfl⟩:=F12.o d12;go_wp2;rw[HJ.o];exact⟨fun h=>absurd (rR h) HLL.o,fun _=>⟨_,_,_,_,_,_,_,_,_,_,_,_,_,_,_,_,_,_,_,_,rfl,Hb,kp F0,kp F1,kp F2,kp F3,kp F4,kr,kp F6,kp F7,kp F8,kp F9,kp F10,kp F11,kp F12,zH fun _=>⟨_,rfl⟩,kp F14,kp F15,kp F16,kp F17,kp F18,kp F19⟩⟩
  | 14, hi, hA, HD =>
    obtain rfl:=Iq hi;subst e0;clear hi;have d1:=aZ hA 1 (by decide+kernel);have d3:=aZ hA 3 (by decide+kernel);have d13:=aZ hA 13 (by decide+kernel);clear hA;obtain rfl:=F1.o d1;obtain rfl:=F3.o d3;obtain⟨z1,rfl⟩:=F13.o d13;go_wp2;have hal:=(Below.refl w'.heap.size w').alloc (G8 _) (GY #[GX GZ lo_,GX GZ hi_,GX GZ z1] 2);have HS:=zH ((SR.refl Hb.o.src).step hal);have HW:=zH (show Below (we (lo (w.heap.size+4)) w').heap.size (we (lo (w.heap.size+4)) w') (we (lo (w.heap.size+4)) (w'.alloc (GY #[GX GZ lo_,GX GZ hi_,GX GZ z1] 2)))by rw[ap];exact aS hal);have HL:=zH (C8 (B:=(w.heap.size+4)) w' lo_ hi_ z1 (G9 hw4 Hb.o.size));clear hal;rw[HJ.o];exact⟨fun h=>absurd (rR h) HLL.o,fun _=>⟨_,_,_,_,_,_,_,_,_,_,_,_,_,_,_,_,_,_,_,_,rfl,zH (Hb.o.trans HS.o),kp F0,kr,kp F2,kr,kp F4,kp F5,kp F6,kp F7,kp F8,kp F9,kp F10,kp F11,kp F12,kp F13,zH fun _=>HL.o,kp F15,kp F16,km F17 fun q=>(q).turn HW.o,kp F18,kp F19⟩⟩
  | 15, hi, hA, HD =>
    obtain rfl:=Iq hi;subst e0;clear hi;clear hA;go_wp2;rw[HJ.o];exact⟨fun h=>absurd (rR h) HLL.o,fun _=>⟨_,_,_,_,_,_,_,_,_,_,_,_,_,_,_,_,_,_,_,_,rfl,Hb,kp F0,kp F1,kp F2,kp F3,kp F4,kp F5,kp F6,kp F7,kp F8,kp F9,kp F10,kp F11,kp F12,kp F13,kp F14,zH fun _=>rfl,kp F16,kp F17,kp F18,kp F19⟩⟩
  | 16, hi, hA, HD =>
    obtain rfl:=Iq hi;subst e0;clear hi;have d15:=aZ hA 15 (by decide+kernel);clear hA;obtain rfl:=F15.o d15;go_wp2_with(go_at_call 14;refine(aU S 3 w' Hb.o.src (by omega)).mono ?_;rintro e w5 ⟨y,rfl,hs,h0y,h1y,-⟩;have h1y:=h1y (by decide);obtain⟨m,rfl⟩:∃m:Nat,y=(m:Int):=⟨y.toNat,by omega⟩;have hm3:m<3:=(by omega);have HS:=zH hs;have HW:=zH (show Below (we (lo (w.heap.size+4)) w').heap.size (we (lo (w.heap.size+4)) w') (we (lo (w.heap.size+4)) w5)by rw[ap];exact hs.we (by simp[lo];omega));clear hs);rw[HJ.o];exact⟨fun h=>absurd (rR h) HLL.o,fun _=>⟨_,_,_,_,_,_,_,_,_,_,_,_,_,_,_,_,_,_,_,_,rfl,zH (Hb.o.trans HS.o),kp F0,kp F1,kp F2,kp F3,kp F4,kp F5,kp F6,kp F7,kp F8,kp F9,kp F10,kp F11,kp F12,kp F13,km F14 fun q=>(q).turn HW.o,kr,zH fun _=>⟨m,rfl,hm3⟩,km F17 fun q=>(q).turn HW.o,kp F18,kp F19⟩⟩
  | 17, hi, hA, HD =>
    obtain rfl:=Iq hi;subst e0;clear hi;have d14:=aZ hA 14 (by decide+kernel);have d16:=aZ hA 16 (by decide+kernel);clear hA;obtain⟨g,za,zb,zc,rfl,hgB,hg⟩:=F14.o d14;obtain⟨m,rfl,hm3⟩:=F16.o d16;have dm:decide (m<3)=true:=by simp[hm3]
    have Hg:=zH hg;clear hg;go_wp2;have HP:=zH (EW Hg.o hgB hm3);rw[HJ.o];exact⟨fun h=>absurd (rR h) HLL.o,fun _=>⟨_,_,_,_,_,_,_,_,_,_,_,_,_,_,_,_,_,_,_,_,rfl,Hb,kp F0,kp F1,kp F2,kp F3,kp F4,kp F5,kp F6,kp F7,kp F8,kp F9,kp F10,kp F11,kp F12,kp F13,kp F14,kp F15,kp F16,zH fun _=>HP.o,kp F18,kp F19⟩⟩
  | 18, hi, hA, HD =>
    obtain rfl:=Iq hi;subst e0;clear hi;have d17:=aZ hA 17 (by decide+kernel);clear hA;obtain⟨g,m,x,rfl,hgB,hg⟩:=F17.o d17;have hc:=(aJ hg).2;clear hg;go_wp2;rw[HJ.o];exact⟨fun h=>absurd (rR h) HLL.o,fun _=>⟨_,_,_,_,_,_,_,_,_,_,_,_,_,_,_,_,_,_,_,_,rfl,Hb,kp F0,kp F1,kp F2,kp F3,kp F4,kp F5,kp F6,kp F7,kp F8,kp F9,kp F10,kp F11,kp F12,kp F13,kp F14,kp F15,kp F16,kp F17,zH fun _=>⟨_,rfl⟩,kp F19⟩⟩
  | 19, hi, hA, HD =>
    obtain rfl:=Iq hi;subst e0;clear hi;have d18:=aZ hA 18 (by decide+kernel);clear hA;obtain⟨z1,rfl⟩:=F18.o d18;go_wp2_with(go_at_call 57;refine(pI z1 w').mono ?_;rintro e w5 ⟨rfl,hb5⟩;have HS:=zH ((SR.refl Hb.o.src).step hb5);have HW:=zH (show Below (we (lo (w.heap.size+4)) w').heap.size (we (lo (w.heap.size+4)) w') (we (lo (w.heap.size+4)) w5)by rw[ap];exact aS hb5);clear hb5);rw[HJ.o];exact⟨fun h=>absurd (rR h) HLL.o,fun _=>⟨_,_,_,_,_,_,_,_,_,_,_,_,_,_,_,_,_,_,_,_,rfl,zH (Hb.o.trans HS.o),kp F0,kp F1,kp F2,kp F3,kp F4,kp F5,kp F6,kp F7,kp F8,kp F9,kp F10,kp F11,kp F12,kp F13,km F14 fun q=>(q).turn HW.o,kp F15,kp F16,km F17 fun q=>(q).turn HW.o,kp F18,zH fun _=>⟨z1,rfl⟩⟩⟩
  | 20, hi, hA, HD =>
    obtain rfl:=Iq hi;subst e0;clear hi;have dd:=lP hA (n:=20) (by decide+kernel);have d19:=dd 19 (by decide);clear hA;obtain⟨z1,rfl⟩:=F19.o d19;have ZO:=zH ((Hb.o.block (k:=(w.heap.size+1)) (by omega) Hbo.o).trans HO4.o);go_wp2_with(with_reducible refine sR rfl 33 (.tmp 8) (.tmp 57) rfl rfl rfl ZO.o ?_);rw[HJ.o];exact⟨fun _=>⟨fun k hk=>.inl (dd k hk),_,_,_,_,_,_,_,_,_,_,_,_,_,_,_,_,_,_,_,_,rfl,⟨z1,setRow_heap _ _ _ _ _ _ ZO.o,(H4.o.trans Hb.o).row (by omega) Hbo.o _⟩⟩,fun h=>absurd (.inr rfl) h⟩
  |n+21,hi,hA,HD=>cases hi
 ·intro D ac w' hall hJ;rw[HJ.o]at hJ;obtain⟨-,s38,s39,s40,s41,s42,s43,s44,s45,s46,s47,s48,s49,s50,s51,s52,s53,s54,s55,s56,s57,rfl,hfin⟩:=hJ.1 (hall 20 (by decide));clear hall hJ;obtain⟨z,hc,hs⟩:=hfin;have HC:=zH hc;have HS:=zH hs;clear hc hs;go_wp2;refine rB rfl (w.heap.size+1) 33 rfl HC.o rfl rfl rfl ?_;exact⟨_,_,rfl,vw0 _ _ _ _,⟨(by show VV.nodes _<=_;simp[VV.nodes,nodesVs,nodesEs]),rfl⟩,HS.o⟩
end Go.Proofs.YtfpahmeploondaaGreatDoor
