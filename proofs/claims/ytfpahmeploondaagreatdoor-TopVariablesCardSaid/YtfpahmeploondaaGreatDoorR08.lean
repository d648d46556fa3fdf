/- Walks and plain facts for the law on type variables, for all values and types that the heap holds (texts E0 X0 L1 L2). -/
import Derived.Deep.OwnRows
import Derived.Test.YtfpahmeploondaaGreatDoorR03
import Derived.Test.YtfpahmeploondaaGreatDoorR07
set_option linter.unusedVariables false
set_option linter.unusedSimpArgs false
set_option maxHeartbeats 64000000
open Option renaming none -> G0, some -> G5
open Bool renaming true -> G6, false -> G7
open Go.Value renaming slice -> GU, string -> GW, int -> GX
open Go.Obj renaming cells -> GY
open Go.IntKind renaming i64 -> GZ
open Array renaming getElem?_eq_some_iff -> I6, getElem?_eq_none -> Jh
open Nat renaming lt_succ_iff_lt_or_eq -> IP, lt_of_lt_of_le -> Ig, add_zero -> Im, le_refl -> G8
open List renaming getElem_mem -> Ip
open Go.World renaming frozen? -> IB, cell? -> Ic
namespace Go.Proofs.YtfpahmeploondaaGreatDoor
open Go.RowKit
set_option maxRecDepth 100000
def we(E:Nat->Bool)(w:World):World:={w with heap:=w.heap.mapIdx fun k o=>if E k then GY #[] 0 else o}
theorem ap(E:Nat->Bool)(w:World):(we E w).heap.size=w.heap.size:=by simp[we]
theorem cI {E:Nat->Bool}{k:Nat}{w:World}(h:E k=G7):(we E w).heap[k]? =w.heap[k]? :=by
 simp only[we,Array.getElem?_mapIdx,h];cases w.heap[k]? <;>rfl
theorem cV {E:Nat->Bool}{k:Nat}{w:World}(h:E k=G6):(we E w).heap[k]? =if k<w.heap.size then G5 (GY #[] 0)else none:=by
 simp only[we,Array.getElem?_mapIdx,h];by_cases g:k<w.heap.size
 ·rw[if_pos g,Array.getElem?_eq_getElem g];rfl
 ·rw[if_neg g,Jh (by omega)];rfl
theorem aJ {E:Nat->Bool}{a o:Nat}{w:World}{v:Value}(h:(we E w).cell? ⟨a,o,G0⟩=G5 v):E a=G7/\w.cell? ⟨a,o,G0⟩=G5 v:=by
 cases e:E a with
 | true =>
   exfalso;unfold Ic at h;rw[cV e]at h;by_cases g:a<w.heap.size
   ·simp[g]at h
   ·simp[g]at h
 |false=>exact⟨rfl,by rwa[cell_at (cI e)]at h⟩
def wo(b:Nat)(w:World):World:=we (fun k=>k==b) w
theorem bf(b:Nat)(w:World):(wo b w).heap.size=w.heap.size:=ap _ w
theorem nL {b k:Nat}{w:World}(h:k≠b):(wo b w).heap[k]? =w.heap[k]? :=cI (by simp[h])
theorem Cz {b:Nat}{w:World}:(wo b w).heap[b]? =if b<w.heap.size then G5 (GY #[] 0)else none:=cV (by simp)
theorem aF {b a o:Nat}{w:World}{v:Value}(h:(wo b w).cell? ⟨a,o,G0⟩=G5 v):w.cell? ⟨a,o,G0⟩=G5 v:=(aJ h).2
structure Sub(w w':World):Prop where
 size:w.heap.size<=w'.heap.size
 cell:∀a o v,w.cell? ⟨a,o,G0⟩=G5 v->w'.cell? ⟨a,o,G0⟩=G5 v
theorem db(E:Nat->Bool)(w:World):Sub (we E w) w:=⟨Nat.le_of_eq (ap E w),fun _ _ _ h=>(aJ h).2⟩
theorem cw {E F:Nat->Bool}(w:World)(h:∀k,F k=G6->E k=G6):Sub (we E w) (we F w):=by
 refine⟨by rw[ap,ap];exact G8 _,fun a o v hv=>?_⟩;obtain⟨h1,h2⟩:=aJ hv;have h3:F a=false:=by
  cases e:F a with
  |false=>rfl
  |true=>rw[h a e]at h1;cases h1
 rwa[cell_at (cI h3)]
theorem zM(b:Nat)(w:World):Sub (wo b w) w:=db _ w
theorem RC.sub {w w':World}(hs:Sub w w'){size n:Nat}{A:Option Addr}{cs:List Value}(h:RC w size A n cs):RC w' size A n cs:=
 ⟨h.1, fun hn => by
   obtain⟨a,o,h1,h2,h3⟩:=h.2 hn;exact⟨a,o,h1,Ig h2 hs.size,fun j u hu=>hs.cell _ _ _ (h3 j u hu)⟩⟩
theorem IS.sub {w w':World}(hs:Sub w w'){v:Value}{xs:List Int}(h:IS w v xs):IS w' v xs:=by
 obtain⟨p,c,e,h1,h2⟩:=h;exact⟨p,c,e,h1,h2.sub hs⟩
theorem Rw.sub {w w':World}(hs:Sub w w'){α:Type}{p:Option Addr}{c sz:Nat}{l:List α}{P P':α->List Value->Prop}(h:Rw w p c sz l P)(hP:∀x cs,x∈l->P x cs->P' x cs):Rw w' p c sz l P':=by
 obtain⟨h1,cs,h2,h3⟩:=h;exact⟨h1,cs,h2.sub hs,fun i hi=>hP _ _ (Ip hi) (h3 i hi)⟩
theorem VS.sub {w w':World}(hs:Sub w w'):∀{d:Nat} {V:VV} {cs:List Value},VS w d V cs->VS w' d V cs:=by
 intro d
 induction d with
 |zero=>intro V cs h;exact h
 | succ d ih =>
   intro V cs h;obtain⟨p1,c1,p2,c2,p3,c3,p4,c4,e,h1,h2,h3,h4⟩:=h;refine⟨p1,c1,p2,c2,p3,c3,p4,c4,e,h1.sub hs fun _ _ _ h=>ih h,h2.sub hs fun _ _ _ h=>h,h3.sub hs fun e cs _ h=>?_,h4.sub hs fun _ _ _ h=>h⟩;obtain⟨pa,ca,rs,e1,e2,e3⟩:=h;exact⟨pa,ca,rs,e1,e2.sub hs fun _ _ _ h=>ih h,ih e3⟩
theorem ES.sub {w w':World}(hs:Sub w w'){d:Nat}{e:EE}{cs:List Value}(h:ES w d e cs):ES w' d e cs:=by
 obtain⟨pa,ca,rs,e1,e2,e3⟩:=h;exact⟨pa,ca,rs,e1,e2.sub hs fun _ _ _ h=>h.sub hs,e3.sub hs⟩
theorem ES.up {w:World}{d f:Nat}{e:EE}{cs:List Value}(h:ES w d e cs)(hd:d<=f):ES w f e cs:=by
 obtain⟨pa,ca,rs,e1,e2,e3⟩:=h;exact⟨pa,ca,rs,e1,e2.mono fun _ _ _ h=>h.up hd,e3.up hd⟩
theorem VW.sub {w w':World}(hs:Sub w w'){v:Value}{V:VV}(h:VW w v V):VW w' v V:=by
 obtain⟨d,cs,e,h⟩:=h;exact⟨d,cs,e,h.sub hs⟩
theorem NC.sub {w w':World}(hs:Sub w w'){n:TN}{cs:List Value}(h:NC w n cs):NC w' n cs:=by
 obtain⟨p1,c1,p2,c2,e,h1,h2⟩:=h;exact⟨p1,c1,p2,c2,e,h1.sub hs,h2.sub hs fun _ _ _ h=>h⟩
theorem TS.sub {w w':World}(hs:Sub w w'){v:Value}{T:Ty}(h:TS w v T):TS w' v T:=by
 obtain⟨p,c,e,h,h2⟩:=h;exact⟨p,c,e,h.sub hs fun _ _ _ h=>h.sub hs,h2⟩
theorem KS.sub {w w':World}(hs:Sub w w'){v:Value}{l:List VV}(h:KS w v l):KS w' v l:=by
 obtain⟨d,p,c,e,h⟩:=h;exact⟨d,p,c,e,h.sub hs fun _ _ _ h=>h.sub hs⟩
theorem EY.sub {w w':World}(hs:Sub w w'){v:Value}{l:List EE}(h:EY w v l):EY w' v l:=by
 obtain⟨d,p,c,e,h⟩:=h;exact⟨d,p,c,e,h.sub hs fun _ _ _ h=>h.sub hs⟩
theorem SS.sub {w w':World}(hs:Sub w w'){v:Value}{l:List ByteArray}(h:SS w v l):SS w' v l:=by
 obtain⟨p,c,e,h⟩:=h;exact⟨p,c,e,h.sub hs fun _ _ _ h=>h⟩
theorem KY.sub {w w':World}(hs:Sub w w'){v:Value}{l:List KK}(h:KY w v l):KY w' v l:=by
 obtain⟨p,c,e,h⟩:=h;exact⟨p,c,e,h.sub hs fun _ _ _ h=>h⟩
theorem aS {B:Nat}{E:Nat->Bool}{w w':World}(h:Below B w w'):Below B (we E w) (we E w'):=by
 refine⟨h.os,h.tape,h.output,by rw[ap,ap];exact h.size,fun k hk=>?_⟩;cases e:E k with
 | true =>
   rw[cV e,cV e];have h1:=h.block k hk;by_cases g:k<w.heap.size
   ·rw[if_pos g,if_pos (Ig g h.size)]
   ·rw[if_neg g,if_neg];intro g2;have e1:w.heap[k]? =none:=Jh (by omega);rw[e1]at h1;have:=Array.getElem?_eq_none_iff.1 h1;omega
 |false=>rw[cI e,cI e];exact h.block k hk
theorem bA {B b:Nat}{E:Nat->Bool}{o:Obj}{w w':World}(h:Upd b o w w')(hE:E b=G6):Below B (we E w) (we E w'):=by
 refine⟨h.os,h.tape,h.output,by rw[ap,ap,h.size];exact G8 _,fun k _=>?_⟩;cases e:E k with
 |true=>rw[cV e,cV e,h.size]
 | false =>
   rw[cI e,cI e];exact h.other k fun g=>by rw[g,hE]at e;cases e
theorem dc {B b:Nat}{w w':World}(h:Below B w w'):Below B (wo b w) (wo b w'):=aS h
theorem eM {B b:Nat}{o:Obj}{w w':World}(h:Upd b o w w'):Below B (wo b w) (wo b w'):=bA h (by simp)
theorem zN {B B' b:Nat}{w w':World}(h:Below B (wo b w) (wo b w'))(hb:B'<=b)(hB:B'<=B):Below B' w w':=by
 refine⟨h.os,h.tape,h.output,by have:=h.size;rwa[bf,bf]at this,fun k hk=>?_⟩;have:=h.block k (by omega);rwa[nL (by omega),nL (by omega)]at this
theorem FD {B:Nat}{E:Nat->Bool}{w:World}(hE:∀k,k<B->E k=G7):Below B w (we E w):=⟨rfl,rfl,rfl,by rw[ap];exact G8 _,fun k hk=>cI (hE k hk)⟩
theorem zO {B b:Nat}{w:World}(hb:B<=b):Below B w (wo b w):=FD fun k hk=>by simp;omega
def Old(E:Nat->Bool)(n:Nat):Prop:=∀k,n<=k->E k=G7
theorem Old.mono {E:Nat->Bool}{m n:Nat}(h:Old E m)(hm:m<=n):Old E n:=fun k hk=>h k (by omega)
theorem bJ {E:Nat->Bool}{B n:Nat}{e:TypeId}{size:Nat}{v:Value}{xs:List Value}{w:World}(h:w.ownsRow B e size v n xs)(hE:Old E B):(we E w).ownsRow B e size v n xs:=
 cF h fun g hg=>cI (hE g (h.lt g hg).1)
def ex(E:Nat->Bool)(x:Nat):Nat->Bool:=fun k=>E k||k==x
theorem mJ(E:Nat->Bool)(x:Nat)(w:World):Sub (we (ex E x) w) (we E w):=cw w fun k h=>by simp[ex,h]
theorem dU {E:Nat->Bool}{x n:Nat}(h:Old E n)(hx:x<n):Old (ex E x) n:=fun k hk=>by simp[ex,h k hk];omega
theorem zP {E:Nat->Bool}{x B:Nat}{w:World}(hx:B<=x):Below B (we E w) (we (ex E x) w):=by
 refine⟨rfl,rfl,rfl,by rw[ap,ap];exact G8 _,fun k hk=>?_⟩;cases e:E k with
 |true=>rw[cV e,cV (by simp[ex,e])]
 |false=>rw[cI e,cI (by simp[ex,e];omega)]
theorem eN {E:Nat->Bool}{x B:Nat}{w:World}(hE:E x=G6)(cs:Array Value):Below B (we E w) (we E (w.setRow x cs)):=by
 have hs:(w.setRow x cs).heap.size=w.heap.size:=size_setRow _ _ _;refine⟨rfl,rfl,rfl,by rw[ap,ap,hs];exact G8 _,fun k _=>?_⟩;cases e:E k with
 |true=>rw[cV e,cV e,hs]
 | false =>
   rw[cI e,cI e];exact setRow_other _ _ _ _ fun g=>by rw[g,hE]at e;cases e
def lo(B:Nat):Nat->Bool:=fun k=>decide (k<B)
theorem bh(B:Nat):Old (lo B) B:=fun k hk=>by simp[lo];omega
theorem bL {A B:Nat}(w:World)(h:A<=B):Sub (we (lo B) w) (we (lo A) w):=cw w fun k hk=>by simp[lo]at hk ⊢;omega
theorem fy {B:Nat}{E:Nat->Bool}(w:World)(h:Old E B):Sub (we (lo B) w) (we E w):=cw w fun k hk=>by
 simp only[lo,decide_eq_true_eq];by_cases g:k<B
 ·exact g
 ·rw[h k (by omega)]at hk;cases hk
theorem ae {w w':World}(hb:Below w.heap.size w w'){a o:Nat}{v:Value}(h:w.cell? ⟨a,o,G0⟩=G5 v):w'.cell? ⟨a,o,G0⟩=G5 v:=by
 by_cases e:a<w.heap.size
 ·exact(hb.cell (p:=⟨a,_,G0⟩) e).trans h
 ·exfalso;unfold Ic at h;have e1:w.heap[a]? =none:=Jh (by omega);simp[e1]at h
structure SD where
 b:Nat
 p:Option Addr
 c:Nat
 L:List Int
structure SRC(S:SD)(w:World):Prop where
 blk:∃i:Nat,i<=S.L.length/\w.heap[S.b]? =G5 (GY #[GU S.p S.L.length S.c,GX GZ (i:Int)] 51)
 row:IS (wo S.b w) (GU S.p S.L.length S.c) S.L
 len:S.L.length<=1000
structure SR(S:SD)(w w':World):Prop where
 fr:Below w.heap.size (wo S.b w) (wo S.b w')
 src0:SRC S w
 src:SRC S w'
theorem SRC.lt {S:SD}{w:World}(h:SRC S w):S.b<w.heap.size:=by obtain⟨_,_,h⟩:=h.blk;exact ai h
theorem SRC.below {S:SD}{w w':World}(h:SRC S w)(hb:Below w.heap.size w w'):SRC S w':=by
 obtain⟨i,h1,h2⟩:=h.blk;exact⟨⟨i,h1,(hb.block _ (ai h2)).trans h2⟩,h.row.below (by rw[bf];exact dc hb),h.len⟩
theorem SR.refl {S:SD}{w:World}(h:SRC S w):SR S w w:=⟨Below.refl _ _,h,h⟩
theorem SR.size {S:SD}{w w':World}(h:SR S w w'):w.heap.size<=w'.heap.size:=by have:=h.fr.size;rwa[bf,bf]at this
theorem SR.trans {S:SD}{w w1 w2:World}(h:SR S w w1)(k:SR S w1 w2):SR S w w2:=⟨h.fr.trans (k.fr.mono h.size),h.src0,k.src⟩
theorem SR.step {S:SD}{w w1 w2:World}(h:SR S w w1)(k:Below w1.heap.size w1 w2):SR S w w2:=⟨h.fr.trans ((dc k).mono h.size),h.src0,h.src.below k⟩
theorem SR.own {S:SD}{w w1 w2:World}(h:SR S w w1)(k:Below w.heap.size w1 w2)(hb:w2.heap[S.b]? =w1.heap[S.b]?):SR S w w2:=by
 have hf:=h.fr.trans (dc (b:=S.b) k);obtain⟨i,h1,h2⟩:=h.src.blk;exact⟨hf,h.src0,⟨i,h1,hb.trans h2⟩,h.src0.row.below (by rw[bf];exact hf),h.src0.len⟩
theorem SR.bel {S:SD}{w w':World}(h:SR S w w'):Below (wo S.b w).heap.size (wo S.b w) (wo S.b w'):=by rw[bf];exact h.fr
theorem SR.block {S:SD}{w w':World}{k:Nat}(h:SR S w w')(hk:k<w.heap.size)(hb:k≠S.b):w'.heap[k]? =w.heap[k]? :=by
 have:=h.fr.block k hk;rwa[nL hb,nL hb]at this
theorem SR.old {S:SD}{w w':World}{B:Nat}(h:SR S w w')(hb:B<=S.b):Below B w w':=zN h.fr hb (by have:=h.src0.lt;omega)
theorem SR.we {S:SD}{w w':World}{E:Nat->Bool}(h:SR S w w')(hE:E S.b=G6):Below w.heap.size (we E w) (we E w'):=by
 refine⟨h.fr.os,h.fr.tape,h.fr.output,by rw[ap,ap];exact h.size,fun k hk=>?_⟩;cases e:E k with
 |true=>rw[cV e,cV e,if_pos hk,if_pos (Ig hk h.size)]
 | false =>
   rw[cI e,cI e];exact h.block hk fun g=>by rw[g,hE]at e;cases e
theorem SR.alloc {S:SD}{w:World}(h:SRC S w)(o:Obj):SR S w (w.alloc o):=(SR.refl h).step ((Below.refl _ _).alloc (G8 _) _)
theorem SR.drew {S:SD}{w w':World}(h:SR S w w'):SR S w w'.drew:=⟨⟨h.fr.os,h.fr.tape,h.fr.output,h.fr.size,h.fr.block⟩,h.src0,h.src.blk,h.src.row,h.src.len⟩
structure MI(w:World)(b n:Nat)(f:Nat->Int):Prop where
 ex:∃tc:Array Value,w.heap[b]? =G5 (.cells tc 3)/\∀m,m<n->tc[m]? =G5 (GX GZ (f m))
theorem MI.cell {w:World}{b n:Nat}{f:Nat->Int}(h:MI w b n f){m:Nat}(hm:m<n):w.cell? ⟨b,m,G0⟩=G5 (GX GZ (f m)):=by
 obtain⟨tc,h1,h2⟩:=h.ex;simp[Ic,h1,h2 m hm]
theorem MI.at {w w':World}{b n:Nat}{f:Nat->Int}(h:MI w b n f)(e:w'.heap[b]? =w.heap[b]?):MI w' b n f:=by
 obtain⟨tc,h1,h2⟩:=h.ex;exact⟨tc,e.trans h1,h2⟩
theorem MI.lt {w:World}{b n:Nat}{f:Nat->Int}(h:MI w b n f):b<w.heap.size:=by
 obtain⟨tc,h1,h2⟩:=h.ex;exact ai h1
theorem MI.below {w w':World}{b n:Nat}{f:Nat->Int}(h:MI w b n f)(hb:Below w.heap.size w w'):MI w' b n f:=h.at (hb.block _ h.lt)
theorem MI.free {w:World}{b n:Nat}{f:Nat->Int}(h:MI w b n f)(i:Nat):w.frozen? ⟨b,i,G0⟩=false:=by
 obtain⟨tc,h1,h2⟩:=h.ex;simp[IB,h1]
theorem MI.set {w:World}{b n:Nat}{f:Nat->Int}(h:MI w b n f){k:Nat}(hk:k<n)(x:Int):MI (w.setCell ⟨b,k,G0⟩ (GX GZ x)) b n (fun m=>if m=k then x else f m)/\∃o,Upd b o w (w.setCell ⟨b,k,G0⟩ (GX GZ x)):=by
 obtain⟨tc,h1,h2⟩:=h.ex;have hU:=Upd.set (i:=k) (v:=GX GZ x) (Upd.refl h1);refine⟨⟨_,hU.blk,fun m hm=>?_⟩,_,hU⟩;have hl:k<tc.size:=by
  have:=h2 k hk;exact(I6.1 this).1
 rw[Array.getElem?_setIfInBounds];by_cases e:k=m
 ·subst e;simp[hl]
 ·rw[if_neg e,if_neg (fun e2=>e e2.symm)];exact h2 m hm
theorem MI.made(w:World)(n:Nat):MI (w.alloc (.cells (madeCells #[GX GZ 0] n) 3)) w.heap.size n fun _=>0:=by
 refine⟨_,heap_alloc_new w _,fun m hm=>?_⟩;simp[madeCells,hm,Nat.mod_one]
structure MB(w:World)(b n:Nat)(f:Nat->Bool):Prop where
 ex:∃tc:Array Value,w.heap[b]? =G5 (.cells tc 4)/\∀m,m<n->tc[m]? =G5 (.bool (f m))
theorem MB.cell {w:World}{b n:Nat}{f:Nat->Bool}(h:MB w b n f){m:Nat}(hm:m<n):w.cell? ⟨b,m,G0⟩=G5 (.bool (f m)):=by
 obtain⟨tc,h1,h2⟩:=h.ex;simp[Ic,h1,h2 m hm]
theorem MB.at {w w':World}{b n:Nat}{f:Nat->Bool}(h:MB w b n f)(e:w'.heap[b]? =w.heap[b]?):MB w' b n f:=by
 obtain⟨tc,h1,h2⟩:=h.ex;exact⟨tc,e.trans h1,h2⟩
theorem MB.lt {w:World}{b n:Nat}{f:Nat->Bool}(h:MB w b n f):b<w.heap.size:=by
 obtain⟨tc,h1,h2⟩:=h.ex;exact ai h1
theorem MB.below {w w':World}{b n:Nat}{f:Nat->Bool}(h:MB w b n f)(hb:Below w.heap.size w w'):MB w' b n f:=h.at (hb.block _ h.lt)
theorem MB.free {w:World}{b n:Nat}{f:Nat->Bool}(h:MB w b n f)(i:Nat):w.frozen? ⟨b,i,G0⟩=false:=by
 obtain⟨tc,h1,h2⟩:=h.ex;simp[IB,h1]
theorem MB.set {w:World}{b n:Nat}{f:Nat->Bool}(h:MB w b n f){k:Nat}(hk:k<n)(x:Bool):MB (w.setCell ⟨b,k,G0⟩ (.bool x)) b n (fun m=>if m=k then x else f m)/\∃o,Upd b o w (w.setCell ⟨b,k,G0⟩ (.bool x)):=by
 obtain⟨tc,h1,h2⟩:=h.ex;have hU:=Upd.set (i:=k) (v:=.bool x) (Upd.refl h1);refine⟨⟨_,hU.blk,fun m hm=>?_⟩,_,hU⟩;have hl:k<tc.size:=by
  have:=h2 k hk;exact(I6.1 this).1
 rw[Array.getElem?_setIfInBounds];by_cases e:k=m
 ·subst e;simp[hl]
 ·rw[if_neg e,if_neg (fun e2=>e e2.symm)];exact h2 m hm
theorem MB.made(w:World)(n:Nat):MB (w.alloc (.cells (madeCells #[.bool G7] n) 4)) w.heap.size n fun _=>false:=by
 refine⟨_,heap_alloc_new w _,fun m hm=>?_⟩;simp[madeCells,hm,Nat.mod_one]
theorem yi:(Tryz.prog.info? 4).map (fun i=>(i.zero,i.size,i.bytes))=G5 (G5 (.bool G7),1,1):=by kernel_rfl
open Go.RowKit Go.Ident
theorem toList_inj {a b:ByteArray}(h:a.toList=b.toList):a=b:=by
 rw[ByteArray.toList_eq,ByteArray.toList_eq]at h;cases a;cases b;simp only[ByteArray.mk.injEq];exact Array.toList_inj.1 h
def uX(a b:VV):Prop:=∀(w:World) (u v:Value),VW w u a->VW w v b->Calls Tryz.prog 77 #[u,v] w (IR (bH a b) w)
def Ek(a b:EE):Prop:=∀(w:World) (d d':Nat) (cs cs':List Value),ES w d a cs->ES w d' b cs'->Calls Tryz.prog 78 #[.agg cs.toArray,.agg cs'.toArray] w (IR (cmpE a b) w)
theorem nM(la lb:List VV)(w:World)(u v:Value)(ha:KS w u la)(hb:KS w v lb)(hc:∀x∈la,∀y∈lb,uX x y):Calls Tryz.prog 106 #[u,v] w (IR (cr bH la lb) w):=by
 have HA:=zH ha;have HB:=zH hb;have Hc:=zH hc;clear hc;have hL:la.length<=9223372036854775807:=by obtain⟨_,_,_,_,h⟩:=ha;exact h.big
 obtain⟨_,pa,ca,rfl,-⟩:=ha;obtain⟨_,pb,cb,rfl,-⟩:=hb;have Hlen:=zH (gQ la.length lb.length);by_cases hlen:la.length=lb.length;rotate_left
 ·have ho:bY (la.length:Int) (lb.length:Int)≠0:=fun h=>hlen (by have:=eh h;omega)
  have Hcm:=zH (show cr bH la lb=bY (la.length:Int) (lb.length:Int)from jV ho);have d0:((la.length:Int)!=(lb.length:Int))=true:=by simp;omega
  clear ho hlen;generalize bY (la.length:Int) (lb.length:Int)=c at*
  go_enter Tryz.func106,Tryz.ntmps106;go_wp2_with(go_at_call 103;refine(Hlen.o _).mono ?_;rintro e w ⟨rfl,rfl⟩);go_ret;rw[Hcm.o];exact⟨rfl,Below.refl _ _⟩
 have ho:bY (la.length:Int) (lb.length:Int)=0:=by rw[hlen];unfold bY;simp
 have Hcm:=zH (show cr bH la lb=ec bH la lb from lF ho);have d0:((la.length:Int)!=(lb.length:Int))=false:=by simp[hlen]
 have Hle:=zH hlen;clear ho hlen Hlen;go_enter Tryz.func106,Tryz.ntmps106;go_wp2;go_loopw[5] (fun i wr=>∃k:Nat,i=GX GZ k/\k<=la.length/\(∀j (h1:j<la.length) (h2:j<lb.length),j<k->bH la[j] lb[j]=0)/\Below w.heap.size w wr) (fun i _=>la.length-(intOf i).toNat)
 case atStart=>exact⟨0,rfl,by omega,fun j _ _ h=>by omega,Below.refl _ _⟩
 case round=>
  obtain⟨k,rfl,hk,hall,hb⟩:=hrel;have Hall:=zH hall;have Hb:=zH hb;clear hall hb;by_cases hka:k<la.length
  ·have hkb:k<lb.length:=by have:=Hle.o;omega
   obtain⟨dy,py,cy,ey,hry⟩:=HA.o.below Hb.o;injection ey with ey1 _ ey3
   subst ey1 ey3;obtain⟨ay,oy,csy,rfl,haby,-,hrgy,hPy⟩:=hry.at hka;obtain⟨q1,q2,q3,q4,q5,q6,q7,q8,rfl⟩:=hPy.seven;have y0:=hrgy 0 _ rfl;have y1:=hrgy 1 _ rfl;have y2:=hrgy 2 _ rfl;have y3:=hrgy 3 _ rfl;have y4:=hrgy 4 _ rfl;have y5:=hrgy 5 _ rfl;have y6:=hrgy 6 _ rfl;rw[Im]at y0;have HPy:=zH hPy;clear hry hrgy hPy;obtain⟨dz,pz,cz,ez,hrz⟩:=HB.o.below Hb.o;injection ez with ez1 _ ez3
   subst ez1 ez3;obtain⟨az,oz,csz,rfl,habz,-,hrgz,hPz⟩:=hrz.at hkb;obtain⟨r1,r2,r3,r4,r5,r6,r7,r8,rfl⟩:=hPz.seven;have z0:=hrgz 0 _ rfl;have z1:=hrgz 1 _ rfl;have z2:=hrgz 2 _ rfl;have z3:=hrgz 3 _ rfl;have z4:=hrgz 4 _ rfl;have z5:=hrgz 5 _ rfl;have z6:=hrgz 6 _ rfl;rw[Im]at z0;have HPz:=zH hPz;clear hrz hrgz hPz;have Hcall:=zH (Hc.o _ (Ip hka) _ (Ip hkb) wr.drew _ _ ⟨dy,_,rfl,HPy.o.below (Below.refl _ _).drew⟩ ⟨dz,_,rfl,HPz.o.below (Below.refl _ _).drew⟩);have Hat:=zH (kG (f:=bH) hka hkb Hall.o);have Hnx:=zH (show bH la[k] lb[k]=0->∀j (h1:j<la.length) (h2:j<lb.length),j<k+1->bH la[j] lb[j]=0 from fun g j h h2 hjk=>by
    rcases IP.1 hjk with g2|rfl
    ·exact Hall.o j h h2 g2
    ·exact g)
   generalize la[k]=X at*
   generalize lb[k]=Y at*
   by_cases hz:bH X Y=0
   ·have Hnx2:=zH (Hnx.o hz);rw[hz]at Hcall;clear hz;go_wp2_with(first
     |(with_reducible refine rg ?_)
     |(with_reducible refine fo ?_)
     |(go_at_call 77;go_loud(refine Hcall.o.mono ?_);rintro e w6 ⟨rfl,q⟩;have Hb6:=zH (Hb.o.drew.step q);clear q))
    exact⟨⟨k+1,by go_num,by omega,Hnx2.o,Hb6.o⟩,by simp[intOf];omega⟩
   ·have Hres:=zH (Hat.o hz);have d1:(bH X Y !=0)=true:=by simpa using hz
    clear hz;generalize bH X Y=c at*
    go_wp2_with(first
     |(with_reducible refine rg ?_)
     |(with_reducible refine fo ?_)
     |(go_at_call 77;go_loud(refine Hcall.o.mono ?_);rintro e w6 ⟨rfl,q⟩;have Hb6:=zH (Hb.o.drew.step q);clear q))
    go_ret;rw[Hcm.o,Hres.o];exact⟨rfl,Hb6.o⟩
  ·obtain rfl:k=la.length:=by omega
   have Hres:=zH (iW (f:=bH) fun j h h2=>Hall.o j h h2 h);go_wp2;go_ret;rw[Hcm.o,Hres.o];exact⟨rfl,Hb.o⟩
theorem i6(a b:EE)(hcv:∀x∈a.args,∀y∈b.args,uX x y)(hcr:uX a.res b.res):Ek a b:=by
 intro w d d' cs cs' hu hv;have Hcv:=zH hcv;have Hcr:=zH hcr;have Heq:=zH (qF a b);obtain⟨q9,qa,rs,rfl,haa,hra⟩:=hu;obtain⟨r9,ra,rs',rfl,hab,hrb⟩:=hv;obtain⟨q1,q2,q3,q4,q5,q6,q7,q8,rfl⟩:=hra.seven;obtain⟨r1,r2,r3,r4,r5,r6,r7,r8,rfl⟩:=hrb.seven;have HVa:=zH (show KS w (GU q9 a.args.length qa) a.args from⟨d,q9,qa,rfl,haa⟩);have HVb:=zH (show KS w (GU r9 b.args.length ra) b.args from⟨d',r9,ra,rfl,hab⟩);have HRa:=zH hra;have HRb:=zH hrb;clear hcv hcr haa hab hra hrb;go_enter Tryz.func78,Tryz.ntmps78;go_upto_region 1 with fail
 obtain⟨w2,e9,hA,hB,hb⟩:=bE w (GY #[GU q9 a.args.length qa,.bool a.fails,GX GZ a.res.kind,GX GZ a.res.num,GW a.res.text,GU q1 a.res.kids.length q2,GU q3 a.res.keys.length q4,GU q5 a.res.ents.length q6,GU q7 a.res.labels.length q8] 68) (GY #[GU r9 b.args.length ra,.bool b.fails,GX GZ b.res.kind,GX GZ b.res.num,GW b.res.text,GU r1 b.res.kids.length r2,GU r3 b.res.keys.length r4,GU r5 b.res.ents.length r6,GU r7 b.res.labels.length r8] 68);rw[e9];have hlA:=ai hA;have hlB:=ai hB;have HbA:=zH hA;have HbB:=zH hB;have Hb:=zH hb;obtain⟨⟨f0,f1,f2,f3⟩,⟨f4,f5,f6,f7⟩,f8⟩:=cB hA;obtain⟨⟨g0,g1,g2,g3⟩,⟨g4,g5,g6,g7⟩,g8⟩:=cB hB;clear e9 hA hB hb;go_upto_region 2 with(go_at_call 106;refine(nM a.args b.args w2 _ _ (HVa.o.below Hb.o) (HVb.o.below Hb.o) Hcv.o).mono ?_;rintro e x0 ⟨rfl,q⟩;have Hc0:=zH (Hb.o.step q);have Hd0:=zH (q);clear q)
 by_cases z0:cr bH a.args b.args=0;rotate_left
 ·have Heq2:=zH (show cmpE a b=cr bH a.args b.args by rw[Heq.o,jV z0]);have d1:(cr bH a.args b.args !=0)=true:=by simpa using z0
  have d2:(cr bH a.args b.args==0)=false:=by simpa using z0
  clear z0;generalize cr bH a.args b.args=c at*
  go_wp2;go_ret;rw[Heq2.o];exact⟨rfl,Hc0.o⟩
 have d0':(cr bH a.args b.args !=0)=false:=by simpa using z0
 have d0'':(cr bH a.args b.args==0)=true:=by simpa using z0
 clear f0 f1 f2 f3 f4 f5 f6 f7 f8 g0 g1 g2 g3 g4 g5 g6 g7 g8;obtain⟨⟨f0,f1,f2,f3⟩,⟨f4,f5,f6,f7⟩,f8⟩:=cB ((Hd0.o.block _ hlA).trans HbA.o);obtain⟨⟨g0,g1,g2,g3⟩,⟨g4,g5,g6,g7⟩,g8⟩:=cB ((Hd0.o.block _ hlB).trans HbB.o);have Heq1:=zH (show cmpE a b=nz (if a.fails=b.fails then 0 else if a.fails=G6 then -1 else 1) (bH a.res b.res)by rw[Heq.o,lF z0]);clear z0;have HbA0:=zH ((Hd0.o.block _ hlA).trans HbA.o);cases hfa:a.fails<;>cases hfb:b.fails<;>rw[hfa]at f1<;>rw[hfb]at g1
 ·have Heq2:=zH (show cmpE a b=bH a.res b.res by rw[Heq1.o,hfa,hfb];exact lF rfl);clear hfa hfb;go_wp2_with(go_at_call 77;refine(Hcr.o x0 _ _ ⟨d,_,rfl,HRa.o.below Hc0.o⟩ ⟨d',_,rfl,HRb.o.below Hc0.o⟩).mono ?_;rintro e x1 ⟨rfl,q⟩;have Hc1:=zH (Hc0.o.step q);clear q);go_ret;rw[Heq2.o];exact⟨rfl,Hc1.o⟩
 ·have Heq2:=zH (show cmpE a b=1 by rw[Heq1.o,hfa,hfb];exact jV (by decide));clear hfa hfb;go_wp2;go_ret;rw[Heq2.o];exact⟨rfl,Hc0.o⟩
 ·have Heq2:=zH (show cmpE a b= -1 by rw[Heq1.o,hfa,hfb];exact jV (by decide));clear hfa hfb;go_wp2;go_ret;rw[Heq2.o];exact⟨rfl,Hc0.o⟩
 ·have Heq2:=zH (show cmpE a b=bH a.res b.res by rw[Heq1.o,hfa,hfb];exact lF rfl);clear hfa hfb;go_wp2_with(go_at_call 77;refine(Hcr.o x0 _ _ ⟨d,_,rfl,HRa.o.below Hc0.o⟩ ⟨d',_,rfl,HRb.o.below Hc0.o⟩).mono ?_;rintro e x1 ⟨rfl,q⟩;have Hc1:=zH (Hc0.o.step q);clear q);go_ret;rw[Heq2.o];exact⟨rfl,Hc1.o⟩
theorem pj(a b:VV)(hcv:∀x∈a.kids,∀y∈b.kids,uX x y)(hce:∀x∈a.ents,∀y∈b.ents,Ek x y):uX a b:=by
 intro w u v hu hv;have Hcv:=zH hcv;have Hce:=zH hce;have Heq:=zH (qE a b);obtain⟨_,q1,q2,q3,q4,q5,q6,q7,q8,rfl,-,hka,hkya,hea,hsa⟩:=hu.ex;obtain⟨_,r1,r2,r3,r4,r5,r6,r7,r8,rfl,-,hkb,hkyb,heb,hsb⟩:=hv.ex;have hLK:a.keys.length<=9223372036854775807:=by obtain⟨_,_,_,h⟩:=hkya;exact h.big
 have hLE:a.ents.length<=9223372036854775807:=by obtain⟨_,_,_,_,h⟩:=hea;exact h.big
 have hLS:a.labels.length<=9223372036854775807:=by obtain⟨_,_,_,h⟩:=hsa;exact h.big
 have HVa:=zH hka;have HKa:=zH hkya;have HEa:=zH hea;have HSa:=zH hsa;have HVb:=zH hkb;have HKb:=zH hkyb;have HEb:=zH heb;have HSb:=zH hsb;clear hcv hce hu hv hka hkya hea hsa hkb hkyb heb hsb;go_enter Tryz.func77,Tryz.ntmps77;go_upto_region 1 with fail
 obtain⟨w2,e9,hA,hB,hb⟩:=bE w (GY #[GX GZ a.kind,GX GZ a.num,GW a.text,GU q1 a.kids.length q2,GU q3 a.keys.length q4,GU q5 a.ents.length q6,GU q7 a.labels.length q8] 33) (GY #[GX GZ b.kind,GX GZ b.num,GW b.text,GU r1 b.kids.length r2,GU r3 b.keys.length r4,GU r5 b.ents.length r6,GU r7 b.labels.length r8] 33);rw[e9];have hlA:=ai hA;have hlB:=ai hB;have HbA:=zH hA;have HbB:=zH hB;have Hb2:=zH hb;obtain⟨⟨f0,f1,f2,f3⟩,f4,f5,f6⟩:=aN hA;obtain⟨⟨g0,g1,g2,g3⟩,g4,g5,g6⟩:=aN hB;clear e9 hA hB hb;by_cases z0:a.kind=b.kind;rotate_left
 ·have ho:bY a.kind b.kind≠0:=fun h=>z0 (eh h)
  have Heq2:=zH (show bH a b=bY a.kind b.kind by rw[Heq.o,jV ho]);have d0:(a.kind !=b.kind)=true:=by simpa using z0
  have Hc:=zH (gQ a.kind b.kind);clear z0 ho;generalize bY a.kind b.kind=c at*
  go_wp2_with(go_at_call 103;refine(Hc.o _).mono ?_;rintro e w2 ⟨rfl,rfl⟩);go_ret;rw[Heq2.o];exact⟨rfl,Hb2.o⟩
 have o0:bY a.kind b.kind=0:=by rw[z0];unfold bY;simp
 have d0:(a.kind !=b.kind)=false:=by simp[z0]
 have Heq0x:=zH (show bH a b=nz (bY a.num b.num) (nz (bD a.text b.text) (nz (cr bN a.keys b.keys) (nz (cr bH a.kids b.kids) (nz (cr cmpE a.ents b.ents) (cr bD a.labels b.labels)))))by rw[Heq.o,lF o0]);clear o0 z0;by_cases z1:a.num=b.num;rotate_left
 ·have ho:bY a.num b.num≠0:=fun h=>z1 (eh h)
  have Heq2:=zH (show bH a b=bY a.num b.num by rw[Heq0x.o,jV ho]);have d1:(a.num !=b.num)=true:=by simpa using z1
  have Hc:=zH (nF a.num b.num);clear z1 ho;generalize bY a.num b.num=c at*
  go_wp2_with(go_at_call 104;refine(Hc.o _).mono ?_;rintro e w2 ⟨rfl,rfl⟩);go_ret;rw[Heq2.o];exact⟨rfl,Hb2.o⟩
 have o1:bY a.num b.num=0:=by rw[z1];unfold bY;simp
 have d1:(a.num !=b.num)=false:=by simp[z1]
 have Heq1x:=zH (show bH a b=nz (bD a.text b.text) (nz (cr bN a.keys b.keys) (nz (cr bH a.kids b.kids) (nz (cr cmpE a.ents b.ents) (cr bD a.labels b.labels))))by rw[Heq0x.o,lF o1]);clear o1 z1;by_cases z2:a.text=b.text;rotate_left
 ·have ho:bD a.text b.text≠0:=fun h=>z2 (ir h)
  have Heq2:=zH (show bH a b=bD a.text b.text by rw[Heq1x.o,jV ho]);have d2':(a.text.toList==b.text.toList)=false:=by rw[beq_eq_false_iff_ne];intro h;exact z2 (toList_inj h)
  have d2:(!a.text.toList==b.text.toList)=true:=by rw[d2'];rfl
  have Hc:=zH (pE a.text b.text);clear z2 ho;generalize bD a.text b.text=c at*
  go_wp2_with(go_at_call 105;refine(Hc.o _).mono ?_;rintro e w2 ⟨rfl,rfl⟩);go_ret;rw[Heq2.o];exact⟨rfl,Hb2.o⟩
 have o2:bD a.text b.text=0:=by rw[z2];exact ordS_lo.self trivial
 have d2':(a.text.toList==b.text.toList)=true:=by simp[z2]
 have d2:(!a.text.toList==b.text.toList)=false:=by rw[d2'];rfl
 have Heq2x:=zH (show bH a b=nz (cr bN a.keys b.keys) (nz (cr bH a.kids b.kids) (nz (cr cmpE a.ents b.ents) (cr bD a.labels b.labels)))by rw[Heq1x.o,lF o2]);clear o2 z2;have Hd2:=zH (Below.refl w2.heap.size w2);by_cases zl:a.keys.length=b.keys.length;rotate_left
 ·have ho:bY (a.keys.length:Int) (b.keys.length:Int)≠0:=fun h=>zl (by have:=eh h;omega)
  have hcm:cr bN a.keys b.keys=bY (a.keys.length:Int) (b.keys.length:Int):=jV ho;have Heq2:=zH (show bH a b=bY (a.keys.length:Int) (b.keys.length:Int)by rw[Heq2x.o,jV (by rw[hcm];exact ho),hcm]);have d3:((a.keys.length:Int)!=(b.keys.length:Int))=true:=by simp;omega
  have Hc:=zH (gQ a.keys.length b.keys.length);clear zl ho hcm;generalize bY (a.keys.length:Int) (b.keys.length:Int)=c at*
  go_wp2_with(go_at_call 103;refine(Hc.o _).mono ?_;rintro e w2 ⟨rfl,rfl⟩);go_ret;rw[Heq2.o];exact⟨rfl,Hb2.o⟩
 have ho:bY (a.keys.length:Int) (b.keys.length:Int)=0:=by rw[zl];unfold bY;simp
 have Hcm:=zH (show cr bN a.keys b.keys=ec bN a.keys b.keys from lF ho);have d3:((a.keys.length:Int)!=(b.keys.length:Int))=false:=by simp[zl]
 have Hle:=zH zl;clear ho zl;go_wp2;clear f0 f1 f2 f3 f4 f5 f6 g0 g1 g2 g3 g4 g5 g6;go_loopw[5] (fun i wr=>∃k:Nat,i=GX GZ k/\k<=a.keys.length/\(∀j (h1:j<a.keys.length) (h2:j<b.keys.length),j<k->bN a.keys[j] b.keys[j]=0)/\Below w2.heap.size w2 wr) (fun i _=>a.keys.length-(intOf i).toNat)
 case atStart=>exact⟨0,rfl,by omega,fun j _ _ h=>by omega,Below.refl _ _⟩
 case round=>
  obtain⟨k,rfl,hk,hall,hb⟩:=hrel;have Hall:=zH hall;have Hr:=zH hb;have Hb:=zH (Hb2.o.step hb);have Hd:=zH (Hd2.o.step hb);clear hall hb;obtain⟨⟨f0,f1,f2,f3⟩,f4,f5,f6⟩:=aN ((Hd.o.block _ hlA).trans HbA.o);obtain⟨⟨g0,g1,g2,g3⟩,g4,g5,g6⟩:=aN ((Hd.o.block _ hlB).trans HbB.o);by_cases hka:k<a.keys.length
  ·have hkb:k<b.keys.length:=by have:=Hle.o;omega
   obtain⟨py,cy,ey,hry⟩:=HKa.o.below Hb.o;injection ey with ey1 _ ey3
   subst ey1 ey3;obtain⟨ay,oy,rfl,haby,y0,y1⟩:=hry.key hka;clear hry;obtain⟨pz,cz,ez,hrz⟩:=HKb.o.below Hb.o;injection ez with ez1 _ ez3
   subst ez1 ez3;obtain⟨az,oz,rfl,habz,z0,z1⟩:=hrz.key hkb;clear hrz;have Hcall:=zH (jl a.keys[k] b.keys[k] wr.drew);have Hat:=zH (kG (f:=bN) hka hkb Hall.o);have Hnx:=zH (show bN a.keys[k] b.keys[k]=0->∀j (h1:j<a.keys.length) (h2:j<b.keys.length),j<k+1->bN a.keys[j] b.keys[j]=0 from fun g j h h2 hjk=>by
    rcases IP.1 hjk with g2|rfl
    ·exact Hall.o j h h2 g2
    ·exact g)
   generalize a.keys[k]=X at*
   generalize b.keys[k]=Y at*
   by_cases hz:bN X Y=0
   ·have Hnx2:=zH (Hnx.o hz);rw[hz]at Hcall;clear hz;go_wp2_with(first
     |(with_reducible refine rg ?_)
     |(with_reducible refine fo ?_)
     |(go_at_call 98;go_loud(refine Hcall.o.mono ?_);rintro e w6 ⟨rfl,q⟩;have Hb6:=zH (Hb.o.drew.step q);have Hr6:=zH (Hr.o.drew.step q);clear q))
    exact⟨⟨k+1,by go_num,by omega,Hnx2.o,Hr6.o⟩,by simp[intOf];omega⟩
   ·have Hres:=zH (show bH a b=bN X Y by rw[Heq2x.o,jV (by rw[Hcm.o,Hat.o hz];exact hz),Hcm.o,Hat.o hz]);have d9:(bN X Y !=0)=true:=by simpa using hz
    clear hz;generalize bN X Y=c at*
    go_wp2_with(first
     |(with_reducible refine rg ?_)
     |(with_reducible refine fo ?_)
     |(go_at_call 98;go_loud(refine Hcall.o.mono ?_);rintro e w6 ⟨rfl,q⟩;have Hb6:=zH (Hb.o.drew.step q);have Hr6:=zH (Hr.o.drew.step q);clear q))
    go_ret;rw[Hres.o];exact⟨rfl,Hb6.o⟩
  ·obtain rfl:k=a.keys.length:=by omega
   have hcm0:=Hcm.o.trans (iW (f:=bN) fun j h h2=>Hall.o j h h2 h);have Heq3x:=zH (show bH a b=nz (cr bH a.kids b.kids) (nz (cr cmpE a.ents b.ents) (cr bD a.labels b.labels))by rw[Heq2x.o,lF hcm0]);clear hcm0 Hcm Hle;have Hkids:=zH (nM a.kids b.kids wr _ _ (HVa.o.below Hb.o) (HVb.o.below Hb.o) Hcv.o);by_cases z4:cr bH a.kids b.kids=0;rotate_left
   ·have Heq2:=zH (show bH a b=cr bH a.kids b.kids by rw[Heq3x.o,jV z4]);have d4:(cr bH a.kids b.kids !=0)=true:=by simpa using z4
    clear z4;generalize cr bH a.kids b.kids=c at*
    go_wp2_with(go_at_call 106;refine Hkids.o.mono ?_;rintro e w6 ⟨rfl,q⟩;have Hb6:=zH (Hb.o.step q);clear q);go_ret;rw[Heq2.o];exact⟨rfl,Hb6.o⟩
   have Heq4x:=zH (show bH a b=nz (cr cmpE a.ents b.ents) (cr bD a.labels b.labels)by rw[Heq3x.o,lF z4]);rw[z4]at Hkids;clear z4;by_cases zl:a.ents.length=b.ents.length;rotate_left
   ·have ho:bY (a.ents.length:Int) (b.ents.length:Int)≠0:=fun h=>zl (by have:=eh h;omega)
    have hcm:cr cmpE a.ents b.ents=bY (a.ents.length:Int) (b.ents.length:Int):=jV ho;have Heq2:=zH (show bH a b=bY (a.ents.length:Int) (b.ents.length:Int)by rw[Heq4x.o,jV (by rw[hcm];exact ho),hcm]);have d5:((a.ents.length:Int)!=(b.ents.length:Int))=true:=by simp;omega
    have Hc:=zH (gQ a.ents.length b.ents.length);clear zl ho hcm;generalize bY (a.ents.length:Int) (b.ents.length:Int)=c at*
    go_wp2_with(first
     |(go_at_call 106;refine Hkids.o.mono ?_;rintro e w5 ⟨rfl,q⟩;have Hb5:=zH (Hb.o.step q);have Hd5:=zH (Hd.o.step q);clear q;clear f0 f1 f2 f3 f4 f5 f6 g0 g1 g2 g3 g4 g5 g6;obtain⟨⟨f0,f1,f2,f3⟩,f4,f5,f6⟩:=aN ((Hd5.o.block _ hlA).trans HbA.o);obtain⟨⟨g0,g1,g2,g3⟩,g4,g5,g6⟩:=aN ((Hd5.o.block _ hlB).trans HbB.o))
     |(go_at_call 103;refine(Hc.o _).mono ?_;rintro e w5 ⟨rfl,rfl⟩))
    go_ret;rw[Heq2.o];exact⟨rfl,Hb5.o⟩
   have ho:bY (a.ents.length:Int) (b.ents.length:Int)=0:=by rw[zl];unfold bY;simp
   have Hcm:=zH (show cr cmpE a.ents b.ents=ec cmpE a.ents b.ents from lF ho);have d5:((a.ents.length:Int)!=(b.ents.length:Int))=false:=by simp[zl]
   have Hle:=zH zl;clear ho zl;go_wp2_with(go_at_call 106;refine Hkids.o.mono ?_;rintro e w5 ⟨rfl,q⟩;have Hb5:=zH (Hb.o.step q);have Hd5:=zH (Hd.o.step q);clear q;clear f0 f1 f2 f3 f4 f5 f6 g0 g1 g2 g3 g4 g5 g6;obtain⟨⟨f0,f1,f2,f3⟩,f4,f5,f6⟩:=aN ((Hd5.o.block _ hlA).trans HbA.o);obtain⟨⟨g0,g1,g2,g3⟩,g4,g5,g6⟩:=aN ((Hd5.o.block _ hlB).trans HbB.o));clear f0 f1 f2 f3 f4 f5 f6 g0 g1 g2 g3 g4 g5 g6;go_loopw[8] (fun i wr=>∃k:Nat,i=GX GZ k/\k<=a.ents.length/\(∀j (h1:j<a.ents.length) (h2:j<b.ents.length),j<k->cmpE a.ents[j] b.ents[j]=0)/\Below w5.heap.size w5 wr) (fun i _=>a.ents.length-(intOf i).toNat)
   case atStart=>exact⟨0,rfl,by omega,fun j _ _ h=>by omega,Below.refl _ _⟩
   case round=>
    obtain⟨k,rfl,hk,hall,hb⟩:=hrel;have Hall:=zH hall;have Hr:=zH hb;have Hb:=zH (Hb5.o.step hb);have Hd:=zH (Hd5.o.step hb);clear hall hb;obtain⟨⟨f0,f1,f2,f3⟩,f4,f5,f6⟩:=aN ((Hd.o.block _ hlA).trans HbA.o);obtain⟨⟨g0,g1,g2,g3⟩,g4,g5,g6⟩:=aN ((Hd.o.block _ hlB).trans HbB.o);by_cases hka:k<a.ents.length
    ·have hkb:k<b.ents.length:=by have:=Hle.o;omega
     obtain⟨dy,py,cy,ey,hry⟩:=HEa.o.below Hb.o;injection ey with ey1 _ ey3
     subst ey1 ey3;obtain⟨ay,oy,csy,rfl,haby,-,hrgy,hPy⟩:=hry.at hka;obtain⟨s1,s2,s3,s4,s5,s6,s7,s8,s9,sa,rfl⟩:=hPy.nine;have y0:=hrgy 0 _ rfl;have y1:=hrgy 1 _ rfl;have y2:=hrgy 2 _ rfl;have y3:=hrgy 3 _ rfl;have y4:=hrgy 4 _ rfl;have y5:=hrgy 5 _ rfl;have y6:=hrgy 6 _ rfl;have y7:=hrgy 7 _ rfl;have y8:=hrgy 8 _ rfl;rw[Im]at y0;have HPy:=zH hPy;clear hry hrgy hPy;obtain⟨dz,pz,cz,ez,hrz⟩:=HEb.o.below Hb.o;injection ez with ez1 _ ez3
     subst ez1 ez3;obtain⟨az,oz,csz,rfl,habz,-,hrgz,hPz⟩:=hrz.at hkb;obtain⟨t1,t2,t3,t4,t5,t6,t7,t8,t9,ta,rfl⟩:=hPz.nine;have z0:=hrgz 0 _ rfl;have z1:=hrgz 1 _ rfl;have z2:=hrgz 2 _ rfl;have z3:=hrgz 3 _ rfl;have z4:=hrgz 4 _ rfl;have z5:=hrgz 5 _ rfl;have z6:=hrgz 6 _ rfl;have z7:=hrgz 7 _ rfl;have z8:=hrgz 8 _ rfl;rw[Im]at z0;have HPz:=zH hPz;clear hrz hrgz hPz;have Hcall:=zH (Hce.o _ (Ip hka) _ (Ip hkb) wr.drew _ _ _ _ (HPy.o.below (Below.refl _ _).drew) (HPz.o.below (Below.refl _ _).drew));have Hat:=zH (kG (f:=cmpE) hka hkb Hall.o);have Hnx:=zH (show cmpE a.ents[k] b.ents[k]=0->∀j (h1:j<a.ents.length) (h2:j<b.ents.length),j<k+1->cmpE a.ents[j] b.ents[j]=0 from fun g j h h2 hjk=>by
      rcases IP.1 hjk with g2|rfl
      ·exact Hall.o j h h2 g2
      ·exact g)
     generalize a.ents[k]=X at*
     generalize b.ents[k]=Y at*
     by_cases hz:cmpE X Y=0
     ·have Hnx2:=zH (Hnx.o hz);rw[hz]at Hcall;clear hz;go_wp2_with(first
       |(with_reducible refine rg ?_)
       |(with_reducible refine fo ?_)
       |(go_at_call 78;go_loud(refine Hcall.o.mono ?_);rintro e w6 ⟨rfl,q⟩;have Hb6:=zH (Hb.o.drew.step q);have Hr6:=zH (Hr.o.drew.step q);clear q))
      exact⟨⟨k+1,by go_num,by omega,Hnx2.o,Hr6.o⟩,by simp[intOf];omega⟩
     ·have Hres:=zH (show bH a b=cmpE X Y by rw[Heq4x.o,jV (by rw[Hcm.o,Hat.o hz];exact hz),Hcm.o,Hat.o hz]);have d9:(cmpE X Y !=0)=true:=by simpa using hz
      clear hz;generalize cmpE X Y=c at*
      go_wp2_with(first
       |(with_reducible refine rg ?_)
       |(with_reducible refine fo ?_)
       |(go_at_call 78;go_loud(refine Hcall.o.mono ?_);rintro e w6 ⟨rfl,q⟩;have Hb6:=zH (Hb.o.drew.step q);have Hr6:=zH (Hr.o.drew.step q);clear q))
      go_ret;rw[Hres.o];exact⟨rfl,Hb6.o⟩
    ·obtain rfl:k=a.ents.length:=by omega
     have hcm0:=Hcm.o.trans (iW (f:=cmpE) fun j h h2=>Hall.o j h h2 h);have Heq5x:=zH (show bH a b=cr bD a.labels b.labels by rw[Heq4x.o,lF hcm0]);clear hcm0 Hcm Hle;have Hbq:=zH Hb.o;have Hdq:=zH Hd.o;clear Hb Hd;obtain⟨wq,hwq⟩:∃wq:World,wq=wr:=⟨_,rfl⟩
     subst hwq;by_cases zl:a.labels.length=b.labels.length;rotate_left
     ·have ho:bY (a.labels.length:Int) (b.labels.length:Int)≠0:=fun h=>zl (by have:=eh h;omega)
      have hcm:cr bD a.labels b.labels=bY (a.labels.length:Int) (b.labels.length:Int):=jV ho;have Heq2:=zH (show bH a b=bY (a.labels.length:Int) (b.labels.length:Int)by rw[Heq5x.o,hcm]);have d6:((a.labels.length:Int)!=(b.labels.length:Int))=true:=by simp;omega
      have Hc:=zH (gQ a.labels.length b.labels.length);clear zl ho hcm;generalize bY (a.labels.length:Int) (b.labels.length:Int)=c at*
      go_wp2_with(go_at_call 103;refine(Hc.o _).mono ?_;rintro e wq ⟨rfl,rfl⟩);go_ret;rw[Heq2.o];exact⟨rfl,Hbq.o⟩
     have ho:bY (a.labels.length:Int) (b.labels.length:Int)=0:=by rw[zl];unfold bY;simp
     have Hcm:=zH (show cr bD a.labels b.labels=ec bD a.labels b.labels from lF ho);have d6:((a.labels.length:Int)!=(b.labels.length:Int))=false:=by simp[zl]
     have Hle:=zH zl;clear ho zl;go_wp2;clear f0 f1 f2 f3 f4 f5 f6 g0 g1 g2 g3 g4 g5 g6;go_loopw[10] (fun i wr=>∃k:Nat,i=GX GZ k/\k<=a.labels.length/\(∀j (h1:j<a.labels.length) (h2:j<b.labels.length),j<k->bD a.labels[j] b.labels[j]=0)/\Below wq.heap.size wq wr) (fun i _=>a.labels.length-(intOf i).toNat)
     case atStart=>exact⟨0,rfl,by omega,fun j _ _ h=>by omega,Below.refl _ _⟩
     case round=>
      obtain⟨k,rfl,hk,hall,hb⟩:=hrel;have Hall:=zH hall;have Hr:=zH hb;have Hb:=zH (Hbq.o.step hb);have Hd:=zH (Hdq.o.step hb);clear hall hb;obtain⟨⟨f0,f1,f2,f3⟩,f4,f5,f6⟩:=aN ((Hd.o.block _ hlA).trans HbA.o);obtain⟨⟨g0,g1,g2,g3⟩,g4,g5,g6⟩:=aN ((Hd.o.block _ hlB).trans HbB.o);by_cases hka:k<a.labels.length
      ·have hkb:k<b.labels.length:=by have:=Hle.o;omega
       obtain⟨py,cy,ey,hry⟩:=HSa.o.below Hb.o;injection ey with ey1 _ ey3
       subst ey1 ey3;obtain⟨ay,oy,rfl,haby,y0⟩:=hry.str hka;clear hry;obtain⟨pz,cz,ez,hrz⟩:=HSb.o.below Hb.o;injection ez with ez1 _ ez3
       subst ez1 ez3;obtain⟨az,oz,rfl,habz,z0⟩:=hrz.str hkb;clear hrz;have Hcall:=zH (pE a.labels[k] b.labels[k] wr.drew);have Hat:=zH (kG (f:=bD) hka hkb Hall.o);have Hnx:=zH (show bD a.labels[k] b.labels[k]=0->∀j (h1:j<a.labels.length) (h2:j<b.labels.length),j<k+1->bD a.labels[j] b.labels[j]=0 from fun g j h h2 hjk=>by
        rcases IP.1 hjk with g2|rfl
        ·exact Hall.o j h h2 g2
        ·exact g)
       generalize a.labels[k]=X at*
       generalize b.labels[k]=Y at*
       by_cases hz:bD X Y=0
       ·have Hnx2:=zH (Hnx.o hz);rw[hz]at Hcall;clear hz;go_wp2_with(first
         |(with_reducible refine rg ?_)
         |(with_reducible refine fo ?_)
         |(go_at_call 105;go_loud(refine Hcall.o.mono ?_);rintro e w6 ⟨rfl,rfl⟩;have Hb6:=zH Hb.o.drew;have Hr6:=zH Hr.o.drew))
        exact⟨⟨k+1,by go_num,by omega,Hnx2.o,Hr6.o⟩,by simp[intOf];omega⟩
       ·have Hres:=zH (show bH a b=bD X Y by rw[Heq5x.o,Hcm.o,Hat.o hz]);have d9:(bD X Y !=0)=true:=by simpa using hz
        clear hz;generalize bD X Y=c at*
        go_wp2_with(first
         |(with_reducible refine rg ?_)
         |(with_reducible refine fo ?_)
         |(go_at_call 105;go_loud(refine Hcall.o.mono ?_);rintro e w6 ⟨rfl,rfl⟩;have Hb6:=zH Hb.o.drew;have Hr6:=zH Hr.o.drew))
        go_ret;rw[Hres.o];exact⟨rfl,Hb6.o⟩
      ·obtain rfl:k=a.labels.length:=by omega
       have hcm0:=Hcm.o.trans (iW (f:=bD) fun j h h2=>Hall.o j h h2 h);have Hres:=zH (show bH a b=0 by rw[Heq5x.o];exact hcm0);clear hcm0;go_wp2;go_ret;rw[Hres.o];exact⟨rfl,Hb.o⟩
theorem qJ:∀d (a:VV),a.ht<=d->∀b,uX a b:=by
 intro d
 induction d with
 |zero=>intro a h;have:=fx a;omega
 | succ d ih =>
   intro a hd b;exact pj a b (fun x hx y _=>ih x (by have:=fS hx;omega) y) fun x hx y _=>by
    have h1:=ip hx;exact i6 x y (fun z hz t _=>ih z (by have:=gF hz;omega) t) (ih _ (by have:=gG x;omega) _)
theorem fF(a b:VV):uX a b:=qJ a.ht a (G8 _) b
theorem dV(a b:EE):Ek a b:=i6 a b (fun x _ y _=>fF x y) (fF _ _)
end Go.Proofs.YtfpahmeploondaaGreatDoor
