/- Walks and plain facts for the law on type variables, for all values and types that the heap holds (texts C5 D1 D2 F1). -/
import Derived.Test.YtfpahmeploondaaGreatDoorR03
import Derived.Test.YtfpahmeploondaaGreatDoorR28
import Derived.Test.YtfpahmeploondaaGreatDoorR34
set_option linter.unusedVariables false
set_option linter.unusedSimpArgs false
set_option maxHeartbeats 64000000
open Option renaming none -> G0, some -> G5
open Bool renaming true -> G6, false -> G7
open Go.Value renaming slice -> GU, string -> GW, int -> GX
open Go.Obj renaming cells -> GY
open Go.IntKind renaming i64 -> GZ
open Go renaming heap_alloc_new -> HG
open Bool renaming true_and -> Jd
open Nat renaming le_refl -> G8
open Go.LexK renaming aq -> JQ
namespace Go.Proofs.YtfpahmeploondaaGreatDoor
open Go.RowKit Go.Ident
set_option maxRecDepth 100000
theorem GV.imp {P Q:VV->Prop}(h:∀V,P V->Q V){S:SD}{w w':World}{e:Ending}(k:GV P S w e w'):GV Q S w e w':=by
 obtain⟨v,V,h1,h2,h3,h4⟩:=k;exact⟨v,V,h1,h2,h _ h3,h4⟩
theorem eQ {T:Ty}{tv:Value}{N Lb:Nat}{S:SD}{k h:Int}{P:VV->Prop}(hP:∀V,P V->V.nodes<=N/\V.labels.length<=Lb)
 (hc:∀w,SRC S w->TB S T tv w->Calls Tryz.prog 33 #[.pointer (G5 ⟨S.b,0,G0⟩),tv,GX GZ k,GX GZ h] w (GV P S w)):NB T tv N Lb S k h:=
 fun w hS hT=>(hc w hS hT).mono fun _ _ g=>g.imp hP
def NN:Nat->Nat
 |0=>100
 |h+1=>1+6*NN h
theorem Az:∀h,100<=NN h
 |0=>G8 _
 |h+1=>by have:=Az h;rw[NN];omega
theorem vw {n:TN}(h:bj n=G6):(n.kind=12->n.kids.length=2)/\(n.kind=14->1<=n.kids.length)/\(n.kind=16->1<=n.kids.length)/\(n.kind=17->1<=n.kids.length):=by
 refine⟨fun e=>?_,fun e=>?_,fun e=>?_,fun e=>?_⟩<;>·unfold bj at h;simp[e]at h;omega
theorem yJ(T:Ty)(n:Nat)(hD:TD n T)(hn:n<=1000)(tv:Value)(S:SD)(H:Nat)(h:Int)(h1:1<=h)(hh:h<=1000)(hv:∀k,NV T tv (NN H) S k (h-1)):
 ∀(m:Nat) (k:Int),m<=1000->(n:Int)-k<=m->NB T tv (NN (H+1)) (1000+3*m) S k h:=by
 have hN:=Az H;have hs:NN (H+1)=1+6*NN H:=rfl;intro m
 induction m with
 | zero =>
   intro k _ hk;have hl:=hD.len;exact eQ (fun V hV=>⟨by have:=hV.1;omega,by rw[hV.2];simp⟩) fun w hS hT=>js T tv S k h (.inr (.inr (by omega))) w hS hT
 | succ m ih =>
   intro k hm hk;have hl:=hD.len;by_cases hc:k<0\/(T.nodes.length:Int)<=k
   ·exact eQ (fun V hV=>⟨by have:=hV.1;omega,by rw[hV.2];simp⟩) fun w hS hT=>js T tv S k h (.inr hc) w hS hT
   obtain⟨kn,rfl⟩:∃kn:Nat,k=(kn:Int):=⟨k.toNat,by omega⟩
   have hkn:kn<T.nodes.length:=by omega
   have hd:=hD.at' kn hkn;obtain⟨n0,hn0⟩:∃n0,T.nodes[kn]=n0:=⟨_,rfl⟩
   rw[hn0]at hd;obtain⟨k12,k14,k16,k17⟩:=vw hd.kind;have hkid:n0.bool=G6->∀k'∈n0.kids,NB T tv (NN (H+1)) (1000+3*m) S k' h:=fun hb k' hk'=>by
    have:=hd.later hb k' hk';exact ih k' (by omega) (by omega)
   have hin:∀k'∈n0.kids,0<=k'/\k'<(T.nodes.length:Int):=fun k' hk'=>by
    have:=hd.edges k' (by unfold bq;simp[hk']);omega
   have hk3:=hd.kids;by_cases ho:EU n0.kind=G6;rotate_left
   ·exact eQ (fun V hV=>⟨by have:=hV.1;omega,by have:=hV.2;omega⟩) fun w hS hT=>C2 T tv S kn h n0 h1 hh hkn hn0 ho w hS hT
   have hcase:n0.kind=3\/n0.kind=4\/n0.kind=5\/n0.kind=6\/n0.kind=7\/n0.kind=8\/n0.kind=9\/n0.kind=10\/n0.kind=12\/n0.kind=13\/n0.kind=14\/n0.kind=16\/n0.kind=17\/n0.kind=19:=by simpa[EU,or_assoc]using ho
   have hp:∀V:VV,V.nodes<=1/\V.labels=[]->V.nodes<=NN (H+1)/\V.labels.length<=1000+3*(m+1):=fun V hV=>⟨by have:=hV.1;omega,by rw[hV.2];simp⟩
   rcases hcase with e|e|e|e|e|e|e|e|e|e|e|e|e|e
   ·exact eQ hp fun w hS hT=>C9 T tv S kn h n0 h1 hh hkn hn0 e w hS hT
   ·exact eQ hp fun w hS hT=>jr T tv S kn h n0 h1 hh hkn hn0 (by simp[e]) w hS hT
   ·exact eQ hp fun w hS hT=>jr T tv S kn h n0 h1 hh hkn hn0 (by simp[e]) w hS hT
   ·exact eQ hp fun w hS hT=>jr T tv S kn h n0 h1 hh hkn hn0 (by simp[e]) w hS hT
   ·exact eQ hp fun w hS hT=>jr T tv S kn h n0 h1 hh hkn hn0 (by simp[e]) w hS hT
   ·exact eQ hp fun w hS hT=>jr T tv S kn h n0 h1 hh hkn hn0 (by simp[e]) w hS hT
   ·exact eQ hp fun w hS hT=>jr T tv S kn h n0 h1 hh hkn hn0 (by simp[e]) w hS hT
   ·exact eQ (fun V hV=>⟨by have:=hV.1;omega,by rw[hV.2];simp⟩) fun w hS hT=>At T tv S kn h n0 h1 hh hkn hn0 e (NN H) (by omega) hk3 hv w hS hT
   ·exact eQ (fun V hV=>⟨by have:=hV.1;omega,by rw[hV.2];simp⟩) fun w hS hT=>Au T tv S kn h n0 h1 hh hkn hn0 e (k12 e) (NN H) (by omega) hk3 hv w hS hT
   ·exact eQ (fun V hV=>⟨by have:=hV.1;omega,by rw[hV.2];simp⟩) fun w hS hT=>Aq T tv S kn h n0 h1 hh hkn hn0 e (NN H) (by omega) hd.fields hv w hS hT
   ·exact eQ (fun V hV=>⟨by have:=hV.1;omega,by rw[hV.2];simp⟩) fun w hS hT=>Ar T tv S kn h n0 h1 hh hkn hn0 e (NN H) (by omega) (n0.kids.length-1) (by have:=k14 e;omega) (by omega) hv w hS hT
   ·exact eQ (fun V hV=>⟨hV.1,by have:=hV.2;omega⟩) fun w hS hT=>As T tv S kn h n0 h1 hh hkn hn0 e (NN (H+1)) (1000+3*m) (k16 e) hk3 (hkid (by simp[TN.bool,e])) w hS hT
   ·exact eQ (fun V hV=>⟨hV.1,by have:=hV.2;omega⟩) fun w hS hT=>Ay T tv S kn h n0 h1 hh hkn hn0 e (NN (H+1)) (1000+3*m) (k17 e) hk3 (by omega) hin (hkid (by simp[TN.bool,e])) w hS hT
   ·exact eQ (fun V hV=>⟨by have:=hV.1;omega,by have:=hV.2;omega⟩) fun w hS hT=>Ax T tv S kn h n0 h1 hh hkn hn0 e w hS hT
theorem AA(T:Ty)(n:Nat)(hD:TD n T)(hn:n<=1000)(tv:Value)(S:SD):∀(H:Nat) (h:Int),h.toNat<=H->h<=1000->∀k,NV T tv (NN H) S k h:=by
 have hl:=hD.len;intro H
 induction H with
 | zero =>
   intro h h0 hh k;exact lO T tv (NN 0) 0 S k h (by decide) (eQ (fun V hV=>⟨by have:=hV.1;have:NN 0=100:=rfl;omega,by rw[hV.2];simp⟩) fun w hS hT=>js T tv S k h (.inl (by omega)) w hS hT)
 | succ H ih =>
   intro h h0 hh k;have hN:=Az (H+1);by_cases hc:h<=0\/k<0\/(T.nodes.length:Int)<=k
   ·exact lO T tv (NN (H+1)) 0 S k h (by omega) (eQ (fun V hV=>⟨by have:=hV.1;omega,by rw[hV.2];simp⟩) fun w hS hT=>js T tv S k h hc w hS hT)
   ·exact lO T tv (NN (H+1)) (1000+3*n) S k h (by omega) (yJ T n hD hn tv S H h (by omega) hh (ih (h-1) (by omega) (by omega)) n k (by omega) (by omega))
theorem kV {P:Program}{fn:Func}{p q:Tmp}{ty uy:TypeId}(h:fn.results= #[.cell p ty,.cell q uy])(tmps:Array Value)(w:World)(g:Nat)(t:TypeId)(cs:Array Value)(fr:Nat×Nat)(d:TypeDesc)
 (hp:tmps.getD p undef=.pointer (G5 ⟨g,0,G0⟩)) (hg:w.heap[g]? =G5 (.cells cs t fr))
 (hu:P.underlying ty=G5 d) (hd:(match d with| .struct _| .array _ _=>G6|_=>G7)=G6) (hi:(P.info? ty).map (·.size)=G5 cs.size)
 (g2:Nat) (t2:TypeId) (cs2:Array Value) (fr2:Nat×Nat) (d2:TypeDesc)
 (hp2:tmps.getD q undef=.pointer (G5 ⟨g2,0,G0⟩)) (hg2:w.heap[g2]? =G5 (.cells cs2 t2 fr2))
 (hu2:P.underlying uy=G5 d2) (hd2:(match d2 with| .struct _| .array _ _=>G6|_=>G7)=G6) (hi2:(P.info? uy).map (·.size)=G5 cs2.size):
 (results fn tmps).run P w=.ok (.tuple #[.agg cs,.agg cs2]) w:=by
 have hp':tmps[p]?.getD undef=.pointer (G5 ⟨g,0,G0⟩):=by simpa using hp
 have hq':tmps[q]?.getD undef=.pointer (G5 ⟨g2,0,G0⟩):=by simpa using hp2
 simp[results,h,hp',hq',asAddr,run_loadVar_row w g t ty cs fr d hg hu hd hi,run_loadVar_row w g2 t2 uy cs2 fr2 d2 hg2 hu2 hd2 hi2]
def TOB(B0 B:Nat)(w':World)(v:Value)(T:Ty):Prop:=∃p c xs,v=.agg #[GU p T.nodes.length c,GX GZ T.root]/\w'.ownsRow B0 61 8 (GU p T.nodes.length c) T.nodes.length xs/\(∀g,(GU p T.nodes.length c).ownBlock=G5 g->g<B)/\Ch 8 (NC (we (aE B0 (GU p T.nodes.length c) (GU G0 0 0)) w')) T.nodes xs
theorem TO.tob {B0:Nat}{w:World}{v:Value}{T:Ty}(h:TO B0 w v T):TOB B0 w.heap.size w v T:=by
 obtain⟨p,c,xs,h1,h2,h3⟩:=h;exact⟨p,c,xs,h1,h2,fun g hg=>(h2.lt g hg).2,h3⟩
theorem TOB.below {B0 B:Nat}{w w':World}{v:Value}{T:Ty}(h:TOB B0 B w v T)(hb:Below w.heap.size w w'):TOB B0 B w' v T:=by
 obtain⟨p,c,xs,h1,h2,h3,h4⟩:=h;exact⟨p,c,xs,h1,ao h2 hb (G8 _),h3,h4.mono fun x cs _ h=>h.below (by rw[ap];exact aS hb)⟩
theorem TOB.turn {B0 B:Nat}{S:SD}{w0 w1 w2:World}{v:Value}{T:Ty}(h:TOB B0 B w0 v T)(hb:Below w0.heap.size w0 w1)(hS:w0.heap.size<=S.b)(hB:B<=w0.heap.size)(hs:SR S w1 w2):TOB B0 B w2 v T:=by
 obtain⟨p,c,xs,h1,h2,h3,h4⟩:=h;have k2:=ao h2 hb (G8 _);refine⟨p,c,xs,h1,cF k2 fun g hg=>hs.block (k2.lt g hg).2 (by have:=h3 g hg;omega),h3,h4.mono fun x cs _ h=>?_⟩;have e1:=h.below (ew (x:=S.b) hb hS);have e2:=e1.below (by rw[ap];exact hs.we (E:=ex _ S.b) (by simp[ex]));exact e2.sub (mJ _ _ _)
theorem TS.turn {E:Nat->Bool}{S:SD}{w0 w1 w2:World}{v:Value}{T:Ty}(h:TS (we E w0) v T)(hb:Below w0.heap.size w0 w1)(hS:w0.heap.size<=S.b)(hs:SR S w1 w2):TS (we E w2) v T:=
 ((h.below (ew (x:=S.b) hb hS)).below (by rw[ap];exact hs.we (E:=ex _ S.b) (by simp[ex]))).sub (mJ _ _ _)
theorem TB.of_new {E:Nat->Bool}{S:SD}{w0 w1:World}{v:Value}{T:Ty}(h:TS (we E w0) v T)(hb:Below w0.heap.size w0 w1)(hS:w0.heap.size<=S.b):TB S T v w1:=
 (h.below (ew (x:=S.b) hb hS)).sub (cw _ fun k hk=>by simp only[beq_iff_eq]at hk;simp[ex,hk])
theorem TOB.row {B0 B x:Nat}{w:World}{v:Value}{T:Ty}(h:TOB B0 B w v T)(hx:x<B0)(cs:Array Value):TOB B0 B (w.setRow x cs) v T:=by
 obtain⟨p,c,xs,h1,h2,h3,h4⟩:=h;exact⟨p,c,xs,h1,cF h2 fun g hg=>setRow_other _ _ _ _ (by have:=(h2.lt g hg).1;omega),h3,h4.mono fun x cs _ h=>h.below (by rw[ap];exact eN (du hx) _)⟩
theorem TOB.low {B0 B0' B:Nat}{w:World}{v:Value}{T:Ty}(h:TOB B0 B w v T)(hB:B0'<=B0):TOB B0' B w v T:=by
 obtain⟨p,c,xs,h1,h2,h3,h4⟩:=h;refine⟨p,c,xs,h1,qW h2 hB,h3,h4.mono fun x cs _ h=>h.sub (cw _ fun k hk=>?_)⟩;simp only[aE,Bool.or_eq_true,decide_eq_true_eq]at hk ⊢;rcases hk with hk|hk
 ·exact .inl (by omega)
 ·exact .inr hk
theorem TOB.wide {B0 B B':Nat}{w:World}{v:Value}{T:Ty}(h:TOB B0 B w v T)(hB:B<=B'):TOB B0 B' w v T:=by
 obtain⟨p,c,xs,h1,h2,h3,h4⟩:=h;exact⟨p,c,xs,h1,h2,fun g hg=>Nat.lt_of_lt_of_le (h3 g hg) hB,h4⟩
theorem jt {B b:Nat}{w w':World}(h:Below B w w')(hb:B<=b)(cs:Array Value):Below B w (w'.setRow b cs):=
 ⟨h.os,h.tape,h.output,by rw[size_setRow];exact h.size,fun i hi=>by rw[setRow_other _ _ _ _ (by omega)];exact h.block i hi⟩
theorem AB {E:Nat->Bool}{x:Nat}{w:World}{v:Value}{T:Ty}(h:TS (we E w) v T)(hx:E x=G6)(cs:Array Value):TS (we E (w.setRow x cs)) v T:=h.below (by rw[ap];exact eN hx cs)
theorem AC {E:Nat->Bool}{x d:Nat}{w:World}{V:VV}{l:List Value}(h:VS (we E w) d V l)(hx:E x=G6)(cs:Array Value):VS (we E (w.setRow x cs)) d V l:=h.below (by rw[ap];exact eN hx cs)
theorem xb {b:Nat}{p:Option Addr}{c:Nat}{L:List Int}{w w1:World}(h:IS w (GU p L.length c) L)(hb:Below w.heap.size w w1)(hwb:w.heap.size<=b)(hc:w1.heap[b]? =G5 (GY #[GU p L.length c,GX GZ 0] 51))(hl:L.length<=1000):SRC ⟨b,p,c,L⟩ w1:=
 ⟨⟨0,by simp,hc⟩,h.below (hb.trans (zO hwb|>.mono (G8 _))),hl⟩
def DRW(w:World)(e:Ending)(w':World):Prop:=∃tv T v V n B,e=.returned (.tuple #[tv,v])/\TS (we (lo w.heap.size) w') tv T/\TOB w.heap.size B w' tv T/\TD n T/\1<=n/\n<=7/\VW (we (lo B) w') v V/\V.valid=G6/\V.nodes<=NN 4/\w.heap.size<=B/\Below w.heap.size w w'
theorem pZ(p q:Option Addr)(c d:Nat)(L M:List Int)(w:World)(hL:IS w (GU p L.length c) L)(hM:IS w (GU q M.length d) M)(hl:L.length<=1000)(hm:M.length<=1000):Calls Tryz.prog 6 #[GU p L.length c,GU q M.length d] w (DRW w):=by
 obtain⟨w2,e9,hA,hC,hb⟩:=bE w (GY #[GU G0 0 0,GX GZ 0] 27) (GY #[GX GZ 0,GX GZ 0,GW ⟨#[]⟩,GU G0 0 0,GU G0 0 0,GU G0 0 0,GU G0 0 0] 33);have hs2:w2.heap.size=w.heap.size+2:=by rw[<-e9];simp
 have HL:=zH hL;have HM:=zH hM;have HA:=zH hA;have HC:=zH hC;have Hb:=zH hb;have Hs2:=zH hs2;clear hL hM hA hC hb hs2;have hB3:=HG w2 (GY #[GU p L.length c,GX GZ 0] 51);have hb3:Below w2.heap.size w2 (w2.alloc (GY #[GU p L.length c,GX GZ 0] 51)):=(Below.refl _ _).alloc (G8 _) _;go_enter Tryz.func6,Tryz.ntmps6;go_upto_region 1 with fail
 try rw[e9]
 clear e9;go_upto_region 2 with fail
 generalize w2.alloc (GY #[GU p L.length c,GX GZ 0] 51)=w3 at*
 have HS3:=zH (SR.refl (xb HL.o (Hb.o.trans (hb3.mono Hb.o.size)) Hb.o.size hB3 hl));have HA3:=zH ((hb3.block _ (ai HA.o)).trans HA.o);have HC3:=zH ((hb3.block _ (ai HC.o)).trans HC.o);have Hb3:=zH (Hb.o.trans (hb3.mono Hb.o.size));have hlt3:=ai hB3;clear hB3 hb3;have hbs:w.heap.size+2<=w2.heap.size:=Nat.le_of_eq Hs2.o.symm;go_upto_region 3 with(first
  |(go_at_call 14;refine(aU ⟨w2.heap.size,p,c,L⟩ 7 w3 HS3.o.src (by omega)).mono ?_;rintro e w4 ⟨x,rfl,hs,h0,h1,-⟩;have h1:=h1 (by decide);obtain⟨n',hn'⟩:∃n':Nat,(1:Int)+x=(n':Int):=⟨(1+x).toNat,by omega⟩;have H4:=zH hs;have hn1:1<=n':=(by omega);have hn7:n'<=7:=(by omega);clear hs h0 h1)
  |(go_at_call 13;refine(Ab ⟨w2.heap.size,p,c,L⟩ n' w4 H4.o.src hn1 (by omega)).mono ?_;rintro e w5 ⟨tv,T,rfl,ht,hd,hs,ho⟩;obtain⟨pT,cT,xs,rfl,ho,hch⟩:=ho;have HT:=zH ht;have HD:=zH hd;have H5:=zH (H4.o.trans hs);have HO:=zH (TO.tob (v:=.agg #[GU pT T.nodes.length cT,GX GZ T.root]) ⟨pT,cT,xs,rfl,ho,hch⟩);have Hw4:=zH (show w3.heap.size<=w4.heap.size from H4.o.size);clear ht hd hs ho hch hn'))
 have hB6:=HG w5 (GY #[GU pT T.nodes.length cT,GX GZ T.root] 27);have hb6:Below w5.heap.size w5 (w5.alloc (GY #[GU pT T.nodes.length cT,GX GZ T.root] 27)):=(Below.refl _ _).alloc (G8 _) _;generalize w5.alloc (GY #[GU pT T.nodes.length cT,GX GZ T.root] 27)=w6 at*
 have HB6:=zH hB6;have Hb6:=zH hb6;have hlt6:=ai hB6;have hsz5:w3.heap.size<=w5.heap.size:=H5.o.size;have Hb5:=zH (show Below w.heap.size w w5 from Hb3.o.trans (H5.o.old (B:=w.heap.size) (by show w.heap.size<=w2.heap.size;omega)));clear hB6 hb6;go_upto_region 4 with fail
 have hB7:=HG w6 (GY #[GU q M.length d,GX GZ 0] 51);have hb7:Below w6.heap.size w6 (w6.alloc (GY #[GU q M.length d,GX GZ 0] 51)):=(Below.refl _ _).alloc (G8 _) _;generalize w6.alloc (GY #[GU q M.length d,GX GZ 0] 51)=w7 at*
 have hsz6:w5.heap.size<=w6.heap.size:=Hb6.o.size;have HS7:=zH (SR.refl (xb HM.o (Hb5.o.trans ((Hb6.o.mono (by omega)).trans (hb7.mono (by omega)))) (by omega) hB7 hm));have H57:=zH (show Below w5.heap.size w5 w7 from Hb6.o.step hb7);have HB7:=zH ((hb7.block _ hlt6).trans HB6.o);have hlt7:=ai hB7;clear hB7 hb7;obtain⟨g0,g1⟩:=aM HB7.o;have hDl:=HD.o.len;have HDl:=zH hDl;clear hDl;generalize hbt:w5.heap.size=bt at*
 generalize hbr:w6.heap.size=br at*
 have Hbt:=zH hbt;have Hbr:=zH hbr;clear hbt hbr;go_upto_region 5 with(go_at_call 14;refine(aU ⟨br,q,d,M⟩ (T.nodes.length:Int) w7 HS7.o.src (by have:=HDl.o;omega)).mono ?_;rintro e w8 ⟨k,rfl,hs,-,-,-⟩;have H8:=zH hs;clear hs)
 have HB8:=zH ((H8.o.block (k:=bt) (by omega) (by show bt≠br;omega)).trans HB7.o);clear g0 g1;obtain⟨g0,g1⟩:=aM HB8.o;have Y7:=zH (show w8.drew.cell? ⟨bt,0,G0⟩=_ from g0);have hlt8:=ai HB8.o;have hTB:TB ⟨br,q,d,M⟩ T (.agg #[GU pT T.nodes.length cT,GX GZ T.root]) w7:=TB.of_new (S:=⟨br,q,d,M⟩) HT.o (by rw[Hbt.o];exact H57.o) (by rw[Hbt.o];show bt<=br;omega);have HTB:=zH (hTB.sr H8.o.drew);have HN:=zH (AA T n' HD.o (by omega) (.agg #[GU pT T.nodes.length cT,GX GZ T.root]) ⟨br,q,d,M⟩ 4 4 (by decide) (by decide) k w8.drew H8.o.drew.src HTB.o);have hsz8:w7.heap.size<=w8.heap.size:=H8.o.size;clear hTB;go_wp2_with(first
  |((with_reducible refine Lex.aP ?_);refine fE (by repeat first|exact LexK.aL|refine LexK.aG rfl ?_|refine LexK.aH (by decide+kernel) ?_|refine LexK.an rfl (Eq.refl _) Y7.o ?_) ?_)
  |((with_reducible refine Lex.aI ?_);refine gL (fun x=>x=bt) ?_)
  |(with_reducible first|refine qH ?_|refine LexK.aK ?_|refine LexK.aO ?_)
  |((with_reducible refine Lex.aX ?_);first|(refine JQ hex9.o ?_)|(refine JQ (LexK.Ext.alloc _ _) ?_)|(refine JQ (LexK.Ext.refl _) ?_))
  |(go_at_call 15;refine HN.o.mono ?_;rintro e w9 ⟨v9,X,rfl,hx,hq,hs⟩;obtain⟨dv,cs,rfl,hx⟩:=hx;obtain⟨x1,x2,x3,x4,x5,x6,x7,x8,rfl⟩:=hx.seven;have HX:=zH hx;have Hq:=zH hq;have hex9:=zH (iB hs (show bt≠br by omega) hlt8);have H9:=zH (H8.o.drew.trans hs);have HC9:=zH ((H9.o.block (k:=w.heap.size+1) (by omega) (by show w.heap.size+1≠br;omega)).trans ((H57.o.block _ (by omega)).trans ((H5.o.block (k:=w.heap.size+1) (by omega) (by show w.heap.size+1≠w2.heap.size;omega)).trans HC3.o)));have HA9:=zH ((H9.o.block (k:=w.heap.size) (by omega) (by show w.heap.size≠br;omega)).trans ((H57.o.block _ (by omega)).trans ((H5.o.block (k:=w.heap.size) (by omega) (by show w.heap.size≠w2.heap.size;omega)).trans HA3.o)));clear hx hq hs)
  |(with_reducible refine sR rfl 27 (.tmp 4) (.tmp 26) rfl rfl rfl HA9.o ?_)
  |(with_reducible refine wpList_store_row rfl 33 (.tmp 5) (.tmp 30) rfl _ _ rfl rfl _ _ ((setRow_other _ _ _ _ (by omega)).trans HC9.o) (by kernel_rfl) (by kernel_rfl) (by kernel_rfl) ?_))
 refine bodyPost_ret (kV rfl _ _ w.heap.size 27 _ (0,0) _ rfl ((setRow_other _ _ _ _ (by omega)).trans (sH HA9.o)) rfl rfl (by kernel_rfl) (w.heap.size+1) 33 _ (0,0) _ rfl (sH ((setRow_other _ _ _ _ (by omega)).trans HC9.o)) rfl rfl (by kernel_rfl)) rfl ?_;have hB0:w.heap.size+2<=w4.heap.size:=by have:=Hw4.o;omega
 have hT9:TS (we (lo (w.heap.size+2)) w9) (.agg #[GU pT T.nodes.length cT,GX GZ T.root]) T:=(HT.o.sub (bL w5 hB0)).turn (S:=⟨br,q,d,M⟩) (by rw[Hbt.o];exact H57.o) (by rw[Hbt.o];show bt<=br;omega) H9.o;have hO9:=(HO.o.low (B0':=w.heap.size+2) hB0).turn (S:=⟨br,q,d,M⟩) (by rw[Hbt.o];exact H57.o) (by rw[Hbt.o];show bt<=br;omega) (Nat.le_of_eq Hbt.o.symm) H9.o;have hE1:lo (w.heap.size+2) w.heap.size=true:=by simp[lo]
 have hE2:lo (w.heap.size+2) (w.heap.size+1)=true:=by simp[lo]
 have hE3:lo w8.drew.heap.size w.heap.size=true:=by simp only[lo,decide_eq_true_eq];show w.heap.size<w8.heap.size;omega
 have hE4:lo w8.drew.heap.size (w.heap.size+1)=true:=by simp only[lo,decide_eq_true_eq];show w.heap.size+1<w8.heap.size;omega
 refine⟨_,T,_,X,n',w8.heap.size,rfl,?_,((hO9.row (by omega) _).row (by omega) _).low (by omega)|>.wide (by first|omega|(rw[Hbt.o];omega)),HD.o,hn1,hn7,⟨dv,_,rfl,?_⟩,Hq.o.1,Hq.o.2,by omega,?_⟩
 ·exact TS.sub (bL _ (show w.heap.size<=w.heap.size+2 by omega)) (AB (AB hT9 hE1 _) hE2 _)
 ·exact AC (AC HX.o hE3 _) hE4 _
 ·have hb9:=Hb5.o.trans ((H57.o.mono (by omega)).trans (H9.o.old (B:=w.heap.size) (by show w.heap.size<=br;omega)));exact(jt hb9 (by omega) _|>fun h=>jt h (by omega) _)
theorem FU {T:Ty}(hr:T.has T.root=G6)(hn:∀(j:Nat) (h:j<T.nodes.length),bR T.nodes[j]=G6/\bj T.nodes[j]=G6/\∀k∈bq T.nodes[j],0<=k/\k<(T.nodes.length:Int)){rk:Nat->Nat}(hrk:RkT T rk):WfT T:=by
 refine⟨hr,fun x hx=>?_,rk,hrk⟩;obtain⟨j,hj,rfl⟩:=List.mem_iff_getElem.1 hx;obtain⟨h1,h2,h3⟩:=hn j hj;unfold bB;rw[h1,h2,Jd,Jd,List.all_eq_true];exact fun k hk=>has_iff.2 (h3 k hk)
theorem TD.rk {n:Nat}{T:Ty}(h:TD n T):RkT T fun i=>n-i:=by
 intro i hi hb k hk;have hl:=h.len;rw[T.node_at hi]at hb hk;have hd:=h.at' i hi;have h1:=hd.later hb k hk;have h2:=hd.edges k (by unfold bq;simp[hk]);show n-k.toNat<n-i;omega
theorem TD.wf {n:Nat}{T:Ty}(h:TD n T)(h1:1<=n):WfT T:=by
 have hl:=h.len;exact FU (by rw[h.root];exact has_iff.2 ⟨by omega,by unfold Ty.len;omega⟩) (fun j hj=>⟨(h.at' j hj).plain,(h.at' j hj).kind,fun k hk=>by have:=(h.at' j hj).edges k hk;omega⟩) h.rk
theorem vz {T:Ty}{V:VV}(hv:V.valid=G6)(h:WfT T){k:Int}(hk:T.has k=G6):mof T V k=mem T V k:=by rw[Ao hv h,hk,Jd]
end Go.Proofs.YtfpahmeploondaaGreatDoor
