/- Walks and plain facts for the law on type variables, for all values and types that the heap holds (texts A7). -/
import Derived.Test.YtfpahmeploondaaGreatDoorR03
import Derived.Test.YtfpahmeploondaaGreatDoorR29
set_option linter.unusedVariables false
set_option linter.unusedSimpArgs false
set_option maxHeartbeats 64000000
open Option renaming none -> G0, some -> G5
open Bool renaming true -> G6, false -> G7
open Go.Value renaming slice -> GU, string -> GW, int -> GX
open Go.Obj renaming cells -> GY
open Go.IntKind renaming i64 -> GZ
open List renaming length_append -> Ii, mem_singleton -> I7, mem_append -> Ir, mem_cons -> Ix
open Go.World renaming ownsRow_nil -> Io, frozen? -> IB, cell? -> Ic
open Nat renaming le_max_right -> Jq, le_max_left -> Jr, le_trans -> G9, le_refl -> G8
open Go renaming heap_alloc_new -> HG
open Go.LexK.Ext renaming alloc -> IF, refl -> Is
open Go.LexK renaming an -> JP, aq -> JQ
namespace Go.Proofs.YtfpahmeploondaaGreatDoor
open Go.RowKit Go.Ident
set_option maxRecDepth 100000
theorem eW {S:SD}{w:World}{p:Option Addr}{c:Nat}{ks:List Int}{i:Nat}(h:IS (wo S.b w) (GU p ks.length c) ks)(hi:i<ks.length):
 ∃a o,p=G5 ⟨a,o,G0⟩/\a≠S.b/\a<w.heap.size/\∀w',SR S w w'->w'.cell? ⟨a,o+i,G0⟩=G5 (GX GZ ks[i]):=by
 obtain⟨p',c',e,h1,h2⟩:=h;injection e with e1 e2 e3
 subst e1;obtain⟨a,o,rfl,hl,hr⟩:=h2.2 (by omega);have hz:(ic ks)[i]? =G5 (GX GZ ks[i]):=by simp[ic,hi]
 have h0:=aJ (hr i _ hz);refine⟨a,o,rfl,by have:=h0.1;simpa using this,by rwa[bf]at hl,fun w' hs=>?_⟩;exact aF ((hs.bel.cell (p:=⟨a,o+i,G0⟩) hl).trans (hr i _ hz))
theorem pW {A:List VV}{r:VV}{N:Nat}(hA:∀x∈A,x.nodes<=N)(hl:A.length<=2)(hr:r.nodes<=N)(b:Bool):(EE.mk A b r).nodes<=3*N:=by
 have h1:=cN hA;have h2:=Nat.mul_le_mul_right N hl;rw[eD];cases b
 ·simp only[EE.parts,EE.args,EE.fails,EE.res,Bool.false_eq_true,if_false,List.map_append,List.sum_append,List.map_cons,List.map_nil,List.sum_cons,List.sum_nil];omega
 ·simp only[EE.parts,EE.args,EE.fails,if_true,List.append_nil];omega
theorem vr(n:Int)(l:List EE):(mkF n l).1.labels=[]:=by unfold mkF;split<;>rfl
theorem ri(T:Ty)(tv:Value)(N:Nat)(S:SD)(h:Int)(n:TN)(ns:List Value)(q:Nat)(hN:1<=N)(h1:1<=h)(hh:h<=1000)(hkl:n.kids.length=q+1)(hq2:q<=2)(hv:∀k,NV T tv N S k (h-1))(w:World)(hS:SRC S w)(hT:TB S T tv w)(hn:NC (wo S.b w) n ns):
 Calls Tryz.prog 63 #[.pointer (G5 ⟨S.b,0,G0⟩),tv,.agg ns.toArray,GX GZ h] w (GV (fun V=>V.nodes<=1+6*N/\V.labels=[]) S w):=by
 have HV:=zH hv;have Hkl:=zH hkl;have hka:1<=n.kids.length:=by omega
 have hkb:n.kids.length<=3:=by omega
 clear hkl;obtain⟨pT,cT,rfl,-,-⟩:=id hT;obtain⟨p1,c1,p2,c2,rfl,hK,-⟩:=hn;have hltS:=hS.lt;obtain⟨w2,e9,hA,hB,hC,hb,hs2⟩:=mK w (GY #[GU pT T.nodes.length cT,GX GZ T.root] 27) (GY #[GX GZ n.kind,GX GZ n.lo,GX GZ n.hi,GW n.text,GU p1 n.kids.length c1,GU p2 n.fields.length c2,GX GZ n.rest0,GX GZ n.rest1] 61) (GY #[GX GZ 0,GX GZ 0,GW ⟨#[]⟩,GU G0 0 0,GU G0 0 0,GU G0 0 0,GU G0 0 0] 33);have H2:=zH ((SR.refl hS).app hb);have Hb:=zH (show w.heap.size+2≠S.b by omega);have HEx:=zH (show lo (w.heap.size+3) (w.heap.size+2)=G6 by simp[lo]);have HEl:=zH (show∀k,k<w.heap.size->lo (w.heap.size+3) k=G6 from fun k hk=>by simp[lo];omega);have HT:=zH (hT.sr H2.o);have HK0:=zH (show IS (wo S.b w2) (GU p1 n.kids.length c1) n.kids from hK.below H2.o.bel);obtain⟨g0,g1⟩:=aM hA;obtain⟨⟨n0,n1,n2,n3⟩,n4,n5,n6,n7⟩:=aY hB;have HGt0:=zH g0;have HGt1:=zH g1;have HGn:=zH n4;have HO:=zH hC;clear hA hB hC hb hS hT hv hK g0 g1 n0 n1 n2 n3 n5 n6 n7;go_enter Tryz.func63,Tryz.ntmps63;go_upto_region 1 with fail
 try rw[e9]
 clear e9;go_upto_region 3 with fail
 rw[show(n.kids.length:Int)-1=(q:Int)by have:=Hkl.o;omega];clear n4;go_wp2_with(go_at_call 14;refine(aU S 3 w2 H2.o.src (by omega)).mono ?_;rintro e w3 ⟨y,rfl,hs,h0,h1,-⟩;have h1:=h1 (by decide);have H3:=zH hs;obtain⟨m0,rfl⟩:∃m:Nat,y=(m:Int):=⟨y.toNat,by omega⟩;have hm0:m0<=2:=(by omega);clear hs);go_loopw[11,9] (fun mv lv wr=>∃(m:Nat) (L:List EE) (xs:List Value) (dL:Nat),mv=GX GZ (m:Int)/\m+L.length<=2/\wr.ownsRow (w.heap.size+3) 68 9 lv L.length xs/\Ch 9 (ES (we (aE (w.heap.size+3) lv (GU G0 0 0)) wr) dL) L xs/\(∀x∈L,x.nodes<=3*N)/\SR S w2 wr) (fun mv _ _=>(intOf mv).toNat)
 case atStart=>exact⟨m0,[],[],0,rfl,by simpa using hm0,Io _ _ _ _,Ch.nil,fun x hx=>by simp at hx,H3.o⟩
 case round=>
  obtain⟨m,L,xs,dL,rfl,hmL,hoL,hcL,hNL,hsA⟩:=hrel;obtain⟨pl,cl,rfl⟩:=aB hoL;have HoL:=zH hoL;have HcL:=zH hcL;have HNL:=zH hNL;have HsA:=zH hsA;have hsza:(w.heap.size+3)<=wr.heap.size:=by have:=hsA.size;omega
  clear hoL hcL hNL hsA;obtain⟨wa,hwa⟩:∃wa:World,wa=wr:=⟨_,rfl⟩
  subst hwa;by_cases hm1:0<m
  ·have d9:decide (0<m)=true:=by simp[hm1]
   go_upto_region 7 with fail
   have hB3:=HG wa (GY #[GU G0 0 0,.bool G7,GX GZ 0,GX GZ 0,GW ⟨#[]⟩,GU G0 0 0,GU G0 0 0,GU G0 0 0,GU G0 0 0] 68);have hb3:Below wa.heap.size wa (wa.alloc (GY #[GU G0 0 0,.bool G7,GX GZ 0,GX GZ 0,GW ⟨#[]⟩,GU G0 0 0,GU G0 0 0,GU G0 0 0,GU G0 0 0] 68)):=(Below.refl _ _).alloc (G8 _) _;generalize wa.alloc (GY #[GU G0 0 0,.bool G7,GX GZ 0,GX GZ 0,GW ⟨#[]⟩,GU G0 0 0,GU G0 0 0,GU G0 0 0,GU G0 0 0] 68)=wc at*
   have HB3:=zH hB3;have H3c:=zH ((SR.refl HsA.o.src).step hb3);obtain⟨be,hbe⟩:∃be,be=wa.heap.size:=⟨_,rfl⟩
   have HbeS:=zH (show be≠S.b by omega);rw[<-hbe];rw[<-hbe]at hB3;have HB3:=zH hB3;have hbe1:(w.heap.size+3)<=be:=by omega
   have hbe2:wa.heap.size<=be:=by omega
   clear hB3 hb3 hbe;go_wp2;go_loopw[13] (fun iv wr=>∃(j:Nat) (A:List VV) (ys:List Value) (dA:Nat) (av:Value),iv=GX GZ (j:Int)/\j<=q/\A.length=j/\wr.heap[be]? =G5 (GY #[av,.bool G7,GX GZ 0,GX GZ 0,GW ⟨#[]⟩,GU G0 0 0,GU G0 0 0,GU G0 0 0,GU G0 0 0] 68)/\wr.ownsRow (be+1) 33 7 av A.length ys/\Ch 7 (VS (we (aE (be+1) av (GU G0 0 0)) wr) dA) A ys/\(∀x∈A,x.nodes<=N)/\SR S wa wr) (fun iv _=>((q:Int)-intOf iv).toNat)
   case atStart=>exact⟨0,[],[],0,GU G0 0 0,rfl,by omega,rfl,HB3.o,Io _ _ _ _,Ch.nil,fun x hx=>by simp at hx,H3c.o⟩
   case round=>
    obtain⟨j,A,ys,dA,av,rfl,hj,hAl,hBr,ho,hc,hN2,hsr⟩:=hrel;obtain⟨pa,ca,rfl⟩:=aB ho;have HBr:=zH hBr;have Ho:=zH ho;have Hc:=zH hc;have HN:=zH hN2;have Hsr:=zH hsr;have HAl:=zH hAl;have HsW:=zH (HsA.o.trans hsr);have hlBr:=ai hBr;have hsz3:be+1<=wr.heap.size:=hlBr;obtain⟨⟨f0,f1,f2,f3⟩,⟨f4,f5,f6,f7⟩,f8⟩:=cB hBr;have gn:wr.cell? ⟨w.heap.size+1,4,G0⟩=_:=bO HsW.o HGn.o (by omega) (by omega);have t0:wr.cell? ⟨w.heap.size,0,G0⟩=_:=bO HsW.o HGt0.o (by omega) (by omega);have t1:wr.cell? ⟨w.heap.size,1,G0⟩=_:=bO HsW.o HGt1.o (by omega) (by omega);have Yn:=zH (show wr.drew.cell? ⟨w.heap.size+1,4,G0⟩=_ from gn);have Yt:=zH (show wr.drew.cell? ⟨w.heap.size,0,G0⟩=_ from t0);have Ye:=zH (show wr.drew.cell? ⟨be,0,G0⟩=_ from f0);clear hBr ho hc hN2 hsr hAl;by_cases hjq:j<q
    ·have d10:decide (j<q)=true:=by simp[hjq]
     obtain⟨a,o,rfl,hab,hal,hcell⟩:=eW HK0.o (show j<n.kids.length by have:=Hkl.o;omega);have Hab:=zH hab;have hjk:j<n.kids.length:=by have:=Hkl.o;omega
     have djk:decide (j<n.kids.length)=true:=by simp[hjk]
     generalize n.kids[j]=kj at*
     have q0:=hcell _ HsW.o;have Yk:=zH (show wr.drew.cell? ⟨a,o+j,G0⟩=_ from q0);clear hcell hab;obtain⟨wq,hwq⟩:∃wq:World,wq=wr:=⟨_,rfl⟩
     subst hwq;go_wp2_with(first
      |((with_reducible refine Lex.aP ?_);refine fE (by repeat first|exact LexK.aL|refine LexK.aG rfl ?_|refine LexK.aH (by decide+kernel) ?_|refine JP rfl ⟨by omega,HbeS.o⟩ Ye.o ?_|refine JP rfl ⟨by omega,by omega⟩ Yt.o ?_|refine JP rfl ⟨by omega,by omega⟩ Yn.o ?_|refine JP rfl ⟨by omega,Hab.o⟩ Yk.o ?_) ?_)
      |((with_reducible refine Lex.aI ?_);refine gL (fun x=>x<be+1/\x≠S.b) ?_)
      |(with_reducible first|refine qH ?_|refine LexK.aK ?_|refine LexK.aO ?_)
      |((with_reducible refine Lex.aX ?_);first|(refine JQ hex7.o ?_)|(refine JQ hex8.o ?_)|(refine JQ (IF _ _) ?_)|(refine JQ (Is _) ?_))
      |(go_at_call 15;refine(HV.o _ wq.drew HsW.o.drew.src (HT.o.sr HsW.o.drew)).mono ?_;rintro e w7 ⟨v7,X,rfl,hx,hq,hs⟩;obtain⟨dv,cs,rfl,hx⟩:=hx;obtain⟨x1,x2,x3,x4,x5,x6,x7,x8,rfl⟩:=hx.seven;have HX:=zH hx;have Hq:=zH hq.2;have hex7:=zH (dW hs (by exact hsz3));have Hs7:=zH ((SR.refl Hsr.o.src).drew.trans hs);have HoK7:=zH (hs.owns (bI Ho.o) (by omega));have Hone:=zH hx.one;have hw7:be+1<=w7.heap.size:=(G9 hsz3 hs.size);clear hx hq hs)
      |(at_builtin;go_loud(refine aA rfl (.tmp 32) (.tmp 43) 28 rfl 33 (by kernel_rfl) cg rfl (by decide) (by decide) (be+1) _ w7.heap.size [GX GZ X.kind,GX GZ X.num,GW X.text,GU x1 X.kids.length x2,GU x3 X.keys.length x4,GU x5 X.ents.length x6,GU x7 X.labels.length x8] (HG w7 _) (G9 hw7 (by simp)) rfl Hone.o (GU pa A.length ca) A.length ys rfl (ao HoK7.o ((Below.refl _ _).alloc (G8 _) _) (G8 _)) (by have:=HAl.o;omega) rfl ?_);intro v8 w8 ho8 hf8;have hb8:=(hf8.below (G9 hw7 (by simp)) (by simp) fun g hg=>(HoK7.o.lt g hg).1);have hex8:=zH (show LexK.Ext (fun x=>x<be+1/\x≠S.b) (w7.alloc (GY #[GX GZ X.kind,GX GZ X.num,GW X.text,GU x1 X.kids.length x2,GU x3 X.keys.length x4,GU x5 X.ents.length x6,GU x7 X.labels.length x8] 33)) w8 from fH hb8);have Hb8:=zH (((Below.refl w7.heap.size w7).alloc (G8 _) (GY #[GX GZ X.kind,GX GZ X.num,GW X.text,GU x1 X.kids.length x2,GU x3 X.keys.length x4,GU x5 X.ents.length x6,GU x7 X.labels.length x8] 33)).mono hw7|>.trans hb8);obtain⟨p8,c8,rfl⟩:=aB ho8;have Ho8:=zH ho8;have hB8:=(Hb8.o.block be (by omega)).trans ((Hs7.o.block hlBr HbeS.o).trans HBr.o);have HU:=zH (Upd.set (i:=0) (v:=GU p8 (A.length+1) c8) (Upd.refl hB8));have hz0:w8.cell? ⟨be,0,G0⟩=G5 (GU pa A.length ca):=(by simp[Ic,hB8]);have hz1:w8.frozen? ⟨be,0,G0⟩=false:=(by simp[IB,hB8]);have Hf8:=zH hf8;clear ho8 hf8 hb8 hB8))
     have hB9:=HU.o.blk;have hcA:=gI Hc.o Hs7.o (by omega) HX.o (eO Ho.o (Io wq 0 0 0) hsz3) Hf8.o;refine⟨⟨j+1,A++[X],ys++[GX GZ X.kind,GX GZ X.num,GW X.text,GU x1 X.kids.length x2,GU x3 X.keys.length x4,GU x5 X.ents.length x6,GU x7 X.labels.length x8],max dA dv,GU p8 (A.length+1) c8,by first|rfl|(congr 1),by omega,by rw[Ii,HAl.o];rfl,by simpa using hB9,by rw[Ii];exact bC Ho8.o HU.o (by omega),?_,fun x hx=>?_,((Hsr.o.trans Hs7.o).app (Hb8.o.mono (by omega))).app (HU.o.below (by omega))⟩,by simp[intOf];omega⟩
     ·exact hcA.mono fun x cs _ h=>h.below (by rw[ap];exact bA HU.o (du (by omega)))
     ·rcases Ir.1 hx with hx|hx
      ·exact HN.o x hx
      ·rw[I7.1 hx];exact Hq.o
    ·have d10:decide (j<q)=false:=by simp;omega
     obtain rfl:j=q:=by omega
     have hA2:A.length<=2:=by have:=HAl.o;omega
     obtain⟨wq,hwq⟩:∃wq:World,wq=wr:=⟨_,rfl⟩
     subst hwq;go_upto_region 12 with(go_at_call 14;refine(aU S 6 wq Hsr.o.src (by omega)).mono ?_;rintro e w4 ⟨y,rfl,hs,h2,h3,-⟩;have h3:=h3 (by decide);have Hs4:=zH hs;clear hs;rcases(show y=1\/y≠1 by omega)with rfl|hy)
     ·have HB4:=zH ((Hs4.o.block hlBr HbeS.o).trans HBr.o);have hz0:w4.cell? ⟨be,1,G0⟩=G5 (.bool G7):=by simp[Ic,HB4.o]
      have hz1:w4.frozen? ⟨be,1,G0⟩=false:=by simp[IB,HB4.o]
      have HU:=zH (Upd.set (i:=1) (v:=.bool G6) (Upd.refl HB4.o));clear f0 f1 f2 f3 f4 f5 f6 f7 f8 gn t0 t1;go_upto_region 14 with fail
      have hB5:=HU.o.blk;have Ho5:=zH (bC (Hs4.o.owns Ho.o (by omega)) HU.o (by omega));have HcE:=zH (show Ch 7 (VS (we (lo (be+1)) (w4.setCell ⟨be,1,G0⟩ (.bool G6))) (max dA 1)) A ys from Hc.o.mono fun x cs _ h=>((((h.below (by rw[ap];exact Hs4.o.we (du (by omega)))).below (by rw[ap];exact bA HU.o (du (by omega)))).sub (eU _ _ _ _)).up (Jr _ _)));have H5:=zH ((Hsr.o.trans Hs4.o).app (HU.o.below (B:=wa.heap.size) (by omega)));have HoL5:=zH (H5.o.owns HoL.o (by omega));clear hz0 hz1;generalize w4.setCell ⟨be,1,G0⟩ (.bool G6)=w5 at*
      simp at hB5;obtain⟨⟨f0,f1,f2,f3⟩,⟨f4,f5,f6,f7⟩,f8⟩:=cB hB5;have hwa5:(w.heap.size+3)<=w5.heap.size:=G9 hsza H5.o.size;obtain⟨pz,cz,ez,hrw⟩:=bu (bJ Ho5.o (bh _)) HcE.o (by omega);injection ez with ez1 _ ez3
      subst ez1 ez3;have HXE:=zH (show ES (we (lo wa.heap.size) w5) (max dA 1) (.mk A G6 zeroV) [GU pa A.length ca,.bool G6,GX GZ 0,GX GZ 0,GW ⟨#[]⟩,GU G0 0 0,GU G0 0 0,GU G0 0 0,GU G0 0 0]from ES.sub (bL w5 (by omega)) ⟨pa,ca,_,rfl,hrw,(fU _).up (Jq _ _)⟩);have HoneE:=zH (show∀u∈[GU pa A.length ca,.bool G6,GX GZ 0,GX GZ 0,GW ⟨#[]⟩,GU G0 0 0,GU G0 0 0,GU G0 0 0,GU G0 0 0],u.oneCell'=G6 by intro u hu;simp only[Ix,List.not_mem_nil,or_false]at hu;rcases hu with rfl|rfl|rfl|rfl|rfl|rfl|rfl|rfl|rfl<;>rfl);have HnE:=zH (pW HN.o hA2 (show zeroV.nodes<=N from G9 (fp (n:=0)) (by omega)) G6);clear hrw hB5;generalize hdE:max dA 1=dE at*
      clear hdE;go_wp2_with(at_builtin;go_loud(refine aA rfl (.tmp 61) (.tmp 63) 30 rfl 68 (by kernel_rfl) cG rfl (by decide) (by decide) (w.heap.size+3) _ w5.heap.size [GU pa A.length ca,.bool G6,GX GZ 0,GX GZ 0,GW ⟨#[]⟩,GU G0 0 0,GU G0 0 0,GU G0 0 0,GU G0 0 0] (HG w5 _) (G9 hwa5 (by simp)) rfl HoneE.o (GU pl L.length cl) L.length xs rfl (ao HoL5.o ((Below.refl _ _).alloc (G8 _) _) (G8 _)) (by omega) rfl ?_);intro v9 w9 ho9 hf9;have Hf9:=zH hf9;have hb9:=(hf9.below (G9 hwa5 (by simp)) (by simp) fun g hg=>(HoL5.o.lt g hg).1);have Hb9:=zH (((Below.refl w5.heap.size w5).alloc (G8 _) (GY #[GU pa A.length ca,.bool G6,GX GZ 0,GX GZ 0,GW ⟨#[]⟩,GU G0 0 0,GU G0 0 0,GU G0 0 0,GU G0 0 0] 68)).mono hwa5|>.trans hb9);have Ho9:=zH ho9;clear ho9 hf9 hb9);have hcB:=qM HcL.o H5.o (by omega) HXE.o (eO HoL.o (Io wa 0 0 0) hsza) Hf9.o rfl;refine⟨⟨m-1,L++[.mk A G6 zeroV],xs++[GU pa A.length ca,.bool G6,GX GZ 0,GX GZ 0,GW ⟨#[]⟩,GU G0 0 0,GU G0 0 0,GU G0 0 0,GU G0 0 0],max dL dE,by first|rfl|(congr 1;omega)|(congr 1),by simp;omega,by rw[Ii];exact Ho9.o,hcB,fun x hx=>?_,(HsA.o.trans H5.o).app (Hb9.o.mono (by omega))⟩,by simp[intOf];omega⟩;rcases Ir.1 hx with hx|hx
      ·exact HNL.o x hx
      ·rw[I7.1 hx];exact HnE.o
     ·have dy:(y==1)=false:=by simp[hy]
      have hw4:be+1<=w4.heap.size:=G9 hsz3 Hs4.o.size;have HB4:=zH ((Hs4.o.block hlBr HbeS.o).trans HBr.o);clear f0 f1 f2 f3 f4 f5 f6 f7 f8 gn t0 t1;go_upto_region 13 with fail
      have HsW4:=zH (HsW.o.trans Hs4.o);have gn:w4.cell? ⟨w.heap.size+1,4,G0⟩=_:=bO HsW4.o HGn.o (by omega) (by omega);have t0:w4.cell? ⟨w.heap.size,0,G0⟩=_:=bO HsW4.o HGt0.o (by omega) (by omega);have t1:w4.cell? ⟨w.heap.size,1,G0⟩=_:=bO HsW4.o HGt1.o (by omega) (by omega);have Yn:=zH (show w4.drew.cell? ⟨w.heap.size+1,4,G0⟩=_ from gn);have Yt:=zH (show w4.drew.cell? ⟨w.heap.size,0,G0⟩=_ from t0);obtain⟨a,o,rfl,hab,hal,hcell⟩:=eW HK0.o (show j<n.kids.length by have:=Hkl.o;omega);have Hab:=zH hab;have hjk:j<n.kids.length:=by have:=Hkl.o;omega
      have djk:decide (j<n.kids.length)=true:=by simp[hjk]
      generalize n.kids[j]=kj at*
      have q0:=hcell _ HsW4.o;have Yk:=zH (show w4.drew.cell? ⟨a,o+j,G0⟩=_ from q0);clear hcell hab;go_upto_region 14 with(first
       |((with_reducible refine Lex.aP ?_);refine fE (by repeat first|exact LexK.aL|refine LexK.aG rfl ?_|refine LexK.aH (by decide+kernel) ?_|refine JP rfl ⟨by omega,by omega⟩ Yt.o ?_|refine JP rfl ⟨by omega,by omega⟩ Yn.o ?_|refine JP rfl ⟨by omega,Hab.o⟩ Yk.o ?_) ?_)
       |((with_reducible refine Lex.aI ?_);refine gL (fun x=>x<be+1/\x≠S.b) ?_)
       |(with_reducible first|refine qH ?_|refine LexK.aK ?_|refine LexK.aO ?_)
       |((with_reducible refine Lex.aX ?_);first|(refine JQ hex7.o ?_)|(refine JQ (IF _ _) ?_)|(refine JQ (Is _) ?_))
       |(go_at_call 15;refine(HV.o _ w4.drew HsW4.o.drew.src (HT.o.sr HsW4.o.drew)).mono ?_;rintro e w7 ⟨v7,X,rfl,hx,hq,hs⟩;obtain⟨dv,cs,rfl,hx⟩:=hx;obtain⟨x1,x2,x3,x4,x5,x6,x7,x8,rfl⟩:=hx.seven;have HX:=zH hx;have Hq:=zH hq.2;have hex7:=zH (dW hs (by exact hw4));have Hs7:=zH ((SR.refl Hs4.o.src).drew.trans hs);have hB7:=(Hs7.o.block (ai HB4.o) HbeS.o).trans HB4.o;have HB7:=zH hB7;have hz1:∀i,w7.frozen? ⟨be,i,G0⟩=false:=(fun i=>by simp[IB,hB7]);obtain⟨⟨f0,f1,f2,f3⟩,⟨f4,f5,f6,f7⟩,f8⟩:=cB hB7;clear hx hq hs hB7))
      have HU:=zH ((Upd.set (i:=8) (v:=(GU x7 X.labels.length x8)) (Upd.set (i:=7) (v:=(GU x5 X.ents.length x6)) (Upd.set (i:=6) (v:=(GU x3 X.keys.length x4)) (Upd.set (i:=5) (v:=(GU x1 X.kids.length x2)) (Upd.set (i:=4) (v:=(GW X.text)) (Upd.set (i:=3) (v:=(GX GZ X.num)) (Upd.set (i:=2) (v:=(GX GZ X.kind)) (Upd.refl HB7.o)))))))));have hB5:=HU.o.blk;have Ho5:=zH (bC ((Hs4.o.trans Hs7.o).owns Ho.o (by omega)) HU.o (by omega));have HcE:=zH (show Ch 7 (VS (we (lo (be+1)) (((((((w7.setCell ⟨be,2,G0⟩ (GX GZ X.kind)).setCell ⟨be,3,G0⟩ (GX GZ X.num)).setCell ⟨be,4,G0⟩ (GW X.text)).setCell ⟨be,5,G0⟩ (GU x1 X.kids.length x2)).setCell ⟨be,6,G0⟩ (GU x3 X.keys.length x4)).setCell ⟨be,7,G0⟩ (GU x5 X.ents.length x6)).setCell ⟨be,8,G0⟩ (GU x7 X.labels.length x8))) (max dA dv)) A ys from Hc.o.mono fun x cs _ h=>((((h.below (by rw[ap];exact(Hs4.o.trans Hs7.o).we (du (by omega)))).below (by rw[ap];exact bA HU.o (du (by omega)))).sub (eU _ _ _ _)).up (Jr _ _)));have HRE:=zH (show VS (we (lo (be+1)) (((((((w7.setCell ⟨be,2,G0⟩ (GX GZ X.kind)).setCell ⟨be,3,G0⟩ (GX GZ X.num)).setCell ⟨be,4,G0⟩ (GW X.text)).setCell ⟨be,5,G0⟩ (GU x1 X.kids.length x2)).setCell ⟨be,6,G0⟩ (GU x3 X.keys.length x4)).setCell ⟨be,7,G0⟩ (GU x5 X.ents.length x6)).setCell ⟨be,8,G0⟩ (GU x7 X.labels.length x8))) (max dA dv) X [GX GZ X.kind,GX GZ X.num,GW X.text,GU x1 X.kids.length x2,GU x3 X.keys.length x4,GU x5 X.ents.length x6,GU x7 X.labels.length x8]from((HX.o.sub (bL w7 (by exact hw4))).below (by rw[ap];exact bA HU.o (by simp[lo]))).up (Jq _ _));have H5:=zH ((Hsr.o.trans (Hs4.o.trans Hs7.o)).app (HU.o.below (B:=wa.heap.size) (by omega)));have HoL5:=zH (H5.o.owns HoL.o (by omega));clear hz1 f0 f1 f2 f3 f4 f5 f6 f7 f8 gn t0 t1 q0;generalize(((((((w7.setCell ⟨be,2,G0⟩ (GX GZ X.kind)).setCell ⟨be,3,G0⟩ (GX GZ X.num)).setCell ⟨be,4,G0⟩ (GW X.text)).setCell ⟨be,5,G0⟩ (GU x1 X.kids.length x2)).setCell ⟨be,6,G0⟩ (GU x3 X.keys.length x4)).setCell ⟨be,7,G0⟩ (GU x5 X.ents.length x6)).setCell ⟨be,8,G0⟩ (GU x7 X.labels.length x8))=w5 at*
      simp at hB5;obtain⟨⟨f0,f1,f2,f3⟩,⟨f4,f5,f6,f7⟩,f8⟩:=cB hB5;have hwa5:(w.heap.size+3)<=w5.heap.size:=G9 hsza H5.o.size;obtain⟨pz,cz,ez,hrw⟩:=bu (bJ Ho5.o (bh _)) HcE.o (by omega);injection ez with ez1 _ ez3
      subst ez1 ez3;have HXE:=zH (show ES (we (lo wa.heap.size) w5) (max dA dv) (.mk A G7 X) [GU pa A.length ca,.bool G7,GX GZ X.kind,GX GZ X.num,GW X.text,GU x1 X.kids.length x2,GU x3 X.keys.length x4,GU x5 X.ents.length x6,GU x7 X.labels.length x8]from ES.sub (bL w5 (by omega)) ⟨pa,ca,_,rfl,hrw,HRE.o⟩);have HoneE:=zH (show∀u∈[GU pa A.length ca,.bool G7,GX GZ X.kind,GX GZ X.num,GW X.text,GU x1 X.kids.length x2,GU x3 X.keys.length x4,GU x5 X.ents.length x6,GU x7 X.labels.length x8],u.oneCell'=G6 by intro u hu;simp only[Ix,List.not_mem_nil,or_false]at hu;rcases hu with rfl|rfl|rfl|rfl|rfl|rfl|rfl|rfl|rfl<;>rfl);have HnE:=zH (pW HN.o hA2 Hq.o G7);clear hrw hB5;generalize hdE:max dA dv=dE at*
      clear hdE;go_wp2_with(at_builtin;go_loud(refine aA rfl (.tmp 61) (.tmp 63) 30 rfl 68 (by kernel_rfl) cG rfl (by decide) (by decide) (w.heap.size+3) _ w5.heap.size [GU pa A.length ca,.bool G7,GX GZ X.kind,GX GZ X.num,GW X.text,GU x1 X.kids.length x2,GU x3 X.keys.length x4,GU x5 X.ents.length x6,GU x7 X.labels.length x8] (HG w5 _) (G9 hwa5 (by simp)) rfl HoneE.o (GU pl L.length cl) L.length xs rfl (ao HoL5.o ((Below.refl _ _).alloc (G8 _) _) (G8 _)) (by omega) rfl ?_);intro v9 w9 ho9 hf9;have Hf9:=zH hf9;have hb9:=(hf9.below (G9 hwa5 (by simp)) (by simp) fun g hg=>(HoL5.o.lt g hg).1);have Hb9:=zH (((Below.refl w5.heap.size w5).alloc (G8 _) (GY #[GU pa A.length ca,.bool G7,GX GZ X.kind,GX GZ X.num,GW X.text,GU x1 X.kids.length x2,GU x3 X.keys.length x4,GU x5 X.ents.length x6,GU x7 X.labels.length x8] 68)).mono hwa5|>.trans hb9);have Ho9:=zH ho9;clear ho9 hf9 hb9);have hcB:=qM HcL.o H5.o (by omega) HXE.o (eO HoL.o (Io wa 0 0 0) hsza) Hf9.o rfl;refine⟨⟨m-1,L++[.mk A G7 X],xs++[GU pa A.length ca,.bool G7,GX GZ X.kind,GX GZ X.num,GW X.text,GU x1 X.kids.length x2,GU x3 X.keys.length x4,GU x5 X.ents.length x6,GU x7 X.labels.length x8],max dL dE,by first|rfl|(congr 1;omega)|(congr 1),by simp;omega,by rw[Ii];exact Ho9.o,hcB,fun x hx=>?_,(HsA.o.trans H5.o).app (Hb9.o.mono (by omega))⟩,by simp[intOf];omega⟩;rcases Ir.1 hx with hx|hx
      ·exact HNL.o x hx
      ·rw[I7.1 hx];exact HnE.o
  ·have d9:decide (0<m)=false:=by simp;omega
   have HcE:=HcL.o.mono fun x cs _ h=>h.sub (eU _ _ _ _)
   obtain⟨pz,cz,ez,hrw⟩:=bu (bJ HoL.o (bh _)) HcE (by omega);have Hk:=zH (pK (lo (w.heap.size+3)) (q:Int) L wa (GU pl L.length cl) ((bh _).mono hsza) ⟨dL,pz,cz,ez,hrw⟩ (by omega));have HnF:=zH (show(mkF (q:Int) L).1.nodes<=1+2*(3*N)from pM HNL.o (by omega));have HlF:=zH (vr (q:Int) L);clear ez hrw HcE;generalize mkF (q:Int) L=F at*
   obtain⟨V,code⟩:=F;go_upto_region 16 with(go_at_call 21;refine Hk.o.mono ?_;rintro e wT ⟨vT,rfl,hx,-,hb⟩;obtain⟨dv,cs,rfl,hx⟩:=hx;obtain⟨t1,t2,t3,t4,t5,t6,t7,t8,rfl⟩:=hx.seven;have HXT:=zH hx;have HTT:=zH (HsA.o.step hb);have hwT:(w.heap.size+3)<=wT.heap.size:=G9 hsza hb.size;clear hx hb)
   have hBt:=HG wT (GY #[GX GZ V.kind,GX GZ V.num,GW V.text,GU t1 V.kids.length t2,GU t3 V.keys.length t4,GU t5 V.ents.length t6,GU t7 V.labels.length t8] 33);have hbt:Below wT.heap.size wT (wT.alloc (GY #[GX GZ V.kind,GX GZ V.num,GW V.text,GU t1 V.kids.length t2,GU t3 V.keys.length t4,GU t5 V.ents.length t6,GU t7 V.labels.length t8] 33)):=(Below.refl _ _).alloc (G8 _) _;generalize wT.alloc (GY #[GX GZ V.kind,GX GZ V.num,GW V.text,GU t1 V.kids.length t2,GU t3 V.keys.length t4,GU t5 V.ents.length t6,GU t7 V.labels.length t8] 33)=wU at*
   obtain⟨⟨f0,f1,f2,f3⟩,f4,f5,f6⟩:=aN hBt;have HU:=zH (HTT.o.step hbt);have HXU:=zH (gT hbt HXT.o);have hsU:(w.heap.size+3)<=wU.heap.size:=G9 hwT hbt.size;have HZU:=zH (HU.o.block (k:=w.heap.size+2) (by omega) (by omega));have ZU:=zH (HZU.o.trans HO.o);clear hBt hbt;by_cases hcode:code=0
   ·have d7:(code==0)=true:=by simp[hcode]
    clear hcode;go_wp2_with(with_reducible refine sR rfl 33 (.tmp 8) (.tmp 74) rfl rfl rfl ZU.o ?_);refine rB rfl (w.heap.size+2) 33 rfl (sH ZU.o) rfl rfl rfl ?_;exact⟨_,V,rfl,bZ ⟨dv,_,rfl,HXU.o⟩ HEx.o HEl.o _,⟨(by have h2:V.nodes<=1+2*(3*N):=HnF.o;omega),HlF.o⟩,(H2.o.trans HU.o).row (by omega) Hb.o _⟩
   ·have d7:(code==0)=false:=by simp[hcode]
    clear hcode f0 f1 f2 f3 f4 f5 f6;go_wp2_with(first
     |(go_at_call 61;refine(dP wU).mono ?_;rintro e wL ⟨rfl,hb⟩;have HL:=zH (HU.o.step hb);have ZL:=zH ((hb.block _ (ai ZU.o)).trans ZU.o);clear hb)
     |(with_reducible refine sR rfl 33 (.tmp 8) (.tmp 73) rfl rfl rfl ZL.o ?_))
    refine rB rfl (w.heap.size+2) 33 rfl (sH ZL.o) rfl rfl rfl ?_;exact⟨_,_,rfl,vw0 _ _ _ _,⟨(by show VV.nodes _<=_;simp[VV.nodes,nodesVs,nodesEs]),rfl⟩,(H2.o.trans HL.o).row (by omega) Hb.o _⟩
end Go.Proofs.YtfpahmeploondaaGreatDoor
