/- Walks and plain facts for the law on type variables, for all values and types that the heap holds (texts Gf Tk). -/
import Derived.Test.YtfpahmeploondaaGreatDoorR03
import Derived.Test.YtfpahmeploondaaGreatDoorR19
import Derived.Test.YtfpahmeploondaaGreatDoorR35
import Derived.Test.YtfpahmeploondaaGreatDoorR37
import Derived.Test.YtfpahmeploondaaGreatDoorR38
import Derived.Test.YtfpahmeploondaaGreatDoorR48
import Derived.Test.YtfpahmeploondaaGreatDoorR49
import Derived.Test.YtfpahmeploondaaGreatDoorR50
import Derived.Test.YtfpahmeploondaaGreatDoorR51
set_option linter.unusedVariables false
set_option linter.unusedSimpArgs false
set_option maxHeartbeats 64000000
open Option renaming none -> G0, some -> G5
open Bool renaming true -> G6, false -> G7
open Go.Value renaming slice -> GU, string -> GW, int -> GX
open Go.Obj renaming cells -> GY
open Go.IntKind renaming i64 -> GZ
open Go renaming heap_alloc_new -> HG
open Nat renaming le_trans -> G9, le_refl -> G8
open Go.World renaming cell? -> Ic
open Go.LexK renaming Ext -> Hh, an -> JP, aq -> JQ
namespace Go.Ev
open Go.Proofs
set_option maxRecDepth 1000000
theorem xI:∀x∈mes0,gi Tryz.prog x:=fun x hx=>by cases hx
theorem xJ:∀x∈mes1,gi Tryz.prog x:=mes_cons (ran xI [] (by kernel_rfl) DH) xI
theorem xK:∀x∈mes2,gi Tryz.prog x:=mes_cons (ran xJ [] (by kernel_rfl) DI) xJ
theorem xL:∀x∈mes3,gi Tryz.prog x:=mes_cons (ran xK [] (by kernel_rfl) DJ) xK
theorem xM:∀x∈mes4,gi Tryz.prog x:=mes_cons (ran xL [] (by kernel_rfl) DK) xL
theorem xN:∀x∈mes5,gi Tryz.prog x:=mes_cons (ran xM [] (by kernel_rfl) DL) xM
theorem xO:∀x∈mes6,gi Tryz.prog x:=mes_cons (ran xN [] (by kernel_rfl) DO) xN
theorem xP:∀x∈mes7,gi Tryz.prog x:=mes_cons (ran xO [836,844,863,865,976,1021,1029,1048,1050,1108,1163,1179] (by kernel_rfl) DE) xO
theorem xQ:∀x∈mes8,gi Tryz.prog x:=mes_cons (ran xP [825,927,970,1019,1074,1090] (by kernel_rfl) DF) xP
theorem xR:∀x∈mes9,gi Tryz.prog x:=mes_cons (ran xQ [762,774] (by kernel_rfl) DP) xQ
theorem uw:∀x∈mes10,gi Tryz.prog x:=mes_cons (ran xR [1029,1131,1174,1223,1278,1294] (by kernel_rfl) DG) xR
theorem ux:∀x∈mes11,gi Tryz.prog x:=mes_cons (ran uw [1187,1289,1332,1381,1436,1452] (by kernel_rfl) Ca) uw
theorem uz:∀x∈mes12,gi Tryz.prog x:=mes_cons (ran ux [1094,1106] (by kernel_rfl) Cc) ux
theorem uA:∀x∈mes13,gi Tryz.prog x:=mes_cons (ran uz [1307,1409,1452,1501,1556,1572] (by kernel_rfl) Cb) uz
theorem Ce:∀x∈mes14,gi Tryz.prog x:=mes_cons (ran uA [] (by kernel_rfl) Cd) uA
def okB(b:Bool):R VH->Bool| .ok (.mk (.bool c) _)=>c==b|_=>G7
theorem zx:okB G6 (dN Tryz.prog (iN mes14 (ji 100000 200)) 100000 200 5 [] ⟨.nil,0⟩)=true:=by kernel_rfl
theorem Fu {b:Bool}{r:R VH}(h:okB b r=G6):∃g,r=.ok (.mk (.bool b) g):=by
 unfold okB at h;split at h
 ·rename_i c g;exact⟨g,by rw[show c=b by simpa using h]⟩
 ·cases h
theorem Cf(w:World)(args:Array Value):(callFunc 5 args).run Tryz.prog w=.ok (.enter 5 args) w:=by
 obtain⟨c,hc⟩:∃c,Tryz.f5.body=G5 c:=⟨_,rfl⟩
 have h1 : ¬ Tryz.f5.name = "runtime.NumGoroutine" := by decide
 simp[callFunc,program,Sem.run,Result.andThen,Tryz.func5,hc,h1,Sem.run_bind]
theorem mf(w:World):Calls Tryz.prog 5 #[] w fun e w'=>e=.returned (.bool G6)/\RowKit.Below w.heap.size w w':=by
 obtain⟨g,hg⟩:=Fu zx;have hH:HR (fun _=>G0) (⟨.nil,0⟩:H) w.heap:=⟨fun _ _=>rfl,fun i b e=>(by rw[fN]at e;cases e),fun i j b c x y e=>(by rw[fN]at e;cases e)⟩
 rcases ll fe B9 (rZ (xH 100000 200) Ce) 200 5 [] _ _ g hg (fun _=>G0) w [] hH .nil with⟨q,w',v,h1,_⟩|⟨f,args,h1,h2⟩
 ·rw[Cf]at h1;rcases h1 with h1|⟨h1,_⟩<;>cases h1
 ·rw[Cf]at h1;cases h1;refine h2.mono fun e w' ⟨q,v,k1,k2,k3,k4⟩=>⟨by rw[k1,k4.same rfl],k2.os,k2.tape,k2.output,k2.size,fun b hb=>k2.old b hb fun i c x e=>(by rw[fN]at e;cases e)⟩
end Go.Ev
namespace Go.Proofs.YtfpahmeploondaaGreatDoor
open Go.RowKit Go.Ident
set_option maxRecDepth 100000
theorem uB(U:Ty)(hU:SmT U):∀n (V:VV),V.ht<=n->Vld V->RL U V:=by
 intro n
 induction n with
 |zero=>intro V h;have:=fx V;omega
 |succ n ih=>intro V h hV;exact ro U hU V hV fun X hX hv=>ih X (by omega) hv
theorem TD.small {n:Nat}{T:Ty}(h:TD n T)(h1:1<=n)(h7:n<=7):SmT T:=
 ⟨h.wf h1, by show T.nodes.length ≤ _; have := h.len; omega, fun x hx => by
   obtain⟨j,hj,rfl⟩:=List.mem_iff_getElem.1 hx;have:=(h.at' j hj).kids;have:=(h.at' j hj).fields;omega⟩
theorem DQ {T U:Ty}{V:VV}(hT:SmT T)(hU:SmT U)(hV:V.valid=G6):mof (sbT T U) V (sbT T U).root=mof T (rlV (fun x=>mem U x U.root) V) T.root:=by
 have hX:=vi hT.wf hU.wf;rw[vz hV hX hX.root,vz (zW V.ht V (G8 _) hV) hT.wf hT.wf.root];obtain⟨h0,h1⟩:=has_iff.1 hT.wf.root;exact Es hT.wf hU.wf V.ht V (G8 _) T.root h0 h1
theorem DR(p q r:Option Addr)(c d f:Nat)(L N M:List Int)(w:World)(hL:IS w (GU p L.length c) L)(hN:IS w (GU q N.length d) N)(hM:IS w (GU r M.length f) M):
 Calls Tryz.prog 3 #[GU p L.length c,GU q N.length d,GU r M.length f] w fun e w'=>e=.returned (.bool G6)/\Below w.heap.size w w':=by
 have hA:=HG w (GY #[GU p L.length c,GU q N.length d] 22);have hb:Below w.heap.size w (w.alloc (GY #[GU p L.length c,GU q N.length d] 22)):=(Below.refl _ _).alloc (G8 _) _;have HL:=zH (hL.below hb);have HN:=zH (hN.below hb);have HM:=zH (hM.below hb);have HA:=zH hA;have Hb:=zH hb;clear hL hN hM hA hb;go_enter Tryz.func3,Tryz.ntmps3;cases hs:sh2 30 L.length N.length with
 | false =>
   go_wp2_with(first
    |(go_at_call 4;refine(j6 30 L.length N.length p q c d _ _ HA.o).mono ?_;rintro e w1 ⟨rfl,rfl⟩;rw[hs])
    |(go_at_call 5;refine(Ev.mf _).mono ?_;rintro e w2 ⟨rfl,hb2⟩;have Hb2:=zH (Hb.o.step hb2);clear hb2))
   go_ret;exact⟨rfl,Hb2.o⟩
 | true =>
   have hl30:L.length<=30/\N.length<=30:=by unfold sh2 at hs;simpa using hs
   by_cases hm:M.length<=60
   ·have d9:decide (60<M.length)=false:=by simp;omega
    go_upto_region 3 with(go_at_call 4;refine(j6 30 L.length N.length p q c d _ _ HA.o).mono ?_;rintro e w1 ⟨rfl,rfl⟩;rw[hs])
    have e1:∃w1,w.alloc (GY #[GU p L.length c,GU q N.length d] 22)=w1:=⟨_,rfl⟩
    obtain⟨w1,e1⟩:=e1;rw[e1]at HL HN HM Hb ⊢;clear HA e1;go_upto_region 4 with(go_at_call 6;refine(pZ p r c f L M w1 HL.o HM.o (by omega) (by omega)).mono ?_;rintro e w2 ⟨tv1,T,v1,V,n1,B1,rfl,ht,-,hd,h1,h7,hv,hvv,hvn,hB,hb⟩;obtain⟨pT,cT,rfl,-,-⟩:=id ht;obtain⟨d1,cs,rfl,hx⟩:=hv;obtain⟨x1,x2,x3,x4,x5,x6,x7,x8,rfl⟩:=hx.seven;have HT1:=zH (ht.sub (db _ _));have HV1:=zH (hx.sub (db _ _));have HS1:=zH (hd.small h1 h7);have HL1:=zH (show Vld V from⟨hvv,G9 hvn (by decide)⟩);have H2:=zH hb;clear ht hd h1 h7 hvv hvn hB hb hx)
    obtain⟨w3,e3,hT3,hV3,hb3⟩:=bE w2 (GY #[GU pT T.nodes.length cT,GX GZ T.root] 27) (GY #[GX GZ V.kind,GX GZ V.num,GW V.text,GU x1 V.kids.length x2,GU x3 V.keys.length x4,GU x5 V.ents.length x6,GU x7 V.labels.length x8] 33);have hs3:w3.heap.size=w2.heap.size+2:=by rw[<-e3];simp
    rw[e3];have G1:=zH hT3;have G2:=zH hV3;have H3:=zH (H2.o.step hb3);have HT1':=zH (HT1.o.below hb3);have HV1':=zH (HV1.o.below hb3);have Hz3:=zH hs3;have HN3:=zH (HN.o.below H3.o);clear e3 hT3 hV3 hb3 hs3 HT1 HV1 H2;go_upto_region 5 with(go_at_call 6;refine(pZ q G0 d 0 N [] w3 HN3.o (IS.nil _) (by omega) (by simp)).mono ?_;rintro e w4 ⟨tv2,U,v2,Y,n2,B2,rfl,ht,-,hd,h1,h7,hv,hvv,hvn,hB,hb⟩;obtain⟨pU,cU,rfl,-,-⟩:=id ht;obtain⟨d2,cs,rfl,hx⟩:=hv;obtain⟨y1,y2,y3,y4,y5,y6,y7,y8,rfl⟩:=hx.seven;have HT2:=zH (ht.sub (db _ _));have HV2:=zH (hx.sub (db _ _));have HS2:=zH (hd.small h1 h7);have HL2:=zH (show Vld Y from⟨hvv,G9 hvn (by decide)⟩);have H4:=zH hb;clear ht hd h1 h7 hvv hvn hB hb hx)
    obtain⟨w5,e5,hT5,hV5,hb5⟩:=bE w4 (GY #[GU pU U.nodes.length cU,GX GZ U.root] 27) (GY #[GX GZ Y.kind,GX GZ Y.num,GW Y.text,GU y1 Y.kids.length y2,GU y3 Y.keys.length y4,GU y5 Y.ents.length y6,GU y7 Y.labels.length y8] 33);rw[e5];have H5:=zH (H4.o.step hb5);have HT2':=zH (HT2.o.below hb5);have K1:=zH hT5;have Hz5:=zH (show w5.heap.size=w4.heap.size+2 by rw[<-e5];simp);have Hs4:=zH H4.o.size;clear e5 hV5 hb5 hT5 HT2 HV2 HL2 H4;have G3:=zH ((H5.o.block _ (ai G1.o)).trans G1.o);have G4:=zH ((H5.o.block _ (ai G2.o)).trans G2.o);have HT5:=zH (HT1'.o.below H5.o);have HV5:=zH (HV1'.o.below H5.o);have h45:w2.heap.size+2<=w4.heap.size:=by have:=Hz3.o;have:=Hs4.o;omega
    have Hb5:=zH (Hb.o.trans ((H3.o.mono Hb.o.size).trans (H5.o.mono (G9 Hb.o.size H3.o.size))));have hlt5:w4.heap.size+1<w5.heap.size:=by have:=Hz5.o;omega
    clear G1 G2 H3 HT1' HV1' HN3 H5 Hs4 Hz3 Hz5 HL HM HN Hb;obtain⟨⟨a0,a1⟩,b0,b1⟩:=And.intro (aM G3.o) (aM K1.o);generalize w2.heap.size=g1 at*
    generalize w4.heap.size=g2 at*
    have hL6:=HG w5 (GY #[GW ⟨#[65]⟩,GU pU U.nodes.length cU,GX GZ U.root] 38);have hb6:Below w5.heap.size w5 (w5.alloc (GY #[GW ⟨#[65]⟩,GU pU U.nodes.length cU,GX GZ U.root] 38)):=(Below.refl _ _).alloc (G8 _) _;obtain⟨w6,e6⟩:∃w6,w5.alloc (GY #[GW ⟨#[65]⟩,GU pU U.nodes.length cU,GX GZ U.root] 38)=w6:=⟨_,rfl⟩
    rw[e6]at hL6 hb6;have HBL:BL w6 w5.heap.size nA pU U.nodes.length cU U.root:=⟨ai hL6,by simp[Ic,hL6,nA],by simp[Ic,hL6],by simp[Ic,hL6]⟩
    have hsb:=yz T U w6 _ w5.heap.size pU cU (HT5.o.below hb6) (HT2'.o.below hb6) HBL HS1.o HS2.o;obtain⟨X,hX⟩:∃X,X=sbT T U:=⟨_,rfl⟩
    rw[<-hX]at hsb;have Hsb:=zH hsb;have HX:=zH hX;have Hb6:=zH hb6;clear hsb hX hb6 hL6 HBL;subst e6;go_upto_region 6 with(go_at_call 7;refine Hsb.o.mono ?_;rintro e w7 ⟨v7,rfl,hx,hb7⟩;obtain⟨pX,cX,rfl,-,-⟩:=id hx;have HX7:=zH hx;have Hb7:=zH (Hb6.o.trans (hb7.mono (by simp)));clear hx hb7)
    have K3:=HG w7 (GY #[GU pX X.nodes.length cX,GX GZ X.root] 27);have hb8:Below w7.heap.size w7 (w7.alloc (GY #[GU pX X.nodes.length cX,GX GZ X.root] 27)):=(Below.refl _ _).alloc (G8 _) _;have hs7:=Hb7.o.size;clear a0 a1 b0 b1;generalize w7.alloc (GY #[GU pX X.nodes.length cX,GX GZ X.root] 27)=w8 at*
    have Hb58:=zH (Hb7.o.trans (hb8.mono hs7));have h8:=hb8.size;have h3:=ai K3;have K1':=zH ((Hb58.o.block _ (ai K1.o)).trans K1.o);have G3':=zH ((Hb58.o.block _ (ai G3.o)).trans G3.o);have G4':=zH ((Hb58.o.block _ (ai G4.o)).trans G4.o);have HT8:=zH (HT5.o.below Hb58.o);have HV8:=zH (HV5.o.below Hb58.o);have HU8:=zH (HT2'.o.below Hb58.o);have HX8:=zH (HX7.o.below hb8);have Hb8:=zH (Hb5.o.trans (Hb58.o.mono Hb5.o.size));have K3':=zH K3;have hl1:g1+1<w8.heap.size:=ai G4'.o;have hl2:g2<w8.heap.size:=ai K1'.o;have hl0:g1<w8.heap.size:=ai G3'.o;obtain⟨c0,c1⟩:=aM K3;generalize w7.heap.size=g3 at*
    obtain⟨⟨⟨v0,v1,v2,v3⟩,v4,v5,v6⟩,⟨a0,a1⟩,b0,b1⟩:=And.intro (aN G4'.o) (And.intro (aM G3'.o) (aM K1'.o));clear K3 hb8 G3 G4 K1 HT5 HV5 HT2' HX7 Hb6 Hb7 Hb58 Hsb Hb5 hs7 h8;have Y0:=zH (show w8.drew.cell? ⟨g1+1,0,G0⟩=_ from v0);have Y1:=zH (show w8.drew.cell? ⟨g1,0,G0⟩=_ from a0);have Y2:=zH (show w8.drew.cell? ⟨g2,0,G0⟩=_ from b0);have Y3:=zH (show w8.drew.cell? ⟨g3,0,G0⟩=_ from c0);have hlaw:=DQ (V:=V) HS1.o HS2.o HL1.o.1;rw[<-HX.o]at hlaw;have hXz:SzT X:=by rw[HX.o];exact FR HS1.o HS2.o
    obtain⟨R,hR⟩:∃R,R=rlV (fun x=>mem U x U.root) V:=⟨_,rfl⟩
    rw[<-hR]at hlaw;have HR:=zH hR;obtain⟨b,hb⟩:∃b,mof T R T.root=b:=⟨_,rfl⟩
    have hC1:=gJ X V w8.drew _ _ ⟨d1,_,rfl,HV8.o.below (Below.refl _ _).drew⟩ (HX8.o.below (Below.refl _ _).drew) hXz;rw[hlaw,hb]at hC1;have HC1:=zH hC1;have HRb:=zH hb;clear hlaw hR hb hC1;have Hsub:=zH (fun wz:World=>(show Sub wz (we (fun _=>G7) wz)from⟨by rw[ap];exact G8 _,fun a o z hz=>(cell_at (cI rfl)).trans hz⟩));cases b<;>(
     go_wp2_with(first
      |((with_reducible refine Lex.aP ?_);refine fE (by repeat first|exact LexK.aL|refine LexK.aG rfl ?_|refine LexK.aH (by decide+kernel) ?_|refine JP rfl (by exact hl1) Y0.o ?_|refine JP rfl (by exact hl0) Y1.o ?_|refine JP rfl (by exact hl2) Y2.o ?_|refine JP rfl (by exact h3) Y3.o ?_) ?_)
      |((with_reducible refine Lex.aI ?_);refine gL (fun x=>x<w8.heap.size) ?_)
      |(with_reducible first|refine qH ?_|refine LexK.aK ?_|refine LexK.aO ?_)
      |((with_reducible refine Lex.aX ?_);first|(refine JQ hex9.o ?_)|(refine JQ hex10.o ?_)|(refine JQ hex11.o ?_)|(refine JQ hex12.o ?_))
      |(go_at_call 8;first
       |((with_reducible refine HC1.o.mono ?_);rintro e w9 ⟨rfl,hb9⟩;have hb9':=(Below.refl w8.heap.size w8).drew.trans hb9;have Hb9:=zH hb9';have hex9:=zH (show Hh (fun x=>x<w8.heap.size) w8.drew w9 from fb hb9);obtain⟨⟨v0,v1,v2,v3⟩,v4,v5,v6⟩:=aN ((hb9'.block _ hl1).trans G4'.o);obtain⟨b0,b1⟩:=aM ((hb9'.block _ hl2).trans K1'.o);clear hb9 hb9')
       |(refine(gJ T R w10 _ _ HVR.o (HT8.o.below Hb10.o) HS1.o.sz).mono ?_;rintro e w11 ⟨rfl,hb11⟩;rw[HRb.o];have Hb11:=zH (Hb10.o.trans (hb11.mono Hb10.o.size));have hex11:=zH (show Hh (fun x=>x<w8.heap.size) w10 w11 from fb (hb11.mono Hb10.o.size));clear hb11))
      |(go_at_call 9;refine(uB U HS2.o V.ht V (G8 _) HL1.o (fun _=>G7) w9 _ _ (fun _ _=>rfl) ((show VW w9 (.agg #[GX GZ V.kind,GX GZ V.num,GW V.text,GU x1 V.kids.length x2,GU x3 V.keys.length x4,GU x5 V.ents.length x6,GU x7 V.labels.length x8]) V from⟨d1,_,rfl,HV8.o.below Hb9.o⟩).sub (Hsub.o w9)) (HU8.o.below Hb9.o)).mono ?_;rintro e w10 ⟨v10,rfl,hv,hb10⟩;rw[<-HR.o]at hv;obtain⟨dr,cs,rfl,hx⟩:=hv;obtain⟨r1,r2,r3,r4,r5,r6,r7,r8,rfl⟩:=hx.seven;have HVR:=zH (show VW w10 _ R from⟨dr,_,rfl,hx.sub (db _ _)⟩);have Hb10:=zH (Hb9.o.trans (hb10.mono Hb9.o.size));have hex10:=zH (show Hh (fun x=>x<w8.heap.size) w9 w10 from fb (hb10.mono Hb9.o.size));obtain⟨a0,a1⟩:=aM ((Hb10.o.block _ hl0).trans G3'.o);clear hx hb10)
      |(go_at_call 5;refine(Ev.mf _).mono ?_;rintro e w12 ⟨rfl,hb12⟩;have Hb12:=zH (Hb11.o.trans (hb12.mono Hb11.o.size));have hex12:=zH (show Hh (fun x=>x<w8.heap.size) w11 w12 from fb (hb12.mono Hb11.o.size));clear hb12))
     go_ret;exact⟨rfl,Hb8.o.trans (Hb12.o.mono Hb8.o.size)⟩)
   ·have d9:decide (60<M.length)=true:=by simp;omega
    go_wp2_with(first
     |(go_at_call 4;refine(j6 30 L.length N.length p q c d _ _ HA.o).mono ?_;rintro e w1 ⟨rfl,rfl⟩;rw[hs])
     |(go_at_call 5;refine(Ev.mf _).mono ?_;rintro e w2 ⟨rfl,hb2⟩;have Hb2:=zH (Hb.o.step hb2);clear hb2))
    go_ret;exact⟨rfl,Hb2.o⟩
end Go.Proofs.YtfpahmeploondaaGreatDoor
