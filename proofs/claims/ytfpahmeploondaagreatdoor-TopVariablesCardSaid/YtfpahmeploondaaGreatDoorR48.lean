/- For every input TopVariables returns true and leaves its arguments as they were; the six listed variables are tied to the program (no other condition). -/
import Derived.Test.YtfpahmeploondaaGreatDoorRows
import Derived.ProofKit
import Derived.OpenShut
import Derived.JoinedOf
import Derived.Deep.Slices
import Derived.Deep.Fields
import Derived.ChangeSame
import Derived.ChangeShapes
import Derived.Test.YtfpahmeploondaaGreatDoorCards
import Derived.Test.YtfpahmeploondaaGreatDoorTie
import Derived.WalkKit
import Derived.ShutString
import Derived.Below
import Derived.ChangeOld
import Derived.LaidMore
import Derived.Stop.Joined
import Derived.SevenTiedAt
import Derived.Test.YtfpahmeploondaaGreatDoorR03
import Derived.Test.YtfpahmeploondaaGreatDoorR05
import Derived.Test.YtfpahmeploondaaGreatDoorR19
import Derived.Test.YtfpahmeploondaaGreatDoorR35
import Derived.Test.YtfpahmeploondaaGreatDoorR37
import Derived.Test.YtfpahmeploondaaGreatDoorR38
import Derived.Test.YtfpahmeploondaaGreatDoorR47
set_option linter.unusedVariables false
set_option linter.unusedSimpArgs false
set_option maxHeartbeats 64000000
open Option renaming none -> G0, some -> G5
open Bool renaming true -> G6, false -> G7
open Go.Value renaming slice -> GU, string -> GW, int -> GX
open Go.Obj renaming cells -> GY
open Go.IntKind renaming i64 -> GZ
open List renaming mem_iff_getElem -> IZ
open Option.some renaming inj -> Iq
open Go renaming heap_alloc_new -> HG
open Nat renaming le_trans -> G9, le_refl -> G8
open Go.World renaming cell? -> Ic
open Go.LexK renaming Ext -> Hh, an -> JP, aq -> JQ
namespace Go.Ev
open Go.Proofs
set_option maxRecDepth 1000000
theorem DE:me6.ran [836,844,863,865,976,1021,1029,1048,1050,1108,1163,1179] (dN Tryz.prog (iN mes6 (ji 100000 200)) 100000 200 me6.f me6.args me6.heap)=true:=by kernel_rfl
theorem Ca:me10.ran [1187,1289,1332,1381,1436,1452] (dN Tryz.prog (iN mes10 (ji 100000 200)) 100000 200 me10.f me10.args me10.heap)=true:=by kernel_rfl
theorem DF:me7.ran [825,927,970,1019,1074,1090] (dN Tryz.prog (iN mes7 (ji 100000 200)) 100000 200 me7.f me7.args me7.heap)=true:=by kernel_rfl
theorem Cb:me12.ran [1307,1409,1452,1501,1556,1572] (dN Tryz.prog (iN mes12 (ji 100000 200)) 100000 200 me12.f me12.args me12.heap)=true:=by kernel_rfl
theorem DG:me9.ran [1029,1131,1174,1223,1278,1294] (dN Tryz.prog (iN mes9 (ji 100000 200)) 100000 200 me9.f me9.args me9.heap)=true:=by kernel_rfl
theorem DH:me0.ran [] (dN Tryz.prog (iN mes0 (ji 100000 200)) 100000 200 me0.f me0.args me0.heap)=true:=by kernel_rfl
theorem DI:me1.ran [] (dN Tryz.prog (iN mes1 (ji 100000 200)) 100000 200 me1.f me1.args me1.heap)=true:=by kernel_rfl
theorem DJ:me2.ran [] (dN Tryz.prog (iN mes2 (ji 100000 200)) 100000 200 me2.f me2.args me2.heap)=true:=by kernel_rfl
theorem DK:me3.ran [] (dN Tryz.prog (iN mes3 (ji 100000 200)) 100000 200 me3.f me3.args me3.heap)=true:=by kernel_rfl
theorem DL:me4.ran [] (dN Tryz.prog (iN mes4 (ji 100000 200)) 100000 200 me4.f me4.args me4.heap)=true:=by kernel_rfl
theorem DO:me5.ran [] (dN Tryz.prog (iN mes5 (ji 100000 200)) 100000 200 me5.f me5.args me5.heap)=true:=by kernel_rfl
theorem DP:me8.ran [762,774] (dN Tryz.prog (iN mes8 (ji 100000 200)) 100000 200 me8.f me8.args me8.heap)=true:=by kernel_rfl
theorem Cc:me11.ran [1094,1106] (dN Tryz.prog (iN mes11 (ji 100000 200)) 100000 200 me11.f me11.args me11.heap)=true:=by kernel_rfl
theorem Cd:me13.ran [] (dN Tryz.prog (iN mes13 (ji 100000 200)) 100000 200 me13.f me13.args me13.heap)=true:=by kernel_rfl
theorem xI:∀x∈mes0,gi Tryz.prog x:=fun x hx=>by cases hx
theorem xJ:∀x∈mes1,gi Tryz.prog x:=mes_cons (ran xI [] (by kernel_rfl) DH) xI
theorem xK:∀x∈mes2,gi Tryz.prog x:=mes_cons (ran xJ [] (by kernel_rfl) DI) xJ
theorem xL:∀x∈mes3,gi Tryz.prog x:=mes_cons (ran xK [] (by kernel_rfl) DJ) xK
theorem xM:∀x∈mes4,gi Tryz.prog x:=mes_cons (ran xL [] (by kernel_rfl) DK) xL
theorem xN:∀x∈mes5,gi Tryz.prog x:=mes_cons (ran xM [] (by kernel_rfl) DL) xM
theorem xO:∀x∈mes6,gi Tryz.prog x:=mes_cons (ran xN [] (by kernel_rfl) DO) xN
theorem xP:∀x∈mes7,gi Tryz.prog x:=mes_cons (ran xO [836,844,863,865,976,1021,1029,1048,1050,1108,1163,1179] (by kernel_rfl) DE) xO
theorem xQ:∀x∈mes8,gi Tryz.prog x:=mes_cons (ran xP [825,927,970,1019,1074,1090] (by kernel_rfl) DF) xP
theorem xR:∀x∈mes9,gi Tryz.prog x:=mes_cons (ran xQ [762,774] (by kernel_rfl) DP) xQ
theorem uw:∀x∈mes10,gi Tryz.prog x:=mes_cons (ran xR [1029,1131,1174,1223,1278,1294] (by kernel_rfl) DG) xR
theorem ux:∀x∈mes11,gi Tryz.prog x:=mes_cons (ran uw [1187,1289,1332,1381,1436,1452] (by kernel_rfl) Ca) uw
theorem uz:∀x∈mes12,gi Tryz.prog x:=mes_cons (ran ux [1094,1106] (by kernel_rfl) Cc) ux
theorem uA:∀x∈mes13,gi Tryz.prog x:=mes_cons (ran uz [1307,1409,1452,1501,1556,1572] (by kernel_rfl) Cb) uz
theorem Ce:∀x∈mes14,gi Tryz.prog x:=mes_cons (ran uA [] (by kernel_rfl) Cd) uA
def okB(b:Bool):R VH->Bool| .ok (.mk (.bool c) _)=>c==b|_=>G7
theorem zx:okB G6 (dN Tryz.prog (iN mes14 (ji 100000 200)) 100000 200 5 [] ⟨.nil,0⟩)=true:=by kernel_rfl
theorem Fu {b:Bool}{r:R VH}(h:okB b r=G6):∃g,r=.ok (.mk (.bool b) g):=by
 unfold okB at h;split at h
 ·rename_i c g;exact⟨g,by rw[show c=b by simpa using h]⟩
 ·cases h
theorem Cf(w:World)(args:Array Value):(callFunc 5 args).run Tryz.prog w=.ok (.enter 5 args) w:=by
 obtain⟨c,hc⟩:∃c,Tryz.f5.body=G5 c:=⟨_,rfl⟩
 have h1 : ¬ Tryz.f5.name = "runtime.NumGoroutine" := by decide
 simp[callFunc,program,Sem.run,Result.andThen,Tryz.func5,hc,h1,Sem.run_bind]
theorem mf(w:World):Calls Tryz.prog 5 #[] w fun e w'=>e=.returned (.bool G6)/\RowKit.Below w.heap.size w w':=by
 obtain⟨g,hg⟩:=Fu zx;have hH:HR (fun _=>G0) (⟨.nil,0⟩:H) w.heap:=⟨fun _ _=>rfl,fun i b e=>(by rw[fN]at e;cases e),fun i j b c x y e=>(by rw[fN]at e;cases e)⟩
 rcases ll fe B9 (rZ (xH 100000 200) Ce) 200 5 [] _ _ g hg (fun _=>G0) w [] hH .nil with⟨q,w',v,h1,_⟩|⟨f,args,h1,h2⟩
 ·rw[Cf]at h1;rcases h1 with h1|⟨h1,_⟩<;>cases h1
 ·rw[Cf]at h1;cases h1;refine h2.mono fun e w' ⟨q,v,k1,k2,k3,k4⟩=>⟨by rw[k1,k4.same rfl],k2.os,k2.tape,k2.output,k2.size,fun b hb=>k2.old b hb fun i c x e=>(by rw[fN]at e;cases e)⟩
end Go.Ev
namespace Go.Proofs.YtfpahmeploondaaGreatDoor
open Go.RowKit Go.Ident
set_option maxRecDepth 100000
theorem uB(U:Ty)(hU:SmT U):∀n (V:VV),V.ht<=n->Vld V->RL U V:=by
 intro n
 induction n with
 |zero=>intro V h;have:=fx V;omega
 |succ n ih=>intro V h hV;exact ro U hU V hV fun X hX hv=>ih X (by omega) hv
theorem TD.small {n:Nat}{T:Ty}(h:TD n T)(h1:1<=n)(h7:n<=7):SmT T:=
 ⟨h.wf h1, by show T.nodes.length ≤ _; have := h.len; omega, fun x hx => by
   obtain⟨j,hj,rfl⟩:=IZ.1 hx;have:=(h.at' j hj).kids;have:=(h.at' j hj).fields;omega⟩
theorem DQ {T U:Ty}{V:VV}(hT:SmT T)(hU:SmT U)(hV:V.valid=G6):mof (sbT T U) V (sbT T U).root=mof T (rlV (fun x=>mem U x U.root) V) T.root:=by
 have hX:=vi hT.wf hU.wf;rw[vz hV hX hX.root,vz (zW V.ht V (G8 _) hV) hT.wf hT.wf.root];obtain⟨h0,h1⟩:=has_iff.1 hT.wf.root;exact Es hT.wf hU.wf V.ht V (G8 _) T.root h0 h1
theorem DR(p q r:Option Addr)(c d f:Nat)(L N M:List Int)(w:World)(hL:IS w (GU p L.length c) L)(hN:IS w (GU q N.length d) N)(hM:IS w (GU r M.length f) M):
 Calls Tryz.prog 3 #[GU p L.length c,GU q N.length d,GU r M.length f] w fun e w'=>e=.returned (.bool G6)/\Below w.heap.size w w':=by
 have hA:=HG w (GY #[GU p L.length c,GU q N.length d] 22);have hb:Below w.heap.size w (w.alloc (GY #[GU p L.length c,GU q N.length d] 22)):=(Below.refl _ _).alloc (G8 _) _;have HL:=zH (hL.below hb);have HN:=zH (hN.below hb);have HM:=zH (hM.below hb);have HA:=zH hA;have Hb:=zH hb;clear hL hN hM hA hb;go_enter Tryz.func3,Tryz.ntmps3;cases hs:sh2 30 L.length N.length with
 | false =>
   go_wp2_with(first
    |(go_at_call 4;refine(j6 30 L.length N.length p q c d _ _ HA.o).mono ?_;rintro e w1 ⟨rfl,rfl⟩;rw[hs])
    |(go_at_call 5;refine(Ev.mf _).mono ?_;rintro e w2 ⟨rfl,hb2⟩;have Hb2:=zH (Hb.o.step hb2);clear hb2))
   go_ret;exact⟨rfl,Hb2.o⟩
 | true =>
   have hl30:L.length<=30/\N.length<=30:=by unfold sh2 at hs;simpa using hs
   by_cases hm:M.length<=60
   ·have d9:decide (60<M.length)=false:=by simp;omega
    go_upto_region 3 with(go_at_call 4;refine(j6 30 L.length N.length p q c d _ _ HA.o).mono ?_;rintro e w1 ⟨rfl,rfl⟩;rw[hs])
    have e1:∃w1,w.alloc (GY #[GU p L.length c,GU q N.length d] 22)=w1:=⟨_,rfl⟩
    obtain⟨w1,e1⟩:=e1;rw[e1]at HL HN HM Hb ⊢;clear HA e1;go_upto_region 4 with(go_at_call 6;refine(pZ p r c f L M w1 HL.o HM.o (by omega) (by omega)).mono ?_;rintro e w2 ⟨tv1,T,v1,V,n1,B1,rfl,ht,-,hd,h1,h7,hv,hvv,hvn,hB,hb⟩;obtain⟨pT,cT,rfl,-,-⟩:=id ht;obtain⟨d1,cs,rfl,hx⟩:=hv;obtain⟨x1,x2,x3,x4,x5,x6,x7,x8,rfl⟩:=hx.seven;have HT1:=zH (ht.sub (db _ _));have HV1:=zH (hx.sub (db _ _));have HS1:=zH (hd.small h1 h7);have HL1:=zH (show Vld V from⟨hvv,G9 hvn (by decide)⟩);have H2:=zH hb;clear ht hd h1 h7 hvv hvn hB hb hx)
    obtain⟨w3,e3,hT3,hV3,hb3⟩:=bE w2 (GY #[GU pT T.nodes.length cT,GX GZ T.root] 27) (GY #[GX GZ V.kind,GX GZ V.num,GW V.text,GU x1 V.kids.length x2,GU x3 V.keys.length x4,GU x5 V.ents.length x6,GU x7 V.labels.length x8] 33);have hs3:w3.heap.size=w2.heap.size+2:=by rw[<-e3];simp
    rw[e3];have G1:=zH hT3;have G2:=zH hV3;have H3:=zH (H2.o.step hb3);have HT1':=zH (HT1.o.below hb3);have HV1':=zH (HV1.o.below hb3);have Hz3:=zH hs3;have HN3:=zH (HN.o.below H3.o);clear e3 hT3 hV3 hb3 hs3 HT1 HV1 H2;go_upto_region 5 with(go_at_call 6;refine(pZ q G0 d 0 N [] w3 HN3.o (IS.nil _) (by omega) (by simp)).mono ?_;rintro e w4 ⟨tv2,U,v2,Y,n2,B2,rfl,ht,-,hd,h1,h7,hv,hvv,hvn,hB,hb⟩;obtain⟨pU,cU,rfl,-,-⟩:=id ht;obtain⟨d2,cs,rfl,hx⟩:=hv;obtain⟨y1,y2,y3,y4,y5,y6,y7,y8,rfl⟩:=hx.seven;have HT2:=zH (ht.sub (db _ _));have HV2:=zH (hx.sub (db _ _));have HS2:=zH (hd.small h1 h7);have HL2:=zH (show Vld Y from⟨hvv,G9 hvn (by decide)⟩);have H4:=zH hb;clear ht hd h1 h7 hvv hvn hB hb hx)
    obtain⟨w5,e5,hT5,hV5,hb5⟩:=bE w4 (GY #[GU pU U.nodes.length cU,GX GZ U.root] 27) (GY #[GX GZ Y.kind,GX GZ Y.num,GW Y.text,GU y1 Y.kids.length y2,GU y3 Y.keys.length y4,GU y5 Y.ents.length y6,GU y7 Y.labels.length y8] 33);rw[e5];have H5:=zH (H4.o.step hb5);have HT2':=zH (HT2.o.below hb5);have K1:=zH hT5;have Hz5:=zH (show w5.heap.size=w4.heap.size+2 by rw[<-e5];simp);have Hs4:=zH H4.o.size;clear e5 hV5 hb5 hT5 HT2 HV2 HL2 H4;have G3:=zH ((H5.o.block _ (ai G1.o)).trans G1.o);have G4:=zH ((H5.o.block _ (ai G2.o)).trans G2.o);have HT5:=zH (HT1'.o.below H5.o);have HV5:=zH (HV1'.o.below H5.o);have h45:w2.heap.size+2<=w4.heap.size:=by have:=Hz3.o;have:=Hs4.o;omega
    have Hb5:=zH (Hb.o.trans ((H3.o.mono Hb.o.size).trans (H5.o.mono (G9 Hb.o.size H3.o.size))));have hlt5:w4.heap.size+1<w5.heap.size:=by have:=Hz5.o;omega
    clear G1 G2 H3 HT1' HV1' HN3 H5 Hs4 Hz3 Hz5 HL HM HN Hb;obtain⟨⟨a0,a1⟩,b0,b1⟩:=And.intro (aM G3.o) (aM K1.o);generalize w2.heap.size=g1 at*
    generalize w4.heap.size=g2 at*
    have hL6:=HG w5 (GY #[GW ⟨#[65]⟩,GU pU U.nodes.length cU,GX GZ U.root] 38);have hb6:Below w5.heap.size w5 (w5.alloc (GY #[GW ⟨#[65]⟩,GU pU U.nodes.length cU,GX GZ U.root] 38)):=(Below.refl _ _).alloc (G8 _) _;obtain⟨w6,e6⟩:∃w6,w5.alloc (GY #[GW ⟨#[65]⟩,GU pU U.nodes.length cU,GX GZ U.root] 38)=w6:=⟨_,rfl⟩
    rw[e6]at hL6 hb6;have HBL:BL w6 w5.heap.size nA pU U.nodes.length cU U.root:=⟨ai hL6,by simp[Ic,hL6,nA],by simp[Ic,hL6],by simp[Ic,hL6]⟩
    have hsb:=yz T U w6 _ w5.heap.size pU cU (HT5.o.below hb6) (HT2'.o.below hb6) HBL HS1.o HS2.o;obtain⟨X,hX⟩:∃X,X=sbT T U:=⟨_,rfl⟩
    rw[<-hX]at hsb;have Hsb:=zH hsb;have HX:=zH hX;have Hb6:=zH hb6;clear hsb hX hb6 hL6 HBL;subst e6;go_upto_region 6 with(go_at_call 7;refine Hsb.o.mono ?_;rintro e w7 ⟨v7,rfl,hx,hb7⟩;obtain⟨pX,cX,rfl,-,-⟩:=id hx;have HX7:=zH hx;have Hb7:=zH (Hb6.o.trans (hb7.mono (by simp)));clear hx hb7)
    have K3:=HG w7 (GY #[GU pX X.nodes.length cX,GX GZ X.root] 27);have hb8:Below w7.heap.size w7 (w7.alloc (GY #[GU pX X.nodes.length cX,GX GZ X.root] 27)):=(Below.refl _ _).alloc (G8 _) _;have hs7:=Hb7.o.size;clear a0 a1 b0 b1;generalize w7.alloc (GY #[GU pX X.nodes.length cX,GX GZ X.root] 27)=w8 at*
    have Hb58:=zH (Hb7.o.trans (hb8.mono hs7));have h8:=hb8.size;have h3:=ai K3;have K1':=zH ((Hb58.o.block _ (ai K1.o)).trans K1.o);have G3':=zH ((Hb58.o.block _ (ai G3.o)).trans G3.o);have G4':=zH ((Hb58.o.block _ (ai G4.o)).trans G4.o);have HT8:=zH (HT5.o.below Hb58.o);have HV8:=zH (HV5.o.below Hb58.o);have HU8:=zH (HT2'.o.below Hb58.o);have HX8:=zH (HX7.o.below hb8);have Hb8:=zH (Hb5.o.trans (Hb58.o.mono Hb5.o.size));have K3':=zH K3;have hl1:g1+1<w8.heap.size:=ai G4'.o;have hl2:g2<w8.heap.size:=ai K1'.o;have hl0:g1<w8.heap.size:=ai G3'.o;obtain⟨c0,c1⟩:=aM K3;generalize w7.heap.size=g3 at*
    obtain⟨⟨⟨v0,v1,v2,v3⟩,v4,v5,v6⟩,⟨a0,a1⟩,b0,b1⟩:=And.intro (aN G4'.o) (And.intro (aM G3'.o) (aM K1'.o));clear K3 hb8 G3 G4 K1 HT5 HV5 HT2' HX7 Hb6 Hb7 Hb58 Hsb Hb5 hs7 h8;have Y0:=zH (show w8.drew.cell? ⟨g1+1,0,G0⟩=_ from v0);have Y1:=zH (show w8.drew.cell? ⟨g1,0,G0⟩=_ from a0);have Y2:=zH (show w8.drew.cell? ⟨g2,0,G0⟩=_ from b0);have Y3:=zH (show w8.drew.cell? ⟨g3,0,G0⟩=_ from c0);have hlaw:=DQ (V:=V) HS1.o HS2.o HL1.o.1;rw[<-HX.o]at hlaw;have hXz:SzT X:=by rw[HX.o];exact FR HS1.o HS2.o
    obtain⟨R,hR⟩:∃R,R=rlV (fun x=>mem U x U.root) V:=⟨_,rfl⟩
    rw[<-hR]at hlaw;have HR:=zH hR;obtain⟨b,hb⟩:∃b,mof T R T.root=b:=⟨_,rfl⟩
    have hC1:=gJ X V w8.drew _ _ ⟨d1,_,rfl,HV8.o.below (Below.refl _ _).drew⟩ (HX8.o.below (Below.refl _ _).drew) hXz;rw[hlaw,hb]at hC1;have HC1:=zH hC1;have HRb:=zH hb;clear hlaw hR hb hC1;have Hsub:=zH (fun wz:World=>(show Sub wz (we (fun _=>G7) wz)from⟨by rw[ap];exact G8 _,fun a o z hz=>(cell_at (cI rfl)).trans hz⟩));cases b<;>(
     go_wp2_with(first
      |((with_reducible refine Lex.aP ?_);refine fE (by repeat first|exact LexK.aL|refine LexK.aG rfl ?_|refine LexK.aH (by decide+kernel) ?_|refine JP rfl (by exact hl1) Y0.o ?_|refine JP rfl (by exact hl0) Y1.o ?_|refine JP rfl (by exact hl2) Y2.o ?_|refine JP rfl (by exact h3) Y3.o ?_) ?_)
      |((with_reducible refine Lex.aI ?_);refine gL (fun x=>x<w8.heap.size) ?_)
      |(with_reducible first|refine qH ?_|refine LexK.aK ?_|refine LexK.aO ?_)
      |((with_reducible refine Lex.aX ?_);first|(refine JQ hex9.o ?_)|(refine JQ hex10.o ?_)|(refine JQ hex11.o ?_)|(refine JQ hex12.o ?_))
      |(go_at_call 8;first
       |((with_reducible refine HC1.o.mono ?_);rintro e w9 ⟨rfl,hb9⟩;have hb9':=(Below.refl w8.heap.size w8).drew.trans hb9;have Hb9:=zH hb9';have hex9:=zH (show Hh (fun x=>x<w8.heap.size) w8.drew w9 from fb hb9);obtain⟨⟨v0,v1,v2,v3⟩,v4,v5,v6⟩:=aN ((hb9'.block _ hl1).trans G4'.o);obtain⟨b0,b1⟩:=aM ((hb9'.block _ hl2).trans K1'.o);clear hb9 hb9')
       |(refine(gJ T R w10 _ _ HVR.o (HT8.o.below Hb10.o) HS1.o.sz).mono ?_;rintro e w11 ⟨rfl,hb11⟩;rw[HRb.o];have Hb11:=zH (Hb10.o.trans (hb11.mono Hb10.o.size));have hex11:=zH (show Hh (fun x=>x<w8.heap.size) w10 w11 from fb (hb11.mono Hb10.o.size));clear hb11))
      |(go_at_call 9;refine(uB U HS2.o V.ht V (G8 _) HL1.o (fun _=>G7) w9 _ _ (fun _ _=>rfl) ((show VW w9 (.agg #[GX GZ V.kind,GX GZ V.num,GW V.text,GU x1 V.kids.length x2,GU x3 V.keys.length x4,GU x5 V.ents.length x6,GU x7 V.labels.length x8]) V from⟨d1,_,rfl,HV8.o.below Hb9.o⟩).sub (Hsub.o w9)) (HU8.o.below Hb9.o)).mono ?_;rintro e w10 ⟨v10,rfl,hv,hb10⟩;rw[<-HR.o]at hv;obtain⟨dr,cs,rfl,hx⟩:=hv;obtain⟨r1,r2,r3,r4,r5,r6,r7,r8,rfl⟩:=hx.seven;have HVR:=zH (show VW w10 _ R from⟨dr,_,rfl,hx.sub (db _ _)⟩);have Hb10:=zH (Hb9.o.trans (hb10.mono Hb9.o.size));have hex10:=zH (show Hh (fun x=>x<w8.heap.size) w9 w10 from fb (hb10.mono Hb9.o.size));obtain⟨a0,a1⟩:=aM ((Hb10.o.block _ hl0).trans G3'.o);clear hx hb10)
      |(go_at_call 5;refine(Ev.mf _).mono ?_;rintro e w12 ⟨rfl,hb12⟩;have Hb12:=zH (Hb11.o.trans (hb12.mono Hb11.o.size));have hex12:=zH (show Hh (fun x=>x<w8.heap.size) w11 w12 from fb (hb12.mono Hb11.o.size));clear hb12))
     go_ret;exact⟨rfl,Hb8.o.trans (Hb12.o.mono Hb8.o.size)⟩)
   ·have d9:decide (60<M.length)=true:=by simp;omega
    go_wp2_with(first
     |(go_at_call 4;refine(j6 30 L.length N.length p q c d _ _ HA.o).mono ?_;rintro e w1 ⟨rfl,rfl⟩;rw[hs])
     |(go_at_call 5;refine(Ev.mf _).mono ?_;rintro e w2 ⟨rfl,hb2⟩;have Hb2:=zH (Hb.o.step hb2);clear hb2))
    go_ret;exact⟨rfl,Hb2.o⟩
theorem Fv {a b:Bool}(h:a=true)(k:b=true):(a&&b)=true:=by rw[h,k];rfl
set_option maxRecDepth 1000000 in
theorem vZ:joinedFacts Tryz.prog 3 Tryz.f3 Rows.topVariablesSpec Rows.topVariablesRow=true:=by
 unfold joinedFacts
 repeat' (with_reducible refine Fv ?_ ?_)
 all_goals as_aux_lemma=>kernel_rfl
end Go.Proofs.YtfpahmeploondaaGreatDoor
namespace Go.OpenFields
open Go Go.ChangeShapes Go.WideShapes Go.Deep
section
variable {H:Type} {enc:TypeId×Value->H} {P:Program} {w:World} {base:Nat} {spare:Nat->Bool} {held:Bool}
theorem rows_of {t e:TypeId}{fuel:Nat}{cs:List Value}{x:DataW H×List MemPlace}(ht:P.underlying t=some (.slice e))(h:DataW.trod enc P w base spare held fuel t cs=some x):
 cs=[.slice none 0 0]\/∃(a:Addr) (len cap:Nat),cs=[.slice (some a) len cap]/\len<=cap/\cap<=maxLen/\
  ∀i,i<len->∃(es:List Value) (n:Nat) (y:DataW H×List MemPlace),es.length=P.cellsOf e/\(∀j,j<P.cellsOf e->w.cell? (a.add (i*P.cellsOf e+j))=es[j]?)/\DataW.trod enc P w base spare held n e es=some y:=by
 rcases open_slice ht h with⟨h0,_⟩|⟨a,len,cap,m,n,D,Pl,hcs,_,hl,hm,hmm,_,hi⟩
 ·exact .inl h0
 refine .inr ⟨a,len,cap,hcs,hl,hm,fun i hil=>?_⟩;have him:i<m:=by rw[hmm];split<;>omega
 obtain⟨es,hes,hr⟩:=hi i him;obtain⟨_,hlen,hat⟩:=World.cells?_some hes;refine⟨es,n,_,hlen,fun j hj=>?_,hr⟩;rw[<-add_add];exact hat j hj
theorem int_of {t:TypeId}{k:IntKind}{n:Nat}{cs:List Value}{y:DataW H×List MemPlace}(ht:P.underlying t=some (.int k))(h:DataW.trod enc P w base spare held n t cs=some y):
 ∃q:Int,cs=[.int k q]/\(Lit.int k q).wf=true:=by
 obtain⟨q,h1,_,h2⟩:=DataW.trod_int ht h;exact⟨q,h1,h2⟩
end
theorem add_none(b o i:Nat):(⟨b,o,none⟩:Addr).add i=⟨b,o+i,none⟩:=by
 unfold Addr.add;split
 ·rename_i h;subst h;rfl
 ·rfl
theorem lt_of_cell {w:World}{b o:Nat}{v:Value}(h:w.cell? ⟨b,o,none⟩=some v):b<w.heap.size:=by
 rcases Nat.lt_or_ge b w.heap.size with h'|h'
 ·exact h'
 ·simp[Ic,Array.getElem?_eq_none h']at h
end Go.OpenFields
namespace Go.Proofs.YtfpahmeploondaaGreatDoor
open Go.ChangeShapes Go.WideShapes Go.ChangeAt Go.RowKit
theorem uC {α:Type}{P:Nat->α->Prop}:∀n,(∀i,i<n->∃x,P i x)->∃l:List α,l.length=n/\∀i (h:i<l.length),P i l[i]:=by
 intro n
 induction n with
 |zero=>intro _;exact⟨[],rfl,fun i h=>absurd h (by simp)⟩
 | succ n ih =>
   intro h;obtain⟨l,hl,hP⟩:=ih fun i hi=>h i (by omega)
   obtain⟨x,hx⟩:=h n (by omega);refine⟨l++[x],by simp[hl],fun i hi=>?_⟩;by_cases hin:i<l.length
   ·rw[List.getElem_append_left hin];exact hP i hin
   ·have hi2:i=n:=by simp at hi;omega
    subst hi2;rw[List.getElem_append_right (by omega)];simpa[hl]using hx
theorem sc {H:Type}{enc:TypeId×Value->H}{W:World}{spare:Nat->Bool}{held:Bool}{v:Value}{x:DataW H×List MemPlace}{fuel:Nat}(hf:DataW.trod enc Tryz.prog W 0 spare held fuel 22 [v]=some x):
 ∃xs:List Int,IS W v xs/\xs.length<=maxLen/\∀x∈xs,(Lit.int .i64 x).wf=true:=by
 have hC:Tryz.prog.cellsOf 3=1:=by kernel_rfl
 rcases OpenFields.rows_of Tryz.underlying22 hf with hcs|⟨a,l,c,hcs,hl,hm,hi⟩
 ·simp only[List.cons.injEq,and_true]at hcs;subst hcs;exact⟨[],IS.nil W,by simp,by simp⟩
 simp only[List.cons.injEq,and_true]at hcs;subst hcs;by_cases hz:l=0
 ·subst hz;exact⟨[],⟨some a,c,rfl,by simp,RC.nil _ _ _⟩,by simp,by simp⟩
 rw[hC]at hi;obtain⟨ab,off,spot⟩:=a;have hsp:spot=none:=by
  obtain⟨es,n,y,h1,h2,h3⟩:=hi 0 (by omega);have h4:=h2 0 (by omega);cases es with
  |nil=>simp at h1
  |cons x r=>simpa[Addr.add]using World.cell?_spot h4
 subst hsp;obtain⟨ls,hls,hP⟩:=uC (P:=fun i (x:Int)=>W.cell? ⟨ab,off+i,none⟩=some (.int .i64 x)/\(Lit.int .i64 x).wf=true) l (fun i hil=>by
  obtain⟨es,n,y,h1,h2,h3⟩:=hi i hil;obtain⟨x0,g0,gw⟩:=OpenFields.int_of Tryz.underlying3 h3;have h5:=h2 0 (by omega);rw[OpenFields.add_none,Nat.mul_one,Nat.add_zero,g0]at h5;exact⟨x0,h5,gw⟩)
 refine⟨ls,⟨some ⟨ab,off,none⟩,c,by rw[hls],by omega,by rw[nG,Nat.mul_one],fun h0=>⟨ab,off,rfl,OpenFields.lt_of_cell (hP 0 h0).1,fun j u hu=>?_⟩⟩,by omega,fun x hx=>?_⟩
 ·have hj:j<ls.length:=by have:=(List.getElem?_eq_some_iff.1 hu).1;rwa[nG]at this
  have:u=.int .i64 ls[j]:=by
   simp only[ic,List.getElem?_map,List.getElem?_eq_getElem hj,Option.map_some,Option.some.injEq]at hu;exact hu.symm
  rw[this];exact(hP j hj).1
 ·obtain⟨j,hj,rfl⟩:=IZ.1 hx;exact(hP j hj).2
end Go.Proofs.YtfpahmeploondaaGreatDoor
namespace Go.Proofs.YtfpahmeploondaaGreatDoor.topVariables
open Go.ChangeShapes Go.WideShapes Go.ChangeAt Go.RowKit
open Go.ChangeMaps (open_string shut_string)
set_option linter.unusedVariables false
theorem own:ownKnob Tryz.prog.godebug=none:=by kernel_rfl
theorem sd:laidOutB Tryz.prog=true:=by kernel_rfl
theorem Cg (os : Os) (args : Array Value) : laidMetH Tryz.prog [("math/bits.deBruijn32tab", Rows.laid_math_bits_deBruijn32tab), ("math/bits.deBruijn64tab", Rows.laid_math_bits_deBruijn64tab), ("internal/strconv.uint64pow10", Rows.laid_internal_strconv_uint64pow10), ("strconv.ErrRange", Rows.laid_strconv_ErrRange), ("strconv.ErrSyntax", Rows.laid_strconv_ErrSyntax), ("bytes.ErrTooLarge", Rows.laid_bytes_ErrTooLarge)] ((World.doorLaid Tryz.prog 400 os).forCall (fun _ _ => 0) ⟨#[], args, []⟩).memory :=
 laidMetH_of_parts3 (fuel:=8) (laidMet_of_run' 8 (by kernel_rfl) (by kernel_rfl)) (by kernel_rfl) (by kernel_rfl)
set_option maxRecDepth 100000 in
theorem Ci(H:Type)(enc:TypeId×Value->H)(W:World)(base:Nat)(args:Array Value)(ds gs:List (DataW H))(before:List MemPlace)
 (hval0:∀(j:Nat) t v,Tryz.f3.params[j]? =some t->args[j]? =some v->Value.okWide Tryz.prog W .any base t v)
 (hW:DataW.Whole enc Tryz.prog Tryz.f3.params.toList Rows.topVariablesSpec.vars false W args.toList ds gs before):
 Calls Tryz.prog 3 args W fun e W'=>∃v,e=.returned v/\Rows.topVariablesSpec.post enc Tryz.prog Tryz.f3 false true false false W args v W':=by
 have hval:∀(j:Nat) t v,Tryz.f3.params[j]? =some t->args[j]? =some v->Value.okWide Tryz.prog W .any base t v:=hval0;have hW':=hW;obtain⟨p,q,hA0,hV,rfl,hfz,hnd⟩:=hW;have hA:DataW.TrodAll enc Tryz.prog W 0 (fun _=>true) true Tryz.f3.params.toList args.toList ds p:=hA0;rw[Tryz.params3]at hA hval;obtain⟨v0,vs0,d0,ds0,p0,q0,hargs,rfl,rfl,h0,r0⟩:=trodAll_cons hA;obtain⟨v1,vs1,d1,ds1,p1,q1,rfl,rfl,rfl,h1,r1⟩:=trodAll_cons r0;obtain⟨v2,vs2,d2,ds2,p2,q2,rfl,rfl,rfl,h2,r2⟩:=trodAll_cons r1;obtain⟨rfl,rfl,rfl⟩:=trodAll_nil r2;obtain rfl:args= #[v0,v1,v2]:=by cases args;simp_all
 obtain⟨rfl,rfl⟩:=trodVars_none hV;clear hA0 hval0;have k0:=h0;have lt0:∀x∈p0,x.block<W.heap.size:=by obtain⟨m,hm⟩:=k0;exact DataW.trod_lt m _ _ _ hm
 have k1:=h1;have lt1:∀x∈p1,x.block<W.heap.size:=by obtain⟨m,hm⟩:=k1;exact DataW.trod_lt m _ _ _ hm
 have k2:=h2;have lt2:∀x∈p2,x.block<W.heap.size:=by obtain⟨m,hm⟩:=k2;exact DataW.trod_lt m _ _ _ hm
 obtain⟨s0,len0,cap0,rfl⟩:=okWide_slice Tryz.underlying22 (hval 0 22 v0 rfl rfl);obtain⟨fuel0,hf0⟩:=h0;obtain⟨L0,hL0,hl0,hw0⟩:=sc hf0;obtain⟨p0',c0',e0,-⟩:=id hL0;injection e0 with e01 e02 e03
 subst e01 e02 e03;obtain⟨s1,len1,cap1,rfl⟩:=okWide_slice Tryz.underlying22 (hval 1 22 v1 rfl rfl);obtain⟨fuel1,hf1⟩:=h1;obtain⟨L1,hL1,hl1,hw1⟩:=sc hf1;obtain⟨p1',c1',e1,-⟩:=id hL1;injection e1 with e11 e12 e13
 subst e11 e12 e13;obtain⟨s2,len2,cap2,rfl⟩:=okWide_slice Tryz.underlying22 (hval 2 22 v2 rfl rfl);obtain⟨fuel2,hf2⟩:=h2;obtain⟨L2,hL2,hl2,hw2⟩:=sc hf2;obtain⟨p2',c2',e2,-⟩:=id hL2;injection e2 with e21 e22 e23
 subst e21 e22 e23;refine(DR _ _ _ _ _ _ L0 L1 L2 W hL0 hL1 hL2:Calls Tryz.prog 3 _ W _).mono fun e W' ⟨he,bel⟩=>?_
 subst he;exact⟨_,rfl,_,_,_,[],_,[],hW',trodAll_mk1 (shut_bool Tryz.underlying4 _),(trodAll_cons_mk (Below.trod sd (by kernel_rfl) (of_decide_eq_true (by kernel_rfl)) k0 bel lt0) (trodAll_cons_mk (Below.trod sd (by kernel_rfl) (of_decide_eq_true (by kernel_rfl)) k1 bel lt1) (trodAll_cons_mk (Below.trod sd (by kernel_rfl) (of_decide_eq_true (by kernel_rfl)) k2 bel lt2) trodAll_mk0))),rfl,bel.frame _,fun h=>by cases h⟩
set_option maxRecDepth 100000 in
theorem Fw(os:Os)(started:os.Started)(H:Type)(enc:TypeId×Value->H):
 ReturnsInHanded {} Tryz.checked os 3 .any (fun w args => (Rows.topVariablesSpec.pre enc Tryz.prog Tryz.f3 [] false w args ∧ laidMetH Tryz.prog [("math/bits.deBruijn32tab", Rows.laid_math_bits_deBruijn32tab), ("math/bits.deBruijn64tab", Rows.laid_math_bits_deBruijn64tab), ("internal/strconv.uint64pow10", Rows.laid_internal_strconv_uint64pow10), ("strconv.ErrRange", Rows.laid_strconv_ErrRange), ("strconv.ErrSyntax", Rows.laid_strconv_ErrSyntax), ("bytes.ErrTooLarge", Rows.laid_bytes_ErrTooLarge)] w) ∧ sizedMet enc Tryz.prog Tryz.f3 (OpenSpec.ofChange Rows.topVariablesSpec) false w args)
  (Rows.topVariablesSpec.post enc Tryz.prog Tryz.f3 false true false false):=by
 refine returnsInHanded_of_change_and (C := Tryz.checked) (X := fun w _ => laidMetH Tryz.prog [("math/bits.deBruijn32tab", Rows.laid_math_bits_deBruijn32tab), ("math/bits.deBruijn64tab", Rows.laid_math_bits_deBruijn64tab), ("internal/strconv.uint64pow10", Rows.laid_internal_strconv_uint64pow10), ("strconv.ErrRange", Rows.laid_strconv_ErrRange), ("strconv.ErrSyntax", Rows.laid_strconv_ErrSyntax), ("bytes.ErrTooLarge", Rows.laid_bytes_ErrTooLarge)] w) (fun _ _ _ hh h => h.of_heap hh) own started (by kernel_rfl) Tryz.func3
  (ChangeSpec.witness_shaped (enc := enc) (C := Tryz.checked) (os := os) (X := fun w _ => laidMetH Tryz.prog [("math/bits.deBruijn32tab", Rows.laid_math_bits_deBruijn32tab), ("math/bits.deBruijn64tab", Rows.laid_math_bits_deBruijn64tab), ("internal/strconv.uint64pow10", Rows.laid_internal_strconv_uint64pow10), ("strconv.ErrRange", Rows.laid_strconv_ErrRange), ("strconv.ErrSyntax", Rows.laid_strconv_ErrSyntax), ("bytes.ErrTooLarge", Rows.laid_bytes_ErrTooLarge)] w) false (World.doorLaid Tryz.prog 400 os) #[.slice none 0 0, .slice none 0 0, .slice none 0 0] 8 rfl (World.shaped_of_RefB (by kernel_rfl) (by kernel_rfl)) (by kernel_rfl) (by kernel_rfl) (by kernel_rfl) (Cg os _)) ?_
 intro W base args ds gs before hval0 hW _ _ _ _;exact Ci H enc W base args ds gs before hval0 hW
theorem row_holds:Rows.TopVariablesSaid:=
 OpenClaim.holds_of_wide 3 Tryz.f3 rfl rfl rfl rfl rfl rfl rfl ⟨rfl,rfl,rfl,rfl,rfl⟩ rfl rfl rfl rfl rfl (by kernel_rfl) Tryz.func3 vZ
  (of_decide_eq_true (by kernel_rfl)) (by unfold Func.isWrapper;first|(rw[if_pos (by decide+kernel)];kernel_rfl)|(rw[if_neg (by decide+kernel)];exact⟨rfl,rfl⟩))
  (fun os started H enc _=>Fw os started H enc)
theorem topVariables_holds:Rows.TopVariablesCardSaid:=
 Claim7.holds_tied_plain_at .later [] [.data, .data, .data, .sentinel, .sentinel, .sentinel] true (true, "f3e0c43558f8a8cd275b05d2de9150d4cc6f4252f4aaf06f8f809679e0626b58") true
  row_holds (fun _ h=>by cases h) (by as_aux_lemma=>kernel_rfl) (fun _ h=>by cases h) topVariables_row_tie rfl ⟨rfl,rfl⟩ (by as_aux_lemma=>kernel_rfl) rfl
  (fun f fn hf hfn=>by
   obtain rfl : f = 3 := Iq ((show Tryz.prog.funcNamed "semtype/semtypetop.TopVariables" = some 3 by as_aux_lemma => kernel_rfl).symm.trans hf) |>.symm;obtain rfl:fn=Tryz.f3:=(Iq (Tryz.func3.symm.trans hfn)).symm;exact⟨by as_aux_lemma=>kernel_rfl,fun j t ht=>by
    rw[Tryz.params3]at ht;have hm:t∈[22,22,22]:=by simpa using Array.mem_of_getElem? ht
    have hall:([22,22,22].all fun u=> !Tryz.prog.wantsStandIn u)=true:=by as_aux_lemma=>kernel_rfl
    exact(show Tryz.prog.wantsStandIn t=false by simpa using List.all_eq_true.1 hall t hm)⟩)
  (by as_aux_lemma=>kernel_rfl)
end Go.Proofs.YtfpahmeploondaaGreatDoor.topVariables
