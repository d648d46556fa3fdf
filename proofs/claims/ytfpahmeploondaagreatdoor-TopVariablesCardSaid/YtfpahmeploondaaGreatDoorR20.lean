/- Walks and plain facts for the law on type variables, for all values and types that the heap holds (texts A3). -/
import Derived.Test.YtfpahmeploondaaGreatDoorR03
import Derived.Test.YtfpahmeploondaaGreatDoorR16
set_option linter.unusedVariables false
set_option linter.unusedSimpArgs false
set_option maxHeartbeats 64000000
open Option renaming none -> G0, some -> G5
open Bool renaming true -> G6, false -> G7
open Go.Value renaming slice -> GU, string -> GW, int -> GX
open Go.Obj renaming cells -> GY
open Go.IntKind renaming i64 -> GZ
open Go renaming heap_alloc_new -> HG
open List renaming mem_map -> IW
open Nat renaming le_refl -> G8
open Go.World renaming cell? -> Ic
open Go.LexK renaming an -> JP, aq -> JQ
namespace Go.Proofs.YtfpahmeploondaaGreatDoor
open Go.RowKit Go.Ident
set_option maxRecDepth 100000
inductive TagN:Int->Prop
 |mk (y:Int):TagN y
structure DN(i n:Int)(X:TN):Prop where
 plain:bR X=G6
 kind:bj X=G6
 edges:∀k∈bq X,0<=k/\k<n
 later:X.bool=G6->∀k∈X.kids,i<k
 kids:X.kids.length<=3
 fields:X.fields.length<=3
theorem nc0(w:World)(k lo hi:Int)(s:ByteArray):NC w ⟨k,lo,hi,s,[],[],0,0⟩ [GX GZ k,GX GZ lo,GX GZ hi,GW s,GU G0 0 0,GU G0 0 0,GX GZ 0,GX GZ 0]:=
 ⟨G0,0,G0,0,rfl,IS.nil' _,Rw.nil _ _ _ _ _⟩
theorem nck {w:World}{pv:Option Addr}{cv:Nat}{l:List Int}(k:Int)(h:IS w (GU pv l.length cv) l):NC w ⟨k,0,0,aQ,l,[],0,0⟩ [GX GZ k,GX GZ 0,GX GZ 0,GW ⟨#[]⟩,GU pv l.length cv,GU G0 0 0,GX GZ 0,GX GZ 0]:=
 ⟨pv,cv,G0,0,rfl,h,Rw.nil _ _ _ _ _⟩
theorem kN {i n:Int}{k lo hi:Int}{s:ByteArray}(h:bR ⟨k,lo,hi,s,[],[],0,0⟩=G6)(h2:bj ⟨k,lo,hi,s,[],[],0,0⟩=G6)(h3:(k==13)=G7):DN i n ⟨k,lo,hi,s,[],[],0,0⟩:=
 ⟨h, h2, by have : k ≠ 13 := by (intro e; subst e; simp at h3)
            simp[bq,this],by simp,by simp,by simp⟩
def PlK(k:Int):Bool:=decide (k=1)||decide (k=2)||decide (k=5)||decide (k=7)||decide (k=8)||decide (k=9)||decide (k=11)||decide (k=15)
theorem kO {i n k:Int}(h:PlK k=G6):DN i n ⟨k,0,0,aQ,[],[],0,0⟩:=by
 simp only[PlK,Bool.or_eq_true,decide_eq_true_eq]at h;rcases h with((((((h|h)|h)|h)|h)|h)|h)|h<;>subst h<;>exact kN (by decide) (by decide) (by decide)
theorem CJ {i n:Int}{s:ByteArray}(h:eb s.data.toList=G6):DN i n ⟨6,0,0,s,[],[],0,0⟩:=kN (by simp[bR,jF]) (by simp[bj,h]) (by decide)
theorem Ey {i n:Int}{s:ByteArray}(h:dG s.data.toList=G6):DN i n ⟨19,0,0,s,[],[],0,0⟩:=kN (by simp[bR,jF]) (by simp[bj,h]) (by decide)
theorem Ez {i n:Int}{s:ByteArray}(h:s.size<=64):DN i n ⟨4,0,0,s,[],[],0,0⟩:=kN (by simp[bR,jF]) (by simp[bj,h]) (by decide)
theorem EA {i n a b:Int}(h:a<=b):DN i n ⟨3,a,b,aQ,[],[],0,0⟩:=kN (by simp[bR,aQ,ByteArray.size]) (by simp[bj,h]) (by decide)
theorem kP {i n k:Int}{l:List Int}(h:(k=10/\l.length<=2)\/(k=12/\l.length=2)\/(k=14/\1<=l.length/\l.length<=3))(hk:∀x∈l,0<=x/\x<n):DN i n ⟨k,0,0,aQ,l,[],0,0⟩:=by
 rcases h with⟨rfl,h⟩|⟨rfl,h⟩|⟨rfl,h,h2⟩
 all_goals exact⟨by simp[bR,jF,nH,aQ,ByteArray.size],by simp[bj];omega,by simpa[bq]using hk,by simp[TN.bool],by simp;omega,by simp⟩
theorem mO {i n k:Int}{l:List Int}(h:(k=18/\l.length=1)\/((k=16\/k=17)/\2<=l.length/\l.length<=3))(hk:∀x∈l,i+1<=x/\x<n)(hi:0<=i):DN i n ⟨k,0,0,aQ,l,[],0,0⟩:=by
 have h1:∀x∈l,0<=x/\x<n:=fun x hx=>by have:=hk x hx;omega
 have h2:∀x∈l,i<x:=fun x hx=>by have:=hk x hx;omega
 rcases h with⟨rfl,h⟩|⟨rfl|rfl,h,h3⟩
 all_goals exact⟨by simp[bR,jF,nH,aQ,ByteArray.size],by simp[bj];omega,by simpa[bq]using h1,fun _=>h2,by simp;omega,by simp⟩
theorem yu:∀q∈lJ 3,bV bN q=G6/\(∀k∈q,dq k.kind k.text.data.toList=G6)/\q.length<=3:=by decide
theorem EC {i n:Int}{X:TN}(h:DM n X):DN i n X:=by
 obtain⟨h1,h2,h3,h4,h5,h6,h7,h8,h9,h10⟩:=h;obtain⟨k,a,b,t,kids,fs,r0,r1⟩:=X;simp only at h1 h2 h3 h4 h5 h6 h7 h8 h9 h10;subst h1 h2 h3 h4 h5;obtain⟨g1,g2,g3⟩:=yu _ h6;have g4:fs.length<=3:=by rwa[List.length_map]at g3
 refine⟨by simp[bR,jF,aQ,ByteArray.size],?_,?_,by simp,by simp,g4⟩
 ·have:bW fs=true:=by
   simp only[bW,g1,Bool.true_and,List.all_eq_true];exact fun f hf=>g2 _ (IW.2 ⟨f,hf,rfl⟩)
  simp[bj,this]
 ·intro x hx;simp only[bq,List.nil_append,List.mem_append,IW,if_true,List.mem_cons,List.not_mem_nil,or_false]at hx;rcases hx with⟨f,hf,rfl⟩|rfl|rfl
  ·exact h7 f hf
  ·exact h8
  ·exact⟨h9,h10⟩
theorem Aa(S:SD)(i n:Int)(w:World)(hS:SRC S w)(h0i:0<=i)(hin:i<n)(hn:n<=1000):Calls Tryz.prog 32 #[.pointer (G5 ⟨S.b,0,G0⟩),GX GZ i,GX GZ n] w (GN (DN i n) S w):=by
 have hltS:=hS.lt;have Hb:=zH (show w.heap.size≠S.b by omega);have Ha:=zH (SR.alloc hS (GY #[GX GZ 0,GX GZ 0,GX GZ 0,GW ⟨#[]⟩,GU G0 0 0,GU G0 0 0,GX GZ 0,GX GZ 0] 61));have Hn:=zH (HG w (GY #[GX GZ 0,GX GZ 0,GX GZ 0,GW ⟨#[]⟩,GU G0 0 0,GU G0 0 0,GX GZ 0,GX GZ 0] 61));have HEx:=zH (show lo (w.heap.size+1) w.heap.size=G6 by simp[lo]);have HEl:=zH (show∀k,k<w.heap.size->lo (w.heap.size+1) k=G6 from fun k hk=>by simp[lo];omega);clear hS;go_enter Tryz.func32,Tryz.ntmps32;go_upto_region 1 with fail
 generalize w.alloc (GY #[GX GZ 0,GX GZ 0,GX GZ 0,GW ⟨#[]⟩,GU G0 0 0,GU G0 0 0,GX GZ 0,GX GZ 0] 61)=w1 at*
 rcases(show((i==n-1)=G6/\True)\/((i==n-1)=G7/\i+1<n)by
  by_cases h:i=n-1
  ·left;simp[h]
  ·right;exact⟨by simp;omega,by omega⟩)with⟨d0,hlt1⟩|⟨d0,hlt1⟩
 all_goals
  go_upto_region 5 with(go_at_call 14;refine(aU S _ w1 Ha.o.src (by omega)).mono ?_;rintro e w2 ⟨y2,rfl,hs,h2a,h2b,-⟩;have h2b:=h2b (by omega);have H2:=zH (Ha.o.trans hs);have Z2:=zH ((hs.block (ai Hn.o) Hb.o).trans Hn.o);clear hs;have T:=TagN.mk y2;rcases(show y2=0\/y2=1\/y2=2\/y2=3\/y2=4\/y2=5\/y2=6\/y2=7\/y2=8\/y2=9\/y2=10\/y2=11\/y2=12\/y2=13\/y2=14\/y2=15\/y2=16\/y2=17 by omega)with rfl|rfl|rfl|rfl|rfl|rfl|rfl|rfl|rfl|rfl|rfl|rfl|rfl|rfl|rfl|rfl|rfl|rfl<;>first|(exfalso;omega)|skip)
 all_goals(first
  | (have q : TagN 0 := T
     clear q;have hA:=HG w2 (GY #[GX GZ (-9223372036854775808),GX GZ (0),GX GZ (1),GX GZ (2),GX GZ (9223372036854775807)] 2);have ha:Below w2.heap.size w2 (w2.alloc (GY #[GX GZ (-9223372036854775808),GX GZ (0),GX GZ (1),GX GZ (2),GX GZ (9223372036854775807)] 2)):=(Below.refl _ _).alloc (G8 _) _;have HA:=zH hA;have H2a:=zH (H2.o.step ha);have Z2a:=zH ((ha.block _ (ai Z2.o)).trans Z2.o);have Hba:=zH (show w2.heap.size≠S.b by have:=ai Z2.o;omega);clear hA ha;go_upto_region 7 with fail
     generalize(w2.alloc (GY #[GX GZ (-9223372036854775808),GX GZ (0),GX GZ (1),GX GZ (2),GX GZ (9223372036854775807)] 2))=wa at*
     generalize w2.heap.size=ba at*
     go_upto_region 8 with(go_at_call 14;refine(aU S 5 wa H2a.o.src (by omega)).mono ?_;rintro e w3 ⟨y3,rfl,hs,h3a,h3b,-⟩;have h3b:=h3b (by omega);have H3:=zH (H2a.o.trans hs);have Z3:=zH ((hs.block (ai Z2a.o) Hb.o).trans Z2a.o);have A3:=zH ((hs.block (ai HA.o) Hba.o).trans HA.o);clear hs;rcases(show y3=0\/y3=1\/y3=2\/y3=3\/y3=4 by omega)with rfl|rfl|rfl|rfl|rfl)
     all_goals
      have Hsd:=zH H3.o.src.drew;have hlA:=ai A3.o;have u0:w3.cell? ⟨ba,0,G0⟩=G5 (GX GZ (-9223372036854775808)):=(by simp[Ic,A3.o])
      have Y0:=zH (show w3.drew.cell? ⟨ba,0,G0⟩=_ from u0);have u1:w3.cell? ⟨ba,1,G0⟩=G5 (GX GZ (0)):=(by simp[Ic,A3.o])
      have Y1:=zH (show w3.drew.cell? ⟨ba,1,G0⟩=_ from u1);have u2:w3.cell? ⟨ba,2,G0⟩=G5 (GX GZ (1)):=(by simp[Ic,A3.o])
      have Y2:=zH (show w3.drew.cell? ⟨ba,2,G0⟩=_ from u2);have u3:w3.cell? ⟨ba,3,G0⟩=G5 (GX GZ (2)):=(by simp[Ic,A3.o])
      have Y3:=zH (show w3.drew.cell? ⟨ba,3,G0⟩=_ from u3);have u4:w3.cell? ⟨ba,4,G0⟩=G5 (GX GZ (9223372036854775807)):=(by simp[Ic,A3.o])
      have Y4:=zH (show w3.drew.cell? ⟨ba,4,G0⟩=_ from u4);go_wp2_with(first
       |((with_reducible refine Lex.aP ?_);refine fE (by repeat first|exact LexK.aL|refine LexK.aG rfl ?_|refine LexK.aH (by decide+kernel) ?_|refine JP rfl (Eq.refl _) Y0.o ?_|refine JP rfl (Eq.refl _) Y1.o ?_|refine JP rfl (Eq.refl _) Y2.o ?_|refine JP rfl (Eq.refl _) Y3.o ?_|refine JP rfl (Eq.refl _) Y4.o ?_) ?_)
       |((with_reducible refine Lex.aI ?_);refine gL (fun x=>x=ba) ?_)
       |(with_reducible first|refine qH ?_|refine LexK.aK ?_|refine LexK.aO ?_)
       |((with_reducible refine Lex.aX ?_);first|(refine JQ hex4.o ?_)|(refine JQ (LexK.Ext.alloc _ _) ?_)|(refine JQ (LexK.Ext.refl _) ?_))
       |(go_at_call 14;refine(aU S _ w3.drew Hsd.o (by omega)).mono ?_;rintro e w4 ⟨y4,rfl,hs,h4a,h4b,-⟩;have h4b:=h4b (by omega);have H4:=zH (H3.o.drew.trans hs);have Z4:=zH ((hs.block (by exact ai Z3.o) Hb.o).trans (show w3.drew.heap[w.heap.size]? =_ from Z3.o));have hA4:=(hs.block (by exact hlA) Hba.o).trans (show w3.drew.heap[ba]? =_ from A3.o);have hex4:=zH (iB hs Hba.o (by exact hlA));have v0:w4.cell? ⟨ba,0,G0⟩=G5 (GX GZ (-9223372036854775808)):=(by simp[Ic,hA4]);have v1:w4.cell? ⟨ba,1,G0⟩=G5 (GX GZ (0)):=(by simp[Ic,hA4]);have v2:w4.cell? ⟨ba,2,G0⟩=G5 (GX GZ (1)):=(by simp[Ic,hA4]);have v3:w4.cell? ⟨ba,3,G0⟩=G5 (GX GZ (2)):=(by simp[Ic,hA4]);have v4:w4.cell? ⟨ba,4,G0⟩=G5 (GX GZ (9223372036854775807)):=(by simp[Ic,hA4]);clear hs hA4;rcases(show y4=0\/y4=1\/y4=2\/y4=3\/y4=4 by omega)with rfl|rfl|rfl|rfl|rfl<;>first|(exfalso;omega)|skip)
       |(with_reducible refine sR rfl 61 (.tmp 6) (.tmp 35) rfl rfl rfl Z4.o ?_))
     all_goals
      refine rB rfl w.heap.size 61 rfl (sH Z4.o) rfl rfl rfl ?_;exact⟨_,⟨3,_,_,aQ,[],[],0,0⟩,rfl,nc0 _ _ _ _ _,EA (by decide),H4.o.row (G8 _) Hb.o _⟩)
  |skip)
 all_goals(first
  | (have q : TagN 1 := T
     clear q;go_wp2_with(first
      |(go_at_call 52;refine(fG S w2 H2.o.src).mono ?_;rintro e w3 ⟨s,rfl,hs,hp⟩;have H3:=zH (H2.o.trans hs);have Z3:=zH ((hs.block (ai Z2.o) Hb.o).trans Z2.o);clear hs)
      |(with_reducible refine sR rfl 61 (.tmp 6) (.tmp 40) rfl rfl rfl Z3.o ?_))
     refine rB rfl w.heap.size 61 rfl (sH Z3.o) rfl rfl rfl ?_;exact⟨_,⟨6,0,0,s,[],[],0,0⟩,rfl,nc0 _ _ _ _ _,CJ hp,H3.o.row (G8 _) Hb.o _⟩)
  |skip)
 all_goals(first
  | (have q : TagN 2 := T
     clear q;go_wp2_with(first
      |(with_reducible refine sR rfl 61 (.tmp 6) (.tmp 43) rfl rfl rfl Z2.o ?_))
     refine rB rfl w.heap.size 61 rfl (sH Z2.o) rfl rfl rfl ?_;exact⟨_,⟨7,0,0,aQ,[],[],0,0⟩,rfl,nc0 _ _ _ _ _,kO rfl,H2.o.row (G8 _) Hb.o _⟩)
  |skip)
 all_goals(first
  | (have q : TagN 3 := T
     clear q;go_wp2_with(first
      |(go_at_call 53;refine(kH S w2 H2.o.src).mono ?_;rintro e w3 ⟨s,rfl,hs,hp⟩;have H3:=zH (H2.o.trans hs);have Z3:=zH ((hs.block (ai Z2.o) Hb.o).trans Z2.o);clear hs)
      |(with_reducible refine sR rfl 61 (.tmp 6) (.tmp 48) rfl rfl rfl Z3.o ?_))
     refine rB rfl w.heap.size 61 rfl (sH Z3.o) rfl rfl rfl ?_;exact⟨_,⟨4,0,0,s,[],[],0,0⟩,rfl,nc0 _ _ _ _ _,Ez hp,H3.o.row (G8 _) Hb.o _⟩)
  |skip)
 all_goals(first
  | (have q : TagN 4 := T
     clear q;have hA:=HG w2 (GY #[GX GZ 5,GX GZ 8,GX GZ 11,GX GZ 15] 3);have ha:Below w2.heap.size w2 (w2.alloc (GY #[GX GZ 5,GX GZ 8,GX GZ 11,GX GZ 15] 3)):=(Below.refl _ _).alloc (G8 _) _;have HA:=zH hA;have H2a:=zH (H2.o.step ha);have Z2a:=zH ((ha.block _ (ai Z2.o)).trans Z2.o);have Hba:=zH (show w2.heap.size≠S.b by have:=ai Z2.o;omega);clear hA ha;go_wp2_with(first
      |(go_at_call 14;refine(aU S 4 (w2.alloc (GY #[GX GZ 5,GX GZ 8,GX GZ 11,GX GZ 15] 3)) H2a.o.src (by omega)).mono ?_;rintro e w3 ⟨y3,rfl,hs,h3a,h3b,-⟩;have h3b:=h3b (by omega);have H3:=zH (H2a.o.trans hs);have Z3:=zH ((hs.block (ai Z2a.o) Hb.o).trans Z2a.o);have hA3:=(hs.block (ai HA.o) Hba.o).trans HA.o;have u0:w3.cell? ⟨w2.heap.size,0,G0⟩=G5 (GX GZ 5):=(by simp[Ic,hA3]);have u1:w3.cell? ⟨w2.heap.size,1,G0⟩=G5 (GX GZ 8):=(by simp[Ic,hA3]);have u2:w3.cell? ⟨w2.heap.size,2,G0⟩=G5 (GX GZ 11):=(by simp[Ic,hA3]);have u3:w3.cell? ⟨w2.heap.size,3,G0⟩=G5 (GX GZ 15):=(by simp[Ic,hA3]);clear hs;rcases(show y3=0\/y3=1\/y3=2\/y3=3 by omega)with rfl|rfl|rfl|rfl)
      |(with_reducible refine sR rfl 61 (.tmp 6) (.tmp 56) rfl rfl rfl Z3.o ?_))
     all_goals
      refine rB rfl w.heap.size 61 rfl (sH Z3.o) rfl rfl rfl ?_;exact⟨_,⟨_,0,0,aQ,[],[],0,0⟩,rfl,nc0 _ _ _ _ _,kO rfl,H3.o.row (G8 _) Hb.o _⟩)
  |skip)
 all_goals(first
  | (have q : TagN 5 := T
     clear q;go_wp2_with(first
      |(with_reducible refine sR rfl 61 (.tmp 6) (.tmp 59) rfl rfl rfl Z2.o ?_))
     refine rB rfl w.heap.size 61 rfl (sH Z2.o) rfl rfl rfl ?_;exact⟨_,⟨9,0,0,aQ,[],[],0,0⟩,rfl,nc0 _ _ _ _ _,kO rfl,H2.o.row (G8 _) Hb.o _⟩)
  |skip)
 all_goals(first
  | (have q : TagN 6 := T
     clear q;have hA:=HG w2 (GY #[GX GZ 2,GX GZ 1] 3);have ha:Below w2.heap.size w2 (w2.alloc (GY #[GX GZ 2,GX GZ 1] 3)):=(Below.refl _ _).alloc (G8 _) _;have HA:=zH hA;have H2a:=zH (H2.o.step ha);have Z2a:=zH ((ha.block _ (ai Z2.o)).trans Z2.o);have Hba:=zH (show w2.heap.size≠S.b by have:=ai Z2.o;omega);clear hA ha;go_wp2_with(first
      |(go_at_call 14;refine(aU S 2 (w2.alloc (GY #[GX GZ 2,GX GZ 1] 3)) H2a.o.src (by omega)).mono ?_;rintro e w3 ⟨y3,rfl,hs,h3a,h3b,-⟩;have h3b:=h3b (by omega);have H3:=zH (H2a.o.trans hs);have Z3:=zH ((hs.block (ai Z2a.o) Hb.o).trans Z2a.o);have hA3:=(hs.block (ai HA.o) Hba.o).trans HA.o;have u0:w3.cell? ⟨w2.heap.size,0,G0⟩=G5 (GX GZ 2):=(by simp[Ic,hA3]);have u1:w3.cell? ⟨w2.heap.size,1,G0⟩=G5 (GX GZ 1):=(by simp[Ic,hA3]);clear hs;rcases(show y3=0\/y3=1 by omega)with rfl|rfl)
      |(with_reducible refine sR rfl 61 (.tmp 6) (.tmp 67) rfl rfl rfl Z3.o ?_))
     all_goals
      refine rB rfl w.heap.size 61 rfl (sH Z3.o) rfl rfl rfl ?_;exact⟨_,⟨_,0,0,aQ,[],[],0,0⟩,rfl,nc0 _ _ _ _ _,kO rfl,H3.o.row (G8 _) Hb.o _⟩)
  |skip)
 all_goals(first
  | (have q : TagN 7 := T
     clear q;go_wp2_with(first
      |(go_at_call 54;refine(lH S w2 H2.o.src).mono ?_;rintro e w3 ⟨s,rfl,hs,hp⟩;have H3:=zH (H2.o.trans hs);have Z3:=zH ((hs.block (ai Z2.o) Hb.o).trans Z2.o);clear hs)
      |(with_reducible refine sR rfl 61 (.tmp 6) (.tmp 72) rfl rfl rfl Z3.o ?_))
     refine rB rfl w.heap.size 61 rfl (sH Z3.o) rfl rfl rfl ?_;exact⟨_,⟨19,0,0,s,[],[],0,0⟩,rfl,nc0 _ _ _ _ _,Ey hp,H3.o.row (G8 _) Hb.o _⟩)
  |skip)
 all_goals(first
  | (have q : TagN 8 := T
     clear q;go_wp2_with(first
      |(go_at_call 14;refine(aU S 3 w2 H2.o.src (by omega)).mono ?_;rintro e w3 ⟨y3,rfl,hs,h3a,h3b,-⟩;have h3b:=h3b (by omega);have H3:=zH (H2.o.trans hs);have Z3:=zH ((hs.block (ai Z2.o) Hb.o).trans Z2.o);clear hs;obtain⟨m3,hm3⟩:∃m:Nat,(m:Int)=y3:=⟨(y3).toNat,by omega⟩)
      |(go_at_call 55;(try rw[<-hm3]);refine(cQ S (m3) (0) n w3 H3.o.src (by omega) (by omega) (by omega) hn).mono ?_;rintro e w4 ⟨v,l,rfl,hi,hl,hk,hs⟩;obtain⟨pv,cv,rfl,hcv⟩:=hi;have HI:=zH (show IS (we (lo (w.heap.size+1)) w4) (GU pv l.length cv) l from IS.sub (bL w4 (show w.heap.size+1<=w3.heap.size from ai Z3.o)) ⟨pv,cv,rfl,hcv⟩);have Hk:=zH hk;have Hl:=zH hl;have H4:=zH (H3.o.trans hs);have Z4:=zH ((hs.block (ai Z3.o) Hb.o).trans Z3.o);clear hs hcv hk hl)
      |(with_reducible refine sR rfl 61 (.tmp 6) (.tmp 81) rfl rfl rfl Z4.o ?_))
     refine rB rfl w.heap.size 61 rfl (sH Z4.o) rfl rfl rfl ?_;exact⟨_,⟨10,0,0,aQ,l,[],0,0⟩,rfl,fV (nck _ HI.o) HEx.o HEl.o _,kP (.inl ⟨rfl,by have:=Hl.o;omega⟩) Hk.o,H4.o.row (G8 _) Hb.o _⟩)
  |skip)
 all_goals(first
  | (have q : TagN 9 := T
     clear q;go_wp2_with(first
      |(go_at_call 14;refine(aU S 3 w2 H2.o.src (by omega)).mono ?_;rintro e w3 ⟨y3,rfl,hs,h3a,h3b,-⟩;have h3b:=h3b (by omega);have H3:=zH (H2.o.trans hs);have Z3:=zH ((hs.block (ai Z2.o) Hb.o).trans Z2.o);clear hs;obtain⟨m3,hm3⟩:∃m:Nat,(m:Int)=y3:=⟨(y3).toNat,by omega⟩)
      |(go_at_call 55;(try rw[<-hm3]);refine(cQ S (m3) (0) n w3 H3.o.src (by omega) (by omega) (by omega) hn).mono ?_;rintro e w4 ⟨v,l,rfl,hi,hl,hk,hs⟩;obtain⟨pv,cv,rfl,hcv⟩:=hi;have HI:=zH (show IS (we (lo (w.heap.size+1)) w4) (GU pv l.length cv) l from IS.sub (bL w4 (show w.heap.size+1<=w3.heap.size from ai Z3.o)) ⟨pv,cv,rfl,hcv⟩);have Hk:=zH hk;have Hl:=zH hl;have H4:=zH (H3.o.trans hs);have Z4:=zH ((hs.block (ai Z3.o) Hb.o).trans Z3.o);clear hs hcv hk hl)
      |(with_reducible refine sR rfl 61 (.tmp 6) (.tmp 81) rfl rfl rfl Z4.o ?_))
     refine rB rfl w.heap.size 61 rfl (sH Z4.o) rfl rfl rfl ?_;exact⟨_,⟨10,0,0,aQ,l,[],0,0⟩,rfl,fV (nck _ HI.o) HEx.o HEl.o _,kP (.inl ⟨rfl,by have:=Hl.o;omega⟩) Hk.o,H4.o.row (G8 _) Hb.o _⟩)
  |skip)
 all_goals(first
  | (have q : TagN 10 := T
     clear q;go_wp2_with(first
      |(go_at_call 55;(try rw[<-hm3]);refine(cQ S (2) (0) n w2 H2.o.src (by omega) (by omega) (by omega) hn).mono ?_;rintro e w4 ⟨v,l,rfl,hi,hl,hk,hs⟩;obtain⟨pv,cv,rfl,hcv⟩:=hi;have HI:=zH (show IS (we (lo (w.heap.size+1)) w4) (GU pv l.length cv) l from IS.sub (bL w4 (show w.heap.size+1<=w2.heap.size from ai Z2.o)) ⟨pv,cv,rfl,hcv⟩);have Hk:=zH hk;have Hl:=zH hl;have H4:=zH (H2.o.trans hs);have Z4:=zH ((hs.block (ai Z2.o) Hb.o).trans Z2.o);clear hs hcv hk hl)
      |(with_reducible refine sR rfl 61 (.tmp 6) (.tmp 87) rfl rfl rfl Z4.o ?_))
     refine rB rfl w.heap.size 61 rfl (sH Z4.o) rfl rfl rfl ?_;exact⟨_,⟨12,0,0,aQ,l,[],0,0⟩,rfl,fV (nck _ HI.o) HEx.o HEl.o _,kP (.inr (.inl ⟨rfl,by have:=Hl.o;omega⟩)) Hk.o,H4.o.row (G8 _) Hb.o _⟩)
  |skip)
 all_goals(first
  | (have q : TagN 11 := T
     clear q;go_wp2_with(first
      |(go_at_call 56;refine(sX S n w2 H2.o.src (by omega) hn).mono ?_;rintro e w4 ⟨cs,X,rfl,hx,hq,hs⟩;obtain⟨p1,c1,p2,c2,rfl,hx1,hx2⟩:=hx;have HX:=zH (show NC (we (lo (w.heap.size+1)) w4) X _ from NC.sub (bL w4 (show w.heap.size+1<=w2.heap.size from ai Z2.o)) ⟨p1,c1,p2,c2,rfl,hx1,hx2⟩);have H4:=zH (H2.o.trans hs);have Z4:=zH ((hs.block (ai Z2.o) Hb.o).trans Z2.o);clear hs hx1 hx2)
      |(with_reducible refine sR rfl 61 (.tmp 6) (.tmp 92) rfl rfl rfl Z4.o ?_))
     refine rB rfl w.heap.size 61 rfl (sH Z4.o) rfl rfl rfl ?_;exact⟨_,X,rfl,fV HX.o HEx.o HEl.o _,EC hq,H4.o.row (G8 _) Hb.o _⟩)
  |skip)
 all_goals(first
  | (have q : TagN 12 := T
     clear q;go_wp2_with(first
      |(go_at_call 14;refine(aU S 3 w2 H2.o.src (by omega)).mono ?_;rintro e w3 ⟨y3,rfl,hs,h3a,h3b,-⟩;have h3b:=h3b (by omega);have H3:=zH (H2.o.trans hs);have Z3:=zH ((hs.block (ai Z2.o) Hb.o).trans Z2.o);clear hs;obtain⟨m3,hm3⟩:∃m:Nat,(m:Int)=1+y3:=⟨(1+y3).toNat,by omega⟩)
      |(go_at_call 55;(try rw[<-hm3]);refine(cQ S (m3) (0) n w3 H3.o.src (by omega) (by omega) (by omega) hn).mono ?_;rintro e w4 ⟨v,l,rfl,hi,hl,hk,hs⟩;obtain⟨pv,cv,rfl,hcv⟩:=hi;have HI:=zH (show IS (we (lo (w.heap.size+1)) w4) (GU pv l.length cv) l from IS.sub (bL w4 (show w.heap.size+1<=w3.heap.size from ai Z3.o)) ⟨pv,cv,rfl,hcv⟩);have Hk:=zH hk;have Hl:=zH hl;have H4:=zH (H3.o.trans hs);have Z4:=zH ((hs.block (ai Z3.o) Hb.o).trans Z3.o);clear hs hcv hk hl)
      |(with_reducible refine sR rfl 61 (.tmp 6) (.tmp 102) rfl rfl rfl Z4.o ?_))
     refine rB rfl w.heap.size 61 rfl (sH Z4.o) rfl rfl rfl ?_;exact⟨_,⟨14,0,0,aQ,l,[],0,0⟩,rfl,fV (nck _ HI.o) HEx.o HEl.o _,kP (.inr (.inr ⟨rfl,by have:=Hl.o;omega,by have:=Hl.o;omega⟩)) Hk.o,H4.o.row (G8 _) Hb.o _⟩)
  |skip)
 all_goals(first
  | (have q : TagN 13 := T
     clear q;go_wp2_with(first
      |(go_at_call 14;refine(aU S 3 w2 H2.o.src (by omega)).mono ?_;rintro e w3 ⟨y3,rfl,hs,h3a,h3b,-⟩;have h3b:=h3b (by omega);have H3:=zH (H2.o.trans hs);have Z3:=zH ((hs.block (ai Z2.o) Hb.o).trans Z2.o);clear hs;obtain⟨m3,hm3⟩:∃m:Nat,(m:Int)=1+y3:=⟨(1+y3).toNat,by omega⟩)
      |(go_at_call 55;(try rw[<-hm3]);refine(cQ S (m3) (0) n w3 H3.o.src (by omega) (by omega) (by omega) hn).mono ?_;rintro e w4 ⟨v,l,rfl,hi,hl,hk,hs⟩;obtain⟨pv,cv,rfl,hcv⟩:=hi;have HI:=zH (show IS (we (lo (w.heap.size+1)) w4) (GU pv l.length cv) l from IS.sub (bL w4 (show w.heap.size+1<=w3.heap.size from ai Z3.o)) ⟨pv,cv,rfl,hcv⟩);have Hk:=zH hk;have Hl:=zH hl;have H4:=zH (H3.o.trans hs);have Z4:=zH ((hs.block (ai Z3.o) Hb.o).trans Z3.o);clear hs hcv hk hl)
      |(with_reducible refine sR rfl 61 (.tmp 6) (.tmp 102) rfl rfl rfl Z4.o ?_))
     refine rB rfl w.heap.size 61 rfl (sH Z4.o) rfl rfl rfl ?_;exact⟨_,⟨14,0,0,aQ,l,[],0,0⟩,rfl,fV (nck _ HI.o) HEx.o HEl.o _,kP (.inr (.inr ⟨rfl,by have:=Hl.o;omega,by have:=Hl.o;omega⟩)) Hk.o,H4.o.row (G8 _) Hb.o _⟩)
  |skip)
 all_goals(first
  | (have q : TagN 14 := T
     clear q;go_wp2_with(first
      |(go_at_call 55;(try rw[<-hm3]);refine(cQ S (1) (i+1) n w2 H2.o.src (by omega) (by omega) (by omega) hn).mono ?_;rintro e w4 ⟨v,l,rfl,hi,hl,hk,hs⟩;obtain⟨pv,cv,rfl,hcv⟩:=hi;have HI:=zH (show IS (we (lo (w.heap.size+1)) w4) (GU pv l.length cv) l from IS.sub (bL w4 (show w.heap.size+1<=w2.heap.size from ai Z2.o)) ⟨pv,cv,rfl,hcv⟩);have Hk:=zH hk;have Hl:=zH hl;have H4:=zH (H2.o.trans hs);have Z4:=zH ((hs.block (ai Z2.o) Hb.o).trans Z2.o);clear hs hcv hk hl)
      |(with_reducible refine sR rfl 61 (.tmp 6) (.tmp 110) rfl rfl rfl Z4.o ?_))
     refine rB rfl w.heap.size 61 rfl (sH Z4.o) rfl rfl rfl ?_;exact⟨_,⟨18,0,0,aQ,l,[],0,0⟩,rfl,fV (nck _ HI.o) HEx.o HEl.o _,mO (.inl ⟨rfl,by have:=Hl.o;omega⟩) Hk.o h0i,H4.o.row (G8 _) Hb.o _⟩)
  |skip)
 all_goals(first
  | (have q : TagN 15 := T
     clear q;go_wp2_with(first
      |(go_at_call 55;(try rw[<-hm3]);refine(cQ S (2) (i+1) n w2 H2.o.src (by omega) (by omega) (by omega) hn).mono ?_;rintro e w4 ⟨v,l,rfl,hi,hl,hk,hs⟩;obtain⟨pv,cv,rfl,hcv⟩:=hi;have HI:=zH (show IS (we (lo (w.heap.size+1)) w4) (GU pv l.length cv) l from IS.sub (bL w4 (show w.heap.size+1<=w2.heap.size from ai Z2.o)) ⟨pv,cv,rfl,hcv⟩);have Hk:=zH hk;have Hl:=zH hl;have H4:=zH (H2.o.trans hs);have Z4:=zH ((hs.block (ai Z2.o) Hb.o).trans Z2.o);clear hs hcv hk hl)
      |(with_reducible refine sR rfl 61 (.tmp 6) (.tmp 118) rfl rfl rfl Z4.o ?_))
     refine rB rfl w.heap.size 61 rfl (sH Z4.o) rfl rfl rfl ?_;exact⟨_,⟨17,0,0,aQ,l,[],0,0⟩,rfl,fV (nck _ HI.o) HEx.o HEl.o _,mO (.inr ⟨.inr rfl,by have:=Hl.o;omega,by have:=Hl.o;omega⟩) Hk.o h0i,H4.o.row (G8 _) Hb.o _⟩)
  |skip)
 all_goals(first
  | (have q : TagN 16 := T
     clear q;go_wp2_with(first
      |(go_at_call 14;refine(aU S 2 w2 H2.o.src (by omega)).mono ?_;rintro e w3 ⟨y3,rfl,hs,h3a,h3b,-⟩;have h3b:=h3b (by omega);have H3:=zH (H2.o.trans hs);have Z3:=zH ((hs.block (ai Z2.o) Hb.o).trans Z2.o);clear hs;obtain⟨m3,hm3⟩:∃m:Nat,(m:Int)=2+y3:=⟨(2+y3).toNat,by omega⟩)
      |(go_at_call 55;(try rw[<-hm3]);refine(cQ S (m3) (i+1) n w3 H3.o.src (by omega) (by omega) (by omega) hn).mono ?_;rintro e w4 ⟨v,l,rfl,hi,hl,hk,hs⟩;obtain⟨pv,cv,rfl,hcv⟩:=hi;have HI:=zH (show IS (we (lo (w.heap.size+1)) w4) (GU pv l.length cv) l from IS.sub (bL w4 (show w.heap.size+1<=w3.heap.size from ai Z3.o)) ⟨pv,cv,rfl,hcv⟩);have Hk:=zH hk;have Hl:=zH hl;have H4:=zH (H3.o.trans hs);have Z4:=zH ((hs.block (ai Z3.o) Hb.o).trans Z3.o);clear hs hcv hk hl)
      |(with_reducible refine sR rfl 61 (.tmp 6) (.tmp 127) rfl rfl rfl Z4.o ?_))
     refine rB rfl w.heap.size 61 rfl (sH Z4.o) rfl rfl rfl ?_;exact⟨_,⟨16,0,0,aQ,l,[],0,0⟩,rfl,fV (nck _ HI.o) HEx.o HEl.o _,mO (.inr ⟨.inl rfl,by have:=Hl.o;omega,by have:=Hl.o;omega⟩) Hk.o h0i,H4.o.row (G8 _) Hb.o _⟩)
  |skip)
 all_goals(first
  | (have q : TagN 17 := T
     clear q;go_wp2_with(first
      |(go_at_call 14;refine(aU S 2 w2 H2.o.src (by omega)).mono ?_;rintro e w3 ⟨y3,rfl,hs,h3a,h3b,-⟩;have h3b:=h3b (by omega);have H3:=zH (H2.o.trans hs);have Z3:=zH ((hs.block (ai Z2.o) Hb.o).trans Z2.o);clear hs;obtain⟨m3,hm3⟩:∃m:Nat,(m:Int)=2+y3:=⟨(2+y3).toNat,by omega⟩)
      |(go_at_call 55;(try rw[<-hm3]);refine(cQ S (m3) (i+1) n w3 H3.o.src (by omega) (by omega) (by omega) hn).mono ?_;rintro e w4 ⟨v,l,rfl,hi,hl,hk,hs⟩;obtain⟨pv,cv,rfl,hcv⟩:=hi;have HI:=zH (show IS (we (lo (w.heap.size+1)) w4) (GU pv l.length cv) l from IS.sub (bL w4 (show w.heap.size+1<=w3.heap.size from ai Z3.o)) ⟨pv,cv,rfl,hcv⟩);have Hk:=zH hk;have Hl:=zH hl;have H4:=zH (H3.o.trans hs);have Z4:=zH ((hs.block (ai Z3.o) Hb.o).trans Z3.o);clear hs hcv hk hl)
      |(with_reducible refine sR rfl 61 (.tmp 6) (.tmp 127) rfl rfl rfl Z4.o ?_))
     refine rB rfl w.heap.size 61 rfl (sH Z4.o) rfl rfl rfl ?_;exact⟨_,⟨16,0,0,aQ,l,[],0,0⟩,rfl,fV (nck _ HI.o) HEx.o HEl.o _,mO (.inr ⟨.inl rfl,by have:=Hl.o;omega,by have:=Hl.o;omega⟩) Hk.o h0i,H4.o.row (G8 _) Hb.o _⟩)
  |skip)
end Go.Proofs.YtfpahmeploondaaGreatDoor
