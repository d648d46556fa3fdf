/- Walks and plain facts for the laws of membership, for all values and types that the heap holds (texts J4 PDecides). -/
import Derived.Test.YtjgldaaofdpcgaaGreatRows
import Derived.WalkKit
import Derived.ProofKit
import Derived.OpenShut
import Derived.ShutString
import Derived.Below
import Derived.ChangeOld
import Derived.JoinedCond
import Derived.Test.YtjgldaaofdpcgaaGreatW03
import Derived.Test.YtjgldaaofdpcgaaGreatW04
import Derived.Test.YtjgldaaofdpcgaaGreatW15
import Derived.Test.YtjgldaaofdpcgaaGreatW45
set_option linter.unusedVariables false
set_option linter.unusedSimpArgs false
namespace Go.Proofs.YtjgldaaofdpcgaaGreat
open Go.RowKit Go.Ident
set_option maxRecDepth 100000
set_option maxHeartbeats 64000000 in
theorem teo (p q : Option Addr) (c d : Nat) (L M : List Int) (A : VV) (R : Ty) (va vr : Value) (node : Int) (w : World) (hL : IS w (.slice p L.length c) L) (hM : IS w (.slice q M.length d) M) (hA : VW w va A) (hR : TS w vr R) (hAn : A.nodes ≤ 1048576)
    (hRk : ∀ n ∈ R.nodes,n.kids.length ≤ 1048576 ∧ n.fields.length ≤ 1048576) : Calls Tryz.prog 3 #[.slice p L.length c,.slice q M.length d,va,vr,.int .i64 node] w (ER true w):=by
  obtain ⟨da,v1,b1,v2,b2,v3,b3,v4,b4,rfl,-,-,-,-,-⟩:=hA.ex
  obtain ⟨pr,cr,rfl,hRr,-⟩:=id hR
  have hrb:=hRr.big
  obtain ⟨w2,e9,hB1,hB2,hb⟩:=t1f w (.cells #[.int .i64 A.kind,.int .i64 A.num,.string A.text,.slice v1 A.kids.length b1,.slice v2 A.keys.length b2,.slice v3 A.ents.length b3,.slice v4 A.labels.length b4] 28) (.cells #[.slice pr R.nodes.length cr,.int .i64 R.root] 31)
  have hA1:=heap_alloc_new w2 (.cells #[.slice p L.length c,.slice q M.length d] 22)
  have hb1 : Below w2.heap.size w2 (w2.alloc (.cells #[.slice p L.length c,.slice q M.length d] 22)):=(Below.refl _ _).alloc (Nat.le_refl _) _
  have hbw : Below w.heap.size w (w2.alloc (.cells #[.slice p L.length c,.slice q M.length d] 22)):=hb.step hb1
  have Hsh:=zH (thi w2.heap.size p q L.length M.length c d _ hA1)
  have HL:=zH (hL.below hbw);have HM:=zH (hM.below hbw);have HA:=zH (hA.below hbw);have HR:=zH (hR.below hbw);have Hbw:=zH hbw
  have HB1:=zH ((hb1.block _ (t0a hB1)).trans hB1);have HB2:=zH ((hb1.block _ (t0a hB2)).trans hB2)
  have E9:=zH e9
  have HAn:=zH hAn;have HRk:=zH hRk
  clear hA1 hb1 hbw hb hB1 hB2 e9 hL hM hA hR hRr hRk
  go_enter Tryz.func3,Tryz.ntmps3
  go_upto_region 1 with fail
  rw [E9.out]
  clear E9
  have hAL:=heap_alloc_new w2 (.cells #[.slice p L.length c,.slice q M.length d] 22)
  clear hAL
  cases hsh : (decide (L.length ≤ 80) && decide (M.length ≤ 80)) with
  | false =>
    have hs2:=Hsh.out
    rw [hsh] at hs2
    have Hs:=zH hs2
    clear hsh hs2 Hsh
    go_wp2_with (first
      | (go_at_call 8;refine Hs.out.mono ?_;rintro e w4 ⟨rfl,hb4⟩;have Hb4:=zH hb4;obtain ⟨⟨f0,f1,f2,f3⟩,f4,f5,f6⟩:=t0f ((hb4.block _ (t0a HB1.out)).trans HB1.out);obtain ⟨r0,r1⟩:=t0k ((hb4.block _ (t0a HB2.out)).trans HB2.out);clear hb4)
      | (go_at_call 10;refine (t7e w4).mono ?_;rintro e w9 ⟨rfl,hb9⟩;have Hb9:=zH (Hbw.out.step (Hb4.out.step hb9));clear hb9))
    go_ret
    exact ⟨rfl,Hb9.out⟩
  | true =>
    have hs2:=Hsh.out
    rw [hsh] at hs2
    have Hs:=zH hs2
    have hl80 : L.length ≤ 80 ∧ M.length ≤ 80:=by simpa using hsh
    obtain ⟨hl80,hm80⟩:=hl80
    clear hsh hs2 Hsh
    by_cases h60 : A.nodes ≤ 60
    rotate_left
    · have d1 : decide (60 < A.nodes) = true:=by simp;omega
      have d2 : decide ((60 : Int) < (A.nodes : Int)) = true:=by simp;omega
      clear h60
      go_wp2_with (first
        | (go_at_call 8;refine Hs.out.mono ?_;rintro e w4 ⟨rfl,hb4⟩;have Hb4:=zH hb4;obtain ⟨⟨f0,f1,f2,f3⟩,f4,f5,f6⟩:=t0f ((hb4.block _ (t0a HB1.out)).trans HB1.out);obtain ⟨r0,r1⟩:=t0k ((hb4.block _ (t0a HB2.out)).trans HB2.out);clear hb4)
        | (go_at_call 9;refine (t8l A w4 _ (HA.out.below Hb4.out) HAn.out).mono ?_;rintro e w5 ⟨rfl,hb5⟩;have Hb5:=zH (Hb4.out.step hb5);clear f0 f1 f2 f3 f4 f5 f6 r0 r1;obtain ⟨⟨f0,f1,f2,f3⟩,f4,f5,f6⟩:=t0f ((Hb5.out.block _ (t0a HB1.out)).trans HB1.out);obtain ⟨r0,r1⟩:=t0k ((Hb5.out.block _ (t0a HB2.out)).trans HB2.out);clear hb5)
        | (go_at_call 10;refine (t7e w5).mono ?_;rintro e w9 ⟨rfl,hb9⟩;have Hb9:=zH (Hbw.out.step (Hb5.out.step hb9));clear hb9))
      go_ret
      exact ⟨rfl,Hb9.out⟩
    have d1 : decide (60 < A.nodes) = false:=by simp;omega
    have d2 : decide ((60 : Int) < (A.nodes : Int)) = false:=by simp;omega
    have H60:=zH h60
    clear h60
    by_cases h40 : R.nodes.length ≤ 40
    rotate_left
    · have d3 : decide (40 < R.nodes.length) = true:=by simp;omega
      have d4 : decide ((40 : Int) < (R.nodes.length : Int)) = true:=by simp;omega
      clear h40
      go_wp2_with (first
        | (go_at_call 8;refine Hs.out.mono ?_;rintro e w4 ⟨rfl,hb4⟩;have Hb4:=zH hb4;obtain ⟨⟨f0,f1,f2,f3⟩,f4,f5,f6⟩:=t0f ((hb4.block _ (t0a HB1.out)).trans HB1.out);obtain ⟨r0,r1⟩:=t0k ((hb4.block _ (t0a HB2.out)).trans HB2.out);clear hb4)
        | (go_at_call 9;refine (t8l A w4 _ (HA.out.below Hb4.out) HAn.out).mono ?_;rintro e w5 ⟨rfl,hb5⟩;have Hb5:=zH (Hb4.out.step hb5);clear f0 f1 f2 f3 f4 f5 f6 r0 r1;obtain ⟨⟨f0,f1,f2,f3⟩,f4,f5,f6⟩:=t0f ((Hb5.out.block _ (t0a HB1.out)).trans HB1.out);obtain ⟨r0,r1⟩:=t0k ((Hb5.out.block _ (t0a HB2.out)).trans HB2.out);clear hb5)
        | (go_at_call 10;refine (t7e w5).mono ?_;rintro e w9 ⟨rfl,hb9⟩;have Hb9:=zH (Hbw.out.step (Hb5.out.step hb9));clear hb9))
      go_ret
      exact ⟨rfl,Hb9.out⟩
    have d3 : decide (40 < R.nodes.length) = false:=by simp;omega
    have d4 : decide ((40 : Int) < (R.nodes.length : Int)) = false:=by simp;omega
    have H40:=zH h40
    clear h40
    go_upto_region 3 with (first
      | (go_at_call 8;refine Hs.out.mono ?_;rintro e w4 ⟨rfl,hb4⟩;have Hb4:=zH hb4;obtain ⟨⟨f0,f1,f2,f3⟩,f4,f5,f6⟩:=t0f ((hb4.block _ (t0a HB1.out)).trans HB1.out);obtain ⟨r0,r1⟩:=t0k ((hb4.block _ (t0a HB2.out)).trans HB2.out);clear hb4)
      | (go_at_call 9;refine (t8l A w4 _ (HA.out.below Hb4.out) HAn.out).mono ?_;rintro e w5 ⟨rfl,hb5⟩;have Hb5:=zH (Hb4.out.step hb5);clear f0 f1 f2 f3 f4 f5 f6 r0 r1;obtain ⟨⟨f0,f1,f2,f3⟩,f4,f5,f6⟩:=t0f ((Hb5.out.block _ (t0a HB1.out)).trans HB1.out);obtain ⟨r0,r1⟩:=t0k ((Hb5.out.block _ (t0a HB2.out)).trans HB2.out);clear hb5))
    generalize w2.alloc (.cells #[.slice p L.length c,.slice q M.length d] 22) = wz at *
    have HLz:=zH (HL.out.below Hb5.out);have HMz:=zH (HM.out.below Hb5.out)
    clear Hb4
    go_upto_region 4 with (go_at_call 11;refine (thl p q c d L M w5 HLz.out HMz.out (by omega) (by omega)).mono ?_;rintro e w6 ⟨tv,T,v,V,n,B,rfl,ht,-,hd,h1n,h7n,hv,hvv,hnn,hB,hb6⟩;obtain ⟨pT,cT,rfl,-,-⟩:=(id ht);obtain ⟨dv,cs,rfl,hv⟩:=hv;obtain ⟨x1,x2,x3,x4,x5,x6,x7,x8,rfl⟩:=hv.seven;have HT:=zH (ht.sub (t3q _ _));have HD:=zH hd;have HV:=zH (show VW w6 (.agg #[.int .i64 V.kind,.int .i64 V.num,.string V.text,.slice x1 V.kids.length x2,.slice x3 V.keys.length x4,.slice x5 V.ents.length x6,.slice x7 V.labels.length x8]) V from ⟨dv,_,rfl,hv.sub (t3q _ _)⟩);have Hnn:=zH hnn;have Hb6:=zH (Hb5.out.step hb6);have H1n:=zH h1n;have H7n:=zH h7n;clear ht hd hv hvv hnn hB hb6 h1n h7n)
    obtain ⟨w7,e7,hT7,hV7,hb7⟩:=t1f w6 (.cells #[.slice pT T.nodes.length cT,.int .i64 T.root] 31) (.cells #[.int .i64 V.kind,.int .i64 V.num,.string V.text,.slice x1 V.kids.length x2,.slice x3 V.keys.length x4,.slice x5 V.ents.length x6,.slice x7 V.labels.length x8] 28)
    rw [e7]
    have HT7:=zH hT7;have HV7:=zH hV7;have Hb7:=zH hb7
    have HDl:=zH HD.out.len
    clear e7 hT7 hV7 hb7 f0 f1 f2 f3 f4 f5 f6 r0 r1 d1 d2 d3 d4
    go_upto_region 5 with fail
    have hB8:=heap_alloc_new w7 (.cells #[.slice q M.length d,.int .i64 0] 39)
    have hb8 : Below w7.heap.size w7 (w7.alloc (.cells #[.slice q M.length d,.int .i64 0] 39)):=(Below.refl _ _).alloc (Nat.le_refl _) _
    generalize w7.alloc (.cells #[.slice q M.length d,.int .i64 0] 39) = w8 at *
    have Hb78:=zH hb8
    have hs7 : wz.heap.size ≤ w7.heap.size:=(Hb6.out.step Hb7.out).size
    have HS8:=zH (SR.refl (tbw (HM.out.below (Hb6.out.step Hb7.out)) hb8 (Nat.le_refl _) hB8 (by omega)))
    generalize hbs : w7.heap.size = bs at *
    have Hbs:=zH hbs
    clear hB8 hb8 hbs
    go_upto_region 6 with (go_at_call 12;refine (tcb ⟨bs,q,d,M⟩ 4 4 (by decide) (by decide) w8 HS8.out.src).mono ?_;rintro e w9 ⟨v9,X,rfl,hx,hq,hs⟩;obtain ⟨dx,cx,rfl,hx⟩:=hx;obtain ⟨y1,y2,y3,y4,y5,y6,y7,y8,rfl⟩:=hx.seven;have HX9:=zH (show VW w9 (.agg #[.int .i64 X.kind,.int .i64 X.num,.string X.text,.slice y1 X.kids.length y2,.slice y3 X.keys.length y4,.slice y5 X.ents.length y6,.slice y7 X.labels.length y8]) X from ⟨dx,_,rfl,hx.sub (t3q _ _)⟩);have Hxn:=zH (show X.nodes ≤ 1048576 from Nat.le_trans hq (by decide));have Hb79:=zH (show Below bs w7 w9 from (Hbs.out ▸ Hb78.out : Below bs w7 w8).trans (hs.old (Nat.le_refl bs)));clear hx hq hs)
    have hB10:=heap_alloc_new w9 (.cells #[.int .i64 X.kind,.int .i64 X.num,.string X.text,.slice y1 X.kids.length y2,.slice y3 X.keys.length y4,.slice y5 X.ents.length y6,.slice y7 X.labels.length y8] 28)
    have hb10 : Below w9.heap.size w9 (w9.alloc (.cells #[.int .i64 X.kind,.int .i64 X.num,.string X.text,.slice y1 X.kids.length y2,.slice y3 X.keys.length y4,.slice y5 X.ents.length y6,.slice y7 X.labels.length y8] 28)):=(Below.refl _ _).alloc (Nat.le_refl _) _
    generalize w9.alloc (.cells #[.int .i64 X.kind,.int .i64 X.num,.string X.text,.slice y1 X.kids.length y2,.slice y3 X.keys.length y4,.slice y5 X.ents.length y6,.slice y7 X.labels.length y8] 28) = w10 at *
    have hsz9 : bs ≤ w9.heap.size:=by have:=Hb79.out.size;have:=Hbs.out;omega
    have Hb710:=zH (show Below w7.heap.size w7 w10 by rw [Hbs.out];exact Hb79.out.trans (hb10.mono hsz9))
    have HX10:=zH hB10;have HXW:=zH (HX9.out.below hb10)
    have Hbz:=zH (Hb6.out.step Hb7.out |>.step Hb710.out)
    clear hB10 hb10
    have hn1 : 1 ≤ T.nodes.length:=by have:=HDl.out;have:=H1n.out;omega
    have hn7 : T.nodes.length ≤ 7:=by have:=HDl.out;have:=H7n.out;omega
    have HT10:=zH ((Hb710.out.block _ (t0a HT7.out)).trans HT7.out)
    have HV10:=zH ((Hb710.out.block _ (t0a HV7.out)).trans HV7.out)
    have HA10:=zH ((Hbz.out.block _ (t0a HB1.out)).trans HB1.out)
    have HR10:=zH ((Hbz.out.block _ (t0a HB2.out)).trans HB2.out)
    obtain ⟨t0,t1⟩:=t0k HT10.out
    go_upto_region 7 with fail
    have hsT : SzT T:=dt_sz HD.out (by have:=H7n.out;omega)
    have hsR : SzT R:=⟨by have:=H40.out;unfold Ty.len;omega,HRk.out⟩
    have hTb:=fun (w' : World) (hb : Below w10.heap.size w10 w')=>HT.out.below (Hb7.out.step (Hb710.out.step hb))
    have hVb:=fun (w' : World) (hb : Below w10.heap.size w10 w')=>HV.out.below (Hb7.out.step (Hb710.out.step hb))
    have hXb:=fun (w' : World) (hb : Below w10.heap.size w10 w')=>HXW.out.below hb
    have hAb:=fun (w' : World) (hb : Below w10.heap.size w10 w')=>HA.out.below (Hbz.out.step hb)
    have hRb:=fun (w' : World) (hb : Below w10.heap.size w10 w')=>HR.out.below (Hbz.out.step hb)
    have hVn : V.nodes ≤ 1048576:=Nat.le_trans Hnn.out (by decide)
    generalize wrap64 ((IntKind.u64.wrap node).tmod (T.nodes.length : Int)) = kk
    have Hc1:=zH (fun (w' : World) (hb : Below w10.heap.size w10 w')=>t4j T V kk w' _ _ (hVb w' hb) (hTb w' hb) hVn hsT)
    have Hc2:=zH (fun (w' : World) (hb : Below w10.heap.size w10 w')=>t3w T V kk w' _ _ (hVb w' hb) (hTb w' hb) hsT)
    have Hc3:=zH (fun (w' : World) (hb : Below w10.heap.size w10 w')=>t4j T X kk w' _ _ (hXb w' hb) (hTb w' hb) Hxn.out hsT)
    have Hc4:=zH (fun (w' : World) (hb : Below w10.heap.size w10 w')=>t3w T X kk w' _ _ (hXb w' hb) (hTb w' hb) hsT)
    have Hc5:=zH (fun (w' : World) (hb : Below w10.heap.size w10 w')=>t4j T V node w' _ _ (hVb w' hb) (hTb w' hb) hVn hsT)
    have Hc6:=zH (fun (w' : World) (hb : Below w10.heap.size w10 w')=>t3w T V node w' _ _ (hVb w' hb) (hTb w' hb) hsT)
    have Hc7:=zH (fun (w' : World) (hb : Below w10.heap.size w10 w')=>t6l T A w' _ _ (hAb w' hb) (hTb w' hb) HAn.out hsT)
    have Hc8:=zH (fun (w' : World) (hb : Below w10.heap.size w10 w')=>t8t T A w' _ _ (hAb w' hb) (hTb w' hb) hsT)
    have Hc9:=zH (fun (w' : World) (hb : Below w10.heap.size w10 w')=>t6l R V w' _ _ (hVb w' hb) (hRb w' hb) hVn hsR)
    have Hc10:=zH (fun (w' : World) (hb : Below w10.heap.size w10 w')=>t8t R V w' _ _ (hVb w' hb) (hRb w' hb) hsR)
    generalize mof T V kk = m1 at *
    generalize mof T X kk = m2 at *
    generalize mof T V node = m3 at *
    generalize mof T A T.root = m4 at *
    generalize mof R V R.root = m5 at *
    have Hw10:=zH (Hbw.out.step Hbz.out)
    clear hsT hsR hTb hVb hXb hAb hRb t0 t1 Hbz Hb710 Hb79 Hb78
    generalize w9.heap.size = bx at *
    generalize hbt : w6.heap.size = bt at *
    generalize hbv : bt + 1 = bv at *
    generalize hba : w.heap.size = ba at *
    generalize hbr : ba + 1 = br at *
    clear hbt hbv hbr
    have Hba:=zH hba
    clear hba
    have Y0t:=zH (show w10.drew.cell? ⟨bt,0,none⟩ = _ from (t0k HT10.out).1)
    have Lt:=zH (show bt < w10.drew.heap.size from t0a HT10.out)
    have Rt:=zH (show w10.drew.heap[bt]? = _ from HT10.out)
    have Y0v:=zH (show w10.drew.cell? ⟨bv,0,none⟩ = _ from (t0f HV10.out).1.1)
    have Lv:=zH (show bv < w10.drew.heap.size from t0a HV10.out)
    have Rv:=zH (show w10.drew.heap[bv]? = _ from HV10.out)
    have Y0a:=zH (show w10.drew.cell? ⟨ba,0,none⟩ = _ from (t0f HA10.out).1.1)
    have La:=zH (show ba < w10.drew.heap.size from t0a HA10.out)
    have Ra:=zH (show w10.drew.heap[ba]? = _ from HA10.out)
    have Y0r:=zH (show w10.drew.cell? ⟨br,0,none⟩ = _ from (t0k HR10.out).1)
    have Lr:=zH (show br < w10.drew.heap.size from t0a HR10.out)
    have Rr:=zH (show w10.drew.heap[br]? = _ from HR10.out)
    have Y0x:=zH (show w10.drew.cell? ⟨bx,0,none⟩ = _ from (t0f HX10.out).1.1)
    have Lx:=zH (show bx < w10.drew.heap.size from t0a HX10.out)
    have Rx:=zH (show w10.drew.heap[bx]? = _ from HX10.out)
    have B0:=zH (show Below w10.heap.size w10 w10.drew from (Below.refl _ _).drew)
    obtain ⟨zt0,zt1⟩:=t0k HT10.out
    obtain ⟨⟨zv0,zv1,zv2,zv3⟩,zv4,zv5,zv6⟩:=t0f HV10.out
    obtain ⟨⟨za0,za1,za2,za3⟩,za4,za5,za6⟩:=t0f HA10.out
    obtain ⟨zr0,zr1⟩:=t0k HR10.out
    obtain ⟨⟨zx0,zx1,zx2,zx3⟩,zx4,zx5,zx6⟩:=t0f HX10.out
    go_wp2_with (first
      | ((with_reducible refine Lex.t0w ?_);refine fE (by repeat first | exact LexK.t0t | refine LexK.t0o rfl ?_ | refine LexK.t0p (by decide +kernel) ?_ | refine LexK.t0c rfl Lt.out Y0t.out ?_ | refine LexK.t0c rfl Lv.out Y0v.out ?_ | refine LexK.t0c rfl La.out Y0a.out ?_ | refine LexK.t0c rfl Lr.out Y0r.out ?_ | refine LexK.t0c rfl Lx.out Y0x.out ?_) ?_)
      | ((with_reducible refine Lex.t0q ?_);refine LexK.t0h (fun x=>x < w10.drew.heap.size) (by kernel_rfl) (by decide +kernel) ?_)
      | (with_reducible first | refine qH ?_ | refine LexK.t0s ?_ | refine LexK.t0v ?_)
      | ((with_reducible refine Lex.t1b ?_);first | (with_reducible refine LexK.t0e Hext.out ?_) | (refine LexK.t0e (LexK.Ext.alloc _ _) ?_) | (refine LexK.t0e (LexK.Ext.refl _) ?_))
      | (go_at_call 13;((with_reducible refine (Hc1.out w10.drew B0.out).mono ?_);rintro e x0 ⟨rfl,q⟩;have Hext:=zH (LexK.Ext.of_below (Kp:=fun x=>x < w10.drew.heap.size) q (Nat.le_refl _));have B1:=zH (B0.out.step q);have q0 : Below w10.drew.heap.size w10.drew x0:=q;have Q0:=zH q0;clear zt0 zt1;obtain ⟨z0_t0,z0_t1⟩:=t0k ((q0.block _ Lt.out).trans Rt.out);clear zv0 zv1 zv2 zv3 zv4 zv5 zv6;obtain ⟨⟨z0_v0,z0_v1,z0_v2,z0_v3⟩,z0_v4,z0_v5,z0_v6⟩:=t0f ((q0.block _ Lv.out).trans Rv.out);clear za0 za1 za2 za3 za4 za5 za6;obtain ⟨⟨z0_a0,z0_a1,z0_a2,z0_a3⟩,z0_a4,z0_a5,z0_a6⟩:=t0f ((q0.block _ La.out).trans Ra.out);clear zr0 zr1;obtain ⟨z0_r0,z0_r1⟩:=t0k ((q0.block _ Lr.out).trans Rr.out);clear zx0 zx1 zx2 zx3 zx4 zx5 zx6;obtain ⟨⟨z0_x0,z0_x1,z0_x2,z0_x3⟩,z0_x4,z0_x5,z0_x6⟩:=t0f ((q0.block _ Lx.out).trans Rx.out);clear q q0))
      | (go_at_call 14;((with_reducible refine (Hc2.out x0 B1.out).mono ?_);rintro e x1 ⟨rfl,q⟩;have Hext:=zH (LexK.Ext.of_below (Kp:=fun x=>x < w10.drew.heap.size) q (Nat.le_refl _));have B2:=zH (B1.out.step q);have q0 : Below w10.drew.heap.size w10.drew x1:=Q0.out.trans (q.mono Q0.out.size);have Q1:=zH q0;clear z0_t0 z0_t1;obtain ⟨z1_t0,z1_t1⟩:=t0k ((q0.block _ Lt.out).trans Rt.out);clear z0_v0 z0_v1 z0_v2 z0_v3 z0_v4 z0_v5 z0_v6;obtain ⟨⟨z1_v0,z1_v1,z1_v2,z1_v3⟩,z1_v4,z1_v5,z1_v6⟩:=t0f ((q0.block _ Lv.out).trans Rv.out);clear z0_a0 z0_a1 z0_a2 z0_a3 z0_a4 z0_a5 z0_a6;obtain ⟨⟨z1_a0,z1_a1,z1_a2,z1_a3⟩,z1_a4,z1_a5,z1_a6⟩:=t0f ((q0.block _ La.out).trans Ra.out);clear z0_r0 z0_r1;obtain ⟨z1_r0,z1_r1⟩:=t0k ((q0.block _ Lr.out).trans Rr.out);clear z0_x0 z0_x1 z0_x2 z0_x3 z0_x4 z0_x5 z0_x6;obtain ⟨⟨z1_x0,z1_x1,z1_x2,z1_x3⟩,z1_x4,z1_x5,z1_x6⟩:=t0f ((q0.block _ Lx.out).trans Rx.out);clear q q0))
      | (go_at_call 13;((with_reducible refine (Hc3.out x1 B2.out).mono ?_);rintro e x2 ⟨rfl,q⟩;have Hext:=zH (LexK.Ext.of_below (Kp:=fun x=>x < w10.drew.heap.size) q (Nat.le_refl _));have B3:=zH (B2.out.step q);have q0 : Below w10.drew.heap.size w10.drew x2:=Q1.out.trans (q.mono Q1.out.size);have Q2:=zH q0;clear z1_t0 z1_t1;obtain ⟨z2_t0,z2_t1⟩:=t0k ((q0.block _ Lt.out).trans Rt.out);clear z1_v0 z1_v1 z1_v2 z1_v3 z1_v4 z1_v5 z1_v6;obtain ⟨⟨z2_v0,z2_v1,z2_v2,z2_v3⟩,z2_v4,z2_v5,z2_v6⟩:=t0f ((q0.block _ Lv.out).trans Rv.out);clear z1_a0 z1_a1 z1_a2 z1_a3 z1_a4 z1_a5 z1_a6;obtain ⟨⟨z2_a0,z2_a1,z2_a2,z2_a3⟩,z2_a4,z2_a5,z2_a6⟩:=t0f ((q0.block _ La.out).trans Ra.out);clear z1_r0 z1_r1;obtain ⟨z2_r0,z2_r1⟩:=t0k ((q0.block _ Lr.out).trans Rr.out);clear z1_x0 z1_x1 z1_x2 z1_x3 z1_x4 z1_x5 z1_x6;obtain ⟨⟨z2_x0,z2_x1,z2_x2,z2_x3⟩,z2_x4,z2_x5,z2_x6⟩:=t0f ((q0.block _ Lx.out).trans Rx.out);clear q q0))
      | (go_at_call 14;((with_reducible refine (Hc4.out x2 B3.out).mono ?_);rintro e x3 ⟨rfl,q⟩;have Hext:=zH (LexK.Ext.of_below (Kp:=fun x=>x < w10.drew.heap.size) q (Nat.le_refl _));have B4:=zH (B3.out.step q);have q0 : Below w10.drew.heap.size w10.drew x3:=Q2.out.trans (q.mono Q2.out.size);have Q3:=zH q0;clear z2_t0 z2_t1;obtain ⟨z3_t0,z3_t1⟩:=t0k ((q0.block _ Lt.out).trans Rt.out);clear z2_v0 z2_v1 z2_v2 z2_v3 z2_v4 z2_v5 z2_v6;obtain ⟨⟨z3_v0,z3_v1,z3_v2,z3_v3⟩,z3_v4,z3_v5,z3_v6⟩:=t0f ((q0.block _ Lv.out).trans Rv.out);clear z2_a0 z2_a1 z2_a2 z2_a3 z2_a4 z2_a5 z2_a6;obtain ⟨⟨z3_a0,z3_a1,z3_a2,z3_a3⟩,z3_a4,z3_a5,z3_a6⟩:=t0f ((q0.block _ La.out).trans Ra.out);clear z2_r0 z2_r1;obtain ⟨z3_r0,z3_r1⟩:=t0k ((q0.block _ Lr.out).trans Rr.out);clear z2_x0 z2_x1 z2_x2 z2_x3 z2_x4 z2_x5 z2_x6;obtain ⟨⟨z3_x0,z3_x1,z3_x2,z3_x3⟩,z3_x4,z3_x5,z3_x6⟩:=t0f ((q0.block _ Lx.out).trans Rx.out);clear q q0))
      | (go_at_call 13;((with_reducible refine (Hc5.out x3 B4.out).mono ?_);rintro e x4 ⟨rfl,q⟩;have Hext:=zH (LexK.Ext.of_below (Kp:=fun x=>x < w10.drew.heap.size) q (Nat.le_refl _));have B5:=zH (B4.out.step q);have q0 : Below w10.drew.heap.size w10.drew x4:=Q3.out.trans (q.mono Q3.out.size);have Q4:=zH q0;clear z3_t0 z3_t1;obtain ⟨z4_t0,z4_t1⟩:=t0k ((q0.block _ Lt.out).trans Rt.out);clear z3_v0 z3_v1 z3_v2 z3_v3 z3_v4 z3_v5 z3_v6;obtain ⟨⟨z4_v0,z4_v1,z4_v2,z4_v3⟩,z4_v4,z4_v5,z4_v6⟩:=t0f ((q0.block _ Lv.out).trans Rv.out);clear z3_a0 z3_a1 z3_a2 z3_a3 z3_a4 z3_a5 z3_a6;obtain ⟨⟨z4_a0,z4_a1,z4_a2,z4_a3⟩,z4_a4,z4_a5,z4_a6⟩:=t0f ((q0.block _ La.out).trans Ra.out);clear z3_r0 z3_r1;obtain ⟨z4_r0,z4_r1⟩:=t0k ((q0.block _ Lr.out).trans Rr.out);clear z3_x0 z3_x1 z3_x2 z3_x3 z3_x4 z3_x5 z3_x6;obtain ⟨⟨z4_x0,z4_x1,z4_x2,z4_x3⟩,z4_x4,z4_x5,z4_x6⟩:=t0f ((q0.block _ Lx.out).trans Rx.out);clear q q0))
      | (go_at_call 14;((with_reducible refine (Hc6.out x4 B5.out).mono ?_);rintro e x5 ⟨rfl,q⟩;have Hext:=zH (LexK.Ext.of_below (Kp:=fun x=>x < w10.drew.heap.size) q (Nat.le_refl _));have B6:=zH (B5.out.step q);have q0 : Below w10.drew.heap.size w10.drew x5:=Q4.out.trans (q.mono Q4.out.size);have Q5:=zH q0;clear z4_t0 z4_t1;obtain ⟨z5_t0,z5_t1⟩:=t0k ((q0.block _ Lt.out).trans Rt.out);clear z4_v0 z4_v1 z4_v2 z4_v3 z4_v4 z4_v5 z4_v6;obtain ⟨⟨z5_v0,z5_v1,z5_v2,z5_v3⟩,z5_v4,z5_v5,z5_v6⟩:=t0f ((q0.block _ Lv.out).trans Rv.out);clear z4_a0 z4_a1 z4_a2 z4_a3 z4_a4 z4_a5 z4_a6;obtain ⟨⟨z5_a0,z5_a1,z5_a2,z5_a3⟩,z5_a4,z5_a5,z5_a6⟩:=t0f ((q0.block _ La.out).trans Ra.out);clear z4_r0 z4_r1;obtain ⟨z5_r0,z5_r1⟩:=t0k ((q0.block _ Lr.out).trans Rr.out);clear z4_x0 z4_x1 z4_x2 z4_x3 z4_x4 z4_x5 z4_x6;obtain ⟨⟨z5_x0,z5_x1,z5_x2,z5_x3⟩,z5_x4,z5_x5,z5_x6⟩:=t0f ((q0.block _ Lx.out).trans Rx.out);clear q q0))
      | (go_at_call 15;((with_reducible refine (Hc7.out x5 B6.out).mono ?_);rintro e x6 ⟨rfl,q⟩;have Hext:=zH (LexK.Ext.of_below (Kp:=fun x=>x < w10.drew.heap.size) q (Nat.le_refl _));have B7:=zH (B6.out.step q);have q0 : Below w10.drew.heap.size w10.drew x6:=Q5.out.trans (q.mono Q5.out.size);have Q6:=zH q0;clear z5_t0 z5_t1;obtain ⟨z6_t0,z6_t1⟩:=t0k ((q0.block _ Lt.out).trans Rt.out);clear z5_v0 z5_v1 z5_v2 z5_v3 z5_v4 z5_v5 z5_v6;obtain ⟨⟨z6_v0,z6_v1,z6_v2,z6_v3⟩,z6_v4,z6_v5,z6_v6⟩:=t0f ((q0.block _ Lv.out).trans Rv.out);clear z5_a0 z5_a1 z5_a2 z5_a3 z5_a4 z5_a5 z5_a6;obtain ⟨⟨z6_a0,z6_a1,z6_a2,z6_a3⟩,z6_a4,z6_a5,z6_a6⟩:=t0f ((q0.block _ La.out).trans Ra.out);clear z5_r0 z5_r1;obtain ⟨z6_r0,z6_r1⟩:=t0k ((q0.block _ Lr.out).trans Rr.out);clear z5_x0 z5_x1 z5_x2 z5_x3 z5_x4 z5_x5 z5_x6;obtain ⟨⟨z6_x0,z6_x1,z6_x2,z6_x3⟩,z6_x4,z6_x5,z6_x6⟩:=t0f ((q0.block _ Lx.out).trans Rx.out);clear q q0))
      | (go_at_call 16;((with_reducible refine (Hc8.out x6 B7.out).mono ?_);rintro e x7 ⟨rfl,q⟩;have Hext:=zH (LexK.Ext.of_below (Kp:=fun x=>x < w10.drew.heap.size) q (Nat.le_refl _));have B8:=zH (B7.out.step q);have q0 : Below w10.drew.heap.size w10.drew x7:=Q6.out.trans (q.mono Q6.out.size);have Q7:=zH q0;clear z6_t0 z6_t1;obtain ⟨z7_t0,z7_t1⟩:=t0k ((q0.block _ Lt.out).trans Rt.out);clear z6_v0 z6_v1 z6_v2 z6_v3 z6_v4 z6_v5 z6_v6;obtain ⟨⟨z7_v0,z7_v1,z7_v2,z7_v3⟩,z7_v4,z7_v5,z7_v6⟩:=t0f ((q0.block _ Lv.out).trans Rv.out);clear z6_a0 z6_a1 z6_a2 z6_a3 z6_a4 z6_a5 z6_a6;obtain ⟨⟨z7_a0,z7_a1,z7_a2,z7_a3⟩,z7_a4,z7_a5,z7_a6⟩:=t0f ((q0.block _ La.out).trans Ra.out);clear z6_r0 z6_r1;obtain ⟨z7_r0,z7_r1⟩:=t0k ((q0.block _ Lr.out).trans Rr.out);clear z6_x0 z6_x1 z6_x2 z6_x3 z6_x4 z6_x5 z6_x6;obtain ⟨⟨z7_x0,z7_x1,z7_x2,z7_x3⟩,z7_x4,z7_x5,z7_x6⟩:=t0f ((q0.block _ Lx.out).trans Rx.out);clear q q0))
      | (go_at_call 15;((with_reducible refine (Hc9.out x7 B8.out).mono ?_);rintro e x8 ⟨rfl,q⟩;have Hext:=zH (LexK.Ext.of_below (Kp:=fun x=>x < w10.drew.heap.size) q (Nat.le_refl _));have B9:=zH (B8.out.step q);have q0 : Below w10.drew.heap.size w10.drew x8:=Q7.out.trans (q.mono Q7.out.size);have Q8:=zH q0;clear z7_t0 z7_t1;obtain ⟨z8_t0,z8_t1⟩:=t0k ((q0.block _ Lt.out).trans Rt.out);clear z7_v0 z7_v1 z7_v2 z7_v3 z7_v4 z7_v5 z7_v6;obtain ⟨⟨z8_v0,z8_v1,z8_v2,z8_v3⟩,z8_v4,z8_v5,z8_v6⟩:=t0f ((q0.block _ Lv.out).trans Rv.out);clear z7_a0 z7_a1 z7_a2 z7_a3 z7_a4 z7_a5 z7_a6;obtain ⟨⟨z8_a0,z8_a1,z8_a2,z8_a3⟩,z8_a4,z8_a5,z8_a6⟩:=t0f ((q0.block _ La.out).trans Ra.out);clear z7_r0 z7_r1;obtain ⟨z8_r0,z8_r1⟩:=t0k ((q0.block _ Lr.out).trans Rr.out);clear z7_x0 z7_x1 z7_x2 z7_x3 z7_x4 z7_x5 z7_x6;obtain ⟨⟨z8_x0,z8_x1,z8_x2,z8_x3⟩,z8_x4,z8_x5,z8_x6⟩:=t0f ((q0.block _ Lx.out).trans Rx.out);clear q q0))
      | (go_at_call 16;((with_reducible refine (Hc10.out x8 B9.out).mono ?_);rintro e x9 ⟨rfl,q⟩;have Hext:=zH (LexK.Ext.of_below (Kp:=fun x=>x < w10.drew.heap.size) q (Nat.le_refl _));have B10:=zH (B9.out.step q);have q0 : Below w10.drew.heap.size w10.drew x9:=Q8.out.trans (q.mono Q8.out.size);have Q9:=zH q0;clear z8_t0 z8_t1;obtain ⟨z9_t0,z9_t1⟩:=t0k ((q0.block _ Lt.out).trans Rt.out);clear z8_v0 z8_v1 z8_v2 z8_v3 z8_v4 z8_v5 z8_v6;obtain ⟨⟨z9_v0,z9_v1,z9_v2,z9_v3⟩,z9_v4,z9_v5,z9_v6⟩:=t0f ((q0.block _ Lv.out).trans Rv.out);clear z8_a0 z8_a1 z8_a2 z8_a3 z8_a4 z8_a5 z8_a6;obtain ⟨⟨z9_a0,z9_a1,z9_a2,z9_a3⟩,z9_a4,z9_a5,z9_a6⟩:=t0f ((q0.block _ La.out).trans Ra.out);clear z8_r0 z8_r1;obtain ⟨z9_r0,z9_r1⟩:=t0k ((q0.block _ Lr.out).trans Rr.out);clear z8_x0 z8_x1 z8_x2 z8_x3 z8_x4 z8_x5 z8_x6;obtain ⟨⟨z9_x0,z9_x1,z9_x2,z9_x3⟩,z9_x4,z9_x5,z9_x6⟩:=t0f ((q0.block _ Lx.out).trans Rx.out);clear q q0))
      | (go_at_call 10;((with_reducible refine (t7e x9).mono ?_);rintro e x10 ⟨rfl,q⟩;have Hext:=zH (LexK.Ext.of_below (Kp:=fun x=>x < w10.drew.heap.size) q (Nat.le_refl _));have B11:=zH (B10.out.step q);have q0 : Below w10.drew.heap.size w10.drew x10:=Q9.out.trans (q.mono Q9.out.size);have Q10:=zH q0;clear z9_t0 z9_t1;obtain ⟨z10_t0,z10_t1⟩:=t0k ((q0.block _ Lt.out).trans Rt.out);clear z9_v0 z9_v1 z9_v2 z9_v3 z9_v4 z9_v5 z9_v6;obtain ⟨⟨z10_v0,z10_v1,z10_v2,z10_v3⟩,z10_v4,z10_v5,z10_v6⟩:=t0f ((q0.block _ Lv.out).trans Rv.out);clear z9_a0 z9_a1 z9_a2 z9_a3 z9_a4 z9_a5 z9_a6;obtain ⟨⟨z10_a0,z10_a1,z10_a2,z10_a3⟩,z10_a4,z10_a5,z10_a6⟩:=t0f ((q0.block _ La.out).trans Ra.out);clear z9_r0 z9_r1;obtain ⟨z10_r0,z10_r1⟩:=t0k ((q0.block _ Lr.out).trans Rr.out);clear z9_x0 z9_x1 z9_x2 z9_x3 z9_x4 z9_x5 z9_x6;obtain ⟨⟨z10_x0,z10_x1,z10_x2,z10_x3⟩,z10_x4,z10_x5,z10_x6⟩:=t0f ((q0.block _ Lx.out).trans Rx.out);clear q q0)))
    go_ret
    refine ⟨rfl,?_⟩
    have hW : Below w.heap.size w w10:=by rw [Hba.out];exact Hw10.out
    have hF:=hW.step B11.out
    first | exact hF | (rw [Hba.out] at hF;exact hF)
end Go.Proofs.YtjgldaaofdpcgaaGreat
namespace Go.Proofs.YtjgldaaofdpcgaaGreat.memberDecides
open Go.ChangeShapes Go.WideShapes Go.ChangeAt Go.RowKit
open Go.ChangeMaps (open_string shut_string)
set_option linter.unusedVariables false

theorem own : ownKnob Tryz.prog.godebug = none:=by kernel_rfl
theorem t7x : laidOutB Tryz.prog = true:=by kernel_rfl
set_option maxRecDepth 100000 in
theorem tim (H : Type) (enc : TypeId × Value → H) (W : World) (base : Nat) (args : Array Value) (ds gs : List (DataW H)) (before : List MemPlace)
    (hval0 : ∀ (j : Nat) t v,Tryz.f3.params[j]? = some t → args[j]? = some v → Value.okWide Tryz.prog W .any base t v)
    (hW : DataW.Whole enc Tryz.prog Tryz.f3.params.toList Rows.memberDecidesSpec.vars false W args.toList ds gs before) (hk : Rows.uptoSmall H (ds ++ gs) = true) :
    Calls Tryz.prog 3 args W fun e W'=>∃ v,e = .returned v ∧ Rows.memberDecidesSpec.post enc Tryz.prog Tryz.f3 false true false false W args v W':=by
  have hval : ∀ (j : Nat) t v,Tryz.f3.params[j]? = some t → args[j]? = some v → Value.okWide Tryz.prog W .any base t v:=hval0
  have hW':=hW
  obtain ⟨p,q,hA0,hV,rfl,hfz,hnd⟩:=hW
  have hA : DataW.TrodAll enc Tryz.prog W 0 (fun _=>true) true Tryz.f3.params.toList args.toList ds p:=hA0
  rw [Tryz.params3] at hA hval
  obtain ⟨v0,vs0,d0,ds0,p0,q0,hargs,rfl,rfl,h0,r0⟩:=trodAll_cons hA
  obtain ⟨v1,vs1,d1,ds1,p1,q1,rfl,rfl,rfl,h1,r1⟩:=trodAll_cons r0
  obtain ⟨v2,vs2,d2,ds2,p2,q2,rfl,rfl,rfl,h2,r2⟩:=trodAll_cons r1
  obtain ⟨v3,vs3,d3,ds3,p3,q3,rfl,rfl,rfl,h3,r3⟩:=trodAll_cons r2
  obtain ⟨v4,vs4,d4,ds4,p4,q4,rfl,rfl,rfl,h4,r4⟩:=trodAll_cons r3
  obtain ⟨rfl,rfl,rfl⟩:=trodAll_nil r4
  obtain rfl : args = #[v0,v1,v2,v3,v4]:=by cases args;simp_all
  obtain ⟨rfl,rfl⟩:=trodVars_none hV
  clear hA0 hval0
  have k0:=h0
  have lt0 : ∀ x ∈ p0,x.block < W.heap.size:=by obtain ⟨m,hm⟩:=k0;exact DataW.trod_lt m _ _ _ hm
  have k1:=h1
  have lt1 : ∀ x ∈ p1,x.block < W.heap.size:=by obtain ⟨m,hm⟩:=k1;exact DataW.trod_lt m _ _ _ hm
  have k2:=h2
  have lt2 : ∀ x ∈ p2,x.block < W.heap.size:=by obtain ⟨m,hm⟩:=k2;exact DataW.trod_lt m _ _ _ hm
  have k3:=h3
  have lt3 : ∀ x ∈ p3,x.block < W.heap.size:=by obtain ⟨m,hm⟩:=k3;exact DataW.trod_lt m _ _ _ hm
  have k4:=h4
  have lt4 : ∀ x ∈ p4,x.block < W.heap.size:=by obtain ⟨m,hm⟩:=k4;exact DataW.trod_lt m _ _ _ hm
  have hb : Rows.uptoBulk d2 ≤ 1048576 ∧ Rows.uptoBulk d3 ≤ 1048576:=by
    have h : Rows.uptoBulkAll ([d0,d1,d2,d3,d4] ++ []) ≤ 1048576:=of_decide_eq_true hk
    simp only [List.append_nil,Rows.uptoBulkAll] at h
    exact ⟨by omega,by omega⟩
  obtain ⟨s0,len0,cap0,rfl⟩:=okWide_slice Tryz.underlying22 (hval 0 22 v0 rfl rfl)
  obtain ⟨fuel0,hf0⟩:=h0
  obtain ⟨s1,len1,cap1,rfl⟩:=okWide_slice Tryz.underlying22 (hval 1 22 v1 rfl rfl)
  obtain ⟨fuel1,hf1⟩:=h1
  obtain ⟨cs2,rfl,hcs2⟩:=okWide_struct Tryz.underlying28 (hval 2 28 v2 rfl rfl)
  obtain ⟨fuel2,hf2⟩:=h2
  obtain ⟨cs3,rfl,hcs3⟩:=okWide_struct Tryz.underlying31 (hval 3 31 v3 rfl rfl)
  obtain ⟨fuel3,hf3⟩:=h3
  obtain ⟨a4,rfl,rfl,rfl,w4⟩:=open_int Tryz.underlying3 (hval 4 3 v4 rfl rfl) h4
  obtain ⟨L0,hL0,hl0,hw0⟩:=tbo hf0
  obtain ⟨L1,hL1,hl1,hw1⟩:=tbo hf1
  obtain ⟨p0',c0',e0,-⟩:=id hL0
  obtain ⟨p1',c1',e1,-⟩:=id hL1
  injection e0 with e01 e02 e03
  injection e1 with e11 e12 e13
  subst e01 e02 e03 e11 e12 e13
  obtain ⟨A,hA2,nA⟩:=tgu 1048576 fuel2 _ _ hf2 hb.1
  obtain ⟨R,hR3,nR⟩:=ty_of hf3
  have hVA : VW W (.agg cs2) A:=⟨1048576,cs2.toList,by simp,by simpa [Value.cells] using hA2⟩
  have hTR : TS W (.agg cs3) R:=by simpa [Value.cells] using hR3
  refine ((teo _ _ _ _ L0 L1 A R _ _ a4 W hL0 hL1 hVA hTR (Nat.le_trans nA hb.1) (fun n hn=>⟨Nat.le_trans (nR n hn).1 hb.2,Nat.le_trans (nR n hn).2 hb.2⟩) : Calls Tryz.prog 3 _ W _)).mono fun e W' ⟨he,bel⟩=>?_
  subst he
  exact ⟨_,rfl,_,_,_,[],_,[],hW',trodAll_mk1 (shut_bool Tryz.underlying4 _),(trodAll_cons_mk (Below.trod t7x (by kernel_rfl) (of_decide_eq_true (by kernel_rfl)) k0 bel lt0) (trodAll_cons_mk (Below.trod t7x (by kernel_rfl) (of_decide_eq_true (by kernel_rfl)) k1 bel lt1) (trodAll_cons_mk (Below.trod t7x (by kernel_rfl) (of_decide_eq_true (by kernel_rfl)) k2 bel lt2) (trodAll_cons_mk (Below.trod t7x (by kernel_rfl) (of_decide_eq_true (by kernel_rfl)) k3 bel lt3) (trodAll_cons_mk (Below.trod t7x (by kernel_rfl) (of_decide_eq_true (by kernel_rfl)) k4 bel lt4) trodAll_mk0))))),rfl,bel.frame _,fun h=>by cases h⟩
set_option maxRecDepth 100000 in
theorem tk1 (os : Os) (started : os.Started) (H : Type) (enc : TypeId × Value → H) (F : Stop.Interp) :
    ReturnsInHanded {} Tryz.checked os 3 .any ((Rows.OpenSpec.upto Rows.memberDecidesSpec).pre6 enc Tryz.prog Tryz.f3 Rows.memberDecidesUptoRow.domain false) (((Rows.OpenSpec.upto Rows.memberDecidesSpec).at F).post enc Tryz.prog Tryz.f3 false true false false):=by
  refine returnsInHanded_of_cond (C:=Tryz.checked) (s:=Rows.OpenSpec.upto Rows.memberDecidesSpec) (k:=Rows.uptoSmall) rfl own started (by kernel_rfl) Tryz.func3
    (OpenSpec.witness (enc:=enc) (C:=Tryz.checked) (s:=Rows.OpenSpec.upto Rows.memberDecidesSpec) (k:=Rows.uptoSmall) rfl false ⟨#[],#[.slice none 0 0,.slice none 0 0,.agg #[.int .i64 0,.int .i64 0,.string .empty,.slice none 0 0,.slice none 0 0,.slice none 0 0,.slice none 0 0],.agg #[.slice none 0 0,.int .i64 0],.int .i64 0],[]⟩ 8 (by kernel_rfl) (by kernel_rfl) (by kernel_rfl)
      (x:=([.nil,.nil,.agg [.lit (.int .i64 0),.lit (.int .i64 0),.lit (.string []),.nil,.nil,.nil,.nil],.agg [.nil,.lit (.int .i64 0)],.lit (.int .i64 0)],[],[])) (by kernel_rfl) rfl (by kernel_rfl)) ?_
  intro W base args ds gs before hval hW _ hk _
  exact tim H enc W base args ds gs before hval hW hk
theorem memberDecides_holds : Rows.MemberDecidesUptoSaid :=
  OpenClaim.holds_of_cond 3 Tryz.f3 rfl rfl rfl rfl rfl rfl rfl ⟨rfl,rfl,rfl,rfl,rfl⟩ rfl rfl rfl rfl rfl (by kernel_rfl) Tryz.func3 (by kernel_rfl)
    (of_decide_eq_true (by kernel_rfl)) (by unfold Func.isWrapper;first | (rw [if_pos (by decide +kernel)];kernel_rfl) | (rw [if_neg (by decide +kernel)];exact ⟨rfl,rfl⟩))
    (fun os started H enc _ F=>tk1 os started H enc F)
end Go.Proofs.YtjgldaaofdpcgaaGreat.memberDecides
