/- Walks and plain facts for the laws of membership, for all values and types that the heap holds (texts D3 J2). -/
import Derived.Test.YtjgldaaofdpcgaaGreatW03
import Derived.Test.YtjgldaaofdpcgaaGreatW44
set_option linter.unusedVariables false
set_option linter.unusedSimpArgs false
namespace Go.Proofs.YtjgldaaofdpcgaaGreat
open Go.RowKit Go.Ident
set_option maxRecDepth 100000
def aT : Ty:=⟨[⟨14,0,0,t0u,[1,1],[],0,0⟩,⟨7,0,0,t0u,[],[],0,0⟩],0⟩
def aI : VV:=.mk 1 1 t0u [] [] [] []
def aE0 : EE:=.mk [aI] true zeroV
def aV : VV:=.mk 9 1 t0u [] [] [aE0] []
def aA : VV:=.mk 3 0 ⟨#[97]⟩ [] [] [] []
theorem aT_wf : WfT aT:=by
  refine wf_mk (rk:=fun _=>0) (by decide) (fun j hj=>?_) (fun i hi hb=>?_)
  · have hj2 : j < 2:=hj
    rcases (show j = 0 ∨ j = 1 by omega) with rfl | rfl
    · exact ⟨(by decide : t1t ⟨14,0,0,t0u,[1,1],[],0,0⟩ = true),(by decide : kindN ⟨14,0,0,t0u,[1,1],[],0,0⟩ = true),by simp [aT,t1u]⟩
    · exact ⟨(by decide : t1t ⟨7,0,0,t0u,[],[],0,0⟩ = true),(by decide : kindN ⟨7,0,0,t0u,[],[],0,0⟩ = true),by simp [aT,t1u]⟩
  · have hi2 : i < 2:=hi
    rcases (show i = 0 ∨ i = 1 by omega) with rfl | rfl
    · exact absurd hb (by decide)
    · exact absurd hb (by decide)
theorem thm : entOk 1 aE0 = true:=by simp [entOk,aE0,EE.args,EE.fails,EE.res,cmpV_lo.self (a:=zeroV) trivial]
theorem aF : mkF 1 [aE0] = (aV,0):=by
  unfold mkF
  rw [if_pos ⟨by decide,by decide,by simp [thm]⟩]
  rfl
theorem tij : aV.valid = true:=by
  rw [t5r,Bool.and_eq_true,Bool.and_eq_true]
  refine ⟨?_,by rfl,?_⟩
  · have:=thm
    simp [aV,nodeV,VV.kind,VV.num,VV.text,VV.kids,VV.keys,VV.ents,VV.labels,t2e,t1x,ascL,t0u,ByteArray.size,this]
  · simp [aV,VV.ents,aE0,EE.validIn,validVs,aI,VV.valid,validEs,nodeV,VV.kind,VV.num,VV.text,VV.kids,VV.keys,VV.labels,t2e,t1x,t2a,ascL,t0u,ByteArray.size]
theorem tik : aI.valid = true:=by simp [aI,VV.valid,validVs,validEs,nodeV,VV.kind,VV.num,VV.text,VV.kids,VV.keys,VV.ents,VV.labels,t2e,t1x,t2a,ascL,t0u,ByteArray.size]
theorem til : aA.valid = true:=by
  have : isAtm (⟨#[97]⟩ : ByteArray).data.toList = true:=by decide
  simp [aA,VV.valid,validVs,validEs,nodeV,VV.kind,VV.num,VV.text,VV.kids,VV.keys,VV.ents,VV.labels,t2e,t1x,t2a,ascL]
  exact this
theorem aI1 (V : VV) (h : V.kind ≠ 3) : mem aT V 1 = false:=by
  rw [show (1 : Int) = ((1 : Nat) : Int) from rfl,t9v aT_wf V (show 1 < aT.nodes.length by decide)]
  simp [aT,memS,t5s,h]
theorem aw1 : mof aT aV aT.root = true:=by
  rw [te2 tij aT_wf aT_wf.root,show aT.root = ((0 : Nat) : Int) from rfl,t9v aT_wf aV (show 0 < aT.nodes.length by decide)]
  have h:=aI1 aI (by decide)
  simp [aT,memS,aV,VV.kind,VV.num,VV.ents,funA,entA,all2,aE0,EE.args,EE.fails]
  exact h
theorem aw2 : mof aT aI aT.root = false:=by
  rw [te2 tik aT_wf aT_wf.root,show aT.root = ((0 : Nat) : Int) from rfl,t9v aT_wf aI (show 0 < aT.nodes.length by decide)]
  simp [aT,memS,aI,VV.kind]
theorem aw3 : mof aT aA 1 = true:=by
  rw [te2 til aT_wf (by decide),show (1 : Int) = ((1 : Nat) : Int) from rfl,t9v aT_wf aA (show 1 < aT.nodes.length by decide)]
  simp [aT,memS,aA,VV.kind,t5s]
theorem aT_sz : SzT aT:=⟨by decide,fun n hn=>by simp [aT] at hn;rcases hn with rfl | rfl <;> simp⟩
theorem aT_ts (w w2 : World) (g h : Nat) (h1 : w2.heap[g]? = some (.cells #[.int .i64 1,.int .i64 1] 3)) (h2 : w2.heap[h]? = some (.cells #[.int .i64 14,.int .i64 0,.int .i64 0,.string ⟨#[]⟩,.slice (some ⟨g,0,none⟩) 2 2,.slice none 0 0,.int .i64 0,.int .i64 0,.int .i64 7,.int .i64 0,.int .i64 0,.string ⟨#[]⟩,.slice none 0 0,.slice none 0 0,.int .i64 0,.int .i64 0] 48)) : TS w2 (.agg #[.slice (some ⟨h,0,none⟩) 2 2,.int .i64 0]) aT:=by
  refine ⟨some ⟨h,0,none⟩,2,rfl,Rw.of_ch (cs:=[.int .i64 14,.int .i64 0,.int .i64 0,.string ⟨#[]⟩,.slice (some ⟨g,0,none⟩) 2 2,.slice none 0 0,.int .i64 0,.int .i64 0,.int .i64 7,.int .i64 0,.int .i64 0,.string ⟨#[]⟩,.slice none 0 0,.slice none 0 0,.int .i64 0,.int .i64 0]) (RC.row rfl h2 fun j u hu=>by simpa using hu) ⟨rfl,fun i hi=>?_⟩ (by decide) (by decide),fun n hn=>by simp [aT] at hn;rcases hn with rfl | rfl <;> simp⟩
  have hi2 : i < 2:=hi
  rcases (show i = 0 ∨ i = 1 by omega) with rfl | rfl
  · exact ⟨some ⟨g,0,none⟩,2,none,0,rfl,⟨_,_,rfl,(by decide : 2 ≤ 2),RC.row rfl h1 fun j u hu=>by simpa [ic,aT] using hu⟩,Rw.nil _ _ _ _ _⟩
  · exact ⟨none,0,none,0,rfl,IS.nil' _,Rw.nil _ _ _ _ _⟩
theorem aE_ey (w : World) (g h : Nat) (h1 : w.heap[g]? = some (.cells #[.int .i64 1,.int .i64 1,.string ⟨#[]⟩,.slice none 0 0,.slice none 0 0,.slice none 0 0,.slice none 0 0] 28)) (h2 : w.heap[h]? = some (.cells #[.slice (some ⟨g,0,none⟩) 1 1,.bool true,.int .i64 0,.int .i64 0,.string ⟨#[]⟩,.slice none 0 0,.slice none 0 0,.slice none 0 0,.slice none 0 0] 55)) : EY w (.slice (some ⟨h,0,none⟩) 1 1) [aE0]:=by
  refine ⟨1,some ⟨h,0,none⟩,1,rfl,Rw.of_ch (cs:=[.slice (some ⟨g,0,none⟩) 1 1,.bool true,.int .i64 0,.int .i64 0,.string ⟨#[]⟩,.slice none 0 0,.slice none 0 0,.slice none 0 0,.slice none 0 0]) (RC.row rfl h2 fun j u hu=>by simpa using hu) ⟨rfl,fun i hi=>?_⟩ (by decide) (by decide)⟩
  obtain rfl : i = 0:=by simpa using hi
  refine ⟨some ⟨g,0,none⟩,1,_,rfl,Rw.of_ch (cs:=[.int .i64 1,.int .i64 1,.string ⟨#[]⟩,.slice none 0 0,.slice none 0 0,.slice none 0 0,.slice none 0 0]) (RC.row rfl h1 fun j u hu=>by simpa using hu) ⟨rfl,fun i hi=>?_⟩ (by decide : 1 ≤ 1) (by decide : 1 ≤ 9223372036854775807),t4c _⟩
  obtain rfl : i = 0:=by simpa [aE0,EE.args] using hi
  exact ⟨none,0,none,0,none,0,none,0,rfl,Rw.nil _ _ _ _ _,Rw.nil _ _ _ _ _,Rw.nil _ _ _ _ _,Rw.nil _ _ _ _ _⟩
set_option maxHeartbeats 64000000 in
theorem t7e (w : World) : Calls Tryz.prog 10 #[] w (ER true w):=by
  obtain ⟨w3,e9,hA,hB,hC,hb3,hs3⟩:=boxes3' w (.cells #[.int .i64 1,.int .i64 1] 3) (.cells #[.int .i64 14,.int .i64 0,.int .i64 0,.string ⟨#[]⟩,.slice (some ⟨w.heap.size,0,none⟩) 2 2,.slice none 0 0,.int .i64 0,.int .i64 0,.int .i64 7,.int .i64 0,.int .i64 0,.string ⟨#[]⟩,.slice none 0 0,.slice none 0 0,.int .i64 0,.int .i64 0] 48) (.cells #[.slice (some ⟨w.heap.size + 1,0,none⟩) 2 2,.int .i64 0] 31)
  have HT3:=zH (aT_ts w w3 w.heap.size (w.heap.size + 1) hA hB)
  have HC3:=zH hC;have Hb3:=zH hb3
  have E9:=zH e9
  clear hA hB hC hb3 hs3 e9
  go_enter Tryz.func10,Tryz.ntmps10
  go_upto_region 2 with fail
  rw [E9.out]
  clear E9
  go_upto_region 3 with (first
    | (go_at_call 21;refine (t7a 1 w3).mono ?_;rintro e w4 ⟨rfl,hb4⟩;have H34:=zH hb4;have Hf:=zH (t9i (fun _=>false) 1 [aE0] ((w4.alloc (.cells #[.int .i64 1,.int .i64 1,.string ⟨#[]⟩,.slice none 0 0,.slice none 0 0,.slice none 0 0,.slice none 0 0] 28)).alloc (.cells #[.slice (some ⟨w4.heap.size,0,none⟩) 1 1,.bool true,.int .i64 0,.int .i64 0,.string ⟨#[]⟩,.slice none 0 0,.slice none 0 0,.slice none 0 0,.slice none 0 0] 55)) (.slice (some ⟨w4.heap.size + 1,0,none⟩) 1 1) (fun _ _=>rfl) ((aE_ey _ w4.heap.size (w4.heap.size + 1) (heap_alloc2_old _ _ _) (heap_alloc2_new _ _ _)).below (we_in fun _ _=>rfl)) (by decide));clear hb4)
    | (go_at_call 20;refine Hf.out.mono ?_;rintro e w5 ⟨v5,rfl,hx,-,hb5⟩;have hb45:=t1f w4 (.cells #[.int .i64 1,.int .i64 1,.string ⟨#[]⟩,.slice none 0 0,.slice none 0 0,.slice none 0 0,.slice none 0 0] 28) (.cells #[.slice (some ⟨w4.heap.size,0,none⟩) 1 1,.bool true,.int .i64 0,.int .i64 0,.string ⟨#[]⟩,.slice none 0 0,.slice none 0 0,.slice none 0 0,.slice none 0 0] 55);obtain ⟨w45,e45,-,-,hb45⟩:=hb45;rw [e45] at hb5;have H45:=zH (hb45.step hb5);rw [aF] at hx;obtain ⟨dv,cs,rfl,hx⟩:=hx;have hx:=hx.sub (t3q _ _);have Hcf:=zH (show (mkF 1 [aE0]).2 = 0 by rw [aF]);obtain ⟨x1,x2,x3,x4,x5,x6,x7,x8,rfl⟩:=hx.seven;have HX:=zH hx;clear hx hb5 hb45 e45))
  have Hmf1:=zH aw1
  have hnV : aV.nodes ≤ 1048576:=by decide
  generalize aV = V at *
  have hB8:=heap_alloc_new w5 (.cells #[.int .i64 V.kind,.int .i64 V.num,.string V.text,.slice x1 V.kids.length x2,.slice x3 V.keys.length x4,.slice x5 V.ents.length x6,.slice x7 V.labels.length x8] 28)
  have hb8 : Below w5.heap.size w5 (w5.alloc (.cells #[.int .i64 V.kind,.int .i64 V.num,.string V.text,.slice x1 V.kids.length x2,.slice x3 V.keys.length x4,.slice x5 V.ents.length x6,.slice x7 V.labels.length x8] 28)):=(Below.refl _ _).alloc (Nat.le_refl _) _
  generalize w5.alloc (.cells #[.int .i64 V.kind,.int .i64 V.num,.string V.text,.slice x1 V.kids.length x2,.slice x3 V.keys.length x4,.slice x5 V.ents.length x6,.slice x7 V.labels.length x8] 28) = w8 at *
  have Hb8:=zH ((H34.out.step H45.out).step hb8)
  have HT8:=zH ((Hb8.out.block _ (t0a HC3.out)).trans HC3.out)
  have HV8:=zH hB8
  have HTS:=zH (HT3.out.below Hb8.out)
  have HVW:=zH (show VW w8 (.agg #[.int .i64 V.kind,.int .i64 V.num,.string V.text,.slice x1 V.kids.length x2,.slice x3 V.keys.length x4,.slice x5 V.ents.length x6,.slice x7 V.labels.length x8]) V from ⟨dv,_,rfl,HX.out.below hb8⟩)
  have Hnn:=zH hnV
  have Hc1:=zH (fun (w' : World) (hb : Below w8.heap.size w8 w')=>(by have:=t6l aT V w' _ _ (HVW.out.below hb) (HTS.out.below hb) Hnn.out aT_sz;rwa [Hmf1.out] at this : Calls Tryz.prog 15 #[.agg #[.int .i64 V.kind,.int .i64 V.num,.string V.text,.slice x1 V.kids.length x2,.slice x3 V.keys.length x4,.slice x5 V.ents.length x6,.slice x7 V.labels.length x8],.agg #[.slice (some ⟨w.heap.size + 1,0,none⟩) 2 2,.int .i64 0]] w' (ER true w')))
  have Hc2:=zH (fun (w' : World) (hb : Below w8.heap.size w8 w')=>(by have:=t6l aT aI w' (.agg #[.int .i64 1,.int .i64 1,.string ⟨#[]⟩,.slice none 0 0,.slice none 0 0,.slice none 0 0,.slice none 0 0]) _ (vw0 _ _ _ _) (HTS.out.below hb) (by decide) aT_sz;rwa [aw2] at this : Calls Tryz.prog 15 #[.agg #[.int .i64 1,.int .i64 1,.string ⟨#[]⟩,.slice none 0 0,.slice none 0 0,.slice none 0 0,.slice none 0 0],.agg #[.slice (some ⟨w.heap.size + 1,0,none⟩) 2 2,.int .i64 0]] w' (ER false w')))
  have Hc3:=zH (fun (w' : World) (hb : Below w8.heap.size w8 w')=>(by have:=t4j aT aA 1 w' (.agg #[.int .i64 3,.int .i64 0,.string ⟨#[97]⟩,.slice none 0 0,.slice none 0 0,.slice none 0 0,.slice none 0 0]) _ (vw0 _ _ _ _) (HTS.out.below hb) (by decide) aT_sz;rwa [aw3] at this : Calls Tryz.prog 13 #[.agg #[.int .i64 3,.int .i64 0,.string ⟨#[97]⟩,.slice none 0 0,.slice none 0 0,.slice none 0 0,.slice none 0 0],.agg #[.slice (some ⟨w.heap.size + 1,0,none⟩) 2 2,.int .i64 0],.int .i64 1] w' (ER true w')))
  have Hbw:=zH (Hb3.out.step Hb8.out)
  clear hB8 hb8 hnV
  generalize hbt : w.heap.size + 1 + 1 = bt at *
  generalize hbv : w5.heap.size = bv at *
  clear hbt hbv
  have Y0t:=zH (show w8.drew.cell? ⟨bt,0,none⟩ = _ from (t0k HT8.out).1)
  have Lt:=zH (show bt < w8.drew.heap.size from t0a HT8.out)
  have Rt:=zH (show w8.drew.heap[bt]? = _ from HT8.out)
  have Y0v:=zH (show w8.drew.cell? ⟨bv,0,none⟩ = _ from (t0f HV8.out).1.1)
  have Lv:=zH (show bv < w8.drew.heap.size from t0a HV8.out)
  have Rv:=zH (show w8.drew.heap[bv]? = _ from HV8.out)
  have B0:=zH (show Below w8.heap.size w8 w8.drew from (Below.refl _ _).drew)
  obtain ⟨zt0,zt1⟩:=t0k HT8.out
  obtain ⟨⟨zv0,zv1,zv2,zv3⟩,zv4,zv5,zv6⟩:=t0f HV8.out
  go_wp2_with (first
    | ((with_reducible refine Lex.t0w ?_);refine fE (by repeat first | exact LexK.t0t | refine LexK.t0o rfl ?_ | refine LexK.t0p (by decide +kernel) ?_ | refine LexK.t0c rfl Lt.out Y0t.out ?_ | refine LexK.t0c rfl Lv.out Y0v.out ?_) ?_)
    | ((with_reducible refine Lex.t0q ?_);refine LexK.t0h (fun x=>x < w8.drew.heap.size) (by kernel_rfl) (by decide +kernel) ?_)
    | (with_reducible first | refine qH ?_ | refine LexK.t0s ?_ | refine LexK.t0v ?_)
    | ((with_reducible refine Lex.t1b ?_);first | (with_reducible refine LexK.t0e Hext.out ?_) | (refine LexK.t0e (LexK.Ext.alloc _ _) ?_) | (refine LexK.t0e (LexK.Ext.refl _) ?_))
    | (go_at_call 15;((with_reducible refine (Hc1.out w8.drew B0.out).mono ?_);rintro e x0 ⟨rfl,q⟩;have Hext:=zH (LexK.Ext.of_below (Kp:=fun x=>x < w8.drew.heap.size) q (Nat.le_refl _));have B1:=zH (B0.out.step q);have q0 : Below w8.drew.heap.size w8.drew x0:=q;have Q0:=zH q0;clear zt0 zt1;obtain ⟨z0_t0,z0_t1⟩:=t0k ((q0.block _ Lt.out).trans Rt.out);clear zv0 zv1 zv2 zv3 zv4 zv5 zv6;obtain ⟨⟨z0_v0,z0_v1,z0_v2,z0_v3⟩,z0_v4,z0_v5,z0_v6⟩:=t0f ((q0.block _ Lv.out).trans Rv.out);clear q q0))
    | (go_at_call 21;((with_reducible refine (t7a 1 x0).mono ?_);rintro e x1 ⟨rfl,q⟩;have Hext:=zH (LexK.Ext.of_below (Kp:=fun x=>x < w8.drew.heap.size) q (Nat.le_refl _));have B2:=zH (B1.out.step q);have q0 : Below w8.drew.heap.size w8.drew x1:=Q0.out.trans (q.mono Q0.out.size);have Q1:=zH q0;clear z0_t0 z0_t1;obtain ⟨z1_t0,z1_t1⟩:=t0k ((q0.block _ Lt.out).trans Rt.out);clear z0_v0 z0_v1 z0_v2 z0_v3 z0_v4 z0_v5 z0_v6;obtain ⟨⟨z1_v0,z1_v1,z1_v2,z1_v3⟩,z1_v4,z1_v5,z1_v6⟩:=t0f ((q0.block _ Lv.out).trans Rv.out);clear q q0))
    | (go_at_call 15;((with_reducible refine (Hc2.out x1 B2.out).mono ?_);rintro e x2 ⟨rfl,q⟩;have Hext:=zH (LexK.Ext.of_below (Kp:=fun x=>x < w8.drew.heap.size) q (Nat.le_refl _));have B3:=zH (B2.out.step q);have q0 : Below w8.drew.heap.size w8.drew x2:=Q1.out.trans (q.mono Q1.out.size);have Q2:=zH q0;clear z1_t0 z1_t1;obtain ⟨z2_t0,z2_t1⟩:=t0k ((q0.block _ Lt.out).trans Rt.out);clear z1_v0 z1_v1 z1_v2 z1_v3 z1_v4 z1_v5 z1_v6;obtain ⟨⟨z2_v0,z2_v1,z2_v2,z2_v3⟩,z2_v4,z2_v5,z2_v6⟩:=t0f ((q0.block _ Lv.out).trans Rv.out);clear q q0))
    | (go_at_call 22;((with_reducible refine (t6i ⟨#[97]⟩ x2).mono ?_);rintro e x3 ⟨rfl,q⟩;have Hext:=zH (LexK.Ext.of_below (Kp:=fun x=>x < w8.drew.heap.size) q (Nat.le_refl _));have B4:=zH (B3.out.step q);have q0 : Below w8.drew.heap.size w8.drew x3:=Q2.out.trans (q.mono Q2.out.size);have Q3:=zH q0;clear z2_t0 z2_t1;obtain ⟨z3_t0,z3_t1⟩:=t0k ((q0.block _ Lt.out).trans Rt.out);clear z2_v0 z2_v1 z2_v2 z2_v3 z2_v4 z2_v5 z2_v6;obtain ⟨⟨z3_v0,z3_v1,z3_v2,z3_v3⟩,z3_v4,z3_v5,z3_v6⟩:=t0f ((q0.block _ Lv.out).trans Rv.out);clear q q0))
    | (go_at_call 13;((with_reducible refine (Hc3.out x3 B4.out).mono ?_);rintro e x4 ⟨rfl,q⟩;have Hext:=zH (LexK.Ext.of_below (Kp:=fun x=>x < w8.drew.heap.size) q (Nat.le_refl _));have B5:=zH (B4.out.step q);have q0 : Below w8.drew.heap.size w8.drew x4:=Q3.out.trans (q.mono Q3.out.size);have Q4:=zH q0;clear z3_t0 z3_t1;obtain ⟨z4_t0,z4_t1⟩:=t0k ((q0.block _ Lt.out).trans Rt.out);clear z3_v0 z3_v1 z3_v2 z3_v3 z3_v4 z3_v5 z3_v6;obtain ⟨⟨z4_v0,z4_v1,z4_v2,z4_v3⟩,z4_v4,z4_v5,z4_v6⟩:=t0f ((q0.block _ Lv.out).trans Rv.out);clear q q0)))
  go_ret
  exact ⟨rfl,Hbw.out.step B5.out⟩
end Go.Proofs.YtjgldaaofdpcgaaGreat
namespace Go.Proofs.YtjgldaaofdpcgaaGreat
theorem dt_sz {n : Nat} {T : Ty} (h : TD n T) (hn : n ≤ 1000) : SzT T:=by
  have hl:=h.len
  refine ⟨by unfold Ty.len;omega,fun x hx=>?_⟩
  obtain ⟨j,hj,rfl⟩:=List.mem_iff_getElem.1 hx
  have:=h.at' j hj
  exact ⟨Nat.le_trans this.kids (by decide),Nat.le_trans this.fields (by decide)⟩
end Go.Proofs.YtjgldaaofdpcgaaGreat
