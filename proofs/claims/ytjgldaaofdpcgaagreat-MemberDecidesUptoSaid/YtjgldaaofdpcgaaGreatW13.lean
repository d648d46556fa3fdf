/- Walks and plain facts for the laws of membership, for all values and types that the heap holds (texts K6 K7). -/
import Derived.Test.YtjgldaaofdpcgaaGreatW03
import Derived.Test.YtjgldaaofdpcgaaGreatW12
set_option linter.unusedVariables false
set_option linter.unusedSimpArgs false
namespace Go.Proofs.YtjgldaaofdpcgaaGreat
open Go.RowKit Go.Ident
set_option maxRecDepth 100000
set_option maxHeartbeats 16000000 in
theorem t9y (a : VV) (w : World) (u : Value) (hu : VW w u a) : Calls Tryz.prog 107 #[u] w (ER (funOk a) w):=by
  obtain ⟨_,q1,q2,q3,q4,q5,q6,q7,q8,rfl,-,-,-,hk,-⟩:=hu.ex
  have hL : a.ents.length ≤ 9223372036854775807:=by obtain ⟨_,_,_,_,h⟩:=hk;exact h.big
  have HK:=zH hk
  clear hu hk
  go_enter Tryz.func107,Tryz.ntmps107
  go_upto_region 1 with fail
  have hA:=heap_alloc_new w (.cells #[.int .i64 a.kind,.int .i64 a.num,.string a.text,.slice q1 a.kids.length q2,.slice q3 a.keys.length q4,.slice q5 a.ents.length q6,.slice q7 a.labels.length q8] 28)
  have hb : Below w.heap.size w (w.alloc (.cells #[.int .i64 a.kind,.int .i64 a.num,.string a.text,.slice q1 a.kids.length q2,.slice q3 a.keys.length q4,.slice q5 a.ents.length q6,.slice q7 a.labels.length q8] 28)):=(Below.refl _ _).alloc (Nat.le_refl _) _
  generalize w.alloc (.cells #[.int .i64 a.kind,.int .i64 a.num,.string a.text,.slice q1 a.kids.length q2,.slice q3 a.keys.length q4,.slice q5 a.ents.length q6,.slice q7 a.labels.length q8] 28) = w2 at *
  have Hb:=zH hb
  obtain ⟨⟨f0,f1,f2,f3⟩,f4,f5,f6⟩:=t0f hA
  have HA:=zH hA
  have hlA:=t0a hA
  have Hasc:=zH (tht a.ents w2 _ (HK.out.below hb))
  clear hA hb
  by_cases h0 : 0 ≤ a.num
  rotate_left
  · have d0 : decide (a.num < 0) = true:=by simp;omega
    have Hr:=zH (show funOk a = false by unfold funOk;simp [h0])
    clear h0
    go_wp2
    go_ret
    rw [Hr.out]
    exact ⟨rfl,Hb.out⟩
  have d0 : decide (a.num < 0) = false:=by simp;omega
  by_cases h4 : a.num ≤ 4
  rotate_left
  · have d1 : decide (4 < a.num) = true:=by simp;omega
    have d1' : decide (a.num ≤ 4) = false:=by simp;omega
    have Hr:=zH (show funOk a = false by unfold funOk;simp [h4])
    clear h4 h0
    go_wp2
    go_ret
    rw [Hr.out]
    exact ⟨rfl,Hb.out⟩
  have d1 : decide (4 < a.num) = false:=by simp;omega
  have Hr:=zH (show funOk a = (ascL cmpE a.ents && a.ents.all (entOk a.num)) by unfold funOk;simp [h0,h4])
  clear h0 h4
  cases hasc : ascL cmpE a.ents with
  | false =>
    rw [hasc] at Hasc
    have Hr2:=zH (show funOk a = false by rw [Hr.out,hasc];rfl)
    clear hasc
    go_wp2_with (go_at_call 124;refine Hasc.out.mono ?_;rintro e w1 ⟨rfl,q⟩;have Hb1:=zH (Hb.out.step q);clear q)
    go_ret
    rw [Hr2.out]
    exact ⟨rfl,Hb1.out⟩
  | true =>
    rw [hasc] at Hasc
    have Hr2:=zH (show funOk a = a.ents.all (entOk a.num) by rw [Hr.out,hasc];rfl)
    clear hasc
    go_upto_region 3 with (go_at_call 124;refine Hasc.out.mono ?_;rintro e w1 ⟨rfl,q⟩;have Hb1:=zH (Hb.out.step q);have Hc1:=zH q;clear q)
    clear f0 f1 f2 f3 f4 f5 f6
    have HA1:=zH ((Hc1.out.block _ hlA).trans HA.out)
    obtain ⟨⟨f0,f1,f2,f3⟩,f4,f5,f6⟩:=t0f HA1.out
    go_wp2
    clear f0 f1 f2 f3 f4 f5 f6
    go_loopw [22] (fun i wr=>∃ k : Nat,i = .int .i64 k ∧ k ≤ a.ents.length ∧ (a.ents.take k).all (entOk a.num) = true ∧ Below w1.heap.size w1 wr) (fun i _=>a.ents.length - (intOf i).toNat)
    case atStart=>exact ⟨0,rfl,by omega,by simp,Below.refl _ _⟩
    case round =>
      obtain ⟨k,rfl,hk,hall,hb⟩:=hrel
      have Hall:=zH hall;have Hbr:=zH hb;have Hbw:=zH (Hb1.out.step hb);clear hall hb
      by_cases hlt : k < a.ents.length
      · obtain ⟨de,p',c',e9,hr⟩:=HK.out.below Hbw.out
        injection e9 with e1 _ e3
        subst e1 e3
        obtain ⟨ak,ok,cs,rfl,hab,-,hrg,hES⟩:=hr.at hlt
        have hbig : a.ents[k].args.length ≤ 9223372036854775807:=by obtain ⟨_,_,_,_,h,_⟩:=hES;exact h.big
        have HES:=zH hES
        obtain ⟨r9,ra,r1,r2,r3,r4,r5,r6,r7,r8,rfl⟩:=hES.nine
        have z0:=hrg 0 _ rfl
        have z1:=hrg 1 _ rfl
        have z2:=hrg 2 _ rfl
        have z3:=hrg 3 _ rfl
        have z4:=hrg 4 _ rfl
        have z5:=hrg 5 _ rfl
        have z6:=hrg 6 _ rfl
        have z7:=hrg 7 _ rfl
        have z8:=hrg 8 _ rfl
        rw [Nat.add_zero] at z0
        clear hr hrg hES
        have hst:=t2s (p:=entOk a.num) hlt
        rw [Hall.out,Bool.true_and] at hst
        have Hst:=zH hst
        have Hno:=zH (t4d (p:=entOk a.num) hlt)
        clear hst
        generalize a.ents[k] = x at *
        obtain ⟨wo,hwo⟩ : ∃ wo : World,wo = wr:=⟨_,rfl⟩
        subst hwo
        go_upto_region 6 with fail
        have hnew:=heap_alloc_new wo (.cells #[.slice r9 x.args.length ra,.bool x.fails,.int .i64 x.res.kind,.int .i64 x.res.num,.string x.res.text,.slice r1 x.res.kids.length r2,.slice r3 x.res.keys.length r4,.slice r5 x.res.ents.length r6,.slice r7 x.res.labels.length r8] 55)
        have ho : Below wo.heap.size wo (wo.alloc (.cells #[.slice r9 x.args.length ra,.bool x.fails,.int .i64 x.res.kind,.int .i64 x.res.num,.string x.res.text,.slice r1 x.res.kids.length r2,.slice r3 x.res.keys.length r4,.slice r5 x.res.ents.length r6,.slice r7 x.res.labels.length r8] 55)):=(Below.refl _ _).alloc (Nat.le_refl _) _
        generalize wo.alloc (.cells #[.slice r9 x.args.length ra,.bool x.fails,.int .i64 x.res.kind,.int .i64 x.res.num,.string x.res.text,.slice r1 x.res.kids.length r2,.slice r3 x.res.keys.length r4,.slice r5 x.res.ents.length r6,.slice r7 x.res.labels.length r8] 55) = w5 at *
        have Hb5:=zH (Hbr.out.step ho)
        have Hbw5:=zH (Hb1.out.step Hb5.out)
        obtain ⟨⟨g0,g1,g2,g3⟩,⟨g4,g5,g6,g7⟩,g8⟩:=t1k hnew
        obtain ⟨⟨f0,f1,f2,f3⟩,f4,f5,f6⟩:=t0f ((Hb5.out.block _ (t0a HA1.out)).trans HA1.out)
        have Hv:=zH (tbq x a.num w5 de _ (HES.out.below ho) hbig)
        clear z0 z1 z2 z3 z4 z5 z6 z7 z8 hnew ho
        cases hv : entOk a.num x with
        | true =>
          rw [hv] at Hv
          have Hst2:=zH (Hst.out.trans hv)
          clear hv
          go_wp2_with (go_at_call 126;refine Hv.out.mono ?_;rintro e w6 ⟨rfl,q⟩;have Hb6:=zH (Hb5.out.step q);clear q)
          exact ⟨⟨k + 1,by go_num,by omega,Hst2.out,Hb6.out⟩,by simp [intOf];omega⟩
        | false =>
          rw [hv] at Hv
          have Hf:=zH (Hno.out hv)
          clear hv
          go_wp2_with (go_at_call 126;refine Hv.out.mono ?_;rintro e w6 ⟨rfl,q⟩;have Hb6:=zH (Hbw5.out.step q);clear q)
          go_ret
          rw [Hr2.out,Hf.out]
          exact ⟨rfl,Hb6.out⟩
      · obtain rfl : k = a.ents.length:=by omega
        have Hy:=zH (show a.ents.all (entOk a.num) = true by have:=Hall.out;rwa [List.take_length] at this)
        go_wp2
        go_ret
        rw [Hr2.out,Hy.out]
        exact ⟨rfl,Hbw.out⟩
end Go.Proofs.YtjgldaaofdpcgaaGreat
namespace Go.Proofs.YtjgldaaofdpcgaaGreat
open Go.RowKit Go.Ident
set_option maxRecDepth 100000
theorem t1a {P : Program} {fn : Func} {p u : Tmp} {ty : TypeId} (h : fn.results = #[.cell p ty,.tmp u]) (tmps : Array Value) (w : World) (g : Nat) (t : TypeId) (cs : Array Value) (fr : Nat × Nat) (d : TypeDesc)
    (hp : tmps.getD p undef = .pointer (some ⟨g,0,none⟩)) (hg : w.heap[g]? = some (.cells cs t fr))
    (hu : P.underlying ty = some d) (hd : (match d with | .struct _ | .array _ _=>true | _=>false) = true) (hi : (P.info? ty).map (·.size) = some cs.size) :
    (results fn tmps).run P w = .ok (.tuple #[.agg cs,tmps.getD u undef]) w:=by
  have hp' : tmps[p]?.getD undef = .pointer (some ⟨g,0,none⟩):=by simpa using hp
  simp [results,h,hp',asAddr,run_loadVar_row w g t ty cs fr d hg hu hd hi]
theorem t1c {B : Nat} {w a : World} {g : Nat} {cs : Array Value} (h : Below B w a) (hB : B ≤ g) : Below B w (a.setRow g cs) :=
  ⟨h.os,h.tape,h.output,by rw [size_setRow];exact h.size,fun k hk=>by
    rw [← h.block k hk]
    simp only [World.setRow,Array.getElem?_modify]
    rw [if_neg (by omega)]⟩
def UR (k : Int) (w : World) (e : Ending) (w' : World) : Prop:=e = .returned (.tuple #[.agg #[.bool (t2e k),.bool (t1x k),.bool (t2a k),.bool (decide (k = 8)),.bool (decide (k = 9))],.bool (decide (1 ≤ k) && decide (k ≤ 9))]) ∧ Below w.heap.size w w'
set_option maxHeartbeats 16000000 in
theorem tdn (k : Int) (w : World) : Calls Tryz.prog 104 #[.int .i64 k] w (UR k w):=by
  have hn:=heap_alloc_new w (.cells #[.bool false,.bool false,.bool false,.bool false,.bool false] 120)
  have hb:=(Below.refl w.heap.size w).alloc (Nat.le_refl _) (.cells #[.bool false,.bool false,.bool false,.bool false,.bool false] 120)
  have Hb:=zH hb;clear hb
  by_cases h1 : k = 1
  · subst h1
    go_enter Tryz.func104,Tryz.ntmps104
    go_upto_region 1 with fail
    generalize w.alloc (.cells #[.bool false,.bool false,.bool false,.bool false,.bool false] 120) = w1 at *
    go_wp2_with (with_reducible refine wpList_store_row rfl 120 (.tmp 2) (.tmp 8) rfl _ _ rfl rfl _ _ hn (by kernel_rfl) (by kernel_rfl) (by kernel_rfl) ?_)
    refine bodyPost_ret (t1a rfl _ _ w.heap.size 120 _ (0,0) _ rfl (setRow_heap _ _ _ _ _ _ hn) rfl rfl (by kernel_rfl)) rfl ?_
    exact ⟨rfl,t1c Hb.out (Nat.le_refl _)⟩
  by_cases h2 : k = 2
  · subst h2
    go_enter Tryz.func104,Tryz.ntmps104
    go_upto_region 1 with fail
    generalize w.alloc (.cells #[.bool false,.bool false,.bool false,.bool false,.bool false] 120) = w1 at *
    go_wp2_with (with_reducible refine wpList_store_row rfl 120 (.tmp 2) (.tmp 12) rfl _ _ rfl rfl _ _ hn (by kernel_rfl) (by kernel_rfl) (by kernel_rfl) ?_)
    refine bodyPost_ret (t1a rfl _ _ w.heap.size 120 _ (0,0) _ rfl (setRow_heap _ _ _ _ _ _ hn) rfl rfl (by kernel_rfl)) rfl ?_
    exact ⟨rfl,t1c Hb.out (Nat.le_refl _)⟩
  by_cases h3 : k = 3
  · subst h3
    go_enter Tryz.func104,Tryz.ntmps104
    go_upto_region 1 with fail
    generalize w.alloc (.cells #[.bool false,.bool false,.bool false,.bool false,.bool false] 120) = w1 at *
    go_wp2_with (with_reducible refine wpList_store_row rfl 120 (.tmp 2) (.tmp 12) rfl _ _ rfl rfl _ _ hn (by kernel_rfl) (by kernel_rfl) (by kernel_rfl) ?_)
    refine bodyPost_ret (t1a rfl _ _ w.heap.size 120 _ (0,0) _ rfl (setRow_heap _ _ _ _ _ _ hn) rfl rfl (by kernel_rfl)) rfl ?_
    exact ⟨rfl,t1c Hb.out (Nat.le_refl _)⟩
  by_cases h4 : k = 4
  · subst h4
    go_enter Tryz.func104,Tryz.ntmps104
    go_upto_region 1 with fail
    generalize w.alloc (.cells #[.bool false,.bool false,.bool false,.bool false,.bool false] 120) = w1 at *
    go_wp2_with (with_reducible refine wpList_store_row rfl 120 (.tmp 2) (.tmp 8) rfl _ _ rfl rfl _ _ hn (by kernel_rfl) (by kernel_rfl) (by kernel_rfl) ?_)
    refine bodyPost_ret (t1a rfl _ _ w.heap.size 120 _ (0,0) _ rfl (setRow_heap _ _ _ _ _ _ hn) rfl rfl (by kernel_rfl)) rfl ?_
    exact ⟨rfl,t1c Hb.out (Nat.le_refl _)⟩
  by_cases h5 : k = 5
  · subst h5
    go_enter Tryz.func104,Tryz.ntmps104
    go_upto_region 1 with fail
    generalize w.alloc (.cells #[.bool false,.bool false,.bool false,.bool false,.bool false] 120) = w1 at *
    go_wp2_with (with_reducible refine wpList_store_row rfl 120 (.tmp 2) (.tmp 15) rfl _ _ rfl rfl _ _ hn (by kernel_rfl) (by kernel_rfl) (by kernel_rfl) ?_)
    refine bodyPost_ret (t1a rfl _ _ w.heap.size 120 _ (0,0) _ rfl (setRow_heap _ _ _ _ _ _ hn) rfl rfl (by kernel_rfl)) rfl ?_
    exact ⟨rfl,t1c Hb.out (Nat.le_refl _)⟩
  by_cases h6 : k = 6
  · subst h6
    go_enter Tryz.func104,Tryz.ntmps104
    go_upto_region 1 with fail
    generalize w.alloc (.cells #[.bool false,.bool false,.bool false,.bool false,.bool false] 120) = w1 at *
    go_wp2_with (with_reducible refine wpList_store_row rfl 120 (.tmp 2) (.tmp 19) rfl _ _ rfl rfl _ _ hn (by kernel_rfl) (by kernel_rfl) (by kernel_rfl) ?_)
    refine bodyPost_ret (t1a rfl _ _ w.heap.size 120 _ (0,0) _ rfl (setRow_heap _ _ _ _ _ _ hn) rfl rfl (by kernel_rfl)) rfl ?_
    exact ⟨rfl,t1c Hb.out (Nat.le_refl _)⟩
  by_cases h7 : k = 7
  · subst h7
    go_enter Tryz.func104,Tryz.ntmps104
    go_upto_region 1 with fail
    generalize w.alloc (.cells #[.bool false,.bool false,.bool false,.bool false,.bool false] 120) = w1 at *
    go_wp2_with (with_reducible refine wpList_store_row rfl 120 (.tmp 2) (.tmp 19) rfl _ _ rfl rfl _ _ hn (by kernel_rfl) (by kernel_rfl) (by kernel_rfl) ?_)
    refine bodyPost_ret (t1a rfl _ _ w.heap.size 120 _ (0,0) _ rfl (setRow_heap _ _ _ _ _ _ hn) rfl rfl (by kernel_rfl)) rfl ?_
    exact ⟨rfl,t1c Hb.out (Nat.le_refl _)⟩
  by_cases h8 : k = 8
  · subst h8
    go_enter Tryz.func104,Tryz.ntmps104
    go_upto_region 1 with fail
    generalize w.alloc (.cells #[.bool false,.bool false,.bool false,.bool false,.bool false] 120) = w1 at *
    go_wp2_with (with_reducible refine wpList_store_row rfl 120 (.tmp 2) (.tmp 22) rfl _ _ rfl rfl _ _ hn (by kernel_rfl) (by kernel_rfl) (by kernel_rfl) ?_)
    refine bodyPost_ret (t1a rfl _ _ w.heap.size 120 _ (0,0) _ rfl (setRow_heap _ _ _ _ _ _ hn) rfl rfl (by kernel_rfl)) rfl ?_
    exact ⟨rfl,t1c Hb.out (Nat.le_refl _)⟩
  by_cases h9 : k = 9
  · subst h9
    go_enter Tryz.func104,Tryz.ntmps104
    go_upto_region 1 with fail
    generalize w.alloc (.cells #[.bool false,.bool false,.bool false,.bool false,.bool false] 120) = w1 at *
    go_wp2_with (with_reducible refine wpList_store_row rfl 120 (.tmp 2) (.tmp 25) rfl _ _ rfl rfl _ _ hn (by kernel_rfl) (by kernel_rfl) (by kernel_rfl) ?_)
    refine bodyPost_ret (t1a rfl _ _ w.heap.size 120 _ (0,0) _ rfl (setRow_heap _ _ _ _ _ _ hn) rfl rfl (by kernel_rfl)) rfl ?_
    exact ⟨rfl,t1c Hb.out (Nat.le_refl _)⟩
  have Hur:=zH (show ∀ w',Below w.heap.size w w' → UR k w (.returned (.tuple #[.agg #[.bool false,.bool false,.bool false,.bool false,.bool false],.bool false])) w' from fun w' hb=>by
    refine ⟨?_,hb⟩
    have e1 : t2e k = false:=by simp [t2e];omega
    have e2 : t1x k = false:=by simp [t1x];omega
    have e3 : t2a k = false:=by simp [t2a];omega
    have e4 : decide (k = 8) = false:=by simp;omega
    have e5 : decide (k = 9) = false:=by simp;omega
    have e6 : (decide (1 ≤ k) && decide (k ≤ 9)) = false:=by simp;omega
    rw [e1,e2,e3,e4,e5,e6])
  have d1 : (k == 1) = false:=beq_eq_false_iff_ne.2 h1
  have d2 : (k == 2) = false:=beq_eq_false_iff_ne.2 h2
  have d3 : (k == 3) = false:=beq_eq_false_iff_ne.2 h3
  have d4 : (k == 4) = false:=beq_eq_false_iff_ne.2 h4
  have d5 : (k == 5) = false:=beq_eq_false_iff_ne.2 h5
  have d6 : (k == 6) = false:=beq_eq_false_iff_ne.2 h6
  have d7 : (k == 7) = false:=beq_eq_false_iff_ne.2 h7
  have d8 : (k == 8) = false:=beq_eq_false_iff_ne.2 h8
  have d9 : (k == 9) = false:=beq_eq_false_iff_ne.2 h9
  clear h1 h2 h3 h4 h5 h6 h7 h8 h9
  go_enter Tryz.func104,Tryz.ntmps104
  go_upto_region 1 with fail
  generalize w.alloc (.cells #[.bool false,.bool false,.bool false,.bool false,.bool false] 120) = w1 at *
  go_wp2_with (with_reducible refine wpList_store_row rfl 120 (.tmp 2) (.tmp 26) rfl _ _ rfl rfl _ _ hn (by kernel_rfl) (by kernel_rfl) (by kernel_rfl) ?_)
  refine bodyPost_ret (t1a rfl _ _ w.heap.size 120 _ (0,0) _ rfl (setRow_heap _ _ _ _ _ _ hn) rfl rfl (by kernel_rfl)) rfl ?_
  exact Hur.out _ (t1c Hb.out (Nat.le_refl _))
end Go.Proofs.YtjgldaaofdpcgaaGreat
