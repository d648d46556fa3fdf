/- Walks and plain facts for the laws of membership, for all values and types that the heap holds (texts K6 K7 K8). -/
import Derived.Test.YtjgldaaofdpcgaaGreatX03
import Derived.Test.YtjgldaaofdpcgaaGreatX12
set_option linter.unusedVariables false
set_option linter.unusedSimpArgs false
namespace Go.Proofs.YtjgldaaofdpcgaaGreat
open Go.RowKit Go.Ident
set_option maxRecDepth 100000
set_option maxHeartbeats 16000000 in
theorem t9v (a : VV) (w : World) (u : Value) (hu : VW w u a) : Calls Tryz.prog 107 #[u] w (ER (funOk a) w):=by
  obtain ⟨_,q1,q2,q3,q4,q5,q6,q7,q8,rfl,-,-,-,hk,-⟩:=hu.ex
  have hL : a.ents.length ≤ 9223372036854775807:=by obtain ⟨_,_,_,_,h⟩:=hk;exact h.big
  have HK:=zH hk
  clear hu hk
  go_enter Tryz.func107,Tryz.ntmps107
  go_upto_region 1 with fail
  have hA:=heap_alloc_new w (.cells #[.int .i64 a.kind,.int .i64 a.num,.string a.text,.slice q1 a.kids.length q2,.slice q3 a.keys.length q4,.slice q5 a.ents.length q6,.slice q7 a.labels.length q8] 28)
  have hb : Below w.heap.size w (w.alloc (.cells #[.int .i64 a.kind,.int .i64 a.num,.string a.text,.slice q1 a.kids.length q2,.slice q3 a.keys.length q4,.slice q5 a.ents.length q6,.slice q7 a.labels.length q8] 28)):=(Below.refl _ _).alloc (Nat.le_refl _) _
  generalize w.alloc (.cells #[.int .i64 a.kind,.int .i64 a.num,.string a.text,.slice q1 a.kids.length q2,.slice q3 a.keys.length q4,.slice q5 a.ents.length q6,.slice q7 a.labels.length q8] 28) = w2 at *
  have Hb:=zH hb
  obtain ⟨⟨f0,f1,f2,f3⟩,f4,f5,f6⟩:=t0j hA
  have HA:=zH hA
  have hlA:=t0a hA
  have Hasc:=zH (thr a.ents w2 _ (HK.out.below hb))
  clear hA hb
  by_cases h0 : 0 ≤ a.num
  rotate_left
  · have d0 : decide (a.num < 0) = true:=by simp;omega
    have Hr:=zH (show funOk a = false by unfold funOk;simp [h0])
    clear h0
    go_wp2
    go_ret
    rw [Hr.out]
    exact ⟨rfl,Hb.out⟩
  have d0 : decide (a.num < 0) = false:=by simp;omega
  by_cases h4 : a.num ≤ 4
  rotate_left
  · have d1 : decide (4 < a.num) = true:=by simp;omega
    have d1' : decide (a.num ≤ 4) = false:=by simp;omega
    have Hr:=zH (show funOk a = false by unfold funOk;simp [h4])
    clear h4 h0
    go_wp2
    go_ret
    rw [Hr.out]
    exact ⟨rfl,Hb.out⟩
  have d1 : decide (4 < a.num) = false:=by simp;omega
  have Hr:=zH (show funOk a = (ascL cmpE a.ents && a.ents.all (entOk a.num)) by unfold funOk;simp [h0,h4])
  clear h0 h4
  cases hasc : ascL cmpE a.ents with
  | false =>
    rw [hasc] at Hasc
    have Hr2:=zH (show funOk a = false by rw [Hr.out,hasc];rfl)
    clear hasc
    go_wp2_with (go_at_call 124;refine Hasc.out.mono ?_;rintro e w1 ⟨rfl,q⟩;have Hb1:=zH (Hb.out.step q);clear q)
    go_ret
    rw [Hr2.out]
    exact ⟨rfl,Hb1.out⟩
  | true =>
    rw [hasc] at Hasc
    have Hr2:=zH (show funOk a = a.ents.all (entOk a.num) by rw [Hr.out,hasc];rfl)
    clear hasc
    go_upto_region 3 with (go_at_call 124;refine Hasc.out.mono ?_;rintro e w1 ⟨rfl,q⟩;have Hb1:=zH (Hb.out.step q);have Hc1:=zH q;clear q)
    clear f0 f1 f2 f3 f4 f5 f6
    have HA1:=zH ((Hc1.out.block _ hlA).trans HA.out)
    obtain ⟨⟨f0,f1,f2,f3⟩,f4,f5,f6⟩:=t0j HA1.out
    go_wp2
    clear f0 f1 f2 f3 f4 f5 f6
    go_loopw [22] (fun i wr=>∃ k : Nat,i = .int .i64 k ∧ k ≤ a.ents.length ∧ (a.ents.take k).all (entOk a.num) = true ∧ Below w1.heap.size w1 wr) (fun i _=>a.ents.length - (intOf i).toNat)
    case atStart=>exact ⟨0,rfl,by omega,by simp,Below.refl _ _⟩
    case round =>
      obtain ⟨k,rfl,hk,hall,hb⟩:=hrel
      have Hall:=zH hall;have Hbr:=zH hb;have Hbw:=zH (Hb1.out.step hb);clear hall hb
      by_cases hlt : k < a.ents.length
      · obtain ⟨de,p',c',e9,hr⟩:=HK.out.below Hbw.out
        injection e9 with e1 _ e3
        subst e1 e3
        obtain ⟨ak,ok,cs,rfl,hab,-,hrg,hES⟩:=hr.at hlt
        have hbig : a.ents[k].args.length ≤ 9223372036854775807:=by obtain ⟨_,_,_,_,h,_⟩:=hES;exact h.big
        have HES:=zH hES
        obtain ⟨r9,ra,r1,r2,r3,r4,r5,r6,r7,r8,rfl⟩:=hES.nine
        have z0:=hrg 0 _ rfl
        have z1:=hrg 1 _ rfl
        have z2:=hrg 2 _ rfl
        have z3:=hrg 3 _ rfl
        have z4:=hrg 4 _ rfl
        have z5:=hrg 5 _ rfl
        have z6:=hrg 6 _ rfl
        have z7:=hrg 7 _ rfl
        have z8:=hrg 8 _ rfl
        rw [Nat.add_zero] at z0
        clear hr hrg hES
        have hst:=t2t (p:=entOk a.num) hlt
        rw [Hall.out,Bool.true_and] at hst
        have Hst:=zH hst
        have Hno:=zH (t4a (p:=entOk a.num) hlt)
        clear hst
        generalize a.ents[k] = x at *
        obtain ⟨wo,hwo⟩ : ∃ wo : World,wo = wr:=⟨_,rfl⟩
        subst hwo
        go_upto_region 6 with fail
        have hnew:=heap_alloc_new wo (.cells #[.slice r9 x.args.length ra,.bool x.fails,.int .i64 x.res.kind,.int .i64 x.res.num,.string x.res.text,.slice r1 x.res.kids.length r2,.slice r3 x.res.keys.length r4,.slice r5 x.res.ents.length r6,.slice r7 x.res.labels.length r8] 55)
        have ho : Below wo.heap.size wo (wo.alloc (.cells #[.slice r9 x.args.length ra,.bool x.fails,.int .i64 x.res.kind,.int .i64 x.res.num,.string x.res.text,.slice r1 x.res.kids.length r2,.slice r3 x.res.keys.length r4,.slice r5 x.res.ents.length r6,.slice r7 x.res.labels.length r8] 55)):=(Below.refl _ _).alloc (Nat.le_refl _) _
        generalize wo.alloc (.cells #[.slice r9 x.args.length ra,.bool x.fails,.int .i64 x.res.kind,.int .i64 x.res.num,.string x.res.text,.slice r1 x.res.kids.length r2,.slice r3 x.res.keys.length r4,.slice r5 x.res.ents.length r6,.slice r7 x.res.labels.length r8] 55) = w5 at *
        have Hb5:=zH (Hbr.out.step ho)
        have Hbw5:=zH (Hb1.out.step Hb5.out)
        obtain ⟨⟨g0,g1,g2,g3⟩,⟨g4,g5,g6,g7⟩,g8⟩:=t1l hnew
        obtain ⟨⟨f0,f1,f2,f3⟩,f4,f5,f6⟩:=t0j ((Hb5.out.block _ (t0a HA1.out)).trans HA1.out)
        have Hv:=zH (tbo x a.num w5 de _ (HES.out.below ho) hbig)
        clear z0 z1 z2 z3 z4 z5 z6 z7 z8 hnew ho
        cases hv : entOk a.num x with
        | true =>
          rw [hv] at Hv
          have Hst2:=zH (Hst.out.trans hv)
          clear hv
          go_wp2_with (go_at_call 126;refine Hv.out.mono ?_;rintro e w6 ⟨rfl,q⟩;have Hb6:=zH (Hb5.out.step q);clear q)
          exact ⟨⟨k + 1,by go_num,by omega,Hst2.out,Hb6.out⟩,by simp [intOf];omega⟩
        | false =>
          rw [hv] at Hv
          have Hf:=zH (Hno.out hv)
          clear hv
          go_wp2_with (go_at_call 126;refine Hv.out.mono ?_;rintro e w6 ⟨rfl,q⟩;have Hb6:=zH (Hbw5.out.step q);clear q)
          go_ret
          rw [Hr2.out,Hf.out]
          exact ⟨rfl,Hb6.out⟩
      · obtain rfl : k = a.ents.length:=by omega
        have Hy:=zH (show a.ents.all (entOk a.num) = true by have:=Hall.out;rwa [List.take_length] at this)
        go_wp2
        go_ret
        rw [Hr2.out,Hy.out]
        exact ⟨rfl,Hbw.out⟩
end Go.Proofs.YtjgldaaofdpcgaaGreat
namespace Go.Proofs.YtjgldaaofdpcgaaGreat
open Go.RowKit Go.Ident
set_option maxRecDepth 100000
theorem t1a {P : Program} {fn : Func} {p u : Tmp} {ty : TypeId} (h : fn.results = #[.cell p ty,.tmp u]) (tmps : Array Value) (w : World) (g : Nat) (t : TypeId) (cs : Array Value) (fr : Nat × Nat) (d : TypeDesc)
    (hp : tmps.getD p undef = .pointer (some ⟨g,0,none⟩)) (hg : w.heap[g]? = some (.cells cs t fr))
    (hu : P.underlying ty = some d) (hd : (match d with | .struct _ | .array _ _=>true | _=>false) = true) (hi : (P.info? ty).map (·.size) = some cs.size) :
    (results fn tmps).run P w = .ok (.tuple #[.agg cs,tmps.getD u undef]) w:=by
  have hp' : tmps[p]?.getD undef = .pointer (some ⟨g,0,none⟩):=by simpa using hp
  simp [results,h,hp',asAddr,run_loadVar_row w g t ty cs fr d hg hu hd hi]
theorem t1c {B : Nat} {w a : World} {g : Nat} {cs : Array Value} (h : Below B w a) (hB : B ≤ g) : Below B w (a.setRow g cs) :=
  ⟨h.os,h.tape,h.output,by rw [size_setRow];exact h.size,fun k hk=>by
    rw [← h.block k hk]
    simp only [World.setRow,Array.getElem?_modify]
    rw [if_neg (by omega)]⟩
def UR (k : Int) (w : World) (e : Ending) (w' : World) : Prop:=e = .returned (.tuple #[.agg #[.bool (t2d k),.bool (t1x k),.bool (t2a k),.bool (decide (k = 8)),.bool (decide (k = 9))],.bool (decide (1 ≤ k) && decide (k ≤ 9))]) ∧ Below w.heap.size w w'
set_option maxHeartbeats 16000000 in
theorem tdk (k : Int) (w : World) : Calls Tryz.prog 104 #[.int .i64 k] w (UR k w):=by
  have hn:=heap_alloc_new w (.cells #[.bool false,.bool false,.bool false,.bool false,.bool false] 120)
  have hb:=(Below.refl w.heap.size w).alloc (Nat.le_refl _) (.cells #[.bool false,.bool false,.bool false,.bool false,.bool false] 120)
  have Hb:=zH hb;clear hb
  by_cases h1 : k = 1
  · subst h1
    go_enter Tryz.func104,Tryz.ntmps104
    go_upto_region 1 with fail
    generalize w.alloc (.cells #[.bool false,.bool false,.bool false,.bool false,.bool false] 120) = w1 at *
    go_wp2_with (with_reducible refine wpList_store_row rfl 120 (.tmp 2) (.tmp 8) rfl _ _ rfl rfl _ _ hn (by kernel_rfl) (by kernel_rfl) (by kernel_rfl) ?_)
    refine bodyPost_ret (t1a rfl _ _ w.heap.size 120 _ (0,0) _ rfl (setRow_heap _ _ _ _ _ _ hn) rfl rfl (by kernel_rfl)) rfl ?_
    exact ⟨rfl,t1c Hb.out (Nat.le_refl _)⟩
  by_cases h2 : k = 2
  · subst h2
    go_enter Tryz.func104,Tryz.ntmps104
    go_upto_region 1 with fail
    generalize w.alloc (.cells #[.bool false,.bool false,.bool false,.bool false,.bool false] 120) = w1 at *
    go_wp2_with (with_reducible refine wpList_store_row rfl 120 (.tmp 2) (.tmp 12) rfl _ _ rfl rfl _ _ hn (by kernel_rfl) (by kernel_rfl) (by kernel_rfl) ?_)
    refine bodyPost_ret (t1a rfl _ _ w.heap.size 120 _ (0,0) _ rfl (setRow_heap _ _ _ _ _ _ hn) rfl rfl (by kernel_rfl)) rfl ?_
    exact ⟨rfl,t1c Hb.out (Nat.le_refl _)⟩
  by_cases h3 : k = 3
  · subst h3
    go_enter Tryz.func104,Tryz.ntmps104
    go_upto_region 1 with fail
    generalize w.alloc (.cells #[.bool false,.bool false,.bool false,.bool false,.bool false] 120) = w1 at *
    go_wp2_with (with_reducible refine wpList_store_row rfl 120 (.tmp 2) (.tmp 12) rfl _ _ rfl rfl _ _ hn (by kernel_rfl) (by kernel_rfl) (by kernel_rfl) ?_)
    refine bodyPost_ret (t1a rfl _ _ w.heap.size 120 _ (0,0) _ rfl (setRow_heap _ _ _ _ _ _ hn) rfl rfl (by kernel_rfl)) rfl ?_
    exact ⟨rfl,t1c Hb.out (Nat.le_refl _)⟩
  by_cases h4 : k = 4
  · subst h4
    go_enter Tryz.func104,Tryz.ntmps104
    go_upto_region 1 with fail
    generalize w.alloc (.cells #[.bool false,.bool false,.bool false,.bool false,.bool false] 120) = w1 at *
    go_wp2_with (with_reducible refine wpList_store_row rfl 120 (.tmp 2) (.tmp 8) rfl _ _ rfl rfl _ _ hn (by kernel_rfl) (by kernel_rfl) (by kernel_rfl) ?_)
    refine bodyPost_ret (t1a rfl _ _ w.heap.size 120 _ (0,0) _ rfl (setRow_heap _ _ _ _ _ _ hn) rfl rfl (by kernel_rfl)) rfl ?_
    exact ⟨rfl,t1c Hb.out (Nat.le_refl _)⟩
  by_cases h5 : k = 5
  · subst h5
    go_enter Tryz.func104,Tryz.ntmps104
    go_upto_region 1 with fail
    generalize w.alloc (.cells #[.bool false,.bool false,.bool false,.bool false,.bool false] 120) = w1 at *
    go_wp2_with (with_reducible refine wpList_store_row rfl 120 (.tmp 2) (.tmp 15) rfl _ _ rfl rfl _ _ hn (by kernel_rfl) (by kernel_rfl) (by kernel_rfl) ?_)
    refine bodyPost_ret (t1a rfl _ _ w.heap.size 120 _ (0,0) _ rfl (setRow_heap _ _ _ _ _ _ hn) rfl rfl (by kernel_rfl)) rfl ?_
    exact ⟨rfl,t1c Hb.out (Nat.le_refl _)⟩
  by_cases h6 : k = 6
  · subst h6
    go_enter Tryz.func104,Tryz.ntmps104
    go_upto_region 1 with fail
    generalize w.alloc (.cells #[.bool false,.bool false,.bool false,.bool false,.bool false] 120) = w1 at *
    go_wp2_with (with_reducible refine wpList_store_row rfl 120 (.tmp 2) (.tmp 19) rfl _ _ rfl rfl _ _ hn (by kernel_rfl) (by kernel_rfl) (by kernel_rfl) ?_)
    refine bodyPost_ret (t1a rfl _ _ w.heap.size 120 _ (0,0) _ rfl (setRow_heap _ _ _ _ _ _ hn) rfl rfl (by kernel_rfl)) rfl ?_
    exact ⟨rfl,t1c Hb.out (Nat.le_refl _)⟩
  by_cases h7 : k = 7
  · subst h7
    go_enter Tryz.func104,Tryz.ntmps104
    go_upto_region 1 with fail
    generalize w.alloc (.cells #[.bool false,.bool false,.bool false,.bool false,.bool false] 120) = w1 at *
    go_wp2_with (with_reducible refine wpList_store_row rfl 120 (.tmp 2) (.tmp 19) rfl _ _ rfl rfl _ _ hn (by kernel_rfl) (by kernel_rfl) (by kernel_rfl) ?_)
    refine bodyPost_ret (t1a rfl _ _ w.heap.size 120 _ (0,0) _ rfl (setRow_heap _ _ _ _ _ _ hn) rfl rfl (by kernel_rfl)) rfl ?_
    exact ⟨rfl,t1c Hb.out (Nat.le_refl _)⟩
  by_cases h8 : k = 8
  · subst h8
    go_enter Tryz.func104,Tryz.ntmps104
    go_upto_region 1 with fail
    generalize w.alloc (.cells #[.bool false,.bool false,.bool false,.bool false,.bool false] 120) = w1 at *
    go_wp2_with (with_reducible refine wpList_store_row rfl 120 (.tmp 2) (.tmp 22) rfl _ _ rfl rfl _ _ hn (by kernel_rfl) (by kernel_rfl) (by kernel_rfl) ?_)
    refine bodyPost_ret (t1a rfl _ _ w.heap.size 120 _ (0,0) _ rfl (setRow_heap _ _ _ _ _ _ hn) rfl rfl (by kernel_rfl)) rfl ?_
    exact ⟨rfl,t1c Hb.out (Nat.le_refl _)⟩
  by_cases h9 : k = 9
  · subst h9
    go_enter Tryz.func104,Tryz.ntmps104
    go_upto_region 1 with fail
    generalize w.alloc (.cells #[.bool false,.bool false,.bool false,.bool false,.bool false] 120) = w1 at *
    go_wp2_with (with_reducible refine wpList_store_row rfl 120 (.tmp 2) (.tmp 25) rfl _ _ rfl rfl _ _ hn (by kernel_rfl) (by kernel_rfl) (by kernel_rfl) ?_)
    refine bodyPost_ret (t1a rfl _ _ w.heap.size 120 _ (0,0) _ rfl (setRow_heap _ _ _ _ _ _ hn) rfl rfl (by kernel_rfl)) rfl ?_
    exact ⟨rfl,t1c Hb.out (Nat.le_refl _)⟩
  have Hur:=zH (show ∀ w',Below w.heap.size w w' → UR k w (.returned (.tuple #[.agg #[.bool false,.bool false,.bool false,.bool false,.bool false],.bool false])) w' from fun w' hb=>by
    refine ⟨?_,hb⟩
    have e1 : t2d k = false:=by simp [t2d];omega
    have e2 : t1x k = false:=by simp [t1x];omega
    have e3 : t2a k = false:=by simp [t2a];omega
    have e4 : decide (k = 8) = false:=by simp;omega
    have e5 : decide (k = 9) = false:=by simp;omega
    have e6 : (decide (1 ≤ k) && decide (k ≤ 9)) = false:=by simp;omega
    rw [e1,e2,e3,e4,e5,e6])
  have d1 : (k == 1) = false:=beq_eq_false_iff_ne.2 h1
  have d2 : (k == 2) = false:=beq_eq_false_iff_ne.2 h2
  have d3 : (k == 3) = false:=beq_eq_false_iff_ne.2 h3
  have d4 : (k == 4) = false:=beq_eq_false_iff_ne.2 h4
  have d5 : (k == 5) = false:=beq_eq_false_iff_ne.2 h5
  have d6 : (k == 6) = false:=beq_eq_false_iff_ne.2 h6
  have d7 : (k == 7) = false:=beq_eq_false_iff_ne.2 h7
  have d8 : (k == 8) = false:=beq_eq_false_iff_ne.2 h8
  have d9 : (k == 9) = false:=beq_eq_false_iff_ne.2 h9
  clear h1 h2 h3 h4 h5 h6 h7 h8 h9
  go_enter Tryz.func104,Tryz.ntmps104
  go_upto_region 1 with fail
  generalize w.alloc (.cells #[.bool false,.bool false,.bool false,.bool false,.bool false] 120) = w1 at *
  go_wp2_with (with_reducible refine wpList_store_row rfl 120 (.tmp 2) (.tmp 26) rfl _ _ rfl rfl _ _ hn (by kernel_rfl) (by kernel_rfl) (by kernel_rfl) ?_)
  refine bodyPost_ret (t1a rfl _ _ w.heap.size 120 _ (0,0) _ rfl (setRow_heap _ _ _ _ _ _ hn) rfl rfl (by kernel_rfl)) rfl ?_
  exact Hur.out _ (t1c Hb.out (Nat.le_refl _))
end Go.Proofs.YtjgldaaofdpcgaaGreat
namespace Go.Proofs.YtjgldaaofdpcgaaGreat
open Go.RowKit Go.Ident
set_option maxRecDepth 100000
theorem tgk (s : ByteArray) : (s.toList != []) = !decide (s.size = 0):=by
  have h : s.toList = s.data.toList:=ByteArray.toList_eq s
  rw [h]
  have : s.size = s.data.toList.length:=by show s.data.size = _;simp
  rw [this]
  cases s.data.toList <;> simp
theorem t2g (s : ByteArray) : s.toList.isEmpty = decide (s.size = 0):=by
  have h:=tgk s
  generalize decide (s.size = 0) = d at *
  cases hl : s.toList with
  | nil=>rw [hl] at h;cases d <;> simp_all
  | cons x r=>rw [hl] at h;cases d <;> simp_all
set_option maxHeartbeats 64000000 in
theorem tgl (a : VV) (h9 : a.kind = 1 ∨ a.kind = 2 ∨ a.kind = 3 ∨ a.kind = 4 ∨ a.kind = 5 ∨ a.kind = 6 ∨ a.kind = 7 ∨ a.kind = 8 ∨ a.kind = 9) (w : World) (u : Value) (hu : VW w u a) : Calls Tryz.prog 84 #[u] w (ER (nodeV a) w):=by
  obtain ⟨b0,b1,b2,b3,b4,S,hB⟩ : ∃ b0 b1 b2 b3 b4 S : Bool,(a.kind = 1 ∧ b0 = true ∧ b1 = false ∧ b2 = false ∧ b3 = false ∧ b4 = false ∧ S = true) ∨ (a.kind = 2 ∧ b0 = false ∧ b1 = true ∧ b2 = false ∧ b3 = false ∧ b4 = false ∧ S = decide (a.text.size ≤ 64)) ∨ (a.kind = 3 ∧ b0 = false ∧ b1 = true ∧ b2 = false ∧ b3 = false ∧ b4 = false ∧ S = isAtm a.text.data.toList) ∨ (a.kind = 4 ∧ b0 = true ∧ b1 = false ∧ b2 = false ∧ b3 = false ∧ b4 = false ∧ S = decide (0 ≤ a.num)) ∨ (a.kind = 5 ∧ b0 = false ∧ b1 = false ∧ b2 = false ∧ b3 = false ∧ b4 = false ∧ S = true) ∨ (a.kind = 6 ∧ b0 = false ∧ b1 = false ∧ b2 = true ∧ b3 = false ∧ b4 = false ∧ S = decide (a.kids.length ≤ 4)) ∨ (a.kind = 7 ∧ b0 = false ∧ b1 = false ∧ b2 = true ∧ b3 = false ∧ b4 = false ∧ S = (decide (a.kids.length = 2) && t5i a.kids)) ∨ (a.kind = 8 ∧ b0 = false ∧ b1 = false ∧ b2 = true ∧ b3 = true ∧ b4 = false ∧ S = mapOk a) ∨ (a.kind = 9 ∧ b0 = true ∧ b1 = false ∧ b2 = false ∧ b3 = false ∧ b4 = true ∧ S = funOk a):=by
    rcases h9 with h | h | h | h | h | h | h | h | h
    · exact ⟨true,false,false,false,false,true,by simp [h]⟩
    · exact ⟨false,true,false,false,false,decide (a.text.size ≤ 64),by simp [h]⟩
    · exact ⟨false,true,false,false,false,isAtm a.text.data.toList,by simp [h]⟩
    · exact ⟨true,false,false,false,false,decide (0 ≤ a.num),by simp [h]⟩
    · exact ⟨false,false,false,false,false,true,by simp [h]⟩
    · exact ⟨false,false,true,false,false,decide (a.kids.length ≤ 4),by simp [h]⟩
    · exact ⟨false,false,true,false,false,(decide (a.kids.length = 2) && t5i a.kids),by simp [h]⟩
    · exact ⟨false,false,true,true,false,mapOk a,by simp [h]⟩
    · exact ⟨true,false,false,false,true,funOk a,by simp [h]⟩
  have Hn:=zH (show nodeV a = (labOk a.labels && (b0 || decide (a.num = 0)) && (b1 || decide (a.text.size = 0)) && (b2 || a.kids.isEmpty) && (b3 || a.keys.isEmpty) && (b4 || a.ents.isEmpty) && S) by
    rcases hB with ⟨hk,rfl,rfl,rfl,rfl,rfl,hS⟩ | ⟨hk,rfl,rfl,rfl,rfl,rfl,hS⟩ | ⟨hk,rfl,rfl,rfl,rfl,rfl,hS⟩ | ⟨hk,rfl,rfl,rfl,rfl,rfl,hS⟩ | ⟨hk,rfl,rfl,rfl,rfl,rfl,hS⟩ | ⟨hk,rfl,rfl,rfl,rfl,rfl,hS⟩ | ⟨hk,rfl,rfl,rfl,rfl,rfl,hS⟩ | ⟨hk,rfl,rfl,rfl,rfl,rfl,hS⟩ | ⟨hk,rfl,rfl,rfl,rfl,rfl,hS⟩
    all_goals
      subst hS
      unfold nodeV labOk
      try unfold mapOk
      try unfold funOk
      simp [hk,t2d,t1x,t2a]
      try ac_rfl)
  have hU:=fun (w2 : World)=>show Calls Tryz.prog 104 #[.int .i64 a.kind] w2 fun e w'=>e = .returned (.tuple #[.agg #[.bool b0,.bool b1,.bool b2,.bool b3,.bool b4],.bool true]) ∧ Below w2.heap.size w2 w' from (tdk a.kind w2).mono fun _ _ h=>⟨by rcases hB with ⟨hk,rfl,rfl,rfl,rfl,rfl,hS⟩ | ⟨hk,rfl,rfl,rfl,rfl,rfl,hS⟩ | ⟨hk,rfl,rfl,rfl,rfl,rfl,hS⟩ | ⟨hk,rfl,rfl,rfl,rfl,rfl,hS⟩ | ⟨hk,rfl,rfl,rfl,rfl,rfl,hS⟩ | ⟨hk,rfl,rfl,rfl,rfl,rfl,hS⟩ | ⟨hk,rfl,rfl,rfl,rfl,rfl,hS⟩ | ⟨hk,rfl,rfl,rfl,rfl,rfl,hS⟩ | ⟨hk,rfl,rfl,rfl,rfl,rfl,hS⟩ <;> simpa [t2d,t1x,t2a,hk] using h.1,h.2⟩
  have HB:=zH hB
  have Hu:=zH hu
  obtain ⟨_,q1,q2,q3,q4,q5,q6,q7,q8,rfl,-,hkids,-,-,hl⟩:=hu.ex
  have hszk : a.kids.length ≤ 9223372036854775807:=by obtain ⟨_,_,_,_,h⟩:=hkids;exact h.big
  have HK:=zH hkids;have HL:=zH hl;have HU:=zH hU
  clear hu hkids hl h9 hB hU
  go_enter Tryz.func84,Tryz.ntmps84
  go_upto_region 1 with fail
  have hA:=heap_alloc_new w (.cells #[.int .i64 a.kind,.int .i64 a.num,.string a.text,.slice q1 a.kids.length q2,.slice q3 a.keys.length q4,.slice q5 a.ents.length q6,.slice q7 a.labels.length q8] 28)
  have hb : Below w.heap.size w (w.alloc (.cells #[.int .i64 a.kind,.int .i64 a.num,.string a.text,.slice q1 a.kids.length q2,.slice q3 a.keys.length q4,.slice q5 a.ents.length q6,.slice q7 a.labels.length q8] 28)):=(Below.refl _ _).alloc (Nat.le_refl _) _
  generalize w.alloc (.cells #[.int .i64 a.kind,.int .i64 a.num,.string a.text,.slice q1 a.kids.length q2,.slice q3 a.keys.length q4,.slice q5 a.ents.length q6,.slice q7 a.labels.length q8] 28) = w2 at *
  have hlA:=t0a hA
  have HA:=zH hA;have Hb:=zH hb
  obtain ⟨⟨f0,f1,f2,f3⟩,f4,f5,f6⟩:=t0j hA
  clear hA hb
  have Hus:=zH (HU.out w2)
  go_upto_region 2 with (go_at_call 104;refine Hus.out.mono ?_;rintro e w3 ⟨rfl,q⟩;have Hb3:=zH q;clear q)
  have hn4:=heap_alloc_new w3 (.cells #[.bool b0,.bool b1,.bool b2,.bool b3,.bool b4] 120)
  have ho : Below w3.heap.size w3 (w3.alloc (.cells #[.bool b0,.bool b1,.bool b2,.bool b3,.bool b4] 120)):=(Below.refl _ _).alloc (Nat.le_refl _) _
  generalize w3.alloc (.cells #[.bool b0,.bool b1,.bool b2,.bool b3,.bool b4] 120) = w4 at *
  have Hb4:=zH (Hb3.out.step ho)
  have Hbw4:=zH (Hb.out.step Hb4.out)
  clear f0 f1 f2 f3 f4 f5 f6 ho
  obtain ⟨⟨f0,f1,f2,f3⟩,f4,f5,f6⟩:=t0j ((Hb4.out.block _ hlA).trans HA.out)
  have hl4:=t0a hn4
  have Hn4:=zH hn4
  clear hn4
  have Hlab:=zH (tb1 a.labels w4 _ (HL.out.below Hbw4.out))
  cases hlab : labOk a.labels with
  | false =>
    have Hr:=zH (show nodeV a = false by rw [Hn.out,hlab];simp)
    rw [hlab] at Hlab
    clear hlab
    go_wp2_with (go_at_call 105;refine Hlab.out.mono ?_;rintro e w5 ⟨rfl,q⟩;have Hb5:=zH (Hbw4.out.step q);clear q)
    go_ret
    rw [Hr.out]
    exact ⟨rfl,Hb5.out⟩
  | true =>
    rw [hlab] at Hlab Hn
    clear hlab
    go_upto_region 4 with (go_at_call 105;refine Hlab.out.mono ?_;rintro e w5 ⟨rfl,q⟩;have Hb5:=zH (Hbw4.out.step q);have Hq5:=zH q;clear q)
    clear f0 f1 f2 f3 f4 f5 f6
    have HA5:=zH ((Hq5.out.block _ (Nat.lt_of_lt_of_le hlA Hb4.out.size)).trans ((Hb4.out.block _ hlA).trans HA.out))
    obtain ⟨⟨f0,f1,f2,f3⟩,f4,f5,f6⟩:=t0j HA5.out
    obtain ⟨g0,g1,g2,g3,g4⟩ : w5.cell? ⟨w3.heap.size,0,none⟩ = some (.bool b0) ∧ w5.cell? ⟨w3.heap.size,1,none⟩ = some (.bool b1) ∧ w5.cell? ⟨w3.heap.size,2,none⟩ = some (.bool b2) ∧ w5.cell? ⟨w3.heap.size,3,none⟩ = some (.bool b3) ∧ w5.cell? ⟨w3.heap.size,4,none⟩ = some (.bool b4):=by
      have h:=(Hq5.out.block _ hl4).trans Hn4.out
      simp [World.cell?,h]
    have Hu5:=zH (Hu.out.below Hb5.out)
    rcases HB.out with ⟨hk,rfl,rfl,rfl,rfl,rfl,hS⟩ | ⟨hk,rfl,rfl,rfl,rfl,rfl,hS⟩ | ⟨hk,rfl,rfl,rfl,rfl,rfl,hS⟩ | ⟨hk,rfl,rfl,rfl,rfl,rfl,hS⟩ | ⟨hk,rfl,rfl,rfl,rfl,rfl,hS⟩ | ⟨hk,rfl,rfl,rfl,rfl,rfl,hS⟩ | ⟨hk,rfl,rfl,rfl,rfl,rfl,hS⟩ | ⟨hk,rfl,rfl,rfl,rfl,rfl,hS⟩ | ⟨hk,rfl,rfl,rfl,rfl,rfl,hS⟩
    all_goals rw [hk] at f0 Hu5
    all_goals have HS:=zH hS
    all_goals clear hk hS
    all_goals (first
      | (have q : w5.cell? ⟨w3.heap.size, 0, none⟩ = some (.bool false) := g0
         clear q
         by_cases z : a.num = 0
         rotate_left
         · have e:=(decide_eq_false z)
           have Hr:=zH (show nodeV a = false by rw [Hn.out,e];simp)
           have d0 : (a.num != 0) = true:=by simp [z]
           clear z e
           go_wp2
           go_ret
           rw [Hr.out]
           exact ⟨rfl,Hb5.out⟩
         have e:=(decide_eq_true z)
         have d0 : (a.num != 0) = false:=by simp [z]
         rw [e] at Hn
         clear z e)
      | skip)
    all_goals (first
      | (have q : w5.cell? ⟨w3.heap.size, 1, none⟩ = some (.bool false) := g1
         clear q
         by_cases z : a.text.size = 0
         rotate_left
         · have e:=(decide_eq_false z)
           have Hr:=zH (show nodeV a = false by rw [Hn.out,e];simp)
           have d1 : a.text.toList.isEmpty = false:=(t2g a.text).trans e
           clear z e
           go_wp2
           go_ret
           rw [Hr.out]
           exact ⟨rfl,Hb5.out⟩
         have e:=(decide_eq_true z)
         have d1 : a.text.toList.isEmpty = true:=(t2g a.text).trans e
         rw [e] at Hn
         clear z e)
      | skip)
    all_goals (first
      | (have q : w5.cell? ⟨w3.heap.size, 2, none⟩ = some (.bool false) := g2
         clear q
         by_cases z : a.kids.length = 0
         rotate_left
         · have e:=(show a.kids.isEmpty = false by rw [Bool.eq_false_iff];intro h;exact z (by simpa using h))
           have Hr:=zH (show nodeV a = false by rw [Hn.out,e];simp)
           have d2 : decide (0 < a.kids.length) = true:=by simp;omega
           clear z e
           go_wp2
           go_ret
           rw [Hr.out]
           exact ⟨rfl,Hb5.out⟩
         have e:=(show a.kids.isEmpty = true by simpa using z)
         have d2 : decide (0 < a.kids.length) = false:=by simp [z]
         rw [e] at Hn
         clear z e)
      | skip)
    all_goals (first
      | (have q : w5.cell? ⟨w3.heap.size, 3, none⟩ = some (.bool false) := g3
         clear q
         by_cases z : a.keys.length = 0
         rotate_left
         · have e:=(show a.keys.isEmpty = false by rw [Bool.eq_false_iff];intro h;exact z (by simpa using h))
           have Hr:=zH (show nodeV a = false by rw [Hn.out,e];simp)
           have d3 : decide (0 < a.keys.length) = true:=by simp;omega
           clear z e
           go_wp2
           go_ret
           rw [Hr.out]
           exact ⟨rfl,Hb5.out⟩
         have e:=(show a.keys.isEmpty = true by simpa using z)
         have d3 : decide (0 < a.keys.length) = false:=by simp [z]
         rw [e] at Hn
         clear z e)
      | skip)
    all_goals (first
      | (have q : w5.cell? ⟨w3.heap.size, 4, none⟩ = some (.bool false) := g4
         clear q
         by_cases z : a.ents.length = 0
         rotate_left
         · have e:=(show a.ents.isEmpty = false by rw [Bool.eq_false_iff];intro h;exact z (by simpa using h))
           have Hr:=zH (show nodeV a = false by rw [Hn.out,e];simp)
           have d4 : decide (0 < a.ents.length) = true:=by simp;omega
           clear z e
           go_wp2
           go_ret
           rw [Hr.out]
           exact ⟨rfl,Hb5.out⟩
         have e:=(show a.ents.isEmpty = true by simpa using z)
         have d4 : decide (0 < a.ents.length) = false:=by simp [z]
         rw [e] at Hn
         clear z e)
      | skip)
    all_goals have Hr:=zH (show nodeV a = S by rw [Hn.out];simp)
    all_goals obtain rfl:=HS.out
    · go_wp2
      go_ret
      rw [Hr.out]
      exact ⟨rfl,Hb5.out⟩
    · by_cases hs : a.text.size ≤ 64
      · have d9 : decide ((a.text.size : Int) ≤ 64) = true:=by simp;omega
        have d9' : decide (a.text.size ≤ 64) = true:=by simp [hs]
        rw [d9'] at Hr
        clear hs
        go_wp2
        go_ret
        rw [Hr.out]
        exact ⟨rfl,Hb5.out⟩
      · have d9 : decide ((a.text.size : Int) ≤ 64) = false:=by simp;omega
        have d9' : decide (a.text.size ≤ 64) = false:=by simp [hs]
        rw [d9'] at Hr
        clear hs
        go_wp2
        go_ret
        rw [Hr.out]
        exact ⟨rfl,Hb5.out⟩
    · have Hat:=zH (t8c a.text w5)
      generalize isAtm a.text.data.toList = c at *
      go_wp2_with (go_at_call 86;refine Hat.out.mono ?_;rintro e w5 ⟨rfl,rfl⟩)
      go_ret
      rw [Hr.out]
      exact ⟨rfl,Hb5.out⟩
    · go_wp2
      go_ret
      rw [Hr.out]
      exact ⟨rfl,Hb5.out⟩
    · go_wp2
      go_ret
      rw [Hr.out]
      exact ⟨rfl,Hb5.out⟩
    · by_cases hs : a.kids.length ≤ 4
      · have d9 : decide ((a.kids.length : Int) ≤ 4) = true:=by simp;omega
        have d9' : decide (a.kids.length ≤ 4) = true:=by simp [hs]
        rw [d9'] at Hr
        clear hs
        go_wp2
        go_ret
        rw [Hr.out]
        exact ⟨rfl,Hb5.out⟩
      · have d9 : decide ((a.kids.length : Int) ≤ 4) = false:=by simp;omega
        have d9' : decide (a.kids.length ≤ 4) = false:=by simp [hs]
        rw [d9'] at Hr
        clear hs
        go_wp2
        go_ret
        rw [Hr.out]
        exact ⟨rfl,Hb5.out⟩
    · by_cases hs : a.kids.length = 2
      rotate_left
      · have d9 : ((a.kids.length : Int) == 2) = false:=by simp;omega
        have d9' : (a.kids.length == 2) = false:=by simp;omega
        have d9'' : decide (a.kids.length = 2) = false:=by simp [hs]
        rw [d9'',Bool.false_and] at Hr
        clear hs
        go_wp2
        go_ret
        rw [Hr.out]
        exact ⟨rfl,Hb5.out⟩
      have h1 : 1 < a.kids.length:=by omega
      have htail : t5i a.kids = (decide (a.kids[1].kind = 5) || decide (a.kids[1].kind = 7)):=by unfold t5i;rw [List.getElem?_eq_getElem h1]
      have d9'' : decide (a.kids.length = 2) = true:=by simp [hs]
      rw [d9'',Bool.true_and,htail] at Hr
      obtain ⟨dk,p',c',e9,hrk⟩:=HK.out.below Hb5.out
      injection e9 with e91 _ e93
      subst e91 e93
      obtain ⟨ak,ok,cs,rfl,hab,-,hrg,hP⟩:=hrk.at h1
      obtain ⟨r1,r2,r3,r4,r5,r6,r7,r8,rfl⟩:=hP.seven
      have z0:=hrg 0 _ rfl
      rw [Nat.add_zero] at z0
      clear hrk hrg hP htail
      generalize a.kids[1] = y at *
      have d9 : ((a.kids.length : Int) == 2) = true:=by simp [hs]
      have d9' : (a.kids.length == 2) = true:=by simp [hs]
      have hlt1 : 1 < a.kids.length:=h1
      clear hs
      by_cases h5 : y.kind = 5
      · have e5 : (y.kind == 5) = true:=by simp [h5]
        have Hr2:=zH (show nodeV a = true by rw [Hr.out];simp [h5])
        clear h5
        go_wp2
        go_ret
        rw [Hr2.out]
        exact ⟨rfl,Hb5.out⟩
      · have e5 : (y.kind == 5) = false:=by simp [h5]
        have Hr2:=zH (show nodeV a = (y.kind == 7) by rw [Hr.out];simp [h5];rw [Bool.eq_iff_iff];simp)
        clear h5
        go_wp2
        go_ret
        rw [Hr2.out]
        exact ⟨rfl,Hb5.out⟩
    · have Hm:=zH (tdj a w5 _ Hu5.out)
      go_wp2_with (go_at_call 106;refine Hm.out.mono ?_;rintro e w6 ⟨rfl,q⟩;have Hb6:=zH (Hb5.out.step q);clear q)
      go_ret
      rw [Hr.out]
      exact ⟨rfl,Hb6.out⟩
    · have Hm:=zH (t9v a w5 _ Hu5.out)
      go_wp2_with (go_at_call 107;refine Hm.out.mono ?_;rintro e w6 ⟨rfl,q⟩;have Hb6:=zH (Hb5.out.step q);clear q)
      go_ret
      rw [Hr.out]
      exact ⟨rfl,Hb6.out⟩
set_option maxHeartbeats 16000000 in
theorem tgm (a : VV) (hk : ¬ (1 ≤ a.kind ∧ a.kind ≤ 9)) (w : World) (u : Value) (hu : VW w u a) : Calls Tryz.prog 84 #[u] w (ER (nodeV a) w):=by
  have hd : (decide (1 ≤ a.kind) && decide (a.kind ≤ 9)) = false:=by rw [Bool.eq_false_iff];intro h;simp at h;omega
  have Hn:=zH (show nodeV a = false by unfold nodeV;rw [hd];simp)
  obtain ⟨_,q1,q2,q3,q4,q5,q6,q7,q8,rfl,-,-,-,-,-⟩:=hu.ex
  have Hd:=zH hd
  clear hu hk hd
  go_enter Tryz.func84,Tryz.ntmps84
  go_upto_region 1 with fail
  have hA:=heap_alloc_new w (.cells #[.int .i64 a.kind,.int .i64 a.num,.string a.text,.slice q1 a.kids.length q2,.slice q3 a.keys.length q4,.slice q5 a.ents.length q6,.slice q7 a.labels.length q8] 28)
  have hb : Below w.heap.size w (w.alloc (.cells #[.int .i64 a.kind,.int .i64 a.num,.string a.text,.slice q1 a.kids.length q2,.slice q3 a.keys.length q4,.slice q5 a.ents.length q6,.slice q7 a.labels.length q8] 28)):=(Below.refl _ _).alloc (Nat.le_refl _) _
  generalize w.alloc (.cells #[.int .i64 a.kind,.int .i64 a.num,.string a.text,.slice q1 a.kids.length q2,.slice q3 a.keys.length q4,.slice q5 a.ents.length q6,.slice q7 a.labels.length q8] 28) = w2 at *
  have Hb:=zH hb
  obtain ⟨⟨f0,f1,f2,f3⟩,f4,f5,f6⟩:=t0j hA
  have Hus:=zH (tdk a.kind w2)
  clear hA hb
  go_upto_region 2 with (go_at_call 104;refine Hus.out.mono ?_;rintro e w3 ⟨rfl,q⟩;rw [Hd.out];have Hb3:=zH (Hb.out.step q);clear q)
  have Hb4:=zH (Hb3.out.step ((Below.refl w3.heap.size w3).alloc (Nat.le_refl _) (.cells #[.bool (t2d a.kind),.bool (t1x a.kind),.bool (t2a a.kind),.bool (decide (a.kind = 8)),.bool (decide (a.kind = 9))] 120)))
  generalize w3.alloc (.cells #[.bool (t2d a.kind),.bool (t1x a.kind),.bool (t2a a.kind),.bool (decide (a.kind = 8)),.bool (decide (a.kind = 9))] 120) = w4 at *
  clear f0 f1 f2 f3 f4 f5 f6
  go_wp2
  go_ret
  rw [Hn.out]
  exact ⟨rfl,Hb4.out⟩
theorem tcm (a : VV) (w : World) (u : Value) (hu : VW w u a) : Calls Tryz.prog 84 #[u] w (ER (nodeV a) w):=by
  by_cases h : 1 ≤ a.kind ∧ a.kind ≤ 9
  · exact tgl a (by omega) w u hu
  · exact tgm a h w u hu
end Go.Proofs.YtjgldaaofdpcgaaGreat
