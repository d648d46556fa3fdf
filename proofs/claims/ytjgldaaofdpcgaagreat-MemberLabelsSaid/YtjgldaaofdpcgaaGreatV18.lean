/- Walks and plain facts for the laws of membership, for all values and types that the heap holds (texts L3). -/
import Derived.Test.YtjgldaaofdpcgaaGreatV03
import Derived.Test.YtjgldaaofdpcgaaGreatV17
set_option linter.unusedVariables false
set_option linter.unusedSimpArgs false
namespace Go.Proofs.YtjgldaaofdpcgaaGreat
open Go.RowKit Go.Ident
set_option maxRecDepth 100000
set_option maxHeartbeats 8000000 in
theorem t8k (a b : VV) (w : World) (u v : Value) (hu : VW w u a) (hv : VW w v b) : Calls Tryz.prog 38 #[u,v] w (ER (decide (cmpV a b = 0)) w):=by
  have Hu:=zH hu;have Hv:=zH hv
  obtain ⟨_,q1,q2,q3,q4,q5,q6,q7,q8,rfl,-,-,-,-,-⟩:=hu.ex
  obtain ⟨_,r1,r2,r3,r4,r5,r6,r7,r8,rfl,-,-,-,-,-⟩:=hv.ex
  clear hu hv
  rw [← tez]
  go_enter Tryz.func38,Tryz.ntmps38
  go_upto_region 1 with fail
  obtain ⟨w2,e9,hA,hB,hb⟩:=t1l w (.cells #[.int .i64 a.kind,.int .i64 a.num,.string a.text,.slice q1 a.kids.length q2,.slice q3 a.keys.length q4,.slice q5 a.ents.length q6,.slice q7 a.labels.length q8] 28) (.cells #[.int .i64 b.kind,.int .i64 b.num,.string b.text,.slice r1 b.kids.length r2,.slice r3 b.keys.length r4,.slice r5 b.ents.length r6,.slice r7 b.labels.length r8] 28)
  rw [e9]
  have Hb:=zH hb
  obtain ⟨⟨f0,f1,f2,f3⟩,f4,f5,f6⟩:=t0j hA
  obtain ⟨⟨g0,g1,g2,g3⟩,g4,g5,g6⟩:=t0j hB
  have Hc:=zH (t5d a b w2 _ _ (Hu.out.below hb) (Hv.out.below hb))
  have Hc2:=zH (t5d a b w2.drew _ _ (Hu.out.below hb.drew) (Hv.out.below hb.drew))
  clear e9 hA hB hb
  generalize cmpV a b = c at *
  go_wp2_with (first
    | (with_reducible refine rg ?_)
            | (with_reducible refine fo ?_)
    | (go_at_call 70;refine Hc2.out.mono ?_;rintro e w6 ⟨rfl,q⟩;have Hb6:=zH (Hb.out.drew.step q);clear q)
    | (go_at_call 70;refine Hc.out.mono ?_;rintro e w6 ⟨rfl,q⟩;have Hb6:=zH (Hb.out.step q);clear q))
  go_ret
  exact ⟨rfl,Hb6.out⟩
set_option maxHeartbeats 32000000 in
theorem teg (hnode : ∀ (a : VV) (w : World) (u : Value),VW w u a → Calls Tryz.prog 63 #[u] w (ER (nodeV a) w)) (a : VV) : ∀ (w : World) (u : Value),VW w u a → Calls Tryz.prog 31 #[u] w (ER a.valid w):=by
  induction hht : a.ht using Nat.strongRecOn generalizing a with
  | ind t ih =>
  intro w u hu
  have Hih:=zH (show ∀ x : VV,x.ht < a.ht → ∀ (w : World) (u : Value),VW w u x → Calls Tryz.prog 31 #[u] w (ER x.valid w) from fun x hx w u hu=>ih x.ht (by omega) x rfl w u hu)
  clear ih hht
  have Hu:=zH hu
  obtain ⟨_,q1,q2,q3,q4,q5,q6,q7,q8,rfl,-,hk,-,he,-⟩:=hu.ex
  have hLk : a.kids.length ≤ 9223372036854775807:=by obtain ⟨_,_,_,_,h⟩:=hk;exact h.big
  have hLe : a.ents.length ≤ 9223372036854775807:=by obtain ⟨_,_,_,_,h⟩:=he;exact h.big
  have HK:=zH hk;have HE:=zH he
  have Hvp:=zH (t4t a)
  clear hu hk he
  go_enter Tryz.func31,Tryz.ntmps31
  go_upto_region 1 with fail
  have hA:=heap_alloc_new w (.cells #[.int .i64 a.kind,.int .i64 a.num,.string a.text,.slice q1 a.kids.length q2,.slice q3 a.keys.length q4,.slice q5 a.ents.length q6,.slice q7 a.labels.length q8] 28)
  have hb : Below w.heap.size w (w.alloc (.cells #[.int .i64 a.kind,.int .i64 a.num,.string a.text,.slice q1 a.kids.length q2,.slice q3 a.keys.length q4,.slice q5 a.ents.length q6,.slice q7 a.labels.length q8] 28)):=(Below.refl _ _).alloc (Nat.le_refl _) _
  generalize w.alloc (.cells #[.int .i64 a.kind,.int .i64 a.num,.string a.text,.slice q1 a.kids.length q2,.slice q3 a.keys.length q4,.slice q5 a.ents.length q6,.slice q7 a.labels.length q8] 28) = w2 at *
  have Hb:=zH hb
  obtain ⟨⟨f0,f1,f2,f3⟩,f4,f5,f6⟩:=t0j hA
  have HA:=zH hA
  have hlA:=t0b hA
  have Hnd:=zH (hnode a w2 _ (Hu.out.below hb))
  clear hA hb hnode
  cases hnd : nodeV a with
  | false =>
    rw [hnd] at Hnd
    have Hr:=zH (show a.valid = false by rw [Hvp.out,hnd];rfl)
    clear hnd
    go_wp2_with (go_at_call 63;refine Hnd.out.mono ?_;rintro e w3 ⟨rfl,q⟩;have Hb3:=zH (Hb.out.step q);clear q)
    go_ret
    rw [Hr.out]
    exact ⟨rfl,Hb3.out⟩
  | true =>
    rw [hnd] at Hnd
    have Hr:=zH (show a.valid = (a.kids.all VV.valid && a.ents.all EE.validIn) by rw [Hvp.out,hnd];rfl)
    clear hnd
    go_wp2_with (go_at_call 63;refine Hnd.out.mono ?_;rintro e w3 ⟨rfl,q⟩;have Hb3:=zH (Hb.out.step q);have Hq3:=zH q;clear q)
    clear f0 f1 f2 f3 f4 f5 f6
    go_loopw [3] (fun i wr=>∃ k : Nat,i = .int .i64 k ∧ k ≤ a.kids.length ∧ (a.kids.take k).all VV.valid = true ∧ Below w3.heap.size w3 wr) (fun i _=>a.kids.length - (intOf i).toNat)
    case atStart=>exact ⟨0,rfl,by omega,by simp,Below.refl _ _⟩
    case round =>
      obtain ⟨k,rfl,hk,hall,hb⟩:=hrel
      have Hall:=zH hall;have Hbr:=zH hb;have Hbw:=zH (Hb3.out.step hb);have Hbq:=zH (Hq3.out.step hb);clear hall hb
      obtain ⟨⟨f0,f1,f2,f3⟩,f4,f5,f6⟩:=t0j ((Hbq.out.block _ hlA).trans HA.out)
      by_cases hlt : k < a.kids.length
      · obtain ⟨d',p',c',e9,hr⟩:=HK.out.below Hbw.out
        injection e9 with e1 _ e3
        subst e1 e3
        obtain ⟨ak,ok,cs,rfl,hab,-,hrg,hVS⟩:=hr.at hlt
        have HVS:=zH hVS
        obtain ⟨r1,r2,r3,r4,r5,r6,r7,r8,rfl⟩:=hVS.seven
        have z0:=hrg 0 _ rfl
        have z1:=hrg 1 _ rfl
        have z2:=hrg 2 _ rfl
        have z3:=hrg 3 _ rfl
        have z4:=hrg 4 _ rfl
        have z5:=hrg 5 _ rfl
        have z6:=hrg 6 _ rfl
        rw [Nat.add_zero] at z0
        clear hr hrg hVS
        have hst:=t2s (p:=VV.valid) hlt
        rw [Hall.out,Bool.true_and] at hst
        have Hst:=zH hst
        have Hno:=zH (t4e (p:=VV.valid) hlt)
        have Hv:=zH (Hih.out _ (t3d (List.getElem_mem hlt)) wr _ ⟨_,_,rfl,HVS.out⟩)
        clear hst
        generalize a.kids[k] = x at *
        cases hv : x.valid with
        | true =>
          rw [hv] at Hv
          have Hst2:=zH (Hst.out.trans hv)
          clear hv
          go_wp2_with (go_at_call 31;refine Hv.out.mono ?_;rintro e w6 ⟨rfl,q⟩;have Hb6:=zH (Hbr.out.step q);clear q)
          exact ⟨⟨k + 1,by go_num,by omega,Hst2.out,Hb6.out⟩,by simp [intOf];omega⟩
        | false =>
          rw [hv] at Hv
          have Hf:=zH (Hno.out hv)
          clear hv
          go_wp2_with (go_at_call 31;refine Hv.out.mono ?_;rintro e w6 ⟨rfl,q⟩;have Hb6:=zH (Hbw.out.step q);clear q)
          go_ret
          rw [Hr.out,Hf.out]
          exact ⟨rfl,Hb6.out⟩
      · obtain rfl : k = a.kids.length:=by omega
        have Hr2:=zH (show a.valid = a.ents.all EE.validIn by rw [Hr.out];have:=Hall.out;rw [List.take_length] at this;rw [this];rfl)
        obtain ⟨wq,hwq⟩ : ∃ wq : World,wq = wr:=⟨_,rfl⟩
        subst hwq
        go_wp2
        clear f0 f1 f2 f3 f4 f5 f6
        have Hbwq:=zH Hbw.out;have Hbqq:=zH Hbq.out
        clear Hbw Hbq Hbr
        go_loopw [4] (fun i wr=>∃ k : Nat,i = .int .i64 k ∧ k ≤ a.ents.length ∧ (a.ents.take k).all EE.validIn = true ∧ Below wq.heap.size wq wr) (fun i _=>a.ents.length - (intOf i).toNat)
        case atStart=>exact ⟨0,rfl,by omega,by simp,Below.refl _ _⟩
        case round =>
          obtain ⟨k,rfl,hk,hall,hb⟩:=hrel
          have Hall:=zH hall;have Hbr:=zH hb;have Hbw:=zH (Hbwq.out.step hb);have Hbq:=zH (Hbqq.out.step hb);clear hall hb
          obtain ⟨⟨f0,f1,f2,f3⟩,f4,f5,f6⟩:=t0j ((Hbq.out.block _ hlA).trans HA.out)
          by_cases hlt : k < a.ents.length
          · obtain ⟨d',p',c',e9,hr⟩:=HE.out.below Hbw.out
            injection e9 with e1 _ e3
            subst e1 e3
            obtain ⟨ak,ok,cs,rfl,hab,-,hrg,hES⟩:=hr.at hlt
            obtain ⟨r9,ra,rs,e9,hargs,hres⟩:=hES
            obtain ⟨r1,r2,r3,r4,r5,r6,r7,r8,rfl⟩:=hres.seven
            subst e9
            have z0:=hrg 0 _ rfl
            have z1:=hrg 1 _ rfl
            have z2:=hrg 2 _ rfl
            have z3:=hrg 3 _ rfl
            have z4:=hrg 4 _ rfl
            have z5:=hrg 5 _ rfl
            have z6:=hrg 6 _ rfl
            have z7:=hrg 7 _ rfl
            have z8:=hrg 8 _ rfl
            rw [Nat.add_zero] at z0
            have hst:=t2s (p:=EE.validIn) hlt
            rw [Hall.out,Bool.true_and] at hst
            have Hst:=zH hst
            have Hno:=zH (t4e (p:=EE.validIn) hlt)
            have Hhe:=zH (t3u (List.getElem_mem hlt))
            have Hargs:=zH hargs;have Hres:=zH hres;have hLa:=hargs.big
            clear hr hrg hst hargs hres
            generalize a.ents[k] = x at *
            have Hin:=zH (t6a x)
            obtain ⟨wo,hwo⟩ : ∃ wo : World,wo = wr:=⟨_,rfl⟩
            subst hwo
            go_upto_region 12 with fail
            have hnew:=heap_alloc_new wo (.cells #[.slice r9 x.args.length ra,.bool x.fails,.int .i64 x.res.kind,.int .i64 x.res.num,.string x.res.text,.slice r1 x.res.kids.length r2,.slice r3 x.res.keys.length r4,.slice r5 x.res.ents.length r6,.slice r7 x.res.labels.length r8] 55)
            have ho : Below wo.heap.size wo (wo.alloc (.cells #[.slice r9 x.args.length ra,.bool x.fails,.int .i64 x.res.kind,.int .i64 x.res.num,.string x.res.text,.slice r1 x.res.kids.length r2,.slice r3 x.res.keys.length r4,.slice r5 x.res.ents.length r6,.slice r7 x.res.labels.length r8] 55)):=(Below.refl _ _).alloc (Nat.le_refl _) _
            generalize wo.alloc (.cells #[.slice r9 x.args.length ra,.bool x.fails,.int .i64 x.res.kind,.int .i64 x.res.num,.string x.res.text,.slice r1 x.res.kids.length r2,.slice r3 x.res.keys.length r4,.slice r5 x.res.ents.length r6,.slice r7 x.res.labels.length r8] 55) = w5 at *
            have Hb5:=zH (Hbr.out.step ho)
            have Hbw5:=zH (Hbw.out.step ho)
            have Hbo:=zH ho
            have hl5:=t0b hnew
            have Hnew:=zH hnew
            clear f0 f1 f2 f3 f4 f5 f6
            clear z0 z1 z2 z3 z4 z5 z6 z7 z8 hnew ho
            go_wp2
            go_loopw [6] (fun i wr=>∃ j : Nat,i = .int .i64 j ∧ j ≤ x.args.length ∧ (x.args.take j).all VV.valid = true ∧ Below w5.heap.size w5 wr) (fun i _=>x.args.length - (intOf i).toNat)
            case atStart=>exact ⟨0,rfl,by omega,by simp,Below.refl _ _⟩
            case round =>
              obtain ⟨j,rfl,hj,hall,hb⟩:=hrel
              have Hall2:=zH hall;have Hc:=zH (Hb5.out.step hb);have Hcw:=zH (Hbw5.out.step hb);have Hco:=zH (Hbo.out.step hb);have Hc5:=zH hb;clear hall hb
              obtain ⟨⟨g0,g1,g2,g3⟩,⟨g4,g5,g6,g7⟩,g8⟩:=t1p ((Hc5.out.block _ hl5).trans Hnew.out)
              by_cases hlt2 : j < x.args.length
              · obtain ⟨aj,oj,cs,rfl,hab2,-,hrg,hVS⟩:=Hargs.out.all hlt2
                have hrg:=hrg wr Hco.out
                have HVS:=zH (hVS.below Hco.out)
                obtain ⟨s1,s2,s3,s4,s5,s6,s7,s8,rfl⟩:=hVS.seven
                have z0:=hrg 0 _ rfl
                have z1:=hrg 1 _ rfl
                have z2:=hrg 2 _ rfl
                have z3:=hrg 3 _ rfl
                have z4:=hrg 4 _ rfl
                have z5:=hrg 5 _ rfl
                have z6:=hrg 6 _ rfl
                rw [Nat.add_zero] at z0
                clear hrg hVS
                have hst:=t2s (p:=VV.valid) hlt2
                rw [Hall2.out,Bool.true_and] at hst
                have Hst3:=zH hst
                have Hno3:=zH (t4e (p:=VV.valid) hlt2)
                have Hv:=zH (Hih.out _ (Nat.lt_of_le_of_lt (t3k (List.getElem_mem hlt2)) Hhe.out) wr _ ⟨_,_,rfl,HVS.out⟩)
                clear hst
                generalize x.args[j] = y at *
                cases hv : y.valid with
                | true =>
                  rw [hv] at Hv
                  have Hst4:=zH (Hst3.out.trans hv)
                  clear hv
                  go_wp2_with (go_at_call 31;refine Hv.out.mono ?_;rintro e w6 ⟨rfl,q⟩;have Hb6:=zH (Hc5.out.step q);clear q)
                  exact ⟨⟨j + 1,by go_num,by omega,Hst4.out,Hb6.out⟩,by simp [intOf];omega⟩
                | false =>
                  rw [hv] at Hv
                  have Hf:=zH (Hno.out (by rw [Hin.out,Hno3.out hv];rfl))
                  clear hv
                  go_wp2_with (go_at_call 31;refine Hv.out.mono ?_;rintro e w6 ⟨rfl,q⟩;have Hb6:=zH (Hcw.out.step q);clear q)
                  go_ret
                  rw [Hr2.out,Hf.out]
                  exact ⟨rfl,Hb6.out⟩
              · obtain rfl : j = x.args.length:=by omega
                have Hin2:=zH (show x.validIn = (x.fails || x.res.valid) by rw [Hin.out];have:=Hall2.out;rw [List.take_length] at this;rw [this];rfl)
                cases hfl : x.fails with
                | true =>
                  rw [hfl] at g1
                  have Hst2:=zH (Hst.out.trans (by rw [Hin2.out,hfl,Bool.true_or]))
                  clear hfl
                  go_wp2
                  exact ⟨⟨k + 1,by go_num,by omega,Hst2.out,Hc.out⟩,by simp [intOf];omega⟩
                | false =>
                  rw [hfl] at g1
                  have Hin3:=zH (show x.validIn = x.res.valid by rw [Hin2.out,hfl,Bool.false_or])
                  clear hfl
                  have Hv:=zH (Hih.out _ (Nat.lt_of_le_of_lt (t3l x) Hhe.out) wr _ ⟨_,_,rfl,Hres.out.below Hco.out⟩)
                  cases hv : x.res.valid with
                  | true =>
                    rw [hv] at Hv
                    have Hst2:=zH (Hst.out.trans (Hin3.out.trans hv))
                    clear hv
                    go_wp2_with (go_at_call 31;refine Hv.out.mono ?_;rintro e w6 ⟨rfl,q⟩;have Hb6:=zH (Hc.out.step q);clear q)
                    exact ⟨⟨k + 1,by go_num,by omega,Hst2.out,Hb6.out⟩,by simp [intOf];omega⟩
                  | false =>
                    rw [hv] at Hv
                    have Hf:=zH (Hno.out (Hin3.out.trans hv))
                    clear hv
                    go_wp2_with (go_at_call 31;refine Hv.out.mono ?_;rintro e w6 ⟨rfl,q⟩;have Hb6:=zH (Hcw.out.step q);clear q)
                    go_ret
                    rw [Hr2.out,Hf.out]
                    exact ⟨rfl,Hb6.out⟩
          · obtain rfl : k = a.ents.length:=by omega
            have Hy:=zH (show a.ents.all EE.validIn = true by have:=Hall.out;rwa [List.take_length] at this)
            go_wp2
            go_ret
            rw [Hr2.out,Hy.out]
            exact ⟨rfl,Hbw.out⟩
end Go.Proofs.YtjgldaaofdpcgaaGreat
