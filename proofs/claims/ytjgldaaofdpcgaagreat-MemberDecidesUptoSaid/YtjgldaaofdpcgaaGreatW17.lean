/- Walks and plain facts for the laws of membership, for all values and types that the heap holds (texts L2 L3). -/
import Derived.Test.YtjgldaaofdpcgaaGreatW03
import Derived.Test.YtjgldaaofdpcgaaGreatW16
set_option linter.unusedVariables false
set_option linter.unusedSimpArgs false
namespace Go.Proofs.YtjgldaaofdpcgaaGreat
open Go.RowKit Go.Ident
set_option maxRecDepth 100000
set_option maxHeartbeats 64000000 in
theorem tct (a b : VV) (hcv : ∀ x ∈ a.kids,∀ y ∈ b.kids,RmpC x y) (hce : ∀ x ∈ a.ents,∀ y ∈ b.ents,RmpD x y) : RmpC a b:=by
  intro w u v hu hv
  have Hcv:=zH hcv;have Hce:=zH hce
  have Heq:=zH (t9p a b)
  obtain ⟨_,q1,q2,q3,q4,q5,q6,q7,q8,rfl,-,hka,hkya,hea,hsa⟩:=hu.ex
  obtain ⟨_,r1,r2,r3,r4,r5,r6,r7,r8,rfl,-,hkb,hkyb,heb,hsb⟩:=hv.ex
  have hLK : a.keys.length ≤ 9223372036854775807:=by obtain ⟨_,_,_,h⟩:=hkya;exact h.big
  have hLE : a.ents.length ≤ 9223372036854775807:=by obtain ⟨_,_,_,_,h⟩:=hea;exact h.big
  have hLS : a.labels.length ≤ 9223372036854775807:=by obtain ⟨_,_,_,h⟩:=hsa;exact h.big
  have HVa:=zH hka;have HKa:=zH hkya;have HEa:=zH hea;have HSa:=zH hsa
  have HVb:=zH hkb;have HKb:=zH hkyb;have HEb:=zH heb;have HSb:=zH hsb
  clear hcv hce hu hv hka hkya hea hsa hkb hkyb heb hsb
  go_enter Tryz.func70,Tryz.ntmps70
  go_upto_region 1 with fail
  obtain ⟨w2,e9,hA,hB,hb⟩:=t1f w (.cells #[.int .i64 a.kind,.int .i64 a.num,.string a.text,.slice q1 a.kids.length q2,.slice q3 a.keys.length q4,.slice q5 a.ents.length q6,.slice q7 a.labels.length q8] 28) (.cells #[.int .i64 b.kind,.int .i64 b.num,.string b.text,.slice r1 b.kids.length r2,.slice r3 b.keys.length r4,.slice r5 b.ents.length r6,.slice r7 b.labels.length r8] 28)
  rw [e9]
  have hlA:=t0a hA
  have hlB:=t0a hB
  have HbA:=zH hA;have HbB:=zH hB;have Hb2:=zH hb
  obtain ⟨⟨f0,f1,f2,f3⟩,f4,f5,f6⟩:=t0f hA
  obtain ⟨⟨g0,g1,g2,g3⟩,g4,g5,g6⟩:=t0f hB
  clear e9 hA hB hb
  by_cases z0 : a.kind = b.kind
  rotate_left
  · have ho : ordI a.kind b.kind ≠ 0:=fun h=>z0 (t2k h)
    have Heq2:=zH (show cmpV a b = ordI a.kind b.kind by rw [Heq.out,nz_a ho])
    have d0 : (a.kind != b.kind) = true:=by simpa using z0
    have Hc:=zH (t5z a.kind b.kind)
    clear z0 ho
    generalize ordI a.kind b.kind = c at *
    go_wp2_with (go_at_call 101;refine (Hc.out _).mono ?_;rintro e w2 ⟨rfl,rfl⟩)
    go_ret
    rw [Heq2.out]
    exact ⟨rfl,Hb2.out⟩
  have o0 : ordI a.kind b.kind = 0:=by rw [z0];unfold ordI;simp
  have d0 : (a.kind != b.kind) = false:=by simp [z0]
  have Heq0x:=zH (show cmpV a b = nz (ordI a.num b.num) (nz (ordS a.text b.text) (nz (cmpL cmpK a.keys b.keys) (nz (cmpL cmpV a.kids b.kids) (nz (cmpL cmpE a.ents b.ents) (cmpL ordS a.labels b.labels))))) by rw [Heq.out,nz_b o0])
  clear o0 z0
  by_cases z1 : a.num = b.num
  rotate_left
  · have ho : ordI a.num b.num ≠ 0:=fun h=>z1 (t2k h)
    have Heq2:=zH (show cmpV a b = ordI a.num b.num by rw [Heq0x.out,nz_a ho])
    have d1 : (a.num != b.num) = true:=by simpa using z1
    have Hc:=zH (tb0 a.num b.num)
    clear z1 ho
    generalize ordI a.num b.num = c at *
    go_wp2_with (go_at_call 102;refine (Hc.out _).mono ?_;rintro e w2 ⟨rfl,rfl⟩)
    go_ret
    rw [Heq2.out]
    exact ⟨rfl,Hb2.out⟩
  have o1 : ordI a.num b.num = 0:=by rw [z1];unfold ordI;simp
  have d1 : (a.num != b.num) = false:=by simp [z1]
  have Heq1x:=zH (show cmpV a b = nz (ordS a.text b.text) (nz (cmpL cmpK a.keys b.keys) (nz (cmpL cmpV a.kids b.kids) (nz (cmpL cmpE a.ents b.ents) (cmpL ordS a.labels b.labels)))) by rw [Heq0x.out,nz_b o1])
  clear o1 z1
  by_cases z2 : a.text = b.text
  rotate_left
  · have ho : ordS a.text b.text ≠ 0:=fun h=>z2 (t9r h)
    have Heq2:=zH (show cmpV a b = ordS a.text b.text by rw [Heq1x.out,nz_a ho])
    have d2' : (a.text.toList == b.text.toList) = false:=by rw [beq_eq_false_iff_ne];intro h;exact z2 (toList_inj h)
    have d2 : (!a.text.toList == b.text.toList) = true:=by rw [d2'];rfl
    have Hc:=zH (tc0 a.text b.text)
    clear z2 ho
    generalize ordS a.text b.text = c at *
    go_wp2_with (go_at_call 103;refine (Hc.out _).mono ?_;rintro e w2 ⟨rfl,rfl⟩)
    go_ret
    rw [Heq2.out]
    exact ⟨rfl,Hb2.out⟩
  have o2 : ordS a.text b.text = 0:=by rw [z2];exact ordS_lo.self trivial
  have d2' : (a.text.toList == b.text.toList) = true:=by simp [z2]
  have d2 : (!a.text.toList == b.text.toList) = false:=by rw [d2'];rfl
  have Heq2x:=zH (show cmpV a b = nz (cmpL cmpK a.keys b.keys) (nz (cmpL cmpV a.kids b.kids) (nz (cmpL cmpE a.ents b.ents) (cmpL ordS a.labels b.labels))) by rw [Heq1x.out,nz_b o2])
  clear o2 z2
  have Hd2:=zH (Below.refl w2.heap.size w2)
  by_cases zl : a.keys.length = b.keys.length
  rotate_left
  · have ho : ordI (a.keys.length : Int) (b.keys.length : Int) ≠ 0:=fun h=>zl (by have:=t2k h;omega)
    have hcm : cmpL cmpK a.keys b.keys = ordI (a.keys.length : Int) (b.keys.length : Int):=nz_a ho
    have Heq2:=zH (show cmpV a b = ordI (a.keys.length : Int) (b.keys.length : Int) by rw [Heq2x.out,nz_a (by rw [hcm];exact ho),hcm])
    have d3 : ((a.keys.length : Int) != (b.keys.length : Int)) = true:=by simp;omega
    have Hc:=zH (t5z a.keys.length b.keys.length)
    clear zl ho hcm
    generalize ordI (a.keys.length : Int) (b.keys.length : Int) = c at *
    go_wp2_with (go_at_call 101;refine (Hc.out _).mono ?_;rintro e w2 ⟨rfl,rfl⟩)
    go_ret
    rw [Heq2.out]
    exact ⟨rfl,Hb2.out⟩
  have ho : ordI (a.keys.length : Int) (b.keys.length : Int) = 0:=by rw [zl];unfold ordI;simp
  have Hcm:=zH (show cmpL cmpK a.keys b.keys = lexL cmpK a.keys b.keys from nz_b ho)
  have d3 : ((a.keys.length : Int) != (b.keys.length : Int)) = false:=by simp [zl]
  have Hle:=zH zl
  clear ho zl
  go_wp2
  clear f0 f1 f2 f3 f4 f5 f6 g0 g1 g2 g3 g4 g5 g6
  go_loopw [5] (fun i wr=>∃ k : Nat,i = .int .i64 k ∧ k ≤ a.keys.length ∧ (∀ j (h1 : j < a.keys.length) (h2 : j < b.keys.length),j < k → cmpK a.keys[j] b.keys[j] = 0) ∧ Below w2.heap.size w2 wr) (fun i _=>a.keys.length - (intOf i).toNat)
  case atStart=>exact ⟨0,rfl,by omega,fun j _ _ h=>by omega,Below.refl _ _⟩
  case round =>
    obtain ⟨k,rfl,hk,hall,hb⟩:=hrel
    have Hall:=zH hall;have Hr:=zH hb;have Hb:=zH (Hb2.out.step hb);have Hd:=zH (Hd2.out.step hb);clear hall hb
    obtain ⟨⟨f0,f1,f2,f3⟩,f4,f5,f6⟩:=t0f ((Hd.out.block _ hlA).trans HbA.out);obtain ⟨⟨g0,g1,g2,g3⟩,g4,g5,g6⟩:=t0f ((Hd.out.block _ hlB).trans HbB.out)
    by_cases hka : k < a.keys.length
    · have hkb : k < b.keys.length:=by have:=Hle.out;omega
      obtain ⟨py,cy,ey,hry⟩:=HKa.out.below Hb.out
      injection ey with ey1 _ ey3
      subst ey1 ey3
      obtain ⟨ay,oy,rfl,haby,y0,y1⟩:=hry.key hka
      clear hry
      obtain ⟨pz,cz,ez,hrz⟩:=HKb.out.below Hb.out
      injection ez with ez1 _ ez3
      subst ez1 ez3
      obtain ⟨az,oz,rfl,habz,z0,z1⟩:=hrz.key hkb
      clear hrz
      have Hcall:=zH (t6z a.keys[k] b.keys[k] wr.drew)
      have Hat:=zH (t4p (f:=cmpK) hka hkb Hall.out)
      have Hnx:=zH (show cmpK a.keys[k] b.keys[k] = 0 → ∀ j (h1 : j < a.keys.length) (h2 : j < b.keys.length),j < k + 1 → cmpK a.keys[j] b.keys[j] = 0 from fun g j h h2 hjk=>by
        rcases Nat.lt_succ_iff_lt_or_eq.1 hjk with g2 | rfl
        · exact Hall.out j h h2 g2
        · exact g)
      generalize a.keys[k] = X at *
      generalize b.keys[k] = Y at *
      by_cases hz : cmpK X Y = 0
      · have Hnx2:=zH (Hnx.out hz)
        rw [hz] at Hcall
        clear hz
        go_wp2_with (first
              | (with_reducible refine rg ?_)
              | (with_reducible refine fo ?_)
              | (go_at_call 83;go_loud (refine Hcall.out.mono ?_);rintro e w6 ⟨rfl,q⟩;have Hb6:=zH (Hb.out.drew.step q);have Hr6:=zH (Hr.out.drew.step q);clear q))
        exact ⟨⟨k + 1,by go_num,by omega,Hnx2.out,Hr6.out⟩,by simp [intOf];omega⟩
      · have Hres:=zH (show cmpV a b = cmpK X Y by rw [Heq2x.out,nz_a (by rw [Hcm.out,Hat.out hz];exact hz),Hcm.out,Hat.out hz])
        have d9 : (cmpK X Y != 0) = true:=by simpa using hz
        clear hz
        generalize cmpK X Y = c at *
        go_wp2_with (first
              | (with_reducible refine rg ?_)
              | (with_reducible refine fo ?_)
              | (go_at_call 83;go_loud (refine Hcall.out.mono ?_);rintro e w6 ⟨rfl,q⟩;have Hb6:=zH (Hb.out.drew.step q);have Hr6:=zH (Hr.out.drew.step q);clear q))
        go_ret
        rw [Hres.out]
        exact ⟨rfl,Hb6.out⟩
    · obtain rfl : k = a.keys.length:=by omega
      have hcm0:=Hcm.out.trans (t3m (f:=cmpK) fun j h h2=>Hall.out j h h2 h)
      have Heq3x:=zH (show cmpV a b = nz (cmpL cmpV a.kids b.kids) (nz (cmpL cmpE a.ents b.ents) (cmpL ordS a.labels b.labels)) by rw [Heq2x.out,nz_b hcm0])
      clear hcm0 Hcm Hle
      have Hkids:=zH (tb8 a.kids b.kids wr _ _ (HVa.out.below Hb.out) (HVb.out.below Hb.out) Hcv.out)
      by_cases z4 : cmpL cmpV a.kids b.kids = 0
      rotate_left
      · have Heq2:=zH (show cmpV a b = cmpL cmpV a.kids b.kids by rw [Heq3x.out,nz_a z4])
        have d4 : (cmpL cmpV a.kids b.kids != 0) = true:=by simpa using z4
        clear z4
        generalize cmpL cmpV a.kids b.kids = c at *
        go_wp2_with (go_at_call 100;refine Hkids.out.mono ?_;rintro e w6 ⟨rfl,q⟩;have Hb6:=zH (Hb.out.step q);clear q)
        go_ret
        rw [Heq2.out]
        exact ⟨rfl,Hb6.out⟩
      have Heq4x:=zH (show cmpV a b = nz (cmpL cmpE a.ents b.ents) (cmpL ordS a.labels b.labels) by rw [Heq3x.out,nz_b z4])
      rw [z4] at Hkids
      clear z4
      by_cases zl : a.ents.length = b.ents.length
      rotate_left
      · have ho : ordI (a.ents.length : Int) (b.ents.length : Int) ≠ 0:=fun h=>zl (by have:=t2k h;omega)
        have hcm : cmpL cmpE a.ents b.ents = ordI (a.ents.length : Int) (b.ents.length : Int):=nz_a ho
        have Heq2:=zH (show cmpV a b = ordI (a.ents.length : Int) (b.ents.length : Int) by rw [Heq4x.out,nz_a (by rw [hcm];exact ho),hcm])
        have d5 : ((a.ents.length : Int) != (b.ents.length : Int)) = true:=by simp;omega
        have Hc:=zH (t5z a.ents.length b.ents.length)
        clear zl ho hcm
        generalize ordI (a.ents.length : Int) (b.ents.length : Int) = c at *
        go_wp2_with (first
          | (go_at_call 100;refine Hkids.out.mono ?_;rintro e w5 ⟨rfl,q⟩;have Hb5:=zH (Hb.out.step q);have Hd5:=zH (Hd.out.step q);clear q;clear f0 f1 f2 f3 f4 f5 f6 g0 g1 g2 g3 g4 g5 g6;obtain ⟨⟨f0,f1,f2,f3⟩,f4,f5,f6⟩:=t0f ((Hd5.out.block _ hlA).trans HbA.out);obtain ⟨⟨g0,g1,g2,g3⟩,g4,g5,g6⟩:=t0f ((Hd5.out.block _ hlB).trans HbB.out))
          | (go_at_call 101;refine (Hc.out _).mono ?_;rintro e w5 ⟨rfl,rfl⟩))
        go_ret
        rw [Heq2.out]
        exact ⟨rfl,Hb5.out⟩
      have ho : ordI (a.ents.length : Int) (b.ents.length : Int) = 0:=by rw [zl];unfold ordI;simp
      have Hcm:=zH (show cmpL cmpE a.ents b.ents = lexL cmpE a.ents b.ents from nz_b ho)
      have d5 : ((a.ents.length : Int) != (b.ents.length : Int)) = false:=by simp [zl]
      have Hle:=zH zl
      clear ho zl
      go_wp2_with (go_at_call 100;refine Hkids.out.mono ?_;rintro e w5 ⟨rfl,q⟩;have Hb5:=zH (Hb.out.step q);have Hd5:=zH (Hd.out.step q);clear q;clear f0 f1 f2 f3 f4 f5 f6 g0 g1 g2 g3 g4 g5 g6;obtain ⟨⟨f0,f1,f2,f3⟩,f4,f5,f6⟩:=t0f ((Hd5.out.block _ hlA).trans HbA.out);obtain ⟨⟨g0,g1,g2,g3⟩,g4,g5,g6⟩:=t0f ((Hd5.out.block _ hlB).trans HbB.out))
      clear f0 f1 f2 f3 f4 f5 f6 g0 g1 g2 g3 g4 g5 g6
      go_loopw [8] (fun i wr=>∃ k : Nat,i = .int .i64 k ∧ k ≤ a.ents.length ∧ (∀ j (h1 : j < a.ents.length) (h2 : j < b.ents.length),j < k → cmpE a.ents[j] b.ents[j] = 0) ∧ Below w5.heap.size w5 wr) (fun i _=>a.ents.length - (intOf i).toNat)
      case atStart=>exact ⟨0,rfl,by omega,fun j _ _ h=>by omega,Below.refl _ _⟩
      case round =>
        obtain ⟨k,rfl,hk,hall,hb⟩:=hrel
        have Hall:=zH hall;have Hr:=zH hb;have Hb:=zH (Hb5.out.step hb);have Hd:=zH (Hd5.out.step hb);clear hall hb
        obtain ⟨⟨f0,f1,f2,f3⟩,f4,f5,f6⟩:=t0f ((Hd.out.block _ hlA).trans HbA.out);obtain ⟨⟨g0,g1,g2,g3⟩,g4,g5,g6⟩:=t0f ((Hd.out.block _ hlB).trans HbB.out)
        by_cases hka : k < a.ents.length
        · have hkb : k < b.ents.length:=by have:=Hle.out;omega
          obtain ⟨dy,py,cy,ey,hry⟩:=HEa.out.below Hb.out
          injection ey with ey1 _ ey3
          subst ey1 ey3
          obtain ⟨ay,oy,csy,rfl,haby,-,hrgy,hPy⟩:=hry.at hka
          obtain ⟨s1,s2,s3,s4,s5,s6,s7,s8,s9,sa,rfl⟩:=hPy.nine
          have y0:=hrgy 0 _ rfl
          have y1:=hrgy 1 _ rfl
          have y2:=hrgy 2 _ rfl
          have y3:=hrgy 3 _ rfl
          have y4:=hrgy 4 _ rfl
          have y5:=hrgy 5 _ rfl
          have y6:=hrgy 6 _ rfl
          have y7:=hrgy 7 _ rfl
          have y8:=hrgy 8 _ rfl
          rw [Nat.add_zero] at y0
          have HPy:=zH hPy
          clear hry hrgy hPy
          obtain ⟨dz,pz,cz,ez,hrz⟩:=HEb.out.below Hb.out
          injection ez with ez1 _ ez3
          subst ez1 ez3
          obtain ⟨az,oz,csz,rfl,habz,-,hrgz,hPz⟩:=hrz.at hkb
          obtain ⟨t1,t2,t3,t4,t5,t6,t7,t8,t9,ta,rfl⟩:=hPz.nine
          have z0:=hrgz 0 _ rfl
          have z1:=hrgz 1 _ rfl
          have z2:=hrgz 2 _ rfl
          have z3:=hrgz 3 _ rfl
          have z4:=hrgz 4 _ rfl
          have z5:=hrgz 5 _ rfl
          have z6:=hrgz 6 _ rfl
          have z7:=hrgz 7 _ rfl
          have z8:=hrgz 8 _ rfl
          rw [Nat.add_zero] at z0
          have HPz:=zH hPz
          clear hrz hrgz hPz
          have Hcall:=zH (Hce.out _ (List.getElem_mem hka) _ (List.getElem_mem hkb) wr.drew _ _ _ _ (HPy.out.below (Below.refl _ _).drew) (HPz.out.below (Below.refl _ _).drew))
          have Hat:=zH (t4p (f:=cmpE) hka hkb Hall.out)
          have Hnx:=zH (show cmpE a.ents[k] b.ents[k] = 0 → ∀ j (h1 : j < a.ents.length) (h2 : j < b.ents.length),j < k + 1 → cmpE a.ents[j] b.ents[j] = 0 from fun g j h h2 hjk=>by
            rcases Nat.lt_succ_iff_lt_or_eq.1 hjk with g2 | rfl
            · exact Hall.out j h h2 g2
            · exact g)
          generalize a.ents[k] = X at *
          generalize b.ents[k] = Y at *
          by_cases hz : cmpE X Y = 0
          · have Hnx2:=zH (Hnx.out hz)
            rw [hz] at Hcall
            clear hz
            go_wp2_with (first
                  | (with_reducible refine rg ?_)
                  | (with_reducible refine fo ?_)
                  | (go_at_call 69;go_loud (refine Hcall.out.mono ?_);rintro e w6 ⟨rfl,q⟩;have Hb6:=zH (Hb.out.drew.step q);have Hr6:=zH (Hr.out.drew.step q);clear q))
            exact ⟨⟨k + 1,by go_num,by omega,Hnx2.out,Hr6.out⟩,by simp [intOf];omega⟩
          · have Hres:=zH (show cmpV a b = cmpE X Y by rw [Heq4x.out,nz_a (by rw [Hcm.out,Hat.out hz];exact hz),Hcm.out,Hat.out hz])
            have d9 : (cmpE X Y != 0) = true:=by simpa using hz
            clear hz
            generalize cmpE X Y = c at *
            go_wp2_with (first
                  | (with_reducible refine rg ?_)
                  | (with_reducible refine fo ?_)
                  | (go_at_call 69;go_loud (refine Hcall.out.mono ?_);rintro e w6 ⟨rfl,q⟩;have Hb6:=zH (Hb.out.drew.step q);have Hr6:=zH (Hr.out.drew.step q);clear q))
            go_ret
            rw [Hres.out]
            exact ⟨rfl,Hb6.out⟩
        · obtain rfl : k = a.ents.length:=by omega
          have hcm0:=Hcm.out.trans (t3m (f:=cmpE) fun j h h2=>Hall.out j h h2 h)
          have Heq5x:=zH (show cmpV a b = cmpL ordS a.labels b.labels by rw [Heq4x.out,nz_b hcm0])
          clear hcm0 Hcm Hle
          have Hbq:=zH Hb.out;have Hdq:=zH Hd.out
          clear Hb Hd
          obtain ⟨wq,hwq⟩ : ∃ wq : World,wq = wr:=⟨_,rfl⟩
          subst hwq
          by_cases zl : a.labels.length = b.labels.length
          rotate_left
          · have ho : ordI (a.labels.length : Int) (b.labels.length : Int) ≠ 0:=fun h=>zl (by have:=t2k h;omega)
            have hcm : cmpL ordS a.labels b.labels = ordI (a.labels.length : Int) (b.labels.length : Int):=nz_a ho
            have Heq2:=zH (show cmpV a b = ordI (a.labels.length : Int) (b.labels.length : Int) by rw [Heq5x.out,hcm])
            have d6 : ((a.labels.length : Int) != (b.labels.length : Int)) = true:=by simp;omega
            have Hc:=zH (t5z a.labels.length b.labels.length)
            clear zl ho hcm
            generalize ordI (a.labels.length : Int) (b.labels.length : Int) = c at *
            go_wp2_with (go_at_call 101;refine (Hc.out _).mono ?_;rintro e wq ⟨rfl,rfl⟩)
            go_ret
            rw [Heq2.out]
            exact ⟨rfl,Hbq.out⟩
          have ho : ordI (a.labels.length : Int) (b.labels.length : Int) = 0:=by rw [zl];unfold ordI;simp
          have Hcm:=zH (show cmpL ordS a.labels b.labels = lexL ordS a.labels b.labels from nz_b ho)
          have d6 : ((a.labels.length : Int) != (b.labels.length : Int)) = false:=by simp [zl]
          have Hle:=zH zl
          clear ho zl
          go_wp2
          clear f0 f1 f2 f3 f4 f5 f6 g0 g1 g2 g3 g4 g5 g6
          go_loopw [10] (fun i wr=>∃ k : Nat,i = .int .i64 k ∧ k ≤ a.labels.length ∧ (∀ j (h1 : j < a.labels.length) (h2 : j < b.labels.length),j < k → ordS a.labels[j] b.labels[j] = 0) ∧ Below wq.heap.size wq wr) (fun i _=>a.labels.length - (intOf i).toNat)
          case atStart=>exact ⟨0,rfl,by omega,fun j _ _ h=>by omega,Below.refl _ _⟩
          case round =>
            obtain ⟨k,rfl,hk,hall,hb⟩:=hrel
            have Hall:=zH hall;have Hr:=zH hb;have Hb:=zH (Hbq.out.step hb);have Hd:=zH (Hdq.out.step hb);clear hall hb
            obtain ⟨⟨f0,f1,f2,f3⟩,f4,f5,f6⟩:=t0f ((Hd.out.block _ hlA).trans HbA.out);obtain ⟨⟨g0,g1,g2,g3⟩,g4,g5,g6⟩:=t0f ((Hd.out.block _ hlB).trans HbB.out)
            by_cases hka : k < a.labels.length
            · have hkb : k < b.labels.length:=by have:=Hle.out;omega
              obtain ⟨py,cy,ey,hry⟩:=HSa.out.below Hb.out
              injection ey with ey1 _ ey3
              subst ey1 ey3
              obtain ⟨ay,oy,rfl,haby,y0⟩:=hry.str hka
              clear hry
              obtain ⟨pz,cz,ez,hrz⟩:=HSb.out.below Hb.out
              injection ez with ez1 _ ez3
              subst ez1 ez3
              obtain ⟨az,oz,rfl,habz,z0⟩:=hrz.str hkb
              clear hrz
              have Hcall:=zH (tc0 a.labels[k] b.labels[k] wr.drew)
              have Hat:=zH (t4p (f:=ordS) hka hkb Hall.out)
              have Hnx:=zH (show ordS a.labels[k] b.labels[k] = 0 → ∀ j (h1 : j < a.labels.length) (h2 : j < b.labels.length),j < k + 1 → ordS a.labels[j] b.labels[j] = 0 from fun g j h h2 hjk=>by
                rcases Nat.lt_succ_iff_lt_or_eq.1 hjk with g2 | rfl
                · exact Hall.out j h h2 g2
                · exact g)
              generalize a.labels[k] = X at *
              generalize b.labels[k] = Y at *
              by_cases hz : ordS X Y = 0
              · have Hnx2:=zH (Hnx.out hz)
                rw [hz] at Hcall
                clear hz
                go_wp2_with (first
                      | (with_reducible refine rg ?_)
                      | (with_reducible refine fo ?_)
                      | (go_at_call 103;go_loud (refine Hcall.out.mono ?_);rintro e w6 ⟨rfl,rfl⟩;have Hb6:=zH Hb.out.drew;have Hr6:=zH Hr.out.drew))
                exact ⟨⟨k + 1,by go_num,by omega,Hnx2.out,Hr6.out⟩,by simp [intOf];omega⟩
              · have Hres:=zH (show cmpV a b = ordS X Y by rw [Heq5x.out,Hcm.out,Hat.out hz])
                have d9 : (ordS X Y != 0) = true:=by simpa using hz
                clear hz
                generalize ordS X Y = c at *
                go_wp2_with (first
                      | (with_reducible refine rg ?_)
                      | (with_reducible refine fo ?_)
                      | (go_at_call 103;go_loud (refine Hcall.out.mono ?_);rintro e w6 ⟨rfl,rfl⟩;have Hb6:=zH Hb.out.drew;have Hr6:=zH Hr.out.drew))
                go_ret
                rw [Hres.out]
                exact ⟨rfl,Hb6.out⟩
            · obtain rfl : k = a.labels.length:=by omega
              have hcm0:=Hcm.out.trans (t3m (f:=ordS) fun j h h2=>Hall.out j h h2 h)
              have Hres:=zH (show cmpV a b = 0 by rw [Heq5x.out];exact hcm0)
              clear hcm0
              go_wp2
              go_ret
              rw [Hres.out]
              exact ⟨rfl,Hb.out⟩
theorem tdq : ∀ d (a : VV),a.ht ≤ d → ∀ b,RmpC a b:=by
  intro d
  induction d with
  | zero=>intro a h;have:=t4u a;omega
  | succ d ih =>
    intro a hd b
    exact tct a b (fun x hx y _=>ih x (by have:=t3z hx;omega) y) fun x hx y _=>by
      have h1:=t4t hx
      exact t7q x y (fun z hz t _=>ih z (by have:=t4a hz;omega) t) (ih _ (by have:=t4b x;omega) _)
theorem t5m (a b : VV) : RmpC a b:=tdq a.ht a (Nat.le_refl _) b
theorem t5o (a b : EE) : RmpD a b:=t7q a b (fun x _ y _=>t5m x y) (t5m _ _)
end Go.Proofs.YtjgldaaofdpcgaaGreat
namespace Go.Proofs.YtjgldaaofdpcgaaGreat
open Go.RowKit Go.Ident
set_option maxRecDepth 100000
set_option maxHeartbeats 8000000 in
theorem t8k (a b : VV) (w : World) (u v : Value) (hu : VW w u a) (hv : VW w v b) : Calls Tryz.prog 38 #[u,v] w (ER (decide (cmpV a b = 0)) w):=by
  have Hu:=zH hu;have Hv:=zH hv
  obtain ⟨_,q1,q2,q3,q4,q5,q6,q7,q8,rfl,-,-,-,-,-⟩:=hu.ex
  obtain ⟨_,r1,r2,r3,r4,r5,r6,r7,r8,rfl,-,-,-,-,-⟩:=hv.ex
  clear hu hv
  rw [← tez]
  go_enter Tryz.func38,Tryz.ntmps38
  go_upto_region 1 with fail
  obtain ⟨w2,e9,hA,hB,hb⟩:=t1f w (.cells #[.int .i64 a.kind,.int .i64 a.num,.string a.text,.slice q1 a.kids.length q2,.slice q3 a.keys.length q4,.slice q5 a.ents.length q6,.slice q7 a.labels.length q8] 28) (.cells #[.int .i64 b.kind,.int .i64 b.num,.string b.text,.slice r1 b.kids.length r2,.slice r3 b.keys.length r4,.slice r5 b.ents.length r6,.slice r7 b.labels.length r8] 28)
  rw [e9]
  have Hb:=zH hb
  obtain ⟨⟨f0,f1,f2,f3⟩,f4,f5,f6⟩:=t0f hA
  obtain ⟨⟨g0,g1,g2,g3⟩,g4,g5,g6⟩:=t0f hB
  have Hc:=zH (t5m a b w2 _ _ (Hu.out.below hb) (Hv.out.below hb))
  have Hc2:=zH (t5m a b w2.drew _ _ (Hu.out.below hb.drew) (Hv.out.below hb.drew))
  clear e9 hA hB hb
  generalize cmpV a b = c at *
  go_wp2_with (first
    | (with_reducible refine rg ?_)
            | (with_reducible refine fo ?_)
    | (go_at_call 70;refine Hc2.out.mono ?_;rintro e w6 ⟨rfl,q⟩;have Hb6:=zH (Hb.out.drew.step q);clear q)
    | (go_at_call 70;refine Hc.out.mono ?_;rintro e w6 ⟨rfl,q⟩;have Hb6:=zH (Hb.out.step q);clear q))
  go_ret
  exact ⟨rfl,Hb6.out⟩
set_option maxHeartbeats 32000000 in
theorem tej (hnode : ∀ (a : VV) (w : World) (u : Value),VW w u a → Calls Tryz.prog 63 #[u] w (ER (nodeV a) w)) (a : VV) : ∀ (w : World) (u : Value),VW w u a → Calls Tryz.prog 31 #[u] w (ER a.valid w):=by
  induction hht : a.ht using Nat.strongRecOn generalizing a with
  | ind t ih =>
  intro w u hu
  have Hih:=zH (show ∀ x : VV,x.ht < a.ht → ∀ (w : World) (u : Value),VW w u x → Calls Tryz.prog 31 #[u] w (ER x.valid w) from fun x hx w u hu=>ih x.ht (by omega) x rfl w u hu)
  clear ih hht
  have Hu:=zH hu
  obtain ⟨_,q1,q2,q3,q4,q5,q6,q7,q8,rfl,-,hk,-,he,-⟩:=hu.ex
  have hLk : a.kids.length ≤ 9223372036854775807:=by obtain ⟨_,_,_,_,h⟩:=hk;exact h.big
  have hLe : a.ents.length ≤ 9223372036854775807:=by obtain ⟨_,_,_,_,h⟩:=he;exact h.big
  have HK:=zH hk;have HE:=zH he
  have Hvp:=zH (t5r a)
  clear hu hk he
  go_enter Tryz.func31,Tryz.ntmps31
  go_upto_region 1 with fail
  have hA:=heap_alloc_new w (.cells #[.int .i64 a.kind,.int .i64 a.num,.string a.text,.slice q1 a.kids.length q2,.slice q3 a.keys.length q4,.slice q5 a.ents.length q6,.slice q7 a.labels.length q8] 28)
  have hb : Below w.heap.size w (w.alloc (.cells #[.int .i64 a.kind,.int .i64 a.num,.string a.text,.slice q1 a.kids.length q2,.slice q3 a.keys.length q4,.slice q5 a.ents.length q6,.slice q7 a.labels.length q8] 28)):=(Below.refl _ _).alloc (Nat.le_refl _) _
  generalize w.alloc (.cells #[.int .i64 a.kind,.int .i64 a.num,.string a.text,.slice q1 a.kids.length q2,.slice q3 a.keys.length q4,.slice q5 a.ents.length q6,.slice q7 a.labels.length q8] 28) = w2 at *
  have Hb:=zH hb
  obtain ⟨⟨f0,f1,f2,f3⟩,f4,f5,f6⟩:=t0f hA
  have HA:=zH hA
  have hlA:=t0a hA
  have Hnd:=zH (hnode a w2 _ (Hu.out.below hb))
  clear hA hb hnode
  cases hnd : nodeV a with
  | false =>
    rw [hnd] at Hnd
    have Hr:=zH (show a.valid = false by rw [Hvp.out,hnd];rfl)
    clear hnd
    go_wp2_with (go_at_call 63;refine Hnd.out.mono ?_;rintro e w3 ⟨rfl,q⟩;have Hb3:=zH (Hb.out.step q);clear q)
    go_ret
    rw [Hr.out]
    exact ⟨rfl,Hb3.out⟩
  | true =>
    rw [hnd] at Hnd
    have Hr:=zH (show a.valid = (a.kids.all VV.valid && a.ents.all EE.validIn) by rw [Hvp.out,hnd];rfl)
    clear hnd
    go_wp2_with (go_at_call 63;refine Hnd.out.mono ?_;rintro e w3 ⟨rfl,q⟩;have Hb3:=zH (Hb.out.step q);have Hq3:=zH q;clear q)
    clear f0 f1 f2 f3 f4 f5 f6
    go_loopw [3] (fun i wr=>∃ k : Nat,i = .int .i64 k ∧ k ≤ a.kids.length ∧ (a.kids.take k).all VV.valid = true ∧ Below w3.heap.size w3 wr) (fun i _=>a.kids.length - (intOf i).toNat)
    case atStart=>exact ⟨0,rfl,by omega,by simp,Below.refl _ _⟩
    case round =>
      obtain ⟨k,rfl,hk,hall,hb⟩:=hrel
      have Hall:=zH hall;have Hbr:=zH hb;have Hbw:=zH (Hb3.out.step hb);have Hbq:=zH (Hq3.out.step hb);clear hall hb
      obtain ⟨⟨f0,f1,f2,f3⟩,f4,f5,f6⟩:=t0f ((Hbq.out.block _ hlA).trans HA.out)
      by_cases hlt : k < a.kids.length
      · obtain ⟨d',p',c',e9,hr⟩:=HK.out.below Hbw.out
        injection e9 with e1 _ e3
        subst e1 e3
        obtain ⟨ak,ok,cs,rfl,hab,-,hrg,hVS⟩:=hr.at hlt
        have HVS:=zH hVS
        obtain ⟨r1,r2,r3,r4,r5,r6,r7,r8,rfl⟩:=hVS.seven
        have z0:=hrg 0 _ rfl
        have z1:=hrg 1 _ rfl
        have z2:=hrg 2 _ rfl
        have z3:=hrg 3 _ rfl
        have z4:=hrg 4 _ rfl
        have z5:=hrg 5 _ rfl
        have z6:=hrg 6 _ rfl
        rw [Nat.add_zero] at z0
        clear hr hrg hVS
        have hst:=t2s (p:=VV.valid) hlt
        rw [Hall.out,Bool.true_and] at hst
        have Hst:=zH hst
        have Hno:=zH (t4d (p:=VV.valid) hlt)
        have Hv:=zH (Hih.out _ (t3z (List.getElem_mem hlt)) wr _ ⟨_,_,rfl,HVS.out⟩)
        clear hst
        generalize a.kids[k] = x at *
        cases hv : x.valid with
        | true =>
          rw [hv] at Hv
          have Hst2:=zH (Hst.out.trans hv)
          clear hv
          go_wp2_with (go_at_call 31;refine Hv.out.mono ?_;rintro e w6 ⟨rfl,q⟩;have Hb6:=zH (Hbr.out.step q);clear q)
          exact ⟨⟨k + 1,by go_num,by omega,Hst2.out,Hb6.out⟩,by simp [intOf];omega⟩
        | false =>
          rw [hv] at Hv
          have Hf:=zH (Hno.out hv)
          clear hv
          go_wp2_with (go_at_call 31;refine Hv.out.mono ?_;rintro e w6 ⟨rfl,q⟩;have Hb6:=zH (Hbw.out.step q);clear q)
          go_ret
          rw [Hr.out,Hf.out]
          exact ⟨rfl,Hb6.out⟩
      · obtain rfl : k = a.kids.length:=by omega
        have Hr2:=zH (show a.valid = a.ents.all EE.validIn by rw [Hr.out];have:=Hall.out;rw [List.take_length] at this;rw [this];rfl)
        obtain ⟨wq,hwq⟩ : ∃ wq : World,wq = wr:=⟨_,rfl⟩
        subst hwq
        go_wp2
        clear f0 f1 f2 f3 f4 f5 f6
        have Hbwq:=zH Hbw.out;have Hbqq:=zH Hbq.out
        clear Hbw Hbq Hbr
        go_loopw [4] (fun i wr=>∃ k : Nat,i = .int .i64 k ∧ k ≤ a.ents.length ∧ (a.ents.take k).all EE.validIn = true ∧ Below wq.heap.size wq wr) (fun i _=>a.ents.length - (intOf i).toNat)
        case atStart=>exact ⟨0,rfl,by omega,by simp,Below.refl _ _⟩
        case round =>
          obtain ⟨k,rfl,hk,hall,hb⟩:=hrel
          have Hall:=zH hall;have Hbr:=zH hb;have Hbw:=zH (Hbwq.out.step hb);have Hbq:=zH (Hbqq.out.step hb);clear hall hb
          obtain ⟨⟨f0,f1,f2,f3⟩,f4,f5,f6⟩:=t0f ((Hbq.out.block _ hlA).trans HA.out)
          by_cases hlt : k < a.ents.length
          · obtain ⟨d',p',c',e9,hr⟩:=HE.out.below Hbw.out
            injection e9 with e1 _ e3
            subst e1 e3
            obtain ⟨ak,ok,cs,rfl,hab,-,hrg,hES⟩:=hr.at hlt
            obtain ⟨r9,ra,rs,e9,hargs,hres⟩:=hES
            obtain ⟨r1,r2,r3,r4,r5,r6,r7,r8,rfl⟩:=hres.seven
            subst e9
            have z0:=hrg 0 _ rfl
            have z1:=hrg 1 _ rfl
            have z2:=hrg 2 _ rfl
            have z3:=hrg 3 _ rfl
            have z4:=hrg 4 _ rfl
            have z5:=hrg 5 _ rfl
            have z6:=hrg 6 _ rfl
            have z7:=hrg 7 _ rfl
            have z8:=hrg 8 _ rfl
            rw [Nat.add_zero] at z0
            have hst:=t2s (p:=EE.validIn) hlt
            rw [Hall.out,Bool.true_and] at hst
            have Hst:=zH hst
            have Hno:=zH (t4d (p:=EE.validIn) hlt)
            have Hhe:=zH (t4t (List.getElem_mem hlt))
            have Hargs:=zH hargs;have Hres:=zH hres;have hLa:=hargs.big
            clear hr hrg hst hargs hres
            generalize a.ents[k] = x at *
            have Hin:=zH (t8i x)
            obtain ⟨wo,hwo⟩ : ∃ wo : World,wo = wr:=⟨_,rfl⟩
            subst hwo
            go_upto_region 12 with fail
            have hnew:=heap_alloc_new wo (.cells #[.slice r9 x.args.length ra,.bool x.fails,.int .i64 x.res.kind,.int .i64 x.res.num,.string x.res.text,.slice r1 x.res.kids.length r2,.slice r3 x.res.keys.length r4,.slice r5 x.res.ents.length r6,.slice r7 x.res.labels.length r8] 55)
            have ho : Below wo.heap.size wo (wo.alloc (.cells #[.slice r9 x.args.length ra,.bool x.fails,.int .i64 x.res.kind,.int .i64 x.res.num,.string x.res.text,.slice r1 x.res.kids.length r2,.slice r3 x.res.keys.length r4,.slice r5 x.res.ents.length r6,.slice r7 x.res.labels.length r8] 55)):=(Below.refl _ _).alloc (Nat.le_refl _) _
            generalize wo.alloc (.cells #[.slice r9 x.args.length ra,.bool x.fails,.int .i64 x.res.kind,.int .i64 x.res.num,.string x.res.text,.slice r1 x.res.kids.length r2,.slice r3 x.res.keys.length r4,.slice r5 x.res.ents.length r6,.slice r7 x.res.labels.length r8] 55) = w5 at *
            have Hb5:=zH (Hbr.out.step ho)
            have Hbw5:=zH (Hbw.out.step ho)
            have Hbo:=zH ho
            have hl5:=t0a hnew
            have Hnew:=zH hnew
            clear f0 f1 f2 f3 f4 f5 f6
            clear z0 z1 z2 z3 z4 z5 z6 z7 z8 hnew ho
            go_wp2
            go_loopw [6] (fun i wr=>∃ j : Nat,i = .int .i64 j ∧ j ≤ x.args.length ∧ (x.args.take j).all VV.valid = true ∧ Below w5.heap.size w5 wr) (fun i _=>x.args.length - (intOf i).toNat)
            case atStart=>exact ⟨0,rfl,by omega,by simp,Below.refl _ _⟩
            case round =>
              obtain ⟨j,rfl,hj,hall,hb⟩:=hrel
              have Hall2:=zH hall;have Hc:=zH (Hb5.out.step hb);have Hcw:=zH (Hbw5.out.step hb);have Hco:=zH (Hbo.out.step hb);have Hc5:=zH hb;clear hall hb
              obtain ⟨⟨g0,g1,g2,g3⟩,⟨g4,g5,g6,g7⟩,g8⟩:=t1k ((Hc5.out.block _ hl5).trans Hnew.out)
              by_cases hlt2 : j < x.args.length
              · obtain ⟨aj,oj,cs,rfl,hab2,-,hrg,hVS⟩:=Hargs.out.all hlt2
                have hrg:=hrg wr Hco.out
                have HVS:=zH (hVS.below Hco.out)
                obtain ⟨s1,s2,s3,s4,s5,s6,s7,s8,rfl⟩:=hVS.seven
                have z0:=hrg 0 _ rfl
                have z1:=hrg 1 _ rfl
                have z2:=hrg 2 _ rfl
                have z3:=hrg 3 _ rfl
                have z4:=hrg 4 _ rfl
                have z5:=hrg 5 _ rfl
                have z6:=hrg 6 _ rfl
                rw [Nat.add_zero] at z0
                clear hrg hVS
                have hst:=t2s (p:=VV.valid) hlt2
                rw [Hall2.out,Bool.true_and] at hst
                have Hst3:=zH hst
                have Hno3:=zH (t4d (p:=VV.valid) hlt2)
                have Hv:=zH (Hih.out _ (Nat.lt_of_le_of_lt (t4a (List.getElem_mem hlt2)) Hhe.out) wr _ ⟨_,_,rfl,HVS.out⟩)
                clear hst
                generalize x.args[j] = y at *
                cases hv : y.valid with
                | true =>
                  rw [hv] at Hv
                  have Hst4:=zH (Hst3.out.trans hv)
                  clear hv
                  go_wp2_with (go_at_call 31;refine Hv.out.mono ?_;rintro e w6 ⟨rfl,q⟩;have Hb6:=zH (Hc5.out.step q);clear q)
                  exact ⟨⟨j + 1,by go_num,by omega,Hst4.out,Hb6.out⟩,by simp [intOf];omega⟩
                | false =>
                  rw [hv] at Hv
                  have Hf:=zH (Hno.out (by rw [Hin.out,Hno3.out hv];rfl))
                  clear hv
                  go_wp2_with (go_at_call 31;refine Hv.out.mono ?_;rintro e w6 ⟨rfl,q⟩;have Hb6:=zH (Hcw.out.step q);clear q)
                  go_ret
                  rw [Hr2.out,Hf.out]
                  exact ⟨rfl,Hb6.out⟩
              · obtain rfl : j = x.args.length:=by omega
                have Hin2:=zH (show x.validIn = (x.fails || x.res.valid) by rw [Hin.out];have:=Hall2.out;rw [List.take_length] at this;rw [this];rfl)
                cases hfl : x.fails with
                | true =>
                  rw [hfl] at g1
                  have Hst2:=zH (Hst.out.trans (by rw [Hin2.out,hfl,Bool.true_or]))
                  clear hfl
                  go_wp2
                  exact ⟨⟨k + 1,by go_num,by omega,Hst2.out,Hc.out⟩,by simp [intOf];omega⟩
                | false =>
                  rw [hfl] at g1
                  have Hin3:=zH (show x.validIn = x.res.valid by rw [Hin2.out,hfl,Bool.false_or])
                  clear hfl
                  have Hv:=zH (Hih.out _ (Nat.lt_of_le_of_lt (t4b x) Hhe.out) wr _ ⟨_,_,rfl,Hres.out.below Hco.out⟩)
                  cases hv : x.res.valid with
                  | true =>
                    rw [hv] at Hv
                    have Hst2:=zH (Hst.out.trans (Hin3.out.trans hv))
                    clear hv
                    go_wp2_with (go_at_call 31;refine Hv.out.mono ?_;rintro e w6 ⟨rfl,q⟩;have Hb6:=zH (Hc.out.step q);clear q)
                    exact ⟨⟨k + 1,by go_num,by omega,Hst2.out,Hb6.out⟩,by simp [intOf];omega⟩
                  | false =>
                    rw [hv] at Hv
                    have Hf:=zH (Hno.out (Hin3.out.trans hv))
                    clear hv
                    go_wp2_with (go_at_call 31;refine Hv.out.mono ?_;rintro e w6 ⟨rfl,q⟩;have Hb6:=zH (Hcw.out.step q);clear q)
                    go_ret
                    rw [Hr2.out,Hf.out]
                    exact ⟨rfl,Hb6.out⟩
          · obtain rfl : k = a.ents.length:=by omega
            have Hy:=zH (show a.ents.all EE.validIn = true by have:=Hall.out;rwa [List.take_length] at this)
            go_wp2
            go_ret
            rw [Hr2.out,Hy.out]
            exact ⟨rfl,Hbw.out⟩
end Go.Proofs.YtjgldaaofdpcgaaGreat
