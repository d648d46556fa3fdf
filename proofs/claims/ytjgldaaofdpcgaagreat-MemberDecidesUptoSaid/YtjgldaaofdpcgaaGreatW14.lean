/- Walks and plain facts for the laws of membership, for all values and types that the heap holds (texts K8 V5). -/
import Derived.Test.YtjgldaaofdpcgaaGreatW03
import Derived.Test.YtjgldaaofdpcgaaGreatW13
set_option linter.unusedVariables false
set_option linter.unusedSimpArgs false
namespace Go.Proofs.YtjgldaaofdpcgaaGreat
open Go.RowKit Go.Ident
set_option maxRecDepth 100000
theorem tgp (s : ByteArray) : (s.toList != []) = !decide (s.size = 0):=by
  have h : s.toList = s.data.toList:=ByteArray.toList_eq s
  rw [h]
  have : s.size = s.data.toList.length:=by show s.data.size = _;simp
  rw [this]
  cases s.data.toList <;> simp
theorem t2h (s : ByteArray) : s.toList.isEmpty = decide (s.size = 0):=by
  have h:=tgp s
  generalize decide (s.size = 0) = d at *
  cases hl : s.toList with
  | nil=>rw [hl] at h;cases d <;> simp_all
  | cons x r=>rw [hl] at h;cases d <;> simp_all
set_option maxHeartbeats 64000000 in
theorem tgq (a : VV) (h9 : a.kind = 1 ∨ a.kind = 2 ∨ a.kind = 3 ∨ a.kind = 4 ∨ a.kind = 5 ∨ a.kind = 6 ∨ a.kind = 7 ∨ a.kind = 8 ∨ a.kind = 9) (w : World) (u : Value) (hu : VW w u a) : Calls Tryz.prog 84 #[u] w (ER (nodeV a) w):=by
  obtain ⟨b0,b1,b2,b3,b4,S,hB⟩ : ∃ b0 b1 b2 b3 b4 S : Bool,(a.kind = 1 ∧ b0 = true ∧ b1 = false ∧ b2 = false ∧ b3 = false ∧ b4 = false ∧ S = true) ∨ (a.kind = 2 ∧ b0 = false ∧ b1 = true ∧ b2 = false ∧ b3 = false ∧ b4 = false ∧ S = decide (a.text.size ≤ 64)) ∨ (a.kind = 3 ∧ b0 = false ∧ b1 = true ∧ b2 = false ∧ b3 = false ∧ b4 = false ∧ S = isAtm a.text.data.toList) ∨ (a.kind = 4 ∧ b0 = true ∧ b1 = false ∧ b2 = false ∧ b3 = false ∧ b4 = false ∧ S = decide (0 ≤ a.num)) ∨ (a.kind = 5 ∧ b0 = false ∧ b1 = false ∧ b2 = false ∧ b3 = false ∧ b4 = false ∧ S = true) ∨ (a.kind = 6 ∧ b0 = false ∧ b1 = false ∧ b2 = true ∧ b3 = false ∧ b4 = false ∧ S = decide (a.kids.length ≤ 4)) ∨ (a.kind = 7 ∧ b0 = false ∧ b1 = false ∧ b2 = true ∧ b3 = false ∧ b4 = false ∧ S = (decide (a.kids.length = 2) && t5k a.kids)) ∨ (a.kind = 8 ∧ b0 = false ∧ b1 = false ∧ b2 = true ∧ b3 = true ∧ b4 = false ∧ S = mapOk a) ∨ (a.kind = 9 ∧ b0 = true ∧ b1 = false ∧ b2 = false ∧ b3 = false ∧ b4 = true ∧ S = funOk a):=by
    rcases h9 with h | h | h | h | h | h | h | h | h
    · exact ⟨true,false,false,false,false,true,by simp [h]⟩
    · exact ⟨false,true,false,false,false,decide (a.text.size ≤ 64),by simp [h]⟩
    · exact ⟨false,true,false,false,false,isAtm a.text.data.toList,by simp [h]⟩
    · exact ⟨true,false,false,false,false,decide (0 ≤ a.num),by simp [h]⟩
    · exact ⟨false,false,false,false,false,true,by simp [h]⟩
    · exact ⟨false,false,true,false,false,decide (a.kids.length ≤ 4),by simp [h]⟩
    · exact ⟨false,false,true,false,false,(decide (a.kids.length = 2) && t5k a.kids),by simp [h]⟩
    · exact ⟨false,false,true,true,false,mapOk a,by simp [h]⟩
    · exact ⟨true,false,false,false,true,funOk a,by simp [h]⟩
  have Hn:=zH (show nodeV a = (labOk a.labels && (b0 || decide (a.num = 0)) && (b1 || decide (a.text.size = 0)) && (b2 || a.kids.isEmpty) && (b3 || a.keys.isEmpty) && (b4 || a.ents.isEmpty) && S) by
    rcases hB with ⟨hk,rfl,rfl,rfl,rfl,rfl,hS⟩ | ⟨hk,rfl,rfl,rfl,rfl,rfl,hS⟩ | ⟨hk,rfl,rfl,rfl,rfl,rfl,hS⟩ | ⟨hk,rfl,rfl,rfl,rfl,rfl,hS⟩ | ⟨hk,rfl,rfl,rfl,rfl,rfl,hS⟩ | ⟨hk,rfl,rfl,rfl,rfl,rfl,hS⟩ | ⟨hk,rfl,rfl,rfl,rfl,rfl,hS⟩ | ⟨hk,rfl,rfl,rfl,rfl,rfl,hS⟩ | ⟨hk,rfl,rfl,rfl,rfl,rfl,hS⟩
    all_goals
      subst hS
      unfold nodeV labOk
      try unfold mapOk
      try unfold funOk
      simp [hk,t2e,t1x,t2a]
      try ac_rfl)
  have hU:=fun (w2 : World)=>show Calls Tryz.prog 104 #[.int .i64 a.kind] w2 fun e w'=>e = .returned (.tuple #[.agg #[.bool b0,.bool b1,.bool b2,.bool b3,.bool b4],.bool true]) ∧ Below w2.heap.size w2 w' from (tdn a.kind w2).mono fun _ _ h=>⟨by rcases hB with ⟨hk,rfl,rfl,rfl,rfl,rfl,hS⟩ | ⟨hk,rfl,rfl,rfl,rfl,rfl,hS⟩ | ⟨hk,rfl,rfl,rfl,rfl,rfl,hS⟩ | ⟨hk,rfl,rfl,rfl,rfl,rfl,hS⟩ | ⟨hk,rfl,rfl,rfl,rfl,rfl,hS⟩ | ⟨hk,rfl,rfl,rfl,rfl,rfl,hS⟩ | ⟨hk,rfl,rfl,rfl,rfl,rfl,hS⟩ | ⟨hk,rfl,rfl,rfl,rfl,rfl,hS⟩ | ⟨hk,rfl,rfl,rfl,rfl,rfl,hS⟩ <;> simpa [t2e,t1x,t2a,hk] using h.1,h.2⟩
  have HB:=zH hB
  have Hu:=zH hu
  obtain ⟨_,q1,q2,q3,q4,q5,q6,q7,q8,rfl,-,hkids,-,-,hl⟩:=hu.ex
  have hszk : a.kids.length ≤ 9223372036854775807:=by obtain ⟨_,_,_,_,h⟩:=hkids;exact h.big
  have HK:=zH hkids;have HL:=zH hl;have HU:=zH hU
  clear hu hkids hl h9 hB hU
  go_enter Tryz.func84,Tryz.ntmps84
  go_upto_region 1 with fail
  have hA:=heap_alloc_new w (.cells #[.int .i64 a.kind,.int .i64 a.num,.string a.text,.slice q1 a.kids.length q2,.slice q3 a.keys.length q4,.slice q5 a.ents.length q6,.slice q7 a.labels.length q8] 28)
  have hb : Below w.heap.size w (w.alloc (.cells #[.int .i64 a.kind,.int .i64 a.num,.string a.text,.slice q1 a.kids.length q2,.slice q3 a.keys.length q4,.slice q5 a.ents.length q6,.slice q7 a.labels.length q8] 28)):=(Below.refl _ _).alloc (Nat.le_refl _) _
  generalize w.alloc (.cells #[.int .i64 a.kind,.int .i64 a.num,.string a.text,.slice q1 a.kids.length q2,.slice q3 a.keys.length q4,.slice q5 a.ents.length q6,.slice q7 a.labels.length q8] 28) = w2 at *
  have hlA:=t0a hA
  have HA:=zH hA;have Hb:=zH hb
  obtain ⟨⟨f0,f1,f2,f3⟩,f4,f5,f6⟩:=t0f hA
  clear hA hb
  have Hus:=zH (HU.out w2)
  go_upto_region 2 with (go_at_call 104;refine Hus.out.mono ?_;rintro e w3 ⟨rfl,q⟩;have Hb3:=zH q;clear q)
  have hn4:=heap_alloc_new w3 (.cells #[.bool b0,.bool b1,.bool b2,.bool b3,.bool b4] 120)
  have ho : Below w3.heap.size w3 (w3.alloc (.cells #[.bool b0,.bool b1,.bool b2,.bool b3,.bool b4] 120)):=(Below.refl _ _).alloc (Nat.le_refl _) _
  generalize w3.alloc (.cells #[.bool b0,.bool b1,.bool b2,.bool b3,.bool b4] 120) = w4 at *
  have Hb4:=zH (Hb3.out.step ho)
  have Hbw4:=zH (Hb.out.step Hb4.out)
  clear f0 f1 f2 f3 f4 f5 f6 ho
  obtain ⟨⟨f0,f1,f2,f3⟩,f4,f5,f6⟩:=t0f ((Hb4.out.block _ hlA).trans HA.out)
  have hl4:=t0a hn4
  have Hn4:=zH hn4
  clear hn4
  have Hlab:=zH (tb6 a.labels w4 _ (HL.out.below Hbw4.out))
  cases hlab : labOk a.labels with
  | false =>
    have Hr:=zH (show nodeV a = false by rw [Hn.out,hlab];simp)
    rw [hlab] at Hlab
    clear hlab
    go_wp2_with (go_at_call 105;refine Hlab.out.mono ?_;rintro e w5 ⟨rfl,q⟩;have Hb5:=zH (Hbw4.out.step q);clear q)
    go_ret
    rw [Hr.out]
    exact ⟨rfl,Hb5.out⟩
  | true =>
    rw [hlab] at Hlab Hn
    clear hlab
    go_upto_region 4 with (go_at_call 105;refine Hlab.out.mono ?_;rintro e w5 ⟨rfl,q⟩;have Hb5:=zH (Hbw4.out.step q);have Hq5:=zH q;clear q)
    clear f0 f1 f2 f3 f4 f5 f6
    have HA5:=zH ((Hq5.out.block _ (Nat.lt_of_lt_of_le hlA Hb4.out.size)).trans ((Hb4.out.block _ hlA).trans HA.out))
    obtain ⟨⟨f0,f1,f2,f3⟩,f4,f5,f6⟩:=t0f HA5.out
    obtain ⟨g0,g1,g2,g3,g4⟩ : w5.cell? ⟨w3.heap.size,0,none⟩ = some (.bool b0) ∧ w5.cell? ⟨w3.heap.size,1,none⟩ = some (.bool b1) ∧ w5.cell? ⟨w3.heap.size,2,none⟩ = some (.bool b2) ∧ w5.cell? ⟨w3.heap.size,3,none⟩ = some (.bool b3) ∧ w5.cell? ⟨w3.heap.size,4,none⟩ = some (.bool b4):=by
      have h:=(Hq5.out.block _ hl4).trans Hn4.out
      simp [World.cell?,h]
    have Hu5:=zH (Hu.out.below Hb5.out)
    rcases HB.out with ⟨hk,rfl,rfl,rfl,rfl,rfl,hS⟩ | ⟨hk,rfl,rfl,rfl,rfl,rfl,hS⟩ | ⟨hk,rfl,rfl,rfl,rfl,rfl,hS⟩ | ⟨hk,rfl,rfl,rfl,rfl,rfl,hS⟩ | ⟨hk,rfl,rfl,rfl,rfl,rfl,hS⟩ | ⟨hk,rfl,rfl,rfl,rfl,rfl,hS⟩ | ⟨hk,rfl,rfl,rfl,rfl,rfl,hS⟩ | ⟨hk,rfl,rfl,rfl,rfl,rfl,hS⟩ | ⟨hk,rfl,rfl,rfl,rfl,rfl,hS⟩
    all_goals rw [hk] at f0 Hu5
    all_goals have HS:=zH hS
    all_goals clear hk hS
    all_goals (first
      | (have q : w5.cell? ⟨w3.heap.size, 0, none⟩ = some (.bool false) := g0
         clear q
         by_cases z : a.num = 0
         rotate_left
         · have e:=(decide_eq_false z)
           have Hr:=zH (show nodeV a = false by rw [Hn.out,e];simp)
           have d0 : (a.num != 0) = true:=by simp [z]
           clear z e
           go_wp2
           go_ret
           rw [Hr.out]
           exact ⟨rfl,Hb5.out⟩
         have e:=(decide_eq_true z)
         have d0 : (a.num != 0) = false:=by simp [z]
         rw [e] at Hn
         clear z e)
      | skip)
    all_goals (first
      | (have q : w5.cell? ⟨w3.heap.size, 1, none⟩ = some (.bool false) := g1
         clear q
         by_cases z : a.text.size = 0
         rotate_left
         · have e:=(decide_eq_false z)
           have Hr:=zH (show nodeV a = false by rw [Hn.out,e];simp)
           have d1 : a.text.toList.isEmpty = false:=(t2h a.text).trans e
           clear z e
           go_wp2
           go_ret
           rw [Hr.out]
           exact ⟨rfl,Hb5.out⟩
         have e:=(decide_eq_true z)
         have d1 : a.text.toList.isEmpty = true:=(t2h a.text).trans e
         rw [e] at Hn
         clear z e)
      | skip)
    all_goals (first
      | (have q : w5.cell? ⟨w3.heap.size, 2, none⟩ = some (.bool false) := g2
         clear q
         by_cases z : a.kids.length = 0
         rotate_left
         · have e:=(show a.kids.isEmpty = false by rw [Bool.eq_false_iff];intro h;exact z (by simpa using h))
           have Hr:=zH (show nodeV a = false by rw [Hn.out,e];simp)
           have d2 : decide (0 < a.kids.length) = true:=by simp;omega
           clear z e
           go_wp2
           go_ret
           rw [Hr.out]
           exact ⟨rfl,Hb5.out⟩
         have e:=(show a.kids.isEmpty = true by simpa using z)
         have d2 : decide (0 < a.kids.length) = false:=by simp [z]
         rw [e] at Hn
         clear z e)
      | skip)
    all_goals (first
      | (have q : w5.cell? ⟨w3.heap.size, 3, none⟩ = some (.bool false) := g3
         clear q
         by_cases z : a.keys.length = 0
         rotate_left
         · have e:=(show a.keys.isEmpty = false by rw [Bool.eq_false_iff];intro h;exact z (by simpa using h))
           have Hr:=zH (show nodeV a = false by rw [Hn.out,e];simp)
           have d3 : decide (0 < a.keys.length) = true:=by simp;omega
           clear z e
           go_wp2
           go_ret
           rw [Hr.out]
           exact ⟨rfl,Hb5.out⟩
         have e:=(show a.keys.isEmpty = true by simpa using z)
         have d3 : decide (0 < a.keys.length) = false:=by simp [z]
         rw [e] at Hn
         clear z e)
      | skip)
    all_goals (first
      | (have q : w5.cell? ⟨w3.heap.size, 4, none⟩ = some (.bool false) := g4
         clear q
         by_cases z : a.ents.length = 0
         rotate_left
         · have e:=(show a.ents.isEmpty = false by rw [Bool.eq_false_iff];intro h;exact z (by simpa using h))
           have Hr:=zH (show nodeV a = false by rw [Hn.out,e];simp)
           have d4 : decide (0 < a.ents.length) = true:=by simp;omega
           clear z e
           go_wp2
           go_ret
           rw [Hr.out]
           exact ⟨rfl,Hb5.out⟩
         have e:=(show a.ents.isEmpty = true by simpa using z)
         have d4 : decide (0 < a.ents.length) = false:=by simp [z]
         rw [e] at Hn
         clear z e)
      | skip)
    all_goals have Hr:=zH (show nodeV a = S by rw [Hn.out];simp)
    all_goals obtain rfl:=HS.out
    · go_wp2
      go_ret
      rw [Hr.out]
      exact ⟨rfl,Hb5.out⟩
    · by_cases hs : a.text.size ≤ 64
      · have d9 : decide ((a.text.size : Int) ≤ 64) = true:=by simp;omega
        have d9' : decide (a.text.size ≤ 64) = true:=by simp [hs]
        rw [d9'] at Hr
        clear hs
        go_wp2
        go_ret
        rw [Hr.out]
        exact ⟨rfl,Hb5.out⟩
      · have d9 : decide ((a.text.size : Int) ≤ 64) = false:=by simp;omega
        have d9' : decide (a.text.size ≤ 64) = false:=by simp [hs]
        rw [d9'] at Hr
        clear hs
        go_wp2
        go_ret
        rw [Hr.out]
        exact ⟨rfl,Hb5.out⟩
    · have Hat:=zH (t8g a.text w5)
      generalize isAtm a.text.data.toList = c at *
      go_wp2_with (go_at_call 86;refine Hat.out.mono ?_;rintro e w5 ⟨rfl,rfl⟩)
      go_ret
      rw [Hr.out]
      exact ⟨rfl,Hb5.out⟩
    · go_wp2
      go_ret
      rw [Hr.out]
      exact ⟨rfl,Hb5.out⟩
    · go_wp2
      go_ret
      rw [Hr.out]
      exact ⟨rfl,Hb5.out⟩
    · by_cases hs : a.kids.length ≤ 4
      · have d9 : decide ((a.kids.length : Int) ≤ 4) = true:=by simp;omega
        have d9' : decide (a.kids.length ≤ 4) = true:=by simp [hs]
        rw [d9'] at Hr
        clear hs
        go_wp2
        go_ret
        rw [Hr.out]
        exact ⟨rfl,Hb5.out⟩
      · have d9 : decide ((a.kids.length : Int) ≤ 4) = false:=by simp;omega
        have d9' : decide (a.kids.length ≤ 4) = false:=by simp [hs]
        rw [d9'] at Hr
        clear hs
        go_wp2
        go_ret
        rw [Hr.out]
        exact ⟨rfl,Hb5.out⟩
    · by_cases hs : a.kids.length = 2
      rotate_left
      · have d9 : ((a.kids.length : Int) == 2) = false:=by simp;omega
        have d9' : (a.kids.length == 2) = false:=by simp;omega
        have d9'' : decide (a.kids.length = 2) = false:=by simp [hs]
        rw [d9'',Bool.false_and] at Hr
        clear hs
        go_wp2
        go_ret
        rw [Hr.out]
        exact ⟨rfl,Hb5.out⟩
      have h1 : 1 < a.kids.length:=by omega
      have htail : t5k a.kids = (decide (a.kids[1].kind = 5) || decide (a.kids[1].kind = 7)):=by unfold t5k;rw [List.getElem?_eq_getElem h1]
      have d9'' : decide (a.kids.length = 2) = true:=by simp [hs]
      rw [d9'',Bool.true_and,htail] at Hr
      obtain ⟨dk,p',c',e9,hrk⟩:=HK.out.below Hb5.out
      injection e9 with e91 _ e93
      subst e91 e93
      obtain ⟨ak,ok,cs,rfl,hab,-,hrg,hP⟩:=hrk.at h1
      obtain ⟨r1,r2,r3,r4,r5,r6,r7,r8,rfl⟩:=hP.seven
      have z0:=hrg 0 _ rfl
      rw [Nat.add_zero] at z0
      clear hrk hrg hP htail
      generalize a.kids[1] = y at *
      have d9 : ((a.kids.length : Int) == 2) = true:=by simp [hs]
      have d9' : (a.kids.length == 2) = true:=by simp [hs]
      have hlt1 : 1 < a.kids.length:=h1
      clear hs
      by_cases h5 : y.kind = 5
      · have e5 : (y.kind == 5) = true:=by simp [h5]
        have Hr2:=zH (show nodeV a = true by rw [Hr.out];simp [h5])
        clear h5
        go_wp2
        go_ret
        rw [Hr2.out]
        exact ⟨rfl,Hb5.out⟩
      · have e5 : (y.kind == 5) = false:=by simp [h5]
        have Hr2:=zH (show nodeV a = (y.kind == 7) by rw [Hr.out];simp [h5];rw [Bool.eq_iff_iff];simp)
        clear h5
        go_wp2
        go_ret
        rw [Hr2.out]
        exact ⟨rfl,Hb5.out⟩
    · have Hm:=zH (tdm a w5 _ Hu5.out)
      go_wp2_with (go_at_call 106;refine Hm.out.mono ?_;rintro e w6 ⟨rfl,q⟩;have Hb6:=zH (Hb5.out.step q);clear q)
      go_ret
      rw [Hr.out]
      exact ⟨rfl,Hb6.out⟩
    · have Hm:=zH (t9y a w5 _ Hu5.out)
      go_wp2_with (go_at_call 107;refine Hm.out.mono ?_;rintro e w6 ⟨rfl,q⟩;have Hb6:=zH (Hb5.out.step q);clear q)
      go_ret
      rw [Hr.out]
      exact ⟨rfl,Hb6.out⟩
set_option maxHeartbeats 16000000 in
theorem tgr (a : VV) (hk : ¬ (1 ≤ a.kind ∧ a.kind ≤ 9)) (w : World) (u : Value) (hu : VW w u a) : Calls Tryz.prog 84 #[u] w (ER (nodeV a) w):=by
  have hd : (decide (1 ≤ a.kind) && decide (a.kind ≤ 9)) = false:=by rw [Bool.eq_false_iff];intro h;simp at h;omega
  have Hn:=zH (show nodeV a = false by unfold nodeV;rw [hd];simp)
  obtain ⟨_,q1,q2,q3,q4,q5,q6,q7,q8,rfl,-,-,-,-,-⟩:=hu.ex
  have Hd:=zH hd
  clear hu hk hd
  go_enter Tryz.func84,Tryz.ntmps84
  go_upto_region 1 with fail
  have hA:=heap_alloc_new w (.cells #[.int .i64 a.kind,.int .i64 a.num,.string a.text,.slice q1 a.kids.length q2,.slice q3 a.keys.length q4,.slice q5 a.ents.length q6,.slice q7 a.labels.length q8] 28)
  have hb : Below w.heap.size w (w.alloc (.cells #[.int .i64 a.kind,.int .i64 a.num,.string a.text,.slice q1 a.kids.length q2,.slice q3 a.keys.length q4,.slice q5 a.ents.length q6,.slice q7 a.labels.length q8] 28)):=(Below.refl _ _).alloc (Nat.le_refl _) _
  generalize w.alloc (.cells #[.int .i64 a.kind,.int .i64 a.num,.string a.text,.slice q1 a.kids.length q2,.slice q3 a.keys.length q4,.slice q5 a.ents.length q6,.slice q7 a.labels.length q8] 28) = w2 at *
  have Hb:=zH hb
  obtain ⟨⟨f0,f1,f2,f3⟩,f4,f5,f6⟩:=t0f hA
  have Hus:=zH (tdn a.kind w2)
  clear hA hb
  go_upto_region 2 with (go_at_call 104;refine Hus.out.mono ?_;rintro e w3 ⟨rfl,q⟩;rw [Hd.out];have Hb3:=zH (Hb.out.step q);clear q)
  have Hb4:=zH (Hb3.out.step ((Below.refl w3.heap.size w3).alloc (Nat.le_refl _) (.cells #[.bool (t2e a.kind),.bool (t1x a.kind),.bool (t2a a.kind),.bool (decide (a.kind = 8)),.bool (decide (a.kind = 9))] 120)))
  generalize w3.alloc (.cells #[.bool (t2e a.kind),.bool (t1x a.kind),.bool (t2a a.kind),.bool (decide (a.kind = 8)),.bool (decide (a.kind = 9))] 120) = w4 at *
  clear f0 f1 f2 f3 f4 f5 f6
  go_wp2
  go_ret
  rw [Hn.out]
  exact ⟨rfl,Hb4.out⟩
theorem tcq (a : VV) (w : World) (u : Value) (hu : VW w u a) : Calls Tryz.prog 84 #[u] w (ER (nodeV a) w):=by
  by_cases h : 1 ≤ a.kind ∧ a.kind ≤ 9
  · exact tgq a (by omega) w u hu
  · exact tgr a h w u hu
end Go.Proofs.YtjgldaaofdpcgaaGreat
namespace Go.Proofs.YtjgldaaofdpcgaaGreat
open Go.RowKit Go.Ident
set_option maxRecDepth 100000
mutual
def VV.nodes : VV → Nat
  | .mk _ _ _ kids _ ents _=>1 + (nodesVs kids + nodesEs ents)
def EE.nodes : EE → Nat
  | .mk args f res=>nodesVs args + (if f then 0 else res.nodes)
def nodesVs : List VV → Nat
  | []=>0
  | x :: r=>x.nodes + nodesVs r
def nodesEs : List EE → Nat
  | []=>0
  | x :: r=>x.nodes + nodesEs r
end
theorem t2b : ∀ l,nodesVs l = (l.map VV.nodes).sum
  | []=>by rw [nodesVs];rfl
  | x :: r=>by rw [nodesVs,t2b r];simp
theorem t5l : ∀ l,nodesEs l = (l.map EE.nodes).sum
  | []=>by rw [nodesEs];rfl
  | x :: r=>by rw [nodesEs,t5l r];simp
def EE.parts (e : EE) : List VV:=e.args ++ (if e.fails then [] else [e.res])
def VV.parts (v : VV) : List VV:=v.kids ++ v.ents.flatMap EE.parts
theorem t5e (e : EE) : e.nodes = (e.parts.map VV.nodes).sum:=by
  cases e with | mk a f r =>
  rw [EE.nodes,t2b]
  show _ = (((a ++ (if f then [] else [r])).map VV.nodes).sum)
  cases f <;> simp
theorem tb7 : ∀ l : List EE,(l.map EE.nodes).sum = ((l.flatMap EE.parts).map VV.nodes).sum
  | []=>rfl
  | e :: r=>by simp [tb7 r,t5e e]
theorem taj (v : VV) : v.nodes = 1 + (v.parts.map VV.nodes).sum:=by
  cases v with | mk k n t kids keys ents labels =>
  rw [VV.nodes,t2b,t5l,tb7]
  show _ = 1 + ((kids ++ ents.flatMap EE.parts).map VV.nodes).sum
  simp
theorem tgs (v : VV) : 0 < v.nodes:=by rw [taj];omega
theorem tf0 : ∀ l : List VV,l.length ≤ (l.map VV.nodes).sum
  | []=>by simp
  | x :: r=>by have:=tf0 r;have:=tgs x;simp;omega
theorem tf1 : ∀ {l : List VV} {x : VV},x ∈ l → x.nodes ≤ (l.map VV.nodes).sum
  | y :: r,x,h=>by
    rcases List.mem_cons.1 h with rfl | h
    · simp
    · have:=tf1 h;simp;omega
theorem tc7 (v : VV) : v.parts.length < v.nodes:=by have:=tf0 v.parts;rw [taj];omega
theorem tfo {v x : VV} (h : x ∈ v.parts) : x.nodes < v.nodes:=by have:=tf1 h;rw [taj v];omega
theorem tix {v x : VV} (h : x ∈ v.parts) : x.ht < v.ht:=by
  rcases List.mem_append.1 h with h | h
  · exact t3z h
  · obtain ⟨e,he,hx⟩:=List.mem_flatMap.1 h
    have h1:=t4t he
    rcases List.mem_append.1 hx with hx | hx
    · have:=t4a hx;omega
    · cases hf : e.fails with
      | true=>rw [hf] at hx;simp at hx
      | false=>rw [hf] at hx;simp at hx;subst hx;have:=t4b e;omega
theorem tcr (e : EE) : e.validIn = e.parts.all VV.valid:=by
  rw [t8i,EE.parts,List.all_append]
  cases e.fails <;> simp
theorem teh (v : VV) : v.valid = (nodeV v && v.parts.all VV.valid):=by
  rw [t5r,VV.parts,List.all_append,List.all_flatMap]
  congr 2
  exact List.all_congr rfl fun e=>tcr e
def Ch {α : Type} (sz : Nat) (P : α → List Value → Prop) (L : List α) (cs : List Value) : Prop :=
  cs.length = L.length * sz ∧ ∀ i (h : i < L.length),P L[i] ((cs.drop (i * sz)).take sz)
theorem Ch.nil {α : Type} {sz : Nat} {P : α → List Value → Prop} : Ch sz P [] []:=⟨by simp,fun i h=>by simp at h⟩
theorem Ch.single {α : Type} {sz : Nat} {P : α → List Value → Prop} {x : α} {cs : List Value} (hl : cs.length = sz) (h : P x cs) : Ch sz P [x] cs:=by
  refine ⟨by simp [hl],fun i hi=>?_⟩
  obtain rfl : i = 0:=by simpa using hi
  rw [Nat.zero_mul,List.drop_zero,List.take_of_length_le (by omega)]
  exact h
theorem Ch.append {α : Type} {sz : Nat} {P : α → List Value → Prop} {L M : List α} {cs ds : List Value} (h : Ch sz P L cs) (k : Ch sz P M ds) : Ch sz P (L ++ M) (cs ++ ds):=by
  refine ⟨by rw [List.length_append,List.length_append,h.1,k.1,Nat.add_mul],fun i hi=>?_⟩
  by_cases hL : i < L.length
  · rw [List.getElem_append_left hL]
    have h1 : (i + 1) * sz ≤ cs.length:=by rw [h.1];exact Nat.mul_le_mul_right _ hL
    rw [Nat.add_mul,Nat.one_mul] at h1
    rw [List.drop_append_of_le_length (by omega),List.take_append_of_le_length (by rw [List.length_drop];omega)]
    exact h.2 i hL
  · have hi2 : i - L.length < M.length:=by rw [List.length_append] at hi;omega
    rw [List.getElem_append_right (by omega)]
    have h1 : i * sz = cs.length + (i - L.length) * sz:=by rw [h.1,← Nat.add_mul];congr 1;omega
    rw [h1,List.drop_append]
    have h2 : cs.drop (cs.length + (i - L.length) * sz) = []:=List.drop_eq_nil_of_le (by omega)
    rw [h2,List.nil_append,Nat.add_sub_cancel_left]
    exact k.2 _ hi2
theorem Ch.mono {α : Type} {sz : Nat} {P P' : α → List Value → Prop} {L : List α} {cs : List Value} (h : Ch sz P L cs) (hP : ∀ x cs,x ∈ L → P x cs → P' x cs) : Ch sz P' L cs :=
  ⟨h.1,fun i hi=>hP _ _ (List.getElem_mem hi) (h.2 i hi)⟩
theorem Ch.cells {α : Type} {sz : Nat} {P : α → List Value → Prop} {L : List α} {cs : List Value} (h : Ch sz P L cs) {R : Value → Prop} (hR : ∀ x cs,P x cs → ∀ u ∈ cs,R u) : ∀ u ∈ cs,R u:=by
  intro u hu
  obtain ⟨j,hj,rfl⟩:=List.mem_iff_getElem.1 hu
  have hl:=h.1
  have hsz : 0 < sz:=by
    rcases Nat.eq_zero_or_pos sz with rfl | h
    · simp at hl;subst hl;simp at hj
    · exact h
  have hi : j / sz < L.length:=by rw [Nat.div_lt_iff_lt_mul hsz];omega
  refine hR _ _ (h.2 _ hi) _ ?_
  have hm : j / sz * sz + j % sz = j:=by rw [Nat.mul_comm];exact Nat.div_add_mod j sz
  have hlt:=Nat.mod_lt j hsz
  rw [List.mem_iff_getElem]
  refine ⟨j % sz,by rw [List.length_take,List.length_drop];omega,?_⟩
  simp [hm]
theorem Rw.ch {α : Type} {w : World} {p : Option Addr} {c sz : Nat} {l : List α} {P : α → List Value → Prop} (h : Rw w p c sz l P) : ∃ cs,RC w sz p l.length cs ∧ Ch sz P l cs:=by
  obtain ⟨_,cs,h2,h3⟩:=h
  exact ⟨cs,h2,h2.1,h3⟩
theorem Rw.of_ch {α : Type} {w : World} {p : Option Addr} {c sz : Nat} {l : List α} {P : α → List Value → Prop} {cs : List Value} (h : RC w sz p l.length cs) (k : Ch sz P l cs) (hc : l.length ≤ c) (hm : l.length ≤ 9223372036854775807) : Rw w p c sz l P :=
  ⟨⟨hc,hm⟩,cs,h,k.2⟩
theorem t5f {w : World} {B n cap size : Nat} {e : TypeId} {p : Option Addr} {xs : List Value} (h : w.ownsRow B e size (.slice p n cap) n xs) : n ≤ cap:=by
  rcases h.2 with ⟨e1,h0⟩ | ⟨g,cap',cur,e1,_,_,h3,_⟩
  · omega
  · cases e1;exact h3
theorem t1o {α : Type} {w : World} {B size : Nat} {e : TypeId} {v : Value} {xs : List Value} {l : List α} {P : α → List Value → Prop} (h : w.ownsRow B e size v l.length xs) (k : Ch size P l xs) (hm : l.length ≤ 9223372036854775807) : ∃ p c,v = .slice p l.length c ∧ Rw w p c size l P:=by
  obtain ⟨p,cap,rfl⟩:=t0r h
  exact ⟨p,cap,rfl,Rw.of_ch (RC.of_own h) k (t5f h) hm⟩
theorem VS.one {w : World} {d : Nat} {V : VV} {cs : List Value} (h : VS w d V cs) : ∀ u ∈ cs,u.oneCell' = true:=by
  cases d with
  | zero=>exact h.elim
  | succ d=>obtain ⟨p1,c1,p2,c2,p3,c3,p4,c4,rfl,_⟩:=h;intro u hu;simp at hu;rcases hu with rfl | rfl | rfl | rfl | rfl | rfl | rfl <;> rfl
theorem ES.one {w : World} {d : Nat} {e : EE} {cs : List Value} (h : ES w d e cs) : ∀ u ∈ cs,u.oneCell' = true:=by
  obtain ⟨pa,ca,rs,rfl,h1,h2⟩:=h
  intro u hu
  rcases List.mem_cons.1 hu with rfl | hu
  · rfl
  rcases List.mem_cons.1 hu with rfl | hu
  · rfl
  exact h2.one u hu
theorem t1w : (Tryz.prog.info? 28).map (fun i=>(i.zero,i.size,i.bytes)) = some (some (.agg #[.int .i64 0,.int .i64 0,.string ⟨#[]⟩,.slice none 0 0,.slice none 0 0,.slice none 0 0,.slice none 0 0]),7,128):=by kernel_rfl
theorem t3n : (Tryz.prog.info? 55).map (fun i=>(i.zero,i.size,i.bytes)) = some (some (.agg #[.slice none 0 0,.bool false,.int .i64 0,.int .i64 0,.string ⟨#[]⟩,.slice none 0 0,.slice none 0 0,.slice none 0 0,.slice none 0 0]),9,160):=by kernel_rfl
theorem tf2 (p : Option Addr) (l c : Nat) (w : World) : (binOp .eql 23 (.slice p l c) (.slice none 0 0)).run Tryz.prog w = .ok (.bool p.isNone) w:=by
  cases p <;> simp [binOp,Op.equal,Op.equalIn,run_underlying (show Tryz.prog.underlying 23 = some (.slice 28) by kernel_rfl)] <;> rfl
theorem tfp (p : Option Addr) (n c : Nat) (cs : List Value) (w : World) (hr : RC w 7 p n cs) (h1 : ∀ u ∈ cs,u.oneCell' = true) (hn : n ≤ 1048576) :
    Calls Tryz.prog 108 #[.slice p n c] w fun e w'=>∃ v',e = .returned v' ∧ w'.ownsRow w.heap.size 28 7 v' n cs ∧ Below w.heap.size w w':=by
  cases p with
  | none =>
    have hn0 : n = 0:=by
      rcases Nat.eq_zero_or_pos n with h | h
      · exact h
      · obtain ⟨_,_,e,_⟩:=hr.2 h;cases e
    subst hn0
    have hcs : cs = []:=List.length_eq_zero_iff.1 (by have:=hr.1;omega)
    subst hcs
    have he:=tf2 none 0 c
    rw [show (none : Option Addr).isNone = true from rfl] at he
    clear hr h1
    go_enter Tryz.func108,Tryz.ntmps108
    go_wp2
    go_ret
    exact ⟨_,rfl,World.ownsRow_nil _ _ _ _,Below.refl _ _⟩
  | some ad =>
    have hal:=(Below.refl w.heap.size w).alloc (Nat.le_refl _) (.cells #[] 28)
    have hown : (w.alloc (.cells #[] 28)).ownsRow w.heap.size 28 7 (.slice (some ⟨w.heap.size,0,none⟩) 0 0) 0 [] :=
      ⟨rfl,.inr ⟨w.heap.size,0,#[],rfl,Nat.le_refl _,heap_alloc_new _ _,Nat.le_refl _,by decide,rfl,rfl⟩⟩
    have Hr:=zH (hr.below hal)
    have Hal:=zH hal;have Hown:=zH hown;have H1:=zH h1
    have hsz:=hal.size
    clear hr hal hown h1
    have he:=tf2 (some ad) n c
    rw [show (some ad).isNone = false from rfl] at he
    have hl0 : (0 : Nat) + n ≤ 67108864:=by omega
    go_enter Tryz.func108,Tryz.ntmps108
    go_wp2_with (first
      | (at_builtin;go_loud (refine t0x rfl (.tmp 5) (.tmp 6) 23 rfl 28 (by kernel_rfl) t1w rfl (by decide) (by decide) w.heap.size _ (some ad) 0 n c [] cs hsz (.slice (some ⟨w.heap.size,0,none⟩) 0 0) rfl rfl Hown.out Hr.out H1.out hl0 ?_);intro v' w' ho hf;have Ho:=zH ho;have Hbe:=zH (hf.below hsz (by simp) (fun g hg=>by simp [Value.ownBlock] at hg;omega));clear ho hf))
    go_ret
    exact ⟨_,rfl,by have:=Ho.out;rwa [Nat.zero_add,List.nil_append] at this,Hal.out.trans Hbe.out⟩
end Go.Proofs.YtjgldaaofdpcgaaGreat
