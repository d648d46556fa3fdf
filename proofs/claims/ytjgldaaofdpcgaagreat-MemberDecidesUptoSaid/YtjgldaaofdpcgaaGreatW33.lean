/- Walks and plain facts for the laws of membership, for all values and types that the heap holds (texts Y1). -/
import Derived.Test.YtjgldaaofdpcgaaGreatW03
import Derived.Test.YtjgldaaofdpcgaaGreatW30
set_option linter.unusedVariables false
set_option linter.unusedSimpArgs false
namespace Go.Proofs.YtjgldaaofdpcgaaGreat
open Go.RowKit Go.Ident
set_option maxRecDepth 100000
inductive Tag : Bool → Prop
  | mk (b : Bool) : Tag b
theorem bne_k {k j : Int} (h : k ≠ j) : (k == j) = false:=by rw [Bool.eq_false_iff];intro g;exact h (by simpa using g)
theorem tbv (a b : ByteArray) (w : World) : (binOp .geq 9 (.string a) (.string b)).run Tryz.prog w = .ok (.bool (!Op.bytesLess a.toList b.toList)) w:=by
  simp [binOp,Op.stringOp]
theorem tjx (a b : ByteArray) : Op.bytesLess a.toList b.toList = decide (ordS a b < 0):=by
  unfold ordS
  rw [t7l,tgb,ByteArray.toList_eq,ByteArray.toList_eq]
  cases h : Op.bytesLess a.data.toList b.data.toList
  · simp;split <;> omega
  · simp
theorem tj7 {l : List ByteArray} (h1 : ∀ j (h : j < l.length),isVrb l[j].data.toList = true) (h2 : ∀ j (h : j + 1 < l.length),ordS (l[j]'(by omega)) l[j + 1] < 0) : labOk l = true:=by
  unfold labOk
  rw [Bool.and_eq_true,List.all_eq_true]
  refine ⟨asc_iff.2 h2,fun f hf=>?_⟩
  obtain ⟨j,hj,rfl⟩:=List.mem_iff_getElem.1 hf
  exact h1 j hj
theorem th5 {l : List ByteArray} {j : Nat} (h : j < l.length) (h1 : isVrb l[j].data.toList = false) : labOk l = false:=by
  unfold labOk
  rw [Bool.and_eq_false_iff]
  right
  exact t4d (p:=fun s=>isVrb s.data.toList) h h1
theorem th6 {l : List ByteArray} {j : Nat} (h : j + 1 < l.length) (h1 : ¬ ordS (l[j]'(by omega)) l[j + 1] < 0) : labOk l = false:=by
  unfold labOk
  rw [Bool.and_eq_false_iff]
  left
  rw [Bool.eq_false_iff]
  intro h2
  exact h1 (asc_iff.1 h2 j h)
theorem th7 {a : VV} (h : labOk a.labels = false) : nodeV a = false:=by
  unfold labOk at h
  unfold nodeV
  rw [h];simp
theorem tj8 {l : List KK} (h1 : ∀ j (h : j < l.length),valK l[j].kind l[j].text.data.toList = true) (h2 : ∀ j (h : j + 1 < l.length),cmpK (l[j]'(by omega)) l[j + 1] < 0) : (ascL cmpK l && l.all fun k=>valK k.kind k.text.data.toList) = true:=by
  rw [Bool.and_eq_true,List.all_eq_true]
  refine ⟨asc_iff.2 h2,fun f hf=>?_⟩
  obtain ⟨j,hj,rfl⟩:=List.mem_iff_getElem.1 hf
  exact h1 j hj
theorem th8 {l : List KK} {j : Nat} (h : j < l.length) (h1 : valK l[j].kind l[j].text.data.toList = false) : (ascL cmpK l && l.all fun k=>valK k.kind k.text.data.toList) = false:=by
  rw [Bool.and_eq_false_iff]
  right
  exact t4d (p:=fun k : KK=>valK k.kind k.text.data.toList) h h1
theorem th9 {l : List KK} {j : Nat} (h : j + 1 < l.length) (h1 : ¬ cmpK (l[j]'(by omega)) l[j + 1] < 0) : (ascL cmpK l && l.all fun k=>valK k.kind k.text.data.toList) = false:=by
  rw [Bool.and_eq_false_iff]
  left
  rw [Bool.eq_false_iff]
  intro h2
  exact h1 (asc_iff.1 h2 j h)
theorem tj9 {l : List EE} {num : Int} (h1 : ∀ j (h : j < l.length),entOk num l[j] = true) (h2 : ∀ j (h : j + 1 < l.length),cmpE (l[j]'(by omega)) l[j + 1] < 0) : (ascL cmpE l && l.all (entOk num)) = true:=by
  rw [Bool.and_eq_true,List.all_eq_true]
  refine ⟨asc_iff.2 h2,fun f hf=>?_⟩
  obtain ⟨j,hj,rfl⟩:=List.mem_iff_getElem.1 hf
  exact h1 j hj
theorem tha {l : List EE} {num : Int} {j : Nat} (h : j < l.length) (h1 : entOk num l[j] = false) : (ascL cmpE l && l.all (entOk num)) = false:=by
  rw [Bool.and_eq_false_iff]
  right
  exact t4d h h1
theorem thb {l : List EE} {num : Int} {j : Nat} (h : j + 1 < l.length) (h1 : ¬ cmpE (l[j]'(by omega)) l[j + 1] < 0) : (ascL cmpE l && l.all (entOk num)) = false:=by
  rw [Bool.and_eq_false_iff]
  left
  rw [Bool.eq_false_iff]
  intro h2
  exact h1 (asc_iff.1 h2 j h)
set_option maxHeartbeats 64000000 in
theorem tjy (a : VV) (w : World) (u : Value) (hu : VW w u a) : Calls Tryz.prog 63 #[u] w (ER (nodeV a) w):=by
  obtain ⟨b0,b1,b2,b3,b4,S,hB⟩ : ∃ b0 b1 b2 b3 b4 S : Bool,(a.kind = 1 ∧ b0 = true ∧ b1 = false ∧ b2 = false ∧ b3 = false ∧ b4 = false ∧ S = true) ∨ (a.kind = 2 ∧ b0 = false ∧ b1 = true ∧ b2 = false ∧ b3 = false ∧ b4 = false ∧ S = decide (a.text.size ≤ 64)) ∨ (a.kind = 3 ∧ b0 = false ∧ b1 = true ∧ b2 = false ∧ b3 = false ∧ b4 = false ∧ S = isAtm a.text.data.toList) ∨ (a.kind = 4 ∧ b0 = true ∧ b1 = false ∧ b2 = false ∧ b3 = false ∧ b4 = false ∧ S = decide (0 ≤ a.num)) ∨ (a.kind = 5 ∧ b0 = false ∧ b1 = false ∧ b2 = false ∧ b3 = false ∧ b4 = false ∧ S = true) ∨ (a.kind = 6 ∧ b0 = false ∧ b1 = false ∧ b2 = true ∧ b3 = false ∧ b4 = false ∧ S = decide (a.kids.length ≤ 4)) ∨ (a.kind = 7 ∧ b0 = false ∧ b1 = false ∧ b2 = true ∧ b3 = false ∧ b4 = false ∧ S = (decide (a.kids.length = 2) && t5k a.kids)) ∨ (a.kind = 8 ∧ b0 = false ∧ b1 = false ∧ b2 = true ∧ b3 = true ∧ b4 = false ∧ S = (decide (a.keys.length = a.kids.length) && (ascL cmpK a.keys && a.keys.all fun k=>valK k.kind k.text.data.toList))) ∨ (a.kind = 9 ∧ b0 = true ∧ b1 = false ∧ b2 = false ∧ b3 = false ∧ b4 = true ∧ S = (decide (0 ≤ a.num) && decide (a.num ≤ 4) && (ascL cmpE a.ents && a.ents.all (entOk a.num)))) ∨ ((a.kind ≠ 1 ∧ a.kind ≠ 2 ∧ a.kind ≠ 3 ∧ a.kind ≠ 4 ∧ a.kind ≠ 5 ∧ a.kind ≠ 6 ∧ a.kind ≠ 7 ∧ a.kind ≠ 8 ∧ a.kind ≠ 9) ∧ b0 = false ∧ b1 = false ∧ b2 = false ∧ b3 = false ∧ b4 = false ∧ S = false):=by
    by_cases h : a.kind ≠ 1 ∧ a.kind ≠ 2 ∧ a.kind ≠ 3 ∧ a.kind ≠ 4 ∧ a.kind ≠ 5 ∧ a.kind ≠ 6 ∧ a.kind ≠ 7 ∧ a.kind ≠ 8 ∧ a.kind ≠ 9
    · exact ⟨false,false,false,false,false,false,by simp [h]⟩
    rcases (show a.kind = 1 ∨ a.kind = 2 ∨ a.kind = 3 ∨ a.kind = 4 ∨ a.kind = 5 ∨ a.kind = 6 ∨ a.kind = 7 ∨ a.kind = 8 ∨ a.kind = 9 by omega) with h | h | h | h | h | h | h | h | h
    · exact ⟨true,false,false,false,false,true,by simp [h]⟩
    · exact ⟨false,true,false,false,false,decide (a.text.size ≤ 64),by simp [h]⟩
    · exact ⟨false,true,false,false,false,isAtm a.text.data.toList,by simp [h]⟩
    · exact ⟨true,false,false,false,false,decide (0 ≤ a.num),by simp [h]⟩
    · exact ⟨false,false,false,false,false,true,by simp [h]⟩
    · exact ⟨false,false,true,false,false,decide (a.kids.length ≤ 4),by simp [h]⟩
    · exact ⟨false,false,true,false,false,(decide (a.kids.length = 2) && t5k a.kids),by simp [h]⟩
    · exact ⟨false,false,true,true,false,(decide (a.keys.length = a.kids.length) && (ascL cmpK a.keys && a.keys.all fun k=>valK k.kind k.text.data.toList)),by simp [h]⟩
    · exact ⟨true,false,false,false,true,(decide (0 ≤ a.num) && decide (a.num ≤ 4) && (ascL cmpE a.ents && a.ents.all (entOk a.num))),by simp [h]⟩
  have Hn:=zH (show nodeV a = (labOk a.labels && (b0 || decide (a.num = 0)) && (b1 || decide (a.text.size = 0)) && (b2 || a.kids.isEmpty) && (b3 || a.keys.isEmpty) && (b4 || a.ents.isEmpty) && S) by
    rcases hB with ⟨hk,rfl,rfl,rfl,rfl,rfl,hS⟩ | ⟨hk,rfl,rfl,rfl,rfl,rfl,hS⟩ | ⟨hk,rfl,rfl,rfl,rfl,rfl,hS⟩ | ⟨hk,rfl,rfl,rfl,rfl,rfl,hS⟩ | ⟨hk,rfl,rfl,rfl,rfl,rfl,hS⟩ | ⟨hk,rfl,rfl,rfl,rfl,rfl,hS⟩ | ⟨hk,rfl,rfl,rfl,rfl,rfl,hS⟩ | ⟨hk,rfl,rfl,rfl,rfl,rfl,hS⟩ | ⟨hk,rfl,rfl,rfl,rfl,rfl,hS⟩ | ⟨hk,rfl,rfl,rfl,rfl,rfl,hS⟩
    all_goals
      subst hS
      unfold nodeV labOk
      simp [hk,t2e,t1x,t2a]
      try ac_rfl
    intro h1 h2;omega)
  have HB:=zH hB
  have Q0:=Tag.mk b0;have Q1:=Tag.mk b1;have Q2:=Tag.mk b2;have Q3:=Tag.mk b3;have Q4:=Tag.mk b4
  obtain ⟨dd,q1,q2,q3,q4,q5,q6,q7,q8,rfl,-,hkids,hkeys,hents,hl⟩:=hu.ex
  have hszk : a.kids.length ≤ 9223372036854775807:=by obtain ⟨_,_,_,_,h⟩:=hkids;exact h.big
  have hszy : a.keys.length ≤ 9223372036854775807:=by obtain ⟨_,_,_,h⟩:=hkeys;exact h.big
  have hsze : a.ents.length ≤ 9223372036854775807:=by obtain ⟨_,_,_,_,h⟩:=hents;exact h.big
  have hszl : a.labels.length ≤ 9223372036854775807:=by obtain ⟨_,_,_,h⟩:=hl;exact h.big
  have HK:=zH hkids;have HL:=zH hl;have HY:=zH hkeys;have HE:=zH hents
  have hgeq:=tbv
  clear hu hkids hl hkeys hents hB
  go_enter Tryz.func63,Tryz.ntmps63
  go_upto_region 1 with fail
  have hA:=heap_alloc_new w (.cells #[.int .i64 a.kind,.int .i64 a.num,.string a.text,.slice q1 a.kids.length q2,.slice q3 a.keys.length q4,.slice q5 a.ents.length q6,.slice q7 a.labels.length q8] 28)
  have hb : Below w.heap.size w (w.alloc (.cells #[.int .i64 a.kind,.int .i64 a.num,.string a.text,.slice q1 a.kids.length q2,.slice q3 a.keys.length q4,.slice q5 a.ents.length q6,.slice q7 a.labels.length q8] 28)):=(Below.refl _ _).alloc (Nat.le_refl _) _
  generalize w.alloc (.cells #[.int .i64 a.kind,.int .i64 a.num,.string a.text,.slice q1 a.kids.length q2,.slice q3 a.keys.length q4,.slice q5 a.ents.length q6,.slice q7 a.labels.length q8] 28) = w2 at *
  have hlA:=t0a hA
  have HA:=zH hA;have Hb:=zH hb
  obtain ⟨⟨f0,f1,f2,f3⟩,f4,f5,f6⟩:=t0f hA
  clear hA hb
  go_wp2
  go_loopw [3] (fun i wr=>∃ k : Nat,i = .int .i64 k ∧ k ≤ a.labels.length ∧ ((∀ j (h : j < a.labels.length),j < k → isVrb a.labels[j].data.toList = true) ∧ (∀ j (h : j + 1 < a.labels.length),j + 1 < k → ordS (a.labels[j]'(by omega)) a.labels[j + 1] < 0)) ∧ Below w2.heap.size w2 wr) (fun i _=>a.labels.length - (intOf i).toNat)
  case atStart=>exact ⟨0,rfl,by omega,⟨fun j _ h=>by omega,fun j _ h=>by omega⟩,Below.refl _ _⟩
  case round =>
    obtain ⟨k,rfl,hk,hall,hbr⟩:=hrel
    have Hall:=zH hall;have Hbr:=zH hbr;have Hbw:=zH (Hb.out.step hbr)
    clear hall hbr f0 f1 f2 f3 f4 f5 f6
    obtain ⟨⟨f0,f1,f2,f3⟩,f4,f5,f6⟩:=t0f ((Hbr.out.block _ hlA).trans HA.out)
    by_cases hlt : k < a.labels.length
    · have d9 : decide (k < a.labels.length) = true:=by simp;omega
      obtain ⟨py,cy,ey,hry⟩:=HL.out.below Hbw.out
      injection ey with ey1 _ ey3
      subst ey1 ey3
      obtain ⟨ay,oy,rfl,haby,y0⟩:=hry.str hlt
      have Hno1:=zH (fun h=>th7 (th5 hlt h))
      have Hv1:=zH (show isVrb a.labels[k].data.toList = true → ∀ j (h : j < a.labels.length),j < k + 1 → isVrb a.labels[j].data.toList = true from fun g j h hj=>by
        rcases Nat.lt_succ_iff_lt_or_eq.1 hj with g2 | rfl
        · exact Hall.out.1 j h g2
        · exact g)
      cases hv : isVrb a.labels[k].data.toList with
      | false =>
        have Hf:=zH (Hno1.out hv)
        have Hcall:=zH (t4s a.labels[k])
        rw [hv] at Hcall
        clear hry hv Hv1 Hno1 Hall
        generalize a.labels[k] = x at *
        go_wp2_with (first
          | (with_reducible refine rg ?_)
          | (with_reducible refine fo ?_)
          | (go_at_call 96;refine (Hcall.out _).mono ?_;rintro e w6 ⟨rfl,rfl⟩))
        go_ret
        rw [Hf.out]
        exact ⟨rfl,Hbw.out.drew⟩
      | true =>
        have Hcall:=zH (t4s a.labels[k])
        have Hv2:=zH (Hv1.out hv)
        rw [hv] at Hcall
        clear hv Hv1 Hno1
        rcases Nat.eq_zero_or_pos k with hk0 | hk0
        · subst hk0
          simp only [Nat.add_zero] at y0
          have Hnx:=zH (show ∀ j (h : j + 1 < a.labels.length),j + 1 < 0 + 1 → ordS (a.labels[j]'(by omega)) a.labels[j + 1] < 0 from fun j h hj=>by omega)
          clear Hall hry
          generalize a.labels[0] = x at *
          go_wp2_with (first
          | (with_reducible refine rg ?_)
          | (with_reducible refine fo ?_)
            | (go_at_call 96;refine (Hcall.out _).mono ?_;rintro e w6 ⟨rfl,rfl⟩))
          exact ⟨⟨0 + 1,by go_num,by omega,⟨Hv2.out,Hnx.out⟩,Hbr.out.drew⟩,by simp [intOf];omega⟩
        · obtain ⟨k,rfl⟩ : ∃ k',k = k' + 1:=⟨k - 1,by omega⟩
          have hk1 : k < a.labels.length:=by omega
          obtain ⟨az,oz,epz,habz,z0⟩:=hry.str hk1
          injection epz with epz
          injection epz with epz1 epz2
          subst epz1 epz2
          clear hry
          have Hno2:=zH (fun h=>th7 (th6 hlt h))
          have Hnx:=zH (show ordS a.labels[k] a.labels[k + 1] < 0 → ∀ j (h : j + 1 < a.labels.length),j + 1 < k + 1 + 1 → ordS (a.labels[j]'(by omega)) a.labels[j + 1] < 0 from fun g j h hj=>by
            rcases Nat.lt_succ_iff_lt_or_eq.1 hj with g4 | g4
            · exact Hall.out.2 j h g4
            · obtain rfl : j = k:=by omega
              exact g)
          have hbl:=tjx a.labels[k] a.labels[k + 1]
          clear Hall
          by_cases hz : ordS a.labels[k] a.labels[k + 1] < 0
          · have Hnx2:=zH (Hnx.out hz)
            rw [decide_eq_true hz] at hbl
            clear hz Hnx Hno2
            generalize a.labels[k] = y at *
            generalize a.labels[k + 1] = x at *
            go_wp2_with (first
          | (with_reducible refine rg ?_)
          | (with_reducible refine fo ?_)
              | (go_at_call 96;refine (Hcall.out _).mono ?_;rintro e w6 ⟨rfl,rfl⟩))
            exact ⟨⟨k + 1 + 1,by go_num,by omega,⟨Hv2.out,Hnx2.out⟩,Hbr.out.drew⟩,by simp [intOf];omega⟩
          · have Hf:=zH (Hno2.out hz)
            rw [decide_eq_false hz] at hbl
            clear hz Hnx Hno2
            generalize a.labels[k] = y at *
            generalize a.labels[k + 1] = x at *
            go_wp2_with (first
          | (with_reducible refine rg ?_)
          | (with_reducible refine fo ?_)
              | (go_at_call 96;refine (Hcall.out _).mono ?_;rintro e w6 ⟨rfl,rfl⟩))
            go_ret
            rw [Hf.out]
            exact ⟨rfl,Hbw.out.drew⟩
    · have d9 : decide (k < a.labels.length) = false:=by simp;omega
      have hlab:=tj7 (fun j h=>Hall.out.1 j h (by omega)) (fun j h=>Hall.out.2 j h (by omega))
      rw [hlab] at Hn
      clear Hall HL hlab
      go_upto_region 6 with fail
      rcases HB.out with ⟨hk,rfl,rfl,rfl,rfl,rfl,hS⟩ | ⟨hk,rfl,rfl,rfl,rfl,rfl,hS⟩ | ⟨hk,rfl,rfl,rfl,rfl,rfl,hS⟩ | ⟨hk,rfl,rfl,rfl,rfl,rfl,hS⟩ | ⟨hk,rfl,rfl,rfl,rfl,rfl,hS⟩ | ⟨hk,rfl,rfl,rfl,rfl,rfl,hS⟩ | ⟨hk,rfl,rfl,rfl,rfl,rfl,hS⟩ | ⟨hk,rfl,rfl,rfl,rfl,rfl,hS⟩ | ⟨hk,rfl,rfl,rfl,rfl,rfl,hS⟩ | ⟨hk,rfl,rfl,rfl,rfl,rfl,hS⟩
      all_goals have HS:=zH hS
      all_goals clear hS
      all_goals (first
        | (rw [hk] at f0;clear hk)
        | (obtain ⟨k1, k2, k3, k4, k5, k6, k7, k8, k9⟩ := hk
           replace k1:=bne_k k1
           replace k2:=bne_k k2
           replace k3:=bne_k k3
           replace k4:=bne_k k4
           replace k5:=bne_k k5
           replace k6:=bne_k k6
           replace k7:=bne_k k7
           replace k8:=bne_k k8
           replace k9:=bne_k k9
           have k8n : (a.kind != 8) = true:=by simp [bne,k8]
           have k9n : (a.kind != 9) = true:=by simp [bne,k9]))
      all_goals (first
        | (have q : Tag false := Q0
           clear q
           by_cases z : a.num = 0
           rotate_left
           · have e:=(decide_eq_false z)
             have Hr:=zH (show nodeV a = false by rw [Hn.out,e];simp)
             have d0 : (a.num != 0) = true:=by simp [z]
             clear z e
             go_wp2
             go_ret
             rw [Hr.out]
             exact ⟨rfl,Hbw.out⟩
           have e:=(decide_eq_true z)
           have d0 : (a.num != 0) = false:=by simp [z]
           rw [e] at Hn
           clear z e)
        | skip)
      all_goals (first
        | (have q : Tag false := Q1
           clear q
           by_cases z : a.text.size = 0
           rotate_left
           · have e:=(decide_eq_false z)
             have Hr:=zH (show nodeV a = false by rw [Hn.out,e];simp)
             have d1 : a.text.toList.isEmpty = false:=(t2h a.text).trans e
             clear z e
             go_wp2
             go_ret
             rw [Hr.out]
             exact ⟨rfl,Hbw.out⟩
           have e:=(decide_eq_true z)
           have d1 : a.text.toList.isEmpty = true:=(t2h a.text).trans e
           rw [e] at Hn
           clear z e)
        | skip)
      all_goals (first
        | (have q : Tag false := Q2
           clear q
           by_cases z : a.kids.length = 0
           rotate_left
           · have e:=(show a.kids.isEmpty = false by rw [Bool.eq_false_iff];intro h;exact z (by simpa using h))
             have Hr:=zH (show nodeV a = false by rw [Hn.out,e];simp)
             have d2 : decide (0 < a.kids.length) = true:=by simp;omega
             clear z e
             go_wp2
             go_ret
             rw [Hr.out]
             exact ⟨rfl,Hbw.out⟩
           have e:=(show a.kids.isEmpty = true by simpa using z)
           have d2 : decide (0 < a.kids.length) = false:=by simp [z]
           rw [e] at Hn
           clear z e)
        | skip)
      all_goals (first
        | (have q : Tag false := Q3
           clear q
           by_cases z : a.keys.length = 0
           rotate_left
           · have e:=(show a.keys.isEmpty = false by rw [Bool.eq_false_iff];intro h;exact z (by simpa using h))
             have Hr:=zH (show nodeV a = false by rw [Hn.out,e];simp)
             have d3 : decide (0 < a.keys.length) = true:=by simp;omega
             clear z e
             go_wp2
             go_ret
             rw [Hr.out]
             exact ⟨rfl,Hbw.out⟩
           have e:=(show a.keys.isEmpty = true by simpa using z)
           have d3 : decide (0 < a.keys.length) = false:=by simp [z]
           rw [e] at Hn
           clear z e)
        | skip)
      all_goals (first
        | (have q : Tag false := Q4
           clear q
           by_cases z : a.ents.length = 0
           rotate_left
           · have e:=(show a.ents.isEmpty = false by rw [Bool.eq_false_iff];intro h;exact z (by simpa using h))
             have Hr:=zH (show nodeV a = false by rw [Hn.out,e];simp)
             have d4 : decide (0 < a.ents.length) = true:=by simp;omega
             clear z e
             go_wp2
             go_ret
             rw [Hr.out]
             exact ⟨rfl,Hbw.out⟩
           have e:=(show a.ents.isEmpty = true by simpa using z)
           have d4 : decide (0 < a.ents.length) = false:=by simp [z]
           rw [e] at Hn
           clear z e)
        | skip)
      all_goals have Hr:=zH (show nodeV a = S by rw [Hn.out];simp)
      all_goals obtain rfl:=HS.out
      · go_wp2
        go_ret
        rw [Hr.out]
        exact ⟨rfl,Hbw.out⟩
      · have q : decide (a.text.size ≤ 64) = decide ((a.text.size : Int) ≤ 64):=by rw [Bool.eq_iff_iff];simp;omega
        rw [q] at Hr
        clear q
        go_wp2
        go_ret
        rw [Hr.out]
        exact ⟨rfl,Hbw.out⟩
      · have Hat:=zH (t5b a.text)
        generalize isAtm a.text.data.toList = c at *
        go_wp2_with (go_at_call 97;refine (Hat.out _).mono ?_;rintro e w ⟨rfl,rfl⟩)
        go_ret
        rw [Hr.out]
        exact ⟨rfl,Hbw.out⟩
      · go_wp2
        go_ret
        rw [Hr.out]
        exact ⟨rfl,Hbw.out⟩
      · go_wp2
        go_ret
        rw [Hr.out]
        exact ⟨rfl,Hbw.out⟩
      · have q : decide (a.kids.length ≤ 4) = decide ((a.kids.length : Int) ≤ 4):=by rw [Bool.eq_iff_iff];simp;omega
        rw [q] at Hr
        clear q
        go_wp2
        go_ret
        rw [Hr.out]
        exact ⟨rfl,Hbw.out⟩
      · by_cases h2 : a.kids.length = 2
        rotate_left
        · have q : ((a.kids.length : Int) == 2) = false:=by rw [Bool.eq_false_iff];intro g;rw [beq_iff_eq] at g;omega
          have Hr2:=zH (show nodeV a = false by rw [Hr.out,decide_eq_false h2];rfl)
          clear h2
          go_wp2
          go_ret
          rw [Hr2.out]
          exact ⟨rfl,Hbw.out⟩
        have q : ((a.kids.length : Int) == 2) = true:=by rw [beq_iff_eq];omega
        have h1 : 1 < a.kids.length:=by omega
        have h1i : (1 : Int) < (a.kids.length : Int):=by omega
        have ht : t5k a.kids = (decide (a.kids[1].kind = 5) || decide (a.kids[1].kind = 7)):=by unfold t5k;rw [List.getElem?_eq_getElem h1]
        obtain ⟨dk,p',c',e9,hrv⟩:=HK.out
        injection e9 with e91 _ e93
        subst e91 e93
        obtain ⟨ak,ok,cs,rfl,hab,-,hrng,hP⟩:=hrv.all h1
        obtain ⟨r1,r2,r3,r4,r5,r6,r7,r8,rfl⟩:=hP.seven
        have z0:=hrng wr Hbw.out 0 _ rfl
        simp only [Nat.one_mul,Nat.add_zero] at z0
        have Hr2:=zH (show nodeV a = (decide (a.kids[1].kind = 5) || decide (a.kids[1].kind = 7)) by rw [Hr.out,decide_eq_true h2,ht];rfl)
        clear hrv hrng hP ht h2 Hr
        generalize a.kids[1].kind = tk at *
        by_cases g5 : tk = 5
        · have q5 : (tk == 5) = true:=by simp [g5]
          have Hr3:=zH (show nodeV a = true by rw [Hr2.out,decide_eq_true g5];rfl)
          clear g5 Hr2
          go_wp2
          go_ret
          rw [Hr3.out]
          exact ⟨rfl,Hbw.out⟩
        · have q5 : (tk == 5) = false:=by simp [g5]
          have Hr3:=zH (show nodeV a = (tk == 7) by rw [Hr2.out,decide_eq_false g5];rw [Bool.eq_iff_iff];simp)
          clear g5 Hr2
          go_wp2
          go_ret
          rw [Hr3.out]
          exact ⟨rfl,Hbw.out⟩
      · have Hno0:=zH (show (ascL cmpK a.keys && a.keys.all fun k=>valK k.kind k.text.data.toList) = false → nodeV a = false from fun h=>by rw [Hr.out,h];simp)
        obtain ⟨wq,hwq⟩ : ∃ wq : World,wq = wr:=⟨_,rfl⟩
        subst hwq
        go_wp2
        clear d9
        go_loopw [7] (fun i w9=>∃ k : Nat,i = .int .i64 k ∧ k ≤ a.keys.length ∧ ((∀ j (h : j < a.keys.length),j < k → valK a.keys[j].kind a.keys[j].text.data.toList = true) ∧ (∀ j (h : j + 1 < a.keys.length),j + 1 < k → cmpK (a.keys[j]'(by omega)) a.keys[j + 1] < 0)) ∧ Below w2.heap.size w2 w9) (fun i _=>a.keys.length - (intOf i).toNat)
        case atStart=>exact ⟨0,rfl,by omega,⟨fun j _ h=>by omega,fun j _ h=>by omega⟩,Hbr.out⟩
        case round =>
          obtain ⟨k,rfl,hk,hall,hb9⟩:=hrel
          have Hall:=zH hall;have Hb9:=zH hb9;have Hbw9:=zH (Hb.out.step hb9)
          clear hall hb9 f0 f1 f2 f3 f4 f5 f6
          have hA9:=(Hb9.out.block _ hlA).trans HA.out
          obtain ⟨⟨f0,f1,f2,f3⟩,f4,f5,f6⟩:=t0f hA9
          obtain ⟨wo',hwo⟩ : ∃ wo' : World,wo' = wr:=⟨_,rfl⟩
          subst hwo
          have LA:=zH (show w.heap.size < wo'.drew.heap.size from t0a hA9)
          have YA:=zH (show wo'.drew.cell? ⟨w.heap.size,4,none⟩ = _ from f4)
          clear hA9
          by_cases hlt : k < a.keys.length
          · have d9 : decide (k < a.keys.length) = true:=by simp;omega
            obtain ⟨py,cy,ey,hry⟩:=HY.out.below Hbw9.out
            injection ey with ey1 _ ey3
            subst ey1 ey3
            obtain ⟨ay,oy,rfl,haby,y0,y1⟩:=hry.key hlt
            have LK:=zH (show ay < wo'.drew.heap.size from haby)
            have YK:=zH (show wo'.drew.cell? ⟨ay,oy + k * 2,none⟩ = _ from y0)
            have Hno1:=zH (fun h=>Hno0.out (th8 hlt h))
            have Hv1:=zH (show valK a.keys[k].kind a.keys[k].text.data.toList = true → ∀ j (h : j < a.keys.length),j < k + 1 → valK a.keys[j].kind a.keys[j].text.data.toList = true from fun g j h hj=>by
              rcases Nat.lt_succ_iff_lt_or_eq.1 hj with g2 | rfl
              · exact Hall.out.1 j h g2
              · exact g)
            have Hvk:=zH (t3v a.keys[k].kind a.keys[k].text)
            cases hv : valK a.keys[k].kind a.keys[k].text.data.toList with
            | false =>
              have Hf:=zH (Hno1.out hv)
              rw [hv] at Hvk
              clear hry hv Hv1 Hno1 Hall
              generalize a.keys[k] = x at *
              go_wp2_with (first
                | ((with_reducible refine Lex.t0w ?_);refine fE (by repeat first | exact LexK.t0t | refine LexK.t0o rfl ?_ | refine LexK.t0p (by decide +kernel) ?_ | refine LexK.t0c rfl LA.out YA.out ?_ | refine LexK.t0c rfl LK.out YK.out ?_) ?_)
                | ((with_reducible refine Lex.t0q ?_);refine LexK.t0h (fun x=>x < wo'.drew.heap.size) (by kernel_rfl) (by decide +kernel) ?_)
                | (with_reducible first | refine qH ?_ | refine LexK.t0s ?_ | refine LexK.t0v ?_)
                | ((with_reducible refine Lex.t1b ?_);first | (with_reducible refine LexK.t0e Hext.out ?_) | (with_reducible refine LexK.t0e (LexK.Ext.refl _) ?_))
                | (go_at_call 82;refine (Hvk.out _).mono ?_;rintro e w6 ⟨rfl,hb6⟩;have f4':=(hb6.cell (p:=⟨w.heap.size,_,none⟩) LA.out).trans f4;have Hext:=zH (LexK.Ext.of_below (Kp:=fun x=>x < wo'.drew.heap.size) hb6 (Nat.le_refl _));have Hb6:=zH (Hb9.out.drew.step hb6);clear hb6))
              go_ret
              rw [Hf.out]
              exact ⟨rfl,Hb.out.step Hb6.out⟩
            | true =>
              have Hv2:=zH (Hv1.out hv)
              rw [hv] at Hvk
              clear hv Hv1 Hno1
              rcases Nat.eq_zero_or_pos k with hk0 | hk0
              · subst hk0
                simp only [Nat.zero_mul,Nat.add_zero] at y0 y1 YK
                have Hnx:=zH (show ∀ j (h : j + 1 < a.keys.length),j + 1 < 0 + 1 → cmpK (a.keys[j]'(by omega)) a.keys[j + 1] < 0 from fun j h hj=>by omega)
                clear Hall hry
                generalize a.keys[0] = x at *
                go_wp2_with (first
                  | ((with_reducible refine Lex.t0w ?_);refine fE (by repeat first | exact LexK.t0t | refine LexK.t0o rfl ?_ | refine LexK.t0p (by decide +kernel) ?_ | refine LexK.t0c rfl LA.out YA.out ?_ | refine LexK.t0c rfl LK.out YK.out ?_) ?_)
                  | ((with_reducible refine Lex.t0q ?_);refine LexK.t0h (fun x=>x < wo'.drew.heap.size) (by kernel_rfl) (by decide +kernel) ?_)
                  | (with_reducible first | refine qH ?_ | refine LexK.t0s ?_ | refine LexK.t0v ?_)
                  | ((with_reducible refine Lex.t1b ?_);first | (with_reducible refine LexK.t0e Hext.out ?_) | (with_reducible refine LexK.t0e (LexK.Ext.refl _) ?_))
                  | (go_at_call 82;refine (Hvk.out _).mono ?_;rintro e w6 ⟨rfl,hb6⟩;have f4':=(hb6.cell (p:=⟨w.heap.size,_,none⟩) LA.out).trans f4;have Hext:=zH (LexK.Ext.of_below (Kp:=fun x=>x < wo'.drew.heap.size) hb6 (Nat.le_refl _));have Hb6:=zH (Hb9.out.drew.step hb6);clear hb6))
                exact ⟨⟨0 + 1,by go_num,by omega,⟨Hv2.out,Hnx.out⟩,Hb6.out⟩,by simp [intOf];omega⟩
              · obtain ⟨k,rfl⟩ : ∃ k',k = k' + 1:=⟨k - 1,by omega⟩
                have hk1 : k < a.keys.length:=by omega
                obtain ⟨az,oz,epz,habz,z0,z1⟩:=hry.key hk1
                injection epz with epz
                injection epz with epz1 epz2
                subst epz1 epz2
                clear hry
                have YL:=zH (show wo'.drew.cell? ⟨ay,oy + k * 2,none⟩ = _ from z0)
                have Hno2:=zH (fun h=>Hno0.out (th9 hlt h))
                have Hnx:=zH (show cmpK a.keys[k] a.keys[k + 1] < 0 → ∀ j (h : j + 1 < a.keys.length),j + 1 < k + 1 + 1 → cmpK (a.keys[j]'(by omega)) a.keys[j + 1] < 0 from fun g j h hj=>by
                  rcases Nat.lt_succ_iff_lt_or_eq.1 hj with g4 | g4
                  · exact Hall.out.2 j h g4
                  · obtain rfl : j = k:=by omega
                    exact g)
                have HKc:=zH (t6z a.keys[k] a.keys[k + 1])
                clear Hall
                by_cases hz : cmpK a.keys[k] a.keys[k + 1] < 0
                · have Hnx2:=zH (Hnx.out hz)
                  have d1 : decide (0 ≤ cmpK a.keys[k] a.keys[k + 1]) = false:=by simp;omega
                  clear hz Hnx Hno2
                  generalize cmpK a.keys[k] a.keys[k + 1] = cc at *
                  generalize a.keys[k] = y at *
                  generalize a.keys[k + 1] = x at *
                  go_wp2_with (first
                    | ((with_reducible refine Lex.t0w ?_);refine fE (by repeat first | exact LexK.t0t | refine LexK.t0o rfl ?_ | refine LexK.t0p (by decide +kernel) ?_ | refine LexK.t0c rfl LA.out YA.out ?_ | refine LexK.t0c rfl LK.out YK.out ?_ | refine LexK.t0c rfl LK.out YL.out ?_) ?_)
                    | ((with_reducible refine Lex.t0q ?_);refine LexK.t0h (fun x=>x < wo'.drew.heap.size) (by kernel_rfl) (by decide +kernel) ?_)
                    | (with_reducible first | refine qH ?_ | refine LexK.t0s ?_ | refine LexK.t0v ?_)
                    | ((with_reducible refine Lex.t1b ?_);first | (with_reducible refine LexK.t0e Hext.out ?_) | (with_reducible refine LexK.t0e (LexK.Ext.refl _) ?_))
                    | (go_at_call 82;refine (Hvk.out _).mono ?_;rintro e w6 ⟨rfl,hb6⟩;have f4':=(hb6.cell (p:=⟨w.heap.size,_,none⟩) LA.out).trans f4;have x0:=(hb6.cell (p:=⟨ay,_,none⟩) LK.out).trans y0;have x1:=(hb6.cell (p:=⟨ay,_,none⟩) LK.out).trans y1;have v0:=(hb6.cell (p:=⟨ay,_,none⟩) LK.out).trans z0;have v1:=(hb6.cell (p:=⟨ay,_,none⟩) LK.out).trans z1;have Hext:=zH (LexK.Ext.of_below (Kp:=fun x=>x < wo'.drew.heap.size) hb6 (Nat.le_refl _));have Hb6:=zH (Hb9.out.drew.step hb6);clear hb6)
                    | (go_at_call 83;refine (HKc.out w6).mono ?_;rintro e w7 ⟨rfl,hb7⟩;have Hext:=zH (LexK.Ext.of_below (Kp:=fun x=>x < wo'.drew.heap.size) hb7 (Nat.le_refl _));have Hb7:=zH (Hb6.out.step hb7);clear hb7))
                  exact ⟨⟨k + 1 + 1,by go_num,by omega,⟨Hv2.out,Hnx2.out⟩,Hb7.out⟩,by simp [intOf];omega⟩
                · have Hf:=zH (Hno2.out hz)
                  have d1 : decide (0 ≤ cmpK a.keys[k] a.keys[k + 1]) = true:=by simp;omega
                  clear hz Hnx Hno2
                  generalize cmpK a.keys[k] a.keys[k + 1] = cc at *
                  generalize a.keys[k] = y at *
                  generalize a.keys[k + 1] = x at *
                  go_wp2_with (first
                    | ((with_reducible refine Lex.t0w ?_);refine fE (by repeat first | exact LexK.t0t | refine LexK.t0o rfl ?_ | refine LexK.t0p (by decide +kernel) ?_ | refine LexK.t0c rfl LA.out YA.out ?_ | refine LexK.t0c rfl LK.out YK.out ?_ | refine LexK.t0c rfl LK.out YL.out ?_) ?_)
                    | ((with_reducible refine Lex.t0q ?_);refine LexK.t0h (fun x=>x < wo'.drew.heap.size) (by kernel_rfl) (by decide +kernel) ?_)
                    | (with_reducible first | refine qH ?_ | refine LexK.t0s ?_ | refine LexK.t0v ?_)
                    | ((with_reducible refine Lex.t1b ?_);first | (with_reducible refine LexK.t0e Hext.out ?_) | (with_reducible refine LexK.t0e (LexK.Ext.refl _) ?_))
                    | (go_at_call 82;refine (Hvk.out _).mono ?_;rintro e w6 ⟨rfl,hb6⟩;have f4':=(hb6.cell (p:=⟨w.heap.size,_,none⟩) LA.out).trans f4;have x0:=(hb6.cell (p:=⟨ay,_,none⟩) LK.out).trans y0;have x1:=(hb6.cell (p:=⟨ay,_,none⟩) LK.out).trans y1;have v0:=(hb6.cell (p:=⟨ay,_,none⟩) LK.out).trans z0;have v1:=(hb6.cell (p:=⟨ay,_,none⟩) LK.out).trans z1;have Hext:=zH (LexK.Ext.of_below (Kp:=fun x=>x < wo'.drew.heap.size) hb6 (Nat.le_refl _));have Hb6:=zH (Hb9.out.drew.step hb6);clear hb6)
                    | (go_at_call 83;refine (HKc.out w6).mono ?_;rintro e w7 ⟨rfl,hb7⟩;have Hext:=zH (LexK.Ext.of_below (Kp:=fun x=>x < wo'.drew.heap.size) hb7 (Nat.le_refl _));have Hb7:=zH (Hb6.out.step hb7);clear hb7))
                  go_ret
                  rw [Hf.out]
                  exact ⟨rfl,Hb.out.step Hb7.out⟩
          · have d9 : decide (k < a.keys.length) = false:=by simp;omega
            have hko:=tj8 (fun j h=>Hall.out.1 j h (by omega)) (fun j h=>Hall.out.2 j h (by omega))
            have Hr2:=zH (show nodeV a = ((a.keys.length : Int) == (a.kids.length : Int)) by rw [Hr.out,hko,Bool.and_true,Bool.eq_iff_iff];simp;omega)
            clear hko Hall Hr
            go_upto_region 31 with fail
            generalize a.keys.length = ky at f4 Hr2 ⊢
            generalize a.kids.length = kd at f3 Hr2 ⊢
            go_wp2
            go_ret
            rw [Hr2.out]
            first | exact ⟨rfl,Hbw9.out⟩ | exact ⟨by simp,Hbw9.out⟩
      · have Hno0:=zH (show (ascL cmpE a.ents && a.ents.all (entOk a.num)) = false → nodeV a = false from fun h=>by rw [Hr.out,h];simp)
        by_cases n0 : a.num < 0
        · have d1 : decide (a.num < 0) = true:=by simp [n0]
          have Hf:=zH (show nodeV a = false by rw [Hr.out,decide_eq_false (by omega : ¬ 0 ≤ a.num)];rfl)
          clear n0
          go_wp2
          go_ret
          rw [Hf.out]
          exact ⟨rfl,Hbw.out⟩
        have n0':=decide_eq_true (by omega : 0 ≤ a.num)
        have n1 : decide (a.num < 0) = false:=by simp;omega
        by_cases n4 : 4 < a.num
        · have d1 : decide (4 < a.num) = true:=by simp [n4]
          have Hf:=zH (show nodeV a = false by rw [Hr.out,decide_eq_false (by omega : ¬ a.num ≤ 4)];simp)
          clear n4 n0 n0'
          go_wp2
          go_ret
          rw [Hf.out]
          exact ⟨rfl,Hbw.out⟩
        have n4':=decide_eq_true (by omega : a.num ≤ 4)
        have n5 : decide (4 < a.num) = false:=by simp;omega
        have Hr1:=zH (show (ascL cmpE a.ents && a.ents.all (entOk a.num)) = true → nodeV a = true from fun h=>by rw [Hr.out,n0',n4',h];rfl)
        clear n0 n0' n4 n4' Hr
        obtain ⟨wq,hwq⟩ : ∃ wq : World,wq = wr:=⟨_,rfl⟩
        subst hwq
        go_wp2
        clear d9 n1 n5
        go_loopw [8] (fun i w9=>∃ k : Nat,i = .int .i64 k ∧ k ≤ a.ents.length ∧ ((∀ j (h : j < a.ents.length),j < k → entOk a.num a.ents[j] = true) ∧ (∀ j (h : j + 1 < a.ents.length),j + 1 < k → cmpE (a.ents[j]'(by omega)) a.ents[j + 1] < 0)) ∧ Below w2.heap.size w2 w9) (fun i _=>a.ents.length - (intOf i).toNat)
        case atStart=>exact ⟨0,rfl,by omega,⟨fun j _ h=>by omega,fun j _ h=>by omega⟩,Hbr.out⟩
        case round =>
          obtain ⟨k,rfl,hk,hall,hb9⟩:=hrel
          have Hall:=zH hall;have Hb9:=zH hb9;have Hbw9:=zH (Hb.out.step hb9)
          clear hall hb9 f0 f1 f2 f3 f4 f5 f6
          obtain ⟨⟨f0,f1,f2,f3⟩,f4,f5,f6⟩:=t0f ((Hb9.out.block _ hlA).trans HA.out)
          by_cases hlt : k < a.ents.length
          · have d9 : decide (k < a.ents.length) = true:=by simp;omega
            obtain ⟨de,p',c',e9,hr⟩:=HE.out.below Hbw9.out
            injection e9 with e1 _ e3
            subst e1 e3
            obtain ⟨ak,ok,cs,rfl,hab,-,hrg,hESx⟩:=hr.at hlt
            have hbig : a.ents[k].args.length ≤ 9223372036854775807:=by obtain ⟨_,_,_,_,h,_⟩:=hESx;exact h.big
            obtain ⟨r9,ra,r1,r2,r3,r4,r5,r6,r7,r8,rfl⟩:=hESx.nine
            have z0:=hrg 0 _ rfl
            have z1:=hrg 1 _ rfl
            have z2:=hrg 2 _ rfl
            have z3:=hrg 3 _ rfl
            have z4:=hrg 4 _ rfl
            have z5:=hrg 5 _ rfl
            have z6:=hrg 6 _ rfl
            have z7:=hrg 7 _ rfl
            have z8:=hrg 8 _ rfl
            rw [Nat.add_zero] at z0
            have hres : VS wr de a.ents[k].res [.int .i64 a.ents[k].res.kind,.int .i64 a.ents[k].res.num,.string a.ents[k].res.text,.slice r1 a.ents[k].res.kids.length r2,.slice r3 a.ents[k].res.keys.length r4,.slice r5 a.ents[k].res.ents.length r6,.slice r7 a.ents[k].res.labels.length r8]:=by
              obtain ⟨_,_,_,e7,_,h7⟩:=hESx
              simp at e7
              obtain ⟨-,rfl⟩:=e7
              exact h7
            have Hno1:=zH (fun h=>Hno0.out (tha hlt h))
            have Hv1:=zH (show entOk a.num a.ents[k] = true → ∀ j (h : j < a.ents.length),j < k + 1 → entOk a.num a.ents[j] = true from fun g j h hj=>by
              rcases Nat.lt_succ_iff_lt_or_eq.1 hj with g2 | rfl
              · exact Hall.out.1 j h g2
              · exact g)
            clear hrg
            rcases Nat.eq_zero_or_pos k with hk0 | hk0
            · subst hk0
              simp only [Nat.zero_mul,Nat.add_zero,Nat.zero_add] at z0 z1 z2 z3 z4 z5 z6 z7 z8
              have Hnx:=zH (show ∀ j (h : j + 1 < a.ents.length),j + 1 < 0 + 1 → cmpE (a.ents[j]'(by omega)) a.ents[j + 1] < 0 from fun j h hj=>by omega)
              clear Hall hr
              generalize a.ents[0] = x at *
              obtain ⟨wo',hwo⟩ : ∃ wo' : World,wo' = wr:=⟨_,rfl⟩
              subst hwo
              go_upto_region 39 with fail
              have hnew:=heap_alloc_new wo' (.cells #[.slice r9 x.args.length ra,.bool x.fails,.int .i64 x.res.kind,.int .i64 x.res.num,.string x.res.text,.slice r1 x.res.kids.length r2,.slice r3 x.res.keys.length r4,.slice r5 x.res.ents.length r6,.slice r7 x.res.labels.length r8] 55)
              have ho : Below wo'.heap.size wo' (wo'.alloc (.cells #[.slice r9 x.args.length ra,.bool x.fails,.int .i64 x.res.kind,.int .i64 x.res.num,.string x.res.text,.slice r1 x.res.kids.length r2,.slice r3 x.res.keys.length r4,.slice r5 x.res.ents.length r6,.slice r7 x.res.labels.length r8] 55)):=(Below.refl _ _).alloc (Nat.le_refl _) _
              generalize wo'.alloc (.cells #[.slice r9 x.args.length ra,.bool x.fails,.int .i64 x.res.kind,.int .i64 x.res.num,.string x.res.text,.slice r1 x.res.kids.length r2,.slice r3 x.res.keys.length r4,.slice r5 x.res.ents.length r6,.slice r7 x.res.labels.length r8] 55) = w5 at *
              have Hb5:=zH (Hb9.out.step ho)
              clear f0 f1 f2 f3 f4 f5 f6
              have hA5:=(Hb5.out.block _ hlA).trans HA.out
              obtain ⟨⟨f0,f1,f2,f3⟩,f4,f5,f6⟩:=t0f hA5
              obtain ⟨⟨g0,g1,g2,g3⟩,⟨g4,g5,g6,g7⟩,g8⟩:=t1k hnew
              have Hres:=zH (hres.below ho.drew)
              have LA:=zH (show w.heap.size < w5.drew.heap.size from t0a hA5)
              have LB:=zH (show wo'.heap.size < w5.drew.heap.size from t0a hnew)
              have YA1:=zH (show w5.drew.cell? ⟨w.heap.size,1,none⟩ = _ from f1)
              have YA5:=zH (show w5.drew.cell? ⟨w.heap.size,5,none⟩ = _ from f5)
              have YB0:=zH (show w5.drew.cell? ⟨wo'.heap.size,0,none⟩ = _ from g0)
              have YB1:=zH (show w5.drew.cell? ⟨wo'.heap.size,1,none⟩ = _ from g1)
              have YB2:=zH (show w5.drew.cell? ⟨wo'.heap.size,2,none⟩ = _ from g2)
              clear z0 z1 z2 z3 z4 z5 z6 z7 z8 hnew ho hA5 hres hESx
              generalize wo'.heap.size = bo at *
              by_cases hn : (x.args.length : Int) = a.num
              rotate_left
              · have d2 : ((x.args.length : Int) != a.num) = true:=by simp [hn]
                have Hf:=zH (Hno1.out (by unfold entOk;rw [decide_eq_false hn];rfl))
                clear hn
                go_wp2_with (first
                  | ((with_reducible refine Lex.t0w ?_);refine fE (by repeat first | exact LexK.t0t | refine LexK.t0o rfl ?_ | refine LexK.t0p (by decide +kernel) ?_ | refine LexK.t0c rfl LA.out YA1.out ?_ | refine LexK.t0c rfl LA.out YA5.out ?_ | refine LexK.t0c rfl LB.out YB0.out ?_ | refine LexK.t0c rfl LB.out YB1.out ?_ | refine LexK.t0c rfl LB.out YB2.out ?_) ?_)
                  | ((with_reducible refine Lex.t0q ?_);refine LexK.t0h (fun x=>x < w5.drew.heap.size) (by kernel_rfl) (by decide +kernel) ?_)
                  | (with_reducible first | refine qH ?_ | refine LexK.t0s ?_ | refine LexK.t0v ?_)
                  | ((with_reducible refine Lex.t1b ?_);first | (with_reducible refine LexK.t0e Hext.out ?_) | (with_reducible refine LexK.t0e (LexK.Ext.refl _) ?_))
                )
                go_ret
                rw [Hf.out]
                exact ⟨rfl,Hb.out.step Hb5.out.drew⟩
              have d2 : ((x.args.length : Int) != a.num) = false:=by simp [hn]
              have Hen:=zH (show entOk a.num x = (!x.fails || decide (cmpV x.res zeroV = 0)) by unfold entOk;rw [decide_eq_true hn];rfl)
              clear hn
              cases hf : x.fails with
              | false =>
                rw [hf] at g1 YB1
                have Ho:=zH (Hv1.out (by rw [Hen.out,hf];rfl))
                clear hf Hen Hno1 Hv1
                go_wp2_with (first
                  | ((with_reducible refine Lex.t0w ?_);refine fE (by repeat first | exact LexK.t0t | refine LexK.t0o rfl ?_ | refine LexK.t0p (by decide +kernel) ?_ | refine LexK.t0c rfl LA.out YA1.out ?_ | refine LexK.t0c rfl LA.out YA5.out ?_ | refine LexK.t0c rfl LB.out YB0.out ?_ | refine LexK.t0c rfl LB.out YB1.out ?_ | refine LexK.t0c rfl LB.out YB2.out ?_) ?_)
                  | ((with_reducible refine Lex.t0q ?_);refine LexK.t0h (fun x=>x < w5.drew.heap.size) (by kernel_rfl) (by decide +kernel) ?_)
                  | (with_reducible first | refine qH ?_ | refine LexK.t0s ?_ | refine LexK.t0v ?_)
                  | ((with_reducible refine Lex.t1b ?_);first | (with_reducible refine LexK.t0e Hext.out ?_) | (with_reducible refine LexK.t0e (LexK.Ext.refl _) ?_))
                )
                exact ⟨⟨0 + 1,by go_num,by omega,⟨Ho.out,Hnx.out⟩,Hb5.out.drew⟩,by simp [intOf];omega⟩
              | true =>
                rw [hf] at g1 YB1
                have Heq:=zH (t8k x.res zeroV w5.drew _ (.agg #[.int .i64 0,.int .i64 0,.string ⟨#[]⟩,.slice none 0 0,.slice none 0 0,.slice none 0 0,.slice none 0 0]) ⟨_,_,rfl,Hres.out⟩ ⟨1,_,rfl,t4c _⟩)
                cases hz : decide (cmpV x.res zeroV = 0) with
                | false =>
                  have Hf:=zH (Hno1.out (by rw [Hen.out,hf,hz];rfl))
                  rw [hz] at Heq
                  clear hz hf Hen Hno1 Hv1
                  go_wp2_with (first
                    | ((with_reducible refine Lex.t0w ?_);refine fE (by repeat first | exact LexK.t0t | refine LexK.t0o rfl ?_ | refine LexK.t0p (by decide +kernel) ?_ | refine LexK.t0c rfl LA.out YA1.out ?_ | refine LexK.t0c rfl LA.out YA5.out ?_ | refine LexK.t0c rfl LB.out YB0.out ?_ | refine LexK.t0c rfl LB.out YB1.out ?_ | refine LexK.t0c rfl LB.out YB2.out ?_) ?_)
                    | ((with_reducible refine Lex.t0q ?_);refine LexK.t0h (fun x=>x < w5.drew.heap.size) (by kernel_rfl) (by decide +kernel) ?_)
                    | (with_reducible first | refine qH ?_ | refine LexK.t0s ?_ | refine LexK.t0v ?_)
                    | ((with_reducible refine Lex.t1b ?_);first | (with_reducible refine LexK.t0e Hext.out ?_) | (with_reducible refine LexK.t0e (LexK.Ext.refl _) ?_))
                    | (go_at_call 38;refine Heq.out.mono ?_;rintro e w6 ⟨rfl,hb6⟩;have Hext:=zH (LexK.Ext.of_below (Kp:=fun x=>x < w5.drew.heap.size) hb6 (Nat.le_refl _));have Hb6:=zH (Hb5.out.drew.step hb6);have Hz6:=zH hb6;clear hb6))
                  go_ret
                  rw [Hf.out]
                  exact ⟨rfl,Hb.out.step Hb6.out⟩
                | true =>
                  have Ho:=zH (Hv1.out (by rw [Hen.out,hf,hz];rfl))
                  rw [hz] at Heq
                  clear hz hf Hen Hno1 Hv1
                  go_wp2_with (first
                    | ((with_reducible refine Lex.t0w ?_);refine fE (by repeat first | exact LexK.t0t | refine LexK.t0o rfl ?_ | refine LexK.t0p (by decide +kernel) ?_ | refine LexK.t0c rfl LA.out YA1.out ?_ | refine LexK.t0c rfl LA.out YA5.out ?_ | refine LexK.t0c rfl LB.out YB0.out ?_ | refine LexK.t0c rfl LB.out YB1.out ?_ | refine LexK.t0c rfl LB.out YB2.out ?_) ?_)
                    | ((with_reducible refine Lex.t0q ?_);refine LexK.t0h (fun x=>x < w5.drew.heap.size) (by kernel_rfl) (by decide +kernel) ?_)
                    | (with_reducible first | refine qH ?_ | refine LexK.t0s ?_ | refine LexK.t0v ?_)
                    | ((with_reducible refine Lex.t1b ?_);first | (with_reducible refine LexK.t0e Hext.out ?_) | (with_reducible refine LexK.t0e (LexK.Ext.refl _) ?_))
                    | (go_at_call 38;refine Heq.out.mono ?_;rintro e w6 ⟨rfl,hb6⟩;have Hext:=zH (LexK.Ext.of_below (Kp:=fun x=>x < w5.drew.heap.size) hb6 (Nat.le_refl _));have Hb6:=zH (Hb5.out.drew.step hb6);have Hz6:=zH hb6;clear hb6))
                  exact ⟨⟨0 + 1,by go_num,by omega,⟨Ho.out,Hnx.out⟩,Hb6.out⟩,by simp [intOf];omega⟩
            · obtain ⟨k,rfl⟩ : ∃ k',k = k' + 1:=⟨k - 1,by omega⟩
              have hk1 : k < a.ents.length:=by omega
              obtain ⟨az,oz,cs',epz,habz,-,hrg',hESy⟩:=hr.at hk1
              injection epz with epz
              injection epz with epz1 epz2
              subst epz1 epz2
              obtain ⟨s9,sa,s1,s2,s3,s4,s5,s6,s7,s8,rfl⟩:=hESy.nine
              have y0:=hrg' 0 _ rfl
              have y1:=hrg' 1 _ rfl
              have y2:=hrg' 2 _ rfl
              have y3:=hrg' 3 _ rfl
              have y4:=hrg' 4 _ rfl
              have y5:=hrg' 5 _ rfl
              have y6:=hrg' 6 _ rfl
              have y7:=hrg' 7 _ rfl
              have y8:=hrg' 8 _ rfl
              rw [Nat.add_zero] at y0
              have Hno2:=zH (fun h=>Hno0.out (thb hlt h))
              have Hnx:=zH (show cmpE a.ents[k] a.ents[k + 1] < 0 → ∀ j (h : j + 1 < a.ents.length),j + 1 < k + 1 + 1 → cmpE (a.ents[j]'(by omega)) a.ents[j + 1] < 0 from fun g j h hj=>by
                rcases Nat.lt_succ_iff_lt_or_eq.1 hj with g4 | g4
                · exact Hall.out.2 j h g4
                · obtain rfl : j = k:=by omega
                  exact g)
              clear Hall hr hrg'
              generalize a.ents[k] = y at *
              generalize a.ents[k + 1] = x at *
              obtain ⟨wo',hwo⟩ : ∃ wo' : World,wo' = wr:=⟨_,rfl⟩
              subst hwo
              go_upto_region 39 with fail
              have hnew:=heap_alloc_new wo' (.cells #[.slice r9 x.args.length ra,.bool x.fails,.int .i64 x.res.kind,.int .i64 x.res.num,.string x.res.text,.slice r1 x.res.kids.length r2,.slice r3 x.res.keys.length r4,.slice r5 x.res.ents.length r6,.slice r7 x.res.labels.length r8] 55)
              have ho : Below wo'.heap.size wo' (wo'.alloc (.cells #[.slice r9 x.args.length ra,.bool x.fails,.int .i64 x.res.kind,.int .i64 x.res.num,.string x.res.text,.slice r1 x.res.kids.length r2,.slice r3 x.res.keys.length r4,.slice r5 x.res.ents.length r6,.slice r7 x.res.labels.length r8] 55)):=(Below.refl _ _).alloc (Nat.le_refl _) _
              generalize wo'.alloc (.cells #[.slice r9 x.args.length ra,.bool x.fails,.int .i64 x.res.kind,.int .i64 x.res.num,.string x.res.text,.slice r1 x.res.kids.length r2,.slice r3 x.res.keys.length r4,.slice r5 x.res.ents.length r6,.slice r7 x.res.labels.length r8] 55) = w5 at *
              have Hb5:=zH (Hb9.out.step ho)
              clear f0 f1 f2 f3 f4 f5 f6
              have hA5:=(Hb5.out.block _ hlA).trans HA.out
              obtain ⟨⟨f0,f1,f2,f3⟩,f4,f5,f6⟩:=t0f hA5
              obtain ⟨⟨g0,g1,g2,g3⟩,⟨g4,g5,g6,g7⟩,g8⟩:=t1k hnew
              have Hres:=zH (hres.below ho.drew)
              have haw : ak < wo'.heap.size:=hab
              have v0:=(ho.cell (p:=⟨ak,_,none⟩) haw).trans y0
              have v1:=(ho.cell (p:=⟨ak,_,none⟩) haw).trans y1
              have v2:=(ho.cell (p:=⟨ak,_,none⟩) haw).trans y2
              have v3:=(ho.cell (p:=⟨ak,_,none⟩) haw).trans y3
              have v4:=(ho.cell (p:=⟨ak,_,none⟩) haw).trans y4
              have v5:=(ho.cell (p:=⟨ak,_,none⟩) haw).trans y5
              have v6:=(ho.cell (p:=⟨ak,_,none⟩) haw).trans y6
              have v7:=(ho.cell (p:=⟨ak,_,none⟩) haw).trans y7
              have v8:=(ho.cell (p:=⟨ak,_,none⟩) haw).trans y8
              have LK:=zH (show ak < w5.drew.heap.size from Nat.lt_of_lt_of_le haw ho.size)
              have YK:=zH (show w5.drew.cell? ⟨ak,ok + k * 9,none⟩ = _ from v0)
              have Hcmp:=zH (fun (w6 : World) (h : Below w5.drew.heap.size w5.drew w6)=>t5o y x w6 _ _ _ _ (hESy.below (ho.drew.step h)) (hESx.below (ho.drew.step h)))
              have LA:=zH (show w.heap.size < w5.drew.heap.size from t0a hA5)
              have LB:=zH (show wo'.heap.size < w5.drew.heap.size from t0a hnew)
              have YA1:=zH (show w5.drew.cell? ⟨w.heap.size,1,none⟩ = _ from f1)
              have YA5:=zH (show w5.drew.cell? ⟨w.heap.size,5,none⟩ = _ from f5)
              have YB0:=zH (show w5.drew.cell? ⟨wo'.heap.size,0,none⟩ = _ from g0)
              have YB1:=zH (show w5.drew.cell? ⟨wo'.heap.size,1,none⟩ = _ from g1)
              have YB2:=zH (show w5.drew.cell? ⟨wo'.heap.size,2,none⟩ = _ from g2)
              clear z0 z1 z2 z3 z4 z5 z6 z7 z8 hnew ho hA5 hres y0 y1 y2 y3 y4 y5 y6 y7 y8 hESy hESx
              generalize wo'.heap.size = bo at *
              by_cases hn : (x.args.length : Int) = a.num
              rotate_left
              · have d2 : ((x.args.length : Int) != a.num) = true:=by simp [hn]
                have Hf:=zH (Hno1.out (by unfold entOk;rw [decide_eq_false hn];rfl))
                clear hn
                go_wp2_with (first
                  | ((with_reducible refine Lex.t0w ?_);refine fE (by repeat first | exact LexK.t0t | refine LexK.t0o rfl ?_ | refine LexK.t0p (by decide +kernel) ?_ | refine LexK.t0c rfl LA.out YA1.out ?_ | refine LexK.t0c rfl LA.out YA5.out ?_ | refine LexK.t0c rfl LB.out YB0.out ?_ | refine LexK.t0c rfl LB.out YB1.out ?_ | refine LexK.t0c rfl LB.out YB2.out ?_ | refine LexK.t0c rfl LK.out YK.out ?_) ?_)
                  | ((with_reducible refine Lex.t0q ?_);refine LexK.t0h (fun x=>x < w5.drew.heap.size) (by kernel_rfl) (by decide +kernel) ?_)
                  | (with_reducible first | refine qH ?_ | refine LexK.t0s ?_ | refine LexK.t0v ?_)
                  | ((with_reducible refine Lex.t1b ?_);first | (with_reducible refine LexK.t0e Hext.out ?_) | (with_reducible refine LexK.t0e (LexK.Ext.refl _) ?_))
                )
                go_ret
                rw [Hf.out]
                exact ⟨rfl,Hb.out.step Hb5.out.drew⟩
              have d2 : ((x.args.length : Int) != a.num) = false:=by simp [hn]
              have Hen:=zH (show entOk a.num x = (!x.fails || decide (cmpV x.res zeroV = 0)) by unfold entOk;rw [decide_eq_true hn];rfl)
              clear hn
              cases hf : x.fails with
              | false =>
                rw [hf] at g1 YB1 Hcmp
                have Ho:=zH (Hv1.out (by rw [Hen.out,hf];rfl))
                clear hf Hen Hno1 Hv1
                by_cases hc : cmpE y x < 0
                · have Hnx2:=zH (Hnx.out hc)
                  have d1 : decide (0 ≤ cmpE y x) = false:=by simp;omega
                  clear hc Hnx Hno2
                  generalize cmpE y x = cc at *
                  go_wp2_with (first
                    | ((with_reducible refine Lex.t0w ?_);refine fE (by repeat first | exact LexK.t0t | refine LexK.t0o rfl ?_ | refine LexK.t0p (by decide +kernel) ?_ | refine LexK.t0c rfl LA.out YA1.out ?_ | refine LexK.t0c rfl LA.out YA5.out ?_ | refine LexK.t0c rfl LB.out YB0.out ?_ | refine LexK.t0c rfl LB.out YB1.out ?_ | refine LexK.t0c rfl LB.out YB2.out ?_ | refine LexK.t0c rfl LK.out YK.out ?_) ?_)
                    | ((with_reducible refine Lex.t0q ?_);refine LexK.t0h (fun x=>x < w5.drew.heap.size) (by kernel_rfl) (by decide +kernel) ?_)
                    | (with_reducible first | refine qH ?_ | refine LexK.t0s ?_ | refine LexK.t0v ?_)
                    | ((with_reducible refine Lex.t1b ?_);first | (with_reducible refine LexK.t0e Hext.out ?_) | (with_reducible refine LexK.t0e (LexK.Ext.refl _) ?_))
                    | (go_at_call 69;refine (Hcmp.out w5.drew (Below.refl _ _)).mono ?_;rintro e w7 ⟨rfl,hb7⟩;have Hext:=zH (LexK.Ext.of_below (Kp:=fun x=>x < w5.drew.heap.size) hb7 (Nat.le_refl _));have Hb7:=zH (Hb5.out.drew.step hb7);clear hb7))
                  exact ⟨⟨k + 1 + 1,by go_num,by omega,⟨Ho.out,Hnx2.out⟩,Hb7.out⟩,by simp [intOf];omega⟩
                · have Hf:=zH (Hno2.out hc)
                  have d1 : decide (0 ≤ cmpE y x) = true:=by simp;omega
                  clear hc Hnx Hno2
                  generalize cmpE y x = cc at *
                  go_wp2_with (first
                    | ((with_reducible refine Lex.t0w ?_);refine fE (by repeat first | exact LexK.t0t | refine LexK.t0o rfl ?_ | refine LexK.t0p (by decide +kernel) ?_ | refine LexK.t0c rfl LA.out YA1.out ?_ | refine LexK.t0c rfl LA.out YA5.out ?_ | refine LexK.t0c rfl LB.out YB0.out ?_ | refine LexK.t0c rfl LB.out YB1.out ?_ | refine LexK.t0c rfl LB.out YB2.out ?_ | refine LexK.t0c rfl LK.out YK.out ?_) ?_)
                    | ((with_reducible refine Lex.t0q ?_);refine LexK.t0h (fun x=>x < w5.drew.heap.size) (by kernel_rfl) (by decide +kernel) ?_)
                    | (with_reducible first | refine qH ?_ | refine LexK.t0s ?_ | refine LexK.t0v ?_)
                    | ((with_reducible refine Lex.t1b ?_);first | (with_reducible refine LexK.t0e Hext.out ?_) | (with_reducible refine LexK.t0e (LexK.Ext.refl _) ?_))
                    | (go_at_call 69;refine (Hcmp.out w5.drew (Below.refl _ _)).mono ?_;rintro e w7 ⟨rfl,hb7⟩;have Hext:=zH (LexK.Ext.of_below (Kp:=fun x=>x < w5.drew.heap.size) hb7 (Nat.le_refl _));have Hb7:=zH (Hb5.out.drew.step hb7);clear hb7))
                  go_ret
                  rw [Hf.out]
                  exact ⟨rfl,Hb.out.step Hb7.out⟩
              | true =>
                rw [hf] at g1 YB1 Hcmp
                have Heq:=zH (t8k x.res zeroV w5.drew _ (.agg #[.int .i64 0,.int .i64 0,.string ⟨#[]⟩,.slice none 0 0,.slice none 0 0,.slice none 0 0,.slice none 0 0]) ⟨_,_,rfl,Hres.out⟩ ⟨1,_,rfl,t4c _⟩)
                cases hz : decide (cmpV x.res zeroV = 0) with
                | false =>
                  have Hf:=zH (Hno1.out (by rw [Hen.out,hf,hz];rfl))
                  rw [hz] at Heq
                  clear hz hf Hen Hno1 Hv1
                  go_wp2_with (first
                    | ((with_reducible refine Lex.t0w ?_);refine fE (by repeat first | exact LexK.t0t | refine LexK.t0o rfl ?_ | refine LexK.t0p (by decide +kernel) ?_ | refine LexK.t0c rfl LA.out YA1.out ?_ | refine LexK.t0c rfl LA.out YA5.out ?_ | refine LexK.t0c rfl LB.out YB0.out ?_ | refine LexK.t0c rfl LB.out YB1.out ?_ | refine LexK.t0c rfl LB.out YB2.out ?_ | refine LexK.t0c rfl LK.out YK.out ?_) ?_)
                    | ((with_reducible refine Lex.t0q ?_);refine LexK.t0h (fun x=>x < w5.drew.heap.size) (by kernel_rfl) (by decide +kernel) ?_)
                    | (with_reducible first | refine qH ?_ | refine LexK.t0s ?_ | refine LexK.t0v ?_)
                    | ((with_reducible refine Lex.t1b ?_);first | (with_reducible refine LexK.t0e Hext.out ?_) | (with_reducible refine LexK.t0e (LexK.Ext.refl _) ?_))
                    | (go_at_call 38;refine Heq.out.mono ?_;rintro e w6 ⟨rfl,hb6⟩;have Hext:=zH (LexK.Ext.of_below (Kp:=fun x=>x < w5.drew.heap.size) hb6 (Nat.le_refl _));have Hb6:=zH (Hb5.out.drew.step hb6);have Hz6:=zH hb6;clear hb6))
                  go_ret
                  rw [Hf.out]
                  exact ⟨rfl,Hb.out.step Hb6.out⟩
                | true =>
                  have Ho:=zH (Hv1.out (by rw [Hen.out,hf,hz];rfl))
                  rw [hz] at Heq
                  clear hz hf Hen Hno1 Hv1
                  by_cases hc : cmpE y x < 0
                  · have Hnx2:=zH (Hnx.out hc)
                    have d1 : decide (0 ≤ cmpE y x) = false:=by simp;omega
                    clear hc Hnx Hno2
                    generalize cmpE y x = cc at *
                    go_wp2_with (first
                      | ((with_reducible refine Lex.t0w ?_);refine fE (by repeat first | exact LexK.t0t | refine LexK.t0o rfl ?_ | refine LexK.t0p (by decide +kernel) ?_ | refine LexK.t0c rfl LA.out YA1.out ?_ | refine LexK.t0c rfl LA.out YA5.out ?_ | refine LexK.t0c rfl LB.out YB0.out ?_ | refine LexK.t0c rfl LB.out YB1.out ?_ | refine LexK.t0c rfl LB.out YB2.out ?_ | refine LexK.t0c rfl LK.out YK.out ?_) ?_)
                      | ((with_reducible refine Lex.t0q ?_);refine LexK.t0h (fun x=>x < w5.drew.heap.size) (by kernel_rfl) (by decide +kernel) ?_)
                      | (with_reducible first | refine qH ?_ | refine LexK.t0s ?_ | refine LexK.t0v ?_)
                      | ((with_reducible refine Lex.t1b ?_);first | (with_reducible refine LexK.t0e Hext.out ?_) | (with_reducible refine LexK.t0e (LexK.Ext.refl _) ?_))
                      | (go_at_call 38;refine Heq.out.mono ?_;rintro e w6 ⟨rfl,hb6⟩;have f5':=(hb6.cell (p:=⟨w.heap.size,_,none⟩) LA.out).trans f5;have x0:=(hb6.cell (p:=⟨ak,_,none⟩) LK.out).trans v0;have x1:=(hb6.cell (p:=⟨ak,_,none⟩) LK.out).trans v1;have x2:=(hb6.cell (p:=⟨ak,_,none⟩) LK.out).trans v2;have x3:=(hb6.cell (p:=⟨ak,_,none⟩) LK.out).trans v3;have x4:=(hb6.cell (p:=⟨ak,_,none⟩) LK.out).trans v4;have x5:=(hb6.cell (p:=⟨ak,_,none⟩) LK.out).trans v5;have x6:=(hb6.cell (p:=⟨ak,_,none⟩) LK.out).trans v6;have x7:=(hb6.cell (p:=⟨ak,_,none⟩) LK.out).trans v7;have x8:=(hb6.cell (p:=⟨ak,_,none⟩) LK.out).trans v8;have b0:=(hb6.cell (p:=⟨bo,_,none⟩) LB.out).trans g0;have b1:=(hb6.cell (p:=⟨bo,_,none⟩) LB.out).trans g1;have b2:=(hb6.cell (p:=⟨bo,_,none⟩) LB.out).trans g2;have b3:=(hb6.cell (p:=⟨bo,_,none⟩) LB.out).trans g3;have b4:=(hb6.cell (p:=⟨bo,_,none⟩) LB.out).trans g4;have b5:=(hb6.cell (p:=⟨bo,_,none⟩) LB.out).trans g5;have b6:=(hb6.cell (p:=⟨bo,_,none⟩) LB.out).trans g6;have b7:=(hb6.cell (p:=⟨bo,_,none⟩) LB.out).trans g7;have b8:=(hb6.cell (p:=⟨bo,_,none⟩) LB.out).trans g8;have Hext:=zH (LexK.Ext.of_below (Kp:=fun x=>x < w5.drew.heap.size) hb6 (Nat.le_refl _));have Hb6:=zH (Hb5.out.drew.step hb6);have Hz6:=zH hb6;clear hb6)
                      | (go_at_call 69;refine (Hcmp.out w6 Hz6.out).mono ?_;rintro e w7 ⟨rfl,hb7⟩;have Hext:=zH (LexK.Ext.of_below (Kp:=fun x=>x < w5.drew.heap.size) hb7 (Nat.le_refl _));have Hb7:=zH (Hb6.out.step hb7);clear hb7))
                    exact ⟨⟨k + 1 + 1,by go_num,by omega,⟨Ho.out,Hnx2.out⟩,Hb7.out⟩,by simp [intOf];omega⟩
                  · have Hf:=zH (Hno2.out hc)
                    have d1 : decide (0 ≤ cmpE y x) = true:=by simp;omega
                    clear hc Hnx Hno2
                    generalize cmpE y x = cc at *
                    go_wp2_with (first
                      | ((with_reducible refine Lex.t0w ?_);refine fE (by repeat first | exact LexK.t0t | refine LexK.t0o rfl ?_ | refine LexK.t0p (by decide +kernel) ?_ | refine LexK.t0c rfl LA.out YA1.out ?_ | refine LexK.t0c rfl LA.out YA5.out ?_ | refine LexK.t0c rfl LB.out YB0.out ?_ | refine LexK.t0c rfl LB.out YB1.out ?_ | refine LexK.t0c rfl LB.out YB2.out ?_ | refine LexK.t0c rfl LK.out YK.out ?_) ?_)
                      | ((with_reducible refine Lex.t0q ?_);refine LexK.t0h (fun x=>x < w5.drew.heap.size) (by kernel_rfl) (by decide +kernel) ?_)
                      | (with_reducible first | refine qH ?_ | refine LexK.t0s ?_ | refine LexK.t0v ?_)
                      | ((with_reducible refine Lex.t1b ?_);first | (with_reducible refine LexK.t0e Hext.out ?_) | (with_reducible refine LexK.t0e (LexK.Ext.refl _) ?_))
                      | (go_at_call 38;refine Heq.out.mono ?_;rintro e w6 ⟨rfl,hb6⟩;have f5':=(hb6.cell (p:=⟨w.heap.size,_,none⟩) LA.out).trans f5;have x0:=(hb6.cell (p:=⟨ak,_,none⟩) LK.out).trans v0;have x1:=(hb6.cell (p:=⟨ak,_,none⟩) LK.out).trans v1;have x2:=(hb6.cell (p:=⟨ak,_,none⟩) LK.out).trans v2;have x3:=(hb6.cell (p:=⟨ak,_,none⟩) LK.out).trans v3;have x4:=(hb6.cell (p:=⟨ak,_,none⟩) LK.out).trans v4;have x5:=(hb6.cell (p:=⟨ak,_,none⟩) LK.out).trans v5;have x6:=(hb6.cell (p:=⟨ak,_,none⟩) LK.out).trans v6;have x7:=(hb6.cell (p:=⟨ak,_,none⟩) LK.out).trans v7;have x8:=(hb6.cell (p:=⟨ak,_,none⟩) LK.out).trans v8;have b0:=(hb6.cell (p:=⟨bo,_,none⟩) LB.out).trans g0;have b1:=(hb6.cell (p:=⟨bo,_,none⟩) LB.out).trans g1;have b2:=(hb6.cell (p:=⟨bo,_,none⟩) LB.out).trans g2;have b3:=(hb6.cell (p:=⟨bo,_,none⟩) LB.out).trans g3;have b4:=(hb6.cell (p:=⟨bo,_,none⟩) LB.out).trans g4;have b5:=(hb6.cell (p:=⟨bo,_,none⟩) LB.out).trans g5;have b6:=(hb6.cell (p:=⟨bo,_,none⟩) LB.out).trans g6;have b7:=(hb6.cell (p:=⟨bo,_,none⟩) LB.out).trans g7;have b8:=(hb6.cell (p:=⟨bo,_,none⟩) LB.out).trans g8;have Hext:=zH (LexK.Ext.of_below (Kp:=fun x=>x < w5.drew.heap.size) hb6 (Nat.le_refl _));have Hb6:=zH (Hb5.out.drew.step hb6);have Hz6:=zH hb6;clear hb6)
                      | (go_at_call 69;refine (Hcmp.out w6 Hz6.out).mono ?_;rintro e w7 ⟨rfl,hb7⟩;have Hext:=zH (LexK.Ext.of_below (Kp:=fun x=>x < w5.drew.heap.size) hb7 (Nat.le_refl _));have Hb7:=zH (Hb6.out.step hb7);clear hb7))
                    go_ret
                    rw [Hf.out]
                    exact ⟨rfl,Hb.out.step Hb7.out⟩
          · have d9 : decide (k < a.ents.length) = false:=by simp;omega
            have Hy:=zH (Hr1.out (tj9 (fun j h=>Hall.out.1 j h (by omega)) (fun j h=>Hall.out.2 j h (by omega))))
            go_wp2
            go_ret
            rw [Hy.out]
            exact ⟨rfl,Hbw9.out⟩
      · go_wp2
        go_ret
        rw [Hr.out]
        exact ⟨rfl,Hbw.out⟩
end Go.Proofs.YtjgldaaofdpcgaaGreat
