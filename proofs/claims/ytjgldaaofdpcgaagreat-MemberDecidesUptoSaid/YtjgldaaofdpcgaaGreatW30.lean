/- Walks and plain facts for the laws of membership, for all values and types that the heap holds (texts X4). -/
import Derived.Test.YtjgldaaofdpcgaaGreatW03
import Derived.Test.YtjgldaaofdpcgaaGreatW29
set_option linter.unusedVariables false
set_option linter.unusedSimpArgs false
namespace Go.Proofs.YtjgldaaofdpcgaaGreat
open Go.RowKit Go.Ident
set_option maxRecDepth 100000
theorem t9j (a b : Int) (w : World) : (binOp .neq 46 (.agg #[.int .i64 a,.int .i64 b]) (.agg #[.int .i64 0,.int .i64 0])).run Tryz.prog w = .ok (.bool (!(decide (a = 0) && decide (b = 0)))) w:=by
  obtain ⟨i,hi⟩ : ∃ i,Tryz.prog.info? 3 = some i:=by
    cases h : Tryz.prog.info? 3 with
    | some i=>exact ⟨i,rfl⟩
    | none=>have:=t4h;rw [h] at this;cases this
  have hc : Tryz.prog.cellsOf 3 = 1:=by kernel_rfl
  rw [run_neq_struct,run_equalIn_array w 9999 _ _ (show Tryz.prog.underlying 46 = some (.array 2 3) by kernel_rfl) hi]
  simp only [show List.range 2 = [0,1] from rfl,Op.eqItems,hc,Nat.zero_mul,Nat.one_mul]
  simp only [Sem.run_bind,tbe,tbf,Result.andThen_ok,run_equalIn_int w 9998 3 .i64 .i64 a 0 Tryz.underlying3]
  have e1 : (a == 0) = decide (a = 0):=by rw [Bool.eq_iff_iff];simp
  have e2 : (b == 0) = decide (b = 0):=by rw [Bool.eq_iff_iff];simp
  cases h : a == 0 with
  | false=>rw [← e1,h];simp
  | true =>
    simp only [Bool.not_true,Bool.false_eq_true,if_false,Sem.run_bind,tbe,tbf,Result.andThen_ok,run_equalIn_int w 9998 3 .i64 .i64 b 0 Tryz.underlying3]
    rw [← e1,← e2,h]
    cases h2 : b == 0 <;> simp
theorem t3k (T : Ty) (k : Int) (w : World) (t : Value) (ht : TS w t T) : Calls Tryz.prog 33 #[t,.int .i64 k] w (ER (T.has k) w):=by
  obtain ⟨pt,ct,rfl,-,-⟩:=ht
  go_enter Tryz.func33,Tryz.ntmps33
  go_upto_region 1 with fail
  have hA:=heap_alloc_new w (.cells #[.slice pt T.nodes.length ct,.int .i64 T.root] 31)
  have hb : Below w.heap.size w (w.alloc (.cells #[.slice pt T.nodes.length ct,.int .i64 T.root] 31)):=(Below.refl _ _).alloc (Nat.le_refl _) _
  generalize w.alloc (.cells #[.slice pt T.nodes.length ct,.int .i64 T.root] 31) = w1 at *
  obtain ⟨t0,t1⟩:=t0k hA
  have Hb:=zH hb
  clear hA hb
  by_cases h0 : 0 ≤ k
  · have d0 : decide (0 ≤ k) = true:=by simp [h0]
    have Hr:=zH (show T.has k = decide (k < (T.nodes.length : Int)) by unfold Ty.has Ty.len;rw [d0];simp)
    clear h0
    go_wp2
    go_ret
    rw [Hr.out]
    exact ⟨rfl,Hb.out⟩
  · have d0 : decide (0 ≤ k) = false:=by simp [h0]
    have Hr:=zH (show T.has k = false by unfold Ty.has;rw [d0];simp)
    clear h0
    go_wp2
    go_ret
    rw [Hr.out]
    exact ⟨rfl,Hb.out⟩
theorem tcf {T : Ty} {n : TN} {j : Nat} (h : j < n.kids.length) (h1 : T.has n.kids[j] = false) : nodeT T n = false:=by
  rw [Bool.eq_false_iff]
  intro g
  rw [tbi g _ (List.getElem_mem h)] at h1
  cases h1
inductive TagX : Bool → Prop
  | mk (b : Bool) : TagX b
set_option maxHeartbeats 64000000 in
theorem tjw (T : Ty) (n : TN) (h13 : n.kind ≠ 13) (w : World) (t : Value) (cs : List Value) (ht : TS w t T) (h : NC w n cs) (hL : n.kids.length ≤ 9223372036854775807) : Calls Tryz.prog 64 #[t,.agg cs.toArray] w (ER (nodeT T n) w):=by
  obtain ⟨b0,b1,b2,S,hB⟩ : ∃ b0 b1 b2 S : Bool,(n.kind = 3 ∧ b0 = true ∧ b1 = false ∧ b2 = false ∧ S = decide (n.lo ≤ n.hi)) ∨ (n.kind = 4 ∧ b0 = false ∧ b1 = true ∧ b2 = false ∧ S = decide ((n.text.size : Int) ≤ 64)) ∨ (n.kind = 6 ∧ b0 = false ∧ b1 = true ∧ b2 = false ∧ S = isAtm n.text.data.toList) ∨ (n.kind = 19 ∧ b0 = false ∧ b1 = true ∧ b2 = false ∧ S = isVrb n.text.data.toList) ∨ (n.kind = 1 ∧ b0 = false ∧ b1 = false ∧ b2 = false ∧ S = true) ∨ (n.kind = 2 ∧ b0 = false ∧ b1 = false ∧ b2 = false ∧ S = true) ∨ (n.kind = 5 ∧ b0 = false ∧ b1 = false ∧ b2 = false ∧ S = true) ∨ (n.kind = 7 ∧ b0 = false ∧ b1 = false ∧ b2 = false ∧ S = true) ∨ (n.kind = 8 ∧ b0 = false ∧ b1 = false ∧ b2 = false ∧ S = true) ∨ (n.kind = 9 ∧ b0 = false ∧ b1 = false ∧ b2 = false ∧ S = true) ∨ (n.kind = 11 ∧ b0 = false ∧ b1 = false ∧ b2 = false ∧ S = true) ∨ (n.kind = 15 ∧ b0 = false ∧ b1 = false ∧ b2 = false ∧ S = true) ∨ (n.kind = 10 ∧ b0 = false ∧ b1 = false ∧ b2 = true ∧ S = decide ((n.kids.length : Int) ≤ 4)) ∨ (n.kind = 12 ∧ b0 = false ∧ b1 = false ∧ b2 = true ∧ S = ((n.kids.length : Int) == 2)) ∨ (n.kind = 14 ∧ b0 = false ∧ b1 = false ∧ b2 = true ∧ S = (decide (1 ≤ (n.kids.length : Int)) && decide ((n.kids.length : Int) ≤ 5))) ∨ (n.kind = 16 ∧ b0 = false ∧ b1 = false ∧ b2 = true ∧ S = decide (1 ≤ (n.kids.length : Int))) ∨ (n.kind = 17 ∧ b0 = false ∧ b1 = false ∧ b2 = true ∧ S = decide (1 ≤ (n.kids.length : Int))) ∨ (n.kind = 18 ∧ b0 = false ∧ b1 = false ∧ b2 = true ∧ S = ((n.kids.length : Int) == 1)) ∨ ((n.kind ≠ 3 ∧ n.kind ≠ 4 ∧ n.kind ≠ 6 ∧ n.kind ≠ 19 ∧ n.kind ≠ 1 ∧ n.kind ≠ 2 ∧ n.kind ≠ 5 ∧ n.kind ≠ 7 ∧ n.kind ≠ 8 ∧ n.kind ≠ 9 ∧ n.kind ≠ 11 ∧ n.kind ≠ 15 ∧ n.kind ≠ 10 ∧ n.kind ≠ 12 ∧ n.kind ≠ 14 ∧ n.kind ≠ 16 ∧ n.kind ≠ 17 ∧ n.kind ≠ 18 ∧ n.kind ≠ 13) ∧ b0 = false ∧ b1 = false ∧ b2 = true ∧ S = false):=by
    by_cases h : n.kind ≠ 3 ∧ n.kind ≠ 4 ∧ n.kind ≠ 6 ∧ n.kind ≠ 19 ∧ n.kind ≠ 1 ∧ n.kind ≠ 2 ∧ n.kind ≠ 5 ∧ n.kind ≠ 7 ∧ n.kind ≠ 8 ∧ n.kind ≠ 9 ∧ n.kind ≠ 11 ∧ n.kind ≠ 15 ∧ n.kind ≠ 10 ∧ n.kind ≠ 12 ∧ n.kind ≠ 14 ∧ n.kind ≠ 16 ∧ n.kind ≠ 17 ∧ n.kind ≠ 18 ∧ n.kind ≠ 13
    · exact ⟨false,false,true,false,by simp [h]⟩
    rcases (show n.kind = 3 ∨ n.kind = 4 ∨ n.kind = 6 ∨ n.kind = 19 ∨ n.kind = 1 ∨ n.kind = 2 ∨ n.kind = 5 ∨ n.kind = 7 ∨ n.kind = 8 ∨ n.kind = 9 ∨ n.kind = 11 ∨ n.kind = 15 ∨ n.kind = 10 ∨ n.kind = 12 ∨ n.kind = 14 ∨ n.kind = 16 ∨ n.kind = 17 ∨ n.kind = 18 by omega) with h | h | h | h | h | h | h | h | h | h | h | h | h | h | h | h | h | h
    · exact ⟨true,false,false,decide (n.lo ≤ n.hi),by simp [h]⟩
    · exact ⟨false,true,false,decide ((n.text.size : Int) ≤ 64),by simp [h]⟩
    · exact ⟨false,true,false,isAtm n.text.data.toList,by simp [h]⟩
    · exact ⟨false,true,false,isVrb n.text.data.toList,by simp [h]⟩
    · exact ⟨false,false,false,true,by simp [h]⟩
    · exact ⟨false,false,false,true,by simp [h]⟩
    · exact ⟨false,false,false,true,by simp [h]⟩
    · exact ⟨false,false,false,true,by simp [h]⟩
    · exact ⟨false,false,false,true,by simp [h]⟩
    · exact ⟨false,false,false,true,by simp [h]⟩
    · exact ⟨false,false,false,true,by simp [h]⟩
    · exact ⟨false,false,false,true,by simp [h]⟩
    · exact ⟨false,false,true,decide ((n.kids.length : Int) ≤ 4),by simp [h]⟩
    · exact ⟨false,false,true,((n.kids.length : Int) == 2),by simp [h]⟩
    · exact ⟨false,false,true,(decide (1 ≤ (n.kids.length : Int)) && decide ((n.kids.length : Int) ≤ 5)),by simp [h]⟩
    · exact ⟨false,false,true,decide (1 ≤ (n.kids.length : Int)),by simp [h]⟩
    · exact ⟨false,false,true,decide (1 ≤ (n.kids.length : Int)),by simp [h]⟩
    · exact ⟨false,false,true,((n.kids.length : Int) == 1),by simp [h]⟩
  have Hn0:=zH (show n.kids.all T.has = true → nodeT T n = ((b0 || decide (n.lo = 0)) && (b0 || decide (n.hi = 0)) && (b1 || decide (n.text.size = 0)) && decide (n.fields.length = 0) && decide (n.rest0 = 0) && decide (n.rest1 = 0) && (b2 || decide (n.kids.length = 0)) && S) from fun hh=>by
    rcases hB with ⟨hk,rfl,rfl,rfl,hS⟩ | ⟨hk,rfl,rfl,rfl,hS⟩ | ⟨hk,rfl,rfl,rfl,hS⟩ | ⟨hk,rfl,rfl,rfl,hS⟩ | ⟨hk,rfl,rfl,rfl,hS⟩ | ⟨hk,rfl,rfl,rfl,hS⟩ | ⟨hk,rfl,rfl,rfl,hS⟩ | ⟨hk,rfl,rfl,rfl,hS⟩ | ⟨hk,rfl,rfl,rfl,hS⟩ | ⟨hk,rfl,rfl,rfl,hS⟩ | ⟨hk,rfl,rfl,rfl,hS⟩ | ⟨hk,rfl,rfl,rfl,hS⟩ | ⟨hk,rfl,rfl,rfl,hS⟩ | ⟨hk,rfl,rfl,rfl,hS⟩ | ⟨hk,rfl,rfl,rfl,hS⟩ | ⟨hk,rfl,rfl,rfl,hS⟩ | ⟨hk,rfl,rfl,rfl,hS⟩ | ⟨hk,rfl,rfl,rfl,hS⟩ | ⟨hk,rfl,rfl,rfl,hS⟩
    all_goals subst hS
    all_goals unfold nodeT t1t kindN t1u textK kidsK
    rotate_right
    · obtain ⟨k3,k4,k6,k19,k1,k2,k5,k7,k8,k9,k11,k15,k10,k12,k14,k16,k17,k18,k13⟩:=hk
      simp only [k3,k4,k6,k19,k10,k12,k13,k14,k16,k17,k18,if_false,or_self]
      have : (decide (1 ≤ n.kind) && decide (n.kind ≤ 15)) = false:=by
        rw [Bool.and_eq_false_iff,decide_eq_false_iff_not,decide_eq_false_iff_not];omega
      rw [this];simp
    all_goals
      rw [List.all_append,hh]
      cases hf : n.fields with
      | nil=>rw [Bool.eq_iff_iff];simp [hk];try (intros;constructor <;> (intro g;(try simp_all);(try omega)))
      | cons x r=>simp [hk])
  have HS0:=zH hB
  have Q0:=TagX.mk b0;have Q1:=TagX.mk b1;have Q2:=TagX.mk b2
  have HT:=zH ht
  obtain ⟨pt,ct,rfl,-,-⟩:=ht
  obtain ⟨p1,c1,p2,c2,rfl,hkids,-⟩:=h
  have HK:=zH hkids
  clear hkids hB h13
  have he:=t9j n.rest0 n.rest1
  go_enter Tryz.func64,Tryz.ntmps64
  go_upto_region 1 with fail
  obtain ⟨w2,e9,hA,hB,hb⟩:=t1f w (.cells #[.slice pt T.nodes.length ct,.int .i64 T.root] 31) (.cells #[.int .i64 n.kind,.int .i64 n.lo,.int .i64 n.hi,.string n.text,.slice p1 n.kids.length c1,.slice p2 n.fields.length c2,.int .i64 n.rest0,.int .i64 n.rest1] 48)
  rw [e9]
  obtain ⟨t0,t1⟩:=t0k hA
  obtain ⟨⟨f0,f1,f2,f3⟩,f4,f5,f6,f7⟩:=t0y hB
  have hlA:=t0a hA;have hlB:=t0a hB
  have HA:=zH hA;have HB:=zH hB;have Hb:=zH hb
  clear e9 hA hB hb
  go_wp2
  go_loopw [5] (fun i wr=>∃ k : Nat,i = .int .i64 k ∧ k ≤ n.kids.length ∧ (∀ j (h : j < n.kids.length),j < k → T.has n.kids[j] = true) ∧ Below w2.heap.size w2 wr) (fun i _=>n.kids.length - (intOf i).toNat)
  case atStart=>exact ⟨0,rfl,by omega,fun j _ h=>by omega,Below.refl _ _⟩
  case round =>
    obtain ⟨k,rfl,hk,hall,hbr⟩:=hrel
    have Hall:=zH hall;have Hbr:=zH hbr;have Hbw:=zH (Hb.out.step hbr)
    clear hall hbr f0 f1 f2 f3 f4 f5 f6 f7 t0 t1
    obtain ⟨t0,t1⟩:=t0k ((Hbr.out.block _ hlA).trans HA.out)
    obtain ⟨⟨f0,f1,f2,f3⟩,f4,f5,f6,f7⟩:=t0y ((Hbr.out.block _ hlB).trans HB.out)
    by_cases hlt : k < n.kids.length
    · have d9 : decide (k < n.kids.length) = true:=by simp;omega
      obtain ⟨-,ak,ok,rfl,hak,zk⟩:=(HK.out.below Hbw.out).at hlt
      have Hno:=zH (tcf (T:=T) hlt)
      have Hnx:=zH (show T.has n.kids[k] = true → ∀ j (h : j < n.kids.length),j < k + 1 → T.has n.kids[j] = true from fun g j h hj=>by
        rcases Nat.lt_succ_iff_lt_or_eq.1 hj with g2 | rfl
        · exact Hall.out j h g2
        · exact g)
      have Hix:=zH (t3k T n.kids[k] wr.drew _ (HT.out.below Hbw.out.drew))
      generalize n.kids[k] = x at *
      cases hx : T.has x with
      | false =>
        have Hf:=zH (Hno.out hx)
        rw [hx] at Hix
        clear hx
        go_wp2_with (first
          | (with_reducible refine rg ?_)
          | (with_reducible refine fo ?_)
          | (go_at_call 33;refine Hix.out.mono ?_;rintro e w6 ⟨rfl,hb6⟩;have Hb6:=zH (Hbw.out.drew.step hb6);clear hb6))
        go_ret
        rw [Hf.out]
        exact ⟨rfl,Hb6.out⟩
      | true =>
        have Hnx2:=zH (Hnx.out hx)
        rw [hx] at Hix
        clear hx
        go_wp2_with (first
          | (with_reducible refine rg ?_)
          | (with_reducible refine fo ?_)
          | (go_at_call 33;refine Hix.out.mono ?_;rintro e w6 ⟨rfl,hb6⟩;have Hb6:=zH (Hbr.out.drew.step hb6);clear hb6))
        exact ⟨⟨k + 1,by go_num,by omega,Hnx2.out,Hb6.out⟩,by simp [intOf];omega⟩
    · have d9 : decide (k < n.kids.length) = false:=by simp;omega
      have hkk : n.kids.all T.has = true:=by
        rw [List.all_eq_true]
        intro e he
        obtain ⟨j,hj,rfl⟩:=List.mem_iff_getElem.1 he
        exact Hall.out j hj (by omega)
      have Hn:=zH (Hn0.out hkk)
      clear hkk Hn0 HK Hall HA HB hlt
      go_upto_region 6 with fail
      generalize n.kids.length = kl at f4 Hn HS0 ⊢
      generalize n.fields.length = fl at f5 Hn ⊢
      rcases HS0.out with ⟨hk,rfl,rfl,rfl,hS⟩ | ⟨hk,rfl,rfl,rfl,hS⟩ | ⟨hk,rfl,rfl,rfl,hS⟩ | ⟨hk,rfl,rfl,rfl,hS⟩ | ⟨hk,rfl,rfl,rfl,hS⟩ | ⟨hk,rfl,rfl,rfl,hS⟩ | ⟨hk,rfl,rfl,rfl,hS⟩ | ⟨hk,rfl,rfl,rfl,hS⟩ | ⟨hk,rfl,rfl,rfl,hS⟩ | ⟨hk,rfl,rfl,rfl,hS⟩ | ⟨hk,rfl,rfl,rfl,hS⟩ | ⟨hk,rfl,rfl,rfl,hS⟩ | ⟨hk,rfl,rfl,rfl,hS⟩ | ⟨hk,rfl,rfl,rfl,hS⟩ | ⟨hk,rfl,rfl,rfl,hS⟩ | ⟨hk,rfl,rfl,rfl,hS⟩ | ⟨hk,rfl,rfl,rfl,hS⟩ | ⟨hk,rfl,rfl,rfl,hS⟩ | ⟨hk,rfl,rfl,rfl,hS⟩
      all_goals have HS:=zH hS
      all_goals clear hS HS0
      all_goals (first
        | (rw [hk] at f0;clear hk)
        | (obtain ⟨k3, k4, k6, k19, k1, k2, k5, k7, k8, k9, k11, k15, k10, k12, k14, k16, k17, k18, k13⟩ := hk
           replace k3:=bneK k3
           replace k4:=bneK k4
           replace k6:=bneK k6
           replace k19:=bneK k19
           replace k1:=bneK k1
           replace k2:=bneK k2
           replace k5:=bneK k5
           replace k7:=bneK k7
           replace k8:=bneK k8
           replace k9:=bneK k9
           replace k11:=bneK k11
           replace k15:=bneK k15
           replace k10:=bneK k10
           replace k12:=bneK k12
           replace k14:=bneK k14
           replace k16:=bneK k16
           replace k17:=bneK k17
           replace k18:=bneK k18
           replace k13:=bneK k13
           have k13n : (n.kind != 13) = true:=by simp [bne,k13]))
      all_goals (first
        | (have q : TagX false := Q0
           clear q
           by_cases z : n.lo = 0
           rotate_left
           · have e:=(decide_eq_false z)
             have Hr:=zH (show nodeT T n = false by rw [Hn.out,e];simp)
             clear e
             have d0 : (n.lo == 0) = false:=by simp [z]
             have d0n : (n.lo != 0) = true:=by simp [z]
             clear z
             go_wp2
             go_ret
             rw [Hr.out]
             exact ⟨rfl,Hbw.out⟩
           have e:=(decide_eq_true z)
           rw [e] at Hn
           clear e
           have d0 : (n.lo == 0) = true:=by simp [z]
           have d0n : (n.lo != 0) = false:=by simp [z]
           clear z)
        | skip)
      all_goals (first
        | (have q : TagX false := Q0
           clear q
           by_cases z : n.hi = 0
           rotate_left
           · have e:=(decide_eq_false z)
             have Hr:=zH (show nodeT T n = false by rw [Hn.out,e];simp)
             clear e
             have d1 : (n.hi == 0) = false:=by simp [z]
             have d1n : (n.hi != 0) = true:=by simp [z]
             clear z
             go_wp2
             go_ret
             rw [Hr.out]
             exact ⟨rfl,Hbw.out⟩
           have e:=(decide_eq_true z)
           rw [e] at Hn
           clear e
           have d1 : (n.hi == 0) = true:=by simp [z]
           have d1n : (n.hi != 0) = false:=by simp [z]
           clear z)
        | skip)
      all_goals (first
        | (have q : TagX false := Q1
           clear q
           by_cases z : n.text.size = 0
           rotate_left
           · have e:=(decide_eq_false z)
             have Hr:=zH (show nodeT T n = false by rw [Hn.out,e];simp)
             clear e
             have d2 : n.text.toList.isEmpty = false:=(t2h n.text).trans (by simp [z])
             clear z
             go_wp2
             go_ret
             rw [Hr.out]
             exact ⟨rfl,Hbw.out⟩
           have e:=(decide_eq_true z)
           rw [e] at Hn
           clear e
           have d2 : n.text.toList.isEmpty = true:=(t2h n.text).trans (by simp [z])
           clear z)
        | skip)
      all_goals (first
        | (have q := Q0
           clear q
           by_cases z : fl = 0
           rotate_left
           · have e:=(decide_eq_false z)
             have Hr:=zH (show nodeT T n = false by rw [Hn.out,e];simp)
             clear e
             obtain ⟨fm,rfl⟩ : ∃ fm,fl = fm + 1:=⟨fl - 1,by omega⟩
             go_wp2
             go_ret
             rw [Hr.out]
             exact ⟨rfl,Hbw.out⟩
           have e:=(decide_eq_true z)
           rw [e] at Hn
           clear e
           obtain rfl : fl = 0:=z)
        | skip)
      all_goals (first
        | (have q := Q0
           clear q
           by_cases z : n.rest0 = 0
           rotate_left
           · have e:=(decide_eq_false z)
             have Hr:=zH (show nodeT T n = false by rw [Hn.out,e];simp)
             clear e
             have d5 : decide (n.rest0 = 0) = false:=by simp [z]
             clear z
             go_wp2
             go_ret
             rw [Hr.out]
             exact ⟨rfl,Hbw.out⟩
           have e:=(decide_eq_true z)
           rw [e] at Hn
           clear e
           have d5 : decide (n.rest0 = 0) = true:=by simp [z]
           clear z)
        | skip)
      all_goals (first
        | (have q := Q0
           clear q
           by_cases z : n.rest1 = 0
           rotate_left
           · have e:=(decide_eq_false z)
             have Hr:=zH (show nodeT T n = false by rw [Hn.out,e];simp)
             clear e
             have d6 : decide (n.rest1 = 0) = false:=by simp [z]
             clear z
             go_wp2
             go_ret
             rw [Hr.out]
             exact ⟨rfl,Hbw.out⟩
           have e:=(decide_eq_true z)
           rw [e] at Hn
           clear e
           have d6 : decide (n.rest1 = 0) = true:=by simp [z]
           clear z)
        | skip)
      all_goals (first
        | (have q : TagX false := Q2
           clear q
           by_cases z : kl = 0
           rotate_left
           · have e:=(decide_eq_false z)
             have Hr:=zH (show nodeT T n = false by rw [Hn.out,e];simp)
             clear e
             have d3 : ((kl : Int) == 0) = false:=tbg z
             clear z
             go_wp2
             go_ret
             rw [Hr.out]
             exact ⟨rfl,Hbw.out⟩
           have e:=(decide_eq_true z)
           rw [e] at Hn
           clear e
           have d3 : ((kl : Int) == 0) = true:=t9u z
           clear z)
        | skip)
      all_goals have Hr:=zH (show nodeT T n = S by rw [Hn.out];simp)
      all_goals obtain rfl:=HS.out
      rotate_left 2
      · have Hat:=zH (t5b n.text)
        generalize isAtm n.text.data.toList = c at *
        go_wp2_with (go_at_call 97;refine (Hat.out _).mono ?_;rintro e w ⟨rfl,rfl⟩)
        go_ret
        rw [Hr.out]
        exact ⟨rfl,Hbw.out⟩
      · have Hat:=zH (t4s n.text)
        generalize isVrb n.text.data.toList = c at *
        go_wp2_with (go_at_call 96;refine (Hat.out _).mono ?_;rintro e w ⟨rfl,rfl⟩)
        go_ret
        rw [Hr.out]
        exact ⟨rfl,Hbw.out⟩
      rotate_left 10
      · by_cases h1 : 1 ≤ kl
        rotate_left
        · have g1 : decide (1 ≤ (kl : Int)) = false:=by simp;omega
          rw [g1] at Hr
          clear h1
          go_wp2
          go_ret
          rw [Hr.out]
          exact ⟨rfl,Hbw.out⟩
        have g1 : decide (1 ≤ (kl : Int)) = true:=by simp;omega
        rw [g1,Bool.true_and] at Hr
        clear h1
        go_wp2
        go_ret
        rw [Hr.out]
        exact ⟨rfl,Hbw.out⟩
      all_goals
        go_wp2
        go_ret
        rw [Hr.out]
        exact ⟨rfl,Hbw.out⟩
end Go.Proofs.YtjgldaaofdpcgaaGreat
