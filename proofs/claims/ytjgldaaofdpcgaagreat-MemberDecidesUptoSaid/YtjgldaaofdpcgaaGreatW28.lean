/- Walks and plain facts for the laws of membership, for all values and types that the heap holds (texts W4 W5). -/
import Derived.ChangeKeysEq
import Derived.Test.YtjgldaaofdpcgaaGreatW03
import Derived.Test.YtjgldaaofdpcgaaGreatW25
set_option linter.unusedVariables false
set_option linter.unusedSimpArgs false
namespace Go.Proofs.YtjgldaaofdpcgaaGreat
open Go.RowKit Go.Ident
set_option maxRecDepth 100000
theorem tbe (a b : Int) (w : World) : (part 3 #[Value.int .i64 a,.int .i64 b] 0).run Tryz.prog w = .ok (.int .i64 a) w:=by kernel_rfl
theorem tbf (a b : Int) (w : World) : (part 3 #[Value.int .i64 a,.int .i64 b] 1).run Tryz.prog w = .ok (.int .i64 b) w:=by kernel_rfl
theorem tdw (a b : Int) (w : World) : (binOp .eql 46 (.agg #[.int .i64 a,.int .i64 b]) (.agg #[.int .i64 0,.int .i64 0])).run Tryz.prog w = .ok (.bool (decide (a = 0) && decide (b = 0))) w:=by
  obtain ⟨i,hi⟩ : ∃ i,Tryz.prog.info? 3 = some i:=by
    cases h : Tryz.prog.info? 3 with
    | some i=>exact ⟨i,rfl⟩
    | none=>have:=t4h;rw [h] at this;cases this
  have hc : Tryz.prog.cellsOf 3 = 1:=by kernel_rfl
  rw [run_eql_struct,run_equalIn_array w 9999 _ _ (show Tryz.prog.underlying 46 = some (.array 2 3) by kernel_rfl) hi]
  simp only [show List.range 2 = [0,1] from rfl,Op.eqItems,hc,Nat.zero_mul,Nat.one_mul]
  simp only [Sem.run_bind,tbe,tbf,Result.andThen_ok,run_equalIn_int w 9998 3 .i64 .i64 a 0 Tryz.underlying3]
  have e1 : (a == 0) = decide (a = 0):=by rw [Bool.eq_iff_iff];simp
  have e2 : (b == 0) = decide (b = 0):=by rw [Bool.eq_iff_iff];simp
  cases h : a == 0 with
  | false=>rw [← e1,h];simp
  | true =>
    simp only [Bool.not_true,Bool.false_eq_true,if_false,Sem.run_bind,tbe,tbf,Result.andThen_ok,run_equalIn_int w 9998 3 .i64 .i64 b 0 Tryz.underlying3]
    rw [← e1,← e2,h]
    cases h2 : b == 0 <;> simp
theorem tbg {k : Nat} (h : ¬ k = 0) : ((k : Int) == 0) = false:=by rw [Bool.eq_false_iff];intro g;rw [beq_iff_eq] at g;omega
theorem t9u {k : Nat} (h : k = 0) : ((k : Int) == 0) = true:=by rw [beq_iff_eq];omega
inductive TagP : Bool → Prop
  | mk (b : Bool) : TagP b
theorem bneK {k j : Int} (h : k ≠ j) : (k == j) = false:=by rw [Bool.eq_false_iff];intro g;exact h (by simpa using g)
set_option maxHeartbeats 64000000 in
theorem tcv (n : TN) (w : World) (cs : List Value) (h : NC w n cs) : Calls Tryz.prog 51 #[.agg cs.toArray] w (ER (t1t n) w):=by
  obtain ⟨b0,b1,b2,b3,hB⟩ : ∃ b0 b1 b2 b3 : Bool,(n.kind = 3 ∧ b0 = true ∧ b1 = false ∧ b2 = false ∧ b3 = false) ∨ (n.kind = 4 ∧ b0 = false ∧ b1 = true ∧ b2 = false ∧ b3 = false) ∨ (n.kind = 6 ∧ b0 = false ∧ b1 = true ∧ b2 = false ∧ b3 = false) ∨ (n.kind = 19 ∧ b0 = false ∧ b1 = true ∧ b2 = false ∧ b3 = false) ∨ (n.kind = 10 ∧ b0 = false ∧ b1 = false ∧ b2 = true ∧ b3 = false) ∨ (n.kind = 12 ∧ b0 = false ∧ b1 = false ∧ b2 = true ∧ b3 = false) ∨ (n.kind = 14 ∧ b0 = false ∧ b1 = false ∧ b2 = true ∧ b3 = false) ∨ (n.kind = 16 ∧ b0 = false ∧ b1 = false ∧ b2 = true ∧ b3 = false) ∨ (n.kind = 17 ∧ b0 = false ∧ b1 = false ∧ b2 = true ∧ b3 = false) ∨ (n.kind = 18 ∧ b0 = false ∧ b1 = false ∧ b2 = true ∧ b3 = false) ∨ (n.kind = 13 ∧ b0 = false ∧ b1 = false ∧ b2 = false ∧ b3 = true) ∨ ((n.kind ≠ 3 ∧ n.kind ≠ 4 ∧ n.kind ≠ 6 ∧ n.kind ≠ 19 ∧ n.kind ≠ 10 ∧ n.kind ≠ 12 ∧ n.kind ≠ 14 ∧ n.kind ≠ 16 ∧ n.kind ≠ 17 ∧ n.kind ≠ 18 ∧ n.kind ≠ 13) ∧ b0 = false ∧ b1 = false ∧ b2 = false ∧ b3 = false):=by
    by_cases h : n.kind ≠ 3 ∧ n.kind ≠ 4 ∧ n.kind ≠ 6 ∧ n.kind ≠ 19 ∧ n.kind ≠ 10 ∧ n.kind ≠ 12 ∧ n.kind ≠ 14 ∧ n.kind ≠ 16 ∧ n.kind ≠ 17 ∧ n.kind ≠ 18 ∧ n.kind ≠ 13
    · exact ⟨false,false,false,false,by simp [h]⟩
    rcases (show n.kind = 3 ∨ n.kind = 4 ∨ n.kind = 6 ∨ n.kind = 19 ∨ n.kind = 10 ∨ n.kind = 12 ∨ n.kind = 14 ∨ n.kind = 16 ∨ n.kind = 17 ∨ n.kind = 18 ∨ n.kind = 13 by omega) with h | h | h | h | h | h | h | h | h | h | h
    · exact ⟨true,false,false,false,by simp [h]⟩
    · exact ⟨false,true,false,false,by simp [h]⟩
    · exact ⟨false,true,false,false,by simp [h]⟩
    · exact ⟨false,true,false,false,by simp [h]⟩
    · exact ⟨false,false,true,false,by simp [h]⟩
    · exact ⟨false,false,true,false,by simp [h]⟩
    · exact ⟨false,false,true,false,by simp [h]⟩
    · exact ⟨false,false,true,false,by simp [h]⟩
    · exact ⟨false,false,true,false,by simp [h]⟩
    · exact ⟨false,false,true,false,by simp [h]⟩
    · exact ⟨false,false,false,true,by simp [h]⟩
  have Hn:=zH (show t1t n = ((b0 || decide (n.lo = 0)) && (b0 || decide (n.hi = 0)) && (b1 || decide (n.text.size = 0)) && (b2 || n.kids.isEmpty) && (b3 || n.fields.isEmpty) && (b3 || decide (n.rest0 = 0)) && (b3 || decide (n.rest1 = 0))) by
    rcases hB with ⟨hk,rfl,rfl,rfl,rfl⟩ | ⟨hk,rfl,rfl,rfl,rfl⟩ | ⟨hk,rfl,rfl,rfl,rfl⟩ | ⟨hk,rfl,rfl,rfl,rfl⟩ | ⟨hk,rfl,rfl,rfl,rfl⟩ | ⟨hk,rfl,rfl,rfl,rfl⟩ | ⟨hk,rfl,rfl,rfl,rfl⟩ | ⟨hk,rfl,rfl,rfl,rfl⟩ | ⟨hk,rfl,rfl,rfl,rfl⟩ | ⟨hk,rfl,rfl,rfl,rfl⟩ | ⟨hk,rfl,rfl,rfl,rfl⟩ | ⟨hk,rfl,rfl,rfl,rfl⟩
    all_goals
      unfold t1t textK kidsK
      simp [hk]
      try ac_rfl)
  obtain ⟨p1,c1,p2,c2,rfl,-,-⟩:=h
  have HB:=zH hB
  have Q0:=TagP.mk b0;have Q1:=TagP.mk b1;have Q2:=TagP.mk b2;have Q3:=TagP.mk b3
  have he:=tdw n.rest0 n.rest1
  clear hB
  go_enter Tryz.func51,Tryz.ntmps51
  go_upto_region 1 with fail
  have hA:=heap_alloc_new w (.cells #[.int .i64 n.kind,.int .i64 n.lo,.int .i64 n.hi,.string n.text,.slice p1 n.kids.length c1,.slice p2 n.fields.length c2,.int .i64 n.rest0,.int .i64 n.rest1] 48)
  have hb : Below w.heap.size w (w.alloc (.cells #[.int .i64 n.kind,.int .i64 n.lo,.int .i64 n.hi,.string n.text,.slice p1 n.kids.length c1,.slice p2 n.fields.length c2,.int .i64 n.rest0,.int .i64 n.rest1] 48)):=(Below.refl _ _).alloc (Nat.le_refl _) _
  generalize w.alloc (.cells #[.int .i64 n.kind,.int .i64 n.lo,.int .i64 n.hi,.string n.text,.slice p1 n.kids.length c1,.slice p2 n.fields.length c2,.int .i64 n.rest0,.int .i64 n.rest1] 48) = w2 at *
  have Hb:=zH hb
  obtain ⟨⟨f0,f1,f2,f3⟩,f4,f5,f6,f7⟩:=t0y hA
  clear hA hb
  rcases HB.out with ⟨hk,rfl,rfl,rfl,rfl⟩ | ⟨hk,rfl,rfl,rfl,rfl⟩ | ⟨hk,rfl,rfl,rfl,rfl⟩ | ⟨hk,rfl,rfl,rfl,rfl⟩ | ⟨hk,rfl,rfl,rfl,rfl⟩ | ⟨hk,rfl,rfl,rfl,rfl⟩ | ⟨hk,rfl,rfl,rfl,rfl⟩ | ⟨hk,rfl,rfl,rfl,rfl⟩ | ⟨hk,rfl,rfl,rfl,rfl⟩ | ⟨hk,rfl,rfl,rfl,rfl⟩ | ⟨hk,rfl,rfl,rfl,rfl⟩ | ⟨hk,rfl,rfl,rfl,rfl⟩
  all_goals (first
    | (rw [hk] at f0;clear hk)
    | (obtain ⟨k3, k4, k6, k19, k10, k12, k14, k16, k17, k18, k13⟩ := hk
       replace k3:=bneK k3
       replace k4:=bneK k4
       replace k6:=bneK k6
       replace k19:=bneK k19
       replace k10:=bneK k10
       replace k12:=bneK k12
       replace k14:=bneK k14
       replace k16:=bneK k16
       replace k17:=bneK k17
       replace k18:=bneK k18
       replace k13:=bneK k13))
  all_goals (first
    | (have q : TagP false := Q0
       clear q
       by_cases z : n.lo = 0
       rotate_left
       · have e:=(decide_eq_false z)
         have Hr:=zH (show t1t n = false by rw [Hn.out,e];simp)
         have d0 : (n.lo == 0) = false:=by simp [z]
         clear z e
         go_wp2
         go_ret
         rw [Hr.out]
         exact ⟨rfl,Hb.out⟩
       have e:=(decide_eq_true z)
       have d0 : (n.lo == 0) = true:=by simp [z]
       rw [e] at Hn
       clear z e)
    | skip)
  all_goals (first
    | (have q : TagP false := Q0
       clear q
       by_cases z : n.hi = 0
       rotate_left
       · have e:=(decide_eq_false z)
         have Hr:=zH (show t1t n = false by rw [Hn.out,e];simp)
         have d1 : (n.hi == 0) = false:=by simp [z]
         clear z e
         go_wp2
         go_ret
         rw [Hr.out]
         exact ⟨rfl,Hb.out⟩
       have e:=(decide_eq_true z)
       have d1 : (n.hi == 0) = true:=by simp [z]
       rw [e] at Hn
       clear z e)
    | skip)
  all_goals (first
    | (have q : TagP false := Q1
       clear q
       by_cases z : n.text.size = 0
       rotate_left
       · have e:=(decide_eq_false z)
         have Hr:=zH (show t1t n = false by rw [Hn.out,e];simp)
         have d2 : n.text.toList.isEmpty = false:=(t2h n.text).trans (by simp [z])
         clear z e
         go_wp2
         go_ret
         rw [Hr.out]
         exact ⟨rfl,Hb.out⟩
       have e:=(decide_eq_true z)
       have d2 : n.text.toList.isEmpty = true:=(t2h n.text).trans (by simp [z])
       rw [e] at Hn
       clear z e)
    | skip)
  all_goals (first
    | (have q : TagP false := Q2
       clear q
       by_cases z : n.kids.length = 0
       rotate_left
       · have e:=(show n.kids.isEmpty = false by cases h : n.kids <;> simp_all)
         have Hr:=zH (show t1t n = false by rw [Hn.out,e];simp)
         have d3 : ((n.kids.length : Int) == 0) = false:=tbg z
         clear z e
         go_wp2
         go_ret
         rw [Hr.out]
         exact ⟨rfl,Hb.out⟩
       have e:=(show n.kids.isEmpty = true by cases h : n.kids <;> simp_all)
       have d3 : ((n.kids.length : Int) == 0) = true:=t9u z
       rw [e] at Hn
       clear z e)
    | skip)
  all_goals (first
    | (have q : TagP false := Q3
       clear q
       by_cases z : n.fields.length = 0
       rotate_left
       · have e:=(show n.fields.isEmpty = false by cases h : n.fields <;> simp_all)
         have Hr:=zH (show t1t n = false by rw [Hn.out,e];simp)
         have d4 : ((n.fields.length : Int) == 0) = false:=tbg z
         clear z e
         go_wp2
         go_ret
         rw [Hr.out]
         exact ⟨rfl,Hb.out⟩
       have e:=(show n.fields.isEmpty = true by cases h : n.fields <;> simp_all)
       have d4 : ((n.fields.length : Int) == 0) = true:=t9u z
       rw [e] at Hn
       clear z e)
    | skip)
  all_goals (first
    | (have q : TagP false := Q3
       clear q
       by_cases z : n.rest0 = 0
       rotate_left
       · have e:=(decide_eq_false z)
         have Hr:=zH (show t1t n = false by rw [Hn.out,e];simp)
         have d5 : decide (n.rest0 = 0) = false:=by simp [z]
         clear z e
         go_wp2
         go_ret
         rw [Hr.out]
         exact ⟨rfl,Hb.out⟩
       have e:=(decide_eq_true z)
       have d5 : decide (n.rest0 = 0) = true:=by simp [z]
       rw [e] at Hn
       clear z e)
    | skip)
  all_goals (first
    | (have q : TagP false := Q3
       clear q
       by_cases z : n.rest1 = 0
       rotate_left
       · have e:=(decide_eq_false z)
         have Hr:=zH (show t1t n = false by rw [Hn.out,e];simp)
         have d6 : decide (n.rest1 = 0) = false:=by simp [z]
         clear z e
         go_wp2
         go_ret
         rw [Hr.out]
         exact ⟨rfl,Hb.out⟩
       have e:=(decide_eq_true z)
       have d6 : decide (n.rest1 = 0) = true:=by simp [z]
       rw [e] at Hn
       clear z e)
    | skip)
  all_goals
    have Hr:=zH (show t1t n = true by rw [Hn.out];simp)
    go_wp2
    go_ret
    rw [Hr.out]
    exact ⟨rfl,Hb.out⟩
end Go.Proofs.YtjgldaaofdpcgaaGreat
namespace Go.Proofs.YtjgldaaofdpcgaaGreat
open Go.RowKit Go.Ident
set_option maxRecDepth 100000
set_option maxHeartbeats 64000000 in
theorem tjv (n : TN) (hq : (n.kind = 1 ∨ n.kind = 2 ∨ n.kind = 5 ∨ n.kind = 7 ∨ n.kind = 8 ∨ n.kind = 9 ∨ n.kind = 11 ∨ n.kind = 15) ∨ (n.kind = 3) ∨ (n.kind = 4) ∨ (n.kind = 6) ∨ (n.kind = 19) ∨ (n.kind = 10) ∨ (n.kind = 12) ∨ (n.kind = 14) ∨ (n.kind = 16 ∨ n.kind = 17) ∨ (n.kind = 18)) (w : World) (cs : List Value) (h : NC w n cs) : Calls Tryz.prog 52 #[.agg cs.toArray] w (ER (kindN n) w):=by
  have Hq:=zH hq
  obtain ⟨p1,c1,p2,c2,rfl,-,-⟩:=h
  clear hq
  go_enter Tryz.func52,Tryz.ntmps52
  go_upto_region 1 with fail
  have hA:=heap_alloc_new w (.cells #[.int .i64 n.kind,.int .i64 n.lo,.int .i64 n.hi,.string n.text,.slice p1 n.kids.length c1,.slice p2 n.fields.length c2,.int .i64 n.rest0,.int .i64 n.rest1] 48)
  have hb : Below w.heap.size w (w.alloc (.cells #[.int .i64 n.kind,.int .i64 n.lo,.int .i64 n.hi,.string n.text,.slice p1 n.kids.length c1,.slice p2 n.fields.length c2,.int .i64 n.rest0,.int .i64 n.rest1] 48)):=(Below.refl _ _).alloc (Nat.le_refl _) _
  generalize w.alloc (.cells #[.int .i64 n.kind,.int .i64 n.lo,.int .i64 n.hi,.string n.text,.slice p1 n.kids.length c1,.slice p2 n.fields.length c2,.int .i64 n.rest0,.int .i64 n.rest1] 48) = w2 at *
  have Hb:=zH hb
  obtain ⟨⟨f0,f1,f2,f3⟩,f4,f5,f6,f7⟩:=t0y hA
  clear hA hb
  rcases Hq.out with hk | hk | hk | hk | hk | hk | hk | hk | hk | hk
  · rcases hk with hk | hk | hk | hk | hk | hk | hk | hk
    all_goals
      have Hr:=zH (show kindN n = (true) by unfold kindN;simp [hk])
      rw [hk] at f0;clear hk
      go_wp2
      go_ret
      rw [Hr.out]
      exact ⟨rfl,Hb.out⟩
  · have Hr:=zH (show kindN n = (decide (n.lo ≤ n.hi)) by unfold kindN;simp [hk])
    rw [hk] at f0;clear hk
    by_cases hs : n.lo ≤ n.hi
    · have q : decide (n.lo ≤ n.hi) = true:=by simp [hs]
      rw [q] at Hr
      clear hs
      go_wp2
      go_ret
      rw [Hr.out]
      exact ⟨rfl,Hb.out⟩
    · have q : decide (n.lo ≤ n.hi) = false:=by simp [hs]
      rw [q] at Hr
      clear hs
      go_wp2
      go_ret
      rw [Hr.out]
      exact ⟨rfl,Hb.out⟩
  · have Hr:=zH (show kindN n = (decide (n.text.size ≤ 64)) by unfold kindN;simp [hk])
    rw [hk] at f0;clear hk
    by_cases hs : n.text.size ≤ 64
    · have q : decide (n.text.size ≤ 64) = true:=by simp [hs]
      have d0 : decide ((n.text.size : Int) ≤ 64) = true:=by simp;omega
      rw [q] at Hr
      clear hs q
      go_wp2
      go_ret
      rw [Hr.out]
      exact ⟨rfl,Hb.out⟩
    · have q : decide (n.text.size ≤ 64) = false:=by simp [hs]
      have d0 : decide ((n.text.size : Int) ≤ 64) = false:=by simp;omega
      rw [q] at Hr
      clear hs q
      go_wp2
      go_ret
      rw [Hr.out]
      exact ⟨rfl,Hb.out⟩
  · have Hr:=zH (show kindN n = (isAtm n.text.data.toList) by unfold kindN;simp [hk])
    rw [hk] at f0;clear hk
    have Hat:=zH (t8g n.text w2)
    generalize isAtm n.text.data.toList = c at *
    go_wp2_with (go_at_call 86;refine Hat.out.mono ?_;rintro e w2 ⟨rfl,rfl⟩)
    go_ret
    rw [Hr.out]
    exact ⟨rfl,Hb.out⟩
  · have Hr:=zH (show kindN n = (isVrb n.text.data.toList) by unfold kindN;simp [hk])
    rw [hk] at f0;clear hk
    have Hat:=zH (t7k n.text w2)
    generalize isVrb n.text.data.toList = c at *
    go_wp2_with (go_at_call 87;refine Hat.out.mono ?_;rintro e w2 ⟨rfl,rfl⟩)
    go_ret
    rw [Hr.out]
    exact ⟨rfl,Hb.out⟩
  · have Hr:=zH (show kindN n = (decide (n.kids.length ≤ 4)) by unfold kindN;simp [hk])
    rw [hk] at f0;clear hk
    by_cases hs : n.kids.length ≤ 4
    · have q : decide (n.kids.length ≤ 4) = true:=by simp [hs]
      have d0 : decide ((n.kids.length : Int) ≤ 4) = true:=by simp;omega
      rw [q] at Hr
      clear hs q
      go_wp2
      go_ret
      rw [Hr.out]
      exact ⟨rfl,Hb.out⟩
    · have q : decide (n.kids.length ≤ 4) = false:=by simp [hs]
      have d0 : decide ((n.kids.length : Int) ≤ 4) = false:=by simp;omega
      rw [q] at Hr
      clear hs q
      go_wp2
      go_ret
      rw [Hr.out]
      exact ⟨rfl,Hb.out⟩
  · have Hr:=zH (show kindN n = (decide (n.kids.length = 2)) by unfold kindN;simp [hk])
    rw [hk] at f0;clear hk
    by_cases hs : n.kids.length = 2
    · have q : decide (n.kids.length = 2) = true:=by simp [hs]
      have d0 : ((n.kids.length : Int) == 2) = true:=by simp;omega
      rw [q] at Hr
      clear hs q
      go_wp2
      go_ret
      rw [Hr.out]
      exact ⟨rfl,Hb.out⟩
    · have q : decide (n.kids.length = 2) = false:=by simp [hs]
      have d0 : ((n.kids.length : Int) == 2) = false:=by simp;omega
      rw [q] at Hr
      clear hs q
      go_wp2
      go_ret
      rw [Hr.out]
      exact ⟨rfl,Hb.out⟩
  · have Hr:=zH (show kindN n = (decide (1 ≤ n.kids.length) && decide (n.kids.length ≤ 5)) by unfold kindN;simp [hk])
    rw [hk] at f0;clear hk
    by_cases h1 : 1 ≤ n.kids.length
    rotate_left
    · have d0 : decide (1 ≤ (n.kids.length : Int)) = false:=by simp;omega
      have Hr2:=zH (show kindN n = false by rw [Hr.out];simp;omega)
      clear h1
      go_wp2
      go_ret
      rw [Hr2.out]
      exact ⟨rfl,Hb.out⟩
    have d0 : decide (1 ≤ (n.kids.length : Int)) = true:=by simp;omega
    by_cases h2 : n.kids.length ≤ 5
    · have d1 : decide ((n.kids.length : Int) ≤ 5) = true:=by simp;omega
      have Hr2:=zH (show kindN n = true by rw [Hr.out];simp [h1,h2])
      clear h1 h2
      go_wp2
      go_ret
      rw [Hr2.out]
      exact ⟨rfl,Hb.out⟩
    · have d1 : decide ((n.kids.length : Int) ≤ 5) = false:=by simp;omega
      have Hr2:=zH (show kindN n = false by rw [Hr.out];simp [h2])
      clear h1 h2
      go_wp2
      go_ret
      rw [Hr2.out]
      exact ⟨rfl,Hb.out⟩
  · rcases hk with hk | hk
    all_goals
      have Hr:=zH (show kindN n = (decide (1 ≤ n.kids.length)) by unfold kindN;simp [hk])
      rw [hk] at f0;clear hk
      by_cases hs : 1 ≤ n.kids.length
      · have q : decide (1 ≤ n.kids.length) = true:=by simp [hs]
        have d0 : decide (1 ≤ (n.kids.length : Int)) = true:=by simp;omega
        rw [q] at Hr
        clear hs q
        go_wp2
        go_ret
        rw [Hr.out]
        exact ⟨rfl,Hb.out⟩
      · have q : decide (1 ≤ n.kids.length) = false:=by simp [hs]
        have d0 : decide (1 ≤ (n.kids.length : Int)) = false:=by simp;omega
        rw [q] at Hr
        clear hs q
        go_wp2
        go_ret
        rw [Hr.out]
        exact ⟨rfl,Hb.out⟩
  · have Hr:=zH (show kindN n = (decide (n.kids.length = 1)) by unfold kindN;simp [hk])
    rw [hk] at f0;clear hk
    by_cases hs : n.kids.length = 1
    · have q : decide (n.kids.length = 1) = true:=by simp [hs]
      have d0 : ((n.kids.length : Int) == 1) = true:=by simp;omega
      rw [q] at Hr
      clear hs q
      go_wp2
      go_ret
      rw [Hr.out]
      exact ⟨rfl,Hb.out⟩
    · have q : decide (n.kids.length = 1) = false:=by simp [hs]
      have d0 : ((n.kids.length : Int) == 1) = false:=by simp;omega
      rw [q] at Hr
      clear hs q
      go_wp2
      go_ret
      rw [Hr.out]
      exact ⟨rfl,Hb.out⟩
end Go.Proofs.YtjgldaaofdpcgaaGreat
