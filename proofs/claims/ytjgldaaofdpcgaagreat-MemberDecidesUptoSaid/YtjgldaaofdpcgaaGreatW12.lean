/- Walks and plain facts for the laws of membership, for all values and types that the heap holds (texts K4 K5). -/
import Derived.Test.YtjgldaaofdpcgaaGreatW03
import Derived.Test.YtjgldaaofdpcgaaGreatW11
set_option linter.unusedVariables false
set_option linter.unusedSimpArgs false
namespace Go.Proofs.YtjgldaaofdpcgaaGreat
open Go.RowKit
set_option maxRecDepth 100000
theorem t4c (w : World) : VS w 1 zeroV [.int .i64 0,.int .i64 0,.string ⟨#[]⟩,.slice none 0 0,.slice none 0 0,.slice none 0 0,.slice none 0 0] :=
  ⟨none,0,none,0,none,0,none,0,rfl,Rw.nil _ _ _ _ _,Rw.nil _ _ _ _ _,Rw.nil _ _ _ _ _,Rw.nil _ _ _ _ _⟩
theorem tez (x : Int) : (x == 0) = decide (x = 0):=by rw [Bool.eq_iff_iff];simp
set_option maxHeartbeats 8000000 in
theorem tc6 (a b : VV) (w : World) (u v : Value) (hu : VW w u a) (hv : VW w v b) : Calls Tryz.prog 139 #[u,v] w (ER (decide (cmpV a b = 0)) w):=by
  have Hu:=zH hu;have Hv:=zH hv
  obtain ⟨_,q1,q2,q3,q4,q5,q6,q7,q8,rfl,-,-,-,-,-⟩:=hu.ex
  obtain ⟨_,r1,r2,r3,r4,r5,r6,r7,r8,rfl,-,-,-,-,-⟩:=hv.ex
  clear hu hv
  rw [← tez]
  go_enter Tryz.func139,Tryz.ntmps139
  go_upto_region 1 with fail
  obtain ⟨w2,e9,hA,hB,hb⟩:=t1f w (.cells #[.int .i64 a.kind,.int .i64 a.num,.string a.text,.slice q1 a.kids.length q2,.slice q3 a.keys.length q4,.slice q5 a.ents.length q6,.slice q7 a.labels.length q8] 28) (.cells #[.int .i64 b.kind,.int .i64 b.num,.string b.text,.slice r1 b.kids.length r2,.slice r3 b.keys.length r4,.slice r5 b.ents.length r6,.slice r7 b.labels.length r8] 28)
  rw [e9]
  have Hb:=zH hb
  obtain ⟨⟨f0,f1,f2,f3⟩,f4,f5,f6⟩:=t0f hA
  obtain ⟨⟨g0,g1,g2,g3⟩,g4,g5,g6⟩:=t0f hB
  have Hc:=zH (t5w a b w2 _ _ (Hu.out.below hb) (Hv.out.below hb))
  have Hc2:=zH (t5w a b w2.drew _ _ (Hu.out.below hb.drew) (Hv.out.below hb.drew))
  clear e9 hA hB hb
  generalize cmpV a b = c at *
  go_wp2_with (first
    | (with_reducible refine rg ?_)
            | (with_reducible refine fo ?_)
    | (go_at_call 130;refine Hc2.out.mono ?_;rintro e w6 ⟨rfl,q⟩;have Hb6:=zH (Hb.out.drew.step q);clear q)
    | (go_at_call 130;refine Hc.out.mono ?_;rintro e w6 ⟨rfl,q⟩;have Hb6:=zH (Hb.out.step q);clear q))
  go_ret
  exact ⟨rfl,Hb6.out⟩
set_option maxHeartbeats 8000000 in
theorem tfn (a : VV) (w : World) (u : Value) (hu : VW w u a) : Calls Tryz.prog 131 #[u] w (ER (decide (cmpV a zeroV = 0)) w):=by
  have Hu:=zH hu
  obtain ⟨_,q1,q2,q3,q4,q5,q6,q7,q8,rfl,-,-,-,-,-⟩:=hu.ex
  clear hu
  go_enter Tryz.func131,Tryz.ntmps131
  go_upto_region 1 with fail
  have hA:=heap_alloc_new w (.cells #[.int .i64 a.kind,.int .i64 a.num,.string a.text,.slice q1 a.kids.length q2,.slice q3 a.keys.length q4,.slice q5 a.ents.length q6,.slice q7 a.labels.length q8] 28)
  have hb : Below w.heap.size w (w.alloc (.cells #[.int .i64 a.kind,.int .i64 a.num,.string a.text,.slice q1 a.kids.length q2,.slice q3 a.keys.length q4,.slice q5 a.ents.length q6,.slice q7 a.labels.length q8] 28)):=(Below.refl _ _).alloc (Nat.le_refl _) _
  generalize w.alloc (.cells #[.int .i64 a.kind,.int .i64 a.num,.string a.text,.slice q1 a.kids.length q2,.slice q3 a.keys.length q4,.slice q5 a.ents.length q6,.slice q7 a.labels.length q8] 28) = w2 at *
  have Hb:=zH hb
  obtain ⟨⟨f0,f1,f2,f3⟩,f4,f5,f6⟩:=t0f hA
  have Hc:=zH (tc6 a zeroV w2 _ (.agg #[.int .i64 0,.int .i64 0,.string ⟨#[]⟩,.slice none 0 0,.slice none 0 0,.slice none 0 0,.slice none 0 0]) (Hu.out.below hb) ⟨1,_,rfl,t4c _⟩)
  have Hc2:=zH (tc6 a zeroV w2.drew _ (.agg #[.int .i64 0,.int .i64 0,.string ⟨#[]⟩,.slice none 0 0,.slice none 0 0,.slice none 0 0,.slice none 0 0]) (Hu.out.below hb.drew) ⟨1,_,rfl,t4c _⟩)
  clear hA hb
  go_wp2_with (first
    | (with_reducible refine rg ?_)
            | (with_reducible refine fo ?_)
    | (go_at_call 139;refine Hc2.out.mono ?_;rintro e w6 ⟨rfl,q⟩;have Hb6:=zH (Hb.out.drew.step q);clear q)
    | (go_at_call 139;refine Hc.out.mono ?_;rintro e w6 ⟨rfl,q⟩;have Hb6:=zH (Hb.out.step q);clear q))
  go_ret
  exact ⟨rfl,Hb6.out⟩
theorem asc_iff {α : Type} {f : α → α → Int} : ∀ {l : List α},ascL f l = true ↔ ∀ j (h : j + 1 < l.length),f (l[j]'(by omega)) l[j + 1] < 0
  | []=>by simp [ascL]
  | [x]=>by simp [ascL]
  | x :: y :: r=>by
    rw [ascL,Bool.and_eq_true,decide_eq_true_eq,asc_iff (l:=y :: r)]
    constructor
    · rintro ⟨h1,h2⟩ j hj
      cases j with
      | zero=>exact h1
      | succ j=>exact h2 j (by simpa using hj)
    · intro h
      exact ⟨h 0 (by simp),fun j hj=>h (j + 1) (by simpa using hj)⟩
set_option maxHeartbeats 16000000 in
theorem ths (l : List KK) (w : World) (u : Value) (ha : KY w u l) : Calls Tryz.prog 123 #[u,.func (.func 116) #[] #[]] w (ER (ascL cmpK l) w):=by
  have HA:=zH ha
  have hL : l.length ≤ 9223372036854775807:=by obtain ⟨_,_,_,h⟩:=ha;exact h.big
  obtain ⟨pa,ca,rfl,-⟩:=ha
  go_enter Tryz.func123,Tryz.ntmps123
  go_wp2
  go_loopw [5] (fun i wr=>∃ k : Nat,i = .int .i64 ((k + 1 : Nat) : Int) ∧ k ≤ l.length ∧ (∀ j (h : j + 1 < l.length),j < k → cmpK (l[j]'(by omega)) l[j + 1] < 0) ∧ Below w.heap.size w wr) (fun i _=>l.length + 1 - (intOf i).toNat)
  case atStart=>exact ⟨0,rfl,by omega,fun j _ h=>by omega,Below.refl _ _⟩
  case round =>
    obtain ⟨k,rfl,hk,hall,hb⟩:=hrel
    have Hall:=zH hall;have Hb:=zH hb;clear hall hb
    by_cases hk1 : k + 1 < l.length
    · have hk0 : k < l.length:=by omega
      obtain ⟨py,cy,ey,hry⟩:=HA.out.below Hb.out
      injection ey with ey1 _ ey3
      subst ey1 ey3
      obtain ⟨ay,oy,rfl,haby,y0,y1⟩:=hry.key hk0
      clear hry
      obtain ⟨pz,cz,ez,hrz⟩:=HA.out.below Hb.out
      injection ez with ez1 _ ez3
      subst ez1 ez3
      obtain ⟨az,oz,epz,habz,z0,z1⟩:=hrz.key hk1
      injection epz with epz
      injection epz with epz1 epz2
      subst epz1 epz2
      clear hrz
      have Hcall:=zH (tah (l[k]) (l[k + 1]) wr.drew)
      have Hno:=zH (show ¬ cmpK l[k] l[k + 1] < 0 → ascL cmpK l = false from fun h=>by
        rw [Bool.eq_false_iff];intro h2;exact h (asc_iff.1 h2 k hk1))
      have Hnx:=zH (show cmpK l[k] l[k + 1] < 0 → ∀ j (h : j + 1 < l.length),j < k + 1 → cmpK (l[j]'(by omega)) l[j + 1] < 0 from fun g j h hjk=>by
        rcases Nat.lt_succ_iff_lt_or_eq.1 hjk with g2 | rfl
        · exact Hall.out j h g2
        · exact g)
      generalize l[k] = X at *
      generalize l[k + 1] = Y at *
      by_cases hz : cmpK X Y < 0
      · have Hnx2:=zH (Hnx.out hz)
        have d1 : decide (0 ≤ cmpK X Y) = false:=by simp;omega
        clear hz
        generalize cmpK X Y = c at *
        go_wp2_with (first
          | (with_reducible refine rg ?_)
            | (with_reducible refine fo ?_)
          | (go_at_call 116;refine Hcall.out.mono ?_;rintro e w6 ⟨rfl,hb6⟩;have Hb6:=zH (Hb.out.drew.step hb6);clear hb6))
        exact ⟨⟨k + 1,by go_num,by omega,Hnx2.out,Hb6.out⟩,by simp [intOf];omega⟩
      · have Hf:=zH (Hno.out hz)
        have d1 : decide (0 ≤ cmpK X Y) = true:=by simp;omega
        clear hz
        generalize cmpK X Y = c at *
        go_wp2_with (first
          | (with_reducible refine rg ?_)
            | (with_reducible refine fo ?_)
          | (go_at_call 116;refine Hcall.out.mono ?_;rintro e w6 ⟨rfl,hb6⟩;have Hb6:=zH (Hb.out.drew.step hb6);clear hb6))
        go_ret
        rw [Hf.out]
        exact ⟨rfl,Hb6.out⟩
    · have Hy:=zH (show ascL cmpK l = true from asc_iff.2 fun j h=>Hall.out j h (by omega))
      have d9 : decide (k + 1 < l.length) = false:=by simp;omega
      go_wp2
      go_ret
      rw [Hy.out]
      exact ⟨rfl,Hb.out⟩
set_option maxHeartbeats 16000000 in
theorem tht (l : List EE) (w : World) (u : Value) (ha : EY w u l) : Calls Tryz.prog 124 #[u,.func (.func 125) #[] #[]] w (ER (ascL cmpE l) w):=by
  have HA:=zH ha
  have hL : l.length ≤ 9223372036854775807:=by obtain ⟨_,_,_,_,h⟩:=ha;exact h.big
  obtain ⟨_,pa,ca,rfl,-⟩:=ha
  go_enter Tryz.func124,Tryz.ntmps124
  go_wp2
  go_loopw [5] (fun i wr=>∃ k : Nat,i = .int .i64 ((k + 1 : Nat) : Int) ∧ k ≤ l.length ∧ (∀ j (h : j + 1 < l.length),j < k → cmpE (l[j]'(by omega)) l[j + 1] < 0) ∧ Below w.heap.size w wr) (fun i _=>l.length + 1 - (intOf i).toNat)
  case atStart=>exact ⟨0,rfl,by omega,fun j _ h=>by omega,Below.refl _ _⟩
  case round =>
    obtain ⟨k,rfl,hk,hall,hb⟩:=hrel
    have Hall:=zH hall;have Hb:=zH hb;clear hall hb
    by_cases hk1 : k + 1 < l.length
    · have hk0 : k < l.length:=by omega
      obtain ⟨dy,py,cy,ey,hry⟩:=HA.out.below Hb.out
      injection ey with ey1 _ ey3
      subst ey1 ey3
      obtain ⟨ay,oy,csy,rfl,haby,-,hrgy,hPy⟩:=hry.at hk0
      obtain ⟨q1,q2,q3,q4,q5,q6,q7,q8,q9,qa,rfl⟩:=hPy.nine
      have y0:=hrgy 0 _ rfl
      have y1:=hrgy 1 _ rfl
      have y2:=hrgy 2 _ rfl
      have y3:=hrgy 3 _ rfl
      have y4:=hrgy 4 _ rfl
      have y5:=hrgy 5 _ rfl
      have y6:=hrgy 6 _ rfl
      have y7:=hrgy 7 _ rfl
      have y8:=hrgy 8 _ rfl
      rw [Nat.add_zero] at y0
      have HPy:=zH hPy
      clear hry hrgy hPy
      obtain ⟨dz,pz,cz,ez,hrz⟩:=HA.out.below Hb.out
      injection ez with ez1 _ ez3
      subst ez1 ez3
      obtain ⟨az,oz,csz,epz,habz,-,hrgz,hPz⟩:=hrz.at hk1
      obtain ⟨r1,r2,r3,r4,r5,r6,r7,r8,r9,ra,rfl⟩:=hPz.nine
      have z0:=hrgz 0 _ rfl
      have z1:=hrgz 1 _ rfl
      have z2:=hrgz 2 _ rfl
      have z3:=hrgz 3 _ rfl
      have z4:=hrgz 4 _ rfl
      have z5:=hrgz 5 _ rfl
      have z6:=hrgz 6 _ rfl
      have z7:=hrgz 7 _ rfl
      have z8:=hrgz 8 _ rfl
      rw [Nat.add_zero] at z0
      have HPz:=zH hPz
      injection epz with epz
      injection epz with epz1 epz2
      subst epz1 epz2
      clear hrz hrgz hPz
      have Hcall:=zH (t9g (l[k]) (l[k + 1]) wr.drew _ _ _ _ (HPy.out.below (Below.refl _ _).drew) (HPz.out.below (Below.refl _ _).drew))
      have Hno:=zH (show ¬ cmpE l[k] l[k + 1] < 0 → ascL cmpE l = false from fun h=>by
        rw [Bool.eq_false_iff];intro h2;exact h (asc_iff.1 h2 k hk1))
      have Hnx:=zH (show cmpE l[k] l[k + 1] < 0 → ∀ j (h : j + 1 < l.length),j < k + 1 → cmpE (l[j]'(by omega)) l[j + 1] < 0 from fun g j h hjk=>by
        rcases Nat.lt_succ_iff_lt_or_eq.1 hjk with g2 | rfl
        · exact Hall.out j h g2
        · exact g)
      generalize l[k] = X at *
      generalize l[k + 1] = Y at *
      by_cases hz : cmpE X Y < 0
      · have Hnx2:=zH (Hnx.out hz)
        have d1 : decide (0 ≤ cmpE X Y) = false:=by simp;omega
        clear hz
        generalize cmpE X Y = c at *
        go_wp2_with (first
          | (with_reducible refine rg ?_)
            | (with_reducible refine fo ?_)
          | (go_at_call 125;refine Hcall.out.mono ?_;rintro e w6 ⟨rfl,hb6⟩;have Hb6:=zH (Hb.out.drew.step hb6);clear hb6))
        exact ⟨⟨k + 1,by go_num,by omega,Hnx2.out,Hb6.out⟩,by simp [intOf];omega⟩
      · have Hf:=zH (Hno.out hz)
        have d1 : decide (0 ≤ cmpE X Y) = true:=by simp;omega
        clear hz
        generalize cmpE X Y = c at *
        go_wp2_with (first
          | (with_reducible refine rg ?_)
            | (with_reducible refine fo ?_)
          | (go_at_call 125;refine Hcall.out.mono ?_;rintro e w6 ⟨rfl,hb6⟩;have Hb6:=zH (Hb.out.drew.step hb6);clear hb6))
        go_ret
        rw [Hf.out]
        exact ⟨rfl,Hb6.out⟩
    · have Hy:=zH (show ascL cmpE l = true from asc_iff.2 fun j h=>Hall.out j h (by omega))
      have d9 : decide (k + 1 < l.length) = false:=by simp;omega
      go_wp2
      go_ret
      rw [Hy.out]
      exact ⟨rfl,Hb.out⟩
set_option maxHeartbeats 16000000 in
theorem thu (l : List ByteArray) (w : World) (u : Value) (ha : SS w u l) : Calls Tryz.prog 121 #[u,.func (.func 122) #[] #[]] w (ER (ascL ordS l) w):=by
  have HA:=zH ha
  have hL : l.length ≤ 9223372036854775807:=by obtain ⟨_,_,_,h⟩:=ha;exact h.big
  obtain ⟨pa,ca,rfl,-⟩:=ha
  go_enter Tryz.func121,Tryz.ntmps121
  go_wp2
  go_loopw [5] (fun i wr=>∃ k : Nat,i = .int .i64 ((k + 1 : Nat) : Int) ∧ k ≤ l.length ∧ (∀ j (h : j + 1 < l.length),j < k → ordS (l[j]'(by omega)) l[j + 1] < 0) ∧ Below w.heap.size w wr) (fun i _=>l.length + 1 - (intOf i).toNat)
  case atStart=>exact ⟨0,rfl,by omega,fun j _ h=>by omega,Below.refl _ _⟩
  case round =>
    obtain ⟨k,rfl,hk,hall,hb⟩:=hrel
    have Hall:=zH hall;have Hb:=zH hb;clear hall hb
    by_cases hk1 : k + 1 < l.length
    · have hk0 : k < l.length:=by omega
      obtain ⟨py,cy,ey,hry⟩:=HA.out.below Hb.out
      injection ey with ey1 _ ey3
      subst ey1 ey3
      obtain ⟨ay,oy,rfl,haby,y0⟩:=hry.str hk0
      clear hry
      obtain ⟨pz,cz,ez,hrz⟩:=HA.out.below Hb.out
      injection ez with ez1 _ ez3
      subst ez1 ez3
      obtain ⟨az,oz,epz,habz,z0⟩:=hrz.str hk1
      injection epz with epz
      injection epz with epz1 epz2
      subst epz1 epz2
      clear hrz
      have Hcall:=zH (tai (l[k]) (l[k + 1]) wr.drew)
      have Hno:=zH (show ¬ ordS l[k] l[k + 1] < 0 → ascL ordS l = false from fun h=>by
        rw [Bool.eq_false_iff];intro h2;exact h (asc_iff.1 h2 k hk1))
      have Hnx:=zH (show ordS l[k] l[k + 1] < 0 → ∀ j (h : j + 1 < l.length),j < k + 1 → ordS (l[j]'(by omega)) l[j + 1] < 0 from fun g j h hjk=>by
        rcases Nat.lt_succ_iff_lt_or_eq.1 hjk with g2 | rfl
        · exact Hall.out j h g2
        · exact g)
      generalize l[k] = X at *
      generalize l[k + 1] = Y at *
      by_cases hz : ordS X Y < 0
      · have Hnx2:=zH (Hnx.out hz)
        have d1 : decide (0 ≤ ordS X Y) = false:=by simp;omega
        clear hz
        generalize ordS X Y = c at *
        go_wp2_with (first
          | (with_reducible refine rg ?_)
            | (with_reducible refine fo ?_)
          | (go_at_call 122;refine Hcall.out.mono ?_;rintro e w6 ⟨rfl,rfl⟩;have Hb6:=zH (Hb.out.drew)))
        exact ⟨⟨k + 1,by go_num,by omega,Hnx2.out,Hb6.out⟩,by simp [intOf];omega⟩
      · have Hf:=zH (Hno.out hz)
        have d1 : decide (0 ≤ ordS X Y) = true:=by simp;omega
        clear hz
        generalize ordS X Y = c at *
        go_wp2_with (first
          | (with_reducible refine rg ?_)
            | (with_reducible refine fo ?_)
          | (go_at_call 122;refine Hcall.out.mono ?_;rintro e w6 ⟨rfl,rfl⟩;have Hb6:=zH (Hb.out.drew)))
        go_ret
        rw [Hf.out]
        exact ⟨rfl,Hb6.out⟩
    · have Hy:=zH (show ascL ordS l = true from asc_iff.2 fun j h=>Hall.out j h (by omega))
      have d9 : decide (k + 1 < l.length) = false:=by simp;omega
      go_wp2
      go_ret
      rw [Hy.out]
      exact ⟨rfl,Hb.out⟩
end Go.Proofs.YtjgldaaofdpcgaaGreat
namespace Go.Proofs.YtjgldaaofdpcgaaGreat
open Go.RowKit Go.Ident
set_option maxRecDepth 100000
theorem t2s {α : Type} {p : α → Bool} {L : List α} {k : Nat} (h : k < L.length) : (L.take (k + 1)).all p = ((L.take k).all p && p L[k]):=by
  rw [List.take_succ_eq_append_getElem h,List.all_append];simp
theorem t4d {α : Type} {p : α → Bool} {L : List α} {k : Nat} (h : k < L.length) (hp : p L[k] = false) : L.all p = false:=by
  rw [Bool.eq_false_iff];intro h2;rw [List.all_eq_true] at h2;rw [h2 _ (List.getElem_mem h)] at hp;cases hp
def labOk (l : List ByteArray) : Bool:=ascL ordS l && l.all fun s=>isVrb s.data.toList
set_option maxHeartbeats 8000000 in
theorem tb6 (l : List ByteArray) (w : World) (u : Value) (ha : SS w u l) : Calls Tryz.prog 105 #[u] w (ER (labOk l) w):=by
  have HA:=zH ha
  have Hasc:=zH (thu l w u ha)
  have hL : l.length ≤ 9223372036854775807:=by obtain ⟨_,_,_,h⟩:=ha;exact h.big
  obtain ⟨pa,ca,rfl,-⟩:=ha
  go_enter Tryz.func105,Tryz.ntmps105
  cases hasc : ascL ordS l with
  | false =>
    have Hr:=zH (show labOk l = false by unfold labOk;rw [hasc];rfl)
    rw [hasc] at Hasc
    clear hasc
    go_wp2_with (go_at_call 121;refine Hasc.out.mono ?_;rintro e w1 ⟨rfl,q⟩;have Hb1:=zH q;clear q)
    go_ret
    rw [Hr.out]
    exact ⟨rfl,Hb1.out⟩
  | true =>
    have Hr:=zH (show labOk l = l.all fun s=>isVrb s.data.toList by unfold labOk;rw [hasc];rfl)
    rw [hasc] at Hasc
    clear hasc
    go_wp2_with (go_at_call 121;refine Hasc.out.mono ?_;rintro e w1 ⟨rfl,q⟩;have Hb1:=zH q;clear q)
    go_loopw [10] (fun i wr=>∃ k : Nat,i = .int .i64 k ∧ k ≤ l.length ∧ (l.take k).all (fun s=>isVrb s.data.toList) = true ∧ Below w.heap.size w wr) (fun i _=>l.length - (intOf i).toNat)
    case atStart=>exact ⟨0,rfl,by omega,by simp,Hb1.out⟩
    case round =>
      obtain ⟨k,rfl,hk,hall,hb⟩:=hrel
      have Hall:=zH hall;have Hb:=zH hb;clear hall hb
      by_cases hlt : k < l.length
      · obtain ⟨p',c',e9,hr⟩:=HA.out.below Hb.out
        injection e9 with e1 _ e3
        subst e1 e3
        obtain ⟨a,o,rfl,hab,z0⟩:=hr.str hlt
        clear hr
        have hst:=t2s (p:=fun s=>isVrb s.data.toList) hlt
        rw [Hall.out,Bool.true_and] at hst
        have Hst:=zH hst
        have Hno:=zH (t4d (p:=fun s=>isVrb s.data.toList) hlt)
        have Hv:=zH (t7k l[k] wr)
        clear hst
        generalize l[k] = x at *
        cases hv : isVrb x.data.toList with
        | true =>
          rw [hv] at Hv
          have Hst2:=zH (Hst.out.trans hv)
          clear hv
          go_wp2_with (go_at_call 87;refine Hv.out.mono ?_;rintro e wr ⟨rfl,rfl⟩)
          exact ⟨⟨k + 1,by go_num,by omega,Hst2.out,Hb.out⟩,by simp [intOf];omega⟩
        | false =>
          rw [hv] at Hv
          have Hf:=zH (Hno.out hv)
          clear hv
          go_wp2_with (go_at_call 87;refine Hv.out.mono ?_;rintro e wr ⟨rfl,rfl⟩)
          go_ret
          rw [Hr.out,Hf.out]
          exact ⟨rfl,Hb.out⟩
      · obtain rfl : k = l.length:=by omega
        have Hy:=zH (show l.all (fun s=>isVrb s.data.toList) = true by have:=Hall.out;rwa [List.take_length] at this)
        go_wp2
        go_ret
        rw [Hr.out,Hy.out]
        exact ⟨rfl,Hb.out⟩
set_option maxHeartbeats 8000000 in
theorem tbq (e : EE) (num : Int) (w : World) (d : Nat) (ce : List Value) (he : ES w d e ce) (hal : e.args.length ≤ 9223372036854775807) : Calls Tryz.prog 126 #[.agg ce.toArray,.int .i64 num] w (ER (entOk num e) w):=by
  obtain ⟨pa,ca,rs,rfl,ha,hv⟩:=he
  obtain ⟨q1,e1,q2,e2,q3,e3,q4,e4,rfl⟩:=hv.seven
  have HV:=zH hv
  clear ha hv
  go_enter Tryz.func126,Tryz.ntmps126
  go_upto_region 1 with fail
  have hA:=heap_alloc_new w (.cells #[.slice pa e.args.length ca,.bool e.fails,.int .i64 e.res.kind,.int .i64 e.res.num,.string e.res.text,.slice q1 e.res.kids.length e1,.slice q2 e.res.keys.length e2,.slice q3 e.res.ents.length e3,.slice q4 e.res.labels.length e4] 55)
  have hb : Below w.heap.size w (w.alloc (.cells #[.slice pa e.args.length ca,.bool e.fails,.int .i64 e.res.kind,.int .i64 e.res.num,.string e.res.text,.slice q1 e.res.kids.length e1,.slice q2 e.res.keys.length e2,.slice q3 e.res.ents.length e3,.slice q4 e.res.labels.length e4] 55)):=(Below.refl _ _).alloc (Nat.le_refl _) _
  generalize w.alloc (.cells #[.slice pa e.args.length ca,.bool e.fails,.int .i64 e.res.kind,.int .i64 e.res.num,.string e.res.text,.slice q1 e.res.kids.length e1,.slice q2 e.res.keys.length e2,.slice q3 e.res.ents.length e3,.slice q4 e.res.labels.length e4] 55) = w2 at *
  have Hb:=zH hb
  obtain ⟨⟨f0,f1,f2,f3⟩,⟨f4,f5,f6,f7⟩,f8⟩:=t1k hA
  have Hz:=zH (tfn e.res w2 _ ⟨d,_,rfl,HV.out.below hb⟩)
  clear hA hb
  by_cases hn : (e.args.length : Int) = num
  · have d0 : ((e.args.length : Int) == num) = true:=by simp [hn]
    cases hf : e.fails with
    | false =>
      have Hr:=zH (show entOk num e = true by unfold entOk;rw [hf];simp [hn])
      rw [hf] at f1
      clear hn hf
      go_wp2
      go_ret
      rw [Hr.out]
      exact ⟨rfl,Hb.out⟩
    | true =>
      have Hr:=zH (show entOk num e = decide (cmpV e.res zeroV = 0) by unfold entOk;rw [hf];simp [hn])
      rw [hf] at f1
      clear hn hf
      go_wp2_with (go_at_call 131;refine Hz.out.mono ?_;rintro e' w6 ⟨rfl,q⟩;have Hb6:=zH (Hb.out.step q);clear q)
      go_ret
      rw [Hr.out]
      exact ⟨rfl,Hb6.out⟩
  · have d0 : ((e.args.length : Int) == num) = false:=by simp [hn]
    have Hr:=zH (show entOk num e = false by unfold entOk;simp [hn])
    clear hn
    go_wp2
    go_ret
    rw [Hr.out]
    exact ⟨rfl,Hb.out⟩
def mapOk (v : VV) : Bool:=decide (v.keys.length = v.kids.length) && (ascL cmpK v.keys && v.keys.all fun k=>valK k.kind k.text.data.toList)
def funOk (v : VV) : Bool:=decide (0 ≤ v.num) && decide (v.num ≤ 4) && (ascL cmpE v.ents && v.ents.all (entOk v.num))
set_option maxHeartbeats 16000000 in
theorem tdm (a : VV) (w : World) (u : Value) (hu : VW w u a) : Calls Tryz.prog 106 #[u] w (ER (mapOk a) w):=by
  obtain ⟨_,q1,q2,q3,q4,q5,q6,q7,q8,rfl,-,-,hk,-,-⟩:=hu.ex
  have hL : a.keys.length ≤ 9223372036854775807:=by obtain ⟨_,_,_,h⟩:=hk;exact h.big
  have HK:=zH hk
  clear hu hk
  go_enter Tryz.func106,Tryz.ntmps106
  go_upto_region 1 with fail
  have hA:=heap_alloc_new w (.cells #[.int .i64 a.kind,.int .i64 a.num,.string a.text,.slice q1 a.kids.length q2,.slice q3 a.keys.length q4,.slice q5 a.ents.length q6,.slice q7 a.labels.length q8] 28)
  have hb : Below w.heap.size w (w.alloc (.cells #[.int .i64 a.kind,.int .i64 a.num,.string a.text,.slice q1 a.kids.length q2,.slice q3 a.keys.length q4,.slice q5 a.ents.length q6,.slice q7 a.labels.length q8] 28)):=(Below.refl _ _).alloc (Nat.le_refl _) _
  generalize w.alloc (.cells #[.int .i64 a.kind,.int .i64 a.num,.string a.text,.slice q1 a.kids.length q2,.slice q3 a.keys.length q4,.slice q5 a.ents.length q6,.slice q7 a.labels.length q8] 28) = w2 at *
  have Hb:=zH hb
  obtain ⟨⟨f0,f1,f2,f3⟩,f4,f5,f6⟩:=t0f hA
  have HA:=zH hA
  have Hasc:=zH (ths a.keys w2 _ (HK.out.below hb))
  clear hA hb
  by_cases hl : a.keys.length = a.kids.length
  rotate_left
  · have d0 : ((a.keys.length : Int) != (a.kids.length : Int)) = true:=by simp;omega
    have Hr:=zH (show mapOk a = false by unfold mapOk;simp [hl])
    clear hl
    go_wp2
    go_ret
    rw [Hr.out]
    exact ⟨rfl,Hb.out⟩
  have d0 : ((a.keys.length : Int) != (a.kids.length : Int)) = false:=by simp [hl]
  have Hr:=zH (show mapOk a = (ascL cmpK a.keys && a.keys.all fun k=>valK k.kind k.text.data.toList) by unfold mapOk;simp [hl])
  clear hl
  cases hasc : ascL cmpK a.keys with
  | false =>
    rw [hasc] at Hasc
    have Hr2:=zH (show mapOk a = false by rw [Hr.out,hasc];rfl)
    clear hasc
    go_wp2_with (go_at_call 123;refine Hasc.out.mono ?_;rintro e w1 ⟨rfl,q⟩;have Hb1:=zH (Hb.out.step q);clear q)
    go_ret
    rw [Hr2.out]
    exact ⟨rfl,Hb1.out⟩
  | true =>
    rw [hasc] at Hasc
    have Hr2:=zH (show mapOk a = a.keys.all fun k=>valK k.kind k.text.data.toList by rw [Hr.out,hasc];rfl)
    clear hasc
    go_upto_region 3 with (go_at_call 123;refine Hasc.out.mono ?_;rintro e w1 ⟨rfl,q⟩;have Hb1:=zH (Hb.out.step q);have Hc1:=zH q;clear q)
    clear f0 f1 f2 f3 f4 f5 f6
    obtain ⟨⟨f0,f1,f2,f3⟩,f4,f5,f6⟩:=t0f ((Hc1.out.block _ (t0a HA.out)).trans HA.out)
    go_wp2
    go_loopw [21] (fun i wr=>∃ k : Nat,i = .int .i64 k ∧ k ≤ a.keys.length ∧ (a.keys.take k).all (fun k=>valK k.kind k.text.data.toList) = true ∧ Below w.heap.size w wr) (fun i _=>a.keys.length - (intOf i).toNat)
    case atStart=>exact ⟨0,rfl,by omega,by simp,Hb1.out⟩
    case round =>
      obtain ⟨k,rfl,hk,hall,hb⟩:=hrel
      have Hall:=zH hall;have Hbr:=zH hb;clear hall hb
      by_cases hlt : k < a.keys.length
      · obtain ⟨p',c',e9,hr⟩:=HK.out.below Hbr.out
        injection e9 with e1 _ e3
        subst e1 e3
        obtain ⟨ak,ok,rfl,hab,z0,z1⟩:=hr.key hlt
        clear hr
        have hst:=t2s (p:=fun k : KK=>valK k.kind k.text.data.toList) hlt
        rw [Hall.out,Bool.true_and] at hst
        have Hst:=zH hst
        have Hno:=zH (t4d (p:=fun k : KK=>valK k.kind k.text.data.toList) hlt)
        clear hst
        generalize a.keys[k] = x at *
        obtain ⟨wo,hwo⟩ : ∃ wo : World,wo = wr:=⟨_,rfl⟩
        subst hwo
        go_upto_region 6 with fail
        have hnew:=heap_alloc_new wo (.cells #[.int .i64 x.kind,.string x.text] 73)
        have ho : Below wo.heap.size wo (wo.alloc (.cells #[.int .i64 x.kind,.string x.text] 73)):=(Below.refl _ _).alloc (Nat.le_refl _) _
        generalize wo.alloc (.cells #[.int .i64 x.kind,.string x.text] 73) = w5 at *
        have Hb5:=zH (Hbr.out.step ho)
        obtain ⟨k0,k1⟩:=t0k hnew
        have Hv:=zH (t6s x.kind x.text w5)
        clear z0 z1 hnew ho
        cases hv : valK x.kind x.text.data.toList with
        | true =>
          rw [hv] at Hv
          have Hst2:=zH (Hst.out.trans hv)
          clear hv
          go_wp2_with (go_at_call 115;refine Hv.out.mono ?_;rintro e w6 ⟨rfl,q⟩;have Hb6:=zH (Hb5.out.step q);clear q)
          exact ⟨⟨k + 1,by go_num,by omega,Hst2.out,Hb6.out⟩,by simp [intOf];omega⟩
        | false =>
          rw [hv] at Hv
          have Hf:=zH (Hno.out hv)
          clear hv
          go_wp2_with (go_at_call 115;refine Hv.out.mono ?_;rintro e w6 ⟨rfl,q⟩;have Hb6:=zH (Hb5.out.step q);clear q)
          go_ret
          rw [Hr2.out,Hf.out]
          exact ⟨rfl,Hb6.out⟩
      · obtain rfl : k = a.keys.length:=by omega
        have Hy:=zH (show a.keys.all (fun k=>valK k.kind k.text.data.toList) = true by have:=Hall.out;rwa [List.take_length] at this)
        go_wp2
        go_ret
        rw [Hr2.out,Hy.out]
        exact ⟨rfl,Hbr.out⟩
end Go.Proofs.YtjgldaaofdpcgaaGreat
