/- Walks and plain facts for the laws of membership, for all values and types that the heap holds (texts W6 W7 X3). -/
import Derived.Test.YtjgldaaofdpcgaaGreatW03
import Derived.Test.YtjgldaaofdpcgaaGreatW27
import Derived.Test.YtjgldaaofdpcgaaGreatW28
set_option linter.unusedVariables false
set_option linter.unusedSimpArgs false
namespace Go.Proofs.YtjgldaaofdpcgaaGreat
open Go.RowKit Go.Ident
set_option maxRecDepth 100000
theorem tf7 {l : List FF} (h1 : ∀ j (h : j < l.length),valK l[j].key.kind l[j].key.text.data.toList = true) (h2 : ∀ j (h : j + 1 < l.length),cmpK (l[j]'(by omega)).key l[j + 1].key < 0) : t2g l = true:=by
  unfold t2g
  rw [Bool.and_eq_true,List.all_eq_true]
  refine ⟨asc_iff.2 fun j h=>?_,fun f hf=>?_⟩
  · rw [List.length_map] at h
    simpa using h2 j h
  · obtain ⟨j,hj,rfl⟩:=List.mem_iff_getElem.1 hf
    exact h1 j hj
theorem tcd {l : List FF} {j : Nat} (h : j < l.length) (h1 : valK l[j].key.kind l[j].key.text.data.toList = false) : t2g l = false:=by
  unfold t2g
  rw [Bool.and_eq_false_iff]
  right
  rw [Bool.eq_false_iff]
  intro h2
  rw [List.all_eq_true] at h2
  rw [h2 _ (List.getElem_mem h)] at h1
  cases h1
theorem tce {l : List FF} {j : Nat} (h : j + 1 < l.length) (h1 : ¬ cmpK (l[j]'(by omega)).key l[j + 1].key < 0) : t2g l = false:=by
  unfold t2g
  rw [Bool.and_eq_false_iff]
  left
  rw [Bool.eq_false_iff]
  intro h2
  have:=asc_iff.1 h2 j (by rw [List.length_map];exact h)
  simp at this
  exact h1 this
set_option maxHeartbeats 16000000 in
theorem tbh (l : List FF) (w : World) (p : Option Addr) (c : Nat) (h : Rw w p c 4 l FC) : Calls Tryz.prog 88 #[.slice p l.length c] w (ER (t2g l) w):=by
  have H:=zH h
  have hL:=h.big
  clear h
  go_enter Tryz.func88,Tryz.ntmps88
  go_wp2
  go_loopw [7] (fun i wr=>∃ k : Nat,i = .int .i64 k ∧ k ≤ l.length ∧ (∀ j (h : j < l.length),j < k → valK l[j].key.kind l[j].key.text.data.toList = true) ∧ (∀ j (h : j + 1 < l.length),j + 1 < k → cmpK (l[j]'(by omega)).key l[j + 1].key < 0) ∧ Below w.heap.size w wr) (fun i _=>l.length - (intOf i).toNat)
  case atStart=>exact ⟨0,rfl,by omega,fun j _ h=>by omega,fun j _ h=>by omega,Below.refl _ _⟩
  case round =>
    obtain ⟨k,rfl,hk,hv,hc,hb⟩:=hrel
    have Hv:=zH hv;have Hc:=zH hc;have Hb:=zH hb
    clear hv hc hb
    by_cases hlt : k < l.length
    · obtain ⟨a,o,cs,rfl,hab,-,hrng,rfl⟩:=H.out.all hlt
      have hr:=hrng wr Hb.out
      have z0:=hr 0 _ rfl
      have z1:=hr 1 _ rfl
      have z2:=hr 2 _ rfl
      have z3:=hr 3 _ rfl
      rw [Nat.add_zero] at z0
      have Hnv:=zH (show valK l[k].key.kind l[k].key.text.data.toList = true → ∀ j (h : j < l.length),j < k + 1 → valK l[j].key.kind l[j].key.text.data.toList = true from fun h j hj hjk=>by
        rcases Nat.lt_succ_iff_lt_or_eq.1 hjk with g | rfl
        · exact Hv.out j hj g
        · exact h)
      have Hno:=zH (tcd hlt)
      clear hr hrng
      rcases Nat.eq_zero_or_pos k with hk0 | hk0
      · subst hk0
        simp only [Nat.zero_mul,Nat.add_zero] at z0 z1 z2 z3
        have Hnc:=zH (show ∀ j (h : j + 1 < l.length),j + 1 < 0 + 1 → cmpK (l[j]'(by omega)).key l[j + 1].key < 0 from fun j h hj=>by omega)
        clear Hc
        generalize l[0] = f at *
        obtain ⟨wo',hwo⟩ : ∃ wo' : World,wo' = wr:=⟨_,rfl⟩
        subst hwo
        go_upto_region 4 with fail
        have hnew:=heap_alloc_new wo' (.cells #[.int .i64 f.key.kind,.string f.key.text,.int .i64 f.node,.bool f.opt] 75)
        have ho : Below wo'.heap.size wo' (wo'.alloc (.cells #[.int .i64 f.key.kind,.string f.key.text,.int .i64 f.node,.bool f.opt] 75)):=(Below.refl _ _).alloc (Nat.le_refl _) _
        generalize wo'.alloc (.cells #[.int .i64 f.key.kind,.string f.key.text,.int .i64 f.node,.bool f.opt] 75) = w5 at *
        have Hb5:=zH (Hb.out.step ho)
        obtain ⟨a0,a1,a2,a3⟩:=t7m hnew
        have LB:=zH (show wo'.heap.size < w5.drew.heap.size from t0a hnew)
        have YB:=zH (show w5.drew.cell? ⟨wo'.heap.size,0,none⟩ = _ from a0)
        have Hvk:=zH (t6s f.key.kind f.key.text w5.drew)
        clear z0 z1 z2 z3 hnew ho
        cases hvk : valK f.key.kind f.key.text.data.toList with
        | true =>
          have Hnv2:=zH (Hnv.out hvk)
          rw [hvk] at Hvk
          clear hvk
          go_wp2_with (first
            | ((with_reducible refine Lex.t0w ?_);refine fE (by repeat first | exact LexK.t0t | refine LexK.t0o rfl ?_ | refine LexK.t0p (by decide +kernel) ?_ | refine LexK.t0c rfl LB.out YB.out ?_) ?_)
            | ((with_reducible refine Lex.t0q ?_);refine LexK.t0h (fun x=>x < w5.drew.heap.size) (by kernel_rfl) (by decide +kernel) ?_)
            | (with_reducible first | refine qH ?_ | refine LexK.t0s ?_ | refine LexK.t0v ?_)
            | ((with_reducible refine Lex.t1b ?_);first | (with_reducible refine LexK.t0e Hext.out ?_) | (with_reducible refine LexK.t0e (LexK.Ext.refl _) ?_))
            | (go_at_call 115;refine Hvk.out.mono ?_;rintro e w6 ⟨rfl,hb6⟩;have Hext:=zH (LexK.Ext.of_below (Kp:=fun x=>x < w5.drew.heap.size) hb6 (Nat.le_refl _));have Hb6:=zH (Hb5.out.drew.step hb6);clear hb6))
          exact ⟨⟨0 + 1,by go_num,by omega,Hnv2.out,Hnc.out,Hb6.out⟩,by simp [intOf];omega⟩
        | false =>
          have Hf:=zH (Hno.out hvk)
          rw [hvk] at Hvk
          clear hvk
          go_wp2_with (first
            | ((with_reducible refine Lex.t0w ?_);refine fE (by repeat first | exact LexK.t0t | refine LexK.t0o rfl ?_ | refine LexK.t0p (by decide +kernel) ?_ | refine LexK.t0c rfl LB.out YB.out ?_) ?_)
            | ((with_reducible refine Lex.t0q ?_);refine LexK.t0h (fun x=>x < w5.drew.heap.size) (by kernel_rfl) (by decide +kernel) ?_)
            | (with_reducible first | refine qH ?_ | refine LexK.t0s ?_ | refine LexK.t0v ?_)
            | ((with_reducible refine Lex.t1b ?_);first | (with_reducible refine LexK.t0e Hext.out ?_) | (with_reducible refine LexK.t0e (LexK.Ext.refl _) ?_))
            | (go_at_call 115;refine Hvk.out.mono ?_;rintro e w6 ⟨rfl,hb6⟩;have Hext:=zH (LexK.Ext.of_below (Kp:=fun x=>x < w5.drew.heap.size) hb6 (Nat.le_refl _));have Hb6:=zH (Hb5.out.drew.step hb6);clear hb6))
          go_ret
          rw [Hf.out]
          exact ⟨rfl,Hb6.out⟩
      · obtain ⟨k,rfl⟩ : ∃ k',k = k' + 1:=⟨k - 1,by omega⟩
        have hk1 : k < l.length:=by omega
        obtain ⟨a',o',cs',ep,hab',-,hrng',rfl⟩:=H.out.all hk1
        injection ep with ep
        injection ep with ep1 ep2
        subst ep1 ep2
        have hr':=hrng' wr Hb.out
        have y0:=hr' 0 _ rfl
        have y1:=hr' 1 _ rfl
        rw [Nat.add_zero] at y0
        have Hno2:=zH (tce hlt)
        have Hnc:=zH (show cmpK l[k].key l[k + 1].key < 0 → ∀ j (h : j + 1 < l.length),j + 1 < k + 1 + 1 → cmpK (l[j]'(by omega)).key l[j + 1].key < 0 from fun g j h hj=>by
          rcases Nat.lt_succ_iff_lt_or_eq.1 hj with g2 | g2
          · exact Hc.out j h g2
          · obtain rfl : j = k:=by omega
            exact g)
        clear Hc hr' hrng'
        generalize l[k + 1] = f at *
        generalize l[k] = q at *
        obtain ⟨wo',hwo⟩ : ∃ wo' : World,wo' = wr:=⟨_,rfl⟩
        subst hwo
        go_upto_region 4 with fail
        have hnew:=heap_alloc_new wo' (.cells #[.int .i64 f.key.kind,.string f.key.text,.int .i64 f.node,.bool f.opt] 75)
        have ho : Below wo'.heap.size wo' (wo'.alloc (.cells #[.int .i64 f.key.kind,.string f.key.text,.int .i64 f.node,.bool f.opt] 75)):=(Below.refl _ _).alloc (Nat.le_refl _) _
        generalize wo'.alloc (.cells #[.int .i64 f.key.kind,.string f.key.text,.int .i64 f.node,.bool f.opt] 75) = w5 at *
        have Hb5:=zH (Hb.out.step ho)
        obtain ⟨a0,a1,a2,a3⟩:=t7m hnew
        have haw : a < wo'.heap.size:=Nat.lt_of_lt_of_le hab Hb.out.size
        have y0':=(ho.cell (p:=⟨a,_,none⟩) haw).trans y0
        have y1':=(ho.cell (p:=⟨a,_,none⟩) haw).trans y1
        have LB:=zH (show wo'.heap.size < w5.drew.heap.size from t0a hnew)
        have YB:=zH (show w5.drew.cell? ⟨wo'.heap.size,0,none⟩ = _ from a0)
        have LK:=zH (show a < w5.drew.heap.size from Nat.lt_of_lt_of_le haw ho.size)
        have YK:=zH (show w5.drew.cell? ⟨a,o + k * 4,none⟩ = _ from y0')
        have Hvk:=zH (t6s f.key.kind f.key.text w5.drew)
        clear z0 z1 z2 z3 y0 y1 hnew ho
        cases hvk : valK f.key.kind f.key.text.data.toList with
        | true =>
          have Hnv2:=zH (Hnv.out hvk)
          rw [hvk] at Hvk
          clear hvk
          have HKc:=zH (tah q.key f.key)
          by_cases hz : cmpK q.key f.key < 0
          · have Hnc2:=zH (Hnc.out hz)
            have d1 : decide (0 ≤ cmpK q.key f.key) = false:=by simp;omega
            clear hz
            generalize cmpK q.key f.key = cc at *
            go_wp2_with (first
              | ((with_reducible refine Lex.t0w ?_);refine fE (by repeat first | exact LexK.t0t | refine LexK.t0o rfl ?_ | refine LexK.t0p (by decide +kernel) ?_ | refine LexK.t0c rfl LB.out YB.out ?_ | refine LexK.t0c rfl LK.out YK.out ?_) ?_)
              | ((with_reducible refine Lex.t0q ?_);refine LexK.t0h (fun x=>x < w5.drew.heap.size) (by kernel_rfl) (by decide +kernel) ?_)
              | (with_reducible first | refine qH ?_ | refine LexK.t0s ?_ | refine LexK.t0v ?_)
              | ((with_reducible refine Lex.t1b ?_);first | (with_reducible refine LexK.t0e Hext.out ?_) | (with_reducible refine LexK.t0e (LexK.Ext.refl _) ?_))
              | (go_at_call 115;refine Hvk.out.mono ?_;rintro e w6 ⟨rfl,hb6⟩;have x0:=(hb6.cell (p:=⟨a,_,none⟩) LK.out).trans y0';have x1:=(hb6.cell (p:=⟨a,_,none⟩) LK.out).trans y1';have b0:=(hb6.cell (p:=⟨wo'.heap.size,_,none⟩) LB.out).trans a0;have b1:=(hb6.cell (p:=⟨wo'.heap.size,_,none⟩) LB.out).trans a1;have Hext:=zH (LexK.Ext.of_below (Kp:=fun x=>x < w5.drew.heap.size) hb6 (Nat.le_refl _));have Hb6:=zH (Hb5.out.drew.step hb6);clear hb6)
              | (go_at_call 116;refine (HKc.out w6).mono ?_;rintro e w7 ⟨rfl,hb7⟩;have Hext:=zH (LexK.Ext.of_below (Kp:=fun x=>x < w5.drew.heap.size) hb7 (Nat.le_refl _));have Hb7:=zH (Hb6.out.step hb7);clear hb7))
            exact ⟨⟨k + 1 + 1,by go_num,by omega,Hnv2.out,Hnc2.out,Hb7.out⟩,by simp [intOf];omega⟩
          · have Hf:=zH (Hno2.out hz)
            have d1 : decide (0 ≤ cmpK q.key f.key) = true:=by simp;omega
            clear hz
            generalize cmpK q.key f.key = cc at *
            go_wp2_with (first
              | ((with_reducible refine Lex.t0w ?_);refine fE (by repeat first | exact LexK.t0t | refine LexK.t0o rfl ?_ | refine LexK.t0p (by decide +kernel) ?_ | refine LexK.t0c rfl LB.out YB.out ?_ | refine LexK.t0c rfl LK.out YK.out ?_) ?_)
              | ((with_reducible refine Lex.t0q ?_);refine LexK.t0h (fun x=>x < w5.drew.heap.size) (by kernel_rfl) (by decide +kernel) ?_)
              | (with_reducible first | refine qH ?_ | refine LexK.t0s ?_ | refine LexK.t0v ?_)
              | ((with_reducible refine Lex.t1b ?_);first | (with_reducible refine LexK.t0e Hext.out ?_) | (with_reducible refine LexK.t0e (LexK.Ext.refl _) ?_))
              | (go_at_call 115;refine Hvk.out.mono ?_;rintro e w6 ⟨rfl,hb6⟩;have x0:=(hb6.cell (p:=⟨a,_,none⟩) LK.out).trans y0';have x1:=(hb6.cell (p:=⟨a,_,none⟩) LK.out).trans y1';have b0:=(hb6.cell (p:=⟨wo'.heap.size,_,none⟩) LB.out).trans a0;have b1:=(hb6.cell (p:=⟨wo'.heap.size,_,none⟩) LB.out).trans a1;have Hext:=zH (LexK.Ext.of_below (Kp:=fun x=>x < w5.drew.heap.size) hb6 (Nat.le_refl _));have Hb6:=zH (Hb5.out.drew.step hb6);clear hb6)
              | (go_at_call 116;refine (HKc.out w6).mono ?_;rintro e w7 ⟨rfl,hb7⟩;have Hext:=zH (LexK.Ext.of_below (Kp:=fun x=>x < w5.drew.heap.size) hb7 (Nat.le_refl _));have Hb7:=zH (Hb6.out.step hb7);clear hb7))
            go_ret
            rw [Hf.out]
            exact ⟨rfl,Hb7.out⟩
        | false =>
          have Hf:=zH (Hno.out hvk)
          rw [hvk] at Hvk
          clear hvk
          go_wp2_with (first
            | ((with_reducible refine Lex.t0w ?_);refine fE (by repeat first | exact LexK.t0t | refine LexK.t0o rfl ?_ | refine LexK.t0p (by decide +kernel) ?_ | refine LexK.t0c rfl LB.out YB.out ?_ | refine LexK.t0c rfl LK.out YK.out ?_) ?_)
            | ((with_reducible refine Lex.t0q ?_);refine LexK.t0h (fun x=>x < w5.drew.heap.size) (by kernel_rfl) (by decide +kernel) ?_)
            | (with_reducible first | refine qH ?_ | refine LexK.t0s ?_ | refine LexK.t0v ?_)
            | ((with_reducible refine Lex.t1b ?_);first | (with_reducible refine LexK.t0e Hext.out ?_) | (with_reducible refine LexK.t0e (LexK.Ext.refl _) ?_))
            | (go_at_call 115;refine Hvk.out.mono ?_;rintro e w6 ⟨rfl,hb6⟩;have Hext:=zH (LexK.Ext.of_below (Kp:=fun x=>x < w5.drew.heap.size) hb6 (Nat.le_refl _));have Hb6:=zH (Hb5.out.drew.step hb6);clear hb6))
          go_ret
          rw [Hf.out]
          exact ⟨rfl,Hb6.out⟩
    · obtain rfl : k = l.length:=by omega
      have Hy:=zH (tf7 (fun j h=>Hv.out j h h) (fun j h=>Hc.out j h h))
      go_wp2
      go_ret
      rw [Hy.out]
      exact ⟨rfl,Hb.out⟩
end Go.Proofs.YtjgldaaofdpcgaaGreat
namespace Go.Proofs.YtjgldaaofdpcgaaGreat
open Go.RowKit Go.Ident
set_option maxRecDepth 100000
set_option maxHeartbeats 16000000 in
theorem ti1 (n : TN) (hk : n.kind = 13) (w : World) (cs : List Value) (h : NC w n cs) : Calls Tryz.prog 52 #[.agg cs.toArray] w (ER (kindN n) w):=by
  have Hr:=zH (show kindN n = t2g n.fields by unfold kindN;simp [hk])
  obtain ⟨p1,c1,p2,c2,rfl,-,hF⟩:=h
  rw [hk]
  clear hk
  go_enter Tryz.func52,Tryz.ntmps52
  go_upto_region 1 with fail
  have hA:=heap_alloc_new w (.cells #[.int .i64 13,.int .i64 n.lo,.int .i64 n.hi,.string n.text,.slice p1 n.kids.length c1,.slice p2 n.fields.length c2,.int .i64 n.rest0,.int .i64 n.rest1] 48)
  have hb : Below w.heap.size w (w.alloc (.cells #[.int .i64 13,.int .i64 n.lo,.int .i64 n.hi,.string n.text,.slice p1 n.kids.length c1,.slice p2 n.fields.length c2,.int .i64 n.rest0,.int .i64 n.rest1] 48)):=(Below.refl _ _).alloc (Nat.le_refl _) _
  generalize w.alloc (.cells #[.int .i64 13,.int .i64 n.lo,.int .i64 n.hi,.string n.text,.slice p1 n.kids.length c1,.slice p2 n.fields.length c2,.int .i64 n.rest0,.int .i64 n.rest1] 48) = w2 at *
  have Hb:=zH hb
  obtain ⟨⟨f0,f1,f2,f3⟩,f4,f5,f6,f7⟩:=t0y hA
  have Hat:=zH (tbh n.fields w2 p2 c2 (hF.below hb fun _ _ _ h=>h))
  clear hA hb hF
  generalize t2g n.fields = c at *
  go_wp2_with (go_at_call 88;refine Hat.out.mono ?_;rintro e w3 ⟨rfl,hb3⟩;have Hb3:=zH (Hb.out.step hb3);clear hb3)
  go_ret
  rw [Hr.out]
  exact ⟨rfl,Hb3.out⟩
set_option maxHeartbeats 16000000 in
theorem tj6 (n : TN) (hk : n.kind ≠ 1 ∧ n.kind ≠ 2 ∧ n.kind ≠ 5 ∧ n.kind ≠ 7 ∧ n.kind ≠ 8 ∧ n.kind ≠ 9 ∧ n.kind ≠ 11 ∧ n.kind ≠ 15 ∧ n.kind ≠ 3 ∧ n.kind ≠ 4 ∧ n.kind ≠ 6 ∧ n.kind ≠ 19 ∧ n.kind ≠ 10 ∧ n.kind ≠ 12 ∧ n.kind ≠ 13 ∧ n.kind ≠ 14 ∧ n.kind ≠ 16 ∧ n.kind ≠ 17 ∧ n.kind ≠ 18) (w : World) (cs : List Value) (h : NC w n cs) : Calls Tryz.prog 52 #[.agg cs.toArray] w (ER (kindN n) w):=by
  have Hr:=zH (show kindN n = false by
    unfold kindN
    obtain ⟨k1,k2,k5,k7,k8,k9,k11,k15,k3,k4,k6,k19,k10,k12,k13,k14,k16,k17,k18⟩:=hk
    simp only [k3,k4,k6,k19,k10,k12,k13,k14,k16,k17,k18,if_false,or_self]
    simp only [Bool.and_eq_false_iff,decide_eq_false_iff_not]
    omega)
  obtain ⟨p1,c1,p2,c2,rfl,-,-⟩:=h
  obtain ⟨k1,k2,k5,k7,k8,k9,k11,k15,k3,k4,k6,k19,k10,k12,k13,k14,k16,k17,k18⟩:=hk
  replace k1 : (n.kind == 1) = false:=by rw [Bool.eq_false_iff];intro g;exact k1 (by simpa using g)
  replace k2 : (n.kind == 2) = false:=by rw [Bool.eq_false_iff];intro g;exact k2 (by simpa using g)
  replace k5 : (n.kind == 5) = false:=by rw [Bool.eq_false_iff];intro g;exact k5 (by simpa using g)
  replace k7 : (n.kind == 7) = false:=by rw [Bool.eq_false_iff];intro g;exact k7 (by simpa using g)
  replace k8 : (n.kind == 8) = false:=by rw [Bool.eq_false_iff];intro g;exact k8 (by simpa using g)
  replace k9 : (n.kind == 9) = false:=by rw [Bool.eq_false_iff];intro g;exact k9 (by simpa using g)
  replace k11 : (n.kind == 11) = false:=by rw [Bool.eq_false_iff];intro g;exact k11 (by simpa using g)
  replace k15 : (n.kind == 15) = false:=by rw [Bool.eq_false_iff];intro g;exact k15 (by simpa using g)
  replace k3 : (n.kind == 3) = false:=by rw [Bool.eq_false_iff];intro g;exact k3 (by simpa using g)
  replace k4 : (n.kind == 4) = false:=by rw [Bool.eq_false_iff];intro g;exact k4 (by simpa using g)
  replace k6 : (n.kind == 6) = false:=by rw [Bool.eq_false_iff];intro g;exact k6 (by simpa using g)
  replace k19 : (n.kind == 19) = false:=by rw [Bool.eq_false_iff];intro g;exact k19 (by simpa using g)
  replace k10 : (n.kind == 10) = false:=by rw [Bool.eq_false_iff];intro g;exact k10 (by simpa using g)
  replace k12 : (n.kind == 12) = false:=by rw [Bool.eq_false_iff];intro g;exact k12 (by simpa using g)
  replace k13 : (n.kind == 13) = false:=by rw [Bool.eq_false_iff];intro g;exact k13 (by simpa using g)
  replace k14 : (n.kind == 14) = false:=by rw [Bool.eq_false_iff];intro g;exact k14 (by simpa using g)
  replace k16 : (n.kind == 16) = false:=by rw [Bool.eq_false_iff];intro g;exact k16 (by simpa using g)
  replace k17 : (n.kind == 17) = false:=by rw [Bool.eq_false_iff];intro g;exact k17 (by simpa using g)
  replace k18 : (n.kind == 18) = false:=by rw [Bool.eq_false_iff];intro g;exact k18 (by simpa using g)
  go_enter Tryz.func52,Tryz.ntmps52
  go_upto_region 1 with fail
  have hA:=heap_alloc_new w (.cells #[.int .i64 n.kind,.int .i64 n.lo,.int .i64 n.hi,.string n.text,.slice p1 n.kids.length c1,.slice p2 n.fields.length c2,.int .i64 n.rest0,.int .i64 n.rest1] 48)
  have hb : Below w.heap.size w (w.alloc (.cells #[.int .i64 n.kind,.int .i64 n.lo,.int .i64 n.hi,.string n.text,.slice p1 n.kids.length c1,.slice p2 n.fields.length c2,.int .i64 n.rest0,.int .i64 n.rest1] 48)):=(Below.refl _ _).alloc (Nat.le_refl _) _
  generalize w.alloc (.cells #[.int .i64 n.kind,.int .i64 n.lo,.int .i64 n.hi,.string n.text,.slice p1 n.kids.length c1,.slice p2 n.fields.length c2,.int .i64 n.rest0,.int .i64 n.rest1] 48) = w2 at *
  have Hb:=zH hb
  obtain ⟨⟨f0,f1,f2,f3⟩,f4,f5,f6,f7⟩:=t0y hA
  clear hA hb
  go_wp2
  go_ret
  rw [Hr.out]
  exact ⟨rfl,Hb.out⟩
theorem tcw (n : TN) (w : World) (cs : List Value) (h : NC w n cs) : Calls Tryz.prog 52 #[.agg cs.toArray] w (ER (kindN n) w):=by
  by_cases h13 : n.kind = 13
  · exact ti1 n h13 w cs h
  by_cases hq : (n.kind = 1 ∨ n.kind = 2 ∨ n.kind = 5 ∨ n.kind = 7 ∨ n.kind = 8 ∨ n.kind = 9 ∨ n.kind = 11 ∨ n.kind = 15) ∨ (n.kind = 3) ∨ (n.kind = 4) ∨ (n.kind = 6) ∨ (n.kind = 19) ∨ (n.kind = 10) ∨ (n.kind = 12) ∨ (n.kind = 14) ∨ (n.kind = 16 ∨ n.kind = 17) ∨ (n.kind = 18)
  · exact tjv n hq w cs h
  exact tj6 n (by omega) w cs h
end Go.Proofs.YtjgldaaofdpcgaaGreat
namespace Go.Proofs.YtjgldaaofdpcgaaGreat
open Go.RowKit Go.Ident
set_option maxRecDepth 100000
def WR (T : Ty) (w : World) (e : Ending) (w' : World) : Prop:=∃ c : Int,e = .returned (.int .i64 c) ∧ (c = 0 ↔ WfT T) ∧ Below w.heap.size w w'
theorem tbi {T : Ty} {n : TN} (h : nodeT T n = true) : ∀ k ∈ n.kids,T.has k = true:=by
  unfold nodeT at h
  rw [Bool.and_eq_true,List.all_eq_true] at h
  intro k hk
  exact h.2 k (List.mem_append_left _ hk)
theorem tf8 {T : Ty} (h : ∀ i (hi : i < T.nodes.length),nodeT T T.nodes[i] = true) : KidsT T:=fun i hi _ k hk=>by
  rw [T.node_at hi] at hk
  exact tbi (h i hi) k hk
theorem wf_of {T : Ty} (hr : T.has T.root = true) (h : ∀ i (hi : i < T.nodes.length),nodeT T T.nodes[i] = true) : WfT T ↔ Ctr T :=
  ⟨fun g=>g.ctr,fun g=>⟨hr,fun n hn=>by obtain ⟨i,hi,rfl⟩:=List.mem_iff_getElem.1 hn;exact h i hi,g⟩⟩
theorem th4 {T : Ty} {i : Nat} (hi : i < T.nodes.length) (h : nodeT T T.nodes[i] = false) : ¬ WfT T:=fun g=>by
  have:=g.nodes _ (List.getElem_mem hi)
  rw [h] at this
  cases this
structure SzT (T : Ty) : Prop where
  len : T.len ≤ 100000
  kids : ∀ n ∈ T.nodes,n.kids.length ≤ 1048576 ∧ n.fields.length ≤ 1048576
open Classical in
set_option maxHeartbeats 16000000 in
theorem tbu (T : Ty) (w : World) (t : Value) (ht : TS w t T) (hs : SzT T) : Calls Tryz.prog 29 #[t] w (WR T w):=by
  have HS:=zH hs
  have HT:=zH ht
  obtain ⟨pt,ct,rfl,hrow,-⟩:=ht
  have HR:=zH hrow
  have hL:=hrow.big
  clear hs hrow
  go_enter Tryz.func29,Tryz.ntmps29
  go_upto_region 1 with fail
  have hA:=heap_alloc_new w (.cells #[.slice pt T.nodes.length ct,.int .i64 T.root] 31)
  have hb : Below w.heap.size w (w.alloc (.cells #[.slice pt T.nodes.length ct,.int .i64 T.root] 31)):=(Below.refl _ _).alloc (Nat.le_refl _) _
  generalize w.alloc (.cells #[.slice pt T.nodes.length ct,.int .i64 T.root] 31) = w1 at *
  obtain ⟨t0,t1⟩:=t0k hA
  have hlA:=t0a hA
  have HA:=zH hA;have Hb:=zH hb
  clear hA hb
  by_cases r0 : T.root < 0
  · have d0 : decide (T.root < 0) = true:=by simp [r0]
    have Hno:=zH (show ¬ WfT T from fun g=>by have:=(has_iff.1 g.root).1;omega)
    clear r0
    go_wp2
    go_ret
    exact ⟨1,rfl,⟨fun h=>absurd h (by decide),fun h=>absurd h Hno.out⟩,Hb.out⟩
  have d0 : decide (T.root < 0) = false:=by simp;omega
  by_cases r1 : T.root < (T.nodes.length : Int)
  rotate_left
  · have d1 : decide ((T.nodes.length : Int) ≤ T.root) = true:=by simp;omega
    have Hno:=zH (show ¬ WfT T from fun g=>by have:=(has_iff.1 g.root).2;unfold Ty.len at this;omega)
    clear r0 r1
    go_wp2
    go_ret
    exact ⟨1,rfl,⟨fun h=>absurd h (by decide),fun h=>absurd h Hno.out⟩,Hb.out⟩
  have d1 : decide ((T.nodes.length : Int) ≤ T.root) = false:=by simp;omega
  have Hroot:=zH (show T.has T.root = true from has_iff.2 ⟨by omega,r1⟩)
  clear r0 r1
  go_wp2
  clear d0 d1
  go_loopw [21] (fun i wr=>∃ k : Nat,i = .int .i64 k ∧ k ≤ T.nodes.length ∧ (∀ j (h : j < T.nodes.length),j < k → nodeT T T.nodes[j] = true) ∧ Below w1.heap.size w1 wr) (fun i _=>T.nodes.length - (intOf i).toNat)
  case atStart=>exact ⟨0,rfl,by omega,fun j _ h=>by omega,Below.refl _ _⟩
  case round =>
    obtain ⟨k,rfl,hk,hall,hbr⟩:=hrel
    have Hall:=zH hall;have Hbr:=zH hbr;have Hbw:=zH (Hb.out.step hbr)
    clear hall hbr t0 t1
    by_cases hlt : k < T.nodes.length
    · obtain ⟨a,o,cs,rfl,hab,-,hrng,hN⟩:=HR.out.all hlt
      have HN:=zH hN
      obtain ⟨p1,c1,p2,c2,rfl,-,-⟩:=hN
      have hr:=hrng wr Hbw.out
      have z0:=hr 0 _ rfl
      have z1:=hr 1 _ rfl
      have z2:=hr 2 _ rfl
      have z3:=hr 3 _ rfl
      have z4:=hr 4 _ rfl
      have z5:=hr 5 _ rfl
      have z6:=hr 6 _ rfl
      have z7:=hr 7 _ rfl
      rw [Nat.add_zero] at z0
      have Hno:=zH (th4 hlt)
      have Hnx:=zH (show nodeT T T.nodes[k] = true → ∀ j (h : j < T.nodes.length),j < k + 1 → nodeT T T.nodes[j] = true from fun g j h hj=>by
        rcases Nat.lt_succ_iff_lt_or_eq.1 hj with g2 | rfl
        · exact Hall.out j h g2
        · exact g)
      have hsz:=HS.out.kids _ (List.getElem_mem hlt)
      clear hr hrng Hall
      generalize T.nodes[k] = n at *
      obtain ⟨wo',hwo⟩ : ∃ wo' : World,wo' = wr:=⟨_,rfl⟩
      subst hwo
      go_upto_region 6 with fail
      have hnew:=heap_alloc_new wo' (.cells #[.int .i64 n.kind,.int .i64 n.lo,.int .i64 n.hi,.string n.text,.slice p1 n.kids.length c1,.slice p2 n.fields.length c2,.int .i64 n.rest0,.int .i64 n.rest1] 48)
      have ho : Below wo'.heap.size wo' (wo'.alloc (.cells #[.int .i64 n.kind,.int .i64 n.lo,.int .i64 n.hi,.string n.text,.slice p1 n.kids.length c1,.slice p2 n.fields.length c2,.int .i64 n.rest0,.int .i64 n.rest1] 48)):=(Below.refl _ _).alloc (Nat.le_refl _) _
      generalize wo'.alloc (.cells #[.int .i64 n.kind,.int .i64 n.lo,.int .i64 n.hi,.string n.text,.slice p1 n.kids.length c1,.slice p2 n.fields.length c2,.int .i64 n.rest0,.int .i64 n.rest1] 48) = w5 at *
      have Hbr5:=zH (Hbr.out.step ho)
      obtain ⟨⟨f0,f1,f2,f3⟩,f4,f5,f6,f7⟩:=t0y hnew
      have hlN:=t0a hnew
      have Hnew:=zH hnew
      have Hpl:=zH (fun (w6 : World) (h6 : Below w5.heap.size w5 w6)=>tcv n w6 _ (HN.out.below (Hb.out.step (Hbr5.out.step h6))))
      have Hvk:=zH (fun (w6 : World) (h6 : Below w5.heap.size w5 w6)=>tcw n w6 _ (HN.out.below (Hb.out.step (Hbr5.out.step h6))))
      have Hsz:=zH hsz
      have Hed:=zH (fun (w6 : World) (h6 : Below w5.heap.size w5 w6)=>th1 n w6 _ (HN.out.below (Hb.out.step (Hbr5.out.step h6))) hsz)
      clear z0 z1 z2 z3 z4 z5 z6 z7 hnew ho hsz
      cases hp : t1t n with
      | false =>
        rw [hp] at Hpl
        have Hno2:=zH (Hno.out (by unfold nodeT;rw [hp];simp))
        clear hp
        go_wp2_with (go_at_call 51;refine (Hpl.out w5 (Below.refl _ _)).mono ?_;rintro e w6 ⟨rfl,hb6⟩;have Hb6:=zH (Hbr5.out.step hb6);clear hb6)
        go_ret
        exact ⟨1,rfl,⟨fun h=>absurd h (by decide),fun h=>absurd h Hno2.out⟩,Hb.out.step Hb6.out⟩
      | true =>
      rw [hp] at Hpl
      have Hp:=zH hp
      clear hp
      cases hq : kindN n with
      | false =>
        rw [hq] at Hvk
        have Hno2:=zH (Hno.out (by unfold nodeT;rw [hq];simp))
        clear hq
        go_wp2_with (first
          | (go_at_call 51;refine (Hpl.out w5 (Below.refl _ _)).mono ?_;rintro e w6 ⟨rfl,hb6⟩;have Hb6:=zH hb6;have hA6:=((hb6.block _ hlN).trans Hnew.out);clear f0 f1 f2 f3 f4 f5 f6 f7 hb6;obtain ⟨⟨f0,f1,f2,f3⟩,f4,f5,f6,f7⟩:=t0y hA6;clear hA6)
          | (go_at_call 52;refine (Hvk.out w6 Hb6.out).mono ?_;rintro e w7 ⟨rfl,hb7⟩;have Hb7:=zH (Hbr5.out.step (Hb6.out.step hb7));clear hb7))
        go_ret
        exact ⟨1,rfl,⟨fun h=>absurd h (by decide),fun h=>absurd h Hno2.out⟩,Hb.out.step Hb7.out⟩
      | true =>
      rw [hq] at Hvk
      have Hq:=zH hq
      clear hq
      go_wp2_with (first
        | (go_at_call 51;refine (Hpl.out w5 (Below.refl _ _)).mono ?_;rintro e w6 ⟨rfl,hb6⟩;have Hb6:=zH hb6;have hA6:=((hb6.block _ hlN).trans Hnew.out);clear f0 f1 f2 f3 f4 f5 f6 f7 hb6;obtain ⟨⟨f0,f1,f2,f3⟩,f4,f5,f6,f7⟩:=t0y hA6;clear hA6)
        | (go_at_call 52;refine (Hvk.out w6 Hb6.out).mono ?_;rintro e w7 ⟨rfl,hb7⟩;have Hb7:=zH (Hb6.out.step hb7);have hA7:=(Hb7.out.block _ hlN).trans Hnew.out;clear f0 f1 f2 f3 f4 f5 f6 f7 hb7;obtain ⟨⟨f0,f1,f2,f3⟩,f4,f5,f6,f7⟩:=t0y hA7;clear hA7)
        | (go_at_call 53;refine (Hed.out w7 Hb7.out).mono ?_;rintro e w8 ⟨v8,rfl,hi8,hb8⟩;obtain ⟨p8,c8,rfl,-,-⟩:=(id hi8);have Hi8:=zH hi8;have Hb8:=zH (Hbr5.out.step (Hb7.out.step hb8));have hA8:=(Hb8.out.block _ hlA).trans HA.out;clear f0 f1 f2 f3 f4 f5 f6 f7 hb8 hi8;obtain ⟨t0,t1⟩:=t0k hA8;clear hA8))
      have hE : (t1u n).length ≤ 9223372036854775807:=by
        have:=Hsz.out
        unfold t1u
        simp only [List.length_append,List.length_map]
        split <;> simp <;> omega
      have Hnt:=zH (show (∀ e ∈ t1u n,T.has e = true) → nodeT T n = true from fun h=>by
        unfold nodeT
        rw [Hp.out,Hq.out]
        simpa [List.all_eq_true] using h)
      have Hnf:=zH (show ∀ e ∈ t1u n,T.has e = false → nodeT T n = false from fun e he h=>by
        rw [Bool.eq_false_iff]
        intro g
        unfold nodeT at g
        rw [Bool.and_eq_true,List.all_eq_true] at g
        rw [g.2 e he] at h
        cases h)
      generalize t1u n = E at *
      go_loopw [36] (fun i w9=>∃ m : Nat,i = .int .i64 m ∧ m ≤ E.length ∧ (∀ j (h : j < E.length),j < m → T.has E[j] = true) ∧ Below w8.heap.size w8 w9) (fun i _=>E.length - (intOf i).toNat)
      case atStart=>exact ⟨0,rfl,by omega,fun j _ h=>by omega,Below.refl _ _⟩
      case round =>
        obtain ⟨m,rfl,hm,hall9,hb9⟩:=hrel
        have Hall9:=zH hall9;have Hb9:=zH hb9;have Hbt9:=zH (Hb8.out.step hb9)
        clear hall9 hb9 t0 t1
        by_cases hlm : m < E.length
        · obtain ⟨-,a9,o9,rfl,-,y0⟩:=(Hi8.out.below Hb9.out).at hlm
          obtain ⟨t0,t1⟩:=t0k ((Hbt9.out.block _ hlA).trans HA.out)
          have hmem:=List.getElem_mem hlm
          have Hnx9:=zH (show T.has E[m] = true → ∀ j (h : j < E.length),j < m + 1 → T.has E[j] = true from fun g j h hj=>by
            rcases Nat.lt_succ_iff_lt_or_eq.1 hj with g2 | rfl
            · exact Hall9.out j h g2
            · exact g)
          have Hno9:=zH (show T.has E[m] = false → ¬ WfT T from fun h=>Hno.out (Hnf.out _ hmem h))
          clear hmem
          generalize E[m] = x at *
          by_cases x0 : x < 0
          · have d0 : decide (x < 0) = true:=by simp [x0]
            have Hno2:=zH (Hno9.out (by rw [Bool.eq_false_iff];intro g;have:=(has_iff.1 g).1;omega))
            clear x0
            go_wp2
            go_ret
            exact ⟨1,rfl,⟨fun h=>absurd h (by decide),fun h=>absurd h Hno2.out⟩,Hb.out.step Hbt9.out⟩
          have d0 : decide (x < 0) = false:=by simp;omega
          by_cases x1 : x < (T.nodes.length : Int)
          · have d1 : decide ((T.nodes.length : Int) ≤ x) = false:=by simp;omega
            have Hnx3:=zH (Hnx9.out (has_iff.2 ⟨by omega,x1⟩))
            clear x0 x1
            go_wp2
            exact ⟨⟨m + 1,by go_num,by omega,Hnx3.out,Hb9.out⟩,by simp [intOf];omega⟩
          · have d1 : decide ((T.nodes.length : Int) ≤ x) = true:=by simp;omega
            have Hno2:=zH (Hno9.out (by rw [Bool.eq_false_iff];intro g;have:=(has_iff.1 g).2;unfold Ty.len at this;omega))
            clear x0 x1
            go_wp2
            go_ret
            exact ⟨1,rfl,⟨fun h=>absurd h (by decide),fun h=>absurd h Hno2.out⟩,Hb.out.step Hbt9.out⟩
        · obtain rfl : m = E.length:=by omega
          have Hnx2:=zH (Hnx.out (Hnt.out fun e he=>by obtain ⟨j,hj,rfl⟩:=List.mem_iff_getElem.1 he;exact Hall9.out j hj hj))
          go_wp2
          exact ⟨⟨k + 1,by go_num,by omega,Hnx2.out,Hbt9.out⟩,by simp [intOf];omega⟩
    · obtain rfl : k = T.nodes.length:=by omega
      have Hwf:=zH (wf_of Hroot.out fun i hi=>Hall.out i hi hi)
      have HK:=zH (tf8 fun i hi=>Hall.out i hi hi)
      obtain ⟨t0,t1⟩:=t0k ((Hbr.out.block _ hlA).trans HA.out)
      have Hc:=zH (tbd T wr _ (HT.out.below Hbw.out) HK.out HS.out.len)
      by_cases hc : Ctr T
      · have hd : decide (Ctr T) = true:=decide_eq_true hc
        have Hy:=zH (Hwf.out.2 hc)
        rw [hd] at Hc
        clear hd hc
        go_wp2_with (go_at_call 54;refine Hc.out.mono ?_;rintro e w6 ⟨rfl,hb6⟩;have Hb6:=zH (Hbw.out.step hb6);clear hb6)
        go_ret
        exact ⟨0,rfl,⟨fun _=>Hy.out,fun _=>rfl⟩,Hb6.out⟩
      · have hd : decide (Ctr T) = false:=decide_eq_false hc
        have Hy:=zH (show ¬ WfT T from fun g=>hc (Hwf.out.1 g))
        rw [hd] at Hc
        clear hd hc
        go_wp2_with (go_at_call 54;refine Hc.out.mono ?_;rintro e w6 ⟨rfl,hb6⟩;have Hb6:=zH (Hbw.out.step hb6);clear hb6)
        go_ret
        exact ⟨3,rfl,⟨fun h=>absurd h (by decide),fun h=>absurd h Hy.out⟩,Hb6.out⟩
end Go.Proofs.YtjgldaaofdpcgaaGreat
