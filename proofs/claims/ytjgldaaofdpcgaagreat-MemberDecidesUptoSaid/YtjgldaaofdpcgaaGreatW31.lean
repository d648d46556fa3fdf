/- Walks and plain facts for the laws of membership, for all values and types that the heap holds (texts X8). -/
import Derived.Test.YtjgldaaofdpcgaaGreatW03
import Derived.Test.YtjgldaaofdpcgaaGreatW30
set_option linter.unusedVariables false
set_option linter.unusedSimpArgs false
namespace Go.Proofs.YtjgldaaofdpcgaaGreat
open Go.RowKit Go.Ident
set_option maxRecDepth 100000
theorem t6n {T : Ty} {n : TN} (hk : n.kind = 13) : nodeT T n = (decide (n.lo = 0) && (decide (n.hi = 0) && (decide (n.text.size = 0) && (decide (n.kids.length = 0) && (t2g n.fields && ((n.fields.all fun f=>T.has f.node) && (T.has n.rest0 && T.has n.rest1))))))):=by
  unfold nodeT t1t kindN t1u textK kidsK
  cases hf : n.kids with
  | nil=>rw [Bool.eq_iff_iff];simp [hk];try (constructor <;> (intro g;simp_all))
  | cons x r=>simp [hk]
theorem ti2 {T : Ty} {n : TN} (hk : n.kind = 13) {j : Nat} (h : j < n.fields.length) (h1 : T.has n.fields[j].node = false) : nodeT T n = false:=by
  have : (n.fields.all fun f=>T.has f.node) = false:=by
    rw [Bool.eq_false_iff];intro g;rw [List.all_eq_true] at g;rw [g _ (List.getElem_mem h)] at h1;cases h1
  rw [t6n hk,this];simp
theorem tdx {T : Ty} {n : TN} (hk : n.kind = 13) (h1 : t2g n.fields = false) : nodeT T n = false:=by rw [t6n hk,h1];simp
set_option maxHeartbeats 16000000 in
theorem ti3 (T : Ty) (n : TN) (hk : n.kind = 13) (w : World) (t : Value) (cs : List Value) (ht : TS w t T) (h : NC w n cs) (hL : n.kids.length ≤ 9223372036854775807) : Calls Tryz.prog 64 #[t,.agg cs.toArray] w (ER (nodeT T n) w):=by
  have HT:=zH ht
  obtain ⟨pt,ct,rfl,-,-⟩:=ht
  obtain ⟨p1,c1,p2,c2,rfl,hkids,hfs⟩:=h
  have HK:=zH hkids
  have HF:=zH hfs
  have hFL:=hfs.big
  clear hkids hfs
  have Hk:=zH hk
  rw [hk]
  clear hk
  have he:=t9j n.rest0 n.rest1
  go_enter Tryz.func64,Tryz.ntmps64
  go_upto_region 1 with fail
  obtain ⟨w2,e9,hA,hB,hb⟩:=t1f w (.cells #[.slice pt T.nodes.length ct,.int .i64 T.root] 31) (.cells #[.int .i64 13,.int .i64 n.lo,.int .i64 n.hi,.string n.text,.slice p1 n.kids.length c1,.slice p2 n.fields.length c2,.int .i64 n.rest0,.int .i64 n.rest1] 48)
  rw [e9]
  obtain ⟨t0,t1⟩:=t0k hA
  obtain ⟨⟨f0,f1,f2,f3⟩,f4,f5,f6,f7⟩:=t0y hB
  have hlA:=t0a hA;have hlB:=t0a hB
  have HA:=zH hA;have HB:=zH hB;have Hb:=zH hb
  clear e9 hA hB hb
  go_wp2
  go_loopw [5] (fun i wr=>∃ k : Nat,i = .int .i64 k ∧ k ≤ n.kids.length ∧ (∀ j (h : j < n.kids.length),j < k → T.has n.kids[j] = true) ∧ Below w2.heap.size w2 wr) (fun i _=>n.kids.length - (intOf i).toNat)
  case atStart=>exact ⟨0,rfl,by omega,fun j _ h=>by omega,Below.refl _ _⟩
  case round =>
    obtain ⟨k,rfl,hk,hall,hbr⟩:=hrel
    have Hall:=zH hall;have Hbr:=zH hbr;have Hbw:=zH (Hb.out.step hbr)
    clear hall hbr f0 f1 f2 f3 f4 f5 f6 f7 t0 t1
    obtain ⟨t0,t1⟩:=t0k ((Hbr.out.block _ hlA).trans HA.out)
    obtain ⟨⟨f0,f1,f2,f3⟩,f4,f5,f6,f7⟩:=t0y ((Hbr.out.block _ hlB).trans HB.out)
    by_cases hlt : k < n.kids.length
    · have d9 : decide (k < n.kids.length) = true:=by simp;omega
      obtain ⟨-,ak,ok,rfl,hak,zk⟩:=(HK.out.below Hbw.out).at hlt
      have Hno:=zH (tcf (T:=T) hlt)
      have Hnx:=zH (show T.has n.kids[k] = true → ∀ j (h : j < n.kids.length),j < k + 1 → T.has n.kids[j] = true from fun g j h hj=>by
        rcases Nat.lt_succ_iff_lt_or_eq.1 hj with g2 | rfl
        · exact Hall.out j h g2
        · exact g)
      have Hix:=zH (t3k T n.kids[k] wr.drew _ (HT.out.below Hbw.out.drew))
      generalize n.kids[k] = x at *
      cases hx : T.has x with
      | false =>
        have Hf:=zH (Hno.out hx)
        rw [hx] at Hix
        clear hx
        go_wp2_with (first
          | (with_reducible refine rg ?_)
          | (with_reducible refine fo ?_)
          | (go_at_call 33;refine Hix.out.mono ?_;rintro e w6 ⟨rfl,hb6⟩;have Hb6:=zH (Hbw.out.drew.step hb6);clear hb6))
        go_ret
        rw [Hf.out]
        exact ⟨rfl,Hb6.out⟩
      | true =>
        have Hnx2:=zH (Hnx.out hx)
        rw [hx] at Hix
        clear hx
        go_wp2_with (first
          | (with_reducible refine rg ?_)
          | (with_reducible refine fo ?_)
          | (go_at_call 33;refine Hix.out.mono ?_;rintro e w6 ⟨rfl,hb6⟩;have Hb6:=zH (Hbr.out.drew.step hb6);clear hb6))
        exact ⟨⟨k + 1,by go_num,by omega,Hnx2.out,Hb6.out⟩,by simp [intOf];omega⟩
    · have d9 : decide (k < n.kids.length) = false:=by simp;omega
      clear hlt Hall HK
      go_upto_region 6 with fail
      by_cases z0 : n.lo = 0
      rotate_left
      · have Hr:=zH (show nodeT T n = false by rw [t6n Hk.out];simp [z0])
        have d0 : (n.lo == 0) = false:=by simp [z0]
        have d0n : (n.lo != 0) = true:=by simp [z0]
        clear z0
        go_wp2
        go_ret
        rw [Hr.out]
        exact ⟨rfl,Hbw.out⟩
      have d0 : (n.lo == 0) = true:=by simp [z0]
      have d0n : (n.lo != 0) = false:=by simp [z0]
      by_cases z1 : n.hi = 0
      rotate_left
      · have Hr:=zH (show nodeT T n = false by rw [t6n Hk.out];simp [z1])
        have d1 : (n.hi == 0) = false:=by simp [z1]
        have d1n : (n.hi != 0) = true:=by simp [z1]
        clear z0 z1
        go_wp2
        go_ret
        rw [Hr.out]
        exact ⟨rfl,Hbw.out⟩
      have d1 : (n.hi == 0) = true:=by simp [z1]
      have d1n : (n.hi != 0) = false:=by simp [z1]
      by_cases z2 : n.text.size = 0
      rotate_left
      · have Hr:=zH (show nodeT T n = false by rw [t6n Hk.out];simp [z2])
        have d2 : n.text.toList.isEmpty = false:=(t2h n.text).trans (by simp [z2])
        clear z0 z1 z2
        go_wp2
        go_ret
        rw [Hr.out]
        exact ⟨rfl,Hbw.out⟩
      have d2 : n.text.toList.isEmpty = true:=(t2h n.text).trans (by simp [z2])
      have Hn:=zH (show nodeT T n = (decide (n.kids.length = 0) && (t2g n.fields && ((n.fields.all fun f=>T.has f.node) && (T.has n.rest0 && T.has n.rest1)))) by rw [t6n Hk.out];simp [z0,z1,z2])
      clear z0 z1 z2
      obtain ⟨wq,hwq⟩ : ∃ wq : World,wq = wr:=⟨_,rfl⟩
      subst hwq
      go_wp2
      clear d0 d0n d1 d1n d2
      go_loopw [9] (fun i w9=>∃ k : Nat,i = .int .i64 k ∧ k ≤ n.fields.length ∧ ((∀ j (h : j < n.fields.length),j < k → T.has n.fields[j].node = true) ∧ (∀ j (h : j < n.fields.length),j < k → valK n.fields[j].key.kind n.fields[j].key.text.data.toList = true) ∧ (∀ j (h : j + 1 < n.fields.length),j + 1 < k → cmpK (n.fields[j]'(by omega)).key n.fields[j + 1].key < 0)) ∧ Below w2.heap.size w2 w9) (fun i _=>n.fields.length - (intOf i).toNat)
      case atStart=>exact ⟨0,rfl,by omega,⟨fun j _ h=>by omega,fun j _ h=>by omega,fun j _ h=>by omega⟩,Hbr.out⟩
      case round =>
        obtain ⟨k,rfl,hk,hall,hb9⟩:=hrel
        have Hall:=zH hall;have Hb9:=zH hb9;have Hbw9:=zH (Hb.out.step hb9)
        clear hall hb9 f0 f1 f2 f3 f4 f5 f6 f7 t0 t1
        obtain ⟨t0,t1⟩:=t0k ((Hb9.out.block _ hlA).trans HA.out)
        obtain ⟨⟨f0,f1,f2,f3⟩,f4,f5,f6,f7⟩:=t0y ((Hb9.out.block _ hlB).trans HB.out)
        by_cases hlt : k < n.fields.length
        · have d9 : decide (k < n.fields.length) = true:=by simp;omega
          obtain ⟨a,o,cs,rfl,hab,-,hrng,rfl⟩:=HF.out.all hlt
          have hr:=hrng wr Hbw9.out
          have z0:=hr 0 _ rfl
          have z1:=hr 1 _ rfl
          have z2':=hr 2 _ rfl
          have z3:=hr 3 _ rfl
          rw [Nat.add_zero] at z0
          clear hr hrng
          have Hno1:=zH (ti2 (T:=T) Hk.out hlt)
          have Hno2:=zH (show valK n.fields[k].key.kind n.fields[k].key.text.data.toList = false → nodeT T n = false from fun h=>tdx Hk.out (tcd hlt h))
          have Hnx0:=zH (show T.has n.fields[k].node = true → ∀ j (h : j < n.fields.length),j < k + 1 → T.has n.fields[j].node = true from fun g j h hj=>by
            rcases Nat.lt_succ_iff_lt_or_eq.1 hj with g2 | rfl
            · exact Hall.out.1 j h g2
            · exact g)
          have Hnx1:=zH (show valK n.fields[k].key.kind n.fields[k].key.text.data.toList = true → ∀ j (h : j < n.fields.length),j < k + 1 → valK n.fields[j].key.kind n.fields[j].key.text.data.toList = true from fun g j h hj=>by
            rcases Nat.lt_succ_iff_lt_or_eq.1 hj with g2 | rfl
            · exact Hall.out.2.1 j h g2
            · exact g)
          rcases Nat.eq_zero_or_pos k with hk0 | hk0
          · subst hk0
            simp only [Nat.zero_mul,Nat.add_zero] at z0 z1 z2' z3
            have Hnx:=zH (show T.has n.fields[0].node = true → valK n.fields[0].key.kind n.fields[0].key.text.data.toList = true → ((∀ j (h : j < n.fields.length),j < 0 + 1 → T.has n.fields[j].node = true) ∧ (∀ j (h : j < n.fields.length),j < 0 + 1 → valK n.fields[j].key.kind n.fields[j].key.text.data.toList = true) ∧ (∀ j (h : j + 1 < n.fields.length),j + 1 < 0 + 1 → cmpK (n.fields[j]'(by omega)).key n.fields[j + 1].key < 0)) from fun g1 g2=>⟨Hnx0.out g1,Hnx1.out g2,fun j h hj=>by omega⟩)
            clear Hnx0 Hnx1 Hall
            generalize n.fields[0] = f at *
            obtain ⟨wo',hwo⟩ : ∃ wo' : World,wo' = wr:=⟨_,rfl⟩
            subst hwo
            go_upto_region 47 with fail
            have hnew:=heap_alloc_new wo' (.cells #[.int .i64 f.key.kind,.string f.key.text,.int .i64 f.node,.bool f.opt] 75)
            have ho : Below wo'.heap.size wo' (wo'.alloc (.cells #[.int .i64 f.key.kind,.string f.key.text,.int .i64 f.node,.bool f.opt] 75)):=(Below.refl _ _).alloc (Nat.le_refl _) _
            generalize wo'.alloc (.cells #[.int .i64 f.key.kind,.string f.key.text,.int .i64 f.node,.bool f.opt] 75) = w5 at *
            have Hbr5:=zH (Hb9.out.step ho)
            obtain ⟨a0,a1,a2,a3⟩:=t7m hnew
            clear f0 f1 f2 f3 f4 f5 f6 f7 t0 t1
            have tA:=(Hbr5.out.block _ hlA).trans HA.out
            have tB:=(Hbr5.out.block _ hlB).trans HB.out
            obtain ⟨t0,t1⟩:=t0k tA
            obtain ⟨⟨f0,f1,f2,f3⟩,f4,f5,f6,f7⟩:=t0y tB
            have LB:=zH (show wo'.heap.size < w5.drew.heap.size from t0a hnew)
            have LT:=zH (show w.heap.size < w5.drew.heap.size from t0a tA)
            have LN:=zH (show w.heap.size + 1 < w5.drew.heap.size from t0a tB)
            have YT:=zH (show w5.drew.cell? ⟨w.heap.size,0,none⟩ = _ from t0)
            have YN:=zH (show w5.drew.cell? ⟨w.heap.size + 1,5,none⟩ = _ from f5)
            have YB0:=zH (show w5.drew.cell? ⟨wo'.heap.size,0,none⟩ = _ from a0)
            have YB2:=zH (show w5.drew.cell? ⟨wo'.heap.size,2,none⟩ = _ from a2)
            have Hvk:=zH (t3v f.key.kind f.key.text)
            have Hix:=zH (t3k T f.node w5.drew _ (HT.out.below (Hb.out.step Hbr5.out).drew))
            clear z0 z1 z2' z3 hnew ho tA tB
            generalize wo'.heap.size = bo at *
            cases hx : T.has f.node with
            | false =>
              have Hf:=zH (Hno1.out hx)
              rw [hx] at Hix
              clear hx
              go_wp2_with (first
                | ((with_reducible refine Lex.t0w ?_);refine fE (by repeat first | exact LexK.t0t | refine LexK.t0o rfl ?_ | refine LexK.t0p (by decide +kernel) ?_ | refine LexK.t0c rfl LT.out YT.out ?_ | refine LexK.t0c rfl LB.out YB2.out ?_ | refine LexK.t0c rfl LB.out YB0.out ?_ | refine LexK.t0c rfl LN.out YN.out ?_) ?_)
                | ((with_reducible refine Lex.t0q ?_);refine LexK.t0h (fun x=>x < w5.drew.heap.size) (by kernel_rfl) (by decide +kernel) ?_)
                | (with_reducible first | refine qH ?_ | refine LexK.t0s ?_ | refine LexK.t0v ?_)
                | ((with_reducible refine Lex.t1b ?_);first | (with_reducible refine LexK.t0e Hext.out ?_) | (with_reducible refine LexK.t0e (LexK.Ext.refl _) ?_))
                | (go_at_call 33;refine Hix.out.mono ?_;rintro e w6 ⟨rfl,hb6⟩;have q0:=(hb6.cell (p:=⟨bo,_,none⟩) LB.out).trans a0;have q1:=(hb6.cell (p:=⟨bo,_,none⟩) LB.out).trans a1;have Hext:=zH (LexK.Ext.of_below (Kp:=fun x=>x < w5.drew.heap.size) hb6 (Nat.le_refl _));have Hb6:=zH (Hbr5.out.drew.step hb6);have Hbz6:=zH hb6;clear hb6))
              go_ret
              rw [Hf.out]
              exact ⟨rfl,Hb.out.step Hb6.out⟩
            | true =>
            have Hx:=zH hx
            rw [hx] at Hix
            clear hx
            cases hv : valK f.key.kind f.key.text.data.toList with
            | false =>
              have Hf:=zH (Hno2.out hv)
              rw [hv] at Hvk
              clear hv
              go_wp2_with (first
                | ((with_reducible refine Lex.t0w ?_);refine fE (by repeat first | exact LexK.t0t | refine LexK.t0o rfl ?_ | refine LexK.t0p (by decide +kernel) ?_ | refine LexK.t0c rfl LT.out YT.out ?_ | refine LexK.t0c rfl LB.out YB2.out ?_ | refine LexK.t0c rfl LB.out YB0.out ?_ | refine LexK.t0c rfl LN.out YN.out ?_) ?_)
                | ((with_reducible refine Lex.t0q ?_);refine LexK.t0h (fun x=>x < w5.drew.heap.size) (by kernel_rfl) (by decide +kernel) ?_)
                | (with_reducible first | refine qH ?_ | refine LexK.t0s ?_ | refine LexK.t0v ?_)
                | ((with_reducible refine Lex.t1b ?_);first | (with_reducible refine LexK.t0e Hext.out ?_) | (with_reducible refine LexK.t0e (LexK.Ext.refl _) ?_))
                | (go_at_call 33;refine Hix.out.mono ?_;rintro e w6 ⟨rfl,hb6⟩;have q0:=(hb6.cell (p:=⟨bo,_,none⟩) LB.out).trans a0;have q1:=(hb6.cell (p:=⟨bo,_,none⟩) LB.out).trans a1;have Hext:=zH (LexK.Ext.of_below (Kp:=fun x=>x < w5.drew.heap.size) hb6 (Nat.le_refl _));have Hb6:=zH (Hbr5.out.drew.step hb6);have Hbz6:=zH hb6;clear hb6)
                | (go_at_call 82;refine (Hvk.out w6).mono ?_;rintro e w7 ⟨rfl,hb7⟩;have Hext:=zH (LexK.Ext.of_below (Kp:=fun x=>x < w5.drew.heap.size) hb7 (Nat.le_refl _));have Hb7:=zH (Hb6.out.step hb7);clear hb7))
              go_ret
              rw [Hf.out]
              exact ⟨rfl,Hb.out.step Hb7.out⟩
            | true =>
              have Hv:=zH hv
              rw [hv] at Hvk
              clear hv
              go_wp2_with (first
                | ((with_reducible refine Lex.t0w ?_);refine fE (by repeat first | exact LexK.t0t | refine LexK.t0o rfl ?_ | refine LexK.t0p (by decide +kernel) ?_ | refine LexK.t0c rfl LT.out YT.out ?_ | refine LexK.t0c rfl LB.out YB2.out ?_ | refine LexK.t0c rfl LB.out YB0.out ?_ | refine LexK.t0c rfl LN.out YN.out ?_) ?_)
                | ((with_reducible refine Lex.t0q ?_);refine LexK.t0h (fun x=>x < w5.drew.heap.size) (by kernel_rfl) (by decide +kernel) ?_)
                | (with_reducible first | refine qH ?_ | refine LexK.t0s ?_ | refine LexK.t0v ?_)
                | ((with_reducible refine Lex.t1b ?_);first | (with_reducible refine LexK.t0e Hext.out ?_) | (with_reducible refine LexK.t0e (LexK.Ext.refl _) ?_))
                | (go_at_call 33;refine Hix.out.mono ?_;rintro e w6 ⟨rfl,hb6⟩;have q0:=(hb6.cell (p:=⟨bo,_,none⟩) LB.out).trans a0;have q1:=(hb6.cell (p:=⟨bo,_,none⟩) LB.out).trans a1;have Hext:=zH (LexK.Ext.of_below (Kp:=fun x=>x < w5.drew.heap.size) hb6 (Nat.le_refl _));have Hb6:=zH (Hbr5.out.drew.step hb6);have Hbz6:=zH hb6;clear hb6)
                | (go_at_call 82;refine (Hvk.out w6).mono ?_;rintro e w7 ⟨rfl,hb7⟩;have Hext:=zH (LexK.Ext.of_below (Kp:=fun x=>x < w5.drew.heap.size) hb7 (Nat.le_refl _));have Hb7:=zH (Hb6.out.step hb7);clear hb7))
              exact ⟨⟨0 + 1,by go_num,by omega,Hnx.out Hx.out Hv.out,Hb7.out⟩,by simp [intOf];omega⟩
          · obtain ⟨k,rfl⟩ : ∃ k',k = k' + 1:=⟨k - 1,by omega⟩
            have hk1 : k < n.fields.length:=by omega
            obtain ⟨a',o',cs',ep,hab',-,hrng',rfl⟩:=HF.out.all hk1
            injection ep with ep
            injection ep with ep1 ep2
            subst ep1 ep2
            have hr':=hrng' wr Hbw9.out
            have y0:=hr' 0 _ rfl
            have y1:=hr' 1 _ rfl
            rw [Nat.add_zero] at y0
            clear hr' hrng'
            have Hno3:=zH (show ¬ cmpK n.fields[k].key n.fields[k + 1].key < 0 → nodeT T n = false from fun h=>tdx Hk.out (tce hlt h))
            have Hnx:=zH (show T.has n.fields[k + 1].node = true → valK n.fields[k + 1].key.kind n.fields[k + 1].key.text.data.toList = true → cmpK n.fields[k].key n.fields[k + 1].key < 0 → ((∀ j (h : j < n.fields.length),j < k + 1 + 1 → T.has n.fields[j].node = true) ∧ (∀ j (h : j < n.fields.length),j < k + 1 + 1 → valK n.fields[j].key.kind n.fields[j].key.text.data.toList = true) ∧ (∀ j (h : j + 1 < n.fields.length),j + 1 < k + 1 + 1 → cmpK (n.fields[j]'(by omega)).key n.fields[j + 1].key < 0)) from fun g1 g2 g3=>⟨Hnx0.out g1,Hnx1.out g2,fun j h hj=>by
              rcases Nat.lt_succ_iff_lt_or_eq.1 hj with g4 | g4
              · exact Hall.out.2.2 j h g4
              · obtain rfl : j = k:=by omega
                exact g3⟩)
            clear Hnx0 Hnx1 Hall
            generalize n.fields[k + 1] = f at *
            generalize n.fields[k] = g at *
            obtain ⟨wo',hwo⟩ : ∃ wo' : World,wo' = wr:=⟨_,rfl⟩
            subst hwo
            go_upto_region 47 with fail
            have hnew:=heap_alloc_new wo' (.cells #[.int .i64 f.key.kind,.string f.key.text,.int .i64 f.node,.bool f.opt] 75)
            have ho : Below wo'.heap.size wo' (wo'.alloc (.cells #[.int .i64 f.key.kind,.string f.key.text,.int .i64 f.node,.bool f.opt] 75)):=(Below.refl _ _).alloc (Nat.le_refl _) _
            generalize wo'.alloc (.cells #[.int .i64 f.key.kind,.string f.key.text,.int .i64 f.node,.bool f.opt] 75) = w5 at *
            have Hbr5:=zH (Hb9.out.step ho)
            obtain ⟨a0,a1,a2,a3⟩:=t7m hnew
            clear f0 f1 f2 f3 f4 f5 f6 f7 t0 t1
            have tA:=(Hbr5.out.block _ hlA).trans HA.out
            have tB:=(Hbr5.out.block _ hlB).trans HB.out
            obtain ⟨t0,t1⟩:=t0k tA
            obtain ⟨⟨f0,f1,f2,f3⟩,f4,f5,f6,f7⟩:=t0y tB
            have haw : a < wo'.heap.size:=Nat.lt_of_lt_of_le hab (Hbw9.out.size)
            have y0':=(ho.cell (p:=⟨a,_,none⟩) haw).trans y0
            have y1':=(ho.cell (p:=⟨a,_,none⟩) haw).trans y1
            have LK:=zH (show a < w5.drew.heap.size from Nat.lt_of_lt_of_le haw ho.size)
            have YK:=zH (show w5.drew.cell? ⟨a,o + k * 4,none⟩ = _ from y0')
            have LB:=zH (show wo'.heap.size < w5.drew.heap.size from t0a hnew)
            have LT:=zH (show w.heap.size < w5.drew.heap.size from t0a tA)
            have LN:=zH (show w.heap.size + 1 < w5.drew.heap.size from t0a tB)
            have YT:=zH (show w5.drew.cell? ⟨w.heap.size,0,none⟩ = _ from t0)
            have YN:=zH (show w5.drew.cell? ⟨w.heap.size + 1,5,none⟩ = _ from f5)
            have YB0:=zH (show w5.drew.cell? ⟨wo'.heap.size,0,none⟩ = _ from a0)
            have YB2:=zH (show w5.drew.cell? ⟨wo'.heap.size,2,none⟩ = _ from a2)
            have Hvk:=zH (t3v f.key.kind f.key.text)
            have Hix:=zH (t3k T f.node w5.drew _ (HT.out.below (Hb.out.step Hbr5.out).drew))
            clear z0 z1 z2' z3 hnew ho tA tB y0 y1
            generalize wo'.heap.size = bo at *
            cases hx : T.has f.node with
            | false =>
              have Hf:=zH (Hno1.out hx)
              rw [hx] at Hix
              clear hx
              go_wp2_with (first
                | ((with_reducible refine Lex.t0w ?_);refine fE (by repeat first | exact LexK.t0t | refine LexK.t0o rfl ?_ | refine LexK.t0p (by decide +kernel) ?_ | refine LexK.t0c rfl LT.out YT.out ?_ | refine LexK.t0c rfl LB.out YB2.out ?_ | refine LexK.t0c rfl LB.out YB0.out ?_ | refine LexK.t0c rfl LN.out YN.out ?_ | refine LexK.t0c rfl LK.out YK.out ?_) ?_)
                | ((with_reducible refine Lex.t0q ?_);refine LexK.t0h (fun x=>x < w5.drew.heap.size) (by kernel_rfl) (by decide +kernel) ?_)
                | (with_reducible first | refine qH ?_ | refine LexK.t0s ?_ | refine LexK.t0v ?_)
                | ((with_reducible refine Lex.t1b ?_);first | (with_reducible refine LexK.t0e Hext.out ?_) | (with_reducible refine LexK.t0e (LexK.Ext.refl _) ?_))
                | (go_at_call 33;refine Hix.out.mono ?_;rintro e w6 ⟨rfl,hb6⟩;have q0:=(hb6.cell (p:=⟨bo,_,none⟩) LB.out).trans a0;have q1:=(hb6.cell (p:=⟨bo,_,none⟩) LB.out).trans a1;have Hext:=zH (LexK.Ext.of_below (Kp:=fun x=>x < w5.drew.heap.size) hb6 (Nat.le_refl _));have Hb6:=zH (Hbr5.out.drew.step hb6);have Hbz6:=zH hb6;clear hb6))
              go_ret
              rw [Hf.out]
              exact ⟨rfl,Hb.out.step Hb6.out⟩
            | true =>
            have Hx:=zH hx
            rw [hx] at Hix
            clear hx
            cases hv : valK f.key.kind f.key.text.data.toList with
            | false =>
              have Hf:=zH (Hno2.out hv)
              rw [hv] at Hvk
              clear hv
              go_wp2_with (first
                | ((with_reducible refine Lex.t0w ?_);refine fE (by repeat first | exact LexK.t0t | refine LexK.t0o rfl ?_ | refine LexK.t0p (by decide +kernel) ?_ | refine LexK.t0c rfl LT.out YT.out ?_ | refine LexK.t0c rfl LB.out YB2.out ?_ | refine LexK.t0c rfl LB.out YB0.out ?_ | refine LexK.t0c rfl LN.out YN.out ?_ | refine LexK.t0c rfl LK.out YK.out ?_) ?_)
                | ((with_reducible refine Lex.t0q ?_);refine LexK.t0h (fun x=>x < w5.drew.heap.size) (by kernel_rfl) (by decide +kernel) ?_)
                | (with_reducible first | refine qH ?_ | refine LexK.t0s ?_ | refine LexK.t0v ?_)
                | ((with_reducible refine Lex.t1b ?_);first | (with_reducible refine LexK.t0e Hext.out ?_) | (with_reducible refine LexK.t0e (LexK.Ext.refl _) ?_))
                | (go_at_call 33;refine Hix.out.mono ?_;rintro e w6 ⟨rfl,hb6⟩;have q0:=(hb6.cell (p:=⟨bo,_,none⟩) LB.out).trans a0;have q1:=(hb6.cell (p:=⟨bo,_,none⟩) LB.out).trans a1;have Hext:=zH (LexK.Ext.of_below (Kp:=fun x=>x < w5.drew.heap.size) hb6 (Nat.le_refl _));have Hb6:=zH (Hbr5.out.drew.step hb6);have Hbz6:=zH hb6;clear hb6)
                | (go_at_call 82;refine (Hvk.out w6).mono ?_;rintro e w7 ⟨rfl,hb7⟩;have hz7:=Hbz6.out.step hb7;have r0:=(hz7.cell (p:=⟨a,_,none⟩) LK.out).trans y0';have r1:=(hz7.cell (p:=⟨a,_,none⟩) LK.out).trans y1';have n5:=(hz7.cell (p:=⟨w.heap.size + 1,_,none⟩) LN.out).trans f5;have k0:=(hz7.cell (p:=⟨bo,_,none⟩) LB.out).trans a0;have k1:=(hz7.cell (p:=⟨bo,_,none⟩) LB.out).trans a1;clear q0 q1 hz7;have Hext:=zH (LexK.Ext.of_below (Kp:=fun x=>x < w5.drew.heap.size) hb7 (Nat.le_refl _));have Hb7:=zH (Hb6.out.step hb7);clear hb7))
              go_ret
              rw [Hf.out]
              exact ⟨rfl,Hb.out.step Hb7.out⟩
            | true =>
              have Hv:=zH hv
              rw [hv] at Hvk
              clear hv
              have HKc:=zH (t6z g.key f.key)
              by_cases hz : cmpK g.key f.key < 0
              · have Hnx2:=zH (Hnx.out Hx.out Hv.out hz)
                have d1 : decide (0 ≤ cmpK g.key f.key) = false:=by simp;omega
                clear hz
                generalize cmpK g.key f.key = cc at *
                go_wp2_with (first
                  | ((with_reducible refine Lex.t0w ?_);refine fE (by repeat first | exact LexK.t0t | refine LexK.t0o rfl ?_ | refine LexK.t0p (by decide +kernel) ?_ | refine LexK.t0c rfl LT.out YT.out ?_ | refine LexK.t0c rfl LB.out YB2.out ?_ | refine LexK.t0c rfl LB.out YB0.out ?_ | refine LexK.t0c rfl LN.out YN.out ?_ | refine LexK.t0c rfl LK.out YK.out ?_) ?_)
                  | ((with_reducible refine Lex.t0q ?_);refine LexK.t0h (fun x=>x < w5.drew.heap.size) (by kernel_rfl) (by decide +kernel) ?_)
                  | (with_reducible first | refine qH ?_ | refine LexK.t0s ?_ | refine LexK.t0v ?_)
                  | ((with_reducible refine Lex.t1b ?_);first | (with_reducible refine LexK.t0e Hext.out ?_) | (with_reducible refine LexK.t0e (LexK.Ext.refl _) ?_))
                  | (go_at_call 33;refine Hix.out.mono ?_;rintro e w6 ⟨rfl,hb6⟩;have q0:=(hb6.cell (p:=⟨bo,_,none⟩) LB.out).trans a0;have q1:=(hb6.cell (p:=⟨bo,_,none⟩) LB.out).trans a1;have Hext:=zH (LexK.Ext.of_below (Kp:=fun x=>x < w5.drew.heap.size) hb6 (Nat.le_refl _));have Hb6:=zH (Hbr5.out.drew.step hb6);have Hbz6:=zH hb6;clear hb6)
                  | (go_at_call 82;refine (Hvk.out w6).mono ?_;rintro e w7 ⟨rfl,hb7⟩;have hz7:=Hbz6.out.step hb7;have r0:=(hz7.cell (p:=⟨a,_,none⟩) LK.out).trans y0';have r1:=(hz7.cell (p:=⟨a,_,none⟩) LK.out).trans y1';have n5:=(hz7.cell (p:=⟨w.heap.size + 1,_,none⟩) LN.out).trans f5;have k0:=(hz7.cell (p:=⟨bo,_,none⟩) LB.out).trans a0;have k1:=(hz7.cell (p:=⟨bo,_,none⟩) LB.out).trans a1;clear q0 q1 hz7;have Hext:=zH (LexK.Ext.of_below (Kp:=fun x=>x < w5.drew.heap.size) hb7 (Nat.le_refl _));have Hb7:=zH (Hb6.out.step hb7);clear hb7)
                  | (go_at_call 83;refine (HKc.out w7).mono ?_;rintro e w8 ⟨rfl,hb8⟩;have Hext:=zH (LexK.Ext.of_below (Kp:=fun x=>x < w5.drew.heap.size) hb8 (Nat.le_refl _));have Hb8:=zH (Hb7.out.step hb8);clear hb8))
                exact ⟨⟨k + 1 + 1,by go_num,by omega,Hnx2.out,Hb8.out⟩,by simp [intOf];omega⟩
              · have Hf:=zH (Hno3.out hz)
                have d1 : decide (0 ≤ cmpK g.key f.key) = true:=by simp;omega
                clear hz
                generalize cmpK g.key f.key = cc at *
                go_wp2_with (first
                  | ((with_reducible refine Lex.t0w ?_);refine fE (by repeat first | exact LexK.t0t | refine LexK.t0o rfl ?_ | refine LexK.t0p (by decide +kernel) ?_ | refine LexK.t0c rfl LT.out YT.out ?_ | refine LexK.t0c rfl LB.out YB2.out ?_ | refine LexK.t0c rfl LB.out YB0.out ?_ | refine LexK.t0c rfl LN.out YN.out ?_ | refine LexK.t0c rfl LK.out YK.out ?_) ?_)
                  | ((with_reducible refine Lex.t0q ?_);refine LexK.t0h (fun x=>x < w5.drew.heap.size) (by kernel_rfl) (by decide +kernel) ?_)
                  | (with_reducible first | refine qH ?_ | refine LexK.t0s ?_ | refine LexK.t0v ?_)
                  | ((with_reducible refine Lex.t1b ?_);first | (with_reducible refine LexK.t0e Hext.out ?_) | (with_reducible refine LexK.t0e (LexK.Ext.refl _) ?_))
                  | (go_at_call 33;refine Hix.out.mono ?_;rintro e w6 ⟨rfl,hb6⟩;have q0:=(hb6.cell (p:=⟨bo,_,none⟩) LB.out).trans a0;have q1:=(hb6.cell (p:=⟨bo,_,none⟩) LB.out).trans a1;have Hext:=zH (LexK.Ext.of_below (Kp:=fun x=>x < w5.drew.heap.size) hb6 (Nat.le_refl _));have Hb6:=zH (Hbr5.out.drew.step hb6);have Hbz6:=zH hb6;clear hb6)
                  | (go_at_call 82;refine (Hvk.out w6).mono ?_;rintro e w7 ⟨rfl,hb7⟩;have hz7:=Hbz6.out.step hb7;have r0:=(hz7.cell (p:=⟨a,_,none⟩) LK.out).trans y0';have r1:=(hz7.cell (p:=⟨a,_,none⟩) LK.out).trans y1';have n5:=(hz7.cell (p:=⟨w.heap.size + 1,_,none⟩) LN.out).trans f5;have k0:=(hz7.cell (p:=⟨bo,_,none⟩) LB.out).trans a0;have k1:=(hz7.cell (p:=⟨bo,_,none⟩) LB.out).trans a1;clear q0 q1 hz7;have Hext:=zH (LexK.Ext.of_below (Kp:=fun x=>x < w5.drew.heap.size) hb7 (Nat.le_refl _));have Hb7:=zH (Hb6.out.step hb7);clear hb7)
                  | (go_at_call 83;refine (HKc.out w7).mono ?_;rintro e w8 ⟨rfl,hb8⟩;have Hext:=zH (LexK.Ext.of_below (Kp:=fun x=>x < w5.drew.heap.size) hb8 (Nat.le_refl _));have Hb8:=zH (Hb7.out.step hb8);clear hb8))
                go_ret
                rw [Hf.out]
                exact ⟨rfl,Hb.out.step Hb8.out⟩
        · have d9 : decide (k < n.fields.length) = false:=by simp;omega
          have hfa : (n.fields.all fun f=>T.has f.node) = true:=by
            rw [List.all_eq_true]
            intro f hf
            obtain ⟨j,hj,rfl⟩:=List.mem_iff_getElem.1 hf
            exact Hall.out.1 j hj (by omega)
          have hfo : t2g n.fields = true:=tf7 (fun j h=>Hall.out.2.1 j h (by omega)) (fun j h=>Hall.out.2.2 j h (by omega))
          have hn2:=Hn.out
          rw [hfa,hfo,Bool.true_and,Bool.true_and] at hn2
          have Hn2:=zH hn2
          have Hix0:=zH (fun w6 (h : Below wr.heap.size wr w6)=>t3k T n.rest0 w6 _ (HT.out.below (Hbw9.out.step h)))
          have Hix1:=zH (fun w6 (h : Below wr.heap.size wr w6)=>t3k T n.rest1 w6 _ (HT.out.below (Hbw9.out.step h)))
          clear hn2 hfa hfo Hn
          by_cases z3 : n.kids.length = 0
          rotate_left
          · have e3:=decide_eq_false z3
            have d3 : ((n.kids.length : Int) == 0) = false:=tbg z3
            have Hr:=zH (show nodeT T n = false by rw [Hn2.out,e3];rfl)
            clear z3 e3
            go_upto_region 49 with fail
            generalize n.kids.length = kl at f4 d3 ⊢
            go_wp2
            go_ret
            rw [Hr.out]
            exact ⟨rfl,Hbw9.out⟩
          have e3:=decide_eq_true z3
          have d3 : ((n.kids.length : Int) == 0) = true:=t9u z3
          have Hr:=zH (show nodeT T n = (T.has n.rest0 && T.has n.rest1) by rw [Hn2.out,e3,Bool.true_and])
          clear z3 e3 Hn2
          go_upto_region 49 with fail
          generalize n.kids.length = kl at f4 d3 ⊢
          cases hx : T.has n.rest0 with
          | false =>
            rw [hx] at Hix0
            have Hr2:=zH (show nodeT T n = false by rw [Hr.out,hx];rfl)
            clear hx Hr
            go_wp2_with (go_at_call 33;refine (Hix0.out wr (Below.refl _ _)).mono ?_;rintro e w6 ⟨rfl,hb6⟩;have Hb6:=zH (Hbw9.out.step hb6);clear hb6)
            go_ret
            rw [Hr2.out]
            exact ⟨rfl,Hb6.out⟩
          | true =>
            rw [hx] at Hix0
            have Hr2:=zH (show nodeT T n = T.has n.rest1 by rw [Hr.out,hx];rfl)
            clear hx Hr
            generalize T.has n.rest1 = c at *
            go_wp2_with (first
              | (go_at_call 33;refine (Hix0.out wr (Below.refl _ _)).mono ?_;rintro e w6 ⟨rfl,hb6⟩;have Hb6:=zH (Hbw9.out.step hb6);have Hz6:=zH hb6;have tA:=((Hb9.out.step hb6).block _ hlA).trans HA.out;have tB:=((Hb9.out.step hb6).block _ hlB).trans HB.out;clear f0 f1 f2 f3 f4 f5 f6 f7 t0 t1 hb6;obtain ⟨t0,t1⟩:=t0k tA;obtain ⟨⟨f0,f1,f2,f3⟩,f4,f5,f6,f7⟩:=t0y tB;clear tA tB Hix0)
              | (go_at_call 33;refine (Hix1.out w6 Hz6.out).mono ?_;rintro e w7 ⟨rfl,hb7⟩;have Hb7:=zH (Hb6.out.step hb7);clear hb7))
            go_ret
            rw [Hr2.out]
            exact ⟨rfl,Hb7.out⟩
theorem ten (T : Ty) (n : TN) (w : World) (t : Value) (cs : List Value) (ht : TS w t T) (h : NC w n cs) (hL : n.kids.length ≤ 9223372036854775807) : Calls Tryz.prog 64 #[t,.agg cs.toArray] w (ER (nodeT T n) w):=by
  by_cases h13 : n.kind = 13
  · exact ti3 T n h13 w t cs ht h hL
  · exact tjw T n h13 w t cs ht h hL
end Go.Proofs.YtjgldaaofdpcgaaGreat
