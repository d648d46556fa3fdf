/- Walks and plain facts for the laws of membership, for all values and types that the heap holds (texts Q3 Q4). -/
import Derived.Test.YtjgldaaofdpcgaaGreatW03
import Derived.Test.YtjgldaaofdpcgaaGreatW34
set_option linter.unusedVariables false
set_option linter.unusedSimpArgs false
namespace Go.Proofs.YtjgldaaofdpcgaaGreat
open Go.RowKit
set_option maxRecDepth 100000
set_option maxHeartbeats 32000000 in
theorem ti7 (T : Ty) (V : VV) (n : TN) (w : World) (cn : List Value) (v t : Value) (hv : VW w v V) (ht : TS w t T) (hn : NC w n cn)
    (hkk : V.keys.length = V.kids.length) (hkd : ∀ k ∈ V.keys,k.kind = 0 ∨ k.kind = 1) (hc : ∀ j (h : j < V.keys.length) (h2 : j < V.kids.length),HasR T V.kids[j] (atN n V.keys[j])) :
    Calls Tryz.prog 67 #[v,t,.agg cn.toArray] w (ER (mapA (mem T) V n) w):=by
  have HT:=zH ht;have HC:=zH hc;have HN:=zH hn;have Hkk:=zH hkk;have Hkd:=zH hkd;have HV:=zH hv
  obtain ⟨d,v1,b1,v2,b2,v3,b3,v4,b4,rfl,-,hkids,hkeys,-,-⟩:=hv.ex
  obtain ⟨p1,c1,p2,c2,rfl,-,hfs⟩:=hn
  obtain ⟨pt,ct,rfl,-⟩:=ht
  have hm:=hfs.big
  have hL : V.keys.length ≤ 9223372036854775807:=by obtain ⟨_,_,_,h⟩:=hkeys;exact h.big
  have Hkids:=zH hkids;have Hkeys:=zH hkeys;have Hfs:=zH hfs
  clear hc hv hkk hkd hkids hkeys hfs
  go_enter Tryz.func67,Tryz.ntmps67
  go_upto_region 1 with fail
  obtain ⟨w3,e9,hA,hB,hC,hb⟩:=t7n w (.cells #[.int .i64 V.kind,.int .i64 V.num,.string V.text,.slice v1 V.kids.length b1,.slice v2 V.keys.length b2,.slice v3 V.ents.length b3,.slice v4 V.labels.length b4] 28) (.cells #[.slice pt T.nodes.length ct,.int .i64 T.root] 31) (.cells #[.int .i64 n.kind,.int .i64 n.lo,.int .i64 n.hi,.string n.text,.slice p1 n.kids.length c1,.slice p2 n.fields.length c2,.int .i64 n.rest0,.int .i64 n.rest1] 48)
  rw [e9]
  have hlA:=t0a hA
  have hlB:=t0a hB
  have hlC:=t0a hC
  have HbA:=zH hA;have HbB:=zH hB;have HbC:=zH hC;have Hb:=zH hb
  clear e9 hA hB hC hb
  go_wp2
  go_loopw [7] (fun i wr=>∃ k : Nat,i = .int .i64 k ∧ k ≤ n.fields.length ∧ (∀ j (h : j < n.fields.length),j < k → (n.fields[j].opt || V.keys.any fun q=>decide (q = n.fields[j].key)) = true) ∧ Below w3.heap.size w3 wr) (fun i _=>n.fields.length - (intOf i).toNat)
  case atStart=>exact ⟨0,rfl,by omega,fun j _ h=>by omega,Below.refl _ _⟩
  case round =>
    obtain ⟨k,rfl,hk,hall,hbr⟩:=hrel
    have Hall:=zH hall;have Hbr:=zH hbr
    have Hbw:=zH (Hb.out.step hbr)
    obtain ⟨⟨d0,d1,d2,d3⟩,d4,d5,d6,d7⟩:=t0y ((hbr.block _ hlC).trans HbC.out)
    obtain ⟨⟨b0,b1',b2',b3'⟩,b4',b5',b6'⟩:=t0f ((hbr.block _ hlA).trans HbA.out)
    clear hall hbr
    by_cases hlt : k < n.fields.length
    · obtain ⟨a,o,cs,rfl,hab,-,hrng,rfl⟩:=Hfs.out.all hlt
      have hr:=hrng wr Hbw.out
      have z0:=hr 0 _ rfl
      have z1:=hr 1 _ rfl
      have z2:=hr 2 _ rfl
      have z3:=hr 3 _ rfl
      rw [Nat.add_zero] at z0
      have Hnx:=zH (show (n.fields[k].opt || V.keys.any fun q=>decide (q = n.fields[k].key)) = true → ∀ j (h : j < n.fields.length),j < k + 1 → (n.fields[j].opt || V.keys.any fun q=>decide (q = n.fields[j].key)) = true from fun h j hj hjk=>by
        rcases Nat.lt_succ_iff_lt_or_eq.1 hjk with g | rfl
        · exact Hall.out j hj g
        · exact h)
      have Hno:=zH (tb2 (T:=T) (V:=V) hlt)
      generalize n.fields[k] = f at *
      clear hr hrng
      have Hkey:=zH (tjb V f.key wr.drew _ (HV.out.below Hbw.out.drew))
      cases hopt : f.opt with
      | true =>
        have Hnx2:=zH (Hnx.out (by rw [hopt];rfl))
        rw [hopt] at z3
        clear hopt
        go_wp2_with (first
          | (with_reducible refine rg ?_)
          | (with_reducible refine fo ?_))
        exact ⟨⟨k + 1,by go_num,by omega,Hnx2.out,Hbr.out.drew⟩,by simp [intOf];omega⟩
      | false =>
        rw [hopt] at z3
        cases hany : V.keys.any fun q=>decide (q = f.key) with
        | true =>
          have Hnx2:=zH (Hnx.out (by rw [hany];simp))
          have Hany:=zH hany
          clear hopt hany
          go_wp2_with (first
            | (with_reducible refine rg ?_)
            | (with_reducible refine fo ?_)
            | (go_at_call 98;refine Hkey.out.mono ?_;rintro e w7 ⟨i,rfl,hi,-,hb7⟩;have di : decide (i < 0) = false:=(by rw [Hany.out] at hi;simp at hi ⊢;omega);have Hb7:=zH (Hbr.out.drew.step hb7);clear hb7 hi))
          exact ⟨⟨k + 1,by go_num,by omega,Hnx2.out,Hb7.out⟩,by simp [intOf];omega⟩
        | false =>
          have Hf:=zH (Hno.out (by rw [hany,hopt];rfl))
          have Hany:=zH hany
          clear hopt hany
          go_wp2_with (first
            | (with_reducible refine rg ?_)
            | (with_reducible refine fo ?_)
            | (go_at_call 98;refine Hkey.out.mono ?_;rintro e w7 ⟨i,rfl,hi,-,hb7⟩;have di : decide (i < 0) = true:=(by rw [Hany.out] at hi;simp at hi ⊢;omega);have Hb7:=zH (Hbw.out.drew.step hb7);clear hb7 hi))
          go_ret
          rw [Hf.out]
          exact ⟨rfl,Hb7.out⟩
    · obtain rfl : k = n.fields.length:=by omega
      have Hall1:=zH (show ∀ j (h : j < n.fields.length),(n.fields[j].opt || V.keys.any fun q=>decide (q = n.fields[j].key)) = true from fun j h=>Hall.out j h h)
      clear Hall
      obtain ⟨wp,hwp⟩ : ∃ wp : World,wp = wr:=⟨_,rfl⟩
      subst hwp
      go_wp2
      go_loopw [8] (fun i wr=>∃ k : Nat,i = .int .i64 k ∧ k ≤ V.keys.length ∧ (∀ j (h : j < V.keys.length) (h2 : j < V.kids.length),j < k → mem T V.kids[j] (atN n V.keys[j]) = true) ∧ Below w3.heap.size w3 wr) (fun i _=>V.keys.length - (intOf i).toNat)
      case atStart=>exact ⟨0,rfl,by omega,fun j _ _ h=>by omega,Hbr.out⟩
      case round =>
        obtain ⟨k,rfl,hk,hall,hbr⟩:=hrel
        have Hall:=zH hall;have Hbr:=zH hbr
        have Hbw:=zH (Hb.out.step hbr)
        clear d0 d1 d2 d3 d4 d5 d6 d7 b0 b1' b2' b3' b4' b5' b6'
        obtain ⟨⟨d0,d1,d2,d3⟩,d4,d5,d6,d7⟩:=t0y ((hbr.block _ hlC).trans HbC.out)
        obtain ⟨⟨b0,b1',b2',b3'⟩,b4',b5',b6'⟩:=t0f ((hbr.block _ hlA).trans HbA.out)
        clear hall hbr
        by_cases hlt : k < V.keys.length
        · have hlk : k < V.kids.length:=by have:=Hkk.out;omega
          obtain ⟨p',c',e9,hrk⟩:=Hkeys.out
          injection e9 with e91 _ e93
          subst e91 e93
          have Hrk:=zH (show ∀ w',Below w.heap.size w w' → ∃ a o,v2 = some ⟨a,o,none⟩ ∧ a < w'.heap.size ∧ w'.cell? ⟨a,o + k * 2,none⟩ = some (.int .i64 V.keys[k].kind) ∧ w'.cell? ⟨a,o + k * 2 + 1,none⟩ = some (.string V.keys[k].text) from fun w' hb=>(hrk.below hb fun _ _ _ h=>h).key hlt)
          obtain ⟨a,o,rfl,hab,z0,z1⟩:=Hrk.out wr Hbw.out
          obtain ⟨dk,p',c',e9,hrv⟩:=Hkids.out
          injection e9 with e91 _ e93
          subst e91 e93
          obtain ⟨a2,o2,cs,rfl,hab2,-,hrng,hP⟩:=hrv.all hlk
          obtain ⟨q1,e1,q2,e2,q3,e3,q4,e4,rfl⟩:=hP.seven
          have HP:=zH hP
          have Hrng:=zH hrng
          have Hcall:=zH (HC.out k hlt hlk)
          have Hkind:=zH (Hkd.out _ (List.getElem_mem hlt))
          have Hnx:=zH (show mem T V.kids[k] (atN n V.keys[k]) = true → ∀ j (h : j < V.keys.length) (h2 : j < V.kids.length),j < k + 1 → mem T V.kids[j] (atN n V.keys[j]) = true from fun g j h h2 hjk=>by
            rcases Nat.lt_succ_iff_lt_or_eq.1 hjk with g2 | rfl
            · exact Hall.out j h h2 g2
            · exact g)
          have Hno:=zH (tb3 (T:=T) (n:=n) hlt hlk)
          generalize V.keys[k] = ky at *
          generalize V.kids[k] = X at *
          clear hrk hrv hP hrng
          have Hfi:=zH (thc n ky wr.drew _ (HN.out.below Hbw.out.drew))
          go_upto_region 10 with (first
            | (with_reducible refine rg ?_)
            | (with_reducible refine fo ?_)
            | (go_at_call 99;refine Hfi.out.mono ?_;rintro e w8 ⟨i,rfl,hi,hb8⟩;have Hi:=zH hi;have Hbr8:=zH (Hbr.out.drew.step hb8);have Hbw8:=zH (Hbw.out.drew.step hb8);clear hi hb8))
          clear d0 d1 d2 d3 d4 d5 d6 d7 b0 b1' b2' b3' b4' b5' b6' z0 z1
          obtain ⟨⟨d0,d1,d2,d3⟩,d4,d5,d6,d7⟩:=t0y ((Hbr8.out.block _ hlC).trans HbC.out)
          obtain ⟨⟨b0,b1',b2',b3'⟩,b4',b5',b6'⟩:=t0f ((Hbr8.out.block _ hlA).trans HbA.out)
          obtain ⟨t0,t1⟩:=t0k ((Hbr8.out.block _ hlB).trans HbB.out)
          obtain ⟨a',o',e9,-,y0,y1⟩:=Hrk.out w8 Hbw8.out
          injection e9 with e9
          injection e9 with e91 e92
          subst e91 e92
          rcases Hkind.out with hkd | hkd
          · rw [hkd] at y0
            rcases Hi.out with ⟨rfl,hnone⟩ | ⟨j,rfl,hj,hat⟩
            · have hat : atN n ky = n.rest0:=by rw [t9f hnone,if_pos hkd]
              clear hkd hnone
              have Hcl:=zH (show HasR T X n.rest0 by have h:=Hcall.out;rw [hat] at h;exact h)
              have hr:=Hrng.out w8 Hbw8.out
              have r0:=hr 0 _ rfl
              have r1:=hr 1 _ rfl
              have r2:=hr 2 _ rfl
              have r3:=hr 3 _ rfl
              have r4:=hr 4 _ rfl
              have r5:=hr 5 _ rfl
              have r6:=hr 6 _ rfl
              rw [Nat.add_zero] at r0
              cases hmv : mem T X n.rest0 with
              | true =>
                have Hnx2:=zH (Hnx.out (by rw [hat];exact hmv))
                have Hmv:=zH hmv
                clear hmv hat hr
                go_wp2_with (first
                  | (with_reducible refine rg ?_)
                  | (with_reducible refine fo ?_)
                  | (go_at_call 34;refine (Hcl.out w8.drew _ _ ⟨dk,_,rfl,HP.out.below Hbw8.out.drew⟩ (HT.out.below Hbw8.out.drew)).mono ?_;rintro e w9 ⟨rfl,hb9⟩;rw [Hmv.out];have Hbr9:=zH (Hbr8.out.drew.step hb9);clear hb9))
                exact ⟨⟨k + 1,by go_num,by omega,Hnx2.out,Hbr9.out⟩,by simp [intOf];omega⟩
              | false =>
                have Hf:=zH (Hno.out (by rw [hat];exact hmv))
                have Hmv:=zH hmv
                clear hmv hat hr
                go_wp2_with (first
                  | (with_reducible refine rg ?_)
                  | (with_reducible refine fo ?_)
                  | (go_at_call 34;refine (Hcl.out w8.drew _ _ ⟨dk,_,rfl,HP.out.below Hbw8.out.drew⟩ (HT.out.below Hbw8.out.drew)).mono ?_;rintro e w9 ⟨rfl,hb9⟩;rw [Hmv.out];have Hbw9:=zH (Hbw8.out.drew.step hb9);clear hb9))
                go_ret
                rw [Hf.out]
                exact ⟨rfl,Hbw9.out⟩
            · obtain ⟨af,of,cs,rfl,hafb,-,hfr,rfl⟩:=(Hfs.out.below Hbw8.out fun _ _ _ h=>h).at hj
              have g2:=hfr 2 _ rfl
              generalize n.fields[j] = fj at *
              clear hkd hfr
              have Hcl:=zH (show HasR T X fj.node by have h:=Hcall.out;rw [hat] at h;exact h)
              have hr:=Hrng.out w8 Hbw8.out
              have r0:=hr 0 _ rfl
              have r1:=hr 1 _ rfl
              have r2:=hr 2 _ rfl
              have r3:=hr 3 _ rfl
              have r4:=hr 4 _ rfl
              have r5:=hr 5 _ rfl
              have r6:=hr 6 _ rfl
              rw [Nat.add_zero] at r0
              cases hmv : mem T X fj.node with
              | true =>
                have Hnx2:=zH (Hnx.out (by rw [hat];exact hmv))
                have Hmv:=zH hmv
                clear hmv hat hr
                go_wp2_with (first
                  | (with_reducible refine rg ?_)
                  | (with_reducible refine fo ?_)
                  | (go_at_call 34;refine (Hcl.out w8.drew _ _ ⟨dk,_,rfl,HP.out.below Hbw8.out.drew⟩ (HT.out.below Hbw8.out.drew)).mono ?_;rintro e w9 ⟨rfl,hb9⟩;rw [Hmv.out];have Hbr9:=zH (Hbr8.out.drew.step hb9);clear hb9))
                exact ⟨⟨k + 1,by go_num,by omega,Hnx2.out,Hbr9.out⟩,by simp [intOf];omega⟩
              | false =>
                have Hf:=zH (Hno.out (by rw [hat];exact hmv))
                have Hmv:=zH hmv
                clear hmv hat hr
                go_wp2_with (first
                  | (with_reducible refine rg ?_)
                  | (with_reducible refine fo ?_)
                  | (go_at_call 34;refine (Hcl.out w8.drew _ _ ⟨dk,_,rfl,HP.out.below Hbw8.out.drew⟩ (HT.out.below Hbw8.out.drew)).mono ?_;rintro e w9 ⟨rfl,hb9⟩;rw [Hmv.out];have Hbw9:=zH (Hbw8.out.drew.step hb9);clear hb9))
                go_ret
                rw [Hf.out]
                exact ⟨rfl,Hbw9.out⟩
          · rw [hkd] at y0
            rcases Hi.out with ⟨rfl,hnone⟩ | ⟨j,rfl,hj,hat⟩
            · have hat : atN n ky = n.rest1:=by rw [t9f hnone,if_neg (by rw [hkd];decide)]
              clear hkd hnone
              have Hcl:=zH (show HasR T X n.rest1 by have h:=Hcall.out;rw [hat] at h;exact h)
              have hr:=Hrng.out w8 Hbw8.out
              have r0:=hr 0 _ rfl
              have r1:=hr 1 _ rfl
              have r2:=hr 2 _ rfl
              have r3:=hr 3 _ rfl
              have r4:=hr 4 _ rfl
              have r5:=hr 5 _ rfl
              have r6:=hr 6 _ rfl
              rw [Nat.add_zero] at r0
              cases hmv : mem T X n.rest1 with
              | true =>
                have Hnx2:=zH (Hnx.out (by rw [hat];exact hmv))
                have Hmv:=zH hmv
                clear hmv hat hr
                go_wp2_with (first
                  | (with_reducible refine rg ?_)
                  | (with_reducible refine fo ?_)
                  | (go_at_call 34;refine (Hcl.out w8.drew _ _ ⟨dk,_,rfl,HP.out.below Hbw8.out.drew⟩ (HT.out.below Hbw8.out.drew)).mono ?_;rintro e w9 ⟨rfl,hb9⟩;rw [Hmv.out];have Hbr9:=zH (Hbr8.out.drew.step hb9);clear hb9))
                exact ⟨⟨k + 1,by go_num,by omega,Hnx2.out,Hbr9.out⟩,by simp [intOf];omega⟩
              | false =>
                have Hf:=zH (Hno.out (by rw [hat];exact hmv))
                have Hmv:=zH hmv
                clear hmv hat hr
                go_wp2_with (first
                  | (with_reducible refine rg ?_)
                  | (with_reducible refine fo ?_)
                  | (go_at_call 34;refine (Hcl.out w8.drew _ _ ⟨dk,_,rfl,HP.out.below Hbw8.out.drew⟩ (HT.out.below Hbw8.out.drew)).mono ?_;rintro e w9 ⟨rfl,hb9⟩;rw [Hmv.out];have Hbw9:=zH (Hbw8.out.drew.step hb9);clear hb9))
                go_ret
                rw [Hf.out]
                exact ⟨rfl,Hbw9.out⟩
            · obtain ⟨af,of,cs,rfl,hafb,-,hfr,rfl⟩:=(Hfs.out.below Hbw8.out fun _ _ _ h=>h).at hj
              have g2:=hfr 2 _ rfl
              generalize n.fields[j] = fj at *
              clear hkd hfr
              have Hcl:=zH (show HasR T X fj.node by have h:=Hcall.out;rw [hat] at h;exact h)
              have hr:=Hrng.out w8 Hbw8.out
              have r0:=hr 0 _ rfl
              have r1:=hr 1 _ rfl
              have r2:=hr 2 _ rfl
              have r3:=hr 3 _ rfl
              have r4:=hr 4 _ rfl
              have r5:=hr 5 _ rfl
              have r6:=hr 6 _ rfl
              rw [Nat.add_zero] at r0
              cases hmv : mem T X fj.node with
              | true =>
                have Hnx2:=zH (Hnx.out (by rw [hat];exact hmv))
                have Hmv:=zH hmv
                clear hmv hat hr
                go_wp2_with (first
                  | (with_reducible refine rg ?_)
                  | (with_reducible refine fo ?_)
                  | (go_at_call 34;refine (Hcl.out w8.drew _ _ ⟨dk,_,rfl,HP.out.below Hbw8.out.drew⟩ (HT.out.below Hbw8.out.drew)).mono ?_;rintro e w9 ⟨rfl,hb9⟩;rw [Hmv.out];have Hbr9:=zH (Hbr8.out.drew.step hb9);clear hb9))
                exact ⟨⟨k + 1,by go_num,by omega,Hnx2.out,Hbr9.out⟩,by simp [intOf];omega⟩
              | false =>
                have Hf:=zH (Hno.out (by rw [hat];exact hmv))
                have Hmv:=zH hmv
                clear hmv hat hr
                go_wp2_with (first
                  | (with_reducible refine rg ?_)
                  | (with_reducible refine fo ?_)
                  | (go_at_call 34;refine (Hcl.out w8.drew _ _ ⟨dk,_,rfl,HP.out.below Hbw8.out.drew⟩ (HT.out.below Hbw8.out.drew)).mono ?_;rintro e w9 ⟨rfl,hb9⟩;rw [Hmv.out];have Hbw9:=zH (Hbw8.out.drew.step hb9);clear hb9))
                go_ret
                rw [Hf.out]
                exact ⟨rfl,Hbw9.out⟩
        · obtain rfl : k = V.keys.length:=by omega
          have Hyes:=zH (tdj Hall1.out fun j h h2=>Hall.out j h h2 h)
          go_wp2
          go_ret
          rw [Hyes.out]
          exact ⟨rfl,Hbw.out⟩
end Go.Proofs.YtjgldaaofdpcgaaGreat
namespace Go.Proofs.YtjgldaaofdpcgaaGreat
open Go.RowKit
set_option maxRecDepth 100000
def MemQ (T : Ty) (V : VV) (n : TN) : Prop :=
  (n.kind = 1 ∨ n.kind = 2) ∨ n.kind = 3 ∨ (n.kind = 4 ∨ n.kind = 6) ∨ (n.kind = 5 ∨ n.kind = 7 ∨ n.kind = 8 ∨ n.kind = 9 ∨ n.kind = 11 ∨ n.kind = 15) ∨
  ((n.kind = 10 ∨ n.kind = 12) ∧ n.kids.length ≤ 1000 ∧ ∀ x ∈ V.kids,∀ k ∈ n.kids,HasR T x k) ∨
  (n.kind = 13 ∧ (V.kind = 8 → V.keys.length = V.kids.length) ∧ (∀ k ∈ V.keys,k.kind = 0 ∨ k.kind = 1) ∧ ∀ j (h : j < V.keys.length) (h2 : j < V.kids.length),HasR T V.kids[j] (atN n V.keys[j])) ∨
  (n.kind = 14 ∧ 1 ≤ n.kids.length ∧ n.kids.length ≤ 1000 ∧ ∀ e ∈ V.ents,(∀ x ∈ e.args,∀ k ∈ n.kids,HasR T x k) ∧ (e.fails = false → ∀ k ∈ n.kids,HasR T e.res k)) ∨
  ((n.kind = 16 ∨ n.kind = 17) ∧ ∀ x ∈ n.kids,HasR T V x) ∨
  (n.kind = 18 ∧ 0 < n.kids.length ∧ HasR T V (n.kids.getD 0 0)) ∨ n.kind = 19
set_option maxHeartbeats 64000000 in
theorem ti8 (T : Ty) (hw : WfT T) (V : VV) (i : Nat) (hi : i < T.nodes.length) (n : TN) (hn : n = T.node (i : Nat)) (hq : MemQ T V n) : HasR T V (i : Nat):=by
  intro w v t hv ht
  have Hn:=zH (show mem T V (i : Nat) = memS (mem T) V (mem T V) n by rw [hn];exact tdd hw.m _ _)
  have Hv:=zH hv;have Ht:=zH ht
  obtain ⟨d,v1,b1,v2,b2,v3,b3,v4,b4,rfl,hvs,hkids,hkeys,hents,hlabs⟩:=hv.ex
  obtain ⟨pt,ct,rfl,hnodes,hsz⟩:=ht
  have hlen:=hnodes.big
  have hszk : n.kids.length ≤ 9223372036854775807:=hsz _ (by rw [hn,T.node_at hi];exact List.getElem_mem hi)
  obtain ⟨a,o,cs,rfl,hab,-,hrng,hNC⟩:=hnodes.all hi
  rw [← T.node_at hi,← hn] at hNC
  have HN:=zH hNC
  obtain ⟨p1,c1,p2,c2,rfl,hks,hfs⟩:=hNC
  have Hks:=zH hks;have Hfs:=zH hfs;have Hvs:=zH hvs;have Hkids:=zH hkids;have Hkeys:=zH hkeys;have Hents:=zH hents;have Hlabs:=zH hlabs
  have hszl : V.labels.length ≤ 9223372036854775807:=by obtain ⟨_,_,_,h⟩:=hlabs;exact h.big
  have hszy : V.keys.length ≤ 9223372036854775807:=by obtain ⟨_,_,_,h⟩:=hkeys;exact h.big
  have hsze : V.ents.length ≤ 9223372036854775807:=by obtain ⟨_,_,_,_,h⟩:=hents;exact h.big
  have hszf:=hfs.big
  have Hq:=zH hq
  clear hn hq hnodes hsz hks hfs hv hvs hkids hkeys hents hlabs
  obtain ⟨w2,e9,hA,hB,hb⟩:=t1f w (.cells #[.int .i64 V.kind,.int .i64 V.num,.string V.text,.slice v1 V.kids.length b1,.slice v2 V.keys.length b2,.slice v3 V.ents.length b3,.slice v4 V.labels.length b4] 28) (.cells #[.slice (some ⟨a,o,none⟩) T.nodes.length ct,.int .i64 T.root] 31)
  have hr:=hrng w2 hb
  have z0:=hr 0 _ rfl;have z1:=hr 1 _ rfl;have z2:=hr 2 _ rfl;have z3:=hr 3 _ rfl;have z4:=hr 4 _ rfl;have z5:=hr 5 _ rfl;have z6:=hr 6 _ rfl;have z7:=hr 7 _ rfl
  rw [Nat.add_zero] at z0
  obtain ⟨x0,x1⟩:=t0k hB
  clear hrng hr
  go_enter Tryz.func34,Tryz.ntmps34
  go_upto_region 1 with fail
  clear e9
  go_upto_region 2 with fail
  have hnew:=heap_alloc_new w2 (.cells #[.int .i64 n.kind,.int .i64 n.lo,.int .i64 n.hi,.string n.text,.slice p1 n.kids.length c1,.slice p2 n.fields.length c2,.int .i64 n.rest0,.int .i64 n.rest1] 48)
  have ho : Below w2.heap.size w2 (w2.alloc (.cells #[.int .i64 n.kind,.int .i64 n.lo,.int .i64 n.hi,.string n.text,.slice p1 n.kids.length c1,.slice p2 n.fields.length c2,.int .i64 n.rest0,.int .i64 n.rest1] 48)):=(Below.refl _ _).alloc (Nat.le_refl _) _
  generalize w2.alloc (.cells #[.int .i64 n.kind,.int .i64 n.lo,.int .i64 n.hi,.string n.text,.slice p1 n.kids.length c1,.slice p2 n.fields.length c2,.int .i64 n.rest0,.int .i64 n.rest1] 48) = w3 at *
  have Hb3:=zH (hb.step ho)
  have gA:=(ho.block _ (t0a hA)).trans hA
  have gB:=(ho.block _ (t0a hB)).trans hB
  clear z0 z1 z2 z3 z4 z5 z6 z7 x0 x1 ho hb hA hB
  generalize w2.heap.size = bn at *
  obtain ⟨⟨a0,a1,a2,a3⟩,a4,a5,a6⟩:=t0f gA
  obtain ⟨t0,t1⟩:=t0k gB
  obtain ⟨⟨n0,n1,n2,n3⟩,n4,n5,n6,n7⟩:=t0y hnew
  have LN:=zH (show bn < w3.drew.heap.size from t0a hnew)
  have GN:=zH hnew
  clear hnew
  rcases Hq.out with hk | hkind | hk | hk | ⟨hk,hm,hc⟩ | ⟨hkind,hkk,hkd,hc⟩ | ⟨hkind,h1,hm,hc⟩ | ⟨hk,hc⟩ | ⟨hkind,h0,hc⟩ | hkind
  · obtain ⟨b,hb⟩ : ∃ b : Bool,(b = false ∧ n.kind = 1 ∨ b = true ∧ n.kind = 2):=hk.elim (fun h=>⟨_,.inl ⟨rfl,h⟩⟩) fun h=>⟨_,.inr ⟨rfl,h⟩⟩
    rcases hb with ⟨rfl,hkind⟩ | ⟨rfl,hkind⟩
    · have Hmem:=zH (show mem T V (i : Nat) = false by rw [Hn.out];unfold memS;simp [hkind])
      rw [hkind] at n0 HN;clear hkind
      go_wp2
      go_ret
      rw [Hmem.out]
      exact ⟨rfl,Hb3.out⟩
    · have Hmem:=zH (show mem T V (i : Nat) = true by rw [Hn.out];unfold memS;simp [hkind])
      rw [hkind] at n0 HN;clear hkind
      go_wp2
      go_ret
      rw [Hmem.out]
      exact ⟨rfl,Hb3.out⟩
  · have Hmem:=zH (show mem T V (i : Nat) = (decide (V.kind = 1) && (decide (n.lo ≤ V.num) && decide (V.num ≤ n.hi))) by rw [Hn.out];unfold memS;simp [hkind])
    rw [hkind] at n0 HN;clear hkind
    by_cases hk : V.kind = 1
    · have d0 : (V.kind == 1) = true:=by simp [hk]
      by_cases h1 : n.lo ≤ V.num
      · have d1 : decide (n.lo ≤ V.num) = true:=by simp [h1]
        have HE:=zH (show (decide (V.kind = 1) && (decide (n.lo ≤ V.num) && decide (V.num ≤ n.hi))) = decide (V.num ≤ n.hi) by simp [hk,h1])
        clear hk h1
        go_wp2
        go_ret
        rw [Hmem.out,HE.out]
        exact ⟨rfl,Hb3.out⟩
      · have d1 : decide (n.lo ≤ V.num) = false:=by simp;omega
        have HE:=zH (show (decide (V.kind = 1) && (decide (n.lo ≤ V.num) && decide (V.num ≤ n.hi))) = false by simp [h1])
        clear hk h1
        go_wp2
        go_ret
        rw [Hmem.out,HE.out]
        exact ⟨rfl,Hb3.out⟩
    · have d0 : (V.kind == 1) = false:=by simp [hk]
      have HE:=zH (show (decide (V.kind = 1) && (decide (n.lo ≤ V.num) && decide (V.num ≤ n.hi))) = false by simp [hk])
      clear hk
      go_wp2
      go_ret
      rw [Hmem.out,HE.out]
      exact ⟨rfl,Hb3.out⟩
  · obtain ⟨u,hu⟩ : ∃ u : Int,(n.kind = 4 ∧ u = 2) ∨ (n.kind = 6 ∧ u = 3):=by
      rcases hk with h | h
      · exact ⟨2,by simp [h]⟩
      · exact ⟨3,by simp [h]⟩
    have Hmem:=zH (show mem T V (i : Nat) = (decide (V.kind = u) && decide (V.text = n.text)) by rw [Hn.out];unfold memS;rcases hu with ⟨hkind,rfl⟩ | ⟨hkind,rfl⟩ <;> simp [hkind])
    by_cases hk : V.kind = u
    · have d0 : (V.kind == u) = true:=by simp [hk]
      have HE:=zH (show (decide (V.kind = u) && decide (V.text = n.text)) = (V.text.toList == n.text.toList) by rw [t9e];simp [hk])
      clear hk
      rcases hu with ⟨hkind,rfl⟩ | ⟨hkind,rfl⟩
      all_goals
        rw [hkind] at n0;clear hkind
        go_wp2
        go_ret
        rw [Hmem.out,HE.out]
        exact ⟨rfl,Hb3.out⟩
    · have d0 : (V.kind == u) = false:=by simp [hk]
      have HE:=zH (show (decide (V.kind = u) && decide (V.text = n.text)) = false by simp [hk])
      clear hk
      rcases hu with ⟨hkind,rfl⟩ | ⟨hkind,rfl⟩
      all_goals
        rw [hkind] at n0;clear hkind
        go_wp2
        go_ret
        rw [Hmem.out,HE.out]
        exact ⟨rfl,Hb3.out⟩
  · obtain ⟨u,hu⟩ : ∃ u : Int,(n.kind = 5 ∧ u = 2) ∨ (n.kind = 7 ∧ u = 3) ∨ (n.kind = 8 ∧ u = 4) ∨ (n.kind = 9 ∧ u = 5) ∨ (n.kind = 11 ∧ u = 6) ∨ (n.kind = 15 ∧ u = 9):=by
      rcases hk with h | h | h | h | h | h
      · exact ⟨2,by simp [h]⟩
      · exact ⟨3,by simp [h]⟩
      · exact ⟨4,by simp [h]⟩
      · exact ⟨5,by simp [h]⟩
      · exact ⟨6,by simp [h]⟩
      · exact ⟨9,by simp [h]⟩
    have Hmem:=zH (show mem T V (i : Nat) = decide (V.kind = u) by rw [Hn.out];unfold memS;rcases hu with ⟨hkind,rfl⟩ | ⟨hkind,rfl⟩ | ⟨hkind,rfl⟩ | ⟨hkind,rfl⟩ | ⟨hkind,rfl⟩ | ⟨hkind,rfl⟩ <;> simp [hkind,t5s])
    have HE:=zH (show decide (V.kind = u) = (V.kind == u) by rw [Bool.eq_iff_iff];simp)
    rcases hu with ⟨hkind,rfl⟩ | ⟨hkind,rfl⟩ | ⟨hkind,rfl⟩ | ⟨hkind,rfl⟩ | ⟨hkind,rfl⟩ | ⟨hkind,rfl⟩
    all_goals
      rw [hkind] at n0;clear hkind
      go_wp2
      go_ret
      rw [Hmem.out,HE.out]
      exact ⟨rfl,Hb3.out⟩
  · have Hall:=zH (ta9 T V.kids n.kids w3 _ _ _ (Hkids.out.below Hb3.out) (Ht.out.below Hb3.out) (Hks.out.below Hb3.out) hm hc)
    clear hc
    obtain ⟨u,hu⟩ : ∃ u : Int,(n.kind = 10 ∧ u = 6) ∨ (n.kind = 12 ∧ u = 7):=by
      rcases hk with h | h
      · exact ⟨6,by simp [h]⟩
      · exact ⟨7,by simp [h]⟩
    have Hmem:=zH (show mem T V (i : Nat) = (decide (V.kind = u) && all2 (mem T) V.kids n.kids) by rw [Hn.out];unfold memS;rcases hu with ⟨hkind,rfl⟩ | ⟨hkind,rfl⟩ <;> simp [hkind])
    by_cases hk : V.kind = u
    · have d0 : (V.kind == u) = true:=by simp [hk]
      have HE:=zH (show (decide (V.kind = u) && all2 (mem T) V.kids n.kids) = all2 (mem T) V.kids n.kids by simp [hk])
      clear hk
      rcases hu with ⟨hkind,rfl⟩ | ⟨hkind,rfl⟩
      all_goals
        rw [hkind] at n0;clear hkind
        go_wp2_with (go_at_call 66;refine Hall.out.mono ?_;rintro e w6 ⟨rfl,hb6⟩;have Hb6:=zH (Hb3.out.step hb6);clear hb6)
        go_ret
        rw [Hmem.out,HE.out]
        exact ⟨rfl,Hb6.out⟩
    · have d0 : (V.kind == u) = false:=by simp [hk]
      have HE:=zH (show (decide (V.kind = u) && all2 (mem T) V.kids n.kids) = false by simp [hk])
      clear hk
      rcases hu with ⟨hkind,rfl⟩ | ⟨hkind,rfl⟩
      all_goals
        rw [hkind] at n0;clear hkind
        go_wp2
        go_ret
        rw [Hmem.out,HE.out]
        exact ⟨rfl,Hb3.out⟩
  · have Hkk:=zH hkk;clear hkk
    have Hmem:=zH (show mem T V (i : Nat) = (decide (V.kind = 8) && mapA (mem T) V n) by rw [Hn.out];unfold memS;simp [hkind])
    rw [hkind] at n0 HN;clear hkind
    have Hmap:=zH (fun hkk=>ti7 T V n w3 _ _ _ (Hv.out.below Hb3.out) (Ht.out.below Hb3.out) (HN.out.below Hb3.out) hkk hkd hc)
    clear hc hkd
    by_cases hk : V.kind = 8
    · have d0 : (V.kind == 8) = true:=by simp [hk]
      have HE:=zH (show (decide (V.kind = 8) && mapA (mem T) V n) = mapA (mem T) V n by simp [hk])
      have Hkk8:=zH (Hkk.out hk)
      clear hk
      have Hmap2:=zH (Hmap.out Hkk8.out)
      go_wp2_with (go_at_call 67;refine Hmap2.out.mono ?_;rintro e w6 ⟨rfl,hb6⟩;have Hb6:=zH (Hb3.out.step hb6);clear hb6)
      go_ret
      rw [Hmem.out,HE.out]
      exact ⟨rfl,Hb6.out⟩
    · have d0 : (V.kind == 8) = false:=by simp [hk]
      have HE:=zH (show (decide (V.kind = 8) && mapA (mem T) V n) = false by simp [hk])
      clear hk
      go_wp2
      go_ret
      rw [Hmem.out,HE.out]
      exact ⟨rfl,Hb3.out⟩
  · have Hmem:=zH (show mem T V (i : Nat) = (decide (V.kind = 9) && funA (mem T) V n) by rw [Hn.out];unfold memS;simp [hkind])
    rw [hkind] at n0 HN;clear hkind
    have Hfun:=zH (tcx T V n w3 _ _ _ (Hv.out.below Hb3.out) (Ht.out.below Hb3.out) (HN.out.below Hb3.out) h1 hm hc)
    clear hc h1
    by_cases hk : V.kind = 9
    · have d0 : (V.kind == 9) = true:=by simp [hk]
      have HE:=zH (show (decide (V.kind = 9) && funA (mem T) V n) = funA (mem T) V n by simp [hk])
      clear hk
      go_wp2_with (go_at_call 68;refine Hfun.out.mono ?_;rintro e w6 ⟨rfl,hb6⟩;have Hb6:=zH (Hb3.out.step hb6);clear hb6)
      go_ret
      rw [Hmem.out,HE.out]
      exact ⟨rfl,Hb6.out⟩
    · have d0 : (V.kind == 9) = false:=by simp [hk]
      have HE:=zH (show (decide (V.kind = 9) && funA (mem T) V n) = false by simp [hk])
      clear hk
      go_wp2
      go_ret
      rw [Hmem.out,HE.out]
      exact ⟨rfl,Hb3.out⟩
  · rcases hk with hkind | hkind
    · have Hmem:=zH (show mem T V (i : Nat) = (n.kids.any (mem T V)) by rw [Hn.out];unfold memS;simp [hkind])
      rw [hkind] at n0;clear hkind
      have Hc:=zH hc
      have HV3:=zH (Hv.out.below Hb3.out);have HT3:=zH (Ht.out.below Hb3.out);have HK3:=zH (Hks.out.below Hb3.out)
      have GA:=zH gA;have GB:=zH gB
      clear hc a0 a1 a2 a3 a4 a5 a6 t0 t1 n1 n2 n3 n5 n6 n7 gA gB
      go_wp2
      go_loopw [8] (fun i wr=>∃ k : Nat,i = .int .i64 k ∧ k ≤ n.kids.length ∧ (n.kids.take k).any (mem T V) = false ∧ Below w3.heap.size w3 wr) (fun i _=>n.kids.length - (intOf i).toNat)
      case atStart=>exact ⟨0,rfl,by omega,by simp,Below.refl _ _⟩
      case round =>
        obtain ⟨k,rfl,hk,ha,hb⟩:=hrel
        have Ha:=zH ha;have Hb:=zH hb
        have Hbw:=zH (Hb3.out.step hb)
        obtain ⟨⟨a0,a1,a2,a3⟩,a4,a5,a6⟩:=t0f ((hb.block _ (t0a GA.out)).trans GA.out)
        obtain ⟨t0,t1⟩:=t0k ((hb.block _ (t0a GB.out)).trans GB.out)
        clear n0 n4
        obtain ⟨⟨n0,n1,n2,n3⟩,n4,n5,n6,n7⟩:=t0y ((hb.block _ (t0a GN.out)).trans GN.out)
        clear ha hb
        by_cases hlt : k < n.kids.length
        · obtain ⟨-,ak,ok,rfl,hak,zk⟩:=(HK3.out.below Hb.out).at hlt
          have hst : (n.kids.take (k + 1)).any (mem T V) = mem T V n.kids[k]:=by
            rw [List.take_succ_eq_append_getElem hlt,List.any_append,Ha.out];simp
          have Hno:=zH (show mem T V n.kids[k] = true → n.kids.any (mem T V) = true from fun h=>by
            exact List.any_eq_true.2 ⟨_,List.getElem_mem hlt,h⟩)
          have Hcall:=zH (Hc.out _ (List.getElem_mem hlt) wr.drew _ _ (HV3.out.below Hb.out.drew) (HT3.out.below Hb.out.drew))
          have Hst:=zH hst
          clear hst
          generalize n.kids[k] = kx at *
          cases hmv : mem T V kx with
          | true =>
            have Hf:=zH (Hno.out hmv)
            have Hmv:=zH hmv
            clear hmv
            go_wp2_with (first
              | (with_reducible refine rg ?_)
              | (with_reducible refine fo ?_)
              | (go_at_call 34;refine Hcall.out.mono ?_;rintro e w6 ⟨rfl,hb6⟩;rw [Hmv.out];have Hb6:=zH (Hbw.out.drew.step hb6);clear hb6))
            go_ret
            rw [Hmem.out,Hf.out]
            exact ⟨rfl,Hb6.out⟩
          | false =>
            have Hmv:=zH hmv
            have Hst2:=zH (Hst.out.trans hmv)
            clear hmv
            go_wp2_with (first
              | (with_reducible refine rg ?_)
              | (with_reducible refine fo ?_)
              | (go_at_call 34;refine Hcall.out.mono ?_;rintro e w6 ⟨rfl,hb6⟩;rw [Hmv.out];have Hb6:=zH (Hb.out.drew.step hb6);clear hb6))
            exact ⟨⟨k + 1,by go_num,by omega,Hst2.out,Hb6.out⟩,by simp [intOf];omega⟩
        · obtain rfl : k = n.kids.length:=by omega
          have Hf:=zH (show n.kids.any (mem T V) = false by have:=Ha.out;rwa [List.take_length] at this)
          go_wp2
          go_ret
          rw [Hmem.out,Hf.out]
          exact ⟨rfl,Hbw.out⟩
    · have Hmem:=zH (show mem T V (i : Nat) = (n.kids.all (mem T V)) by rw [Hn.out];unfold memS;simp [hkind])
      rw [hkind] at n0;clear hkind
      have Hc:=zH hc
      have HV3:=zH (Hv.out.below Hb3.out);have HT3:=zH (Ht.out.below Hb3.out);have HK3:=zH (Hks.out.below Hb3.out)
      have GA:=zH gA;have GB:=zH gB
      clear hc a0 a1 a2 a3 a4 a5 a6 t0 t1 n1 n2 n3 n5 n6 n7 gA gB
      go_wp2
      go_loopw [9] (fun i wr=>∃ k : Nat,i = .int .i64 k ∧ k ≤ n.kids.length ∧ (n.kids.take k).all (mem T V) = true ∧ Below w3.heap.size w3 wr) (fun i _=>n.kids.length - (intOf i).toNat)
      case atStart=>exact ⟨0,rfl,by omega,by simp,Below.refl _ _⟩
      case round =>
        obtain ⟨k,rfl,hk,ha,hb⟩:=hrel
        have Ha:=zH ha;have Hb:=zH hb
        have Hbw:=zH (Hb3.out.step hb)
        obtain ⟨⟨a0,a1,a2,a3⟩,a4,a5,a6⟩:=t0f ((hb.block _ (t0a GA.out)).trans GA.out)
        obtain ⟨t0,t1⟩:=t0k ((hb.block _ (t0a GB.out)).trans GB.out)
        clear n0 n4
        obtain ⟨⟨n0,n1,n2,n3⟩,n4,n5,n6,n7⟩:=t0y ((hb.block _ (t0a GN.out)).trans GN.out)
        clear ha hb
        by_cases hlt : k < n.kids.length
        · obtain ⟨-,ak,ok,rfl,hak,zk⟩:=(HK3.out.below Hb.out).at hlt
          have hst : (n.kids.take (k + 1)).all (mem T V) = mem T V n.kids[k]:=by
            rw [List.take_succ_eq_append_getElem hlt,List.all_append,Ha.out];simp
          have Hno:=zH (show mem T V n.kids[k] = false → n.kids.all (mem T V) = false from fun h=>by
            rw [Bool.eq_false_iff];intro h2;rw [List.all_eq_true] at h2;rw [h2 _ (List.getElem_mem hlt)] at h;cases h)
          have Hcall:=zH (Hc.out _ (List.getElem_mem hlt) wr.drew _ _ (HV3.out.below Hb.out.drew) (HT3.out.below Hb.out.drew))
          have Hst:=zH hst
          clear hst
          generalize n.kids[k] = kx at *
          cases hmv : mem T V kx with
          | false =>
            have Hf:=zH (Hno.out hmv)
            have Hmv:=zH hmv
            clear hmv
            go_wp2_with (first
              | (with_reducible refine rg ?_)
              | (with_reducible refine fo ?_)
              | (go_at_call 34;refine Hcall.out.mono ?_;rintro e w6 ⟨rfl,hb6⟩;rw [Hmv.out];have Hb6:=zH (Hbw.out.drew.step hb6);clear hb6))
            go_ret
            rw [Hmem.out,Hf.out]
            exact ⟨rfl,Hb6.out⟩
          | true =>
            have Hmv:=zH hmv
            have Hst2:=zH (Hst.out.trans hmv)
            clear hmv
            go_wp2_with (first
              | (with_reducible refine rg ?_)
              | (with_reducible refine fo ?_)
              | (go_at_call 34;refine Hcall.out.mono ?_;rintro e w6 ⟨rfl,hb6⟩;rw [Hmv.out];have Hb6:=zH (Hb.out.drew.step hb6);clear hb6))
            exact ⟨⟨k + 1,by go_num,by omega,Hst2.out,Hb6.out⟩,by simp [intOf];omega⟩
        · obtain rfl : k = n.kids.length:=by omega
          have Hf:=zH (show n.kids.all (mem T V) = true by have:=Ha.out;rwa [List.take_length] at this)
          go_wp2
          go_ret
          rw [Hmem.out,Hf.out]
          exact ⟨rfl,Hbw.out⟩
  · have Hmem:=zH (show mem T V (i : Nat) = (!mem T V (n.kids.getD 0 0)) by rw [Hn.out];unfold memS;simp [hkind])
    rw [hkind] at n0 HN;clear hkind
    obtain ⟨-,ak,ok,rfl,hak,zk⟩:=(Hks.out.below Hb3.out).at h0
    have hg : n.kids.getD 0 0 = n.kids[0]:=by rw [List.getD_eq_getElem?_getD,List.getElem?_eq_getElem h0];rfl
    rw [← hg] at zk
    rw [Nat.add_zero] at zk
    have Hc:=zH hc
    clear hc hg
    generalize n.kids.getD 0 0 = k0 at *
    go_wp2_with (first
      | (with_reducible refine rg ?_)
      | (with_reducible refine fo ?_)
      | (go_at_call 34;refine (Hc.out w3.drew _ _ (Hv.out.below Hb3.out.drew) (Ht.out.below Hb3.out.drew)).mono ?_;rintro e w6 ⟨rfl,hb6⟩;have Hb6:=zH (Hb3.out.drew.step hb6);clear hb6))
    go_ret
    rw [Hmem.out]
    exact ⟨rfl,Hb6.out⟩
  · have Hmem:=zH (show mem T V (i : Nat) = (V.labels.any fun s=>decide (s = n.text)) by rw [Hn.out];unfold memS;simp [hkind])
    rw [hkind] at n0 HN;clear hkind
    have HL3:=zH (Hlabs.out.below Hb3.out)
    have GA:=zH gA
    clear a0 a1 a2 a3 a4 a5 t0 t1 n1 n2 n4 n5 n6 n7 gA gB
    go_wp2
    go_loopw [10] (fun i wr=>∃ k : Nat,i = .int .i64 k ∧ k ≤ V.labels.length ∧ (V.labels.take k).any (fun s=>decide (s = n.text)) = false ∧ Below w3.heap.size w3 wr) (fun i _=>V.labels.length - (intOf i).toNat)
    case atStart=>exact ⟨0,rfl,by omega,by simp,Below.refl _ _⟩
    case round =>
      obtain ⟨k,rfl,hk,ha,hb⟩:=hrel
      have Ha:=zH ha;have Hb:=zH hb
      have Hbw:=zH (Hb3.out.step hb)
      clear a6 n0 n3
      obtain ⟨⟨a0,a1,a2,a3⟩,a4,a5,a6⟩:=t0f ((hb.block _ (t0a GA.out)).trans GA.out)
      obtain ⟨⟨n0,n1,n2,n3⟩,n4,n5,n6,n7⟩:=t0y ((hb.block _ (t0a GN.out)).trans GN.out)
      clear ha hb
      by_cases hlt : k < V.labels.length
      · obtain ⟨p',c',e9,hrk⟩:=HL3.out.below Hb.out
        injection e9 with e91 _ e93
        subst e91 e93
        obtain ⟨ak,ok,rfl,hak,zk⟩:=hrk.str hlt
        have hst:=t3a (p:=fun s=>decide (s = n.text)) hlt
        rw [Ha.out,Bool.false_or] at hst
        have hse:=t9e V.labels[k] n.text
        have Hno:=zH (show V.labels[k] = n.text → V.labels.any (fun s=>decide (s = n.text)) = true from fun h=>List.any_eq_true.2 ⟨_,List.getElem_mem hlt,by simp [h]⟩)
        have Hst:=zH hst
        clear hst hrk
        generalize V.labels[k] = x at *
        by_cases hx : x = n.text
        · have Hf:=zH (Hno.out hx)
          rw [decide_eq_true hx] at hse
          clear hx
          go_wp2_with (first
            | (with_reducible refine rg ?_)
            | (with_reducible refine fo ?_))
          go_ret
          rw [Hmem.out,Hf.out]
          exact ⟨rfl,Hbw.out.drew⟩
        · have Hst2:=zH (Hst.out.trans (decide_eq_false hx))
          rw [decide_eq_false hx] at hse
          clear hx
          go_wp2_with (first
            | (with_reducible refine rg ?_)
            | (with_reducible refine fo ?_))
          exact ⟨⟨k + 1,by go_num,by omega,Hst2.out,Hb.out.drew⟩,by simp [intOf];omega⟩
      · obtain rfl : k = V.labels.length:=by omega
        have Hf:=zH (show V.labels.any (fun s=>decide (s = n.text)) = false by have:=Ha.out;rwa [List.take_length] at this)
        go_wp2
        go_ret
        rw [Hmem.out,Hf.out]
        exact ⟨rfl,Hbw.out⟩
end Go.Proofs.YtjgldaaofdpcgaaGreat
