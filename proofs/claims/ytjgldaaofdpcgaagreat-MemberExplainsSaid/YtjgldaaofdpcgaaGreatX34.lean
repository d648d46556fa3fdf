/- Walks and plain facts for the laws of membership, for all values and types that the heap holds (texts Q3). -/
import Derived.Test.YtjgldaaofdpcgaaGreatX03
import Derived.Test.YtjgldaaofdpcgaaGreatX33
set_option linter.unusedVariables false
set_option linter.unusedSimpArgs false
namespace Go.Proofs.YtjgldaaofdpcgaaGreat
open Go.RowKit
set_option maxRecDepth 100000
set_option maxHeartbeats 32000000 in
theorem ti4 (T : Ty) (V : VV) (n : TN) (w : World) (cn : List Value) (v t : Value) (hv : VW w v V) (ht : TS w t T) (hn : NC w n cn)
    (hkk : V.keys.length = V.kids.length) (hkd : ∀ k ∈ V.keys,k.kind = 0 ∨ k.kind = 1) (hc : ∀ j (h : j < V.keys.length) (h2 : j < V.kids.length),HasR T V.kids[j] (atN n V.keys[j])) :
    Calls Tryz.prog 67 #[v,t,.agg cn.toArray] w (ER (mapA (mem T) V n) w):=by
  have HT:=zH ht;have HC:=zH hc;have HN:=zH hn;have Hkk:=zH hkk;have Hkd:=zH hkd;have HV:=zH hv
  obtain ⟨d,v1,b1,v2,b2,v3,b3,v4,b4,rfl,-,hkids,hkeys,-,-⟩:=hv.ex
  obtain ⟨p1,c1,p2,c2,rfl,-,hfs⟩:=hn
  obtain ⟨pt,ct,rfl,-⟩:=ht
  have hm:=hfs.big
  have hL : V.keys.length ≤ 9223372036854775807:=by obtain ⟨_,_,_,h⟩:=hkeys;exact h.big
  have Hkids:=zH hkids;have Hkeys:=zH hkeys;have Hfs:=zH hfs
  clear hc hv hkk hkd hkids hkeys hfs
  go_enter Tryz.func67,Tryz.ntmps67
  go_upto_region 1 with fail
  obtain ⟨w3,e9,hA,hB,hC,hb⟩:=t7i w (.cells #[.int .i64 V.kind,.int .i64 V.num,.string V.text,.slice v1 V.kids.length b1,.slice v2 V.keys.length b2,.slice v3 V.ents.length b3,.slice v4 V.labels.length b4] 28) (.cells #[.slice pt T.nodes.length ct,.int .i64 T.root] 31) (.cells #[.int .i64 n.kind,.int .i64 n.lo,.int .i64 n.hi,.string n.text,.slice p1 n.kids.length c1,.slice p2 n.fields.length c2,.int .i64 n.rest0,.int .i64 n.rest1] 48)
  rw [e9]
  have hlA:=t0a hA
  have hlB:=t0a hB
  have hlC:=t0a hC
  have HbA:=zH hA;have HbB:=zH hB;have HbC:=zH hC;have Hb:=zH hb
  clear e9 hA hB hC hb
  go_wp2
  go_loopw [7] (fun i wr=>∃ k : Nat,i = .int .i64 k ∧ k ≤ n.fields.length ∧ (∀ j (h : j < n.fields.length),j < k → (n.fields[j].opt || V.keys.any fun q=>decide (q = n.fields[j].key)) = true) ∧ Below w3.heap.size w3 wr) (fun i _=>n.fields.length - (intOf i).toNat)
  case atStart=>exact ⟨0,rfl,by omega,fun j _ h=>by omega,Below.refl _ _⟩
  case round =>
    obtain ⟨k,rfl,hk,hall,hbr⟩:=hrel
    have Hall:=zH hall;have Hbr:=zH hbr
    have Hbw:=zH (Hb.out.step hbr)
    obtain ⟨⟨d0,d1,d2,d3⟩,d4,d5,d6,d7⟩:=t0x ((hbr.block _ hlC).trans HbC.out)
    obtain ⟨⟨b0,b1',b2',b3'⟩,b4',b5',b6'⟩:=t0j ((hbr.block _ hlA).trans HbA.out)
    clear hall hbr
    by_cases hlt : k < n.fields.length
    · obtain ⟨a,o,cs,rfl,hab,-,hrng,rfl⟩:=Hfs.out.all hlt
      have hr:=hrng wr Hbw.out
      have z0:=hr 0 _ rfl
      have z1:=hr 1 _ rfl
      have z2:=hr 2 _ rfl
      have z3:=hr 3 _ rfl
      rw [Nat.add_zero] at z0
      have Hnx:=zH (show (n.fields[k].opt || V.keys.any fun q=>decide (q = n.fields[k].key)) = true → ∀ j (h : j < n.fields.length),j < k + 1 → (n.fields[j].opt || V.keys.any fun q=>decide (q = n.fields[j].key)) = true from fun h j hj hjk=>by
        rcases Nat.lt_succ_iff_lt_or_eq.1 hjk with g | rfl
        · exact Hall.out j hj g
        · exact h)
      have Hno:=zH (tax (T:=T) (V:=V) hlt)
      generalize n.fields[k] = f at *
      clear hr hrng
      have Hkey:=zH (tj4 V f.key wr.drew _ (HV.out.below Hbw.out.drew))
      cases hopt : f.opt with
      | true =>
        have Hnx2:=zH (Hnx.out (by rw [hopt];rfl))
        rw [hopt] at z3
        clear hopt
        go_wp2_with (first
          | (with_reducible refine rg ?_)
          | (with_reducible refine fo ?_))
        exact ⟨⟨k + 1,by go_num,by omega,Hnx2.out,Hbr.out.drew⟩,by simp [intOf];omega⟩
      | false =>
        rw [hopt] at z3
        cases hany : V.keys.any fun q=>decide (q = f.key) with
        | true =>
          have Hnx2:=zH (Hnx.out (by rw [hany];simp))
          have Hany:=zH hany
          clear hopt hany
          go_wp2_with (first
            | (with_reducible refine rg ?_)
            | (with_reducible refine fo ?_)
            | (go_at_call 98;refine Hkey.out.mono ?_;rintro e w7 ⟨i,rfl,hi,-,hb7⟩;have di : decide (i < 0) = false:=(by rw [Hany.out] at hi;simp at hi ⊢;omega);have Hb7:=zH (Hbr.out.drew.step hb7);clear hb7 hi))
          exact ⟨⟨k + 1,by go_num,by omega,Hnx2.out,Hb7.out⟩,by simp [intOf];omega⟩
        | false =>
          have Hf:=zH (Hno.out (by rw [hany,hopt];rfl))
          have Hany:=zH hany
          clear hopt hany
          go_wp2_with (first
            | (with_reducible refine rg ?_)
            | (with_reducible refine fo ?_)
            | (go_at_call 98;refine Hkey.out.mono ?_;rintro e w7 ⟨i,rfl,hi,-,hb7⟩;have di : decide (i < 0) = true:=(by rw [Hany.out] at hi;simp at hi ⊢;omega);have Hb7:=zH (Hbw.out.drew.step hb7);clear hb7 hi))
          go_ret
          rw [Hf.out]
          exact ⟨rfl,Hb7.out⟩
    · obtain rfl : k = n.fields.length:=by omega
      have Hall1:=zH (show ∀ j (h : j < n.fields.length),(n.fields[j].opt || V.keys.any fun q=>decide (q = n.fields[j].key)) = true from fun j h=>Hall.out j h h)
      clear Hall
      obtain ⟨wp,hwp⟩ : ∃ wp : World,wp = wr:=⟨_,rfl⟩
      subst hwp
      go_wp2
      go_loopw [8] (fun i wr=>∃ k : Nat,i = .int .i64 k ∧ k ≤ V.keys.length ∧ (∀ j (h : j < V.keys.length) (h2 : j < V.kids.length),j < k → mem T V.kids[j] (atN n V.keys[j]) = true) ∧ Below w3.heap.size w3 wr) (fun i _=>V.keys.length - (intOf i).toNat)
      case atStart=>exact ⟨0,rfl,by omega,fun j _ _ h=>by omega,Hbr.out⟩
      case round =>
        obtain ⟨k,rfl,hk,hall,hbr⟩:=hrel
        have Hall:=zH hall;have Hbr:=zH hbr
        have Hbw:=zH (Hb.out.step hbr)
        clear d0 d1 d2 d3 d4 d5 d6 d7 b0 b1' b2' b3' b4' b5' b6'
        obtain ⟨⟨d0,d1,d2,d3⟩,d4,d5,d6,d7⟩:=t0x ((hbr.block _ hlC).trans HbC.out)
        obtain ⟨⟨b0,b1',b2',b3'⟩,b4',b5',b6'⟩:=t0j ((hbr.block _ hlA).trans HbA.out)
        clear hall hbr
        by_cases hlt : k < V.keys.length
        · have hlk : k < V.kids.length:=by have:=Hkk.out;omega
          obtain ⟨p',c',e9,hrk⟩:=Hkeys.out
          injection e9 with e91 _ e93
          subst e91 e93
          have Hrk:=zH (show ∀ w',Below w.heap.size w w' → ∃ a o,v2 = some ⟨a,o,none⟩ ∧ a < w'.heap.size ∧ w'.cell? ⟨a,o + k * 2,none⟩ = some (.int .i64 V.keys[k].kind) ∧ w'.cell? ⟨a,o + k * 2 + 1,none⟩ = some (.string V.keys[k].text) from fun w' hb=>(hrk.below hb fun _ _ _ h=>h).key hlt)
          obtain ⟨a,o,rfl,hab,z0,z1⟩:=Hrk.out wr Hbw.out
          obtain ⟨dk,p',c',e9,hrv⟩:=Hkids.out
          injection e9 with e91 _ e93
          subst e91 e93
          obtain ⟨a2,o2,cs,rfl,hab2,-,hrng,hP⟩:=hrv.all hlk
          obtain ⟨q1,e1,q2,e2,q3,e3,q4,e4,rfl⟩:=hP.seven
          have HP:=zH hP
          have Hrng:=zH hrng
          have Hcall:=zH (HC.out k hlt hlk)
          have Hkind:=zH (Hkd.out _ (List.getElem_mem hlt))
          have Hnx:=zH (show mem T V.kids[k] (atN n V.keys[k]) = true → ∀ j (h : j < V.keys.length) (h2 : j < V.kids.length),j < k + 1 → mem T V.kids[j] (atN n V.keys[j]) = true from fun g j h h2 hjk=>by
            rcases Nat.lt_succ_iff_lt_or_eq.1 hjk with g2 | rfl
            · exact Hall.out j h h2 g2
            · exact g)
          have Hno:=zH (tay (T:=T) (n:=n) hlt hlk)
          generalize V.keys[k] = ky at *
          generalize V.kids[k] = X at *
          clear hrk hrv hP hrng
          have Hfi:=zH (th6 n ky wr.drew _ (HN.out.below Hbw.out.drew))
          go_upto_region 10 with (first
            | (with_reducible refine rg ?_)
            | (with_reducible refine fo ?_)
            | (go_at_call 99;refine Hfi.out.mono ?_;rintro e w8 ⟨i,rfl,hi,hb8⟩;have Hi:=zH hi;have Hbr8:=zH (Hbr.out.drew.step hb8);have Hbw8:=zH (Hbw.out.drew.step hb8);clear hi hb8))
          clear d0 d1 d2 d3 d4 d5 d6 d7 b0 b1' b2' b3' b4' b5' b6' z0 z1
          obtain ⟨⟨d0,d1,d2,d3⟩,d4,d5,d6,d7⟩:=t0x ((Hbr8.out.block _ hlC).trans HbC.out)
          obtain ⟨⟨b0,b1',b2',b3'⟩,b4',b5',b6'⟩:=t0j ((Hbr8.out.block _ hlA).trans HbA.out)
          obtain ⟨t0,t1⟩:=t0k ((Hbr8.out.block _ hlB).trans HbB.out)
          obtain ⟨a',o',e9,-,y0,y1⟩:=Hrk.out w8 Hbw8.out
          injection e9 with e9
          injection e9 with e91 e92
          subst e91 e92
          rcases Hkind.out with hkd | hkd
          · rw [hkd] at y0
            rcases Hi.out with ⟨rfl,hnone⟩ | ⟨j,rfl,hj,hat⟩
            · have hat : atN n ky = n.rest0:=by rw [t9a hnone,if_pos hkd]
              clear hkd hnone
              have Hcl:=zH (show HasR T X n.rest0 by have h:=Hcall.out;rw [hat] at h;exact h)
              have hr:=Hrng.out w8 Hbw8.out
              have r0:=hr 0 _ rfl
              have r1:=hr 1 _ rfl
              have r2:=hr 2 _ rfl
              have r3:=hr 3 _ rfl
              have r4:=hr 4 _ rfl
              have r5:=hr 5 _ rfl
              have r6:=hr 6 _ rfl
              rw [Nat.add_zero] at r0
              cases hmv : mem T X n.rest0 with
              | true =>
                have Hnx2:=zH (Hnx.out (by rw [hat];exact hmv))
                have Hmv:=zH hmv
                clear hmv hat hr
                go_wp2_with (first
                  | (with_reducible refine rg ?_)
                  | (with_reducible refine fo ?_)
                  | (go_at_call 34;refine (Hcl.out w8.drew _ _ ⟨dk,_,rfl,HP.out.below Hbw8.out.drew⟩ (HT.out.below Hbw8.out.drew)).mono ?_;rintro e w9 ⟨rfl,hb9⟩;rw [Hmv.out];have Hbr9:=zH (Hbr8.out.drew.step hb9);clear hb9))
                exact ⟨⟨k + 1,by go_num,by omega,Hnx2.out,Hbr9.out⟩,by simp [intOf];omega⟩
              | false =>
                have Hf:=zH (Hno.out (by rw [hat];exact hmv))
                have Hmv:=zH hmv
                clear hmv hat hr
                go_wp2_with (first
                  | (with_reducible refine rg ?_)
                  | (with_reducible refine fo ?_)
                  | (go_at_call 34;refine (Hcl.out w8.drew _ _ ⟨dk,_,rfl,HP.out.below Hbw8.out.drew⟩ (HT.out.below Hbw8.out.drew)).mono ?_;rintro e w9 ⟨rfl,hb9⟩;rw [Hmv.out];have Hbw9:=zH (Hbw8.out.drew.step hb9);clear hb9))
                go_ret
                rw [Hf.out]
                exact ⟨rfl,Hbw9.out⟩
            · obtain ⟨af,of,cs,rfl,hafb,-,hfr,rfl⟩:=(Hfs.out.below Hbw8.out fun _ _ _ h=>h).at hj
              have g2:=hfr 2 _ rfl
              generalize n.fields[j] = fj at *
              clear hkd hfr
              have Hcl:=zH (show HasR T X fj.node by have h:=Hcall.out;rw [hat] at h;exact h)
              have hr:=Hrng.out w8 Hbw8.out
              have r0:=hr 0 _ rfl
              have r1:=hr 1 _ rfl
              have r2:=hr 2 _ rfl
              have r3:=hr 3 _ rfl
              have r4:=hr 4 _ rfl
              have r5:=hr 5 _ rfl
              have r6:=hr 6 _ rfl
              rw [Nat.add_zero] at r0
              cases hmv : mem T X fj.node with
              | true =>
                have Hnx2:=zH (Hnx.out (by rw [hat];exact hmv))
                have Hmv:=zH hmv
                clear hmv hat hr
                go_wp2_with (first
                  | (with_reducible refine rg ?_)
                  | (with_reducible refine fo ?_)
                  | (go_at_call 34;refine (Hcl.out w8.drew _ _ ⟨dk,_,rfl,HP.out.below Hbw8.out.drew⟩ (HT.out.below Hbw8.out.drew)).mono ?_;rintro e w9 ⟨rfl,hb9⟩;rw [Hmv.out];have Hbr9:=zH (Hbr8.out.drew.step hb9);clear hb9))
                exact ⟨⟨k + 1,by go_num,by omega,Hnx2.out,Hbr9.out⟩,by simp [intOf];omega⟩
              | false =>
                have Hf:=zH (Hno.out (by rw [hat];exact hmv))
                have Hmv:=zH hmv
                clear hmv hat hr
                go_wp2_with (first
                  | (with_reducible refine rg ?_)
                  | (with_reducible refine fo ?_)
                  | (go_at_call 34;refine (Hcl.out w8.drew _ _ ⟨dk,_,rfl,HP.out.below Hbw8.out.drew⟩ (HT.out.below Hbw8.out.drew)).mono ?_;rintro e w9 ⟨rfl,hb9⟩;rw [Hmv.out];have Hbw9:=zH (Hbw8.out.drew.step hb9);clear hb9))
                go_ret
                rw [Hf.out]
                exact ⟨rfl,Hbw9.out⟩
          · rw [hkd] at y0
            rcases Hi.out with ⟨rfl,hnone⟩ | ⟨j,rfl,hj,hat⟩
            · have hat : atN n ky = n.rest1:=by rw [t9a hnone,if_neg (by rw [hkd];decide)]
              clear hkd hnone
              have Hcl:=zH (show HasR T X n.rest1 by have h:=Hcall.out;rw [hat] at h;exact h)
              have hr:=Hrng.out w8 Hbw8.out
              have r0:=hr 0 _ rfl
              have r1:=hr 1 _ rfl
              have r2:=hr 2 _ rfl
              have r3:=hr 3 _ rfl
              have r4:=hr 4 _ rfl
              have r5:=hr 5 _ rfl
              have r6:=hr 6 _ rfl
              rw [Nat.add_zero] at r0
              cases hmv : mem T X n.rest1 with
              | true =>
                have Hnx2:=zH (Hnx.out (by rw [hat];exact hmv))
                have Hmv:=zH hmv
                clear hmv hat hr
                go_wp2_with (first
                  | (with_reducible refine rg ?_)
                  | (with_reducible refine fo ?_)
                  | (go_at_call 34;refine (Hcl.out w8.drew _ _ ⟨dk,_,rfl,HP.out.below Hbw8.out.drew⟩ (HT.out.below Hbw8.out.drew)).mono ?_;rintro e w9 ⟨rfl,hb9⟩;rw [Hmv.out];have Hbr9:=zH (Hbr8.out.drew.step hb9);clear hb9))
                exact ⟨⟨k + 1,by go_num,by omega,Hnx2.out,Hbr9.out⟩,by simp [intOf];omega⟩
              | false =>
                have Hf:=zH (Hno.out (by rw [hat];exact hmv))
                have Hmv:=zH hmv
                clear hmv hat hr
                go_wp2_with (first
                  | (with_reducible refine rg ?_)
                  | (with_reducible refine fo ?_)
                  | (go_at_call 34;refine (Hcl.out w8.drew _ _ ⟨dk,_,rfl,HP.out.below Hbw8.out.drew⟩ (HT.out.below Hbw8.out.drew)).mono ?_;rintro e w9 ⟨rfl,hb9⟩;rw [Hmv.out];have Hbw9:=zH (Hbw8.out.drew.step hb9);clear hb9))
                go_ret
                rw [Hf.out]
                exact ⟨rfl,Hbw9.out⟩
            · obtain ⟨af,of,cs,rfl,hafb,-,hfr,rfl⟩:=(Hfs.out.below Hbw8.out fun _ _ _ h=>h).at hj
              have g2:=hfr 2 _ rfl
              generalize n.fields[j] = fj at *
              clear hkd hfr
              have Hcl:=zH (show HasR T X fj.node by have h:=Hcall.out;rw [hat] at h;exact h)
              have hr:=Hrng.out w8 Hbw8.out
              have r0:=hr 0 _ rfl
              have r1:=hr 1 _ rfl
              have r2:=hr 2 _ rfl
              have r3:=hr 3 _ rfl
              have r4:=hr 4 _ rfl
              have r5:=hr 5 _ rfl
              have r6:=hr 6 _ rfl
              rw [Nat.add_zero] at r0
              cases hmv : mem T X fj.node with
              | true =>
                have Hnx2:=zH (Hnx.out (by rw [hat];exact hmv))
                have Hmv:=zH hmv
                clear hmv hat hr
                go_wp2_with (first
                  | (with_reducible refine rg ?_)
                  | (with_reducible refine fo ?_)
                  | (go_at_call 34;refine (Hcl.out w8.drew _ _ ⟨dk,_,rfl,HP.out.below Hbw8.out.drew⟩ (HT.out.below Hbw8.out.drew)).mono ?_;rintro e w9 ⟨rfl,hb9⟩;rw [Hmv.out];have Hbr9:=zH (Hbr8.out.drew.step hb9);clear hb9))
                exact ⟨⟨k + 1,by go_num,by omega,Hnx2.out,Hbr9.out⟩,by simp [intOf];omega⟩
              | false =>
                have Hf:=zH (Hno.out (by rw [hat];exact hmv))
                have Hmv:=zH hmv
                clear hmv hat hr
                go_wp2_with (first
                  | (with_reducible refine rg ?_)
                  | (with_reducible refine fo ?_)
                  | (go_at_call 34;refine (Hcl.out w8.drew _ _ ⟨dk,_,rfl,HP.out.below Hbw8.out.drew⟩ (HT.out.below Hbw8.out.drew)).mono ?_;rintro e w9 ⟨rfl,hb9⟩;rw [Hmv.out];have Hbw9:=zH (Hbw8.out.drew.step hb9);clear hb9))
                go_ret
                rw [Hf.out]
                exact ⟨rfl,Hbw9.out⟩
        · obtain rfl : k = V.keys.length:=by omega
          have Hyes:=zH (tdg Hall1.out fun j h h2=>Hall.out j h h2 h)
          go_wp2
          go_ret
          rw [Hyes.out]
          exact ⟨rfl,Hbw.out⟩
end Go.Proofs.YtjgldaaofdpcgaaGreat
