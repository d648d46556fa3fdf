/- Walks and plain facts for the laws of membership, for all values and types that the heap holds (texts M6 M7). -/
import Derived.Test.YtjgldaaofdpcgaaGreatW03
import Derived.Test.YtjgldaaofdpcgaaGreatW08
set_option linter.unusedVariables false
set_option linter.unusedSimpArgs false
namespace Go.Proofs.YtjgldaaofdpcgaaGreat
open Go.RowKit
set_option maxRecDepth 100000
theorem tdj {T : Ty} {V : VV} {n : TN} (h1 : ∀ j (h : j < n.fields.length),(n.fields[j].opt || V.keys.any fun k=>decide (k = n.fields[j].key)) = true)
    (h2 : ∀ j (h : j < V.keys.length) (h2 : j < V.kids.length),mem T V.kids[j] (atN n V.keys[j]) = true) : mapA (mem T) V n = true:=by
  unfold mapA
  rw [Bool.and_eq_true,List.all_eq_true,List.all_eq_true]
  refine ⟨fun f hf=>?_,fun p hp=>?_⟩
  · obtain ⟨j,hj,rfl⟩:=List.mem_iff_getElem.1 hf
    exact h1 j hj
  · obtain ⟨j,hj,rfl⟩:=List.mem_iff_getElem.1 hp
    rw [List.getElem_zip]
    rw [List.length_zip] at hj
    exact h2 j (by omega) (by omega)
theorem tb2 {T : Ty} {V : VV} {n : TN} {j : Nat} (h : j < n.fields.length) (h1 : (n.fields[j].opt || V.keys.any fun k=>decide (k = n.fields[j].key)) = false) : mapA (mem T) V n = false:=by
  unfold mapA
  rw [Bool.and_eq_false_iff]
  left
  rw [Bool.eq_false_iff]
  intro h2
  rw [List.all_eq_true] at h2
  rw [h2 _ (List.getElem_mem h)] at h1
  cases h1
theorem tb3 {T : Ty} {V : VV} {n : TN} {j : Nat} (h : j < V.keys.length) (h2 : j < V.kids.length) (h1 : mem T V.kids[j] (atN n V.keys[j]) = false) : mapA (mem T) V n = false:=by
  unfold mapA
  rw [Bool.and_eq_false_iff]
  right
  rw [Bool.eq_false_iff]
  intro h3
  rw [List.all_eq_true] at h3
  have hj : j < (V.keys.zip V.kids).length:=by rw [List.length_zip];omega
  have:=h3 _ (List.getElem_mem hj)
  rw [List.getElem_zip] at this
  rw [this] at h1
  cases h1
set_option maxHeartbeats 16000000 in
theorem tiu (T : Ty) (V : VV) (n : TN) (w : World) (cn : List Value) (v t : Value) (hv : VW w v V) (ht : TS w t T) (hn : NC w n cn) (hm : n.fields.length ≤ 9223372036854775807) (hL : V.keys.length ≤ 9223372036854775807)
    (hkk : V.keys.length = V.kids.length) (hkd : ∀ k ∈ V.keys,k.kind = 0 ∨ k.kind = 1) (hc : ∀ j (h : j < V.keys.length) (h2 : j < V.kids.length),HasC T V.kids[j] (atN n V.keys[j])) :
    Calls Tryz.prog 57 #[v,t,.agg cn.toArray] w (ER (mapA (mem T) V n) w):=by
  have HT:=zH ht;have HC:=zH hc;have HN:=zH hn;have Hkk:=zH hkk;have Hkd:=zH hkd
  obtain ⟨d,v1,b1,v2,b2,v3,b3,v4,b4,rfl,-,hkids,hkeys,-,-⟩:=hv.ex
  obtain ⟨p1,c1,p2,c2,rfl,-,hfs⟩:=hn
  obtain ⟨pt,ct,rfl,-⟩:=ht
  have Hkids:=zH hkids;have Hkeys:=zH hkeys;have Hfs:=zH hfs
  clear hc hv hkk hkd hkids hkeys hfs
  go_enter Tryz.func57,Tryz.ntmps57
  go_upto_region 1 with fail
  obtain ⟨w3,e9,hA,hB,hC,hb⟩:=t7n w (.cells #[.int .i64 V.kind,.int .i64 V.num,.string V.text,.slice v1 V.kids.length b1,.slice v2 V.keys.length b2,.slice v3 V.ents.length b3,.slice v4 V.labels.length b4] 28) (.cells #[.slice pt T.nodes.length ct,.int .i64 T.root] 31) (.cells #[.int .i64 n.kind,.int .i64 n.lo,.int .i64 n.hi,.string n.text,.slice p1 n.kids.length c1,.slice p2 n.fields.length c2,.int .i64 n.rest0,.int .i64 n.rest1] 48)
  rw [e9]
  obtain ⟨-,-,y5,-,-⟩:=t0y hC
  have hlA:=t0a hA
  have hlB:=t0a hB
  have hlC:=t0a hC
  have HbA:=zH hA;have HbB:=zH hB;have HbC:=zH hC;have Hb:=zH hb
  clear e9 hA hB hC hb
  go_wp2
  go_loopw [14] (fun i wr=>∃ k : Nat,i = .int .i64 k ∧ k ≤ n.fields.length ∧ (∀ j (h : j < n.fields.length),j < k → (n.fields[j].opt || V.keys.any fun q=>decide (q = n.fields[j].key)) = true) ∧ Below w3.heap.size w3 wr) (fun i _=>n.fields.length - (intOf i).toNat)
  case atStart=>exact ⟨0,rfl,by omega,fun j _ h=>by omega,Below.refl _ _⟩
  case round =>
    obtain ⟨k,rfl,hk,hall,hbr⟩:=hrel
    have Hall:=zH hall;have Hbr:=zH hbr
    have Hbw:=zH (Hb.out.step hbr)
    clear hall hbr
    by_cases hlt : k < n.fields.length
    · obtain ⟨a,o,cs,rfl,hab,-,hrng,rfl⟩:=Hfs.out.all hlt
      have hr:=hrng wr Hbw.out
      have z0:=hr 0 _ rfl
      have z1:=hr 1 _ rfl
      have z2:=hr 2 _ rfl
      have z3:=hr 3 _ rfl
      rw [Nat.add_zero] at z0
      have Hnx:=zH (show (n.fields[k].opt || V.keys.any fun q=>decide (q = n.fields[k].key)) = true → ∀ j (h : j < n.fields.length),j < k + 1 → (n.fields[j].opt || V.keys.any fun q=>decide (q = n.fields[j].key)) = true from fun h j hj hjk=>by
        rcases Nat.lt_succ_iff_lt_or_eq.1 hjk with g | rfl
        · exact Hall.out j hj g
        · exact h)
      have Hno:=zH (tb2 (T:=T) (V:=V) hlt)
      generalize n.fields[k] = f at *
      clear hr hrng
      obtain ⟨wo,hwo⟩ : ∃ wo : World,wo = wr:=⟨_,rfl⟩
      subst hwo
      go_upto_region 4 with fail
      have hnew:=heap_alloc_new wo (.cells #[.int .i64 f.key.kind,.string f.key.text,.int .i64 f.node,.bool f.opt] 75)
      have ho : Below wo.heap.size wo (wo.alloc (.cells #[.int .i64 f.key.kind,.string f.key.text,.int .i64 f.node,.bool f.opt] 75)):=(Below.refl _ _).alloc (Nat.le_refl _) _
      generalize wo.alloc (.cells #[.int .i64 f.key.kind,.string f.key.text,.int .i64 f.node,.bool f.opt] 75) = w5 at *
      have Hbr5:=zH (Hbr.out.step ho)
      have Hbw5:=zH (Hb.out.step Hbr5.out)
      obtain ⟨a0,a1,a2,a3⟩:=t7m hnew
      obtain ⟨⟨b0,b1',b2',b3'⟩,b4',b5',b6'⟩:=t0f ((Hbr5.out.block _ hlA).trans HbA.out)
      have Hcont:=zH (tgj _ V.keys f.key w5 (Hkeys.out.below Hbw5.out) hL)
      clear z0 z1 z2 z3 hnew ho
      cases hopt : f.opt with
      | true =>
        have Hnx2:=zH (Hnx.out (by rw [hopt];rfl))
        rw [hopt] at a3
        clear hopt
        go_wp2
        exact ⟨⟨k + 1,by go_num,by omega,Hnx2.out,Hbr5.out⟩,by simp [intOf];omega⟩
      | false =>
        rw [hopt] at a3
        cases hany : V.keys.any fun q=>decide (q = f.key) with
        | true =>
          have Hnx2:=zH (Hnx.out (by rw [hany];simp))
          rw [hany] at Hcont
          clear hopt hany
          go_wp2_with (go_at_call 92;refine Hcont.out.mono ?_;rintro e w7 ⟨rfl,hb7⟩;have Hb7:=zH (Hbr5.out.step hb7);clear hb7)
          exact ⟨⟨k + 1,by go_num,by omega,Hnx2.out,Hb7.out⟩,by simp [intOf];omega⟩
        | false =>
          have Hf:=zH (Hno.out (by rw [hany,hopt];rfl))
          rw [hany] at Hcont
          clear hopt hany
          go_wp2_with (go_at_call 92;refine Hcont.out.mono ?_;rintro e w7 ⟨rfl,hb7⟩;have Hb7:=zH (Hbw5.out.step hb7);clear hb7)
          go_ret
          rw [Hf.out]
          exact ⟨rfl,Hb7.out⟩
    · obtain rfl : k = n.fields.length:=by omega
      have Hall1:=zH (show ∀ j (h : j < n.fields.length),(n.fields[j].opt || V.keys.any fun q=>decide (q = n.fields[j].key)) = true from fun j h=>Hall.out j h h)
      clear Hall
      obtain ⟨⟨b0,b1',b2',b3'⟩,b4',b5',b6'⟩:=t0f ((Hbr.out.block _ hlA).trans HbA.out)
      obtain ⟨wp,hwp⟩ : ∃ wp : World,wp = wr:=⟨_,rfl⟩
      subst hwp
      go_wp2
      go_loopw [33] (fun i wr=>∃ k : Nat,i = .int .i64 k ∧ k ≤ V.keys.length ∧ (∀ j (h : j < V.keys.length) (h2 : j < V.kids.length),j < k → mem T V.kids[j] (atN n V.keys[j]) = true) ∧ Below w3.heap.size w3 wr) (fun i _=>V.keys.length - (intOf i).toNat)
      case atStart=>exact ⟨0,rfl,by omega,fun j _ _ h=>by omega,Hbr.out⟩
      case round =>
        obtain ⟨k,rfl,hk,hall,hbr⟩:=hrel
        have Hall:=zH hall;have Hbr:=zH hbr
        have Hbw:=zH (Hb.out.step hbr)
        clear hall hbr b0 b1' b2' b3' b4' b5' b6'
        by_cases hlt : k < V.keys.length
        · have hlk : k < V.kids.length:=by have:=Hkk.out;omega
          obtain ⟨p',c',e9,hrk⟩:=Hkeys.out.below Hbw.out
          injection e9 with e91 _ e93
          subst e91 e93
          obtain ⟨a,o,rfl,hab,z0,z1⟩:=hrk.key hlt
          obtain ⟨dk,p',c',e9,hrv⟩:=Hkids.out
          injection e9 with e91 _ e93
          subst e91 e93
          obtain ⟨a2,o2,cs,rfl,hab2,-,hrng,hP⟩:=hrv.all hlk
          obtain ⟨q1,e1,q2,e2,q3,e3,q4,e4,rfl⟩:=hP.seven
          have HP:=zH hP
          have Hrng:=zH hrng
          have Hcall:=zH (HC.out k hlt hlk)
          have Hkind:=zH (Hkd.out _ (List.getElem_mem hlt))
          have Hnx:=zH (show mem T V.kids[k] (atN n V.keys[k]) = true → ∀ j (h : j < V.keys.length) (h2 : j < V.kids.length),j < k + 1 → mem T V.kids[j] (atN n V.keys[j]) = true from fun g j h h2 hjk=>by
            rcases Nat.lt_succ_iff_lt_or_eq.1 hjk with g2 | rfl
            · exact Hall.out j h h2 g2
            · exact g)
          have Hno:=zH (tb3 (T:=T) (n:=n) hlt hlk)
          generalize V.keys[k] = ky at *
          generalize V.kids[k] = X at *
          clear hrk hrv hP hrng
          obtain ⟨wo,hwo⟩ : ∃ wo : World,wo = wr:=⟨_,rfl⟩
          subst hwo
          go_upto_region 10 with fail
          have hnew:=heap_alloc_new wo (.cells #[.int .i64 ky.kind,.string ky.text] 73)
          have ho : Below wo.heap.size wo (wo.alloc (.cells #[.int .i64 ky.kind,.string ky.text] 73)):=(Below.refl _ _).alloc (Nat.le_refl _) _
          generalize wo.alloc (.cells #[.int .i64 ky.kind,.string ky.text] 73) = w5 at *
          have Hbr5:=zH (Hbr.out.step ho)
          have Hbw5:=zH (Hb.out.step Hbr5.out)
          obtain ⟨k0,k1⟩:=t0k hnew
          have gA:=(Hbr5.out.block _ hlA).trans HbA.out
          have gB:=(Hbr5.out.block _ hlB).trans HbB.out
          obtain ⟨⟨b0,b1',b2',b3'⟩,b4',b5',b6'⟩:=t0f gA
          obtain ⟨t0,t1⟩:=t0k gB
          obtain ⟨⟨d0,d1,d2,d3⟩,d4,d5,d6,d7⟩:=t0y ((Hbr5.out.block _ hlC).trans HbC.out)
          have hr:=Hrng.out w5 Hbw5.out
          have r0:=hr 0 _ rfl
          have r1:=hr 1 _ rfl
          have r2:=hr 2 _ rfl
          have r3:=hr 3 _ rfl
          have r4:=hr 4 _ rfl
          have r5:=hr 5 _ rfl
          have r6:=hr 6 _ rfl
          rw [Nat.add_zero] at r0
          have LA:=zH (show w.heap.size < w5.drew.heap.size from t0a gA)
          have LB:=zH (show w.heap.size + 1 < w5.drew.heap.size from t0a gB)
          have LK:=zH (show a2 < w5.drew.heap.size from Nat.lt_of_lt_of_le hab2 Hbw5.out.size)
          have YA:=zH (show w5.drew.cell? ⟨w.heap.size,3,none⟩ = _ from b3')
          have YB:=zH (show w5.drew.cell? ⟨w.heap.size + 1,0,none⟩ = _ from t0)
          have YK:=zH (show w5.drew.cell? ⟨a2,o2 + k * 7,none⟩ = _ from r0)
          have Hat:=zH (tjn n ky w5.drew _ (HN.out.below Hbw5.out.drew) Hkind.out hm)
          clear z0 z1 hnew ho gA gB hr
          cases hmv : mem T X (atN n ky) with
          | true =>
            have Hnx2:=zH (Hnx.out hmv)
            have Hmv:=zH hmv
            clear hmv
            go_wp2_with (first
            | ((with_reducible refine Lex.t0w ?_);refine fE (by repeat first | exact LexK.t0t | refine LexK.t0o rfl ?_ | refine LexK.t0p (by decide +kernel) ?_ | refine LexK.t0c rfl LA.out YA.out ?_ | refine LexK.t0c rfl LB.out YB.out ?_ | refine LexK.t0c rfl LK.out YK.out ?_) ?_)
            | ((with_reducible refine Lex.t0q ?_);refine LexK.t0h (fun x=>x < w5.drew.heap.size) (by kernel_rfl) (by decide +kernel) ?_)
            | (with_reducible first | refine qH ?_ | refine LexK.t0s ?_ | refine LexK.t0v ?_)
            | ((with_reducible refine Lex.t1b ?_);with_reducible refine LexK.t0e Hext.out ?_)
            | (go_at_call 93;refine Hat.out.mono ?_;rintro e w6 ⟨rfl,hb6⟩;have Hext:=zH (LexK.Ext.of_below (Kp:=fun x=>x < w5.drew.heap.size) hb6 (Nat.le_refl _));have Hb6:=zH (Hbw5.out.drew.step hb6);have Hbr6:=zH (Hbr5.out.drew.step hb6);clear hb6)
            | (go_at_call 30;refine (Hcall.out w6 _ _ ⟨dk,_,rfl,HP.out.below Hb6.out⟩ (HT.out.below Hb6.out)).mono ?_;rintro e w7 ⟨rfl,hb7⟩;rw [Hmv.out];have Hext:=zH (LexK.Ext.of_below (Kp:=fun x=>x < w5.drew.heap.size) hb7 (Nat.le_refl _));have Hb7:=zH (Hb6.out.step hb7);have Hbr7:=zH (Hbr6.out.step hb7);clear hb7))
            exact ⟨⟨k + 1,by go_num,by omega,Hnx2.out,Hbr7.out⟩,by simp [intOf];omega⟩
          | false =>
            have Hf:=zH (Hno.out hmv)
            have Hmv:=zH hmv
            clear hmv
            go_wp2_with (first
            | ((with_reducible refine Lex.t0w ?_);refine fE (by repeat first | exact LexK.t0t | refine LexK.t0o rfl ?_ | refine LexK.t0p (by decide +kernel) ?_ | refine LexK.t0c rfl LA.out YA.out ?_ | refine LexK.t0c rfl LB.out YB.out ?_ | refine LexK.t0c rfl LK.out YK.out ?_) ?_)
            | ((with_reducible refine Lex.t0q ?_);refine LexK.t0h (fun x=>x < w5.drew.heap.size) (by kernel_rfl) (by decide +kernel) ?_)
            | (with_reducible first | refine qH ?_ | refine LexK.t0s ?_ | refine LexK.t0v ?_)
            | ((with_reducible refine Lex.t1b ?_);with_reducible refine LexK.t0e Hext.out ?_)
            | (go_at_call 93;refine Hat.out.mono ?_;rintro e w6 ⟨rfl,hb6⟩;have Hext:=zH (LexK.Ext.of_below (Kp:=fun x=>x < w5.drew.heap.size) hb6 (Nat.le_refl _));have Hb6:=zH (Hbw5.out.drew.step hb6);have Hbr6:=zH (Hbr5.out.drew.step hb6);clear hb6)
            | (go_at_call 30;refine (Hcall.out w6 _ _ ⟨dk,_,rfl,HP.out.below Hb6.out⟩ (HT.out.below Hb6.out)).mono ?_;rintro e w7 ⟨rfl,hb7⟩;rw [Hmv.out];have Hext:=zH (LexK.Ext.of_below (Kp:=fun x=>x < w5.drew.heap.size) hb7 (Nat.le_refl _));have Hb7:=zH (Hb6.out.step hb7);have Hbr7:=zH (Hbr6.out.step hb7);clear hb7))
            go_ret
            rw [Hf.out]
            exact ⟨rfl,Hb7.out⟩
        · obtain rfl : k = V.keys.length:=by omega
          have Hyes:=zH (tdj Hall1.out fun j h h2=>Hall.out j h h2 h)
          go_wp2
          go_ret
          rw [Hyes.out]
          exact ⟨rfl,Hbw.out⟩
end Go.Proofs.YtjgldaaofdpcgaaGreat
namespace Go.Proofs.YtjgldaaofdpcgaaGreat
open Go.RowKit
set_option maxRecDepth 100000
def HasQ (T : Ty) (V : VV) (n : TN) : Prop :=
  (n.kind = 1 ∨ n.kind = 2) ∨ n.kind = 3 ∨ (n.kind = 4 ∨ n.kind = 6) ∨ (n.kind = 5 ∨ n.kind = 7 ∨ n.kind = 8 ∨ n.kind = 9 ∨ n.kind = 11 ∨ n.kind = 15) ∨
  ((n.kind = 10 ∨ n.kind = 12) ∧ n.kids.length ≤ 1000 ∧ ∀ x ∈ V.kids,∀ k ∈ n.kids,HasC T x k) ∨
  (n.kind = 13 ∧ (V.kind = 8 → V.keys.length = V.kids.length) ∧ (∀ k ∈ V.keys,k.kind = 0 ∨ k.kind = 1) ∧ ∀ j (h : j < V.keys.length) (h2 : j < V.kids.length),HasC T V.kids[j] (atN n V.keys[j])) ∨
  (n.kind = 14 ∧ 1 ≤ n.kids.length ∧ n.kids.length ≤ 1000 ∧ ∀ e ∈ V.ents,(∀ x ∈ e.args,∀ k ∈ n.kids,HasC T x k) ∧ (e.fails = false → ∀ k ∈ n.kids,HasC T e.res k)) ∨
  ((n.kind = 16 ∨ n.kind = 17) ∧ ∀ x ∈ n.kids,HasC T V x) ∨
  (n.kind = 18 ∧ 0 < n.kids.length ∧ HasC T V (n.kids.getD 0 0)) ∨ n.kind = 19
set_option maxHeartbeats 64000000 in
theorem thp (T : Ty) (hw : WfT T) (V : VV) (i : Nat) (hi : i < T.nodes.length) (n : TN) (hn : n = T.node (i : Nat)) (hq : HasQ T V n) : HasC T V (i : Nat):=by
  intro w v t hv ht
  have Hn:=zH (show mem T V (i : Nat) = memS (mem T) V (mem T V) n by rw [hn];exact tdd hw.m _ _)
  have Hv:=zH hv;have Ht:=zH ht
  obtain ⟨d,v1,b1,v2,b2,v3,b3,v4,b4,rfl,hvs,hkids,hkeys,hents,hlabs⟩:=hv.ex
  obtain ⟨pt,ct,rfl,hnodes,hsz⟩:=ht
  have hlen:=hnodes.big
  have hszk : n.kids.length ≤ 9223372036854775807:=hsz _ (by rw [hn,T.node_at hi];exact List.getElem_mem hi)
  obtain ⟨a,o,cs,rfl,hab,-,hrng,hNC⟩:=hnodes.all hi
  rw [← T.node_at hi,← hn] at hNC
  have HN:=zH hNC
  obtain ⟨p1,c1,p2,c2,rfl,hks,hfs⟩:=hNC
  have Hks:=zH hks;have Hfs:=zH hfs;have Hvs:=zH hvs;have Hkids:=zH hkids;have Hkeys:=zH hkeys;have Hents:=zH hents;have Hlabs:=zH hlabs
  have hszl : V.labels.length ≤ 9223372036854775807:=by obtain ⟨_,_,_,h⟩:=hlabs;exact h.big
  have hszy : V.keys.length ≤ 9223372036854775807:=by obtain ⟨_,_,_,h⟩:=hkeys;exact h.big
  have hsze : V.ents.length ≤ 9223372036854775807:=by obtain ⟨_,_,_,_,h⟩:=hents;exact h.big
  have hszf:=hfs.big
  have Hq:=zH hq
  clear hn hq hnodes hsz hks hfs hv hvs hkids hkeys hents hlabs
  obtain ⟨w2,e9,hA,hB,hb⟩:=t1f w (.cells #[.int .i64 V.kind,.int .i64 V.num,.string V.text,.slice v1 V.kids.length b1,.slice v2 V.keys.length b2,.slice v3 V.ents.length b3,.slice v4 V.labels.length b4] 28) (.cells #[.slice (some ⟨a,o,none⟩) T.nodes.length ct,.int .i64 T.root] 31)
  have hr:=hrng w2 hb
  have z0:=hr 0 _ rfl;have z1:=hr 1 _ rfl;have z2:=hr 2 _ rfl;have z3:=hr 3 _ rfl;have z4:=hr 4 _ rfl;have z5:=hr 5 _ rfl;have z6:=hr 6 _ rfl;have z7:=hr 7 _ rfl
  rw [Nat.add_zero] at z0
  obtain ⟨x0,x1⟩:=t0k hB
  clear hrng hr
  go_enter Tryz.func30,Tryz.ntmps30
  go_upto_region 1 with fail
  clear e9
  go_upto_region 2 with fail
  have hnew:=heap_alloc_new w2 (.cells #[.int .i64 n.kind,.int .i64 n.lo,.int .i64 n.hi,.string n.text,.slice p1 n.kids.length c1,.slice p2 n.fields.length c2,.int .i64 n.rest0,.int .i64 n.rest1] 48)
  have ho : Below w2.heap.size w2 (w2.alloc (.cells #[.int .i64 n.kind,.int .i64 n.lo,.int .i64 n.hi,.string n.text,.slice p1 n.kids.length c1,.slice p2 n.fields.length c2,.int .i64 n.rest0,.int .i64 n.rest1] 48)):=(Below.refl _ _).alloc (Nat.le_refl _) _
  generalize w2.alloc (.cells #[.int .i64 n.kind,.int .i64 n.lo,.int .i64 n.hi,.string n.text,.slice p1 n.kids.length c1,.slice p2 n.fields.length c2,.int .i64 n.rest0,.int .i64 n.rest1] 48) = w3 at *
  have Hb3:=zH (hb.step ho)
  have gA:=(ho.block _ (t0a hA)).trans hA
  have gB:=(ho.block _ (t0a hB)).trans hB
  clear z0 z1 z2 z3 z4 z5 z6 z7 x0 x1 ho hb hA hB
  generalize w2.heap.size = bn at *
  obtain ⟨⟨a0,a1,a2,a3⟩,a4,a5,a6⟩:=t0f gA
  obtain ⟨t0,t1⟩:=t0k gB
  obtain ⟨⟨n0,n1,n2,n3⟩,n4,n5,n6,n7⟩:=t0y hnew
  have LN:=zH (show bn < w3.drew.heap.size from t0a hnew)
  clear hnew
  rcases Hq.out with hk | hkind | hk | hk | ⟨hk,hm,hc⟩ | ⟨hkind,hkk,hkd,hc⟩ | ⟨hkind,h1,hm,hc⟩ | ⟨hk,hc⟩ | ⟨hkind,h0,hc⟩ | hkind
  · obtain ⟨b,hb⟩ : ∃ b : Bool,(b = false ∧ n.kind = 1 ∨ b = true ∧ n.kind = 2):=hk.elim (fun h=>⟨_,.inl ⟨rfl,h⟩⟩) fun h=>⟨_,.inr ⟨rfl,h⟩⟩
    rcases hb with ⟨rfl,hkind⟩ | ⟨rfl,hkind⟩
    · have Hmem:=zH (show mem T V (i : Nat) = false by rw [Hn.out];unfold memS;simp [hkind])
      rw [hkind] at n0 HN;clear hkind
      go_wp2
      go_ret
      rw [Hmem.out]
      exact ⟨rfl,Hb3.out⟩
    · have Hmem:=zH (show mem T V (i : Nat) = true by rw [Hn.out];unfold memS;simp [hkind])
      rw [hkind] at n0 HN;clear hkind
      go_wp2
      go_ret
      rw [Hmem.out]
      exact ⟨rfl,Hb3.out⟩
  · have Hmem:=zH (show mem T V (i : Nat) = (decide (V.kind = 1) && (decide (n.lo ≤ V.num) && decide (V.num ≤ n.hi))) by rw [Hn.out];unfold memS;simp [hkind])
    rw [hkind] at n0 HN;clear hkind
    by_cases hk : V.kind = 1
    · have d0 : (V.kind == 1) = true:=by simp [hk]
      by_cases h1 : n.lo ≤ V.num
      · have d1 : decide (n.lo ≤ V.num) = true:=by simp [h1]
        have HE:=zH (show (decide (V.kind = 1) && (decide (n.lo ≤ V.num) && decide (V.num ≤ n.hi))) = decide (V.num ≤ n.hi) by simp [hk,h1])
        clear hk h1
        go_wp2
        go_ret
        rw [Hmem.out,HE.out]
        exact ⟨rfl,Hb3.out⟩
      · have d1 : decide (n.lo ≤ V.num) = false:=by simp;omega
        have HE:=zH (show (decide (V.kind = 1) && (decide (n.lo ≤ V.num) && decide (V.num ≤ n.hi))) = false by simp [h1])
        clear hk h1
        go_wp2
        go_ret
        rw [Hmem.out,HE.out]
        exact ⟨rfl,Hb3.out⟩
    · have d0 : (V.kind == 1) = false:=by simp [hk]
      have HE:=zH (show (decide (V.kind = 1) && (decide (n.lo ≤ V.num) && decide (V.num ≤ n.hi))) = false by simp [hk])
      clear hk
      go_wp2
      go_ret
      rw [Hmem.out,HE.out]
      exact ⟨rfl,Hb3.out⟩
  · obtain ⟨u,hu⟩ : ∃ u : Int,(n.kind = 4 ∧ u = 2) ∨ (n.kind = 6 ∧ u = 3):=by
      rcases hk with h | h
      · exact ⟨2,by simp [h]⟩
      · exact ⟨3,by simp [h]⟩
    have Hmem:=zH (show mem T V (i : Nat) = (decide (V.kind = u) && decide (V.text = n.text)) by rw [Hn.out];unfold memS;rcases hu with ⟨hkind,rfl⟩ | ⟨hkind,rfl⟩ <;> simp [hkind])
    by_cases hk : V.kind = u
    · have d0 : (V.kind == u) = true:=by simp [hk]
      have HE:=zH (show (decide (V.kind = u) && decide (V.text = n.text)) = (V.text.toList == n.text.toList) by rw [t9e];simp [hk])
      clear hk
      rcases hu with ⟨hkind,rfl⟩ | ⟨hkind,rfl⟩
      all_goals
        rw [hkind] at n0;clear hkind
        go_wp2
        go_ret
        rw [Hmem.out,HE.out]
        exact ⟨rfl,Hb3.out⟩
    · have d0 : (V.kind == u) = false:=by simp [hk]
      have HE:=zH (show (decide (V.kind = u) && decide (V.text = n.text)) = false by simp [hk])
      clear hk
      rcases hu with ⟨hkind,rfl⟩ | ⟨hkind,rfl⟩
      all_goals
        rw [hkind] at n0;clear hkind
        go_wp2
        go_ret
        rw [Hmem.out,HE.out]
        exact ⟨rfl,Hb3.out⟩
  · obtain ⟨u,hu⟩ : ∃ u : Int,(n.kind = 5 ∧ u = 2) ∨ (n.kind = 7 ∧ u = 3) ∨ (n.kind = 8 ∧ u = 4) ∨ (n.kind = 9 ∧ u = 5) ∨ (n.kind = 11 ∧ u = 6) ∨ (n.kind = 15 ∧ u = 9):=by
      rcases hk with h | h | h | h | h | h
      · exact ⟨2,by simp [h]⟩
      · exact ⟨3,by simp [h]⟩
      · exact ⟨4,by simp [h]⟩
      · exact ⟨5,by simp [h]⟩
      · exact ⟨6,by simp [h]⟩
      · exact ⟨9,by simp [h]⟩
    have Hmem:=zH (show mem T V (i : Nat) = decide (V.kind = u) by rw [Hn.out];unfold memS;rcases hu with ⟨hkind,rfl⟩ | ⟨hkind,rfl⟩ | ⟨hkind,rfl⟩ | ⟨hkind,rfl⟩ | ⟨hkind,rfl⟩ | ⟨hkind,rfl⟩ <;> simp [hkind,t5s])
    have HE:=zH (show decide (V.kind = u) = (V.kind == u) by rw [Bool.eq_iff_iff];simp)
    have LA:=zH (show w.heap.size < w3.drew.heap.size from t0a gA)
    have YA:=zH (show w3.drew.cell? ⟨w.heap.size,0,none⟩ = _ from a0)
    have Hk:=zH (show Calls Tryz.prog 55 #[.int .i64 n.kind] w3.drew fun e w'=>e = .returned (.int .i64 u) ∧ w3.drew = w' by rcases hu with ⟨hkind,rfl⟩ | ⟨hkind,rfl⟩ | ⟨hkind,rfl⟩ | ⟨hkind,rfl⟩ | ⟨hkind,rfl⟩ | ⟨hkind,rfl⟩ <;> rw [hkind] <;> exact tfk _ w3.drew)
    rcases hu with ⟨hkind,rfl⟩ | ⟨hkind,rfl⟩ | ⟨hkind,rfl⟩ | ⟨hkind,rfl⟩ | ⟨hkind,rfl⟩ | ⟨hkind,rfl⟩
    all_goals
      rw [hkind] at n0 Hk;clear hkind
      have YN:=zH (show w3.drew.cell? ⟨bn,0,none⟩ = _ from n0)
      go_wp2_with (first
        | ((with_reducible refine Lex.t0w ?_);refine fE (by repeat first | exact LexK.t0t | refine LexK.t0o rfl ?_ | refine LexK.t0p (by decide +kernel) ?_ | refine LexK.t0c rfl LA.out YA.out ?_ | refine LexK.t0c rfl LN.out YN.out ?_) ?_)
        | ((with_reducible refine Lex.t0q ?_);refine LexK.t0h (fun x=>x < w3.drew.heap.size) (by kernel_rfl) (by decide +kernel) ?_)
        | (with_reducible first | refine qH ?_ | refine LexK.t0s ?_ | refine LexK.t0v ?_)
        | ((with_reducible refine Lex.t1b ?_);with_reducible refine LexK.t0e (LexK.Ext.refl _) ?_)
        | (go_at_call 55;refine Hk.out.mono ?_;rintro e w6 ⟨rfl,rfl⟩))
      go_ret
      rw [Hmem.out,HE.out]
      exact ⟨rfl,Hb3.out.drew⟩
  · have Hall:=zH (tev T V.kids n.kids w3 _ _ _ (Hkids.out.below Hb3.out) (Ht.out.below Hb3.out) (Hks.out.below Hb3.out) hm hc)
    clear hc
    obtain ⟨u,hu⟩ : ∃ u : Int,(n.kind = 10 ∧ u = 6) ∨ (n.kind = 12 ∧ u = 7):=by
      rcases hk with h | h
      · exact ⟨6,by simp [h]⟩
      · exact ⟨7,by simp [h]⟩
    have Hmem:=zH (show mem T V (i : Nat) = (decide (V.kind = u) && all2 (mem T) V.kids n.kids) by rw [Hn.out];unfold memS;rcases hu with ⟨hkind,rfl⟩ | ⟨hkind,rfl⟩ <;> simp [hkind])
    by_cases hk : V.kind = u
    · have d0 : (V.kind == u) = true:=by simp [hk]
      have HE:=zH (show (decide (V.kind = u) && all2 (mem T) V.kids n.kids) = all2 (mem T) V.kids n.kids by simp [hk])
      clear hk
      rcases hu with ⟨hkind,rfl⟩ | ⟨hkind,rfl⟩
      all_goals
        rw [hkind] at n0;clear hkind
        go_wp2_with (go_at_call 56;refine Hall.out.mono ?_;rintro e w6 ⟨rfl,hb6⟩;have Hb6:=zH (Hb3.out.step hb6);clear hb6)
        go_ret
        rw [Hmem.out,HE.out]
        exact ⟨rfl,Hb6.out⟩
    · have d0 : (V.kind == u) = false:=by simp [hk]
      have HE:=zH (show (decide (V.kind = u) && all2 (mem T) V.kids n.kids) = false by simp [hk])
      clear hk
      rcases hu with ⟨hkind,rfl⟩ | ⟨hkind,rfl⟩
      all_goals
        rw [hkind] at n0;clear hkind
        go_wp2
        go_ret
        rw [Hmem.out,HE.out]
        exact ⟨rfl,Hb3.out⟩
  · have Hkk:=zH hkk;clear hkk
    have Hmem:=zH (show mem T V (i : Nat) = (decide (V.kind = 8) && mapA (mem T) V n) by rw [Hn.out];unfold memS;simp [hkind])
    rw [hkind] at n0 HN;clear hkind
    have Hmap:=zH (fun hkk=>tiu T V n w3 _ _ _ (Hv.out.below Hb3.out) (Ht.out.below Hb3.out) (HN.out.below Hb3.out) hszf hszy hkk hkd hc)
    clear hc hkd
    by_cases hk : V.kind = 8
    · have d0 : (V.kind == 8) = true:=by simp [hk]
      have HE:=zH (show (decide (V.kind = 8) && mapA (mem T) V n) = mapA (mem T) V n by simp [hk])
      have Hkk8:=zH (Hkk.out hk)
      clear hk
      have Hmap2:=zH (Hmap.out Hkk8.out)
      go_wp2_with (go_at_call 57;refine Hmap2.out.mono ?_;rintro e w6 ⟨rfl,hb6⟩;have Hb6:=zH (Hb3.out.step hb6);clear hb6)
      go_ret
      rw [Hmem.out,HE.out]
      exact ⟨rfl,Hb6.out⟩
    · have d0 : (V.kind == 8) = false:=by simp [hk]
      have HE:=zH (show (decide (V.kind = 8) && mapA (mem T) V n) = false by simp [hk])
      clear hk
      go_wp2
      go_ret
      rw [Hmem.out,HE.out]
      exact ⟨rfl,Hb3.out⟩
  · have Hmem:=zH (show mem T V (i : Nat) = (decide (V.kind = 9) && funA (mem T) V n) by rw [Hn.out];unfold memS;simp [hkind])
    rw [hkind] at n0 HN;clear hkind
    have Hfun:=zH (tdg T V n w3 _ _ _ (Hv.out.below Hb3.out) (Ht.out.below Hb3.out) (HN.out.below Hb3.out) h1 hm hsze hc)
    clear hc h1
    by_cases hk : V.kind = 9
    · have d0 : (V.kind == 9) = true:=by simp [hk]
      have HE:=zH (show (decide (V.kind = 9) && funA (mem T) V n) = funA (mem T) V n by simp [hk])
      clear hk
      go_wp2_with (go_at_call 58;refine Hfun.out.mono ?_;rintro e w6 ⟨rfl,hb6⟩;have Hb6:=zH (Hb3.out.step hb6);clear hb6)
      go_ret
      rw [Hmem.out,HE.out]
      exact ⟨rfl,Hb6.out⟩
    · have d0 : (V.kind == 9) = false:=by simp [hk]
      have HE:=zH (show (decide (V.kind = 9) && funA (mem T) V n) = false by simp [hk])
      clear hk
      go_wp2
      go_ret
      rw [Hmem.out,HE.out]
      exact ⟨rfl,Hb3.out⟩
  · rcases hk with hkind | hkind
    · have Hmem:=zH (show mem T V (i : Nat) = (n.kids.any fun x=>mem T V x) by rw [Hn.out];unfold memS;simp [hkind])
      rw [hkind] at n0 HN;clear hkind
      have Hcon:=zH (tee T V n.kids w3 _ w.heap.size (w.heap.size + 1) (Hks.out.below Hb3.out) hszk ⟨d,_,_,_,_,_,_,_,gA,Hvs.out.below Hb3.out⟩ ⟨_,_,gB,Ht.out.below Hb3.out⟩ hc)
      clear hc
      go_wp2_with (go_at_call 59;refine Hcon.out.mono ?_;rintro e w6 ⟨rfl,hb6⟩;have Hb6:=zH (Hb3.out.step hb6);clear hb6)
      go_ret
      rw [Hmem.out]
      exact ⟨rfl,Hb6.out⟩
    · have Hmem:=zH (show mem T V (i : Nat) = (!(n.kids.any fun x=>!mem T V x)) by rw [Hn.out];unfold memS;simp [hkind,List.not_any_eq_all_not])
      rw [hkind] at n0 HN;clear hkind
      have Hcon:=zH (tef T V n.kids w3 _ w.heap.size (w.heap.size + 1) (Hks.out.below Hb3.out) hszk ⟨d,_,_,_,_,_,_,_,gA,Hvs.out.below Hb3.out⟩ ⟨_,_,gB,Ht.out.below Hb3.out⟩ hc)
      clear hc
      go_wp2_with (go_at_call 59;refine Hcon.out.mono ?_;rintro e w6 ⟨rfl,hb6⟩;have Hb6:=zH (Hb3.out.step hb6);clear hb6)
      go_ret
      rw [Hmem.out]
      exact ⟨rfl,Hb6.out⟩
  · have Hmem:=zH (show mem T V (i : Nat) = (!mem T V (n.kids.getD 0 0)) by rw [Hn.out];unfold memS;simp [hkind])
    rw [hkind] at n0 HN;clear hkind
    obtain ⟨-,ak,ok,rfl,hak,zk⟩:=(Hks.out.below Hb3.out).at h0
    have hg : n.kids.getD 0 0 = n.kids[0]:=by rw [List.getD_eq_getElem?_getD,List.getElem?_eq_getElem h0];rfl
    rw [← hg] at zk
    rw [Nat.add_zero] at zk
    have Hc:=zH hc
    clear hc hg
    generalize n.kids.getD 0 0 = k0 at *
    go_wp2_with (first
      | (with_reducible refine rg ?_)
      | (with_reducible refine fo ?_)
      | (go_at_call 30;refine (Hc.out w3.drew _ _ (Hv.out.below Hb3.out.drew) (Ht.out.below Hb3.out.drew)).mono ?_;rintro e w6 ⟨rfl,hb6⟩;have Hb6:=zH (Hb3.out.drew.step hb6);clear hb6))
    go_ret
    rw [Hmem.out]
    exact ⟨rfl,Hb6.out⟩
  · have Hmem:=zH (show mem T V (i : Nat) = (V.labels.any fun s=>decide (s = n.text)) by rw [Hn.out];unfold memS;simp [hkind])
    rw [hkind] at n0 HN;clear hkind
    have Hcon:=zH (tgi _ V.labels n.text w3 (Hlabs.out.below Hb3.out) hszl)
    go_wp2_with (go_at_call 62;refine Hcon.out.mono ?_;rintro e w6 ⟨rfl,hb6⟩;have Hb6:=zH (Hb3.out.step hb6);clear hb6)
    go_ret
    rw [Hmem.out]
    exact ⟨rfl,Hb6.out⟩
end Go.Proofs.YtjgldaaofdpcgaaGreat
