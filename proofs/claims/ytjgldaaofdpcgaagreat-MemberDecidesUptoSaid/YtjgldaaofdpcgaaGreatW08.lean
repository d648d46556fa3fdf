/- Walks and plain facts for the laws of membership, for all values and types that the heap holds (texts M5 V3). -/
import Derived.Test.YtjgldaaofdpcgaaGreatW03
import Derived.Test.YtjgldaaofdpcgaaGreatW05
import Derived.Test.YtjgldaaofdpcgaaGreatW07
set_option linter.unusedVariables false
set_option linter.unusedSimpArgs false
namespace Go.Proofs.YtjgldaaofdpcgaaGreat
open Go.RowKit
set_option maxRecDepth 100000
theorem t1k {w : World} {b : Nat} {e : TypeId} {fr : Nat × Nat} {s0 s1 s2 s3 s4 s5 s6 s7 s8 : Value} (h : w.heap[b]? = some (.cells #[s0,s1,s2,s3,s4,s5,s6,s7,s8] e fr)) :
    (w.cell? ⟨b,0,none⟩ = some s0 ∧ w.cell? ⟨b,1,none⟩ = some s1 ∧ w.cell? ⟨b,2,none⟩ = some s2 ∧ w.cell? ⟨b,3,none⟩ = some s3) ∧ (w.cell? ⟨b,4,none⟩ = some s4 ∧ w.cell? ⟨b,5,none⟩ = some s5 ∧ w.cell? ⟨b,6,none⟩ = some s6 ∧ w.cell? ⟨b,7,none⟩ = some s7) ∧ w.cell? ⟨b,8,none⟩ = some s8:=by simp [World.cell?,h]
theorem RC.takeI {w : World} {p : Option Addr} {n : Nat} {xs : List Int} (h : RC w 1 p n (ic xs)) {m : Nat} (hm : m ≤ xs.length) : RC w 1 p m (ic (xs.take m)):=by
  have hl : (ic xs).length = n * 1:=h.1
  rw [t9a,Nat.mul_one] at hl
  refine ⟨by rw [t9a,List.length_take];omega,fun h0=>?_⟩
  obtain ⟨a,o,h1,h2,h3⟩:=h.2 (by omega)
  refine ⟨a,o,h1,h2,fun j u hu=>h3 j u ?_⟩
  rw [← hu]
  have hj : j < m:=by
    have:=(List.getElem?_eq_some_iff.1 hu).1
    rw [t9a,List.length_take] at this
    omega
  simp only [ic,List.map_take]
  rw [List.getElem?_take,if_pos hj]
theorem IS.take {w : World} {p : Option Addr} {c : Nat} {xs : List Int} (h : IS w (.slice p xs.length c) xs) {m : Nat} (hm : m ≤ xs.length) : IS w (.slice p m c) (xs.take m):=by
  obtain ⟨p',c',e,h1,h2⟩:=h
  injection e with e1 _ e3
  subst e1 e3
  exact ⟨p,c,by rw [List.length_take,Nat.min_eq_left hm],by rw [List.length_take];omega,by rw [List.length_take,Nat.min_eq_left hm];exact h2.takeI hm⟩
set_option maxHeartbeats 16000000 in
theorem tgk (T : Ty) (e : EE) (n : TN) (w : World) (d : Nat) (ce cn : List Value) (t : Value) (he : ES w d e ce) (ht : TS w t T) (hn : NC w n cn) (h1 : 1 ≤ n.kids.length) (hm : n.kids.length ≤ 1000)
    (hc : ∀ x ∈ e.args,∀ k ∈ n.kids,HasC T x k) (hr : e.fails = false → ∀ k ∈ n.kids,HasC T e.res k) :
    Calls Tryz.prog 94 #[.agg ce.toArray,t,.agg cn.toArray] w (ER (entA (mem T) n.kids e) w):=by
  have HT:=zH ht;have HC:=zH hc;have HR:=zH hr
  obtain ⟨pa,ca,rs,rfl,ha,hv⟩:=he
  obtain ⟨q1,e1,q2,e2,q3,e3,q4,e4,rfl⟩:=hv.seven
  obtain ⟨p1,c1,p2,c2,rfl,hk,-⟩:=hn
  obtain ⟨pt,ct,rfl,-⟩:=ht
  have HA:=zH ha;have HV:=zH hv;have HK:=zH hk
  obtain ⟨m,hmk⟩ : ∃ m,n.kids.length = m + 1:=⟨n.kids.length - 1,by omega⟩
  have hcap : m ≤ c1:=by
    obtain ⟨p',c',e9,h9,_⟩:=hk
    injection e9 with _ _ e9
    omega
  have Hmk:=zH hmk
  rw [hmk] at hm ⊢
  clear ha hv hk hc hr h1 hmk
  go_enter Tryz.func94,Tryz.ntmps94
  go_upto_region 1 with fail
  obtain ⟨w3,e9,hA,hB,hC,hb⟩:=t7n w (.cells #[.slice pa e.args.length ca,.bool e.fails,.int .i64 e.res.kind,.int .i64 e.res.num,.string e.res.text,.slice q1 e.res.kids.length e1,.slice q2 e.res.keys.length e2,.slice q3 e.res.ents.length e3,.slice q4 e.res.labels.length e4] 55) (.cells #[.slice pt T.nodes.length ct,.int .i64 T.root] 31) (.cells #[.int .i64 n.kind,.int .i64 n.lo,.int .i64 n.hi,.string n.text,.slice p1 (m + 1) c1,.slice p2 n.fields.length c2,.int .i64 n.rest0,.int .i64 n.rest1] 48)
  rw [e9]
  obtain ⟨⟨x0,x1,x2,x3⟩,⟨x4,x5,x6,x7⟩,x8⟩:=t1k hA
  obtain ⟨y0,y1⟩:=t0k hB
  obtain ⟨⟨z0,z1,z2,z3⟩,z4,z5,z6,z7⟩:=t0y hC
  have HbA:=zH hA;have HbB:=zH hB;have HbC:=zH hC;have Hb:=zH hb
  have hlk : m < n.kids.length:=by rw [Hmk.out];exact Nat.lt_succ_self m
  have HKd:=zH (show IS w3.drew (.slice p1 m c1) (n.kids.take m) from (HK.out.below hb.drew).take (Nat.le_of_lt hlk))
  have Hall:=zH (tev T e.args (n.kids.take m) w3.drew (.slice pa e.args.length ca) (.agg #[.slice pt T.nodes.length ct,.int .i64 T.root]) (.slice p1 m c1) ⟨d,pa,ca,rfl,HA.out.below hb.drew fun _ _ _ h=>h.below hb.drew⟩ (HT.out.below hb.drew) HKd.out (by rw [List.length_take];omega) fun x hx k hk=>HC.out x hx k (List.mem_of_mem_take hk))
  have hentA : entA (mem T) n.kids e = (!all2 (mem T) e.args (n.kids.take m) || (!e.fails && mem T e.res (n.kids.getD m 0))):=by
    unfold entA
    rw [Hmk.out];rfl
  have HentA:=zH hentA
  clear e9 hA hB hC hb hentA
  cases hall : all2 (mem T) e.args (n.kids.take m) with
  | false =>
    have HE:=zH (show entA (mem T) n.kids e = true by rw [HentA.out,hall];rfl)
    rw [hall] at Hall
    clear hall hlk
    go_wp2_with (first
      | (with_reducible refine rg ?_)
      | (with_reducible refine fo ?_)
      | (go_at_call 56;refine Hall.out.mono ?_;rintro e w6 ⟨rfl,hb6⟩;have Hb6:=zH (Hb.out.drew.step hb6);clear hb6))
    go_ret
    rw [HE.out]
    exact ⟨rfl,Hb6.out⟩
  | true =>
    rw [hall] at Hall
    have hres : entA (mem T) n.kids e = (!e.fails && mem T e.res n.kids[m]):=by
      rw [HentA.out,hall,List.getD_eq_getElem?_getD,List.getElem?_eq_getElem hlk];rfl
    cases hf : e.fails with
    | true =>
      have HE:=zH (show entA (mem T) n.kids e = false by rw [hres,hf];rfl)
      rw [hf] at HbA x1
      clear hall hlk hf hres HentA
      go_wp2_with (first
        | (with_reducible refine rg ?_)
        | (with_reducible refine fo ?_)
        | (go_at_call 56;refine Hall.out.mono ?_;rintro e w6 ⟨rfl,hb6⟩;have Hb6:=zH (Hb.out.drew.step hb6);obtain ⟨⟨a0,a1,a2,a3⟩,⟨a4,a5,a6,a7⟩,a8⟩:=t1k ((hb6.block _ (t0a HbA.out)).trans HbA.out);clear hb6))
      go_ret
      rw [HE.out]
      exact ⟨rfl,Hb6.out⟩
    | false =>
      have HE:=zH (show entA (mem T) n.kids e = mem T e.res n.kids[m] by rw [hres,hf];rfl)
      have Hcr:=zH (HR.out hf _ (List.getElem_mem hlk))
      have Hkm:=zH (show ∀ w',Below w.heap.size w w' → ∃ a o,p1 = some ⟨a,o,none⟩ ∧ w'.cell? ⟨a,o + m,none⟩ = some (.int .i64 n.kids[m]) from fun w' hb=>by
        obtain ⟨-,a,o,e1,_,e2⟩:=(HK.out.below hb).at hlk
        exact ⟨a,o,e1,e2⟩)
      rw [hf] at HbA x1
      generalize n.kids[m] = km at *
      clear hall hlk hf hres HentA
      go_wp2_with (first
        | (with_reducible refine rg ?_)
        | (with_reducible refine fo ?_)
        | (go_at_call 56;refine Hall.out.mono ?_;rintro e w6 ⟨rfl,hb6⟩;have Hb6:=zH (Hb.out.drew.step hb6);obtain ⟨⟨a0,a1,a2,a3⟩,⟨a4,a5,a6,a7⟩,a8⟩:=t1k ((hb6.block _ (t0a HbA.out)).trans HbA.out);obtain ⟨b0,b1⟩:=t0k ((hb6.block _ (t0a HbB.out)).trans HbB.out);obtain ⟨-,d4,d5,d6,d7⟩:=t0y ((hb6.block _ (t0a HbC.out)).trans HbC.out);obtain ⟨ak,ok,hpk,zk⟩:=Hkm.out w6 Hb6.out;subst hpk;clear hb6)
        | (go_at_call 30;refine (Hcr.out w6 _ _ ⟨d,_,rfl,HV.out.below Hb6.out⟩ (HT.out.below Hb6.out)).mono ?_;rintro e w7 ⟨rfl,hb7⟩;have Hb7:=zH (Hb6.out.step hb7);clear hb7))
      go_ret
      rw [HE.out]
      exact ⟨rfl,Hb7.out⟩
def EY (w : World) (v : Value) (l : List EE) : Prop:=∃ d p c,v = .slice p l.length c ∧ Rw w p c 9 l (ES w d)
theorem EY.below {w w' : World} {v : Value} {l : List EE} (h : EY w v l) (hb : Below w.heap.size w w') : EY w' v l:=by
  obtain ⟨d,p,c,e,h⟩:=h;exact ⟨d,p,c,e,h.below hb fun _ _ _ h=>h.below hb⟩
theorem ES.nine {w : World} {d : Nat} {e : EE} {cs : List Value} (h : ES w d e cs) : ∃ pa ca q1 e1 q2 e2 q3 e3 q4 e4,cs = [.slice pa e.args.length ca,.bool e.fails,.int .i64 e.res.kind,.int .i64 e.res.num,.string e.res.text,.slice q1 e.res.kids.length e1,.slice q2 e.res.keys.length e2,.slice q3 e.res.ents.length e3,.slice q4 e.res.labels.length e4]:=by
  obtain ⟨pa,ca,rs,rfl,_,h⟩:=h
  obtain ⟨p1,c1,p2,c2,p3,c3,p4,c4,rfl⟩:=h.seven
  exact ⟨_,_,_,_,_,_,_,_,_,_,rfl⟩
theorem VW.ex {w : World} {v : Value} {V : VV} (h : VW w v V) : ∃ d p1 c1 p2 c2 p3 c3 p4 c4,v = .agg #[.int .i64 V.kind,.int .i64 V.num,.string V.text,.slice p1 V.kids.length c1,.slice p2 V.keys.length c2,.slice p3 V.ents.length c3,.slice p4 V.labels.length c4] ∧
    VS w d V [.int .i64 V.kind,.int .i64 V.num,.string V.text,.slice p1 V.kids.length c1,.slice p2 V.keys.length c2,.slice p3 V.ents.length c3,.slice p4 V.labels.length c4] ∧
    KS w (.slice p1 V.kids.length c1) V.kids ∧ KY w (.slice p2 V.keys.length c2) V.keys ∧ EY w (.slice p3 V.ents.length c3) V.ents ∧ SS w (.slice p4 V.labels.length c4) V.labels:=by
  obtain ⟨d,cs,rfl,h⟩:=h
  have h0:=h
  cases d with
  | zero=>exact h.elim
  | succ d =>
    obtain ⟨p1,c1,p2,c2,p3,c3,p4,c4,rfl,g1,g2,g3,g4⟩:=h
    exact ⟨d + 1,p1,c1,p2,c2,p3,c3,p4,c4,rfl,h0,⟨d,p1,c1,rfl,g1⟩,⟨p2,c2,rfl,g2⟩,⟨d,p3,c3,rfl,g3⟩,⟨p4,c4,rfl,g4⟩⟩
set_option maxHeartbeats 16000000 in
theorem tdg (T : Ty) (V : VV) (n : TN) (w : World) (cn : List Value) (v t : Value) (hv : VW w v V) (ht : TS w t T) (hn : NC w n cn) (h1 : 1 ≤ n.kids.length) (hm : n.kids.length ≤ 1000) (hL : V.ents.length ≤ 9223372036854775807)
    (hc : ∀ e ∈ V.ents,(∀ x ∈ e.args,∀ k ∈ n.kids,HasC T x k) ∧ (e.fails = false → ∀ k ∈ n.kids,HasC T e.res k)) :
    Calls Tryz.prog 58 #[v,t,.agg cn.toArray] w (ER (funA (mem T) V n) w):=by
  have HT:=zH ht;have HC:=zH hc;have HN:=zH hn
  obtain ⟨d,v1,b1,v2,b2,v3,b3,v4,b4,rfl,-,-,-,hents,-⟩:=hv.ex
  obtain ⟨p1,c1,p2,c2,rfl,-,-⟩:=hn
  obtain ⟨pt,ct,rfl,-⟩:=ht
  obtain ⟨de,pe,ce,e9,hre⟩:=hents
  injection e9 with e91 _ e93
  subst e91 e93
  have HE:=zH hre
  obtain ⟨m,hmk⟩ : ∃ m,n.kids.length = m + 1:=⟨n.kids.length - 1,by omega⟩
  have Hmk:=zH hmk
  rw [hmk] at hm ⊢
  have Hv:=zH hv
  rw [hmk] at HN
  clear hre hc hv h1 hmk
  go_enter Tryz.func58,Tryz.ntmps58
  go_upto_region 1 with fail
  obtain ⟨w3,e9,hA,hB,hC,hb⟩:=t7n w (.cells #[.int .i64 V.kind,.int .i64 V.num,.string V.text,.slice v1 V.kids.length b1,.slice v2 V.keys.length b2,.slice v3 V.ents.length b3,.slice v4 V.labels.length b4] 28) (.cells #[.slice pt T.nodes.length ct,.int .i64 T.root] 31) (.cells #[.int .i64 n.kind,.int .i64 n.lo,.int .i64 n.hi,.string n.text,.slice p1 (m + 1) c1,.slice p2 n.fields.length c2,.int .i64 n.rest0,.int .i64 n.rest1] 48)
  rw [e9]
  obtain ⟨⟨x0,x1,x2,x3⟩,x4,x5,x6⟩:=t0f hA
  obtain ⟨-,y4,-,-,-⟩:=t0y hC
  have hlB:=t0a hB
  have hlC:=t0a hC
  have HbB:=zH hB;have HbC:=zH hC;have Hb:=zH hb
  clear e9 hA hB hC hb x0 x2 x3 x4 x6
  by_cases hnum : V.num = (m : Int)
  · have d0 : (V.num != (m : Int)) = false:=by simp [hnum]
    have hfun : funA (mem T) V n = V.ents.all (entA (mem T) n.kids):=by
      unfold funA
      have h9 : decide (V.num = (n.kids.length : Int) - 1) = true:=by rw [decide_eq_true_eq,Hmk.out,hnum];omega
      rw [h9,Bool.true_and]
    have Hfun:=zH hfun
    clear hfun hnum
    go_wp2
    go_loopw [19] (fun i wr=>∃ k : Nat,i = .int .i64 k ∧ k ≤ V.ents.length ∧ (∀ j (h : j < V.ents.length),j < k → entA (mem T) n.kids V.ents[j] = true) ∧ Below w3.heap.size w3 wr) (fun i _=>V.ents.length - (intOf i).toNat)
    case atStart=>exact ⟨0,rfl,by omega,fun j _ h=>by omega,Below.refl _ _⟩
    case round =>
      obtain ⟨k,rfl,hk,hall,hbr⟩:=hrel
      have Hall:=zH hall;have Hbr:=zH hbr
      have Hbw:=zH (Hb.out.step hbr)
      clear hall hbr
      by_cases hlt : k < V.ents.length
      · obtain ⟨a,o,cs,rfl,hab,-,hrng,hES⟩:=HE.out.all hlt
        have HES:=zH hES
        obtain ⟨qa,ea,q1,e1,q2,e2,q3,e3,q4,e4,rfl⟩:=hES.nine
        have hr:=hrng wr Hbw.out
        have z0:=hr 0 _ rfl
        have z1:=hr 1 _ rfl
        have z2:=hr 2 _ rfl
        have z3:=hr 3 _ rfl
        have z4:=hr 4 _ rfl
        have z5:=hr 5 _ rfl
        have z6:=hr 6 _ rfl
        have z7:=hr 7 _ rfl
        have z8:=hr 8 _ rfl
        rw [Nat.add_zero] at z0
        have Hcall:=zH (HC.out _ (List.getElem_mem hlt))
        have Hnx:=zH (show entA (mem T) n.kids V.ents[k] = true → ∀ j (h : j < V.ents.length),j < k + 1 → entA (mem T) n.kids V.ents[j] = true from fun h j hj hjk=>by
          rcases Nat.lt_succ_iff_lt_or_eq.1 hjk with g | rfl
          · exact Hall.out j hj g
          · exact h)
        have Hno:=zH (show entA (mem T) n.kids V.ents[k] = false → V.ents.all (entA (mem T) n.kids) = false from fun h=>by
          rw [Bool.eq_false_iff]
          intro h2
          rw [List.all_eq_true] at h2
          rw [h2 _ (List.getElem_mem hlt)] at h
          cases h)
        generalize V.ents[k] = en at *
        clear hES hr hrng
        go_upto_region 6 with fail
        have hnew:=heap_alloc_new wr (.cells #[.slice qa en.args.length ea,.bool en.fails,.int .i64 en.res.kind,.int .i64 en.res.num,.string en.res.text,.slice q1 en.res.kids.length e1,.slice q2 en.res.keys.length e2,.slice q3 en.res.ents.length e3,.slice q4 en.res.labels.length e4] 55)
        have ho : Below wr.heap.size wr (wr.alloc (.cells #[.slice qa en.args.length ea,.bool en.fails,.int .i64 en.res.kind,.int .i64 en.res.num,.string en.res.text,.slice q1 en.res.kids.length e1,.slice q2 en.res.keys.length e2,.slice q3 en.res.ents.length e3,.slice q4 en.res.labels.length e4] 55)):=(Below.refl _ _).alloc (Nat.le_refl _) _
        generalize wr.alloc (.cells #[.slice qa en.args.length ea,.bool en.fails,.int .i64 en.res.kind,.int .i64 en.res.num,.string en.res.text,.slice q1 en.res.kids.length e1,.slice q2 en.res.keys.length e2,.slice q3 en.res.ents.length e3,.slice q4 en.res.labels.length e4] 55) = w5 at *
        have Hbr5:=zH (Hbr.out.step ho)
        have Hbw5:=zH (Hb.out.step Hbr5.out)
        obtain ⟨⟨a0,a1,a2,a3⟩,⟨a4,a5,a6,a7⟩,a8⟩:=t1k hnew
        obtain ⟨b0,b1⟩:=t0k ((Hbr5.out.block _ hlB).trans HbB.out)
        obtain ⟨⟨d0,d1,d2,d3⟩,d4,d5,d6,d7⟩:=t0y ((Hbr5.out.block _ hlC).trans HbC.out)
        have Hent:=zH (tgk T en n w5 de _ _ (.agg #[.slice pt T.nodes.length ct,.int .i64 T.root]) (HES.out.below Hbw5.out) (HT.out.below Hbw5.out) (HN.out.below Hbw5.out) (by rw [Hmk.out];omega) (by rw [Hmk.out];exact hm) Hcall.out.1 Hcall.out.2)
        clear z0 z1 z2 z3 z4 z5 z6 z7 z8 hnew ho
        cases hent : entA (mem T) n.kids en with
        | true =>
          rw [hent] at Hent
          have Hnx2:=zH (Hnx.out hent)
          clear hent
          go_wp2_with (go_at_call 94;refine Hent.out.mono ?_;rintro e w7 ⟨rfl,hb7⟩;have Hb7:=zH (Hbr5.out.step hb7);clear hb7)
          exact ⟨⟨k + 1,by go_num,by omega,Hnx2.out,Hb7.out⟩,by simp [intOf];omega⟩
        | false =>
          rw [hent] at Hent
          have Hf:=zH (Hno.out hent)
          clear hent
          go_wp2_with (go_at_call 94;refine Hent.out.mono ?_;rintro e w7 ⟨rfl,hb7⟩;have Hb7:=zH (Hbw5.out.step hb7);clear hb7)
          go_ret
          rw [Hfun.out,Hf.out]
          exact ⟨rfl,Hb7.out⟩
      · obtain rfl : k = V.ents.length:=by omega
        have Hyes:=zH (show funA (mem T) V n = true by
          rw [Hfun.out,List.all_eq_true]
          intro x hx
          obtain ⟨j,hj,rfl⟩:=List.mem_iff_getElem.1 hx
          exact Hall.out j hj hj)
        go_wp2
        go_ret
        rw [Hyes.out]
        exact ⟨rfl,Hbw.out⟩
  · have d0 : (V.num != (m : Int)) = true:=by simp [hnum]
    have Hno:=zH (show funA (mem T) V n = false by
      unfold funA
      have h9 : decide (V.num = (n.kids.length : Int) - 1) = false:=by rw [decide_eq_false_iff_not,Hmk.out];omega
      rw [h9,Bool.false_and])
    clear hnum
    go_wp2
    go_ret
    rw [Hno.out]
    exact ⟨rfl,Hb.out⟩
end Go.Proofs.YtjgldaaofdpcgaaGreat
namespace Go.Proofs.YtjgldaaofdpcgaaGreat
structure LO {α : Type} (S : α → Prop) (f : α → α → Int) : Prop where
  sym : ∀ a b,S a → S b → f b a = - f a b
  tr : ∀ a b c,S a → S b → S c → f a b ≤ 0 → f b c ≤ 0 → f a c ≤ 0 ∧ (f a c = 0 → f a b = 0 ∧ f b c = 0)
def EQ {α : Type} (S : α → Prop) (f : α → α → Int) : Prop:=∀ a b,S a → S b → f a b = 0 → a = b
theorem LO.self {α : Type} {S : α → Prop} {f : α → α → Int} (h : LO S f) {a : α} (ha : S a) : f a a = 0:=by have:=h.sym a a ha ha;omega
theorem nz_le {a b : Int} : nz a b ≤ 0 ↔ a < 0 ∨ (a = 0 ∧ b ≤ 0):=by unfold nz;split <;> omega
theorem nz_zero {a b : Int} : nz a b = 0 ↔ a = 0 ∧ b = 0:=by unfold nz;split <;> omega
theorem LO.nz {α : Type} {S : α → Prop} {f g : α → α → Int} (h : LO S f) (k : LO S g) : LO S fun a b=>nz (f a b) (g a b):=by
  refine ⟨fun a b ha hb=>?_,fun a b c ha hb hc h1 h2=>?_⟩
  · have e1:=h.sym a b ha hb
    have e2:=k.sym a b ha hb
    unfold Go.Proofs.YtjgldaaofdpcgaaGreat.nz
    by_cases e : f a b = 0
    · rw [if_pos (by omega),if_pos e,e2]
    · rw [if_neg (by omega),if_neg e,e1]
  · simp only [nz_le,nz_zero] at *
    have t:=h.tr a b c ha hb hc (by omega) (by omega)
    by_cases e : f a c = 0
    · obtain ⟨z1,z2⟩:=t.2 e
      have u:=k.tr a b c ha hb hc (by omega) (by omega)
      exact ⟨.inr ⟨e,u.1⟩,fun ⟨_,z⟩=>⟨⟨z1,(u.2 z).1⟩,⟨z2,(u.2 z).2⟩⟩⟩
    · exact ⟨.inl (by omega),fun ⟨z,_⟩=>absurd z e⟩
theorem LO.pull {α β : Type} {S : α → Prop} {R : β → Prop} {f : α → α → Int} (h : LO S f) (p : β → α) (hp : ∀ x,R x → S (p x)) : LO R fun a b=>f (p a) (p b) :=
  ⟨fun a b ha hb=>h.sym _ _ (hp a ha) (hp b hb),fun a b c ha hb hc=>h.tr _ _ _ (hp a ha) (hp b hb) (hp c hc)⟩
theorem LO.all {α : Type} {S : α → Prop} {f : α → α → Int} (h : LO (fun _=>True) f) : LO S f:=⟨fun a b _ _=>h.sym a b trivial trivial,fun a b c _ _ _=>h.tr a b c trivial trivial trivial⟩
theorem ordI_lo : LO (fun _=>True) ordI:=by
  refine ⟨fun a b _ _=>?_,fun a b c _ _ _=>?_⟩
  · unfold ordI;(repeat' split) <;> omega
  · unfold ordI;(repeat' split) <;> omega
theorem t2k {a b : Int} (h : ordI a b = 0) : a = b:=by unfold ordI at h;(repeat' split at h) <;> omega
theorem lexB_lo : LO (fun _=>True) lexB:=by
  refine ⟨fun a b _ _=>?_,fun a b c _ _ _=>?_⟩
  · induction a generalizing b with
    | nil=>cases b <;> simp [lexB]
    | cons x r ih =>
      cases b with
      | nil=>simp [lexB]
      | cons y s =>
        simp only [lexB]
        have:=ih s
        by_cases h1 : x < y
        · have h2 : ¬ y < x:=by rw [UInt8.lt_iff_toNat_lt] at *;omega
          simp [h1,h2]
        · by_cases h2 : y < x
          · simp [h1,h2]
          · simp [h1,h2,this]
  · induction a generalizing b c with
    | nil =>
      cases b with
      | nil=>cases c <;> simp [lexB]
      | cons y s=>cases c <;> simp [lexB]
    | cons x r ih =>
      cases b with
      | nil=>simp [lexB]
      | cons y s =>
        cases c with
        | nil=>simp [lexB]
        | cons z t =>
          simp only [lexB,UInt8.lt_iff_toNat_lt]
          have:=ih s t
          by_cases h1 : x.toNat < y.toNat
          · by_cases h2 : y.toNat < z.toNat
            · have h3 : x.toNat < z.toNat:=by omega
              simp [h1,h2,h3]
            · by_cases h3 : z.toNat < y.toNat
              · simp [h2,h3]
              · have h4 : x.toNat < z.toNat:=by omega
                simp [h1,h4]
          · by_cases h2 : y.toNat < x.toNat
            · simp [h1,h2]
            · by_cases h3 : y.toNat < z.toNat
              · have h4 : x.toNat < z.toNat:=by omega
                simp [h1,h2,h3,h4]
              · by_cases h4 : z.toNat < y.toNat
                · simp [h3,h4]
                · have h5 : ¬ x.toNat < z.toNat:=by omega
                  have h6 : ¬ z.toNat < x.toNat:=by omega
                  simp only [h1,h2,h3,h4,h5,h6,if_false]
                  exact this
theorem tew : ∀ {a b : List UInt8},lexB a b = 0 → a = b
  | [],[],_=>rfl
  | [],_ :: _,h=>by simp [lexB] at h
  | _ :: _,[],h=>by simp [lexB] at h
  | x :: r,y :: s,h=>by
    simp only [lexB,UInt8.lt_iff_toNat_lt] at h
    by_cases h1 : x.toNat < y.toNat
    · simp [h1] at h
    · by_cases h2 : y.toNat < x.toNat
      · simp [h1,h2] at h
      · simp only [h1,h2,if_false] at h
        have : x = y:=UInt8.toNat_inj.1 (by omega)
        rw [this,tew h]
theorem ordS_lo : LO (fun _=>True) ordS:=lexB_lo.pull (fun s : ByteArray=>s.data.toList) fun _ _=>trivial
theorem t9r {a b : ByteArray} (h : ordS a b = 0) : a = b:=by
  have h1:=tew h
  have h2 : a.data = b.data:=by rw [← Array.toList_inj];exact h1
  cases a;cases b;simp_all
theorem tir : LO (fun _=>True) cmpK:=(ordI_lo.pull KK.kind fun _ _=>trivial).nz (ordS_lo.pull KK.text fun _ _=>trivial)
theorem tis {a b : KK} (h : cmpK a b = 0) : a = b:=by
  obtain ⟨h1,h2⟩:=nz_zero.1 h
  have e1:=t2k h1
  have e2:=t9r h2
  cases a;cases b;simp_all
theorem tex {α : Type} {S : α → Prop} {f : α → α → Int} (h : LO S f) : ∀ n,LO (fun l : List α=>l.length = n ∧ ∀ x ∈ l,S x) (lexL f)
  | 0=>by
    refine ⟨fun a b ha hb=>?_,fun a b c ha hb hc=>?_⟩
    · rw [List.length_eq_zero_iff.1 ha.1,List.length_eq_zero_iff.1 hb.1];simp [lexL]
    · rw [List.length_eq_zero_iff.1 ha.1,List.length_eq_zero_iff.1 hb.1,List.length_eq_zero_iff.1 hc.1];simp [lexL]
  | n + 1=>by
    have ih:=tex h n
    have cons : ∀ l : List α,(l.length = n + 1 ∧ ∀ x ∈ l,S x) → ∃ x r,l = x :: r ∧ S x ∧ r.length = n ∧ ∀ y ∈ r,S y:=fun l hl=>by
      cases l with
      | nil=>simp at hl
      | cons x r=>exact ⟨x,r,rfl,hl.2 x (by simp),by simpa using hl.1,fun y hy=>hl.2 y (by simp [hy])⟩
    have hp : LO (fun p : α × List α=>S p.1 ∧ p.2.length = n ∧ ∀ x ∈ p.2,S x) fun a b=>nz (f a.1 b.1) (lexL f a.2 b.2):=(h.pull Prod.fst fun _ hx=>hx.1).nz (ih.pull Prod.snd fun _ hx=>hx.2)
    refine ⟨fun a b ha hb=>?_,fun a b c ha hb hc=>?_⟩
    · obtain ⟨x,r,rfl,g1,g2⟩:=cons a ha
      obtain ⟨y,s,rfl,k1,k2⟩:=cons b hb
      exact hp.sym (x,r) (y,s) ⟨g1,g2⟩ ⟨k1,k2⟩
    · obtain ⟨x,r,rfl,g1,g2⟩:=cons a ha
      obtain ⟨y,s,rfl,k1,k2⟩:=cons b hb
      obtain ⟨z,t,rfl,j1,j2⟩:=cons c hc
      exact hp.tr (x,r) (y,s) (z,t) ⟨g1,g2⟩ ⟨k1,k2⟩ ⟨j1,j2⟩
theorem tdh {α : Type} {S : α → Prop} {f : α → α → Int} (h : LO S f) : ∀ {a b : List α},(∀ x ∈ a,S x) → (∀ x ∈ b,S x) → lexL f b a = - lexL f a b
  | [],b,_,_=>by cases b <;> simp [lexL]
  | _ :: _,[],_,_=>by simp [lexL]
  | x :: r,y :: s,ha,hb=>by
    have e1:=h.sym x y (ha x (by simp)) (hb y (by simp))
    have e2:=tdh h (a:=r) (b:=s) (fun z hz=>ha z (by simp [hz])) (fun z hz=>hb z (by simp [hz]))
    simp only [lexL]
    unfold nz
    by_cases e : f x y = 0
    · rw [if_pos (by omega),if_pos e,e2]
    · rw [if_neg (by omega),if_neg e,e1]
theorem t7o {α : Type} {S : α → Prop} {f : α → α → Int} (h : LO S f) : LO (fun l : List α=>∀ x ∈ l,S x) (cmpL f):=by
  have hi:=ordI_lo
  refine ⟨fun a b ha hb=>?_,fun a b c ha hb hc h1 h2=>?_⟩
  · have e1:=hi.sym (a.length : Int) (b.length : Int) trivial trivial
    have e2:=tdh h ha hb
    unfold cmpL nz
    by_cases e : ordI (a.length : Int) b.length = 0
    · rw [if_pos (by omega),if_pos e,e2]
    · rw [if_neg (by omega),if_neg e,e1]
  · simp only [cmpL,nz_le,nz_zero] at *
    have t:=hi.tr (a.length : Int) b.length c.length trivial trivial trivial (by omega) (by omega)
    by_cases e : ordI (a.length : Int) c.length = 0
    · obtain ⟨z1,z2⟩:=t.2 e
      have l1:=t2k z1
      have l2:=t2k z2
      have u:=(tex h a.length).tr a b c ⟨rfl,ha⟩ ⟨by omega,hb⟩ ⟨by omega,hc⟩ (by omega) (by omega)
      exact ⟨.inr ⟨e,u.1⟩,fun ⟨_,z⟩=>⟨⟨z1,(u.2 z).1⟩,⟨z2,(u.2 z).2⟩⟩⟩
    · exact ⟨.inl (by omega),fun ⟨z,_⟩=>absurd z e⟩
theorem tey {α : Type} {S : α → Prop} {f : α → α → Int} (h : EQ S f) : ∀ {a b : List α},a.length = b.length → (∀ x ∈ a,S x) → (∀ x ∈ b,S x) → lexL f a b = 0 → a = b
  | [],[],_,_,_,_=>rfl
  | [],_ :: _,hl,_,_,_=>by simp at hl
  | _ :: _,[],hl,_,_,_=>by simp at hl
  | x :: r,y :: s,hl,ha,hb,hz=>by
    simp only [lexL,nz_zero] at hz
    rw [h x y (ha x (by simp)) (hb y (by simp)) hz.1,tey h (by simpa using hl) (fun z hz=>ha z (by simp [hz])) (fun z hz=>hb z (by simp [hz])) hz.2]
theorem t7p {α : Type} {S : α → Prop} {f : α → α → Int} (h : EQ S f) : EQ (fun l : List α=>∀ x ∈ l,S x) (cmpL f):=fun a b ha hb hz=>by
  simp only [cmpL,nz_zero] at hz
  have:=t2k hz.1
  exact tey h (by omega) ha hb hz.2
def ordF (a b : Bool) : Int:=if a = b then 0 else if a then -1 else 1
theorem ordF_lo : LO (fun _=>True) ordF:=by
  refine ⟨fun a b _ _=>by cases a <;> cases b <;> decide,fun a b c _ _ _=>by cases a <;> cases b <;> cases c <;> decide⟩
theorem tit {a b : Bool} (h : ordF a b = 0) : a = b:=by cases a <;> cases b <;> simp_all [ordF]
theorem tdi : ∀ d,LO (fun v : VV=>v.ht ≤ d) cmpV ∧ LO (fun e : EE=>e.ht ≤ d) cmpE ∧ EQ (fun v : VV=>v.ht ≤ d) cmpV ∧ EQ (fun e : EE=>e.ht ≤ d) cmpE:=by
  have entry : ∀ d,LO (fun v : VV=>v.ht ≤ d) cmpV → EQ (fun v : VV=>v.ht ≤ d) cmpV → LO (fun e : EE=>e.ht ≤ d) cmpE ∧ EQ (fun e : EE=>e.ht ≤ d) cmpE:=by
    intro d h1 h2
    refine ⟨?_,fun a b ha hb hz=>?_⟩
    · have e : cmpE = fun a b=>nz (cmpL cmpV a.args b.args) (nz (ordF a.fails b.fails) (cmpV a.res b.res)):=by funext a b;exact t9q a b
      rw [e]
      exact ((t7o h1).pull EE.args fun e he x hx=>Nat.le_trans (t4a hx) he).nz ((ordF_lo.pull EE.fails fun _ _=>trivial).nz (h1.pull EE.res fun e he=>Nat.le_trans (t4b e) he))
    · rw [t9q] at hz
      simp only [nz_zero] at hz
      have e1:=t7p h2 a.args b.args (fun x hx=>Nat.le_trans (t4a hx) ha) (fun x hx=>Nat.le_trans (t4a hx) hb) hz.1
      have e2:=tit hz.2.1
      have e3:=h2 a.res b.res (Nat.le_trans (t4b a) ha) (Nat.le_trans (t4b b) hb) hz.2.2
      cases a;cases b
      simp only [EE.args,EE.fails,EE.res] at e1 e2 e3
      rw [e1,e2,e3]
  intro d
  induction d with
  | zero =>
    have h1 : LO (fun v : VV=>v.ht ≤ 0) cmpV:=⟨fun a _ ha=>by have:=t4u a;omega,fun a _ _ ha=>by have:=t4u a;omega⟩
    have h2 : EQ (fun v : VV=>v.ht ≤ 0) cmpV:=fun a _ ha=>by have:=t4u a;omega
    exact ⟨h1,(entry 0 h1 h2).1,h2,(entry 0 h1 h2).2⟩
  | succ d ih =>
    obtain ⟨i1,i2,i3,i4⟩:=ih
    have kid : ∀ v : VV,v.ht ≤ d + 1 → ∀ x ∈ v.kids,x.ht ≤ d:=fun v hv x hx=>by have:=t3z hx;omega
    have ent : ∀ v : VV,v.ht ≤ d + 1 → ∀ x ∈ v.ents,x.ht ≤ d:=fun v hv x hx=>by have:=t4t hx;omega
    have h1 : LO (fun v : VV=>v.ht ≤ d + 1) cmpV:=by
      have e : cmpV = fun a b=>nz (ordI a.kind b.kind) (nz (ordI a.num b.num) (nz (ordS a.text b.text) (nz (cmpL cmpK a.keys b.keys) (nz (cmpL cmpV a.kids b.kids) (nz (cmpL cmpE a.ents b.ents) (cmpL ordS a.labels b.labels)))))):=by funext a b;exact t9p a b
      rw [e]
      exact (ordI_lo.pull VV.kind fun _ _=>trivial).nz ((ordI_lo.pull VV.num fun _ _=>trivial).nz ((ordS_lo.pull VV.text fun _ _=>trivial).nz (((t7o tir).pull VV.keys fun _ _ _ _=>trivial).nz
        (((t7o i1).pull VV.kids kid).nz (((t7o i2).pull VV.ents ent).nz ((t7o ordS_lo).pull VV.labels fun _ _ _ _=>trivial))))))
    have h2 : EQ (fun v : VV=>v.ht ≤ d + 1) cmpV:=fun a b ha hb hz=>by
      rw [t9p] at hz
      simp only [nz_zero] at hz
      obtain ⟨z1,z2,z3,z4,z5,z6,z7⟩:=hz
      have e1:=t2k z1
      have e2:=t2k z2
      have e3:=t9r z3
      have e4:=t7p (S:=fun _=>True) (fun _ _ _ _ h=>tis h) _ _ (fun _ _=>trivial) (fun _ _=>trivial) z4
      have e5:=t7p i3 _ _ (kid a ha) (kid b hb) z5
      have e6:=t7p i4 _ _ (ent a ha) (ent b hb) z6
      have e7:=t7p (S:=fun _=>True) (fun _ _ _ _ h=>t9r h) _ _ (fun _ _=>trivial) (fun _ _=>trivial) z7
      cases a;cases b
      simp only [VV.kind,VV.num,VV.text,VV.keys,VV.kids,VV.ents,VV.labels] at e1 e2 e3 e4 e5 e6 e7
      rw [e1,e2,e3,e4,e5,e6,e7]
    exact ⟨h1,(entry _ h1 h2).1,h2,(entry _ h1 h2).2⟩
theorem cmpV_lo : LO (fun _=>True) cmpV :=
  ⟨fun a b _ _=>(tdi (max a.ht b.ht)).1.sym a b (by omega) (by omega),fun a b c _ _ _=>(tdi (max a.ht (max b.ht c.ht))).1.tr a b c (by omega) (by omega) (by omega)⟩
end Go.Proofs.YtjgldaaofdpcgaaGreat
