/- Walks and plain facts for the laws of membership, for all values and types that the heap holds (texts Q4). -/
import Derived.Test.YtjgldaaofdpcgaaGreatX03
import Derived.Test.YtjgldaaofdpcgaaGreatX34
set_option linter.unusedVariables false
set_option linter.unusedSimpArgs false
namespace Go.Proofs.YtjgldaaofdpcgaaGreat
open Go.RowKit
set_option maxRecDepth 100000
def MemQ (T : Ty) (V : VV) (n : TN) : Prop :=
  (n.kind = 1 ∨ n.kind = 2) ∨ n.kind = 3 ∨ (n.kind = 4 ∨ n.kind = 6) ∨ (n.kind = 5 ∨ n.kind = 7 ∨ n.kind = 8 ∨ n.kind = 9 ∨ n.kind = 11 ∨ n.kind = 15) ∨
  ((n.kind = 10 ∨ n.kind = 12) ∧ n.kids.length ≤ 1000 ∧ ∀ x ∈ V.kids,∀ k ∈ n.kids,HasR T x k) ∨
  (n.kind = 13 ∧ (V.kind = 8 → V.keys.length = V.kids.length) ∧ (∀ k ∈ V.keys,k.kind = 0 ∨ k.kind = 1) ∧ ∀ j (h : j < V.keys.length) (h2 : j < V.kids.length),HasR T V.kids[j] (atN n V.keys[j])) ∨
  (n.kind = 14 ∧ 1 ≤ n.kids.length ∧ n.kids.length ≤ 1000 ∧ ∀ e ∈ V.ents,(∀ x ∈ e.args,∀ k ∈ n.kids,HasR T x k) ∧ (e.fails = false → ∀ k ∈ n.kids,HasR T e.res k)) ∨
  ((n.kind = 16 ∨ n.kind = 17) ∧ ∀ x ∈ n.kids,HasR T V x) ∨
  (n.kind = 18 ∧ 0 < n.kids.length ∧ HasR T V (n.kids.getD 0 0)) ∨ n.kind = 19
set_option maxHeartbeats 64000000 in
theorem ti5 (T : Ty) (hw : WfT T) (V : VV) (i : Nat) (hi : i < T.nodes.length) (n : TN) (hn : n = T.node (i : Nat)) (hq : MemQ T V n) : HasR T V (i : Nat):=by
  intro w v t hv ht
  have Hn:=zH (show mem T V (i : Nat) = memS (mem T) V (mem T V) n by rw [hn];exact tda hw.m _ _)
  have Hv:=zH hv;have Ht:=zH ht
  obtain ⟨d,v1,b1,v2,b2,v3,b3,v4,b4,rfl,hvs,hkids,hkeys,hents,hlabs⟩:=hv.ex
  obtain ⟨pt,ct,rfl,hnodes,hsz⟩:=ht
  have hlen:=hnodes.big
  have hszk : n.kids.length ≤ 9223372036854775807:=hsz _ (by rw [hn,T.node_at hi];exact List.getElem_mem hi)
  obtain ⟨a,o,cs,rfl,hab,-,hrng,hNC⟩:=hnodes.all hi
  rw [← T.node_at hi,← hn] at hNC
  have HN:=zH hNC
  obtain ⟨p1,c1,p2,c2,rfl,hks,hfs⟩:=hNC
  have Hks:=zH hks;have Hfs:=zH hfs;have Hvs:=zH hvs;have Hkids:=zH hkids;have Hkeys:=zH hkeys;have Hents:=zH hents;have Hlabs:=zH hlabs
  have hszl : V.labels.length ≤ 9223372036854775807:=by obtain ⟨_,_,_,h⟩:=hlabs;exact h.big
  have hszy : V.keys.length ≤ 9223372036854775807:=by obtain ⟨_,_,_,h⟩:=hkeys;exact h.big
  have hsze : V.ents.length ≤ 9223372036854775807:=by obtain ⟨_,_,_,_,h⟩:=hents;exact h.big
  have hszf:=hfs.big
  have Hq:=zH hq
  clear hn hq hnodes hsz hks hfs hv hvs hkids hkeys hents hlabs
  obtain ⟨w2,e9,hA,hB,hb⟩:=t1f w (.cells #[.int .i64 V.kind,.int .i64 V.num,.string V.text,.slice v1 V.kids.length b1,.slice v2 V.keys.length b2,.slice v3 V.ents.length b3,.slice v4 V.labels.length b4] 28) (.cells #[.slice (some ⟨a,o,none⟩) T.nodes.length ct,.int .i64 T.root] 31)
  have hr:=hrng w2 hb
  have z0:=hr 0 _ rfl;have z1:=hr 1 _ rfl;have z2:=hr 2 _ rfl;have z3:=hr 3 _ rfl;have z4:=hr 4 _ rfl;have z5:=hr 5 _ rfl;have z6:=hr 6 _ rfl;have z7:=hr 7 _ rfl
  rw [Nat.add_zero] at z0
  obtain ⟨x0,x1⟩:=t0k hB
  clear hrng hr
  go_enter Tryz.func34,Tryz.ntmps34
  go_upto_region 1 with fail
  clear e9
  go_upto_region 2 with fail
  have hnew:=heap_alloc_new w2 (.cells #[.int .i64 n.kind,.int .i64 n.lo,.int .i64 n.hi,.string n.text,.slice p1 n.kids.length c1,.slice p2 n.fields.length c2,.int .i64 n.rest0,.int .i64 n.rest1] 48)
  have ho : Below w2.heap.size w2 (w2.alloc (.cells #[.int .i64 n.kind,.int .i64 n.lo,.int .i64 n.hi,.string n.text,.slice p1 n.kids.length c1,.slice p2 n.fields.length c2,.int .i64 n.rest0,.int .i64 n.rest1] 48)):=(Below.refl _ _).alloc (Nat.le_refl _) _
  generalize w2.alloc (.cells #[.int .i64 n.kind,.int .i64 n.lo,.int .i64 n.hi,.string n.text,.slice p1 n.kids.length c1,.slice p2 n.fields.length c2,.int .i64 n.rest0,.int .i64 n.rest1] 48) = w3 at *
  have Hb3:=zH (hb.step ho)
  have gA:=(ho.block _ (t0a hA)).trans hA
  have gB:=(ho.block _ (t0a hB)).trans hB
  clear z0 z1 z2 z3 z4 z5 z6 z7 x0 x1 ho hb hA hB
  generalize w2.heap.size = bn at *
  obtain ⟨⟨a0,a1,a2,a3⟩,a4,a5,a6⟩:=t0j gA
  obtain ⟨t0,t1⟩:=t0k gB
  obtain ⟨⟨n0,n1,n2,n3⟩,n4,n5,n6,n7⟩:=t0x hnew
  have LN:=zH (show bn < w3.drew.heap.size from t0a hnew)
  have GN:=zH hnew
  clear hnew
  rcases Hq.out with hk | hkind | hk | hk | ⟨hk,hm,hc⟩ | ⟨hkind,hkk,hkd,hc⟩ | ⟨hkind,h1,hm,hc⟩ | ⟨hk,hc⟩ | ⟨hkind,h0,hc⟩ | hkind
  · obtain ⟨b,hb⟩ : ∃ b : Bool,(b = false ∧ n.kind = 1 ∨ b = true ∧ n.kind = 2):=hk.elim (fun h=>⟨_,.inl ⟨rfl,h⟩⟩) fun h=>⟨_,.inr ⟨rfl,h⟩⟩
    rcases hb with ⟨rfl,hkind⟩ | ⟨rfl,hkind⟩
    · have Hmem:=zH (show mem T V (i : Nat) = false by rw [Hn.out];unfold memS;simp [hkind])
      rw [hkind] at n0 HN;clear hkind
      go_wp2
      go_ret
      rw [Hmem.out]
      exact ⟨rfl,Hb3.out⟩
    · have Hmem:=zH (show mem T V (i : Nat) = true by rw [Hn.out];unfold memS;simp [hkind])
      rw [hkind] at n0 HN;clear hkind
      go_wp2
      go_ret
      rw [Hmem.out]
      exact ⟨rfl,Hb3.out⟩
  · have Hmem:=zH (show mem T V (i : Nat) = (decide (V.kind = 1) && (decide (n.lo ≤ V.num) && decide (V.num ≤ n.hi))) by rw [Hn.out];unfold memS;simp [hkind])
    rw [hkind] at n0 HN;clear hkind
    by_cases hk : V.kind = 1
    · have d0 : (V.kind == 1) = true:=by simp [hk]
      by_cases h1 : n.lo ≤ V.num
      · have d1 : decide (n.lo ≤ V.num) = true:=by simp [h1]
        have HE:=zH (show (decide (V.kind = 1) && (decide (n.lo ≤ V.num) && decide (V.num ≤ n.hi))) = decide (V.num ≤ n.hi) by simp [hk,h1])
        clear hk h1
        go_wp2
        go_ret
        rw [Hmem.out,HE.out]
        exact ⟨rfl,Hb3.out⟩
      · have d1 : decide (n.lo ≤ V.num) = false:=by simp;omega
        have HE:=zH (show (decide (V.kind = 1) && (decide (n.lo ≤ V.num) && decide (V.num ≤ n.hi))) = false by simp [h1])
        clear hk h1
        go_wp2
        go_ret
        rw [Hmem.out,HE.out]
        exact ⟨rfl,Hb3.out⟩
    · have d0 : (V.kind == 1) = false:=by simp [hk]
      have HE:=zH (show (decide (V.kind = 1) && (decide (n.lo ≤ V.num) && decide (V.num ≤ n.hi))) = false by simp [hk])
      clear hk
      go_wp2
      go_ret
      rw [Hmem.out,HE.out]
      exact ⟨rfl,Hb3.out⟩
  · obtain ⟨u,hu⟩ : ∃ u : Int,(n.kind = 4 ∧ u = 2) ∨ (n.kind = 6 ∧ u = 3):=by
      rcases hk with h | h
      · exact ⟨2,by simp [h]⟩
      · exact ⟨3,by simp [h]⟩
    have Hmem:=zH (show mem T V (i : Nat) = (decide (V.kind = u) && decide (V.text = n.text)) by rw [Hn.out];unfold memS;rcases hu with ⟨hkind,rfl⟩ | ⟨hkind,rfl⟩ <;> simp [hkind])
    by_cases hk : V.kind = u
    · have d0 : (V.kind == u) = true:=by simp [hk]
      have HE:=zH (show (decide (V.kind = u) && decide (V.text = n.text)) = (V.text.toList == n.text.toList) by rw [t8z];simp [hk])
      clear hk
      rcases hu with ⟨hkind,rfl⟩ | ⟨hkind,rfl⟩
      all_goals
        rw [hkind] at n0;clear hkind
        go_wp2
        go_ret
        rw [Hmem.out,HE.out]
        exact ⟨rfl,Hb3.out⟩
    · have d0 : (V.kind == u) = false:=by simp [hk]
      have HE:=zH (show (decide (V.kind = u) && decide (V.text = n.text)) = false by simp [hk])
      clear hk
      rcases hu with ⟨hkind,rfl⟩ | ⟨hkind,rfl⟩
      all_goals
        rw [hkind] at n0;clear hkind
        go_wp2
        go_ret
        rw [Hmem.out,HE.out]
        exact ⟨rfl,Hb3.out⟩
  · obtain ⟨u,hu⟩ : ∃ u : Int,(n.kind = 5 ∧ u = 2) ∨ (n.kind = 7 ∧ u = 3) ∨ (n.kind = 8 ∧ u = 4) ∨ (n.kind = 9 ∧ u = 5) ∨ (n.kind = 11 ∧ u = 6) ∨ (n.kind = 15 ∧ u = 9):=by
      rcases hk with h | h | h | h | h | h
      · exact ⟨2,by simp [h]⟩
      · exact ⟨3,by simp [h]⟩
      · exact ⟨4,by simp [h]⟩
      · exact ⟨5,by simp [h]⟩
      · exact ⟨6,by simp [h]⟩
      · exact ⟨9,by simp [h]⟩
    have Hmem:=zH (show mem T V (i : Nat) = decide (V.kind = u) by rw [Hn.out];unfold memS;rcases hu with ⟨hkind,rfl⟩ | ⟨hkind,rfl⟩ | ⟨hkind,rfl⟩ | ⟨hkind,rfl⟩ | ⟨hkind,rfl⟩ | ⟨hkind,rfl⟩ <;> simp [hkind,t5p])
    have HE:=zH (show decide (V.kind = u) = (V.kind == u) by rw [Bool.eq_iff_iff];simp)
    rcases hu with ⟨hkind,rfl⟩ | ⟨hkind,rfl⟩ | ⟨hkind,rfl⟩ | ⟨hkind,rfl⟩ | ⟨hkind,rfl⟩ | ⟨hkind,rfl⟩
    all_goals
      rw [hkind] at n0;clear hkind
      go_wp2
      go_ret
      rw [Hmem.out,HE.out]
      exact ⟨rfl,Hb3.out⟩
  · have Hall:=zH (ta5 T V.kids n.kids w3 _ _ _ (Hkids.out.below Hb3.out) (Ht.out.below Hb3.out) (Hks.out.below Hb3.out) hm hc)
    clear hc
    obtain ⟨u,hu⟩ : ∃ u : Int,(n.kind = 10 ∧ u = 6) ∨ (n.kind = 12 ∧ u = 7):=by
      rcases hk with h | h
      · exact ⟨6,by simp [h]⟩
      · exact ⟨7,by simp [h]⟩
    have Hmem:=zH (show mem T V (i : Nat) = (decide (V.kind = u) && all2 (mem T) V.kids n.kids) by rw [Hn.out];unfold memS;rcases hu with ⟨hkind,rfl⟩ | ⟨hkind,rfl⟩ <;> simp [hkind])
    by_cases hk : V.kind = u
    · have d0 : (V.kind == u) = true:=by simp [hk]
      have HE:=zH (show (decide (V.kind = u) && all2 (mem T) V.kids n.kids) = all2 (mem T) V.kids n.kids by simp [hk])
      clear hk
      rcases hu with ⟨hkind,rfl⟩ | ⟨hkind,rfl⟩
      all_goals
        rw [hkind] at n0;clear hkind
        go_wp2_with (go_at_call 66;refine Hall.out.mono ?_;rintro e w6 ⟨rfl,hb6⟩;have Hb6:=zH (Hb3.out.step hb6);clear hb6)
        go_ret
        rw [Hmem.out,HE.out]
        exact ⟨rfl,Hb6.out⟩
    · have d0 : (V.kind == u) = false:=by simp [hk]
      have HE:=zH (show (decide (V.kind = u) && all2 (mem T) V.kids n.kids) = false by simp [hk])
      clear hk
      rcases hu with ⟨hkind,rfl⟩ | ⟨hkind,rfl⟩
      all_goals
        rw [hkind] at n0;clear hkind
        go_wp2
        go_ret
        rw [Hmem.out,HE.out]
        exact ⟨rfl,Hb3.out⟩
  · have Hkk:=zH hkk;clear hkk
    have Hmem:=zH (show mem T V (i : Nat) = (decide (V.kind = 8) && mapA (mem T) V n) by rw [Hn.out];unfold memS;simp [hkind])
    rw [hkind] at n0 HN;clear hkind
    have Hmap:=zH (fun hkk=>ti4 T V n w3 _ _ _ (Hv.out.below Hb3.out) (Ht.out.below Hb3.out) (HN.out.below Hb3.out) hkk hkd hc)
    clear hc hkd
    by_cases hk : V.kind = 8
    · have d0 : (V.kind == 8) = true:=by simp [hk]
      have HE:=zH (show (decide (V.kind = 8) && mapA (mem T) V n) = mapA (mem T) V n by simp [hk])
      have Hkk8:=zH (Hkk.out hk)
      clear hk
      have Hmap2:=zH (Hmap.out Hkk8.out)
      go_wp2_with (go_at_call 67;refine Hmap2.out.mono ?_;rintro e w6 ⟨rfl,hb6⟩;have Hb6:=zH (Hb3.out.step hb6);clear hb6)
      go_ret
      rw [Hmem.out,HE.out]
      exact ⟨rfl,Hb6.out⟩
    · have d0 : (V.kind == 8) = false:=by simp [hk]
      have HE:=zH (show (decide (V.kind = 8) && mapA (mem T) V n) = false by simp [hk])
      clear hk
      go_wp2
      go_ret
      rw [Hmem.out,HE.out]
      exact ⟨rfl,Hb3.out⟩
  · have Hmem:=zH (show mem T V (i : Nat) = (decide (V.kind = 9) && funA (mem T) V n) by rw [Hn.out];unfold memS;simp [hkind])
    rw [hkind] at n0 HN;clear hkind
    have Hfun:=zH (tct T V n w3 _ _ _ (Hv.out.below Hb3.out) (Ht.out.below Hb3.out) (HN.out.below Hb3.out) h1 hm hc)
    clear hc h1
    by_cases hk : V.kind = 9
    · have d0 : (V.kind == 9) = true:=by simp [hk]
      have HE:=zH (show (decide (V.kind = 9) && funA (mem T) V n) = funA (mem T) V n by simp [hk])
      clear hk
      go_wp2_with (go_at_call 68;refine Hfun.out.mono ?_;rintro e w6 ⟨rfl,hb6⟩;have Hb6:=zH (Hb3.out.step hb6);clear hb6)
      go_ret
      rw [Hmem.out,HE.out]
      exact ⟨rfl,Hb6.out⟩
    · have d0 : (V.kind == 9) = false:=by simp [hk]
      have HE:=zH (show (decide (V.kind = 9) && funA (mem T) V n) = false by simp [hk])
      clear hk
      go_wp2
      go_ret
      rw [Hmem.out,HE.out]
      exact ⟨rfl,Hb3.out⟩
  · rcases hk with hkind | hkind
    · have Hmem:=zH (show mem T V (i : Nat) = (n.kids.any (mem T V)) by rw [Hn.out];unfold memS;simp [hkind])
      rw [hkind] at n0;clear hkind
      have Hc:=zH hc
      have HV3:=zH (Hv.out.below Hb3.out);have HT3:=zH (Ht.out.below Hb3.out);have HK3:=zH (Hks.out.below Hb3.out)
      have GA:=zH gA;have GB:=zH gB
      clear hc a0 a1 a2 a3 a4 a5 a6 t0 t1 n1 n2 n3 n5 n6 n7 gA gB
      go_wp2
      go_loopw [8] (fun i wr=>∃ k : Nat,i = .int .i64 k ∧ k ≤ n.kids.length ∧ (n.kids.take k).any (mem T V) = false ∧ Below w3.heap.size w3 wr) (fun i _=>n.kids.length - (intOf i).toNat)
      case atStart=>exact ⟨0,rfl,by omega,by simp,Below.refl _ _⟩
      case round =>
        obtain ⟨k,rfl,hk,ha,hb⟩:=hrel
        have Ha:=zH ha;have Hb:=zH hb
        have Hbw:=zH (Hb3.out.step hb)
        obtain ⟨⟨a0,a1,a2,a3⟩,a4,a5,a6⟩:=t0j ((hb.block _ (t0a GA.out)).trans GA.out)
        obtain ⟨t0,t1⟩:=t0k ((hb.block _ (t0a GB.out)).trans GB.out)
        clear n0 n4
        obtain ⟨⟨n0,n1,n2,n3⟩,n4,n5,n6,n7⟩:=t0x ((hb.block _ (t0a GN.out)).trans GN.out)
        clear ha hb
        by_cases hlt : k < n.kids.length
        · obtain ⟨-,ak,ok,rfl,hak,zk⟩:=(HK3.out.below Hb.out).at hlt
          have hst : (n.kids.take (k + 1)).any (mem T V) = mem T V n.kids[k]:=by
            rw [List.take_succ_eq_append_getElem hlt,List.any_append,Ha.out];simp
          have Hno:=zH (show mem T V n.kids[k] = true → n.kids.any (mem T V) = true from fun h=>by
            exact List.any_eq_true.2 ⟨_,List.getElem_mem hlt,h⟩)
          have Hcall:=zH (Hc.out _ (List.getElem_mem hlt) wr.drew _ _ (HV3.out.below Hb.out.drew) (HT3.out.below Hb.out.drew))
          have Hst:=zH hst
          clear hst
          generalize n.kids[k] = kx at *
          cases hmv : mem T V kx with
          | true =>
            have Hf:=zH (Hno.out hmv)
            have Hmv:=zH hmv
            clear hmv
            go_wp2_with (first
              | (with_reducible refine rg ?_)
              | (with_reducible refine fo ?_)
              | (go_at_call 34;refine Hcall.out.mono ?_;rintro e w6 ⟨rfl,hb6⟩;rw [Hmv.out];have Hb6:=zH (Hbw.out.drew.step hb6);clear hb6))
            go_ret
            rw [Hmem.out,Hf.out]
            exact ⟨rfl,Hb6.out⟩
          | false =>
            have Hmv:=zH hmv
            have Hst2:=zH (Hst.out.trans hmv)
            clear hmv
            go_wp2_with (first
              | (with_reducible refine rg ?_)
              | (with_reducible refine fo ?_)
              | (go_at_call 34;refine Hcall.out.mono ?_;rintro e w6 ⟨rfl,hb6⟩;rw [Hmv.out];have Hb6:=zH (Hb.out.drew.step hb6);clear hb6))
            exact ⟨⟨k + 1,by go_num,by omega,Hst2.out,Hb6.out⟩,by simp [intOf];omega⟩
        · obtain rfl : k = n.kids.length:=by omega
          have Hf:=zH (show n.kids.any (mem T V) = false by have:=Ha.out;rwa [List.take_length] at this)
          go_wp2
          go_ret
          rw [Hmem.out,Hf.out]
          exact ⟨rfl,Hbw.out⟩
    · have Hmem:=zH (show mem T V (i : Nat) = (n.kids.all (mem T V)) by rw [Hn.out];unfold memS;simp [hkind])
      rw [hkind] at n0;clear hkind
      have Hc:=zH hc
      have HV3:=zH (Hv.out.below Hb3.out);have HT3:=zH (Ht.out.below Hb3.out);have HK3:=zH (Hks.out.below Hb3.out)
      have GA:=zH gA;have GB:=zH gB
      clear hc a0 a1 a2 a3 a4 a5 a6 t0 t1 n1 n2 n3 n5 n6 n7 gA gB
      go_wp2
      go_loopw [9] (fun i wr=>∃ k : Nat,i = .int .i64 k ∧ k ≤ n.kids.length ∧ (n.kids.take k).all (mem T V) = true ∧ Below w3.heap.size w3 wr) (fun i _=>n.kids.length - (intOf i).toNat)
      case atStart=>exact ⟨0,rfl,by omega,by simp,Below.refl _ _⟩
      case round =>
        obtain ⟨k,rfl,hk,ha,hb⟩:=hrel
        have Ha:=zH ha;have Hb:=zH hb
        have Hbw:=zH (Hb3.out.step hb)
        obtain ⟨⟨a0,a1,a2,a3⟩,a4,a5,a6⟩:=t0j ((hb.block _ (t0a GA.out)).trans GA.out)
        obtain ⟨t0,t1⟩:=t0k ((hb.block _ (t0a GB.out)).trans GB.out)
        clear n0 n4
        obtain ⟨⟨n0,n1,n2,n3⟩,n4,n5,n6,n7⟩:=t0x ((hb.block _ (t0a GN.out)).trans GN.out)
        clear ha hb
        by_cases hlt : k < n.kids.length
        · obtain ⟨-,ak,ok,rfl,hak,zk⟩:=(HK3.out.below Hb.out).at hlt
          have hst : (n.kids.take (k + 1)).all (mem T V) = mem T V n.kids[k]:=by
            rw [List.take_succ_eq_append_getElem hlt,List.all_append,Ha.out];simp
          have Hno:=zH (show mem T V n.kids[k] = false → n.kids.all (mem T V) = false from fun h=>by
            rw [Bool.eq_false_iff];intro h2;rw [List.all_eq_true] at h2;rw [h2 _ (List.getElem_mem hlt)] at h;cases h)
          have Hcall:=zH (Hc.out _ (List.getElem_mem hlt) wr.drew _ _ (HV3.out.below Hb.out.drew) (HT3.out.below Hb.out.drew))
          have Hst:=zH hst
          clear hst
          generalize n.kids[k] = kx at *
          cases hmv : mem T V kx with
          | false =>
            have Hf:=zH (Hno.out hmv)
            have Hmv:=zH hmv
            clear hmv
            go_wp2_with (first
              | (with_reducible refine rg ?_)
              | (with_reducible refine fo ?_)
              | (go_at_call 34;refine Hcall.out.mono ?_;rintro e w6 ⟨rfl,hb6⟩;rw [Hmv.out];have Hb6:=zH (Hbw.out.drew.step hb6);clear hb6))
            go_ret
            rw [Hmem.out,Hf.out]
            exact ⟨rfl,Hb6.out⟩
          | true =>
            have Hmv:=zH hmv
            have Hst2:=zH (Hst.out.trans hmv)
            clear hmv
            go_wp2_with (first
              | (with_reducible refine rg ?_)
              | (with_reducible refine fo ?_)
              | (go_at_call 34;refine Hcall.out.mono ?_;rintro e w6 ⟨rfl,hb6⟩;rw [Hmv.out];have Hb6:=zH (Hb.out.drew.step hb6);clear hb6))
            exact ⟨⟨k + 1,by go_num,by omega,Hst2.out,Hb6.out⟩,by simp [intOf];omega⟩
        · obtain rfl : k = n.kids.length:=by omega
          have Hf:=zH (show n.kids.all (mem T V) = true by have:=Ha.out;rwa [List.take_length] at this)
          go_wp2
          go_ret
          rw [Hmem.out,Hf.out]
          exact ⟨rfl,Hbw.out⟩
  · have Hmem:=zH (show mem T V (i : Nat) = (!mem T V (n.kids.getD 0 0)) by rw [Hn.out];unfold memS;simp [hkind])
    rw [hkind] at n0 HN;clear hkind
    obtain ⟨-,ak,ok,rfl,hak,zk⟩:=(Hks.out.below Hb3.out).at h0
    have hg : n.kids.getD 0 0 = n.kids[0]:=by rw [List.getD_eq_getElem?_getD,List.getElem?_eq_getElem h0];rfl
    rw [← hg] at zk
    rw [Nat.add_zero] at zk
    have Hc:=zH hc
    clear hc hg
    generalize n.kids.getD 0 0 = k0 at *
    go_wp2_with (first
      | (with_reducible refine rg ?_)
      | (with_reducible refine fo ?_)
      | (go_at_call 34;refine (Hc.out w3.drew _ _ (Hv.out.below Hb3.out.drew) (Ht.out.below Hb3.out.drew)).mono ?_;rintro e w6 ⟨rfl,hb6⟩;have Hb6:=zH (Hb3.out.drew.step hb6);clear hb6))
    go_ret
    rw [Hmem.out]
    exact ⟨rfl,Hb6.out⟩
  · have Hmem:=zH (show mem T V (i : Nat) = (V.labels.any fun s=>decide (s = n.text)) by rw [Hn.out];unfold memS;simp [hkind])
    rw [hkind] at n0 HN;clear hkind
    have HL3:=zH (Hlabs.out.below Hb3.out)
    have GA:=zH gA
    clear a0 a1 a2 a3 a4 a5 t0 t1 n1 n2 n4 n5 n6 n7 gA gB
    go_wp2
    go_loopw [10] (fun i wr=>∃ k : Nat,i = .int .i64 k ∧ k ≤ V.labels.length ∧ (V.labels.take k).any (fun s=>decide (s = n.text)) = false ∧ Below w3.heap.size w3 wr) (fun i _=>V.labels.length - (intOf i).toNat)
    case atStart=>exact ⟨0,rfl,by omega,by simp,Below.refl _ _⟩
    case round =>
      obtain ⟨k,rfl,hk,ha,hb⟩:=hrel
      have Ha:=zH ha;have Hb:=zH hb
      have Hbw:=zH (Hb3.out.step hb)
      clear a6 n0 n3
      obtain ⟨⟨a0,a1,a2,a3⟩,a4,a5,a6⟩:=t0j ((hb.block _ (t0a GA.out)).trans GA.out)
      obtain ⟨⟨n0,n1,n2,n3⟩,n4,n5,n6,n7⟩:=t0x ((hb.block _ (t0a GN.out)).trans GN.out)
      clear ha hb
      by_cases hlt : k < V.labels.length
      · obtain ⟨p',c',e9,hrk⟩:=HL3.out.below Hb.out
        injection e9 with e91 _ e93
        subst e91 e93
        obtain ⟨ak,ok,rfl,hak,zk⟩:=hrk.str hlt
        have hst:=t2h (p:=fun s=>decide (s = n.text)) hlt
        rw [Ha.out,Bool.false_or] at hst
        have hse:=t8z V.labels[k] n.text
        have Hno:=zH (show V.labels[k] = n.text → V.labels.any (fun s=>decide (s = n.text)) = true from fun h=>List.any_eq_true.2 ⟨_,List.getElem_mem hlt,by simp [h]⟩)
        have Hst:=zH hst
        clear hst hrk
        generalize V.labels[k] = x at *
        by_cases hx : x = n.text
        · have Hf:=zH (Hno.out hx)
          rw [decide_eq_true hx] at hse
          clear hx
          go_wp2_with (first
            | (with_reducible refine rg ?_)
            | (with_reducible refine fo ?_))
          go_ret
          rw [Hmem.out,Hf.out]
          exact ⟨rfl,Hbw.out.drew⟩
        · have Hst2:=zH (Hst.out.trans (decide_eq_false hx))
          rw [decide_eq_false hx] at hse
          clear hx
          go_wp2_with (first
            | (with_reducible refine rg ?_)
            | (with_reducible refine fo ?_))
          exact ⟨⟨k + 1,by go_num,by omega,Hst2.out,Hb.out.drew⟩,by simp [intOf];omega⟩
      · obtain rfl : k = V.labels.length:=by omega
        have Hf:=zH (show V.labels.any (fun s=>decide (s = n.text)) = false by have:=Ha.out;rwa [List.take_length] at this)
        go_wp2
        go_ret
        rw [Hmem.out,Hf.out]
        exact ⟨rfl,Hbw.out⟩
end Go.Proofs.YtjgldaaofdpcgaaGreat
