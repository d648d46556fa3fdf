/- Walks and plain facts for the laws of membership, for all values and types that the heap holds (texts K9 L1). -/
import Derived.Test.YtjgldaaofdpcgaaGreatW03
import Derived.Test.YtjgldaaofdpcgaaGreatW14
set_option linter.unusedVariables false
set_option linter.unusedSimpArgs false
namespace Go.Proofs.YtjgldaaofdpcgaaGreat
open Go.RowKit Go.Ident
set_option maxRecDepth 100000
def PR (L : List VV) (w : World) (e : Ending) (w' : World) : Prop:=∃ p c d,e = .returned (.slice p L.length c) ∧ Rw w' p c 7 L (VS w' d) ∧ Below w.heap.size w w'
theorem tfq {a : VV} {k : Nat} (h : k < a.ents.length) : a.kids ++ (a.ents.take (k + 1)).flatMap EE.parts = (a.kids ++ (a.ents.take k).flatMap EE.parts) ++ a.ents[k].parts:=by
  rw [List.take_succ_eq_append_getElem h,List.flatMap_append];simp
theorem thw {a : VV} (k : Nat) : (a.kids ++ (a.ents.take k).flatMap EE.parts).length ≤ a.parts.length:=by
  rw [VV.parts]
  conv=>rhs;rw [← List.take_append_drop k a.ents,List.flatMap_append]
  simp
set_option maxHeartbeats 16000000 in
theorem tgx (a : VV) (w : World) (u : Value) (hu : VW w u a) (hn : a.nodes ≤ 1048576) : Calls Tryz.prog 85 #[u] w (PR a.parts w):=by
  obtain ⟨d0,cs0,rfl,hV⟩:=hu
  cases d0 with
  | zero=>exact hV.elim
  | succ d =>
  obtain ⟨q1,q2,q3,q4,q5,q6,q7,q8,rfl,hk,-,he,-⟩:=hV
  have hlen:=tc7 a
  have hL : a.ents.length ≤ 9223372036854775807:=he.big
  have hpl : ∀ k,(a.kids ++ (a.ents.take k).flatMap EE.parts).length ≤ 1048576:=fun k=>by have:=thw (a:=a) k;omega
  have hkl : a.kids.length ≤ 1048576:=by have:=hpl 0;simpa using this
  have HE:=zH he
  obtain ⟨kcs,hkr,hkc⟩:=hk.ch
  have HC:=zH hkc
  have Hpl:=zH hpl
  clear he hk hn hlen hpl
  go_enter Tryz.func85,Tryz.ntmps85
  go_upto_region 1 with fail
  have hA:=heap_alloc_new w (.cells #[.int .i64 a.kind,.int .i64 a.num,.string a.text,.slice q1 a.kids.length q2,.slice q3 a.keys.length q4,.slice q5 a.ents.length q6,.slice q7 a.labels.length q8] 28)
  have hb : Below w.heap.size w (w.alloc (.cells #[.int .i64 a.kind,.int .i64 a.num,.string a.text,.slice q1 a.kids.length q2,.slice q3 a.keys.length q4,.slice q5 a.ents.length q6,.slice q7 a.labels.length q8] 28)):=(Below.refl _ _).alloc (Nat.le_refl _) _
  generalize w.alloc (.cells #[.int .i64 a.kind,.int .i64 a.num,.string a.text,.slice q1 a.kids.length q2,.slice q3 a.keys.length q4,.slice q5 a.ents.length q6,.slice q7 a.labels.length q8] 28) = w2 at *
  have Hb:=zH hb
  obtain ⟨⟨f0,f1,f2,f3⟩,f4,f5,f6⟩:=t0f hA
  have HA:=zH hA
  have hlA:=t0a hA
  have Hcl:=zH (tfp q1 a.kids.length q2 kcs w2 (hkr.below hb) (hkc.cells fun _ _ h=>h.one) hkl)
  clear hA hb hkr hkc
  go_wp2_with (go_at_call 108;refine Hcl.out.mono ?_;rintro e w3 ⟨v1,rfl,ho,q⟩;have Ho:=zH ho;have Hq3:=zH q;have Hb3:=zH (Hb.out.step q);clear q ho;clear f0 f1 f2 f3 f4 f5 f6;have HA3:=zH ((Hq3.out.block _ hlA).trans HA.out);obtain ⟨⟨f0,f1,f2,f3⟩,f4,f5,f6⟩:=t0f HA3.out)
  clear f0 f1 f2 f3 f4 f5 f6
  have hs2:=Hb.out.size
  go_loopw [12,3] (fun i ov wr=>∃ k : Nat,i = .int .i64 k ∧ k ≤ a.ents.length ∧ (∃ xs,wr.ownsRow w2.heap.size 28 7 ov (a.kids ++ (a.ents.take k).flatMap EE.parts).length xs ∧ Ch 7 (VS w d) (a.kids ++ (a.ents.take k).flatMap EE.parts) xs) ∧ Below w2.heap.size w2 wr) (fun i _ _=>a.ents.length - (intOf i).toNat)
  case atStart=>exact ⟨0,rfl,by omega,⟨kcs,by simpa using Ho.out,by simpa using HC.out⟩,Hq3.out⟩
  case round =>
    obtain ⟨k,rfl,hk,⟨xs,ho,hc⟩,hb⟩:=hrel
    have Hor:=zH ho;have Hc:=zH hc;have Hbr:=zH hb;have Hbw:=zH (Hb.out.step hb);clear ho hc hb
    obtain ⟨pv,cv,rfl⟩:=t0r Hor.out
    by_cases hlt : k < a.ents.length
    · obtain ⟨ak,ok,cs,rfl,hab,-,hrg,hES⟩:=HE.out.all hlt
      have hrg:=hrg wr Hbw.out
      obtain ⟨r9,ra,rs,e9,hargs,hres⟩:=hES
      obtain ⟨r1,r2,r3,r4,r5,r6,r7,r8,rfl⟩:=hres.seven
      subst e9
      have z0:=hrg 0 _ rfl
      have z1:=hrg 1 _ rfl
      have z2:=hrg 2 _ rfl
      have z3:=hrg 3 _ rfl
      have z4:=hrg 4 _ rfl
      have z5:=hrg 5 _ rfl
      have z6:=hrg 6 _ rfl
      have z7:=hrg 7 _ rfl
      have z8:=hrg 8 _ rfl
      rw [Nat.add_zero] at z0
      have hM1:=tfq hlt
      have hlen:=Hpl.out (k + 1)
      rw [hM1,List.length_append] at hlen
      generalize hM : a.kids ++ (a.ents.take k).flatMap EE.parts = M at *
      have HM1:=zH hM1
      clear hrg hM hM1
      generalize a.ents[k] = x at *
      have hpx : x.parts.length = x.args.length + (if x.fails then 0 else 1):=by unfold EE.parts;cases x.fails <;> simp
      obtain ⟨acs,har,hac⟩:=hargs.ch
      have Hac:=zH hac;have Hres:=zH hres
      obtain ⟨wo,hwo⟩ : ∃ wo : World,wo = wr:=⟨_,rfl⟩
      subst hwo
      have Har:=zH (har.below Hbw.out)
      clear hargs har hac hres
      have hla : M.length + x.args.length ≤ 1048576:=by omega
      have Hlr:=zH (show x.fails = false → M.length + x.args.length + 1 ≤ 1048576 by intro h;rw [h] at hpx;simp at hpx;omega)
      clear hpx hlen
      go_upto_region 5 with fail
      have hnew:=heap_alloc_new wo (.cells #[.slice r9 x.args.length ra,.bool x.fails,.int .i64 x.res.kind,.int .i64 x.res.num,.string x.res.text,.slice r1 x.res.kids.length r2,.slice r3 x.res.keys.length r4,.slice r5 x.res.ents.length r6,.slice r7 x.res.labels.length r8] 55)
      have ho : Below wo.heap.size wo (wo.alloc (.cells #[.slice r9 x.args.length ra,.bool x.fails,.int .i64 x.res.kind,.int .i64 x.res.num,.string x.res.text,.slice r1 x.res.kids.length r2,.slice r3 x.res.keys.length r4,.slice r5 x.res.ents.length r6,.slice r7 x.res.labels.length r8] 55)):=(Below.refl _ _).alloc (Nat.le_refl _) _
      generalize wo.alloc (.cells #[.slice r9 x.args.length ra,.bool x.fails,.int .i64 x.res.kind,.int .i64 x.res.num,.string x.res.text,.slice r1 x.res.kids.length r2,.slice r3 x.res.keys.length r4,.slice r5 x.res.ents.length r6,.slice r7 x.res.labels.length r8] 55) = w5 at *
      have hB5 : w2.heap.size ≤ w5.heap.size:=Nat.le_trans Hbr.out.size ho.size
      have Ho5:=zH (t0d Hor.out ho (Nat.le_refl _))
      have Har5:=zH (Har.out.below ho)
      have Hone:=zH (Hac.out.cells fun _ _ h=>h.one)
      have Hone2:=zH (Hres.out.one)
      have hlb : M.length + x.args.length ≤ 67108864:=by omega
      have hl5:=t0a hnew
      have Hbb5:=zH (Hbr.out.trans (ho.mono Hbr.out.size))
      have hne:=own_ne' Ho5.out hnew (by decide)
      have Hnew:=zH hnew
      obtain ⟨⟨f0,f1,f2,f3⟩,⟨g0,g1,g2,g3⟩,g4⟩:=t1k hnew
      clear z0 z1 z2 z3 z4 z5 z6 z7 z8 hnew ho
      cases hfl : x.fails with
      | true =>
        rw [hfl] at f1 Hnew
        have Hxp:=zH (show x.parts = x.args by unfold EE.parts;rw [hfl];simp)
        clear hfl
        go_wp2_with (at_builtin;go_loud (refine t0x rfl (.tmp 16) (.tmp 18) 23 rfl 28 (by kernel_rfl) t1w rfl (by decide) (by decide) w2.heap.size _ r9 M.length x.args.length ra xs acs hB5 (.slice pv M.length cv) rfl rfl Ho5.out Har5.out Hone.out hlb ?_);intro v6 w6 ho6 hf6;obtain ⟨p6,c6,rfl⟩:=t0r ho6;have Ho6:=zH ho6;have hB6 : w2.heap.size ≤ w6.heap.size:=Nat.le_trans hB5 hf6.size;have Hbb6:=zH (Hbb5.out.trans (hf6.below hB5 (by simp) fun g hg=>(Ho5.out.lt g hg).1));have hn6:=(hf6.block _ hl5 (by simp) hne).trans Hnew.out;clear f0 f1 f2 f3 g0 g1 g2 g3 g4 ho6 hf6;obtain ⟨⟨f0,f1,f2,f3⟩,⟨g0,g1,g2,g3⟩,g4⟩:=t1k hn6;clear hn6)
        refine ⟨⟨k + 1,by go_num,by omega,⟨xs ++ acs,?_,?_⟩,Hbb6.out⟩,by simp [intOf];omega⟩
        · rw [HM1.out,Hxp.out,List.length_append];exact Ho6.out
        · rw [HM1.out,Hxp.out];exact Hc.out.append Hac.out
      | false =>
        rw [hfl] at f1 Hnew
        have Hxp:=zH (show x.parts = x.args ++ [x.res] by unfold EE.parts;rw [hfl];simp)
        have hlr:=Hlr.out hfl
        clear hfl
        go_wp2_with (first
          | (at_builtin;(refine t0x rfl (.tmp 16) (.tmp 18) 23 rfl 28 (by kernel_rfl) t1w rfl (by decide) (by decide) w2.heap.size _ r9 M.length x.args.length ra xs acs hB5 (.slice pv M.length cv) rfl rfl Ho5.out Har5.out Hone.out hlb ?_);intro v6 w6 ho6 hf6;obtain ⟨p6,c6,rfl⟩:=t0r ho6;have Ho6:=zH ho6;have hB6 : w2.heap.size ≤ w6.heap.size:=Nat.le_trans hB5 hf6.size;have Hbb6:=zH (Hbb5.out.trans (hf6.below hB5 (by simp) fun g hg=>(Ho5.out.lt g hg).1));have hn6:=(hf6.block _ hl5 (by simp) hne).trans Hnew.out;clear f0 f1 f2 f3 g0 g1 g2 g3 g4 ho6 hf6;obtain ⟨⟨f0,f1,f2,f3⟩,⟨g0,g1,g2,g3⟩,g4⟩:=t1k hn6;clear hn6)
          | (at_builtin;go_loud (refine t0n rfl (.tmp 23) (.tmp 26) 23 rfl 28 (by kernel_rfl) t1w rfl (by decide) (by decide) w2.heap.size _ w6.heap.size [.int .i64 x.res.kind,.int .i64 x.res.num,.string x.res.text,.slice r1 x.res.kids.length r2,.slice r3 x.res.keys.length r4,.slice r5 x.res.ents.length r6,.slice r7 x.res.labels.length r8] (heap_alloc_new w6 _) (Nat.le_trans hB6 (by simp)) rfl Hone2.out (.slice p6 (M.length + x.args.length) c6) (M.length + x.args.length) (xs ++ acs) rfl (t0d Ho6.out ((Below.refl _ _).alloc (Nat.le_refl _) _) (Nat.le_refl _)) (by omega) rfl ?_);intro v8 w8 ho8 hf8;have Ho8:=zH ho8;have Hbb8:=zH ((Hbb6.out.alloc hB6 _).trans (hf8.below (Nat.le_trans hB6 (by simp)) (by simp) fun g hg=>(Ho6.out.lt g hg).1));clear ho8 hf8))
        refine ⟨⟨k + 1,by go_num,by omega,⟨xs ++ acs ++ [.int .i64 x.res.kind,.int .i64 x.res.num,.string x.res.text,.slice r1 x.res.kids.length r2,.slice r3 x.res.keys.length r4,.slice r5 x.res.ents.length r6,.slice r7 x.res.labels.length r8],?_,?_⟩,Hbb8.out⟩,by simp [intOf];omega⟩
        · rw [HM1.out,Hxp.out,List.length_append,List.length_append,← Nat.add_assoc];exact Ho8.out
        · rw [HM1.out,Hxp.out,← List.append_assoc];exact (Hc.out.append Hac.out).append (Ch.single rfl Hres.out)
    · obtain rfl : k = a.ents.length:=by omega
      have Hx:=zH (show a.kids ++ (a.ents.take a.ents.length).flatMap EE.parts = a.parts by rw [List.take_length];rfl)
      go_wp2
      go_ret
      rw [Hx.out] at Hor Hc
      obtain ⟨p,c,e,hr⟩:=t1o Hor.out (Hc.out.mono fun _ _ _ h=>h.below Hbw.out) (by have:=Hpl.out a.ents.length;rw [Hx.out] at this;omega)
      exact ⟨p,c,d,by rw [Hx.out,e];rfl,hr,Hbw.out⟩
set_option maxHeartbeats 16000000 in
theorem tcs (a : VV) : ∀ (w : World) (u : Value),VW w u a → a.nodes ≤ 1048576 → Calls Tryz.prog 50 #[u] w (ER a.valid w):=by
  induction hht : a.ht using Nat.strongRecOn generalizing a with
  | ind t ih =>
  intro w u hu hn
  have Hih:=zH (show ∀ x ∈ a.parts,∀ (w : World) (u : Value),VW w u x → Calls Tryz.prog 50 #[u] w (ER x.valid w) from fun x hx w u hu=>ih x.ht (by have:=tix hx;omega) x rfl w u hu (by have:=tfo hx;omega))
  clear ih hht
  have Hu:=zH hu
  obtain ⟨_,q1,q2,q3,q4,q5,q6,q7,q8,rfl,-,-,-,-,-⟩:=hu.ex
  have hpl : a.parts.length ≤ 1048576:=by have:=tc7 a;omega
  have Hvp:=zH (teh a)
  have Hn:=zH hn
  clear hu hn
  go_enter Tryz.func50,Tryz.ntmps50
  go_upto_region 1 with fail
  have hA:=heap_alloc_new w (.cells #[.int .i64 a.kind,.int .i64 a.num,.string a.text,.slice q1 a.kids.length q2,.slice q3 a.keys.length q4,.slice q5 a.ents.length q6,.slice q7 a.labels.length q8] 28)
  have hb : Below w.heap.size w (w.alloc (.cells #[.int .i64 a.kind,.int .i64 a.num,.string a.text,.slice q1 a.kids.length q2,.slice q3 a.keys.length q4,.slice q5 a.ents.length q6,.slice q7 a.labels.length q8] 28)):=(Below.refl _ _).alloc (Nat.le_refl _) _
  generalize w.alloc (.cells #[.int .i64 a.kind,.int .i64 a.num,.string a.text,.slice q1 a.kids.length q2,.slice q3 a.keys.length q4,.slice q5 a.ents.length q6,.slice q7 a.labels.length q8] 28) = w2 at *
  have Hb:=zH hb
  obtain ⟨⟨f0,f1,f2,f3⟩,f4,f5,f6⟩:=t0f hA
  have HA:=zH hA
  have hlA:=t0a hA
  have Hnd:=zH (tcq a w2 _ (Hu.out.below hb))
  clear hA hb
  cases hnd : nodeV a with
  | false =>
    rw [hnd] at Hnd
    have Hr:=zH (show a.valid = false by rw [Hvp.out,hnd];rfl)
    clear hnd
    go_wp2_with (go_at_call 84;refine Hnd.out.mono ?_;rintro e w3 ⟨rfl,q⟩;have Hb3:=zH (Hb.out.step q);clear q)
    go_ret
    rw [Hr.out]
    exact ⟨rfl,Hb3.out⟩
  | true =>
    rw [hnd] at Hnd
    have Hr:=zH (show a.valid = a.parts.all VV.valid by rw [Hvp.out,hnd];rfl)
    clear hnd
    go_wp2_with (first
      | (go_at_call 84;refine Hnd.out.mono ?_;rintro e w3 ⟨rfl,q⟩;have Hb3:=zH (Hb.out.step q);have Hq3:=zH q;clear q;clear f0 f1 f2 f3 f4 f5 f6;have HA3:=zH ((Hq3.out.block _ hlA).trans HA.out);obtain ⟨⟨f0,f1,f2,f3⟩,f4,f5,f6⟩:=t0f HA3.out)
      | (go_at_call 85;refine (tgx a w3 _ (Hu.out.below Hb3.out) Hn.out).mono ?_;rintro e w4 ⟨pp,pc,pd,rfl,hrp,q⟩;have Hrp:=zH hrp;have Hb4:=zH (Hb3.out.step q);clear q hrp;clear f0 f1 f2 f3 f4 f5 f6))
    go_loopw [11] (fun i wr=>∃ k : Nat,i = .int .i64 k ∧ k ≤ a.parts.length ∧ (a.parts.take k).all VV.valid = true ∧ Below w4.heap.size w4 wr) (fun i _=>a.parts.length - (intOf i).toNat)
    case atStart=>exact ⟨0,rfl,by omega,by simp,Below.refl _ _⟩
    case round =>
      obtain ⟨k,rfl,hk,hall,hb⟩:=hrel
      have Hall:=zH hall;have Hbr:=zH hb;have Hbw:=zH (Hb4.out.step hb);clear hall hb
      by_cases hlt : k < a.parts.length
      · obtain ⟨ak,ok,cs,rfl,hab,-,hrg,hVS⟩:=Hrp.out.all hlt
        have hrg:=hrg wr Hbr.out
        have HVS:=zH (hVS.below Hbr.out)
        obtain ⟨r1,r2,r3,r4,r5,r6,r7,r8,rfl⟩:=hVS.seven
        have z0:=hrg 0 _ rfl
        have z1:=hrg 1 _ rfl
        have z2:=hrg 2 _ rfl
        have z3:=hrg 3 _ rfl
        have z4:=hrg 4 _ rfl
        have z5:=hrg 5 _ rfl
        have z6:=hrg 6 _ rfl
        rw [Nat.add_zero] at z0
        clear hrg hVS
        have hst:=t2s (p:=VV.valid) hlt
        rw [Hall.out,Bool.true_and] at hst
        have Hst:=zH hst
        have Hno:=zH (t4d (p:=VV.valid) hlt)
        have Hm:=zH (Hih.out _ (List.getElem_mem hlt))
        clear hst
        generalize a.parts[k] = x at *
        obtain ⟨wo,hwo⟩ : ∃ wo : World,wo = wr:=⟨_,rfl⟩
        subst hwo
        go_upto_region 6 with fail
        have hnew:=heap_alloc_new wo (.cells #[.int .i64 x.kind,.int .i64 x.num,.string x.text,.slice r1 x.kids.length r2,.slice r3 x.keys.length r4,.slice r5 x.ents.length r6,.slice r7 x.labels.length r8] 28)
        have ho : Below wo.heap.size wo (wo.alloc (.cells #[.int .i64 x.kind,.int .i64 x.num,.string x.text,.slice r1 x.kids.length r2,.slice r3 x.keys.length r4,.slice r5 x.ents.length r6,.slice r7 x.labels.length r8] 28)):=(Below.refl _ _).alloc (Nat.le_refl _) _
        generalize wo.alloc (.cells #[.int .i64 x.kind,.int .i64 x.num,.string x.text,.slice r1 x.kids.length r2,.slice r3 x.keys.length r4,.slice r5 x.ents.length r6,.slice r7 x.labels.length r8] 28) = w5 at *
        have Hb5:=zH (Hbr.out.step ho)
        have Hbw5:=zH (Hb4.out.step Hb5.out)
        obtain ⟨⟨f0,f1,f2,f3⟩,f4,f5,f6⟩:=t0f hnew
        have Hv:=zH (Hm.out w5 _ ⟨_,_,rfl,HVS.out.below ho⟩)
        clear z0 z1 z2 z3 z4 z5 z6 hnew ho
        cases hv : x.valid with
        | true =>
          rw [hv] at Hv
          have Hst2:=zH (Hst.out.trans hv)
          clear hv
          go_wp2_with (go_at_call 50;refine Hv.out.mono ?_;rintro e w6 ⟨rfl,q⟩;have Hb6:=zH (Hb5.out.step q);clear q)
          exact ⟨⟨k + 1,by go_num,by omega,Hst2.out,Hb6.out⟩,by simp [intOf];omega⟩
        | false =>
          rw [hv] at Hv
          have Hf:=zH (Hno.out hv)
          clear hv
          go_wp2_with (go_at_call 50;refine Hv.out.mono ?_;rintro e w6 ⟨rfl,q⟩;have Hb6:=zH (Hbw5.out.step q);clear q)
          go_ret
          rw [Hr.out,Hf.out]
          exact ⟨rfl,Hb6.out⟩
      · obtain rfl : k = a.parts.length:=by omega
        have Hy:=zH (show a.parts.all VV.valid = true by have:=Hall.out;rwa [List.take_length] at this)
        go_wp2
        go_ret
        rw [Hr.out,Hy.out]
        exact ⟨rfl,Hbw.out⟩
def codeB (b : Bool) : Int:=if b then 0 else 1
theorem tdp (a : VV) (w : World) (u : Value) (hu : VW w u a) (hn : a.nodes ≤ 1048576) : Calls Tryz.prog 28 #[u] w fun e w'=>e = .returned (.int .i64 (codeB a.valid)) ∧ Below w.heap.size w w':=by
  have Hu:=zH hu
  have Hn:=zH hn
  obtain ⟨_,q1,q2,q3,q4,q5,q6,q7,q8,rfl,-,-,-,-,-⟩:=hu.ex
  clear hu hn
  go_enter Tryz.func28,Tryz.ntmps28
  go_upto_region 1 with fail
  have hA:=heap_alloc_new w (.cells #[.int .i64 a.kind,.int .i64 a.num,.string a.text,.slice q1 a.kids.length q2,.slice q3 a.keys.length q4,.slice q5 a.ents.length q6,.slice q7 a.labels.length q8] 28)
  have hb : Below w.heap.size w (w.alloc (.cells #[.int .i64 a.kind,.int .i64 a.num,.string a.text,.slice q1 a.kids.length q2,.slice q3 a.keys.length q4,.slice q5 a.ents.length q6,.slice q7 a.labels.length q8] 28)):=(Below.refl _ _).alloc (Nat.le_refl _) _
  generalize w.alloc (.cells #[.int .i64 a.kind,.int .i64 a.num,.string a.text,.slice q1 a.kids.length q2,.slice q3 a.keys.length q4,.slice q5 a.ents.length q6,.slice q7 a.labels.length q8] 28) = w2 at *
  have Hb:=zH hb
  obtain ⟨⟨f0,f1,f2,f3⟩,f4,f5,f6⟩:=t0f hA
  have Hv:=zH (tcs a w2 _ (Hu.out.below hb) Hn.out)
  clear hA hb
  cases hv : a.valid with
  | true =>
    rw [hv] at Hv
    have Hr:=zH (show codeB a.valid = 0 by rw [hv];rfl)
    clear hv
    go_wp2_with (go_at_call 50;refine Hv.out.mono ?_;rintro e w6 ⟨rfl,q⟩;have Hb6:=zH (Hb.out.step q);clear q)
    go_ret
    rw [Hr.out]
    exact ⟨rfl,Hb6.out⟩
  | false =>
    rw [hv] at Hv
    have Hr:=zH (show codeB a.valid = 1 by rw [hv];rfl)
    clear hv
    go_wp2_with (go_at_call 50;refine Hv.out.mono ?_;rintro e w6 ⟨rfl,q⟩;have Hb6:=zH (Hb.out.step q);clear q)
    go_ret
    rw [Hr.out]
    exact ⟨rfl,Hb6.out⟩
end Go.Proofs.YtjgldaaofdpcgaaGreat
namespace Go.Proofs.YtjgldaaofdpcgaaGreat
open Go.RowKit Go.Ident
set_option maxRecDepth 100000
theorem toList_inj {a b : ByteArray} (h : a.toList = b.toList) : a = b:=by
  rw [ByteArray.toList_eq,ByteArray.toList_eq] at h
  cases a;cases b;simp only [ByteArray.mk.injEq];exact Array.toList_inj.1 h
def RmpC (a b : VV) : Prop:=∀ (w : World) (u v : Value),VW w u a → VW w v b → Calls Tryz.prog 70 #[u,v] w (IR (cmpV a b) w)
def RmpD (a b : EE) : Prop:=∀ (w : World) (d d' : Nat) (cs cs' : List Value),ES w d a cs → ES w d' b cs' → Calls Tryz.prog 69 #[.agg cs.toArray,.agg cs'.toArray] w (IR (cmpE a b) w)
set_option maxHeartbeats 16000000 in
theorem tb8 (la lb : List VV) (w : World) (u v : Value) (ha : KS w u la) (hb : KS w v lb) (hc : ∀ x ∈ la,∀ y ∈ lb,RmpC x y) : Calls Tryz.prog 100 #[u,v] w (IR (cmpL cmpV la lb) w):=by
  have HA:=zH ha;have HB:=zH hb
  have Hc:=zH hc;clear hc
  have hL : la.length ≤ 9223372036854775807:=by obtain ⟨_,_,_,_,h⟩:=ha;exact h.big
  obtain ⟨_,pa,ca,rfl,-⟩:=ha
  obtain ⟨_,pb,cb,rfl,-⟩:=hb
  have Hlen:=zH (t5z la.length lb.length)
  by_cases hlen : la.length = lb.length
  rotate_left
  · have ho : ordI (la.length : Int) (lb.length : Int) ≠ 0:=fun h=>hlen (by have:=t2k h;omega)
    have Hcm:=zH (show cmpL cmpV la lb = ordI (la.length : Int) (lb.length : Int) from nz_a ho)
    have d0 : ((la.length : Int) != (lb.length : Int)) = true:=by simp;omega
    clear ho hlen
    generalize ordI (la.length : Int) (lb.length : Int) = c at *
    go_enter Tryz.func100,Tryz.ntmps100
    go_wp2_with (go_at_call 101;refine (Hlen.out _).mono ?_;rintro e w ⟨rfl,rfl⟩)
    go_ret
    rw [Hcm.out]
    exact ⟨rfl,Below.refl _ _⟩
  have ho : ordI (la.length : Int) (lb.length : Int) = 0:=by rw [hlen];unfold ordI;simp
  have Hcm:=zH (show cmpL cmpV la lb = lexL cmpV la lb from nz_b ho)
  have d0 : ((la.length : Int) != (lb.length : Int)) = false:=by simp [hlen]
  have Hle:=zH hlen
  clear ho hlen Hlen
  go_enter Tryz.func100,Tryz.ntmps100
  go_wp2
  go_loopw [5] (fun i wr=>∃ k : Nat,i = .int .i64 k ∧ k ≤ la.length ∧ (∀ j (h1 : j < la.length) (h2 : j < lb.length),j < k → cmpV la[j] lb[j] = 0) ∧ Below w.heap.size w wr) (fun i _=>la.length - (intOf i).toNat)
  case atStart=>exact ⟨0,rfl,by omega,fun j _ _ h=>by omega,Below.refl _ _⟩
  case round =>
      obtain ⟨k,rfl,hk,hall,hb⟩:=hrel
      have Hall:=zH hall;have Hb:=zH hb;clear hall hb
      by_cases hka : k < la.length
      · have hkb : k < lb.length:=by have:=Hle.out;omega
        obtain ⟨dy,py,cy,ey,hry⟩:=HA.out.below Hb.out
        injection ey with ey1 _ ey3
        subst ey1 ey3
        obtain ⟨ay,oy,csy,rfl,haby,-,hrgy,hPy⟩:=hry.at hka
        obtain ⟨q1,q2,q3,q4,q5,q6,q7,q8,rfl⟩:=hPy.seven
        have y0:=hrgy 0 _ rfl
        have y1:=hrgy 1 _ rfl
        have y2:=hrgy 2 _ rfl
        have y3:=hrgy 3 _ rfl
        have y4:=hrgy 4 _ rfl
        have y5:=hrgy 5 _ rfl
        have y6:=hrgy 6 _ rfl
        rw [Nat.add_zero] at y0
        have HPy:=zH hPy
        clear hry hrgy hPy
        obtain ⟨dz,pz,cz,ez,hrz⟩:=HB.out.below Hb.out
        injection ez with ez1 _ ez3
        subst ez1 ez3
        obtain ⟨az,oz,csz,rfl,habz,-,hrgz,hPz⟩:=hrz.at hkb
        obtain ⟨r1,r2,r3,r4,r5,r6,r7,r8,rfl⟩:=hPz.seven
        have z0:=hrgz 0 _ rfl
        have z1:=hrgz 1 _ rfl
        have z2:=hrgz 2 _ rfl
        have z3:=hrgz 3 _ rfl
        have z4:=hrgz 4 _ rfl
        have z5:=hrgz 5 _ rfl
        have z6:=hrgz 6 _ rfl
        rw [Nat.add_zero] at z0
        have HPz:=zH hPz
        clear hrz hrgz hPz
        have Hcall:=zH (Hc.out _ (List.getElem_mem hka) _ (List.getElem_mem hkb) wr.drew _ _ ⟨dy,_,rfl,HPy.out.below (Below.refl _ _).drew⟩ ⟨dz,_,rfl,HPz.out.below (Below.refl _ _).drew⟩)
        have Hat:=zH (t4p (f:=cmpV) hka hkb Hall.out)
        have Hnx:=zH (show cmpV la[k] lb[k] = 0 → ∀ j (h1 : j < la.length) (h2 : j < lb.length),j < k + 1 → cmpV la[j] lb[j] = 0 from fun g j h h2 hjk=>by
          rcases Nat.lt_succ_iff_lt_or_eq.1 hjk with g2 | rfl
          · exact Hall.out j h h2 g2
          · exact g)
        generalize la[k] = X at *
        generalize lb[k] = Y at *
        by_cases hz : cmpV X Y = 0
        · have Hnx2:=zH (Hnx.out hz)
          rw [hz] at Hcall
          clear hz
          go_wp2_with (first
            | (with_reducible refine rg ?_)
            | (with_reducible refine fo ?_)
            | (go_at_call 70;go_loud (refine Hcall.out.mono ?_);rintro e w6 ⟨rfl,q⟩;have Hb6:=zH (Hb.out.drew.step q);clear q))
          exact ⟨⟨k + 1,by go_num,by omega,Hnx2.out,Hb6.out⟩,by simp [intOf];omega⟩
        · have Hres:=zH (Hat.out hz)
          have d1 : (cmpV X Y != 0) = true:=by simpa using hz
          clear hz
          generalize cmpV X Y = c at *
          go_wp2_with (first
            | (with_reducible refine rg ?_)
            | (with_reducible refine fo ?_)
            | (go_at_call 70;go_loud (refine Hcall.out.mono ?_);rintro e w6 ⟨rfl,q⟩;have Hb6:=zH (Hb.out.drew.step q);clear q))
          go_ret
          rw [Hcm.out,Hres.out]
          exact ⟨rfl,Hb6.out⟩
      · obtain rfl : k = la.length:=by omega
        have Hres:=zH (t3m (f:=cmpV) fun j h h2=>Hall.out j h h2 h)
        go_wp2
        go_ret
        rw [Hcm.out,Hres.out]
        exact ⟨rfl,Hb.out⟩
set_option maxHeartbeats 32000000 in
theorem t7q (a b : EE) (hcv : ∀ x ∈ a.args,∀ y ∈ b.args,RmpC x y) (hcr : RmpC a.res b.res) : RmpD a b:=by
  intro w d d' cs cs' hu hv
  have Hcv:=zH hcv;have Hcr:=zH hcr
  have Heq:=zH (t9q a b)
  obtain ⟨q9,qa,rs,rfl,haa,hra⟩:=hu
  obtain ⟨r9,ra,rs',rfl,hab,hrb⟩:=hv
  obtain ⟨q1,q2,q3,q4,q5,q6,q7,q8,rfl⟩:=hra.seven
  obtain ⟨r1,r2,r3,r4,r5,r6,r7,r8,rfl⟩:=hrb.seven
  have HVa:=zH (show KS w (.slice q9 a.args.length qa) a.args from ⟨d,q9,qa,rfl,haa⟩);have HVb:=zH (show KS w (.slice r9 b.args.length ra) b.args from ⟨d',r9,ra,rfl,hab⟩)
  have HRa:=zH hra;have HRb:=zH hrb
  clear hcv hcr haa hab hra hrb
  go_enter Tryz.func69,Tryz.ntmps69
  go_upto_region 1 with fail
  obtain ⟨w2,e9,hA,hB,hb⟩:=t1f w (.cells #[.slice q9 a.args.length qa,.bool a.fails,.int .i64 a.res.kind,.int .i64 a.res.num,.string a.res.text,.slice q1 a.res.kids.length q2,.slice q3 a.res.keys.length q4,.slice q5 a.res.ents.length q6,.slice q7 a.res.labels.length q8] 55) (.cells #[.slice r9 b.args.length ra,.bool b.fails,.int .i64 b.res.kind,.int .i64 b.res.num,.string b.res.text,.slice r1 b.res.kids.length r2,.slice r3 b.res.keys.length r4,.slice r5 b.res.ents.length r6,.slice r7 b.res.labels.length r8] 55)
  rw [e9]
  have hlA:=t0a hA
  have hlB:=t0a hB
  have HbA:=zH hA;have HbB:=zH hB;have Hb:=zH hb
  obtain ⟨⟨f0,f1,f2,f3⟩,⟨f4,f5,f6,f7⟩,f8⟩:=t1k hA
  obtain ⟨⟨g0,g1,g2,g3⟩,⟨g4,g5,g6,g7⟩,g8⟩:=t1k hB
  clear e9 hA hB hb
  go_upto_region 2 with (go_at_call 100;refine (tb8 a.args b.args w2 _ _ (HVa.out.below Hb.out) (HVb.out.below Hb.out) Hcv.out).mono ?_;rintro e x0 ⟨rfl,q⟩;have Hc0:=zH (Hb.out.step q);have Hd0:=zH (q);clear q)
  by_cases z0 : cmpL cmpV a.args b.args = 0
  rotate_left
  · have Heq2:=zH (show cmpE a b = cmpL cmpV a.args b.args by rw [Heq.out,nz_a z0])
    have d1 : (cmpL cmpV a.args b.args != 0) = true:=by simpa using z0
    have d2 : (cmpL cmpV a.args b.args == 0) = false:=by simpa using z0
    clear z0
    generalize cmpL cmpV a.args b.args = c at *
    go_wp2
    go_ret
    rw [Heq2.out]
    exact ⟨rfl,Hc0.out⟩
  have d0' : (cmpL cmpV a.args b.args != 0) = false:=by simpa using z0
  have d0'' : (cmpL cmpV a.args b.args == 0) = true:=by simpa using z0
  clear f0 f1 f2 f3 f4 f5 f6 f7 f8 g0 g1 g2 g3 g4 g5 g6 g7 g8
  obtain ⟨⟨f0,f1,f2,f3⟩,⟨f4,f5,f6,f7⟩,f8⟩:=t1k ((Hd0.out.block _ hlA).trans HbA.out)
  obtain ⟨⟨g0,g1,g2,g3⟩,⟨g4,g5,g6,g7⟩,g8⟩:=t1k ((Hd0.out.block _ hlB).trans HbB.out)
  have Heq1:=zH (show cmpE a b = nz (if a.fails = b.fails then 0 else if a.fails = true then -1 else 1) (cmpV a.res b.res) by rw [Heq.out,nz_b z0])
  clear z0
  have HbA0:=zH ((Hd0.out.block _ hlA).trans HbA.out)
  cases hfa : a.fails <;> cases hfb : b.fails <;> rw [hfa] at f1 <;> rw [hfb] at g1
  · have Heq2:=zH (show cmpE a b = cmpV a.res b.res by rw [Heq1.out,hfa,hfb];exact nz_b rfl)
    clear hfa hfb
    go_wp2_with (go_at_call 70;refine (Hcr.out x0 _ _ ⟨d,_,rfl,HRa.out.below Hc0.out⟩ ⟨d',_,rfl,HRb.out.below Hc0.out⟩).mono ?_;rintro e x1 ⟨rfl,q⟩;have Hc1:=zH (Hc0.out.step q);clear q)
    go_ret
    rw [Heq2.out]
    exact ⟨rfl,Hc1.out⟩
  · have Heq2:=zH (show cmpE a b = 1 by rw [Heq1.out,hfa,hfb];exact nz_a (by decide))
    clear hfa hfb
    go_wp2
    go_ret
    rw [Heq2.out]
    exact ⟨rfl,Hc0.out⟩
  · have Heq2:=zH (show cmpE a b = -1 by rw [Heq1.out,hfa,hfb];exact nz_a (by decide))
    clear hfa hfb
    go_wp2
    go_ret
    rw [Heq2.out]
    exact ⟨rfl,Hc0.out⟩
  · have Heq2:=zH (show cmpE a b = cmpV a.res b.res by rw [Heq1.out,hfa,hfb];exact nz_b rfl)
    clear hfa hfb
    go_wp2_with (go_at_call 70;refine (Hcr.out x0 _ _ ⟨d,_,rfl,HRa.out.below Hc0.out⟩ ⟨d',_,rfl,HRb.out.below Hc0.out⟩).mono ?_;rintro e x1 ⟨rfl,q⟩;have Hc1:=zH (Hc0.out.step q);clear q)
    go_ret
    rw [Heq2.out]
    exact ⟨rfl,Hc1.out⟩
end Go.Proofs.YtjgldaaofdpcgaaGreat
