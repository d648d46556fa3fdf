/- Walks and plain facts for the laws of membership, for all values and types that the heap holds (texts L4 W1 S1 S2 V4). -/
import Derived.Test.YtjgldaaofdpcgaaGreatW03
import Derived.Test.YtjgldaaofdpcgaaGreatW05
import Derived.Test.YtjgldaaofdpcgaaGreatW08
import Derived.Test.YtjgldaaofdpcgaaGreatW15
import Derived.Test.YtjgldaaofdpcgaaGreatW17
set_option linter.unusedVariables false
set_option linter.unusedSimpArgs false
namespace Go.Proofs.YtjgldaaofdpcgaaGreat
open Go.RowKit Go.Ident
set_option maxRecDepth 100000
theorem tak {α : Type} (f : α → Nat) {l : List α} {k : Nat} (h : k < l.length) : ((l.take (k + 1)).map f).sum = ((l.take k).map f).sum + f l[k]:=by
  rw [List.take_succ_eq_append_getElem h,List.map_append,List.sum_append_nat];rfl
theorem tdr {α : Type} (f : α → Nat) (l : List α) (k : Nat) : ((l.take k).map f).sum ≤ (l.map f).sum:=by
  have h : (l.map f).sum = ((l.take k).map f).sum + ((l.drop k).map f).sum:=by
    rw [← List.sum_append_nat,← List.map_append,List.take_append_drop]
  omega
set_option maxHeartbeats 32000000 in
theorem t8l (a : VV) : ∀ (w : World) (u : Value),VW w u a → a.nodes ≤ 1048576 → Calls Tryz.prog 9 #[u] w (IR a.nodes w):=by
  induction hht : a.ht using Nat.strongRecOn generalizing a with
  | ind t ih =>
  intro w u hu hn
  have Hih:=zH (show ∀ x : VV,x.ht < a.ht → x.nodes ≤ 1048576 → ∀ (w : World) (u : Value),VW w u x → Calls Tryz.prog 9 #[u] w (IR x.nodes w) from fun x hx hb w u hu=>ih x.ht (by omega) x rfl w u hu hb)
  clear ih hht
  obtain ⟨_,q1,q2,q3,q4,q5,q6,q7,q8,rfl,-,hk,-,he,-⟩:=hu.ex
  have hLk : a.kids.length ≤ 9223372036854775807:=by obtain ⟨_,_,_,_,h⟩:=hk;exact h.big
  have hLe : a.ents.length ≤ 9223372036854775807:=by obtain ⟨_,_,_,_,h⟩:=he;exact h.big
  have HK:=zH hk;have HE:=zH he
  have hnn : a.nodes = 1 + ((a.kids.map VV.nodes).sum + (a.ents.map EE.nodes).sum):=by
    cases a with | mk k n t kids keys ents labels=>rw [VV.nodes,t2b,t5l];rfl
  have Hkb:=zH (fun k=>tdr VV.nodes a.kids k)
  have Heb:=zH (fun k=>tdr EE.nodes a.ents k)
  have Hnn:=zH hnn;have Hn:=zH hn
  clear hu hk he hnn hn
  go_enter Tryz.func9,Tryz.ntmps9
  go_upto_region 1 with fail
  have hA:=heap_alloc_new w (.cells #[.int .i64 a.kind,.int .i64 a.num,.string a.text,.slice q1 a.kids.length q2,.slice q3 a.keys.length q4,.slice q5 a.ents.length q6,.slice q7 a.labels.length q8] 28)
  have hb : Below w.heap.size w (w.alloc (.cells #[.int .i64 a.kind,.int .i64 a.num,.string a.text,.slice q1 a.kids.length q2,.slice q3 a.keys.length q4,.slice q5 a.ents.length q6,.slice q7 a.labels.length q8] 28)):=(Below.refl _ _).alloc (Nat.le_refl _) _
  generalize w.alloc (.cells #[.int .i64 a.kind,.int .i64 a.num,.string a.text,.slice q1 a.kids.length q2,.slice q3 a.keys.length q4,.slice q5 a.ents.length q6,.slice q7 a.labels.length q8] 28) = w2 at *
  have Hb:=zH hb
  have HA:=zH hA
  have hlA:=t0a hA
  clear hA hb
  go_wp2
  go_loopw [4,3] (fun i n wr=>∃ k : Nat,i = .int .i64 k ∧ k ≤ a.kids.length ∧ n = .int .i64 (1 + ((a.kids.take k).map VV.nodes).sum : Nat) ∧ Below w2.heap.size w2 wr) (fun i _ _=>a.kids.length - (intOf i).toNat)
  case atStart=>exact ⟨0,rfl,by omega,by simp,Below.refl _ _⟩
  case round =>
    obtain ⟨k,rfl,hk,rfl,hb⟩:=hrel
    have Hbr:=zH hb;have Hbw:=zH (Hb.out.step hb);clear hb
    obtain ⟨⟨f0,f1,f2,f3⟩,f4,f5,f6⟩:=t0f ((Hbr.out.block _ hlA).trans HA.out)
    by_cases hlt : k < a.kids.length
    · obtain ⟨d',p',c',e9,hr⟩:=HK.out.below Hbw.out
      injection e9 with e1 _ e3
      subst e1 e3
      obtain ⟨ak,ok,cs,rfl,hab,-,hrg,hVS⟩:=hr.at hlt
      have HVS:=zH hVS
      obtain ⟨r1,r2,r3,r4,r5,r6,r7,r8,rfl⟩:=hVS.seven
      have z0:=hrg 0 _ rfl
      have z1:=hrg 1 _ rfl
      have z2:=hrg 2 _ rfl
      have z3:=hrg 3 _ rfl
      have z4:=hrg 4 _ rfl
      have z5:=hrg 5 _ rfl
      have z6:=hrg 6 _ rfl
      rw [Nat.add_zero] at z0
      clear hr hrg hVS
      have hS:=tak VV.nodes hlt
      have hle : ((a.kids.take k).map VV.nodes).sum + a.kids[k].nodes ≤ 1048575:=by have h1:=Hkb.out (k + 1);have h2:=Hnn.out;have h3:=Hn.out;omega
      have Hv:=zH (Hih.out _ (t3z (List.getElem_mem hlt)) (by omega) wr _ ⟨_,_,rfl,HVS.out⟩)
      have HS:=zH hS
      clear hS
      generalize a.kids[k] = x at *
      generalize ((a.kids.take k).map VV.nodes).sum = S at *
      go_wp2_with (go_at_call 9;refine Hv.out.mono ?_;rintro e w6 ⟨rfl,q⟩;have Hb6:=zH (Hbr.out.step q);clear q)
      exact ⟨⟨k + 1,by go_num,by omega,by rw [HS.out];go_num,Hb6.out⟩,by simp [intOf];omega⟩
    · obtain rfl : k = a.kids.length:=by omega
      rw [List.take_length]
      obtain ⟨wq,hwq⟩ : ∃ wq : World,wq = wr:=⟨_,rfl⟩
      subst hwq
      have hk1 : (a.kids.map VV.nodes).sum + (a.ents.map EE.nodes).sum ≤ 1048575:=by have h2:=Hnn.out;have h3:=Hn.out;omega
      clear Hkb
      generalize (a.kids.map VV.nodes).sum = T at *
      go_wp2
      clear f0 f1 f2 f3 f4 f5 f6
      have Hbwq:=zH Hbw.out;have Hbqq:=zH Hbr.out
      clear Hbw Hbr
      go_loopw [5,3] (fun i n wr=>∃ k : Nat,i = .int .i64 k ∧ k ≤ a.ents.length ∧ n = .int .i64 (1 + T + ((a.ents.take k).map EE.nodes).sum : Nat) ∧ Below wq.heap.size wq wr) (fun i _ _=>a.ents.length - (intOf i).toNat)
      case atStart=>exact ⟨0,rfl,by omega,by simp,Below.refl _ _⟩
      case round =>
        obtain ⟨k,rfl,hk,rfl,hb⟩:=hrel
        have Hbr:=zH hb;have Hbw:=zH (Hbwq.out.step hb);have Hbq:=zH (Hbqq.out.step hb);clear hb
        obtain ⟨⟨f0,f1,f2,f3⟩,f4,f5,f6⟩:=t0f ((Hbq.out.block _ hlA).trans HA.out)
        by_cases hlt : k < a.ents.length
        · obtain ⟨d',p',c',e9,hr⟩:=HE.out.below Hbw.out
          injection e9 with e1 _ e3
          subst e1 e3
          obtain ⟨ak,ok,cs,rfl,hab,-,hrg,hES⟩:=hr.at hlt
          obtain ⟨r9,ra,rs,e9,hargs,hres⟩:=hES
          obtain ⟨r1,r2,r3,r4,r5,r6,r7,r8,rfl⟩:=hres.seven
          subst e9
          have z0:=hrg 0 _ rfl
          have z1:=hrg 1 _ rfl
          have z2:=hrg 2 _ rfl
          have z3:=hrg 3 _ rfl
          have z4:=hrg 4 _ rfl
          have z5:=hrg 5 _ rfl
          have z6:=hrg 6 _ rfl
          have z7:=hrg 7 _ rfl
          have z8:=hrg 8 _ rfl
          rw [Nat.add_zero] at z0
          have hS:=tak EE.nodes hlt
          have hle : T + ((a.ents.take k).map EE.nodes).sum + a.ents[k].nodes ≤ 1048575:=by have h1:=Heb.out (k + 1);omega
          have Hhe:=zH (t4t (List.getElem_mem hlt))
          have Hargs:=zH hargs;have Hres:=zH hres;have hLa:=hargs.big
          have HS:=zH hS
          clear hr hrg hargs hres hS
          generalize a.ents[k] = x at *
          generalize ((a.ents.take k).map EE.nodes).sum = S at *
          have hxn : x.nodes = (x.args.map VV.nodes).sum + (if x.fails then 0 else x.res.nodes):=by
            cases x with | mk ar f r=>rw [EE.nodes,t2b];rfl
          have Hxn:=zH hxn
          have hle2 : T + S + (x.args.map VV.nodes).sum ≤ 1048575:=by omega
          have Hle:=zH hle
          have Hab:=zH (fun k=>tdr VV.nodes x.args k)
          clear hxn hle
          obtain ⟨wo,hwo⟩ : ∃ wo : World,wo = wr:=⟨_,rfl⟩
          subst hwo
          go_upto_region 10 with fail
          have hnew:=heap_alloc_new wo (.cells #[.slice r9 x.args.length ra,.bool x.fails,.int .i64 x.res.kind,.int .i64 x.res.num,.string x.res.text,.slice r1 x.res.kids.length r2,.slice r3 x.res.keys.length r4,.slice r5 x.res.ents.length r6,.slice r7 x.res.labels.length r8] 55)
          have ho : Below wo.heap.size wo (wo.alloc (.cells #[.slice r9 x.args.length ra,.bool x.fails,.int .i64 x.res.kind,.int .i64 x.res.num,.string x.res.text,.slice r1 x.res.kids.length r2,.slice r3 x.res.keys.length r4,.slice r5 x.res.ents.length r6,.slice r7 x.res.labels.length r8] 55)):=(Below.refl _ _).alloc (Nat.le_refl _) _
          generalize wo.alloc (.cells #[.slice r9 x.args.length ra,.bool x.fails,.int .i64 x.res.kind,.int .i64 x.res.num,.string x.res.text,.slice r1 x.res.kids.length r2,.slice r3 x.res.keys.length r4,.slice r5 x.res.ents.length r6,.slice r7 x.res.labels.length r8] 55) = w5 at *
          have Hb5:=zH (Hbr.out.step ho)
          have Hbo:=zH ho
          have hl5:=t0a hnew
          have Hnew:=zH hnew
          clear f0 f1 f2 f3 f4 f5 f6
          clear z0 z1 z2 z3 z4 z5 z6 z7 z8 hnew ho
          go_wp2
          go_loopw [7,3] (fun i n wr=>∃ j : Nat,i = .int .i64 j ∧ j ≤ x.args.length ∧ n = .int .i64 (1 + T + S + ((x.args.take j).map VV.nodes).sum : Nat) ∧ Below w5.heap.size w5 wr) (fun i _ _=>x.args.length - (intOf i).toNat)
          case atStart=>exact ⟨0,rfl,by omega,by simp,Below.refl _ _⟩
          case round =>
            obtain ⟨j,rfl,hj,rfl,hb⟩:=hrel
            have Hc:=zH (Hb5.out.step hb);have Hco:=zH (Hbo.out.step hb);have Hc5:=zH hb;clear hb
            obtain ⟨⟨g0,g1,g2,g3⟩,⟨g4,g5,g6,g7⟩,g8⟩:=t1k ((Hc5.out.block _ hl5).trans Hnew.out)
            by_cases hlt2 : j < x.args.length
            · obtain ⟨aj,oj,cs,rfl,hab2,-,hrg,hVS⟩:=Hargs.out.all hlt2
              have hrg:=hrg wr Hco.out
              have HVS:=zH (hVS.below Hco.out)
              obtain ⟨s1,s2,s3,s4,s5,s6,s7,s8,rfl⟩:=hVS.seven
              have z0:=hrg 0 _ rfl
              have z1:=hrg 1 _ rfl
              have z2:=hrg 2 _ rfl
              have z3:=hrg 3 _ rfl
              have z4:=hrg 4 _ rfl
              have z5:=hrg 5 _ rfl
              have z6:=hrg 6 _ rfl
              rw [Nat.add_zero] at z0
              clear hrg hVS
              have hS3:=tak VV.nodes hlt2
              have hle3 : T + S + ((x.args.take j).map VV.nodes).sum + x.args[j].nodes ≤ 1048575:=by have:=Hab.out (j + 1);omega
              have HS3:=zH hS3
              have Hv:=zH (Hih.out _ (Nat.lt_of_le_of_lt (t4a (List.getElem_mem hlt2)) Hhe.out) (by omega) wr _ ⟨_,_,rfl,HVS.out⟩)
              clear hS3
              generalize x.args[j] = y at *
              generalize ((x.args.take j).map VV.nodes).sum = R at *
              go_wp2_with (go_at_call 9;refine Hv.out.mono ?_;rintro e w6 ⟨rfl,q⟩;have Hb6:=zH (Hc5.out.step q);clear q)
              exact ⟨⟨j + 1,by go_num,by omega,by rw [HS3.out];go_num,Hb6.out⟩,by simp [intOf];omega⟩
            · obtain rfl : j = x.args.length:=by omega
              rw [List.take_length]
              cases hfl : x.fails with
              | true =>
                rw [hfl] at g1
                have Hx2:=zH (show x.nodes = (x.args.map VV.nodes).sum by rw [Hxn.out,hfl];simp)
                clear hfl
                go_wp2
                exact ⟨⟨k + 1,by go_num,by omega,by rw [HS.out,Hx2.out];go_num,Hc.out⟩,by simp [intOf];omega⟩
              | false =>
                rw [hfl] at g1
                have Hx2:=zH (show x.nodes = (x.args.map VV.nodes).sum + x.res.nodes by rw [Hxn.out,hfl];simp)
                clear hfl
                have hle4 : T + S + (x.args.map VV.nodes).sum + x.res.nodes ≤ 1048575:=by have:=Hle.out;have:=Hx2.out;omega
                have Hv:=zH (Hih.out _ (Nat.lt_of_le_of_lt (t4b x) Hhe.out) (by omega) wr _ ⟨_,_,rfl,Hres.out.below Hco.out⟩)
                go_wp2_with (go_at_call 9;refine Hv.out.mono ?_;rintro e w6 ⟨rfl,q⟩;have Hb6:=zH (Hc.out.step q);clear q)
                exact ⟨⟨k + 1,by go_num,by omega,by rw [HS.out,Hx2.out];go_num,Hb6.out⟩,by simp [intOf];omega⟩
        · obtain rfl : k = a.ents.length:=by omega
          rw [List.take_length]
          go_wp2
          go_ret
          exact ⟨by rw [Hnn.out];simp [Nat.add_assoc],Hbw.out⟩
end Go.Proofs.YtjgldaaofdpcgaaGreat
namespace Go.Proofs.YtjgldaaofdpcgaaGreat
open Go.RowKit Go.Ident
set_option maxRecDepth 100000
def boolK (k : Int) : Bool:=decide (k = 16) || decide (k = 17) || decide (k = 18)
theorem tc8 (n : TN) : n.bool = boolK n.kind:=rfl
theorem tcu (k : Int) (w : World) : Calls Tryz.prog 91 #[.int .i64 k] w (ER (boolK k) w):=by
  by_cases h1 : k = 16
  · subst h1
    go_enter Tryz.func91,Tryz.ntmps91
    go_wp2
    go_ret
    exact ⟨rfl,Below.refl _ _⟩
  have d1 : (k == 16) = false:=by simp [h1]
  by_cases h2 : k = 17
  · subst h2
    go_enter Tryz.func91,Tryz.ntmps91
    go_wp2
    go_ret
    exact ⟨rfl,Below.refl _ _⟩
  have d2 : (k == 17) = false:=by simp [h2]
  have Hr:=zH (show boolK k = (k == 18) by unfold boolK;simp [h1,h2];rw [Bool.eq_iff_iff];simp)
  clear h1 h2
  go_enter Tryz.func91,Tryz.ntmps91
  go_wp2
  go_ret
  rw [Hr.out]
  exact ⟨rfl,Below.refl _ _⟩
theorem tek (n : TN) (w : World) (cs : List Value) (h : NC w n cs) : Calls Tryz.prog 65 #[.agg cs.toArray] w (ER n.bool w):=by
  rw [tc8]
  obtain ⟨p1,c1,p2,c2,rfl,-,-⟩:=h
  have Hr:=zH (show ∀ k : Int,k ≠ 16 → k ≠ 17 → boolK k = (k == 18) from fun k h1 h2=>by unfold boolK;simp [h1,h2];rw [Bool.eq_iff_iff];simp)
  generalize n.kind = k at *
  go_enter Tryz.func65,Tryz.ntmps65
  go_upto_region 1 with fail
  have hA:=heap_alloc_new w (.cells #[.int .i64 k,.int .i64 n.lo,.int .i64 n.hi,.string n.text,.slice p1 n.kids.length c1,.slice p2 n.fields.length c2,.int .i64 n.rest0,.int .i64 n.rest1] 48)
  have hb : Below w.heap.size w (w.alloc (.cells #[.int .i64 k,.int .i64 n.lo,.int .i64 n.hi,.string n.text,.slice p1 n.kids.length c1,.slice p2 n.fields.length c2,.int .i64 n.rest0,.int .i64 n.rest1] 48)):=(Below.refl _ _).alloc (Nat.le_refl _) _
  generalize w.alloc (.cells #[.int .i64 k,.int .i64 n.lo,.int .i64 n.hi,.string n.text,.slice p1 n.kids.length c1,.slice p2 n.fields.length c2,.int .i64 n.rest0,.int .i64 n.rest1] 48) = w2 at *
  have Hb:=zH hb
  obtain ⟨⟨f0,f1,f2,f3⟩,f4,f5,f6,f7⟩:=t0y hA
  clear hA hb
  by_cases h1 : k = 16
  · subst h1
    go_wp2
    go_ret
    exact ⟨rfl,Hb.out⟩
  have d1 : (k == 16) = false:=by simp [h1]
  by_cases h2 : k = 17
  · subst h2
    go_wp2
    go_ret
    exact ⟨rfl,Hb.out⟩
  have d2 : (k == 17) = false:=by simp [h2]
  have Hr2:=zH (Hr.out k h1 h2)
  clear h1 h2
  go_wp2
  go_ret
  rw [Hr2.out]
  exact ⟨rfl,Hb.out⟩
end Go.Proofs.YtjgldaaofdpcgaaGreat
namespace Go.Proofs.YtjgldaaofdpcgaaGreat
open Go.RowKit
set_option maxRecDepth 100000
def NR (S : SD) (n : Int) (w : World) (e : Ending) (w' : World) : Prop:=∃ x : Int,e = .returned (.int .i64 x) ∧ SR S w w' ∧ 0 ≤ x ∧ (1 ≤ n → x < n) ∧ (n < 1 → x = 0)
theorem SR.of_upd {S : SD} {o : Obj} {w w' : World} (h : SRC S w) (hu : Upd S.b o w w') {i : Nat} (ho : o = .cells #[.slice S.p S.L.length S.c,.int .i64 ((i : Nat) : Int)] 39) (hi : i ≤ S.L.length) : SR S w w' :=
  ⟨t3d hu,h,⟨i,hi,by rw [hu.blk,ho]⟩,h.row.below (by rw [t1e];exact t3d hu),h.len⟩
set_option maxHeartbeats 16000000 in
theorem t0z (S : SD) (n : Int) (w : World) (hS : SRC S w) (hn : n ≤ 9223372036854775807) : Calls Tryz.prog 24 #[.pointer (some ⟨S.b,0,none⟩),.int .i64 n] w (NR S n w):=by
  have HS:=zH hS
  have hL:=hS.len
  obtain ⟨⟨i,hi,hb⟩,hI,-⟩:=hS
  have HB:=zH hb
  obtain ⟨s0,s1⟩:=t0k hb
  by_cases h1 : n < 1
  · have d1 : decide (n < 1) = true:=by simp [h1]
    clear hb hI
    go_enter Tryz.func24,Tryz.ntmps24
    go_wp2_with (first
      | (with_reducible refine rg ?_)
      | (with_reducible refine fo ?_))
    go_ret
    exact ⟨0,rfl,SR.of_upd HS.out (Upd.refl HB.out).drew rfl hi,by omega,fun h=>by omega,fun _=>rfl⟩
  have d1 : decide (n < 1) = false:=by simp;omega
  by_cases h2 : i < S.L.length
  rotate_left
  · have d2 : decide (S.L.length ≤ i) = true:=by simp;omega
    clear hb hI
    go_enter Tryz.func24,Tryz.ntmps24
    go_wp2_with (first
      | (with_reducible refine rg ?_)
      | (with_reducible refine fo ?_))
    go_ret
    exact ⟨0,rfl,SR.of_upd HS.out (Upd.refl HB.out).drew rfl hi,by omega,fun h=>by omega,fun _=>rfl⟩
  have d2 : decide (S.L.length ≤ i) = false:=by simp;omega
  have d3 : decide (i < S.L.length) = true:=by simp;omega
  have hi2 : (i : Int) < (S.L.length : Int):=by omega
  have d4 : (n == 0) = false:=by rw [Bool.eq_false_iff];intro g;rw [beq_iff_eq] at g;omega
  have d5 : n ≠ 0:=by omega
  have d6 : (n == -1) = false:=by rw [Bool.eq_false_iff];intro g;rw [beq_iff_eq] at g;omega
  obtain ⟨-,a,o,hp,hab,zk⟩:=hI.at h2
  have hp : S.p = some ⟨a,o,none⟩:=hp
  have zk:=t0l zk
  have hf : w.frozen? ⟨S.b,1,none⟩ = false:=by simp [World.frozen?,HB.out]
  have hm1:=Int.tmod_lt_of_pos S.L[i] (show 0 < n by omega)
  have hm2:=Int.lt_tmod_of_pos S.L[i] (show 0 < n by omega)
  generalize S.L[i] = x at *
  clear hb hI
  go_enter Tryz.func24,Tryz.ntmps24
  go_upto_region 4 with (first
    | (with_reducible refine rg ?_)
    | (with_reducible refine fo ?_))

  generalize x.tmod n = r at *
  have HU:=zH (show Upd S.b (.cells #[.slice S.p S.L.length S.c,.int .i64 ((i + 1 : Nat) : Int)] 39) w (w.drew.drew.setCell ⟨S.b,1,none⟩ (.int .i64 ((i : Int) + 1))) from Upd.cast (((Upd.refl HB.out).drew.drew).set (i:=1) (v:=.int .i64 ((i : Int) + 1))) (by simp))
  have HR:=zH (fun w' (hu : Upd S.b (.cells #[.slice S.p S.L.length S.c,.int .i64 ((i + 1 : Nat) : Int)] 39) w w')=>SR.of_upd HS.out hu rfl (by omega))
  by_cases hr : r < 0
  · have e1 : decide (r < 0) = true:=by simp [hr]
    go_wp2
    go_ret
    exact ⟨r + n,by first | rfl | (congr 2;go_num),HR.out _ HU.out,by omega,fun _=>by omega,fun h=>by omega⟩
  · have e1 : decide (r < 0) = false:=by simp;omega
    go_wp2
    go_ret
    exact ⟨r,rfl,HR.out _ HU.out,by omega,fun _=>by omega,fun h=>by omega⟩
end Go.Proofs.YtjgldaaofdpcgaaGreat
namespace Go.Proofs.YtjgldaaofdpcgaaGreat
open Go.RowKit Go.Ident
set_option maxRecDepth 100000
theorem t1z {w : World} {b m : Nat} {arr : Array Value} {e : TypeId} {fr : Nat × Nat} {v : Value} (h : w.heap[b]? = some (.cells arr e fr)) (hv : arr[m]? = some v) : w.cell? ⟨b,m,none⟩ = some v:=by simp [World.cell?,h,hv]
theorem SR.row {S : SD} {w w3 : World} (h : SR S w w3) {bx : Nat} (hb : w.heap.size ≤ bx) (hn : bx ≠ S.b) (cs : Array Value) : SR S w (w3.setRow bx cs) :=
  h.own (t1c (Below.refl _ _) hb) (setRow_other _ _ _ _ (Ne.symm hn))
def GR (P : ByteArray → Prop) (S : SD) (w : World) (e : Ending) (w' : World) : Prop:=∃ s,e = .returned (.string s) ∧ SR S w w' ∧ P s
set_option maxHeartbeats 16000000 in
theorem t5n (S : SD) (w : World) (hS : SRC S w) : Calls Tryz.prog 71 #[.pointer (some ⟨S.b,0,none⟩)] w (GR (fun s=>isAtm s.data.toList = true) S w):=by
  have HS:=zH hS
  have Hb:=zH (show w.heap.size ≠ S.b by have:=hS.lt;omega)
  have Ha:=zH (SR.alloc hS (.cells #[.string ⟨#[97]⟩,.string ⟨#[98]⟩,.string ⟨#[111,107]⟩,.string ⟨#[101,114,114,111,114]⟩] 9))
  have Hn:=zH (heap_alloc_new w (.cells #[.string ⟨#[97]⟩,.string ⟨#[98]⟩,.string ⟨#[111,107]⟩,.string ⟨#[101,114,114,111,114]⟩] 9))
  clear hS
  go_enter Tryz.func71,Tryz.ntmps71
  go_wp2_with (go_at_call 24;refine (t0z S 4 _ Ha.out.src (by omega)).mono ?_;rintro e w6 ⟨x,rfl,hs,h0,h1,-⟩;have h1:=h1 (by decide);have zn:=(hs.block (k:=w.heap.size) (by simp) Hb.out).trans Hn.out;have Hs:=zH (Ha.out.trans hs);have q0:=t1z zn (m:=0) rfl;have q1:=t1z zn (m:=1) rfl;have q2:=t1z zn (m:=2) rfl;have q3:=t1z zn (m:=3) rfl;clear zn hs;rcases (show x = 0 ∨ x = 1 ∨ x = 2 ∨ x = 3 by omega) with rfl | rfl | rfl | rfl)
  all_goals
    go_ret
    exact ⟨_,rfl,Hs.out,by decide +kernel⟩
set_option maxHeartbeats 16000000 in
theorem t8m (S : SD) (w : World) (hS : SRC S w) : Calls Tryz.prog 72 #[.pointer (some ⟨S.b,0,none⟩)] w (GR (fun s=>s.size ≤ 64) S w):=by
  have HS:=zH hS
  have Hb:=zH (show w.heap.size ≠ S.b by have:=hS.lt;omega)
  have Ha:=zH (SR.alloc hS (.cells #[.string ⟨#[]⟩,.string ⟨#[115]⟩,.string ⟨#[120,32,121]⟩,.string ⟨#[97]⟩] 9))
  have Hn:=zH (heap_alloc_new w (.cells #[.string ⟨#[]⟩,.string ⟨#[115]⟩,.string ⟨#[120,32,121]⟩,.string ⟨#[97]⟩] 9))
  clear hS
  go_enter Tryz.func72,Tryz.ntmps72
  go_wp2_with (go_at_call 24;refine (t0z S 4 _ Ha.out.src (by omega)).mono ?_;rintro e w6 ⟨x,rfl,hs,h0,h1,-⟩;have h1:=h1 (by decide);have zn:=(hs.block (k:=w.heap.size) (by simp) Hb.out).trans Hn.out;have Hs:=zH (Ha.out.trans hs);have q0:=t1z zn (m:=0) rfl;have q1:=t1z zn (m:=1) rfl;have q2:=t1z zn (m:=2) rfl;have q3:=t1z zn (m:=3) rfl;clear zn hs;rcases (show x = 0 ∨ x = 1 ∨ x = 2 ∨ x = 3 by omega) with rfl | rfl | rfl | rfl)
  all_goals
    go_ret
    exact ⟨_,rfl,Hs.out,by decide +kernel⟩
set_option maxHeartbeats 16000000 in
theorem t9h (S : SD) (w : World) (hS : SRC S w) : Calls Tryz.prog 48 #[.pointer (some ⟨S.b,0,none⟩)] w (GR (fun s=>isVrb s.data.toList = true) S w):=by
  have HS:=zH hS
  have Hb:=zH (show w.heap.size ≠ S.b by have:=hS.lt;omega)
  have Ha:=zH (SR.alloc hS (.cells #[.string ⟨#[65]⟩,.string ⟨#[66]⟩,.string ⟨#[67]⟩] 9))
  have Hn:=zH (heap_alloc_new w (.cells #[.string ⟨#[65]⟩,.string ⟨#[66]⟩,.string ⟨#[67]⟩] 9))
  clear hS
  go_enter Tryz.func48,Tryz.ntmps48
  go_wp2_with (go_at_call 24;refine (t0z S 3 _ Ha.out.src (by omega)).mono ?_;rintro e w6 ⟨x,rfl,hs,h0,h1,-⟩;have h1:=h1 (by decide);have zn:=(hs.block (k:=w.heap.size) (by simp) Hb.out).trans Hn.out;have Hs:=zH (Ha.out.trans hs);have q0:=t1z zn (m:=0) rfl;have q1:=t1z zn (m:=1) rfl;have q2:=t1z zn (m:=2) rfl;clear zn hs;rcases (show x = 0 ∨ x = 1 ∨ x = 2 by omega) with rfl | rfl | rfl)
  all_goals
    go_ret
    exact ⟨_,rfl,Hs.out,by decide +kernel⟩
set_option maxHeartbeats 16000000 in
theorem tfr (S : SD) (w : World) (hS : SRC S w) : Calls Tryz.prog 80 #[.pointer (some ⟨S.b,0,none⟩)] w (fun e w'=>∃ x : Int,e = .returned (.int .i64 x) ∧ SR S w w'):=by
  have HS:=zH hS
  have Hb:=zH (show w.heap.size ≠ S.b by have:=hS.lt;omega)
  have Ha:=zH (SR.alloc hS (.cells #[.int .i64 0,.int .i64 1,.int .i64 (-1),.int .i64 2,.int .i64 3,.int .i64 (-2),.int .i64 7,.int .i64 (-9223372036854775808),.int .i64 9223372036854775807,.int .i64 10] 2))
  have Hn:=zH (heap_alloc_new w (.cells #[.int .i64 0,.int .i64 1,.int .i64 (-1),.int .i64 2,.int .i64 3,.int .i64 (-2),.int .i64 7,.int .i64 (-9223372036854775808),.int .i64 9223372036854775807,.int .i64 10] 2))
  clear hS
  go_enter Tryz.func80,Tryz.ntmps80
  go_wp2_with (go_at_call 24;refine (t0z S 10 _ Ha.out.src (by omega)).mono ?_;rintro e w6 ⟨x,rfl,hs,h0,h1,-⟩;have h1:=h1 (by decide);have zn:=(hs.block (k:=w.heap.size) (by simp) Hb.out).trans Hn.out;have Hs:=zH (Ha.out.trans hs);have q0:=t1z zn (m:=0) rfl;have q1:=t1z zn (m:=1) rfl;have q2:=t1z zn (m:=2) rfl;have q3:=t1z zn (m:=3) rfl;have q4:=t1z zn (m:=4) rfl;have q5:=t1z zn (m:=5) rfl;have q6:=t1z zn (m:=6) rfl;have q7:=t1z zn (m:=7) rfl;have q8:=t1z zn (m:=8) rfl;have q9:=t1z zn (m:=9) rfl;clear zn hs;rcases (show x = 0 ∨ x = 1 ∨ x = 2 ∨ x = 3 ∨ x = 4 ∨ x = 5 ∨ x = 6 ∨ x = 7 ∨ x = 8 ∨ x = 9 by omega) with rfl | rfl | rfl | rfl | rfl | rfl | rfl | rfl | rfl | rfl)
  all_goals
    go_ret
    exact ⟨_,rfl,Hs.out⟩
set_option maxHeartbeats 16000000 in
theorem thx (S : SD) (w : World) (hS : SRC S w) : Calls Tryz.prog 45 #[.pointer (some ⟨S.b,0,none⟩)] w (fun e w'=>∃ k : KK,e = .returned (.agg #[.int .i64 k.kind,.string k.text]) ∧ SR S w w'):=by
  have HS:=zH hS
  have Hb:=zH (show w.heap.size ≠ S.b by have:=hS.lt;omega)
  have Ha:=zH (SR.alloc hS (.cells #[.int .i64 0,.string ⟨#[]⟩] 73))
  have Hn:=zH (heap_alloc_new w (.cells #[.int .i64 0,.string ⟨#[]⟩] 73))
  have hlt : w.heap.size < (w.alloc (.cells #[.int .i64 0,.string ⟨#[]⟩] 73)).heap.size:=by simp
  go_enter Tryz.func45,Tryz.ntmps45
  go_upto_region 1 with fail
  generalize w.alloc (.cells #[.int .i64 0,.string ⟨#[]⟩] 73) = w1 at *
  go_upto_region 2 with (go_at_call 24;refine (t0z S 2 w1 Ha.out.src (by omega)).mono ?_;rintro e w2 ⟨x,rfl,hs,h0,h1,-⟩;have h1:=h1 (by decide);have H2:=zH (Ha.out.trans hs);have Z2:=zH ((hs.block hlt Hb.out).trans Hn.out);clear hs;rcases (show x = 0 ∨ x = 1 by omega) with rfl | rfl)
  · go_wp2_with (first
      | (go_at_call 71;refine (t5n S w2 H2.out.src).mono ?_;rintro e w3 ⟨s,rfl,hs,-⟩;have H3:=zH (H2.out.trans hs);have Z3:=zH ((hs.block (t0a Z2.out) Hb.out).trans Z2.out);clear hs)
      | (with_reducible refine wpList_store_row rfl 73 (.tmp 2) (.tmp 8) rfl _ _ rfl rfl _ _ Z3.out (by kernel_rfl) (by kernel_rfl) (by kernel_rfl) ?_))
    refine bodyPost_ret (results_cell_row rfl _ _ w.heap.size 73 _ (0,0) _ rfl (setRow_heap _ _ _ _ _ _ Z3.out) rfl rfl (by kernel_rfl)) rfl ?_
    exact ⟨⟨0,s⟩,rfl,H3.out.row (Nat.le_refl _) Hb.out _⟩
  · go_wp2_with (first
      | (go_at_call 72;refine (t8m S w2 H2.out.src).mono ?_;rintro e w3 ⟨s,rfl,hs,-⟩;have H3:=zH (H2.out.trans hs);have Z3:=zH ((hs.block (t0a Z2.out) Hb.out).trans Z2.out);clear hs)
      | (with_reducible refine wpList_store_row rfl 73 (.tmp 2) (.tmp 11) rfl _ _ rfl rfl _ _ Z3.out (by kernel_rfl) (by kernel_rfl) (by kernel_rfl) ?_))
    refine bodyPost_ret (results_cell_row rfl _ _ w.heap.size 73 _ (0,0) _ rfl (setRow_heap _ _ _ _ _ _ Z3.out) rfl rfl (by kernel_rfl)) rfl ?_
    exact ⟨⟨1,s⟩,rfl,H3.out.row (Nat.le_refl _) Hb.out _⟩
end Go.Proofs.YtjgldaaofdpcgaaGreat
namespace Go.Proofs.YtjgldaaofdpcgaaGreat
open Go.Ident

def insE (x : EE) : List EE → List EE
  | []=>[x]
  | y :: r=>if cmpE y x < 0 then y :: insE x r else if cmpE y x = 0 then y :: r else x :: y :: r
def entsE (l : List EE) : List EE:=l.foldl (fun out x=>insE x out) []
end Go.Proofs.YtjgldaaofdpcgaaGreat
