/- Walks and plain facts for the laws of membership, for all values and types that the heap holds (texts X9). -/
import Derived.Test.YtjgldaaofdpcgaaGreatX03
import Derived.Test.YtjgldaaofdpcgaaGreatX29
set_option linter.unusedVariables false
set_option linter.unusedSimpArgs false
namespace Go.Proofs.YtjgldaaofdpcgaaGreat
open Go.RowKit Go.Ident
set_option maxRecDepth 100000
structure DX (w : World) (T : Ty) (bd bt : Nat) (g : Nat → Bool) : Prop where
  a : MB w bd T.nodes.length g
  t : BT (wo bd w) bt T
theorem DX.turn {w w' : World} {T : Ty} {bd bt : Nat} {g g' : Nat → Bool} (h : DX w T bd bt g) (hb : Below w.heap.size (wo bd w) (wo bd w')) (ha : MB w' bd T.nodes.length g') : DX w' T bd bt g' :=
  ⟨ha,h.t.below (by rw [t1e];exact hb)⟩
theorem DX.below {w w' : World} {T : Ty} {bd bt : Nat} {g : Nat → Bool} (h : DX w T bd bt g) (hb : Below w.heap.size w w') : DX w' T bd bt g:=h.turn (t2n hb) (h.a.below hb)
theorem DX.node {w : World} {T : Ty} {bd bt : Nat} {g : Nat → Bool} (h : DX w T bd bt g) {i : Nat} (hi : i < T.nodes.length) :
    ∃ p c a o p1 c1 p2 c2,p = some ⟨a,o,none⟩ ∧ w.heap[bt]? = some (.cells #[.slice p T.nodes.length c,.int .i64 T.root] 31) ∧
      w.rangeAt a (o + i * 8) [.int .i64 T.nodes[i].kind,.int .i64 T.nodes[i].lo,.int .i64 T.nodes[i].hi,.string T.nodes[i].text,.slice p1 T.nodes[i].kids.length c1,.slice p2 T.nodes[i].fields.length c2,.int .i64 T.nodes[i].rest0,.int .i64 T.nodes[i].rest1] ∧
      NC (wo bd w) T.nodes[i] [.int .i64 T.nodes[i].kind,.int .i64 T.nodes[i].lo,.int .i64 T.nodes[i].hi,.string T.nodes[i].text,.slice p1 T.nodes[i].kids.length c1,.slice p2 T.nodes[i].fields.length c2,.int .i64 T.nodes[i].rest0,.int .i64 T.nodes[i].rest1] ∧
      IS (wo bd w) (.slice p1 T.nodes[i].kids.length c1) T.nodes[i].kids ∧ T.nodes[i].kids.length ≤ 9223372036854775807:=by
  obtain ⟨s0,s1,h1,p,c,e,h2,h3⟩:=h.t
  obtain ⟨hn,h4⟩:=wo_ne h1 (by simp)
  injection e with e
  simp at e
  obtain ⟨rfl,rfl⟩:=e
  obtain ⟨a,o,cs,hp,-,-,hr,hN⟩:=h2.at hi
  have hN':=hN
  obtain ⟨p1,c1,p2,c2,rfl,h5,-⟩:=hN
  exact ⟨p,c,a,o,p1,c1,p2,c2,hp,h4,fun j v hv=>t0l (hr j v hv),hN',h5,h3 _ (List.getElem_mem hi)⟩
theorem ti1 {T : Ty} {g : Nat → Bool} {i : Nat} (hi : i < T.nodes.length) : okR T g i = (!T.nodes[i].bool || T.nodes[i].kids.all fun k=>g k.toNat):=by unfold okR;rw [T.node_at hi]
theorem t6y {T : Ty} {g : Nat → Bool} {i : Nat} {x : Bool} (h : (g i || okR T g i) = x) : stepR T g i = fun m=>if m = i then x else g m:=by
  subst h;rfl
theorem tdr {L : List Int} {g : Nat → Bool} {m : Nat} (h : m < L.length) : (L.take (m + 1)).all (fun k=>g k.toNat) = ((L.take m).all (fun k=>g k.toNat) && g L[m].toNat):=by
  rw [List.take_succ_eq_append_getElem h,List.all_append];simp
open Classical in
set_option maxHeartbeats 32000000 in
theorem ti2 (T : Ty) (w : World) (t : Value) (ht : TS w t T) (hs : SzT T)
    (hnode : ∀ n ∈ T.nodes,∀ (w' : World) (cs : List Value),TS w' t T → NC w' n cs → Calls Tryz.prog 64 #[t,.agg cs.toArray] w' (ER (nodeT T n) w')) : Calls Tryz.prog 32 #[t] w (WR T w):=by
  have HS:=zH hs
  have HT:=zH ht
  have HN:=zH hnode
  obtain ⟨pt,ct,rfl,hrow,-⟩:=ht
  have HR:=zH hrow
  have hL:=hrow.big
  have hlen : T.nodes.length ≤ 100000:=hs.len
  obtain ⟨ib,hi,hz,hz1,hz2⟩:=info_parts tgp
  have Hi:=zH hi;have Hz:=zH hz;have Hz1:=zH hz1;have Hz2:=zH hz2
  clear hs hrow hnode hi hz hz1 hz2
  go_enter Tryz.func32,Tryz.ntmps32
  go_upto_region 1 with fail
  have hA:=heap_alloc_new w (.cells #[.slice pt T.nodes.length ct,.int .i64 T.root] 31)
  have hb : Below w.heap.size w (w.alloc (.cells #[.slice pt T.nodes.length ct,.int .i64 T.root] 31)):=(Below.refl _ _).alloc (Nat.le_refl _) _
  generalize w.alloc (.cells #[.slice pt T.nodes.length ct,.int .i64 T.root] 31) = w1 at *
  obtain ⟨t0,t1⟩:=t0k hA
  have hlA:=t0a hA
  have HA:=zH hA;have Hb:=zH hb
  have Hix:=zH (t3n T T.root w1 _ (HT.out.below hb))
  clear hA hb
  cases hr : T.has T.root with
  | false =>
    have Hno:=zH (show ¬ WfT T from fun g=>by have:=g.root;rw [hr] at this;cases this)
    rw [hr] at Hix
    clear hr
    go_wp2_with (go_at_call 33;refine Hix.out.mono ?_;rintro e w6 ⟨rfl,hb6⟩;have Hb6:=zH (Hb.out.step hb6);clear hb6)
    go_ret
    exact ⟨1,rfl,⟨fun h=>absurd h (by decide),fun h=>absurd h Hno.out⟩,Hb6.out⟩
  | true =>
  have Hroot:=zH hr
  rw [hr] at Hix
  clear hr
  go_wp2_with (go_at_call 33;refine Hix.out.mono ?_;rintro e w6 ⟨rfl,hb6⟩;have Hb6:=zH hb6;have tA:=(hb6.block _ hlA).trans HA.out;clear hb6 t0 t1;obtain ⟨t0,t1⟩:=t0k tA;clear tA)
  go_loopw [3] (fun i wr=>∃ k : Nat,i = .int .i64 k ∧ k ≤ T.nodes.length ∧ (∀ j (h : j < T.nodes.length),j < k → nodeT T T.nodes[j] = true) ∧ Below w1.heap.size w1 wr) (fun i _=>T.nodes.length - (intOf i).toNat)
  case atStart=>exact ⟨0,rfl,by omega,fun j _ h=>by omega,Hb6.out⟩
  case round =>
    obtain ⟨k,rfl,hk,hall,hbr⟩:=hrel
    have Hall:=zH hall;have Hbr:=zH hbr;have Hbw:=zH (Hb.out.step hbr)
    clear hall hbr t0 t1
    obtain ⟨t0,t1⟩:=t0k ((Hbr.out.block _ hlA).trans HA.out)
    by_cases hlt : k < T.nodes.length
    · have d9 : decide (k < T.nodes.length) = true:=by simp;omega
      obtain ⟨a,o,cs,rfl,hab,-,hrng,hN⟩:=HR.out.all hlt
      have Hcall:=zH (HN.out _ (List.getElem_mem hlt) wr.drew cs (HT.out.below Hbw.out.drew) (hN.below Hbw.out.drew))
      obtain ⟨p1,c1,p2,c2,rfl,-,-⟩:=hN
      have hr:=hrng wr Hbw.out
      have z0:=hr 0 _ rfl
      have z1:=hr 1 _ rfl
      have z2:=hr 2 _ rfl
      have z3:=hr 3 _ rfl
      have z4:=hr 4 _ rfl
      have z5:=hr 5 _ rfl
      have z6:=hr 6 _ rfl
      have z7:=hr 7 _ rfl
      rw [Nat.add_zero] at z0
      have Hno:=zH (tgy hlt)
      have Hnx:=zH (show nodeT T T.nodes[k] = true → ∀ j (h : j < T.nodes.length),j < k + 1 → nodeT T T.nodes[j] = true from fun g j h hj=>by
        rcases Nat.lt_succ_iff_lt_or_eq.1 hj with g2 | rfl
        · exact Hall.out j h g2
        · exact g)
      clear hr hrng Hall
      generalize T.nodes[k] = n at *
      cases hn : nodeT T n with
      | false =>
        have Hno2:=zH (Hno.out hn)
        rw [hn] at Hcall
        clear hn
        go_wp2_with (first
          | (with_reducible refine rg ?_)
          | (with_reducible refine fo ?_)
          | (go_at_call 64;refine Hcall.out.mono ?_;rintro e w6 ⟨rfl,hb6⟩;have Hb6:=zH (Hbw.out.drew.step hb6);clear hb6))
        go_ret
        exact ⟨1,rfl,⟨fun h=>absurd h (by decide),fun h=>absurd h Hno2.out⟩,Hb6.out⟩
      | true =>
        have Hnx2:=zH (Hnx.out hn)
        rw [hn] at Hcall
        clear hn
        go_wp2_with (first
          | (with_reducible refine rg ?_)
          | (with_reducible refine fo ?_)
          | (go_at_call 64;refine Hcall.out.mono ?_;rintro e w6 ⟨rfl,hb6⟩;have Hb6:=zH (Hbr.out.drew.step hb6);clear hb6))
        exact ⟨⟨k + 1,by go_num,by omega,Hnx2.out,Hb6.out⟩,by simp [intOf];omega⟩
    · have d9 : decide (k < T.nodes.length) = false:=by simp;omega
      have Hwf:=zH (wf_of Hroot.out fun i hi=>Hall.out i hi (by omega))
      have HK:=zH (tf1 fun i hi=>Hall.out i hi (by omega))
      clear Hall hlt
      have hA2:=(Below.refl wr.heap.size wr).alloc (Nat.le_refl _) (.cells (madeCells #[.bool false] T.nodes.length) 4)
      have T2:=MB.made wr T.nodes.length
      have HB1:=zH (show BT (wr.alloc (.cells (madeCells #[.bool false] T.nodes.length) 4)) w.heap.size T from ⟨_,_,(hA2.block _ (Nat.lt_of_lt_of_le hlA Hbr.out.size)).trans ((Hbr.out.block _ hlA).trans HA.out),HT.out.below (Hbw.out.step hA2)⟩)
      have Hsz:=zH Hbw.out.size
      have HA2:=zH hA2;have HT2:=zH T2
      clear hA2 T2
      go_upto_region 9 with (at_make;refine wpList_make_row wr rfl (.tmp 32) (.tmp 32) 94 rfl 4 ib (.bool false) (by kernel_rfl) Hi.out Hz.out Hz1.out rfl .i64 .i64 T.nodes.length rfl rfl (by rw [Hz2.out];omega) (by omega) ?_;generalize wr.alloc (.cells (madeCells #[.bool false] T.nodes.length) 4) = w4 at *)
      have HD:=zH (show DX w4 T wr.heap.size w.heap.size (itR T 0) from ⟨HT2.out,by
        obtain ⟨s0,s1,h1,h2⟩:=HB1.out
        have hw:=HA2.out
        have hlt : w.heap.size < wr.heap.size:=Nat.lt_of_lt_of_le hlA Hbr.out.size
        have hwo : Below wr.heap.size w4 (wo wr.heap.size w4):=wo_in (Nat.le_refl _)
        refine ⟨s0,s1,(hwo.block _ hlt).trans h1,?_⟩
        have h3 : TS (wo wr.heap.size w4) (.agg #[.slice pt T.nodes.length ct,.int .i64 T.root]) T:=(HT.out.below Hbw.out).below (hw.trans hwo)
        obtain ⟨g0,g1⟩:=t0k ((hw.block _ hlt).trans ((Hbr.out.block _ hlA).trans HA.out))
        rw [(hw.block _ hlt).trans ((Hbr.out.block _ hlA).trans HA.out)] at h1
        simp at h1
        obtain ⟨rfl,rfl⟩:=h1
        exact h3⟩)
      have Hend:=zH (fun (wz : World) (hb : Below w4.heap.size (wo wr.heap.size w4) (wo wr.heap.size wz))=>(show Below w.heap.size w wz from (Hbw.out.step HA2.out).trans (wo_un hb Hsz.out (Nat.le_trans Hsz.out HA2.out.size))))
      clear HB1 HT2 t0 t1
      generalize wr.heap.size = bd at *
      go_wp2
      go_loopw [5] (fun i wr=>∃ r : Nat,i = .int .i64 r ∧ r ≤ T.nodes.length ∧ DX wr T bd w.heap.size (itR T r) ∧ Below w4.heap.size (wo bd w4) (wo bd wr)) (fun i _=>T.nodes.length - (intOf i).toNat)
      case atStart=>exact ⟨0,rfl,by omega,HD.out,Below.refl _ _⟩
      case round =>
        obtain ⟨r,rfl,hr,hd,hb5⟩:=hrel
        have HD5:=zH hd;have Hb5:=zH hb5
        clear hd hb5
        obtain ⟨s0,s1,tb,p,c,e,-,-⟩:=HD5.out.t
        have tb:=(wo_ne tb (by simp)).2
        injection e with e
        simp at e
        obtain ⟨rfl,rfl⟩:=e
        obtain ⟨t0,t1⟩:=t0k tb
        clear tb
        by_cases hlr : r < T.nodes.length
        · have d9 : decide (r < T.nodes.length) = true:=by simp;omega
          obtain ⟨wq5,hwq⟩ : ∃ wq5 : World,wq5 = wr:=⟨_,rfl⟩
          subst hwq
          go_wp2
          go_loopw [6] (fun i wr=>∃ k : Nat,i = .int .i64 k ∧ k ≤ T.nodes.length ∧ DX wr T bd w.heap.size (t2v T (itR T r) k) ∧ Below w4.heap.size (wo bd w4) (wo bd wr)) (fun i _=>T.nodes.length - (intOf i).toNat)
          case atStart=>exact ⟨0,rfl,by omega,by unfold t2v;exact HD5.out,Hb5.out⟩
          case round =>
            obtain ⟨k,rfl,hk,hd,hb6⟩:=hrel
            have HD6:=zH hd;have Hb6:=zH hb6
            clear hd hb6 t0 t1
            obtain ⟨s0,s1,tb,p,c,e,-,-⟩:=HD6.out.t
            have tb:=(wo_ne tb (by simp)).2
            injection e with e
            simp at e
            obtain ⟨rfl,rfl⟩:=e
            obtain ⟨t0,t1⟩:=t0k tb
            clear tb
            by_cases hlk : k < T.nodes.length
            · have d9 : decide (k < T.nodes.length) = true:=by simp;omega
              have Hsucc:=zH (t4v T (itR T r) k)
              have Hok:=zH (ti1 (g:=t2v T (itR T r) k) hlk)
              obtain ⟨wq6,hwq⟩ : ∃ wq6 : World,wq6 = wr:=⟨_,rfl⟩
              subst hwq
              generalize t2v T (itR T r) k = g at *
              go_wp2
              go_loopw [8,7] (fun i b wr=>∃ m : Nat,i = .int .i64 m ∧ m ≤ T.nodes[k].kids.length ∧ (T.nodes[k].bool = false → m = 0) ∧ b = .bool ((T.nodes[k].kids.take m).all fun x=>g x.toNat) ∧ DX wr T bd w.heap.size g ∧ Below w4.heap.size (wo bd w4) (wo bd wr)) (fun i _ _=>T.nodes[k].kids.length - (intOf i).toNat)
              case atStart=>exact ⟨0,rfl,by omega,fun _=>rfl,by simp,HD6.out,Hb6.out⟩
              case round =>
                obtain ⟨m,rfl,hm,hm0,rfl,hd,hb7⟩:=hrel
                have HD7:=zH hd;have Hb7:=zH hb7;have Hm0:=zH hm0
                clear hd hb7 hm0 t0 t1
                obtain ⟨p',c',a,o,p1,c1,p2,c2,ep,tb,hr,hN,hkids,hkl⟩:=HD7.out.node hlk
                subst ep
                obtain ⟨t0,t1⟩:=t0k tb
                have z0:=hr 0 _ rfl
                have z1:=hr 1 _ rfl
                have z2:=hr 2 _ rfl
                have z3:=hr 3 _ rfl
                have z4:=hr 4 _ rfl
                have z5:=hr 5 _ rfl
                have z6:=hr 6 _ rfl
                have z7:=hr 7 _ rfl
                rw [Nat.add_zero] at z0
                have Hbo:=zH (tee T.nodes[k] wr _ (hN.sub (tgo bd wr)))
                have Hkids:=zH hkids
                have HKk:=zH (fun (hb : T.nodes[k].bool = true) x hx=>HK.out k hlk (by rw [T.node_at hlk];exact hb) x (by rw [T.node_at hlk];exact hx))
                have hki : (k : Int) < (T.nodes.length : Int):=by omega
                clear tb hr hN hkids
                generalize T.nodes[k] = n at *
                cases hbn : n.bool with
                | false =>
                  obtain rfl:=Hm0.out hbn
                  rw [hbn] at Hbo
                  have Hok2:=zH (show okR T g k = true by rw [Hok.out,hbn];rfl)
                  clear hbn
                  cases hgk : g k with
                  | false =>
                    have Hst:=zH (t6y (T:=T) (g:=g) (i:=k) (x:=true) (by rw [Hok2.out];simp))
                    go_wp2_with (go_at_call 65;refine Hbo.out.mono ?_;rintro e w6 ⟨rfl,hb6⟩;have HD8:=zH (HD7.out.below hb6);have Hb8:=zH (show Below w4.heap.size (wo bd w4) (wo bd w6) from Hb7.out.trans ((t2n hb6).mono (by have:=Hb7.out.size;rwa [t1e,t1e] at this)));clear hb6 z0 z1 z2 z3 z4 z5 z6 z7 t0 t1;have g0:=HD8.out.a.cell hlk;rw [hgk] at g0;have g1:=HD8.out.a.free k;have Hset:=zH (HD8.out.a.set hlk true))
                    obtain ⟨hM,o9,hU⟩:=Hset.out
                    exact ⟨⟨k + 1,by go_num,by omega,by rw [Hsucc.out,Hst.out];exact HD8.out.turn (t3e hU) hM,Hb8.out.trans ((t3e hU).mono (by have:=Hb8.out.size;rwa [t1e,t1e] at this))⟩,by simp [intOf];omega⟩
                  | true =>
                    have Hst:=zH (t6y (T:=T) (g:=g) (i:=k) (x:=true) (by rw [Hok2.out];simp))
                    go_wp2_with (go_at_call 65;refine Hbo.out.mono ?_;rintro e w6 ⟨rfl,hb6⟩;have HD8:=zH (HD7.out.below hb6);have Hb8:=zH (show Below w4.heap.size (wo bd w4) (wo bd w6) from Hb7.out.trans ((t2n hb6).mono (by have:=Hb7.out.size;rwa [t1e,t1e] at this)));clear hb6 z0 z1 z2 z3 z4 z5 z6 z7 t0 t1;have g0:=HD8.out.a.cell hlk;rw [hgk] at g0;have g1:=HD8.out.a.free k;have Hset:=zH (HD8.out.a.set hlk true))
                    obtain ⟨hM,o9,hU⟩:=Hset.out
                    exact ⟨⟨k + 1,by go_num,by omega,by rw [Hsucc.out,Hst.out];exact HD8.out.turn (t3e hU) hM,Hb8.out.trans ((t3e hU).mono (by have:=Hb8.out.size;rwa [t1e,t1e] at this))⟩,by simp [intOf];omega⟩
                | true =>
                  rw [hbn] at Hbo
                  have HKk2:=zH (HKk.out hbn)
                  have Hok2:=zH (show okR T g k = n.kids.all fun x=>g x.toNat by rw [Hok.out,hbn];simp)
                  clear Hm0 HKk
                  by_cases hlm : m < n.kids.length
                  · have d8 : decide (m < n.kids.length) = true:=by simp;omega
                    have Hts:=zH (tdr (g:=g) hlm)
                    obtain ⟨-,ak,ok,rfl,-,zk⟩:=Hkids.out.at hlm
                    have zk:=t0l zk
                    obtain ⟨q,hq,hql⟩:=t3u (HKk2.out _ (List.getElem_mem hlm))
                    have hql : q < T.nodes.length:=hql
                    rw [hq] at zk Hts
                    rw [Int.toNat_natCast] at Hts
                    have hqi : (q : Int) < (T.nodes.length : Int):=by omega
                    generalize hA : ((n.kids.take m).all fun x=>g x.toNat) = A at *
                    cases A with
                    | true =>
                      go_wp2_with (go_at_call 65;refine Hbo.out.mono ?_;rintro e w6 ⟨rfl,hb6⟩;have HD8:=zH (HD7.out.below hb6);have Hb8:=zH (show Below w4.heap.size (wo bd w4) (wo bd w6) from Hb7.out.trans ((t2n hb6).mono (by have:=Hb7.out.size;rwa [t1e,t1e] at this)));have t0':=t0b hb6 t0;have z4':=t0b hb6 z4;have zk':=t0b hb6 zk;clear hb6 z0 z1 z2 z3 z4 z5 z6 z7 t0 t1 zk;have g0:=HD8.out.a.cell hql)
                      exact ⟨⟨m + 1,by go_num,by omega,(fun h=>by cases h),by rw [Hts.out];simp,HD8.out,Hb8.out⟩,by simp [intOf];omega⟩
                    | false =>
                      go_wp2_with (go_at_call 65;refine Hbo.out.mono ?_;rintro e w6 ⟨rfl,hb6⟩;have HD8:=zH (HD7.out.below hb6);have Hb8:=zH (show Below w4.heap.size (wo bd w4) (wo bd w6) from Hb7.out.trans ((t2n hb6).mono (by have:=Hb7.out.size;rwa [t1e,t1e] at this)));have t0':=t0b hb6 t0;have z4':=t0b hb6 z4;clear hb6 z0 z1 z2 z3 z4 z5 z6 z7 t0 t1 zk)
                      exact ⟨⟨m + 1,by go_num,by omega,(fun h=>by cases h),by rw [Hts.out];simp,HD8.out,Hb8.out⟩,by simp [intOf];omega⟩
                  · obtain rfl : m = n.kids.length:=by omega
                    have d8 : decide (n.kids.length < n.kids.length) = false:=by simp
                    have hta : ((n.kids.take n.kids.length).all fun x=>g x.toNat) = n.kids.all fun x=>g x.toNat:=by rw [List.take_length]
                    rw [hta] at *
                    generalize hA : (n.kids.all fun x=>g x.toNat) = A at *
                    cases hgk : g k with
                    | false =>
                      have Hst:=zH (t6y (T:=T) (g:=g) (i:=k) (x:=A) (by rw [Hok2.out,hgk];simp))
                      go_wp2_with (go_at_call 65;refine Hbo.out.mono ?_;rintro e w6 ⟨rfl,hb6⟩;have HD8:=zH (HD7.out.below hb6);have Hb8:=zH (show Below w4.heap.size (wo bd w4) (wo bd w6) from Hb7.out.trans ((t2n hb6).mono (by have:=Hb7.out.size;rwa [t1e,t1e] at this)));have t0':=t0b hb6 t0;have z4':=t0b hb6 z4;clear hb6 z0 z1 z2 z3 z4 z5 z6 z7 t0 t1;have g0:=HD8.out.a.cell hlk;rw [hgk] at g0;have g1:=HD8.out.a.free k;have Hset:=zH (HD8.out.a.set hlk A))
                      obtain ⟨hM,o9,hU⟩:=Hset.out
                      exact ⟨⟨k + 1,by go_num,by omega,by rw [Hsucc.out,Hst.out];exact HD8.out.turn (t3e hU) hM,Hb8.out.trans ((t3e hU).mono (by have:=Hb8.out.size;rwa [t1e,t1e] at this))⟩,by simp [intOf];omega⟩
                    | true =>
                      have Hst:=zH (t6y (T:=T) (g:=g) (i:=k) (x:=true) (by rw [hgk];simp))
                      go_wp2_with (go_at_call 65;refine Hbo.out.mono ?_;rintro e w6 ⟨rfl,hb6⟩;have HD8:=zH (HD7.out.below hb6);have Hb8:=zH (show Below w4.heap.size (wo bd w4) (wo bd w6) from Hb7.out.trans ((t2n hb6).mono (by have:=Hb7.out.size;rwa [t1e,t1e] at this)));have t0':=t0b hb6 t0;have z4':=t0b hb6 z4;clear hb6 z0 z1 z2 z3 z4 z5 z6 z7 t0 t1;have g0:=HD8.out.a.cell hlk;rw [hgk] at g0;have g1:=HD8.out.a.free k;have Hset:=zH (HD8.out.a.set hlk true))
                      obtain ⟨hM,o9,hU⟩:=Hset.out
                      exact ⟨⟨k + 1,by go_num,by omega,by rw [Hsucc.out,Hst.out];exact HD8.out.turn (t3e hU) hM,Hb8.out.trans ((t3e hU).mono (by have:=Hb8.out.size;rwa [t1e,t1e] at this))⟩,by simp [intOf];omega⟩
            · obtain rfl : k = T.nodes.length:=by omega
              have d9 : decide (T.nodes.length < T.nodes.length) = false:=by simp
              go_wp2
              exact ⟨⟨r + 1,by go_num,by omega,HD6.out,Hb6.out⟩,by simp [intOf];omega⟩
        · obtain rfl : r = T.nodes.length:=by omega
          have d9 : decide (T.nodes.length < T.nodes.length) = false:=by simp
          have Hall:=zH (tfh (T:=T) HK.out)
          obtain ⟨wq5,hwq⟩ : ∃ wq5 : World,wq5 = wr:=⟨_,rfl⟩
          subst hwq
          have hTl : T.len = T.nodes.length:=rfl
          rw [hTl] at Hall
          generalize itR T T.nodes.length = g at *
          go_wp2
          go_loopw [9] (fun i wr=>∃ k : Nat,i = .int .i64 k ∧ k ≤ T.nodes.length ∧ (∀ j,j < k → g j = true) ∧ wr = wq5) (fun i _=>T.nodes.length - (intOf i).toNat)
          case atStart=>exact ⟨0,rfl,by omega,fun j h=>by omega,rfl⟩
          case round =>
            obtain ⟨k,rfl,hk,hall9,rfl⟩:=hrel
            have Hall9:=zH hall9
            clear hall9
            by_cases hlk : k < T.nodes.length
            · have d9 : decide (k < T.nodes.length) = true:=by simp;omega
              have g0:=HD5.out.a.cell hlk
              cases hgk : g k with
              | false =>
                have Hno:=zH (show ¬ WfT T from fun h=>by
                  have:=Hall.out.2 (Hwf.out.1 h) k hlk
                  rw [hgk] at this
                  cases this)
                rw [hgk] at g0
                clear hgk
                go_wp2
                go_ret
                exact ⟨3,rfl,⟨fun h=>absurd h (by decide),fun h=>absurd h Hno.out⟩,Hend.out _ Hb5.out⟩
              | true =>
                rw [hgk] at g0
                have Hnx:=zH (show ∀ j,j < k + 1 → g j = true from fun j hj=>by
                  rcases Nat.lt_succ_iff_lt_or_eq.1 hj with g2 | rfl
                  · exact Hall9.out j g2
                  · exact hgk)
                clear hgk
                go_wp2
                exact ⟨⟨k + 1,by go_num,by omega,Hnx.out,by trivial⟩,by simp [intOf];omega⟩
            · obtain rfl : k = T.nodes.length:=by omega
              have d9 : decide (T.nodes.length < T.nodes.length) = false:=by simp
              have Hy:=zH (Hwf.out.2 (Hall.out.1 fun i hi=>Hall9.out i hi))
              go_wp2
              go_ret
              exact ⟨0,rfl,⟨fun _=>Hy.out,fun _=>rfl⟩,Hend.out _ Hb5.out⟩
end Go.Proofs.YtjgldaaofdpcgaaGreat
