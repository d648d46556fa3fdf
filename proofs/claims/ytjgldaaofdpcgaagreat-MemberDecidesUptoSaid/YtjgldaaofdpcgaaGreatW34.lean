/- Walks and plain facts for the laws of membership, for all values and types that the heap holds (texts Q1 Q2). -/
import Derived.Test.YtjgldaaofdpcgaaGreatW03
import Derived.Test.YtjgldaaofdpcgaaGreatW11
set_option linter.unusedVariables false
set_option linter.unusedSimpArgs false
namespace Go.Proofs.YtjgldaaofdpcgaaGreat
open Go.RowKit
set_option maxRecDepth 100000
def HasR (T : Ty) (V : VV) (k : Int) : Prop:=∀ (w : World) (v t : Value),VW w v V → TS w t T → Calls Tryz.prog 34 #[v,t,.int .i64 k] w (ER (mem T V k) w)
theorem tja {T : Ty} {l : List VV} {ks : List Int} {k : Nat} (h : k < l.length) (h2 : k < ks.length) (hm : mem T l[k] ks[k] = false) : all2 (mem T) l ks = false:=by
  unfold all2
  rw [Bool.and_eq_false_iff]
  right
  rw [Bool.eq_false_iff]
  intro h3
  rw [List.all_eq_true] at h3
  have hj : k < (l.zip ks).length:=by rw [List.length_zip];omega
  have:=h3 _ (List.getElem_mem hj)
  rw [List.getElem_zip] at this
  rw [this] at hm
  cases hm
theorem ti6 {T : Ty} {l : List VV} {ks : List Int} (hl : l.length = ks.length) (h : ∀ j (h : j < l.length) (h2 : j < ks.length),mem T l[j] ks[j] = true) : all2 (mem T) l ks = true:=by
  unfold all2
  rw [Bool.and_eq_true,decide_eq_true_eq,List.all_eq_true]
  refine ⟨hl,fun p hp=>?_⟩
  obtain ⟨j,hj,rfl⟩:=List.mem_iff_getElem.1 hp
  rw [List.getElem_zip]
  rw [List.length_zip] at hj
  exact h j (by omega) (by omega)
set_option maxHeartbeats 16000000 in
theorem ta9 (T : Ty) (l : List VV) (ks : List Int) (w : World) (vl t vk : Value) (hl : KS w vl l) (ht : TS w t T) (hk : IS w vk ks) (hm : ks.length ≤ 1000)
    (hc : ∀ x ∈ l,∀ k ∈ ks,HasR T x k) : Calls Tryz.prog 66 #[vl,t,vk] w (ER (all2 (mem T) l ks) w):=by
  have HT:=zH ht
  have HK:=zH hk
  have Hc:=zH hc
  obtain ⟨d,pl,cl,rfl,hrl⟩:=hl
  have Hrl:=zH hrl
  obtain ⟨pt,ct,rfl,-⟩:=ht
  obtain ⟨pk,ck,rfl,-,-⟩:=hk
  clear hrl hc
  go_enter Tryz.func66,Tryz.ntmps66
  by_cases hlen : l.length = ks.length
  · have d0 : ((l.length : Int) != (ks.length : Int)) = false:=by simp [hlen]
    go_upto_region 3 with fail
    have Hb2:=zH ((Below.refl w.heap.size w).alloc (Nat.le_refl _) (.cells #[.slice pt T.nodes.length ct,.int .i64 T.root] 31))
    have Hbx:=zH (heap_alloc_new w (.cells #[.slice pt T.nodes.length ct,.int .i64 T.root] 31))
    have Hlen:=zH hlen
    clear hlen d0
    generalize w.alloc (.cells #[.slice pt T.nodes.length ct,.int .i64 T.root] 31) = w2 at *
    have Hrl2:=zH (show Rw w2 pl cl 7 l (VS w2 d) from Hrl.out.below Hb2.out fun _ _ _ h=>h.below Hb2.out)
    have HK2:=zH (HK.out.below Hb2.out)
    have HT2:=zH (HT.out.below Hb2.out)
    have hbt:=t0a Hbx.out
    go_wp2
    go_loopw [7] (fun i wr=>∃ k : Nat,i = .int .i64 k ∧ k ≤ l.length ∧ (∀ j (h : j < l.length) (h2 : j < ks.length),j < k → mem T l[j] ks[j] = true) ∧ Below w2.heap.size w2 wr) (fun i _=>l.length - (intOf i).toNat)
    case atStart=>exact ⟨0,rfl,by omega,fun j _ _ h=>by omega,Below.refl _ _⟩
    case round =>
      obtain ⟨k,rfl,hk,ha,hb⟩:=hrel
      have Ha:=zH ha;have Hb:=zH hb;clear ha hb
      by_cases hll : k < l.length
      · have hlt : k < ks.length:=by have:=Hlen.out;omega
        obtain ⟨a,o,cs,rfl,hab,hcs,hrng,hP⟩:=Hrl2.out.all hll
        obtain ⟨q1,e1,q2,e2,q3,e3,q4,e4,rfl⟩:=hP.seven
        have hr:=hrng wr Hb.out
        have z0:=hr 0 _ rfl
        have z1:=hr 1 _ rfl
        have z2:=hr 2 _ rfl
        have z3:=hr 3 _ rfl
        have z4:=hr 4 _ rfl
        have z5:=hr 5 _ rfl
        have z6:=hr 6 _ rfl
        obtain ⟨-,ak,ok,rfl,hak,zk⟩:=(HK2.out.below Hb.out).at hlt
        have Hnx:=zH (show mem T l[k] ks[k] = true → ∀ j (h : j < l.length) (h2 : j < ks.length),j < k + 1 → mem T l[j] ks[j] = true from fun g j h h2 hjk=>by
          rcases Nat.lt_succ_iff_lt_or_eq.1 hjk with g2 | rfl
          · exact Ha.out j h h2 g2
          · exact g)
        have Hno:=zH (tja (T:=T) hll hlt)
        have Hcall:=zH (Hc.out _ (List.getElem_mem hll) _ (List.getElem_mem hlt))
        have HP:=zH (hP.below Hb.out)
        rw [Nat.add_zero] at z0
        clear hr hrng hP hcs
        generalize l[k] = X at *
        generalize ks[k] = kx at *
        obtain ⟨x0,x1⟩:=t0k ((Hb.out.block _ hbt).trans Hbx.out)
        have Hvw:=zH (show VW wr.drew (.agg #[.int .i64 X.kind,.int .i64 X.num,.string X.text,.slice q1 X.kids.length e1,.slice q2 X.keys.length e2,.slice q3 X.ents.length e3,.slice q4 X.labels.length e4]) X from ⟨d,_,rfl,HP.out.below (Below.refl _ _).drew⟩)
        have Htw:=zH (HT2.out.below Hb.out.drew)
        cases hmv : mem T X kx with
        | true =>
          have Hmv:=zH hmv
          have Hnx2:=zH (Hnx.out hmv)
          clear hmv
          go_wp2_with (first
            | (with_reducible refine rg ?_)
            | (with_reducible refine fo ?_)
            | (go_at_call 34;refine (Hcall.out wr.drew _ _ Hvw.out Htw.out).mono ?_;rintro e w6 ⟨rfl,hb6⟩;rw [Hmv.out];have Hb6:=zH (Hb.out.drew.step hb6);clear hb6))
          exact ⟨⟨k + 1,by go_num,by omega,Hnx2.out,Hb6.out⟩,by simp [intOf];omega⟩
        | false =>
          have Hmv:=zH hmv
          have Hf:=zH (Hno.out hmv)
          clear hmv
          go_wp2_with (first
            | (with_reducible refine rg ?_)
            | (with_reducible refine fo ?_)
            | (go_at_call 34;refine (Hcall.out wr.drew _ _ Hvw.out Htw.out).mono ?_;rintro e w6 ⟨rfl,hb6⟩;rw [Hmv.out];have Hb6:=zH (Hb.out.drew.step hb6);clear hb6))
          go_ret
          rw [Hf.out]
          exact ⟨rfl,Hb2.out.trans (Hb6.out.mono (Nat.le_of_lt hbt))⟩
      · obtain rfl : k = l.length:=by omega
        have Hyes:=zH (ti6 (T:=T) Hlen.out fun j h h2=>Ha.out j h h2 h)
        go_wp2
        go_ret
        rw [Hyes.out]
        exact ⟨rfl,Hb2.out.trans (Hb.out.mono (Nat.le_of_lt hbt))⟩
  · have d0 : ((l.length : Int) != (ks.length : Int)) = true:=by simp;omega
    have Hno:=zH (show all2 (mem T) l ks = false by unfold all2;simp [hlen])
    have Hb2:=zH ((Below.refl w.heap.size w).alloc (Nat.le_refl _) (.cells #[.slice pt T.nodes.length ct,.int .i64 T.root] 31))
    clear hlen
    go_wp2
    go_ret
    rw [Hno.out]
    exact ⟨rfl,Hb2.out⟩
set_option maxHeartbeats 16000000 in
theorem tjb (V : VV) (s : KK) (w : World) (v : Value) (hv : VW w v V) : Calls Tryz.prog 98 #[v,.agg #[.int .i64 s.kind,.string s.text]] w (XI (fun x=>decide (x = s)) V.keys w):=by
  obtain ⟨d,v1,b1,v2,b2,v3,b3,v4,b4,rfl,-,-,hkeys,-,-⟩:=hv.ex
  have hL : V.keys.length ≤ 9223372036854775807:=by obtain ⟨_,_,_,h⟩:=hkeys;exact h.big
  have H:=zH hkeys
  clear hkeys hv
  go_enter Tryz.func98,Tryz.ntmps98
  go_upto_region 1 with fail
  obtain ⟨w2,e9,hA,hB,hb⟩:=t1f w (.cells #[.int .i64 V.kind,.int .i64 V.num,.string V.text,.slice v1 V.kids.length b1,.slice v2 V.keys.length b2,.slice v3 V.ents.length b3,.slice v4 V.labels.length b4] 28) (.cells #[.int .i64 s.kind,.string s.text] 73)
  rw [e9]
  have HA:=zH hA;have HB:=zH hB;have Hb:=zH hb
  clear e9 hA hB hb
  go_wp2
  go_loopw [5] (fun i wr=>∃ k : Nat,i = .int .i64 k ∧ k ≤ V.keys.length ∧ (V.keys.take k).any (fun x=>decide (x = s)) = false ∧ Below w2.heap.size w2 wr) (fun i _=>V.keys.length - (intOf i).toNat)
  case atStart=>exact ⟨0,rfl,by omega,by simp,Below.refl _ _⟩
  case round =>
    obtain ⟨k,rfl,hk,ha,hbr⟩:=hrel
    have Ha:=zH ha;have Hbr:=zH hbr;have Hbw:=zH (Hb.out.step hbr)
    obtain ⟨⟨-,-,-,-⟩,a4,-,-⟩:=t0f ((hbr.block _ (t0a HA.out)).trans HA.out)
    obtain ⟨x0,x1⟩:=t0k ((hbr.block _ (t0a HB.out)).trans HB.out)
    clear ha hbr
    by_cases hlt : k < V.keys.length
    · obtain ⟨p',c',e9,hr⟩:=H.out.below Hbw.out
      injection e9 with e1 _ e3
      subst e1 e3
      obtain ⟨a,o,rfl,hab,z0,z1⟩:=hr.key hlt
      have hst:=t3a (p:=fun x=>decide (x = s)) hlt
      have hany : (V.keys.take (k + 1)).any (fun x=>decide (x = s)) = true → V.keys.any (fun x=>decide (x = s)) = true:=t4v
      rw [Ha.out,Bool.false_or] at hst
      have hse:=fun w=>t4w w V.keys[k] s
      by_cases hx : V.keys[k] = s
      · have Hx:=zH (show ∃ j : Nat,((k : Nat) : Int) = (j : Int) ∧ ∃ h : j < V.keys.length,decide (V.keys[j] = s) = true from ⟨k,rfl,hlt,by simp [hx]⟩)
        have Hst:=zH (hany (by rw [hst];simp [hx]))
        simp only [decide_eq_true hx] at hse
        generalize V.keys[k] = x at *
        clear hst hany hx hr
        go_wp2_with (first
          | (with_reducible refine rg ?_)
          | (with_reducible refine fo ?_))
        go_ret
        exact ⟨_,rfl,by rw [Hst.out];simp,fun _=>Hx.out,Hbw.out.drew⟩
      · have hst2 : (V.keys.take (k + 1)).any (fun x=>decide (x = s)) = false:=by rw [hst];simp [hx]
        have Hst:=zH hst2
        simp only [decide_eq_false hx] at hse
        generalize V.keys[k] = x at *
        clear hst hst2 hany hx hr
        go_wp2_with (first
          | (with_reducible refine rg ?_)
          | (with_reducible refine fo ?_))
        exact ⟨⟨k + 1,by go_num,by omega,Hst.out,Hbr.out.drew⟩,by simp [intOf];omega⟩
    · obtain rfl : k = V.keys.length:=by omega
      have Ha':=zH (show V.keys.any (fun x=>decide (x = s)) = false by have:=Ha.out;rwa [List.take_length] at this)
      go_wp2
      go_ret
      exact ⟨-1,rfl,by rw [Ha'.out];rfl,fun h=>absurd h (by decide),Hbw.out⟩
def FI (n : TN) (k : KK) (w : World) (e : Ending) (w' : World) : Prop:=∃ i : Int,e = .returned (.int .i64 i) ∧
  ((i = -1 ∧ ∀ j (h : j < n.fields.length),n.fields[j].key ≠ k) ∨ ∃ j : Nat,i = (j : Int) ∧ ∃ h : j < n.fields.length,atN n k = n.fields[j].node) ∧ Below w.heap.size w w'
set_option maxHeartbeats 16000000 in
theorem thc (n : TN) (k : KK) (w : World) (cn : List Value) (hn : NC w n cn) : Calls Tryz.prog 99 #[.agg cn.toArray,.agg #[.int .i64 k.kind,.string k.text]] w (FI n k w):=by
  obtain ⟨p1,c1,p2,c2,rfl,-,hf⟩:=hn
  have hL:=hf.big
  have Hf:=zH hf;clear hf
  go_enter Tryz.func99,Tryz.ntmps99
  go_upto_region 1 with fail
  obtain ⟨w2,e9,hA,hB,hb⟩:=t1f w (.cells #[.int .i64 n.kind,.int .i64 n.lo,.int .i64 n.hi,.string n.text,.slice p1 n.kids.length c1,.slice p2 n.fields.length c2,.int .i64 n.rest0,.int .i64 n.rest1] 48) (.cells #[.int .i64 k.kind,.string k.text] 73)
  rw [e9]
  have HA:=zH hA;have HB:=zH hB;have Hb:=zH hb
  clear e9 hA hB hb
  go_wp2
  go_loopw [5] (fun i wr=>∃ m : Nat,i = .int .i64 m ∧ m ≤ n.fields.length ∧ (∀ j (h : j < n.fields.length),j < m → n.fields[j].key ≠ k) ∧ Below w2.heap.size w2 wr) (fun i _=>n.fields.length - (intOf i).toNat)
  case atStart=>exact ⟨0,rfl,by omega,fun j _ h=>by omega,Below.refl _ _⟩
  case round =>
    obtain ⟨m,rfl,hm,hno,hbr⟩:=hrel
    have Hno:=zH hno;have Hbr:=zH hbr;have Hbw:=zH (Hb.out.step hbr)
    obtain ⟨x0,x1⟩:=t0k ((hbr.block _ (t0a HB.out)).trans HB.out)
    obtain ⟨-,-,a5,-,-⟩:=t0y ((hbr.block _ (t0a HA.out)).trans HA.out)
    clear hno hbr
    by_cases hlt : m < n.fields.length
    · obtain ⟨a,o,cs,rfl,hab,-,hrng,rfl⟩:=Hf.out.all hlt
      have hr:=hrng wr Hbw.out
      have z0:=hr 0 _ rfl
      have z1:=hr 1 _ rfl
      rw [Nat.add_zero] at z0
      have hse:=fun w=>t4w w n.fields[m].key k
      have Hfound:=zH (show n.fields[m].key = k → ∃ j : Nat,((m : Nat) : Int) = (j : Int) ∧ ∃ h : j < n.fields.length,atN n k = n.fields[j].node from fun h=>⟨m,rfl,hlt,tc1 hlt Hno.out h⟩)
      have Hmiss:=zH (show n.fields[m].key ≠ k → ∀ j (h : j < n.fields.length),j < m + 1 → n.fields[j].key ≠ k from fun h j hj hjm=>by
        rcases Nat.lt_succ_iff_lt_or_eq.1 hjm with g | rfl
        · exact Hno.out j hj g
        · exact h)
      clear hrng hr
      generalize n.fields[m] = f at *
      by_cases hx : f.key = k
      · have Hans:=zH (Hfound.out hx)
        simp only [decide_eq_true hx] at hse
        clear hx
        go_wp2_with (first
          | (with_reducible refine rg ?_)
          | (with_reducible refine fo ?_))
        go_ret
        exact ⟨_,rfl,.inr Hans.out,Hbw.out.drew⟩
      · have Hmiss2:=zH (Hmiss.out hx)
        simp only [decide_eq_false hx] at hse
        clear hx
        go_wp2_with (first
          | (with_reducible refine rg ?_)
          | (with_reducible refine fo ?_))
        exact ⟨⟨m + 1,by go_num,by omega,Hmiss2.out,Hbr.out.drew⟩,by simp [intOf];omega⟩
    · obtain rfl : m = n.fields.length:=by omega
      go_wp2
      go_ret
      exact ⟨-1,rfl,.inl ⟨rfl,fun j hj=>Hno.out j hj hj⟩,Hbw.out⟩
end Go.Proofs.YtjgldaaofdpcgaaGreat
namespace Go.Proofs.YtjgldaaofdpcgaaGreat
open Go.RowKit
set_option maxRecDepth 100000
set_option maxHeartbeats 16000000 in
theorem tcx (T : Ty) (V : VV) (n : TN) (w : World) (cn : List Value) (v t : Value) (hv : VW w v V) (ht : TS w t T) (hn : NC w n cn) (h1 : 1 ≤ n.kids.length) (hm : n.kids.length ≤ 1000)
    (hc : ∀ e ∈ V.ents,(∀ x ∈ e.args,∀ k ∈ n.kids,HasR T x k) ∧ (e.fails = false → ∀ k ∈ n.kids,HasR T e.res k)) :
    Calls Tryz.prog 68 #[v,t,.agg cn.toArray] w (ER (funA (mem T) V n) w):=by
  have HT:=zH ht;have HC:=zH hc
  obtain ⟨d,v1,b1,v2,b2,v3,b3,v4,b4,rfl,-,-,-,hents,-⟩:=hv.ex
  obtain ⟨p1,c1,p2,c2,rfl,hk,-⟩:=hn
  obtain ⟨pt,ct,rfl,-⟩:=ht
  obtain ⟨de,pe,ce,e9,hre⟩:=hents
  injection e9 with e91 _ e93
  subst e91 e93
  have hL:=hre.big
  have HE:=zH hre
  have HK:=zH hk
  obtain ⟨m,hmk⟩ : ∃ m,n.kids.length = m + 1:=⟨n.kids.length - 1,by omega⟩
  have hcap : m ≤ c1:=by
    obtain ⟨p',c',e9,h9,_⟩:=hk
    injection e9 with _ _ e9
    omega
  have Hmk:=zH hmk
  have Hkt:=zH (show ∀ w',Below w.heap.size w w' → IS w' (.slice p1 m c1) (n.kids.take m) from fun w' hb=>(hk.below hb).take (by omega))
  have hlk : m < n.kids.length:=by omega
  have Hkm:=zH (show ∀ w',Below w.heap.size w w' → ∃ a o,p1 = some ⟨a,o,none⟩ ∧ w'.cell? ⟨a,o + m,none⟩ = some (.int .i64 n.kids[m]) from fun w' hb=>by
    obtain ⟨-,a,o,e1,_,e2⟩:=(hk.below hb).at hlk
    exact ⟨a,o,e1,e2⟩)
  have Hmem:=zH (List.getElem_mem hlk)
  have Hent:=zH (show ∀ e : EE,entA (mem T) n.kids e = (!all2 (mem T) e.args (n.kids.take m) || (!e.fails && mem T e.res n.kids[m])) from fun e=>by
    unfold entA
    rw [show n.kids.length - 1 = m by omega,List.getD_eq_getElem?_getD,List.getElem?_eq_getElem hlk];rfl)
  rw [hmk] at hm ⊢
  generalize n.kids[m] = km at *
  clear hre hc hv h1 hmk hlk hk
  go_enter Tryz.func68,Tryz.ntmps68
  go_upto_region 1 with fail
  obtain ⟨w3,e9,hA,hB,hC,hb⟩:=t7n w (.cells #[.int .i64 V.kind,.int .i64 V.num,.string V.text,.slice v1 V.kids.length b1,.slice v2 V.keys.length b2,.slice v3 V.ents.length b3,.slice v4 V.labels.length b4] 28) (.cells #[.slice pt T.nodes.length ct,.int .i64 T.root] 31) (.cells #[.int .i64 n.kind,.int .i64 n.lo,.int .i64 n.hi,.string n.text,.slice p1 (m + 1) c1,.slice p2 n.fields.length c2,.int .i64 n.rest0,.int .i64 n.rest1] 48)
  rw [e9]
  obtain ⟨⟨x0,x1,x2,x3⟩,x4,x5,x6⟩:=t0f hA
  obtain ⟨-,y4,-,-,-⟩:=t0y hC
  have hlA:=t0a hA
  have hlB:=t0a hB
  have hlC:=t0a hC
  have HbA:=zH hA;have HbB:=zH hB;have HbC:=zH hC;have Hb:=zH hb
  clear e9 hA hB hC hb x0 x2 x3 x4 x6
  by_cases hnum : V.num = (m : Int)
  · have d0 : (V.num != (m : Int)) = false:=by simp [hnum]
    have hfun : funA (mem T) V n = V.ents.all (entA (mem T) n.kids):=by
      unfold funA
      have h9 : decide (V.num = (n.kids.length : Int) - 1) = true:=by rw [decide_eq_true_eq,Hmk.out,hnum];omega
      rw [h9,Bool.true_and]
    have Hfun:=zH hfun
    clear hfun hnum
    go_wp2
    go_loopw [8] (fun i wr=>∃ k : Nat,i = .int .i64 k ∧ k ≤ V.ents.length ∧ (∀ j (h : j < V.ents.length),j < k → entA (mem T) n.kids V.ents[j] = true) ∧ Below w3.heap.size w3 wr) (fun i _=>V.ents.length - (intOf i).toNat)
    case atStart=>exact ⟨0,rfl,by omega,fun j _ h=>by omega,Below.refl _ _⟩
    case round =>
      obtain ⟨k,rfl,hk,hall,hbr⟩:=hrel
      have Hall:=zH hall;have Hbr:=zH hbr
      have Hbw:=zH (Hb.out.step hbr)
      obtain ⟨-,-,y5,-⟩:=t0f ((hbr.block _ hlA).trans HbA.out)
      clear hall hbr
      by_cases hlt : k < V.ents.length
      · obtain ⟨a,o,cs,rfl,hab,-,hrng,hES⟩:=HE.out.all hlt
        have HES:=zH hES
        obtain ⟨qa,ea,rs,e1,hra,hrv⟩:=id hES
        obtain ⟨q1,e1',q2,e2,q3,e3,q4,e4,rfl⟩:=hrv.seven
        subst e1
        have Hra:=zH hra;have Hrv:=zH hrv
        have hr:=hrng wr Hbw.out
        have z0:=hr 0 _ rfl
        have z1:=hr 1 _ rfl
        have z2:=hr 2 _ rfl
        have z3:=hr 3 _ rfl
        have z4:=hr 4 _ rfl
        have z5:=hr 5 _ rfl
        have z6:=hr 6 _ rfl
        have z7:=hr 7 _ rfl
        have z8:=hr 8 _ rfl
        rw [Nat.add_zero] at z0
        have Hcall:=zH (HC.out _ (List.getElem_mem hlt))
        have Hnx:=zH (show entA (mem T) n.kids V.ents[k] = true → ∀ j (h : j < V.ents.length),j < k + 1 → entA (mem T) n.kids V.ents[j] = true from fun h j hj hjk=>by
          rcases Nat.lt_succ_iff_lt_or_eq.1 hjk with g | rfl
          · exact Hall.out j hj g
          · exact h)
        have Hno:=zH (show entA (mem T) n.kids V.ents[k] = false → V.ents.all (entA (mem T) n.kids) = false from fun h=>by
          rw [Bool.eq_false_iff]
          intro h2
          rw [List.all_eq_true] at h2
          rw [h2 _ (List.getElem_mem hlt)] at h
          cases h)
        generalize V.ents[k] = en at *
        clear hES hr hrng hra hrv
        go_upto_region 8 with fail
        have hnew:=heap_alloc_new wr (.cells #[.slice qa en.args.length ea,.bool en.fails,.int .i64 en.res.kind,.int .i64 en.res.num,.string en.res.text,.slice q1 en.res.kids.length e1',.slice q2 en.res.keys.length e2,.slice q3 en.res.ents.length e3,.slice q4 en.res.labels.length e4] 55)
        have ho : Below wr.heap.size wr (wr.alloc (.cells #[.slice qa en.args.length ea,.bool en.fails,.int .i64 en.res.kind,.int .i64 en.res.num,.string en.res.text,.slice q1 en.res.kids.length e1',.slice q2 en.res.keys.length e2,.slice q3 en.res.ents.length e3,.slice q4 en.res.labels.length e4] 55)):=(Below.refl _ _).alloc (Nat.le_refl _) _
        generalize wr.alloc (.cells #[.slice qa en.args.length ea,.bool en.fails,.int .i64 en.res.kind,.int .i64 en.res.num,.string en.res.text,.slice q1 en.res.kids.length e1',.slice q2 en.res.keys.length e2,.slice q3 en.res.ents.length e3,.slice q4 en.res.labels.length e4] 55) = w5 at *
        have Hbr5:=zH (Hbr.out.step ho)
        have Hbw5:=zH (Hb.out.step Hbr5.out)
        generalize wr.heap.size = bn at *
        obtain ⟨⟨a0,a1,a2,a3⟩,⟨a4,a5,a6,a7⟩,a8⟩:=t1k hnew
        obtain ⟨b0,b1⟩:=t0k ((Hbr5.out.block _ hlB).trans HbB.out)
        obtain ⟨⟨d0,d1,d2,d3⟩,d4,d5,d6,d7⟩:=t0y ((Hbr5.out.block _ hlC).trans HbC.out)
        have Hall2:=zH (ta9 T en.args (n.kids.take m) w5.drew (.slice qa en.args.length ea) (.agg #[.slice pt T.nodes.length ct,.int .i64 T.root]) (.slice p1 m c1) ⟨de,qa,ea,rfl,Hra.out.below Hbw5.out.drew fun _ _ _ h=>h.below Hbw5.out.drew⟩ (HT.out.below Hbw5.out.drew) (Hkt.out _ Hbw5.out.drew) (by rw [List.length_take];omega) fun x hx k hk=>Hcall.out.1 x hx k (List.mem_of_mem_take hk))
        have Hen:=zH (Hent.out en)
        clear z0 z1 z2 z3 z4 z5 z6 z7 z8 ho y5
        cases hal : all2 (mem T) en.args (n.kids.take m) with
        | false =>
          have Hnx2:=zH (Hnx.out (by rw [Hen.out,hal];rfl))
          rw [hal] at Hall2
          clear hal hnew
          go_wp2_with (first
            | (with_reducible refine rg ?_)
            | (with_reducible refine fo ?_)
            | (go_at_call 66;refine Hall2.out.mono ?_;rintro e w6 ⟨rfl,hb6⟩;have Hbr6:=zH (Hbr5.out.drew.step hb6);have Hb6:=zH (Hbw5.out.drew.step hb6);clear hb6))
          exact ⟨⟨k + 1,by go_num,by omega,Hnx2.out,Hbr6.out⟩,by simp [intOf];omega⟩
        | true =>
          rw [hal] at Hall2
          cases hf : en.fails with
          | true =>
            have Hf:=zH (Hno.out (by rw [Hen.out,hal,hf];rfl))
            rw [hf] at hnew a1
            clear hal hf
            go_wp2_with (first
            | (with_reducible refine rg ?_)
            | (with_reducible refine fo ?_)
            | (go_at_call 66;refine Hall2.out.mono ?_;rintro e w6 ⟨rfl,hb6⟩;have Hbr6:=zH (Hbr5.out.drew.step hb6);have Hb6:=zH (Hbw5.out.drew.step hb6);obtain ⟨⟨f0,f1,f2,f3⟩,⟨f4,f5,f6,f7⟩,f8⟩:=t1k ((hb6.block _ (t0a hnew)).trans hnew);obtain ⟨g0,g1⟩:=t0k ((Hbr6.out.block _ hlB).trans HbB.out);obtain ⟨-,h4,-,-,-⟩:=t0y ((Hbr6.out.block _ hlC).trans HbC.out);clear hb6))
            go_ret
            rw [Hfun.out,Hf.out]
            exact ⟨rfl,Hb6.out⟩
          | false =>
            have Hcr:=zH (Hcall.out.2 hf _ Hmem.out)
            have hen : entA (mem T) n.kids en = mem T en.res km:=by rw [Hen.out,hal,hf];rfl
            rw [hf] at hnew a1
            cases hmv : mem T en.res km with
            | true =>
              have Hnx2:=zH (Hnx.out (hen.trans hmv))
              have Hmv:=zH hmv
              clear hal hf hen hmv
              go_wp2_with (first
            | (with_reducible refine rg ?_)
            | (with_reducible refine fo ?_)
            | (go_at_call 66;refine Hall2.out.mono ?_;rintro e w6 ⟨rfl,hb6⟩;have Hbr6:=zH (Hbr5.out.drew.step hb6);have Hb6:=zH (Hbw5.out.drew.step hb6);obtain ⟨⟨f0,f1,f2,f3⟩,⟨f4,f5,f6,f7⟩,f8⟩:=t1k ((hb6.block _ (t0a hnew)).trans hnew);obtain ⟨g0,g1⟩:=t0k ((Hbr6.out.block _ hlB).trans HbB.out);obtain ⟨-,h4,-,-,-⟩:=t0y ((Hbr6.out.block _ hlC).trans HbC.out);obtain ⟨ak,ok,hpk,zk⟩:=Hkm.out w6 Hb6.out;subst hpk;clear hb6)
                | (go_at_call 34;refine (Hcr.out w6 _ _ ⟨de,_,rfl,Hrv.out.below Hb6.out⟩ (HT.out.below Hb6.out)).mono ?_;rintro e w7 ⟨rfl,hb7⟩;rw [Hmv.out];have Hbr7:=zH (Hbr6.out.step hb7);clear hb7))
              exact ⟨⟨k + 1,by go_num,by omega,Hnx2.out,Hbr7.out⟩,by simp [intOf];omega⟩
            | false =>
              have Hf:=zH (Hno.out (hen.trans hmv))
              have Hmv:=zH hmv
              clear hal hf hen hmv
              go_wp2_with (first
            | (with_reducible refine rg ?_)
            | (with_reducible refine fo ?_)
            | (go_at_call 66;refine Hall2.out.mono ?_;rintro e w6 ⟨rfl,hb6⟩;have Hbr6:=zH (Hbr5.out.drew.step hb6);have Hb6:=zH (Hbw5.out.drew.step hb6);obtain ⟨⟨f0,f1,f2,f3⟩,⟨f4,f5,f6,f7⟩,f8⟩:=t1k ((hb6.block _ (t0a hnew)).trans hnew);obtain ⟨g0,g1⟩:=t0k ((Hbr6.out.block _ hlB).trans HbB.out);obtain ⟨-,h4,-,-,-⟩:=t0y ((Hbr6.out.block _ hlC).trans HbC.out);obtain ⟨ak,ok,hpk,zk⟩:=Hkm.out w6 Hb6.out;subst hpk;clear hb6)
                | (go_at_call 34;refine (Hcr.out w6 _ _ ⟨de,_,rfl,Hrv.out.below Hb6.out⟩ (HT.out.below Hb6.out)).mono ?_;rintro e w7 ⟨rfl,hb7⟩;rw [Hmv.out];have Hb7:=zH (Hb6.out.step hb7);clear hb7))
              go_ret
              rw [Hfun.out,Hf.out]
              exact ⟨rfl,Hb7.out⟩
      · obtain rfl : k = V.ents.length:=by omega
        have Hyes:=zH (show funA (mem T) V n = true by
          rw [Hfun.out,List.all_eq_true]
          intro x hx
          obtain ⟨j,hj,rfl⟩:=List.mem_iff_getElem.1 hx
          exact Hall.out j hj hj)
        go_wp2
        go_ret
        rw [Hyes.out]
        exact ⟨rfl,Hbw.out⟩
  · have d0 : (V.num != (m : Int)) = true:=by simp [hnum]
    have Hno:=zH (show funA (mem T) V n = false by
      unfold funA
      have h9 : decide (V.num = (n.kids.length : Int) - 1) = false:=by rw [decide_eq_false_iff_not,Hmk.out];omega
      rw [h9,Bool.false_and])
    clear hnum
    go_wp2
    go_ret
    rw [Hno.out]
    exact ⟨rfl,Hb.out⟩
end Go.Proofs.YtjgldaaofdpcgaaGreat
