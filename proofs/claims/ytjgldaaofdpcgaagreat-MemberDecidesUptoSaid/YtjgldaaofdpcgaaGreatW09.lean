/- Walks and plain facts for the laws of membership, for all values and types that the heap holds (texts K2). -/
import Derived.Test.YtjgldaaofdpcgaaGreatW03
import Derived.Test.YtjgldaaofdpcgaaGreatW05
import Derived.Test.YtjgldaaofdpcgaaGreatW08
set_option linter.unusedVariables false
set_option linter.unusedSimpArgs false
namespace Go.Proofs.YtjgldaaofdpcgaaGreat
open Go.RowKit
set_option maxRecDepth 100000
def IR (x : Int) (w : World) (e : Ending) (w' : World) : Prop:=e = .returned (.int .i64 x) ∧ Below w.heap.size w w'
theorem t4p {α : Type} {f : α → α → Int} : ∀ {a b : List α} {k : Nat} (h1 : k < a.length) (h2 : k < b.length),(∀ j (h1 : j < a.length) (h2 : j < b.length),j < k → f a[j] b[j] = 0) → f a[k] b[k] ≠ 0 → lexL f a b = f a[k] b[k]
  | [],_,k,h1,_,_,_=>by simp at h1
  | _ :: _,[],k,_,h2,_,_=>by simp at h2
  | x :: r,y :: s,0,_,_,_,h=>by simp only [List.getElem_cons_zero] at h ⊢;simp [lexL,nz,h]
  | x :: r,y :: s,k + 1,h1,h2,hz,h=>by
    have h0:=hz 0 (by simp) (by simp) (by omega)
    simp only [List.getElem_cons_zero] at h0
    simp only [List.getElem_cons_succ] at h ⊢
    rw [lexL,nz,if_pos h0]
    exact t4p (by simpa using h1) (by simpa using h2) (fun j g1 g2 hj=>by have:=hz (j + 1) (by simpa using g1) (by simpa using g2) (by omega);simpa using this) h
theorem t3m {α : Type} {f : α → α → Int} : ∀ {a b : List α},(∀ j (h1 : j < a.length) (h2 : j < b.length),f a[j] b[j] = 0) → lexL f a b = 0
  | [],_,_=>by simp [lexL]
  | _ :: _,[],_=>by simp [lexL]
  | x :: r,y :: s,hz=>by
    have h0:=hz 0 (by simp) (by simp)
    simp only [List.getElem_cons_zero] at h0
    rw [lexL,nz,if_pos h0]
    exact t3m fun j g1 g2=>by have:=hz (j + 1) (by simpa using g1) (by simpa using g2);simpa using this
def CmpC (a b : VV) : Prop:=∀ (w : World) (u v : Value),VW w u a → VW w v b → Calls Tryz.prog 130 #[u,v] w (IR (cmpV a b) w)
def CmpD (a b : EE) : Prop:=∀ (w : World) (d d' : Nat) (cs cs' : List Value),ES w d a cs → ES w d' b cs' → Calls Tryz.prog 125 #[.agg cs.toArray,.agg cs'.toArray] w (IR (cmpE a b) w)
set_option maxHeartbeats 16000000 in
theorem tgl (la lb : List VV) (w : World) (u v : Value) (ha : KS w u la) (hb : KS w v lb) (hc : ∀ x ∈ la,∀ y ∈ lb,CmpC x y) : Calls Tryz.prog 134 #[u,v,.func (.func 130) #[] #[]] w (IR (cmpL cmpV la lb) w):=by
  have HA:=zH ha;have HB:=zH hb
  have Hc:=zH hc;clear hc
  have hL : la.length ≤ 9223372036854775807:=by obtain ⟨_,_,_,_,h⟩:=ha;exact h.big
  obtain ⟨_,pa,ca,rfl,-⟩:=ha
  obtain ⟨_,pb,cb,rfl,-⟩:=hb
  have Hlen:=zH (t6t la.length lb.length)
  by_cases hlen : la.length = lb.length
  · have ho : ordI (la.length : Int) (lb.length : Int) = 0:=by rw [hlen];unfold ordI;simp
    have Hcm:=zH (show cmpL cmpV la lb = lexL cmpV la lb by unfold cmpL nz;rw [if_pos ho])
    rw [ho] at Hlen
    have Hle:=zH hlen
    clear ho hlen
    go_enter Tryz.func134,Tryz.ntmps134
    go_wp2_with (go_at_call 127;refine (Hlen.out _).mono ?_;rintro e w ⟨rfl,rfl⟩)
    go_loopw [20] (fun i wr=>∃ k : Nat,i = .int .i64 k ∧ k ≤ la.length ∧ (∀ j (h1 : j < la.length) (h2 : j < lb.length),j < k → cmpV la[j] lb[j] = 0) ∧ Below w.heap.size w wr) (fun i _=>la.length - (intOf i).toNat)
    case atStart=>exact ⟨0,rfl,by omega,fun j _ _ h=>by omega,Below.refl _ _⟩
    case round =>
      obtain ⟨k,rfl,hk,hall,hb⟩:=hrel
      have Hall:=zH hall;have Hb:=zH hb;clear hall hb
      by_cases hka : k < la.length
      · have hkb : k < lb.length:=by have:=Hle.out;omega
        obtain ⟨dy,py,cy,ey,hry⟩:=HA.out.below Hb.out
        injection ey with ey1 _ ey3
        subst ey1 ey3
        obtain ⟨ay,oy,csy,rfl,haby,-,hrgy,hPy⟩:=hry.at hka
        obtain ⟨q1,q2,q3,q4,q5,q6,q7,q8,rfl⟩:=hPy.seven
        have y0:=hrgy 0 _ rfl
        have y1:=hrgy 1 _ rfl
        have y2:=hrgy 2 _ rfl
        have y3:=hrgy 3 _ rfl
        have y4:=hrgy 4 _ rfl
        have y5:=hrgy 5 _ rfl
        have y6:=hrgy 6 _ rfl
        rw [Nat.add_zero] at y0
        have HPy:=zH hPy
        clear hry hrgy hPy
        obtain ⟨dz,pz,cz,ez,hrz⟩:=HB.out.below Hb.out
        injection ez with ez1 _ ez3
        subst ez1 ez3
        obtain ⟨az,oz,csz,rfl,habz,-,hrgz,hPz⟩:=hrz.at hkb
        obtain ⟨r1,r2,r3,r4,r5,r6,r7,r8,rfl⟩:=hPz.seven
        have z0:=hrgz 0 _ rfl
        have z1:=hrgz 1 _ rfl
        have z2:=hrgz 2 _ rfl
        have z3:=hrgz 3 _ rfl
        have z4:=hrgz 4 _ rfl
        have z5:=hrgz 5 _ rfl
        have z6:=hrgz 6 _ rfl
        rw [Nat.add_zero] at z0
        have HPz:=zH hPz
        clear hrz hrgz hPz
        have Hcall:=zH (Hc.out _ (List.getElem_mem hka) _ (List.getElem_mem hkb) wr.drew _ _ ⟨dy,_,rfl,HPy.out.below (Below.refl _ _).drew⟩ ⟨dz,_,rfl,HPz.out.below (Below.refl _ _).drew⟩)
        have Hat:=zH (t4p (f:=cmpV) hka hkb Hall.out)
        have Hnx:=zH (show cmpV la[k] lb[k] = 0 → ∀ j (h1 : j < la.length) (h2 : j < lb.length),j < k + 1 → cmpV la[j] lb[j] = 0 from fun g j h h2 hjk=>by
          rcases Nat.lt_succ_iff_lt_or_eq.1 hjk with g2 | rfl
          · exact Hall.out j h h2 g2
          · exact g)
        generalize la[k] = X at *
        generalize lb[k] = Y at *
        by_cases hz : cmpV X Y = 0
        · have Hnx2:=zH (Hnx.out hz)
          rw [hz] at Hcall
          clear hz
          go_wp2_with (first
            | (with_reducible refine rg ?_)
            | (with_reducible refine fo ?_)
            | (go_at_call 130;go_loud (refine Hcall.out.mono ?_);rintro e w6 ⟨rfl,hb6⟩;have Hb6:=zH (Hb.out.drew.step hb6);clear hb6))
          exact ⟨⟨k + 1,by go_num,by omega,Hnx2.out,Hb6.out⟩,by simp [intOf];omega⟩
        · have Hres:=zH (Hat.out hz)
          have d1 : (cmpV X Y != 0) = true:=by simpa using hz
          have d2 : (cmpV X Y == 0) = false:=by simpa using hz
          clear hz
          generalize cmpV X Y = c at *
          go_wp2_with (first
            | (with_reducible refine rg ?_)
            | (with_reducible refine fo ?_)
            | (go_at_call 130;go_loud (refine Hcall.out.mono ?_);rintro e w6 ⟨rfl,hb6⟩;have Hb6:=zH (Hb.out.drew.step hb6);clear hb6))
          go_ret
          rw [Hcm.out,Hres.out]
          exact ⟨rfl,Hb6.out⟩
      · obtain rfl : k = la.length:=by omega
        have Hres:=zH (t3m (f:=cmpV) fun j h h2=>Hall.out j h h2 h)
        go_wp2
        go_ret
        rw [Hcm.out,Hres.out]
        exact ⟨rfl,Hb.out⟩
  · have ho : ordI (la.length : Int) (lb.length : Int) ≠ 0:=fun h=>hlen (by have:=t2k h;omega)
    have Hcm:=zH (show cmpL cmpV la lb = ordI (la.length : Int) (lb.length : Int) by unfold cmpL nz;rw [if_neg ho])
    have d1 : (ordI (la.length : Int) (lb.length : Int) != 0) = true:=by simpa using ho
    clear hlen ho
    generalize ordI (la.length : Int) (lb.length : Int) = c at *
    go_enter Tryz.func134,Tryz.ntmps134
    go_wp2_with (go_at_call 127;refine (Hlen.out _).mono ?_;rintro e w ⟨rfl,rfl⟩)
    go_ret
    rw [Hcm.out]
    exact ⟨rfl,Below.refl _ _⟩
set_option maxHeartbeats 16000000 in
theorem tgm (la lb : List KK) (w : World) (u v : Value) (ha : KY w u la) (hb : KY w v lb) : Calls Tryz.prog 136 #[u,v,.func (.func 116) #[] #[]] w (IR (cmpL cmpK la lb) w):=by
  have HA:=zH ha;have HB:=zH hb
  skip
  have hL : la.length ≤ 9223372036854775807:=by obtain ⟨_,_,_,h⟩:=ha;exact h.big
  obtain ⟨pa,ca,rfl,-⟩:=ha
  obtain ⟨pb,cb,rfl,-⟩:=hb
  have Hlen:=zH (t6t la.length lb.length)
  by_cases hlen : la.length = lb.length
  · have ho : ordI (la.length : Int) (lb.length : Int) = 0:=by rw [hlen];unfold ordI;simp
    have Hcm:=zH (show cmpL cmpK la lb = lexL cmpK la lb by unfold cmpL nz;rw [if_pos ho])
    rw [ho] at Hlen
    have Hle:=zH hlen
    clear ho hlen
    go_enter Tryz.func136,Tryz.ntmps136
    go_wp2_with (go_at_call 127;refine (Hlen.out _).mono ?_;rintro e w ⟨rfl,rfl⟩)
    go_loopw [20] (fun i wr=>∃ k : Nat,i = .int .i64 k ∧ k ≤ la.length ∧ (∀ j (h1 : j < la.length) (h2 : j < lb.length),j < k → cmpK la[j] lb[j] = 0) ∧ Below w.heap.size w wr) (fun i _=>la.length - (intOf i).toNat)
    case atStart=>exact ⟨0,rfl,by omega,fun j _ _ h=>by omega,Below.refl _ _⟩
    case round =>
      obtain ⟨k,rfl,hk,hall,hb⟩:=hrel
      have Hall:=zH hall;have Hb:=zH hb;clear hall hb
      by_cases hka : k < la.length
      · have hkb : k < lb.length:=by have:=Hle.out;omega
        obtain ⟨py,cy,ey,hry⟩:=HA.out.below Hb.out
        injection ey with ey1 _ ey3
        subst ey1 ey3
        obtain ⟨ay,oy,rfl,haby,y0,y1⟩:=hry.key hka
        clear hry
        obtain ⟨pz,cz,ez,hrz⟩:=HB.out.below Hb.out
        injection ez with ez1 _ ez3
        subst ez1 ez3
        obtain ⟨az,oz,rfl,habz,z0,z1⟩:=hrz.key hkb
        clear hrz
        have Hcall:=zH (tah la[k] lb[k] wr.drew)
        have Hat:=zH (t4p (f:=cmpK) hka hkb Hall.out)
        have Hnx:=zH (show cmpK la[k] lb[k] = 0 → ∀ j (h1 : j < la.length) (h2 : j < lb.length),j < k + 1 → cmpK la[j] lb[j] = 0 from fun g j h h2 hjk=>by
          rcases Nat.lt_succ_iff_lt_or_eq.1 hjk with g2 | rfl
          · exact Hall.out j h h2 g2
          · exact g)
        generalize la[k] = X at *
        generalize lb[k] = Y at *
        by_cases hz : cmpK X Y = 0
        · have Hnx2:=zH (Hnx.out hz)
          rw [hz] at Hcall
          clear hz
          go_wp2_with (first
            | (with_reducible refine rg ?_)
            | (with_reducible refine fo ?_)
            | (go_at_call 116;go_loud (refine Hcall.out.mono ?_);rintro e w6 ⟨rfl,hb6⟩;have Hb6:=zH (Hb.out.drew.step hb6);clear hb6))
          exact ⟨⟨k + 1,by go_num,by omega,Hnx2.out,Hb6.out⟩,by simp [intOf];omega⟩
        · have Hres:=zH (Hat.out hz)
          have d1 : (cmpK X Y != 0) = true:=by simpa using hz
          have d2 : (cmpK X Y == 0) = false:=by simpa using hz
          clear hz
          generalize cmpK X Y = c at *
          go_wp2_with (first
            | (with_reducible refine rg ?_)
            | (with_reducible refine fo ?_)
            | (go_at_call 116;go_loud (refine Hcall.out.mono ?_);rintro e w6 ⟨rfl,hb6⟩;have Hb6:=zH (Hb.out.drew.step hb6);clear hb6))
          go_ret
          rw [Hcm.out,Hres.out]
          exact ⟨rfl,Hb6.out⟩
      · obtain rfl : k = la.length:=by omega
        have Hres:=zH (t3m (f:=cmpK) fun j h h2=>Hall.out j h h2 h)
        go_wp2
        go_ret
        rw [Hcm.out,Hres.out]
        exact ⟨rfl,Hb.out⟩
  · have ho : ordI (la.length : Int) (lb.length : Int) ≠ 0:=fun h=>hlen (by have:=t2k h;omega)
    have Hcm:=zH (show cmpL cmpK la lb = ordI (la.length : Int) (lb.length : Int) by unfold cmpL nz;rw [if_neg ho])
    have d1 : (ordI (la.length : Int) (lb.length : Int) != 0) = true:=by simpa using ho
    clear hlen ho
    generalize ordI (la.length : Int) (lb.length : Int) = c at *
    go_enter Tryz.func136,Tryz.ntmps136
    go_wp2_with (go_at_call 127;refine (Hlen.out _).mono ?_;rintro e w ⟨rfl,rfl⟩)
    go_ret
    rw [Hcm.out]
    exact ⟨rfl,Below.refl _ _⟩
set_option maxHeartbeats 16000000 in
theorem tgn (la lb : List EE) (w : World) (u v : Value) (ha : EY w u la) (hb : EY w v lb) (hc : ∀ x ∈ la,∀ y ∈ lb,CmpD x y) : Calls Tryz.prog 137 #[u,v,.func (.func 125) #[] #[]] w (IR (cmpL cmpE la lb) w):=by
  have HA:=zH ha;have HB:=zH hb
  have Hc:=zH hc;clear hc
  have hL : la.length ≤ 9223372036854775807:=by obtain ⟨_,_,_,_,h⟩:=ha;exact h.big
  obtain ⟨_,pa,ca,rfl,-⟩:=ha
  obtain ⟨_,pb,cb,rfl,-⟩:=hb
  have Hlen:=zH (t6t la.length lb.length)
  by_cases hlen : la.length = lb.length
  · have ho : ordI (la.length : Int) (lb.length : Int) = 0:=by rw [hlen];unfold ordI;simp
    have Hcm:=zH (show cmpL cmpE la lb = lexL cmpE la lb by unfold cmpL nz;rw [if_pos ho])
    rw [ho] at Hlen
    have Hle:=zH hlen
    clear ho hlen
    go_enter Tryz.func137,Tryz.ntmps137
    go_wp2_with (go_at_call 127;refine (Hlen.out _).mono ?_;rintro e w ⟨rfl,rfl⟩)
    go_loopw [20] (fun i wr=>∃ k : Nat,i = .int .i64 k ∧ k ≤ la.length ∧ (∀ j (h1 : j < la.length) (h2 : j < lb.length),j < k → cmpE la[j] lb[j] = 0) ∧ Below w.heap.size w wr) (fun i _=>la.length - (intOf i).toNat)
    case atStart=>exact ⟨0,rfl,by omega,fun j _ _ h=>by omega,Below.refl _ _⟩
    case round =>
      obtain ⟨k,rfl,hk,hall,hb⟩:=hrel
      have Hall:=zH hall;have Hb:=zH hb;clear hall hb
      by_cases hka : k < la.length
      · have hkb : k < lb.length:=by have:=Hle.out;omega
        obtain ⟨dy,py,cy,ey,hry⟩:=HA.out.below Hb.out
        injection ey with ey1 _ ey3
        subst ey1 ey3
        obtain ⟨ay,oy,csy,rfl,haby,-,hrgy,hPy⟩:=hry.at hka
        obtain ⟨q1,q2,q3,q4,q5,q6,q7,q8,q9,qa,rfl⟩:=hPy.nine
        have y0:=hrgy 0 _ rfl
        have y1:=hrgy 1 _ rfl
        have y2:=hrgy 2 _ rfl
        have y3:=hrgy 3 _ rfl
        have y4:=hrgy 4 _ rfl
        have y5:=hrgy 5 _ rfl
        have y6:=hrgy 6 _ rfl
        have y7:=hrgy 7 _ rfl
        have y8:=hrgy 8 _ rfl
        rw [Nat.add_zero] at y0
        have HPy:=zH hPy
        clear hry hrgy hPy
        obtain ⟨dz,pz,cz,ez,hrz⟩:=HB.out.below Hb.out
        injection ez with ez1 _ ez3
        subst ez1 ez3
        obtain ⟨az,oz,csz,rfl,habz,-,hrgz,hPz⟩:=hrz.at hkb
        obtain ⟨r1,r2,r3,r4,r5,r6,r7,r8,r9,ra,rfl⟩:=hPz.nine
        have z0:=hrgz 0 _ rfl
        have z1:=hrgz 1 _ rfl
        have z2:=hrgz 2 _ rfl
        have z3:=hrgz 3 _ rfl
        have z4:=hrgz 4 _ rfl
        have z5:=hrgz 5 _ rfl
        have z6:=hrgz 6 _ rfl
        have z7:=hrgz 7 _ rfl
        have z8:=hrgz 8 _ rfl
        rw [Nat.add_zero] at z0
        have HPz:=zH hPz
        clear hrz hrgz hPz
        have Hcall:=zH (Hc.out _ (List.getElem_mem hka) _ (List.getElem_mem hkb) wr.drew _ _ _ _ (HPy.out.below (Below.refl _ _).drew) (HPz.out.below (Below.refl _ _).drew))
        have Hat:=zH (t4p (f:=cmpE) hka hkb Hall.out)
        have Hnx:=zH (show cmpE la[k] lb[k] = 0 → ∀ j (h1 : j < la.length) (h2 : j < lb.length),j < k + 1 → cmpE la[j] lb[j] = 0 from fun g j h h2 hjk=>by
          rcases Nat.lt_succ_iff_lt_or_eq.1 hjk with g2 | rfl
          · exact Hall.out j h h2 g2
          · exact g)
        generalize la[k] = X at *
        generalize lb[k] = Y at *
        by_cases hz : cmpE X Y = 0
        · have Hnx2:=zH (Hnx.out hz)
          rw [hz] at Hcall
          clear hz
          go_wp2_with (first
            | (with_reducible refine rg ?_)
            | (with_reducible refine fo ?_)
            | (go_at_call 125;go_loud (refine Hcall.out.mono ?_);rintro e w6 ⟨rfl,hb6⟩;have Hb6:=zH (Hb.out.drew.step hb6);clear hb6))
          exact ⟨⟨k + 1,by go_num,by omega,Hnx2.out,Hb6.out⟩,by simp [intOf];omega⟩
        · have Hres:=zH (Hat.out hz)
          have d1 : (cmpE X Y != 0) = true:=by simpa using hz
          have d2 : (cmpE X Y == 0) = false:=by simpa using hz
          clear hz
          generalize cmpE X Y = c at *
          go_wp2_with (first
            | (with_reducible refine rg ?_)
            | (with_reducible refine fo ?_)
            | (go_at_call 125;go_loud (refine Hcall.out.mono ?_);rintro e w6 ⟨rfl,hb6⟩;have Hb6:=zH (Hb.out.drew.step hb6);clear hb6))
          go_ret
          rw [Hcm.out,Hres.out]
          exact ⟨rfl,Hb6.out⟩
      · obtain rfl : k = la.length:=by omega
        have Hres:=zH (t3m (f:=cmpE) fun j h h2=>Hall.out j h h2 h)
        go_wp2
        go_ret
        rw [Hcm.out,Hres.out]
        exact ⟨rfl,Hb.out⟩
  · have ho : ordI (la.length : Int) (lb.length : Int) ≠ 0:=fun h=>hlen (by have:=t2k h;omega)
    have Hcm:=zH (show cmpL cmpE la lb = ordI (la.length : Int) (lb.length : Int) by unfold cmpL nz;rw [if_neg ho])
    have d1 : (ordI (la.length : Int) (lb.length : Int) != 0) = true:=by simpa using ho
    clear hlen ho
    generalize ordI (la.length : Int) (lb.length : Int) = c at *
    go_enter Tryz.func137,Tryz.ntmps137
    go_wp2_with (go_at_call 127;refine (Hlen.out _).mono ?_;rintro e w ⟨rfl,rfl⟩)
    go_ret
    rw [Hcm.out]
    exact ⟨rfl,Below.refl _ _⟩
set_option maxHeartbeats 16000000 in
theorem tgo (la lb : List ByteArray) (w : World) (u v : Value) (ha : SS w u la) (hb : SS w v lb) : Calls Tryz.prog 138 #[u,v,.func (.func 122) #[] #[]] w (IR (cmpL ordS la lb) w):=by
  have HA:=zH ha;have HB:=zH hb
  skip
  have hL : la.length ≤ 9223372036854775807:=by obtain ⟨_,_,_,h⟩:=ha;exact h.big
  obtain ⟨pa,ca,rfl,-⟩:=ha
  obtain ⟨pb,cb,rfl,-⟩:=hb
  have Hlen:=zH (t6t la.length lb.length)
  by_cases hlen : la.length = lb.length
  · have ho : ordI (la.length : Int) (lb.length : Int) = 0:=by rw [hlen];unfold ordI;simp
    have Hcm:=zH (show cmpL ordS la lb = lexL ordS la lb by unfold cmpL nz;rw [if_pos ho])
    rw [ho] at Hlen
    have Hle:=zH hlen
    clear ho hlen
    go_enter Tryz.func138,Tryz.ntmps138
    go_wp2_with (go_at_call 127;refine (Hlen.out _).mono ?_;rintro e w ⟨rfl,rfl⟩)
    go_loopw [20] (fun i wr=>∃ k : Nat,i = .int .i64 k ∧ k ≤ la.length ∧ (∀ j (h1 : j < la.length) (h2 : j < lb.length),j < k → ordS la[j] lb[j] = 0) ∧ Below w.heap.size w wr) (fun i _=>la.length - (intOf i).toNat)
    case atStart=>exact ⟨0,rfl,by omega,fun j _ _ h=>by omega,Below.refl _ _⟩
    case round =>
      obtain ⟨k,rfl,hk,hall,hb⟩:=hrel
      have Hall:=zH hall;have Hb:=zH hb;clear hall hb
      by_cases hka : k < la.length
      · have hkb : k < lb.length:=by have:=Hle.out;omega
        obtain ⟨py,cy,ey,hry⟩:=HA.out.below Hb.out
        injection ey with ey1 _ ey3
        subst ey1 ey3
        obtain ⟨ay,oy,rfl,haby,y0⟩:=hry.str hka
        clear hry
        obtain ⟨pz,cz,ez,hrz⟩:=HB.out.below Hb.out
        injection ez with ez1 _ ez3
        subst ez1 ez3
        obtain ⟨az,oz,rfl,habz,z0⟩:=hrz.str hkb
        clear hrz
        have Hcall:=zH (tai la[k] lb[k] wr.drew)
        have Hat:=zH (t4p (f:=ordS) hka hkb Hall.out)
        have Hnx:=zH (show ordS la[k] lb[k] = 0 → ∀ j (h1 : j < la.length) (h2 : j < lb.length),j < k + 1 → ordS la[j] lb[j] = 0 from fun g j h h2 hjk=>by
          rcases Nat.lt_succ_iff_lt_or_eq.1 hjk with g2 | rfl
          · exact Hall.out j h h2 g2
          · exact g)
        generalize la[k] = X at *
        generalize lb[k] = Y at *
        by_cases hz : ordS X Y = 0
        · have Hnx2:=zH (Hnx.out hz)
          rw [hz] at Hcall
          clear hz
          go_wp2_with (first
            | (with_reducible refine rg ?_)
            | (with_reducible refine fo ?_)
            | (go_at_call 122;go_loud (refine Hcall.out.mono ?_);rintro e w6 ⟨rfl,rfl⟩;have Hb6:=zH (Hb.out.drew)))
          exact ⟨⟨k + 1,by go_num,by omega,Hnx2.out,Hb6.out⟩,by simp [intOf];omega⟩
        · have Hres:=zH (Hat.out hz)
          have d1 : (ordS X Y != 0) = true:=by simpa using hz
          have d2 : (ordS X Y == 0) = false:=by simpa using hz
          clear hz
          generalize ordS X Y = c at *
          go_wp2_with (first
            | (with_reducible refine rg ?_)
            | (with_reducible refine fo ?_)
            | (go_at_call 122;go_loud (refine Hcall.out.mono ?_);rintro e w6 ⟨rfl,rfl⟩;have Hb6:=zH (Hb.out.drew)))
          go_ret
          rw [Hcm.out,Hres.out]
          exact ⟨rfl,Hb6.out⟩
      · obtain rfl : k = la.length:=by omega
        have Hres:=zH (t3m (f:=ordS) fun j h h2=>Hall.out j h h2 h)
        go_wp2
        go_ret
        rw [Hcm.out,Hres.out]
        exact ⟨rfl,Hb.out⟩
  · have ho : ordI (la.length : Int) (lb.length : Int) ≠ 0:=fun h=>hlen (by have:=t2k h;omega)
    have Hcm:=zH (show cmpL ordS la lb = ordI (la.length : Int) (lb.length : Int) by unfold cmpL nz;rw [if_neg ho])
    have d1 : (ordI (la.length : Int) (lb.length : Int) != 0) = true:=by simpa using ho
    clear hlen ho
    generalize ordI (la.length : Int) (lb.length : Int) = c at *
    go_enter Tryz.func138,Tryz.ntmps138
    go_wp2_with (go_at_call 127;refine (Hlen.out _).mono ?_;rintro e w ⟨rfl,rfl⟩)
    go_ret
    rw [Hcm.out]
    exact ⟨rfl,Below.refl _ _⟩
end Go.Proofs.YtjgldaaofdpcgaaGreat
