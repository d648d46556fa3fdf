/- Walks and plain facts for the laws of membership, for all values and types that the heap holds (texts Z1). -/
import Derived.Test.YtjgldaaofdpcgaaGreatW03
import Derived.Test.YtjgldaaofdpcgaaGreatW18
set_option linter.unusedVariables false
set_option linter.unusedSimpArgs false
namespace Go.Proofs.YtjgldaaofdpcgaaGreat
open Go.RowKit
set_option maxRecDepth 100000
theorem RC.take {w : World} {sz n k : Nat} {A : Option Addr} {cs : List Value} (h : RC w sz A n cs) (hk : k ≤ n) : RC w sz A k (cs.take (k * sz)):=by
  have h1:=h.1
  have hle : k * sz ≤ n * sz:=Nat.mul_le_mul_right _ hk
  refine ⟨by rw [List.length_take];omega,fun h0=>?_⟩
  obtain ⟨a,o,e1,e2,e3⟩:=h.2 (by omega)
  refine ⟨a,o,e1,e2,fun j u hu=>e3 j u ?_⟩
  rw [List.getElem?_take] at hu
  split at hu
  · exact hu
  · cases hu
theorem RC.drop {w : World} {sz n k a o : Nat} {cs : List Value} (h : RC w sz (some ⟨a,o,none⟩) n cs) (hk : k ≤ n) : RC w sz (some ⟨a,o + k * sz,none⟩) (n - k) (cs.drop (k * sz)):=by
  have h1:=h.1
  have hle : k * sz ≤ n * sz:=Nat.mul_le_mul_right _ hk
  refine ⟨by rw [List.length_drop,h1,Nat.sub_mul],fun h0=>?_⟩
  obtain ⟨a',o',e1,e2,e3⟩:=h.2 (by omega)
  injection e1 with e1
  injection e1 with e11 e12
  subst e11 e12
  refine ⟨a,o + k * sz,rfl,e2,fun j u hu=>?_⟩
  rw [List.getElem?_drop] at hu
  have:=e3 _ u hu
  rwa [← Nat.add_assoc] at this
theorem Ch.take {α : Type} {sz : Nat} {P : α → List Value → Prop} {L : List α} {cs : List Value} (h : Ch sz P L cs) {k : Nat} (hk : k ≤ L.length) : Ch sz P (L.take k) (cs.take (k * sz)):=by
  have h1:=h.1
  have hle : k * sz ≤ L.length * sz:=Nat.mul_le_mul_right _ hk
  refine ⟨by rw [List.length_take,List.length_take,Nat.min_eq_left hk,Nat.min_eq_left (by omega)],fun i hi=>?_⟩
  have hi' : i < k:=by rw [List.length_take] at hi;omega
  have h2:=h.2 i (by omega)
  have hle2 : (i + 1) * sz ≤ k * sz:=Nat.mul_le_mul_right _ hi'
  rw [Nat.add_mul,Nat.one_mul] at hle2
  rw [List.getElem_take,List.drop_take,List.take_take,Nat.min_eq_left (by omega)]
  exact h2
theorem Ch.drop {α : Type} {sz : Nat} {P : α → List Value → Prop} {L : List α} {cs : List Value} (h : Ch sz P L cs) {k : Nat} (hk : k ≤ L.length) : Ch sz P (L.drop k) (cs.drop (k * sz)):=by
  refine ⟨by rw [List.length_drop,List.length_drop,h.1,Nat.sub_mul],fun i hi=>?_⟩
  have hi' : k + i < L.length:=by rw [List.length_drop] at hi;omega
  have h2:=h.2 (k + i) hi'
  rw [List.getElem_drop,List.drop_drop]
  rw [Nat.add_mul] at h2
  exact h2
theorem tf4 {x : EE} : ∀ {l : List EE} {k : Nat} (hk : k < l.length),(∀ t (ht : t < l.length),t < k → cmpE l[t] x < 0) → cmpE l[k] x = 0 → insE x l = l
  | [],k,hk,_,_=>by simp at hk
  | y :: r,0,_,_,h0=>by
    have h0 : cmpE y x = 0:=h0
    unfold insE
    rw [if_neg (by omega),if_pos h0]
  | y :: r,k + 1,hk,h1,h0=>by
    unfold insE
    have g0 : cmpE y x < 0:=h1 0 (by simp) (by omega)
    rw [if_pos g0]
    congr 1
    exact tf4 (by simpa using hk) (fun t ht htk=>h1 (t + 1) (by simpa using ht) (by omega)) h0
theorem tbr {x : EE} : ∀ {l : List EE} {k : Nat},k ≤ l.length → (∀ t (ht : t < l.length),t < k → cmpE l[t] x < 0) → (∀ (hk : k < l.length),¬ cmpE l[k] x < 0 ∧ ¬ cmpE l[k] x = 0) → insE x l = l.take k ++ [x] ++ l.drop k
  | [],k,hk,_,_=>by simp [insE]
  | y :: r,0,_,_,h0=>by
    obtain ⟨h1,h2⟩:=h0 (by simp)
    simp at h1 h2
    unfold insE
    rw [if_neg (by omega),if_neg h2];simp
  | y :: r,k + 1,hk,h1,h0=>by
    unfold insE
    have g0 : cmpE y x < 0:=h1 0 (by simp) (by omega)
    rw [if_pos g0,tbr (k:=k) (by simpa using hk) (fun t ht htk=>h1 (t + 1) (by simpa using ht) (by omega)) (fun h=>h0 (by simpa using h))]
    simp
theorem tds (x : EE) : ∀ l : List EE,(insE x l).length ≤ l.length + 1
  | []=>by simp [insE]
  | y :: r=>by
    unfold insE
    split
    · have:=tds x r;simp;omega
    · split <;> simp
theorem tfs {l : List EE} {j : Nat} (h : j < l.length) : entsE (l.take (j + 1)) = insE l[j] (entsE (l.take j)):=by
  unfold entsE
  rw [List.take_succ_eq_append_getElem h,List.foldl_append];rfl
theorem tgy (l : List EE) : (entsE l).length ≤ l.length:=by
  have key : ∀ (l out : List EE),(l.foldl (fun out x=>insE x out) out).length ≤ out.length + l.length:=by
    intro l
    induction l with
    | nil=>intro out;simp
    | cons x r ih=>intro out;have:=ih (insE x out);have:=tds x out;simp only [List.foldl_cons,List.length_cons];omega
  have:=key l []
  simpa [entsE] using this
theorem t1s {B n : Nat} {w : World} {e : TypeId} {size : Nat} {v : Value} {xs : List Value} (h : w.ownsRow B e size v n xs) : w.drew.ownsRow B e size v n xs:=t0d h (Below.refl _ _).drew (Nat.le_refl _)
theorem t2j {B : Nat} {w w' : World} (h : Below B w w') : LexK.Ext (fun b=>b < B) w w':=⟨h.size,fun i _ hi=>h.block i hi⟩
set_option maxHeartbeats 32000000 in
theorem tel (E : Nat → Bool) (l : List EE) (w : World) (v : Value) (hE : Old E w.heap.size) (h : EY (we E w) v l) (hl : l.length ≤ 1000) : Calls Tryz.prog 35 #[v] w fun e w'=>∃ v' ,e = .returned v' ∧ EY (we E w') v' (entsE l) ∧ Below w.heap.size w w':=by
  have Hbw:=zH hE
  obtain ⟨d,p,c,rfl,hr⟩:=h
  have HR:=zH hr
  clear hr hE
  go_enter Tryz.func35,Tryz.ntmps35
  go_wp2
  go_loopw [3,4] (fun v i wr=>∃ (j : Nat) (O : List EE) (xs : List Value),j ≤ l.length ∧ i = .int .i64 j ∧ O = entsE (l.take j) ∧ wr.ownsRow w.heap.size 55 9 v O.length xs ∧ Ch 9 (ES (we E w) d) O xs ∧ Below w.heap.size w wr) (fun _ i _=>l.length - (intOf i).toNat)
  case atStart=>exact ⟨0,[],[],by omega,rfl,rfl,World.ownsRow_nil _ _ _ _,Ch.nil,Below.refl _ _⟩
  case round =>
    obtain ⟨j,O,xs,hj,rfl,hO,ho,hc,hbr⟩:=hrel
    have Ho:=zH ho;have Hc:=zH hc;have Hbr:=zH hbr;have HO:=zH hO
    have hol : O.length ≤ 1000:=by rw [hO];have:=tgy (l.take j);rw [List.length_take] at this;omega
    clear ho hc hbr hO
    by_cases hlt : j < l.length
    · have d9 : decide (j < l.length) = true:=by simp;omega
      obtain ⟨a,o,cs,rfl,hab,-,hrg,hX⟩:=HR.out.at hlt
      have hab : a < w.heap.size:=by rwa [t0j] at hab
      have Hax:=zH hab
      obtain ⟨x9,xa,x1,x2,x3,x4,x5,x6,x7,x8,rfl⟩:=hX.nine
      have HXb:=zH hX
      have HX:=zH (hX.sub (t3q E w))
      have c0:=(t1j (hrg 0 _ rfl)).2
      have c1:=(t1j (hrg 1 _ rfl)).2
      have c2:=(t1j (hrg 2 _ rfl)).2
      have c3:=(t1j (hrg 3 _ rfl)).2
      have c4:=(t1j (hrg 4 _ rfl)).2
      have c5:=(t1j (hrg 5 _ rfl)).2
      have c6:=(t1j (hrg 6 _ rfl)).2
      have c7:=(t1j (hrg 7 _ rfl)).2
      have c8:=(t1j (hrg 8 _ rfl)).2
      rw [Nat.add_zero] at c0
      have Hins:=zH (tfs hlt)
      rw [← HO.out] at Hins
      have Hlast:=zH hlt
      clear hrg hX
      generalize l[j] = x at *
      obtain ⟨q,cap1,rfl⟩:=t0r Ho.out
      have hcap1 : O.length ≤ cap1:=t5f Ho.out
      go_wp2
      go_loopw [5] (fun i wi=>∃ k : Nat,k ≤ O.length ∧ i = .int .i64 k ∧ (∀ t (ht : t < O.length),t < k → cmpE O[t] x < 0) ∧ wi.ownsRow w.heap.size 55 9 (.slice q O.length cap1) O.length xs ∧ Below w.heap.size w wi) (fun i _=>O.length - (intOf i).toNat)
      case atStart=>exact ⟨0,by omega,rfl,fun t _ h=>by omega,Ho.out,Hbr.out⟩
      case round =>
        obtain ⟨k,hk,rfl,hls,ho2,hb2⟩:=hrel
        have Ho2:=zH ho2;have Hb2:=zH hb2;have Hls:=zH hls
        clear ho2 hb2 hls
        have z0:=t0b Hb2.out c0
        have z1:=t0b Hb2.out c1
        have z2:=t0b Hb2.out c2
        have z3:=t0b Hb2.out c3
        have z4:=t0b Hb2.out c4
        have z5:=t0b Hb2.out c5
        have z6:=t0b Hb2.out c6
        have z7:=t0b Hb2.out c7
        have z8:=t0b Hb2.out c8
        by_cases hkl : k < O.length
        · have d8 : decide (k < O.length) = true:=by simp;omega
          obtain ⟨q',cap',eq',hrw⟩:=t1o Ho2.out Hc.out (by omega)
          injection eq' with eq1 _ eq3
          subst eq1 eq3
          obtain ⟨g,og,cs',rfl,hg,-,hrg',hY⟩:=hrw.at hkl
          obtain ⟨y9,ya,y1,y2,y3,y4,y5,y6,y7,y8,rfl⟩:=hY.nine
          have HY:=zH (hY.sub (t3q E w))
          have v0:=hrg' 0 _ rfl
          have v1:=hrg' 1 _ rfl
          have v2:=hrg' 2 _ rfl
          have v3:=hrg' 3 _ rfl
          have v4:=hrg' 4 _ rfl
          have v5:=hrg' 5 _ rfl
          have v6:=hrg' 6 _ rfl
          have v7:=hrg' 7 _ rfl
          have v8:=hrg' 8 _ rfl
          rw [Nat.add_zero] at v0
          have Hstep:=zH (show cmpE O[k] x < 0 → ∀ t (ht : t < O.length),t < k + 1 → cmpE O[t] x < 0 from fun h t ht htk=>by
            rcases Nat.lt_succ_iff_lt_or_eq.1 htk with g2 | rfl
            · exact Hls.out t ht g2
            · exact h)
          have Heq:=zH (fun h=>tf4 hkl Hls.out h)
          have Hat:=zH (fun (h1 : ¬ cmpE O[k] x < 0) (h2 : ¬ cmpE O[k] x = 0)=>tbr hk Hls.out (fun _=>⟨h1,h2⟩))
          clear hrw hrg' hY Hls
          generalize O[k] = y at *
          have Hcall:=zH (fun (w5 : World) (h : Below w.heap.size w w5)=>t5o y x w5 _ _ _ _ (HY.out.below h) (HX.out.below h))
          by_cases h1 : cmpE y x < 0
          · have Hst2:=zH (Hstep.out h1)
            have d1 : decide (cmpE y x < 0) = true:=by simp [h1]
            clear h1 Hstep Heq Hat
            generalize cmpE y x = cc at *
            go_wp2_with (first
              | (with_reducible refine rg ?_)
              | (with_reducible refine fo ?_)
              | (go_at_call 69;refine (Hcall.out _ Hb2.out.drew).mono ?_;rintro e w6 ⟨rfl,hb6⟩;have Ho6:=zH (t0d (t1s Ho2.out) hb6 (Nat.le_refl _));have Hb6:=zH (Hb2.out.drew.trans (hb6.mono Hb2.out.size));clear hb6))
            exact ⟨⟨k + 1,by omega,by go_num,Hst2.out,Ho6.out,Hb6.out⟩,by simp [intOf];omega⟩
          · have d1 : decide (cmpE y x < 0) = false:=by simp;omega
            by_cases h2 : cmpE y x = 0
            · have Hk2:=zH (Heq.out h2)
              have d2 : (cmpE y x == 0) = true:=by simp [h2]
              clear h1 h2 Hstep Heq Hat
              generalize cmpE y x = cc at *
              go_wp2_with (first
                | (with_reducible refine rg ?_)
                | (with_reducible refine fo ?_)
                | (go_at_call 69;refine (Hcall.out _ Hb2.out.drew).mono ?_;rintro e w6 ⟨rfl,hb6⟩;have Ho6:=zH (t0d (t1s Ho2.out) hb6 (Nat.le_refl _));have Hb6:=zH (Hb2.out.drew.trans (hb6.mono Hb2.out.size));have z0':=t0b hb6 z0;have v0':=t0b hb6 v0;have z1':=t0b hb6 z1;have v1':=t0b hb6 v1;have z2':=t0b hb6 z2;have v2':=t0b hb6 v2;have z3':=t0b hb6 z3;have v3':=t0b hb6 v3;have z4':=t0b hb6 z4;have v4':=t0b hb6 v4;have z5':=t0b hb6 z5;have v5':=t0b hb6 v5;have z6':=t0b hb6 z6;have v6':=t0b hb6 v6;have z7':=t0b hb6 z7;have v7':=t0b hb6 v7;have z8':=t0b hb6 z8;have v8':=t0b hb6 v8;clear hb6 z0 v0 z1 v1 z2 v2 z3 v3 z4 v4 z5 v5 z6 v6 z7 v7 z8 v8;have Hb2:=0)
                | (go_at_call 69;refine (Hcall.out _ Hb6.out.drew).mono ?_;rintro e w7 ⟨rfl,hb7⟩;have Ho7:=zH (t0d (t1s Ho6.out) hb7 (Nat.le_refl _));have Hb7:=zH (Hb6.out.drew.trans (hb7.mono Hb6.out.size));clear hb7))
              exact ⟨⟨j + 1,O,xs,by omega,by go_num,by rw [Hins.out,Hk2.out],Ho7.out,Hc.out,Hb7.out⟩,by simp [intOf];omega⟩
            · have Hres:=zH (Hat.out h1 h2)
              have d2 : (cmpE y x == 0) = false:=by simp [h2]
              clear h1 h2 Hstep Heq Hat
              generalize cmpE y x = cc at *
              go_upto_region 9 with (first
                | (with_reducible refine rg ?_)
                | (with_reducible refine fo ?_)
                | (go_at_call 69;refine (Hcall.out _ Hb2.out.drew).mono ?_;rintro e w6 ⟨rfl,hb6⟩;have Ho6:=zH (t0d (t1s Ho2.out) hb6 (Nat.le_refl _));have Hb6:=zH (Hb2.out.drew.trans (hb6.mono Hb2.out.size));have z0':=t0b hb6 z0;have v0':=t0b hb6 v0;have z1':=t0b hb6 z1;have v1':=t0b hb6 v1;have z2':=t0b hb6 z2;have v2':=t0b hb6 v2;have z3':=t0b hb6 z3;have v3':=t0b hb6 v3;have z4':=t0b hb6 z4;have v4':=t0b hb6 v4;have z5':=t0b hb6 z5;have v5':=t0b hb6 v5;have z6':=t0b hb6 z6;have v6':=t0b hb6 v6;have z7':=t0b hb6 z7;have v7':=t0b hb6 v7;have z8':=t0b hb6 z8;have v8':=t0b hb6 v8;clear hb6 z0 v0 z1 v1 z2 v2 z3 v3 z4 v4 z5 v5 z6 v6 z7 v7 z8 v8;have Hb2:=0)
                | (go_at_call 69;refine (Hcall.out _ Hb6.out.drew).mono ?_;rintro e wd ⟨rfl,hb7⟩;have Hod:=zH (t0d (t1s Ho6.out) hb7 (Nat.le_refl _));have Hbd:=zH (Hb6.out.drew.trans (hb7.mono Hb6.out.size));clear hb7))
              rw [← Hins.out] at Hres
              have Hrc:=zH (RC.of_own Hod.out)
              have Hone:=zH (Hc.out.cells fun _ _ h=>h.one)
              have HcT:=zH (Hc.out.take (k:=k) hk)
              have HcD:=zH (Hc.out.drop (k:=k) hk)
              have HoT:=zH (fun u hu=>Hone.out u (List.mem_of_mem_take (i:=k * 9) hu))
              have HoD:=zH (fun u hu=>Hone.out u (List.mem_of_mem_drop (i:=k * 9) hu))
              have HoX:=zH (HX.out.one)
              have Hlx:=zH (show xs.length = O.length * 9 from Hod.out.1)
              have Hsd:=zH Hbd.out.size
              have HrD:=zH (show RC wd 9 (some ⟨g,og + k * 9,none⟩) (O.length - k) (xs.drop (k * 9)) from Hrc.out.drop hk)
              have Q0:=zH (t0b Hbd.out c0)
              have Q1:=zH (t0b Hbd.out c1)
              have Q2:=zH (t0b Hbd.out c2)
              have Q3:=zH (t0b Hbd.out c3)
              have Q4:=zH (t0b Hbd.out c4)
              have Q5:=zH (t0b Hbd.out c5)
              have Q6:=zH (t0b Hbd.out c6)
              have Q7:=zH (t0b Hbd.out c7)
              have Q8:=zH (t0b Hbd.out c8)
              clear c0 c1 c2 c3 c4 c5 c6 c7 c8 d8
              go_wp2_with (first
                | ((with_reducible refine Lex.t0w ?_);refine fE (by repeat first | exact LexK.t0t | refine LexK.t0o rfl ?_ | refine LexK.t0p (by decide +kernel) ?_ | refine LexK.t0c rfl Hax.out Hn0.out ?_) ?_)
                | ((with_reducible refine Lex.t0q ?_);refine LexK.t0h (fun b=>b < w.heap.size) (by kernel_rfl) (by decide +kernel) ?_;have n0 : w3.drew.cell? ⟨a,o + j * 9,none⟩ = _:=(Hb3.out.cell (p:=⟨a,_,none⟩) (Nat.lt_of_lt_of_le Hax.out Hsd.out)).trans Q0.out;have n1 : w3.drew.cell? ⟨a,o + j * 9 + 1,none⟩ = _:=(Hb3.out.cell (p:=⟨a,_,none⟩) (Nat.lt_of_lt_of_le Hax.out Hsd.out)).trans Q1.out;have n2 : w3.drew.cell? ⟨a,o + j * 9 + 2,none⟩ = _:=(Hb3.out.cell (p:=⟨a,_,none⟩) (Nat.lt_of_lt_of_le Hax.out Hsd.out)).trans Q2.out;have n3 : w3.drew.cell? ⟨a,o + j * 9 + 3,none⟩ = _:=(Hb3.out.cell (p:=⟨a,_,none⟩) (Nat.lt_of_lt_of_le Hax.out Hsd.out)).trans Q3.out;have n4 : w3.drew.cell? ⟨a,o + j * 9 + 4,none⟩ = _:=(Hb3.out.cell (p:=⟨a,_,none⟩) (Nat.lt_of_lt_of_le Hax.out Hsd.out)).trans Q4.out;have n5 : w3.drew.cell? ⟨a,o + j * 9 + 5,none⟩ = _:=(Hb3.out.cell (p:=⟨a,_,none⟩) (Nat.lt_of_lt_of_le Hax.out Hsd.out)).trans Q5.out;have n6 : w3.drew.cell? ⟨a,o + j * 9 + 6,none⟩ = _:=(Hb3.out.cell (p:=⟨a,_,none⟩) (Nat.lt_of_lt_of_le Hax.out Hsd.out)).trans Q6.out;have n7 : w3.drew.cell? ⟨a,o + j * 9 + 7,none⟩ = _:=(Hb3.out.cell (p:=⟨a,_,none⟩) (Nat.lt_of_lt_of_le Hax.out Hsd.out)).trans Q7.out;have n8 : w3.drew.cell? ⟨a,o + j * 9 + 8,none⟩ = _:=(Hb3.out.cell (p:=⟨a,_,none⟩) (Nat.lt_of_lt_of_le Hax.out Hsd.out)).trans Q8.out;have Hn0:=zH n0)
                | (with_reducible first | refine qH ?_ | refine LexK.t0s ?_ | refine LexK.t0v ?_)
                | ((with_reducible refine Lex.t1b ?_);first
                    | with_reducible refine LexK.t0e hex5.out ?_
                    | refine LexK.t0e hex4.out ?_
                    | refine LexK.t0e (LexK.Ext.alloc _ _) ?_)
                | (at_builtin;first
                    | (refine t0x rfl (.const (.slice none 0 0)) (.tmp 49) 25 rfl 55 (by kernel_rfl) t3n rfl (by decide) (by decide) wd.heap.size wd (some ⟨g,og,none⟩) 0 k _ [] (xs.take (k * 9)) (Nat.le_refl _) (.slice none 0 0) rfl rfl (World.ownsRow_nil _ _ _ _) (Hrc.out.take hk) HoT.out (by omega) ?_;intro v3 w3 ho3 hf3;have Hb3:=zH (hf3.below (Nat.le_refl _) (by simp) (fun g hg=>by simp [Value.ownBlock] at hg));rw [Nat.zero_add,List.nil_append] at ho3;obtain ⟨p3,cap3,rfl⟩:=t0r ho3;have Ho3:=zH ho3;clear ho3 hf3)
                    | (refine t0n rfl (.tmp 51) (.tmp 56) 25 rfl 55 (by kernel_rfl) t3n rfl (by decide) (by decide) wd.heap.size _ w3.drew.heap.size [.slice x9 x.args.length xa,.bool x.fails,.int .i64 x.res.kind,.int .i64 x.res.num,.string x.res.text,.slice x1 x.res.kids.length x2,.slice x3 x.res.keys.length x4,.slice x5 x.res.ents.length x6,.slice x7 x.res.labels.length x8] (heap_alloc_new w3.drew _) (Nat.le_trans Hb3.out.size (by simp)) rfl HoX.out (.slice p3 k cap3) k (xs.take (k * 9)) rfl (t0d Ho3.out ((Below.refl _ _).drew.alloc (Nat.le_refl _) _) (Nat.le_refl _)) (by omega) rfl ?_;intro v4 w4 ho4 hf4;have Hb4:=zH ((Hb3.out.drew.alloc Hb3.out.size _).trans (hf4.below (Nat.le_trans Hb3.out.size (by simp)) (by simp) fun g hg=>(Ho3.out.lt g hg).1));have hex4:=zH (show LexK.Ext (fun b=>b < w.heap.size) (w3.drew.alloc (.cells #[.slice x9 x.args.length xa,.bool x.fails,.int .i64 x.res.kind,.int .i64 x.res.num,.string x.res.text,.slice x1 x.res.kids.length x2,.slice x3 x.res.keys.length x4,.slice x5 x.res.ents.length x6,.slice x7 x.res.labels.length x8] 55)) w4 from t2j (hf4.below (Nat.le_trans Hsd.out (Nat.le_trans Hb3.out.size (by simp))) (by simp) fun g hg=>Nat.le_trans Hsd.out (Ho3.out.lt g hg).1));obtain ⟨p4,cap4,rfl⟩:=t0r ho4;have Ho4:=zH ho4;clear ho4 hf4)
                    | (refine t0x rfl (.tmp 57) (.tmp 60) 25 rfl 55 (by kernel_rfl) t3n rfl (by decide) (by decide) wd.heap.size w4 (some ⟨g,og + k * 9,none⟩) (k + 1) (O.length - k) _ (xs.take (k * 9) ++ [.slice x9 x.args.length xa,.bool x.fails,.int .i64 x.res.kind,.int .i64 x.res.num,.string x.res.text,.slice x1 x.res.kids.length x2,.slice x3 x.res.keys.length x4,.slice x5 x.res.ents.length x6,.slice x7 x.res.labels.length x8]) (xs.drop (k * 9)) Hb4.out.size (.slice p4 (k + 1) cap4) rfl rfl Ho4.out (HrD.out.below Hb4.out) HoD.out (by omega) ?_;intro v5 w5 ho5 hf5;have Hb5:=zH (Hb4.out.trans (hf5.below Hb4.out.size (by simp) fun g hg=>(Ho4.out.lt g hg).1));have hex5:=zH (show LexK.Ext (fun b=>b < w.heap.size) w4 w5 from t2j (hf5.below (Nat.le_trans Hsd.out Hb4.out.size) (by simp) fun g hg=>Nat.le_trans Hsd.out (Ho4.out.lt g hg).1));have Ho5:=zH ho5;clear ho5 hf5)))
              have hlen : (O.take k ++ [x] ++ O.drop k).length = k + 1 + (O.length - k):=by rw [List.length_append,List.length_append,List.length_take,List.length_drop,List.length_singleton];omega
              refine ⟨⟨j + 1,O.take k ++ [x] ++ O.drop k,xs.take (k * 9) ++ [.slice x9 x.args.length xa,.bool x.fails,.int .i64 x.res.kind,.int .i64 x.res.num,.string x.res.text,.slice x1 x.res.kids.length x2,.slice x3 x.res.keys.length x4,.slice x5 x.res.ents.length x6,.slice x7 x.res.labels.length x8] ++ (xs.drop (k * 9)),by omega,by go_num,Hres.out.symm,by rw [hlen];exact t2c Ho5.out Hsd.out,?_,Hbd.out.trans (Hb5.out.mono Hsd.out)⟩,by simp [intOf];omega⟩
              exact (HcT.out.append (Ch.single rfl HXb.out)).append HcD.out
        · obtain rfl : k = O.length:=by omega
          have d8 : decide (O.length < O.length) = false:=by simp
          have Hres:=zH (tbr (Nat.le_refl _) Hls.out (fun h=>absurd h (Nat.lt_irrefl _)))
          clear Hls
          go_upto_region 9 with (first
            | (with_reducible refine rg ?_)
            | (with_reducible refine fo ?_))
          have Hod:=zH (t0d Ho2.out (Below.refl _ _).drew.drew (Nat.le_refl _))
          have Hbd:=zH Hb2.out.drew.drew
          clear z0 z1 z2 z3 z4 z5 z6 z7 z8 Ho2 Hb2
          generalize wr.drew.drew = wd at *
          rw [← Hins.out] at Hres
          have Hrc:=zH (RC.of_own Hod.out)
          have Hone:=zH (Hc.out.cells fun _ _ h=>h.one)
          have HcT:=zH (Hc.out.take (k:=O.length) (Nat.le_refl _))
          have HcD:=zH (Hc.out.drop (k:=O.length) (Nat.le_refl _))
          have HoT:=zH (fun u hu=>Hone.out u (List.mem_of_mem_take (i:=O.length * 9) hu))
          have HoD:=zH (fun u hu=>Hone.out u (List.mem_of_mem_drop (i:=O.length * 9) hu))
          have HoX:=zH (HX.out.one)
          have Hlx:=zH (show xs.length = O.length * 9 from Hod.out.1)
          have Hsd:=zH Hbd.out.size
          have Q0:=zH (t0b Hbd.out c0)
          have Q1:=zH (t0b Hbd.out c1)
          have Q2:=zH (t0b Hbd.out c2)
          have Q3:=zH (t0b Hbd.out c3)
          have Q4:=zH (t0b Hbd.out c4)
          have Q5:=zH (t0b Hbd.out c5)
          have Q6:=zH (t0b Hbd.out c6)
          have Q7:=zH (t0b Hbd.out c7)
          have Q8:=zH (t0b Hbd.out c8)
          clear c0 c1 c2 c3 c4 c5 c6 c7 c8 d8
          go_wp2_with (first
            | ((with_reducible refine Lex.t0w ?_);refine fE (by repeat first | exact LexK.t0t | refine LexK.t0o rfl ?_ | refine LexK.t0p (by decide +kernel) ?_ | refine LexK.t0c rfl Hax.out Hn0.out ?_) ?_)
            | ((with_reducible refine Lex.t0q ?_);refine LexK.t0h (fun b=>b < w.heap.size) (by kernel_rfl) (by decide +kernel) ?_;have n0 : w3.drew.cell? ⟨a,o + j * 9,none⟩ = _:=(Hb3.out.cell (p:=⟨a,_,none⟩) (Nat.lt_of_lt_of_le Hax.out Hsd.out)).trans Q0.out;have n1 : w3.drew.cell? ⟨a,o + j * 9 + 1,none⟩ = _:=(Hb3.out.cell (p:=⟨a,_,none⟩) (Nat.lt_of_lt_of_le Hax.out Hsd.out)).trans Q1.out;have n2 : w3.drew.cell? ⟨a,o + j * 9 + 2,none⟩ = _:=(Hb3.out.cell (p:=⟨a,_,none⟩) (Nat.lt_of_lt_of_le Hax.out Hsd.out)).trans Q2.out;have n3 : w3.drew.cell? ⟨a,o + j * 9 + 3,none⟩ = _:=(Hb3.out.cell (p:=⟨a,_,none⟩) (Nat.lt_of_lt_of_le Hax.out Hsd.out)).trans Q3.out;have n4 : w3.drew.cell? ⟨a,o + j * 9 + 4,none⟩ = _:=(Hb3.out.cell (p:=⟨a,_,none⟩) (Nat.lt_of_lt_of_le Hax.out Hsd.out)).trans Q4.out;have n5 : w3.drew.cell? ⟨a,o + j * 9 + 5,none⟩ = _:=(Hb3.out.cell (p:=⟨a,_,none⟩) (Nat.lt_of_lt_of_le Hax.out Hsd.out)).trans Q5.out;have n6 : w3.drew.cell? ⟨a,o + j * 9 + 6,none⟩ = _:=(Hb3.out.cell (p:=⟨a,_,none⟩) (Nat.lt_of_lt_of_le Hax.out Hsd.out)).trans Q6.out;have n7 : w3.drew.cell? ⟨a,o + j * 9 + 7,none⟩ = _:=(Hb3.out.cell (p:=⟨a,_,none⟩) (Nat.lt_of_lt_of_le Hax.out Hsd.out)).trans Q7.out;have n8 : w3.drew.cell? ⟨a,o + j * 9 + 8,none⟩ = _:=(Hb3.out.cell (p:=⟨a,_,none⟩) (Nat.lt_of_lt_of_le Hax.out Hsd.out)).trans Q8.out;have Hn0:=zH n0)
            | (with_reducible first | refine qH ?_ | refine LexK.t0s ?_ | refine LexK.t0v ?_)
            | ((with_reducible refine Lex.t1b ?_);first
                | with_reducible refine LexK.t0e hex5.out ?_
                | refine LexK.t0e hex4.out ?_
                | refine LexK.t0e (LexK.Ext.alloc _ _) ?_)
            | (at_builtin;first
                | (refine t0x rfl (.const (.slice none 0 0)) (.tmp 49) 25 rfl 55 (by kernel_rfl) t3n rfl (by decide) (by decide) wd.heap.size wd q 0 O.length _ [] (xs.take (O.length * 9)) (Nat.le_refl _) (.slice none 0 0) rfl rfl (World.ownsRow_nil _ _ _ _) (Hrc.out.take (Nat.le_refl _)) HoT.out (by omega) ?_;intro v3 w3 ho3 hf3;have Hb3:=zH (hf3.below (Nat.le_refl _) (by simp) (fun g hg=>by simp [Value.ownBlock] at hg));rw [Nat.zero_add,List.nil_append] at ho3;obtain ⟨p3,cap3,rfl⟩:=t0r ho3;have Ho3:=zH ho3;clear ho3 hf3)
                | (refine t0n rfl (.tmp 51) (.tmp 56) 25 rfl 55 (by kernel_rfl) t3n rfl (by decide) (by decide) wd.heap.size _ w3.drew.heap.size [.slice x9 x.args.length xa,.bool x.fails,.int .i64 x.res.kind,.int .i64 x.res.num,.string x.res.text,.slice x1 x.res.kids.length x2,.slice x3 x.res.keys.length x4,.slice x5 x.res.ents.length x6,.slice x7 x.res.labels.length x8] (heap_alloc_new w3.drew _) (Nat.le_trans Hb3.out.size (by simp)) rfl HoX.out (.slice p3 O.length cap3) O.length (xs.take (O.length * 9)) rfl (t0d Ho3.out ((Below.refl _ _).drew.alloc (Nat.le_refl _) _) (Nat.le_refl _)) (by omega) rfl ?_;intro v4 w4 ho4 hf4;have Hb4:=zH ((Hb3.out.drew.alloc Hb3.out.size _).trans (hf4.below (Nat.le_trans Hb3.out.size (by simp)) (by simp) fun g hg=>(Ho3.out.lt g hg).1));have hex4:=zH (show LexK.Ext (fun b=>b < w.heap.size) (w3.drew.alloc (.cells #[.slice x9 x.args.length xa,.bool x.fails,.int .i64 x.res.kind,.int .i64 x.res.num,.string x.res.text,.slice x1 x.res.kids.length x2,.slice x3 x.res.keys.length x4,.slice x5 x.res.ents.length x6,.slice x7 x.res.labels.length x8] 55)) w4 from t2j (hf4.below (Nat.le_trans Hsd.out (Nat.le_trans Hb3.out.size (by simp))) (by simp) fun g hg=>Nat.le_trans Hsd.out (Ho3.out.lt g hg).1));obtain ⟨p4,cap4,rfl⟩:=t0r ho4;have Ho4:=zH ho4;clear ho4 hf4)
                | (refine t0x rfl (.tmp 57) (.tmp 60) 25 rfl 55 (by kernel_rfl) t3n rfl (by decide) (by decide) wd.heap.size w4 _ (O.length + 1) 0 _ (xs.take (O.length * 9) ++ [.slice x9 x.args.length xa,.bool x.fails,.int .i64 x.res.kind,.int .i64 x.res.num,.string x.res.text,.slice x1 x.res.kids.length x2,.slice x3 x.res.keys.length x4,.slice x5 x.res.ents.length x6,.slice x7 x.res.labels.length x8]) [] Hb4.out.size (.slice p4 (O.length + 1) cap4) rfl rfl Ho4.out (RC.nil _ _ _) (by simp) (by omega) ?_;intro v5 w5 ho5 hf5;have Hb5:=zH (Hb4.out.trans (hf5.below Hb4.out.size (by simp) fun g hg=>(Ho4.out.lt g hg).1));have hex5:=zH (show LexK.Ext (fun b=>b < w.heap.size) w4 w5 from t2j (hf5.below (Nat.le_trans Hsd.out Hb4.out.size) (by simp) fun g hg=>Nat.le_trans Hsd.out (Ho4.out.lt g hg).1));have Ho5:=zH ho5;clear ho5 hf5)))
          have hlen : (O.take O.length ++ [x] ++ O.drop O.length).length = O.length + 1 + 0:=by rw [List.length_append,List.length_append,List.length_take,List.length_drop,List.length_singleton];omega
          refine ⟨⟨j + 1,O.take O.length ++ [x] ++ O.drop O.length,xs.take (O.length * 9) ++ [.slice x9 x.args.length xa,.bool x.fails,.int .i64 x.res.kind,.int .i64 x.res.num,.string x.res.text,.slice x1 x.res.kids.length x2,.slice x3 x.res.keys.length x4,.slice x5 x.res.ents.length x6,.slice x7 x.res.labels.length x8] ++ [],by omega,by go_num,Hres.out.symm,by rw [hlen];exact t2c Ho5.out Hsd.out,?_,Hbd.out.trans (Hb5.out.mono Hsd.out)⟩,by simp [intOf];omega⟩
          have hz:=HcD.out
          have ez : xs.drop (O.length * 9) = []:=List.drop_eq_nil_of_le (by rw [Hlx.out];exact Nat.le_refl _)
          rw [ez] at hz
          exact (HcT.out.append (Ch.single rfl HXb.out)).append hz
    · obtain rfl : j = l.length:=by omega
      have d9 : decide (l.length < l.length) = false:=by simp
      rw [List.take_length] at HO
      go_wp2
      go_ret
      obtain ⟨pz,cz,e7,hrw⟩:=t1o (t1q Ho.out Hbw.out) Hc.out (by omega)
      refine ⟨_,rfl,?_,Hbr.out⟩
      rw [← HO.out]
      exact ⟨d,pz,cz,e7,hrw.mono fun x cs _ h=>h.below (by rw [t0j];exact t1l Hbr.out)⟩
end Go.Proofs.YtjgldaaofdpcgaaGreat
